/- The law on TreesValid holds for all arguments: the program tells what the reference tells, and leaves its argument as it was.
Conditions: none. -/
import Derived.Test.YtbjkjoicecmmpaaXFnExactTreesValidx4
import Derived.Test.YtbjkjoicecmmpaaXLib2
namespace Go.Proofs.Ytbjkjoicecmmpaa.Pure
open Go.RowKit Go.Proofs.Ytbjkjoicecmmpaa.XFnExactTreesValid Go.Proofs.YtbjkjoicecmmpaaW.PrintWords Go.Proofs.YtbjkjoicecmmpaaW.PrintLast Go.Proofs.YtbjkjoicecmmpaaW.PrintMore Go.Proofs.YtbjkjoicecmmpaaX
set_option linter.unusedVariables false
set_option linter.unusedSimpArgs false

theorem rdT103_nat (xs : List S103) (i : Nat) : rd_T103 xs (i : Int) = xs.getD i z103 := by
  unfold rd_T103
  simp

theorem rdT101_nat (xs : List S101) (i : Nat) : rd_T101 xs (i : Int) = xs.getD i z101 := by
  unfold rd_T101
  simp

theorem szTreeS_f {l : List S103} {a : Int} (h0 : 0 ≤ a) (h1 : a ≤ 1048576) (hl : l.length ≤ 9223372036854775807) : laws_szTreeS.f l a = some (if a - (l.length : Int) < 0 then -1 else a - (l.length : Int)) := by
  unfold laws_szTreeS.f
  rw [wrap_id (by omega) (by omega)]
  by_cases h : a - (l.length : Int) < 0
  · rw [if_pos h, if_pos h]
  · rw [if_neg h, if_neg h]

theorem l1In_f (n a b : Int) : spec_l1In.f n a b = some (inB a b n) := by
  unfold spec_l1In.f inB
  by_cases h : n ≥ a
  · rw [if_pos h]; congr 1; simp; omega
  · rw [if_neg h, decide_eq_false (by omega)]

def treeOK (op n a b ahead facts : Int) : Bool :=
  if op = 0 then decide (n = 0 ∧ a = 0 ∧ b = 0)
  else if op = 1 then inB 0 (wrap64 (facts - 1)) n && decide (a = 0 ∧ b = 0)
  else inB 2 10 op && decide (n = 0) && (inB 0 (wrap64 (ahead - 1)) a && (inB 0 (wrap64 (ahead - 1)) b && (decide (a = b) || !decide (op = 2 ∨ op = 5 ∨ op = 7 ∨ op = 8 ∨ op = 10))))

theorem spec_l24Step_f (op n a b ahead facts : Int) : spec_l24Step.f op n a b ahead facts = some (treeOK op n a b ahead facts) := by
  unfold spec_l24Step.f treeOK
  by_cases h0 : op = 0
  · rw [if_pos h0, if_pos h0]
    by_cases h1 : n = 0
    · by_cases h2 : a = 0
      · rw [if_pos h1, if_pos h2]
        simp [h1, h2]
        by_cases h3 : b = 0 <;> simp [h3]
      · rw [if_pos h1, if_neg h2]
        simp [h2]
    · rw [if_neg h1]
      simp [h1]
  · rw [if_neg h0, if_neg h0]
    by_cases h1 : op = 1
    · rw [if_pos h1, if_pos h1, l1In_f]
      simp only [Option.bind_some]
      cases inB 0 (wrap64 (facts - 1)) n
      · simp
      · by_cases h2 : a = 0
        · rw [if_pos rfl, if_pos h2]
          simp [h2]
          by_cases h3 : b = 0 <;> simp [h3]
        · rw [if_pos rfl, if_neg h2]
          simp [h2]
    · rw [if_neg h1, if_neg h1, l1In_f]
      simp only [Option.bind_some, l1In_f]
      cases inB 2 10 op
      · simp
      · by_cases h2 : n = 0
        · rw [if_pos rfl, if_pos h2, decide_eq_true h2]
          simp only [Bool.true_and]
          cases inB 0 (wrap64 (ahead - 1)) a
          · simp
          · cases inB 0 (wrap64 (ahead - 1)) b
            · simp
            · simp only [if_true, Bool.true_and, spec_l24One.f]
              by_cases h3 : op = 2 ∨ op = 5 ∨ op = 7 ∨ op = 8 ∨ op = 10
              · rw [decide_eq_true h3]
                rcases h3 with rfl | rfl | rfl | rfl | rfl
                all_goals
                  simp
                  by_cases h4 : a = b
                  · simp [h4]
                  · simp [h4, Ne.symm h4]
              · rw [decide_eq_false h3]
                simp only [not_or] at h3
                simp [h3]
        · rw [if_pos rfl, if_neg h2, decide_eq_false h2]
          simp
def treesOK (l : List S101) (facts : Int) : Bool := inB 0 4 facts && inB 1 24 (l.length : Int) && decide (∀ j, j < l.length → treeOK (l.getD j z101).f0 (l.getD j z101).f1 (l.getD j z101).f2 (l.getD j z101).f3 (j : Int) facts = true)
theorem spec_TreesValid_f {k : Nat} {l : List S101} {a : Int} (hk : l.length + 2 < k) (hm : l.length ≤ 35184372088832) : spec_TreesValid.f k l a = some (treesOK l a) := by
  unfold spec_TreesValid.f treesOK
  rw [l1In_f]
  simp only [Option.bind_some, l1In_f]
  obtain ⟨k, rfl⟩ : ∃ m, k = m + 1 := ⟨k - 1, by omega⟩
  cases inB 0 4 a
  · simp [spec_TreesValid.j0]
  · simp only [if_true, Bool.true_and]
    cases inB 1 24 (l.length : Int)
    · simp [spec_TreesValid.j0]
    · simp only [Bool.not_true, Bool.true_and, spec_TreesValid.j0, Bool.false_eq_true, if_false]
      refine (run_all (fun k i => spec_TreesValid.l0 k l a (i : Int)) l.length (fun j => treeOK (l.getD j z101).f0 (l.getD j z101).f1 (l.getD j z101).f2 (l.getD j z101).f3 (j : Int) a) true false ?_ ?_ k (by omega)).trans ?_
      · intro k i hi
        simp only [spec_TreesValid.l0]
        rw [if_pos (by omega), if_pos (by omega), wrap_id (x := (i : Int) + 1) (by omega) (by omega)]
        simp only [rdT101_nat, spec_l24Step_f, Option.bind_some]
        rfl
      · intro k
        simp only [spec_TreesValid.l0]
        rw [if_neg (by omega)]
      · by_cases h : ∀ j, j < l.length → treeOK (l.getD j z101).f0 (l.getD j z101).f1 (l.getD j z101).f2 (l.getD j z101).f3 (j : Int) a = true
        · rw [if_pos h, decide_eq_true h]
        · rw [if_neg h, decide_eq_false h]

def cTree (x : S103) : S101 := ⟨x.f0, x.f1, x.f2, x.f3⟩
theorem toTreeS_f {k : Nat} {l : List S103} (hk : l.length < k) (hm : l.length ≤ 8796093022208) : laws_toTreeS.f k l = some (l.map cTree) := by
  unfold laws_toTreeS.f
  rw [if_pos (by omega), if_pos (by omega)]
  refine run_inv (fun k (s : List S101) i => laws_toTreeS.l0 k l s (i : Int)) l.length (fun i s => s.length = l.length ∧ ∀ j, j < i → s.getD j z101 = (l.map cTree).getD j z101) _ ?_ ?_ k 0 _ (Nat.zero_le _) (by omega) ⟨by simp, fun j hj => absurd hj (Nat.not_lt_zero j)⟩
  · intro k i s hi ⟨hl, hs⟩
    refine Or.inr ⟨s.set i (cTree (l.getD i z103)), ?_, by simpa using hl, fun j hj => ?_⟩
    · simp only [laws_toTreeS.l0]
      rw [if_pos (by omega), if_pos (by omega)]
      simp only [laws_toTree.f, Option.bind_some, rdT103_nat]
      rw [if_pos (by omega), wrap_id (by omega) (by omega)]
      rfl
    · rw [getD_set _ _ _ _ _ (by omega)]
      by_cases e : j = i
      · rw [if_pos e, e]
        simp [List.getD_eq_getElem?_getD, hi]
      · rw [if_neg e]
        exact hs j (by omega)
  · intro k s ⟨hl, hs⟩
    simp only [laws_toTreeS.l0]
    rw [if_neg (by omega), ext_getD (d := z101) (s := s) (l := l.map cTree) (by simpa using hl) (fun j hj => hs j (by simpa using hj))]

theorem in_f (n a b : Int) : impl_in.f n a b = some (inB a b n) := by
  unfold impl_in.f inB
  by_cases h : n ≥ a
  · rw [if_pos h]; congr 1; simp; omega
  · rw [if_neg h, decide_eq_false (by omega)]

theorem treeParts_f {k : Nat} (op : Int) (hk : 1 ≤ k) : impl_treeParts.f k op = some (if op = 3 ∨ op = 4 ∨ op = 6 ∨ op = 9 then 2 else if op = 0 ∨ op = 1 then 0 else 1) := by
  unfold impl_treeParts.f
  obtain ⟨k, rfl⟩ : ∃ m, k = m + 1 := ⟨k - 1, by omega⟩
  simp only [impl_treeParts.j0]
  by_cases h3 : op = 3
  · simp [h3]
  · by_cases h4 : op = 4
    · simp [h4]
    · by_cases h6 : op = 6
      · simp [h6]
      · by_cases h9 : op = 9
        · simp [h9]
        · by_cases h0 : op = 0
          · simp [h0]
          · by_cases h1 : op = 1
            · simp [h1]
            · simp [h3, h4, h6, h9, h0, h1]
theorem impl_TreesValid_f {k : Nat} {l : List S101} {a : Int} (hk : l.length + 3 < k) (hm : l.length ≤ 35184372088832) : impl_TreesValid.f k l a = some (treesOK l a) := by
  unfold impl_TreesValid.f treesOK
  rw [in_f]
  simp only [Option.bind_some, in_f]
  obtain ⟨k, rfl⟩ : ∃ m, k = m + 1 := ⟨k - 1, by omega⟩
  cases inB 0 4 a
  · simp [impl_TreesValid.j0]
  · simp only [if_true, Bool.true_and]
    cases inB 1 24 (l.length : Int)
    · simp [impl_TreesValid.j0]
    · simp only [Bool.not_true, Bool.true_and, impl_TreesValid.j0, Bool.false_eq_true, if_false]
      refine (run_allB 1 (fun k i => impl_TreesValid.l0 k a l (l.length : Int) (i : Int)) l.length (fun j => treeOK (l.getD j z101).f0 (l.getD j z101).f1 (l.getD j z101).f2 (l.getD j z101).f3 (j : Int) a) true false ?_ ?_ k (by omega)).trans ?_
      · intro k i hk1 hi
        simp only [impl_TreesValid.l0]
        rw [if_pos (show (i : Int) < (l.length : Int) by omega), if_pos (show (0 : Int) ≤ (i : Int) by omega), if_pos (show (i : Int) < (l.length : Int) by omega), wrap_id (x := (i : Int) + 1) (by omega) (by omega)]
        simp only [rdT101_nat, in_f, Option.bind_some]
        generalize l.getD i z101 = x
        obtain ⟨op, n, p, q⟩ := x
        simp only [treeOK, treeParts_f op hk1, Option.bind_some]
        rw [show ((i + 1 : Nat) : Int) = (i : Int) + 1 from rfl]
        generalize impl_TreesValid.l0 k a l (l.length : Int) ((i : Int) + 1) = G
        by_cases h0 : op = 0
        · rw [if_pos h0, if_pos h0]
          subst h0
          by_cases h1 : n = 0 <;> by_cases h2 : p = 0 <;> by_cases h3 : q = 0 <;> simp [h1, h2, h3]
        · rw [if_neg h0, if_neg h0]
          by_cases h1 : op = 1
          · rw [if_pos h1, if_pos h1]
            cases inB 0 (wrap64 (a - 1)) n
            · simp
            · by_cases h2 : p = 0 <;> by_cases h3 : q = 0 <;> simp [h2, h3]
          · rw [if_neg h1, if_neg h1]
            have e : inB 0 10 op = inB 2 10 op := decide_eq_decide.2 (by omega)
            rw [e]
            cases hin : inB 2 10 op
            · simp
            · have hr := of_decide_eq_true hin
              by_cases h2 : n = 0
              · cases inB 0 (wrap64 ((i : Int) - 1)) p
                · simp [h2]
                · cases inB 0 (wrap64 ((i : Int) - 1)) q
                  · simp [h2]
                  · by_cases h3 : p = q
                    · simp [h2, h3]
                    · by_cases h4 : op = 3 ∨ op = 4 ∨ op = 6 ∨ op = 9
                      · have h5 : ¬ (op = 2 ∨ op = 5 ∨ op = 7 ∨ op = 8 ∨ op = 10) := by omega
                        rw [if_pos h4, decide_eq_false h5]
                        simp [h2, h3]
                      · have h5 : op = 2 ∨ op = 5 ∨ op = 7 ∨ op = 8 ∨ op = 10 := by omega
                        have h6 : ¬ (op = 0 ∨ op = 1) := by omega
                        rw [if_neg h4, if_neg h6, decide_eq_true h5]
                        simp [h2, h3]
              · simp [h2]
      · intro k _
        simp only [impl_TreesValid.l0]
        rw [if_neg (by omega)]
      · by_cases h : ∀ j, j < l.length → treeOK (l.getD j z101).f0 (l.getD j z101).f1 (l.getD j z101).f2 (l.getD j z101).f3 (j : Int) a = true
        · rw [if_pos h, decide_eq_true h]
        · rw [if_neg h, decide_eq_false h]

theorem eqTreeS_f {k : Nat} {l : List S101} (hk : l.length < k) (hm : l.length ≤ 35184372088832) : laws_eqTreeS.f k l l = some true := by
  unfold laws_eqTreeS.f
  rw [if_pos rfl]
  refine run_inv (fun k (_ : Unit) i => laws_eqTreeS.l0 k l l (i : Int)) l.length (fun _ _ => True) _ ?_ ?_ k 0 () (Nat.zero_le _) (by omega) trivial
  · intro k i _ hi _
    refine Or.inr ⟨(), ?_, trivial⟩
    simp only [laws_eqTreeS.l0]
    rw [if_pos (by omega), if_pos (by omega), if_pos (by omega), wrap_id (by omega) (by omega)]
    simp only [laws_eqTree.f, if_true, Option.bind_some]
    rfl
  · intro k _ _
    simp only [laws_eqTreeS.l0]
    rw [if_neg (by omega)]

theorem FnExactTreesValid : laws_FnExactTreesValid.Pure := by
  intro l a hl hw ha
  refine ⟨l.length + 100, ?_⟩
  unfold laws_FnExactTreesValid.f
  rw [szTreeS_f (by omega) (by omega) hl]
  simp only [Option.bind_some]
  by_cases h : 1048576 - (l.length : Int) < 0
  · rw [if_pos h]
    rfl
  · simp only [if_neg h]
    rw [toTreeS_f (by omega) (by omega)]
    simp only [Option.bind_some]
    rw [spec_TreesValid_f (by simp) (by simp <;> omega), impl_TreesValid_f (by simp) (by simp <;> omega)]
    simp only [Option.bind_some]
    rw [eqTreeS_f (by simp <;> omega) (by simp <;> omega)]
    simp

end Go.Proofs.Ytbjkjoicecmmpaa.Pure
