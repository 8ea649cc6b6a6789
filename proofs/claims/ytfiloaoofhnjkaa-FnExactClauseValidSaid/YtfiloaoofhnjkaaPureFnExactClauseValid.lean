/- The law on ClauseValid holds for all arguments: the program tells what the reference tells, and leaves its argument as it was.
Conditions: none. -/
import Derived.Test.YtfiloaoofhnjkaaXFnExactClauseValidx2
import Derived.Test.YtfiloaoofhnjkaaXLib2
namespace Go.Proofs.Ytfiloaoofhnjkaa.Pure
open Go.RowKit Go.Proofs.Ytfiloaoofhnjkaa.XFnExactClauseValid Go.Proofs.YtfiloaoofhnjkaaW.PrintWords Go.Proofs.YtfiloaoofhnjkaaW.PrintLast Go.Proofs.YtfiloaoofhnjkaaW.PrintMore Go.Proofs.YtfiloaoofhnjkaaX
set_option linter.unusedVariables false
set_option linter.unusedSimpArgs false

theorem toIntS_f {k : Nat} {l : List Int} (hk : l.length < k) (hm : l.length ≤ 35184372088832) : laws_toIntS.f k l = some l := by
  unfold laws_toIntS.f
  rw [if_pos (by omega), if_pos (by omega)]
  refine run_inv (fun k (s : List Int) i => laws_toIntS.l0 k l s (i : Int)) l.length (fun i s => s.length = l.length ∧ ∀ j, j < i → s.getD j 0 = l.getD j 0) l ?_ ?_ k 0 _ (Nat.zero_le _) (by omega) ⟨by simp, fun j hj => absurd hj (Nat.not_lt_zero j)⟩
  · intro k i s hi ⟨hl, hs⟩
    refine Or.inr ⟨s.set i (l.getD i 0), ?_, by simpa using hl, fun j hj => ?_⟩
    · simp only [laws_toIntS.l0]
      rw [if_pos (by omega), if_pos (by omega), if_pos (by omega), wrap_id (by omega) (by omega), rd_nat]
      rfl
    · rw [getD_set _ _ _ _ _ (by omega)]
      by_cases e : j = i
      · rw [if_pos e, e]
      · rw [if_neg e]
        exact hs j (by omega)
  · intro k s ⟨hl, hs⟩
    simp only [laws_toIntS.l0]
    rw [if_neg (by omega), ext_getD hl hs]

theorem eqIntS_f {k : Nat} {a b : List Int} (hk : a.length < k) (hm : a.length ≤ 35184372088832) : laws_eqIntS.f k a b = some (decide (a = b)) := by
  unfold laws_eqIntS.f
  by_cases hab : a.length = b.length
  · rw [if_pos (by omega)]
    refine run_inv (fun k (_ : Unit) i => laws_eqIntS.l0 k a b (i : Int)) a.length (fun i _ => ∀ j, j < i → a.getD j 0 = b.getD j 0) _ ?_ ?_ k 0 () (Nat.zero_le _) (by omega) (fun j hj => absurd hj (Nat.not_lt_zero j))
    · intro k i _ hi hs
      by_cases e : a.getD i 0 = b.getD i 0
      · refine Or.inr ⟨(), ?_, fun j hj => ?_⟩
        · simp only [laws_eqIntS.l0]
          rw [if_pos (by omega), if_pos (by omega), if_pos (by omega), rd_nat, rd_nat, if_pos e, wrap_id (by omega) (by omega)]
          rfl
        · by_cases e2 : j = i
          · rw [e2]; exact e
          · exact hs j (by omega)
      · refine Or.inl ?_
        simp only [laws_eqIntS.l0]
        rw [if_pos (by omega), if_pos (by omega), if_pos (by omega), rd_nat, rd_nat, if_neg e, decide_eq_false (fun h => e (by rw [h]))]
    · intro k _ hs
      simp only [laws_eqIntS.l0]
      rw [if_neg (by omega), decide_eq_true (ext_getD hab (fun j hj => hs j (by omega)))]
  · rw [if_neg (by omega), decide_eq_false (fun h => hab (by rw [h]))]

theorem l1In_f (n a b : Int) : spec_l1In.f n a b = some (inB a b n) := by
  unfold spec_l1In.f inB
  by_cases h : n ≥ a
  · rw [if_pos h]; congr 1; simp; omega
  · rw [if_neg h, decide_eq_false (by omega)]

theorem in_f (n a b : Int) : impl_in.f n a b = some (inB a b n) := by
  unfold impl_in.f inB
  by_cases h : n ≥ a
  · rw [if_pos h]; congr 1; simp; omega
  · rw [if_neg h, decide_eq_false (by omega)]

def absW (x : Int) : Int := if x < 0 then wrap64 (-x) else x
def okC (l : List Int) (a : Int) (i : Nat) : Bool := inB (-a) a (l.getD i 0) && !decide (l.getD i 0 = 0) && (decide (i = 0) || decide (absW (l.getD (i - 1) 0) < absW (l.getD i 0)))
theorem l11Abs_f (x : Int) : spec_l11Abs.f x = some (absW x) := by
  unfold spec_l11Abs.f absW
  by_cases h : x < 0
  · rw [if_pos h, if_pos h]
  · rw [if_neg h, if_neg h]
theorem atomOf_f {x : Int} (hx : (Lit.int .i64 x).wf = true) : impl_atomOf.f x = some (absW x) := by
  have hx := wf_iff.1 hx
  unfold impl_atomOf.f absW
  by_cases e : x = -9223372036854775808
  · have ew : wrap64 (-x) = -9223372036854775808 := by rw [e]; unfold wrap64; omega
    rw [ew, mx_eq, if_pos (by omega)]
    congr 1
    omega
  · rw [wrap_id (by omega) (by omega), mx_eq]
    by_cases h : x < 0
    · rw [if_pos h]; congr 1; omega
    · rw [if_neg h]; congr 1; omega
/-- The reference's loop, whatever the number of atoms. -/
theorem spec_scan {k : Nat} {l : List Int} {a : Int} (hk : l.length < k) (hm : l.length ≤ 35184372088832) : ∃ b, spec_ClauseValid.f k l a = some (b && inB 0 700 a) ∧ (0 ≤ a ∧ a ≤ 700 → b = decide (∀ j, j < l.length → okC l a j = true)) := by
  by_cases ha : 0 ≤ a ∧ a ≤ 700
  · have hin : inB 0 700 a = true := decide_eq_true ha
    refine ⟨decide (∀ j, j < l.length → okC l a j = true), ?_, fun _ => rfl⟩
    unfold spec_ClauseValid.f
    refine (run_all (fun k i => spec_ClauseValid.l0 k l a (i : Int)) l.length (okC l a) true false ?_ ?_ k hk).trans ?_
    · intro k i hi
      simp only [spec_ClauseValid.l0]
      rw [if_pos (by omega), if_pos (by omega)]
      unfold spec_l11Lit.f
      simp only [rd_nat]
      unfold okC
      by_cases h0 : l.getD i 0 = 0
      · rw [if_pos h0, decide_eq_true h0]
        simp
      · rw [if_neg h0, l1In_f, wrap_id (x := -a) (by omega) (by omega), decide_eq_false h0]
        simp only [Option.bind_some, Bool.not_false, Bool.and_true]
        cases hb : inB (-a) a (l.getD i 0)
        · simp
        · simp only [if_true, Bool.true_and]
          by_cases hi0 : i = 0
          · subst hi0
            rw [if_neg (by omega), wrap_id (by omega) (by omega)]
            simp
          · have e1 : wrap64 ((i : Int) - 1) = ((i - 1 : Nat) : Int) := by rw [wrap_id (by omega) (by omega)]; omega
            rw [if_pos (show (i : Int) > 0 by omega), e1]
            simp only [rd_nat, l11Abs_f, Option.bind_some]
            rw [if_pos (show (0 : Int) ≤ ((i - 1 : Nat) : Int) by omega), if_pos (show ((i - 1 : Nat) : Int) < (l.length : Int) by omega), wrap_id (x := (i : Int) + 1) (by omega) (by omega)]
            by_cases hlt : absW (l.getD i 0) ≤ absW (l.getD (i - 1) 0)
            · rw [if_pos hlt, decide_eq_false hi0, decide_eq_false (by omega)]
              simp
            · rw [if_neg hlt, decide_eq_false hi0, decide_eq_true (show absW (l.getD (i - 1) 0) < absW (l.getD i 0) by omega)]
              simp
    · intro k
      simp only [spec_ClauseValid.l0]
      rw [if_neg (by omega), l1In_f, hin]
      rfl
    · by_cases h : ∀ j, j < l.length → okC l a j = true
      · rw [if_pos h, decide_eq_true h, hin]
        rfl
      · rw [if_neg h, decide_eq_false h, hin]
        rfl
  · have hin : inB 0 700 a = false := decide_eq_false ha
    refine ⟨true, ?_, fun h => absurd h ha⟩
    rw [hin]
    unfold spec_ClauseValid.f
    refine run_inv (fun k (_ : Unit) i => spec_ClauseValid.l0 k l a (i : Int)) l.length (fun _ _ => True) _ ?_ ?_ k 0 () (Nat.zero_le _) (by omega) trivial
    · intro k i _ hi _
      simp only [spec_ClauseValid.l0]
      rw [if_pos (by omega), if_pos (by omega), wrap_id (x := (i : Int) + 1) (by omega) (by omega)]
      unfold spec_l11Lit.f
      by_cases h0 : rd l (i : Int) = 0
      · rw [if_pos h0]
        exact Or.inl rfl
      · rw [if_neg h0, l1In_f]
        simp only [Option.bind_some]
        cases inB (wrap64 (-a)) a (rd l (i : Int))
        · exact Or.inl rfl
        · simp only [if_true]
          by_cases hi0 : i = 0
          · subst hi0
            rw [if_neg (by omega)]
            exact Or.inr ⟨(), rfl, trivial⟩
          · have e1 : wrap64 ((i : Int) - 1) = ((i - 1 : Nat) : Int) := by rw [wrap_id (by omega) (by omega)]; omega
            rw [if_pos (show (i : Int) > 0 by omega), e1]
            simp only [l11Abs_f, Option.bind_some]
            rw [if_pos (show (0 : Int) ≤ ((i - 1 : Nat) : Int) by omega), if_pos (show ((i - 1 : Nat) : Int) < (l.length : Int) by omega)]
            by_cases hlt : absW (rd l (i : Int)) ≤ absW (rd l ((i - 1 : Nat) : Int))
            · rw [if_pos hlt]
              exact Or.inl rfl
            · rw [if_neg hlt]
              exact Or.inr ⟨(), rfl, trivial⟩
    · intro k _ _
      simp only [spec_ClauseValid.l0]
      rw [if_neg (by omega), l1In_f, hin]
      rfl
theorem impl_scan {k : Nat} {l : List Int} {a : Int} (hw : ∀ x ∈ l, (Lit.int .i64 x).wf = true) (hk : l.length < k) (hm : l.length ≤ 35184372088832) : impl_ClauseValid.f k l a = some (inB 0 700 a && decide (∀ j, j < l.length → okC l a j = true)) := by
  unfold impl_ClauseValid.f
  rw [in_f]
  simp only [Option.bind_some]
  by_cases ha : 0 ≤ a ∧ a ≤ 700
  · have hin : inB 0 700 a = true := decide_eq_true ha
    rw [hin]
    simp only [if_true, Bool.true_and]
    refine (run_all (fun k i => impl_ClauseValid.l0 k l a l (l.length : Int) (i : Int)) l.length (okC l a) true false ?_ ?_ k hk).trans ?_
    · intro k i hi
      simp only [impl_ClauseValid.l0]
      rw [if_pos (by omega), if_pos (by omega), if_pos (by omega), in_f, wrap_id (x := -a) (by omega) (by omega), wrap_id (x := (i : Int) + 1) (by omega) (by omega)]
      simp only [rd_nat, Option.bind_some]
      unfold okC
      cases hb : inB (-a) a (l.getD i 0)
      · simp
      · have hr := of_decide_eq_true hb
        simp only [if_true, Bool.true_and]
        by_cases h0 : l.getD i 0 = 0
        · rw [if_pos h0, decide_eq_true h0]
          simp
        · rw [if_neg h0, decide_eq_false h0]
          simp only [Bool.not_false, Bool.true_and]
          by_cases hi0 : i = 0
          · subst hi0
            rw [if_neg (by omega)]
            simp
          · have e1 : wrap64 ((i : Int) - 1) = ((i - 1 : Nat) : Int) := by rw [wrap_id (by omega) (by omega)]; omega
            rw [if_pos (show (i : Int) > 0 by omega), e1]
            rw [if_pos (show (0 : Int) ≤ ((i - 1 : Nat) : Int) by omega), if_pos (show ((i - 1 : Nat) : Int) < (l.length : Int) by omega)]
            simp only [rd_nat]
            rw [atomOf_f (hw _ (getD_mem l (i - 1) 0 (by omega))), atomOf_f (hw _ (getD_mem l i 0 hi))]
            simp only [Option.bind_some]
            by_cases hlt : absW (l.getD (i - 1) 0) ≥ absW (l.getD i 0)
            · rw [if_pos hlt, decide_eq_false hi0, decide_eq_false (by omega)]
              simp
            · rw [if_neg hlt, decide_eq_false hi0, decide_eq_true (show absW (l.getD (i - 1) 0) < absW (l.getD i 0) by omega)]
              simp
    · intro k
      simp only [impl_ClauseValid.l0]
      rw [if_neg (by omega)]
    · by_cases h : ∀ j, j < l.length → okC l a j = true
      · rw [if_pos h, decide_eq_true h]
      · rw [if_neg h, decide_eq_false h]
  · have hin : inB 0 700 a = false := decide_eq_false ha
    rw [hin]
    rfl

theorem FnExactClauseValid : laws_FnExactClauseValid.Pure := by
  intro l a hl hl8 hw ha
  refine ⟨l.length + 1, ?_⟩
  unfold laws_FnExactClauseValid.f
  by_cases h : (l.length : Int) > 1048576
  · rw [if_pos h]
  · obtain ⟨b, h1, h2⟩ := spec_scan (k := l.length + 1) (l := l) (a := a) (by omega) (by omega)
    rw [if_neg h, toIntS_f (by omega) (by omega)]
    simp only [Option.bind_some, h1]
    rw [impl_scan hw (by omega) (by omega), eqIntS_f (by omega) (by omega)]
    have e : (b && inB 0 700 a) = (inB 0 700 a && decide (∀ j, j < l.length → okC l a j = true)) := by
      by_cases ha : 0 ≤ a ∧ a ≤ 700
      · rw [h2 ha, Bool.and_comm]
      · rw [show inB 0 700 a = false from decide_eq_false ha]
        simp
    rw [e]
    simp

end Go.Proofs.Ytfiloaoofhnjkaa.Pure
