/- The law on GuessCount holds for all arguments: the program tells what the reference tells, and leaves its argument as it was.
Conditions: none. -/
import Derived.Test.YtbjkjoicecmmpabXFnExactGuessCountx4
import Derived.Test.YtbjkjoicecmmpabXLib2
namespace Go.Proofs.Ytbjkjoicecmmpab.Pure
open Go.RowKit Go.Proofs.Ytbjkjoicecmmpab.XFnExactGuessCount Go.Proofs.YtbjkjoicecmmpabW.PrintWords Go.Proofs.YtbjkjoicecmmpabW.PrintLast Go.Proofs.YtbjkjoicecmmpabW.PrintMore Go.Proofs.YtbjkjoicecmmpabX
set_option linter.unusedVariables false
set_option linter.unusedSimpArgs false

theorem rdT114_nat (xs : List S114) (i : Nat) : rd_T114 xs (i : Int) = xs.getD i z114 := by
  unfold rd_T114
  simp

theorem rdT112_nat (xs : List S112) (i : Nat) : rd_T112 xs (i : Int) = xs.getD i z112 := by
  unfold rd_T112
  simp

theorem szTimeS_f {l : List S114} {a : Int} (h0 : 0 ≤ a) (h1 : a ≤ 1048576) (hl : l.length ≤ 9223372036854775807) : laws_szTimeS.f l a = some (if a - (l.length : Int) < 0 then -1 else a - (l.length : Int)) := by
  unfold laws_szTimeS.f
  rw [wrap_id (by omega) (by omega)]
  by_cases h : a - (l.length : Int) < 0
  · rw [if_pos h, if_pos h]
  · rw [if_neg h, if_neg h]

/-- The places of the guessed steps below i. -/
def stepsTo (l : List S112) (i : Nat) : List Int := ((List.range i).filter fun j => decide ((l.getD j z112).f0 ≥ 5)).map fun j : Nat => (j : Int)
theorem stepsTo_succ (l : List S112) (i : Nat) : stepsTo l (i + 1) = if (l.getD i z112).f0 ≥ 5 then stepsTo l i ++ [(i : Int)] else stepsTo l i := by
  unfold stepsTo
  rw [List.range_succ, List.filter_append]
  by_cases h : (l.getD i z112).f0 ≥ 5
  · rw [if_pos h, List.filter_cons, if_pos (decide_eq_true h)]
    simp
  · rw [if_neg h, List.filter_cons, if_neg (by simpa using h)]
    simp
theorem stepsTo_le (l : List S112) (i : Nat) : (stepsTo l i).length ≤ i := by
  unfold stepsTo
  rw [List.length_map]
  have := List.length_filter_le (fun j => decide ((l.getD j z112).f0 ≥ 5)) (List.range i)
  rwa [List.length_range] at this
theorem l21Steps_f {k : Nat} {l : List S112} (hk : l.length < k) (hm : l.length ≤ 1048576) : spec_l21Steps.f k l = some (stepsTo l l.length) := by
  unfold spec_l21Steps.f
  refine run_inv (fun k (s : List Int) i => spec_l21Steps.l0 k l s (i : Int)) l.length (fun i s => s = stepsTo l i) _ ?_ ?_ k 0 [] (Nat.zero_le _) (by omega) rfl
  · rintro k i s hi rfl
    refine Or.inr ⟨_, ?_, (stepsTo_succ l i).symm⟩
    have hl := stepsTo_le l i
    simp only [spec_l21Steps.l0]
    rw [if_pos (by omega), if_pos (by omega), rdT112_nat, wrap_id (x := (i : Int) + 1) (by omega) (by omega)]
    by_cases e : (l.getD i z112).f0 ≥ 5
    · rw [if_pos e, if_pos (by omega), if_pos e]
      rfl
    · rw [if_neg e, if_neg e]
      rfl
  · rintro k s rfl
    simp only [spec_l21Steps.l0]
    rw [if_neg (by omega)]

theorem l1In_f (n a b : Int) : spec_l1In.f n a b = some (inB a b n) := by
  unfold spec_l1In.f inB
  by_cases h : n ≥ a
  · rw [if_pos h]; congr 1; simp; omega
  · rw [if_neg h, decide_eq_false (by omega)]

/-- A step of a formula of time: its operation, its number, its two parts; how many steps stand ahead; how many facts there are. -/
def timeOK (op n a b ahead facts : Int) : Bool :=
  if op = 0 then decide (n = 0 ∧ a = 0 ∧ b = 0)
  else if op = 1 then inB 0 (wrap64 (facts - 1)) n && decide (a = 0 ∧ b = 0)
  else inB 2 7 op && decide (n = 0) && (inB 0 (wrap64 (ahead - 1)) a && (inB 0 (wrap64 (ahead - 1)) b && (decide (a = b) || !decide (op = 2 ∨ op = 5))))

theorem spec_l20Step_f (op n a b ahead facts : Int) : spec_l20Step.f op n a b ahead facts = some (timeOK op n a b ahead facts) := by
  unfold spec_l20Step.f timeOK
  by_cases h0 : op = 0
  · rw [if_pos h0, if_pos h0]
    by_cases h1 : n = 0
    · by_cases h2 : a = 0
      · rw [if_pos h1, if_pos h2]
        simp [h1, h2]
        by_cases h3 : b = 0 <;> simp [h3]
      · rw [if_pos h1, if_neg h2]
        simp [h2]
    · rw [if_neg h1]
      simp [h1]
  · rw [if_neg h0, if_neg h0]
    by_cases h1 : op = 1
    · rw [if_pos h1, if_pos h1, l1In_f]
      simp only [Option.bind_some]
      cases inB 0 (wrap64 (facts - 1)) n
      · simp
      · by_cases h2 : a = 0
        · rw [if_pos rfl, if_pos h2]
          simp [h2]
          by_cases h3 : b = 0 <;> simp [h3]
        · rw [if_pos rfl, if_neg h2]
          simp [h2]
    · rw [if_neg h1, if_neg h1, l1In_f]
      simp only [Option.bind_some, l1In_f]
      cases inB 2 7 op
      · simp
      · by_cases h2 : n = 0
        · rw [if_pos rfl, if_pos h2, decide_eq_true h2]
          simp only [Bool.true_and]
          cases inB 0 (wrap64 (ahead - 1)) a
          · simp
          · cases inB 0 (wrap64 (ahead - 1)) b
            · simp
            · simp only [if_true, Bool.true_and, spec_l20One.f]
              by_cases h3 : op = 2 ∨ op = 5
              · rw [decide_eq_true h3]
                rcases h3 with rfl | rfl
                all_goals
                  simp
                  by_cases h4 : a = b
                  · simp [h4]
                  · simp [h4, Ne.symm h4]
              · rw [decide_eq_false h3]
                simp only [not_or] at h3
                simp [h3]
        · rw [if_pos rfl, if_neg h2, decide_eq_false h2]
          simp
def timesOK (l : List S112) (facts : Int) : Bool := inB 0 4 facts && inB 1 24 (l.length : Int) && decide (∀ j, j < l.length → timeOK (l.getD j z112).f0 (l.getD j z112).f1 (l.getD j z112).f2 (l.getD j z112).f3 (j : Int) facts = true)
theorem spec_TimesValid_f {k : Nat} {l : List S112} {a : Int} (hk : l.length + 2 < k) (hm : l.length ≤ 35184372088832) : spec_TimesValid.f k l a = some (timesOK l a) := by
  unfold spec_TimesValid.f timesOK
  rw [l1In_f]
  simp only [Option.bind_some, l1In_f]
  obtain ⟨k, rfl⟩ : ∃ m, k = m + 1 := ⟨k - 1, by omega⟩
  cases inB 0 4 a
  · simp [spec_TimesValid.j0]
  · simp only [if_true, Bool.true_and]
    cases inB 1 24 (l.length : Int)
    · simp [spec_TimesValid.j0]
    · simp only [Bool.not_true, Bool.true_and, spec_TimesValid.j0, Bool.false_eq_true, if_false]
      refine (run_all (fun k i => spec_TimesValid.l0 k l a (i : Int)) l.length (fun j => timeOK (l.getD j z112).f0 (l.getD j z112).f1 (l.getD j z112).f2 (l.getD j z112).f3 (j : Int) a) true false ?_ ?_ k (by omega)).trans ?_
      · intro k i hi
        simp only [spec_TimesValid.l0]
        rw [if_pos (by omega), if_pos (by omega), wrap_id (x := (i : Int) + 1) (by omega) (by omega)]
        simp only [rdT112_nat, spec_l20Step_f, Option.bind_some]
        rfl
      · intro k
        simp only [spec_TimesValid.l0]
        rw [if_neg (by omega)]
      · by_cases h : ∀ j, j < l.length → timeOK (l.getD j z112).f0 (l.getD j z112).f1 (l.getD j z112).f2 (l.getD j z112).f3 (j : Int) a = true
        · rw [if_pos h, decide_eq_true h]
        · rw [if_neg h, decide_eq_false h]

theorem l21Asked_f {k : Nat} {l : List S112} {a : Int} (hk : l.length + 2 < k) (hm : l.length ≤ 1048576) : spec_l21Asked.f k l a = some (timesOK l a && decide (wrap64 (a + ((stepsTo l l.length).length : Int)) ≤ 7)) := by
  unfold spec_l21Asked.f
  rw [spec_TimesValid_f (by omega) (by omega), l21Steps_f (by omega) (by omega)]
  simp only [Option.bind_some]
  cases timesOK l a
  · rfl
  · rfl

def cTime (x : S114) : S112 := ⟨x.f0, x.f1, x.f2, x.f3⟩
theorem toTimeS_f {k : Nat} {l : List S114} (hk : l.length < k) (hm : l.length ≤ 8796093022208) : laws_toTimeS.f k l = some (l.map cTime) := by
  unfold laws_toTimeS.f
  rw [if_pos (by omega), if_pos (by omega)]
  refine run_inv (fun k (s : List S112) i => laws_toTimeS.l0 k l s (i : Int)) l.length (fun i s => s.length = l.length ∧ ∀ j, j < i → s.getD j z112 = (l.map cTime).getD j z112) _ ?_ ?_ k 0 _ (Nat.zero_le _) (by omega) ⟨by simp, fun j hj => absurd hj (Nat.not_lt_zero j)⟩
  · intro k i s hi ⟨hl, hs⟩
    refine Or.inr ⟨s.set i (cTime (l.getD i z114)), ?_, by simpa using hl, fun j hj => ?_⟩
    · simp only [laws_toTimeS.l0]
      rw [if_pos (by omega), if_pos (by omega)]
      simp only [laws_toTime.f, Option.bind_some, rdT114_nat]
      rw [if_pos (by omega), wrap_id (by omega) (by omega)]
      rfl
    · rw [getD_set _ _ _ _ _ (by omega)]
      by_cases e : j = i
      · rw [if_pos e, e]
        simp [List.getD_eq_getElem?_getD, hi]
      · rw [if_neg e]
        exact hs j (by omega)
  · intro k s ⟨hl, hs⟩
    simp only [laws_toTimeS.l0]
    rw [if_neg (by omega), ext_getD (d := z112) (s := s) (l := l.map cTime) (by simpa using hl) (fun j hj => hs j (by simpa using hj))]

theorem clone_int_f {l : List Int} (h : l.length ≤ 35184372088832) : impl_clone_int.f l = some l := by
  unfold impl_clone_int.f
  rw [if_pos h]

theorem in_f (n a b : Int) : impl_in.f n a b = some (inB a b n) := by
  unfold impl_in.f inB
  by_cases h : n ≥ a
  · rw [if_pos h]; congr 1; simp; omega
  · rw [if_neg h, decide_eq_false (by omega)]

theorem impl_TimesValid_f {k : Nat} {l : List S112} {a : Int} (hk : l.length + 2 < k) (hm : l.length ≤ 35184372088832) : impl_TimesValid.f k l a = some (timesOK l a) := by
  unfold impl_TimesValid.f timesOK
  rw [in_f]
  simp only [Option.bind_some, in_f]
  obtain ⟨k, rfl⟩ : ∃ m, k = m + 1 := ⟨k - 1, by omega⟩
  cases inB 0 4 a
  · simp [impl_TimesValid.j0]
  · simp only [if_true, Bool.true_and]
    cases inB 1 24 (l.length : Int)
    · simp [impl_TimesValid.j0]
    · simp only [Bool.not_true, Bool.true_and, impl_TimesValid.j0, Bool.false_eq_true, if_false]
      refine (run_all (fun k i => impl_TimesValid.l0 k a l (l.length : Int) (i : Int)) l.length (fun j => timeOK (l.getD j z112).f0 (l.getD j z112).f1 (l.getD j z112).f2 (l.getD j z112).f3 (j : Int) a) true false ?_ ?_ k (by omega)).trans ?_
      · intro k i hi
        simp only [impl_TimesValid.l0]
        rw [if_pos (show (i : Int) < (l.length : Int) by omega), if_pos (show (0 : Int) ≤ (i : Int) by omega), if_pos (show (i : Int) < (l.length : Int) by omega), wrap_id (x := (i : Int) + 1) (by omega) (by omega)]
        simp only [rdT112_nat, in_f, Option.bind_some]
        generalize l.getD i z112 = x
        obtain ⟨op, n, p, q⟩ := x
        simp only [timeOK]
        rw [show ((i + 1 : Nat) : Int) = (i : Int) + 1 from rfl]
        generalize impl_TimesValid.l0 k a l (l.length : Int) ((i : Int) + 1) = G
        by_cases h0 : op = 0
        · rw [if_pos h0, if_pos h0]
          subst h0
          by_cases h1 : n = 0 <;> by_cases h2 : p = 0 <;> by_cases h3 : q = 0 <;> simp [h1, h2, h3]
        · rw [if_neg h0, if_neg h0]
          by_cases h1 : op = 1
          · rw [if_pos h1, if_pos h1]
            cases inB 0 (wrap64 (a - 1)) n
            · simp
            · by_cases h2 : p = 0 <;> by_cases h3 : q = 0 <;> simp [h2, h3]
          · rw [if_neg h1, if_neg h1]
            have e : inB 0 7 op = inB 2 7 op := decide_eq_decide.2 (by omega)
            rw [e]
            cases inB 2 7 op
            · simp
            · by_cases h2 : n = 0
              · cases inB 0 (wrap64 ((i : Int) - 1)) p
                · simp [h2]
                · cases inB 0 (wrap64 ((i : Int) - 1)) q
                  · simp [h2]
                  · by_cases h3 : p = q
                    · simp [h2, h3]
                    · by_cases h4 : op = 2
                      · simp [h2, h3, h4]
                      · by_cases h5 : op = 5 <;> simp [h2, h3, h4, h5]
              · simp [h2]
      · intro k
        simp only [impl_TimesValid.l0]
        rw [if_neg (by omega)]
      · by_cases h : ∀ j, j < l.length → timeOK (l.getD j z112).f0 (l.getD j z112).f1 (l.getD j z112).f2 (l.getD j z112).f3 (j : Int) a = true
        · rw [if_pos h, decide_eq_true h]
        · rw [if_neg h, decide_eq_false h]

theorem guessed_f {k : Nat} {l : List S112} {a : Int} (hk : l.length + 2 < k) (hm : l.length ≤ 1048576) : impl_guessed.f k l a = some (if timesOK l a = true then (stepsTo l l.length, decide (wrap64 (a + ((stepsTo l l.length).length : Int)) ≤ 7)) else ([], false)) := by
  unfold impl_guessed.f
  rw [impl_TimesValid_f (by omega) (by omega)]
  simp only [Option.bind_some]
  cases timesOK l a
  · rfl
  · simp only [if_true]
    refine run_inv (fun k (s : List Int) i => impl_guessed.l0 k a s l (l.length : Int) (i : Int)) l.length (fun i s => s = stepsTo l i) _ ?_ ?_ k 0 [] (Nat.zero_le _) (by omega) rfl
    · rintro k i s hi rfl
      refine Or.inr ⟨_, ?_, (stepsTo_succ l i).symm⟩
      have hl := stepsTo_le l i
      simp only [impl_guessed.l0]
      rw [if_pos (by omega), if_pos (by omega), if_pos (by omega), rdT112_nat, wrap_id (x := (i : Int) + 1) (by omega) (by omega)]
      by_cases e : (l.getD i z112).f0 ≥ 5
      · rw [if_pos e, if_pos (by omega), if_pos e]
        rfl
      · rw [if_neg e, if_neg e]
        rfl
    · rintro k s rfl
      have hl := stepsTo_le l l.length
      simp only [impl_guessed.l0]
      rw [if_neg (by omega), clone_int_f (by omega)]
      rfl

theorem eqTimeS_f {k : Nat} {l : List S112} (hk : l.length < k) (hm : l.length ≤ 35184372088832) : laws_eqTimeS.f k l l = some true := by
  unfold laws_eqTimeS.f
  rw [if_pos rfl]
  refine run_inv (fun k (_ : Unit) i => laws_eqTimeS.l0 k l l (i : Int)) l.length (fun _ _ => True) _ ?_ ?_ k 0 () (Nat.zero_le _) (by omega) trivial
  · intro k i _ hi _
    refine Or.inr ⟨(), ?_, trivial⟩
    simp only [laws_eqTimeS.l0]
    rw [if_pos (by omega), if_pos (by omega), if_pos (by omega), wrap_id (by omega) (by omega)]
    simp only [laws_eqTime.f, if_true, Option.bind_some]
    rfl
  · intro k _ _
    simp only [laws_eqTimeS.l0]
    rw [if_neg (by omega)]

theorem FnExactGuessCount : laws_FnExactGuessCount.Pure := by
  intro l a hl hw ha
  refine ⟨l.length + 100, ?_⟩
  unfold laws_FnExactGuessCount.f
  rw [szTimeS_f (by omega) (by omega) hl]
  simp only [Option.bind_some]
  by_cases h : 1048576 - (l.length : Int) < 0
  · rw [if_pos h]
    rfl
  · simp only [if_neg h]
    rw [toTimeS_f (by omega) (by omega)]
    simp only [Option.bind_some]
    have hlen : (l.map cTime).length = l.length := by simp
    unfold spec_GuessCount.f impl_GuessCount.f
    rw [l21Asked_f (by omega) (by omega), guessed_f (by omega) (by omega), l21Steps_f (by omega) (by omega)]
    simp only [Option.bind_some]
    have hst := stepsTo_le (l.map cTime) (l.map cTime).length
    cases hv : timesOK (l.map cTime) a
    · simp only [Bool.false_and, Bool.false_eq_true, if_false, Option.bind_some]
      rw [eqTimeS_f (by omega) (by omega)]
      simp
    · have hv' := hv
      unfold timesOK at hv'
      have ha4 : 0 ≤ a ∧ a ≤ 4 := of_decide_eq_true (Bool.and_eq_true_iff.1 (Bool.and_eq_true_iff.1 hv').1).1
      simp only [Bool.true_and, if_true]
      cases decide (wrap64 (a + ((stepsTo (l.map cTime) (l.map cTime).length).length : Int)) ≤ 7)
      · simp only [Bool.false_eq_true, if_false, Option.bind_some]
        rw [eqTimeS_f (by omega) (by omega)]
        simp
      · simp only [if_true, Option.bind_some]
        rw [if_pos (by rw [wrap_id (by omega) (by omega)]; omega)]
        simp only [if_true, Option.bind_some]
        rw [eqTimeS_f (by omega) (by omega)]
        simp

end Go.Proofs.Ytbjkjoicecmmpab.Pure
