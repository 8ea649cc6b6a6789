/- The law on GuessLetter holds for all arguments: the program's letter is the reference's, in memory of its own, and the argument stays as it was.
Conditions: none. -/
import Derived.Test.YtbjkjoicecmmpadXFnExactGuessLetterx7
import Derived.Test.YtbjkjoicecmmpadXLib2
namespace Go.Proofs.Ytbjkjoicecmmpad.Pure
open Go.RowKit Go.Proofs.Ytbjkjoicecmmpad.XFnExactGuessLetter Go.Proofs.YtbjkjoicecmmpadW.PrintWords Go.Proofs.YtbjkjoicecmmpadW.PrintLast Go.Proofs.YtbjkjoicecmmpadW.PrintMore Go.Proofs.YtbjkjoicecmmpadX
set_option linter.unusedVariables false
set_option linter.unusedSimpArgs false

theorem rdT91_nat (xs : List S91) (i : Nat) : rd_T91 xs (i : Int) = xs.getD i z91 := by
  unfold rd_T91
  simp

theorem rdT89_nat (xs : List S89) (i : Nat) : rd_T89 xs (i : Int) = xs.getD i z89 := by
  unfold rd_T89
  simp

theorem szTimeS_f {l : List S91} {a : Int} (h0 : 0 ≤ a) (h1 : a ≤ 1048576) (hl : l.length ≤ 9223372036854775807) : laws_szTimeS.f l a = some (if a - (l.length : Int) < 0 then -1 else a - (l.length : Int)) := by
  unfold laws_szTimeS.f
  rw [wrap_id (by omega) (by omega)]
  by_cases h : a - (l.length : Int) < 0
  · rw [if_pos h, if_pos h]
  · rw [if_neg h, if_neg h]

theorem l1In_f (n a b : Int) : spec_l1In.f n a b = some (inB a b n) := by
  unfold spec_l1In.f inB
  by_cases h : n ≥ a
  · rw [if_pos h]; congr 1; simp; omega
  · rw [if_neg h, decide_eq_false (by omega)]

/-- The places of the guessed steps below i. -/
def stepsTo (l : List S89) (i : Nat) : List Int := ((List.range i).filter fun j => decide ((l.getD j z89).f0 ≥ 5)).map fun j : Nat => (j : Int)
theorem stepsTo_succ (l : List S89) (i : Nat) : stepsTo l (i + 1) = if (l.getD i z89).f0 ≥ 5 then stepsTo l i ++ [(i : Int)] else stepsTo l i := by
  unfold stepsTo
  rw [List.range_succ, List.filter_append]
  by_cases h : (l.getD i z89).f0 ≥ 5
  · rw [if_pos h, List.filter_cons, if_pos (decide_eq_true h)]
    simp
  · rw [if_neg h, List.filter_cons, if_neg (by simpa using h)]
    simp
theorem stepsTo_le (l : List S89) (i : Nat) : (stepsTo l i).length ≤ i := by
  unfold stepsTo
  rw [List.length_map]
  have := List.length_filter_le (fun j => decide ((l.getD j z89).f0 ≥ 5)) (List.range i)
  rwa [List.length_range] at this
theorem l21Steps_f {k : Nat} {l : List S89} (hk : l.length < k) (hm : l.length ≤ 1048576) : spec_l21Steps.f k l = some (stepsTo l l.length) := by
  unfold spec_l21Steps.f
  refine run_inv (fun k (s : List Int) i => spec_l21Steps.l0 k l s (i : Int)) l.length (fun i s => s = stepsTo l i) _ ?_ ?_ k 0 [] (Nat.zero_le _) (by omega) rfl
  · rintro k i s hi rfl
    refine Or.inr ⟨_, ?_, (stepsTo_succ l i).symm⟩
    have hl := stepsTo_le l i
    simp only [spec_l21Steps.l0]
    rw [if_pos (by omega), if_pos (by omega), rdT89_nat, wrap_id (x := (i : Int) + 1) (by omega) (by omega)]
    by_cases e : (l.getD i z89).f0 ≥ 5
    · rw [if_pos e, if_pos (by omega), if_pos e]
      rfl
    · rw [if_neg e, if_neg e]
      rfl
  · rintro k s rfl
    simp only [spec_l21Steps.l0]
    rw [if_neg (by omega)]

/-- A step of a formula of time: its operation, its number, its two parts; how many steps stand ahead; how many facts there are. -/
def timeOK (op n a b ahead facts : Int) : Bool :=
  if op = 0 then decide (n = 0 ∧ a = 0 ∧ b = 0)
  else if op = 1 then inB 0 (wrap64 (facts - 1)) n && decide (a = 0 ∧ b = 0)
  else inB 2 7 op && decide (n = 0) && (inB 0 (wrap64 (ahead - 1)) a && (inB 0 (wrap64 (ahead - 1)) b && (decide (a = b) || !decide (op = 2 ∨ op = 5))))

theorem spec_l20Step_f (op n a b ahead facts : Int) : spec_l20Step.f op n a b ahead facts = some (timeOK op n a b ahead facts) := by
  unfold spec_l20Step.f timeOK
  by_cases h0 : op = 0
  · rw [if_pos h0, if_pos h0]
    by_cases h1 : n = 0
    · by_cases h2 : a = 0
      · rw [if_pos h1, if_pos h2]
        simp [h1, h2]
        by_cases h3 : b = 0 <;> simp [h3]
      · rw [if_pos h1, if_neg h2]
        simp [h2]
    · rw [if_neg h1]
      simp [h1]
  · rw [if_neg h0, if_neg h0]
    by_cases h1 : op = 1
    · rw [if_pos h1, if_pos h1, l1In_f]
      simp only [Option.bind_some]
      cases inB 0 (wrap64 (facts - 1)) n
      · simp
      · by_cases h2 : a = 0
        · rw [if_pos rfl, if_pos h2]
          simp [h2]
          by_cases h3 : b = 0 <;> simp [h3]
        · rw [if_pos rfl, if_neg h2]
          simp [h2]
    · rw [if_neg h1, if_neg h1, l1In_f]
      simp only [Option.bind_some, l1In_f]
      cases inB 2 7 op
      · simp
      · by_cases h2 : n = 0
        · rw [if_pos rfl, if_pos h2, decide_eq_true h2]
          simp only [Bool.true_and]
          cases inB 0 (wrap64 (ahead - 1)) a
          · simp
          · cases inB 0 (wrap64 (ahead - 1)) b
            · simp
            · simp only [if_true, Bool.true_and, spec_l20One.f]
              by_cases h3 : op = 2 ∨ op = 5
              · rw [decide_eq_true h3]
                rcases h3 with rfl | rfl
                all_goals
                  simp
                  by_cases h4 : a = b
                  · simp [h4]
                  · simp [h4, Ne.symm h4]
              · rw [decide_eq_false h3]
                simp only [not_or] at h3
                simp [h3]
        · rw [if_pos rfl, if_neg h2, decide_eq_false h2]
          simp
def timesOK (l : List S89) (facts : Int) : Bool := inB 0 4 facts && inB 1 24 (l.length : Int) && decide (∀ j, j < l.length → timeOK (l.getD j z89).f0 (l.getD j z89).f1 (l.getD j z89).f2 (l.getD j z89).f3 (j : Int) facts = true)
theorem spec_TimesValid_f {k : Nat} {l : List S89} {a : Int} (hk : l.length + 2 < k) (hm : l.length ≤ 35184372088832) : spec_TimesValid.f k l a = some (timesOK l a) := by
  unfold spec_TimesValid.f timesOK
  rw [l1In_f]
  simp only [Option.bind_some, l1In_f]
  obtain ⟨k, rfl⟩ : ∃ m, k = m + 1 := ⟨k - 1, by omega⟩
  cases inB 0 4 a
  · simp [spec_TimesValid.j0]
  · simp only [if_true, Bool.true_and]
    cases inB 1 24 (l.length : Int)
    · simp [spec_TimesValid.j0]
    · simp only [Bool.not_true, Bool.true_and, spec_TimesValid.j0, Bool.false_eq_true, if_false]
      refine (run_all (fun k i => spec_TimesValid.l0 k l a (i : Int)) l.length (fun j => timeOK (l.getD j z89).f0 (l.getD j z89).f1 (l.getD j z89).f2 (l.getD j z89).f3 (j : Int) a) true false ?_ ?_ k (by omega)).trans ?_
      · intro k i hi
        simp only [spec_TimesValid.l0]
        rw [if_pos (by omega), if_pos (by omega), wrap_id (x := (i : Int) + 1) (by omega) (by omega)]
        simp only [rdT89_nat, spec_l20Step_f, Option.bind_some]
        rfl
      · intro k
        simp only [spec_TimesValid.l0]
        rw [if_neg (by omega)]
      · by_cases h : ∀ j, j < l.length → timeOK (l.getD j z89).f0 (l.getD j z89).f1 (l.getD j z89).f2 (l.getD j z89).f3 (j : Int) a = true
        · rw [if_pos h, decide_eq_true h]
        · rw [if_neg h, decide_eq_false h]

theorem l21Asked_f {k : Nat} {l : List S89} {a : Int} (hk : l.length + 2 < k) (hm : l.length ≤ 1048576) : spec_l21Asked.f k l a = some (timesOK l a && decide (wrap64 (a + ((stepsTo l l.length).length : Int)) ≤ 7)) := by
  unfold spec_l21Asked.f
  rw [spec_TimesValid_f (by omega) (by omega), l21Steps_f (by omega) (by omega)]
  simp only [Option.bind_some]
  cases timesOK l a
  · rfl
  · rfl

theorem l3Copy_f {k : Nat} {l : List Int} (hk : l.length < k) (hm : l.length ≤ 1048576) : spec_l3Copy.f k l = some l := by
  unfold spec_l3Copy.f
  refine run_inv (fun k (s : List Int) i => spec_l3Copy.l0 k l s (i : Int)) l.length (fun i s => s = l.take i) _ ?_ ?_ k 0 [] (Nat.zero_le _) (by omega) (by simp)
  · rintro k i s hi rfl
    have hl : (l.take i).length = i := by rw [List.length_take]; omega
    refine Or.inr ⟨_, ?_, (take_succ_getD l i 0 hi).symm⟩
    simp only [spec_l3Copy.l0]
    rw [if_pos (by omega), if_pos (by omega), if_pos (by rw [hl]; omega), wrap_id (x := (i : Int) + 1) (by omega) (by omega), rd_nat]
    rfl
  · rintro k s rfl
    simp only [spec_l3Copy.l0]
    rw [if_neg (by omega), List.take_length]

theorem l6Value_f {k m : Nat} {n : Int} (hn : 0 ≤ n) (hm : m ≤ 60) (hk : m < k) : spec_l6Value.f k n (m : Int) = some (bitsL n m) := by
  unfold spec_l6Value.f
  rw [wrap_id (by omega) (by omega)]
  have e0 : ((m : Int) - 1) = (m : Int) - 1 - ((0 : Nat) : Int) := by omega
  rw [e0]
  refine run_inv (fun k (s : List Int) i => spec_l6Value.l0 k n s ((m : Int) - 1 - (i : Int))) m (fun i s => s = (bitsL n m).take i) _ ?_ ?_ k 0 [] (Nat.zero_le _) (by omega) (by simp)
  · rintro k i s hi rfl
    have hl : ((bitsL n m).take i).length = i := by rw [List.length_take, bitsL_length]; omega
    refine Or.inr ⟨_, ?_, (take_succ_getD (bitsL n m) i 0 (by rw [bitsL_length]; exact hi)).symm⟩
    simp only [spec_l6Value.l0]
    have ej : ((m : Int) - 1 - (i : Int)) = ((m - 1 - i : Nat) : Int) := by omega
    have ew : wrap64 (((m - 1 - i : Nat) : Int) - 1) = (m : Int) - 1 - ((i + 1 : Nat) : Int) := by rw [wrap_id (by omega) (by omega)]; omega
    rw [ej, if_pos (by omega), if_pos (by omega), if_pos (by rw [hl]; omega), shr_nat _ _ (by omega), Int.tmod_eq_emod_of_nonneg (Int.ediv_nonneg hn (Int.le_of_lt (pow_pos_int _))), ew, bitsL_getD _ _ _ hi]
  · rintro k s rfl
    simp only [spec_l6Value.l0]
    rw [if_neg (by omega), List.take_of_length_le (by rw [bitsL_length]; omega)]

def cTime (x : S91) : S89 := ⟨x.f0, x.f1, x.f2, x.f3⟩
theorem toTimeS_f {k : Nat} {l : List S91} (hk : l.length < k) (hm : l.length ≤ 8796093022208) : laws_toTimeS.f k l = some (l.map cTime) := by
  unfold laws_toTimeS.f
  rw [if_pos (by omega), if_pos (by omega)]
  refine run_inv (fun k (s : List S89) i => laws_toTimeS.l0 k l s (i : Int)) l.length (fun i s => s.length = l.length ∧ ∀ j, j < i → s.getD j z89 = (l.map cTime).getD j z89) _ ?_ ?_ k 0 _ (Nat.zero_le _) (by omega) ⟨by simp, fun j hj => absurd hj (Nat.not_lt_zero j)⟩
  · intro k i s hi ⟨hl, hs⟩
    refine Or.inr ⟨s.set i (cTime (l.getD i z91)), ?_, by simpa using hl, fun j hj => ?_⟩
    · simp only [laws_toTimeS.l0]
      rw [if_pos (by omega), if_pos (by omega)]
      simp only [laws_toTime.f, Option.bind_some, rdT91_nat]
      rw [if_pos (by omega), wrap_id (by omega) (by omega)]
      rfl
    · rw [getD_set _ _ _ _ _ (by omega)]
      by_cases e : j = i
      · rw [if_pos e, e]
        simp [List.getD_eq_getElem?_getD, hi]
      · rw [if_neg e]
        exact hs j (by omega)
  · intro k s ⟨hl, hs⟩
    simp only [laws_toTimeS.l0]
    rw [if_neg (by omega), ext_getD (d := z89) (s := s) (l := l.map cTime) (by simpa using hl) (fun j hj => hs j (by simpa using hj))]

theorem clone_int_f {l : List Int} (h : l.length ≤ 35184372088832) : impl_clone_int.f l = some l := by
  unfold impl_clone_int.f
  rw [if_pos h]

theorem in_f (n a b : Int) : impl_in.f n a b = some (inB a b n) := by
  unfold impl_in.f inB
  by_cases h : n ≥ a
  · rw [if_pos h]; congr 1; simp; omega
  · rw [if_neg h, decide_eq_false (by omega)]

theorem impl_TimesValid_f {k : Nat} {l : List S89} {a : Int} (hk : l.length + 2 < k) (hm : l.length ≤ 35184372088832) : impl_TimesValid.f k l a = some (timesOK l a) := by
  unfold impl_TimesValid.f timesOK
  rw [in_f]
  simp only [Option.bind_some, in_f]
  obtain ⟨k, rfl⟩ : ∃ m, k = m + 1 := ⟨k - 1, by omega⟩
  cases inB 0 4 a
  · simp [impl_TimesValid.j0]
  · simp only [if_true, Bool.true_and]
    cases inB 1 24 (l.length : Int)
    · simp [impl_TimesValid.j0]
    · simp only [Bool.not_true, Bool.true_and, impl_TimesValid.j0, Bool.false_eq_true, if_false]
      refine (run_all (fun k i => impl_TimesValid.l0 k a l (l.length : Int) (i : Int)) l.length (fun j => timeOK (l.getD j z89).f0 (l.getD j z89).f1 (l.getD j z89).f2 (l.getD j z89).f3 (j : Int) a) true false ?_ ?_ k (by omega)).trans ?_
      · intro k i hi
        simp only [impl_TimesValid.l0]
        rw [if_pos (show (i : Int) < (l.length : Int) by omega), if_pos (show (0 : Int) ≤ (i : Int) by omega), if_pos (show (i : Int) < (l.length : Int) by omega), wrap_id (x := (i : Int) + 1) (by omega) (by omega)]
        simp only [rdT89_nat, in_f, Option.bind_some]
        generalize l.getD i z89 = x
        obtain ⟨op, n, p, q⟩ := x
        simp only [timeOK]
        rw [show ((i + 1 : Nat) : Int) = (i : Int) + 1 from rfl]
        generalize impl_TimesValid.l0 k a l (l.length : Int) ((i : Int) + 1) = G
        by_cases h0 : op = 0
        · rw [if_pos h0, if_pos h0]
          subst h0
          by_cases h1 : n = 0 <;> by_cases h2 : p = 0 <;> by_cases h3 : q = 0 <;> simp [h1, h2, h3]
        · rw [if_neg h0, if_neg h0]
          by_cases h1 : op = 1
          · rw [if_pos h1, if_pos h1]
            cases inB 0 (wrap64 (a - 1)) n
            · simp
            · by_cases h2 : p = 0 <;> by_cases h3 : q = 0 <;> simp [h2, h3]
          · rw [if_neg h1, if_neg h1]
            have e : inB 0 7 op = inB 2 7 op := decide_eq_decide.2 (by omega)
            rw [e]
            cases inB 2 7 op
            · simp
            · by_cases h2 : n = 0
              · cases inB 0 (wrap64 ((i : Int) - 1)) p
                · simp [h2]
                · cases inB 0 (wrap64 ((i : Int) - 1)) q
                  · simp [h2]
                  · by_cases h3 : p = q
                    · simp [h2, h3]
                    · by_cases h4 : op = 2
                      · simp [h2, h3, h4]
                      · by_cases h5 : op = 5 <;> simp [h2, h3, h4, h5]
              · simp [h2]
      · intro k
        simp only [impl_TimesValid.l0]
        rw [if_neg (by omega)]
      · by_cases h : ∀ j, j < l.length → timeOK (l.getD j z89).f0 (l.getD j z89).f1 (l.getD j z89).f2 (l.getD j z89).f3 (j : Int) a = true
        · rw [if_pos h, decide_eq_true h]
        · rw [if_neg h, decide_eq_false h]

theorem guessed_f {k : Nat} {l : List S89} {a : Int} (hk : l.length + 2 < k) (hm : l.length ≤ 1048576) : impl_guessed.f k l a = some (if timesOK l a = true then (stepsTo l l.length, decide (wrap64 (a + ((stepsTo l l.length).length : Int)) ≤ 7)) else ([], false)) := by
  unfold impl_guessed.f
  rw [impl_TimesValid_f (by omega) (by omega)]
  simp only [Option.bind_some]
  cases timesOK l a
  · rfl
  · simp only [if_true]
    refine run_inv (fun k (s : List Int) i => impl_guessed.l0 k a s l (l.length : Int) (i : Int)) l.length (fun i s => s = stepsTo l i) _ ?_ ?_ k 0 [] (Nat.zero_le _) (by omega) rfl
    · rintro k i s hi rfl
      refine Or.inr ⟨_, ?_, (stepsTo_succ l i).symm⟩
      have hl := stepsTo_le l i
      simp only [impl_guessed.l0]
      rw [if_pos (by omega), if_pos (by omega), if_pos (by omega), rdT89_nat, wrap_id (x := (i : Int) + 1) (by omega) (by omega)]
      by_cases e : (l.getD i z89).f0 ≥ 5
      · rw [if_pos e, if_pos (by omega), if_pos e]
        rfl
      · rw [if_neg e, if_neg e]
        rfl
    · rintro k s rfl
      have hl := stepsTo_le l l.length
      simp only [impl_guessed.l0]
      rw [if_neg (by omega), clone_int_f (by omega)]
      rfl

theorem valueBits_f {k m : Nat} {n : Int} (hn : 0 ≤ n) (hn2 : n ≤ 9223372036854775807) (hm : m ≤ 60) (hk : m < k) : impl_valueBits.f k n (m : Int) = some (bitsL n m) := by
  unfold impl_valueBits.f
  rw [if_pos (by omega), if_pos (by omega)]
  simp only [Option.bind_some, Int.toNat_natCast, List.length_replicate]
  refine (?_ : impl_valueBits.l0 k n (m : Int) (List.replicate m 0) (m : Int) ((0 : Nat) : Int) = _)
  refine run_inv (fun k (s : List Int) i => impl_valueBits.l0 k n (m : Int) s (m : Int) (i : Int)) m (fun i s => s.length = m ∧ ∀ j, j < i → s.getD j 0 = (bitsL n m).getD j 0) _ ?_ ?_ k 0 _ (Nat.zero_le _) (by omega) ⟨by simp, fun j hj => absurd hj (Nat.not_lt_zero j)⟩
  · intro k i s hi ⟨hl, hs⟩
    refine Or.inr ⟨s.set i ((bitsL n m).getD i 0), ?_, by simpa using hl, fun j hj => ?_⟩
    · simp only [impl_valueBits.l0]
      have ej : wrap64 (wrap64 ((m : Int) - 1) - (i : Int)) = ((m - 1 - i : Nat) : Int) := by
        rw [wrap_id (x := (m : Int) - 1) (by omega) (by omega), wrap_id (by omega) (by omega)]
        omega
      have h2 : n / 2 ^ (m - 1 - i) ≤ n := Int.ediv_le_self _ hn
      rw [ej, if_pos (by omega), if_pos (by omega), if_pos (by omega), if_pos (by omega), shr_nat _ _ (by omega), and_one (Int.ediv_nonneg hn (Int.le_of_lt (pow_pos_int _))) (by omega), wrap_id (by omega) (by omega), bitsL_getD _ _ _ hi]
      rfl
    · rw [getD_set _ _ _ _ _ (by omega)]
      by_cases e : j = i
      · rw [if_pos e, e]
      · rw [if_neg e]
        exact hs j (by omega)
  · intro k s ⟨hl, hs⟩
    simp only [impl_valueBits.l0]
    rw [if_neg (by omega), ext_getD (d := 0) (l := bitsL n m) (by rw [bitsL_length]; exact hl) (fun j hj => hs j (by rw [bitsL_length] at hj; exact hj))]

theorem bitsFor_f {k m : Nat} (hk : m < k) (hm : m ≤ 40) : impl_bitsFor.f k (2 ^ m) = some (m : Int) := by
  unfold impl_bitsFor.f
  refine run_inv (fun k (_ : Unit) i => impl_bitsFor.l0 k (2 ^ m) (i : Int)) m (fun _ _ => True) _ ?_ ?_ k 0 () (Nat.zero_le _) (by omega) trivial
  · intro k i _ hi _
    refine Or.inr ⟨(), ?_, trivial⟩
    simp only [impl_bitsFor.l0]
    have h := Nat.pow_lt_pow_right (show 1 < 2 by decide) hi
    have h' : ((2 : Int) ^ i) < 2 ^ m := by exact_mod_cast h
    rw [if_pos (by omega), shl_one i (by omega), if_pos h', wrap_id (x := (i : Int) + 1) (by omega) (by omega)]
    rfl
  · intro k _ _
    simp only [impl_bitsFor.l0]
    rw [if_pos (by omega), shl_one m (by omega), if_neg (by omega)]

theorem eqIntS_f {k : Nat} {a b : List Int} (hk : a.length < k) (hm : a.length ≤ 35184372088832) : laws_eqIntS.f k a b = some (decide (a = b)) := by
  unfold laws_eqIntS.f
  by_cases hab : a.length = b.length
  · rw [if_pos (by omega)]
    refine run_inv (fun k (_ : Unit) i => laws_eqIntS.l0 k a b (i : Int)) a.length (fun i _ => ∀ j, j < i → a.getD j 0 = b.getD j 0) _ ?_ ?_ k 0 () (Nat.zero_le _) (by omega) (fun j hj => absurd hj (Nat.not_lt_zero j))
    · intro k i _ hi hs
      by_cases e : a.getD i 0 = b.getD i 0
      · refine Or.inr ⟨(), ?_, fun j hj => ?_⟩
        · simp only [laws_eqIntS.l0]
          rw [if_pos (by omega), if_pos (by omega), if_pos (by omega), rd_nat, rd_nat, if_pos e, wrap_id (by omega) (by omega)]
          rfl
        · by_cases e2 : j = i
          · rw [e2]; exact e
          · exact hs j (by omega)
      · refine Or.inl ?_
        simp only [laws_eqIntS.l0]
        rw [if_pos (by omega), if_pos (by omega), if_pos (by omega), rd_nat, rd_nat, if_neg e, decide_eq_false (fun h => e (by rw [h]))]
    · intro k _ hs
      simp only [laws_eqIntS.l0]
      rw [if_neg (by omega), decide_eq_true (ext_getD hab (fun j hj => hs j (by omega)))]
  · rw [if_neg (by omega), decide_eq_false (fun h => hab (by rw [h]))]

theorem eqTimeS_f {k : Nat} {l : List S89} (hk : l.length < k) (hm : l.length ≤ 35184372088832) : laws_eqTimeS.f k l l = some true := by
  unfold laws_eqTimeS.f
  rw [if_pos rfl]
  refine run_inv (fun k (_ : Unit) i => laws_eqTimeS.l0 k l l (i : Int)) l.length (fun _ _ => True) _ ?_ ?_ k 0 () (Nat.zero_le _) (by omega) trivial
  · intro k i _ hi _
    refine Or.inr ⟨(), ?_, trivial⟩
    simp only [laws_eqTimeS.l0]
    rw [if_pos (by omega), if_pos (by omega), if_pos (by omega), wrap_id (by omega) (by omega)]
    simp only [laws_eqTime.f, if_true, Option.bind_some]
    rfl
  · intro k _ _
    simp only [laws_eqTimeS.l0]
    rw [if_neg (by omega)]

/-- A loop that ends in something of which P holds. -/
theorem run_ex {σ β : Type} (L : Nat → σ → Nat → Option β) (n : Nat) (inv : Nat → σ → Prop) (P : β → Prop)
    (hstep : ∀ k i s, i < n → inv i s → ∃ s', L (k + 1) s i = L k s' (i + 1) ∧ inv (i + 1) s')
    (hend : ∀ k s, inv n s → ∃ r, L (k + 1) s n = some r ∧ P r) : ∀ k i s, i ≤ n → n - i < k → inv i s → ∃ r, L k s i = some r ∧ P r := by
  have key : ∀ d k i s, n - i = d → i ≤ n → d < k → inv i s → ∃ r, L k s i = some r ∧ P r := by
    intro d
    induction d with
    | zero =>
      intro k i s hd hi hk hs
      obtain ⟨k, rfl⟩ : ∃ m, k = m + 1 := ⟨k - 1, by omega⟩
      obtain rfl : i = n := by omega
      exact hend k s hs
    | succ d ih =>
      intro k i s hd hi hk hs
      obtain ⟨k, rfl⟩ : ∃ m, k = m + 1 := ⟨k - 1, by omega⟩
      obtain ⟨s', h, hs'⟩ := hstep k i s (by omega) hs
      rw [h]
      exact ih k (i + 1) s' (by omega) (by omega) (by omega) hs'
  intro k i s hi hk hs
  exact key (n - i) k i s rfl hi hk hs

theorem markTimeS_f {k : Nat} {l : List S89} {a : Int} (hk : l.length < k) (hm : l.length ≤ 1048576) (h0 : 0 ≤ a) (h1 : a ≤ 1000000000000000000) : ∃ r, laws_markTimeS.f k l a = some r ∧ r.1 = a + 4 * (l.length : Int) := by
  unfold laws_markTimeS.f
  refine run_ex (fun k (s : List S89 × Int) i => laws_markTimeS.l0 k s.1 s.2 (i : Int)) l.length (fun i s => s.1.length = l.length ∧ s.2 = a + 4 * (i : Int)) _ ?_ ?_ k 0 (l, a) (Nat.zero_le _) (by omega) ⟨rfl, by simp⟩
  · rintro k i ⟨s, c⟩ hi ⟨hl, hc⟩
    simp only at hl hc
    simp only [laws_markTimeS.l0, Option.bind_some]
    rw [if_pos (by omega), if_pos (by omega), wrap_id (x := (i : Int) + 1) (by omega) (by omega), wrap_id (x := c + 1) (by omega) (by omega), wrap_id (x := c + 1 + 1) (by omega) (by omega), wrap_id (x := c + 1 + 1 + 1) (by omega) (by omega), wrap_id (x := c + 1 + 1 + 1 + 1) (by omega) (by omega)]
    refine ⟨(_, _), rfl, by simpa using hl, ?_⟩
    simp only [Int.natCast_add]
    omega
  · rintro k ⟨s, c⟩ ⟨hl, hc⟩
    simp only at hl hc
    simp only [laws_markTimeS.l0]
    rw [if_neg (by omega)]
    exact ⟨_, rfl, hc⟩

theorem markIntS_f {k : Nat} {l : List Int} {a : Int} (hk : l.length < k) (hm : l.length ≤ 35184372088832) (h0 : 0 ≤ a) (h1 : a ≤ 1000000000000000000) : laws_markIntS.f k l a = some (a + l.length, marks a l.length) := by
  unfold laws_markIntS.f
  refine (?_ : laws_markIntS.l0 k l a ((0 : Nat) : Int) = _)
  refine run_inv (fun k (s : List Int × Int) i => laws_markIntS.l0 k s.1 s.2 (i : Int)) l.length (fun i s => s.1.length = l.length ∧ s.2 = a + (i : Int) ∧ ∀ j, j < i → s.1.getD j 0 = a + (j : Int)) _ ?_ ?_ k 0 (l, a) (Nat.zero_le _) (by omega) ⟨rfl, by simp, fun j hj => absurd hj (Nat.not_lt_zero j)⟩
  · rintro k i ⟨s, c⟩ hi ⟨hl, hc, hs⟩
    simp only at hl hc hs
    subst hc
    refine Or.inr ⟨(s.set i (a + (i : Int)), a + (i : Int) + 1), ?_, by simpa using hl, by simp only [Int.natCast_add]; omega, fun j hj => ?_⟩
    · simp only [laws_markIntS.l0]
      rw [if_pos (by omega), if_pos (by omega), wrap_id (x := a + (i : Int) + 1) (by omega) (by omega), wrap_id (by omega) (by omega)]
      rfl
    · simp only
      rw [getD_set _ _ _ _ _ (by omega)]
      by_cases e : j = i
      · rw [if_pos e, e]
      · rw [if_neg e]
        exact hs j (by omega)
  · rintro k ⟨s, c⟩ ⟨hl, hc, hs⟩
    simp only at hl hc hs
    subst hc
    simp only [laws_markIntS.l0]
    rw [if_neg (by omega), ext_getD (d := 0) (s := s) (l := marks a l.length) (by rw [marks_length]; exact hl) (fun j hj => by rw [marks_length] at hj; rw [marks_getD _ _ _ hj]; exact hs j hj)]

theorem heldIntS_f {k : Nat} {n : Nat} {a : Int} (hk : n < k) (hm : n ≤ 35184372088832) (h0 : 0 ≤ a) (h1 : a ≤ 1000000000000000000) : laws_heldIntS.f k (marks a n) a = some (a + (n : Int)) := by
  unfold laws_heldIntS.f
  refine (?_ : laws_heldIntS.l0 k (marks a n) a ((0 : Nat) : Int) = _)
  have hlen := marks_length a n
  refine run_inv (fun k (s : Int) i => laws_heldIntS.l0 k (marks a n) s (i : Int)) n (fun i s => s = a + (i : Int)) _ ?_ ?_ k 0 a (Nat.zero_le _) (by omega) (by simp)
  · rintro k i s hi rfl
    refine Or.inr ⟨a + (i : Int) + 1, ?_, by simp only [Int.natCast_add]; omega⟩
    simp only [laws_heldIntS.l0]
    rw [if_pos (by omega), if_pos (by omega), rd_nat, marks_getD _ _ _ hi, if_pos rfl, wrap_id (x := a + (i : Int) + 1) (by omega) (by omega), wrap_id (by omega) (by omega)]
    rfl
  · rintro k s rfl
    simp only [laws_heldIntS.l0]
    rw [if_neg (by omega)]

/-- May the formula be asked at all? Then a + its guessed steps are at most 7. -/
def askOK (l : List S89) (a : Int) : Bool := timesOK l a && decide (wrap64 (a + ((stepsTo l l.length).length : Int)) ≤ 7)
theorem ask_bounds {l : List S89} {a : Int} (hm : l.length ≤ 1048576) (h : askOK l a = true) : 0 ≤ a ∧ a ≤ 4 ∧ a + ((stepsTo l l.length).length : Int) ≤ 7 := by
  unfold askOK timesOK at h
  have h1 := Bool.and_eq_true_iff.1 h
  have ha : 0 ≤ a ∧ a ≤ 4 := of_decide_eq_true (Bool.and_eq_true_iff.1 (Bool.and_eq_true_iff.1 h1.1).1).1
  have h2 := of_decide_eq_true h1.2
  have h3 := stepsTo_le l l.length
  rw [wrap_id (by omega) (by omega)] at h2
  exact ⟨ha.1, ha.2, h2⟩
def letterR (l : List S89) (a w : Int) : List Int := if askOK l a = true then (if inB 0 (2 ^ (a.toNat + (stepsTo l l.length).length) - 1) w = true then (bitsL w (a.toNat + (stepsTo l l.length).length)).take a.toNat else []) else []
theorem spec_letter {k : Nat} {l : List S89} {a w : Int} (hk : l.length + 50 < k) (hm : l.length ≤ 1048576) : spec_GuessLetter.f k l a w = some (letterR l a w) := by
  unfold spec_GuessLetter.f spec_GuessCount.f letterR
  rw [l21Asked_f (by omega) hm, l21Steps_f (by omega) hm]
  simp only [Option.bind_some, l1In_f]
  by_cases h : askOK l a = true
  · obtain ⟨ha0, ha4, hs⟩ := ask_bounds hm h
    have h' : (timesOK l a && decide (wrap64 (a + ((stepsTo l l.length).length : Int)) ≤ 7)) = true := h
    rw [h', if_pos h]
    obtain ⟨m, rfl⟩ : ∃ m : Nat, a = (m : Int) := ⟨a.toNat, by omega⟩
    generalize (stepsTo l l.length).length = q at hs ⊢
    rw [Int.toNat_natCast, wrap_id (x := (m : Int) + (q : Int)) (by omega) (by omega), show (m : Int) + (q : Int) = ((m + q : Nat) : Int) from by omega]
    have hp := pow_le_int (m + q) 7 (by omega)
    have hp0 := pow_pos_int (m + q)
    simp only [if_true]
    rw [if_pos (by omega), shl_one (m + q) (by omega)]
    simp only [Option.bind_some]
    rw [wrap_id (x := (2 : Int) ^ (m + q) - 1) (by omega) (by omega)]
    cases hb : inB 0 (2 ^ (m + q) - 1) w
    · simp
    · have hb' : 0 ≤ w ∧ w ≤ 2 ^ (m + q) - 1 := of_decide_eq_true hb
      have hl := bitsL_length w (m + q)
      have htk : ((bitsL w (m + q)).take m).length = m := by rw [List.length_take, hl]; omega
      simp only [if_true]
      rw [l6Value_f (by omega) (by omega) (by omega)]
      simp only [Option.bind_some]
      rw [if_pos (by omega), if_pos (by omega), l3Copy_f (by omega) (by omega)]
      rfl
  · have h' : (timesOK l a && decide (wrap64 (a + ((stepsTo l l.length).length : Int)) ≤ 7)) = false := Bool.eq_false_iff.2 h
    rw [h', if_neg h]
    simp only [Bool.false_eq_true, if_false, Option.bind_some]
    have e : inB 0 (wrap64 (0 - 1)) w = false := decide_eq_false (by rw [show wrap64 (0 - 1) = 0 - 1 from wrap_id (by omega) (by omega)]; omega)
    rw [e]
    simp
theorem impl_letter {k : Nat} {l : List S89} {a w : Int} (hk : l.length + 50 < k) (hm : l.length ≤ 1048576) : impl_GuessLetter.f k l a w = some (letterR l a w) := by
  unfold impl_GuessLetter.f impl_GuessCount.f letterR
  rw [guessed_f (by omega) hm]
  simp only [Option.bind_some, in_f]
  by_cases h : askOK l a = true
  · obtain ⟨ha0, ha4, hs⟩ := ask_bounds hm h
    have h' := Bool.and_eq_true_iff.1 (show (timesOK l a && decide (wrap64 (a + ((stepsTo l l.length).length : Int)) ≤ 7)) = true from h)
    rw [if_pos h'.1, if_pos h]
    simp only [h'.2, if_true]
    obtain ⟨m, rfl⟩ : ∃ m : Nat, a = (m : Int) := ⟨a.toNat, by omega⟩
    generalize (stepsTo l l.length).length = q at hs ⊢
    rw [Int.toNat_natCast, wrap_id (x := (m : Int) + (q : Int)) (by omega) (by omega), show (m : Int) + (q : Int) = ((m + q : Nat) : Int) from by omega]
    have hp := pow_le_int (m + q) 7 (by omega)
    have hp0 := pow_pos_int (m + q)
    rw [if_pos (by omega), shl_one (m + q) (by omega)]
    simp only [Option.bind_some]
    rw [wrap_id (x := (2 : Int) ^ (m + q) - 1) (by omega) (by omega)]
    cases hb : inB 0 (2 ^ (m + q) - 1) w
    · simp
    · have hb' : 0 ≤ w ∧ w ≤ 2 ^ (m + q) - 1 := of_decide_eq_true hb
      have hl := bitsL_length w (m + q)
      have htk : ((bitsL w (m + q)).take m).length = m := by rw [List.length_take, hl]; omega
      simp only [if_true]
      rw [bitsFor_f (by omega) (by omega)]
      simp only [Option.bind_some]
      rw [valueBits_f (by omega) (by omega) (by omega) (by omega)]
      simp only [Option.bind_some]
      rw [if_pos (by omega), if_pos (by omega), clone_int_f (by omega)]
      rfl
  · have h' : (timesOK l a && decide (wrap64 (a + ((stepsTo l l.length).length : Int)) ≤ 7)) = false := Bool.eq_false_iff.2 h
    rw [if_neg h]
    have e : inB 0 (wrap64 (0 - 1)) w = false := decide_eq_false (by rw [show wrap64 (0 - 1) = 0 - 1 from wrap_id (by omega) (by omega)]; omega)
    cases ht : timesOK l a
    · simp only [Bool.false_eq_true, if_false, Option.bind_some, e]
    · rw [ht, Bool.true_and] at h'
      simp only [if_true, h', Bool.false_eq_true, if_false, Option.bind_some, e]

theorem FnExactGuessLetter : laws_FnExactGuessLetter.Pure := by
  intro l a w hl hw ha hw'
  refine ⟨2 * l.length + 100, ?_⟩
  unfold laws_FnExactGuessLetter.f
  rw [szTimeS_f (by omega) (by omega) hl]
  simp only [Option.bind_some]
  by_cases h : 1048576 - (l.length : Int) < 0
  · rw [if_pos h]
    rfl
  · simp only [if_neg h]
    rw [toTimeS_f (by omega) (by omega)]
    simp only [Option.bind_some]
    have hlen : (l.map cTime).length = l.length := by simp
    rw [spec_letter (by omega) (by omega), impl_letter (by omega) (by omega)]
    have hI := impl_letter (k := 2 * l.length + 99) (l := l.map cTime) (a := a) (w := w) (by omega) (by omega)
    have hR : (letterR (l.map cTime) a w).length ≤ 7 := by
      unfold letterR
      by_cases h : askOK (l.map cTime) a = true
      · have hb := ask_bounds (by omega) h
        rw [if_pos h]
        split
        · rw [List.length_take]
          omega
        · simp
      · rw [if_neg h]
        simp
    generalize letterR (l.map cTime) a w = R at hI hR ⊢
    simp only [Option.bind_some]
    rw [eqIntS_f (by omega) (by omega), eqTimeS_f (by omega) (by omega)]
    obtain ⟨⟨m1, m2⟩, hm1, hm2⟩ := markTimeS_f (k := 2 * l.length + 100) (l := l.map cTime) (a := 1) (by omega) (by omega) (by omega) (by omega)
    simp only at hm2
    rw [hm1]
    have hq : ¬ (m1 < 0) := by omega
    have hq2 : ¬ ((1 : Int) + (R.length : Int) < 0) := by omega
    simp only [Option.bind_some, decide_true, if_true, if_neg hq, Bool.not_true, laws_FnExactGuessLetter.j0, Bool.false_eq_true, if_false]
    rw [markIntS_f (by omega) (by omega) (by omega) (by omega)]
    simp only [Option.bind_some]
    rw [heldIntS_f (by omega) (by omega) (by omega) (by omega), toTimeS_f (by omega) (by omega)]
    simp only [Option.bind_some, if_neg hq2, if_true, hI]
    rw [eqIntS_f (by omega) (by omega)]
    simp only [Option.bind_some, decide_true, if_true, if_neg hq2]

end Go.Proofs.Ytbjkjoicecmmpad.Pure
