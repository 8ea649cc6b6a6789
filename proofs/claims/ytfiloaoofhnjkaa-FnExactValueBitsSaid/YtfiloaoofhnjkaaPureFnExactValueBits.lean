/- The law on ValueBits holds for all arguments: the program's bits of a number are the reference's, and lie in memory of their own.
Conditions: none. -/
import Derived.Test.YtfiloaoofhnjkaaXFnExactValueBitsx2
import Derived.Test.YtfiloaoofhnjkaaXLib2
namespace Go.Proofs.Ytfiloaoofhnjkaa.Pure
open Go.RowKit Go.Proofs.Ytfiloaoofhnjkaa.XFnExactValueBits Go.Proofs.YtfiloaoofhnjkaaW.PrintWords Go.Proofs.YtfiloaoofhnjkaaW.PrintLast Go.Proofs.YtfiloaoofhnjkaaW.PrintMore Go.Proofs.YtfiloaoofhnjkaaX
set_option linter.unusedVariables false
set_option linter.unusedSimpArgs false

theorem eqIntS_f {k : Nat} {a b : List Int} (hk : a.length < k) (hm : a.length ≤ 35184372088832) : laws_eqIntS.f k a b = some (decide (a = b)) := by
  unfold laws_eqIntS.f
  by_cases hab : a.length = b.length
  · rw [if_pos (by omega)]
    refine run_inv (fun k (_ : Unit) i => laws_eqIntS.l0 k a b (i : Int)) a.length (fun i _ => ∀ j, j < i → a.getD j 0 = b.getD j 0) _ ?_ ?_ k 0 () (Nat.zero_le _) (by omega) (fun j hj => absurd hj (Nat.not_lt_zero j))
    · intro k i _ hi hs
      by_cases e : a.getD i 0 = b.getD i 0
      · refine Or.inr ⟨(), ?_, fun j hj => ?_⟩
        · simp only [laws_eqIntS.l0]
          rw [if_pos (by omega), if_pos (by omega), if_pos (by omega), rd_nat, rd_nat, if_pos e, wrap_id (by omega) (by omega)]
          rfl
        · by_cases e2 : j = i
          · rw [e2]; exact e
          · exact hs j (by omega)
      · refine Or.inl ?_
        simp only [laws_eqIntS.l0]
        rw [if_pos (by omega), if_pos (by omega), if_pos (by omega), rd_nat, rd_nat, if_neg e, decide_eq_false (fun h => e (by rw [h]))]
    · intro k _ hs
      simp only [laws_eqIntS.l0]
      rw [if_neg (by omega), decide_eq_true (ext_getD hab (fun j hj => hs j (by omega)))]
  · rw [if_neg (by omega), decide_eq_false (fun h => hab (by rw [h]))]

theorem l1In_f (n a b : Int) : spec_l1In.f n a b = some (inB a b n) := by
  unfold spec_l1In.f inB
  by_cases h : n ≥ a
  · rw [if_pos h]; congr 1; simp; omega
  · rw [if_neg h, decide_eq_false (by omega)]

theorem l6Value_f {k m : Nat} {n : Int} (hn : 0 ≤ n) (hm : m ≤ 60) (hk : m < k) : spec_l6Value.f k n (m : Int) = some (bitsL n m) := by
  unfold spec_l6Value.f
  rw [wrap_id (by omega) (by omega)]
  have e0 : ((m : Int) - 1) = (m : Int) - 1 - ((0 : Nat) : Int) := by omega
  rw [e0]
  refine run_inv (fun k (s : List Int) i => spec_l6Value.l0 k n s ((m : Int) - 1 - (i : Int))) m (fun i s => s = (bitsL n m).take i) _ ?_ ?_ k 0 [] (Nat.zero_le _) (by omega) (by simp)
  · rintro k i s hi rfl
    have hl : ((bitsL n m).take i).length = i := by rw [List.length_take, bitsL_length]; omega
    refine Or.inr ⟨_, ?_, (take_succ_getD (bitsL n m) i 0 (by rw [bitsL_length]; exact hi)).symm⟩
    simp only [spec_l6Value.l0]
    have ej : ((m : Int) - 1 - (i : Int)) = ((m - 1 - i : Nat) : Int) := by omega
    have ew : wrap64 (((m - 1 - i : Nat) : Int) - 1) = (m : Int) - 1 - ((i + 1 : Nat) : Int) := by rw [wrap_id (by omega) (by omega)]; omega
    rw [ej, if_pos (by omega), if_pos (by omega), if_pos (by rw [hl]; omega), shr_nat _ _ (by omega), Int.tmod_eq_emod_of_nonneg (Int.ediv_nonneg hn (Int.le_of_lt (pow_pos_int _))), ew, bitsL_getD _ _ _ hi]
  · rintro k s rfl
    simp only [spec_l6Value.l0]
    rw [if_neg (by omega), List.take_of_length_le (by rw [bitsL_length]; omega)]

theorem in_f (n a b : Int) : impl_in.f n a b = some (inB a b n) := by
  unfold impl_in.f inB
  by_cases h : n ≥ a
  · rw [if_pos h]; congr 1; simp; omega
  · rw [if_neg h, decide_eq_false (by omega)]

theorem clone_int_f {l : List Int} (h : l.length ≤ 35184372088832) : impl_clone_int.f l = some l := by
  unfold impl_clone_int.f
  rw [if_pos h]

theorem valueBits_f {k m : Nat} {n : Int} (hn : 0 ≤ n) (hn2 : n ≤ 9223372036854775807) (hm : m ≤ 60) (hk : m < k) : impl_valueBits.f k n (m : Int) = some (bitsL n m) := by
  unfold impl_valueBits.f
  rw [if_pos (by omega), if_pos (by omega)]
  simp only [Option.bind_some, Int.toNat_natCast, List.length_replicate]
  refine (?_ : impl_valueBits.l0 k n (m : Int) (List.replicate m 0) (m : Int) ((0 : Nat) : Int) = _)
  refine run_inv (fun k (s : List Int) i => impl_valueBits.l0 k n (m : Int) s (m : Int) (i : Int)) m (fun i s => s.length = m ∧ ∀ j, j < i → s.getD j 0 = (bitsL n m).getD j 0) _ ?_ ?_ k 0 _ (Nat.zero_le _) (by omega) ⟨by simp, fun j hj => absurd hj (Nat.not_lt_zero j)⟩
  · intro k i s hi ⟨hl, hs⟩
    refine Or.inr ⟨s.set i ((bitsL n m).getD i 0), ?_, by simpa using hl, fun j hj => ?_⟩
    · simp only [impl_valueBits.l0]
      have ej : wrap64 (wrap64 ((m : Int) - 1) - (i : Int)) = ((m - 1 - i : Nat) : Int) := by
        rw [wrap_id (x := (m : Int) - 1) (by omega) (by omega), wrap_id (by omega) (by omega)]
        omega
      have h2 : n / 2 ^ (m - 1 - i) ≤ n := Int.ediv_le_self _ hn
      rw [ej, if_pos (by omega), if_pos (by omega), if_pos (by omega), if_pos (by omega), shr_nat _ _ (by omega), and_one (Int.ediv_nonneg hn (Int.le_of_lt (pow_pos_int _))) (by omega), wrap_id (by omega) (by omega), bitsL_getD _ _ _ hi]
      rfl
    · rw [getD_set _ _ _ _ _ (by omega)]
      by_cases e : j = i
      · rw [if_pos e, e]
      · rw [if_neg e]
        exact hs j (by omega)
  · intro k s ⟨hl, hs⟩
    simp only [impl_valueBits.l0]
    rw [if_neg (by omega), ext_getD (d := 0) (l := bitsL n m) (by rw [bitsL_length]; exact hl) (fun j hj => hs j (by rw [bitsL_length] at hj; exact hj))]

theorem markIntS_f {k : Nat} {l : List Int} {a : Int} (hk : l.length < k) (hm : l.length ≤ 35184372088832) (h0 : 0 ≤ a) (h1 : a ≤ 1000000000000000000) : laws_markIntS.f k l a = some (a + l.length, marks a l.length) := by
  unfold laws_markIntS.f
  refine (?_ : laws_markIntS.l0 k l a ((0 : Nat) : Int) = _)
  refine run_inv (fun k (s : List Int × Int) i => laws_markIntS.l0 k s.1 s.2 (i : Int)) l.length (fun i s => s.1.length = l.length ∧ s.2 = a + (i : Int) ∧ ∀ j, j < i → s.1.getD j 0 = a + (j : Int)) _ ?_ ?_ k 0 (l, a) (Nat.zero_le _) (by omega) ⟨rfl, by simp, fun j hj => absurd hj (Nat.not_lt_zero j)⟩
  · rintro k i ⟨s, c⟩ hi ⟨hl, hc, hs⟩
    simp only at hl hc hs
    subst hc
    refine Or.inr ⟨(s.set i (a + (i : Int)), a + (i : Int) + 1), ?_, by simpa using hl, by simp only [Int.natCast_add]; omega, fun j hj => ?_⟩
    · simp only [laws_markIntS.l0]
      rw [if_pos (by omega), if_pos (by omega), wrap_id (x := a + (i : Int) + 1) (by omega) (by omega), wrap_id (by omega) (by omega)]
      rfl
    · simp only
      rw [getD_set _ _ _ _ _ (by omega)]
      by_cases e : j = i
      · rw [if_pos e, e]
      · rw [if_neg e]
        exact hs j (by omega)
  · rintro k ⟨s, c⟩ ⟨hl, hc, hs⟩
    simp only at hl hc hs
    subst hc
    simp only [laws_markIntS.l0]
    rw [if_neg (by omega), ext_getD (d := 0) (s := s) (l := marks a l.length) (by rw [marks_length]; exact hl) (fun j hj => by rw [marks_length] at hj; rw [marks_getD _ _ _ hj]; exact hs j hj)]

theorem heldIntS_f {k : Nat} {n : Nat} {a : Int} (hk : n < k) (hm : n ≤ 35184372088832) (h0 : 0 ≤ a) (h1 : a ≤ 1000000000000000000) : laws_heldIntS.f k (marks a n) a = some (a + (n : Int)) := by
  unfold laws_heldIntS.f
  refine (?_ : laws_heldIntS.l0 k (marks a n) a ((0 : Nat) : Int) = _)
  have hlen := marks_length a n
  refine run_inv (fun k (s : Int) i => laws_heldIntS.l0 k (marks a n) s (i : Int)) n (fun i s => s = a + (i : Int)) _ ?_ ?_ k 0 a (Nat.zero_le _) (by omega) (by simp)
  · rintro k i s hi rfl
    refine Or.inr ⟨a + (i : Int) + 1, ?_, by simp only [Int.natCast_add]; omega⟩
    simp only [laws_heldIntS.l0]
    rw [if_pos (by omega), if_pos (by omega), rd_nat, marks_getD _ _ _ hi, if_pos rfl, wrap_id (x := a + (i : Int) + 1) (by omega) (by omega), wrap_id (by omega) (by omega)]
    rfl
  · rintro k s rfl
    simp only [laws_heldIntS.l0]
    rw [if_neg (by omega)]

theorem both (n many : Int) : ∃ R : List Int, R.length ≤ 12 ∧ spec_ValueBits.f 20 n many = some R ∧ impl_ValueBits.f 20 n many = some R := by
  unfold spec_ValueBits.f impl_ValueBits.f
  simp only [l1In_f, in_f, Option.bind_some, impl_ValueBits.j0]
  unfold inB
  by_cases hm : 0 ≤ many ∧ many ≤ 12
  · obtain ⟨m, rfl⟩ : ∃ m : Nat, many = (m : Int) := ⟨many.toNat, by omega⟩
    have hp := pow_le_int m 12 (by omega)
    have hp0 := pow_pos_int m
    rw [if_pos (decide_eq_true hm), if_pos (decide_eq_true hm), if_pos hm.1, shl_one m (by omega), wrap_id (by omega) (by omega)]
    by_cases h0 : n < 0
    · refine ⟨[], by simp, by rw [if_pos h0], ?_⟩
      rw [decide_eq_false (by omega)]
      simp
    · rw [if_neg h0]
      rw [if_pos hm.1]
      by_cases h1 : n ≥ 2 ^ m
      · refine ⟨[], by simp, by rw [if_pos h1], ?_⟩
        rw [decide_eq_false (by omega)]
        simp
      · refine ⟨bitsL n m, by rw [bitsL_length]; omega, ?_, ?_⟩
        · rw [if_neg h1, l6Value_f (by omega) (by omega) (by omega)]
          rfl
        · rw [decide_eq_true (by omega), valueBits_f (by omega) (by omega) (by omega) (by omega)]
          simp only [Bool.not_true, Option.bind_some]
          rw [clone_int_f (by rw [bitsL_length]; omega)]
          simp
  · refine ⟨[], by simp, ?_, ?_⟩
    · rw [decide_eq_false hm]
      simp
    · rw [decide_eq_false hm]
      simp

theorem FnExactValueBits : laws_FnExactValueBits.Pure := by
  intro n many hn hm
  obtain ⟨R, hl, h1, h2⟩ := both n many
  refine ⟨20, ?_⟩
  unfold laws_FnExactValueBits.f
  rw [h1, h2]
  simp only [Option.bind_some]
  rw [eqIntS_f (by omega) (by omega), markIntS_f (by omega) (by omega) (by omega) (by omega)]
  simp only [Option.bind_some]
  rw [heldIntS_f (by omega) (by omega) (by omega) (by omega)]
  have hq : ¬ ((1 : Int) + (R.length : Int) < 0) := by omega
  simp only [decide_true, if_true, Option.bind_some, if_neg hq]

end Go.Proofs.Ytfiloaoofhnjkaa.Pure
