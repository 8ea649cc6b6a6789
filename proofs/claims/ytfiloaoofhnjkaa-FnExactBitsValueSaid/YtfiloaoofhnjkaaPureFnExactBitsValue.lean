/- The law on BitsValue holds for all arguments: the program tells what the reference tells, and leaves its argument as it was.
Conditions: none. -/
import Derived.Test.YtfiloaoofhnjkaaXFnExactBitsValuex2
import Derived.Test.YtfiloaoofhnjkaaXLib2
namespace Go.Proofs.Ytfiloaoofhnjkaa.Pure
open Go.RowKit Go.Proofs.Ytfiloaoofhnjkaa.XFnExactBitsValue Go.Proofs.YtfiloaoofhnjkaaW.PrintWords Go.Proofs.YtfiloaoofhnjkaaW.PrintLast Go.Proofs.YtfiloaoofhnjkaaW.PrintMore Go.Proofs.YtfiloaoofhnjkaaX
set_option linter.unusedVariables false
set_option linter.unusedSimpArgs false

theorem toIntS_f {k : Nat} {l : List Int} (hk : l.length < k) (hm : l.length ≤ 35184372088832) : laws_toIntS.f k l = some l := by
  unfold laws_toIntS.f
  rw [if_pos (by omega), if_pos (by omega)]
  refine run_inv (fun k (s : List Int) i => laws_toIntS.l0 k l s (i : Int)) l.length (fun i s => s.length = l.length ∧ ∀ j, j < i → s.getD j 0 = l.getD j 0) l ?_ ?_ k 0 _ (Nat.zero_le _) (by omega) ⟨by simp, fun j hj => absurd hj (Nat.not_lt_zero j)⟩
  · intro k i s hi ⟨hl, hs⟩
    refine Or.inr ⟨s.set i (l.getD i 0), ?_, by simpa using hl, fun j hj => ?_⟩
    · simp only [laws_toIntS.l0]
      rw [if_pos (by omega), if_pos (by omega), if_pos (by omega), wrap_id (by omega) (by omega), rd_nat]
      rfl
    · rw [getD_set _ _ _ _ _ (by omega)]
      by_cases e : j = i
      · rw [if_pos e, e]
      · rw [if_neg e]
        exact hs j (by omega)
  · intro k s ⟨hl, hs⟩
    simp only [laws_toIntS.l0]
    rw [if_neg (by omega), ext_getD hl hs]

theorem eqIntS_f {k : Nat} {a b : List Int} (hk : a.length < k) (hm : a.length ≤ 35184372088832) : laws_eqIntS.f k a b = some (decide (a = b)) := by
  unfold laws_eqIntS.f
  by_cases hab : a.length = b.length
  · rw [if_pos (by omega)]
    refine run_inv (fun k (_ : Unit) i => laws_eqIntS.l0 k a b (i : Int)) a.length (fun i _ => ∀ j, j < i → a.getD j 0 = b.getD j 0) _ ?_ ?_ k 0 () (Nat.zero_le _) (by omega) (fun j hj => absurd hj (Nat.not_lt_zero j))
    · intro k i _ hi hs
      by_cases e : a.getD i 0 = b.getD i 0
      · refine Or.inr ⟨(), ?_, fun j hj => ?_⟩
        · simp only [laws_eqIntS.l0]
          rw [if_pos (by omega), if_pos (by omega), if_pos (by omega), rd_nat, rd_nat, if_pos e, wrap_id (by omega) (by omega)]
          rfl
        · by_cases e2 : j = i
          · rw [e2]; exact e
          · exact hs j (by omega)
      · refine Or.inl ?_
        simp only [laws_eqIntS.l0]
        rw [if_pos (by omega), if_pos (by omega), if_pos (by omega), rd_nat, rd_nat, if_neg e, decide_eq_false (fun h => e (by rw [h]))]
    · intro k _ hs
      simp only [laws_eqIntS.l0]
      rw [if_neg (by omega), decide_eq_true (ext_getD hab (fun j hj => hs j (by omega)))]
  · rw [if_neg (by omega), decide_eq_false (fun h => hab (by rw [h]))]

theorem l1In_f (n a b : Int) : spec_l1In.f n a b = some (inB a b n) := by
  unfold spec_l1In.f inB
  by_cases h : n ≥ a
  · rw [if_pos h]; congr 1; simp; omega
  · rw [if_neg h, decide_eq_false (by omega)]

theorem l6Are_f {k : Nat} {l : List Int} (hk : l.length < k) (hm : l.length ≤ 35184372088832) : spec_l6Are.f k l = some (l.all (inB 0 1)) := by
  unfold spec_l6Are.f
  refine (run_allL (fun k i => spec_l6Are.l0 k l (i : Int)) l 0 (inB 0 1) true false ?_ ?_ k hk).trans ?_
  · intro k i hi
    simp only [spec_l6Are.l0]
    rw [if_pos (by omega), if_pos (by omega), l1In_f, rd_nat, wrap_id (by omega) (by omega)]
    rfl
  · intro k
    simp only [spec_l6Are.l0]
    rw [if_neg (by omega)]
  · cases l.all (inB 0 1) <;> simp

theorem in_f (n a b : Int) : impl_in.f n a b = some (inB a b n) := by
  unfold impl_in.f inB
  by_cases h : n ≥ a
  · rw [if_pos h]; congr 1; simp; omega
  · rw [if_neg h, decide_eq_false (by omega)]

theorem contains_impl_bitsValid_1 {k : Nat} {l : List Int} (hk : l.length < k) (hm : l.length ≤ 35184372088832) : slices_ContainsFunc_int_int_impl_bitsValid_1.f k l = some (l.any fun x => !(inB 0 1 x)) := by
  unfold slices_ContainsFunc_int_int_impl_bitsValid_1.f slices_IndexFunc_int_int_impl_bitsValid_1.f
  obtain ⟨r, h1, h2⟩ := run_find (fun k i => slices_IndexFunc_int_int_impl_bitsValid_1.l0 k l (l.length : Int) (i : Int)) l 0 (fun x => !(inB 0 1 x)) (by
    intro k i hi
    simp only [slices_IndexFunc_int_int_impl_bitsValid_1.l0]
    rw [if_pos (by omega), if_pos (by omega), if_pos (by omega), rd_nat, wrap_id (by omega) (by omega)]
    unfold impl_bitsValid_1.f
    rw [in_f]
    rfl) (by
    intro k
    simp only [slices_IndexFunc_int_int_impl_bitsValid_1.l0]
    rw [if_neg (by omega)]) k hk
  have h1' : slices_IndexFunc_int_int_impl_bitsValid_1.l0 k l (l.length : Int) 0 = some r := h1
  rw [h1', Option.bind_some, h2]

theorem impl_bitsValid_f {k : Nat} {l : List Int} (hk : l.length < k) (hm : l.length ≤ 35184372088832) : impl_bitsValid.f k l = some (l.all (inB 0 1)) := by
  unfold impl_bitsValid.f
  rw [contains_impl_bitsValid_1 hk hm]
  simp only [Option.bind_some]
  have e : l.all (inB 0 1) = !(l.any fun x => !(inB 0 1 x)) := by simp [List.any_eq_not_all_not]
  rw [e]

def stepN (n b : Int) : Int := wrap64 (wrap64 (n * 2) + b)
theorem l6Number_f {k : Nat} {l : List Int} (hk : l.length < k) (hm : l.length ≤ 35184372088832) : spec_l6Number.f k l = some (l.foldl stepN 0) := by
  unfold spec_l6Number.f
  refine run_inv (fun k (s : Int) i => spec_l6Number.l0 k l s (i : Int)) l.length (fun i s => s = (l.take i).foldl stepN 0) _ ?_ ?_ k 0 _ (Nat.zero_le _) (by omega) rfl
  · rintro k i s hi rfl
    refine Or.inr ⟨_, ?_, (foldl_take_succ stepN 0 l 0 i hi).symm⟩
    simp only [spec_l6Number.l0]
    rw [if_pos (by omega), if_pos (by omega), rd_nat, wrap_id (x := (i : Int) + 1) (by omega) (by omega)]
    rfl
  · rintro k s rfl
    simp only [spec_l6Number.l0]
    rw [if_neg (by omega), List.take_length]
theorem bitsValue_f {k : Nat} {l : List Int} (hk : l.length < k) (hm : l.length ≤ 35184372088832) : impl_bitsValue.f k l = some (l.foldl stepN 0) := by
  unfold impl_bitsValue.f
  refine run_inv (fun k (s : Int) i => impl_bitsValue.l0 k s l (l.length : Int) (i : Int)) l.length (fun i s => s = (l.take i).foldl stepN 0) _ ?_ ?_ k 0 _ (Nat.zero_le _) (by omega) rfl
  · rintro k i s hi rfl
    refine Or.inr ⟨_, ?_, (foldl_take_succ stepN 0 l 0 i hi).symm⟩
    simp only [impl_bitsValue.l0]
    rw [if_pos (by omega), if_pos (by omega), if_pos (by omega), rd_nat, wrap_id (x := (i : Int) + 1) (by omega) (by omega), Int.mul_comm 2]
    rfl
  · rintro k s rfl
    simp only [impl_bitsValue.l0]
    rw [if_neg (by omega), List.take_length]

theorem both {k : Nat} {l : List Int} (hk : l.length < k) (hm : l.length ≤ 35184372088832) : ∃ r, spec_BitsValue.f k l = some r ∧ impl_BitsValue.f k l = some r := by
  unfold spec_BitsValue.f impl_BitsValue.f
  rw [l6Are_f hk hm, impl_bitsValid_f hk hm, l6Number_f hk hm, bitsValue_f hk hm]
  by_cases h : (l.length : Int) > 12
  · simp only [if_pos h]
    exact ⟨_, rfl, rfl⟩
  · simp only [if_neg h, Option.bind_some]
    cases l.all (inB 0 1)
    · exact ⟨_, rfl, rfl⟩
    · exact ⟨_, rfl, rfl⟩

theorem FnExactBitsValue : laws_FnExactBitsValue.Pure := by
  intro l hl hl8 hw
  refine ⟨l.length + 1, ?_⟩
  unfold laws_FnExactBitsValue.f
  by_cases h : (l.length : Int) > 1048576
  · rw [if_pos h]
  · obtain ⟨r, h3, h4⟩ := both (k := l.length + 1) (l := l) (by omega) (by omega)
    rw [if_neg h, toIntS_f (by omega) (by omega)]
    simp only [Option.bind_some, h3, h4]
    rw [eqIntS_f (by omega) (by omega)]
    simp

end Go.Proofs.Ytfiloaoofhnjkaa.Pure
