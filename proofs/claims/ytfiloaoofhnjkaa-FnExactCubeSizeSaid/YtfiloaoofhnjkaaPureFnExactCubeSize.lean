/- The law on CubeSize holds for all arguments: the program tells what the reference tells, and leaves its argument as it was.
Conditions: none. -/
import Derived.Test.YtfiloaoofhnjkaaXFnExactCubeSizex2
import Derived.Test.YtfiloaoofhnjkaaXLib2
namespace Go.Proofs.Ytfiloaoofhnjkaa.Pure
open Go.RowKit Go.Proofs.Ytfiloaoofhnjkaa.XFnExactCubeSize Go.Proofs.YtfiloaoofhnjkaaW.PrintWords Go.Proofs.YtfiloaoofhnjkaaW.PrintLast Go.Proofs.YtfiloaoofhnjkaaW.PrintMore Go.Proofs.YtfiloaoofhnjkaaX
set_option linter.unusedVariables false
set_option linter.unusedSimpArgs false

theorem toIntS_f {k : Nat} {l : List Int} (hk : l.length < k) (hm : l.length ≤ 35184372088832) : laws_toIntS.f k l = some l := by
  unfold laws_toIntS.f
  rw [if_pos (by omega), if_pos (by omega)]
  refine run_inv (fun k (s : List Int) i => laws_toIntS.l0 k l s (i : Int)) l.length (fun i s => s.length = l.length ∧ ∀ j, j < i → s.getD j 0 = l.getD j 0) l ?_ ?_ k 0 _ (Nat.zero_le _) (by omega) ⟨by simp, fun j hj => absurd hj (Nat.not_lt_zero j)⟩
  · intro k i s hi ⟨hl, hs⟩
    refine Or.inr ⟨s.set i (l.getD i 0), ?_, by simpa using hl, fun j hj => ?_⟩
    · simp only [laws_toIntS.l0]
      rw [if_pos (by omega), if_pos (by omega), if_pos (by omega), wrap_id (by omega) (by omega), rd_nat]
      rfl
    · rw [getD_set _ _ _ _ _ (by omega)]
      by_cases e : j = i
      · rw [if_pos e, e]
      · rw [if_neg e]
        exact hs j (by omega)
  · intro k s ⟨hl, hs⟩
    simp only [laws_toIntS.l0]
    rw [if_neg (by omega), ext_getD hl hs]

theorem eqIntS_f {k : Nat} {a b : List Int} (hk : a.length < k) (hm : a.length ≤ 35184372088832) : laws_eqIntS.f k a b = some (decide (a = b)) := by
  unfold laws_eqIntS.f
  by_cases hab : a.length = b.length
  · rw [if_pos (by omega)]
    refine run_inv (fun k (_ : Unit) i => laws_eqIntS.l0 k a b (i : Int)) a.length (fun i _ => ∀ j, j < i → a.getD j 0 = b.getD j 0) _ ?_ ?_ k 0 () (Nat.zero_le _) (by omega) (fun j hj => absurd hj (Nat.not_lt_zero j))
    · intro k i _ hi hs
      by_cases e : a.getD i 0 = b.getD i 0
      · refine Or.inr ⟨(), ?_, fun j hj => ?_⟩
        · simp only [laws_eqIntS.l0]
          rw [if_pos (by omega), if_pos (by omega), if_pos (by omega), rd_nat, rd_nat, if_pos e, wrap_id (by omega) (by omega)]
          rfl
        · by_cases e2 : j = i
          · rw [e2]; exact e
          · exact hs j (by omega)
      · refine Or.inl ?_
        simp only [laws_eqIntS.l0]
        rw [if_pos (by omega), if_pos (by omega), if_pos (by omega), rd_nat, rd_nat, if_neg e, decide_eq_false (fun h => e (by rw [h]))]
    · intro k _ hs
      simp only [laws_eqIntS.l0]
      rw [if_neg (by omega), decide_eq_true (ext_getD hab (fun j hj => hs j (by omega)))]
  · rw [if_neg (by omega), decide_eq_false (fun h => hab (by rw [h]))]

theorem l1In_f (n a b : Int) : spec_l1In.f n a b = some (inB a b n) := by
  unfold spec_l1In.f inB
  by_cases h : n ≥ a
  · rw [if_pos h]; congr 1; simp; omega
  · rw [if_neg h, decide_eq_false (by omega)]

theorem spec_CubeValid_f {k : Nat} {l : List Int} {a : Int} (hk : l.length < k) (hm : l.length ≤ 35184372088832) : spec_CubeValid.f k l a = some (cubeOK l a) := by
  unfold spec_CubeValid.f
  refine (run_allL (fun k i => spec_CubeValid.l0 k l a (i : Int)) l 0 (inB 0 2) (inB 0 12 a && ((l.length : Int) == a)) false ?_ ?_ k hk).trans ?_
  · intro k i hi
    simp only [spec_CubeValid.l0]
    rw [if_pos (by omega), if_pos (by omega), l1In_f, rd_nat, wrap_id (by omega) (by omega)]
    rfl
  · intro k
    simp only [spec_CubeValid.l0]
    rw [if_neg (by omega), l1In_f]
    simp only [Option.bind_some]
    cases inB 0 12 a <;> simp
  · unfold cubeOK
    cases l.all (inB 0 2) <;> simp

theorem in_f (n a b : Int) : impl_in.f n a b = some (inB a b n) := by
  unfold impl_in.f inB
  by_cases h : n ≥ a
  · rw [if_pos h]; congr 1; simp; omega
  · rw [if_neg h, decide_eq_false (by omega)]

theorem contains_impl_CubeValid_1 {k : Nat} {l : List Int} (hk : l.length < k) (hm : l.length ≤ 35184372088832) : slices_ContainsFunc_int_int_impl_CubeValid_1.f k l = some (l.any fun x => !(inB 0 2 x)) := by
  unfold slices_ContainsFunc_int_int_impl_CubeValid_1.f slices_IndexFunc_int_int_impl_CubeValid_1.f
  obtain ⟨r, h1, h2⟩ := run_find (fun k i => slices_IndexFunc_int_int_impl_CubeValid_1.l0 k l (l.length : Int) (i : Int)) l 0 (fun x => !(inB 0 2 x)) (by
    intro k i hi
    simp only [slices_IndexFunc_int_int_impl_CubeValid_1.l0]
    rw [if_pos (by omega), if_pos (by omega), if_pos (by omega), rd_nat, wrap_id (by omega) (by omega)]
    unfold impl_CubeValid_1.f
    rw [in_f]
    rfl) (by
    intro k
    simp only [slices_IndexFunc_int_int_impl_CubeValid_1.l0]
    rw [if_neg (by omega)]) k hk
  have h1' : slices_IndexFunc_int_int_impl_CubeValid_1.l0 k l (l.length : Int) 0 = some r := h1
  rw [h1', Option.bind_some, h2]

theorem impl_CubeValid_f {k : Nat} {l : List Int} {a : Int} (hk : l.length < k) (hm : l.length ≤ 35184372088832) : impl_CubeValid.f k l a = some (cubeOK l a) := by
  unfold impl_CubeValid.f cubeOK
  rw [in_f, contains_impl_CubeValid_1 hk hm]
  simp only [Option.bind_some]
  have e : l.all (inB 0 2) = !(l.any fun x => !(inB 0 2 x)) := by simp [List.any_eq_not_all_not]
  rw [e]
  cases inB 0 12 a
  · simp
  · by_cases h : (l.length : Int) = a
    · simp [h]
    · simp [h]

def stepC (n x : Int) : Int := if x = 2 then wrap64 (n * 2) else n
theorem stepC_two {n x : Int} (h : x = 2) : stepC n x = wrap64 (n * 2) := if_pos h
theorem stepC_other {n x : Int} (h : ¬ x = 2) : stepC n x = n := if_neg h
theorem spec_CubeSize_l {k : Nat} {l : List Int} (hk : l.length < k) (hm : l.length ≤ 35184372088832) : spec_CubeSize.l0 k l 1 0 = some (l.foldl stepC 1) := by
  refine run_inv (fun k (s : Int) i => spec_CubeSize.l0 k l s (i : Int)) l.length (fun i s => s = (l.take i).foldl stepC 1) _ ?_ ?_ k 0 _ (Nat.zero_le _) (by omega) rfl
  · rintro k i s hi rfl
    refine Or.inr ⟨_, ?_, (foldl_take_succ stepC 1 l 0 i hi).symm⟩
    simp only [spec_CubeSize.l0]
    rw [if_pos (by omega), if_pos (by omega), rd_nat, wrap_id (x := (i : Int) + 1) (by omega) (by omega)]
    by_cases e : l.getD i 0 = 2
    · rw [if_pos e, stepC_two e]
      rfl
    · rw [if_neg e, stepC_other e]
      rfl
  · rintro k s rfl
    simp only [spec_CubeSize.l0]
    rw [if_neg (by omega), List.take_length]
theorem impl_CubeSize_l {k : Nat} {l : List Int} (hk : l.length < k) (hm : l.length ≤ 35184372088832) (hok : l.all (inB 0 2) = true) : impl_CubeSize.l0 k 1 l (l.length : Int) 0 = some (l.foldl stepC 1) := by
  refine run_inv (fun k (s : Int) i => impl_CubeSize.l0 k s l (l.length : Int) (i : Int)) l.length (fun i s => s = (l.take i).foldl stepC 1 ∧ -9223372036854775808 ≤ s ∧ s ≤ 9223372036854775807) _ ?_ ?_ k 0 _ (Nat.zero_le _) (by omega) ⟨rfl, by omega, by omega⟩
  · rintro k i s hi ⟨rfl, h0, h1⟩
    have hx := (all_getD l 0 (inB 0 2)).2 hok i hi
    unfold inB at hx
    have hx := of_decide_eq_true hx
    have e1 : wrap64 (1 + wrap64 (Int.tdiv (l.getD i 0) 2)) = if l.getD i 0 = 2 then 2 else 1 := by
      have : l.getD i 0 = 0 ∨ l.getD i 0 = 1 ∨ l.getD i 0 = 2 := by omega
      rcases this with h | h | h
      · rw [h, if_neg (by omega), show Int.tdiv 0 2 = 0 from rfl, wrap_id (x := 0) (by omega) (by omega), wrap_id (by omega) (by omega)]
        rfl
      · rw [h, if_neg (by omega), show Int.tdiv 1 2 = 0 from rfl, wrap_id (x := 0) (by omega) (by omega), wrap_id (by omega) (by omega)]
        rfl
      · rw [h, if_pos rfl, show Int.tdiv 2 2 = 1 from rfl, wrap_id (x := 1) (by omega) (by omega), wrap_id (by omega) (by omega)]
        rfl
    refine Or.inr ⟨_, ?_, (foldl_take_succ stepC 1 l 0 i hi).symm, ?_⟩
    · simp only [impl_CubeSize.l0]
      rw [if_pos (by omega), if_pos (by omega), if_pos (by omega), rd_nat, e1, wrap_id (x := (i : Int) + 1) (by omega) (by omega)]
      by_cases e : l.getD i 0 = 2
      · rw [if_pos e, stepC_two e]
        rfl
      · rw [if_neg e, stepC_other e, Int.mul_one, wrap_id (x := List.foldl _ _ _) h0 h1]
        rfl
    · by_cases e : l.getD i 0 = 2
      · rw [stepC_two e]
        exact wrap_range _
      · rw [stepC_other e]
        exact ⟨h0, h1⟩
  · rintro k s ⟨rfl, _⟩
    simp only [impl_CubeSize.l0]
    rw [if_neg (by omega), List.take_length]

theorem both {k : Nat} {l : List Int} (hk : l.length < k) (hm : l.length ≤ 35184372088832) : ∃ r, spec_CubeSize.f k l = some r ∧ impl_CubeSize.f k l = some r := by
  unfold spec_CubeSize.f impl_CubeSize.f
  rw [spec_CubeValid_f hk hm, impl_CubeValid_f hk hm]
  simp only [Option.bind_some]
  by_cases h : cubeOK l l.length = true
  · rw [if_pos h, if_pos h, spec_CubeSize_l hk hm, impl_CubeSize_l hk hm (by
      unfold cubeOK at h
      exact (Bool.and_eq_true_iff.1 (Bool.and_eq_true_iff.1 h).1).1)]
    exact ⟨_, rfl, rfl⟩
  · rw [if_neg h, if_neg h]
    exact ⟨_, rfl, rfl⟩

theorem FnExactCubeSize : laws_FnExactCubeSize.Pure := by
  intro l hl hl8 hw
  refine ⟨l.length + 1, ?_⟩
  unfold laws_FnExactCubeSize.f
  by_cases h : (l.length : Int) > 1048576
  · rw [if_pos h]
  · obtain ⟨r, h3, h4⟩ := both (k := l.length + 1) (l := l) (by omega) (by omega)
    rw [if_neg h, toIntS_f (by omega) (by omega)]
    simp only [Option.bind_some, h3, h4]
    rw [eqIntS_f (by omega) (by omega)]
    simp

end Go.Proofs.Ytfiloaoofhnjkaa.Pure
