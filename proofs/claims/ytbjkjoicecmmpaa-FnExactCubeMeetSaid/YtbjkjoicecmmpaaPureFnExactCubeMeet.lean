/- The law on CubeMeet holds for all arguments: the program's cube is the reference's, in memory of its own, and the arguments stay as they were.
Conditions: none. -/
import Derived.Test.YtbjkjoicecmmpaaXFnExactCubeMeetx5
import Derived.Test.YtbjkjoicecmmpaaXLib2
namespace Go.Proofs.Ytbjkjoicecmmpaa.Pure
open Go.RowKit Go.Proofs.Ytbjkjoicecmmpaa.XFnExactCubeMeet Go.Proofs.YtbjkjoicecmmpaaW.PrintWords Go.Proofs.YtbjkjoicecmmpaaW.PrintLast Go.Proofs.YtbjkjoicecmmpaaW.PrintMore Go.Proofs.YtbjkjoicecmmpaaX
set_option linter.unusedVariables false
set_option linter.unusedSimpArgs false

theorem l1In_f (n a b : Int) : spec_l1In.f n a b = some (inB a b n) := by
  unfold spec_l1In.f inB
  by_cases h : n ≥ a
  · rw [if_pos h]; congr 1; simp; omega
  · rw [if_neg h, decide_eq_false (by omega)]

theorem spec_CubeValid_f {k : Nat} {l : List Int} {a : Int} (hk : l.length < k) (hm : l.length ≤ 35184372088832) : spec_CubeValid.f k l a = some (cubeOK l a) := by
  unfold spec_CubeValid.f
  refine (run_allL (fun k i => spec_CubeValid.l0 k l a (i : Int)) l 0 (inB 0 2) (inB 0 12 a && ((l.length : Int) == a)) false ?_ ?_ k hk).trans ?_
  · intro k i hi
    simp only [spec_CubeValid.l0]
    rw [if_pos (by omega), if_pos (by omega), l1In_f, rd_nat, wrap_id (by omega) (by omega)]
    rfl
  · intro k
    simp only [spec_CubeValid.l0]
    rw [if_neg (by omega), l1In_f]
    simp only [Option.bind_some]
    cases inB 0 12 a <;> simp
  · unfold cubeOK
    cases l.all (inB 0 2) <;> simp

theorem l16Two_f {k : Nat} {a b : List Int} (hk : a.length < k) (hk2 : b.length < k) (hm : a.length ≤ 35184372088832) (hm2 : b.length ≤ 35184372088832) : spec_l16Two.f k a b = some (cubeOK a a.length && cubeOK b a.length) := by
  unfold spec_l16Two.f
  rw [spec_CubeValid_f hk hm, spec_CubeValid_f hk2 hm2]
  simp only [Option.bind_some]
  cases cubeOK a a.length <;> simp

theorem toIntS_f {k : Nat} {l : List Int} (hk : l.length < k) (hm : l.length ≤ 35184372088832) : laws_toIntS.f k l = some l := by
  unfold laws_toIntS.f
  rw [if_pos (by omega), if_pos (by omega)]
  refine run_inv (fun k (s : List Int) i => laws_toIntS.l0 k l s (i : Int)) l.length (fun i s => s.length = l.length ∧ ∀ j, j < i → s.getD j 0 = l.getD j 0) l ?_ ?_ k 0 _ (Nat.zero_le _) (by omega) ⟨by simp, fun j hj => absurd hj (Nat.not_lt_zero j)⟩
  · intro k i s hi ⟨hl, hs⟩
    refine Or.inr ⟨s.set i (l.getD i 0), ?_, by simpa using hl, fun j hj => ?_⟩
    · simp only [laws_toIntS.l0]
      rw [if_pos (by omega), if_pos (by omega), if_pos (by omega), wrap_id (by omega) (by omega), rd_nat]
      rfl
    · rw [getD_set _ _ _ _ _ (by omega)]
      by_cases e : j = i
      · rw [if_pos e, e]
      · rw [if_neg e]
        exact hs j (by omega)
  · intro k s ⟨hl, hs⟩
    simp only [laws_toIntS.l0]
    rw [if_neg (by omega), ext_getD hl hs]

theorem in_f (n a b : Int) : impl_in.f n a b = some (inB a b n) := by
  unfold impl_in.f inB
  by_cases h : n ≥ a
  · rw [if_pos h]; congr 1; simp; omega
  · rw [if_neg h, decide_eq_false (by omega)]

theorem contains_impl_CubeValid_1 {k : Nat} {l : List Int} (hk : l.length < k) (hm : l.length ≤ 35184372088832) : slices_ContainsFunc_int_int_impl_CubeValid_1.f k l = some (l.any fun x => !(inB 0 2 x)) := by
  unfold slices_ContainsFunc_int_int_impl_CubeValid_1.f slices_IndexFunc_int_int_impl_CubeValid_1.f
  obtain ⟨r, h1, h2⟩ := run_find (fun k i => slices_IndexFunc_int_int_impl_CubeValid_1.l0 k l (l.length : Int) (i : Int)) l 0 (fun x => !(inB 0 2 x)) (by
    intro k i hi
    simp only [slices_IndexFunc_int_int_impl_CubeValid_1.l0]
    rw [if_pos (by omega), if_pos (by omega), if_pos (by omega), rd_nat, wrap_id (by omega) (by omega)]
    unfold impl_CubeValid_1.f
    rw [in_f]
    rfl) (by
    intro k
    simp only [slices_IndexFunc_int_int_impl_CubeValid_1.l0]
    rw [if_neg (by omega)]) k hk
  have h1' : slices_IndexFunc_int_int_impl_CubeValid_1.l0 k l (l.length : Int) 0 = some r := h1
  rw [h1', Option.bind_some, h2]

theorem impl_CubeValid_f {k : Nat} {l : List Int} {a : Int} (hk : l.length < k) (hm : l.length ≤ 35184372088832) : impl_CubeValid.f k l a = some (cubeOK l a) := by
  unfold impl_CubeValid.f cubeOK
  rw [in_f, contains_impl_CubeValid_1 hk hm]
  simp only [Option.bind_some]
  have e : l.all (inB 0 2) = !(l.any fun x => !(inB 0 2 x)) := by simp [List.any_eq_not_all_not]
  rw [e]
  cases inB 0 12 a
  · simp
  · by_cases h : (l.length : Int) = a
    · simp [h]
    · simp [h]

theorem bothCubes_f {k : Nat} {a b : List Int} (hk : a.length < k) (hk2 : b.length < k) (hm : a.length ≤ 35184372088832) (hm2 : b.length ≤ 35184372088832) : impl_bothCubes.f k a b = some (cubeOK a a.length && cubeOK b a.length) := by
  unfold impl_bothCubes.f
  rw [impl_CubeValid_f hk hm, impl_CubeValid_f hk2 hm2]
  simp only [Option.bind_some]
  cases cubeOK a a.length <;> simp

theorem clone_int_f {l : List Int} (h : l.length ≤ 35184372088832) : impl_clone_int.f l = some l := by
  unfold impl_clone_int.f
  rw [if_pos h]

theorem eqIntS_f {k : Nat} {a b : List Int} (hk : a.length < k) (hm : a.length ≤ 35184372088832) : laws_eqIntS.f k a b = some (decide (a = b)) := by
  unfold laws_eqIntS.f
  by_cases hab : a.length = b.length
  · rw [if_pos (by omega)]
    refine run_inv (fun k (_ : Unit) i => laws_eqIntS.l0 k a b (i : Int)) a.length (fun i _ => ∀ j, j < i → a.getD j 0 = b.getD j 0) _ ?_ ?_ k 0 () (Nat.zero_le _) (by omega) (fun j hj => absurd hj (Nat.not_lt_zero j))
    · intro k i _ hi hs
      by_cases e : a.getD i 0 = b.getD i 0
      · refine Or.inr ⟨(), ?_, fun j hj => ?_⟩
        · simp only [laws_eqIntS.l0]
          rw [if_pos (by omega), if_pos (by omega), if_pos (by omega), rd_nat, rd_nat, if_pos e, wrap_id (by omega) (by omega)]
          rfl
        · by_cases e2 : j = i
          · rw [e2]; exact e
          · exact hs j (by omega)
      · refine Or.inl ?_
        simp only [laws_eqIntS.l0]
        rw [if_pos (by omega), if_pos (by omega), if_pos (by omega), rd_nat, rd_nat, if_neg e, decide_eq_false (fun h => e (by rw [h]))]
    · intro k _ hs
      simp only [laws_eqIntS.l0]
      rw [if_neg (by omega), decide_eq_true (ext_getD hab (fun j hj => hs j (by omega)))]
  · rw [if_neg (by omega), decide_eq_false (fun h => hab (by rw [h]))]

theorem markIntS_f {k : Nat} {l : List Int} {a : Int} (hk : l.length < k) (hm : l.length ≤ 35184372088832) (h0 : 0 ≤ a) (h1 : a ≤ 1000000000000000000) : laws_markIntS.f k l a = some (a + l.length, marks a l.length) := by
  unfold laws_markIntS.f
  refine (?_ : laws_markIntS.l0 k l a ((0 : Nat) : Int) = _)
  refine run_inv (fun k (s : List Int × Int) i => laws_markIntS.l0 k s.1 s.2 (i : Int)) l.length (fun i s => s.1.length = l.length ∧ s.2 = a + (i : Int) ∧ ∀ j, j < i → s.1.getD j 0 = a + (j : Int)) _ ?_ ?_ k 0 (l, a) (Nat.zero_le _) (by omega) ⟨rfl, by simp, fun j hj => absurd hj (Nat.not_lt_zero j)⟩
  · rintro k i ⟨s, c⟩ hi ⟨hl, hc, hs⟩
    simp only at hl hc hs
    subst hc
    refine Or.inr ⟨(s.set i (a + (i : Int)), a + (i : Int) + 1), ?_, by simpa using hl, by simp only [Int.natCast_add]; omega, fun j hj => ?_⟩
    · simp only [laws_markIntS.l0]
      rw [if_pos (by omega), if_pos (by omega), wrap_id (x := a + (i : Int) + 1) (by omega) (by omega), wrap_id (by omega) (by omega)]
      rfl
    · simp only
      rw [getD_set _ _ _ _ _ (by omega)]
      by_cases e : j = i
      · rw [if_pos e, e]
      · rw [if_neg e]
        exact hs j (by omega)
  · rintro k ⟨s, c⟩ ⟨hl, hc, hs⟩
    simp only at hl hc hs
    subst hc
    simp only [laws_markIntS.l0]
    rw [if_neg (by omega), ext_getD (d := 0) (s := s) (l := marks a l.length) (by rw [marks_length]; exact hl) (fun j hj => by rw [marks_length] at hj; rw [marks_getD _ _ _ hj]; exact hs j hj)]

theorem heldIntS_f {k : Nat} {n : Nat} {a : Int} (hk : n < k) (hm : n ≤ 35184372088832) (h0 : 0 ≤ a) (h1 : a ≤ 1000000000000000000) : laws_heldIntS.f k (marks a n) a = some (a + (n : Int)) := by
  unfold laws_heldIntS.f
  refine (?_ : laws_heldIntS.l0 k (marks a n) a ((0 : Nat) : Int) = _)
  have hlen := marks_length a n
  refine run_inv (fun k (s : Int) i => laws_heldIntS.l0 k (marks a n) s (i : Int)) n (fun i s => s = a + (i : Int)) _ ?_ ?_ k 0 a (Nat.zero_le _) (by omega) (by simp)
  · rintro k i s hi rfl
    refine Or.inr ⟨a + (i : Int) + 1, ?_, by simp only [Int.natCast_add]; omega⟩
    simp only [laws_heldIntS.l0]
    rw [if_pos (by omega), if_pos (by omega), rd_nat, marks_getD _ _ _ hi, if_pos rfl, wrap_id (x := a + (i : Int) + 1) (by omega) (by omega), wrap_id (by omega) (by omega)]
    rfl
  · rintro k s rfl
    simp only [laws_heldIntS.l0]
    rw [if_neg (by omega)]

def agreeAt (a b : List Int) (j : Nat) : Bool := a.getD j 0 == 2 || b.getD j 0 == 2 || a.getD j 0 == b.getD j 0
def meetR (a b : List Int) : List Int × Bool := if (cubeOK a a.length && cubeOK b a.length) = true then (if ((List.range a.length).all fun j => agreeAt a b j) = true then (meetL a b, true) else ([], false)) else ([], false)

theorem spec_meet {k : Nat} {a b : List Int} (hk : 3 * a.length + b.length + 10 < k) (hm : a.length ≤ 1048576) (hm2 : b.length ≤ 1048576) :
    spec_CubeMeet.f k a b = some (meetR a b) := by
  unfold spec_CubeMeet.f
  rw [l16Two_f (by omega) (by omega) (by omega) (by omega)]
  simp only [Option.bind_some]
  unfold meetR
  by_cases h : (cubeOK a a.length && cubeOK b a.length) = true
  · rw [if_pos h, if_pos h]
    have hb := (len_of_ok (Bool.and_eq_true_iff.1 h).2).1
    refine run_invC 1 0 (fun k (s : List Int) i => spec_CubeMeet.l0 k a b s (i : Int)) a.length (fun i s => s = (meetL a b).take i ∧ ∀ j, j < i → agreeAt a b j = true) _ ?_ ?_ k 0 [] (Nat.zero_le _) (by omega) ⟨by simp, fun j hj => absurd hj (Nat.not_lt_zero j)⟩
    · rintro k i s hB hi ⟨rfl, hs⟩
      have hl := take_map_range_length (fun j => if a.getD j 0 = 2 then b.getD j 0 else a.getD j 0) a.length i (by omega)
      have c1 : (i : Int) < (a.length : Int) := by omega
      have c2 : (0 : Int) ≤ (i : Int) := by omega
      have c3 : (i : Int) < (b.length : Int) := by omega
      have c4 : (List.take i (meetL a b)).length < 17592186044416 := by unfold meetL; rw [hl]; omega
      simp only [spec_CubeMeet.l0, spec_CubeMeet.j1, if_pos c1, if_pos c2, if_pos c3, if_pos c4, wrap_id (x := (i : Int) + 1) (by omega) (by omega), rd_nat]
      have hnext : ∀ j, agreeAt a b i = true → j < i + 1 → agreeAt a b j = true := by
        intro j hi' hj
        by_cases e : j = i
        · rw [e]; exact hi'
        · exact hs j (by omega)
      by_cases e : a.getD i 0 = 2
      · rw [if_pos e]
        have hag : agreeAt a b i = true := by unfold agreeAt; rw [e]; simp
        refine Or.inr ⟨_, ?_, (take_map_range_succ _ a.length i hi).symm, fun j hj => hnext j hag hj⟩
        rw [if_neg (by decide)]
        try rw [if_pos e]
        try rw [if_pos e]
        rfl
      · rw [if_neg e]
        by_cases e2 : b.getD i 0 = 2
        · rw [if_pos e2]
          have hag : agreeAt a b i = true := by unfold agreeAt; rw [e2]; simp
          refine Or.inr ⟨_, ?_, (take_map_range_succ _ a.length i hi).symm, fun j hj => hnext j hag hj⟩
          rw [if_neg (by decide)]
          try rw [if_neg e]
          try rw [if_neg e]
          rfl
        · rw [if_neg e2]
          by_cases e3 : a.getD i 0 = b.getD i 0
          · have hag : agreeAt a b i = true := by unfold agreeAt; rw [e3]; simp
            refine Or.inr ⟨_, ?_, (take_map_range_succ _ a.length i hi).symm, fun j hj => hnext j hag hj⟩
            rw [if_neg (by simp only [bne_iff_ne, ne_eq]; intro h'; exact h' e3)]
            try rw [if_neg e]
            try rw [if_neg e]
            rfl
          · refine Or.inl ?_
            rw [if_pos (by simpa using e3), if_neg]
            intro hall
            have := (List.all_eq_true.1 hall) i (List.mem_range.2 hi)
            simp only [agreeAt, Bool.or_eq_true, beq_iff_eq] at this
            omega
    · rintro k s _ ⟨rfl, hs⟩
      simp only [spec_CubeMeet.l0, spec_CubeMeet.j1]
      rw [if_neg (by omega), List.take_of_length_le (by rw [meetL_length]; omega), if_pos (List.all_eq_true.2 fun j hj => hs j (List.mem_range.1 hj))]
  · rw [if_neg h, if_neg h]
theorem impl_meet {k : Nat} {a b : List Int} (hk : 3 * a.length + b.length + 10 < k) (hm : a.length ≤ 1048576) (hm2 : b.length ≤ 1048576) :
    impl_CubeMeet.f k a b = some (meetR a b) := by
  unfold impl_CubeMeet.f
  rw [bothCubes_f (by omega) (by omega) (by omega) (by omega)]
  simp only [Option.bind_some]
  unfold meetR
  by_cases h : (cubeOK a a.length && cubeOK b a.length) = true
  · rw [if_pos h, if_pos h, if_pos (by omega), if_pos (by omega)]
    have hb := (len_of_ok (Bool.and_eq_true_iff.1 h).2).1
    have hA := elem_of_ok (Bool.and_eq_true_iff.1 h).1
    have hB := elem_of_ok (Bool.and_eq_true_iff.1 h).2
    refine run_inv (fun k (s : List Int) i => impl_CubeMeet.l0 k a b s (a.length : Int) (i : Int)) a.length (fun i s => s.length = a.length ∧ (∀ j, j < i → s.getD j 0 = (meetL a b).getD j 0) ∧ ∀ j, j < i → agreeAt a b j = true) _ ?_ ?_ k 0 _ (Nat.zero_le _) (by omega) ⟨by simp, fun j hj => absurd hj (Nat.not_lt_zero j), fun j hj => absurd hj (Nat.not_lt_zero j)⟩
    · rintro k i s hi ⟨hl, hs, hg⟩
      have ha := hA i hi
      have hb' := hB i (by omega)
      simp only [impl_CubeMeet.l0]
      rw [if_pos (by omega), if_pos (by omega), if_pos (by omega), if_pos (by omega), if_pos (by omega), wrap_id (x := (i : Int) + 1) (by omega) (by omega)]
      simp only [rd_nat, Option.bind_some]
      have hmeet : mn (a.getD i 0) (b.getD i 0) = (meetL a b).getD i 0 ∨ agreeAt a b i = false := by
        unfold meetL agreeAt mn
        rw [getD_map_range _ _ _ _ hi]
        by_cases e : a.getD i 0 = 2
        · left
          rw [if_pos e]
          split <;> omega
        · rw [if_neg e]
          by_cases e2 : b.getD i 0 = 2
          · left
            split <;> omega
          · by_cases e3 : a.getD i 0 = b.getD i 0
            · left
              split <;> omega
            · right
              simp only [Bool.or_eq_false_iff, beq_eq_false_iff_ne]
              exact ⟨⟨e, e2⟩, e3⟩
      have hmx : mx (a.getD i 0) (b.getD i 0) < 2 ↔ (a.getD i 0 ≠ 2 ∧ b.getD i 0 ≠ 2) := by
        unfold mx
        split <;> omega
      have hgo : agreeAt a b i = true → (s.set ((i : Int)).toNat (mn (a.getD i 0) (b.getD i 0))).length = a.length ∧ (∀ j, j < i + 1 → (s.set ((i : Int)).toNat (mn (a.getD i 0) (b.getD i 0))).getD j 0 = (meetL a b).getD j 0) ∧ ∀ j, j < i + 1 → agreeAt a b j = true := by
        intro hag
        refine ⟨by simpa using hl, fun j hj => ?_, fun j hj => ?_⟩
        · rw [Int.toNat_natCast, getD_set _ _ _ _ _ (by omega)]
          by_cases e : j = i
          · rw [if_pos e, e]
            rcases hmeet with h' | h'
            · exact h'
            · rw [hag] at h'; cases h'
          · rw [if_neg e]
            exact hs j (by omega)
        · by_cases e : j = i
          · rw [e]; exact hag
          · exact hg j (by omega)
      by_cases e : mx (a.getD i 0) (b.getD i 0) < 2
      · rw [if_pos e]
        have e' := hmx.1 e
        by_cases e3 : a.getD i 0 = b.getD i 0
        · rw [if_pos e3]
          exact Or.inr ⟨_, rfl, hgo (by unfold agreeAt; rw [e3]; simp)⟩
        · rw [if_neg e3]
          refine Or.inl ?_
          rw [if_neg]
          intro hall
          have := (List.all_eq_true.1 hall) i (List.mem_range.2 hi)
          simp only [agreeAt, Bool.or_eq_true, beq_iff_eq] at this
          omega
      · rw [if_neg e]
        refine Or.inr ⟨_, rfl, hgo ?_⟩
        have : a.getD i 0 = 2 ∨ b.getD i 0 = 2 := by
          by_cases e1 : a.getD i 0 = 2
          · exact Or.inl e1
          · by_cases e2 : b.getD i 0 = 2
            · exact Or.inr e2
            · exact absurd (hmx.2 ⟨e1, e2⟩) e
        simp only [agreeAt, Bool.or_eq_true, beq_iff_eq]
        omega
    · rintro k s ⟨hl, hs, hg⟩
      simp only [impl_CubeMeet.l0]
      rw [if_neg (by omega), clone_int_f (by omega), ext_getD (d := 0) (s := s) (l := meetL a b) (by rw [meetL_length]; exact hl) (fun j hj => by
        rw [meetL_length] at hj
        exact hs j hj), if_pos (List.all_eq_true.2 fun j hj => hg j (List.mem_range.1 hj))]
      rfl
  · rw [if_neg h, if_neg h]

theorem FnExactCubeMeet : laws_FnExactCubeMeet.Pure := by
  intro l m hl hl8 hw hl' hl8' hw'
  refine ⟨4 * l.length + 4 * m.length + 20, ?_⟩
  unfold laws_FnExactCubeMeet.f
  by_cases h : (l.length : Int) > 1048576
  · rw [if_pos h]
  · by_cases h2 : (m.length : Int) > 1048576
    · rw [if_neg h, if_pos h2]
    · rw [if_neg h, if_neg h2, toIntS_f (by omega) (by omega), toIntS_f (by omega) (by omega)]
      simp only [Option.bind_some]
      rw [spec_meet (by omega) (by omega) (by omega), impl_meet (by omega) (by omega) (by omega)]
      have hR : (meetR l m).1.length ≤ l.length := by
        unfold meetR
        split
        · split
          · rw [meetL_length]; exact Nat.le_refl _
          · simp
        · simp
      have hI := impl_meet (k := 4 * l.length + 4 * m.length + 18) (a := l) (b := m) (by omega) (by omega) (by omega)
      generalize meetR l m = R at hR hI ⊢
      obtain ⟨R, v⟩ := R
      simp only at hR
      simp only [Option.bind_some]
      rw [eqIntS_f (by omega) (by omega)]
      have hq : ¬ ((1 : Int) + (l.length : Int) + (m.length : Int) < 0) := by omega
      have hq2 : ¬ ((1 : Int) + (R.length : Int) < 0) := by omega
      simp only [Option.bind_some, decide_true, if_true, bne_self_eq_false, laws_FnExactCubeMeet.j0, laws_FnExactCubeMeet.j1, laws_FnExactCubeMeet.j2, Bool.false_eq_true, if_false]
      rw [toIntS_f (by omega) (by omega)]
      simp only [Option.bind_some]
      rw [eqIntS_f (by omega) (by omega), toIntS_f (by omega) (by omega)]
      simp only [Option.bind_some, decide_true, if_true]
      rw [eqIntS_f (by omega) (by omega), markIntS_f (by omega) (by omega) (by omega) (by omega)]
      simp only [Option.bind_some, decide_true, if_true]
      rw [markIntS_f (by omega) (by omega) (by omega) (by omega)]
      simp only [Option.bind_some, if_neg hq]
      rw [eqIntS_f (by omega) (by omega)]
      simp only [Option.bind_some, decide_true, if_true]
      rw [markIntS_f (by omega) (by omega) (by omega) (by omega)]
      simp only [Option.bind_some]
      rw [heldIntS_f (by omega) (by omega) (by omega) (by omega), toIntS_f (by omega) (by omega), toIntS_f (by omega) (by omega)]
      simp only [Option.bind_some, if_neg hq2, if_true]
      first | rw [hI] | skip
      simp only [Option.bind_some]
      rw [eqIntS_f (by omega) (by omega)]
      simp only [Option.bind_some, decide_true, if_true]
      rw [heldIntS_f (by omega) (by omega) (by omega) (by omega)]
      simp only [Option.bind_some, if_neg hq2, if_true, bne_self_eq_false, Bool.false_eq_true, if_false]

end Go.Proofs.Ytbjkjoicecmmpaa.Pure
