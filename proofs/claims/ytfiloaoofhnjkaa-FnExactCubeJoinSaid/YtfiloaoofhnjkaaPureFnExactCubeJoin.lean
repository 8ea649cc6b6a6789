/- The law on CubeJoin holds for all arguments: the program's cube is the reference's, in memory of its own, and the arguments stay as they were.
Conditions: none. -/
import Derived.Test.YtfiloaoofhnjkaaXFnExactCubeJoinx3
import Derived.Test.YtfiloaoofhnjkaaXLib2
namespace Go.Proofs.Ytfiloaoofhnjkaa.Pure
open Go.RowKit Go.Proofs.Ytfiloaoofhnjkaa.XFnExactCubeJoin Go.Proofs.YtfiloaoofhnjkaaW.PrintWords Go.Proofs.YtfiloaoofhnjkaaW.PrintLast Go.Proofs.YtfiloaoofhnjkaaW.PrintMore Go.Proofs.YtfiloaoofhnjkaaX
set_option linter.unusedVariables false
set_option linter.unusedSimpArgs false

theorem toIntS_f {k : Nat} {l : List Int} (hk : l.length < k) (hm : l.length ≤ 35184372088832) : laws_toIntS.f k l = some l := by
  unfold laws_toIntS.f
  rw [if_pos (by omega), if_pos (by omega)]
  refine run_inv (fun k (s : List Int) i => laws_toIntS.l0 k l s (i : Int)) l.length (fun i s => s.length = l.length ∧ ∀ j, j < i → s.getD j 0 = l.getD j 0) l ?_ ?_ k 0 _ (Nat.zero_le _) (by omega) ⟨by simp, fun j hj => absurd hj (Nat.not_lt_zero j)⟩
  · intro k i s hi ⟨hl, hs⟩
    refine Or.inr ⟨s.set i (l.getD i 0), ?_, by simpa using hl, fun j hj => ?_⟩
    · simp only [laws_toIntS.l0]
      rw [if_pos (by omega), if_pos (by omega), if_pos (by omega), wrap_id (by omega) (by omega), rd_nat]
      rfl
    · rw [getD_set _ _ _ _ _ (by omega)]
      by_cases e : j = i
      · rw [if_pos e, e]
      · rw [if_neg e]
        exact hs j (by omega)
  · intro k s ⟨hl, hs⟩
    simp only [laws_toIntS.l0]
    rw [if_neg (by omega), ext_getD hl hs]

theorem eqIntS_f {k : Nat} {a b : List Int} (hk : a.length < k) (hm : a.length ≤ 35184372088832) : laws_eqIntS.f k a b = some (decide (a = b)) := by
  unfold laws_eqIntS.f
  by_cases hab : a.length = b.length
  · rw [if_pos (by omega)]
    refine run_inv (fun k (_ : Unit) i => laws_eqIntS.l0 k a b (i : Int)) a.length (fun i _ => ∀ j, j < i → a.getD j 0 = b.getD j 0) _ ?_ ?_ k 0 () (Nat.zero_le _) (by omega) (fun j hj => absurd hj (Nat.not_lt_zero j))
    · intro k i _ hi hs
      by_cases e : a.getD i 0 = b.getD i 0
      · refine Or.inr ⟨(), ?_, fun j hj => ?_⟩
        · simp only [laws_eqIntS.l0]
          rw [if_pos (by omega), if_pos (by omega), if_pos (by omega), rd_nat, rd_nat, if_pos e, wrap_id (by omega) (by omega)]
          rfl
        · by_cases e2 : j = i
          · rw [e2]; exact e
          · exact hs j (by omega)
      · refine Or.inl ?_
        simp only [laws_eqIntS.l0]
        rw [if_pos (by omega), if_pos (by omega), if_pos (by omega), rd_nat, rd_nat, if_neg e, decide_eq_false (fun h => e (by rw [h]))]
    · intro k _ hs
      simp only [laws_eqIntS.l0]
      rw [if_neg (by omega), decide_eq_true (ext_getD hab (fun j hj => hs j (by omega)))]
  · rw [if_neg (by omega), decide_eq_false (fun h => hab (by rw [h]))]

theorem markIntS_f {k : Nat} {l : List Int} {a : Int} (hk : l.length < k) (hm : l.length ≤ 35184372088832) (h0 : 0 ≤ a) (h1 : a ≤ 1000000000000000000) : laws_markIntS.f k l a = some (a + l.length, marks a l.length) := by
  unfold laws_markIntS.f
  refine (?_ : laws_markIntS.l0 k l a ((0 : Nat) : Int) = _)
  refine run_inv (fun k (s : List Int × Int) i => laws_markIntS.l0 k s.1 s.2 (i : Int)) l.length (fun i s => s.1.length = l.length ∧ s.2 = a + (i : Int) ∧ ∀ j, j < i → s.1.getD j 0 = a + (j : Int)) _ ?_ ?_ k 0 (l, a) (Nat.zero_le _) (by omega) ⟨rfl, by simp, fun j hj => absurd hj (Nat.not_lt_zero j)⟩
  · rintro k i ⟨s, c⟩ hi ⟨hl, hc, hs⟩
    simp only at hl hc hs
    subst hc
    refine Or.inr ⟨(s.set i (a + (i : Int)), a + (i : Int) + 1), ?_, by simpa using hl, by simp only [Int.natCast_add]; omega, fun j hj => ?_⟩
    · simp only [laws_markIntS.l0]
      rw [if_pos (by omega), if_pos (by omega), wrap_id (x := a + (i : Int) + 1) (by omega) (by omega), wrap_id (by omega) (by omega)]
      rfl
    · simp only
      rw [getD_set _ _ _ _ _ (by omega)]
      by_cases e : j = i
      · rw [if_pos e, e]
      · rw [if_neg e]
        exact hs j (by omega)
  · rintro k ⟨s, c⟩ ⟨hl, hc, hs⟩
    simp only at hl hc hs
    subst hc
    simp only [laws_markIntS.l0]
    rw [if_neg (by omega), ext_getD (d := 0) (s := s) (l := marks a l.length) (by rw [marks_length]; exact hl) (fun j hj => by rw [marks_length] at hj; rw [marks_getD _ _ _ hj]; exact hs j hj)]

theorem heldIntS_f {k : Nat} {n : Nat} {a : Int} (hk : n < k) (hm : n ≤ 35184372088832) (h0 : 0 ≤ a) (h1 : a ≤ 1000000000000000000) : laws_heldIntS.f k (marks a n) a = some (a + (n : Int)) := by
  unfold laws_heldIntS.f
  refine (?_ : laws_heldIntS.l0 k (marks a n) a ((0 : Nat) : Int) = _)
  have hlen := marks_length a n
  refine run_inv (fun k (s : Int) i => laws_heldIntS.l0 k (marks a n) s (i : Int)) n (fun i s => s = a + (i : Int)) _ ?_ ?_ k 0 a (Nat.zero_le _) (by omega) (by simp)
  · rintro k i s hi rfl
    refine Or.inr ⟨a + (i : Int) + 1, ?_, by simp only [Int.natCast_add]; omega⟩
    simp only [laws_heldIntS.l0]
    rw [if_pos (by omega), if_pos (by omega), rd_nat, marks_getD _ _ _ hi, if_pos rfl, wrap_id (x := a + (i : Int) + 1) (by omega) (by omega), wrap_id (by omega) (by omega)]
    rfl
  · rintro k s rfl
    simp only [laws_heldIntS.l0]
    rw [if_neg (by omega)]

theorem l1In_f (n a b : Int) : spec_l1In.f n a b = some (inB a b n) := by
  unfold spec_l1In.f inB
  by_cases h : n ≥ a
  · rw [if_pos h]; congr 1; simp; omega
  · rw [if_neg h, decide_eq_false (by omega)]

theorem spec_CubeValid_f {k : Nat} {l : List Int} {a : Int} (hk : l.length < k) (hm : l.length ≤ 35184372088832) : spec_CubeValid.f k l a = some (cubeOK l a) := by
  unfold spec_CubeValid.f
  refine (run_allL (fun k i => spec_CubeValid.l0 k l a (i : Int)) l 0 (inB 0 2) (inB 0 12 a && ((l.length : Int) == a)) false ?_ ?_ k hk).trans ?_
  · intro k i hi
    simp only [spec_CubeValid.l0]
    rw [if_pos (by omega), if_pos (by omega), l1In_f, rd_nat, wrap_id (by omega) (by omega)]
    rfl
  · intro k
    simp only [spec_CubeValid.l0]
    rw [if_neg (by omega), l1In_f]
    simp only [Option.bind_some]
    cases inB 0 12 a <;> simp
  · unfold cubeOK
    cases l.all (inB 0 2) <;> simp

theorem l16Two_f {k : Nat} {a b : List Int} (hk : a.length < k) (hk2 : b.length < k) (hm : a.length ≤ 35184372088832) (hm2 : b.length ≤ 35184372088832) : spec_l16Two.f k a b = some (cubeOK a a.length && cubeOK b a.length) := by
  unfold spec_l16Two.f
  rw [spec_CubeValid_f hk hm, spec_CubeValid_f hk2 hm2]
  simp only [Option.bind_some]
  cases cubeOK a a.length <;> simp

theorem clone_int_f {l : List Int} (h : l.length ≤ 35184372088832) : impl_clone_int.f l = some l := by
  unfold impl_clone_int.f
  rw [if_pos h]

theorem in_f (n a b : Int) : impl_in.f n a b = some (inB a b n) := by
  unfold impl_in.f inB
  by_cases h : n ≥ a
  · rw [if_pos h]; congr 1; simp; omega
  · rw [if_neg h, decide_eq_false (by omega)]

theorem contains_impl_CubeValid_1 {k : Nat} {l : List Int} (hk : l.length < k) (hm : l.length ≤ 35184372088832) : slices_ContainsFunc_int_int_impl_CubeValid_1.f k l = some (l.any fun x => !(inB 0 2 x)) := by
  unfold slices_ContainsFunc_int_int_impl_CubeValid_1.f slices_IndexFunc_int_int_impl_CubeValid_1.f
  obtain ⟨r, h1, h2⟩ := run_find (fun k i => slices_IndexFunc_int_int_impl_CubeValid_1.l0 k l (l.length : Int) (i : Int)) l 0 (fun x => !(inB 0 2 x)) (by
    intro k i hi
    simp only [slices_IndexFunc_int_int_impl_CubeValid_1.l0]
    rw [if_pos (by omega), if_pos (by omega), if_pos (by omega), rd_nat, wrap_id (by omega) (by omega)]
    unfold impl_CubeValid_1.f
    rw [in_f]
    rfl) (by
    intro k
    simp only [slices_IndexFunc_int_int_impl_CubeValid_1.l0]
    rw [if_neg (by omega)]) k hk
  have h1' : slices_IndexFunc_int_int_impl_CubeValid_1.l0 k l (l.length : Int) 0 = some r := h1
  rw [h1', Option.bind_some, h2]

theorem impl_CubeValid_f {k : Nat} {l : List Int} {a : Int} (hk : l.length < k) (hm : l.length ≤ 35184372088832) : impl_CubeValid.f k l a = some (cubeOK l a) := by
  unfold impl_CubeValid.f cubeOK
  rw [in_f, contains_impl_CubeValid_1 hk hm]
  simp only [Option.bind_some]
  have e : l.all (inB 0 2) = !(l.any fun x => !(inB 0 2 x)) := by simp [List.any_eq_not_all_not]
  rw [e]
  cases inB 0 12 a
  · simp
  · by_cases h : (l.length : Int) = a
    · simp [h]
    · simp [h]

theorem bothCubes_f {k : Nat} {a b : List Int} (hk : a.length < k) (hk2 : b.length < k) (hm : a.length ≤ 35184372088832) (hm2 : b.length ≤ 35184372088832) : impl_bothCubes.f k a b = some (cubeOK a a.length && cubeOK b a.length) := by
  unfold impl_bothCubes.f
  rw [impl_CubeValid_f hk hm, impl_CubeValid_f hk2 hm2]
  simp only [Option.bind_some]
  cases cubeOK a a.length <;> simp

theorem spec_join {k : Nat} {a b : List Int} (hk : 3 * a.length + b.length + 10 < k) (hm : a.length ≤ 1048576) (hm2 : b.length ≤ 1048576) :
    spec_CubeJoin.f k a b = some (if (cubeOK a a.length && cubeOK b a.length) = true then joinL a b else []) := by
  unfold spec_CubeJoin.f
  by_cases h : (cubeOK a a.length && cubeOK b a.length) = true
  · rw [if_pos h]
    have hb := (len_of_ok (Bool.and_eq_true_iff.1 h).2).1
    refine run_invC 1 (a.length + b.length + 1) (fun k (s : List Int) i => spec_CubeJoin.l0 k a b s (i : Int)) a.length (fun i s => s = (joinL a b).take i) _ ?_ ?_ k 0 [] (Nat.zero_le _) (by omega) (by simp)
    · rintro k i s hB hi rfl
      have hl := take_map_range_length (fun j => if a.getD j 0 = b.getD j 0 then a.getD j 0 else 2) a.length i (by omega)
      refine Or.inr ⟨_, ?_, (take_map_range_succ _ a.length i hi).symm⟩
      simp only [spec_CubeJoin.l0, spec_CubeJoin.j1]
      rw [if_pos (by omega), l16Two_f (by omega) (by omega) (by omega) (by omega), h]
      simp only [Option.bind_some, if_true]
      rw [if_pos (by omega), if_pos (by omega), if_pos (by omega), wrap_id (x := (i : Int) + 1) (by omega) (by omega)]
      simp only [rd_nat]
      unfold joinL
      by_cases e : a.getD i 0 = b.getD i 0
      · rw [if_pos e, if_pos (by rw [hl]; omega), if_pos e]
        rfl
      · rw [if_neg e, if_pos (by rw [hl]; omega), if_neg e]
        rfl
    · rintro k s _ rfl
      simp only [spec_CubeJoin.l0, spec_CubeJoin.j1]
      rw [if_neg (by omega), List.take_of_length_le (by rw [joinL_length]; omega)]
      simp
  · rw [if_neg h]
    obtain ⟨k, rfl⟩ : ∃ m, k = m + 2 := ⟨k - 2, by omega⟩
    simp only [spec_CubeJoin.l0, spec_CubeJoin.j1]
    rw [l16Two_f (by omega) (by omega) (by omega) (by omega), Bool.eq_false_iff.2 h]
    simp
theorem impl_join {k : Nat} {a b : List Int} (hk : 3 * a.length + b.length + 10 < k) (hm : a.length ≤ 1048576) (hm2 : b.length ≤ 1048576) :
    impl_CubeJoin.f k a b = some (if (cubeOK a a.length && cubeOK b a.length) = true then joinL a b else []) := by
  unfold impl_CubeJoin.f
  rw [bothCubes_f (by omega) (by omega) (by omega) (by omega)]
  simp only [Option.bind_some]
  by_cases h : (cubeOK a a.length && cubeOK b a.length) = true
  · rw [if_pos h, if_pos h, clone_int_f (by omega)]
    have hb := (len_of_ok (Bool.and_eq_true_iff.1 h).2).1
    simp only [Option.bind_some]
    refine run_inv (fun k (s : List Int) i => impl_CubeJoin.l0 k a b s (a.length : Int) (i : Int)) a.length (fun i s => s.length = a.length ∧ ∀ j, j < a.length → s.getD j 0 = if j < i then (joinL a b).getD j 0 else a.getD j 0) _ ?_ ?_ k 0 a (Nat.zero_le _) (by omega) ⟨rfl, fun j _ => by rw [if_neg (by omega)]⟩
    · rintro k i s hi ⟨hl, hs⟩
      simp only [impl_CubeJoin.l0]
      rw [if_pos (by omega), if_pos (by omega), if_pos (by omega), if_pos (by omega), wrap_id (x := (i : Int) + 1) (by omega) (by omega)]
      simp only [rd_nat]
      by_cases e : a.getD i 0 = b.getD i 0
      · refine Or.inr ⟨s, by rw [if_pos e]; rfl, hl, fun j hj => ?_⟩
        rw [hs j hj]
        by_cases e1 : j < i
        · rw [if_pos e1, if_pos (by omega)]
        · by_cases e2 : j = i
          · subst e2
            rw [if_neg e1, if_pos (by omega)]
            unfold joinL
            rw [getD_map_range _ _ _ _ hi, if_pos e]
          · rw [if_neg e1, if_neg (by omega)]
      · refine Or.inr ⟨s.set i 2, by rw [if_neg e, if_pos (by omega)]; rfl, by simpa using hl, fun j hj => ?_⟩
        rw [getD_set _ _ _ _ _ (by omega)]
        by_cases e2 : j = i
        · subst e2
          rw [if_pos rfl, if_pos (by omega)]
          unfold joinL
          rw [getD_map_range _ _ _ _ hi, if_neg e]
        · rw [if_neg e2, hs j hj]
          by_cases e1 : j < i
          · rw [if_pos e1, if_pos (by omega)]
          · rw [if_neg e1, if_neg (by omega)]
    · rintro k s ⟨hl, hs⟩
      simp only [impl_CubeJoin.l0]
      rw [if_neg (by omega), ext_getD (d := 0) (s := s) (l := joinL a b) (by rw [joinL_length]; exact hl) (fun j hj => by
        rw [joinL_length] at hj
        rw [hs j hj, if_pos hj])]
  · rw [if_neg h, if_neg h]

theorem FnExactCubeJoin : laws_FnExactCubeJoin.Pure := by
  intro l m hl hl8 hw hl' hl8' hw'
  refine ⟨4 * l.length + 4 * m.length + 20, ?_⟩
  unfold laws_FnExactCubeJoin.f
  by_cases h : (l.length : Int) > 1048576
  · rw [if_pos h]
  · by_cases h2 : (m.length : Int) > 1048576
    · rw [if_neg h, if_pos h2]
    · rw [if_neg h, if_neg h2, toIntS_f (by omega) (by omega), toIntS_f (by omega) (by omega)]
      simp only [Option.bind_some]
      rw [spec_join (by omega) (by omega) (by omega), impl_join (by omega) (by omega) (by omega)]
      have hR : (if (cubeOK l l.length && cubeOK m l.length) = true then joinL l m else []).length ≤ l.length := by
        by_cases e : (cubeOK l l.length && cubeOK m l.length) = true
        · rw [if_pos e, joinL_length]
          exact Nat.le_refl _
        · rw [if_neg e]
          simp
      have hI := impl_join (k := 4 * l.length + 4 * m.length + 19) (a := l) (b := m) (by omega) (by omega) (by omega)
      generalize (if (cubeOK l l.length && cubeOK m l.length) = true then joinL l m else []) = R at hR hI ⊢
      simp only [Option.bind_some]
      rw [eqIntS_f (by omega) (by omega), eqIntS_f (by omega) (by omega), eqIntS_f (by omega) (by omega), markIntS_f (by omega) (by omega) (by omega) (by omega)]
      simp only [Option.bind_some, decide_true, if_true]
      rw [markIntS_f (by omega) (by omega) (by omega) (by omega)]
      have hq : ¬ ((1 : Int) + (l.length : Int) + (m.length : Int) < 0) := by omega
      have hq2 : ¬ ((1 : Int) + (R.length : Int) < 0) := by omega
      simp only [Option.bind_some, if_neg hq, Bool.not_true, laws_FnExactCubeJoin.j0, Bool.false_eq_true, if_false]
      rw [markIntS_f (by omega) (by omega) (by omega) (by omega)]
      simp only [Option.bind_some]
      rw [heldIntS_f (by omega) (by omega) (by omega) (by omega), toIntS_f (by omega) (by omega), toIntS_f (by omega) (by omega)]
      simp only [Option.bind_some, if_neg hq2, if_true, hI]
      rw [eqIntS_f (by omega) (by omega)]
      simp only [Option.bind_some, decide_true, if_true, if_neg hq2]

end Go.Proofs.Ytfiloaoofhnjkaa.Pure
