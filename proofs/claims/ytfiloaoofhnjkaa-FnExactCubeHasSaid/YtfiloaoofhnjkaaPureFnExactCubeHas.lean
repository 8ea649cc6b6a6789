/- The law on CubeHas holds for all arguments: the program tells what the reference tells, and leaves its arguments as they were.
Conditions: none. -/
import Derived.Test.YtfiloaoofhnjkaaXFnExactCubeHasx2
import Derived.Test.YtfiloaoofhnjkaaXLib2
namespace Go.Proofs.Ytfiloaoofhnjkaa.Pure
open Go.RowKit Go.Proofs.Ytfiloaoofhnjkaa.XFnExactCubeHas Go.Proofs.YtfiloaoofhnjkaaW.PrintWords Go.Proofs.YtfiloaoofhnjkaaW.PrintLast Go.Proofs.YtfiloaoofhnjkaaW.PrintMore Go.Proofs.YtfiloaoofhnjkaaX
set_option linter.unusedVariables false
set_option linter.unusedSimpArgs false

theorem toIntS_f {k : Nat} {l : List Int} (hk : l.length < k) (hm : l.length ≤ 35184372088832) : laws_toIntS.f k l = some l := by
  unfold laws_toIntS.f
  rw [if_pos (by omega), if_pos (by omega)]
  refine run_inv (fun k (s : List Int) i => laws_toIntS.l0 k l s (i : Int)) l.length (fun i s => s.length = l.length ∧ ∀ j, j < i → s.getD j 0 = l.getD j 0) l ?_ ?_ k 0 _ (Nat.zero_le _) (by omega) ⟨by simp, fun j hj => absurd hj (Nat.not_lt_zero j)⟩
  · intro k i s hi ⟨hl, hs⟩
    refine Or.inr ⟨s.set i (l.getD i 0), ?_, by simpa using hl, fun j hj => ?_⟩
    · simp only [laws_toIntS.l0]
      rw [if_pos (by omega), if_pos (by omega), if_pos (by omega), wrap_id (by omega) (by omega), rd_nat]
      rfl
    · rw [getD_set _ _ _ _ _ (by omega)]
      by_cases e : j = i
      · rw [if_pos e, e]
      · rw [if_neg e]
        exact hs j (by omega)
  · intro k s ⟨hl, hs⟩
    simp only [laws_toIntS.l0]
    rw [if_neg (by omega), ext_getD hl hs]

theorem eqIntS_f {k : Nat} {a b : List Int} (hk : a.length < k) (hm : a.length ≤ 35184372088832) : laws_eqIntS.f k a b = some (decide (a = b)) := by
  unfold laws_eqIntS.f
  by_cases hab : a.length = b.length
  · rw [if_pos (by omega)]
    refine run_inv (fun k (_ : Unit) i => laws_eqIntS.l0 k a b (i : Int)) a.length (fun i _ => ∀ j, j < i → a.getD j 0 = b.getD j 0) _ ?_ ?_ k 0 () (Nat.zero_le _) (by omega) (fun j hj => absurd hj (Nat.not_lt_zero j))
    · intro k i _ hi hs
      by_cases e : a.getD i 0 = b.getD i 0
      · refine Or.inr ⟨(), ?_, fun j hj => ?_⟩
        · simp only [laws_eqIntS.l0]
          rw [if_pos (by omega), if_pos (by omega), if_pos (by omega), rd_nat, rd_nat, if_pos e, wrap_id (by omega) (by omega)]
          rfl
        · by_cases e2 : j = i
          · rw [e2]; exact e
          · exact hs j (by omega)
      · refine Or.inl ?_
        simp only [laws_eqIntS.l0]
        rw [if_pos (by omega), if_pos (by omega), if_pos (by omega), rd_nat, rd_nat, if_neg e, decide_eq_false (fun h => e (by rw [h]))]
    · intro k _ hs
      simp only [laws_eqIntS.l0]
      rw [if_neg (by omega), decide_eq_true (ext_getD hab (fun j hj => hs j (by omega)))]
  · rw [if_neg (by omega), decide_eq_false (fun h => hab (by rw [h]))]

theorem l1In_f (n a b : Int) : spec_l1In.f n a b = some (inB a b n) := by
  unfold spec_l1In.f inB
  by_cases h : n ≥ a
  · rw [if_pos h]; congr 1; simp; omega
  · rw [if_neg h, decide_eq_false (by omega)]

theorem spec_CubeValid_f {k : Nat} {l : List Int} {a : Int} (hk : l.length < k) (hm : l.length ≤ 35184372088832) : spec_CubeValid.f k l a = some (cubeOK l a) := by
  unfold spec_CubeValid.f
  refine (run_allL (fun k i => spec_CubeValid.l0 k l a (i : Int)) l 0 (inB 0 2) (inB 0 12 a && ((l.length : Int) == a)) false ?_ ?_ k hk).trans ?_
  · intro k i hi
    simp only [spec_CubeValid.l0]
    rw [if_pos (by omega), if_pos (by omega), l1In_f, rd_nat, wrap_id (by omega) (by omega)]
    rfl
  · intro k
    simp only [spec_CubeValid.l0]
    rw [if_neg (by omega), l1In_f]
    simp only [Option.bind_some]
    cases inB 0 12 a <;> simp
  · unfold cubeOK
    cases l.all (inB 0 2) <;> simp

theorem l6Are_f {k : Nat} {l : List Int} (hk : l.length < k) (hm : l.length ≤ 35184372088832) : spec_l6Are.f k l = some (l.all (inB 0 1)) := by
  unfold spec_l6Are.f
  refine (run_allL (fun k i => spec_l6Are.l0 k l (i : Int)) l 0 (inB 0 1) true false ?_ ?_ k hk).trans ?_
  · intro k i hi
    simp only [spec_l6Are.l0]
    rw [if_pos (by omega), if_pos (by omega), l1In_f, rd_nat, wrap_id (by omega) (by omega)]
    rfl
  · intro k
    simp only [spec_l6Are.l0]
    rw [if_neg (by omega)]
  · cases l.all (inB 0 1) <;> simp

theorem l16Has_f {k : Nat} {c b : List Int} (hk : c.length < k) (hm : c.length ≤ 35184372088832) (hb : c.length ≤ b.length) : spec_l16Has.f k c b = some (hasL c b) := by
  unfold spec_l16Has.f
  refine (run_all (fun k i => spec_l16Has.l0 k c b (i : Int)) c.length (fun i => decide (c.getD i 0 = 2 ∨ c.getD i 0 = b.getD i 0)) true false ?_ ?_ k hk).trans ?_
  · intro k i hi
    simp only [spec_l16Has.l0]
    rw [if_pos (by omega), if_pos (by omega), wrap_id (by omega) (by omega)]
    simp only [rd_nat]
    by_cases e1 : c.getD i 0 = 2
    · rw [if_pos e1, if_pos (decide_eq_true (.inl e1))]
      rfl
    · rw [if_neg e1, if_pos (by omega)]
      by_cases e2 : c.getD i 0 = b.getD i 0
      · rw [if_pos e2, if_pos (decide_eq_true (.inr e2))]
        rfl
      · rw [if_neg e2, if_neg (fun h => (of_decide_eq_true h).elim e1 e2)]
  · intro k
    simp only [spec_l16Has.l0]
    rw [if_neg (by omega)]
  · unfold hasL
    by_cases h : ∀ j, j < c.length → c.getD j 0 = 2 ∨ c.getD j 0 = b.getD j 0
    · rw [if_pos (fun j hj => decide_eq_true (h j hj)), decide_eq_true h]
    · rw [if_neg (fun g => h (fun j hj => of_decide_eq_true (g j hj))), decide_eq_false h]

theorem in_f (n a b : Int) : impl_in.f n a b = some (inB a b n) := by
  unfold impl_in.f inB
  by_cases h : n ≥ a
  · rw [if_pos h]; congr 1; simp; omega
  · rw [if_neg h, decide_eq_false (by omega)]

theorem contains_impl_CubeValid_1 {k : Nat} {l : List Int} (hk : l.length < k) (hm : l.length ≤ 35184372088832) : slices_ContainsFunc_int_int_impl_CubeValid_1.f k l = some (l.any fun x => !(inB 0 2 x)) := by
  unfold slices_ContainsFunc_int_int_impl_CubeValid_1.f slices_IndexFunc_int_int_impl_CubeValid_1.f
  obtain ⟨r, h1, h2⟩ := run_find (fun k i => slices_IndexFunc_int_int_impl_CubeValid_1.l0 k l (l.length : Int) (i : Int)) l 0 (fun x => !(inB 0 2 x)) (by
    intro k i hi
    simp only [slices_IndexFunc_int_int_impl_CubeValid_1.l0]
    rw [if_pos (by omega), if_pos (by omega), if_pos (by omega), rd_nat, wrap_id (by omega) (by omega)]
    unfold impl_CubeValid_1.f
    rw [in_f]
    rfl) (by
    intro k
    simp only [slices_IndexFunc_int_int_impl_CubeValid_1.l0]
    rw [if_neg (by omega)]) k hk
  have h1' : slices_IndexFunc_int_int_impl_CubeValid_1.l0 k l (l.length : Int) 0 = some r := h1
  rw [h1', Option.bind_some, h2]

theorem impl_CubeValid_f {k : Nat} {l : List Int} {a : Int} (hk : l.length < k) (hm : l.length ≤ 35184372088832) : impl_CubeValid.f k l a = some (cubeOK l a) := by
  unfold impl_CubeValid.f cubeOK
  rw [in_f, contains_impl_CubeValid_1 hk hm]
  simp only [Option.bind_some]
  have e : l.all (inB 0 2) = !(l.any fun x => !(inB 0 2 x)) := by simp [List.any_eq_not_all_not]
  rw [e]
  cases inB 0 12 a
  · simp
  · by_cases h : (l.length : Int) = a
    · simp [h]
    · simp [h]

theorem cubeHas_f {k : Nat} {c b : List Int} (hk : c.length < k) (hm : c.length ≤ 35184372088832) (hb : c.length ≤ b.length) : impl_cubeHas.f k c b = some (hasL c b) := by
  unfold impl_cubeHas.f
  refine (run_all (fun k i => impl_cubeHas.l0 k b c (c.length : Int) (i : Int)) c.length (fun i => decide (c.getD i 0 = 2 ∨ c.getD i 0 = b.getD i 0)) true false ?_ ?_ k hk).trans ?_
  · intro k i hi
    simp only [impl_cubeHas.l0]
    rw [if_pos (by omega), if_pos (by omega), if_pos (by omega), wrap_id (by omega) (by omega)]
    simp only [rd_nat]
    by_cases e1 : c.getD i 0 = 2
    · rw [if_pos e1, if_pos (decide_eq_true (.inl e1))]
      rfl
    · rw [if_neg e1, if_pos (by omega)]
      by_cases e2 : c.getD i 0 = b.getD i 0
      · rw [if_pos e2, if_pos (decide_eq_true (.inr e2))]
        rfl
      · rw [if_neg e2, if_neg (fun h => (of_decide_eq_true h).elim e1 e2)]
  · intro k
    simp only [impl_cubeHas.l0]
    rw [if_neg (by omega)]
  · unfold hasL
    by_cases h : ∀ j, j < c.length → c.getD j 0 = 2 ∨ c.getD j 0 = b.getD j 0
    · rw [if_pos (fun j hj => decide_eq_true (h j hj)), decide_eq_true h]
    · rw [if_neg (fun g => h (fun j hj => of_decide_eq_true (g j hj))), decide_eq_false h]

theorem contains_impl_bitsValid_1 {k : Nat} {l : List Int} (hk : l.length < k) (hm : l.length ≤ 35184372088832) : slices_ContainsFunc_int_int_impl_bitsValid_1.f k l = some (l.any fun x => !(inB 0 1 x)) := by
  unfold slices_ContainsFunc_int_int_impl_bitsValid_1.f slices_IndexFunc_int_int_impl_bitsValid_1.f
  obtain ⟨r, h1, h2⟩ := run_find (fun k i => slices_IndexFunc_int_int_impl_bitsValid_1.l0 k l (l.length : Int) (i : Int)) l 0 (fun x => !(inB 0 1 x)) (by
    intro k i hi
    simp only [slices_IndexFunc_int_int_impl_bitsValid_1.l0]
    rw [if_pos (by omega), if_pos (by omega), if_pos (by omega), rd_nat, wrap_id (by omega) (by omega)]
    unfold impl_bitsValid_1.f
    rw [in_f]
    rfl) (by
    intro k
    simp only [slices_IndexFunc_int_int_impl_bitsValid_1.l0]
    rw [if_neg (by omega)]) k hk
  have h1' : slices_IndexFunc_int_int_impl_bitsValid_1.l0 k l (l.length : Int) 0 = some r := h1
  rw [h1', Option.bind_some, h2]

theorem impl_bitsValid_f {k : Nat} {l : List Int} (hk : l.length < k) (hm : l.length ≤ 35184372088832) : impl_bitsValid.f k l = some (l.all (inB 0 1)) := by
  unfold impl_bitsValid.f
  rw [contains_impl_bitsValid_1 hk hm]
  simp only [Option.bind_some]
  have e : l.all (inB 0 1) = !(l.any fun x => !(inB 0 1 x)) := by simp [List.any_eq_not_all_not]
  rw [e]

theorem both {k : Nat} {a b : List Int} (hk : a.length < k) (hk2 : b.length < k) (hm : a.length ≤ 35184372088832) (hm2 : b.length ≤ 35184372088832) :
    ∃ r, spec_CubeHas.f k a b = some r ∧ impl_CubeHas.f k a b = some r := by
  unfold spec_CubeHas.f impl_CubeHas.f
  rw [spec_CubeValid_f hk hm, impl_CubeValid_f hk hm, l6Are_f hk2 hm2, impl_bitsValid_f hk2 hm2]
  simp only [Option.bind_some]
  by_cases h : cubeOK a b.length = true
  · rw [if_pos h, if_pos h]
    have hb := len_of_ok h
    rw [l16Has_f hk hm (by omega), cubeHas_f hk hm (by omega)]
    cases b.all (inB 0 1)
    · exact ⟨_, rfl, rfl⟩
    · exact ⟨_, rfl, rfl⟩
  · rw [if_neg h, if_neg h]
    exact ⟨_, rfl, rfl⟩

theorem FnExactCubeHas : laws_FnExactCubeHas.Pure := by
  intro l m hl hl8 hw hl' hl8' hw'
  refine ⟨l.length + m.length + 1, ?_⟩
  unfold laws_FnExactCubeHas.f
  by_cases h : (l.length : Int) > 1048576
  · rw [if_pos h]
  · by_cases h2 : (m.length : Int) > 1048576
    · rw [if_neg h, if_pos h2]
    · obtain ⟨r, h3, h4⟩ := both (k := l.length + m.length + 1) (a := l) (b := m) (by omega) (by omega) (by omega) (by omega)
      rw [if_neg h, if_neg h2, toIntS_f (by omega) (by omega), toIntS_f (by omega) (by omega)]
      simp only [Option.bind_some, h3, h4]
      rw [eqIntS_f (by omega) (by omega), eqIntS_f (by omega) (by omega)]
      simp

end Go.Proofs.Ytfiloaoofhnjkaa.Pure
