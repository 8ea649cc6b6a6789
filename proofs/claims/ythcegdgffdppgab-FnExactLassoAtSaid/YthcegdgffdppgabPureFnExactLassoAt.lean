/- The law on LassoAt holds for all arguments: the program's row is the reference's, in memory of its own, and the arguments stay as they were.
Conditions: none. -/
import Derived.Test.YthcegdgffdppgabXFnExactLassoAtx3
import Derived.Test.YthcegdgffdppgabXLib2
namespace Go.Proofs.Ythcegdgffdppgab.Pure
open Go.RowKit Go.Proofs.Ythcegdgffdppgab.XFnExactLassoAt Go.Proofs.YthcegdgffdppgabW.PrintWords Go.Proofs.YthcegdgffdppgabW.PrintLast Go.Proofs.YthcegdgffdppgabW.PrintMore Go.Proofs.YthcegdgffdppgabX
set_option linter.unusedVariables false
set_option linter.unusedSimpArgs false

theorem rdL_nat (xs : List (List Int)) (i : Nat) : rd_L1 xs (i : Int) = xs.getD i [] := by
  unfold rd_L1
  simp

theorem clone_int_f {l : List Int} (h : l.length ≤ 35184372088832) : impl_clone_int.f l = some l := by
  unfold impl_clone_int.f
  rw [if_pos h]

/-- How many numbers all rows hold. -/
def total (l : List (List Int)) : Nat := (l.map List.length).sum
theorem total_take (l : List (List Int)) (i : Nat) (h : i < l.length) : total (l.take (i + 1)) = total (l.take i) + (l.getD i []).length := by
  unfold total
  rw [take_succ_getD l i [] h, List.map_append, List.sum_append]
  simp
theorem total_le (l : List (List Int)) (i : Nat) : total (l.take i) ≤ total l := by
  have h : total l = total (l.take i) + total (l.drop i) := by
    unfold total
    rw [← List.sum_append, ← List.map_append, List.take_append_drop]
  omega
theorem total_mem {l : List (List Int)} {x : List Int} (h : x ∈ l) : x.length ≤ total l := by
  unfold total
  induction l with
  | nil => cases h
  | cons y l ih =>
    simp only [List.map_cons, List.sum_cons]
    rcases List.mem_cons.1 h with rfl | h
    · omega
    · have := ih h
      omega

theorem szIntS_f {l : List Int} {a : Int} (h0 : 0 ≤ a) (h1 : a ≤ 1048576) (hl : l.length ≤ 9223372036854775807) : laws_szIntS.f l a = some (if a - (l.length : Int) < 0 then -1 else a - (l.length : Int)) := by
  unfold laws_szIntS.f
  rw [wrap_id (by omega) (by omega)]
  by_cases h : a - (l.length : Int) < 0
  · rw [if_pos h, if_pos h]
  · rw [if_neg h, if_neg h]
theorem szIntSS_f {k : Nat} {l : List (List Int)} {a : Int} (hk : 1048577 < k) (h0 : 0 ≤ a) (h1 : a ≤ 1048576) (hl : l.length ≤ 9223372036854775807) (hx : ∀ x ∈ l, x.length ≤ 9223372036854775807) :
    ∃ r, laws_szIntSS.f k l a = some r ∧ (0 ≤ r → r = a - (l.length : Int) - (total l : Int)) := by
  unfold laws_szIntSS.f
  rw [wrap_id (by omega) (by omega)]
  by_cases h : a - (l.length : Int) < 0
  · exact ⟨-1, by rw [if_pos h], fun g => absurd g (by omega)⟩
  · rw [if_neg h]
    refine ⟨if a - (l.length : Int) - (total l : Int) < 0 then -1 else a - (l.length : Int) - (total l : Int), ?_, ?_⟩
    · refine run_inv (fun k (s : Int) i => laws_szIntSS.l0 k l s (i : Int)) l.length (fun i s => s = a - (l.length : Int) - (total (l.take i) : Int) ∧ 0 ≤ s) _ ?_ ?_ k 0 _ (Nat.zero_le _) (by omega) ⟨by simp [total], by omega⟩
      · rintro k i s hi ⟨rfl, hs⟩
        have ht := total_take l i hi
        have hle := total_le l (i + 1)
        have hlen := hx _ (getD_mem l i [] hi)
        simp only [laws_szIntSS.l0]
        rw [if_pos (by omega), if_pos (by omega), rdL_nat, szIntS_f hs (by omega) hlen, wrap_id (x := (i : Int) + 1) (by omega) (by omega)]
        simp only [Option.bind_some]
        by_cases hneg : a - (l.length : Int) - (total (l.take i) : Int) - ((l.getD i []).length : Int) < 0
        · refine Or.inl ?_
          rw [if_pos (show (if a - (l.length : Int) - (total (l.take i) : Int) - ((l.getD i []).length : Int) < 0 then (-1 : Int) else _) < 0 by rw [if_pos hneg]; omega), if_pos (by omega)]
        · refine Or.inr ⟨a - (l.length : Int) - (total (l.take i) : Int) - ((l.getD i []).length : Int), ?_, ?_⟩
          · simp only [if_neg hneg]
            rfl
          · rw [ht]
            exact ⟨by simp only [Int.natCast_add]; omega, by omega⟩
      · rintro k s ⟨rfl, hs⟩
        simp only [laws_szIntSS.l0]
        rw [if_neg (by omega)]
        rw [List.take_length] at hs ⊢
        rw [if_neg (by omega)]
    · intro g
      by_cases hneg : a - (l.length : Int) - (total l : Int) < 0
      · rw [if_pos hneg] at g
        omega
      · rw [if_neg hneg]

theorem l3Copy_f {k : Nat} {l : List Int} (hk : l.length < k) (hm : l.length ≤ 1048576) : spec_l3Copy.f k l = some l := by
  unfold spec_l3Copy.f
  refine run_inv (fun k (s : List Int) i => spec_l3Copy.l0 k l s (i : Int)) l.length (fun i s => s = l.take i) _ ?_ ?_ k 0 [] (Nat.zero_le _) (by omega) (by simp)
  · rintro k i s hi rfl
    have hl : (l.take i).length = i := by rw [List.length_take]; omega
    refine Or.inr ⟨_, ?_, (take_succ_getD l i 0 hi).symm⟩
    simp only [spec_l3Copy.l0]
    rw [if_pos (by omega), if_pos (by omega), if_pos (by rw [hl]; omega), wrap_id (x := (i : Int) + 1) (by omega) (by omega), rd_nat]
    rfl
  · rintro k s rfl
    simp only [spec_l3Copy.l0]
    rw [if_neg (by omega), List.take_length]

theorem toIntS_f {k : Nat} {l : List Int} (hk : l.length < k) (hm : l.length ≤ 35184372088832) : laws_toIntS.f k l = some l := by
  unfold laws_toIntS.f
  rw [if_pos (by omega), if_pos (by omega)]
  refine run_inv (fun k (s : List Int) i => laws_toIntS.l0 k l s (i : Int)) l.length (fun i s => s.length = l.length ∧ ∀ j, j < i → s.getD j 0 = l.getD j 0) l ?_ ?_ k 0 _ (Nat.zero_le _) (by omega) ⟨by simp, fun j hj => absurd hj (Nat.not_lt_zero j)⟩
  · intro k i s hi ⟨hl, hs⟩
    refine Or.inr ⟨s.set i (l.getD i 0), ?_, by simpa using hl, fun j hj => ?_⟩
    · simp only [laws_toIntS.l0]
      rw [if_pos (by omega), if_pos (by omega), if_pos (by omega), wrap_id (by omega) (by omega), rd_nat]
      rfl
    · rw [getD_set _ _ _ _ _ (by omega)]
      by_cases e : j = i
      · rw [if_pos e, e]
      · rw [if_neg e]
        exact hs j (by omega)
  · intro k s ⟨hl, hs⟩
    simp only [laws_toIntS.l0]
    rw [if_neg (by omega), ext_getD hl hs]

theorem toIntSS_f {k : Nat} {l : List (List Int)} (hk : 2100000 < k) (hl : l.length ≤ 1048576) (hx : ∀ x ∈ l, x.length ≤ 1048576) : laws_toIntSS.f k l = some l := by
  unfold laws_toIntSS.f
  rw [if_pos (by omega), if_pos (by omega)]
  refine run_invB 1048577 (fun k (s : List (List Int)) i => laws_toIntSS.l0 k l s (i : Int)) l.length (fun i s => s.length = l.length ∧ ∀ j, j < i → s.getD j [] = l.getD j []) _ ?_ ?_ k 0 _ (Nat.zero_le _) (by omega) ⟨by simp, fun j hj => absurd hj (Nat.not_lt_zero j)⟩
  · intro k i s hB hi ⟨hl2, hs⟩
    have hlen := hx _ (getD_mem l i [] hi)
    refine Or.inr ⟨s.set i (l.getD i []), ?_, by simpa using hl2, fun j hj => ?_⟩
    · simp only [laws_toIntSS.l0]
      rw [if_pos (by omega), if_pos (by omega), rdL_nat, toIntS_f (by omega) (by omega)]
      simp only [Option.bind_some]
      rw [if_pos (by omega), wrap_id (by omega) (by omega)]
      rfl
    · rw [getD_set _ _ _ _ _ (by omega)]
      by_cases e : j = i
      · rw [if_pos e, e]
      · rw [if_neg e]
        exact hs j (by omega)
  · intro k s _ ⟨hl2, hs⟩
    simp only [laws_toIntSS.l0]
    rw [if_neg (by omega), ext_getD (d := ([] : List Int)) hl2 hs]

theorem eqIntS_f {k : Nat} {a b : List Int} (hk : a.length < k) (hm : a.length ≤ 35184372088832) : laws_eqIntS.f k a b = some (decide (a = b)) := by
  unfold laws_eqIntS.f
  by_cases hab : a.length = b.length
  · rw [if_pos (by omega)]
    refine run_inv (fun k (_ : Unit) i => laws_eqIntS.l0 k a b (i : Int)) a.length (fun i _ => ∀ j, j < i → a.getD j 0 = b.getD j 0) _ ?_ ?_ k 0 () (Nat.zero_le _) (by omega) (fun j hj => absurd hj (Nat.not_lt_zero j))
    · intro k i _ hi hs
      by_cases e : a.getD i 0 = b.getD i 0
      · refine Or.inr ⟨(), ?_, fun j hj => ?_⟩
        · simp only [laws_eqIntS.l0]
          rw [if_pos (by omega), if_pos (by omega), if_pos (by omega), rd_nat, rd_nat, if_pos e, wrap_id (by omega) (by omega)]
          rfl
        · by_cases e2 : j = i
          · rw [e2]; exact e
          · exact hs j (by omega)
      · refine Or.inl ?_
        simp only [laws_eqIntS.l0]
        rw [if_pos (by omega), if_pos (by omega), if_pos (by omega), rd_nat, rd_nat, if_neg e, decide_eq_false (fun h => e (by rw [h]))]
    · intro k _ hs
      simp only [laws_eqIntS.l0]
      rw [if_neg (by omega), decide_eq_true (ext_getD hab (fun j hj => hs j (by omega)))]
  · rw [if_neg (by omega), decide_eq_false (fun h => hab (by rw [h]))]

theorem eqIntSS_f {k : Nat} {l : List (List Int)} (hk : 2100000 < k) (hl : l.length ≤ 1048576) (hx : ∀ x ∈ l, x.length ≤ 1048576) : laws_eqIntSS.f k l l = some true := by
  unfold laws_eqIntSS.f
  rw [if_pos rfl]
  refine run_invB 1048577 (fun k (_ : Unit) i => laws_eqIntSS.l0 k l l (i : Int)) l.length (fun _ _ => True) _ ?_ ?_ k 0 () (Nat.zero_le _) (by omega) trivial
  · intro k i _ hB hi _
    have hlen := hx _ (getD_mem l i [] hi)
    refine Or.inr ⟨(), ?_, trivial⟩
    simp only [laws_eqIntSS.l0]
    rw [if_pos (by omega), if_pos (by omega), if_pos (by omega), rdL_nat, eqIntS_f (by omega) (by omega), wrap_id (by omega) (by omega)]
    simp
  · intro k _ _ _
    simp only [laws_eqIntSS.l0]
    rw [if_neg (by omega)]

theorem markIntS_f {k : Nat} {l : List Int} {a : Int} (hk : l.length < k) (hm : l.length ≤ 35184372088832) (h0 : 0 ≤ a) (h1 : a ≤ 1000000000000000000) : laws_markIntS.f k l a = some (a + l.length, marks a l.length) := by
  unfold laws_markIntS.f
  refine (?_ : laws_markIntS.l0 k l a ((0 : Nat) : Int) = _)
  refine run_inv (fun k (s : List Int × Int) i => laws_markIntS.l0 k s.1 s.2 (i : Int)) l.length (fun i s => s.1.length = l.length ∧ s.2 = a + (i : Int) ∧ ∀ j, j < i → s.1.getD j 0 = a + (j : Int)) _ ?_ ?_ k 0 (l, a) (Nat.zero_le _) (by omega) ⟨rfl, by simp, fun j hj => absurd hj (Nat.not_lt_zero j)⟩
  · rintro k i ⟨s, c⟩ hi ⟨hl, hc, hs⟩
    simp only at hl hc hs
    subst hc
    refine Or.inr ⟨(s.set i (a + (i : Int)), a + (i : Int) + 1), ?_, by simpa using hl, by simp only [Int.natCast_add]; omega, fun j hj => ?_⟩
    · simp only [laws_markIntS.l0]
      rw [if_pos (by omega), if_pos (by omega), wrap_id (x := a + (i : Int) + 1) (by omega) (by omega), wrap_id (by omega) (by omega)]
      rfl
    · simp only
      rw [getD_set _ _ _ _ _ (by omega)]
      by_cases e : j = i
      · rw [if_pos e, e]
      · rw [if_neg e]
        exact hs j (by omega)
  · rintro k ⟨s, c⟩ ⟨hl, hc, hs⟩
    simp only at hl hc hs
    subst hc
    simp only [laws_markIntS.l0]
    rw [if_neg (by omega), ext_getD (d := 0) (s := s) (l := marks a l.length) (by rw [marks_length]; exact hl) (fun j hj => by rw [marks_length] at hj; rw [marks_getD _ _ _ hj]; exact hs j hj)]

theorem heldIntS_f {k : Nat} {n : Nat} {a : Int} (hk : n < k) (hm : n ≤ 35184372088832) (h0 : 0 ≤ a) (h1 : a ≤ 1000000000000000000) : laws_heldIntS.f k (marks a n) a = some (a + (n : Int)) := by
  unfold laws_heldIntS.f
  refine (?_ : laws_heldIntS.l0 k (marks a n) a ((0 : Nat) : Int) = _)
  have hlen := marks_length a n
  refine run_inv (fun k (s : Int) i => laws_heldIntS.l0 k (marks a n) s (i : Int)) n (fun i s => s = a + (i : Int)) _ ?_ ?_ k 0 a (Nat.zero_le _) (by omega) (by simp)
  · rintro k i s hi rfl
    refine Or.inr ⟨a + (i : Int) + 1, ?_, by simp only [Int.natCast_add]; omega⟩
    simp only [laws_heldIntS.l0]
    rw [if_pos (by omega), if_pos (by omega), rd_nat, marks_getD _ _ _ hi, if_pos rfl, wrap_id (x := a + (i : Int) + 1) (by omega) (by omega), wrap_id (by omega) (by omega)]
    rfl
  · rintro k s rfl
    simp only [laws_heldIntS.l0]
    rw [if_neg (by omega)]

theorem l3CopyB_f {k : Nat} {l : List Int} (hk : l.length < k) (hm : l.length ≤ 1048576) : spec_l3Copy.f k l = some l := by
  unfold spec_l3Copy.f
  refine run_inv (fun k (s : List Int) i => spec_l3Copy.l0 k l s (i : Int)) l.length (fun i s => s = l.take i) _ ?_ ?_ k 0 [] (Nat.zero_le _) (by omega) (by simp)
  · rintro k i s hi rfl
    have hl : (l.take i).length = i := by rw [List.length_take]; omega
    have er : rd l (i : Int) = l.getD i 0 := by simp [rd]
    refine Or.inr ⟨_, ?_, (take_succ_getD l i 0 hi).symm⟩
    simp only [spec_l3Copy.l0]
    rw [if_pos (by omega), if_pos (by omega), if_pos (by rw [hl]; omega), wrap_id (x := (i : Int) + 1) (by omega) (by omega), er]
    rfl
  · rintro k s rfl
    simp only [spec_l3Copy.l0]
    rw [if_neg (by omega), List.take_length]
theorem markSS_f {k : Nat} : ∀ (l : List (List Int)) (b : Int), (∀ x ∈ l, x.length < k ∧ x.length ≤ 1048576) → 0 ≤ b → b + (total l : Int) ≤ 100000000000 → laws_markIntSS.f k l b = some (b + (total l : Int)) := by
  intro l
  induction l with
  | nil => intro b _ hb _; simp [laws_markIntSS.f, laws_markIntSS.go, total]
  | cons x l ih =>
    intro b hx hb hs
    have h1 := hx x (by simp)
    have ht : total (x :: l) = x.length + total l := by simp [total]
    have h := ih (b + (x.length : Int)) (fun y hy => hx y (by simp [hy])) (by omega) (by omega)
    unfold laws_markIntSS.f laws_markIntSS.go
    rw [markIntS_f h1.1 (by omega) hb (by omega)]
    refine Eq.trans h (congrArg some ?_)
    omega
theorem at_some {l0 l1 : List (List Int)} {n : Int} (h0 : 0 ≤ n) (hn : n ≤ 9223372036854775807) (hl0 : l0.length ≤ 1048576) (hl : 0 < l1.length) (hl1 : l1.length ≤ 1048576) (h2 : ∀ x ∈ l0, x.length ≤ 1048576) (h3 : ∀ x ∈ l1, x.length ≤ 1048576) : ∃ t, spec_l3At.f l0 l1 n = some t ∧ t.length ≤ 1048576 := by
  unfold spec_l3At.f
  by_cases h : n < (l0.length : Int)
  · obtain ⟨m, rfl⟩ := Int.eq_ofNat_of_zero_le h0
    rw [if_pos h, if_pos h0]
    exact ⟨_, rfl, by rw [rdL_nat]; exact h2 _ (getD_mem l0 m [] (Int.ofNat_lt.1 h))⟩
  · have e : wrap64 (n - (l0.length : Int)) = n - (l0.length : Int) := wrap_id (by omega) (by omega)
    have g0 : 0 ≤ Int.tmod (n - (l0.length : Int)) (l1.length : Int) := Int.tmod_nonneg _ (by omega)
    have g1 : Int.tmod (n - (l0.length : Int)) (l1.length : Int) < (l1.length : Int) := Int.tmod_lt_of_pos _ (by omega)
    rw [if_neg h, if_neg (by omega), e, if_pos g0, if_pos g1]
    refine ⟨_, rfl, ?_⟩
    obtain ⟨m, hm⟩ := Int.eq_ofNat_of_zero_le g0
    rw [hm] at g1 ⊢
    rw [rdL_nat]
    exact h3 _ (getD_mem l1 m [] (Int.ofNat_lt.1 g1))
theorem lasso_eq {l0 l1 : List (List Int)} {n : Int} (hn : n ≤ 9223372036854775807) (hl0 : l0.length ≤ 1048576) (hl1 : l1.length ≤ 1048576) (h2 : ∀ x ∈ l0, x.length ≤ 1048576) (h3 : ∀ x ∈ l1, x.length ≤ 1048576) : ∃ R, R.length ≤ 1048576 ∧ ∀ k, 1048600 < k → spec_LassoAt.f k l0 l1 n = some R ∧ impl_LassoAt.f k l0 l1 n = some R := by
  obtain ⟨b, hb, hb2⟩ : ∃ b, spec_l3Loop.f l0 l1 = some b ∧ (b = true → 0 < l1.length) := by
    unfold spec_l3Loop.f
    by_cases h : (l1.length : Int) > 0
    · rw [if_pos h]
      exact ⟨_, rfl, fun _ => by omega⟩
    · rw [if_neg h]
      exact ⟨_, rfl, fun h => by cases h⟩
  have hc : impl_lassoOk.f l0 l1 = some b := hb
  by_cases h0 : n < 0
  · refine ⟨[], by simp, fun k hk => ?_⟩
    obtain ⟨k, rfl⟩ : ∃ m, k = m + 1 := ⟨k - 1, by omega⟩
    unfold spec_LassoAt.f impl_LassoAt.f
    rw [if_pos h0, hc, decide_eq_true h0]
    simp only [Option.bind_some]
    cases b <;> exact ⟨rfl, rfl⟩
  · cases b with
    | false =>
      refine ⟨[], by simp, fun k hk => ?_⟩
      obtain ⟨k, rfl⟩ : ∃ m, k = m + 1 := ⟨k - 1, by omega⟩
      unfold spec_LassoAt.f impl_LassoAt.f
      rw [if_neg h0, hc, hb]
      exact ⟨rfl, rfl⟩
    | true =>
      obtain ⟨t, ht, htl⟩ := at_some (by omega) hn hl0 (hb2 rfl) hl1 h2 h3
      have ht2 : impl_lassoAt.f l0 l1 n = some t := ht
      refine ⟨t, htl, fun k hk => ?_⟩
      obtain ⟨k, rfl⟩ : ∃ m, k = m + 1 := ⟨k - 1, by omega⟩
      unfold spec_LassoAt.f impl_LassoAt.f
      rw [if_neg h0, hc, hb, decide_eq_false h0]
      simp only [Option.bind_some, if_true, Bool.not_true, spec_LassoAt.j0, impl_LassoAt.j0, Bool.false_eq_true, if_false, ht, ht2]
      rw [l3CopyB_f (by omega) htl]
      unfold impl_clone_int.f
      rw [if_pos (by omega)]
      exact ⟨rfl, rfl⟩
theorem FnExactLassoAt : laws_FnExactLassoAt.Pure := by
  intro l0 l1 n hl0 hx0 hl1 hx1 hn
  have hn := wf_iff.1 hn
  refine ⟨2200000, ?_⟩
  obtain ⟨KK, hKK⟩ : ∃ KK, KK = 2200000 := ⟨_, rfl⟩
  rw [← hKK]
  unfold laws_FnExactLassoAt.f
  obtain ⟨r, hr, hs⟩ := szIntSS_f (k := KK) (l := l0) (a := 1048576) (by omega) (by omega) (by omega) hl0 (fun x h => (hx0 x h).1)
  rw [hr]
  simp only [Option.bind_some]
  by_cases h : r < 0
  · rw [if_pos h]
  · have hr2 := hs (by omega)
    rw [if_neg h]
    obtain ⟨r', hr', hs'⟩ := szIntSS_f (k := KK) (l := l1) (a := r) (by omega) (by omega) (by omega) hl1 (fun x h => (hx1 x h).1)
    rw [hr']
    simp only [Option.bind_some]
    by_cases h' : r' < 0
    · rw [if_pos h']
    · have hr3 := hs' (by omega)
      have a1 : l0.length ≤ 1048576 := by omega
      have a2 : ∀ x ∈ l0, x.length ≤ 1048576 := fun x hx => by have := total_mem hx; omega
      have b1 : l1.length ≤ 1048576 := by omega
      have b2 : ∀ x ∈ l1, x.length ≤ 1048576 := fun x hx => by have := total_mem hx; omega
      obtain ⟨R, hR, hRR⟩ := lasso_eq (n := n) (by omega) a1 b1 a2 b2
      obtain ⟨k, hk⟩ : ∃ m, KK = m + 1 := ⟨KK - 1, by omega⟩
      have hI := (hRR k (by omega)).2
      rw [if_neg h', toIntSS_f (by omega) a1 a2]
      simp only [Option.bind_some]
      rw [toIntSS_f (by omega) b1 b2]
      simp only [Option.bind_some]
      rw [(hRR KK (by omega)).1]
      simp only [Option.bind_some]
      rw [(hRR KK (by omega)).2]
      simp only [Option.bind_some]
      rw [eqIntS_f (by omega) (by omega), eqIntSS_f (by omega) a1 a2, eqIntSS_f (by omega) b1 b2]
      have m1 := markSS_f (k := KK) l0 1 (fun x hx => by have := a2 x hx; omega) (by omega) (by omega)
      have m2 := markSS_f (k := KK) l1 (1 + (total l0 : Int)) (fun x hx => by have := b2 x hx; omega) (by omega) (by omega)
      rw [m1]
      simp only [Option.bind_some, decide_true, if_true]
      rw [m2]
      have hq : ¬ (1 + (total l0 : Int) + (total l1 : Int) < 0) := by omega
      have hq2 : ¬ ((1 : Int) + (R.length : Int) < 0) := by omega
      subst hk
      simp only [Option.bind_some, decide_true, if_true, if_neg hq, Bool.not_true, laws_FnExactLassoAt.j0, Bool.false_eq_true, if_false]
      rw [markIntS_f (by omega) (by omega) (by omega) (by omega)]
      simp only [Option.bind_some]
      rw [heldIntS_f (by omega) (by omega) (by omega) (by omega), toIntSS_f (by omega) a1 a2]
      simp only [Option.bind_some, if_neg hq2, if_true]
      rw [toIntSS_f (by omega) b1 b2]
      simp only [Option.bind_some, hI]
      rw [eqIntS_f (by omega) (by omega)]
      simp only [Option.bind_some, decide_true, if_true, if_neg hq2]

end Go.Proofs.Ythcegdgffdppgab.Pure
