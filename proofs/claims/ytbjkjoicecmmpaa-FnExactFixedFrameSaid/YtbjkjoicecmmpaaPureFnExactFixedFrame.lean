/- The law on FixedFrame holds for all arguments: the program tells what the reference tells, and leaves its argument as it was.
Conditions: none. -/
import Derived.Test.YtbjkjoicecmmpaaXFnExactFixedFramex2
import Derived.Test.YtbjkjoicecmmpaaXLib2
namespace Go.Proofs.Ytbjkjoicecmmpaa.Pure
open Go.RowKit Go.Proofs.Ytbjkjoicecmmpaa.XFnExactFixedFrame Go.Proofs.YtbjkjoicecmmpaaW.PrintWords Go.Proofs.YtbjkjoicecmmpaaW.PrintLast Go.Proofs.YtbjkjoicecmmpaaW.PrintMore Go.Proofs.YtbjkjoicecmmpaaX
set_option linter.unusedVariables false
set_option linter.unusedSimpArgs false

theorem rdL_nat (xs : List (List Int)) (i : Nat) : rd_L1 xs (i : Int) = xs.getD i [] := by
  unfold rd_L1
  simp

/-- How many numbers all rows hold. -/
def total (l : List (List Int)) : Nat := (l.map List.length).sum
theorem total_take (l : List (List Int)) (i : Nat) (h : i < l.length) : total (l.take (i + 1)) = total (l.take i) + (l.getD i []).length := by
  unfold total
  rw [take_succ_getD l i [] h, List.map_append, List.sum_append]
  simp
theorem total_le (l : List (List Int)) (i : Nat) : total (l.take i) ≤ total l := by
  have h : total l = total (l.take i) + total (l.drop i) := by
    unfold total
    rw [← List.sum_append, ← List.map_append, List.take_append_drop]
  omega
theorem total_mem {l : List (List Int)} {x : List Int} (h : x ∈ l) : x.length ≤ total l := by
  unfold total
  induction l with
  | nil => cases h
  | cons y l ih =>
    simp only [List.map_cons, List.sum_cons]
    rcases List.mem_cons.1 h with rfl | h
    · omega
    · have := ih h
      omega

theorem szIntS_f {l : List Int} {a : Int} (h0 : 0 ≤ a) (h1 : a ≤ 1048576) (hl : l.length ≤ 9223372036854775807) : laws_szIntS.f l a = some (if a - (l.length : Int) < 0 then -1 else a - (l.length : Int)) := by
  unfold laws_szIntS.f
  rw [wrap_id (by omega) (by omega)]
  by_cases h : a - (l.length : Int) < 0
  · rw [if_pos h, if_pos h]
  · rw [if_neg h, if_neg h]
theorem szIntSS_f {k : Nat} {l : List (List Int)} {a : Int} (hk : 1048577 < k) (h0 : 0 ≤ a) (h1 : a ≤ 1048576) (hl : l.length ≤ 9223372036854775807) (hx : ∀ x ∈ l, x.length ≤ 9223372036854775807) :
    ∃ r, laws_szIntSS.f k l a = some r ∧ (0 ≤ r → r = a - (l.length : Int) - (total l : Int)) := by
  unfold laws_szIntSS.f
  rw [wrap_id (by omega) (by omega)]
  by_cases h : a - (l.length : Int) < 0
  · exact ⟨-1, by rw [if_pos h], fun g => absurd g (by omega)⟩
  · rw [if_neg h]
    refine ⟨if a - (l.length : Int) - (total l : Int) < 0 then -1 else a - (l.length : Int) - (total l : Int), ?_, ?_⟩
    · refine run_inv (fun k (s : Int) i => laws_szIntSS.l0 k l s (i : Int)) l.length (fun i s => s = a - (l.length : Int) - (total (l.take i) : Int) ∧ 0 ≤ s) _ ?_ ?_ k 0 _ (Nat.zero_le _) (by omega) ⟨by simp [total], by omega⟩
      · rintro k i s hi ⟨rfl, hs⟩
        have ht := total_take l i hi
        have hle := total_le l (i + 1)
        have hlen := hx _ (getD_mem l i [] hi)
        simp only [laws_szIntSS.l0]
        rw [if_pos (by omega), if_pos (by omega), rdL_nat, szIntS_f hs (by omega) hlen, wrap_id (x := (i : Int) + 1) (by omega) (by omega)]
        simp only [Option.bind_some]
        by_cases hneg : a - (l.length : Int) - (total (l.take i) : Int) - ((l.getD i []).length : Int) < 0
        · refine Or.inl ?_
          rw [if_pos (show (if a - (l.length : Int) - (total (l.take i) : Int) - ((l.getD i []).length : Int) < 0 then (-1 : Int) else _) < 0 by rw [if_pos hneg]; omega), if_pos (by omega)]
        · refine Or.inr ⟨a - (l.length : Int) - (total (l.take i) : Int) - ((l.getD i []).length : Int), ?_, ?_⟩
          · simp only [if_neg hneg]
            rfl
          · rw [ht]
            exact ⟨by simp only [Int.natCast_add]; omega, by omega⟩
      · rintro k s ⟨rfl, hs⟩
        simp only [laws_szIntSS.l0]
        rw [if_neg (by omega)]
        rw [List.take_length] at hs ⊢
        rw [if_neg (by omega)]
    · intro g
      by_cases hneg : a - (l.length : Int) - (total l : Int) < 0
      · rw [if_pos hneg] at g
        omega
      · rw [if_neg hneg]

theorem l2Same_f {k : Nat} {a b : List Int} (hk : a.length < k) (hm : a.length ≤ 35184372088832) : spec_l2Same.f k a b = some (decide (a = b)) := by
  unfold spec_l2Same.f
  by_cases hab : a.length = b.length
  · rw [if_pos (by omega)]
    refine run_inv (fun k (_ : Unit) i => spec_l2Same.l0 k a b (i : Int)) a.length (fun i _ => ∀ j, j < i → a.getD j 0 = b.getD j 0) _ ?_ ?_ k 0 () (Nat.zero_le _) (by omega) (fun j hj => absurd hj (Nat.not_lt_zero j))
    · intro k i _ hi hs
      by_cases e : a.getD i 0 = b.getD i 0
      · refine Or.inr ⟨(), ?_, fun j hj => ?_⟩
        · simp only [spec_l2Same.l0]
          rw [if_pos (by omega), if_pos (by omega), if_pos (by omega), rd_nat, rd_nat, if_pos e, wrap_id (by omega) (by omega)]
          rfl
        · by_cases e2 : j = i
          · rw [e2]; exact e
          · exact hs j (by omega)
      · refine Or.inl ?_
        simp only [spec_l2Same.l0]
        rw [if_pos (by omega), if_pos (by omega), if_pos (by omega), rd_nat, rd_nat, if_neg e, decide_eq_false (fun h => e (by rw [h]))]
    · intro k _ hs
      simp only [spec_l2Same.l0]
      rw [if_neg (by omega), decide_eq_true (ext_getD hab (fun j hj => hs j (by omega)))]
  · rw [if_neg (by omega), decide_eq_false (fun h => hab (by rw [h]))]

theorem toIntS_f {k : Nat} {l : List Int} (hk : l.length < k) (hm : l.length ≤ 35184372088832) : laws_toIntS.f k l = some l := by
  unfold laws_toIntS.f
  rw [if_pos (by omega), if_pos (by omega)]
  refine run_inv (fun k (s : List Int) i => laws_toIntS.l0 k l s (i : Int)) l.length (fun i s => s.length = l.length ∧ ∀ j, j < i → s.getD j 0 = l.getD j 0) l ?_ ?_ k 0 _ (Nat.zero_le _) (by omega) ⟨by simp, fun j hj => absurd hj (Nat.not_lt_zero j)⟩
  · intro k i s hi ⟨hl, hs⟩
    refine Or.inr ⟨s.set i (l.getD i 0), ?_, by simpa using hl, fun j hj => ?_⟩
    · simp only [laws_toIntS.l0]
      rw [if_pos (by omega), if_pos (by omega), if_pos (by omega), wrap_id (by omega) (by omega), rd_nat]
      rfl
    · rw [getD_set _ _ _ _ _ (by omega)]
      by_cases e : j = i
      · rw [if_pos e, e]
      · rw [if_neg e]
        exact hs j (by omega)
  · intro k s ⟨hl, hs⟩
    simp only [laws_toIntS.l0]
    rw [if_neg (by omega), ext_getD hl hs]

theorem toIntSS_f {k : Nat} {l : List (List Int)} (hk : 2100000 < k) (hl : l.length ≤ 1048576) (hx : ∀ x ∈ l, x.length ≤ 1048576) : laws_toIntSS.f k l = some l := by
  unfold laws_toIntSS.f
  rw [if_pos (by omega), if_pos (by omega)]
  refine run_invB 1048577 (fun k (s : List (List Int)) i => laws_toIntSS.l0 k l s (i : Int)) l.length (fun i s => s.length = l.length ∧ ∀ j, j < i → s.getD j [] = l.getD j []) _ ?_ ?_ k 0 _ (Nat.zero_le _) (by omega) ⟨by simp, fun j hj => absurd hj (Nat.not_lt_zero j)⟩
  · intro k i s hB hi ⟨hl2, hs⟩
    have hlen := hx _ (getD_mem l i [] hi)
    refine Or.inr ⟨s.set i (l.getD i []), ?_, by simpa using hl2, fun j hj => ?_⟩
    · simp only [laws_toIntSS.l0]
      rw [if_pos (by omega), if_pos (by omega), rdL_nat, toIntS_f (by omega) (by omega)]
      simp only [Option.bind_some]
      rw [if_pos (by omega), wrap_id (by omega) (by omega)]
      rfl
    · rw [getD_set _ _ _ _ _ (by omega)]
      by_cases e : j = i
      · rw [if_pos e, e]
      · rw [if_neg e]
        exact hs j (by omega)
  · intro k s _ ⟨hl2, hs⟩
    simp only [laws_toIntSS.l0]
    rw [if_neg (by omega), ext_getD (d := ([] : List Int)) hl2 hs]

theorem slEqual_f {k : Nat} {a b : List Int} (hk : a.length < k) (hm : a.length ≤ 35184372088832) : slices_Equal_int_int.f k a b = some (decide (a = b)) := by
  unfold slices_Equal_int_int.f
  by_cases hab : a.length = b.length
  · rw [if_pos (by omega)]
    refine run_inv (fun k (_ : Unit) i => slices_Equal_int_int.l0 k a b (a.length : Int) (i : Int)) a.length (fun i _ => ∀ j, j < i → a.getD j 0 = b.getD j 0) _ ?_ ?_ k 0 () (Nat.zero_le _) (by omega) (fun j hj => absurd hj (Nat.not_lt_zero j))
    · intro k i _ hi hs
      by_cases e : a.getD i 0 = b.getD i 0
      · refine Or.inr ⟨(), ?_, fun j hj => ?_⟩
        · simp only [slices_Equal_int_int.l0]
          rw [if_pos (by omega), if_pos (by omega), if_pos (by omega), if_pos (by omega), rd_nat, rd_nat, if_pos e, wrap_id (by omega) (by omega)]
          rfl
        · by_cases e2 : j = i
          · rw [e2]; exact e
          · exact hs j (by omega)
      · refine Or.inl ?_
        simp only [slices_Equal_int_int.l0]
        rw [if_pos (by omega), if_pos (by omega), if_pos (by omega), if_pos (by omega), rd_nat, rd_nat, if_neg e, decide_eq_false (fun h => e (by rw [h]))]
    · intro k _ hs
      simp only [slices_Equal_int_int.l0]
      rw [if_neg (by omega), decide_eq_true (ext_getD hab (fun j hj => hs j (by omega)))]
  · rw [if_neg (by omega), decide_eq_false (fun h => hab (by rw [h]))]

theorem eqIntS_f {k : Nat} {a b : List Int} (hk : a.length < k) (hm : a.length ≤ 35184372088832) : laws_eqIntS.f k a b = some (decide (a = b)) := by
  unfold laws_eqIntS.f
  by_cases hab : a.length = b.length
  · rw [if_pos (by omega)]
    refine run_inv (fun k (_ : Unit) i => laws_eqIntS.l0 k a b (i : Int)) a.length (fun i _ => ∀ j, j < i → a.getD j 0 = b.getD j 0) _ ?_ ?_ k 0 () (Nat.zero_le _) (by omega) (fun j hj => absurd hj (Nat.not_lt_zero j))
    · intro k i _ hi hs
      by_cases e : a.getD i 0 = b.getD i 0
      · refine Or.inr ⟨(), ?_, fun j hj => ?_⟩
        · simp only [laws_eqIntS.l0]
          rw [if_pos (by omega), if_pos (by omega), if_pos (by omega), rd_nat, rd_nat, if_pos e, wrap_id (by omega) (by omega)]
          rfl
        · by_cases e2 : j = i
          · rw [e2]; exact e
          · exact hs j (by omega)
      · refine Or.inl ?_
        simp only [laws_eqIntS.l0]
        rw [if_pos (by omega), if_pos (by omega), if_pos (by omega), rd_nat, rd_nat, if_neg e, decide_eq_false (fun h => e (by rw [h]))]
    · intro k _ hs
      simp only [laws_eqIntS.l0]
      rw [if_neg (by omega), decide_eq_true (ext_getD hab (fun j hj => hs j (by omega)))]
  · rw [if_neg (by omega), decide_eq_false (fun h => hab (by rw [h]))]

theorem eqIntSS_f {k : Nat} {l : List (List Int)} (hk : 2100000 < k) (hl : l.length ≤ 1048576) (hx : ∀ x ∈ l, x.length ≤ 1048576) : laws_eqIntSS.f k l l = some true := by
  unfold laws_eqIntSS.f
  rw [if_pos rfl]
  refine run_invB 1048577 (fun k (_ : Unit) i => laws_eqIntSS.l0 k l l (i : Int)) l.length (fun _ _ => True) _ ?_ ?_ k 0 () (Nat.zero_le _) (by omega) trivial
  · intro k i _ hB hi _
    have hlen := hx _ (getD_mem l i [] hi)
    refine Or.inr ⟨(), ?_, trivial⟩
    simp only [laws_eqIntSS.l0]
    rw [if_pos (by omega), if_pos (by omega), if_pos (by omega), rdL_nat, eqIntS_f (by omega) (by omega), wrap_id (by omega) (by omega)]
    simp
  · intro k _ _ _
    simp only [laws_eqIntSS.l0]
    rw [if_neg (by omega)]

theorem both_from {l : List (List Int)} (hl : l.length ≤ 1048576) (hx : ∀ x ∈ l, x.length ≤ 1048576) : ∀ d i : Nat, i + d = l.length + 1 → 1 ≤ i →
    ∃ r, ∀ k, d + 1048577 < k → spec_FixedFrame.l0 k l (i : Int) = some r ∧ impl_FixedFrame.l0 k l (i : Int) = some r := by
  intro d
  induction d with
  | zero =>
    intro i hi h1
    refine ⟨-1, fun k hk => ?_⟩
    obtain ⟨k, rfl⟩ : ∃ m, k = m + 1 := ⟨k - 1, by omega⟩
    simp only [spec_FixedFrame.l0, impl_FixedFrame.l0]
    rw [wrap_id (by omega) (by omega), if_neg (by omega), if_neg (by omega)]
    exact ⟨rfl, rfl⟩
  | succ d ih =>
    intro i hi h1
    obtain ⟨r, hr⟩ := ih (i + 1) (by omega) (by omega)
    by_cases hlt : (i : Int) + 1 < (l.length : Int)
    · have hi1 := hx _ (getD_mem l i [] (by omega))
      have hlt' : ((i + 1 : Nat) : Int) < (l.length : Int) := hlt
      have e1 : (i : Int) + 1 = ((i + 1 : Nat) : Int) := rfl
      by_cases e : l.getD i [] = l.getD (i + 1) []
      · refine ⟨i, fun k hk => ?_⟩
        obtain ⟨k, rfl⟩ : ∃ m, k = m + 1 := ⟨k - 1, by omega⟩
        simp only [spec_FixedFrame.l0, impl_FixedFrame.l0]
        rw [wrap_id (by omega) (by omega)]
        simp only [e1, if_pos hlt', if_pos (show (0 : Int) ≤ (i : Int) by omega), if_pos (show (i : Int) < (l.length : Int) by omega), if_pos (show (0 : Int) ≤ ((i + 1 : Nat) : Int) by omega), rdL_nat]
        rw [l2Same_f (by omega) (by omega), slEqual_f (by omega) (by omega), decide_eq_true e]
        exact ⟨rfl, rfl⟩
      · refine ⟨r, fun k hk => ?_⟩
        obtain ⟨k, rfl⟩ : ∃ m, k = m + 1 := ⟨k - 1, by omega⟩
        simp only [spec_FixedFrame.l0, impl_FixedFrame.l0]
        rw [wrap_id (by omega) (by omega)]
        simp only [e1, if_pos hlt', if_pos (show (0 : Int) ≤ (i : Int) by omega), if_pos (show (i : Int) < (l.length : Int) by omega), if_pos (show (0 : Int) ≤ ((i + 1 : Nat) : Int) by omega), rdL_nat]
        rw [l2Same_f (by omega) (by omega), slEqual_f (by omega) (by omega), decide_eq_false e]
        exact hr k (by omega)
    · refine ⟨-1, fun k hk => ?_⟩
      obtain ⟨k, rfl⟩ : ∃ m, k = m + 1 := ⟨k - 1, by omega⟩
      simp only [spec_FixedFrame.l0, impl_FixedFrame.l0]
      rw [wrap_id (by omega) (by omega), if_neg hlt, if_neg hlt]
      exact ⟨rfl, rfl⟩

theorem FnExactFixedFrame : laws_FnExactFixedFrame.Pure := by
  intro l hl hx
  refine ⟨4000000, ?_⟩
  unfold laws_FnExactFixedFrame.f
  obtain ⟨r, h1, h2⟩ := szIntSS_f (k := 4000000) (l := l) (a := 1048576) (by omega) (by omega) (by omega) hl (fun x h => (hx x h).1)
  rw [h1]
  simp only [Option.bind_some]
  by_cases h : r < 0
  · rw [if_pos h]
  · have h3 := h2 (by omega)
    have hl' : l.length ≤ 1048576 := by omega
    have hx' : ∀ x ∈ l, x.length ≤ 1048576 := fun x g => by have := total_mem g; omega
    rw [if_neg h, toIntSS_f (by omega) hl' hx']
    simp only [Option.bind_some]
    unfold spec_FixedFrame.f impl_FixedFrame.f
    obtain ⟨q, hq⟩ := both_from hl' hx' l.length 1 (by omega) (by omega)
    have hq1 : spec_FixedFrame.l0 4000000 l 1 = some q := (hq 4000000 (by omega)).1
    have hq2 : impl_FixedFrame.l0 4000000 l 1 = some q := (hq 4000000 (by omega)).2
    rw [hq1, hq2]
    simp only [Option.bind_some, if_true]
    rw [eqIntSS_f (by omega) hl' hx']
    simp

end Go.Proofs.Ytbjkjoicecmmpaa.Pure
