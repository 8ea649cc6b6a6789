/- The law on SetWithout holds for all arguments: the program's set is the reference's, in memory of its own, and the arguments stay as they were.
Conditions: none. -/
import Derived.Test.YtbjkjoicecmmpaaXFnExactSetWithoutx4
import Derived.Test.YtbjkjoicecmmpaaXLib2
namespace Go.Proofs.Ytbjkjoicecmmpaa.Pure
open Go.RowKit Go.Proofs.Ytbjkjoicecmmpaa.XFnExactSetWithout Go.Proofs.YtbjkjoicecmmpaaW.PrintWords Go.Proofs.YtbjkjoicecmmpaaW.PrintLast Go.Proofs.YtbjkjoicecmmpaaW.PrintMore Go.Proofs.YtbjkjoicecmmpaaX
set_option linter.unusedVariables false
set_option linter.unusedSimpArgs false

theorem toIntS_f {k : Nat} {l : List Int} (hk : l.length < k) (hm : l.length ≤ 35184372088832) : laws_toIntS.f k l = some l := by
  unfold laws_toIntS.f
  rw [if_pos (by omega), if_pos (by omega)]
  refine run_inv (fun k (s : List Int) i => laws_toIntS.l0 k l s (i : Int)) l.length (fun i s => s.length = l.length ∧ ∀ j, j < i → s.getD j 0 = l.getD j 0) l ?_ ?_ k 0 _ (Nat.zero_le _) (by omega) ⟨by simp, fun j hj => absurd hj (Nat.not_lt_zero j)⟩
  · intro k i s hi ⟨hl, hs⟩
    refine Or.inr ⟨s.set i (l.getD i 0), ?_, by simpa using hl, fun j hj => ?_⟩
    · simp only [laws_toIntS.l0]
      rw [if_pos (by omega), if_pos (by omega), if_pos (by omega), wrap_id (by omega) (by omega), rd_nat]
      rfl
    · rw [getD_set _ _ _ _ _ (by omega)]
      by_cases e : j = i
      · rw [if_pos e, e]
      · rw [if_neg e]
        exact hs j (by omega)
  · intro k s ⟨hl, hs⟩
    simp only [laws_toIntS.l0]
    rw [if_neg (by omega), ext_getD hl hs]

theorem eqIntS_f {k : Nat} {a b : List Int} (hk : a.length < k) (hm : a.length ≤ 35184372088832) : laws_eqIntS.f k a b = some (decide (a = b)) := by
  unfold laws_eqIntS.f
  by_cases hab : a.length = b.length
  · rw [if_pos (by omega)]
    refine run_inv (fun k (_ : Unit) i => laws_eqIntS.l0 k a b (i : Int)) a.length (fun i _ => ∀ j, j < i → a.getD j 0 = b.getD j 0) _ ?_ ?_ k 0 () (Nat.zero_le _) (by omega) (fun j hj => absurd hj (Nat.not_lt_zero j))
    · intro k i _ hi hs
      by_cases e : a.getD i 0 = b.getD i 0
      · refine Or.inr ⟨(), ?_, fun j hj => ?_⟩
        · simp only [laws_eqIntS.l0]
          rw [if_pos (by omega), if_pos (by omega), if_pos (by omega), rd_nat, rd_nat, if_pos e, wrap_id (by omega) (by omega)]
          rfl
        · by_cases e2 : j = i
          · rw [e2]; exact e
          · exact hs j (by omega)
      · refine Or.inl ?_
        simp only [laws_eqIntS.l0]
        rw [if_pos (by omega), if_pos (by omega), if_pos (by omega), rd_nat, rd_nat, if_neg e, decide_eq_false (fun h => e (by rw [h]))]
    · intro k _ hs
      simp only [laws_eqIntS.l0]
      rw [if_neg (by omega), decide_eq_true (ext_getD hab (fun j hj => hs j (by omega)))]
  · rw [if_neg (by omega), decide_eq_false (fun h => hab (by rw [h]))]

theorem markIntS_f {k : Nat} {l : List Int} {a : Int} (hk : l.length < k) (hm : l.length ≤ 35184372088832) (h0 : 0 ≤ a) (h1 : a ≤ 1000000000000000000) : laws_markIntS.f k l a = some (a + l.length, marks a l.length) := by
  unfold laws_markIntS.f
  refine (?_ : laws_markIntS.l0 k l a ((0 : Nat) : Int) = _)
  refine run_inv (fun k (s : List Int × Int) i => laws_markIntS.l0 k s.1 s.2 (i : Int)) l.length (fun i s => s.1.length = l.length ∧ s.2 = a + (i : Int) ∧ ∀ j, j < i → s.1.getD j 0 = a + (j : Int)) _ ?_ ?_ k 0 (l, a) (Nat.zero_le _) (by omega) ⟨rfl, by simp, fun j hj => absurd hj (Nat.not_lt_zero j)⟩
  · rintro k i ⟨s, c⟩ hi ⟨hl, hc, hs⟩
    simp only at hl hc hs
    subst hc
    refine Or.inr ⟨(s.set i (a + (i : Int)), a + (i : Int) + 1), ?_, by simpa using hl, by simp only [Int.natCast_add]; omega, fun j hj => ?_⟩
    · simp only [laws_markIntS.l0]
      rw [if_pos (by omega), if_pos (by omega), wrap_id (x := a + (i : Int) + 1) (by omega) (by omega), wrap_id (by omega) (by omega)]
      rfl
    · simp only
      rw [getD_set _ _ _ _ _ (by omega)]
      by_cases e : j = i
      · rw [if_pos e, e]
      · rw [if_neg e]
        exact hs j (by omega)
  · rintro k ⟨s, c⟩ ⟨hl, hc, hs⟩
    simp only at hl hc hs
    subst hc
    simp only [laws_markIntS.l0]
    rw [if_neg (by omega), ext_getD (d := 0) (s := s) (l := marks a l.length) (by rw [marks_length]; exact hl) (fun j hj => by rw [marks_length] at hj; rw [marks_getD _ _ _ hj]; exact hs j hj)]

theorem heldIntS_f {k : Nat} {n : Nat} {a : Int} (hk : n < k) (hm : n ≤ 35184372088832) (h0 : 0 ≤ a) (h1 : a ≤ 1000000000000000000) : laws_heldIntS.f k (marks a n) a = some (a + (n : Int)) := by
  unfold laws_heldIntS.f
  refine (?_ : laws_heldIntS.l0 k (marks a n) a ((0 : Nat) : Int) = _)
  have hlen := marks_length a n
  refine run_inv (fun k (s : Int) i => laws_heldIntS.l0 k (marks a n) s (i : Int)) n (fun i s => s = a + (i : Int)) _ ?_ ?_ k 0 a (Nat.zero_le _) (by omega) (by simp)
  · rintro k i s hi rfl
    refine Or.inr ⟨a + (i : Int) + 1, ?_, by simp only [Int.natCast_add]; omega⟩
    simp only [laws_heldIntS.l0]
    rw [if_pos (by omega), if_pos (by omega), rd_nat, marks_getD _ _ _ hi, if_pos rfl, wrap_id (x := a + (i : Int) + 1) (by omega) (by omega), wrap_id (by omega) (by omega)]
    rfl
  · rintro k s rfl
    simp only [laws_heldIntS.l0]
    rw [if_neg (by omega)]

theorem l1In_f (n a b : Int) : spec_l1In.f n a b = some (inB a b n) := by
  unfold spec_l1In.f inB
  by_cases h : n ≥ a
  · rw [if_pos h]; congr 1; simp; omega
  · rw [if_neg h, decide_eq_false (by omega)]

/-- A set of numbers below 'most': they rise. -/
def setOkL (l : List Int) (most : Int) : Bool := decide (∀ j, j < l.length → (inB 0 (most - 1) (l.getD j 0) && (decide (j = 0) || decide (l.getD (j - 1) 0 < l.getD j 0))) = true)
theorem setOkL_range {l : List Int} {most : Int} (h : setOkL l most = true) : ∀ x ∈ l, 0 ≤ x ∧ x < most := by
  intro x hx
  obtain ⟨j, hj, rfl⟩ := mem_getD 0 hx
  have h1 := of_decide_eq_true h j hj
  have h2 := of_decide_eq_true (Bool.and_eq_true_iff.1 h1).1
  omega

theorem l4Set_f {k : Nat} {l : List Int} (hk : l.length < k) (hm : l.length ≤ 35184372088832) : spec_l4Set.f k l = some (setOkL l 400) := by
  unfold spec_l4Set.f
  refine (run_all (fun k i => spec_l4Set.l0 k l (i : Int)) l.length (fun i => inB 0 (400 - 1) (l.getD i 0) && (decide (i = 0) || decide (l.getD (i - 1) 0 < l.getD i 0))) true false ?_ ?_ k hk).trans ?_
  · intro k i hi
    simp only [spec_l4Set.l0]
    rw [if_pos (show (i : Int) < (l.length : Int) by omega), if_pos (show (0 : Int) ≤ (i : Int) by omega), l1In_f, wrap_id (x := (i : Int) + 1) (by omega) (by omega)]
    simp only [rd_nat, Option.bind_some]
    refine (?_ : _ = if (inB 0 399 (l.getD i 0) && (decide (i = 0) || decide (l.getD (i - 1) 0 < l.getD i 0))) = true then _ else _)
    cases inB 0 399 (l.getD i 0)
    · simp
    · simp only [if_true, Bool.true_and]
      by_cases hi0 : i = 0
      · subst hi0
        rw [if_neg (show ¬ ((0 : Nat) : Int) > 0 by omega)]
        simp
      · have e1 : wrap64 ((i : Int) - 1) = ((i - 1 : Nat) : Int) := by rw [wrap_id (by omega) (by omega)]; omega
        rw [if_pos (show (i : Int) > 0 by omega), e1, if_pos (show (0 : Int) ≤ ((i - 1 : Nat) : Int) by omega), if_pos (show ((i - 1 : Nat) : Int) < (l.length : Int) by omega)]
        simp only [rd_nat]
        by_cases hlt : l.getD i 0 ≤ l.getD (i - 1) 0
        · rw [if_pos hlt, decide_eq_false hi0, decide_eq_false (show ¬ (l.getD (i - 1) 0 < l.getD i 0) by omega)]
          simp
        · rw [if_neg hlt, decide_eq_false hi0, decide_eq_true (show l.getD (i - 1) 0 < l.getD i 0 by omega)]
          simp
  · intro k
    simp only [spec_l4Set.l0]
    rw [if_neg (by omega)]
  · unfold setOkL
    by_cases h : ∀ j, j < l.length → (inB 0 (400 - 1) (l.getD j 0) && (decide (j = 0) || decide (l.getD (j - 1) 0 < l.getD j 0))) = true
    · rw [if_pos h, decide_eq_true h]
    · rw [if_neg h, decide_eq_false h]

theorem rdOf_nat {α : Type} (d : α) (xs : List α) (i : Nat) : rdOf d xs (i : Int) = xs.getD i d := by
  unfold rdOf
  simp

/-- Which numbers below n a list has. -/
def marksL (l : List Int) (n : Nat) : List Bool := (List.range n).map fun v : Nat => decide ((v : Int) ∈ l)
theorem marksL_length (l : List Int) (n : Nat) : (marksL l n).length = n := by simp [marksL]
theorem marksL_getD (l : List Int) (n v : Nat) (h : v < n) : (marksL l n).getD v false = decide ((v : Int) ∈ l) := getD_map_range _ _ _ _ h

theorem l4Marks_f {k n : Nat} {l : List Int} (hk : l.length < k) (hm : l.length ≤ 35184372088832) (hn : n ≤ 1000000) (hr : ∀ x ∈ l, 0 ≤ x ∧ x < (n : Int)) : spec_l4Marks.f k l (n : Int) = some (marksL l n) := by
  unfold spec_l4Marks.f
  rw [if_pos (by omega), if_pos (by omega)]
  refine run_inv (fun k (s : List Bool) i => spec_l4Marks.l0 k l s (i : Int)) l.length (fun i s => s.length = n ∧ ∀ v, v < n → s.getD v false = decide ((v : Int) ∈ l.take i)) _ ?_ ?_ k 0 _ (Nat.zero_le _) (by omega) ⟨by simp, fun v hv => by simp [List.getD_eq_getElem?_getD, hv]⟩
  · rintro k i s hi ⟨hl, hs⟩
    have hx := hr _ (getD_mem l i 0 hi)
    refine Or.inr ⟨s.set (l.getD i 0).toNat true, ?_, by simpa using hl, fun v hv => ?_⟩
    · simp only [spec_l4Marks.l0]
      rw [if_pos (show (i : Int) < (l.length : Int) by omega), if_pos (show (0 : Int) ≤ (i : Int) by omega), wrap_id (x := (i : Int) + 1) (by omega) (by omega)]
      simp only [rd_nat]
      rw [if_pos hx.1, if_pos (by omega)]
      rfl
    · rw [getD_set _ _ _ _ _ (by omega), take_succ_getD l i 0 hi, hs v hv]
      by_cases e : v = (l.getD i 0).toNat
      · rw [if_pos e, decide_eq_true]
        exact List.mem_append_right _ (by rw [List.mem_singleton]; omega)
      · rw [if_neg e]
        refine decide_eq_decide.2 ?_
        rw [List.mem_append, List.mem_singleton]
        constructor
        · exact Or.inl
        · rintro (h | h)
          · exact h
          · exact absurd (by omega) e
  · rintro k s ⟨hl, hs⟩
    simp only [spec_l4Marks.l0]
    rw [if_neg (by omega), ext_getD (d := false) (s := s) (l := marksL l n) (by rw [marksL_length]; exact hl) (fun v hv => by
      rw [marksL_length] at hv
      rw [marksL_getD _ _ _ hv, hs v hv, List.take_length])]

/-- The places below i at which a test holds. -/
def placesL (p : Nat → Bool) (i : Nat) : List Int := ((List.range i).filter p).map fun j : Nat => (j : Int)
theorem placesL_succ (p : Nat → Bool) (i : Nat) : placesL p (i + 1) = if p i = true then placesL p i ++ [(i : Int)] else placesL p i := by
  unfold placesL
  rw [List.range_succ, List.filter_append, List.map_append]
  cases h : p i <;> simp [h]
theorem placesL_length (p : Nat → Bool) (i : Nat) : (placesL p i).length ≤ i := by
  unfold placesL
  rw [List.length_map]
  exact Nat.le_trans (List.length_filter_le _ _) (by simp)
theorem placesL_congr {p q : Nat → Bool} {i : Nat} (h : ∀ j, j < i → p j = q j) : placesL p i = placesL q i := by
  unfold placesL
  rw [List.filter_congr (fun j hj => h j (List.mem_range.1 hj))]

def mixF (how : Int) (x y : Bool) : Bool := if how = 0 then x && y else if how = 1 then x || y else x && !y
theorem l4Mix_f {k : Nat} {a b : List Int} {how : Int} (hh : how = 0 ∨ how = 1 ∨ how = 2) (hk : a.length + b.length + 500 < k) (hm : a.length ≤ 1048576) (hm2 : b.length ≤ 1048576) :
    spec_l4Mix.f k a b how = some (if (setOkL a 400 && setOkL b 400) = true then placesL (fun j => mixF how ((marksL a 400).getD j false) ((marksL b 400).getD j false)) 400 else []) := by
  unfold spec_l4Mix.f
  obtain ⟨k, rfl⟩ : ∃ m, k = m + 1 := ⟨k - 1, by omega⟩
  simp only [Option.bind_some]
  rw [l4Set_f (by omega) (by omega), l4Set_f (by omega) (by omega)]
  simp only [Option.bind_some, spec_l4Mix.j0]
  cases ha : setOkL a 400
  · simp
  · cases hb : setOkL b 400
    · simp
    · simp only [if_true, Bool.not_true, Bool.false_eq_true, if_false, Bool.true_and]
      have h1 := l4Marks_f (k := k) (n := 400) (l := a) (by omega) (by omega) (by omega) (setOkL_range ha)
      have h2 := l4Marks_f (k := k) (n := 400) (l := b) (by omega) (by omega) (by omega) (setOkL_range hb)
      have h1 : spec_l4Marks.f k a 400 = some (marksL a 400) := h1
      have h2 : spec_l4Marks.f k b 400 = some (marksL b 400) := h2
      rw [h1, h2]
      simp only [Option.bind_some]
      have l1 := marksL_length a 400
      have l2 := marksL_length b 400
      generalize marksL a 400 = A at l1 ⊢
      generalize marksL b 400 = B at l2 ⊢
      refine run_inv (fun k (s : List Int) i => spec_l4Mix.l0 k how s A B (i : Int)) 400 (fun i s => s = placesL (fun j => mixF how (A.getD j false) (B.getD j false)) i) _ ?_ ?_ k 0 _ (Nat.zero_le _) (by omega) rfl
      · rintro k i s hi rfl
        have hl := placesL_length (fun j => mixF how (A.getD j false) (B.getD j false)) i
        refine Or.inr ⟨_, ?_, (placesL_succ _ i).symm⟩
        generalize placesL (fun j => mixF how (A.getD j false) (B.getD j false)) i = s at hl
        have c1 : (i : Int) < 400 := by omega
        have c2 : (0 : Int) ≤ (i : Int) := by omega
        have c3 : (i : Int) < (A.length : Int) := by omega
        have c4 : (i : Int) < (B.length : Int) := by omega
        have c5 : s.length < 17592186044416 := by omega
        have cw : wrap64 ((i : Int) + 1) = ((i + 1 : Nat) : Int) := wrap_id (by omega) (by omega)
        simp only [spec_l4Mix.l0, rdOf_nat, if_pos c1, if_pos c2, if_pos c3, if_pos c4, if_pos c5, cw]
        rcases hh with rfl | rfl | rfl <;> cases A.getD i false <;> cases B.getD i false <;> simp [mixF]
      · rintro k s rfl
        simp only [spec_l4Mix.l0]
        rw [if_neg (by omega)]
  
theorem in_f (n a b : Int) : impl_in.f n a b = some (inB a b n) := by
  unfold impl_in.f inB
  by_cases h : n ≥ a
  · rw [if_pos h]; congr 1; simp; omega
  · rw [if_neg h, decide_eq_false (by omega)]

theorem setOk_f {k : Nat} {l : List Int} {most : Int} (hk : l.length < k) (hm : l.length ≤ 35184372088832) (h0 : 0 ≤ most) (h1 : most ≤ 1000000) : impl_setOk.f k l most = some (setOkL l most) := by
  unfold impl_setOk.f
  refine (run_all (fun k i => impl_setOk.l0 k l most l (l.length : Int) (i : Int)) l.length (fun i => inB 0 (most - 1) (l.getD i 0) && (decide (i = 0) || decide (l.getD (i - 1) 0 < l.getD i 0))) true false ?_ ?_ k hk).trans ?_
  · intro k i hi
    simp only [impl_setOk.l0]
    rw [if_pos (show (i : Int) < (l.length : Int) by omega), if_pos (show (0 : Int) ≤ (i : Int) by omega), if_pos (show (i : Int) < (l.length : Int) by omega), wrap_id (x := most - 1) (by omega) (by omega), in_f, wrap_id (x := (i : Int) + 1) (by omega) (by omega)]
    simp only [rd_nat, Option.bind_some]
    refine (?_ : _ = if (inB 0 (most - 1) (l.getD i 0) && (decide (i = 0) || decide (l.getD (i - 1) 0 < l.getD i 0))) = true then _ else _)
    cases inB 0 (most - 1) (l.getD i 0)
    · simp
    · simp only [if_true, Bool.true_and]
      by_cases hi0 : i = 0
      · subst hi0
        rw [if_neg (show ¬ ((0 : Nat) : Int) > 0 by omega)]
        simp
      · have e1 : wrap64 ((i : Int) - 1) = ((i - 1 : Nat) : Int) := by rw [wrap_id (by omega) (by omega)]; omega
        rw [if_pos (show (i : Int) > 0 by omega), e1, if_pos (show (0 : Int) ≤ ((i - 1 : Nat) : Int) by omega), if_pos (show ((i - 1 : Nat) : Int) < (l.length : Int) by omega)]
        simp only [rd_nat]
        by_cases hlt : l.getD (i - 1) 0 ≥ l.getD i 0
        · rw [if_pos hlt, decide_eq_false hi0, decide_eq_false (show ¬ (l.getD (i - 1) 0 < l.getD i 0) by omega)]
          simp
        · rw [if_neg hlt, decide_eq_false hi0, decide_eq_true (show l.getD (i - 1) 0 < l.getD i 0 by omega)]
          simp
  · intro k
    simp only [impl_setOk.l0]
    rw [if_neg (by omega)]
  · unfold setOkL
    by_cases h : ∀ j, j < l.length → (inB 0 (most - 1) (l.getD j 0) && (decide (j = 0) || decide (l.getD (j - 1) 0 < l.getD j 0))) = true
    · rw [if_pos h, decide_eq_true h]
    · rw [if_neg h, decide_eq_false h]

theorem marks_f {k n : Nat} {l : List Int} (hk : l.length < k) (hm : l.length ≤ 35184372088832) (hn : n ≤ 1000000) (hr : ∀ x ∈ l, 0 ≤ x ∧ x < (n : Int)) : impl_marks.f k l (n : Int) = some (marksL l n) := by
  unfold impl_marks.f
  rw [if_pos (by omega), if_pos (by omega)]
  refine run_inv (fun k (s : List Bool) i => impl_marks.l0 k s l (l.length : Int) (i : Int)) l.length (fun i s => s.length = n ∧ ∀ v, v < n → s.getD v false = decide ((v : Int) ∈ l.take i)) _ ?_ ?_ k 0 _ (Nat.zero_le _) (by omega) ⟨by simp, fun v hv => by simp [List.getD_eq_getElem?_getD, hv]⟩
  · rintro k i s hi ⟨hl, hs⟩
    have hx := hr _ (getD_mem l i 0 hi)
    refine Or.inr ⟨s.set (l.getD i 0).toNat true, ?_, by simpa using hl, fun v hv => ?_⟩
    · simp only [impl_marks.l0]
      rw [if_pos (show (i : Int) < (l.length : Int) by omega), if_pos (show (0 : Int) ≤ (i : Int) by omega), if_pos (show (i : Int) < (l.length : Int) by omega), wrap_id (x := (i : Int) + 1) (by omega) (by omega)]
      simp only [rd_nat]
      rw [if_pos hx.1, if_pos (by omega)]
      rfl
    · rw [getD_set _ _ _ _ _ (by omega), take_succ_getD l i 0 hi, hs v hv]
      by_cases e : v = (l.getD i 0).toNat
      · rw [if_pos e, decide_eq_true]
        exact List.mem_append_right _ (by rw [List.mem_singleton]; omega)
      · rw [if_neg e]
        refine decide_eq_decide.2 ?_
        rw [List.mem_append, List.mem_singleton]
        constructor
        · exact Or.inl
        · rintro (h | h)
          · exact h
          · exact absurd (by omega) e
  · rintro k s ⟨hl, hs⟩
    simp only [impl_marks.l0]
    rw [if_neg (by omega), ext_getD (d := false) (s := s) (l := marksL l n) (by rw [marksL_length]; exact hl) (fun v hv => by
      rw [marksL_length] at hv
      rw [marksL_getD _ _ _ hv, hs v hv, List.take_length])]

theorem clone_int_f {l : List Int} (h : l.length ≤ 35184372088832) : impl_clone_int.f l = some l := by
  unfold impl_clone_int.f
  rw [if_pos h]

theorem listOf_f {k : Nat} {l : List Bool} (hk : l.length < k) (hm : l.length ≤ 1000000) : impl_listOf.f k l = some (placesL (fun j => l.getD j false) l.length) := by
  unfold impl_listOf.f
  refine run_inv (fun k (s : List Int) i => impl_listOf.l0 k s l (l.length : Int) (i : Int)) l.length (fun i s => s = placesL (fun j => l.getD j false) i) _ ?_ ?_ k 0 _ (Nat.zero_le _) (by omega) rfl
  · rintro k i s hi rfl
    have hl := placesL_length (fun j => l.getD j false) i
    refine Or.inr ⟨_, ?_, (placesL_succ _ i).symm⟩
    simp only [impl_listOf.l0]
    rw [if_pos (by omega), if_pos (by omega), if_pos (by omega), wrap_id (x := (i : Int) + 1) (by omega) (by omega)]
    simp only [rdOf_nat]
    cases l.getD i false
    · rfl
    · simp only [if_true]
      rw [if_pos (by omega)]
      rfl
  · rintro k s rfl
    have hl := placesL_length (fun j => l.getD j false) l.length
    simp only [impl_listOf.l0]
    rw [if_neg (by omega), clone_int_f (by omega)]
    rfl

theorem set1_f (x y : Bool) : impl_SetWithout_1.f x y = some (mixF 2 x y) := by
  cases x <;> cases y <;> rfl
theorem setOf_f {k : Nat} {a b : List Int} (hk : a.length + b.length + 1000 < k) (hm : a.length ≤ 1048576) (hm2 : b.length ≤ 1048576) :
    impl_setOf_impl_SetWithout_1.f k a b = some (if (setOkL a 400 && setOkL b 400) = true then placesL (fun j => mixF 2 ((marksL a 400).getD j false) ((marksL b 400).getD j false)) 400 else []) := by
  unfold impl_setOf_impl_SetWithout_1.f
  obtain ⟨k, rfl⟩ : ∃ m, k = m + 1 := ⟨k - 1, by omega⟩
  rw [setOk_f (by omega) (by omega) (by omega) (by omega), setOk_f (by omega) (by omega) (by omega) (by omega)]
  simp only [Option.bind_some, impl_setOf_impl_SetWithout_1.j0]
  cases ha : setOkL a 400
  · simp
  · cases hb : setOkL b 400
    · simp
    · simp only [if_true, Bool.not_true, Bool.false_eq_true, if_false, Bool.true_and]
      have h1 := marks_f (k := k) (n := 400) (l := a) (by omega) (by omega) (by omega) (setOkL_range ha)
      have h2 := marks_f (k := k) (n := 400) (l := b) (by omega) (by omega) (by omega) (setOkL_range hb)
      have h1 : impl_marks.f k a 400 = some (marksL a 400) := h1
      have h2 : impl_marks.f k b 400 = some (marksL b 400) := h2
      rw [h1, h2]
      simp only [Option.bind_some]
      rw [if_pos (by omega)]
      simp only [Option.bind_some, List.length_replicate]
      have l1 := marksL_length a 400
      have l2 := marksL_length b 400
      generalize marksL a 400 = A at l1 ⊢
      generalize marksL b 400 = B at l2 ⊢
      refine run_invB 500 (fun k (s : List Bool) i => impl_setOf_impl_SetWithout_1.l0 k A B s 400 (i : Int)) 400 (fun i s => s.length = 400 ∧ ∀ j, j < i → s.getD j false = mixF 2 (A.getD j false) (B.getD j false)) _ ?_ ?_ k 0 _ (Nat.zero_le _) (by omega) ⟨List.length_replicate .., fun j hj => absurd hj (Nat.not_lt_zero j)⟩
      · rintro k i s _ hi ⟨hl, hs⟩
        refine Or.inr ⟨s.set i (mixF 2 (A.getD i false) (B.getD i false)), ?_, by simpa using hl, fun j hj => ?_⟩
        · simp only [impl_setOf_impl_SetWithout_1.l0]
          rw [if_pos (by omega), if_pos (by omega), if_pos (by omega), if_pos (by omega), set1_f, wrap_id (x := (i : Int) + 1) (by omega) (by omega)]
          simp only [Option.bind_some, rdOf_nat]
          rw [if_pos (by omega)]
          rfl
        · rw [getD_set _ _ _ _ _ (by omega)]
          by_cases e : j = i
          · rw [if_pos e, e]
          · rw [if_neg e]
            exact hs j (by omega)
      · rintro k s hB ⟨hl, hs⟩
        simp only [impl_setOf_impl_SetWithout_1.l0]
        rw [if_neg (by omega), listOf_f (by omega) (by omega), hl]
        simp only [Option.bind_some]
        rw [placesL_congr (fun j hj => hs j hj)]

theorem both {a b : List Int} (hm : a.length ≤ 1048576) (hm2 : b.length ≤ 1048576) : ∃ R : List Int, R.length ≤ 400 ∧ (∀ k, a.length + b.length + 1000 < k → spec_SetWithout.f k a b = some R) ∧ (∀ k, a.length + b.length + 1000 < k → impl_SetWithout.f k a b = some R) := by
  refine ⟨if (setOkL a 400 && setOkL b 400) = true then placesL (fun j => mixF 2 ((marksL a 400).getD j false) ((marksL b 400).getD j false)) 400 else [], ?_, fun k hk => ?_, fun k hk => ?_⟩
  · by_cases h : (setOkL a 400 && setOkL b 400) = true
    · rw [if_pos h]
      exact placesL_length _ _
    · rw [if_neg h]
      simp
  · unfold spec_SetWithout.f
    rw [l4Mix_f (by omega) (by omega) hm hm2]
    rfl
  · unfold impl_SetWithout.f
    rw [setOf_f (by omega) hm hm2]
    rfl

theorem FnExactSetWithout : laws_FnExactSetWithout.Pure := by
  intro l m hl hl8 hw hl' hl8' hw'
  refine ⟨4 * l.length + 4 * m.length + 2000, ?_⟩
  unfold laws_FnExactSetWithout.f
  by_cases h : (l.length : Int) > 1048576
  · rw [if_pos h]
  · by_cases h2 : (m.length : Int) > 1048576
    · rw [if_neg h, if_pos h2]
    · obtain ⟨R, hR, hS, hI⟩ := both (a := l) (b := m) (by omega) (by omega)
      rw [if_neg h, if_neg h2, toIntS_f (by omega) (by omega), toIntS_f (by omega) (by omega)]
      simp only [Option.bind_some]
      rw [hS _ (by omega), hI _ (by omega)]
      have hI := fun k hk => hI k hk
      simp only [Option.bind_some]
      rw [eqIntS_f (by omega) (by omega), eqIntS_f (by omega) (by omega), eqIntS_f (by omega) (by omega), markIntS_f (by omega) (by omega) (by omega) (by omega)]
      simp only [Option.bind_some, decide_true, if_true]
      rw [markIntS_f (by omega) (by omega) (by omega) (by omega)]
      have hq : ¬ ((1 : Int) + (l.length : Int) + (m.length : Int) < 0) := by omega
      have hq2 : ¬ ((1 : Int) + (R.length : Int) < 0) := by omega
      simp only [Option.bind_some, if_neg hq, Bool.not_true, laws_FnExactSetWithout.j0, Bool.false_eq_true, if_false]
      rw [markIntS_f (by omega) (by omega) (by omega) (by omega)]
      simp only [Option.bind_some]
      rw [heldIntS_f (by omega) (by omega) (by omega) (by omega), toIntS_f (by omega) (by omega), toIntS_f (by omega) (by omega)]
      simp only [Option.bind_some, if_neg hq2, if_true]
      rw [hI _ (by omega)]
      simp only [Option.bind_some]
      rw [eqIntS_f (by omega) (by omega)]
      simp only [Option.bind_some, decide_true, if_true, if_neg hq2]

end Go.Proofs.Ytbjkjoicecmmpaa.Pure
