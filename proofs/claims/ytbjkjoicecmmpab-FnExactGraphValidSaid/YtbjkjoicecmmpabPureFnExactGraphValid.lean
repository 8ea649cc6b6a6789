/- The law on GraphValid holds for all arguments: the program tells what the reference tells, and leaves its argument as it was.
Conditions: none. -/
import Derived.Test.YtbjkjoicecmmpabXFnExactGraphValidx5
import Derived.Test.YtbjkjoicecmmpabXLib2
namespace Go.Proofs.Ytbjkjoicecmmpab.Pure
open Go.RowKit Go.Proofs.Ytbjkjoicecmmpab.XFnExactGraphValid Go.Proofs.YtbjkjoicecmmpabW.PrintWords Go.Proofs.YtbjkjoicecmmpabW.PrintLast Go.Proofs.YtbjkjoicecmmpabW.PrintMore Go.Proofs.YtbjkjoicecmmpabX
set_option linter.unusedVariables false
set_option linter.unusedSimpArgs false

theorem rdL_nat (xs : List (List Int)) (i : Nat) : rd_L1 xs (i : Int) = xs.getD i [] := by
  unfold rd_L1
  simp

/-- How many numbers all rows hold. -/
def total (l : List (List Int)) : Nat := (l.map List.length).sum
theorem total_take (l : List (List Int)) (i : Nat) (h : i < l.length) : total (l.take (i + 1)) = total (l.take i) + (l.getD i []).length := by
  unfold total
  rw [take_succ_getD l i [] h, List.map_append, List.sum_append]
  simp
theorem total_le (l : List (List Int)) (i : Nat) : total (l.take i) ≤ total l := by
  have h : total l = total (l.take i) + total (l.drop i) := by
    unfold total
    rw [← List.sum_append, ← List.map_append, List.take_append_drop]
  omega
theorem total_mem {l : List (List Int)} {x : List Int} (h : x ∈ l) : x.length ≤ total l := by
  unfold total
  induction l with
  | nil => cases h
  | cons y l ih =>
    simp only [List.map_cons, List.sum_cons]
    rcases List.mem_cons.1 h with rfl | h
    · omega
    · have := ih h
      omega

theorem szIntS_f {l : List Int} {a : Int} (h0 : 0 ≤ a) (h1 : a ≤ 1048576) (hl : l.length ≤ 9223372036854775807) : laws_szIntS.f l a = some (if a - (l.length : Int) < 0 then -1 else a - (l.length : Int)) := by
  unfold laws_szIntS.f
  rw [wrap_id (by omega) (by omega)]
  by_cases h : a - (l.length : Int) < 0
  · rw [if_pos h, if_pos h]
  · rw [if_neg h, if_neg h]
theorem szIntSS_f {k : Nat} {l : List (List Int)} {a : Int} (hk : 1048577 < k) (h0 : 0 ≤ a) (h1 : a ≤ 1048576) (hl : l.length ≤ 9223372036854775807) (hx : ∀ x ∈ l, x.length ≤ 9223372036854775807) :
    ∃ r, laws_szIntSS.f k l a = some r ∧ (0 ≤ r → r = a - (l.length : Int) - (total l : Int)) := by
  unfold laws_szIntSS.f
  rw [wrap_id (by omega) (by omega)]
  by_cases h : a - (l.length : Int) < 0
  · exact ⟨-1, by rw [if_pos h], fun g => absurd g (by omega)⟩
  · rw [if_neg h]
    refine ⟨if a - (l.length : Int) - (total l : Int) < 0 then -1 else a - (l.length : Int) - (total l : Int), ?_, ?_⟩
    · refine run_inv (fun k (s : Int) i => laws_szIntSS.l0 k l s (i : Int)) l.length (fun i s => s = a - (l.length : Int) - (total (l.take i) : Int) ∧ 0 ≤ s) _ ?_ ?_ k 0 _ (Nat.zero_le _) (by omega) ⟨by simp [total], by omega⟩
      · rintro k i s hi ⟨rfl, hs⟩
        have ht := total_take l i hi
        have hle := total_le l (i + 1)
        have hlen := hx _ (getD_mem l i [] hi)
        simp only [laws_szIntSS.l0]
        rw [if_pos (by omega), if_pos (by omega), rdL_nat, szIntS_f hs (by omega) hlen, wrap_id (x := (i : Int) + 1) (by omega) (by omega)]
        simp only [Option.bind_some]
        by_cases hneg : a - (l.length : Int) - (total (l.take i) : Int) - ((l.getD i []).length : Int) < 0
        · refine Or.inl ?_
          rw [if_pos (show (if a - (l.length : Int) - (total (l.take i) : Int) - ((l.getD i []).length : Int) < 0 then (-1 : Int) else _) < 0 by rw [if_pos hneg]; omega), if_pos (by omega)]
        · refine Or.inr ⟨a - (l.length : Int) - (total (l.take i) : Int) - ((l.getD i []).length : Int), ?_, ?_⟩
          · simp only [if_neg hneg]
            rfl
          · rw [ht]
            exact ⟨by simp only [Int.natCast_add]; omega, by omega⟩
      · rintro k s ⟨rfl, hs⟩
        simp only [laws_szIntSS.l0]
        rw [if_neg (by omega)]
        rw [List.take_length] at hs ⊢
        rw [if_neg (by omega)]
    · intro g
      by_cases hneg : a - (l.length : Int) - (total l : Int) < 0
      · rw [if_pos hneg] at g
        omega
      · rw [if_neg hneg]

theorem l1In_f (n a b : Int) : spec_l1In.f n a b = some (inB a b n) := by
  unfold spec_l1In.f inB
  by_cases h : n ≥ a
  · rw [if_pos h]; congr 1; simp; omega
  · rw [if_neg h, decide_eq_false (by omega)]

theorem l6Are_f {k : Nat} {l : List Int} (hk : l.length < k) (hm : l.length ≤ 35184372088832) : spec_l6Are.f k l = some (l.all (inB 0 1)) := by
  unfold spec_l6Are.f
  refine (run_allL (fun k i => spec_l6Are.l0 k l (i : Int)) l 0 (inB 0 1) true false ?_ ?_ k hk).trans ?_
  · intro k i hi
    simp only [spec_l6Are.l0]
    rw [if_pos (by omega), if_pos (by omega), l1In_f, rd_nat, wrap_id (by omega) (by omega)]
    rfl
  · intro k
    simp only [spec_l6Are.l0]
    rw [if_neg (by omega)]
  · cases l.all (inB 0 1) <;> simp

theorem toIntS_f {k : Nat} {l : List Int} (hk : l.length < k) (hm : l.length ≤ 35184372088832) : laws_toIntS.f k l = some l := by
  unfold laws_toIntS.f
  rw [if_pos (by omega), if_pos (by omega)]
  refine run_inv (fun k (s : List Int) i => laws_toIntS.l0 k l s (i : Int)) l.length (fun i s => s.length = l.length ∧ ∀ j, j < i → s.getD j 0 = l.getD j 0) l ?_ ?_ k 0 _ (Nat.zero_le _) (by omega) ⟨by simp, fun j hj => absurd hj (Nat.not_lt_zero j)⟩
  · intro k i s hi ⟨hl, hs⟩
    refine Or.inr ⟨s.set i (l.getD i 0), ?_, by simpa using hl, fun j hj => ?_⟩
    · simp only [laws_toIntS.l0]
      rw [if_pos (by omega), if_pos (by omega), if_pos (by omega), wrap_id (by omega) (by omega), rd_nat]
      rfl
    · rw [getD_set _ _ _ _ _ (by omega)]
      by_cases e : j = i
      · rw [if_pos e, e]
      · rw [if_neg e]
        exact hs j (by omega)
  · intro k s ⟨hl, hs⟩
    simp only [laws_toIntS.l0]
    rw [if_neg (by omega), ext_getD hl hs]

theorem toIntSS_f {k : Nat} {l : List (List Int)} (hk : 2100000 < k) (hl : l.length ≤ 1048576) (hx : ∀ x ∈ l, x.length ≤ 1048576) : laws_toIntSS.f k l = some l := by
  unfold laws_toIntSS.f
  rw [if_pos (by omega), if_pos (by omega)]
  refine run_invB 1048577 (fun k (s : List (List Int)) i => laws_toIntSS.l0 k l s (i : Int)) l.length (fun i s => s.length = l.length ∧ ∀ j, j < i → s.getD j [] = l.getD j []) _ ?_ ?_ k 0 _ (Nat.zero_le _) (by omega) ⟨by simp, fun j hj => absurd hj (Nat.not_lt_zero j)⟩
  · intro k i s hB hi ⟨hl2, hs⟩
    have hlen := hx _ (getD_mem l i [] hi)
    refine Or.inr ⟨s.set i (l.getD i []), ?_, by simpa using hl2, fun j hj => ?_⟩
    · simp only [laws_toIntSS.l0]
      rw [if_pos (by omega), if_pos (by omega), rdL_nat, toIntS_f (by omega) (by omega)]
      simp only [Option.bind_some]
      rw [if_pos (by omega), wrap_id (by omega) (by omega)]
      rfl
    · rw [getD_set _ _ _ _ _ (by omega)]
      by_cases e : j = i
      · rw [if_pos e, e]
      · rw [if_neg e]
        exact hs j (by omega)
  · intro k s _ ⟨hl2, hs⟩
    simp only [laws_toIntSS.l0]
    rw [if_neg (by omega), ext_getD (d := ([] : List Int)) hl2 hs]

theorem in_f (n a b : Int) : impl_in.f n a b = some (inB a b n) := by
  unfold impl_in.f inB
  by_cases h : n ≥ a
  · rw [if_pos h]; congr 1; simp; omega
  · rw [if_neg h, decide_eq_false (by omega)]

theorem contains_impl_bitsValid_1 {k : Nat} {l : List Int} (hk : l.length < k) (hm : l.length ≤ 35184372088832) : slices_ContainsFunc_int_int_impl_bitsValid_1.f k l = some (l.any fun x => !(inB 0 1 x)) := by
  unfold slices_ContainsFunc_int_int_impl_bitsValid_1.f slices_IndexFunc_int_int_impl_bitsValid_1.f
  obtain ⟨r, h1, h2⟩ := run_find (fun k i => slices_IndexFunc_int_int_impl_bitsValid_1.l0 k l (l.length : Int) (i : Int)) l 0 (fun x => !(inB 0 1 x)) (by
    intro k i hi
    simp only [slices_IndexFunc_int_int_impl_bitsValid_1.l0]
    rw [if_pos (by omega), if_pos (by omega), if_pos (by omega), rd_nat, wrap_id (by omega) (by omega)]
    unfold impl_bitsValid_1.f
    rw [in_f]
    rfl) (by
    intro k
    simp only [slices_IndexFunc_int_int_impl_bitsValid_1.l0]
    rw [if_neg (by omega)]) k hk
  have h1' : slices_IndexFunc_int_int_impl_bitsValid_1.l0 k l (l.length : Int) 0 = some r := h1
  rw [h1', Option.bind_some, h2]

theorem impl_bitsValid_f {k : Nat} {l : List Int} (hk : l.length < k) (hm : l.length ≤ 35184372088832) : impl_bitsValid.f k l = some (l.all (inB 0 1)) := by
  unfold impl_bitsValid.f
  rw [contains_impl_bitsValid_1 hk hm]
  simp only [Option.bind_some]
  have e : l.all (inB 0 1) = !(l.any fun x => !(inB 0 1 x)) := by simp [List.any_eq_not_all_not]
  rw [e]

/-- A set of numbers below 'most': they rise. -/
def setOkL (l : List Int) (most : Int) : Bool := decide (∀ j, j < l.length → (inB 0 (most - 1) (l.getD j 0) && (decide (j = 0) || decide (l.getD (j - 1) 0 < l.getD j 0))) = true)
theorem setOkL_range {l : List Int} {most : Int} (h : setOkL l most = true) : ∀ x ∈ l, 0 ≤ x ∧ x < most := by
  intro x hx
  obtain ⟨j, hj, rfl⟩ := mem_getD 0 hx
  have h1 := of_decide_eq_true h j hj
  have h2 := of_decide_eq_true (Bool.and_eq_true_iff.1 h1).1
  omega

theorem setOk_f {k : Nat} {l : List Int} {most : Int} (hk : l.length < k) (hm : l.length ≤ 35184372088832) (h0 : 0 ≤ most) (h1 : most ≤ 1000000) : impl_setOk.f k l most = some (setOkL l most) := by
  unfold impl_setOk.f
  refine (run_all (fun k i => impl_setOk.l0 k l most l (l.length : Int) (i : Int)) l.length (fun i => inB 0 (most - 1) (l.getD i 0) && (decide (i = 0) || decide (l.getD (i - 1) 0 < l.getD i 0))) true false ?_ ?_ k hk).trans ?_
  · intro k i hi
    simp only [impl_setOk.l0]
    rw [if_pos (show (i : Int) < (l.length : Int) by omega), if_pos (show (0 : Int) ≤ (i : Int) by omega), if_pos (show (i : Int) < (l.length : Int) by omega), wrap_id (x := most - 1) (by omega) (by omega), in_f, wrap_id (x := (i : Int) + 1) (by omega) (by omega)]
    simp only [rd_nat, Option.bind_some]
    refine (?_ : _ = if (inB 0 (most - 1) (l.getD i 0) && (decide (i = 0) || decide (l.getD (i - 1) 0 < l.getD i 0))) = true then _ else _)
    cases inB 0 (most - 1) (l.getD i 0)
    · simp
    · simp only [if_true, Bool.true_and]
      by_cases hi0 : i = 0
      · subst hi0
        rw [if_neg (show ¬ ((0 : Nat) : Int) > 0 by omega)]
        simp
      · have e1 : wrap64 ((i : Int) - 1) = ((i - 1 : Nat) : Int) := by rw [wrap_id (by omega) (by omega)]; omega
        rw [if_pos (show (i : Int) > 0 by omega), e1, if_pos (show (0 : Int) ≤ ((i - 1 : Nat) : Int) by omega), if_pos (show ((i - 1 : Nat) : Int) < (l.length : Int) by omega)]
        simp only [rd_nat]
        by_cases hlt : l.getD (i - 1) 0 ≥ l.getD i 0
        · rw [if_pos hlt, decide_eq_false hi0, decide_eq_false (show ¬ (l.getD (i - 1) 0 < l.getD i 0) by omega)]
          simp
        · rw [if_neg hlt, decide_eq_false hi0, decide_eq_true (show l.getD (i - 1) 0 < l.getD i 0 by omega)]
          simp
  · intro k
    simp only [impl_setOk.l0]
    rw [if_neg (by omega)]
  · unfold setOkL
    by_cases h : ∀ j, j < l.length → (inB 0 (most - 1) (l.getD j 0) && (decide (j = 0) || decide (l.getD (j - 1) 0 < l.getD j 0))) = true
    · rw [if_pos h, decide_eq_true h]
    · rw [if_neg h, decide_eq_false h]

theorem eqIntS_f {k : Nat} {a b : List Int} (hk : a.length < k) (hm : a.length ≤ 35184372088832) : laws_eqIntS.f k a b = some (decide (a = b)) := by
  unfold laws_eqIntS.f
  by_cases hab : a.length = b.length
  · rw [if_pos (by omega)]
    refine run_inv (fun k (_ : Unit) i => laws_eqIntS.l0 k a b (i : Int)) a.length (fun i _ => ∀ j, j < i → a.getD j 0 = b.getD j 0) _ ?_ ?_ k 0 () (Nat.zero_le _) (by omega) (fun j hj => absurd hj (Nat.not_lt_zero j))
    · intro k i _ hi hs
      by_cases e : a.getD i 0 = b.getD i 0
      · refine Or.inr ⟨(), ?_, fun j hj => ?_⟩
        · simp only [laws_eqIntS.l0]
          rw [if_pos (by omega), if_pos (by omega), if_pos (by omega), rd_nat, rd_nat, if_pos e, wrap_id (by omega) (by omega)]
          rfl
        · by_cases e2 : j = i
          · rw [e2]; exact e
          · exact hs j (by omega)
      · refine Or.inl ?_
        simp only [laws_eqIntS.l0]
        rw [if_pos (by omega), if_pos (by omega), if_pos (by omega), rd_nat, rd_nat, if_neg e, decide_eq_false (fun h => e (by rw [h]))]
    · intro k _ hs
      simp only [laws_eqIntS.l0]
      rw [if_neg (by omega), decide_eq_true (ext_getD hab (fun j hj => hs j (by omega)))]
  · rw [if_neg (by omega), decide_eq_false (fun h => hab (by rw [h]))]

theorem eqIntSS_f {k : Nat} {l : List (List Int)} (hk : 2100000 < k) (hl : l.length ≤ 1048576) (hx : ∀ x ∈ l, x.length ≤ 1048576) : laws_eqIntSS.f k l l = some true := by
  unfold laws_eqIntSS.f
  rw [if_pos rfl]
  refine run_invB 1048577 (fun k (_ : Unit) i => laws_eqIntSS.l0 k l l (i : Int)) l.length (fun _ _ => True) _ ?_ ?_ k 0 () (Nat.zero_le _) (by omega) trivial
  · intro k i _ hB hi _
    have hlen := hx _ (getD_mem l i [] hi)
    refine Or.inr ⟨(), ?_, trivial⟩
    simp only [laws_eqIntSS.l0]
    rw [if_pos (by omega), if_pos (by omega), if_pos (by omega), rdL_nat, eqIntS_f (by omega) (by omega), wrap_id (by omega) (by omega)]
    simp
  · intro k _ _ _
    simp only [laws_eqIntSS.l0]
    rw [if_neg (by omega)]

def letterGood (facts : Int) (x : List Int) : Bool := decide ((x.length : Int) = facts) && x.all (inB 0 1)
def nextGood (n : Int) (x : List Int) : Bool := decide (¬ (x.length : Int) = 0) && setOkL x n
def graphR (a : List (List Int)) (first : Int) (b : List (List Int)) (facts : Int) : Bool :=
  inB 0 4 facts && (inB 1 400 (a.length : Int) && (decide ((b.length : Int) = (a.length : Int)) && (inB 0 (wrap64 ((a.length : Int) - 1)) first && (decide (∀ i, i < a.length → letterGood facts (a.getD i []) = true) && decide (∀ i, i < a.length → nextGood (a.length : Int) (b.getD i []) = true)))))
theorem l20Letters_f {k : Nat} {a : List (List Int)} {facts : Int} (hk : a.length + 1100000 < k) (hm : a.length ≤ 1048576) (hx : ∀ x ∈ a, x.length ≤ 1048576) : spec_l20Letters.f k a facts = some (decide (∀ i, i < a.length → letterGood facts (a.getD i []) = true)) := by
  unfold spec_l20Letters.f
  refine (run_allB 1090000 (fun k i => spec_l20Letters.l0 k a facts (i : Int)) a.length (fun i => letterGood facts (a.getD i [])) true false ?_ ?_ k (by omega)).trans ?_
  · intro k i hB hi
    have hlen := hx _ (getD_mem a i [] hi)
    simp only [spec_l20Letters.l0]
    rw [if_pos (by omega), if_pos (by omega), rdL_nat, wrap_id (x := (i : Int) + 1) (by omega) (by omega)]
    unfold letterGood
    by_cases e : ((a.getD i []).length : Int) = facts
    · rw [if_pos e, decide_eq_true e, l6Are_f (by omega) (by omega)]
      simp only [Option.bind_some, Bool.true_and]
      rfl
    · rw [if_neg e, decide_eq_false e]
      rfl
  · intro k _
    simp only [spec_l20Letters.l0]
    rw [if_neg (by omega)]
  · by_cases hall : ∀ i, i < a.length → letterGood facts (a.getD i []) = true
    · rw [if_pos hall, decide_eq_true hall]
    · rw [if_neg hall, decide_eq_false hall]
/-- One row of edges, from place j on. -/
theorem row_f {n : Nat} {a b : List (List Int)} {first : Int} {i : Nat} (hi : i < b.length) (hb : b.length ≤ 1048576) (hn : n ≤ 400) (hl : (b.getD i []).length ≤ 1048576) : ∀ d j k, j + d = (b.getD i []).length →
    spec_GraphValid.l1 (k + (d + 1)) (n : Int) (i : Int) (j : Int) a first b = if (∀ t, t < (b.getD i []).length → j ≤ t → (inB 0 ((n : Int) - 1) ((b.getD i []).getD t 0) && (decide (t = 0) || decide ((b.getD i []).getD (t - 1) 0 < (b.getD i []).getD t 0))) = true) then (if ((b.getD i []).length : Int) = 0 then some false else spec_GraphValid.l0 k (n : Int) ((i : Int) + 1) a first b) else some false := by
  intro d
  induction d with
  | zero =>
    intro j k hj
    rw [if_pos (fun t h1 h2 => absurd h2 (by omega))]
    simp only [spec_GraphValid.l1]
    rw [if_pos (by omega), if_pos (by omega), rdL_nat, if_neg (by omega), wrap_id (x := (i : Int) + 1) (by omega) (by omega)]
  | succ d ih =>
    intro j k hj
    have ih' := ih (j + 1) k (by omega)
    rw [show k + (d + 1 + 1) = (k + (d + 1)) + 1 from by omega]
    generalize k + (d + 1) = K at ih' ⊢
    simp only [spec_GraphValid.l1]
    have c1 : (j : Int) < ((b.getD i []).length : Int) := by omega
    rw [if_pos (by omega), if_pos (by omega)]
    simp only [rdL_nat, rd_nat]
    rw [if_pos c1, if_pos (by omega), l1In_f, wrap_id (x := (n : Int) - 1) (by omega) (by omega), wrap_id (x := (j : Int) + 1) (by omega) (by omega)]
    simp only [Option.bind_some]
    have e1 : (j : Int) + 1 = ((j + 1 : Nat) : Int) := rfl
    rw [e1]
    have hsplit : ∀ (P : Nat → Prop), (∀ t, t < (b.getD i []).length → j ≤ t → P t) ↔ (P j ∧ ∀ t, t < (b.getD i []).length → j + 1 ≤ t → P t) := by
      intro P
      constructor
      · intro h
        exact ⟨h j (by omega) (Nat.le_refl _), fun t h1 h2 => h t h1 (by omega)⟩
      · rintro ⟨h0, h⟩ t h1 h2
        by_cases e : t = j
        · rw [e]; exact h0
        · exact h t h1 (by omega)
    have hif : ∀ (P Q R : Prop) [Decidable P] [Decidable R] (x y : Option Bool), (P ↔ Q ∧ R) → (if P then x else y) = if R then (@ite _ Q (Classical.propDecidable Q) x y) else y := by
      intro P Q R _ _ x y h
      by_cases hR : R
      · rw [if_pos hR]
        by_cases hQ : Q
        · rw [if_pos (h.2 ⟨hQ, hR⟩), if_pos hQ]
        · rw [if_neg (fun g => hQ (h.1 g).1), if_neg hQ]
      · rw [if_neg hR, if_neg (fun g => hR (h.1 g).2)]
    rw [hif _ _ _ _ _ (hsplit (fun t => (inB 0 ((n : Int) - 1) ((b.getD i []).getD t 0) && (decide (t = 0) || decide ((b.getD i []).getD (t - 1) 0 < (b.getD i []).getD t 0))) = true))]
    by_cases h1 : inB 0 ((n : Int) - 1) ((b.getD i []).getD j 0) = true
    · rw [if_pos h1]
      by_cases h2 : (j : Int) > 0
      · have e2 : wrap64 ((j : Int) - 1) = ((j - 1 : Nat) : Int) := by rw [wrap_id (by omega) (by omega)]; omega
        rw [if_pos h2, e2, if_pos (by omega), if_pos (by omega)]
        simp only [rd_nat]
        by_cases h3 : (b.getD i []).getD j 0 ≤ (b.getD i []).getD (j - 1) 0
        · have hq : ¬ ((inB 0 ((n : Int) - 1) ((b.getD i []).getD j 0) && (decide (j = 0) || decide ((b.getD i []).getD (j - 1) 0 < (b.getD i []).getD j 0))) = true) := by
            rw [decide_eq_false (show ¬ j = 0 by omega), decide_eq_false (show ¬ (b.getD i []).getD (j - 1) 0 < (b.getD i []).getD j 0 by omega)]
            simp
          rw [if_pos h3, if_neg hq]
          split <;> rfl
        · have hq : (inB 0 ((n : Int) - 1) ((b.getD i []).getD j 0) && (decide (j = 0) || decide ((b.getD i []).getD (j - 1) 0 < (b.getD i []).getD j 0))) = true := by
            rw [h1, decide_eq_true (show (b.getD i []).getD (j - 1) 0 < (b.getD i []).getD j 0 by omega)]
            simp
          rw [if_neg h3, if_pos hq, ih']
      · have hj0 : j = 0 := by omega
        have hq : (inB 0 ((n : Int) - 1) ((b.getD i []).getD j 0) && (decide (j = 0) || decide ((b.getD i []).getD (j - 1) 0 < (b.getD i []).getD j 0))) = true := by
          rw [h1, decide_eq_true hj0]
          rfl
        rw [if_neg h2, if_pos hq, ih']
    · have hq : ¬ ((inB 0 ((n : Int) - 1) ((b.getD i []).getD j 0) && (decide (j = 0) || decide ((b.getD i []).getD (j - 1) 0 < (b.getD i []).getD j 0))) = true) := by
        rw [Bool.eq_false_iff.2 h1]
        simp
      rw [if_neg h1, if_neg hq]
      split <;> rfl
theorem rows_f {n : Nat} {a b : List (List Int)} {first : Int} (hbn : b.length = n) (hn : n ≤ 400) {M : Nat} (hM : 1048600 ≤ M) (hx : ∀ x ∈ b, x.length ≤ 1048576) : ∀ d i k, i + d = n → (d + 1) * M ≤ k →
    spec_GraphValid.l0 k (n : Int) (i : Int) a first b = some (decide (∀ t, t < n → i ≤ t → nextGood (n : Int) (b.getD t []) = true)) := by
  intro d
  induction d with
  | zero =>
    intro i k hi hk
    rw [Nat.zero_add, Nat.one_mul] at hk
    obtain ⟨k, rfl⟩ : ∃ m, k = m + 1 := ⟨k - 1, by omega⟩
    simp only [spec_GraphValid.l0]
    rw [if_neg (by omega), decide_eq_true (fun t h1 h2 => absurd h2 (by omega))]
  | succ d ih =>
    intro i k hi hk
    rw [Nat.succ_mul] at hk
    have hl := hx _ (getD_mem b i [] (by omega))
    obtain ⟨k, rfl⟩ : ∃ m, k = m + ((b.getD i []).length + 1) + 1 := ⟨k - ((b.getD i []).length + 1) - 1, by omega⟩
    simp only [spec_GraphValid.l0]
    rw [if_pos (by omega)]
    have hr := row_f (n := n) (a := a) (first := first) (i := i) (b := b) (by omega) (by omega) hn hl (b.getD i []).length 0 k (by omega)
    have hr' : spec_GraphValid.l1 (k + ((b.getD i []).length + 1)) (n : Int) (i : Int) 0 a first b = _ := hr
    rw [hr']
    have ih' := ih (i + 1) k (by omega) (by omega)
    have e1 : (i : Int) + 1 = ((i + 1 : Nat) : Int) := rfl
    rw [e1, ih']
    have hset : setOkL (b.getD i []) (n : Int) = decide (∀ t, t < (b.getD i []).length → 0 ≤ t → (inB 0 ((n : Int) - 1) ((b.getD i []).getD t 0) && (decide (t = 0) || decide ((b.getD i []).getD (t - 1) 0 < (b.getD i []).getD t 0))) = true) := by
      unfold setOkL
      exact decide_eq_decide.2 ⟨fun h t h2 _ => h t h2, fun h t h2 => h t h2 (Nat.zero_le _)⟩
    have hgood : (∀ t, t < n → i ≤ t → nextGood (n : Int) (b.getD t []) = true) ↔ (nextGood (n : Int) (b.getD i []) = true ∧ ∀ t, t < n → i + 1 ≤ t → nextGood (n : Int) (b.getD t []) = true) := by
      constructor
      · intro h
        exact ⟨h i (by omega) (Nat.le_refl _), fun t h1 h2 => h t h1 (by omega)⟩
      · rintro ⟨h0, h⟩ t h1 h2
        by_cases e : t = i
        · rw [e]; exact h0
        · exact h t h1 (by omega)
    have hfin : decide (∀ t, t < n → i ≤ t → nextGood (n : Int) (b.getD t []) = true) = (nextGood (n : Int) (b.getD i []) && decide (∀ t, t < n → i + 1 ≤ t → nextGood (n : Int) (b.getD t []) = true)) := by
      by_cases g : ∀ t, t < n → i ≤ t → nextGood (n : Int) (b.getD t []) = true
      · have g2 := hgood.1 g
        rw [decide_eq_true g, g2.1, decide_eq_true g2.2]
        rfl
      · rw [decide_eq_false g]
        by_cases g1 : nextGood (n : Int) (b.getD i []) = true
        · rw [g1, decide_eq_false (fun g2 => g (hgood.2 ⟨g1, g2⟩))]
          rfl
        · rw [Bool.eq_false_iff.2 g1]
          rfl
    rw [hfin]
    generalize decide (∀ t, t < n → i + 1 ≤ t → nextGood (n : Int) (b.getD t []) = true) = D
    unfold nextGood
    rw [hset]
    by_cases h1 : ∀ t, t < (b.getD i []).length → 0 ≤ t → (inB 0 ((n : Int) - 1) ((b.getD i []).getD t 0) && (decide (t = 0) || decide ((b.getD i []).getD (t - 1) 0 < (b.getD i []).getD t 0))) = true
    · rw [if_pos h1, decide_eq_true h1]
      by_cases h2 : ((b.getD i []).length : Int) = 0
      · rw [if_pos h2, decide_eq_false (show ¬ ¬ ((b.getD i []).length : Int) = 0 from fun g => g h2)]
        simp
      · rw [if_neg h2, decide_eq_true h2]
        simp
    · rw [if_neg h1, decide_eq_false h1]
      simp
theorem spec_graph {k : Nat} {a b : List (List Int)} {first facts : Int} (hk : 500000000 < k) (ha : a.length ≤ 1048576) (hb : b.length ≤ 1048576) (xa : ∀ x ∈ a, x.length ≤ 1048576) (xb : ∀ x ∈ b, x.length ≤ 1048576) : spec_GraphValid.f k a first b facts = some (graphR a first b facts) := by
  unfold spec_GraphValid.f graphR
  obtain ⟨k, rfl⟩ : ∃ m, k = m + 1 := ⟨k - 1, by omega⟩
  simp only [l1In_f, Option.bind_some, spec_GraphValid.j0]
  cases inB 0 4 facts
  · rfl
  · cases h400 : inB 1 400 (a.length : Int)
    · rfl
    · have hn : 1 ≤ (a.length : Int) ∧ (a.length : Int) ≤ 400 := of_decide_eq_true h400
      by_cases hl : (b.length : Int) = (a.length : Int)
      · rw [decide_eq_true hl]
        cases inB 0 (wrap64 ((a.length : Int) - 1)) first
        · simp [hl]
        · simp only [if_true, if_pos hl]
          rw [l20Letters_f (by omega) ha xa]
          simp only [Option.bind_some, Bool.true_and]
          cases decide (∀ i, i < a.length → letterGood facts (a.getD i []) = true)
          · rfl
          · simp only [Bool.not_true, Bool.false_eq_true, if_false, Bool.true_and]
            refine (rows_f (n := a.length) (a := a) (b := b) (first := first) (M := 1048600) (by omega) (by omega) (Nat.le_refl _) xb a.length 0 k (by omega) (by omega)).trans ?_
            congr 1
            exact decide_eq_decide.2 ⟨fun h i hi => h i hi (Nat.zero_le _), fun h i hi _ => h i hi⟩
      · rw [decide_eq_false hl]
        simp [hl]
theorem impl_graph {k : Nat} {a b : List (List Int)} {first facts : Int} (hk : 500000000 < k) (ha : a.length ≤ 1048576) (hb : b.length ≤ 1048576) (xa : ∀ x ∈ a, x.length ≤ 1048576) (xb : ∀ x ∈ b, x.length ≤ 1048576) : impl_GraphValid.f k a first b facts = some (graphR a first b facts) := by
  unfold impl_GraphValid.f graphR
  obtain ⟨k, rfl⟩ : ∃ m, k = m + 1 := ⟨k - 1, by omega⟩
  simp only [in_f, Option.bind_some, impl_GraphValid.j0]
  cases inB 0 4 facts
  · rfl
  · cases h400 : inB 1 400 (a.length : Int)
    · rfl
    · have hn : 1 ≤ (a.length : Int) ∧ (a.length : Int) ≤ 400 := of_decide_eq_true h400
      cases inB 0 (wrap64 ((a.length : Int) - 1)) first
      · simp
      · simp only [if_true, Bool.true_and]
        by_cases hl : (b.length : Int) = (a.length : Int)
        · have hl1 : ((b.length : Int) != (a.length : Int)) = false := by simpa using hl
          rw [hl1, decide_eq_true hl]
          simp only [Bool.false_eq_true, if_false, Bool.true_and]
          have hl2 : b.length = a.length := by omega
          refine (run_allB 1100000 (fun k i => impl_GraphValid.l0 k facts (a.length : Int) b (b.length : Int) (i : Int) a first b) b.length (fun i => letterGood facts (a.getD i []) && nextGood (a.length : Int) (b.getD i [])) true false ?_ ?_ k (by omega)).trans ?_
          · intro k i hB hi
            have hla := xa _ (getD_mem a i [] (by omega))
            have hlb := xb _ (getD_mem b i [] hi)
            simp only [impl_GraphValid.l0]
            rw [if_pos (by omega), if_pos (by omega), if_pos (by omega), if_pos (by omega)]
            simp only [rdL_nat, impl_letterOk.f]
            rw [impl_bitsValid_f (by omega) (by omega), setOk_f (by omega) (by omega) (by omega) (by omega), wrap_id (x := (i : Int) + 1) (by omega) (by omega)]
            unfold letterGood nextGood
            by_cases e1 : ((a.getD i []).length : Int) = facts
            · rw [if_pos e1, decide_eq_true e1]
              simp only [Option.bind_some, Bool.true_and]
              cases (a.getD i []).all (inB 0 1)
              · rfl
              · by_cases e2 : ((b.getD i []).length : Int) = 0
                · rw [if_pos rfl, if_pos e2, decide_eq_false (show ¬ ¬ ((b.getD i []).length : Int) = 0 from fun g => g e2)]
                  rfl
                · rw [if_pos rfl, if_neg e2, decide_eq_true e2]
                  simp only [Bool.true_and]
                  rfl
            · rw [if_neg e1, decide_eq_false e1]
              rfl
          · intro k _
            simp only [impl_GraphValid.l0]
            rw [if_neg (by omega)]
          · have hiff : (∀ j, j < b.length → (letterGood facts (a.getD j []) && nextGood (a.length : Int) (b.getD j [])) = true) ↔ ((∀ i, i < a.length → letterGood facts (a.getD i []) = true) ∧ ∀ i, i < a.length → nextGood (a.length : Int) (b.getD i []) = true) := by
              rw [hl2]
              exact ⟨fun h => ⟨fun i hi => (Bool.and_eq_true_iff.1 (h i hi)).1, fun i hi => (Bool.and_eq_true_iff.1 (h i hi)).2⟩, fun h i hi => Bool.and_eq_true_iff.2 ⟨h.1 i hi, h.2 i hi⟩⟩
            by_cases hall : ∀ j, j < b.length → (letterGood facts (a.getD j []) && nextGood (a.length : Int) (b.getD j [])) = true
            · have h2 := hiff.1 hall
              rw [if_pos hall, decide_eq_true h2.1, decide_eq_true h2.2]
              rfl
            · rw [if_neg hall]
              by_cases g1 : ∀ i, i < a.length → letterGood facts (a.getD i []) = true
              · rw [decide_eq_false (fun g2 => hall (hiff.2 ⟨g1, g2⟩))]
                simp
              · rw [decide_eq_false g1]
                simp
        · have hl1 : ((b.length : Int) != (a.length : Int)) = true := by simpa using hl
          rw [hl1, decide_eq_false hl]
          rfl

theorem FnExactGraphValid : laws_FnExactGraphValid.Pure := by
  intro l first m facts hl hx hf hm hy hv
  refine ⟨600000000, ?_⟩
  unfold laws_FnExactGraphValid.f laws_szGraph.f
  obtain ⟨r0, e0, t0⟩ := szIntSS_f (k := 600000000) (l := l) (a := 1048576) (by omega) (by omega) (by omega) hl (fun x h => (hx x h).1)
  rw [e0]
  simp only [Option.bind_some]
  by_cases c0 : r0 < 0
  · rw [if_pos c0]
    rfl
  · have t0 := t0 (by omega)
    obtain ⟨r1, e1, t1⟩ := szIntSS_f (k := 600000000) (l := m) (a := r0) (by omega) (by omega) (by omega) hm (fun x h => (hy x h).1)
    rw [if_neg c0, e1]
    simp only [Option.bind_some]
    by_cases c1 : r1 < 0
    · rw [if_pos c1]
      rfl
    · have t1 := t1 (by omega)
      have b0 : l.length ≤ 1048576 := by omega
      have b1 : m.length ≤ 1048576 := by omega
      have y0 : ∀ x ∈ l, x.length ≤ 1048576 := fun x g => by have := total_mem g; omega
      have y1 : ∀ x ∈ m, x.length ≤ 1048576 := fun x g => by have := total_mem g; omega
      rw [if_neg c1]
      simp only [Option.bind_some, if_neg c1, laws_toGraph.f]
      rw [toIntSS_f (by omega) b0 y0, toIntSS_f (by omega) b1 y1]
      simp only [Option.bind_some]
      rw [spec_graph (by omega) b0 b1 y0 y1, impl_graph (by omega) b0 b1 y0 y1]
      simp only [Option.bind_some, bne_self_eq_false, Bool.false_eq_true, if_false, laws_eqGraph.f]
      rw [eqIntSS_f (by omega) b0 y0, eqIntSS_f (by omega) b1 y1]
      simp

end Go.Proofs.Ytbjkjoicecmmpab.Pure
