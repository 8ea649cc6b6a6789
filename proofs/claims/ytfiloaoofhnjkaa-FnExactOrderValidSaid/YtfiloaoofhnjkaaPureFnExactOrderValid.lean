/- The law on OrderValid holds for all arguments: the program tells what the reference tells, and leaves its argument as it was.
Conditions: none. -/
import Derived.Test.YtfiloaoofhnjkaaXFnExactOrderValidx2
import Derived.Test.YtfiloaoofhnjkaaXLib2
namespace Go.Proofs.Ytfiloaoofhnjkaa.Pure
open Go.RowKit Go.Proofs.Ytfiloaoofhnjkaa.XFnExactOrderValid Go.Proofs.YtfiloaoofhnjkaaW.PrintWords Go.Proofs.YtfiloaoofhnjkaaW.PrintLast Go.Proofs.YtfiloaoofhnjkaaW.PrintMore Go.Proofs.YtfiloaoofhnjkaaX
set_option linter.unusedVariables false
set_option linter.unusedSimpArgs false

theorem toIntS_f {k : Nat} {l : List Int} (hk : l.length < k) (hm : l.length ≤ 35184372088832) : laws_toIntS.f k l = some l := by
  unfold laws_toIntS.f
  rw [if_pos (by omega), if_pos (by omega)]
  refine run_inv (fun k (s : List Int) i => laws_toIntS.l0 k l s (i : Int)) l.length (fun i s => s.length = l.length ∧ ∀ j, j < i → s.getD j 0 = l.getD j 0) l ?_ ?_ k 0 _ (Nat.zero_le _) (by omega) ⟨by simp, fun j hj => absurd hj (Nat.not_lt_zero j)⟩
  · intro k i s hi ⟨hl, hs⟩
    refine Or.inr ⟨s.set i (l.getD i 0), ?_, by simpa using hl, fun j hj => ?_⟩
    · simp only [laws_toIntS.l0]
      rw [if_pos (by omega), if_pos (by omega), if_pos (by omega), wrap_id (by omega) (by omega), rd_nat]
      rfl
    · rw [getD_set _ _ _ _ _ (by omega)]
      by_cases e : j = i
      · rw [if_pos e, e]
      · rw [if_neg e]
        exact hs j (by omega)
  · intro k s ⟨hl, hs⟩
    simp only [laws_toIntS.l0]
    rw [if_neg (by omega), ext_getD hl hs]

theorem eqIntS_f {k : Nat} {a b : List Int} (hk : a.length < k) (hm : a.length ≤ 35184372088832) : laws_eqIntS.f k a b = some (decide (a = b)) := by
  unfold laws_eqIntS.f
  by_cases hab : a.length = b.length
  · rw [if_pos (by omega)]
    refine run_inv (fun k (_ : Unit) i => laws_eqIntS.l0 k a b (i : Int)) a.length (fun i _ => ∀ j, j < i → a.getD j 0 = b.getD j 0) _ ?_ ?_ k 0 () (Nat.zero_le _) (by omega) (fun j hj => absurd hj (Nat.not_lt_zero j))
    · intro k i _ hi hs
      by_cases e : a.getD i 0 = b.getD i 0
      · refine Or.inr ⟨(), ?_, fun j hj => ?_⟩
        · simp only [laws_eqIntS.l0]
          rw [if_pos (by omega), if_pos (by omega), if_pos (by omega), rd_nat, rd_nat, if_pos e, wrap_id (by omega) (by omega)]
          rfl
        · by_cases e2 : j = i
          · rw [e2]; exact e
          · exact hs j (by omega)
      · refine Or.inl ?_
        simp only [laws_eqIntS.l0]
        rw [if_pos (by omega), if_pos (by omega), if_pos (by omega), rd_nat, rd_nat, if_neg e, decide_eq_false (fun h => e (by rw [h]))]
    · intro k _ hs
      simp only [laws_eqIntS.l0]
      rw [if_neg (by omega), decide_eq_true (ext_getD hab (fun j hj => hs j (by omega)))]
  · rw [if_neg (by omega), decide_eq_false (fun h => hab (by rw [h]))]

theorem l1In_f (n a b : Int) : spec_l1In.f n a b = some (inB a b n) := by
  unfold spec_l1In.f inB
  by_cases h : n ≥ a
  · rw [if_pos h]; congr 1; simp; omega
  · rw [if_neg h, decide_eq_false (by omega)]

theorem l2Has_f {k : Nat} {l : List Int} {n : Int} (hk : l.length < k) (hm : l.length ≤ 35184372088832) : spec_l2Has.f k l n = some (decide (n ∈ l)) := by
  unfold spec_l2Has.f
  refine (run_all (fun k i => spec_l2Has.l0 k l n (i : Int)) l.length (fun i => !decide (l.getD i 0 = n)) false true ?_ ?_ k hk).trans ?_
  · intro k i hi
    simp only [spec_l2Has.l0]
    rw [if_pos (by omega), if_pos (by omega), rd_nat, wrap_id (by omega) (by omega)]
    by_cases e : l.getD i 0 = n
    · rw [if_pos e, decide_eq_true e]
      rfl
    · rw [if_neg e, decide_eq_false e]
      rfl
  · intro k
    simp only [spec_l2Has.l0]
    rw [if_neg (by omega)]
  · by_cases h : n ∈ l
    · obtain ⟨j, hj, e⟩ := mem_getD 0 h
      rw [decide_eq_true h, if_neg (fun g => by have := g j hj; rw [decide_eq_true e] at this; cases this)]
    · rw [decide_eq_false h, if_pos (fun j hj => by rw [decide_eq_false (fun e => h (by rw [← e]; exact getD_mem l j 0 hj))]; rfl)]

theorem in_f (n a b : Int) : impl_in.f n a b = some (inB a b n) := by
  unfold impl_in.f inB
  by_cases h : n ≥ a
  · rw [if_pos h]; congr 1; simp; omega
  · rw [if_neg h, decide_eq_false (by omega)]

theorem index_f {k : Nat} {l : List Int} {n : Int} (hk : l.length < k) (hm : l.length ≤ 35184372088832) : slices_Contains_int_int.f k l n = some (decide (n ∈ l)) := by
  unfold slices_Contains_int_int.f slices_Index_int_int.f
  obtain ⟨r, h1, h2⟩ := run_find (fun k i => slices_Index_int_int.l0 k l n (l.length : Int) (i : Int)) l 0 (fun x => decide (n = x)) (by
    intro k i hi
    simp only [slices_Index_int_int.l0]
    rw [if_pos (by omega), if_pos (by omega), if_pos (by omega), rd_nat, wrap_id (by omega) (by omega)]
    by_cases e : n = l.getD i 0
    · rw [if_pos e, if_pos (decide_eq_true e)]
    · rw [if_neg e, if_neg (fun h => e (of_decide_eq_true h))]
      rfl) (by
    intro k
    simp only [slices_Index_int_int.l0]
    rw [if_neg (by omega)]) k hk
  have h1' : slices_Index_int_int.l0 k l n (l.length : Int) 0 = some r := h1
  rw [h1', Option.bind_some, h2]
  congr 1
  by_cases h : n ∈ l
  · rw [decide_eq_true h, List.any_eq_true.2 ⟨n, h, decide_eq_true rfl⟩]
  · rw [decide_eq_false h]
    exact Bool.eq_false_iff.2 (fun g => by obtain ⟨x, hx, e⟩ := List.any_eq_true.1 g; exact h (by rw [of_decide_eq_true e]; exact hx))


theorem pigeon (n : Nat) : ∀ l : List Int, l.Nodup → (∀ x ∈ l, 0 ≤ x ∧ x < (n : Int)) → l.length ≤ n := by
  induction n with
  | zero =>
    intro l _ h
    match l with
    | [] => simp
    | x :: _ => have := h x (by simp); omega
  | succ n ih =>
    intro l hd h
    by_cases hn : (n : Int) ∈ l
    · have h1 := ih (l.erase (n : Int)) (hd.erase _) (fun x hx => by
        have := (hd.mem_erase_iff).1 hx
        have := h x this.2
        omega)
      rw [List.length_erase_of_mem hn] at h1
      omega
    · have h1 := ih l hd (fun x hx => by
        have := h x hx
        have : x ≠ (n : Int) := fun e => hn (by rw [← e]; exact hx)
        omega)
      omega
theorem all_of_once (l : List Int) (hd : l.Nodup) (h : ∀ x ∈ l, 0 ≤ x ∧ x < (l.length : Int)) (j : Nat) (hj : j < l.length) : (j : Int) ∈ l := by
  by_cases e : (j : Int) ∈ l
  · exact e
  · have := pigeon l.length ((j : Int) :: l) (List.nodup_cons.2 ⟨e, hd⟩) (fun x hx => by
      rcases List.mem_cons.1 hx with rfl | hx
      · omega
      · exact h x hx)
    simp at this
    omega
theorem once_of_all (n : Nat) : ∀ l : List Int, l.length = n → (∀ j : Nat, j < n → (j : Int) ∈ l) → l.Nodup ∧ ∀ x ∈ l, 0 ≤ x ∧ x < (n : Int) := by
  induction n with
  | zero =>
    intro l hl _
    obtain rfl := List.eq_nil_of_length_eq_zero hl
    exact ⟨List.nodup_nil, fun x hx => by cases hx⟩
  | succ n ih =>
    intro l hl h
    have hn := h n (by omega)
    have hp := List.perm_cons_erase hn
    obtain ⟨h1, h2⟩ := ih (l.erase (n : Int)) (by rw [List.length_erase_of_mem hn]; omega) (fun j hj => (List.mem_erase_of_ne (by omega)).2 (h j (by omega)))
    refine ⟨hp.nodup_iff.2 (List.nodup_cons.2 ⟨fun g => by have := h2 _ g; omega, h1⟩), fun x hx => ?_⟩
    rcases List.mem_cons.1 (hp.mem_iff.1 hx) with rfl | hx
    · omega
    · have := h2 x hx
      omega
/-- Each number below the length is there; each element is below the length and there once. -/
def ordAll (l : List Int) : Bool := decide (∀ j : Nat, j < l.length → (j : Int) ∈ l)
theorem nodup_iff_once (l : List Int) : l.Nodup ↔ ∀ j, j < l.length → l.getD j 0 ∉ l.take j := by
  unfold List.Nodup
  rw [List.pairwise_iff_getElem]
  constructor
  · intro h j hj hm
    obtain ⟨i, hi, e⟩ := List.mem_take_iff_getElem.1 hm
    refine h i j (by omega) hj (by omega) ?_
    rw [e]
    simp [List.getD_eq_getElem?_getD, hj]
  · intro h i j hi hj hij e
    refine h j hj (List.mem_take_iff_getElem.2 ⟨i, by omega, ?_⟩)
    rw [e]
    simp [List.getD_eq_getElem?_getD, hj]
theorem ord_iff (l : List Int) : (∀ j : Nat, j < l.length → (j : Int) ∈ l) ↔ (∀ j, j < l.length → (inB 0 ((l.length : Int) - 1) (l.getD j 0) && !decide (l.getD j 0 ∈ l.take j)) = true) := by
  constructor
  · intro h
    obtain ⟨h1, h2⟩ := once_of_all l.length l rfl h
    intro j hj
    have h3 := (nodup_iff_once l).1 h1 j hj
    have h4 := h2 _ (getD_mem l j 0 hj)
    rw [decide_eq_false h3]
    simp only [Bool.not_false, Bool.and_true]
    exact decide_eq_true (by omega)
  · intro h
    have h0 : ∀ j, j < l.length → (0 ≤ l.getD j 0 ∧ l.getD j 0 < (l.length : Int)) ∧ l.getD j 0 ∉ l.take j := by
      intro j hj
      have h1 := Bool.and_eq_true_iff.1 (h j hj)
      have h2 := of_decide_eq_true h1.1
      have h3 : ¬ (l.getD j 0 ∈ l.take j) := by simpa using h1.2
      exact ⟨by omega, h3⟩
    intro j hj
    refine all_of_once l ((nodup_iff_once l).2 (fun j hj => (h0 j hj).2)) (fun x hx => ?_) j hj
    obtain ⟨i, hi, rfl⟩ := mem_getD 0 hx
    exact (h0 i hi).1
theorem spec_OrderValid_f {k : Nat} {l : List Int} {a : Int} (hk : 2 * l.length + 20 < k) (hm : l.length ≤ 35184372088832) : spec_OrderValid.f k l a = some (inB 0 12 a && ((l.length : Int) == a) && ordAll l) := by
  unfold spec_OrderValid.f
  rw [l1In_f]
  simp only [Option.bind_some]
  obtain ⟨k, rfl⟩ : ∃ m, k = m + 1 := ⟨k - 1, by omega⟩
  cases hi : inB 0 12 a
  · simp [spec_OrderValid.j0]
  · simp only [if_true, Bool.true_and, spec_OrderValid.j0]
    by_cases he : (l.length : Int) = a
    · subst he
      simp only [bne_self_eq_false, Bool.false_eq_true, if_false, beq_self_eq_true, Bool.true_and]
      refine (run_allB (l.length + 1) (fun k i => spec_OrderValid.l0 k l (l.length : Int) (i : Int)) l.length (fun i => decide ((i : Int) ∈ l)) true false ?_ ?_ k (by omega)).trans ?_
      · intro k i hb hi
        simp only [spec_OrderValid.l0]
        rw [if_pos (by omega), l2Has_f (by omega) hm, wrap_id (by omega) (by omega)]
        rfl
      · intro k _
        simp only [spec_OrderValid.l0]
        rw [if_neg (by omega)]
      · unfold ordAll
        by_cases h : ∀ j : Nat, j < l.length → (j : Int) ∈ l
        · rw [if_pos (fun j hj => decide_eq_true (h j hj)), decide_eq_true h]
        · rw [if_neg (fun g => h (fun j hj => of_decide_eq_true (g j hj))), decide_eq_false h]
    · have h1 : ((l.length : Int) != a) = true := by simpa using he
      have h2 : ((l.length : Int) == a) = false := by simpa using he
      rw [h1, h2]
      rfl
theorem impl_OrderValid_f {k : Nat} {l : List Int} {a : Int} (hk : 2 * l.length + 20 < k) (hm : l.length ≤ 35184372088832) : impl_OrderValid.f k l a = some (inB 0 12 a && ((l.length : Int) == a) && ordAll l) := by
  unfold impl_OrderValid.f
  rw [in_f]
  simp only [Option.bind_some]
  obtain ⟨k, rfl⟩ : ∃ m, k = m + 1 := ⟨k - 1, by omega⟩
  cases hi : inB 0 12 a
  · simp [impl_OrderValid.j0]
  · simp only [if_true, Bool.true_and, impl_OrderValid.j0]
    by_cases he : (l.length : Int) = a
    · subst he
      simp only [bne_self_eq_false, Bool.false_eq_true, if_false, beq_self_eq_true, Bool.true_and]
      refine (run_allB (l.length + 1) (fun k i => impl_OrderValid.l0 k l (l.length : Int) l (l.length : Int) (i : Int)) l.length (fun i => inB 0 ((l.length : Int) - 1) (l.getD i 0) && !decide (l.getD i 0 ∈ l.take i)) true false ?_ ?_ k (by omega)).trans ?_
      · intro k i hb hi
        simp only [impl_OrderValid.l0]
        rw [if_pos (by omega), if_pos (by omega), if_pos (by omega), in_f, rd_nat, wrap_id (x := (l.length : Int) - 1) (by omega) (by omega), wrap_id (x := (i : Int) + 1) (by omega) (by omega)]
        simp only [Option.bind_some, Int.toNat_natCast]
        cases inB 0 ((l.length : Int) - 1) (l.getD i 0)
        · simp
        · simp only [if_true, Bool.true_and]
          rw [if_pos (show (i : Int) ≤ (l.length : Int) by omega), index_f (by rw [List.length_take]; omega) (by rw [List.length_take]; omega)]
          simp only [Option.bind_some]
          by_cases hm : l.getD i 0 ∈ l.take i
          · rw [decide_eq_true hm]
            simp
          · rw [decide_eq_false hm]
            simp
      · intro k _
        simp only [impl_OrderValid.l0]
        rw [if_neg (by omega)]
      · unfold ordAll
        by_cases h : ∀ j : Nat, j < l.length → (j : Int) ∈ l
        · rw [if_pos ((ord_iff l).1 h), decide_eq_true h]
        · rw [if_neg (fun g => h ((ord_iff l).2 g)), decide_eq_false h]
    · have h1 : ((l.length : Int) != a) = true := by simpa using he
      have h2 : ((l.length : Int) == a) = false := by simpa using he
      rw [h1, h2]
      rfl

theorem FnExactOrderValid : laws_FnExactOrderValid.Pure := by
  intro l a hl hl8 hw ha
  refine ⟨2 * l.length + 21, ?_⟩
  unfold laws_FnExactOrderValid.f
  by_cases h : (l.length : Int) > 1048576
  · rw [if_pos h]
  · rw [if_neg h, toIntS_f (by omega) (by omega)]
    simp only [Option.bind_some]
    rw [spec_OrderValid_f (by omega) (by omega), impl_OrderValid_f (by omega) (by omega), eqIntS_f (by omega) (by omega)]
    simp

end Go.Proofs.Ytfiloaoofhnjkaa.Pure
