/- The law on OrderBack holds for all arguments: the program's list of places is the reference's, in memory of its own, and the argument stays as it was.
Conditions: none. -/
import Derived.Test.YtbjkjoicecmmpaaXFnExactOrderBackx3
import Derived.Test.YtbjkjoicecmmpaaXLib2
namespace Go.Proofs.Ytbjkjoicecmmpaa.Pure
open Go.RowKit Go.Proofs.Ytbjkjoicecmmpaa.XFnExactOrderBack Go.Proofs.YtbjkjoicecmmpaaW.PrintWords Go.Proofs.YtbjkjoicecmmpaaW.PrintLast Go.Proofs.YtbjkjoicecmmpaaW.PrintMore Go.Proofs.YtbjkjoicecmmpaaX
set_option linter.unusedVariables false
set_option linter.unusedSimpArgs false

theorem toIntS_f {k : Nat} {l : List Int} (hk : l.length < k) (hm : l.length ≤ 35184372088832) : laws_toIntS.f k l = some l := by
  unfold laws_toIntS.f
  rw [if_pos (by omega), if_pos (by omega)]
  refine run_inv (fun k (s : List Int) i => laws_toIntS.l0 k l s (i : Int)) l.length (fun i s => s.length = l.length ∧ ∀ j, j < i → s.getD j 0 = l.getD j 0) l ?_ ?_ k 0 _ (Nat.zero_le _) (by omega) ⟨by simp, fun j hj => absurd hj (Nat.not_lt_zero j)⟩
  · intro k i s hi ⟨hl, hs⟩
    refine Or.inr ⟨s.set i (l.getD i 0), ?_, by simpa using hl, fun j hj => ?_⟩
    · simp only [laws_toIntS.l0]
      rw [if_pos (by omega), if_pos (by omega), if_pos (by omega), wrap_id (by omega) (by omega), rd_nat]
      rfl
    · rw [getD_set _ _ _ _ _ (by omega)]
      by_cases e : j = i
      · rw [if_pos e, e]
      · rw [if_neg e]
        exact hs j (by omega)
  · intro k s ⟨hl, hs⟩
    simp only [laws_toIntS.l0]
    rw [if_neg (by omega), ext_getD hl hs]

theorem eqIntS_f {k : Nat} {a b : List Int} (hk : a.length < k) (hm : a.length ≤ 35184372088832) : laws_eqIntS.f k a b = some (decide (a = b)) := by
  unfold laws_eqIntS.f
  by_cases hab : a.length = b.length
  · rw [if_pos (by omega)]
    refine run_inv (fun k (_ : Unit) i => laws_eqIntS.l0 k a b (i : Int)) a.length (fun i _ => ∀ j, j < i → a.getD j 0 = b.getD j 0) _ ?_ ?_ k 0 () (Nat.zero_le _) (by omega) (fun j hj => absurd hj (Nat.not_lt_zero j))
    · intro k i _ hi hs
      by_cases e : a.getD i 0 = b.getD i 0
      · refine Or.inr ⟨(), ?_, fun j hj => ?_⟩
        · simp only [laws_eqIntS.l0]
          rw [if_pos (by omega), if_pos (by omega), if_pos (by omega), rd_nat, rd_nat, if_pos e, wrap_id (by omega) (by omega)]
          rfl
        · by_cases e2 : j = i
          · rw [e2]; exact e
          · exact hs j (by omega)
      · refine Or.inl ?_
        simp only [laws_eqIntS.l0]
        rw [if_pos (by omega), if_pos (by omega), if_pos (by omega), rd_nat, rd_nat, if_neg e, decide_eq_false (fun h => e (by rw [h]))]
    · intro k _ hs
      simp only [laws_eqIntS.l0]
      rw [if_neg (by omega), decide_eq_true (ext_getD hab (fun j hj => hs j (by omega)))]
  · rw [if_neg (by omega), decide_eq_false (fun h => hab (by rw [h]))]

theorem markIntS_f {k : Nat} {l : List Int} {a : Int} (hk : l.length < k) (hm : l.length ≤ 35184372088832) (h0 : 0 ≤ a) (h1 : a ≤ 1000000000000000000) : laws_markIntS.f k l a = some (a + l.length, marks a l.length) := by
  unfold laws_markIntS.f
  refine (?_ : laws_markIntS.l0 k l a ((0 : Nat) : Int) = _)
  refine run_inv (fun k (s : List Int × Int) i => laws_markIntS.l0 k s.1 s.2 (i : Int)) l.length (fun i s => s.1.length = l.length ∧ s.2 = a + (i : Int) ∧ ∀ j, j < i → s.1.getD j 0 = a + (j : Int)) _ ?_ ?_ k 0 (l, a) (Nat.zero_le _) (by omega) ⟨rfl, by simp, fun j hj => absurd hj (Nat.not_lt_zero j)⟩
  · rintro k i ⟨s, c⟩ hi ⟨hl, hc, hs⟩
    simp only at hl hc hs
    subst hc
    refine Or.inr ⟨(s.set i (a + (i : Int)), a + (i : Int) + 1), ?_, by simpa using hl, by simp only [Int.natCast_add]; omega, fun j hj => ?_⟩
    · simp only [laws_markIntS.l0]
      rw [if_pos (by omega), if_pos (by omega), wrap_id (x := a + (i : Int) + 1) (by omega) (by omega), wrap_id (by omega) (by omega)]
      rfl
    · simp only
      rw [getD_set _ _ _ _ _ (by omega)]
      by_cases e : j = i
      · rw [if_pos e, e]
      · rw [if_neg e]
        exact hs j (by omega)
  · rintro k ⟨s, c⟩ ⟨hl, hc, hs⟩
    simp only at hl hc hs
    subst hc
    simp only [laws_markIntS.l0]
    rw [if_neg (by omega), ext_getD (d := 0) (s := s) (l := marks a l.length) (by rw [marks_length]; exact hl) (fun j hj => by rw [marks_length] at hj; rw [marks_getD _ _ _ hj]; exact hs j hj)]

theorem heldIntS_f {k : Nat} {n : Nat} {a : Int} (hk : n < k) (hm : n ≤ 35184372088832) (h0 : 0 ≤ a) (h1 : a ≤ 1000000000000000000) : laws_heldIntS.f k (marks a n) a = some (a + (n : Int)) := by
  unfold laws_heldIntS.f
  refine (?_ : laws_heldIntS.l0 k (marks a n) a ((0 : Nat) : Int) = _)
  have hlen := marks_length a n
  refine run_inv (fun k (s : Int) i => laws_heldIntS.l0 k (marks a n) s (i : Int)) n (fun i s => s = a + (i : Int)) _ ?_ ?_ k 0 a (Nat.zero_le _) (by omega) (by simp)
  · rintro k i s hi rfl
    refine Or.inr ⟨a + (i : Int) + 1, ?_, by simp only [Int.natCast_add]; omega⟩
    simp only [laws_heldIntS.l0]
    rw [if_pos (by omega), if_pos (by omega), rd_nat, marks_getD _ _ _ hi, if_pos rfl, wrap_id (x := a + (i : Int) + 1) (by omega) (by omega), wrap_id (by omega) (by omega)]
    rfl
  · rintro k s rfl
    simp only [laws_heldIntS.l0]
    rw [if_neg (by omega)]

theorem l1In_f (n a b : Int) : spec_l1In.f n a b = some (inB a b n) := by
  unfold spec_l1In.f inB
  by_cases h : n ≥ a
  · rw [if_pos h]; congr 1; simp; omega
  · rw [if_neg h, decide_eq_false (by omega)]

theorem l2Has_f {k : Nat} {l : List Int} {n : Int} (hk : l.length < k) (hm : l.length ≤ 35184372088832) : spec_l2Has.f k l n = some (decide (n ∈ l)) := by
  unfold spec_l2Has.f
  refine (run_all (fun k i => spec_l2Has.l0 k l n (i : Int)) l.length (fun i => !decide (l.getD i 0 = n)) false true ?_ ?_ k hk).trans ?_
  · intro k i hi
    simp only [spec_l2Has.l0]
    rw [if_pos (by omega), if_pos (by omega), rd_nat, wrap_id (by omega) (by omega)]
    by_cases e : l.getD i 0 = n
    · rw [if_pos e, decide_eq_true e]
      rfl
    · rw [if_neg e, decide_eq_false e]
      rfl
  · intro k
    simp only [spec_l2Has.l0]
    rw [if_neg (by omega)]
  · by_cases h : n ∈ l
    · obtain ⟨j, hj, e⟩ := mem_getD 0 h
      rw [decide_eq_true h, if_neg (fun g => by have := g j hj; rw [decide_eq_true e] at this; cases this)]
    · rw [decide_eq_false h, if_pos (fun j hj => by rw [decide_eq_false (fun e => h (by rw [← e]; exact getD_mem l j 0 hj))]; rfl)]

theorem clone_int_f {l : List Int} (h : l.length ≤ 35184372088832) : impl_clone_int.f l = some l := by
  unfold impl_clone_int.f
  rw [if_pos h]

theorem in_f (n a b : Int) : impl_in.f n a b = some (inB a b n) := by
  unfold impl_in.f inB
  by_cases h : n ≥ a
  · rw [if_pos h]; congr 1; simp; omega
  · rw [if_neg h, decide_eq_false (by omega)]

theorem index_f {k : Nat} {l : List Int} {n : Int} (hk : l.length < k) (hm : l.length ≤ 35184372088832) : slices_Contains_int_int.f k l n = some (decide (n ∈ l)) := by
  unfold slices_Contains_int_int.f slices_Index_int_int.f
  obtain ⟨r, h1, h2⟩ := run_find (fun k i => slices_Index_int_int.l0 k l n (l.length : Int) (i : Int)) l 0 (fun x => decide (n = x)) (by
    intro k i hi
    simp only [slices_Index_int_int.l0]
    rw [if_pos (by omega), if_pos (by omega), if_pos (by omega), rd_nat, wrap_id (by omega) (by omega)]
    by_cases e : n = l.getD i 0
    · rw [if_pos e, if_pos (decide_eq_true e)]
    · rw [if_neg e, if_neg (fun h => e (of_decide_eq_true h))]
      rfl) (by
    intro k
    simp only [slices_Index_int_int.l0]
    rw [if_neg (by omega)]) k hk
  have h1' : slices_Index_int_int.l0 k l n (l.length : Int) 0 = some r := h1
  rw [h1', Option.bind_some, h2]
  congr 1
  by_cases h : n ∈ l
  · rw [decide_eq_true h, List.any_eq_true.2 ⟨n, h, decide_eq_true rfl⟩]
  · rw [decide_eq_false h]
    exact Bool.eq_false_iff.2 (fun g => by obtain ⟨x, hx, e⟩ := List.any_eq_true.1 g; exact h (by rw [of_decide_eq_true e]; exact hx))


theorem pigeon (n : Nat) : ∀ l : List Int, l.Nodup → (∀ x ∈ l, 0 ≤ x ∧ x < (n : Int)) → l.length ≤ n := by
  induction n with
  | zero =>
    intro l _ h
    match l with
    | [] => simp
    | x :: _ => have := h x (by simp); omega
  | succ n ih =>
    intro l hd h
    by_cases hn : (n : Int) ∈ l
    · have h1 := ih (l.erase (n : Int)) (hd.erase _) (fun x hx => by
        have := (hd.mem_erase_iff).1 hx
        have := h x this.2
        omega)
      rw [List.length_erase_of_mem hn] at h1
      omega
    · have h1 := ih l hd (fun x hx => by
        have := h x hx
        have : x ≠ (n : Int) := fun e => hn (by rw [← e]; exact hx)
        omega)
      omega
theorem all_of_once (l : List Int) (hd : l.Nodup) (h : ∀ x ∈ l, 0 ≤ x ∧ x < (l.length : Int)) (j : Nat) (hj : j < l.length) : (j : Int) ∈ l := by
  by_cases e : (j : Int) ∈ l
  · exact e
  · have := pigeon l.length ((j : Int) :: l) (List.nodup_cons.2 ⟨e, hd⟩) (fun x hx => by
      rcases List.mem_cons.1 hx with rfl | hx
      · omega
      · exact h x hx)
    simp at this
    omega
theorem once_of_all (n : Nat) : ∀ l : List Int, l.length = n → (∀ j : Nat, j < n → (j : Int) ∈ l) → l.Nodup ∧ ∀ x ∈ l, 0 ≤ x ∧ x < (n : Int) := by
  induction n with
  | zero =>
    intro l hl _
    obtain rfl := List.eq_nil_of_length_eq_zero hl
    exact ⟨List.nodup_nil, fun x hx => by cases hx⟩
  | succ n ih =>
    intro l hl h
    have hn := h n (by omega)
    have hp := List.perm_cons_erase hn
    obtain ⟨h1, h2⟩ := ih (l.erase (n : Int)) (by rw [List.length_erase_of_mem hn]; omega) (fun j hj => (List.mem_erase_of_ne (by omega)).2 (h j (by omega)))
    refine ⟨hp.nodup_iff.2 (List.nodup_cons.2 ⟨fun g => by have := h2 _ g; omega, h1⟩), fun x hx => ?_⟩
    rcases List.mem_cons.1 (hp.mem_iff.1 hx) with rfl | hx
    · omega
    · have := h2 x hx
      omega
/-- Each number below the length is there; each element is below the length and there once. -/
def ordAll (l : List Int) : Bool := decide (∀ j : Nat, j < l.length → (j : Int) ∈ l)
theorem nodup_iff_once (l : List Int) : l.Nodup ↔ ∀ j, j < l.length → l.getD j 0 ∉ l.take j := by
  unfold List.Nodup
  rw [List.pairwise_iff_getElem]
  constructor
  · intro h j hj hm
    obtain ⟨i, hi, e⟩ := List.mem_take_iff_getElem.1 hm
    refine h i j (by omega) hj (by omega) ?_
    rw [e]
    simp [List.getD_eq_getElem?_getD, hj]
  · intro h i j hi hj hij e
    refine h j hj (List.mem_take_iff_getElem.2 ⟨i, by omega, ?_⟩)
    rw [e]
    simp [List.getD_eq_getElem?_getD, hj]
theorem ord_iff (l : List Int) : (∀ j : Nat, j < l.length → (j : Int) ∈ l) ↔ (∀ j, j < l.length → (inB 0 ((l.length : Int) - 1) (l.getD j 0) && !decide (l.getD j 0 ∈ l.take j)) = true) := by
  constructor
  · intro h
    obtain ⟨h1, h2⟩ := once_of_all l.length l rfl h
    intro j hj
    have h3 := (nodup_iff_once l).1 h1 j hj
    have h4 := h2 _ (getD_mem l j 0 hj)
    rw [decide_eq_false h3]
    simp only [Bool.not_false, Bool.and_true]
    exact decide_eq_true (by omega)
  · intro h
    have h0 : ∀ j, j < l.length → (0 ≤ l.getD j 0 ∧ l.getD j 0 < (l.length : Int)) ∧ l.getD j 0 ∉ l.take j := by
      intro j hj
      have h1 := Bool.and_eq_true_iff.1 (h j hj)
      have h2 := of_decide_eq_true h1.1
      have h3 : ¬ (l.getD j 0 ∈ l.take j) := by simpa using h1.2
      exact ⟨by omega, h3⟩
    intro j hj
    refine all_of_once l ((nodup_iff_once l).2 (fun j hj => (h0 j hj).2)) (fun x hx => ?_) j hj
    obtain ⟨i, hi, rfl⟩ := mem_getD 0 hx
    exact (h0 i hi).1
theorem spec_OrderValid_f {k : Nat} {l : List Int} {a : Int} (hk : 2 * l.length + 20 < k) (hm : l.length ≤ 35184372088832) : spec_OrderValid.f k l a = some (inB 0 12 a && ((l.length : Int) == a) && ordAll l) := by
  unfold spec_OrderValid.f
  rw [l1In_f]
  simp only [Option.bind_some]
  obtain ⟨k, rfl⟩ : ∃ m, k = m + 1 := ⟨k - 1, by omega⟩
  cases hi : inB 0 12 a
  · simp [spec_OrderValid.j0]
  · simp only [if_true, Bool.true_and, spec_OrderValid.j0]
    by_cases he : (l.length : Int) = a
    · subst he
      simp only [bne_self_eq_false, Bool.false_eq_true, if_false, beq_self_eq_true, Bool.true_and]
      refine (run_allB (l.length + 1) (fun k i => spec_OrderValid.l0 k l (l.length : Int) (i : Int)) l.length (fun i => decide ((i : Int) ∈ l)) true false ?_ ?_ k (by omega)).trans ?_
      · intro k i hb hi
        simp only [spec_OrderValid.l0]
        rw [if_pos (by omega), l2Has_f (by omega) hm, wrap_id (by omega) (by omega)]
        rfl
      · intro k _
        simp only [spec_OrderValid.l0]
        rw [if_neg (by omega)]
      · unfold ordAll
        by_cases h : ∀ j : Nat, j < l.length → (j : Int) ∈ l
        · rw [if_pos (fun j hj => decide_eq_true (h j hj)), decide_eq_true h]
        · rw [if_neg (fun g => h (fun j hj => of_decide_eq_true (g j hj))), decide_eq_false h]
    · have h1 : ((l.length : Int) != a) = true := by simpa using he
      have h2 : ((l.length : Int) == a) = false := by simpa using he
      rw [h1, h2]
      rfl
theorem impl_OrderValid_f {k : Nat} {l : List Int} {a : Int} (hk : 2 * l.length + 20 < k) (hm : l.length ≤ 35184372088832) : impl_OrderValid.f k l a = some (inB 0 12 a && ((l.length : Int) == a) && ordAll l) := by
  unfold impl_OrderValid.f
  rw [in_f]
  simp only [Option.bind_some]
  obtain ⟨k, rfl⟩ : ∃ m, k = m + 1 := ⟨k - 1, by omega⟩
  cases hi : inB 0 12 a
  · simp [impl_OrderValid.j0]
  · simp only [if_true, Bool.true_and, impl_OrderValid.j0]
    by_cases he : (l.length : Int) = a
    · subst he
      simp only [bne_self_eq_false, Bool.false_eq_true, if_false, beq_self_eq_true, Bool.true_and]
      refine (run_allB (l.length + 1) (fun k i => impl_OrderValid.l0 k l (l.length : Int) l (l.length : Int) (i : Int)) l.length (fun i => inB 0 ((l.length : Int) - 1) (l.getD i 0) && !decide (l.getD i 0 ∈ l.take i)) true false ?_ ?_ k (by omega)).trans ?_
      · intro k i hb hi
        simp only [impl_OrderValid.l0]
        rw [if_pos (by omega), if_pos (by omega), if_pos (by omega), in_f, rd_nat, wrap_id (x := (l.length : Int) - 1) (by omega) (by omega), wrap_id (x := (i : Int) + 1) (by omega) (by omega)]
        simp only [Option.bind_some, Int.toNat_natCast]
        cases inB 0 ((l.length : Int) - 1) (l.getD i 0)
        · simp
        · simp only [if_true, Bool.true_and]
          rw [if_pos (show (i : Int) ≤ (l.length : Int) by omega), index_f (by rw [List.length_take]; omega) (by rw [List.length_take]; omega)]
          simp only [Option.bind_some]
          by_cases hm : l.getD i 0 ∈ l.take i
          · rw [decide_eq_true hm]
            simp
          · rw [decide_eq_false hm]
            simp
      · intro k _
        simp only [impl_OrderValid.l0]
        rw [if_neg (by omega)]
      · unfold ordAll
        by_cases h : ∀ j : Nat, j < l.length → (j : Int) ∈ l
        · rw [if_pos ((ord_iff l).1 h), decide_eq_true h]
        · rw [if_neg (fun g => h ((ord_iff l).2 g)), decide_eq_false h]
    · have h1 : ((l.length : Int) != a) = true := by simpa using he
      have h2 : ((l.length : Int) == a) = false := by simpa using he
      rw [h1, h2]
      rfl

def placeIn (l : List Int) (v : Nat) : Nat := l.idxOf (v : Int)
def backL (l : List Int) : List Int := (List.range l.length).map fun v => (placeIn l v : Int)
def orderOK (l : List Int) : Bool := inB 0 12 (l.length : Int) && ((l.length : Int) == (l.length : Int)) && ordAll l
def backR (l : List Int) : List Int := if orderOK l = true then backL l else []
theorem backL_length (l : List Int) : (backL l).length = l.length := by simp [backL]
theorem place_lt {l : List Int} {v : Nat} (h : (v : Int) ∈ l) : placeIn l v < l.length := List.idxOf_lt_length_of_mem h
theorem place_at {l : List Int} {v : Nat} (h : (v : Int) ∈ l) : l.getD (placeIn l v) 0 = (v : Int) := by
  have h1 := place_lt h
  simp only [List.getD_eq_getElem?_getD, List.getElem?_eq_getElem h1, Option.getD_some]
  exact List.getElem_idxOf h1
theorem once_eq {l : List Int} (hd : l.Nodup) {i j : Nat} (hi : i < l.length) (hj : j < l.length) (e : l.getD i 0 = l.getD j 0) : i = j := by
  have key : ∀ i j, i < j → j < l.length → l.getD i 0 = l.getD j 0 → False := by
    intro i j hij hj e
    refine (nodup_iff_once l).1 hd j hj ?_
    rw [← e]
    have : l.getD i 0 = (l.take j).getD i 0 := by simp [List.getD_eq_getElem?_getD, List.getElem?_take, hij]
    rw [this]
    exact getD_mem _ i 0 (by rw [List.length_take]; omega)
  rcases Nat.lt_trichotomy i j with h | h | h
  · exact (key i j h hj e).elim
  · exact h
  · exact (key j i h hi e.symm).elim
theorem orderOK_mem {l : List Int} (h : orderOK l = true) : ∀ j : Nat, j < l.length → (j : Int) ∈ l := of_decide_eq_true (Bool.and_eq_true_iff.1 h).2

theorem spec_back {k : Nat} {l : List Int} (hk : (l.length + 1) * (l.length + 3) + l.length + 40 < k) (hm : l.length ≤ 1048576) : spec_OrderBack.f k l = some (backR l) := by
  unfold spec_OrderBack.f backR
  by_cases h : orderOK l = true
  · rw [if_pos h]
    have hin := orderOK_mem h
    obtain ⟨hd, hb⟩ := once_of_all l.length l rfl hin
    refine run_invC (l.length + 2) (l.length + 30) (fun k (s : List Int) i => spec_OrderBack.l0 k l s (i : Int)) l.length (fun i s => s = (backL l).take i) _ ?_ ?_ k 0 [] (Nat.zero_le _) (by have hk' : (l.length + 1) * (l.length + 2 + 1) + l.length + 40 < k := hk; simp only [Nat.sub_zero]; omega) (by simp)
    · rintro k v s hB hv rfl
      have hl := take_map_range_length (fun v => (placeIn l v : Int)) l.length v (by omega)
      refine Or.inr ⟨_, ?_, (take_map_range_succ _ l.length v hv).symm⟩
      have c1 : (v : Int) < (l.length : Int) := by omega
      show spec_OrderBack.l0 (k + (l.length + 1) + 1 + 1) l ((backL l).take v) (v : Int) = _
      simp only [spec_OrderBack.l0, if_pos c1]
      rw [spec_OrderValid_f (by omega) (by omega)]
      have h' : (inB 0 12 (l.length : Int) && ((l.length : Int) == (l.length : Int)) && ordAll l) = true := h
      rw [h']
      simp only [Option.bind_some, spec_OrderBack.j1, if_true]
      have hplace := place_lt (hin v hv)
      have hat := place_at (hin v hv)
      refine run_goto (fun k (s : List Int) i => spec_OrderBack.l1 k l s (v : Int) (i : Int)) l.length (fun i s => s = (backL l).take v ++ (if placeIn l v < i then [(placeIn l v : Int)] else [])) (fun k => spec_OrderBack.l0 k l ((backL l).take v ++ [(placeIn l v : Int)]) ((v + 1 : Nat) : Int)) ?_ ?_ l.length k 0 ((backL l).take v) (by omega) (by simp)
      · rintro k i s hi rfl
        have d1 : (i : Int) < (l.length : Int) := by omega
        have d2 : (0 : Int) ≤ (i : Int) := by omega
        have hlen : ((backL l).take v).length = v := hl
        simp only [spec_OrderBack.l1, if_pos d1, if_pos d2, rd_nat, wrap_id (x := (i : Int) + 1) (by omega) (by omega)]
        by_cases e : l.getD i 0 = (v : Int)
        · have hi' : i = placeIn l v := once_eq hd hi hplace (by rw [e, hat])
          refine ⟨(backL l).take v ++ [(i : Int)], ?_, ?_⟩
          · have e3 : ¬ placeIn l v < i := by omega
            rw [if_pos e]
            simp only [if_neg e3, List.append_nil]
            rw [if_pos (by rw [hlen]; omega)]
            rfl
          · rw [if_pos (by omega), hi']
        · have hi' : i ≠ placeIn l v := fun h' => e (by rw [h', hat])
          refine ⟨_, by rw [if_neg e]; rfl, ?_⟩
          by_cases e2 : placeIn l v < i
          · rw [if_pos e2, if_pos (by omega)]
          · rw [if_neg e2, if_neg (by omega)]
      · rintro k s rfl
        have d1 : ¬ (l.length : Int) < (l.length : Int) := by omega
        simp only [spec_OrderBack.l1, if_neg d1, if_pos hplace, wrap_id (x := (v : Int) + 1) (by omega) (by omega)]
        rfl
    · rintro k s _ rfl
      have d1 : ¬ (l.length : Int) < (l.length : Int) := by omega
      show spec_OrderBack.l0 (k + (l.length + 1) + 1 + 1) l ((backL l).take l.length) (l.length : Int) = _
      simp only [spec_OrderBack.l0, if_neg d1, spec_OrderBack.j1, Bool.false_eq_true, if_false]
      rw [List.take_of_length_le (by rw [backL_length]; omega)]
  · rw [if_neg h]
    obtain ⟨k, rfl⟩ : ∃ m, k = m + 2 := ⟨k - 2, by omega⟩
    simp only [spec_OrderBack.l0]
    have hf : (inB 0 12 (l.length : Int) && ((l.length : Int) == (l.length : Int)) && ordAll l) = false := Bool.eq_false_iff.2 h
    have hbig : 0 ≤ (l.length + 1) * (l.length + 3) := Nat.zero_le _
    have h2 : l.length ≤ (l.length + 1) * (l.length + 3) := Nat.le_trans (Nat.le_succ _) (Nat.le_mul_of_pos_right _ (by omega))
    rw [spec_OrderValid_f (by omega) (by omega), hf]
    by_cases h0 : (0 : Int) < (l.length : Int)
    · rw [if_pos h0]
      simp only [Option.bind_some, spec_OrderBack.j1, Bool.false_eq_true, if_false]
    · rw [if_neg h0]
      simp only [spec_OrderBack.j1, Bool.false_eq_true, if_false]
theorem impl_back {k : Nat} {l : List Int} (hk : 2 * l.length + 40 < k) (hm : l.length ≤ 1048576) : impl_OrderBack.f k l = some (backR l) := by
  unfold impl_OrderBack.f backR
  rw [impl_OrderValid_f (by omega) (by omega)]
  simp only [Option.bind_some]
  by_cases h : orderOK l = true
  · have h' : (inB 0 12 (l.length : Int) && ((l.length : Int) == (l.length : Int)) && ordAll l) = true := h
    rw [if_pos h', if_pos h, if_pos (by omega), if_pos (by omega)]
    have hin := orderOK_mem h
    obtain ⟨hd, hb⟩ := once_of_all l.length l rfl hin
    refine run_inv (fun k (s : List Int) i => impl_OrderBack.l0 k s l (l.length : Int) (i : Int)) l.length (fun i s => s.length = l.length ∧ ∀ j, j < i → s.getD (l.getD j 0).toNat 0 = (j : Int)) _ ?_ ?_ k 0 _ (Nat.zero_le _) (by omega) ⟨by simp, fun j hj => absurd hj (Nat.not_lt_zero j)⟩
    · rintro k i s hi ⟨hl, hs⟩
      have hx := hb _ (getD_mem l i 0 hi)
      simp only [impl_OrderBack.l0]
      rw [if_pos (by omega), if_pos (by omega), if_pos (by omega)]
      simp only [rd_nat]
      rw [if_pos (by omega), if_pos (by omega), wrap_id (x := (i : Int) + 1) (by omega) (by omega)]
      refine Or.inr ⟨_, rfl, by simpa using hl, fun j hj => ?_⟩
      rw [getD_set _ _ _ _ _ (by omega)]
      by_cases e : j = i
      · rw [e, if_pos rfl]
      · have hy := hb _ (getD_mem l j 0 (by omega))
        rw [if_neg, hs j (by omega)]
        intro e2
        exact e (once_eq hd (by omega) hi (by omega))
    · rintro k s ⟨hl, hs⟩
      simp only [impl_OrderBack.l0]
      rw [if_neg (by omega), clone_int_f (by omega), ext_getD (d := 0) (s := s) (l := backL l) (by rw [backL_length]; exact hl) (fun j hj => by
        rw [backL_length] at hj
        have := hs (placeIn l j) (place_lt (hin j hj))
        rw [place_at (hin j hj), Int.toNat_natCast] at this
        rw [this]
        unfold backL
        rw [getD_map_range _ _ _ _ hj])]
      rfl
  · have hf : ¬ (inB 0 12 (l.length : Int) && ((l.length : Int) == (l.length : Int)) && ordAll l) = true := h
    rw [if_neg hf, if_neg h]

theorem FnExactOrderBack : laws_FnExactOrderBack.Pure := by
  intro l hl hl8 hw
  refine ⟨(l.length + 1) * (l.length + 3) + 4 * l.length + 60, ?_⟩
  unfold laws_FnExactOrderBack.f
  by_cases h : (l.length : Int) > 1048576
  · rw [if_pos h]
  · have h2 : l.length ≤ (l.length + 1) * (l.length + 3) := Nat.le_trans (Nat.le_succ _) (Nat.le_mul_of_pos_right _ (by omega))
    generalize hK : (l.length + 1) * (l.length + 3) = K at h2 ⊢
    rw [if_neg h, toIntS_f (by omega) (by omega)]
    simp only [Option.bind_some]
    rw [spec_back (by omega) (by omega), impl_back (by omega) (by omega)]
    have hI := impl_back (k := K + 4 * l.length + 59) (l := l) (by omega) (by omega)
    have hR : (backR l).length ≤ l.length := by
      unfold backR
      split
      · rw [backL_length]; exact Nat.le_refl _
      · simp
    generalize backR l = R at hI hR ⊢
    simp only [Option.bind_some]
    rw [eqIntS_f (by omega) (by omega), eqIntS_f (by omega) (by omega), markIntS_f (by omega) (by omega) (by omega) (by omega)]
    have hq : ¬ ((1 : Int) + (l.length : Int) < 0) := by omega
    have hq2 : ¬ ((1 : Int) + (R.length : Int) < 0) := by omega
    simp only [Option.bind_some, decide_true, if_true, if_neg hq, Bool.not_true, laws_FnExactOrderBack.j0, Bool.false_eq_true, if_false]
    rw [markIntS_f (by omega) (by omega) (by omega) (by omega)]
    simp only [Option.bind_some]
    rw [heldIntS_f (by omega) (by omega) (by omega) (by omega), toIntS_f (by omega) (by omega)]
    simp only [Option.bind_some, if_neg hq2, if_true, hI]
    rw [eqIntS_f (by omega) (by omega)]
    simp only [Option.bind_some, decide_true, if_true, if_neg hq2]

end Go.Proofs.Ytbjkjoicecmmpaa.Pure
