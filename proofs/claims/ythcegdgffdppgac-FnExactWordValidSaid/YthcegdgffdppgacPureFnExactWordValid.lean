/- The law on WordValid holds for all arguments: the program tells what the reference tells, and leaves its arguments as they were.
Conditions: none. -/
import Derived.Test.YthcegdgffdppgacXFnExactWordValidx3
import Derived.Test.YthcegdgffdppgacXLib2
namespace Go.Proofs.Ythcegdgffdppgac.Pure
open Go.RowKit Go.Proofs.Ythcegdgffdppgac.XFnExactWordValid Go.Proofs.YthcegdgffdppgacW.PrintWords Go.Proofs.YthcegdgffdppgacW.PrintLast Go.Proofs.YthcegdgffdppgacW.PrintMore Go.Proofs.YthcegdgffdppgacX
set_option linter.unusedVariables false
set_option linter.unusedSimpArgs false

theorem rdL_nat (xs : List (List Int)) (i : Nat) : rd_L1 xs (i : Int) = xs.getD i [] := by
  unfold rd_L1
  simp

/-- How many numbers all rows hold. -/
def total (l : List (List Int)) : Nat := (l.map List.length).sum
theorem total_take (l : List (List Int)) (i : Nat) (h : i < l.length) : total (l.take (i + 1)) = total (l.take i) + (l.getD i []).length := by
  unfold total
  rw [take_succ_getD l i [] h, List.map_append, List.sum_append]
  simp
theorem total_le (l : List (List Int)) (i : Nat) : total (l.take i) ≤ total l := by
  have h : total l = total (l.take i) + total (l.drop i) := by
    unfold total
    rw [← List.sum_append, ← List.map_append, List.take_append_drop]
  omega
theorem total_mem {l : List (List Int)} {x : List Int} (h : x ∈ l) : x.length ≤ total l := by
  unfold total
  induction l with
  | nil => cases h
  | cons y l ih =>
    simp only [List.map_cons, List.sum_cons]
    rcases List.mem_cons.1 h with rfl | h
    · omega
    · have := ih h
      omega

theorem szIntS_f {l : List Int} {a : Int} (h0 : 0 ≤ a) (h1 : a ≤ 1048576) (hl : l.length ≤ 9223372036854775807) : laws_szIntS.f l a = some (if a - (l.length : Int) < 0 then -1 else a - (l.length : Int)) := by
  unfold laws_szIntS.f
  rw [wrap_id (by omega) (by omega)]
  by_cases h : a - (l.length : Int) < 0
  · rw [if_pos h, if_pos h]
  · rw [if_neg h, if_neg h]
theorem szIntSS_f {k : Nat} {l : List (List Int)} {a : Int} (hk : 1048577 < k) (h0 : 0 ≤ a) (h1 : a ≤ 1048576) (hl : l.length ≤ 9223372036854775807) (hx : ∀ x ∈ l, x.length ≤ 9223372036854775807) :
    ∃ r, laws_szIntSS.f k l a = some r ∧ (0 ≤ r → r = a - (l.length : Int) - (total l : Int)) := by
  unfold laws_szIntSS.f
  rw [wrap_id (by omega) (by omega)]
  by_cases h : a - (l.length : Int) < 0
  · exact ⟨-1, by rw [if_pos h], fun g => absurd g (by omega)⟩
  · rw [if_neg h]
    refine ⟨if a - (l.length : Int) - (total l : Int) < 0 then -1 else a - (l.length : Int) - (total l : Int), ?_, ?_⟩
    · refine run_inv (fun k (s : Int) i => laws_szIntSS.l0 k l s (i : Int)) l.length (fun i s => s = a - (l.length : Int) - (total (l.take i) : Int) ∧ 0 ≤ s) _ ?_ ?_ k 0 _ (Nat.zero_le _) (by omega) ⟨by simp [total], by omega⟩
      · rintro k i s hi ⟨rfl, hs⟩
        have ht := total_take l i hi
        have hle := total_le l (i + 1)
        have hlen := hx _ (getD_mem l i [] hi)
        simp only [laws_szIntSS.l0]
        rw [if_pos (by omega), if_pos (by omega), rdL_nat, szIntS_f hs (by omega) hlen, wrap_id (x := (i : Int) + 1) (by omega) (by omega)]
        simp only [Option.bind_some]
        by_cases hneg : a - (l.length : Int) - (total (l.take i) : Int) - ((l.getD i []).length : Int) < 0
        · refine Or.inl ?_
          rw [if_pos (show (if a - (l.length : Int) - (total (l.take i) : Int) - ((l.getD i []).length : Int) < 0 then (-1 : Int) else _) < 0 by rw [if_pos hneg]; omega), if_pos (by omega)]
        · refine Or.inr ⟨a - (l.length : Int) - (total (l.take i) : Int) - ((l.getD i []).length : Int), ?_, ?_⟩
          · simp only [if_neg hneg]
            rfl
          · rw [ht]
            exact ⟨by simp only [Int.natCast_add]; omega, by omega⟩
      · rintro k s ⟨rfl, hs⟩
        simp only [laws_szIntSS.l0]
        rw [if_neg (by omega)]
        rw [List.take_length] at hs ⊢
        rw [if_neg (by omega)]
    · intro g
      by_cases hneg : a - (l.length : Int) - (total l : Int) < 0
      · rw [if_pos hneg] at g
        omega
      · rw [if_neg hneg]

theorem l1In_f (n a b : Int) : spec_l1In.f n a b = some (inB a b n) := by
  unfold spec_l1In.f inB
  by_cases h : n ≥ a
  · rw [if_pos h]; congr 1; simp; omega
  · rw [if_neg h, decide_eq_false (by omega)]

theorem l6Are_f {k : Nat} {l : List Int} (hk : l.length < k) (hm : l.length ≤ 35184372088832) : spec_l6Are.f k l = some (l.all (inB 0 1)) := by
  unfold spec_l6Are.f
  refine (run_allL (fun k i => spec_l6Are.l0 k l (i : Int)) l 0 (inB 0 1) true false ?_ ?_ k hk).trans ?_
  · intro k i hi
    simp only [spec_l6Are.l0]
    rw [if_pos (by omega), if_pos (by omega), l1In_f, rd_nat, wrap_id (by omega) (by omega)]
    rfl
  · intro k
    simp only [spec_l6Are.l0]
    rw [if_neg (by omega)]
  · cases l.all (inB 0 1) <;> simp

def letOK (n : Int) (c : List Int) : Bool := decide ((c.length : Int) = n) && c.all (inB 0 1)
theorem l20Letters_f {k : Nat} {n : Int} {l : List (List Int)} (hk : 2100000 < k) (hl : l.length ≤ 1048576) (hx : ∀ x ∈ l, x.length ≤ 1048576) : spec_l20Letters.f k l n = some (l.all (letOK n)) := by
  unfold spec_l20Letters.f
  refine (run_allB 1048577 (fun k i => spec_l20Letters.l0 k l n (i : Int)) l.length (fun i => letOK n (l.getD i [])) true false ?_ ?_ k (by omega)).trans ?_
  · intro k i hb hi
    have hm := hx _ (getD_mem l i [] hi)
    simp only [spec_l20Letters.l0, rdL_nat]
    rw [if_pos (by omega), if_pos (by omega), l6Are_f (by omega) (by omega), wrap_id (x := (i : Int) + 1) (by omega) (by omega)]
    simp only [Option.bind_some]
    unfold letOK
    by_cases h : ((l.getD i []).length : Int) = n
    · rw [if_pos h, decide_eq_true h, Bool.true_and]
      rfl
    · rw [if_neg h, decide_eq_false h, Bool.false_and, if_neg (by decide)]
  · intro k _
    simp only [spec_l20Letters.l0]
    rw [if_neg (by omega)]
  · have e := all_getD l [] (letOK n)
    by_cases h : ∀ j, j < l.length → letOK n (l.getD j []) = true
    · rw [if_pos h, e.1 h]
    · rw [if_neg h]
      cases hh : l.all (letOK n) with
      | false => rfl
      | true => exact absurd (e.2 hh) h

theorem toIntS_f {k : Nat} {l : List Int} (hk : l.length < k) (hm : l.length ≤ 35184372088832) : laws_toIntS.f k l = some l := by
  unfold laws_toIntS.f
  rw [if_pos (by omega), if_pos (by omega)]
  refine run_inv (fun k (s : List Int) i => laws_toIntS.l0 k l s (i : Int)) l.length (fun i s => s.length = l.length ∧ ∀ j, j < i → s.getD j 0 = l.getD j 0) l ?_ ?_ k 0 _ (Nat.zero_le _) (by omega) ⟨by simp, fun j hj => absurd hj (Nat.not_lt_zero j)⟩
  · intro k i s hi ⟨hl, hs⟩
    refine Or.inr ⟨s.set i (l.getD i 0), ?_, by simpa using hl, fun j hj => ?_⟩
    · simp only [laws_toIntS.l0]
      rw [if_pos (by omega), if_pos (by omega), if_pos (by omega), wrap_id (by omega) (by omega), rd_nat]
      rfl
    · rw [getD_set _ _ _ _ _ (by omega)]
      by_cases e : j = i
      · rw [if_pos e, e]
      · rw [if_neg e]
        exact hs j (by omega)
  · intro k s ⟨hl, hs⟩
    simp only [laws_toIntS.l0]
    rw [if_neg (by omega), ext_getD hl hs]

theorem toIntSS_f {k : Nat} {l : List (List Int)} (hk : 2100000 < k) (hl : l.length ≤ 1048576) (hx : ∀ x ∈ l, x.length ≤ 1048576) : laws_toIntSS.f k l = some l := by
  unfold laws_toIntSS.f
  rw [if_pos (by omega), if_pos (by omega)]
  refine run_invB 1048577 (fun k (s : List (List Int)) i => laws_toIntSS.l0 k l s (i : Int)) l.length (fun i s => s.length = l.length ∧ ∀ j, j < i → s.getD j [] = l.getD j []) _ ?_ ?_ k 0 _ (Nat.zero_le _) (by omega) ⟨by simp, fun j hj => absurd hj (Nat.not_lt_zero j)⟩
  · intro k i s hB hi ⟨hl2, hs⟩
    have hlen := hx _ (getD_mem l i [] hi)
    refine Or.inr ⟨s.set i (l.getD i []), ?_, by simpa using hl2, fun j hj => ?_⟩
    · simp only [laws_toIntSS.l0]
      rw [if_pos (by omega), if_pos (by omega), rdL_nat, toIntS_f (by omega) (by omega)]
      simp only [Option.bind_some]
      rw [if_pos (by omega), wrap_id (by omega) (by omega)]
      rfl
    · rw [getD_set _ _ _ _ _ (by omega)]
      by_cases e : j = i
      · rw [if_pos e, e]
      · rw [if_neg e]
        exact hs j (by omega)
  · intro k s _ ⟨hl2, hs⟩
    simp only [laws_toIntSS.l0]
    rw [if_neg (by omega), ext_getD (d := ([] : List Int)) hl2 hs]

theorem in_f (n a b : Int) : impl_in.f n a b = some (inB a b n) := by
  unfold impl_in.f inB
  by_cases h : n ≥ a
  · rw [if_pos h]; congr 1; simp; omega
  · rw [if_neg h, decide_eq_false (by omega)]

theorem contains_impl_bitsValid_1 {k : Nat} {l : List Int} (hk : l.length < k) (hm : l.length ≤ 35184372088832) : slices_ContainsFunc_int_int_impl_bitsValid_1.f k l = some (l.any fun x => !(inB 0 1 x)) := by
  unfold slices_ContainsFunc_int_int_impl_bitsValid_1.f slices_IndexFunc_int_int_impl_bitsValid_1.f
  obtain ⟨r, h1, h2⟩ := run_find (fun k i => slices_IndexFunc_int_int_impl_bitsValid_1.l0 k l (l.length : Int) (i : Int)) l 0 (fun x => !(inB 0 1 x)) (by
    intro k i hi
    simp only [slices_IndexFunc_int_int_impl_bitsValid_1.l0]
    rw [if_pos (by omega), if_pos (by omega), if_pos (by omega), rd_nat, wrap_id (by omega) (by omega)]
    unfold impl_bitsValid_1.f
    rw [in_f]
    rfl) (by
    intro k
    simp only [slices_IndexFunc_int_int_impl_bitsValid_1.l0]
    rw [if_neg (by omega)]) k hk
  have h1' : slices_IndexFunc_int_int_impl_bitsValid_1.l0 k l (l.length : Int) 0 = some r := h1
  rw [h1', Option.bind_some, h2]

theorem impl_bitsValid_f {k : Nat} {l : List Int} (hk : l.length < k) (hm : l.length ≤ 35184372088832) : impl_bitsValid.f k l = some (l.all (inB 0 1)) := by
  unfold impl_bitsValid.f
  rw [contains_impl_bitsValid_1 hk hm]
  simp only [Option.bind_some]
  have e : l.all (inB 0 1) = !(l.any fun x => !(inB 0 1 x)) := by simp [List.any_eq_not_all_not]
  rw [e]

theorem letterOk_f {k : Nat} {n : Int} {c : List Int} (hk : c.length < k) (hm : c.length ≤ 1048576) : impl_letterOk.f k c n = some (letOK n c) := by
  unfold impl_letterOk.f letOK
  by_cases h : (c.length : Int) = n
  · rw [if_pos h, impl_bitsValid_f hk (by omega), decide_eq_true h, Bool.true_and]
    rfl
  · rw [if_neg h, decide_eq_false h]
    rfl

theorem eqIntS_f {k : Nat} {a b : List Int} (hk : a.length < k) (hm : a.length ≤ 35184372088832) : laws_eqIntS.f k a b = some (decide (a = b)) := by
  unfold laws_eqIntS.f
  by_cases hab : a.length = b.length
  · rw [if_pos (by omega)]
    refine run_inv (fun k (_ : Unit) i => laws_eqIntS.l0 k a b (i : Int)) a.length (fun i _ => ∀ j, j < i → a.getD j 0 = b.getD j 0) _ ?_ ?_ k 0 () (Nat.zero_le _) (by omega) (fun j hj => absurd hj (Nat.not_lt_zero j))
    · intro k i _ hi hs
      by_cases e : a.getD i 0 = b.getD i 0
      · refine Or.inr ⟨(), ?_, fun j hj => ?_⟩
        · simp only [laws_eqIntS.l0]
          rw [if_pos (by omega), if_pos (by omega), if_pos (by omega), rd_nat, rd_nat, if_pos e, wrap_id (by omega) (by omega)]
          rfl
        · by_cases e2 : j = i
          · rw [e2]; exact e
          · exact hs j (by omega)
      · refine Or.inl ?_
        simp only [laws_eqIntS.l0]
        rw [if_pos (by omega), if_pos (by omega), if_pos (by omega), rd_nat, rd_nat, if_neg e, decide_eq_false (fun h => e (by rw [h]))]
    · intro k _ hs
      simp only [laws_eqIntS.l0]
      rw [if_neg (by omega), decide_eq_true (ext_getD hab (fun j hj => hs j (by omega)))]
  · rw [if_neg (by omega), decide_eq_false (fun h => hab (by rw [h]))]

theorem eqIntSS_f {k : Nat} {l : List (List Int)} (hk : 2100000 < k) (hl : l.length ≤ 1048576) (hx : ∀ x ∈ l, x.length ≤ 1048576) : laws_eqIntSS.f k l l = some true := by
  unfold laws_eqIntSS.f
  rw [if_pos rfl]
  refine run_invB 1048577 (fun k (_ : Unit) i => laws_eqIntSS.l0 k l l (i : Int)) l.length (fun _ _ => True) _ ?_ ?_ k 0 () (Nat.zero_le _) (by omega) trivial
  · intro k i _ hB hi _
    have hlen := hx _ (getD_mem l i [] hi)
    refine Or.inr ⟨(), ?_, trivial⟩
    simp only [laws_eqIntSS.l0]
    rw [if_pos (by omega), if_pos (by omega), if_pos (by omega), rdL_nat, eqIntS_f (by omega) (by omega), wrap_id (by omega) (by omega)]
    simp
  · intro k _ _ _
    simp only [laws_eqIntSS.l0]
    rw [if_neg (by omega)]

def wordOK (s l : List (List Int)) (n : Int) : Bool := inB 0 4 n && (decide ((l.length : Int) > 0) && (decide (wrap64 ((s.length : Int) + (l.length : Int)) ≤ 60) && (s.all (letOK n) && l.all (letOK n))))
theorem spec_word {k : Nat} {n : Int} {s l : List (List Int)} (hk : 2100000 < k) (hs : s.length ≤ 1048576) (hsx : ∀ x ∈ s, x.length ≤ 1048576) (hl : l.length ≤ 1048576) (hlx : ∀ x ∈ l, x.length ≤ 1048576) : spec_WordValid.f k s l n = some (wordOK s l n) := by
  unfold spec_WordValid.f wordOK
  rw [l1In_f, l20Letters_f hk hs hsx, l20Letters_f hk hl hlx]
  simp only [Option.bind_some, inB]
  by_cases h1 : 0 ≤ n ∧ n ≤ 4 <;> by_cases h2 : (l.length : Int) > 0 <;> by_cases h3 : wrap64 ((s.length : Int) + (l.length : Int)) ≤ 60 <;> cases h4 : s.all (letOK n) <;> cases h5 : l.all (letOK n) <;> simp only [h1, h2, h3, decide_true, decide_false, if_true, if_false, Bool.true_and, Bool.false_and, and_self] <;> rfl
theorem impl_word {k : Nat} {n : Int} {s l : List (List Int)} (hk : 2100000 < k) (hsx : ∀ x ∈ s, x.length ≤ 1048576) (hlx : ∀ x ∈ l, x.length ≤ 1048576) : impl_WordValid.f k s l n = some (wordOK s l n) := by
  unfold impl_WordValid.f wordOK
  have e1 : allO (fun c => impl_letterOk.f k c n) s = some (s.all (letOK n)) := allO_of (fun x h => letterOk_f (by have := hsx x h; omega) (hsx x h))
  have e2 : allO (fun c => impl_letterOk.f k c n) l = some (l.all (letOK n)) := allO_of (fun x h => letterOk_f (by have := hlx x h; omega) (hlx x h))
  rw [in_f, e1, e2]
  simp only [Option.bind_some, inB]
  by_cases h1 : 0 ≤ n ∧ n ≤ 4 <;> by_cases h2 : (l.length : Int) > 0 <;> by_cases h3 : wrap64 ((s.length : Int) + (l.length : Int)) ≤ 60 <;> cases h4 : s.all (letOK n) <;> cases h5 : l.all (letOK n) <;> simp only [h1, h2, h3, decide_true, decide_false, if_true, if_false, Bool.true_and, Bool.false_and, and_self] <;> rfl
theorem FnExactWordValid : laws_FnExactWordValid.Pure := by
  intro s l n hs hsx hl hlx hn
  refine ⟨2200000, ?_⟩
  unfold laws_FnExactWordValid.f
  obtain ⟨r, hr, hr1⟩ := szIntSS_f (k := 2200000) (l := s) (a := 1048576) (by omega) (by omega) (by omega) hs (fun x h => (hsx x h).1)
  rw [hr]
  simp only [Option.bind_some]
  by_cases h : r < 0
  · rw [if_pos h]
  · have hr2 := hr1 (by omega)
    have h1 : s.length ≤ 1048576 := by omega
    have h2 : ∀ x ∈ s, x.length ≤ 1048576 := fun x hx => by have := total_mem hx; omega
    obtain ⟨q, hq, hq1⟩ := szIntSS_f (k := 2200000) (l := l) (a := r) (by omega) (by omega) (by omega) hl (fun x h => (hlx x h).1)
    rw [if_neg h, hq]
    simp only [Option.bind_some]
    by_cases h' : q < 0
    · rw [if_pos h']
    · have hq2 := hq1 (by omega)
      have h3 : l.length ≤ 1048576 := by omega
      have h4 : ∀ x ∈ l, x.length ≤ 1048576 := fun x hx => by have := total_mem hx; omega
      rw [if_neg h', toIntSS_f (by omega) h1 h2, toIntSS_f (by omega) h3 h4]
      simp only [Option.bind_some]
      rw [spec_word (by omega) h1 h2 h3 h4, impl_word (by omega) h2 h4]
      simp only [Option.bind_some]
      rw [eqIntSS_f (by omega) h1 h2, eqIntSS_f (by omega) h3 h4]
      simp

end Go.Proofs.Ythcegdgffdppgac.Pure
