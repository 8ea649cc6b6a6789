/- The law on SharedAtoms holds for all arguments: the program's list is the reference's, in memory of its own, and the argument stays as it was.
Conditions: none. -/
import Derived.Test.YthcegdgffdppgacXFnExactSharedAtomsx6
import Derived.Test.YthcegdgffdppgacXLib2
namespace Go.Proofs.Ythcegdgffdppgac.Pure
open Go.RowKit Go.Proofs.Ythcegdgffdppgac.XFnExactSharedAtoms Go.Proofs.YthcegdgffdppgacW.PrintWords Go.Proofs.YthcegdgffdppgacW.PrintLast Go.Proofs.YthcegdgffdppgacW.PrintMore Go.Proofs.YthcegdgffdppgacX
set_option linter.unusedVariables false
set_option linter.unusedSimpArgs false

theorem rdL_nat (xs : List (List Int)) (i : Nat) : rd_L1 xs (i : Int) = xs.getD i [] := by
  unfold rd_L1
  simp

/-- How many numbers all rows hold. -/
def total (l : List (List Int)) : Nat := (l.map List.length).sum
theorem total_take (l : List (List Int)) (i : Nat) (h : i < l.length) : total (l.take (i + 1)) = total (l.take i) + (l.getD i []).length := by
  unfold total
  rw [take_succ_getD l i [] h, List.map_append, List.sum_append]
  simp
theorem total_le (l : List (List Int)) (i : Nat) : total (l.take i) ≤ total l := by
  have h : total l = total (l.take i) + total (l.drop i) := by
    unfold total
    rw [← List.sum_append, ← List.map_append, List.take_append_drop]
  omega
theorem total_mem {l : List (List Int)} {x : List Int} (h : x ∈ l) : x.length ≤ total l := by
  unfold total
  induction l with
  | nil => cases h
  | cons y l ih =>
    simp only [List.map_cons, List.sum_cons]
    rcases List.mem_cons.1 h with rfl | h
    · omega
    · have := ih h
      omega

theorem szIntS_f {l : List Int} {a : Int} (h0 : 0 ≤ a) (h1 : a ≤ 1048576) (hl : l.length ≤ 9223372036854775807) : laws_szIntS.f l a = some (if a - (l.length : Int) < 0 then -1 else a - (l.length : Int)) := by
  unfold laws_szIntS.f
  rw [wrap_id (by omega) (by omega)]
  by_cases h : a - (l.length : Int) < 0
  · rw [if_pos h, if_pos h]
  · rw [if_neg h, if_neg h]
theorem szIntSS_f {k : Nat} {l : List (List Int)} {a : Int} (hk : 1048577 < k) (h0 : 0 ≤ a) (h1 : a ≤ 1048576) (hl : l.length ≤ 9223372036854775807) (hx : ∀ x ∈ l, x.length ≤ 9223372036854775807) :
    ∃ r, laws_szIntSS.f k l a = some r ∧ (0 ≤ r → r = a - (l.length : Int) - (total l : Int)) := by
  unfold laws_szIntSS.f
  rw [wrap_id (by omega) (by omega)]
  by_cases h : a - (l.length : Int) < 0
  · exact ⟨-1, by rw [if_pos h], fun g => absurd g (by omega)⟩
  · rw [if_neg h]
    refine ⟨if a - (l.length : Int) - (total l : Int) < 0 then -1 else a - (l.length : Int) - (total l : Int), ?_, ?_⟩
    · refine run_inv (fun k (s : Int) i => laws_szIntSS.l0 k l s (i : Int)) l.length (fun i s => s = a - (l.length : Int) - (total (l.take i) : Int) ∧ 0 ≤ s) _ ?_ ?_ k 0 _ (Nat.zero_le _) (by omega) ⟨by simp [total], by omega⟩
      · rintro k i s hi ⟨rfl, hs⟩
        have ht := total_take l i hi
        have hle := total_le l (i + 1)
        have hlen := hx _ (getD_mem l i [] hi)
        simp only [laws_szIntSS.l0]
        rw [if_pos (by omega), if_pos (by omega), rdL_nat, szIntS_f hs (by omega) hlen, wrap_id (x := (i : Int) + 1) (by omega) (by omega)]
        simp only [Option.bind_some]
        by_cases hneg : a - (l.length : Int) - (total (l.take i) : Int) - ((l.getD i []).length : Int) < 0
        · refine Or.inl ?_
          rw [if_pos (show (if a - (l.length : Int) - (total (l.take i) : Int) - ((l.getD i []).length : Int) < 0 then (-1 : Int) else _) < 0 by rw [if_pos hneg]; omega), if_pos (by omega)]
        · refine Or.inr ⟨a - (l.length : Int) - (total (l.take i) : Int) - ((l.getD i []).length : Int), ?_, ?_⟩
          · simp only [if_neg hneg]
            rfl
          · rw [ht]
            exact ⟨by simp only [Int.natCast_add]; omega, by omega⟩
      · rintro k s ⟨rfl, hs⟩
        simp only [laws_szIntSS.l0]
        rw [if_neg (by omega)]
        rw [List.take_length] at hs ⊢
        rw [if_neg (by omega)]
    · intro g
      by_cases hneg : a - (l.length : Int) - (total l : Int) < 0
      · rw [if_pos hneg] at g
        omega
      · rw [if_neg hneg]

theorem szClauses_f {k : Nat} {b : Int} {l : List (List Int)} {a : Int} (hk : 1048577 < k) (h0 : 0 ≤ a) (h1 : a ≤ 1048576) (hl : l.length ≤ 9223372036854775807) (hx : ∀ x ∈ l, x.length ≤ 9223372036854775807) :
    ∃ r, laws_szClauses.f k b l a = some r ∧ (0 ≤ r → r = a - (l.length : Int) - (total l : Int)) := by
  obtain ⟨r, hr, hs⟩ := szIntSS_f (k := k) (l := l) (a := a) hk h0 h1 hl hx
  unfold laws_szClauses.f
  rw [hr]
  simp only [Option.bind_some]
  by_cases h : r < 0
  · exact ⟨-1, by rw [if_pos h], fun h => absurd h (by decide)⟩
  · exact ⟨r, by rw [if_neg h], hs⟩

theorem toIntS_f {k : Nat} {l : List Int} (hk : l.length < k) (hm : l.length ≤ 35184372088832) : laws_toIntS.f k l = some l := by
  unfold laws_toIntS.f
  rw [if_pos (by omega), if_pos (by omega)]
  refine run_inv (fun k (s : List Int) i => laws_toIntS.l0 k l s (i : Int)) l.length (fun i s => s.length = l.length ∧ ∀ j, j < i → s.getD j 0 = l.getD j 0) l ?_ ?_ k 0 _ (Nat.zero_le _) (by omega) ⟨by simp, fun j hj => absurd hj (Nat.not_lt_zero j)⟩
  · intro k i s hi ⟨hl, hs⟩
    refine Or.inr ⟨s.set i (l.getD i 0), ?_, by simpa using hl, fun j hj => ?_⟩
    · simp only [laws_toIntS.l0]
      rw [if_pos (by omega), if_pos (by omega), if_pos (by omega), wrap_id (by omega) (by omega), rd_nat]
      rfl
    · rw [getD_set _ _ _ _ _ (by omega)]
      by_cases e : j = i
      · rw [if_pos e, e]
      · rw [if_neg e]
        exact hs j (by omega)
  · intro k s ⟨hl, hs⟩
    simp only [laws_toIntS.l0]
    rw [if_neg (by omega), ext_getD hl hs]

theorem toIntSS_f {k : Nat} {l : List (List Int)} (hk : 2100000 < k) (hl : l.length ≤ 1048576) (hx : ∀ x ∈ l, x.length ≤ 1048576) : laws_toIntSS.f k l = some l := by
  unfold laws_toIntSS.f
  rw [if_pos (by omega), if_pos (by omega)]
  refine run_invB 1048577 (fun k (s : List (List Int)) i => laws_toIntSS.l0 k l s (i : Int)) l.length (fun i s => s.length = l.length ∧ ∀ j, j < i → s.getD j [] = l.getD j []) _ ?_ ?_ k 0 _ (Nat.zero_le _) (by omega) ⟨by simp, fun j hj => absurd hj (Nat.not_lt_zero j)⟩
  · intro k i s hB hi ⟨hl2, hs⟩
    have hlen := hx _ (getD_mem l i [] hi)
    refine Or.inr ⟨s.set i (l.getD i []), ?_, by simpa using hl2, fun j hj => ?_⟩
    · simp only [laws_toIntSS.l0]
      rw [if_pos (by omega), if_pos (by omega), rdL_nat, toIntS_f (by omega) (by omega)]
      simp only [Option.bind_some]
      rw [if_pos (by omega), wrap_id (by omega) (by omega)]
      rfl
    · rw [getD_set _ _ _ _ _ (by omega)]
      by_cases e : j = i
      · rw [if_pos e, e]
      · rw [if_neg e]
        exact hs j (by omega)
  · intro k s _ ⟨hl2, hs⟩
    simp only [laws_toIntSS.l0]
    rw [if_neg (by omega), ext_getD (d := ([] : List Int)) hl2 hs]

theorem toClauses_f {k : Nat} {a : Int} {l : List (List Int)} (hk : 2100000 < k) (hl : l.length ≤ 1048576) (hx : ∀ x ∈ l, x.length ≤ 1048576) : laws_toClauses.f k a l = some (a, l) := by
  unfold laws_toClauses.f
  rw [toIntSS_f hk hl hx]
  rfl

theorem eqIntS_f {k : Nat} {a b : List Int} (hk : a.length < k) (hm : a.length ≤ 35184372088832) : laws_eqIntS.f k a b = some (decide (a = b)) := by
  unfold laws_eqIntS.f
  by_cases hab : a.length = b.length
  · rw [if_pos (by omega)]
    refine run_inv (fun k (_ : Unit) i => laws_eqIntS.l0 k a b (i : Int)) a.length (fun i _ => ∀ j, j < i → a.getD j 0 = b.getD j 0) _ ?_ ?_ k 0 () (Nat.zero_le _) (by omega) (fun j hj => absurd hj (Nat.not_lt_zero j))
    · intro k i _ hi hs
      by_cases e : a.getD i 0 = b.getD i 0
      · refine Or.inr ⟨(), ?_, fun j hj => ?_⟩
        · simp only [laws_eqIntS.l0]
          rw [if_pos (by omega), if_pos (by omega), if_pos (by omega), rd_nat, rd_nat, if_pos e, wrap_id (by omega) (by omega)]
          rfl
        · by_cases e2 : j = i
          · rw [e2]; exact e
          · exact hs j (by omega)
      · refine Or.inl ?_
        simp only [laws_eqIntS.l0]
        rw [if_pos (by omega), if_pos (by omega), if_pos (by omega), rd_nat, rd_nat, if_neg e, decide_eq_false (fun h => e (by rw [h]))]
    · intro k _ hs
      simp only [laws_eqIntS.l0]
      rw [if_neg (by omega), decide_eq_true (ext_getD hab (fun j hj => hs j (by omega)))]
  · rw [if_neg (by omega), decide_eq_false (fun h => hab (by rw [h]))]

theorem eqIntSS_f {k : Nat} {l : List (List Int)} (hk : 2100000 < k) (hl : l.length ≤ 1048576) (hx : ∀ x ∈ l, x.length ≤ 1048576) : laws_eqIntSS.f k l l = some true := by
  unfold laws_eqIntSS.f
  rw [if_pos rfl]
  refine run_invB 1048577 (fun k (_ : Unit) i => laws_eqIntSS.l0 k l l (i : Int)) l.length (fun _ _ => True) _ ?_ ?_ k 0 () (Nat.zero_le _) (by omega) trivial
  · intro k i _ hB hi _
    have hlen := hx _ (getD_mem l i [] hi)
    refine Or.inr ⟨(), ?_, trivial⟩
    simp only [laws_eqIntSS.l0]
    rw [if_pos (by omega), if_pos (by omega), if_pos (by omega), rdL_nat, eqIntS_f (by omega) (by omega), wrap_id (by omega) (by omega)]
    simp
  · intro k _ _ _
    simp only [laws_eqIntSS.l0]
    rw [if_neg (by omega)]

theorem eqClauses_f {k : Nat} {a : Int} {l : List (List Int)} (hk : 2100000 < k) (hl : l.length ≤ 1048576) (hx : ∀ x ∈ l, x.length ≤ 1048576) : laws_eqClauses.f k a l a l = some true := by
  unfold laws_eqClauses.f
  rw [if_pos rfl, eqIntSS_f hk hl hx]
  rfl

theorem l1In_f (n a b : Int) : spec_l1In.f n a b = some (inB a b n) := by
  unfold spec_l1In.f inB
  by_cases h : n ≥ a
  · rw [if_pos h]; congr 1; simp; omega
  · rw [if_neg h, decide_eq_false (by omega)]

def absW (x : Int) : Int := if x < 0 then wrap64 (-x) else x
def okC (l : List Int) (a : Int) (i : Nat) : Bool := inB (-a) a (l.getD i 0) && !decide (l.getD i 0 = 0) && (decide (i = 0) || decide (absW (l.getD (i - 1) 0) < absW (l.getD i 0)))
theorem l11Abs_f (x : Int) : spec_l11Abs.f x = some (absW x) := by
  unfold spec_l11Abs.f absW
  by_cases h : x < 0
  · rw [if_pos h, if_pos h]
  · rw [if_neg h, if_neg h]
/-- The reference's loop, whatever the number of atoms. -/
theorem spec_scan {k : Nat} {l : List Int} {a : Int} (hk : l.length < k) (hm : l.length ≤ 35184372088832) : ∃ b, spec_ClauseValid.f k l a = some (b && inB 0 700 a) ∧ (0 ≤ a ∧ a ≤ 700 → b = decide (∀ j, j < l.length → okC l a j = true)) := by
  by_cases ha : 0 ≤ a ∧ a ≤ 700
  · have hin : inB 0 700 a = true := decide_eq_true ha
    refine ⟨decide (∀ j, j < l.length → okC l a j = true), ?_, fun _ => rfl⟩
    unfold spec_ClauseValid.f
    refine (run_all (fun k i => spec_ClauseValid.l0 k l a (i : Int)) l.length (okC l a) true false ?_ ?_ k hk).trans ?_
    · intro k i hi
      simp only [spec_ClauseValid.l0]
      rw [if_pos (by omega), if_pos (by omega)]
      unfold spec_l11Lit.f
      simp only [rd_nat]
      unfold okC
      by_cases h0 : l.getD i 0 = 0
      · rw [if_pos h0, decide_eq_true h0]
        simp
      · rw [if_neg h0, l1In_f, wrap_id (x := -a) (by omega) (by omega), decide_eq_false h0]
        simp only [Option.bind_some, Bool.not_false, Bool.and_true]
        cases hb : inB (-a) a (l.getD i 0)
        · simp
        · simp only [if_true, Bool.true_and]
          by_cases hi0 : i = 0
          · subst hi0
            rw [if_neg (by omega), wrap_id (by omega) (by omega)]
            simp
          · have e1 : wrap64 ((i : Int) - 1) = ((i - 1 : Nat) : Int) := by rw [wrap_id (by omega) (by omega)]; omega
            rw [if_pos (show (i : Int) > 0 by omega), e1]
            simp only [rd_nat, l11Abs_f, Option.bind_some]
            rw [if_pos (show (0 : Int) ≤ ((i - 1 : Nat) : Int) by omega), if_pos (show ((i - 1 : Nat) : Int) < (l.length : Int) by omega), wrap_id (x := (i : Int) + 1) (by omega) (by omega)]
            by_cases hlt : absW (l.getD i 0) ≤ absW (l.getD (i - 1) 0)
            · rw [if_pos hlt, decide_eq_false hi0, decide_eq_false (by omega)]
              simp
            · rw [if_neg hlt, decide_eq_false hi0, decide_eq_true (show absW (l.getD (i - 1) 0) < absW (l.getD i 0) by omega)]
              simp
    · intro k
      simp only [spec_ClauseValid.l0]
      rw [if_neg (by omega), l1In_f, hin]
      rfl
    · by_cases h : ∀ j, j < l.length → okC l a j = true
      · rw [if_pos h, decide_eq_true h, hin]
        rfl
      · rw [if_neg h, decide_eq_false h, hin]
        rfl
  · have hin : inB 0 700 a = false := decide_eq_false ha
    refine ⟨true, ?_, fun h => absurd h ha⟩
    rw [hin]
    unfold spec_ClauseValid.f
    refine run_inv (fun k (_ : Unit) i => spec_ClauseValid.l0 k l a (i : Int)) l.length (fun _ _ => True) _ ?_ ?_ k 0 () (Nat.zero_le _) (by omega) trivial
    · intro k i _ hi _
      simp only [spec_ClauseValid.l0]
      rw [if_pos (by omega), if_pos (by omega), wrap_id (x := (i : Int) + 1) (by omega) (by omega)]
      unfold spec_l11Lit.f
      by_cases h0 : rd l (i : Int) = 0
      · rw [if_pos h0]
        exact Or.inl rfl
      · rw [if_neg h0, l1In_f]
        simp only [Option.bind_some]
        cases inB (wrap64 (-a)) a (rd l (i : Int))
        · exact Or.inl rfl
        · simp only [if_true]
          by_cases hi0 : i = 0
          · subst hi0
            rw [if_neg (by omega)]
            exact Or.inr ⟨(), rfl, trivial⟩
          · have e1 : wrap64 ((i : Int) - 1) = ((i - 1 : Nat) : Int) := by rw [wrap_id (by omega) (by omega)]; omega
            rw [if_pos (show (i : Int) > 0 by omega), e1]
            simp only [l11Abs_f, Option.bind_some]
            rw [if_pos (show (0 : Int) ≤ ((i - 1 : Nat) : Int) by omega), if_pos (show ((i - 1 : Nat) : Int) < (l.length : Int) by omega)]
            by_cases hlt : absW (rd l (i : Int)) ≤ absW (rd l ((i - 1 : Nat) : Int))
            · rw [if_pos hlt]
              exact Or.inl rfl
            · rw [if_neg hlt]
              exact Or.inr ⟨(), rfl, trivial⟩
    · intro k _ _
      simp only [spec_ClauseValid.l0]
      rw [if_neg (by omega), l1In_f, hin]
      rfl

def clOK (a : Int) (c : List Int) : Bool := decide (∀ j, j < c.length → okC c a j = true)
def clsOK (a : Int) (l : List (List Int)) : Bool := inB 0 700 a && (decide ((l.length : Int) ≤ 2500) && l.all (clOK a))
theorem spec_ClausesValid_f {k : Nat} {a : Int} {l : List (List Int)} (hk : 2100000 < k) (hl : l.length ≤ 1048576) (hx : ∀ x ∈ l, x.length ≤ 1048576) : spec_ClausesValid.f k a l = some (clsOK a l) := by
  unfold spec_ClausesValid.f clsOK
  obtain ⟨k, rfl⟩ : ∃ m, k = m + 1 := ⟨k - 1, by omega⟩
  rw [l1In_f]
  simp only [Option.bind_some, spec_ClausesValid.j0]
  by_cases ha : 0 ≤ a ∧ a ≤ 700
  · rw [show inB 0 700 a = true from decide_eq_true ha]
    simp only [if_true, Bool.true_and]
    by_cases h : (l.length : Int) > 2500
    · rw [if_pos (decide_eq_true h), decide_eq_false (by omega)]
      rfl
    · rw [if_neg (by simpa using h), decide_eq_true (show (l.length : Int) ≤ 2500 by omega), Bool.true_and]
      refine (run_allB 1048577 (fun k i => spec_ClausesValid.l0 k (i : Int) a l) l.length (fun i => clOK a (l.getD i [])) true false ?_ ?_ k (by omega)).trans ?_
      · intro k i hb hi
        have hm := hx _ (getD_mem l i [] hi)
        obtain ⟨b, h1, h2⟩ := spec_scan (k := k) (l := l.getD i []) (a := a) (by omega) (by omega)
        simp only [spec_ClausesValid.l0, rdL_nat]
        rw [if_pos (by omega), if_pos (by omega), h1, h2 ha, wrap_id (x := (i : Int) + 1) (by omega) (by omega)]
        simp only [Option.bind_some]
        rw [show inB 0 700 a = true from decide_eq_true ha, Bool.and_true]
        rfl
      · intro k _
        simp only [spec_ClausesValid.l0]
        rw [if_neg (by omega)]
      · have e := all_getD l [] (clOK a)
        by_cases h : ∀ j, j < l.length → clOK a (l.getD j []) = true
        · rw [if_pos h, e.1 h]
        · rw [if_neg h]
          cases hh : l.all (clOK a) with
          | false => rfl
          | true => exact absurd (e.2 hh) h
  · rw [show inB 0 700 a = false from decide_eq_false ha]
    rfl

theorem rdOf_nat {α : Type} (d : α) (xs : List α) (i : Nat) : rdOf d xs (i : Int) = xs.getD i d := by
  unfold rdOf
  simp

/-- The places below i at which a test holds. -/
def placesL (p : Nat → Bool) (i : Nat) : List Int := ((List.range i).filter p).map fun j : Nat => (j : Int)
theorem placesL_succ (p : Nat → Bool) (i : Nat) : placesL p (i + 1) = if p i = true then placesL p i ++ [(i : Int)] else placesL p i := by
  unfold placesL
  rw [List.range_succ, List.filter_append, List.map_append]
  cases h : p i <;> simp [h]
theorem placesL_length (p : Nat → Bool) (i : Nat) : (placesL p i).length ≤ i := by
  unfold placesL
  rw [List.length_map]
  exact Nat.le_trans (List.length_filter_le _ _) (by simp)
theorem placesL_congr {p q : Nat → Bool} {i : Nat} (h : ∀ j, j < i → p j = q j) : placesL p i = placesL q i := by
  unfold placesL
  rw [List.filter_congr (fun j hj => h j (List.mem_range.1 hj))]

theorem l4List_f {k : Nat} {l : List Bool} (hk : l.length < k) (hm : l.length ≤ 1000000) : spec_l4List.f k l = some (placesL (fun j => l.getD j false) l.length) := by
  unfold spec_l4List.f
  refine run_inv (fun k (s : List Int) i => spec_l4List.l0 k l s (i : Int)) l.length (fun i s => s = placesL (fun j => l.getD j false) i) _ ?_ ?_ k 0 _ (Nat.zero_le _) (by omega) rfl
  · rintro k i s hi rfl
    have hl := placesL_length (fun j => l.getD j false) i
    refine Or.inr ⟨_, ?_, (placesL_succ _ i).symm⟩
    simp only [spec_l4List.l0]
    rw [if_pos (by omega), if_pos (by omega), wrap_id (x := (i : Int) + 1) (by omega) (by omega)]
    simp only [rdOf_nat]
    cases l.getD i false
    · rfl
    · simp only [if_true]
      rw [if_pos (by omega)]
      rfl
  · rintro k s rfl
    simp only [spec_l4List.l0]
    rw [if_neg (by omega)]

theorem l2Has_f {k : Nat} {l : List Int} {n : Int} (hk : l.length < k) (hm : l.length ≤ 35184372088832) : spec_l2Has.f k l n = some (decide (n ∈ l)) := by
  unfold spec_l2Has.f
  refine (run_all (fun k i => spec_l2Has.l0 k l n (i : Int)) l.length (fun i => !decide (l.getD i 0 = n)) false true ?_ ?_ k hk).trans ?_
  · intro k i hi
    simp only [spec_l2Has.l0]
    rw [if_pos (by omega), if_pos (by omega), rd_nat, wrap_id (by omega) (by omega)]
    by_cases e : l.getD i 0 = n
    · rw [if_pos e, decide_eq_true e]
      rfl
    · rw [if_neg e, decide_eq_false e]
      rfl
  · intro k
    simp only [spec_l2Has.l0]
    rw [if_neg (by omega)]
  · by_cases h : n ∈ l
    · obtain ⟨j, hj, e⟩ := mem_getD 0 h
      rw [decide_eq_true h, if_neg (fun g => by have := g j hj; rw [decide_eq_true e] at this; cases this)]
    · rw [decide_eq_false h, if_pos (fun j hj => by rw [decide_eq_false (fun e => h (by rw [← e]; exact getD_mem l j 0 hj))]; rfl)]

theorem in_f (n a b : Int) : impl_in.f n a b = some (inB a b n) := by
  unfold impl_in.f inB
  by_cases h : n ≥ a
  · rw [if_pos h]; congr 1; simp; omega
  · rw [if_neg h, decide_eq_false (by omega)]
theorem atomOf_f {x : Int} (hx : (Lit.int .i64 x).wf = true) : impl_atomOf.f x = some (absW x) := by
  have hx := wf_iff.1 hx
  unfold impl_atomOf.f absW
  by_cases e : x = -9223372036854775808
  · have ew : wrap64 (-x) = -9223372036854775808 := by rw [e]; unfold wrap64; omega
    rw [ew, mx_eq, if_pos (by omega)]
    congr 1
    omega
  · rw [wrap_id (by omega) (by omega), mx_eq]
    by_cases h : x < 0
    · rw [if_pos h]; congr 1; omega
    · rw [if_neg h]; congr 1; omega
theorem impl_scan {k : Nat} {l : List Int} {a : Int} (hw : ∀ x ∈ l, (Lit.int .i64 x).wf = true) (hk : l.length < k) (hm : l.length ≤ 35184372088832) : impl_ClauseValid.f k l a = some (inB 0 700 a && decide (∀ j, j < l.length → okC l a j = true)) := by
  unfold impl_ClauseValid.f
  rw [in_f]
  simp only [Option.bind_some]
  by_cases ha : 0 ≤ a ∧ a ≤ 700
  · have hin : inB 0 700 a = true := decide_eq_true ha
    rw [hin]
    simp only [if_true, Bool.true_and]
    refine (run_all (fun k i => impl_ClauseValid.l0 k l a l (l.length : Int) (i : Int)) l.length (okC l a) true false ?_ ?_ k hk).trans ?_
    · intro k i hi
      simp only [impl_ClauseValid.l0]
      rw [if_pos (by omega), if_pos (by omega), if_pos (by omega), in_f, wrap_id (x := -a) (by omega) (by omega), wrap_id (x := (i : Int) + 1) (by omega) (by omega)]
      simp only [rd_nat, Option.bind_some]
      unfold okC
      cases hb : inB (-a) a (l.getD i 0)
      · simp
      · have hr := of_decide_eq_true hb
        simp only [if_true, Bool.true_and]
        by_cases h0 : l.getD i 0 = 0
        · rw [if_pos h0, decide_eq_true h0]
          simp
        · rw [if_neg h0, decide_eq_false h0]
          simp only [Bool.not_false, Bool.true_and]
          by_cases hi0 : i = 0
          · subst hi0
            rw [if_neg (by omega)]
            simp
          · have e1 : wrap64 ((i : Int) - 1) = ((i - 1 : Nat) : Int) := by rw [wrap_id (by omega) (by omega)]; omega
            rw [if_pos (show (i : Int) > 0 by omega), e1]
            rw [if_pos (show (0 : Int) ≤ ((i - 1 : Nat) : Int) by omega), if_pos (show ((i - 1 : Nat) : Int) < (l.length : Int) by omega)]
            simp only [rd_nat]
            rw [atomOf_f (hw _ (getD_mem l (i - 1) 0 (by omega))), atomOf_f (hw _ (getD_mem l i 0 hi))]
            simp only [Option.bind_some]
            by_cases hlt : absW (l.getD (i - 1) 0) ≥ absW (l.getD i 0)
            · rw [if_pos hlt, decide_eq_false hi0, decide_eq_false (by omega)]
              simp
            · rw [if_neg hlt, decide_eq_false hi0, decide_eq_true (show absW (l.getD (i - 1) 0) < absW (l.getD i 0) by omega)]
              simp
    · intro k
      simp only [impl_ClauseValid.l0]
      rw [if_neg (by omega)]
    · by_cases h : ∀ j, j < l.length → okC l a j = true
      · rw [if_pos h, decide_eq_true h]
      · rw [if_neg h, decide_eq_false h]
  · have hin : inB 0 700 a = false := decide_eq_false ha
    rw [hin]
    rfl


theorem impl_ClausesValid_f {k : Nat} {a : Int} {l : List (List Int)} (hk : 2100000 < k) (hx : ∀ x ∈ l, x.length ≤ 1048576) (hw : ∀ x ∈ l, ∀ y ∈ x, (Lit.int .i64 y).wf = true) : impl_ClausesValid.f k a l = some (clsOK a l) := by
  unfold impl_ClausesValid.f clsOK
  rw [in_f]
  simp only [Option.bind_some]
  by_cases ha : 0 ≤ a ∧ a ≤ 700
  · rw [show inB 0 700 a = true from decide_eq_true ha]
    simp only [if_true, Bool.true_and]
    by_cases h : (l.length : Int) ≤ 2500
    · rw [if_pos h, decide_eq_true h, Bool.true_and]
      refine allO_of (fun x hx' => ?_)
      have hm := hx x hx'
      rw [impl_scan (hw x hx') (by omega) (by omega), show inB 0 700 a = true from decide_eq_true ha, Bool.true_and]
      rfl
    · rw [if_neg h, decide_eq_false h]
      rfl
  · rw [show inB 0 700 a = false from decide_eq_false ha]
    rfl

theorem clone_int_f {l : List Int} (h : l.length ≤ 35184372088832) : impl_clone_int.f l = some l := by
  unfold impl_clone_int.f
  rw [if_pos h]

theorem listOf_f {k : Nat} {l : List Bool} (hk : l.length < k) (hm : l.length ≤ 1000000) : impl_listOf.f k l = some (placesL (fun j => l.getD j false) l.length) := by
  unfold impl_listOf.f
  refine run_inv (fun k (s : List Int) i => impl_listOf.l0 k s l (l.length : Int) (i : Int)) l.length (fun i s => s = placesL (fun j => l.getD j false) i) _ ?_ ?_ k 0 _ (Nat.zero_le _) (by omega) rfl
  · rintro k i s hi rfl
    have hl := placesL_length (fun j => l.getD j false) i
    refine Or.inr ⟨_, ?_, (placesL_succ _ i).symm⟩
    simp only [impl_listOf.l0]
    rw [if_pos (by omega), if_pos (by omega), if_pos (by omega), wrap_id (x := (i : Int) + 1) (by omega) (by omega)]
    simp only [rdOf_nat]
    cases l.getD i false
    · rfl
    · simp only [if_true]
      rw [if_pos (by omega)]
      rfl
  · rintro k s rfl
    have hl := placesL_length (fun j => l.getD j false) l.length
    simp only [impl_listOf.l0]
    rw [if_neg (by omega), clone_int_f (by omega)]
    rfl

theorem markIntS_f {k : Nat} {l : List Int} {a : Int} (hk : l.length < k) (hm : l.length ≤ 35184372088832) (h0 : 0 ≤ a) (h1 : a ≤ 1000000000000000000) : laws_markIntS.f k l a = some (a + l.length, marks a l.length) := by
  unfold laws_markIntS.f
  refine (?_ : laws_markIntS.l0 k l a ((0 : Nat) : Int) = _)
  refine run_inv (fun k (s : List Int × Int) i => laws_markIntS.l0 k s.1 s.2 (i : Int)) l.length (fun i s => s.1.length = l.length ∧ s.2 = a + (i : Int) ∧ ∀ j, j < i → s.1.getD j 0 = a + (j : Int)) _ ?_ ?_ k 0 (l, a) (Nat.zero_le _) (by omega) ⟨rfl, by simp, fun j hj => absurd hj (Nat.not_lt_zero j)⟩
  · rintro k i ⟨s, c⟩ hi ⟨hl, hc, hs⟩
    simp only at hl hc hs
    subst hc
    refine Or.inr ⟨(s.set i (a + (i : Int)), a + (i : Int) + 1), ?_, by simpa using hl, by simp only [Int.natCast_add]; omega, fun j hj => ?_⟩
    · simp only [laws_markIntS.l0]
      rw [if_pos (by omega), if_pos (by omega), wrap_id (x := a + (i : Int) + 1) (by omega) (by omega), wrap_id (by omega) (by omega)]
      rfl
    · simp only
      rw [getD_set _ _ _ _ _ (by omega)]
      by_cases e : j = i
      · rw [if_pos e, e]
      · rw [if_neg e]
        exact hs j (by omega)
  · rintro k ⟨s, c⟩ ⟨hl, hc, hs⟩
    simp only at hl hc hs
    subst hc
    simp only [laws_markIntS.l0]
    rw [if_neg (by omega), ext_getD (d := 0) (s := s) (l := marks a l.length) (by rw [marks_length]; exact hl) (fun j hj => by rw [marks_length] at hj; rw [marks_getD _ _ _ hj]; exact hs j hj)]

theorem heldIntS_f {k : Nat} {n : Nat} {a : Int} (hk : n < k) (hm : n ≤ 35184372088832) (h0 : 0 ≤ a) (h1 : a ≤ 1000000000000000000) : laws_heldIntS.f k (marks a n) a = some (a + (n : Int)) := by
  unfold laws_heldIntS.f
  refine (?_ : laws_heldIntS.l0 k (marks a n) a ((0 : Nat) : Int) = _)
  have hlen := marks_length a n
  refine run_inv (fun k (s : Int) i => laws_heldIntS.l0 k (marks a n) s (i : Int)) n (fun i s => s = a + (i : Int)) _ ?_ ?_ k 0 a (Nat.zero_le _) (by omega) (by simp)
  · rintro k i s hi rfl
    refine Or.inr ⟨a + (i : Int) + 1, ?_, by simp only [Int.natCast_add]; omega⟩
    simp only [laws_heldIntS.l0]
    rw [if_pos (by omega), if_pos (by omega), rd_nat, marks_getD _ _ _ hi, if_pos rfl, wrap_id (x := a + (i : Int) + 1) (by omega) (by omega), wrap_id (by omega) (by omega)]
    rfl
  · rintro k s rfl
    simp only [laws_heldIntS.l0]
    rw [if_neg (by omega)]

def absN (x : Int) : Nat := x.natAbs
theorem absW_nat {x a : Int} (h : inB (-a) a x = true) (ha : a ≤ 700) : absW x = ((x.natAbs : Nat) : Int) ∧ x.natAbs ≤ a.toNat := by
  have h : -a ≤ x ∧ x ≤ a := of_decide_eq_true h
  unfold absW
  by_cases hx : x < 0
  · rw [if_pos hx, wrap_id (by omega) (by omega)]
    omega
  · rw [if_neg hx]
    omega
def setA (s : List Bool) (c : List Int) : List Bool := c.foldl (fun s x => s.set x.natAbs true) s
def setM (s : List Bool) (m : List (List Int)) : List Bool := m.foldl setA s
theorem setA_length (c : List Int) : ∀ s, (setA s c).length = s.length := by
  induction c with
  | nil => intro s; rfl
  | cons x c ih => intro s; exact (ih _).trans (by simp)
theorem setM_length (m : List (List Int)) : ∀ s, (setM s m).length = s.length := by
  induction m with
  | nil => intro s; rfl
  | cons x c ih => intro s; exact (ih _).trans (setA_length _ _)
theorem clOK_at {a : Int} {c : List Int} (h : clOK a c = true) (i : Nat) (hi : i < c.length) : inB (-a) a (c.getD i 0) = true := by
  have h1 := of_decide_eq_true h i hi
  unfold okC at h1
  exact (Bool.and_eq_true_iff.1 (Bool.and_eq_true_iff.1 h1).1).1
theorem drop_getD {α : Type} (l : List α) (i : Nat) (d : α) (h : i < l.length) : l.drop i = l.getD i d :: l.drop (i + 1) := by
  rw [List.drop_eq_getElem_cons h, List.getD_eq_getElem?_getD, List.getElem?_eq_getElem h]
  rfl
theorem impl_row {a : Int} (ha : a ≤ 700) {c : List Int} (hc : clOK a c = true) (hl : c.length ≤ 1048576) (hw : ∀ y ∈ c, (Lit.int .i64 y).wf = true) (M : List (List Int)) (n j : Int) : ∀ d i k s, i + d = c.length → d < k → s.length = a.toNat + 1 → impl_atomsIn.l1 k s M n j c (c.length : Int) (i : Int) = impl_atomsIn.l0 (k - d - 1) (setA s (c.drop i)) M n (wrap64 (j + 1)) := by
  intro d
  induction d with
  | zero =>
    intro i k s hi hk hs
    obtain ⟨k, rfl⟩ : ∃ m, k = m + 1 := ⟨k - 1, by omega⟩
    simp only [impl_atomsIn.l1]
    rw [if_neg (by omega), List.drop_of_length_le (by omega)]
    rfl
  | succ d ih =>
    intro i k s hi hk hs
    obtain ⟨k, rfl⟩ : ∃ m, k = m + 1 := ⟨k - 1, by omega⟩
    have e1 : wrap64 ((i : Int) + 1) = ((i + 1 : Nat) : Int) := by rw [wrap_id (by omega) (by omega)]; omega
    have hx := absW_nat (clOK_at hc i (by omega)) ha
    have hm := hw _ (getD_mem c i 0 (by omega))
    have er : rd c (i : Int) = c.getD i 0 := by simp [rd]
    simp only [impl_atomsIn.l1, e1, er]
    rw [if_pos (by omega), if_pos (by omega), if_pos (by omega), atomOf_f hm, hx.1]
    simp only [Option.bind_some]
    rw [if_pos (by omega), if_pos (by omega), ih (i + 1) k _ (by omega) (by omega) (by simp [hs]), drop_getD c i 0 (by omega)]
    simp only [Int.toNat_natCast]
    rw [show k - d - 1 = k + 1 - (d + 1) - 1 by omega]
    rfl
theorem atomsIn_f {a : Int} (h0 : 0 ≤ a) (ha : a ≤ 700) {M : List (List Int)} (hM : M.length ≤ 2500) (hc : ∀ c ∈ M, clOK a c = true) (hl : ∀ c ∈ M, c.length ≤ 1048576) (hw : ∀ c ∈ M, ∀ y ∈ c, (Lit.int .i64 y).wf = true) : ∃ K, ∀ k, K < k → impl_atomsIn.f k a M = some (setM (List.replicate (a.toNat + 1) false) M) := by
  have go : ∀ d j, j + d = M.length → ∃ K, ∀ k s, K < k → s.length = a.toNat + 1 → impl_atomsIn.l0 k s M (M.length : Int) (j : Int) = some (setM s (M.drop j)) := by
    intro d
    induction d with
    | zero =>
      intro j hj
      refine ⟨0, fun k s hk hs => ?_⟩
      obtain ⟨k, rfl⟩ : ∃ m, k = m + 1 := ⟨k - 1, by omega⟩
      simp only [impl_atomsIn.l0]
      rw [if_neg (by omega), List.drop_of_length_le (by omega)]
      rfl
    | succ d ih =>
      intro j hj
      obtain ⟨K, hK⟩ := ih (j + 1) (by omega)
      refine ⟨K + (M.getD j []).length + 2, fun k s hk hs => ?_⟩
      obtain ⟨k, rfl⟩ : ∃ m, k = m + 1 := ⟨k - 1, by omega⟩
      have hm := getD_mem M j [] (by omega)
      have hl1 := hl _ hm
      have e1 : wrap64 ((j : Int) + 1) = ((j + 1 : Nat) : Int) := by rw [wrap_id (by omega) (by omega)]; omega
      have c1 : (j : Int) < (M.length : Int) := by omega
      simp only [impl_atomsIn.l0, rdL_nat]
      have hr := impl_row ha (hc _ hm) hl1 (hw _ hm) M (M.length : Int) (j : Int) (M.getD j []).length 0 k s (by omega) (by omega) hs
      rw [if_pos c1, if_pos (Int.natCast_nonneg j), if_pos c1]
      refine Eq.trans hr ?_
      rw [e1, hK _ _ (by omega) (by rw [setA_length, hs]), drop_getD M j [] (by omega)]
      rfl
  have e2 : wrap64 (a + 1) = a + 1 := wrap_id (by omega) (by omega)
  obtain ⟨K, hK⟩ := go M.length 0 (by omega)
  refine ⟨K, fun k hk => ?_⟩
  unfold impl_atomsIn.f
  rw [e2, if_pos (by omega), if_pos (by omega), show (a + 1).toNat = a.toNat + 1 by omega]
  exact hK k _ hk (by simp)
theorem spec_row {a : Int} (ha : a ≤ 700) {l : List (List Int)} {j : Nat} (hj : j < l.length) (hc : clOK a (l.getD j []) = true) (hl : (l.getD j []).length ≤ 1048576) (t : Int) : ∀ d i k s, i + d = (l.getD j []).length → d < k → s.length = a.toNat + 1 → spec_AtomsOf.l1 k t s (j : Int) (i : Int) a l = spec_AtomsOf.l0 (k - d - 1) t (setA s ((l.getD j []).drop i)) (wrap64 ((j : Int) + 1)) a l := by
  intro d
  induction d with
  | zero =>
    intro i k s hi hk hs
    obtain ⟨k, rfl⟩ : ∃ m, k = m + 1 := ⟨k - 1, by omega⟩
    simp only [spec_AtomsOf.l1, rdL_nat]
    rw [if_pos (by omega), if_pos (by omega), if_neg (by omega), List.drop_of_length_le (by omega)]
    rfl
  | succ d ih =>
    intro i k s hi hk hs
    obtain ⟨k, rfl⟩ : ∃ m, k = m + 1 := ⟨k - 1, by omega⟩
    have e1 : wrap64 ((i : Int) + 1) = ((i + 1 : Nat) : Int) := by rw [wrap_id (by omega) (by omega)]; omega
    have hx := absW_nat (clOK_at hc i (by omega)) ha
    have er : rd (l.getD j []) (i : Int) = (l.getD j []).getD i 0 := by simp [rd]
    simp only [spec_AtomsOf.l1, e1, rdL_nat, er]
    rw [if_pos (by omega), if_pos (by omega), if_pos (by omega), if_pos (by omega), l11Abs_f, hx.1]
    simp only [Option.bind_some]
    rw [if_pos (by omega), if_pos (by omega), ih (i + 1) k _ (by omega) (by omega) (by simp [hs]), drop_getD (l.getD j []) i 0 (by omega)]
    simp only [Int.toNat_natCast]
    rw [show k - d - 1 = k + 1 - (d + 1) - 1 by omega]
    rfl
def atR (a : Int) (l : List (List Int)) (f t : Int) : List Int :=
  placesL (fun j => (setM (List.replicate (a.toNat + 1) false) ((l.take t.toNat).drop f.toNat)).getD j false) (a.toNat + 1)
def atV (a : Int) (l : List (List Int)) (f t : Int) : Bool := clsOK a l && (decide (0 ≤ f ∧ f ≤ t ∧ t ≤ (l.length : Int)))
theorem cls_ok {a : Int} {l : List (List Int)} (h : clsOK a l = true) : (0 ≤ a ∧ a ≤ 700) ∧ l.length ≤ 2500 ∧ ∀ c ∈ l, clOK a c = true := by
  unfold clsOK at h
  obtain ⟨h1, h2⟩ := Bool.and_eq_true_iff.1 h
  obtain ⟨h3, h4⟩ := Bool.and_eq_true_iff.1 h2
  have h5 := of_decide_eq_true h3
  exact ⟨of_decide_eq_true h1, by omega, fun c hc => List.all_eq_true.1 h4 c hc⟩
theorem spec_atoms {a : Int} {l : List (List Int)} {f t : Int} (hl : l.length ≤ 1048576) (hx : ∀ x ∈ l, x.length ≤ 1048576) : ∃ K, ∀ k, K < k → spec_AtomsOf.f k a l f t = some (if atV a l f t = true then atR a l f t else []) := by
  by_cases hv : atV a l f t = true
  · obtain ⟨h, hft⟩ := Bool.and_eq_true_iff.1 hv
    have hft := of_decide_eq_true hft
    obtain ⟨ha, hl2, hc⟩ := cls_ok h
    obtain ⟨f, rfl⟩ := Int.eq_ofNat_of_zero_le hft.1
    obtain ⟨t, rfl⟩ := Int.eq_ofNat_of_zero_le (show 0 ≤ t by omega)
    (try simp only [Int.ofNat_eq_natCast] at hft hv ⊢)
    have htl : t ≤ l.length := by omega
    have go : ∀ d j, j + d = t → ∃ K, ∀ k s, K < k → s.length = a.toNat + 1 → spec_AtomsOf.l0 k (t : Int) s (j : Int) a l = some (placesL (fun v => (setM s ((l.take t).drop j)).getD v false) (a.toNat + 1)) := by
      intro d
      induction d with
      | zero =>
        intro j hj
        refine ⟨a.toNat + 10, fun k s hk hs => ?_⟩
        obtain ⟨k, rfl⟩ : ∃ m, k = m + 1 := ⟨k - 1, by omega⟩
        simp only [spec_AtomsOf.l0]
        rw [if_neg (by omega), l4List_f (by omega) (by omega), List.drop_of_length_le (by rw [List.length_take]; omega), hs]
        rfl
      | succ d ih =>
        intro j hj
        obtain ⟨K, hK⟩ := ih (j + 1) (by omega)
        refine ⟨K + (l.getD j []).length + 2, fun k s hk hs => ?_⟩
        obtain ⟨k, rfl⟩ : ∃ m, k = m + 1 := ⟨k - 1, by omega⟩
        have hjt : j < t := by rw [← hj]; exact Nat.lt_add_of_pos_right (Nat.succ_pos d)
        have hjl : j < l.length := Nat.lt_of_lt_of_le hjt htl
        have htk : j < (l.take t).length := by rw [List.length_take]; exact Nat.lt_min.2 ⟨hjt, hjl⟩
        have hm := getD_mem l j [] hjl
        have hl1 := hx _ hm
        have e1 : wrap64 ((j : Int) + 1) = ((j + 1 : Nat) : Int) := by rw [wrap_id (by omega) (by omega)]; omega
        have hr := spec_row ha.2 hjl (hc _ hm) hl1 (t : Int) (l.getD j []).length 0 k s (by omega) (by omega) hs
        have hd : (l.take t).drop j = l.getD j [] :: (l.take t).drop (j + 1) := by
          rw [drop_getD (l.take t) j [] htk]
          congr 1
          rw [List.getD_eq_getElem?_getD, List.getElem?_take_of_lt hjt, ← List.getD_eq_getElem?_getD]
        have c1 : (j : Int) < (t : Int) := Int.ofNat_lt.2 hjt
        simp only [spec_AtomsOf.l0]
        rw [if_pos c1]
        refine Eq.trans hr ?_
        rw [e1, hK _ _ (by omega) (by rw [setA_length, hs]), hd]
        rfl
    obtain ⟨K, hK⟩ := go (t - f) f (by omega)
    refine ⟨K + 2200000, fun k hk => ?_⟩
    obtain ⟨k, rfl⟩ : ∃ m, k = m + 1 := ⟨k - 1, by omega⟩
    have e2 : wrap64 (a + 1) = a + 1 := wrap_id (by omega) (by omega)
    have e3 : decide ((t : Int) > (l.length : Int)) = false := decide_eq_false (by omega)
    unfold spec_AtomsOf.f
    rw [spec_ClausesValid_f (by omega) hl hx]
    simp only [Option.bind_some]
    rw [if_pos h, l1In_f]
    simp only [Option.bind_some]
    rw [show inB 0 (t : Int) (f : Int) = true from decide_eq_true (by omega), if_pos rfl, e3]
    simp only [spec_AtomsOf.j0, Bool.false_eq_true, if_false]
    rw [e2, if_pos (by omega), if_pos (by omega), show (a + 1).toNat = a.toNat + 1 by omega, if_pos hv]
    unfold atR
    simp only [Int.toNat_natCast]
    exact hK k _ (by omega) (by simp)
  · refine ⟨2200000, fun k hk => ?_⟩
    obtain ⟨k, rfl⟩ : ∃ m, k = m + 1 := ⟨k - 1, by omega⟩
    rw [if_neg hv]
    unfold spec_AtomsOf.f
    rw [spec_ClausesValid_f (by omega) hl hx]
    simp only [Option.bind_some]
    by_cases h : clsOK a l = true
    · rw [if_pos h, l1In_f]
      simp only [Option.bind_some]
      by_cases hf : 0 ≤ f ∧ f ≤ t
      · rw [show inB 0 t f = true from decide_eq_true hf, if_pos rfl]
        have ht : t > (l.length : Int) := by
          refine Classical.byContradiction fun hn => hv ?_
          unfold atV
          rw [h, decide_eq_true (show 0 ≤ f ∧ f ≤ t ∧ t ≤ (l.length : Int) by omega)]
          rfl
        rw [decide_eq_true ht]
        rfl
      · rw [show inB 0 t f = false from decide_eq_false hf]
        rfl
    · rw [if_neg h]
      rfl
theorem mem_placesL (q : Nat → Bool) (m j : Nat) (hj : j < m) : decide (((j : Nat) : Int) ∈ placesL q m) = q j := by
  unfold placesL
  cases h : q j with
  | true => exact decide_eq_true (List.mem_map.2 ⟨j, List.mem_filter.2 ⟨List.mem_range.2 hj, h⟩, rfl⟩)
  | false =>
    refine decide_eq_false (fun hm => ?_)
    obtain ⟨i, hi, he⟩ := List.mem_map.1 hm
    have hi2 := (List.mem_filter.1 hi).2
    rw [show i = j from Int.ofNat.inj he, h] at hi2
    cases hi2
theorem filter_placesL (p q : Nat → Bool) (m : Nat) : (placesL p m).filter (fun x => decide (x ∈ placesL q m)) = placesL (fun j => p j && q j) m := by
  have key : ∀ n, n ≤ m → (placesL p n).filter (fun x => decide (x ∈ placesL q m)) = placesL (fun j => p j && q j) n := by
    intro n
    induction n with
    | zero => intro _; rfl
    | succ n ih =>
      intro hn
      have h := ih (Nat.le_of_succ_le hn)
      have hm := mem_placesL q m n hn
      rw [placesL_succ, placesL_succ]
      cases hp : p n with
      | false => simpa using h
      | true =>
        rw [if_pos rfl, List.filter_append, h]
        simp only [List.filter_cons, List.filter_nil, hm, Bool.true_and]
        cases hq : q n <;> simp
  exact key m (Nat.le_refl _)
theorem spec_sh {A B : List Int} (hA : A.length ≤ 1000) (hB : B.length ≤ 1000) : ∀ d i k, i + d = A.length → d + B.length + 1 < k → spec_SharedAtoms.l0 k ((A.take i).filter (fun x => decide (x ∈ B))) A B (i : Int) = some (A.filter (fun x => decide (x ∈ B))) := by
  intro d
  induction d with
  | zero =>
    intro i k hi hk
    obtain ⟨k, rfl⟩ : ∃ m, k = m + 1 := ⟨k - 1, by omega⟩
    simp only [spec_SharedAtoms.l0]
    rw [if_neg (by omega), List.take_of_length_le (by omega)]
  | succ d ih =>
    intro i k hi hk
    obtain ⟨k, rfl⟩ : ∃ m, k = m + 1 := ⟨k - 1, by omega⟩
    have hiA : i < A.length := by omega
    have g := ih (i + 1) k (by omega) (by omega)
    have e1 : wrap64 ((i : Int) + 1) = ((i + 1 : Nat) : Int) := by rw [wrap_id (by omega) (by omega)]; omega
    have er : rd A (i : Int) = A.getD i 0 := by simp [rd]
    have hf : ((A.take i).filter (fun x => decide (x ∈ B))).length ≤ 1000 := Nat.le_trans (List.length_filter_le _ _) (by rw [List.length_take]; omega)
    rw [take_succ_getD A i 0 hiA, List.filter_append] at g
    simp only [List.filter_cons, List.filter_nil] at g
    simp only [spec_SharedAtoms.l0, e1, er]
    rw [if_pos (by omega), if_pos (by omega), l2Has_f (by omega) (by omega)]
    simp only [Option.bind_some]
    cases hb : decide (A.getD i 0 ∈ B) with
    | true =>
      rw [hb, if_pos rfl] at g
      rw [if_pos rfl, if_pos (by omega)]
      exact g
    | false =>
      rw [hb, if_neg (by simp), List.append_nil] at g
      rw [if_neg (by simp)]
      exact g
def andL (p q : List Bool) (n : Nat) : List Bool := (List.range n).map (fun j => p.getD j false && q.getD j false)
theorem impl_sh {p q : List Bool} {n : Nat} (hp : p.length = n) (hq : q.length = n) (hn : n ≤ 1000) : ∀ d i k s, i + d = n → d < k → s.length = n → (∀ j, j < n → s.getD j false = if j < i then (p.getD j false && q.getD j false) else p.getD j false) → impl_shared.l0 k s q (n : Int) (i : Int) = some (andL p q n) := by
  intro d
  induction d with
  | zero =>
    intro i k s hi hk hs hv
    obtain ⟨k, rfl⟩ : ∃ m, k = m + 1 := ⟨k - 1, by omega⟩
    simp only [impl_shared.l0]
    rw [if_neg (by omega)]
    refine congrArg some (ext_getD (d := false) (by rw [hs]; simp [andL]) (fun j hj => ?_))
    have hj : j < n := by simpa [andL] using hj
    unfold andL
    rw [hv j hj, getD_map_range _ _ _ _ hj, if_pos (by omega)]
  | succ d ih =>
    intro i k s hi hk hs hv
    obtain ⟨k, rfl⟩ : ∃ m, k = m + 1 := ⟨k - 1, by omega⟩
    have hin : i < n := by omega
    have e1 : wrap64 ((i : Int) + 1) = ((i + 1 : Nat) : Int) := by rw [wrap_id (by omega) (by omega)]; omega
    have hi0 := hv i hin
    rw [if_neg (Nat.lt_irrefl i)] at hi0
    have step : ∀ b, b = (p.getD i false && q.getD i false) → impl_shared.l0 k (s.set i b) q (n : Int) ((i + 1 : Nat) : Int) = some (andL p q n) := by
      intro b hb
      refine ih (i + 1) k _ (by omega) (by omega) (by rw [List.length_set, hs]) (fun j hj => ?_)
      rw [getD_set s i j b false (by omega)]
      by_cases he : j = i
      · rw [if_pos he, if_pos (by omega), hb, he]
      · rw [if_neg he, hv j hj]
        by_cases hl : j < i
        · rw [if_pos hl, if_pos (by omega)]
        · rw [if_neg hl, if_neg (by omega)]
    simp only [impl_shared.l0, e1, rdOf_nat, Int.toNat_natCast]
    rw [if_pos (by omega), if_pos (by omega), if_pos (by omega), if_pos (by omega)]
    cases hb : p.getD i false with
    | true =>
      rw [hi0, hb, if_pos rfl]
      exact step _ (by rw [hb, Bool.true_and])
    | false =>
      rw [hi0, hb, if_neg (by simp)]
      exact step _ (by rw [hb, Bool.false_and])
def shV (a : Int) (l : List (List Int)) (n : Int) : Bool := clsOK a l && decide (0 ≤ n ∧ n ≤ (l.length : Int))
def sM (a : Int) (m : List (List Int)) (j : Nat) : Bool := (setM (List.replicate (a.toNat + 1) false) m).getD j false
def shR (a : Int) (l : List (List Int)) (n : Int) : List Int := if shV a l n = true then placesL (fun j => sM a (l.take n.toNat) j && sM a (l.drop n.toNat) j) (a.toNat + 1) else []
theorem shR_len (a : Int) (l : List (List Int)) (n : Int) : (shR a l n).length ≤ 1000 := by
  unfold shR
  split
  · rename_i hv
    have hv := (cls_ok (Bool.and_eq_true_iff.1 hv).1).1
    refine Nat.le_trans (placesL_length _ _) (by omega)
  · simp
theorem spec_shared {a : Int} {l : List (List Int)} {n : Int} (hl : l.length ≤ 1048576) (hx : ∀ x ∈ l, x.length ≤ 1048576) : ∃ K, ∀ k, K < k → spec_SharedAtoms.f k a l n = some (shR a l n) := by
  obtain ⟨K1, h1⟩ := spec_atoms (a := a) (l := l) (f := 0) (t := n) hl hx
  obtain ⟨K2, h2⟩ := spec_atoms (a := a) (l := l) (f := n) (t := (l.length : Int)) hl hx
  have e1 : atV a l 0 n = shV a l n := by
    unfold atV shV
    congr 1
    exact decide_eq_decide.2 ⟨fun h => ⟨h.2.1, h.2.2⟩, fun h => ⟨Int.le_refl _, h.1, h.2⟩⟩
  have e2 : atV a l n (l.length : Int) = shV a l n := by
    unfold atV shV
    congr 1
    exact decide_eq_decide.2 ⟨fun h => ⟨h.1, h.2.1⟩, fun h => ⟨h.1, h.2, Int.le_refl _⟩⟩
  rw [e1] at h1
  rw [e2] at h2
  refine ⟨K1 + K2 + 3000, fun k hk => ?_⟩
  unfold spec_SharedAtoms.f
  rw [h1 k (by omega), h2 k (by omega)]
  simp only [Option.bind_some]
  unfold shR
  by_cases hv : shV a l n = true
  · have ha := (cls_ok (Bool.and_eq_true_iff.1 hv).1).1
    rw [if_pos hv, if_pos hv, if_pos hv]
    unfold atR
    have lA := placesL_length (sM a (l.take n.toNat)) (a.toNat + 1)
    have lB := placesL_length (sM a (l.drop n.toNat)) (a.toNat + 1)
    have g := spec_sh (A := placesL (sM a (l.take n.toNat)) (a.toNat + 1)) (B := placesL (sM a (l.drop n.toNat)) (a.toNat + 1)) (by omega) (by omega) _ 0 k (Nat.zero_add _) (by omega)
    rw [filter_placesL] at g
    simp only [Int.toNat_natCast, List.take_length, Int.toNat_zero, List.drop_zero]
    exact g
  · rw [if_neg hv, if_neg hv, if_neg hv]
    obtain ⟨k, rfl⟩ : ∃ m, k = m + 1 := ⟨k - 1, by omega⟩
    rfl
theorem impl_shared_f {a : Int} {l : List (List Int)} {n : Int} (hl : l.length ≤ 1048576) (hx : ∀ x ∈ l, x.length ≤ 1048576) (hw : ∀ x ∈ l, ∀ y ∈ x, (Lit.int .i64 y).wf = true) : ∃ K, ∀ k, K < k → impl_SharedAtoms.f k a l n = some (shR a l n) := by
  by_cases hv : shV a l n = true
  · obtain ⟨h, hft⟩ := Bool.and_eq_true_iff.1 hv
    have hft := of_decide_eq_true hft
    obtain ⟨ha, hl2, hc⟩ := cls_ok h
    have hs1 : ∀ c ∈ l.take n.toNat, c ∈ l := fun c h => List.mem_of_mem_take h
    have hs2 : ∀ c ∈ l.drop n.toNat, c ∈ l := fun c h => List.mem_of_mem_drop h
    obtain ⟨K1, hK1⟩ := atomsIn_f ha.1 ha.2 (M := l.take n.toNat) (by rw [List.length_take]; omega) (fun c h => hc c (hs1 c h)) (fun c h => hx c (hs1 c h)) (fun c h => hw c (hs1 c h))
    obtain ⟨K2, hK2⟩ := atomsIn_f ha.1 ha.2 (M := l.drop n.toNat) (by rw [List.length_drop]; omega) (fun c h => hc c (hs2 c h)) (fun c h => hx c (hs2 c h)) (fun c h => hw c (hs2 c h))
    refine ⟨K1 + K2 + 2200000, fun k hk => ?_⟩
    obtain ⟨k, rfl⟩ : ∃ m, k = m + 1 := ⟨k - 1, by omega⟩
    have l1 : (setM (List.replicate (a.toNat + 1) false) (l.take n.toNat)).length = a.toNat + 1 := by rw [setM_length, List.length_replicate]
    have l2 : (setM (List.replicate (a.toNat + 1) false) (l.drop n.toNat)).length = a.toNat + 1 := by rw [setM_length, List.length_replicate]
    have l3 : (andL (setM (List.replicate (a.toNat + 1) false) (l.take n.toNat)) (setM (List.replicate (a.toNat + 1) false) (l.drop n.toNat)) (a.toNat + 1)).length = a.toNat + 1 := by unfold andL; rw [List.length_map, List.length_range]
    have g := impl_sh l1 l2 (by omega) (a.toNat + 1) 0 k _ (Nat.zero_add _) (by omega) l1 (fun j hj => by rw [if_neg (Nat.not_lt_zero j)])
    unfold impl_SharedAtoms.f
    rw [impl_ClausesValid_f (by omega) hx hw]
    simp only [Option.bind_some]
    rw [if_pos h, in_f]
    simp only [Option.bind_some, impl_SharedAtoms.j0]
    rw [show inB 0 (l.length : Int) n = true from decide_eq_true hft]
    simp only [Bool.not_true, Bool.false_eq_true, if_false]
    unfold impl_shared.f
    rw [if_pos hft.1, if_pos hft.2, hK1 k (by omega), hK2 k (by omega)]
    simp only [Option.bind_some]
    rw [l2]
    refine Eq.trans (congrArg (fun o => Option.bind o _) g) ?_
    simp only [Option.bind_some]
    rw [listOf_f (by omega) (by omega), l3]
    simp only [Option.bind_some]
    unfold shR
    rw [if_pos hv]
    refine congrArg some (placesL_congr (fun j hj => ?_))
    unfold andL
    rw [getD_map_range _ _ _ _ hj]
    rfl
  · refine ⟨2200000, fun k hk => ?_⟩
    obtain ⟨k, rfl⟩ : ∃ m, k = m + 1 := ⟨k - 1, by omega⟩
    unfold shR
    rw [if_neg hv]
    unfold impl_SharedAtoms.f
    rw [impl_ClausesValid_f (by omega) hx hw]
    simp only [Option.bind_some]
    by_cases h : clsOK a l = true
    · rw [if_pos h, in_f]
      have hf : ¬ (0 ≤ n ∧ n ≤ (l.length : Int)) := by
        refine fun hn => hv ?_
        unfold shV
        rw [h, decide_eq_true hn]
        rfl
      rw [show inB 0 (l.length : Int) n = false from decide_eq_false hf]
      rfl
    · rw [if_neg h]
      rfl
theorem markSS_f {k : Nat} : ∀ (l : List (List Int)) (b : Int), (∀ x ∈ l, x.length < k ∧ x.length ≤ 1048576) → 0 ≤ b → b + (total l : Int) ≤ 100000000000 → ∃ r, laws_markIntSS.f k l b = some r ∧ 0 ≤ r := by
  intro l
  induction l with
  | nil => intro b _ hb _; exact ⟨b, rfl, hb⟩
  | cons x l ih =>
    intro b hx hb hs
    have h1 := hx x (by simp)
    have ht : total (x :: l) = x.length + total l := by simp [total]
    obtain ⟨r, hr, h0⟩ := ih (b + (x.length : Int)) (fun y hy => hx y (by simp [hy])) (by omega) (by omega)
    refine ⟨r, ?_, h0⟩
    unfold laws_markIntSS.f laws_markIntSS.go
    rw [markIntS_f h1.1 (by omega) hb (by omega)]
    exact hr

theorem FnExactSharedAtoms : laws_FnExactSharedAtoms.Pure := by
  intro a l n ha hl hx hn
  by_cases hz : 1048576 < l.length ∨ 1048576 < total l
  · refine ⟨2200000, ?_⟩
    unfold laws_FnExactSharedAtoms.f
    obtain ⟨r, hr, hs⟩ := szClauses_f (k := 2200000) (b := a) (l := l) (a := 1048576) (by omega) (by omega) (by omega) hl (fun x h => (hx x h).1)
    rw [hr]
    simp only [Option.bind_some]
    rw [if_pos (by omega)]
  have h1 : l.length ≤ 1048576 := by omega
  have h2 : ∀ x ∈ l, x.length ≤ 1048576 := fun x hx => by have := total_mem hx; omega
  obtain ⟨K1, hK1⟩ := spec_shared (a := a) (l := l) (n := n) h1 h2
  obtain ⟨K2, hK2⟩ := impl_shared_f (a := a) (l := l) (n := n) h1 h2 (fun x h => (hx x h).2)
  refine ⟨K1 + K2 + 2200000, ?_⟩
  obtain ⟨KK, hKK⟩ : ∃ KK, KK = K1 + K2 + 2200000 := ⟨_, rfl⟩
  rw [← hKK]
  unfold laws_FnExactSharedAtoms.f
  obtain ⟨r, hr, hs⟩ := szClauses_f (k := KK) (b := a) (l := l) (a := 1048576) (by omega) (by omega) (by omega) hl (fun x h => (hx x h).1)
  rw [hr]
  simp only [Option.bind_some]
  by_cases h : r < 0
  · rw [if_pos h]
  · have hr2 := hs (by omega)
    rw [if_neg h, toClauses_f (by omega) h1 h2]
    simp only [Option.bind_some]
    rw [hK1 KK (by omega), hK2 KK (by omega)]
    obtain ⟨k, rfl⟩ : ∃ m, KK = m + 1 := ⟨KK - 1, by omega⟩
    have hI := hK2 k (by omega)
    have hR : (shR a l n).length ≤ 1000 := by
      exact shR_len a l n
    generalize (shR a l n) = R at hI hR ⊢
    simp only [Option.bind_some]
    rw [eqIntS_f (by omega) (by omega), eqClauses_f (by omega) h1 h2]
    unfold laws_markClauses.f
    obtain ⟨m, hm, hm0⟩ := markSS_f (k := k + 1) l 1 (fun x hx => by have := h2 x hx; omega) (by omega) (by omega)
    rw [hm]
    have hq : ¬ (m < 0) := by omega
    have hq2 : ¬ ((1 : Int) + (R.length : Int) < 0) := by omega
    simp only [Option.bind_some, decide_true, if_true, if_neg hq, Bool.not_true, laws_FnExactSharedAtoms.j0, Bool.false_eq_true, if_false]
    rw [markIntS_f (by omega) (by omega) (by omega) (by omega)]
    simp only [Option.bind_some]
    rw [heldIntS_f (by omega) (by omega) (by omega) (by omega), toClauses_f (by omega) h1 h2]
    simp only [Option.bind_some, if_neg hq2, if_true, hI]
    rw [eqIntS_f (by omega) (by omega)]
    simp only [Option.bind_some, decide_true, if_true, if_neg hq2]

end Go.Proofs.Ythcegdgffdppgac.Pure
