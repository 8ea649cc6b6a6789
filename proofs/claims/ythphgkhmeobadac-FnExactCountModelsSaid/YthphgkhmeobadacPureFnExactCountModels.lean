/- The law on CountModels holds for all arguments: the program tells what the reference tells, and leaves its argument as it was. (The program tries all rows; the reference marks what is forced, and splits.)
Conditions: none. -/
import Derived.Test.YthphgkhmeobadacXFnExactCountModelsx5
import Derived.Test.YthphgkhmeobadacXLib2
namespace Go.Proofs.Ythphgkhmeobadac.Pure
open Go.RowKit Go.Proofs.Ythphgkhmeobadac.XFnExactCountModels Go.Proofs.YthphgkhmeobadacW.PrintWords Go.Proofs.YthphgkhmeobadacW.PrintLast Go.Proofs.YthphgkhmeobadacW.PrintMore Go.Proofs.YthphgkhmeobadacX
set_option linter.unusedVariables false
set_option linter.unusedSimpArgs false

theorem rdL_nat (xs : List (List Int)) (i : Nat) : rd_L1 xs (i : Int) = xs.getD i [] := by
  unfold rd_L1
  simp

/-- How many numbers all rows hold. -/
def total (l : List (List Int)) : Nat := (l.map List.length).sum
theorem total_take (l : List (List Int)) (i : Nat) (h : i < l.length) : total (l.take (i + 1)) = total (l.take i) + (l.getD i []).length := by
  unfold total
  rw [take_succ_getD l i [] h, List.map_append, List.sum_append]
  simp
theorem total_le (l : List (List Int)) (i : Nat) : total (l.take i) ≤ total l := by
  have h : total l = total (l.take i) + total (l.drop i) := by
    unfold total
    rw [← List.sum_append, ← List.map_append, List.take_append_drop]
  omega
theorem total_mem {l : List (List Int)} {x : List Int} (h : x ∈ l) : x.length ≤ total l := by
  unfold total
  induction l with
  | nil => cases h
  | cons y l ih =>
    simp only [List.map_cons, List.sum_cons]
    rcases List.mem_cons.1 h with rfl | h
    · omega
    · have := ih h
      omega

theorem szIntS_f {l : List Int} {a : Int} (h0 : 0 ≤ a) (h1 : a ≤ 1048576) (hl : l.length ≤ 9223372036854775807) : laws_szIntS.f l a = some (if a - (l.length : Int) < 0 then -1 else a - (l.length : Int)) := by
  unfold laws_szIntS.f
  rw [wrap_id (by omega) (by omega)]
  by_cases h : a - (l.length : Int) < 0
  · rw [if_pos h, if_pos h]
  · rw [if_neg h, if_neg h]
theorem szIntSS_f {k : Nat} {l : List (List Int)} {a : Int} (hk : 1048577 < k) (h0 : 0 ≤ a) (h1 : a ≤ 1048576) (hl : l.length ≤ 9223372036854775807) (hx : ∀ x ∈ l, x.length ≤ 9223372036854775807) :
    ∃ r, laws_szIntSS.f k l a = some r ∧ (0 ≤ r → r = a - (l.length : Int) - (total l : Int)) := by
  unfold laws_szIntSS.f
  rw [wrap_id (by omega) (by omega)]
  by_cases h : a - (l.length : Int) < 0
  · exact ⟨-1, by rw [if_pos h], fun g => absurd g (by omega)⟩
  · rw [if_neg h]
    refine ⟨if a - (l.length : Int) - (total l : Int) < 0 then -1 else a - (l.length : Int) - (total l : Int), ?_, ?_⟩
    · refine run_inv (fun k (s : Int) i => laws_szIntSS.l0 k l s (i : Int)) l.length (fun i s => s = a - (l.length : Int) - (total (l.take i) : Int) ∧ 0 ≤ s) _ ?_ ?_ k 0 _ (Nat.zero_le _) (by omega) ⟨by simp [total], by omega⟩
      · rintro k i s hi ⟨rfl, hs⟩
        have ht := total_take l i hi
        have hle := total_le l (i + 1)
        have hlen := hx _ (getD_mem l i [] hi)
        simp only [laws_szIntSS.l0]
        rw [if_pos (by omega), if_pos (by omega), rdL_nat, szIntS_f hs (by omega) hlen, wrap_id (x := (i : Int) + 1) (by omega) (by omega)]
        simp only [Option.bind_some]
        by_cases hneg : a - (l.length : Int) - (total (l.take i) : Int) - ((l.getD i []).length : Int) < 0
        · refine Or.inl ?_
          rw [if_pos (show (if a - (l.length : Int) - (total (l.take i) : Int) - ((l.getD i []).length : Int) < 0 then (-1 : Int) else _) < 0 by rw [if_pos hneg]; omega), if_pos (by omega)]
        · refine Or.inr ⟨a - (l.length : Int) - (total (l.take i) : Int) - ((l.getD i []).length : Int), ?_, ?_⟩
          · simp only [if_neg hneg]
            rfl
          · rw [ht]
            exact ⟨by simp only [Int.natCast_add]; omega, by omega⟩
      · rintro k s ⟨rfl, hs⟩
        simp only [laws_szIntSS.l0]
        rw [if_neg (by omega)]
        rw [List.take_length] at hs ⊢
        rw [if_neg (by omega)]
    · intro g
      by_cases hneg : a - (l.length : Int) - (total l : Int) < 0
      · rw [if_pos hneg] at g
        omega
      · rw [if_neg hneg]

theorem szClauses_f {k : Nat} {b : Int} {l : List (List Int)} {a : Int} (hk : 1048577 < k) (h0 : 0 ≤ a) (h1 : a ≤ 1048576) (hl : l.length ≤ 9223372036854775807) (hx : ∀ x ∈ l, x.length ≤ 9223372036854775807) :
    ∃ r, laws_szClauses.f k b l a = some r ∧ (0 ≤ r → r = a - (l.length : Int) - (total l : Int)) := by
  obtain ⟨r, hr, hs⟩ := szIntSS_f (k := k) (l := l) (a := a) hk h0 h1 hl hx
  unfold laws_szClauses.f
  rw [hr]
  simp only [Option.bind_some]
  by_cases h : r < 0
  · exact ⟨-1, by rw [if_pos h], fun h => absurd h (by decide)⟩
  · exact ⟨r, by rw [if_neg h], hs⟩

theorem l1In_f (n a b : Int) : spec_l1In.f n a b = some (inB a b n) := by
  unfold spec_l1In.f inB
  by_cases h : n ≥ a
  · rw [if_pos h]; congr 1; simp; omega
  · rw [if_neg h, decide_eq_false (by omega)]

def absW (x : Int) : Int := if x < 0 then wrap64 (-x) else x
def okC (l : List Int) (a : Int) (i : Nat) : Bool := inB (-a) a (l.getD i 0) && !decide (l.getD i 0 = 0) && (decide (i = 0) || decide (absW (l.getD (i - 1) 0) < absW (l.getD i 0)))
theorem l11Abs_f (x : Int) : spec_l11Abs.f x = some (absW x) := by
  unfold spec_l11Abs.f absW
  by_cases h : x < 0
  · rw [if_pos h, if_pos h]
  · rw [if_neg h, if_neg h]
/-- The reference's loop, whatever the number of atoms. -/
theorem spec_scan {k : Nat} {l : List Int} {a : Int} (hk : l.length < k) (hm : l.length ≤ 35184372088832) : ∃ b, spec_ClauseValid.f k l a = some (b && inB 0 700 a) ∧ (0 ≤ a ∧ a ≤ 700 → b = decide (∀ j, j < l.length → okC l a j = true)) := by
  by_cases ha : 0 ≤ a ∧ a ≤ 700
  · have hin : inB 0 700 a = true := decide_eq_true ha
    refine ⟨decide (∀ j, j < l.length → okC l a j = true), ?_, fun _ => rfl⟩
    unfold spec_ClauseValid.f
    refine (run_all (fun k i => spec_ClauseValid.l0 k l a (i : Int)) l.length (okC l a) true false ?_ ?_ k hk).trans ?_
    · intro k i hi
      simp only [spec_ClauseValid.l0]
      rw [if_pos (by omega), if_pos (by omega)]
      unfold spec_l11Lit.f
      simp only [rd_nat]
      unfold okC
      by_cases h0 : l.getD i 0 = 0
      · rw [if_pos h0, decide_eq_true h0]
        simp
      · rw [if_neg h0, l1In_f, wrap_id (x := -a) (by omega) (by omega), decide_eq_false h0]
        simp only [Option.bind_some, Bool.not_false, Bool.and_true]
        cases hb : inB (-a) a (l.getD i 0)
        · simp
        · simp only [if_true, Bool.true_and]
          by_cases hi0 : i = 0
          · subst hi0
            rw [if_neg (by omega), wrap_id (by omega) (by omega)]
            simp
          · have e1 : wrap64 ((i : Int) - 1) = ((i - 1 : Nat) : Int) := by rw [wrap_id (by omega) (by omega)]; omega
            rw [if_pos (show (i : Int) > 0 by omega), e1]
            simp only [rd_nat, l11Abs_f, Option.bind_some]
            rw [if_pos (show (0 : Int) ≤ ((i - 1 : Nat) : Int) by omega), if_pos (show ((i - 1 : Nat) : Int) < (l.length : Int) by omega), wrap_id (x := (i : Int) + 1) (by omega) (by omega)]
            by_cases hlt : absW (l.getD i 0) ≤ absW (l.getD (i - 1) 0)
            · rw [if_pos hlt, decide_eq_false hi0, decide_eq_false (by omega)]
              simp
            · rw [if_neg hlt, decide_eq_false hi0, decide_eq_true (show absW (l.getD (i - 1) 0) < absW (l.getD i 0) by omega)]
              simp
    · intro k
      simp only [spec_ClauseValid.l0]
      rw [if_neg (by omega), l1In_f, hin]
      rfl
    · by_cases h : ∀ j, j < l.length → okC l a j = true
      · rw [if_pos h, decide_eq_true h, hin]
        rfl
      · rw [if_neg h, decide_eq_false h, hin]
        rfl
  · have hin : inB 0 700 a = false := decide_eq_false ha
    refine ⟨true, ?_, fun h => absurd h ha⟩
    rw [hin]
    unfold spec_ClauseValid.f
    refine run_inv (fun k (_ : Unit) i => spec_ClauseValid.l0 k l a (i : Int)) l.length (fun _ _ => True) _ ?_ ?_ k 0 () (Nat.zero_le _) (by omega) trivial
    · intro k i _ hi _
      simp only [spec_ClauseValid.l0]
      rw [if_pos (by omega), if_pos (by omega), wrap_id (x := (i : Int) + 1) (by omega) (by omega)]
      unfold spec_l11Lit.f
      by_cases h0 : rd l (i : Int) = 0
      · rw [if_pos h0]
        exact Or.inl rfl
      · rw [if_neg h0, l1In_f]
        simp only [Option.bind_some]
        cases inB (wrap64 (-a)) a (rd l (i : Int))
        · exact Or.inl rfl
        · simp only [if_true]
          by_cases hi0 : i = 0
          · subst hi0
            rw [if_neg (by omega)]
            exact Or.inr ⟨(), rfl, trivial⟩
          · have e1 : wrap64 ((i : Int) - 1) = ((i - 1 : Nat) : Int) := by rw [wrap_id (by omega) (by omega)]; omega
            rw [if_pos (show (i : Int) > 0 by omega), e1]
            simp only [l11Abs_f, Option.bind_some]
            rw [if_pos (show (0 : Int) ≤ ((i - 1 : Nat) : Int) by omega), if_pos (show ((i - 1 : Nat) : Int) < (l.length : Int) by omega)]
            by_cases hlt : absW (rd l (i : Int)) ≤ absW (rd l ((i - 1 : Nat) : Int))
            · rw [if_pos hlt]
              exact Or.inl rfl
            · rw [if_neg hlt]
              exact Or.inr ⟨(), rfl, trivial⟩
    · intro k _ _
      simp only [spec_ClauseValid.l0]
      rw [if_neg (by omega), l1In_f, hin]
      rfl

def clOK (a : Int) (c : List Int) : Bool := decide (∀ j, j < c.length → okC c a j = true)
def clsOK (a : Int) (l : List (List Int)) : Bool := inB 0 700 a && (decide ((l.length : Int) ≤ 2500) && l.all (clOK a))
theorem spec_ClausesValid_f {k : Nat} {a : Int} {l : List (List Int)} (hk : 2100000 < k) (hl : l.length ≤ 1048576) (hx : ∀ x ∈ l, x.length ≤ 1048576) : spec_ClausesValid.f k a l = some (clsOK a l) := by
  unfold spec_ClausesValid.f clsOK
  obtain ⟨k, rfl⟩ : ∃ m, k = m + 1 := ⟨k - 1, by omega⟩
  rw [l1In_f]
  simp only [Option.bind_some, spec_ClausesValid.j0]
  by_cases ha : 0 ≤ a ∧ a ≤ 700
  · rw [show inB 0 700 a = true from decide_eq_true ha]
    simp only [if_true, Bool.true_and]
    by_cases h : (l.length : Int) > 2500
    · rw [if_pos (decide_eq_true h), decide_eq_false (by omega)]
      rfl
    · rw [if_neg (by simpa using h), decide_eq_true (show (l.length : Int) ≤ 2500 by omega), Bool.true_and]
      refine (run_allB 1048577 (fun k i => spec_ClausesValid.l0 k (i : Int) a l) l.length (fun i => clOK a (l.getD i [])) true false ?_ ?_ k (by omega)).trans ?_
      · intro k i hb hi
        have hm := hx _ (getD_mem l i [] hi)
        obtain ⟨b, h1, h2⟩ := spec_scan (k := k) (l := l.getD i []) (a := a) (by omega) (by omega)
        simp only [spec_ClausesValid.l0, rdL_nat]
        rw [if_pos (by omega), if_pos (by omega), h1, h2 ha, wrap_id (x := (i : Int) + 1) (by omega) (by omega)]
        simp only [Option.bind_some]
        rw [show inB 0 700 a = true from decide_eq_true ha, Bool.and_true]
        rfl
      · intro k _
        simp only [spec_ClausesValid.l0]
        rw [if_neg (by omega)]
      · have e := all_getD l [] (clOK a)
        by_cases h : ∀ j, j < l.length → clOK a (l.getD j []) = true
        · rw [if_pos h, e.1 h]
        · rw [if_neg h]
          cases hh : l.all (clOK a) with
          | false => rfl
          | true => exact absurd (e.2 hh) h
  · rw [show inB 0 700 a = false from decide_eq_false ha]
    rfl

theorem l3Copy_f {k : Nat} {l : List Int} (hk : l.length < k) (hm : l.length ≤ 1048576) : spec_l3Copy.f k l = some l := by
  unfold spec_l3Copy.f
  refine run_inv (fun k (s : List Int) i => spec_l3Copy.l0 k l s (i : Int)) l.length (fun i s => s = l.take i) _ ?_ ?_ k 0 [] (Nat.zero_le _) (by omega) (by simp)
  · rintro k i s hi rfl
    have hl : (l.take i).length = i := by rw [List.length_take]; omega
    refine Or.inr ⟨_, ?_, (take_succ_getD l i 0 hi).symm⟩
    simp only [spec_l3Copy.l0]
    rw [if_pos (by omega), if_pos (by omega), if_pos (by rw [hl]; omega), wrap_id (x := (i : Int) + 1) (by omega) (by omega), rd_nat]
    rfl
  · rintro k s rfl
    simp only [spec_l3Copy.l0]
    rw [if_neg (by omega), List.take_length]

theorem toIntS_f {k : Nat} {l : List Int} (hk : l.length < k) (hm : l.length ≤ 35184372088832) : laws_toIntS.f k l = some l := by
  unfold laws_toIntS.f
  rw [if_pos (by omega), if_pos (by omega)]
  refine run_inv (fun k (s : List Int) i => laws_toIntS.l0 k l s (i : Int)) l.length (fun i s => s.length = l.length ∧ ∀ j, j < i → s.getD j 0 = l.getD j 0) l ?_ ?_ k 0 _ (Nat.zero_le _) (by omega) ⟨by simp, fun j hj => absurd hj (Nat.not_lt_zero j)⟩
  · intro k i s hi ⟨hl, hs⟩
    refine Or.inr ⟨s.set i (l.getD i 0), ?_, by simpa using hl, fun j hj => ?_⟩
    · simp only [laws_toIntS.l0]
      rw [if_pos (by omega), if_pos (by omega), if_pos (by omega), wrap_id (by omega) (by omega), rd_nat]
      rfl
    · rw [getD_set _ _ _ _ _ (by omega)]
      by_cases e : j = i
      · rw [if_pos e, e]
      · rw [if_neg e]
        exact hs j (by omega)
  · intro k s ⟨hl, hs⟩
    simp only [laws_toIntS.l0]
    rw [if_neg (by omega), ext_getD hl hs]

theorem toIntSS_f {k : Nat} {l : List (List Int)} (hk : 2100000 < k) (hl : l.length ≤ 1048576) (hx : ∀ x ∈ l, x.length ≤ 1048576) : laws_toIntSS.f k l = some l := by
  unfold laws_toIntSS.f
  rw [if_pos (by omega), if_pos (by omega)]
  refine run_invB 1048577 (fun k (s : List (List Int)) i => laws_toIntSS.l0 k l s (i : Int)) l.length (fun i s => s.length = l.length ∧ ∀ j, j < i → s.getD j [] = l.getD j []) _ ?_ ?_ k 0 _ (Nat.zero_le _) (by omega) ⟨by simp, fun j hj => absurd hj (Nat.not_lt_zero j)⟩
  · intro k i s hB hi ⟨hl2, hs⟩
    have hlen := hx _ (getD_mem l i [] hi)
    refine Or.inr ⟨s.set i (l.getD i []), ?_, by simpa using hl2, fun j hj => ?_⟩
    · simp only [laws_toIntSS.l0]
      rw [if_pos (by omega), if_pos (by omega), rdL_nat, toIntS_f (by omega) (by omega)]
      simp only [Option.bind_some]
      rw [if_pos (by omega), wrap_id (by omega) (by omega)]
      rfl
    · rw [getD_set _ _ _ _ _ (by omega)]
      by_cases e : j = i
      · rw [if_pos e, e]
      · rw [if_neg e]
        exact hs j (by omega)
  · intro k s _ ⟨hl2, hs⟩
    simp only [laws_toIntSS.l0]
    rw [if_neg (by omega), ext_getD (d := ([] : List Int)) hl2 hs]

theorem toClauses_f {k : Nat} {a : Int} {l : List (List Int)} (hk : 2100000 < k) (hl : l.length ≤ 1048576) (hx : ∀ x ∈ l, x.length ≤ 1048576) : laws_toClauses.f k a l = some (a, l) := by
  unfold laws_toClauses.f
  rw [toIntSS_f hk hl hx]
  rfl

theorem in_f (n a b : Int) : impl_in.f n a b = some (inB a b n) := by
  unfold impl_in.f inB
  by_cases h : n ≥ a
  · rw [if_pos h]; congr 1; simp; omega
  · rw [if_neg h, decide_eq_false (by omega)]
theorem atomOf_f {x : Int} (hx : (Lit.int .i64 x).wf = true) : impl_atomOf.f x = some (absW x) := by
  have hx := wf_iff.1 hx
  unfold impl_atomOf.f absW
  by_cases e : x = -9223372036854775808
  · have ew : wrap64 (-x) = -9223372036854775808 := by rw [e]; unfold wrap64; omega
    rw [ew, mx_eq, if_pos (by omega)]
    congr 1
    omega
  · rw [wrap_id (by omega) (by omega), mx_eq]
    by_cases h : x < 0
    · rw [if_pos h]; congr 1; omega
    · rw [if_neg h]; congr 1; omega
theorem impl_scan {k : Nat} {l : List Int} {a : Int} (hw : ∀ x ∈ l, (Lit.int .i64 x).wf = true) (hk : l.length < k) (hm : l.length ≤ 35184372088832) : impl_ClauseValid.f k l a = some (inB 0 700 a && decide (∀ j, j < l.length → okC l a j = true)) := by
  unfold impl_ClauseValid.f
  rw [in_f]
  simp only [Option.bind_some]
  by_cases ha : 0 ≤ a ∧ a ≤ 700
  · have hin : inB 0 700 a = true := decide_eq_true ha
    rw [hin]
    simp only [if_true, Bool.true_and]
    refine (run_all (fun k i => impl_ClauseValid.l0 k l a l (l.length : Int) (i : Int)) l.length (okC l a) true false ?_ ?_ k hk).trans ?_
    · intro k i hi
      simp only [impl_ClauseValid.l0]
      rw [if_pos (by omega), if_pos (by omega), if_pos (by omega), in_f, wrap_id (x := -a) (by omega) (by omega), wrap_id (x := (i : Int) + 1) (by omega) (by omega)]
      simp only [rd_nat, Option.bind_some]
      unfold okC
      cases hb : inB (-a) a (l.getD i 0)
      · simp
      · have hr := of_decide_eq_true hb
        simp only [if_true, Bool.true_and]
        by_cases h0 : l.getD i 0 = 0
        · rw [if_pos h0, decide_eq_true h0]
          simp
        · rw [if_neg h0, decide_eq_false h0]
          simp only [Bool.not_false, Bool.true_and]
          by_cases hi0 : i = 0
          · subst hi0
            rw [if_neg (by omega)]
            simp
          · have e1 : wrap64 ((i : Int) - 1) = ((i - 1 : Nat) : Int) := by rw [wrap_id (by omega) (by omega)]; omega
            rw [if_pos (show (i : Int) > 0 by omega), e1]
            rw [if_pos (show (0 : Int) ≤ ((i - 1 : Nat) : Int) by omega), if_pos (show ((i - 1 : Nat) : Int) < (l.length : Int) by omega)]
            simp only [rd_nat]
            rw [atomOf_f (hw _ (getD_mem l (i - 1) 0 (by omega))), atomOf_f (hw _ (getD_mem l i 0 hi))]
            simp only [Option.bind_some]
            by_cases hlt : absW (l.getD (i - 1) 0) ≥ absW (l.getD i 0)
            · rw [if_pos hlt, decide_eq_false hi0, decide_eq_false (by omega)]
              simp
            · rw [if_neg hlt, decide_eq_false hi0, decide_eq_true (show absW (l.getD (i - 1) 0) < absW (l.getD i 0) by omega)]
              simp
    · intro k
      simp only [impl_ClauseValid.l0]
      rw [if_neg (by omega)]
    · by_cases h : ∀ j, j < l.length → okC l a j = true
      · rw [if_pos h, decide_eq_true h]
      · rw [if_neg h, decide_eq_false h]
  · have hin : inB 0 700 a = false := decide_eq_false ha
    rw [hin]
    rfl


theorem impl_ClausesValid_f {k : Nat} {a : Int} {l : List (List Int)} (hk : 2100000 < k) (hx : ∀ x ∈ l, x.length ≤ 1048576) (hw : ∀ x ∈ l, ∀ y ∈ x, (Lit.int .i64 y).wf = true) : impl_ClausesValid.f k a l = some (clsOK a l) := by
  unfold impl_ClausesValid.f clsOK
  rw [in_f]
  simp only [Option.bind_some]
  by_cases ha : 0 ≤ a ∧ a ≤ 700
  · rw [show inB 0 700 a = true from decide_eq_true ha]
    simp only [if_true, Bool.true_and]
    by_cases h : (l.length : Int) ≤ 2500
    · rw [if_pos h, decide_eq_true h, Bool.true_and]
      refine allO_of (fun x hx' => ?_)
      have hm := hx x hx'
      rw [impl_scan (hw x hx') (by omega) (by omega), show inB 0 700 a = true from decide_eq_true ha, Bool.true_and]
      rfl
    · rw [if_neg h, decide_eq_false h]
      rfl
  · rw [show inB 0 700 a = false from decide_eq_false ha]
    rfl

theorem eqIntS_f {k : Nat} {a b : List Int} (hk : a.length < k) (hm : a.length ≤ 35184372088832) : laws_eqIntS.f k a b = some (decide (a = b)) := by
  unfold laws_eqIntS.f
  by_cases hab : a.length = b.length
  · rw [if_pos (by omega)]
    refine run_inv (fun k (_ : Unit) i => laws_eqIntS.l0 k a b (i : Int)) a.length (fun i _ => ∀ j, j < i → a.getD j 0 = b.getD j 0) _ ?_ ?_ k 0 () (Nat.zero_le _) (by omega) (fun j hj => absurd hj (Nat.not_lt_zero j))
    · intro k i _ hi hs
      by_cases e : a.getD i 0 = b.getD i 0
      · refine Or.inr ⟨(), ?_, fun j hj => ?_⟩
        · simp only [laws_eqIntS.l0]
          rw [if_pos (by omega), if_pos (by omega), if_pos (by omega), rd_nat, rd_nat, if_pos e, wrap_id (by omega) (by omega)]
          rfl
        · by_cases e2 : j = i
          · rw [e2]; exact e
          · exact hs j (by omega)
      · refine Or.inl ?_
        simp only [laws_eqIntS.l0]
        rw [if_pos (by omega), if_pos (by omega), if_pos (by omega), rd_nat, rd_nat, if_neg e, decide_eq_false (fun h => e (by rw [h]))]
    · intro k _ hs
      simp only [laws_eqIntS.l0]
      rw [if_neg (by omega), decide_eq_true (ext_getD hab (fun j hj => hs j (by omega)))]
  · rw [if_neg (by omega), decide_eq_false (fun h => hab (by rw [h]))]

theorem eqIntSS_f {k : Nat} {l : List (List Int)} (hk : 2100000 < k) (hl : l.length ≤ 1048576) (hx : ∀ x ∈ l, x.length ≤ 1048576) : laws_eqIntSS.f k l l = some true := by
  unfold laws_eqIntSS.f
  rw [if_pos rfl]
  refine run_invB 1048577 (fun k (_ : Unit) i => laws_eqIntSS.l0 k l l (i : Int)) l.length (fun _ _ => True) _ ?_ ?_ k 0 () (Nat.zero_le _) (by omega) trivial
  · intro k i _ hB hi _
    have hlen := hx _ (getD_mem l i [] hi)
    refine Or.inr ⟨(), ?_, trivial⟩
    simp only [laws_eqIntSS.l0]
    rw [if_pos (by omega), if_pos (by omega), if_pos (by omega), rdL_nat, eqIntS_f (by omega) (by omega), wrap_id (by omega) (by omega)]
    simp
  · intro k _ _ _
    simp only [laws_eqIntSS.l0]
    rw [if_neg (by omega)]

theorem eqClauses_f {k : Nat} {a : Int} {l : List (List Int)} (hk : 2100000 < k) (hl : l.length ≤ 1048576) (hx : ∀ x ∈ l, x.length ≤ 1048576) : laws_eqClauses.f k a l a l = some true := by
  unfold laws_eqClauses.f
  rw [if_pos rfl, eqIntSS_f hk hl hx]
  rfl

/-- How many numbers below a bound pass a test. -/
def cntP (p : Nat → Bool) : Nat → Nat
  | 0 => 0
  | n + 1 => cntP p n + if p n = true then 1 else 0
theorem cntP_congr {p q : Nat → Bool} : ∀ {n : Nat}, (∀ i, i < n → p i = q i) → cntP p n = cntP q n := by
  intro n
  induction n with
  | zero => intro _; rfl
  | succ n ih =>
    intro h
    rw [cntP, cntP, ih (fun i hi => h i (by omega)), h n (by omega)]
theorem cntP_none {p : Nat → Bool} : ∀ {n : Nat}, (∀ i, i < n → p i = false) → cntP p n = 0 := by
  intro n
  induction n with
  | zero => intro _; rfl
  | succ n ih =>
    intro h
    rw [cntP, ih (fun i hi => h i (by omega)), h n (by omega)]
    simp
theorem cntP_split {p q s : Nat → Bool} : ∀ {n : Nat}, (∀ i, i < n → (if p i = true then 1 else 0) = (if q i = true then 1 else 0) + (if s i = true then 1 else 0)) → cntP p n = cntP q n + cntP s n := by
  intro n
  induction n with
  | zero => intro _; rfl
  | succ n ih =>
    intro h
    have h1 := h n (by omega)
    have h2 := ih (fun i hi => h i (by omega))
    rw [cntP, cntP, cntP]
    omega
theorem cntP_le {p : Nat → Bool} : ∀ n : Nat, cntP p n ≤ n := by
  intro n
  induction n with
  | zero => exact Nat.le_refl _
  | succ n ih =>
    rw [cntP]
    split <;> omega
theorem cntP_lt {p q : Nat → Bool} {j : Nat} : ∀ {n : Nat}, (∀ i, i < n → p i = true → q i = true) → j < n → q j = true → p j = false → cntP p n < cntP q n := by
  intro n
  induction n with
  | zero => intro _ hj; omega
  | succ n ih =>
    intro h hj hq hp
    rw [cntP, cntP]
    by_cases e : j = n
    · subst e
      rw [hq, hp]
      have : cntP p j ≤ cntP q j := by
        have mono : ∀ m, m ≤ j → cntP p m ≤ cntP q m := by
          intro m
          induction m with
          | zero => intro _; exact Nat.le_refl _
          | succ m ihm =>
            intro hm
            have h1 := ihm (by omega)
            have h2 := h m (by omega)
            rw [cntP, cntP]
            cases hpm : p m with
            | false => simp; omega
            | true => rw [h2 hpm]; simp; omega
        exact mono j (Nat.le_refl _)
      simp
      omega
    · have h1 := ih (fun i hi => h i (by omega)) (by omega) hq hp
      have h2 := h n (by omega)
      cases hpm : p n with
      | false => simp; omega
      | true => rw [h2 hpm]; simp; omega
theorem cntP_one {p : Nat → Bool} {j n : Nat} (hj : j < n) (hp : p j = true) (hu : ∀ i, i < n → p i = true → i = j) : cntP p n = 1 := by
  have key : ∀ m, m ≤ n → cntP p m = if j < m then 1 else 0 := by
    intro m
    induction m with
    | zero => intro _; rfl
    | succ m ih =>
      intro hm
      rw [cntP, ih (by omega)]
      by_cases e : j = m
      · subst e
        rw [hp]
        simp
      · have : p m = false := by
          cases h : p m with
          | false => rfl
          | true => exact absurd (hu m (by omega) h).symm e
        rw [this]
        simp only [Bool.false_eq_true, if_false, Nat.add_zero]
        by_cases h1 : j < m
        · rw [if_pos h1, if_pos (by omega)]
        · rw [if_neg h1, if_neg (by omega)]
  rw [key n (Nat.le_refl _), if_pos hj]

/-- Is a literal true in a row of bits. -/
def litT (r : Nat) (x : Int) : Bool := if x > 0 then r.testBit (x - 1).toNat else !r.testBit (-x - 1).toNat
def sat (l : List (List Int)) (r : Nat) : Bool := l.all (fun c => c.any (litT r))
theorem litT_neg {r : Nat} {x : Int} (h : x ≠ 0) : litT r (-x) = !litT r x := by
  unfold litT
  by_cases c : x > 0
  · rw [if_neg (by omega), if_pos c, Int.neg_neg]
  · rw [if_pos (by omega), if_neg c]
    simp
/-- Do a row's bits agree with what is marked. -/
def agr (m : List Int) (r : Nat) : Bool := decide (∀ a : Nat, a < m.length → 1 ≤ a → m.getD a 0 ≠ 0 → litT r (m.getD a 0) = true)
structure VM (A : Nat) (m : List Int) : Prop where
  len : m.length = A + 1
  at_ : ∀ a : Nat, 1 ≤ a → a ≤ A → m.getD a 0 = 0 ∨ m.getD a 0 = (a : Int) ∨ m.getD a 0 = -(a : Int)
def Z (m : List Int) : Nat := cntP (fun a => decide (1 ≤ a) && m.getD a 0 == 0) m.length
/-- Are clauses' literals of so many atoms. -/
def Lits (A : Nat) (l : List (List Int)) : Prop := ∀ c ∈ l, c.length ≤ 1048576 ∧ ∀ x ∈ c, x ≠ 0 ∧ -(A : Int) ≤ x ∧ x ≤ (A : Int)
def mrk (m : List Int) (x : Int) : Int := m.getD x.natAbs 0
theorem VM.lit_at {A : Nat} {m : List Int} (h : VM A m) {x : Int} (h0 : x ≠ 0) (h1 : -(A : Int) ≤ x) (h2 : x ≤ (A : Int)) : mrk m x = 0 ∨ mrk m x = x ∨ mrk m x = -x := by
  have := h.at_ x.natAbs (by omega) (by omega)
  unfold mrk
  omega
theorem VM.set {A : Nat} {m : List Int} (h : VM A m) {x : Int} (h0 : x ≠ 0) (h1 : -(A : Int) ≤ x) (h2 : x ≤ (A : Int)) : VM A (m.set x.natAbs x) := by
  refine ⟨by rw [List.length_set]; exact h.len, fun a ha hb => ?_⟩
  rw [getD_set _ _ _ _ _ (by rw [h.len]; omega)]
  by_cases e : a = x.natAbs
  · rw [if_pos e]
    omega
  · rw [if_neg e]
    exact h.at_ a ha hb
theorem Z_set {A : Nat} {m : List Int} (h : VM A m) {x : Int} (h0 : x ≠ 0) (h1 : -(A : Int) ≤ x) (h2 : x ≤ (A : Int)) (hz : mrk m x = 0) : Z (m.set x.natAbs x) < Z m := by
  unfold Z
  rw [List.length_set]
  refine cntP_lt (j := x.natAbs) (fun i hi hp => ?_) (by rw [h.len]; omega) ?_ ?_
  · rw [getD_set _ _ _ _ _ (by rw [h.len]; omega)] at hp
    by_cases e : i = x.natAbs
    · rw [if_pos e] at hp
      simp at hp
      omega
    · rw [if_neg e] at hp
      exact hp
  · have : m.getD x.natAbs 0 = 0 := hz
    rw [this]
    simp
    omega
  · rw [getD_set _ _ _ _ _ (by rw [h.len]; omega), if_pos rfl]
    simp
    omega
theorem Z_le {A : Nat} {m : List Int} (h : VM A m) : Z m ≤ A + 1 := by
  unfold Z
  rw [← h.len]
  exact cntP_le _
theorem agr_set {A : Nat} {m : List Int} (h : VM A m) {x : Int} (h0 : x ≠ 0) (h1 : -(A : Int) ≤ x) (h2 : x ≤ (A : Int)) (hz : mrk m x = 0) (r : Nat) : agr (m.set x.natAbs x) r = (agr m r && litT r x) := by
  have hl : x.natAbs < m.length := by rw [h.len]; omega
  unfold agr
  rw [Bool.eq_iff_iff, Bool.and_eq_true, decide_eq_true_eq, decide_eq_true_eq]
  constructor
  · intro g
    refine ⟨fun a ha hb hc => ?_, ?_⟩
    · have e : a ≠ x.natAbs := fun e => hc (by rw [e]; exact hz)
      have := g a (by rw [List.length_set]; exact ha) hb
      rw [getD_set _ _ _ _ _ hl, if_neg e] at this
      exact this hc
    · have := g x.natAbs (by rw [List.length_set]; exact hl) (by omega)
      rw [getD_set _ _ _ _ _ hl, if_pos rfl] at this
      exact this h0
  · rintro ⟨g, gx⟩ a ha hb hc
    rw [List.length_set] at ha
    rw [getD_set _ _ _ _ _ hl] at hc ⊢
    by_cases e : a = x.natAbs
    · rw [if_pos e]
      exact gx
    · rw [if_neg e] at hc ⊢
      exact g a ha hb hc
theorem agr_lit {A : Nat} {m : List Int} (h : VM A m) {x : Int} (h0 : x ≠ 0) (h1 : -(A : Int) ≤ x) (h2 : x ≤ (A : Int)) {r : Nat} (hr : agr m r = true) (hm : mrk m x ≠ 0) : litT r (mrk m x) = true :=
  of_decide_eq_true hr x.natAbs (by rw [h.len]; omega) (by omega) hm

/-- What is left of a clause: how many of its literals are open, and the last one of these; -1 if one is true. -/
structure Left (m c : List Int) (o la : Int) : Prop where
  yes : o = -1 → ∃ x ∈ c, mrk m x = x
  no : o ≠ -1 → 0 ≤ o ∧ ∀ x ∈ c, mrk m x ≠ x
  zero : o = 0 → ∀ x ∈ c, mrk m x ≠ 0
  one : o = 1 → la ∈ c ∧ mrk m la = 0 ∧ ∀ x ∈ c, mrk m x = 0 → x = la
  two : o ≥ 2 → ∃ x ∈ c, mrk m x = 0
theorem abs_f {x : Int} (h0 : -1000 ≤ x) (h1 : x ≤ 1000) : spec_l11Abs.f x = some (x.natAbs : Int) := by
  unfold spec_l11Abs.f
  by_cases c : x < 0
  · rw [if_pos c, wrap_id (by omega) (by omega)]
    refine congrArg some ?_
    omega
  · rw [if_neg c]
    refine congrArg some ?_
    omega
theorem left_f {A : Nat} {m c : List Int} (hA : A ≤ 20) (hm : VM A m) (hc : c.length ≤ 1048576 ∧ ∀ x ∈ c, x ≠ 0 ∧ -(A : Int) ≤ x ∧ x ≤ (A : Int)) : ∃ o la, Left m c o la ∧ ∀ k, c.length < k → spec_l11Left.f k c m = some (o, la) := by
  unfold spec_l11Left.f
  have key : ∀ d i (o la : Int), i + d = c.length → 0 ≤ o → o ≤ (i : Int) → (∀ x ∈ c.take i, mrk m x ≠ x) → (o = 0 → ∀ x ∈ c.take i, mrk m x ≠ 0) → (o = 1 → la ∈ c.take i ∧ mrk m la = 0 ∧ ∀ x ∈ c.take i, mrk m x = 0 → x = la) → (o ≥ 2 → ∃ x ∈ c.take i, mrk m x = 0) →
      ∃ o' la', Left m c o' la' ∧ ∀ k, d < k → spec_l11Left.l0 k c m o la (i : Int) = some (o', la') := by
    intro d
    induction d with
    | zero =>
      intro i o la hi h0 h1 g1 g2 g3 g4
      have e : c.take i = c := List.take_of_length_le (by omega)
      rw [e] at g1 g2 g3 g4
      refine ⟨o, la, Left.mk (fun h => by omega) (fun _ => ⟨h0, g1⟩) g2 g3 g4, fun k hk => ?_⟩
      obtain ⟨k, rfl⟩ : ∃ q, k = q + 1 := ⟨k - 1, by omega⟩
      simp only [spec_l11Left.l0]
      rw [if_neg (by omega)]
    | succ d ih =>
      intro i o la hi h0 h1 g1 g2 g3 g4
      have hi2 : i < c.length := by omega
      obtain ⟨x0, x1, x2⟩ := hc.2 (c.getD i 0) (getD_mem c i 0 hi2)
      have et := take_succ_getD c i 0 hi2
      have unf : ∀ k, spec_l11Left.l0 (k + 1) c m o la (i : Int) = if mrk m (c.getD i 0) = c.getD i 0 then some (-1, 0) else if mrk m (c.getD i 0) = 0 then spec_l11Left.l0 k c m (wrap64 (o + 1)) (c.getD i 0) ((i + 1 : Nat) : Int) else spec_l11Left.l0 k c m o la ((i + 1 : Nat) : Int) := by
        intro k
        simp only [spec_l11Left.l0]
        rw [if_pos (by omega), if_pos (by omega), rd_nat, abs_f (by omega) (by omega)]
        simp only [Option.bind_some]
        rw [if_pos (by omega), if_pos (by rw [hm.len]; omega), rd_nat, show m.getD (c.getD i 0).natAbs 0 = mrk m (c.getD i 0) from rfl, wrap_id (x := (i : Int) + 1) (by omega) (by omega), show (i : Int) + 1 = ((i + 1 : Nat) : Int) from by omega]
      have hxm := getD_mem c i 0 hi2
      generalize c.getD i 0 = x at x0 x1 x2 et hxm unf
      by_cases c1 : mrk m x = x
      · refine ⟨-1, 0, Left.mk (fun _ => ⟨x, hxm, c1⟩) (fun h => absurd rfl h) (fun h => by omega) (fun h => by omega) (fun h => by omega), fun k hk => ?_⟩
        obtain ⟨k, rfl⟩ : ∃ q, k = q + 1 := ⟨k - 1, by omega⟩
        rw [unf, if_pos c1]
      · have mem : ∀ y, y ∈ c.take (i + 1) → y ∈ c.take i ∨ y = x := by
          intro y hy
          rw [et] at hy
          rcases List.mem_append.1 hy with hy | hy
          · exact .inl hy
          · exact .inr (by simpa using hy)
        have mem1 : ∀ y, y ∈ c.take i → y ∈ c.take (i + 1) := fun y hy => by rw [et]; exact List.mem_append_left _ hy
        have mem2 : x ∈ c.take (i + 1) := by rw [et]; simp
        have n1 : ∀ y ∈ c.take (i + 1), mrk m y ≠ y := fun y hy => by
          rcases mem y hy with hy | rfl
          · exact g1 y hy
          · exact c1
        by_cases c2 : mrk m x = 0
        · obtain ⟨o', la', hL, hk'⟩ := ih (i + 1) (o + 1) x (by omega) (by omega) (by omega) n1 (fun h => by omega) (fun h => ⟨mem2, c2, fun y hy hz => by
            rcases mem y hy with hy | rfl
            · exact absurd hz (g2 (by omega) y hy)
            · rfl⟩) (fun _ => ⟨x, mem2, c2⟩)
          refine ⟨o', la', hL, fun k hk => ?_⟩
          obtain ⟨k, rfl⟩ : ∃ q, k = q + 1 := ⟨k - 1, by omega⟩
          rw [unf, if_neg c1, if_pos c2, wrap_id (x := o + 1) (by omega) (by omega)]
          exact hk' k (by omega)
        · obtain ⟨o', la', hL, hk'⟩ := ih (i + 1) o la (by omega) h0 (by omega) n1 (fun h y hy => by
            rcases mem y hy with hy | rfl
            · exact g2 h y hy
            · exact c2) (fun h => by
            obtain ⟨q1, q2, q3⟩ := g3 h
            refine ⟨mem1 _ q1, q2, fun y hy hz => ?_⟩
            rcases mem y hy with hy | rfl
            · exact q3 y hy hz
            · exact absurd hz c2) (fun h => by
            obtain ⟨y, hy, hz⟩ := g4 h
            exact ⟨y, mem1 y hy, hz⟩)
          refine ⟨o', la', hL, fun k hk => ?_⟩
          obtain ⟨k, rfl⟩ : ∃ q, k = q + 1 := ⟨k - 1, by omega⟩
          rw [unf, if_neg c1, if_neg c2]
          exact hk' k (by omega)
  exact key c.length 0 0 0 (by omega) (by omega) (by omega) (by simp) (by simp) (by simp) (by simp)
/-- A clause of which nothing follows by itself. -/
def Fine (m c : List Int) : Prop := ∃ x ∈ c, mrk m x = x ∨ mrk m x = 0
def Same (A : Nat) (l : List (List Int)) (m m' : List Int) : Prop := ∀ r, r < 2 ^ A → (agr m r && sat l r) = (agr m' r && sat l r)
theorem left_dead {A : Nat} {l : List (List Int)} {m c : List Int} {la : Int} (hm : VM A m) (hl : Lits A l) (hc : c ∈ l) (h : Left m c 0 la) (r : Nat) : (agr m r && sat l r) = false := by
  cases ha : agr m r with
  | false => rfl
  | true =>
    cases hs : sat l r with
    | false => rfl
    | true =>
      exfalso
      obtain ⟨x, hx, ht⟩ := List.any_eq_true.1 (List.all_eq_true.1 hs c hc)
      obtain ⟨x0, x1, x2⟩ := (hl c hc).2 x hx
      have h1 := h.zero rfl x hx
      have h2 := (h.no (by decide)).2 x hx
      have h3 := agr_lit hm x0 x1 x2 ha h1
      rcases hm.lit_at x0 x1 x2 with e | e | e
      · exact h1 e
      · exact h2 e
      · rw [e, litT_neg x0, ht] at h3
        cases h3
theorem left_force {A : Nat} {l : List (List Int)} {m c : List Int} {la : Int} (hm : VM A m) (hl : Lits A l) (hc : c ∈ l) (h : Left m c 1 la) : VM A (m.set la.natAbs la) ∧ Same A l m (m.set la.natAbs la) ∧ Z (m.set la.natAbs la) < Z m := by
  obtain ⟨h1, h2, h3⟩ := h.one rfl
  obtain ⟨x0, x1, x2⟩ := (hl c hc).2 la h1
  refine ⟨hm.set x0 x1 x2, fun r _ => ?_, Z_set hm x0 x1 x2 h2⟩
  rw [agr_set hm x0 x1 x2 h2]
  cases ha : agr m r with
  | false => rfl
  | true =>
    cases hs : sat l r with
    | false => simp
    | true =>
      obtain ⟨y, hy, ht⟩ := List.any_eq_true.1 (List.all_eq_true.1 hs c hc)
      obtain ⟨y0, y1, y2⟩ := (hl c hc).2 y hy
      have n2 := (h.no (by decide)).2 y hy
      rcases hm.lit_at y0 y1 y2 with e | e | e
      · rw [← h3 y hy e, ht]
        rfl
      · exact absurd e n2
      · exfalso
        have := agr_lit hm y0 y1 y2 ha (by rw [e]; omega)
        rw [e, litT_neg y0, ht] at this
        cases this
theorem left_fine {m c : List Int} {o la : Int} (h : Left m c o la) (h0 : o ≠ 0) (h1 : o ≠ 1) : Fine m c := by
  by_cases e : o = -1
  · obtain ⟨x, hx, hy⟩ := h.yes e
    exact ⟨x, hx, .inl hy⟩
  · have := (h.no e).1
    obtain ⟨x, hx, hy⟩ := h.two (by omega)
    exact ⟨x, hx, .inr hy⟩
theorem pass {A : Nat} {l : List (List Int)} (hA : A ≤ 20) (hl : Lits A l) (hn : l.length ≤ 2500) : ∀ (d i : Nat) (m : List Int) (flag : Bool), VM A m → i + d = l.length → (flag = false → ∀ j, j < i → Fine m (l.getD j [])) →
    ((∀ k, 1048577 ≤ k → ∃ mm, spec_l11Force.l1 (k + (d + 1)) l m flag (i : Int) = some (false, mm)) ∧ ∀ r, r < 2 ^ A → (agr m r && sat l r) = false) ∨
    ∃ m' flag', VM A m' ∧ Same A l m m' ∧ Z m' ≤ Z m ∧ (flag' = true → flag = true ∨ Z m' < Z m) ∧ (flag' = false → ∀ j, j < l.length → Fine m' (l.getD j [])) ∧ ∀ k, 1048577 ≤ k → spec_l11Force.l1 (k + (d + 1)) l m flag (i : Int) = spec_l11Force.l0 k l m' flag' := by
  intro d
  induction d with
  | zero =>
    intro i m flag hm hi hf
    refine .inr ⟨m, flag, hm, fun _ _ => rfl, Nat.le_refl _, fun h => .inl h, fun h j hj => hf h j (by omega), fun k hk => ?_⟩
    simp only [spec_l11Force.l1]
    rw [if_neg (by omega)]
  | succ d ih =>
    intro i m flag hm hi hf
    have hi2 : i < l.length := by omega
    have hc := getD_mem l i [] hi2
    have e2 : ∀ k, k + (d + 1 + 1) = k + (d + 1) + 1 := fun k => by omega
    have erd : rd_L1 l (i : Int) = l.getD i [] := by unfold rd_L1; simp
    obtain ⟨o, la, hL, hk⟩ := left_f hA hm (hl _ hc)
    have hcl := (hl _ hc).1
    have ew : wrap64 ((i : Int) + 1) = ((i + 1 : Nat) : Int) := by rw [wrap_id (by omega) (by omega)]; omega
    by_cases o0 : o = 0
    · subst o0
      refine .inl ⟨fun k hk2 => ⟨m, ?_⟩, fun r _ => left_dead hm hl hc hL r⟩
      rw [e2]
      simp only [spec_l11Force.l1]
      rw [if_pos (by omega), if_pos (by omega), erd, hk _ (by omega)]
      simp only [Option.bind_some, if_true]
    · by_cases o1 : o = 1
      · subst o1
        obtain ⟨v1, v2, v3⟩ := left_force hm hl hc hL
        obtain ⟨x0, x1, x2⟩ := (hl _ hc).2 la (hL.one rfl).1
        have unf : ∀ k, 1048577 ≤ k → spec_l11Force.l1 (k + (d + 1 + 1)) l m flag (i : Int) = spec_l11Force.l1 (k + (d + 1)) l (m.set la.natAbs la) true ((i + 1 : Nat) : Int) := fun k hk2 => by
          rw [e2]
          simp only [spec_l11Force.l1]
          rw [if_pos (by omega), if_pos (by omega), erd, hk _ (by omega)]
          simp only [Option.bind_some]
          rw [if_neg (by decide)]
          simp only [if_true]
          rw [abs_f (by omega) (by omega)]
          simp only [Option.bind_some]
          rw [if_pos (by omega), if_pos (by rw [hm.len]; omega), ew, Int.toNat_natCast]
        rcases ih (i + 1) (m.set la.natAbs la) true v1 (by omega) (fun h => by cases h) with ⟨w1, w2⟩ | ⟨m', flag', w1, w2, w3, w4, w5, w6⟩
        · refine .inl ⟨fun k hk2 => ?_, fun r hr => by rw [v2 r hr]; exact w2 r hr⟩
          rw [unf k hk2]
          exact w1 k hk2
        · refine .inr ⟨m', flag', w1, fun r hr => by rw [v2 r hr]; exact w2 r hr, by omega, fun _ => .inr (by omega), w5, fun k hk2 => ?_⟩
          rw [unf k hk2]
          exact w6 k hk2
      · have unf : ∀ k, 1048577 ≤ k → spec_l11Force.l1 (k + (d + 1 + 1)) l m flag (i : Int) = spec_l11Force.l1 (k + (d + 1)) l m flag ((i + 1 : Nat) : Int) := fun k hk2 => by
          rw [e2]
          simp only [spec_l11Force.l1]
          rw [if_pos (by omega), if_pos (by omega), erd, hk _ (by omega)]
          simp only [Option.bind_some]
          rw [if_neg o0, if_neg o1, ew]
        have hf' : flag = false → ∀ j, j < i + 1 → Fine m (l.getD j []) := fun h j hj => by
          by_cases e : j = i
          · rw [e]; exact left_fine hL o0 o1
          · exact hf h j (by omega)
        rcases ih (i + 1) m flag hm (by omega) hf' with ⟨w1, w2⟩ | ⟨m', flag', w1, w2, w3, w4, w5, w6⟩
        · exact .inl ⟨fun k hk2 => by rw [unf k hk2]; exact w1 k hk2, w2⟩
        · exact .inr ⟨m', flag', w1, w2, w3, w4, w5, fun k hk2 => by rw [unf k hk2]; exact w6 k hk2⟩
theorem force_f {A : Nat} {l : List (List Int)} (hA : A ≤ 20) (hl : Lits A l) (hn : l.length ≤ 2500) : ∀ (z : Nat) (m : List Int) (k : Nat), VM A m → Z m < z → z * (l.length + 2) + 1048600 ≤ k →
    ∃ b m', spec_l11Force.l0 k l m true = some (b, m') ∧ (b = false → ∀ r, r < 2 ^ A → (agr m r && sat l r) = false) ∧ (b = true → VM A m' ∧ Same A l m m' ∧ Z m' ≤ Z m ∧ ∀ j, j < l.length → Fine m' (l.getD j [])) := by
  intro z
  induction z with
  | zero => intro m k _ hz; omega
  | succ z ih =>
    intro m k hm hz hk
    rw [Nat.add_mul, Nat.one_mul] at hk
    obtain ⟨k, rfl⟩ : ∃ q, k = q + (l.length + 1) + 1 := ⟨k - (l.length + 1) - 1, by omega⟩
    have hk2 : 1048577 ≤ k := by omega
    have e0 : spec_l11Force.l0 (k + (l.length + 1) + 1) l m true = spec_l11Force.l1 (k + (l.length + 1)) l m false ((0 : Nat) : Int) := by
      simp only [spec_l11Force.l0, if_true]
      rfl
    rw [e0]
    rcases pass hA hl hn l.length 0 m false hm (by omega) (fun _ j hj => by omega) with ⟨w1, w2⟩ | ⟨m', flag', w1, w2, w3, w4, w5, w6⟩
    · obtain ⟨mm, e⟩ := w1 k hk2
      exact ⟨false, mm, e, fun _ => w2, fun h => by cases h⟩
    · rw [w6 k hk2]
      cases flag' with
      | false =>
        obtain ⟨k, rfl⟩ : ∃ q, k = q + 1 := ⟨k - 1, by omega⟩
        refine ⟨true, m', by simp only [spec_l11Force.l0, Bool.false_eq_true, if_false], (fun h => by cases h), fun _ => ⟨w1, w2, w3, w5 rfl⟩⟩
      | true =>
        have hz2 : Z m' < z := by
          rcases w4 rfl with h | h
          · cases h
          · omega
        obtain ⟨b, m2, q1, q2, q3⟩ := ih m' k w1 hz2 (by omega)
        refine ⟨b, m2, q1, fun h r hr => by rw [w2 r hr]; exact q2 h r hr, fun h => ?_⟩
        obtain ⟨u1, u2, u3, u4⟩ := q3 h
        exact ⟨u1, fun r hr => by rw [w2 r hr]; exact u2 r hr, by omega, u4⟩
theorem next_f {m : List Int} (hm : m.length ≤ 100) {k : Nat} (hk : 200 < k) (h1 : 1 ≤ m.length) : ∃ a : Nat, spec_l12Next.f k m = some (a : Int) ∧ ((a = 0 ∧ ∀ i, 1 ≤ i → i < m.length → m.getD i 0 ≠ 0) ∨ (1 ≤ a ∧ a < m.length ∧ m.getD a 0 = 0)) := by
  unfold spec_l12Next.f
  have key : ∀ d i k, i + d = m.length → d < k → 1 ≤ i → (∀ j, 1 ≤ j → j < i → m.getD j 0 ≠ 0) → ∃ a : Nat, spec_l12Next.l0 k m (i : Int) = some (a : Int) ∧ ((a = 0 ∧ ∀ i, 1 ≤ i → i < m.length → m.getD i 0 ≠ 0) ∨ (1 ≤ a ∧ a < m.length ∧ m.getD a 0 = 0)) := by
    intro d
    induction d with
    | zero =>
      intro i k hi hk h1 hp
      obtain ⟨k, rfl⟩ : ∃ q, k = q + 1 := ⟨k - 1, by omega⟩
      simp only [spec_l12Next.l0]
      rw [if_neg (by omega)]
      exact ⟨0, rfl, .inl ⟨rfl, fun j g1 g2 => hp j g1 (by omega)⟩⟩
    | succ d ih =>
      intro i k hi hk h1 hp
      obtain ⟨k, rfl⟩ : ∃ q, k = q + 1 := ⟨k - 1, by omega⟩
      simp only [spec_l12Next.l0]
      rw [if_pos (by omega), if_pos (by omega), rd_nat, wrap_id (x := (i : Int) + 1) (by omega) (by omega), show (i : Int) + 1 = ((i + 1 : Nat) : Int) from by omega]
      by_cases c : m.getD i 0 = 0
      · rw [if_pos c]
        exact ⟨i, rfl, .inr ⟨h1, by omega, c⟩⟩
      · rw [if_neg c]
        refine ih (i + 1) k (by omega) (by omega) (by omega) (fun j g1 g2 => ?_)
        by_cases e : j = i
        · rw [e]; exact c
        · exact hp j g1 (by omega)
  exact key (m.length - 1) 1 k (by omega) (by omega) (by omega) (fun j h1 h2 => by omega)
/-- The number with given bits. -/
def ofB (f : Nat → Bool) : Nat → Nat
  | 0 => 0
  | n + 1 => ofB f n ||| (if f n = true then 2 ^ n else 0)
theorem ofB_lt (f : Nat → Bool) : ∀ n, ofB f n < 2 ^ n := by
  intro n
  induction n with
  | zero => exact Nat.pow_pos (by decide)
  | succ n ih =>
    rw [ofB]
    have h1 : 2 ^ n < 2 ^ (n + 1) := Nat.pow_lt_pow_right (by decide) (by omega)
    refine Nat.or_lt_two_pow (by omega) ?_
    split
    · exact h1
    · exact Nat.pow_pos (by decide)
theorem ofB_bit (f : Nat → Bool) : ∀ n i, i < n → (ofB f n).testBit i = f i := by
  intro n
  induction n with
  | zero => intro i hi; omega
  | succ n ih =>
    intro i hi
    rw [ofB, Nat.testBit_or]
    by_cases e : i = n
    · subst e
      have h1 : (ofB f i).testBit i = false := Nat.testBit_lt_two_pow (ofB_lt f i)
      rw [h1]
      cases h : f i with
      | true => simp
      | false => simp
    · rw [ih i (by omega)]
      have : (if f n = true then 2 ^ n else 0).testBit i = false := by
        split
        · rw [Nat.testBit_two_pow]
          exact decide_eq_false (fun h => e h.symm)
        · simp
      rw [this, Bool.or_false]
theorem one_row {A : Nat} {l : List (List Int)} {m : List Int} (hm : VM A m) (hl : Lits A l) (hall : ∀ i, 1 ≤ i → i < m.length → m.getD i 0 ≠ 0) (hf : ∀ j, j < l.length → Fine m (l.getD j [])) : cntP (fun r => agr m r && sat l r) (2 ^ A) = 1 := by
  have lit_of : ∀ r a : Nat, 1 ≤ a → a ≤ A → (litT r (m.getD a 0) = true ↔ r.testBit (a - 1) = decide (m.getD a 0 > 0)) := by
    intro r a h1 h2
    have h3 := hall a h1 (by rw [hm.len]; omega)
    rcases hm.at_ a h1 h2 with e | e | e
    · exact absurd e h3
    · rw [e]
      unfold litT
      rw [if_pos (by omega), decide_eq_true (by omega), show ((a : Int) - 1).toNat = a - 1 from by omega]
    · rw [e]
      unfold litT
      rw [if_neg (by omega), decide_eq_false (by omega), show (- -(a : Int) - 1).toNat = a - 1 from by omega]
      simp
  have agr_of : ∀ r : Nat, agr m r = true ↔ ∀ a : Nat, 1 ≤ a → a ≤ A → r.testBit (a - 1) = decide (m.getD a 0 > 0) := by
    intro r
    unfold agr
    rw [decide_eq_true_eq]
    constructor
    · intro g a h1 h2
      exact (lit_of r a h1 h2).1 (g a (by rw [hm.len]; omega) h1 (hall a h1 (by rw [hm.len]; omega)))
    · intro g a h0 h1 _
      have h2 : a ≤ A := by rw [hm.len] at h0; omega
      exact (lit_of r a h1 h2).2 (g a h1 h2)
  have hr := (agr_of (ofB (fun i => decide (m.getD (i + 1) 0 > 0)) A)).2 (fun a h1 h2 => by rw [ofB_bit _ _ _ (by omega), show a - 1 + 1 = a from by omega])
  refine cntP_one (j := ofB (fun i => decide (m.getD (i + 1) 0 > 0)) A) (ofB_lt _ _) ?_ ?_
  · rw [hr, Bool.true_and]
    refine List.all_eq_true.2 fun c hc => ?_
    obtain ⟨j, hj, rfl⟩ := mem_getD [] hc
    obtain ⟨x, hx, hy⟩ := hf j hj
    obtain ⟨x0, x1, x2⟩ := (hl _ hc).2 x hx
    have hy2 : mrk m x = x := by
      rcases hy with hy | hy
      · exact hy
      · exact absurd hy (hall x.natAbs (by omega) (by rw [hm.len]; omega))
    have := agr_lit hm x0 x1 x2 hr (by rw [hy2]; exact x0)
    rw [hy2] at this
    exact List.any_eq_true.2 ⟨x, hx, this⟩
  · intro i hi hp
    have ha := (agr_of i).1 (Bool.and_eq_true_iff.1 hp).1
    have hb := (agr_of _).1 hr
    refine Nat.eq_of_testBit_eq fun q => ?_
    by_cases hq : q < A
    · have h1 := ha (q + 1) (by omega) (by omega)
      have h2 := hb (q + 1) (by omega) (by omega)
      rw [Nat.add_sub_cancel] at h1 h2
      rw [h1, h2]
    · have h1 : 2 ^ A ≤ 2 ^ q := Nat.pow_le_pow_right (by decide) (by omega)
      rw [Nat.testBit_lt_two_pow (Nat.lt_of_lt_of_le hi h1), Nat.testBit_lt_two_pow (Nat.lt_of_lt_of_le (ofB_lt _ _) h1)]
theorem models_f {A : Nat} {l : List (List Int)} {a : Int} (hA : A ≤ 20) (hl : Lits A l) (hn : l.length ≤ 2500) : ∀ (z : Nat) (m : List Int) (k : Nat), VM A m → Z m < z → 1200000 + z ≤ k →
    spec_l12Models.f k a l m = some ((cntP (fun r => agr m r && sat l r) (2 ^ A) : Nat) : Int) := by
  have hp : 2 ^ A ≤ 1048576 := Nat.le_trans (Nat.pow_le_pow_right (by decide) hA) (by decide)
  intro z
  induction z with
  | zero => intro m k _ hz; omega
  | succ z ih =>
    intro m k hm hz hk
    obtain ⟨k, rfl⟩ : ∃ q, k = q + 1 := ⟨k - 1, by omega⟩
    have hml := hm.len
    rw [spec_l12Models.f, l3Copy_f (by omega) (by omega)]
    simp only [Option.bind_some]
    unfold spec_l11Force.f
    have hz2 := Z_le hm
    have hb : (A + 2) * (l.length + 2) ≤ 22 * 2502 := Nat.mul_le_mul (by omega) (by omega)
    obtain ⟨b, m', e1, e2, e3⟩ := force_f hA hl hn (A + 2) m k hm (by omega) (by omega)
    rw [e1]
    simp only [Option.bind_some]
    cases b with
    | false =>
      rw [if_neg (by decide), cntP_none (e2 rfl)]
      rfl
    | true =>
      rw [if_pos (show true = true from rfl)]
      obtain ⟨v1, v2, v3, v4⟩ := e3 rfl
      have hml' := v1.len
      rw [cntP_congr v2]
      obtain ⟨q, n1, n2⟩ := next_f (m := m') (by omega) (k := k) (by omega) (by omega)
      rw [n1]
      simp only [Option.bind_some]
      rcases n2 with ⟨rfl, hall⟩ | ⟨g1, g2, g3⟩
      · rw [if_pos (by rfl), one_row v1 hl hall v4]
        rfl
      · rw [if_neg (by omega), l3Copy_f (by omega) (by omega)]
        simp only [Option.bind_some]
        rw [if_pos (by omega), if_pos (by omega), if_pos (by omega), Int.toNat_natCast, wrap_id (x := -(q : Int)) (by omega) (by omega)]
        have a1 : (-(q : Int)).natAbs = q := by omega
        have a2 : ((q : Nat) : Int).natAbs = q := by omega
        have z1 : mrk m' (-(q : Int)) = 0 := by unfold mrk; rw [a1]; exact g3
        have z2 : mrk m' (q : Int) = 0 := by unfold mrk; rw [a2]; exact g3
        have s1 := v1.set (x := -(q : Int)) (by omega) (by omega) (by omega)
        have s2 := v1.set (x := (q : Int)) (by omega) (by omega) (by omega)
        have t1 := Z_set v1 (x := -(q : Int)) (by omega) (by omega) (by omega) z1
        have t2 := Z_set v1 (x := (q : Int)) (by omega) (by omega) (by omega) z2
        have r1 := fun r => agr_set v1 (x := -(q : Int)) (by omega) (by omega) (by omega) z1 r
        have r2 := fun r => agr_set v1 (x := (q : Int)) (by omega) (by omega) (by omega) z2 r
        rw [a1] at s1 t1 r1
        rw [a2] at s2 t2 r2
        rw [ih _ k s1 (by omega) (by omega), ih _ k s2 (by omega) (by omega)]
        simp only [Option.bind_some]
        have hs : cntP (fun r => agr m' r && sat l r) (2 ^ A) = cntP (fun r => agr (m'.set q (-(q : Int))) r && sat l r) (2 ^ A) + cntP (fun r => agr (m'.set q (q : Int)) r && sat l r) (2 ^ A) := by
          refine cntP_split fun r hr => ?_
          simp only [r1, r2]
          rw [litT_neg (by omega)]
          cases agr m' r <;> cases litT r (q : Int) <;> cases sat l r <;> rfl
        have c1 := cntP_le (p := fun r => agr m' r && sat l r) (2 ^ A)
        rw [hs] at c1 ⊢
        rw [wrap_id (by omega) (by omega)]
        refine congrArg some ?_
        omega

theorem i64_nat {n : Nat} (h : n < 9223372036854775808) : IntKind.i64.wrap (n : Int) = (n : Int) := by
  rw [IntKind.wrap_i64]
  omega
theorem bv_nat {n : Nat} (h : n < 9223372036854775808) : (BitVec.ofInt 64 (n : Int)).toNat = n := by
  rw [BitVec.ofInt_natCast, BitVec.toNat_ofNat]; exact Nat.mod_eq_of_lt (by omega)
theorem bv_neg {n : Nat} (h : n < 9223372036854775808) : (BitVec.ofInt 64 (-(n : Int) - 1)).toNat = 2 ^ 64 - (n + 1) := by
  rw [BitVec.toNat_ofInt]
  omega
theorem or64 {a b : Nat} (ha : a < 2 ^ 62) (hb : b < 2 ^ 62) : Go.bits .or .i64 (a : Int) (b : Int) = ((a ||| b : Nat) : Int) := by
  have hx : a ||| b < 2 ^ 62 := Nat.or_lt_two_pow ha hb
  show IntKind.i64.wrap ((BitVec.ofInt 64 (a : Int) ||| BitVec.ofInt 64 (b : Int)).toNat : Int) = _
  rw [BitVec.toNat_or, bv_nat (by omega), bv_nat (by omega), i64_nat (by omega)]
theorem and64 {a b : Nat} (ha : a < 2 ^ 62) (hb : b < 2 ^ 62) : Go.bits .and .i64 (a : Int) (b : Int) = ((a &&& b : Nat) : Int) := by
  have hx : a &&& b < 2 ^ 62 := Nat.and_lt_two_pow _ hb
  show IntKind.i64.wrap ((BitVec.ofInt 64 (a : Int) &&& BitVec.ofInt 64 (b : Int)).toNat : Int) = _
  rw [BitVec.toNat_and, bv_nat (by omega), bv_nat (by omega), i64_nat (by omega)]
theorem i64_neg {n : Nat} (h : n < 2 ^ 62) : IntKind.i64.wrap ((2 ^ 64 - (n + 1) : Nat) : Int) = -(n : Int) - 1 := by
  rw [IntKind.wrap_i64]
  omega
theorem not64 {a : Nat} (ha : a < 2 ^ 62) : Go.bits .xor .i64 (-1) (a : Int) = -(a : Int) - 1 := by
  show IntKind.i64.wrap ((BitVec.ofInt 64 (-1) ^^^ BitVec.ofInt 64 (a : Int)).toNat : Int) = _
  have e : (BitVec.ofInt 64 (-1) ^^^ BitVec.ofInt 64 (a : Int)).toNat = 2 ^ 64 - (a + 1) := by
    rw [BitVec.toNat_xor, bv_nat (by omega)]
    refine Nat.eq_of_testBit_eq fun i => ?_
    rw [Nat.testBit_xor, Nat.testBit_two_pow_sub_succ (by omega), show (BitVec.ofInt 64 (-1)).toNat = 2 ^ 64 - 1 from rfl, Nat.testBit_two_pow_sub_one]
    by_cases h : i < 64
    · rw [decide_eq_true h]; simp
    · have : a.testBit i = false := Nat.testBit_lt_two_pow (Nat.lt_of_lt_of_le (show a < 2 ^ 64 by omega) (Nat.pow_le_pow_right (by decide) (by omega)))
      rw [decide_eq_false h, this]
      rfl
  rw [e, i64_neg ha]
theorem nand64 {a b : Nat} (ha : a < 2 ^ 62) (hb : b < 2 ^ 62) : Go.bits .and .i64 (-(a : Int) - 1) (b : Int) = (((2 ^ 64 - (a + 1)) &&& b : Nat) : Int) := by
  have hx : (2 ^ 64 - (a + 1)) &&& b < 2 ^ 62 := Nat.and_lt_two_pow _ hb
  show IntKind.i64.wrap ((BitVec.ofInt 64 (-(a : Int) - 1) &&& BitVec.ofInt 64 (b : Int)).toNat : Int) = _
  rw [BitVec.toNat_and, bv_neg (by omega), bv_nat (by omega), i64_nat (by omega)]
theorem zero_bits (n : Nat) : ((n : Int) == 0) = true ↔ ∀ q, n.testBit q = false := by
  constructor
  · intro h q
    have : n = 0 := by have : (n : Int) = 0 := by simpa using h
                       omega
    rw [this]
    simp
  · intro h
    have : n = 0 := Nat.eq_of_testBit_eq fun q => by rw [h q]; simp
    rw [this]
    rfl
/-- Does a row of bits make true no literal of two rows of bits. -/
def Clr (r p n : Nat) : Prop := ∀ q, (p.testBit q = true → r.testBit q = false) ∧ (n.testBit q = true → r.testBit q = true)
theorem clr_bits {r p n : Nat} (hr : r < 2 ^ 62) (hp : p < 2 ^ 62) (hn : n < 2 ^ 62) : ((Go.bits .and .i64 (r : Int) (p : Int) == 0) && (Go.bits .and .i64 (Go.bits .xor .i64 (-1) (r : Int)) (n : Int) == 0)) = true ↔ Clr r p n := by
  rw [not64 hr, and64 hr hp, nand64 hr hn, Bool.and_eq_true, zero_bits, zero_bits]
  unfold Clr
  constructor
  · rintro ⟨h1, h2⟩ q
    have h3 := h1 q
    have h4 := h2 q
    rw [Nat.testBit_and] at h3 h4
    rw [Nat.testBit_two_pow_sub_succ (by omega)] at h4
    refine ⟨fun h => by rw [h, Bool.and_true] at h3; exact h3, fun h => ?_⟩
    rw [h, Bool.and_true] at h4
    have hq : q < 64 := by
      apply Classical.byContradiction
      intro hq
      have : n.testBit q = false := Nat.testBit_lt_two_pow (Nat.lt_of_lt_of_le (show n < 2 ^ 64 by omega) (Nat.pow_le_pow_right (by decide) (by omega)))
      rw [this] at h
      cases h
    rw [decide_eq_true hq, Bool.true_and] at h4
    cases h5 : r.testBit q with
    | true => rfl
    | false => rw [h5] at h4; cases h4
  · intro h
    refine ⟨fun q => ?_, fun q => ?_⟩
    · rw [Nat.testBit_and]
      cases h1 : p.testBit q with
      | false => exact Bool.and_false _
      | true => rw [(h q).1 h1]; rfl
    · rw [Nat.testBit_and, Nat.testBit_two_pow_sub_succ (by omega)]
      cases h1 : n.testBit q with
      | false => exact Bool.and_false _
      | true => rw [(h q).2 h1]; simp
theorem bit_at {j : Int} (h0 : 0 ≤ j) (h1 : j < 20) : ∃ q : Nat, q < 20 ∧ j.toNat = q ∧ impl_models.bitAt j = ((2 ^ q : Nat) : Int) := by
  refine ⟨j.toNat, by omega, rfl, ?_⟩
  have h2 : 2 ^ j.toNat ≤ 2 ^ 20 := Nat.pow_le_pow_right (by decide) (by omega)
  unfold impl_models.bitAt
  have e : (2 : Int) ^ j.toNat = ((2 ^ j.toNat : Nat) : Int) := by rw [Int.natCast_pow]; rfl
  rw [e]
  generalize 2 ^ j.toNat = M at h2
  rw [wrap_id (by omega) (by omega)]
theorem or_bit {p q : Nat} (hp : p < 2 ^ 20) (hq : q < 20) : p ||| 2 ^ q < 2 ^ 20 := Nat.or_lt_two_pow hp (Nat.pow_lt_pow_right (by decide) hq)
theorem fold_lit {i L : Nat} (hi : i < L) : ∀ (c : List Int) (s : List Int × List Int) (p n : Nat), (∀ x ∈ c, x ≠ 0 ∧ -20 ≤ x ∧ x ≤ 20) → s.1.length = L → s.2.length = L → s.1.getD i 0 = (p : Int) → s.2.getD i 0 = (n : Int) → p < 2 ^ 20 → n < 2 ^ 20 →
    (c.foldl (impl_models.lit i) s).1.length = L ∧ (c.foldl (impl_models.lit i) s).2.length = L ∧ (∀ j, j ≠ i → (c.foldl (impl_models.lit i) s).1.getD j 0 = s.1.getD j 0 ∧ (c.foldl (impl_models.lit i) s).2.getD j 0 = s.2.getD j 0) ∧
    ∃ p' n' : Nat, p' < 2 ^ 20 ∧ n' < 2 ^ 20 ∧ (c.foldl (impl_models.lit i) s).1.getD i 0 = (p' : Int) ∧ (c.foldl (impl_models.lit i) s).2.getD i 0 = (n' : Int) ∧ ∀ r, Clr r p' n' ↔ Clr r p n ∧ c.any (litT r) = false := by
  intro c
  induction c with
  | nil => intro s p n _ h1 h2 h3 h4 h5 h6; exact ⟨h1, h2, fun _ _ => ⟨rfl, rfl⟩, p, n, h5, h6, h3, h4, fun r => by simp⟩
  | cons x c ih =>
    intro s p n hc h1 h2 h3 h4 h5 h6
    obtain ⟨x0, x1, x2⟩ := hc x (by simp)
    have hc' : ∀ y ∈ c, y ≠ 0 ∧ -20 ≤ y ∧ y ≤ 20 := fun y hy => hc y (by simp [hy])
    rw [List.foldl_cons]
    by_cases hx : x > 0
    · obtain ⟨q, q1, q2, q3⟩ := bit_at (j := x - 1) (by omega) (by omega)
      have el : impl_models.lit i s x = (s.1.set i ((p ||| 2 ^ q : Nat) : Int), s.2) := by
        unfold impl_models.lit
        rw [if_pos hx, h3, q3, or64 (by omega) (Nat.lt_trans (Nat.pow_lt_pow_right (by decide) q1) (by decide))]
      rw [el]
      obtain ⟨g1, g2, g3, p', n', g4, g5, g6, g7, g8⟩ := ih (s.1.set i ((p ||| 2 ^ q : Nat) : Int), s.2) (p ||| 2 ^ q) n hc' (by simp only [List.length_set]; exact h1) h2 (by simp only; rw [getD_set _ _ _ _ _ (by omega), if_pos rfl]) h4 (or_bit h5 q1) h6
      refine ⟨g1, g2, fun j hj => ?_, p', n', g4, g5, g6, g7, fun r => ?_⟩
      · obtain ⟨u, v⟩ := g3 j hj
        refine ⟨u.trans ?_, v⟩
        simp only
        rw [getD_set _ _ _ _ _ (by omega), if_neg hj]
      · rw [g8, List.any_cons]
        have : Clr r (p ||| 2 ^ q) n ↔ Clr r p n ∧ litT r x = false := by
          unfold litT Clr
          rw [if_pos hx, q2]
          constructor
          · intro h
            refine ⟨fun t => ⟨fun ht => (h t).1 (by rw [Nat.testBit_or, ht]; rfl), (h t).2⟩, (h q).1 ?_⟩
            rw [Nat.testBit_or, Nat.testBit_two_pow_self, Bool.or_true]
          · rintro ⟨h, hq⟩ t
            refine ⟨fun ht => ?_, (h t).2⟩
            rw [Nat.testBit_or, Bool.or_eq_true] at ht
            rcases ht with ht | ht
            · exact (h t).1 ht
            · rw [Nat.testBit_two_pow] at ht
              rw [← of_decide_eq_true ht]
              exact hq
        rw [this, Bool.or_eq_false_iff, and_assoc]
    · obtain ⟨q, q1, q2, q3⟩ := bit_at (j := -x - 1) (by omega) (by omega)
      have el : impl_models.lit i s x = (s.1, s.2.set i ((n ||| 2 ^ q : Nat) : Int)) := by
        unfold impl_models.lit
        rw [if_neg hx, h4, q3, or64 (by omega) (Nat.lt_trans (Nat.pow_lt_pow_right (by decide) q1) (by decide))]
      rw [el]
      obtain ⟨g1, g2, g3, p', n', g4, g5, g6, g7, g8⟩ := ih (s.1, s.2.set i ((n ||| 2 ^ q : Nat) : Int)) p (n ||| 2 ^ q) hc' h1 (by simp only [List.length_set]; exact h2) h3 (by simp only; rw [getD_set _ _ _ _ _ (by omega), if_pos rfl]) h5 (or_bit h6 q1)
      refine ⟨g1, g2, fun j hj => ?_, p', n', g4, g5, g6, g7, fun r => ?_⟩
      · obtain ⟨u, v⟩ := g3 j hj
        refine ⟨u, v.trans ?_⟩
        simp only
        rw [getD_set _ _ _ _ _ (by omega), if_neg hj]
      · rw [g8, List.any_cons]
        have : Clr r p (n ||| 2 ^ q) ↔ Clr r p n ∧ litT r x = false := by
          unfold litT Clr
          rw [if_neg hx, q2]
          constructor
          · intro h
            refine ⟨fun t => ⟨(h t).1, fun ht => (h t).2 (by rw [Nat.testBit_or, ht]; rfl)⟩, ?_⟩
            rw [(h q).2 (by rw [Nat.testBit_or, Nat.testBit_two_pow_self, Bool.or_true])]
            rfl
          · rintro ⟨h, hq⟩ t
            refine ⟨(h t).1, fun ht => ?_⟩
            rw [Nat.testBit_or, Bool.or_eq_true] at ht
            rcases ht with ht | ht
            · exact (h t).2 ht
            · rw [Nat.testBit_two_pow] at ht
              rw [← of_decide_eq_true ht]
              simpa using hq
        rw [this, Bool.or_eq_false_iff, and_assoc]
theorem all_f {A : Nat} {l : List (List Int)} (hA : A ≤ 20) (hl : Lits A l) : ∀ i, i ≤ l.length →
    (impl_models.all l i).1.length = l.length ∧ (impl_models.all l i).2.length = l.length ∧ (∀ j, i ≤ j → (impl_models.all l i).1.getD j 0 = 0 ∧ (impl_models.all l i).2.getD j 0 = 0) ∧
    ∀ j, j < i → ∃ p n : Nat, p < 2 ^ 20 ∧ n < 2 ^ 20 ∧ (impl_models.all l i).1.getD j 0 = (p : Int) ∧ (impl_models.all l i).2.getD j 0 = (n : Int) ∧ ∀ r, Clr r p n ↔ (l.getD j []).any (litT r) = false := by
  intro i
  induction i with
  | zero =>
    intro _
    refine ⟨by simp [impl_models.all], by simp [impl_models.all], fun j _ => ?_, fun j hj => by omega⟩
    have e : (List.replicate l.length (0 : Int)).getD j 0 = 0 := by
      rw [List.getD_eq_getElem?_getD, List.getElem?_replicate]
      split <;> rfl
    exact ⟨e, e⟩
  | succ i ih =>
    intro hi
    obtain ⟨h1, h2, h3, h4⟩ := ih (by omega)
    obtain ⟨z1, z2⟩ := h3 i (Nat.le_refl _)
    have hc : ∀ x ∈ l.getD i [], x ≠ 0 ∧ -20 ≤ x ∧ x ≤ 20 := fun x hx => by
      obtain ⟨a, b, c⟩ := (hl _ (getD_mem l i [] (by omega))).2 x hx
      exact ⟨a, by omega, by omega⟩
    obtain ⟨g1, g2, g3, p, n, g4, g5, g6, g7, g8⟩ := fold_lit (i := i) (L := l.length) (by omega) (l.getD i []) (impl_models.all l i) 0 0 hc h1 h2 z1 z2 (by decide) (by decide)
    rw [impl_models.all]
    refine ⟨g1, g2, fun j hj => ?_, fun j hj => ?_⟩
    · obtain ⟨u, v⟩ := g3 j (by omega)
      rw [u, v]
      exact h3 j (by omega)
    · by_cases e : j = i
      · subst e
        refine ⟨p, n, g4, g5, g6, g7, fun r => ?_⟩
        rw [g8]
        constructor
        · exact fun h => h.2
        · exact fun h => ⟨fun q => by simp, h⟩
      · obtain ⟨u, v⟩ := g3 j e
        rw [u, v]
        exact h4 j (by omega)
theorem bad_f {A : Nat} {l : List (List Int)} (hA : A ≤ 20) (hl : Lits A l) {r : Nat} (hr : r < 2 ^ 20) : (List.range l.length).any (impl_models.bad l (r : Int)) = !sat l r := by
  have key : ∀ j, j < l.length → impl_models.bad l (r : Int) j = !(l.getD j []).any (litT r) := by
    intro j hj
    obtain ⟨p, n, h1, h2, h3, h4, h5⟩ := (all_f hA hl l.length (Nat.le_refl _)).2.2.2 j hj
    unfold impl_models.bad
    rw [h3, h4, Bool.eq_iff_iff, clr_bits (by omega) (by omega) (by omega), h5]
    simp
  rw [Bool.eq_iff_iff, List.any_eq_true]
  constructor
  · rintro ⟨j, hj, hb⟩
    have hj2 := List.mem_range.1 hj
    rw [key j hj2] at hb
    cases hs : sat l r with
    | false => rfl
    | true =>
      have := List.all_eq_true.1 hs _ (getD_mem l j [] hj2)
      rw [this] at hb
      cases hb
  · intro h
    apply Classical.byContradiction
    intro hn
    have : sat l r = true := List.all_eq_true.2 fun c hc => by
      obtain ⟨j, hj, rfl⟩ := mem_getD [] hc
      cases hq : (l.getD j []).any (litT r) with
      | true => rfl
      | false => exact absurd ⟨j, List.mem_range.2 hj, by rw [key j hj, hq]; rfl⟩ hn
    rw [this] at h
    cases h
theorem cnt_f {A : Nat} {l : List (List Int)} (hA : A ≤ 20) (hl : Lits A l) : ∀ n, n ≤ 2 ^ 20 → impl_models.cnt l n = ((cntP (sat l) n : Nat) : Int) := by
  intro n
  induction n with
  | zero => intro _; rfl
  | succ n ih =>
    intro hn
    have hc := cntP_le (p := sat l) n
    rw [impl_models.cnt, bad_f hA hl (by omega), ih (by omega), cntP]
    cases sat l n with
    | true => simp only [Bool.not_true, Bool.false_eq_true, if_false, if_true]; rw [wrap_id (by omega) (by omega)]; omega
    | false => simp
theorem lits_of {a : Int} {l : List (List Int)} (h : clsOK a l = true) (ha : a ≤ 20) (hx : ∀ x ∈ l, x.length ≤ 1048576) : 0 ≤ a ∧ l.length ≤ 2500 ∧ Lits a.toNat l := by
  unfold clsOK at h
  have h0 : 0 ≤ a ∧ a ≤ 700 := of_decide_eq_true (Bool.and_eq_true_iff.1 h).1
  have h9 : (l.length : Int) ≤ 2500 := of_decide_eq_true (Bool.and_eq_true_iff.1 (Bool.and_eq_true_iff.1 h).2).1
  have h1 := (Bool.and_eq_true_iff.1 (Bool.and_eq_true_iff.1 h).2).2
  refine ⟨h0.1, by omega, fun c hc => ⟨hx c hc, fun x hx => ?_⟩⟩
  have h2 := List.all_eq_true.1 h1 c hc
  obtain ⟨j, hj, rfl⟩ := mem_getD 0 hx
  have h3 := of_decide_eq_true h2 j hj
  unfold okC at h3
  have h4 := (Bool.and_eq_true_iff.1 h3).1
  have h5 := (Bool.and_eq_true_iff.1 h4).1
  have h6 := (Bool.and_eq_true_iff.1 h4).2
  have h7 : -a ≤ c.getD j 0 ∧ c.getD j 0 ≤ a := of_decide_eq_true h5
  have h8 : ¬ c.getD j 0 = 0 := by simpa using h6
  exact ⟨h8, by omega, by omega⟩
def answer (a : Int) (l : List (List Int)) : Int := if clsOK a l = true ∧ a ≤ 20 then ((cntP (sat l) (2 ^ a.toNat) : Nat) : Int) else -1
theorem spec_count {k : Nat} {a : Int} {l : List (List Int)} (hk : 2100000 < k) (hl : l.length ≤ 1048576) (hx : ∀ x ∈ l, x.length ≤ 1048576) : spec_CountModels.f k a l = some (answer a l) := by
  unfold spec_CountModels.f spec_l12Few.f answer
  rw [spec_ClausesValid_f hk hl hx]
  simp only [Option.bind_some]
  cases hc : clsOK a l with
  | false => simp only [Bool.false_eq_true, if_false, false_and, Option.bind_some]
  | true =>
    by_cases ha : a ≤ 20
    · obtain ⟨a0, hn, hL⟩ := lits_of hc ha hx
      obtain ⟨A, rfl⟩ : ∃ A : Nat, a = (A : Int) := ⟨a.toNat, by omega⟩
      rw [Int.toNat_natCast] at hL ⊢
      have ew : (wrap64 ((A : Int) + 1)).toNat = A + 1 := by rw [wrap_id (by omega) (by omega)]; omega
      have ez : ∀ i, (List.replicate (A + 1) (0 : Int)).getD i 0 = 0 := fun i => by
        rw [List.getD_eq_getElem?_getD, List.getElem?_replicate]
        split <;> rfl
      have hm : VM A (List.replicate (A + 1) 0) := ⟨by simp, fun i _ _ => .inl (ez i)⟩
      have hz := Z_le hm
      rw [if_pos rfl, Option.bind_some, if_pos (decide_eq_true ha), if_pos (show true = true ∧ (A : Int) ≤ 20 from ⟨rfl, ha⟩), ew, if_pos (by rw [wrap_id (by omega) (by omega)]; omega), if_pos (by omega), models_f (by omega) hL hn (A + 2) _ k hm (by omega) (by omega)]
      simp only [Option.bind_some]
      rw [cntP_congr (q := sat l) (fun r _ => ?_)]
      have : agr (List.replicate (A + 1) (0 : Int)) r = true := decide_eq_true fun i _ _ h => absurd (ez i) h
      rw [this, Bool.true_and]
    · simp only [if_true, Option.bind_some, ha, decide_false, Bool.false_eq_true, if_false, and_false]
theorem impl_count {k : Nat} {a : Int} {l : List (List Int)} (hk : 2100000 < k) (hx : ∀ x ∈ l, x.length ≤ 1048576) (hw : ∀ x ∈ l, ∀ y ∈ x, (Lit.int .i64 y).wf = true) : impl_CountModels.f k a l = some (answer a l) := by
  unfold impl_CountModels.f impl_freeOk.f answer
  rw [impl_ClausesValid_f hk hx hw]
  simp only [Option.bind_some]
  cases hc : clsOK a l with
  | false => simp
  | true =>
    by_cases ha : a ≤ 20
    · obtain ⟨a0, hn, hL⟩ := lits_of hc ha hx
      have hok : impl_CountModels.ok a l = true := by
        unfold impl_CountModels.ok
        rw [Bool.and_eq_true]
        refine ⟨decide_eq_true ⟨a0, ha, hn⟩, List.all_eq_true.2 fun c hc => ?_⟩
        rw [Bool.and_eq_true]
        refine ⟨decide_eq_true (hx c hc), List.all_eq_true.2 fun x hx => decide_eq_true ?_⟩
        obtain ⟨u, v, w⟩ := (hL c hc).2 x hx
        exact ⟨by omega, by omega, u⟩
      simp only [if_true, Option.bind_some, ha, decide_true, true_and, hok]
      rw [cnt_f (by omega) hL _ (Nat.pow_le_pow_right (by decide) (by omega))]
    · simp [ha]
theorem FnExactCountModels : laws_FnExactCountModels.Pure := by
  intro a l ha hl hx
  refine ⟨2200000, ?_⟩
  unfold laws_FnExactCountModels.f
  obtain ⟨r, hr, hs⟩ := szClauses_f (k := 2200000) (b := a) (l := l) (a := 1048576) (by omega) (by omega) (by omega) hl (fun x h => (hx x h).1)
  rw [hr]
  simp only [Option.bind_some]
  by_cases h : r < 0
  · rw [if_pos h]
  · have hr2 := hs (by omega)
    have h1 : l.length ≤ 1048576 := by omega
    have h2 : ∀ x ∈ l, x.length ≤ 1048576 := fun x hx => by have := total_mem hx; omega
    rw [if_neg h, toClauses_f (by omega) h1 h2]
    simp only [Option.bind_some]
    rw [spec_count (by omega) h1 h2, impl_count (by omega) h2 (fun x h => (hx x h).2)]
    simp only [Option.bind_some]
    rw [eqClauses_f (by omega) h1 h2]
    simp

end Go.Proofs.Ythphgkhmeobadac.Pure
