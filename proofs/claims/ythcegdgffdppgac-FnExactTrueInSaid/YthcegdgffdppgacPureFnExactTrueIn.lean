/- The law on TrueIn holds for all arguments: the program tells what the reference tells, and leaves its arguments as they were.
Conditions: none. -/
import Derived.Test.YthcegdgffdppgacXFnExactTrueInx5
import Derived.Test.YthcegdgffdppgacXLib2
namespace Go.Proofs.Ythcegdgffdppgac.Pure
open Go.RowKit Go.Proofs.Ythcegdgffdppgac.XFnExactTrueIn Go.Proofs.YthcegdgffdppgacW.PrintWords Go.Proofs.YthcegdgffdppgacW.PrintLast Go.Proofs.YthcegdgffdppgacW.PrintMore Go.Proofs.YthcegdgffdppgacX
set_option linter.unusedVariables false
set_option linter.unusedSimpArgs false

theorem rdL_nat (xs : List (List Int)) (i : Nat) : rd_L1 xs (i : Int) = xs.getD i [] := by
  unfold rd_L1
  simp

/-- How many numbers all rows hold. -/
def total (l : List (List Int)) : Nat := (l.map List.length).sum
theorem total_take (l : List (List Int)) (i : Nat) (h : i < l.length) : total (l.take (i + 1)) = total (l.take i) + (l.getD i []).length := by
  unfold total
  rw [take_succ_getD l i [] h, List.map_append, List.sum_append]
  simp
theorem total_le (l : List (List Int)) (i : Nat) : total (l.take i) ≤ total l := by
  have h : total l = total (l.take i) + total (l.drop i) := by
    unfold total
    rw [← List.sum_append, ← List.map_append, List.take_append_drop]
  omega
theorem total_mem {l : List (List Int)} {x : List Int} (h : x ∈ l) : x.length ≤ total l := by
  unfold total
  induction l with
  | nil => cases h
  | cons y l ih =>
    simp only [List.map_cons, List.sum_cons]
    rcases List.mem_cons.1 h with rfl | h
    · omega
    · have := ih h
      omega

theorem szIntS_f {l : List Int} {a : Int} (h0 : 0 ≤ a) (h1 : a ≤ 1048576) (hl : l.length ≤ 9223372036854775807) : laws_szIntS.f l a = some (if a - (l.length : Int) < 0 then -1 else a - (l.length : Int)) := by
  unfold laws_szIntS.f
  rw [wrap_id (by omega) (by omega)]
  by_cases h : a - (l.length : Int) < 0
  · rw [if_pos h, if_pos h]
  · rw [if_neg h, if_neg h]
theorem szIntSS_f {k : Nat} {l : List (List Int)} {a : Int} (hk : 1048577 < k) (h0 : 0 ≤ a) (h1 : a ≤ 1048576) (hl : l.length ≤ 9223372036854775807) (hx : ∀ x ∈ l, x.length ≤ 9223372036854775807) :
    ∃ r, laws_szIntSS.f k l a = some r ∧ (0 ≤ r → r = a - (l.length : Int) - (total l : Int)) := by
  unfold laws_szIntSS.f
  rw [wrap_id (by omega) (by omega)]
  by_cases h : a - (l.length : Int) < 0
  · exact ⟨-1, by rw [if_pos h], fun g => absurd g (by omega)⟩
  · rw [if_neg h]
    refine ⟨if a - (l.length : Int) - (total l : Int) < 0 then -1 else a - (l.length : Int) - (total l : Int), ?_, ?_⟩
    · refine run_inv (fun k (s : Int) i => laws_szIntSS.l0 k l s (i : Int)) l.length (fun i s => s = a - (l.length : Int) - (total (l.take i) : Int) ∧ 0 ≤ s) _ ?_ ?_ k 0 _ (Nat.zero_le _) (by omega) ⟨by simp [total], by omega⟩
      · rintro k i s hi ⟨rfl, hs⟩
        have ht := total_take l i hi
        have hle := total_le l (i + 1)
        have hlen := hx _ (getD_mem l i [] hi)
        simp only [laws_szIntSS.l0]
        rw [if_pos (by omega), if_pos (by omega), rdL_nat, szIntS_f hs (by omega) hlen, wrap_id (x := (i : Int) + 1) (by omega) (by omega)]
        simp only [Option.bind_some]
        by_cases hneg : a - (l.length : Int) - (total (l.take i) : Int) - ((l.getD i []).length : Int) < 0
        · refine Or.inl ?_
          rw [if_pos (show (if a - (l.length : Int) - (total (l.take i) : Int) - ((l.getD i []).length : Int) < 0 then (-1 : Int) else _) < 0 by rw [if_pos hneg]; omega), if_pos (by omega)]
        · refine Or.inr ⟨a - (l.length : Int) - (total (l.take i) : Int) - ((l.getD i []).length : Int), ?_, ?_⟩
          · simp only [if_neg hneg]
            rfl
          · rw [ht]
            exact ⟨by simp only [Int.natCast_add]; omega, by omega⟩
      · rintro k s ⟨rfl, hs⟩
        simp only [laws_szIntSS.l0]
        rw [if_neg (by omega)]
        rw [List.take_length] at hs ⊢
        rw [if_neg (by omega)]
    · intro g
      by_cases hneg : a - (l.length : Int) - (total l : Int) < 0
      · rw [if_pos hneg] at g
        omega
      · rw [if_neg hneg]

theorem szClauses_f {k : Nat} {b : Int} {l : List (List Int)} {a : Int} (hk : 1048577 < k) (h0 : 0 ≤ a) (h1 : a ≤ 1048576) (hl : l.length ≤ 9223372036854775807) (hx : ∀ x ∈ l, x.length ≤ 9223372036854775807) :
    ∃ r, laws_szClauses.f k b l a = some r ∧ (0 ≤ r → r = a - (l.length : Int) - (total l : Int)) := by
  obtain ⟨r, hr, hs⟩ := szIntSS_f (k := k) (l := l) (a := a) hk h0 h1 hl hx
  unfold laws_szClauses.f
  rw [hr]
  simp only [Option.bind_some]
  by_cases h : r < 0
  · exact ⟨-1, by rw [if_pos h], fun h => absurd h (by decide)⟩
  · exact ⟨r, by rw [if_neg h], hs⟩

theorem toIntS_f {k : Nat} {l : List Int} (hk : l.length < k) (hm : l.length ≤ 35184372088832) : laws_toIntS.f k l = some l := by
  unfold laws_toIntS.f
  rw [if_pos (by omega), if_pos (by omega)]
  refine run_inv (fun k (s : List Int) i => laws_toIntS.l0 k l s (i : Int)) l.length (fun i s => s.length = l.length ∧ ∀ j, j < i → s.getD j 0 = l.getD j 0) l ?_ ?_ k 0 _ (Nat.zero_le _) (by omega) ⟨by simp, fun j hj => absurd hj (Nat.not_lt_zero j)⟩
  · intro k i s hi ⟨hl, hs⟩
    refine Or.inr ⟨s.set i (l.getD i 0), ?_, by simpa using hl, fun j hj => ?_⟩
    · simp only [laws_toIntS.l0]
      rw [if_pos (by omega), if_pos (by omega), if_pos (by omega), wrap_id (by omega) (by omega), rd_nat]
      rfl
    · rw [getD_set _ _ _ _ _ (by omega)]
      by_cases e : j = i
      · rw [if_pos e, e]
      · rw [if_neg e]
        exact hs j (by omega)
  · intro k s ⟨hl, hs⟩
    simp only [laws_toIntS.l0]
    rw [if_neg (by omega), ext_getD hl hs]

theorem toIntSS_f {k : Nat} {l : List (List Int)} (hk : 2100000 < k) (hl : l.length ≤ 1048576) (hx : ∀ x ∈ l, x.length ≤ 1048576) : laws_toIntSS.f k l = some l := by
  unfold laws_toIntSS.f
  rw [if_pos (by omega), if_pos (by omega)]
  refine run_invB 1048577 (fun k (s : List (List Int)) i => laws_toIntSS.l0 k l s (i : Int)) l.length (fun i s => s.length = l.length ∧ ∀ j, j < i → s.getD j [] = l.getD j []) _ ?_ ?_ k 0 _ (Nat.zero_le _) (by omega) ⟨by simp, fun j hj => absurd hj (Nat.not_lt_zero j)⟩
  · intro k i s hB hi ⟨hl2, hs⟩
    have hlen := hx _ (getD_mem l i [] hi)
    refine Or.inr ⟨s.set i (l.getD i []), ?_, by simpa using hl2, fun j hj => ?_⟩
    · simp only [laws_toIntSS.l0]
      rw [if_pos (by omega), if_pos (by omega), rdL_nat, toIntS_f (by omega) (by omega)]
      simp only [Option.bind_some]
      rw [if_pos (by omega), wrap_id (by omega) (by omega)]
      rfl
    · rw [getD_set _ _ _ _ _ (by omega)]
      by_cases e : j = i
      · rw [if_pos e, e]
      · rw [if_neg e]
        exact hs j (by omega)
  · intro k s _ ⟨hl2, hs⟩
    simp only [laws_toIntSS.l0]
    rw [if_neg (by omega), ext_getD (d := ([] : List Int)) hl2 hs]

theorem toClauses_f {k : Nat} {a : Int} {l : List (List Int)} (hk : 2100000 < k) (hl : l.length ≤ 1048576) (hx : ∀ x ∈ l, x.length ≤ 1048576) : laws_toClauses.f k a l = some (a, l) := by
  unfold laws_toClauses.f
  rw [toIntSS_f hk hl hx]
  rfl

theorem eqIntS_f {k : Nat} {a b : List Int} (hk : a.length < k) (hm : a.length ≤ 35184372088832) : laws_eqIntS.f k a b = some (decide (a = b)) := by
  unfold laws_eqIntS.f
  by_cases hab : a.length = b.length
  · rw [if_pos (by omega)]
    refine run_inv (fun k (_ : Unit) i => laws_eqIntS.l0 k a b (i : Int)) a.length (fun i _ => ∀ j, j < i → a.getD j 0 = b.getD j 0) _ ?_ ?_ k 0 () (Nat.zero_le _) (by omega) (fun j hj => absurd hj (Nat.not_lt_zero j))
    · intro k i _ hi hs
      by_cases e : a.getD i 0 = b.getD i 0
      · refine Or.inr ⟨(), ?_, fun j hj => ?_⟩
        · simp only [laws_eqIntS.l0]
          rw [if_pos (by omega), if_pos (by omega), if_pos (by omega), rd_nat, rd_nat, if_pos e, wrap_id (by omega) (by omega)]
          rfl
        · by_cases e2 : j = i
          · rw [e2]; exact e
          · exact hs j (by omega)
      · refine Or.inl ?_
        simp only [laws_eqIntS.l0]
        rw [if_pos (by omega), if_pos (by omega), if_pos (by omega), rd_nat, rd_nat, if_neg e, decide_eq_false (fun h => e (by rw [h]))]
    · intro k _ hs
      simp only [laws_eqIntS.l0]
      rw [if_neg (by omega), decide_eq_true (ext_getD hab (fun j hj => hs j (by omega)))]
  · rw [if_neg (by omega), decide_eq_false (fun h => hab (by rw [h]))]

theorem eqIntSS_f {k : Nat} {l : List (List Int)} (hk : 2100000 < k) (hl : l.length ≤ 1048576) (hx : ∀ x ∈ l, x.length ≤ 1048576) : laws_eqIntSS.f k l l = some true := by
  unfold laws_eqIntSS.f
  rw [if_pos rfl]
  refine run_invB 1048577 (fun k (_ : Unit) i => laws_eqIntSS.l0 k l l (i : Int)) l.length (fun _ _ => True) _ ?_ ?_ k 0 () (Nat.zero_le _) (by omega) trivial
  · intro k i _ hB hi _
    have hlen := hx _ (getD_mem l i [] hi)
    refine Or.inr ⟨(), ?_, trivial⟩
    simp only [laws_eqIntSS.l0]
    rw [if_pos (by omega), if_pos (by omega), if_pos (by omega), rdL_nat, eqIntS_f (by omega) (by omega), wrap_id (by omega) (by omega)]
    simp
  · intro k _ _ _
    simp only [laws_eqIntSS.l0]
    rw [if_neg (by omega)]

theorem eqClauses_f {k : Nat} {a : Int} {l : List (List Int)} (hk : 2100000 < k) (hl : l.length ≤ 1048576) (hx : ∀ x ∈ l, x.length ≤ 1048576) : laws_eqClauses.f k a l a l = some true := by
  unfold laws_eqClauses.f
  rw [if_pos rfl, eqIntSS_f hk hl hx]
  rfl

theorem l1In_f (n a b : Int) : spec_l1In.f n a b = some (inB a b n) := by
  unfold spec_l1In.f inB
  by_cases h : n ≥ a
  · rw [if_pos h]; congr 1; simp; omega
  · rw [if_neg h, decide_eq_false (by omega)]

def absW (x : Int) : Int := if x < 0 then wrap64 (-x) else x
def okC (l : List Int) (a : Int) (i : Nat) : Bool := inB (-a) a (l.getD i 0) && !decide (l.getD i 0 = 0) && (decide (i = 0) || decide (absW (l.getD (i - 1) 0) < absW (l.getD i 0)))
theorem l11Abs_f (x : Int) : spec_l11Abs.f x = some (absW x) := by
  unfold spec_l11Abs.f absW
  by_cases h : x < 0
  · rw [if_pos h, if_pos h]
  · rw [if_neg h, if_neg h]
/-- The reference's loop, whatever the number of atoms. -/
theorem spec_scan {k : Nat} {l : List Int} {a : Int} (hk : l.length < k) (hm : l.length ≤ 35184372088832) : ∃ b, spec_ClauseValid.f k l a = some (b && inB 0 700 a) ∧ (0 ≤ a ∧ a ≤ 700 → b = decide (∀ j, j < l.length → okC l a j = true)) := by
  by_cases ha : 0 ≤ a ∧ a ≤ 700
  · have hin : inB 0 700 a = true := decide_eq_true ha
    refine ⟨decide (∀ j, j < l.length → okC l a j = true), ?_, fun _ => rfl⟩
    unfold spec_ClauseValid.f
    refine (run_all (fun k i => spec_ClauseValid.l0 k l a (i : Int)) l.length (okC l a) true false ?_ ?_ k hk).trans ?_
    · intro k i hi
      simp only [spec_ClauseValid.l0]
      rw [if_pos (by omega), if_pos (by omega)]
      unfold spec_l11Lit.f
      simp only [rd_nat]
      unfold okC
      by_cases h0 : l.getD i 0 = 0
      · rw [if_pos h0, decide_eq_true h0]
        simp
      · rw [if_neg h0, l1In_f, wrap_id (x := -a) (by omega) (by omega), decide_eq_false h0]
        simp only [Option.bind_some, Bool.not_false, Bool.and_true]
        cases hb : inB (-a) a (l.getD i 0)
        · simp
        · simp only [if_true, Bool.true_and]
          by_cases hi0 : i = 0
          · subst hi0
            rw [if_neg (by omega), wrap_id (by omega) (by omega)]
            simp
          · have e1 : wrap64 ((i : Int) - 1) = ((i - 1 : Nat) : Int) := by rw [wrap_id (by omega) (by omega)]; omega
            rw [if_pos (show (i : Int) > 0 by omega), e1]
            simp only [rd_nat, l11Abs_f, Option.bind_some]
            rw [if_pos (show (0 : Int) ≤ ((i - 1 : Nat) : Int) by omega), if_pos (show ((i - 1 : Nat) : Int) < (l.length : Int) by omega), wrap_id (x := (i : Int) + 1) (by omega) (by omega)]
            by_cases hlt : absW (l.getD i 0) ≤ absW (l.getD (i - 1) 0)
            · rw [if_pos hlt, decide_eq_false hi0, decide_eq_false (by omega)]
              simp
            · rw [if_neg hlt, decide_eq_false hi0, decide_eq_true (show absW (l.getD (i - 1) 0) < absW (l.getD i 0) by omega)]
              simp
    · intro k
      simp only [spec_ClauseValid.l0]
      rw [if_neg (by omega), l1In_f, hin]
      rfl
    · by_cases h : ∀ j, j < l.length → okC l a j = true
      · rw [if_pos h, decide_eq_true h, hin]
        rfl
      · rw [if_neg h, decide_eq_false h, hin]
        rfl
  · have hin : inB 0 700 a = false := decide_eq_false ha
    refine ⟨true, ?_, fun h => absurd h ha⟩
    rw [hin]
    unfold spec_ClauseValid.f
    refine run_inv (fun k (_ : Unit) i => spec_ClauseValid.l0 k l a (i : Int)) l.length (fun _ _ => True) _ ?_ ?_ k 0 () (Nat.zero_le _) (by omega) trivial
    · intro k i _ hi _
      simp only [spec_ClauseValid.l0]
      rw [if_pos (by omega), if_pos (by omega), wrap_id (x := (i : Int) + 1) (by omega) (by omega)]
      unfold spec_l11Lit.f
      by_cases h0 : rd l (i : Int) = 0
      · rw [if_pos h0]
        exact Or.inl rfl
      · rw [if_neg h0, l1In_f]
        simp only [Option.bind_some]
        cases inB (wrap64 (-a)) a (rd l (i : Int))
        · exact Or.inl rfl
        · simp only [if_true]
          by_cases hi0 : i = 0
          · subst hi0
            rw [if_neg (by omega)]
            exact Or.inr ⟨(), rfl, trivial⟩
          · have e1 : wrap64 ((i : Int) - 1) = ((i - 1 : Nat) : Int) := by rw [wrap_id (by omega) (by omega)]; omega
            rw [if_pos (show (i : Int) > 0 by omega), e1]
            simp only [l11Abs_f, Option.bind_some]
            rw [if_pos (show (0 : Int) ≤ ((i - 1 : Nat) : Int) by omega), if_pos (show ((i - 1 : Nat) : Int) < (l.length : Int) by omega)]
            by_cases hlt : absW (rd l (i : Int)) ≤ absW (rd l ((i - 1 : Nat) : Int))
            · rw [if_pos hlt]
              exact Or.inl rfl
            · rw [if_neg hlt]
              exact Or.inr ⟨(), rfl, trivial⟩
    · intro k _ _
      simp only [spec_ClauseValid.l0]
      rw [if_neg (by omega), l1In_f, hin]
      rfl

def clOK (a : Int) (c : List Int) : Bool := decide (∀ j, j < c.length → okC c a j = true)
def clsOK (a : Int) (l : List (List Int)) : Bool := inB 0 700 a && (decide ((l.length : Int) ≤ 2500) && l.all (clOK a))
theorem spec_ClausesValid_f {k : Nat} {a : Int} {l : List (List Int)} (hk : 2100000 < k) (hl : l.length ≤ 1048576) (hx : ∀ x ∈ l, x.length ≤ 1048576) : spec_ClausesValid.f k a l = some (clsOK a l) := by
  unfold spec_ClausesValid.f clsOK
  obtain ⟨k, rfl⟩ : ∃ m, k = m + 1 := ⟨k - 1, by omega⟩
  rw [l1In_f]
  simp only [Option.bind_some, spec_ClausesValid.j0]
  by_cases ha : 0 ≤ a ∧ a ≤ 700
  · rw [show inB 0 700 a = true from decide_eq_true ha]
    simp only [if_true, Bool.true_and]
    by_cases h : (l.length : Int) > 2500
    · rw [if_pos (decide_eq_true h), decide_eq_false (by omega)]
      rfl
    · rw [if_neg (by simpa using h), decide_eq_true (show (l.length : Int) ≤ 2500 by omega), Bool.true_and]
      refine (run_allB 1048577 (fun k i => spec_ClausesValid.l0 k (i : Int) a l) l.length (fun i => clOK a (l.getD i [])) true false ?_ ?_ k (by omega)).trans ?_
      · intro k i hb hi
        have hm := hx _ (getD_mem l i [] hi)
        obtain ⟨b, h1, h2⟩ := spec_scan (k := k) (l := l.getD i []) (a := a) (by omega) (by omega)
        simp only [spec_ClausesValid.l0, rdL_nat]
        rw [if_pos (by omega), if_pos (by omega), h1, h2 ha, wrap_id (x := (i : Int) + 1) (by omega) (by omega)]
        simp only [Option.bind_some]
        rw [show inB 0 700 a = true from decide_eq_true ha, Bool.and_true]
        rfl
      · intro k _
        simp only [spec_ClausesValid.l0]
        rw [if_neg (by omega)]
      · have e := all_getD l [] (clOK a)
        by_cases h : ∀ j, j < l.length → clOK a (l.getD j []) = true
        · rw [if_pos h, e.1 h]
        · rw [if_neg h]
          cases hh : l.all (clOK a) with
          | false => rfl
          | true => exact absurd (e.2 hh) h
  · rw [show inB 0 700 a = false from decide_eq_false ha]
    rfl

theorem l6Are_f {k : Nat} {l : List Int} (hk : l.length < k) (hm : l.length ≤ 35184372088832) : spec_l6Are.f k l = some (l.all (inB 0 1)) := by
  unfold spec_l6Are.f
  refine (run_allL (fun k i => spec_l6Are.l0 k l (i : Int)) l 0 (inB 0 1) true false ?_ ?_ k hk).trans ?_
  · intro k i hi
    simp only [spec_l6Are.l0]
    rw [if_pos (by omega), if_pos (by omega), l1In_f, rd_nat, wrap_id (by omega) (by omega)]
    rfl
  · intro k
    simp only [spec_l6Are.l0]
    rw [if_neg (by omega)]
  · cases l.all (inB 0 1) <;> simp

theorem in_f (n a b : Int) : impl_in.f n a b = some (inB a b n) := by
  unfold impl_in.f inB
  by_cases h : n ≥ a
  · rw [if_pos h]; congr 1; simp; omega
  · rw [if_neg h, decide_eq_false (by omega)]
theorem atomOf_f {x : Int} (hx : (Lit.int .i64 x).wf = true) : impl_atomOf.f x = some (absW x) := by
  have hx := wf_iff.1 hx
  unfold impl_atomOf.f absW
  by_cases e : x = -9223372036854775808
  · have ew : wrap64 (-x) = -9223372036854775808 := by rw [e]; unfold wrap64; omega
    rw [ew, mx_eq, if_pos (by omega)]
    congr 1
    omega
  · rw [wrap_id (by omega) (by omega), mx_eq]
    by_cases h : x < 0
    · rw [if_pos h]; congr 1; omega
    · rw [if_neg h]; congr 1; omega
theorem impl_scan {k : Nat} {l : List Int} {a : Int} (hw : ∀ x ∈ l, (Lit.int .i64 x).wf = true) (hk : l.length < k) (hm : l.length ≤ 35184372088832) : impl_ClauseValid.f k l a = some (inB 0 700 a && decide (∀ j, j < l.length → okC l a j = true)) := by
  unfold impl_ClauseValid.f
  rw [in_f]
  simp only [Option.bind_some]
  by_cases ha : 0 ≤ a ∧ a ≤ 700
  · have hin : inB 0 700 a = true := decide_eq_true ha
    rw [hin]
    simp only [if_true, Bool.true_and]
    refine (run_all (fun k i => impl_ClauseValid.l0 k l a l (l.length : Int) (i : Int)) l.length (okC l a) true false ?_ ?_ k hk).trans ?_
    · intro k i hi
      simp only [impl_ClauseValid.l0]
      rw [if_pos (by omega), if_pos (by omega), if_pos (by omega), in_f, wrap_id (x := -a) (by omega) (by omega), wrap_id (x := (i : Int) + 1) (by omega) (by omega)]
      simp only [rd_nat, Option.bind_some]
      unfold okC
      cases hb : inB (-a) a (l.getD i 0)
      · simp
      · have hr := of_decide_eq_true hb
        simp only [if_true, Bool.true_and]
        by_cases h0 : l.getD i 0 = 0
        · rw [if_pos h0, decide_eq_true h0]
          simp
        · rw [if_neg h0, decide_eq_false h0]
          simp only [Bool.not_false, Bool.true_and]
          by_cases hi0 : i = 0
          · subst hi0
            rw [if_neg (by omega)]
            simp
          · have e1 : wrap64 ((i : Int) - 1) = ((i - 1 : Nat) : Int) := by rw [wrap_id (by omega) (by omega)]; omega
            rw [if_pos (show (i : Int) > 0 by omega), e1]
            rw [if_pos (show (0 : Int) ≤ ((i - 1 : Nat) : Int) by omega), if_pos (show ((i - 1 : Nat) : Int) < (l.length : Int) by omega)]
            simp only [rd_nat]
            rw [atomOf_f (hw _ (getD_mem l (i - 1) 0 (by omega))), atomOf_f (hw _ (getD_mem l i 0 hi))]
            simp only [Option.bind_some]
            by_cases hlt : absW (l.getD (i - 1) 0) ≥ absW (l.getD i 0)
            · rw [if_pos hlt, decide_eq_false hi0, decide_eq_false (by omega)]
              simp
            · rw [if_neg hlt, decide_eq_false hi0, decide_eq_true (show absW (l.getD (i - 1) 0) < absW (l.getD i 0) by omega)]
              simp
    · intro k
      simp only [impl_ClauseValid.l0]
      rw [if_neg (by omega)]
    · by_cases h : ∀ j, j < l.length → okC l a j = true
      · rw [if_pos h, decide_eq_true h]
      · rw [if_neg h, decide_eq_false h]
  · have hin : inB 0 700 a = false := decide_eq_false ha
    rw [hin]
    rfl


theorem impl_ClausesValid_f {k : Nat} {a : Int} {l : List (List Int)} (hk : 2100000 < k) (hx : ∀ x ∈ l, x.length ≤ 1048576) (hw : ∀ x ∈ l, ∀ y ∈ x, (Lit.int .i64 y).wf = true) : impl_ClausesValid.f k a l = some (clsOK a l) := by
  unfold impl_ClausesValid.f clsOK
  rw [in_f]
  simp only [Option.bind_some]
  by_cases ha : 0 ≤ a ∧ a ≤ 700
  · rw [show inB 0 700 a = true from decide_eq_true ha]
    simp only [if_true, Bool.true_and]
    by_cases h : (l.length : Int) ≤ 2500
    · rw [if_pos h, decide_eq_true h, Bool.true_and]
      refine allO_of (fun x hx' => ?_)
      have hm := hx x hx'
      rw [impl_scan (hw x hx') (by omega) (by omega), show inB 0 700 a = true from decide_eq_true ha, Bool.true_and]
      rfl
    · rw [if_neg h, decide_eq_false h]
      rfl
  · rw [show inB 0 700 a = false from decide_eq_false ha]
    rfl

theorem contains_impl_bitsValid_1 {k : Nat} {l : List Int} (hk : l.length < k) (hm : l.length ≤ 35184372088832) : slices_ContainsFunc_int_int_impl_bitsValid_1.f k l = some (l.any fun x => !(inB 0 1 x)) := by
  unfold slices_ContainsFunc_int_int_impl_bitsValid_1.f slices_IndexFunc_int_int_impl_bitsValid_1.f
  obtain ⟨r, h1, h2⟩ := run_find (fun k i => slices_IndexFunc_int_int_impl_bitsValid_1.l0 k l (l.length : Int) (i : Int)) l 0 (fun x => !(inB 0 1 x)) (by
    intro k i hi
    simp only [slices_IndexFunc_int_int_impl_bitsValid_1.l0]
    rw [if_pos (by omega), if_pos (by omega), if_pos (by omega), rd_nat, wrap_id (by omega) (by omega)]
    unfold impl_bitsValid_1.f
    rw [in_f]
    rfl) (by
    intro k
    simp only [slices_IndexFunc_int_int_impl_bitsValid_1.l0]
    rw [if_neg (by omega)]) k hk
  have h1' : slices_IndexFunc_int_int_impl_bitsValid_1.l0 k l (l.length : Int) 0 = some r := h1
  rw [h1', Option.bind_some, h2]

theorem impl_bitsValid_f {k : Nat} {l : List Int} (hk : l.length < k) (hm : l.length ≤ 35184372088832) : impl_bitsValid.f k l = some (l.all (inB 0 1)) := by
  unfold impl_bitsValid.f
  rw [contains_impl_bitsValid_1 hk hm]
  simp only [Option.bind_some]
  have e : l.all (inB 0 1) = !(l.any fun x => !(inB 0 1 x)) := by simp [List.any_eq_not_all_not]
  rw [e]

def litV (v : List Int) (x : Int) : Bool := if x < 0 then v.getD (-x - 1).toNat 0 == 0 else v.getD (x - 1).toNat 0 == 1
def okL (v : List Int) (x : Int) : Prop := -(v.length : Int) ≤ x ∧ x ≤ (v.length : Int) ∧ x ≠ 0
theorem rd_toNat (v : List Int) (i : Int) : rd v i = v.getD i.toNat 0 := rfl
theorem l11Is_f {v : List Int} {x : Int} (h : okL v x) (hv : v.length ≤ 1048576) : spec_l11Is.f x v = some (litV v x) := by
  obtain ⟨h1, h2, h3⟩ := h
  unfold spec_l11Is.f litV
  by_cases hx : x < 0
  · rw [if_pos hx, if_pos hx, wrap_id (x := -x) (by omega) (by omega), wrap_id (x := -x - 1) (by omega) (by omega), if_pos (by omega), if_pos (by omega)]
    rfl
  · rw [if_neg hx, if_neg hx, wrap_id (x := x - 1) (by omega) (by omega), if_pos (by omega), if_pos (by omega)]
    rfl
theorem litTrue_f {v : List Int} {x : Int} (h : okL v x) (hv : v.length ≤ 1048576) : impl_litTrue.f x v = some (litV v x) := by
  obtain ⟨h1, h2, h3⟩ := h
  unfold impl_litTrue.f litV
  rw [atomOf_f (wf_iff.2 ⟨by omega, by omega⟩)]
  simp only [Option.bind_some]
  unfold absW impl_bit.f
  by_cases hx : x < 0
  · rw [if_pos hx, if_pos hx, wrap_id (x := -x) (by omega) (by omega), wrap_id (x := -x - 1) (by omega) (by omega), if_pos (by omega), if_pos (by omega), if_neg (by simp; omega)]
    rfl
  · rw [if_neg hx, if_neg hx, wrap_id (x := x - 1) (by omega) (by omega), if_pos (by omega), if_pos (by omega), if_pos (by simp; omega)]
    rfl
theorem l11Any_f {k : Nat} {v c : List Int} (hk : c.length < k) (hc : c.length ≤ 1048576) (h : ∀ x ∈ c, okL v x) (hv : v.length ≤ 1048576) : spec_l11Any.f k c v = some (c.any (litV v)) := by
  unfold spec_l11Any.f
  refine (run_all (fun k i => spec_l11Any.l0 k c v (i : Int)) c.length (fun i => !litV v (c.getD i 0)) false true ?_ ?_ k hk).trans ?_
  · intro k i hi
    simp only [spec_l11Any.l0]
    rw [if_pos (by omega), if_pos (by omega), rd_nat, l11Is_f (h _ (getD_mem c i 0 hi)) hv, wrap_id (x := (i : Int) + 1) (by omega) (by omega)]
    simp only [Option.bind_some]
    cases litV v (c.getD i 0)
    · rfl
    · rfl
  · intro k
    simp only [spec_l11Any.l0]
    rw [if_neg (by omega)]
  · have e := all_getD c 0 (fun x => !litV v x)
    have e2 : c.any (litV v) = !(c.all fun x => !litV v x) := by simp [List.any_eq_not_all_not]
    by_cases h : ∀ j, j < c.length → (!litV v (c.getD j 0)) = true
    · rw [if_pos h, e2, e.1 h]
      rfl
    · rw [if_neg h, e2]
      cases hh : c.all fun x => !litV v x with
      | false => rfl
      | true => exact absurd (e.2 hh) h
theorem ok_lits {a : Int} {l : List (List Int)} {v : List Int} (h : clsOK a l = true) (hv : (v.length : Int) = a) : ∀ c ∈ l, ∀ x ∈ c, okL v x := by
  intro c hc x hx
  unfold clsOK at h
  have h1 := (Bool.and_eq_true_iff.1 (Bool.and_eq_true_iff.1 h).2).2
  have h2 := List.all_eq_true.1 h1 c hc
  obtain ⟨j, hj, rfl⟩ := mem_getD 0 hx
  have h3 := of_decide_eq_true h2 j hj
  unfold okC at h3
  have h4 := (Bool.and_eq_true_iff.1 h3).1
  have h5 := (Bool.and_eq_true_iff.1 h4).1
  have h6 := (Bool.and_eq_true_iff.1 h4).2
  have h7 : -a ≤ c.getD j 0 ∧ c.getD j 0 ≤ a := of_decide_eq_true h5
  have h8 : ¬ c.getD j 0 = 0 := by simpa using h6
  exact ⟨by omega, by omega, h8⟩
def trueOK (a : Int) (l : List (List Int)) (v : List Int) : Bool := clsOK a l && (decide ((v.length : Int) = a) && (v.all (inB 0 1) && l.all fun c => c.any (litV v)))
theorem spec_true {k : Nat} {a : Int} {l : List (List Int)} {v : List Int} (hk : 2100000 < k) (hl : l.length ≤ 1048576) (hx : ∀ x ∈ l, x.length ≤ 1048576) (hv : v.length ≤ 1048576) : spec_TrueIn.f k a l v = some (trueOK a l v) := by
  unfold spec_TrueIn.f trueOK
  rw [spec_ClausesValid_f hk hl hx]
  obtain ⟨k, rfl⟩ : ∃ m, k = m + 1 := ⟨k - 1, by omega⟩
  simp only [Option.bind_some, spec_TrueIn.j0]
  cases hc : clsOK a l with
  | false => rfl
  | true =>
    simp only [if_true, Bool.true_and]
    by_cases ha : (v.length : Int) = a
    · rw [if_pos ha, decide_eq_true ha, l6Are_f (by omega) (by omega), Bool.true_and]
      simp only [Option.bind_some]
      cases hb : v.all (inB 0 1) with
      | false => rfl
      | true =>
        simp only [Bool.not_true, Bool.false_eq_true, if_false, Bool.true_and]
        have hok := ok_lits hc ha
        refine (run_allB 1048577 (fun k i => spec_TrueIn.l0 k v (i : Int) a l) l.length (fun i => (l.getD i []).any (litV v)) true false ?_ ?_ k (by omega)).trans ?_
        · intro k i hb hi
          have hm := hx _ (getD_mem l i [] hi)
          simp only [spec_TrueIn.l0, rdL_nat]
          rw [if_pos (by omega), if_pos (by omega), l11Any_f (by omega) hm (hok _ (getD_mem l i [] hi)) hv, wrap_id (x := (i : Int) + 1) (by omega) (by omega)]
          rfl
        · intro k _
          simp only [spec_TrueIn.l0]
          rw [if_neg (by omega)]
        · have e := all_getD l [] (fun c => c.any (litV v))
          by_cases h : ∀ j, j < l.length → ((l.getD j []).any (litV v)) = true
          · rw [if_pos h, e.1 h]
          · rw [if_neg h]
            cases hh : l.all fun c => c.any (litV v) with
            | false => rfl
            | true => exact absurd (e.2 hh) h
    · rw [if_neg ha, decide_eq_false ha]
      rfl
theorem impl_true {k : Nat} {a : Int} {l : List (List Int)} {v : List Int} (hk : 2100000 < k) (hx : ∀ x ∈ l, x.length ≤ 1048576) (hw : ∀ x ∈ l, ∀ y ∈ x, (Lit.int .i64 y).wf = true) (hv : v.length ≤ 1048576) : impl_TrueIn.f k a l v = some (trueOK a l v) := by
  unfold impl_TrueIn.f trueOK
  rw [impl_ClausesValid_f hk hx hw, impl_bitsValid_f (by omega) (by omega)]
  simp only [Option.bind_some]
  cases hc : clsOK a l with
  | false => rfl
  | true =>
    simp only [if_true, Bool.true_and]
    by_cases ha : (v.length : Int) = a
    · rw [if_pos ha, decide_eq_true ha, Bool.true_and]
      cases hb : v.all (inB 0 1) with
      | false => rfl
      | true =>
        simp only [if_true, Bool.true_and]
        have hok := ok_lits hc ha
        have e : impl_trueIn.f l v = some (l.all fun c => c.any (litV v)) := by
          unfold impl_trueIn.f
          refine allO_of (fun c hc => ?_)
          unfold impl_trueIn.g
          rw [allO_of (q := fun x => !litV v x) (fun x hx => by rw [litTrue_f (hok c hc x hx) hv]; rfl)]
          simp [List.any_eq_not_all_not]
        rw [e]
        rfl
    · rw [if_neg ha, decide_eq_false ha]
      rfl
theorem FnExactTrueIn : laws_FnExactTrueIn.Pure := by
  intro a l v ha hl hx hv hvw
  refine ⟨2200000, ?_⟩
  unfold laws_FnExactTrueIn.f
  by_cases h0 : (v.length : Int) > 1048576
  · rw [if_pos h0]
  · rw [if_neg h0]
    obtain ⟨r, hr, hs⟩ := szClauses_f (k := 2200000) (b := a) (l := l) (a := 1048576) (by omega) (by omega) (by omega) hl (fun x h => (hx x h).1)
    rw [hr]
    simp only [Option.bind_some]
    by_cases h : r < 0
    · rw [if_pos h]
    · have hr2 := hs (by omega)
      have h1 : l.length ≤ 1048576 := by omega
      have h2 : ∀ x ∈ l, x.length ≤ 1048576 := fun x hx => by have := total_mem hx; omega
      have h3 : v.length ≤ 1048576 := by omega
      rw [if_neg h, toClauses_f (by omega) h1 h2, toIntS_f (by omega) (by omega)]
      simp only [Option.bind_some]
      rw [spec_true (by omega) h1 h2 h3, impl_true (by omega) h2 (fun x h => (hx x h).2) h3]
      simp only [Option.bind_some]
      rw [eqClauses_f (by omega) h1 h2, eqIntS_f (by omega) (by omega)]
      simp

end Go.Proofs.Ythcegdgffdppgac.Pure
