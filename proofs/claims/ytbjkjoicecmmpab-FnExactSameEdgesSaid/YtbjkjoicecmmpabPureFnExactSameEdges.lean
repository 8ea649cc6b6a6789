/- The law on SameEdges holds for all arguments: the program tells what the reference tells, and leaves its argument as it was.
Conditions: none. -/
import Derived.Test.YtbjkjoicecmmpabXFnExactSameEdgesx6
import Derived.Test.YtbjkjoicecmmpabXLib2
namespace Go.Proofs.Ytbjkjoicecmmpab.Pure
open Go.RowKit Go.Proofs.Ytbjkjoicecmmpab.XFnExactSameEdges Go.Proofs.YtbjkjoicecmmpabW.PrintWords Go.Proofs.YtbjkjoicecmmpabW.PrintLast Go.Proofs.YtbjkjoicecmmpabW.PrintMore Go.Proofs.YtbjkjoicecmmpabX
set_option linter.unusedVariables false
set_option linter.unusedSimpArgs false

theorem rdT142_nat (xs : List S142) (i : Nat) : rd_T142 xs (i : Int) = xs.getD i z142 := by
  unfold rd_T142
  simp

theorem rdT139_nat (xs : List S139) (i : Nat) : rd_T139 xs (i : Int) = xs.getD i z139 := by
  unfold rd_T139
  simp

theorem szAndS_f {l : List S142} {a : Int} (h0 : 0 ≤ a) (h1 : a ≤ 1048576) (hl : l.length ≤ 9223372036854775807) : laws_szAndS.f l a = some (if a - (l.length : Int) < 0 then -1 else a - (l.length : Int)) := by
  unfold laws_szAndS.f
  rw [wrap_id (by omega) (by omega)]
  by_cases h : a - (l.length : Int) < 0
  · rw [if_pos h, if_pos h]
  · rw [if_neg h, if_neg h]

theorem l1In_f (n a b : Int) : spec_l1In.f n a b = some (inB a b n) := by
  unfold spec_l1In.f inB
  by_cases h : n ≥ a
  · rw [if_pos h]; congr 1; simp; omega
  · rw [if_neg h, decide_eq_false (by omega)]

/-- A circuit that is one: its gates' edges lead to what stands ahead. -/
def gateOK (n : Int) (g : List S139) (j : Nat) : Bool := inB 0 (wrap64 (wrap64 (2 * wrap64 (wrap64 (1 + n) + (j : Int))) - 1)) (g.getD j z139).f0 && inB 0 (wrap64 (wrap64 (2 * wrap64 (wrap64 (1 + n) + (j : Int))) - 1)) (g.getD j z139).f1
def circOK (n : Int) (g : List S139) : Bool := inB 0 12 n && !decide ((g.length : Int) > 600) && decide (∀ j, j < g.length → gateOK n g j = true)

theorem spec_CircuitValid_f {k : Nat} {n : Int} {g : List S139} (hk : g.length + 2 < k) (hm : g.length ≤ 35184372088832) : spec_CircuitValid.f k n g = some (circOK n g) := by
  unfold spec_CircuitValid.f circOK
  rw [l1In_f]
  simp only [Option.bind_some]
  obtain ⟨k, rfl⟩ : ∃ m, k = m + 1 := ⟨k - 1, by omega⟩
  cases inB 0 12 n
  · simp [spec_CircuitValid.j0]
  · simp only [if_true, Bool.true_and, spec_CircuitValid.j0]
    cases hd : decide ((g.length : Int) > 600)
    · simp only [Bool.false_eq_true, if_false, Bool.not_false, Bool.true_and]
      refine (run_all (fun k i => spec_CircuitValid.l0 k (i : Int) n g) g.length (gateOK n g) true false ?_ ?_ k (by omega)).trans ?_
      · intro k i hi
        simp only [spec_CircuitValid.l0]
        rw [if_pos (by omega), if_pos (by omega), wrap_id (x := (i : Int) + 1) (by omega) (by omega), l1In_f, l1In_f]
        simp only [rdT139_nat, Option.bind_some]
        unfold gateOK
        cases inB 0 (wrap64 (wrap64 (2 * wrap64 (wrap64 (1 + n) + (i : Int))) - 1)) (g.getD i z139).f0
        · simp
        · simp
      · intro k
        simp only [spec_CircuitValid.l0]
        rw [if_neg (by omega)]
      · by_cases h : ∀ j, j < g.length → gateOK n g j = true
        · rw [if_pos h, decide_eq_true h]
        · rw [if_neg h, decide_eq_false h]
    · simp

theorem circ_bounds {n : Int} {g : List S139} (h : circOK n g = true) : 0 ≤ n ∧ n ≤ 12 ∧ g.length ≤ 600 := by
  unfold circOK at h
  have h1 := Bool.and_eq_true_iff.1 (Bool.and_eq_true_iff.1 h).1
  have h2 : 0 ≤ n ∧ n ≤ 12 := of_decide_eq_true h1.1
  have h3 : ¬ ((g.length : Int) > 600) := by simpa using h1.2
  omega
theorem circ_gate {n : Int} {g : List S139} (h : circOK n g = true) {j : Nat} (hj : j < g.length) : (0 ≤ (g.getD j z139).f0 ∧ (g.getD j z139).f0 < 2 * (1 + n + (j : Int))) ∧ (0 ≤ (g.getD j z139).f1 ∧ (g.getD j z139).f1 < 2 * (1 + n + (j : Int))) := by
  obtain ⟨h1, h2, h3⟩ := circ_bounds h
  have h4 := of_decide_eq_true (Bool.and_eq_true_iff.1 h).2 j hj
  unfold gateOK at h4
  rw [wrap_id (x := 1 + n) (by omega) (by omega), wrap_id (x := 1 + n + (j : Int)) (by omega) (by omega), wrap_id (x := 2 * (1 + n + (j : Int))) (by omega) (by omega), wrap_id (by omega) (by omega)] at h4
  have h5 := Bool.and_eq_true_iff.1 h4
  have h6 := of_decide_eq_true h5.1
  have h7 := of_decide_eq_true h5.2
  omega

/-- What an edge carries: its node's bit, turned where the edge is odd. -/
def edgeV (vs : List Int) (e : Int) : Int := if e % 2 = 1 then 1 - vs.getD (e / 2).toNat 0 else vs.getD (e / 2).toNat 0
def Bits (vs : List Int) : Prop := ∀ x ∈ vs, x = 0 ∨ x = 1
theorem bits_at {vs : List Int} (h : Bits vs) (i : Nat) : vs.getD i 0 = 0 ∨ vs.getD i 0 = 1 := by
  by_cases hi : i < vs.length
  · exact h _ (getD_mem vs i 0 hi)
  · left
    simp [List.getD_eq_getElem?_getD, List.getElem?_eq_none (Nat.le_of_not_lt hi)]
theorem edgeV_bit {vs : List Int} (h : Bits vs) (e : Int) : edgeV vs e = 0 ∨ edgeV vs e = 1 := by
  unfold edgeV
  have := bits_at h (e / 2).toNat
  split <;> omega
theorem bits_of_all {v : List Int} (h : v.all (inB 0 1) = true) : Bits v := by
  intro x hx
  have h1 := List.all_eq_true.1 h x hx
  have h2 : 0 ≤ x ∧ x ≤ 1 := of_decide_eq_true h1
  omega

theorem l7Of_f {vs : List Int} {e : Int} (hb : Bits vs) (h0 : 0 ≤ e) (h1 : e < 2 * (vs.length : Int)) (hm : vs.length ≤ 1048576) : spec_l7Of.f vs e = some (edgeV vs e) := by
  unfold spec_l7Of.f edgeV
  rw [Int.tmod_eq_emod_of_nonneg h0, Int.tdiv_eq_ediv_of_nonneg h0, wrap_id (x := e / 2) (by omega) (by omega)]
  have hx := bits_at hb (e / 2).toNat
  have hr : rd vs (e / 2) = vs.getD (e / 2).toNat 0 := by
    obtain ⟨j, hj⟩ := Int.eq_ofNat_of_zero_le (show 0 ≤ e / 2 by omega)
    rw [hj, Int.toNat_natCast]
    exact rd_nat vs j
  simp only [hr, if_pos (show 0 ≤ e / 2 by omega), if_pos (show e / 2 < (vs.length : Int) by omega), wrap_id (x := 1 - vs.getD (e / 2).toNat 0) (by omega) (by omega)]
  split <;> rfl

/-- A gate behind the others. -/
def gateV (vs : List Int) (x : S139) : List Int := vs ++ [edgeV vs x.f0 * edgeV vs x.f1]
def valuesR (g : List S139) (v : List Int) : List Int := g.foldl gateV ([0] ++ v)
theorem bits_start {v : List Int} (h : Bits v) : Bits ([0] ++ v) := by
  intro x hx
  rcases List.mem_append.1 hx with hx | hx
  · left; simpa using hx
  · exact h x hx
theorem gateV_bits {vs : List Int} (h : Bits vs) (x : S139) : Bits (gateV vs x) := by
  intro y hy
  unfold gateV at hy
  rcases List.mem_append.1 hy with hy | hy
  · exact h y hy
  · have hy : y = edgeV vs x.f0 * edgeV vs x.f1 := by simpa using hy
    rcases edgeV_bit h x.f0 with h1 | h1 <;> rcases edgeV_bit h x.f1 with h2 | h2 <;> rw [h1, h2] at hy <;> simp [hy]
theorem fold_inv (g : List S139) {v : List Int} (hv : Bits v) : ∀ i, i ≤ g.length → Bits ((g.take i).foldl gateV ([0] ++ v)) ∧ ((g.take i).foldl gateV ([0] ++ v)).length = 1 + v.length + i := by
  intro i
  induction i with
  | zero =>
    intro _
    refine ⟨bits_start hv, ?_⟩
    simp
    omega
  | succ i ih =>
    intro hi
    obtain ⟨h1, h2⟩ := ih (by omega)
    rw [foldl_take_succ gateV ([0] ++ v) g z139 i (by omega)]
    refine ⟨gateV_bits h1 _, ?_⟩
    have h3 : ∀ (vs : List Int) x, (gateV vs x).length = vs.length + 1 := fun vs x => by simp [gateV]
    rw [h3, h2]
    omega
theorem values_inv (g : List S139) {v : List Int} (hv : Bits v) : Bits (valuesR g v) ∧ (valuesR g v).length = 1 + v.length + g.length := by
  have h := fold_inv g hv g.length (Nat.le_refl _)
  rw [List.take_length] at h
  exact h

theorem l7Run_f {k : Nat} {n : Int} {g : List S139} {v : List Int} (hk : g.length + v.length + 5 < k) (h : circOK n g = true) (hn : (v.length : Int) = n) (hv : Bits v) : spec_l7Run.f k n g v = some (valuesR g v) := by
  unfold spec_l7Run.f
  obtain ⟨b1, b2, b3⟩ := circ_bounds h
  subst hn
  obtain ⟨k, rfl⟩ : ∃ m, k = m + (v.length + 1) := ⟨k - (v.length + 1), by omega⟩
  refine Eq.trans (run_goto (fun k (s : List Int) i => spec_l7Run.l0 k v s (i : Int) (v.length : Int) g) v.length (fun i s => s = [0] ++ v.take i) (fun k => spec_l7Run.l1 k ([0] ++ v) 0 (v.length : Int) g) ?_ ?_ v.length k 0 [0] (by omega) (by simp)) ?_
  · rintro k i s hi rfl
    have hl : ([0] ++ v.take i).length = 1 + i := by rw [List.length_append, List.length_take]; simp; omega
    refine ⟨_, ?_, rfl⟩
    simp only [spec_l7Run.l0]
    rw [if_pos (by omega), if_pos (by omega), if_pos (by omega), if_pos (by omega), wrap_id (x := (i : Int) + 1) (by omega) (by omega), rd_nat, take_succ_getD v i 0 hi, List.append_assoc]
    rfl
  · rintro k s rfl
    simp only [spec_l7Run.l0]
    rw [if_neg (by omega), List.take_length]
  · refine run_inv (fun k (s : List Int) i => spec_l7Run.l1 k s (i : Int) (v.length : Int) g) g.length (fun i s => s = (g.take i).foldl gateV ([0] ++ v)) _ ?_ ?_ k 0 _ (Nat.zero_le _) (by omega) rfl
    · rintro k i s hi rfl
      obtain ⟨h1, h2⟩ := fold_inv g hv i (by omega)
      have h3 := circ_gate h hi
      refine Or.inr ⟨_, ?_, (foldl_take_succ gateV ([0] ++ v) g z139 i hi).symm⟩
      simp only [spec_l7Run.l1, rdT139_nat]
      rw [if_pos (by omega), if_pos (by omega), l7Of_f h1 h3.1.1 (by rw [h2]; omega) (by omega), l7Of_f h1 h3.2.1 (by rw [h2]; omega) (by omega)]
      simp only [Option.bind_some]
      have h4 : 0 ≤ edgeV ((g.take i).foldl gateV ([0] ++ v)) (g.getD i z139).f0 * edgeV ((g.take i).foldl gateV ([0] ++ v)) (g.getD i z139).f1 ∧ edgeV ((g.take i).foldl gateV ([0] ++ v)) (g.getD i z139).f0 * edgeV ((g.take i).foldl gateV ([0] ++ v)) (g.getD i z139).f1 ≤ 1 := by
        rcases edgeV_bit h1 (g.getD i z139).f0 with e1 | e1 <;> rcases edgeV_bit h1 (g.getD i z139).f1 with e2 | e2 <;> rw [e1, e2] <;> decide
      rw [if_pos (by omega), wrap_id (x := (i : Int) + 1) (by omega) (by omega), wrap_id (by omega) (by omega)]
      rfl
    · rintro k s rfl
      simp only [spec_l7Run.l1]
      rw [if_neg (by omega), List.take_length]
      rfl

theorem l6Value_f {k m : Nat} {n : Int} (hn : 0 ≤ n) (hm : m ≤ 60) (hk : m < k) : spec_l6Value.f k n (m : Int) = some (bitsL n m) := by
  unfold spec_l6Value.f
  rw [wrap_id (by omega) (by omega)]
  have e0 : ((m : Int) - 1) = (m : Int) - 1 - ((0 : Nat) : Int) := by omega
  rw [e0]
  refine run_inv (fun k (s : List Int) i => spec_l6Value.l0 k n s ((m : Int) - 1 - (i : Int))) m (fun i s => s = (bitsL n m).take i) _ ?_ ?_ k 0 [] (Nat.zero_le _) (by omega) (by simp)
  · rintro k i s hi rfl
    have hl : ((bitsL n m).take i).length = i := by rw [List.length_take, bitsL_length]; omega
    refine Or.inr ⟨_, ?_, (take_succ_getD (bitsL n m) i 0 (by rw [bitsL_length]; exact hi)).symm⟩
    simp only [spec_l6Value.l0]
    have ej : ((m : Int) - 1 - (i : Int)) = ((m - 1 - i : Nat) : Int) := by omega
    have ew : wrap64 (((m - 1 - i : Nat) : Int) - 1) = (m : Int) - 1 - ((i + 1 : Nat) : Int) := by rw [wrap_id (by omega) (by omega)]; omega
    rw [ej, if_pos (by omega), if_pos (by omega), if_pos (by rw [hl]; omega), shr_nat _ _ (by omega), Int.tmod_eq_emod_of_nonneg (Int.ediv_nonneg hn (Int.le_of_lt (pow_pos_int _))), ew, bitsL_getD _ _ _ hi]
  · rintro k s rfl
    simp only [spec_l6Value.l0]
    rw [if_neg (by omega), List.take_of_length_le (by rw [bitsL_length]; omega)]

def cAnd (x : S142) : S139 := ⟨x.f0, x.f1⟩
theorem toAndS_f {k : Nat} {l : List S142} (hk : l.length < k) (hm : l.length ≤ 17592186044416) : laws_toAndS.f k l = some (l.map cAnd) := by
  unfold laws_toAndS.f
  rw [if_pos (by omega), if_pos (by omega)]
  refine run_inv (fun k (s : List S139) i => laws_toAndS.l0 k l s (i : Int)) l.length (fun i s => s.length = l.length ∧ ∀ j, j < i → s.getD j z139 = (l.map cAnd).getD j z139) _ ?_ ?_ k 0 _ (Nat.zero_le _) (by omega) ⟨by simp, fun j hj => absurd hj (Nat.not_lt_zero j)⟩
  · intro k i s hi ⟨hl, hs⟩
    refine Or.inr ⟨s.set i (cAnd (l.getD i z142)), ?_, by simpa using hl, fun j hj => ?_⟩
    · simp only [laws_toAndS.l0]
      rw [if_pos (by omega), if_pos (by omega)]
      simp only [laws_toAnd.f, Option.bind_some, rdT142_nat]
      rw [if_pos (by omega), wrap_id (by omega) (by omega)]
      rfl
    · rw [getD_set _ _ _ _ _ (by omega)]
      by_cases e : j = i
      · rw [if_pos e, e]
        simp [List.getD_eq_getElem?_getD, hi]
      · rw [if_neg e]
        exact hs j (by omega)
  · intro k s ⟨hl, hs⟩
    simp only [laws_toAndS.l0]
    rw [if_neg (by omega), ext_getD (d := z139) (s := s) (l := l.map cAnd) (by simpa using hl) (fun j hj => hs j (by simpa using hj))]

theorem in_f (n a b : Int) : impl_in.f n a b = some (inB a b n) := by
  unfold impl_in.f inB
  by_cases h : n ≥ a
  · rw [if_pos h]; congr 1; simp; omega
  · rw [if_neg h, decide_eq_false (by omega)]

theorem impl_CircuitValid_f {k : Nat} {n : Int} {g : List S139} (hk : g.length + 2 < k) (hm : g.length ≤ 35184372088832) : impl_CircuitValid.f k n g = some (circOK n g) := by
  unfold impl_CircuitValid.f circOK
  rw [in_f]
  simp only [Option.bind_some]
  obtain ⟨k, rfl⟩ : ∃ m, k = m + 1 := ⟨k - 1, by omega⟩
  cases inB 0 12 n
  · simp [impl_CircuitValid.j0]
  · simp only [if_true, Bool.true_and, impl_CircuitValid.j0]
    cases hd : decide ((g.length : Int) > 600)
    · simp only [Bool.false_eq_true, if_false, Bool.not_false, Bool.true_and]
      refine (run_all (fun k i => impl_CircuitValid.l0 k g (g.length : Int) (i : Int) n g) g.length (gateOK n g) true false ?_ ?_ k (by omega)).trans ?_
      · intro k i hi
        simp only [impl_CircuitValid.l0]
        rw [if_pos (by omega), if_pos (by omega), if_pos (by omega), wrap_id (x := (i : Int) + 1) (by omega) (by omega), in_f, in_f]
        simp only [rdT139_nat, Option.bind_some]
        unfold gateOK
        cases inB 0 (wrap64 (wrap64 (2 * wrap64 (wrap64 (1 + n) + (i : Int))) - 1)) (g.getD i z139).f0
        · simp
        · simp
      · intro k
        simp only [impl_CircuitValid.l0]
        rw [if_neg (by omega)]
      · by_cases h : ∀ j, j < g.length → gateOK n g j = true
        · rw [if_pos h, decide_eq_true h]
        · rw [if_neg h, decide_eq_false h]
    · simp

theorem edgeOf_f {vs : List Int} {e : Int} (hb : Bits vs) (h0 : 0 ≤ e) (h1 : e < 2 * (vs.length : Int)) (hm : vs.length ≤ 1048576) : impl_edgeOf.f vs e = some (edgeV vs e) := by
  unfold impl_edgeOf.f edgeV
  rw [Int.tdiv_eq_ediv_of_nonneg h0, wrap_id (x := e / 2) (by omega) (by omega)]
  have hx := bits_at hb (e / 2).toNat
  have hr : rd vs (e / 2) = vs.getD (e / 2).toNat 0 := by
    obtain ⟨j, hj⟩ := Int.eq_ofNat_of_zero_le (show 0 ≤ e / 2 by omega)
    rw [hj, Int.toNat_natCast]
    exact rd_nat vs j
  rw [hr, if_pos (show 0 ≤ e / 2 by omega), if_pos (show e / 2 < (vs.length : Int) by omega), and_one h0 (by omega)]
  congr 1
  rcases Int.emod_two_eq e with h2 | h2
  · rw [h2, if_neg (by omega)]
    rcases hx with hx | hx
    · rw [hx]; decide
    · rw [hx]; decide
  · rw [h2, if_pos rfl]
    rcases hx with hx | hx
    · rw [hx]; decide
    · rw [hx]; decide

theorem and_bits {x y : Int} (hx : x = 0 ∨ x = 1) (hy : y = 0 ∨ y = 1) : Go.bits .and .i64 x y = x * y := by
  rcases hx with rfl | rfl <;> rcases hy with rfl | rfl <;> decide
theorem Circuit_values_f {k : Nat} {n : Int} {g : List S139} {v : List Int} (hk : g.length + v.length + 5 < k) (h : circOK n g = true) (hn : (v.length : Int) = n) (hv : Bits v) : impl_Circuit_values.f k n g v = some (valuesR g v) := by
  unfold impl_Circuit_values.f
  obtain ⟨b1, b2, b3⟩ := circ_bounds h
  subst hn
  simp only [Option.bind_some]
  rw [if_pos (by simp; omega)]
  refine run_inv (fun k (s : List Int) i => impl_Circuit_values.l0 k s g (g.length : Int) (i : Int)) g.length (fun i s => s = (g.take i).foldl gateV ([0] ++ v)) _ ?_ ?_ k 0 _ (Nat.zero_le _) (by omega) rfl
  · rintro k i s hi rfl
    obtain ⟨h1, h2⟩ := fold_inv g hv i (by omega)
    have h3 := circ_gate h hi
    refine Or.inr ⟨_, ?_, (foldl_take_succ gateV ([0] ++ v) g z139 i hi).symm⟩
    simp only [impl_Circuit_values.l0, rdT139_nat]
    rw [if_pos (by omega), if_pos (by omega), if_pos (by omega), edgeOf_f h1 h3.1.1 (by rw [h2]; omega) (by omega), edgeOf_f h1 h3.2.1 (by rw [h2]; omega) (by omega)]
    simp only [Option.bind_some]
    rw [if_pos (by omega), wrap_id (x := (i : Int) + 1) (by omega) (by omega), and_bits (edgeV_bit h1 _) (edgeV_bit h1 _)]
    rfl
  · rintro k s rfl
    simp only [impl_Circuit_values.l0]
    rw [if_neg (by omega), List.take_length]
    rfl

theorem valueBits_f {k m : Nat} {n : Int} (hn : 0 ≤ n) (hn2 : n ≤ 9223372036854775807) (hm : m ≤ 60) (hk : m < k) : impl_valueBits.f k n (m : Int) = some (bitsL n m) := by
  unfold impl_valueBits.f
  rw [if_pos (by omega), if_pos (by omega)]
  simp only [Option.bind_some, Int.toNat_natCast, List.length_replicate]
  refine (?_ : impl_valueBits.l0 k n (m : Int) (List.replicate m 0) (m : Int) ((0 : Nat) : Int) = _)
  refine run_inv (fun k (s : List Int) i => impl_valueBits.l0 k n (m : Int) s (m : Int) (i : Int)) m (fun i s => s.length = m ∧ ∀ j, j < i → s.getD j 0 = (bitsL n m).getD j 0) _ ?_ ?_ k 0 _ (Nat.zero_le _) (by omega) ⟨by simp, fun j hj => absurd hj (Nat.not_lt_zero j)⟩
  · intro k i s hi ⟨hl, hs⟩
    refine Or.inr ⟨s.set i ((bitsL n m).getD i 0), ?_, by simpa using hl, fun j hj => ?_⟩
    · simp only [impl_valueBits.l0]
      have ej : wrap64 (wrap64 ((m : Int) - 1) - (i : Int)) = ((m - 1 - i : Nat) : Int) := by
        rw [wrap_id (x := (m : Int) - 1) (by omega) (by omega), wrap_id (by omega) (by omega)]
        omega
      have h2 : n / 2 ^ (m - 1 - i) ≤ n := Int.ediv_le_self _ hn
      rw [ej, if_pos (by omega), if_pos (by omega), if_pos (by omega), if_pos (by omega), shr_nat _ _ (by omega), and_one (Int.ediv_nonneg hn (Int.le_of_lt (pow_pos_int _))) (by omega), wrap_id (by omega) (by omega), bitsL_getD _ _ _ hi]
      rfl
    · rw [getD_set _ _ _ _ _ (by omega)]
      by_cases e : j = i
      · rw [if_pos e, e]
      · rw [if_neg e]
        exact hs j (by omega)
  · intro k s ⟨hl, hs⟩
    simp only [impl_valueBits.l0]
    rw [if_neg (by omega), ext_getD (d := 0) (l := bitsL n m) (by rw [bitsL_length]; exact hl) (fun j hj => hs j (by rw [bitsL_length] at hj; exact hj))]

theorem eqAndS_f {k : Nat} {l : List S139} (hk : l.length < k) (hm : l.length ≤ 35184372088832) : laws_eqAndS.f k l l = some true := by
  unfold laws_eqAndS.f
  rw [if_pos rfl]
  refine run_inv (fun k (_ : Unit) i => laws_eqAndS.l0 k l l (i : Int)) l.length (fun _ _ => True) _ ?_ ?_ k 0 () (Nat.zero_le _) (by omega) trivial
  · intro k i _ hi _
    refine Or.inr ⟨(), ?_, trivial⟩
    simp only [laws_eqAndS.l0]
    rw [if_pos (by omega), if_pos (by omega), if_pos (by omega), wrap_id (by omega) (by omega)]
    simp only [laws_eqAnd.f, if_true, Option.bind_some]
    rfl
  · intro k _ _
    simp only [laws_eqAndS.l0]
    rw [if_neg (by omega)]

def edgeOK (n : Int) (g : List S139) (e : Int) : Bool := inB 0 (2 * (1 + n + (g.length : Int)) - 1) e
def sameR (n : Int) (g : List S139) (a b : Int) : Bool := circOK n g && (edgeOK n g a && (edgeOK n g b && decide (∀ x : Nat, x < 2 ^ n.toNat → edgeV (valuesR g (bitsL (x : Int) n.toNat)) a = edgeV (valuesR g (bitsL (x : Int) n.toNat)) b)))
theorem bits_bitsL (n : Int) (m : Nat) : Bits (bitsL n m) := by
  intro x hx
  obtain ⟨j, hj, rfl⟩ := mem_getD 0 hx
  rw [bitsL_length] at hj
  rw [bitsL_getD _ _ _ hj]
  omega
theorem edge_of {n : Int} {g : List S139} {e : Int} {x : Int} {m : Nat} (hm : (m : Int) = n) (h : edgeOK n g e = true) : 0 ≤ e ∧ e < 2 * ((valuesR g (bitsL x m)).length : Int) := by
  have h1 : 0 ≤ e ∧ e ≤ 2 * (1 + n + (g.length : Int)) - 1 := of_decide_eq_true h
  rw [(values_inv g (bits_bitsL x m)).2, bitsL_length]
  omega
theorem spec_same {k : Nat} {n : Int} {g : List S139} {a b : Int} (hk : g.length + 5000 < k) (hm : g.length ≤ 1048576) : spec_SameEdges.f k n g a b = some (sameR n g a b) := by
  unfold spec_SameEdges.f spec_l7Edge.f spec_l7Nodes.f sameR
  obtain ⟨k, rfl⟩ : ∃ m, k = m + 1 := ⟨k - 1, by omega⟩
  rw [spec_CircuitValid_f (by omega) (by omega)]
  simp only [Option.bind_some, l1In_f, spec_SameEdges.j0]
  by_cases h : circOK n g = true
  · obtain ⟨b1, b2, b3⟩ := circ_bounds h
    rw [if_pos h, wrap_id (x := 1 + n) (by omega) (by omega), wrap_id (x := 1 + n + (g.length : Int)) (by omega) (by omega), wrap_id (x := 2 * (1 + n + (g.length : Int))) (by omega) (by omega), wrap_id (x := 2 * (1 + n + (g.length : Int)) - 1) (by omega) (by omega)]
    rw [show inB 0 (2 * (1 + n + (g.length : Int)) - 1) a = edgeOK n g a from rfl, show inB 0 (2 * (1 + n + (g.length : Int)) - 1) b = edgeOK n g b from rfl, h]
    cases ha : edgeOK n g a
    · rfl
    · cases hb : edgeOK n g b
      · rfl
      · simp only [if_true, Bool.not_true, Bool.false_eq_true, if_false, Bool.true_and]
        obtain ⟨m, rfl⟩ : ∃ m : Nat, n = (m : Int) := ⟨n.toNat, by omega⟩
        rw [Int.toNat_natCast]
        have hp : 2 ^ m ≤ 4096 := Nat.pow_le_pow_right (show 0 < 2 by decide) (show m ≤ 12 by omega)
        refine (run_allB (g.length + 100) (fun k i => spec_SameEdges.l0 k a b (i : Int) (m : Int) g) (2 ^ m) (fun x => decide (edgeV (valuesR g (bitsL (x : Int) m)) a = edgeV (valuesR g (bitsL (x : Int) m)) b)) true false ?_ ?_ k (by omega)).trans ?_
        · intro k i hB hi
          simp only [spec_SameEdges.l0]
          rw [shl_one m (by omega), if_pos (by omega), if_pos (by exact_mod_cast hi), l6Value_f (by omega) (by omega) (by omega)]
          have hl := bitsL_length (i : Int) m
          have ea := edge_of (x := (i : Int)) rfl ha
          have eb := edge_of (x := (i : Int)) rfl hb
          have hv := values_inv g (bits_bitsL (i : Int) m)
          simp only [Option.bind_some]
          rw [l7Run_f (by omega) h (by omega) (bits_bitsL _ _)]
          simp only [Option.bind_some]
          rw [l7Of_f hv.1 ea.1 ea.2 (by omega), l7Of_f hv.1 eb.1 eb.2 (by omega), wrap_id (x := (i : Int) + 1) (by omega) (by omega)]
          simp only [Option.bind_some]
          by_cases e : edgeV (valuesR g (bitsL (i : Int) m)) a = edgeV (valuesR g (bitsL (i : Int) m)) b
          · rw [if_pos e, decide_eq_true e]
            rfl
          · rw [if_neg e, decide_eq_false e]
            rfl
        · intro k _
          simp only [spec_SameEdges.l0]
          rw [shl_one m (by omega), if_pos (by omega), if_neg (by simp)]
        · by_cases hall : ∀ x : Nat, x < 2 ^ m → edgeV (valuesR g (bitsL (x : Int) m)) a = edgeV (valuesR g (bitsL (x : Int) m)) b
          · rw [if_pos (fun j hj => decide_eq_true (hall j hj)), decide_eq_true hall]
          · rw [if_neg (fun hx => hall (fun j hj => of_decide_eq_true (hx j hj))), decide_eq_false hall]
  · rw [if_neg h, Bool.eq_false_iff.2 h]
    rfl
theorem impl_same {k : Nat} {n : Int} {g : List S139} {a b : Int} (hk : g.length + 5000 < k) (hm : g.length ≤ 1048576) : impl_SameEdges.f k n g a b = some (sameR n g a b) := by
  unfold impl_SameEdges.f impl_Circuit_isEdge.f sameR
  obtain ⟨k, rfl⟩ : ∃ m, k = m + 1 := ⟨k - 1, by omega⟩
  rw [impl_CircuitValid_f (by omega) (by omega)]
  simp only [Option.bind_some, in_f, impl_SameEdges.j0]
  by_cases h : circOK n g = true
  · obtain ⟨b1, b2, b3⟩ := circ_bounds h
    rw [if_pos h, wrap_id (x := 1 + n) (by omega) (by omega), wrap_id (x := 1 + n + (g.length : Int)) (by omega) (by omega), wrap_id (x := 2 * (1 + n + (g.length : Int))) (by omega) (by omega), wrap_id (x := 2 * (1 + n + (g.length : Int)) - 1) (by omega) (by omega)]
    rw [show inB 0 (2 * (1 + n + (g.length : Int)) - 1) a = edgeOK n g a from rfl, show inB 0 (2 * (1 + n + (g.length : Int)) - 1) b = edgeOK n g b from rfl, h]
    cases ha : edgeOK n g a
    · rfl
    · cases hb : edgeOK n g b
      · rfl
      · simp only [if_true, Bool.not_true, Bool.false_eq_true, if_false, Bool.true_and]
        obtain ⟨m, rfl⟩ : ∃ m : Nat, n = (m : Int) := ⟨n.toNat, by omega⟩
        rw [Int.toNat_natCast, if_pos b1, shl_one m (by omega)]
        have hp : 2 ^ m ≤ 4096 := Nat.pow_le_pow_right (show 0 < 2 by decide) (show m ≤ 12 by omega)
        refine (run_allB (g.length + 100) (fun k i => impl_SameEdges.l0 k a b (2 ^ m) (i : Int) (m : Int) g) (2 ^ m) (fun x => decide (edgeV (valuesR g (bitsL (x : Int) m)) a = edgeV (valuesR g (bitsL (x : Int) m)) b)) true false ?_ ?_ k (by omega)).trans ?_
        · intro k i hB hi
          simp only [impl_SameEdges.l0]
          rw [if_pos (by exact_mod_cast hi), valueBits_f (by omega) (by omega) (by omega) (by omega)]
          have hl := bitsL_length (i : Int) m
          have ea := edge_of (x := (i : Int)) rfl ha
          have eb := edge_of (x := (i : Int)) rfl hb
          have hv := values_inv g (bits_bitsL (i : Int) m)
          simp only [Option.bind_some]
          rw [Circuit_values_f (by omega) h (by omega) (bits_bitsL _ _)]
          simp only [Option.bind_some]
          rw [edgeOf_f hv.1 ea.1 ea.2 (by omega), edgeOf_f hv.1 eb.1 eb.2 (by omega), wrap_id (x := (i : Int) + 1) (by omega) (by omega)]
          simp only [Option.bind_some]
          by_cases e : edgeV (valuesR g (bitsL (i : Int) m)) a = edgeV (valuesR g (bitsL (i : Int) m)) b
          · rw [if_pos e, decide_eq_true e]
            rfl
          · rw [if_neg e, decide_eq_false e]
            rfl
        · intro k _
          simp only [impl_SameEdges.l0]
          rw [if_neg (by simp)]
        · by_cases hall : ∀ x : Nat, x < 2 ^ m → edgeV (valuesR g (bitsL (x : Int) m)) a = edgeV (valuesR g (bitsL (x : Int) m)) b
          · rw [if_pos (fun j hj => decide_eq_true (hall j hj)), decide_eq_true hall]
          · rw [if_neg (fun hx => hall (fun j hj => of_decide_eq_true (hx j hj))), decide_eq_false hall]
  · rw [if_neg h, Bool.eq_false_iff.2 h]
    rfl

theorem FnExactSameEdges : laws_FnExactSameEdges.Pure := by
  intro n g a b hn hg hw ha hb
  refine ⟨g.length + 5100, ?_⟩
  unfold laws_FnExactSameEdges.f
  unfold laws_szCircuit.f
  rw [szAndS_f (by omega) (by omega) hg]
  simp only [Option.bind_some]
  by_cases h2 : 1048576 - (g.length : Int) < 0
  · rw [if_pos h2]
    rfl
  · simp only [if_neg h2, Option.bind_some]
    have hlen : (g.map cAnd).length = g.length := by simp
    simp only [laws_toCircuit.f]
    rw [toAndS_f (by omega) (by omega)]
    simp only [Option.bind_some]
    rw [spec_same (by omega) (by omega), impl_same (by omega) (by omega)]
    generalize sameR n (g.map cAnd) a b = R
    simp only [Option.bind_some, laws_eqCircuit.f, if_true]
    rw [eqAndS_f (by omega) (by omega)]
    simp

end Go.Proofs.Ytbjkjoicecmmpab.Pure
