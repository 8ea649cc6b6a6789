/- The law 'for all inputs' holds for all bytes: whatever circuit and edges are drawn of them, edges that are the same have the same value for all bits, and sameness goes both ways and never between an edge and its contrary's other.
Conditions: none. -/
import Derived.Test.YthphgkhmeobadabXFnSameEdgesx12
import Derived.Test.YthphgkhmeobadabXLib2
namespace Go.Proofs.Ythphgkhmeobadab.Pure
open Go.RowKit Go.Proofs.Ythphgkhmeobadab.XFnSameEdges Go.Proofs.YthphgkhmeobadabW.PrintWords Go.Proofs.YthphgkhmeobadabW.PrintLast Go.Proofs.YthphgkhmeobadabW.PrintMore Go.Proofs.YthphgkhmeobadabX
set_option linter.unusedVariables false
set_option linter.unusedSimpArgs false

theorem rdT73_nat (xs : List S73) (i : Nat) : rd_T73 xs (i : Int) = xs.getD i z73 := by
  unfold rd_T73
  simp

theorem l1In_f (n a b : Int) : spec_l1In.f n a b = some (inB a b n) := by
  unfold spec_l1In.f inB
  by_cases h : n ≥ a
  · rw [if_pos h]; congr 1; simp; omega
  · rw [if_neg h, decide_eq_false (by omega)]

/-- A circuit that is one: its gates' edges lead to what stands ahead. -/
def gateOK (n : Int) (g : List S73) (j : Nat) : Bool := inB 0 (wrap64 (wrap64 (2 * wrap64 (wrap64 (1 + n) + (j : Int))) - 1)) (g.getD j z73).f0 && inB 0 (wrap64 (wrap64 (2 * wrap64 (wrap64 (1 + n) + (j : Int))) - 1)) (g.getD j z73).f1
def circOK (n : Int) (g : List S73) : Bool := inB 0 12 n && !decide ((g.length : Int) > 600) && decide (∀ j, j < g.length → gateOK n g j = true)

theorem spec_CircuitValid_f {k : Nat} {n : Int} {g : List S73} (hk : g.length + 2 < k) (hm : g.length ≤ 35184372088832) : spec_CircuitValid.f k n g = some (circOK n g) := by
  unfold spec_CircuitValid.f circOK
  rw [l1In_f]
  simp only [Option.bind_some]
  obtain ⟨k, rfl⟩ : ∃ m, k = m + 1 := ⟨k - 1, by omega⟩
  cases inB 0 12 n
  · simp [spec_CircuitValid.j0]
  · simp only [if_true, Bool.true_and, spec_CircuitValid.j0]
    cases hd : decide ((g.length : Int) > 600)
    · simp only [Bool.false_eq_true, if_false, Bool.not_false, Bool.true_and]
      refine (run_all (fun k i => spec_CircuitValid.l0 k (i : Int) n g) g.length (gateOK n g) true false ?_ ?_ k (by omega)).trans ?_
      · intro k i hi
        simp only [spec_CircuitValid.l0]
        rw [if_pos (by omega), if_pos (by omega), wrap_id (x := (i : Int) + 1) (by omega) (by omega), l1In_f, l1In_f]
        simp only [rdT73_nat, Option.bind_some]
        unfold gateOK
        cases inB 0 (wrap64 (wrap64 (2 * wrap64 (wrap64 (1 + n) + (i : Int))) - 1)) (g.getD i z73).f0
        · simp
        · simp
      · intro k
        simp only [spec_CircuitValid.l0]
        rw [if_neg (by omega)]
      · by_cases h : ∀ j, j < g.length → gateOK n g j = true
        · rw [if_pos h, decide_eq_true h]
        · rw [if_neg h, decide_eq_false h]
    · simp

theorem circ_bounds {n : Int} {g : List S73} (h : circOK n g = true) : 0 ≤ n ∧ n ≤ 12 ∧ g.length ≤ 600 := by
  unfold circOK at h
  have h1 := Bool.and_eq_true_iff.1 (Bool.and_eq_true_iff.1 h).1
  have h2 : 0 ≤ n ∧ n ≤ 12 := of_decide_eq_true h1.1
  have h3 : ¬ ((g.length : Int) > 600) := by simpa using h1.2
  omega
theorem circ_gate {n : Int} {g : List S73} (h : circOK n g = true) {j : Nat} (hj : j < g.length) : (0 ≤ (g.getD j z73).f0 ∧ (g.getD j z73).f0 < 2 * (1 + n + (j : Int))) ∧ (0 ≤ (g.getD j z73).f1 ∧ (g.getD j z73).f1 < 2 * (1 + n + (j : Int))) := by
  obtain ⟨h1, h2, h3⟩ := circ_bounds h
  have h4 := of_decide_eq_true (Bool.and_eq_true_iff.1 h).2 j hj
  unfold gateOK at h4
  rw [wrap_id (x := 1 + n) (by omega) (by omega), wrap_id (x := 1 + n + (j : Int)) (by omega) (by omega), wrap_id (x := 2 * (1 + n + (j : Int))) (by omega) (by omega), wrap_id (by omega) (by omega)] at h4
  have h5 := Bool.and_eq_true_iff.1 h4
  have h6 := of_decide_eq_true h5.1
  have h7 := of_decide_eq_true h5.2
  omega

theorem open_f {l : List Int} (hw : ∀ x ∈ l, (Lit.int .u8 x).wf = true) : ∃ b, spec_l40Open.f l = some (b, 0) ∧ b.length ≤ 2000 ∧ ∀ x ∈ b, 0 ≤ x ∧ x < 256 := by
  have hw' : ∀ x ∈ l, 0 ≤ x ∧ x < 256 := by
    intro x hx
    have := hw x hx
    have e1 : IntKind.u8.min = 0 := by decide
    have e2 : IntKind.u8.max = 255 := by decide
    simp [Lit.wf, e1, e2] at this
    omega
  unfold spec_l40Open.f
  by_cases h : (l.length : Int) > 2000
  · rw [if_pos h, if_pos (by omega)]
    exact ⟨l.take 2000, rfl, by rw [List.length_take]; omega, fun x hx => hw' x (List.mem_of_mem_take hx)⟩
  · rw [if_neg h]
    exact ⟨l, rfl, by omega, hw'⟩

theorem xor_nat64 {x y : Int} (hx : 0 ≤ x) (hx2 : x < 4611686018427387904) (hy : 0 ≤ y) (hy2 : y < 4611686018427387904) : 0 ≤ Go.bits .xor .i64 x y ∧ Go.bits .xor .i64 x y < 4611686018427387904 := by
  obtain ⟨a, rfl⟩ := Int.eq_ofNat_of_zero_le hx
  obtain ⟨b, rfl⟩ := Int.eq_ofNat_of_zero_le hy
  have h1 : (BitVec.ofInt 64 (a : Int)).toNat = a := by
    rw [BitVec.toNat_ofInt]
    omega
  have h2 : (BitVec.ofInt 64 (b : Int)).toNat = b := by
    rw [BitVec.toNat_ofInt]
    omega
  have h3 : a ^^^ b < 2 ^ 62 := Nat.xor_lt_two_pow (by omega) (by omega)
  have h4 : Go.bits .xor .i64 (a : Int) (b : Int) = IntKind.i64.wrap ((a ^^^ b : Nat) : Int) := by
    show IntKind.i64.wrap (((BitVec.ofInt 64 (a : Int) ^^^ BitVec.ofInt 64 (b : Int)).toNat : Nat) : Int) = _
    rw [BitVec.toNat_xor, h1, h2]
  rw [h4, IntKind.wrap_i64]
  omega
theorem tmod_in {x n : Int} (hx : 0 ≤ x) (hn : 1 ≤ n) : 0 ≤ Int.tmod x n ∧ Int.tmod x n < n := ⟨Int.tmod_nonneg _ hx, Int.tmod_lt_of_pos _ (by omega)⟩
/-- What is drawn of some bytes: a number below the bound that is asked, or 0. -/
def Bytes (b : List Int) : Prop := b.length ≤ 2000 ∧ ∀ x ∈ b, 0 ≤ x ∧ x < 256
theorem rd_byte {b : List Int} (hb : Bytes b) {i : Int} (h0 : 0 ≤ i) (h1 : i < (b.length : Int)) : 0 ≤ rd b i ∧ rd b i < 256 := by
  obtain ⟨j, rfl⟩ := Int.eq_ofNat_of_zero_le h0
  rw [rd_nat]
  exact hb.2 _ (getD_mem b j 0 (by omega))
theorem pick_f {k : Nat} {b : List Int} {p n : Int} (hk : 0 < k) (hb : Bytes b) (hp : 0 ≤ p) (hp2 : p ≤ 1000000) : ∃ r, spec_l40Rd_pick.f k b p n = some (r, p + 1) ∧ 0 ≤ r ∧ (1 ≤ n → r < n) := by
  obtain ⟨k, rfl⟩ : ∃ m, k = m + 1 := ⟨k - 1, by omega⟩
  have hl := hb.1
  have e1 : wrap64 (p + 1) = p + 1 := wrap_id (by omega) (by omega)
  unfold spec_l40Rd_pick.f
  rw [e1]
  by_cases hn : n < 1
  · rw [if_pos hn]
    exact ⟨0, by simp only [spec_l40Rd_pick.j0, if_true], Int.le_refl _, fun h => absurd hn (by omega)⟩
  · rw [if_neg hn]
    by_cases h0 : b.length = 0
    · have h1 : ((b.length : Int) == 0) = true := by simp [h0]
      rw [h1]
      exact ⟨0, by simp only [spec_l40Rd_pick.j0, if_true], Int.le_refl _, fun h => by omega⟩
    · have h1 : ((b.length : Int) == 0) = false := by simpa using h0
      have e2 : wrap64 (p + 1 - 1) = p := by rw [show p + 1 - 1 = p from by omega]; exact wrap_id (by omega) (by omega)
      have hn0 : ¬ n = 0 := by omega
      rw [h1]
      simp only [spec_l40Rd_pick.j0, Bool.false_eq_true, if_false, e2, if_neg hn0]
      by_cases h2 : p < (b.length : Int)
      · have h3 := rd_byte hb hp h2
        rw [if_pos h2, if_pos hp, wrap_id (x := rd b p) (by omega) (by omega)]
        have h4 := tmod_in h3.1 (show 1 ≤ n by omega)
        exact ⟨_, rfl, h4.1, fun _ => h4.2⟩
      · have hl0 : ¬ (b.length : Int) = 0 := by omega
        have h3 := tmod_in hp (show 1 ≤ (b.length : Int) by omega)
        have e3 : wrap64 (wrap64 (p * 7) + 3) = p * 7 + 3 := by rw [wrap_id (x := p * 7) (by omega) (by omega)]; exact wrap_id (by omega) (by omega)
        have h4 := tmod_in (show 0 ≤ p * 7 + 3 by omega) (show 1 ≤ (b.length : Int) by omega)
        rw [e3]
        generalize Int.tmod (p * 7 + 3) (b.length : Int) = j at h4 ⊢
        generalize Int.tmod p (b.length : Int) = i at h3 ⊢
        rw [if_neg h2, if_neg hl0, if_pos h3.1, if_pos h3.2, if_pos h4.1, if_pos h4.2]
        have h5 := rd_byte hb h3.1 h3.2
        have h6 := rd_byte hb h4.1 h4.2
        generalize rd b i = u at h5 ⊢
        generalize rd b j = v at h6 ⊢
        have h7 : 0 ≤ Int.tdiv p (b.length : Int) ∧ Int.tdiv p (b.length : Int) ≤ p := by
          rw [Int.tdiv_eq_ediv_of_nonneg hp]
          exact ⟨Int.ediv_nonneg hp (by omega), Int.ediv_le_self _ hp⟩
        generalize Int.tdiv p (b.length : Int) = d at h7 ⊢
        have e4 : wrap64 (wrap64 (wrap64 (wrap64 (wrap64 u * 131) + wrap64 (wrap64 v * 1117)) + wrap64 (p * 29)) + wrap64 (wrap64 d * 53)) = u * 131 + v * 1117 + p * 29 + d * 53 := by
          rw [wrap_id (x := u) (by omega) (by omega), wrap_id (x := v) (by omega) (by omega), wrap_id (x := d) (by omega) (by omega), wrap_id (x := u * 131) (by omega) (by omega), wrap_id (x := v * 1117) (by omega) (by omega), wrap_id (x := p * 29) (by omega) (by omega), wrap_id (x := d * 53) (by omega) (by omega), wrap_id (x := u * 131 + v * 1117) (by omega) (by omega), wrap_id (x := u * 131 + v * 1117 + p * 29) (by omega) (by omega), wrap_id (by omega) (by omega)]
        rw [e4]
        have h8 : 0 ≤ u * 131 + v * 1117 + p * 29 + d * 53 ∧ u * 131 + v * 1117 + p * 29 + d * 53 < 1000000000 := by omega
        generalize u * 131 + v * 1117 + p * 29 + d * 53 = X at h8 ⊢
        have h9 : 0 ≤ Int.tdiv X 64 ∧ Int.tdiv X 64 ≤ X := by
          rw [Int.tdiv_eq_ediv_of_nonneg h8.1]
          omega
        rw [wrap_id (x := Int.tdiv X 64) (by omega) (by omega)]
        have h10 := xor_nat64 h8.1 (by omega) h9.1 (by omega)
        have h11 := tmod_in h10.1 (show 1 ≤ n by omega)
        exact ⟨_, rfl, h11.1, fun _ => h11.2⟩

/-- The same, with a round left for what is called. -/
theorem run_ex2 {σ β : Type} (L : Nat → σ → Nat → Option β) (n : Nat) (inv : Nat → σ → Prop) (P : β → Prop)
    (hstep : ∀ k i s, 0 < k → i < n → inv i s → ∃ s', L (k + 1) s i = L k s' (i + 1) ∧ inv (i + 1) s')
    (hend : ∀ k s, 0 < k → inv n s → ∃ r, L (k + 1) s n = some r ∧ P r) : ∀ k i s, i ≤ n → n - i + 1 < k → inv i s → ∃ r, L k s i = some r ∧ P r := by
  have key : ∀ d k i s, n - i = d → i ≤ n → d + 1 < k → inv i s → ∃ r, L k s i = some r ∧ P r := by
    intro d
    induction d with
    | zero =>
      intro k i s hd hi hk hs
      obtain ⟨k, rfl⟩ : ∃ m, k = m + 1 := ⟨k - 1, by omega⟩
      obtain rfl : i = n := by omega
      exact hend k s (by omega) hs
    | succ d ih =>
      intro k i s hd hi hk hs
      obtain ⟨k, rfl⟩ : ∃ m, k = m + 1 := ⟨k - 1, by omega⟩
      obtain ⟨s', h, hs'⟩ := hstep k i s (by omega) (by omega) hs
      rw [h]
      exact ih k (i + 1) s' (by omega) (by omega) (by omega) hs'
  intro k i s hi hk hs
  exact key (n - i) k i s rfl hi hk hs

theorem num_f {k : Nat} {b l : List Int} {p : Int} (hk : 0 < k) (hb : Bytes b) (hp : 0 ≤ p) (hp2 : p ≤ 1000000) (hl : 1 ≤ l.length) : ∃ r, spec_l40Rd_num.f k b p l = some (r, p + 1) ∧ r ∈ l := by
  unfold spec_l40Rd_num.f
  obtain ⟨r, h1, h2, h3⟩ := pick_f (n := (l.length : Int)) hk hb hp hp2
  rw [h1]
  simp only [Option.bind_some]
  have h4 := h3 (by omega)
  rw [if_pos h2, if_pos h4]
  obtain ⟨j, rfl⟩ := Int.eq_ofNat_of_zero_le h2
  exact ⟨_, rfl, by rw [rd_nat]; exact getD_mem l j 0 (by omega)⟩

theorem in_f (n a b : Int) : impl_in.f n a b = some (inB a b n) := by
  unfold impl_in.f inB
  by_cases h : n ≥ a
  · rw [if_pos h]; congr 1; simp; omega
  · rw [if_neg h, decide_eq_false (by omega)]

theorem impl_CircuitValid_f {k : Nat} {n : Int} {g : List S73} (hk : g.length + 2 < k) (hm : g.length ≤ 35184372088832) : impl_CircuitValid.f k n g = some (circOK n g) := by
  unfold impl_CircuitValid.f circOK
  rw [in_f]
  simp only [Option.bind_some]
  obtain ⟨k, rfl⟩ : ∃ m, k = m + 1 := ⟨k - 1, by omega⟩
  cases inB 0 12 n
  · simp [impl_CircuitValid.j0]
  · simp only [if_true, Bool.true_and, impl_CircuitValid.j0]
    cases hd : decide ((g.length : Int) > 600)
    · simp only [Bool.false_eq_true, if_false, Bool.not_false, Bool.true_and]
      refine (run_all (fun k i => impl_CircuitValid.l0 k g (g.length : Int) (i : Int) n g) g.length (gateOK n g) true false ?_ ?_ k (by omega)).trans ?_
      · intro k i hi
        simp only [impl_CircuitValid.l0]
        rw [if_pos (by omega), if_pos (by omega), if_pos (by omega), wrap_id (x := (i : Int) + 1) (by omega) (by omega), in_f, in_f]
        simp only [rdT73_nat, Option.bind_some]
        unfold gateOK
        cases inB 0 (wrap64 (wrap64 (2 * wrap64 (wrap64 (1 + n) + (i : Int))) - 1)) (g.getD i z73).f0
        · simp
        · simp
      · intro k
        simp only [impl_CircuitValid.l0]
        rw [if_neg (by omega)]
      · by_cases h : ∀ j, j < g.length → gateOK n g j = true
        · rw [if_pos h, decide_eq_true h]
        · rw [if_neg h, decide_eq_false h]
    · simp

/-- What an edge carries: its node's bit, turned where the edge is odd. -/
def edgeV (vs : List Int) (e : Int) : Int := if e % 2 = 1 then 1 - vs.getD (e / 2).toNat 0 else vs.getD (e / 2).toNat 0
def Bits (vs : List Int) : Prop := ∀ x ∈ vs, x = 0 ∨ x = 1
theorem bits_at {vs : List Int} (h : Bits vs) (i : Nat) : vs.getD i 0 = 0 ∨ vs.getD i 0 = 1 := by
  by_cases hi : i < vs.length
  · exact h _ (getD_mem vs i 0 hi)
  · left
    simp [List.getD_eq_getElem?_getD, List.getElem?_eq_none (Nat.le_of_not_lt hi)]
theorem edgeV_bit {vs : List Int} (h : Bits vs) (e : Int) : edgeV vs e = 0 ∨ edgeV vs e = 1 := by
  unfold edgeV
  have := bits_at h (e / 2).toNat
  split <;> omega
theorem bits_of_all {v : List Int} (h : v.all (inB 0 1) = true) : Bits v := by
  intro x hx
  have h1 := List.all_eq_true.1 h x hx
  have h2 : 0 ≤ x ∧ x ≤ 1 := of_decide_eq_true h1
  omega

theorem edgeOf_f {vs : List Int} {e : Int} (hb : Bits vs) (h0 : 0 ≤ e) (h1 : e < 2 * (vs.length : Int)) (hm : vs.length ≤ 1048576) : impl_edgeOf.f vs e = some (edgeV vs e) := by
  unfold impl_edgeOf.f edgeV
  rw [Int.tdiv_eq_ediv_of_nonneg h0, wrap_id (x := e / 2) (by omega) (by omega)]
  have hx := bits_at hb (e / 2).toNat
  have hr : rd vs (e / 2) = vs.getD (e / 2).toNat 0 := by
    obtain ⟨j, hj⟩ := Int.eq_ofNat_of_zero_le (show 0 ≤ e / 2 by omega)
    rw [hj, Int.toNat_natCast]
    exact rd_nat vs j
  rw [hr, if_pos (show 0 ≤ e / 2 by omega), if_pos (show e / 2 < (vs.length : Int) by omega), and_one h0 (by omega)]
  congr 1
  rcases Int.emod_two_eq e with h2 | h2
  · rw [h2, if_neg (by omega)]
    rcases hx with hx | hx
    · rw [hx]; decide
    · rw [hx]; decide
  · rw [h2, if_pos rfl]
    rcases hx with hx | hx
    · rw [hx]; decide
    · rw [hx]; decide

theorem valueBits_f {k m : Nat} {n : Int} (hn : 0 ≤ n) (hn2 : n ≤ 9223372036854775807) (hm : m ≤ 60) (hk : m < k) : impl_valueBits.f k n (m : Int) = some (bitsL n m) := by
  unfold impl_valueBits.f
  rw [if_pos (by omega), if_pos (by omega)]
  simp only [Option.bind_some, Int.toNat_natCast, List.length_replicate]
  refine (?_ : impl_valueBits.l0 k n (m : Int) (List.replicate m 0) (m : Int) ((0 : Nat) : Int) = _)
  refine run_inv (fun k (s : List Int) i => impl_valueBits.l0 k n (m : Int) s (m : Int) (i : Int)) m (fun i s => s.length = m ∧ ∀ j, j < i → s.getD j 0 = (bitsL n m).getD j 0) _ ?_ ?_ k 0 _ (Nat.zero_le _) (by omega) ⟨by simp, fun j hj => absurd hj (Nat.not_lt_zero j)⟩
  · intro k i s hi ⟨hl, hs⟩
    refine Or.inr ⟨s.set i ((bitsL n m).getD i 0), ?_, by simpa using hl, fun j hj => ?_⟩
    · simp only [impl_valueBits.l0]
      have ej : wrap64 (wrap64 ((m : Int) - 1) - (i : Int)) = ((m - 1 - i : Nat) : Int) := by
        rw [wrap_id (x := (m : Int) - 1) (by omega) (by omega), wrap_id (by omega) (by omega)]
        omega
      have h2 : n / 2 ^ (m - 1 - i) ≤ n := Int.ediv_le_self _ hn
      rw [ej, if_pos (by omega), if_pos (by omega), if_pos (by omega), if_pos (by omega), shr_nat _ _ (by omega), and_one (Int.ediv_nonneg hn (Int.le_of_lt (pow_pos_int _))) (by omega), wrap_id (by omega) (by omega), bitsL_getD _ _ _ hi]
      rfl
    · rw [getD_set _ _ _ _ _ (by omega)]
      by_cases e : j = i
      · rw [if_pos e, e]
      · rw [if_neg e]
        exact hs j (by omega)
  · intro k s ⟨hl, hs⟩
    simp only [impl_valueBits.l0]
    rw [if_neg (by omega), ext_getD (d := 0) (l := bitsL n m) (by rw [bitsL_length]; exact hl) (fun j hj => hs j (by rw [bitsL_length] at hj; exact hj))]

theorem l7Of_f {vs : List Int} {e : Int} (hb : Bits vs) (h0 : 0 ≤ e) (h1 : e < 2 * (vs.length : Int)) (hm : vs.length ≤ 1048576) : spec_l7Of.f vs e = some (edgeV vs e) := by
  unfold spec_l7Of.f edgeV
  rw [Int.tmod_eq_emod_of_nonneg h0, Int.tdiv_eq_ediv_of_nonneg h0, wrap_id (x := e / 2) (by omega) (by omega)]
  have hx := bits_at hb (e / 2).toNat
  have hr : rd vs (e / 2) = vs.getD (e / 2).toNat 0 := by
    obtain ⟨j, hj⟩ := Int.eq_ofNat_of_zero_le (show 0 ≤ e / 2 by omega)
    rw [hj, Int.toNat_natCast]
    exact rd_nat vs j
  simp only [hr, if_pos (show 0 ≤ e / 2 by omega), if_pos (show e / 2 < (vs.length : Int) by omega), wrap_id (x := 1 - vs.getD (e / 2).toNat 0) (by omega) (by omega)]
  split <;> rfl

/-- A gate behind the others. -/
def gateV (vs : List Int) (x : S73) : List Int := vs ++ [edgeV vs x.f0 * edgeV vs x.f1]
def valuesR (g : List S73) (v : List Int) : List Int := g.foldl gateV ([0] ++ v)
theorem bits_start {v : List Int} (h : Bits v) : Bits ([0] ++ v) := by
  intro x hx
  rcases List.mem_append.1 hx with hx | hx
  · left; simpa using hx
  · exact h x hx
theorem gateV_bits {vs : List Int} (h : Bits vs) (x : S73) : Bits (gateV vs x) := by
  intro y hy
  unfold gateV at hy
  rcases List.mem_append.1 hy with hy | hy
  · exact h y hy
  · have hy : y = edgeV vs x.f0 * edgeV vs x.f1 := by simpa using hy
    rcases edgeV_bit h x.f0 with h1 | h1 <;> rcases edgeV_bit h x.f1 with h2 | h2 <;> rw [h1, h2] at hy <;> simp [hy]
theorem fold_inv (g : List S73) {v : List Int} (hv : Bits v) : ∀ i, i ≤ g.length → Bits ((g.take i).foldl gateV ([0] ++ v)) ∧ ((g.take i).foldl gateV ([0] ++ v)).length = 1 + v.length + i := by
  intro i
  induction i with
  | zero =>
    intro _
    refine ⟨bits_start hv, ?_⟩
    simp
    omega
  | succ i ih =>
    intro hi
    obtain ⟨h1, h2⟩ := ih (by omega)
    rw [foldl_take_succ gateV ([0] ++ v) g z73 i (by omega)]
    refine ⟨gateV_bits h1 _, ?_⟩
    have h3 : ∀ (vs : List Int) x, (gateV vs x).length = vs.length + 1 := fun vs x => by simp [gateV]
    rw [h3, h2]
    omega
theorem values_inv (g : List S73) {v : List Int} (hv : Bits v) : Bits (valuesR g v) ∧ (valuesR g v).length = 1 + v.length + g.length := by
  have h := fold_inv g hv g.length (Nat.le_refl _)
  rw [List.take_length] at h
  exact h

theorem l7Run_f {k : Nat} {n : Int} {g : List S73} {v : List Int} (hk : g.length + v.length + 5 < k) (h : circOK n g = true) (hn : (v.length : Int) = n) (hv : Bits v) : spec_l7Run.f k n g v = some (valuesR g v) := by
  unfold spec_l7Run.f
  obtain ⟨b1, b2, b3⟩ := circ_bounds h
  subst hn
  obtain ⟨k, rfl⟩ : ∃ m, k = m + (v.length + 1) := ⟨k - (v.length + 1), by omega⟩
  refine Eq.trans (run_goto (fun k (s : List Int) i => spec_l7Run.l0 k v s (i : Int) (v.length : Int) g) v.length (fun i s => s = [0] ++ v.take i) (fun k => spec_l7Run.l1 k ([0] ++ v) 0 (v.length : Int) g) ?_ ?_ v.length k 0 [0] (by omega) (by simp)) ?_
  · rintro k i s hi rfl
    have hl : ([0] ++ v.take i).length = 1 + i := by rw [List.length_append, List.length_take]; simp; omega
    refine ⟨_, ?_, rfl⟩
    simp only [spec_l7Run.l0]
    rw [if_pos (by omega), if_pos (by omega), if_pos (by omega), if_pos (by omega), wrap_id (x := (i : Int) + 1) (by omega) (by omega), rd_nat, take_succ_getD v i 0 hi, List.append_assoc]
    rfl
  · rintro k s rfl
    simp only [spec_l7Run.l0]
    rw [if_neg (by omega), List.take_length]
  · refine run_inv (fun k (s : List Int) i => spec_l7Run.l1 k s (i : Int) (v.length : Int) g) g.length (fun i s => s = (g.take i).foldl gateV ([0] ++ v)) _ ?_ ?_ k 0 _ (Nat.zero_le _) (by omega) rfl
    · rintro k i s hi rfl
      obtain ⟨h1, h2⟩ := fold_inv g hv i (by omega)
      have h3 := circ_gate h hi
      refine Or.inr ⟨_, ?_, (foldl_take_succ gateV ([0] ++ v) g z73 i hi).symm⟩
      simp only [spec_l7Run.l1, rdT73_nat]
      rw [if_pos (by omega), if_pos (by omega), l7Of_f h1 h3.1.1 (by rw [h2]; omega) (by omega), l7Of_f h1 h3.2.1 (by rw [h2]; omega) (by omega)]
      simp only [Option.bind_some]
      have h4 : 0 ≤ edgeV ((g.take i).foldl gateV ([0] ++ v)) (g.getD i z73).f0 * edgeV ((g.take i).foldl gateV ([0] ++ v)) (g.getD i z73).f1 ∧ edgeV ((g.take i).foldl gateV ([0] ++ v)) (g.getD i z73).f0 * edgeV ((g.take i).foldl gateV ([0] ++ v)) (g.getD i z73).f1 ≤ 1 := by
        rcases edgeV_bit h1 (g.getD i z73).f0 with e1 | e1 <;> rcases edgeV_bit h1 (g.getD i z73).f1 with e2 | e2 <;> rw [e1, e2] <;> decide
      rw [if_pos (by omega), wrap_id (x := (i : Int) + 1) (by omega) (by omega), wrap_id (by omega) (by omega)]
      rfl
    · rintro k s rfl
      simp only [spec_l7Run.l1]
      rw [if_neg (by omega), List.take_length]
      rfl

theorem and_bits {x y : Int} (hx : x = 0 ∨ x = 1) (hy : y = 0 ∨ y = 1) : Go.bits .and .i64 x y = x * y := by
  rcases hx with rfl | rfl <;> rcases hy with rfl | rfl <;> decide
theorem Circuit_values_f {k : Nat} {n : Int} {g : List S73} {v : List Int} (hk : g.length + v.length + 5 < k) (h : circOK n g = true) (hn : (v.length : Int) = n) (hv : Bits v) : impl_Circuit_values.f k n g v = some (valuesR g v) := by
  unfold impl_Circuit_values.f
  obtain ⟨b1, b2, b3⟩ := circ_bounds h
  subst hn
  simp only [Option.bind_some]
  rw [if_pos (by simp; omega)]
  refine run_inv (fun k (s : List Int) i => impl_Circuit_values.l0 k s g (g.length : Int) (i : Int)) g.length (fun i s => s = (g.take i).foldl gateV ([0] ++ v)) _ ?_ ?_ k 0 _ (Nat.zero_le _) (by omega) rfl
  · rintro k i s hi rfl
    obtain ⟨h1, h2⟩ := fold_inv g hv i (by omega)
    have h3 := circ_gate h hi
    refine Or.inr ⟨_, ?_, (foldl_take_succ gateV ([0] ++ v) g z73 i hi).symm⟩
    simp only [impl_Circuit_values.l0, rdT73_nat]
    rw [if_pos (by omega), if_pos (by omega), if_pos (by omega), edgeOf_f h1 h3.1.1 (by rw [h2]; omega) (by omega), edgeOf_f h1 h3.2.1 (by rw [h2]; omega) (by omega)]
    simp only [Option.bind_some]
    rw [if_pos (by omega), wrap_id (x := (i : Int) + 1) (by omega) (by omega), and_bits (edgeV_bit h1 _) (edgeV_bit h1 _)]
    rfl
  · rintro k s rfl
    simp only [impl_Circuit_values.l0]
    rw [if_neg (by omega), List.take_length]
    rfl

theorem l6Value_f {k m : Nat} {n : Int} (hn : 0 ≤ n) (hm : m ≤ 60) (hk : m < k) : spec_l6Value.f k n (m : Int) = some (bitsL n m) := by
  unfold spec_l6Value.f
  rw [wrap_id (by omega) (by omega)]
  have e0 : ((m : Int) - 1) = (m : Int) - 1 - ((0 : Nat) : Int) := by omega
  rw [e0]
  refine run_inv (fun k (s : List Int) i => spec_l6Value.l0 k n s ((m : Int) - 1 - (i : Int))) m (fun i s => s = (bitsL n m).take i) _ ?_ ?_ k 0 [] (Nat.zero_le _) (by omega) (by simp)
  · rintro k i s hi rfl
    have hl : ((bitsL n m).take i).length = i := by rw [List.length_take, bitsL_length]; omega
    refine Or.inr ⟨_, ?_, (take_succ_getD (bitsL n m) i 0 (by rw [bitsL_length]; exact hi)).symm⟩
    simp only [spec_l6Value.l0]
    have ej : ((m : Int) - 1 - (i : Int)) = ((m - 1 - i : Nat) : Int) := by omega
    have ew : wrap64 (((m - 1 - i : Nat) : Int) - 1) = (m : Int) - 1 - ((i + 1 : Nat) : Int) := by rw [wrap_id (by omega) (by omega)]; omega
    rw [ej, if_pos (by omega), if_pos (by omega), if_pos (by rw [hl]; omega), shr_nat _ _ (by omega), Int.tmod_eq_emod_of_nonneg (Int.ediv_nonneg hn (Int.le_of_lt (pow_pos_int _))), ew, bitsL_getD _ _ _ hi]
  · rintro k s rfl
    simp only [spec_l6Value.l0]
    rw [if_neg (by omega), List.take_of_length_le (by rw [bitsL_length]; omega)]

theorem contains_impl_bitsValid_1 {k : Nat} {l : List Int} (hk : l.length < k) (hm : l.length ≤ 35184372088832) : slices_ContainsFunc_int_int_impl_bitsValid_1.f k l = some (l.any fun x => !(inB 0 1 x)) := by
  unfold slices_ContainsFunc_int_int_impl_bitsValid_1.f slices_IndexFunc_int_int_impl_bitsValid_1.f
  obtain ⟨r, h1, h2⟩ := run_find (fun k i => slices_IndexFunc_int_int_impl_bitsValid_1.l0 k l (l.length : Int) (i : Int)) l 0 (fun x => !(inB 0 1 x)) (by
    intro k i hi
    simp only [slices_IndexFunc_int_int_impl_bitsValid_1.l0]
    rw [if_pos (by omega), if_pos (by omega), if_pos (by omega), rd_nat, wrap_id (by omega) (by omega)]
    unfold impl_bitsValid_1.f
    rw [in_f]
    rfl) (by
    intro k
    simp only [slices_IndexFunc_int_int_impl_bitsValid_1.l0]
    rw [if_neg (by omega)]) k hk
  have h1' : slices_IndexFunc_int_int_impl_bitsValid_1.l0 k l (l.length : Int) 0 = some r := h1
  rw [h1', Option.bind_some, h2]

theorem impl_bitsValid_f {k : Nat} {l : List Int} (hk : l.length < k) (hm : l.length ≤ 35184372088832) : impl_bitsValid.f k l = some (l.all (inB 0 1)) := by
  unfold impl_bitsValid.f
  rw [contains_impl_bitsValid_1 hk hm]
  simp only [Option.bind_some]
  have e : l.all (inB 0 1) = !(l.any fun x => !(inB 0 1 x)) := by simp [List.any_eq_not_all_not]
  rw [e]

def edgeOK (n : Int) (g : List S73) (e : Int) : Bool := inB 0 (2 * (1 + n + (g.length : Int)) - 1) e
def sameR (n : Int) (g : List S73) (a b : Int) : Bool := circOK n g && (edgeOK n g a && (edgeOK n g b && decide (∀ x : Nat, x < 2 ^ n.toNat → edgeV (valuesR g (bitsL (x : Int) n.toNat)) a = edgeV (valuesR g (bitsL (x : Int) n.toNat)) b)))
theorem bits_bitsL (n : Int) (m : Nat) : Bits (bitsL n m) := by
  intro x hx
  obtain ⟨j, hj, rfl⟩ := mem_getD 0 hx
  rw [bitsL_length] at hj
  rw [bitsL_getD _ _ _ hj]
  omega
theorem edge_of {n : Int} {g : List S73} {e : Int} {x : Int} {m : Nat} (hm : (m : Int) = n) (h : edgeOK n g e = true) : 0 ≤ e ∧ e < 2 * ((valuesR g (bitsL x m)).length : Int) := by
  have h1 : 0 ≤ e ∧ e ≤ 2 * (1 + n + (g.length : Int)) - 1 := of_decide_eq_true h
  rw [(values_inv g (bits_bitsL x m)).2, bitsL_length]
  omega
theorem spec_same {k : Nat} {n : Int} {g : List S73} {a b : Int} (hk : g.length + 5000 < k) (hm : g.length ≤ 1048576) : spec_SameEdges.f k n g a b = some (sameR n g a b) := by
  unfold spec_SameEdges.f spec_l7Edge.f spec_l7Nodes.f sameR
  obtain ⟨k, rfl⟩ : ∃ m, k = m + 1 := ⟨k - 1, by omega⟩
  rw [spec_CircuitValid_f (by omega) (by omega)]
  simp only [Option.bind_some, l1In_f, spec_SameEdges.j0]
  by_cases h : circOK n g = true
  · obtain ⟨b1, b2, b3⟩ := circ_bounds h
    rw [if_pos h, wrap_id (x := 1 + n) (by omega) (by omega), wrap_id (x := 1 + n + (g.length : Int)) (by omega) (by omega), wrap_id (x := 2 * (1 + n + (g.length : Int))) (by omega) (by omega), wrap_id (x := 2 * (1 + n + (g.length : Int)) - 1) (by omega) (by omega)]
    rw [show inB 0 (2 * (1 + n + (g.length : Int)) - 1) a = edgeOK n g a from rfl, show inB 0 (2 * (1 + n + (g.length : Int)) - 1) b = edgeOK n g b from rfl, h]
    cases ha : edgeOK n g a
    · rfl
    · cases hb : edgeOK n g b
      · rfl
      · simp only [if_true, Bool.not_true, Bool.false_eq_true, if_false, Bool.true_and]
        obtain ⟨m, rfl⟩ : ∃ m : Nat, n = (m : Int) := ⟨n.toNat, by omega⟩
        rw [Int.toNat_natCast]
        have hp : 2 ^ m ≤ 4096 := Nat.pow_le_pow_right (show 0 < 2 by decide) (show m ≤ 12 by omega)
        refine (run_allB (g.length + 100) (fun k i => spec_SameEdges.l0 k a b (i : Int) (m : Int) g) (2 ^ m) (fun x => decide (edgeV (valuesR g (bitsL (x : Int) m)) a = edgeV (valuesR g (bitsL (x : Int) m)) b)) true false ?_ ?_ k (by omega)).trans ?_
        · intro k i hB hi
          simp only [spec_SameEdges.l0]
          rw [shl_one m (by omega), if_pos (by omega), if_pos (by exact_mod_cast hi), l6Value_f (by omega) (by omega) (by omega)]
          have hl := bitsL_length (i : Int) m
          have ea := edge_of (x := (i : Int)) rfl ha
          have eb := edge_of (x := (i : Int)) rfl hb
          have hv := values_inv g (bits_bitsL (i : Int) m)
          simp only [Option.bind_some]
          rw [l7Run_f (by omega) h (by omega) (bits_bitsL _ _)]
          simp only [Option.bind_some]
          rw [l7Of_f hv.1 ea.1 ea.2 (by omega), l7Of_f hv.1 eb.1 eb.2 (by omega), wrap_id (x := (i : Int) + 1) (by omega) (by omega)]
          simp only [Option.bind_some]
          by_cases e : edgeV (valuesR g (bitsL (i : Int) m)) a = edgeV (valuesR g (bitsL (i : Int) m)) b
          · rw [if_pos e, decide_eq_true e]
            rfl
          · rw [if_neg e, decide_eq_false e]
            rfl
        · intro k _
          simp only [spec_SameEdges.l0]
          rw [shl_one m (by omega), if_pos (by omega), if_neg (by simp)]
        · by_cases hall : ∀ x : Nat, x < 2 ^ m → edgeV (valuesR g (bitsL (x : Int) m)) a = edgeV (valuesR g (bitsL (x : Int) m)) b
          · rw [if_pos (fun j hj => decide_eq_true (hall j hj)), decide_eq_true hall]
          · rw [if_neg (fun hx => hall (fun j hj => of_decide_eq_true (hx j hj))), decide_eq_false hall]
  · rw [if_neg h, Bool.eq_false_iff.2 h]
    rfl
theorem impl_same {k : Nat} {n : Int} {g : List S73} {a b : Int} (hk : g.length + 5000 < k) (hm : g.length ≤ 1048576) : impl_SameEdges.f k n g a b = some (sameR n g a b) := by
  unfold impl_SameEdges.f impl_Circuit_isEdge.f sameR
  obtain ⟨k, rfl⟩ : ∃ m, k = m + 1 := ⟨k - 1, by omega⟩
  rw [impl_CircuitValid_f (by omega) (by omega)]
  simp only [Option.bind_some, in_f, impl_SameEdges.j0]
  by_cases h : circOK n g = true
  · obtain ⟨b1, b2, b3⟩ := circ_bounds h
    rw [if_pos h, wrap_id (x := 1 + n) (by omega) (by omega), wrap_id (x := 1 + n + (g.length : Int)) (by omega) (by omega), wrap_id (x := 2 * (1 + n + (g.length : Int))) (by omega) (by omega), wrap_id (x := 2 * (1 + n + (g.length : Int)) - 1) (by omega) (by omega)]
    rw [show inB 0 (2 * (1 + n + (g.length : Int)) - 1) a = edgeOK n g a from rfl, show inB 0 (2 * (1 + n + (g.length : Int)) - 1) b = edgeOK n g b from rfl, h]
    cases ha : edgeOK n g a
    · rfl
    · cases hb : edgeOK n g b
      · rfl
      · simp only [if_true, Bool.not_true, Bool.false_eq_true, if_false, Bool.true_and]
        obtain ⟨m, rfl⟩ : ∃ m : Nat, n = (m : Int) := ⟨n.toNat, by omega⟩
        rw [Int.toNat_natCast, if_pos b1, shl_one m (by omega)]
        have hp : 2 ^ m ≤ 4096 := Nat.pow_le_pow_right (show 0 < 2 by decide) (show m ≤ 12 by omega)
        refine (run_allB (g.length + 100) (fun k i => impl_SameEdges.l0 k a b (2 ^ m) (i : Int) (m : Int) g) (2 ^ m) (fun x => decide (edgeV (valuesR g (bitsL (x : Int) m)) a = edgeV (valuesR g (bitsL (x : Int) m)) b)) true false ?_ ?_ k (by omega)).trans ?_
        · intro k i hB hi
          simp only [impl_SameEdges.l0]
          rw [if_pos (by exact_mod_cast hi), valueBits_f (by omega) (by omega) (by omega) (by omega)]
          have hl := bitsL_length (i : Int) m
          have ea := edge_of (x := (i : Int)) rfl ha
          have eb := edge_of (x := (i : Int)) rfl hb
          have hv := values_inv g (bits_bitsL (i : Int) m)
          simp only [Option.bind_some]
          rw [Circuit_values_f (by omega) h (by omega) (bits_bitsL _ _)]
          simp only [Option.bind_some]
          rw [edgeOf_f hv.1 ea.1 ea.2 (by omega), edgeOf_f hv.1 eb.1 eb.2 (by omega), wrap_id (x := (i : Int) + 1) (by omega) (by omega)]
          simp only [Option.bind_some]
          by_cases e : edgeV (valuesR g (bitsL (i : Int) m)) a = edgeV (valuesR g (bitsL (i : Int) m)) b
          · rw [if_pos e, decide_eq_true e]
            rfl
          · rw [if_neg e, decide_eq_false e]
            rfl
        · intro k _
          simp only [impl_SameEdges.l0]
          rw [if_neg (by simp)]
        · by_cases hall : ∀ x : Nat, x < 2 ^ m → edgeV (valuesR g (bitsL (x : Int) m)) a = edgeV (valuesR g (bitsL (x : Int) m)) b
          · rw [if_pos (fun j hj => decide_eq_true (hall j hj)), decide_eq_true hall]
          · rw [if_neg (fun hx => hall (fun j hj => of_decide_eq_true (hx j hj))), decide_eq_false hall]
  · rw [if_neg h, Bool.eq_false_iff.2 h]
    rfl

def edgeR (n : Int) (g : List S73) (v : List Int) (e : Int) : Int := if circOK n g = true then (if (v.length : Int) = n then (if v.all (inB 0 1) = true then (if edgeOK n g e = true then edgeV (valuesR g v) e else -1) else -1) else -1) else -1
theorem impl_edge {k : Nat} {n : Int} {g : List S73} {v : List Int} {e : Int} (hk : g.length + v.length + 20 < k) (hm : g.length ≤ 1048576) (hv : v.length ≤ 1048576) : impl_EdgeValue.f k n g v e = some (edgeR n g v e) := by
  unfold impl_EdgeValue.f impl_Circuit_isEdge.f edgeR
  obtain ⟨k, rfl⟩ : ∃ m, k = m + 1 := ⟨k - 1, by omega⟩
  rw [impl_CircuitValid_f (by omega) (by omega)]
  simp only [Option.bind_some, impl_EdgeValue.j0, in_f]
  by_cases h : circOK n g = true
  · obtain ⟨b1, b2, b3⟩ := circ_bounds h
    rw [if_pos h, if_pos h]
    by_cases h4 : (v.length : Int) = n
    · rw [if_pos h4, if_pos h4, impl_bitsValid_f (by omega) (by omega)]
      simp only [Option.bind_some]
      by_cases h5 : v.all (inB 0 1) = true
      · obtain ⟨hb, hl⟩ := values_inv g (bits_of_all h5)
        rw [if_pos h5, if_pos h5, wrap_id (x := 1 + n) (by omega) (by omega), wrap_id (x := 1 + n + (g.length : Int)) (by omega) (by omega), wrap_id (x := 2 * (1 + n + (g.length : Int))) (by omega) (by omega), wrap_id (x := 2 * (1 + n + (g.length : Int)) - 1) (by omega) (by omega)]
        by_cases h6 : edgeOK n g e = true
        · have h6' : inB 0 (2 * (1 + n + (g.length : Int)) - 1) e = true := h6
          have h7 : 0 ≤ e ∧ e ≤ 2 * (1 + n + (g.length : Int)) - 1 := of_decide_eq_true h6
          rw [h6', if_pos h6]
          simp only [Bool.not_true, Bool.false_eq_true, if_false]
          rw [Circuit_values_f (by omega) h h4 (bits_of_all h5)]
          simp only [Option.bind_some]
          rw [edgeOf_f hb h7.1 (by rw [hl]; omega) (by omega)]
          rfl
        · have h6' : inB 0 (2 * (1 + n + (g.length : Int)) - 1) e = false := Bool.eq_false_iff.2 h6
          rw [h6', if_neg h6]
          rfl
      · rw [if_neg h5, if_neg h5]
        rfl
    · rw [if_neg h4, if_neg h4]
      rfl
  · rw [if_neg h, if_neg h]
    rfl

/-- A row of zeros and ones is the bits of a number. -/
theorem bits_of_list : ∀ (m : Nat) (v : List Int), v.length = m → Bits v → ∃ x : Nat, x < 2 ^ m ∧ bitsL (x : Int) m = v := by
  intro m
  induction m with
  | zero =>
    intro v hl _
    exact ⟨0, by decide, by rw [List.eq_nil_of_length_eq_zero hl]; rfl⟩
  | succ m ih =>
    intro v hl hb
    obtain ⟨x, hx, e⟩ := ih (v.take m) (by rw [List.length_take]; omega) (fun y hy => hb y (List.mem_of_mem_take hy))
    obtain ⟨b, hb2, hbe⟩ : ∃ b : Nat, b ≤ 1 ∧ v.getD m 0 = (b : Int) := by
      rcases bits_at hb m with h | h
      · exact ⟨0, by omega, by rw [h]; rfl⟩
      · exact ⟨1, by omega, by rw [h]; rfl⟩
    refine ⟨2 * x + b, by rw [Nat.pow_succ]; omega, ?_⟩
    refine ext_getD (d := 0) (by rw [bitsL_length, hl]) fun j hj => ?_
    rw [hl] at hj
    rw [bitsL_getD _ _ _ hj]
    by_cases h : j = m
    · subst h
      rw [show j + 1 - 1 - j = 0 from by omega, Int.pow_zero, Int.ediv_one, hbe]
      omega
    · have h1 := congrArg (fun l : List Int => l.getD j 0) e
      have ht : (v.take m).getD j 0 = v.getD j 0 := by simp [List.getD_eq_getElem?_getD, List.getElem?_take, show j < m from by omega]
      replace h1 : (bitsL (x : Int) m).getD j 0 = (v.take m).getD j 0 := h1
      rw [bitsL_getD _ _ _ (by omega)] at h1
      rw [← ht, ← h1, show m + 1 - 1 - j = (m - 1 - j) + 1 from by omega, Int.pow_succ, Int.mul_comm, ← Int.ediv_ediv_of_nonneg (by decide), show ((2 * x + b : Nat) : Int) / 2 = (x : Int) from by omega]

theorem draw_loop {b : List Int} (hb : Bytes b) : ∀ (m k : Nat) (p n : Int) (g : List S73), m + 1 < k → 0 ≤ p → p + 2 * (m : Int) ≤ 1000 → g.length + m ≤ 14 → ∃ g', spec_l7Draw.l0 k (m : Int) b p n g = some (n, g', p + 2 * (m : Int)) ∧ g'.length ≤ 14 := by
  intro m
  induction m with
  | zero =>
    intro k p n g hk h0 h1 hg
    obtain ⟨k, rfl⟩ : ∃ m, k = m + 1 := ⟨k - 1, by omega⟩
    refine ⟨g, ?_, by omega⟩
    simp only [spec_l7Draw.l0]
    rw [if_neg (by simp)]
    simp
  | succ m ih =>
    intro k p n g hk h0 h1 hg
    obtain ⟨k, rfl⟩ : ∃ m, k = m + 1 := ⟨k - 1, by omega⟩
    simp only [spec_l7Draw.l0]
    rw [if_pos (by omega)]
    unfold spec_l7Nodes.f
    simp only [Option.bind_some]
    generalize wrap64 (2 * wrap64 (wrap64 (1 + n) + (g.length : Int))) = N
    obtain ⟨r1, e1, -⟩ := pick_f (k := k) (b := b) (p := p) (n := N) (by omega) hb (by omega) (by omega)
    rw [e1]
    simp only [Option.bind_some]
    generalize wrap64 (Int.tdiv (wrap64 (N + 1)) 2) = N2
    obtain ⟨r2, e2, -⟩ := pick_f (k := k) (b := b) (p := p + 1) (n := N2) (by omega) hb (by omega) (by omega)
    rw [e2]
    simp only [Option.bind_some]
    rw [if_pos (by omega), wrap_id (x := ((m + 1 : Nat) : Int) - 1) (by omega) (by omega), show ((m + 1 : Nat) : Int) - 1 = (m : Int) from by omega]
    obtain ⟨g', e3, h3⟩ := ih k (p + 1 + 1) n (g ++ [⟨r1, wrap64 (wrap64 (N - 1) - r2)⟩]) (by omega) (by omega) (by omega) (by rw [List.length_append]; simp; omega)
    refine ⟨g', ?_, h3⟩
    rw [e3]
    refine congrArg some (Prod.ext rfl (Prod.ext rfl ?_))
    show p + 1 + 1 + 2 * (m : Int) = p + 2 * ((m + 1 : Nat) : Int)
    omega
theorem draw_f {b : List Int} (hb : Bytes b) {k : Nat} (hk : 30 < k) : ∃ n g p, spec_l7Draw.f k b 0 5 = some (n, g, p) ∧ g.length ≤ 14 ∧ 0 ≤ p ∧ p ≤ 40 := by
  unfold spec_l7Draw.f
  obtain ⟨r1, e1, -⟩ := pick_f (k := k) (b := b) (p := 0) (n := wrap64 (5 + 1)) (by omega) hb (by omega) (by omega)
  rw [e1]
  simp only [Option.bind_some]
  obtain ⟨r2, e2, h2⟩ := num_f (k := k) (b := b) (l := [3, 6, 10, 1, 14, 0]) (p := 0 + 1) (by omega) hb (by omega) (by omega) (by simp)
  rw [e2]
  simp only [Option.bind_some]
  have h3 : 0 ≤ r2 ∧ r2 ≤ 14 := by
    simp at h2
    omega
  obtain ⟨m, rfl⟩ : ∃ m : Nat, r2 = (m : Int) := ⟨r2.toNat, by omega⟩
  obtain ⟨g, e3, h4⟩ := draw_loop hb m k (0 + 1 + 1) r1 [] (by omega) (by omega) (by omega) (by simp; omega)
  exact ⟨_, _, _, e3, h4, by omega, by omega⟩
theorem any_f {b : List Int} (hb : Bytes b) {k : Nat} (hk : 30 < k) : ∃ n g p, spec_l7Any.f k b 0 5 = some (n, g, p) ∧ g.length ≤ 14 ∧ 0 ≤ p ∧ p ≤ 50 := by
  obtain ⟨k, rfl⟩ : ∃ m, k = m + 1 := ⟨k - 1, by omega⟩
  unfold spec_l7Any.f
  obtain ⟨n, g, p, e, hg, h0, h1⟩ := draw_f hb hk
  rw [e]
  simp only [Option.bind_some]
  obtain ⟨r1, e1, -⟩ := pick_f (k := k + 1) (b := b) (p := p) (n := 14) (by omega) hb (by omega) (by omega)
  rw [e1]
  simp only [Option.bind_some]
  by_cases c1 : r1 = 0
  · rw [if_pos c1]
    obtain ⟨r2, e2, -⟩ := pick_f (k := k + 1) (b := b) (p := p + 1) (n := 2) (by omega) hb (by omega) (by omega)
    rw [e2]
    simp only [Option.bind_some]
    have j0 : ∀ x21 : Bool, (x21 = false → g.length ≠ 0) → ∃ n' g' p', spec_l7Any.j0 (k + 1) x21 b (p + 1 + 1) n g = some (n', g', p') ∧ g'.length ≤ 14 ∧ 0 ≤ p' ∧ p' ≤ 50 := by
      intro x21 hx
      simp only [spec_l7Any.j0]
      cases x21 with
      | true =>
        obtain ⟨r3, e3, -⟩ := num_f (k := k) (b := b) (l := [(-1), 13]) (p := p + 1 + 1) (by omega) hb (by omega) (by omega) (by simp)
        rw [if_pos (show true = true from rfl), e3]
        exact ⟨_, _, _, rfl, hg, by omega, by omega⟩
      | false =>
        have hx := hx rfl
        rw [if_neg (by decide)]
        obtain ⟨r3, e3, h3, h3'⟩ := pick_f (k := k) (b := b) (p := p + 1 + 1) (n := (g.length : Int)) (by omega) hb (by omega) (by omega)
        rw [e3]
        simp only [Option.bind_some]
        obtain ⟨r4, e4, -⟩ := num_f (k := k) (b := b) (l := [(-1), wrap64 (2 * wrap64 (wrap64 (1 + n) + r3))]) (p := p + 1 + 1 + 1) (by omega) hb (by omega) (by omega) (by simp)
        rw [e4]
        simp only [Option.bind_some]
        rw [if_pos h3, if_pos (h3' (by omega))]
        exact ⟨_, _, _, rfl, by rw [List.length_set]; exact hg, by omega, by omega⟩
    by_cases c2 : r2 = 0
    · rw [if_pos c2]
      exact j0 true (fun h => by cases h)
    · rw [if_neg c2]
      refine j0 _ fun h h0 => ?_
      rw [h0] at h
      cases h
  · rw [if_neg c1]
    exact ⟨_, _, _, rfl, hg, by omega, by omega⟩
theorem some_f {b : List Int} (hb : Bytes b) {k : Nat} (hk : 30 < k) {p : Int} (h0 : 0 ≤ p) (h1 : p ≤ 1000) (n : Int) (g : List S73) : ∃ e q, spec_l7Some.f k b p n g = some (e, q) ∧ 0 ≤ q ∧ q ≤ p + 3 := by
  unfold spec_l7Some.f spec_l7Nodes.f
  simp only [Option.bind_some]
  generalize wrap64 (2 * wrap64 (wrap64 (1 + n) + (g.length : Int))) = N
  obtain ⟨r1, e1, -⟩ := pick_f (k := k) (b := b) (p := p) (n := 15) (by omega) hb (by omega) (by omega)
  rw [e1]
  simp only [Option.bind_some]
  by_cases c1 : r1 = 0
  · rw [if_pos c1]
    obtain ⟨r2, e2, -⟩ := num_f (k := k) (b := b) (l := [N, (-1)]) (p := p + 1) (by omega) hb (by omega) (by omega) (by simp)
    rw [e2]
    exact ⟨_, _, rfl, by omega, by omega⟩
  · rw [if_neg c1]
    obtain ⟨r2, e2, -⟩ := pick_f (k := k) (b := b) (p := p + 1) (n := 2) (by omega) hb (by omega) (by omega)
    rw [e2]
    simp only [Option.bind_some]
    by_cases c2 : r2 = 0
    · rw [if_pos c2]
      obtain ⟨r3, e3, -⟩ := pick_f (k := k) (b := b) (p := p + 1 + 1) (n := 4) (by omega) hb (by omega) (by omega)
      rw [e3]
      exact ⟨_, _, rfl, by omega, by omega⟩
    · rw [if_neg c2]
      obtain ⟨r3, e3, -⟩ := pick_f (k := k) (b := b) (p := p + 1 + 1) (n := N) (by omega) hb (by omega) (by omega)
      rw [e3]
      exact ⟨_, _, rfl, by omega, by omega⟩
theorem find_t {k : Nat} {n a b : Int} {g : List S73} (hk : g.length < k) (hg : g.length ≤ 1000) : ∃ r, spec_l7Find.f k n g a b = some r := by
  unfold spec_l7Find.f
  by_cases h : ∀ i : Nat, i < g.length → ¬ ((rd_T73 g (i : Int)).f0 = a ∧ (rd_T73 g (i : Int)).f1 = b)
  · refine ⟨-1, run_inv (fun k (_ : Unit) i => spec_l7Find.l0 k a b (i : Int) n g) g.length (fun _ _ => True) _ ?_ ?_ k 0 () (Nat.zero_le _) (by omega) trivial⟩
    · intro k i _ hi _
      refine Or.inr ⟨(), ?_, trivial⟩
      have := h i hi
      simp only [spec_l7Find.l0]
      rw [if_pos (by omega), if_pos (by omega), wrap_id (x := (i : Int) + 1) (by omega) (by omega)]
      split
      · rw [if_neg (fun e => this ⟨by assumption, e⟩)]
        rfl
      · rfl
    · intro k _ _
      simp only [spec_l7Find.l0]
      rw [if_neg (by omega)]
  · have key : ∀ d i k : Nat, i + d = g.length → d < k → ∃ r, spec_l7Find.l0 k a b (i : Int) n g = some r := by
      intro d
      induction d with
      | zero =>
        intro i k hi hk
        obtain ⟨k, rfl⟩ : ∃ m, k = m + 1 := ⟨k - 1, by omega⟩
        simp only [spec_l7Find.l0]
        rw [if_neg (by omega)]
        exact ⟨_, rfl⟩
      | succ d ih =>
        intro i k hi hk
        obtain ⟨k, rfl⟩ : ∃ m, k = m + 1 := ⟨k - 1, by omega⟩
        obtain ⟨r, hr⟩ := ih (i + 1) k (by omega) (by omega)
        simp only [spec_l7Find.l0]
        rw [if_pos (by omega), if_pos (by omega), wrap_id (x := (i : Int) + 1) (by omega) (by omega)]
        split
        · split
          · exact ⟨_, rfl⟩
          · exact ⟨r, hr⟩
        · exact ⟨r, hr⟩
    exact key g.length 0 k (by omega) (by omega)
theorem and_t {k : Nat} {n a b : Int} {g : List S73} (hk : g.length + 5 < k) (hg : g.length ≤ 1000) : ∃ g' e, spec_l7And.f k n g a b = some (n, g', e) ∧ g'.length ≤ g.length + 1 := by
  obtain ⟨k, rfl⟩ : ∃ m, k = m + 3 := ⟨k - 3, by omega⟩
  have j2 : ∀ (x1 x2 : Int) (c : Bool), ∃ g' e, spec_l7And.j2 (k + 1) x1 x2 c n g = some (n, g', e) ∧ g'.length ≤ g.length + 1 := by
    intro x1 x2 c
    simp only [spec_l7And.j2]
    split
    · exact ⟨_, _, rfl, by omega⟩
    · obtain ⟨r, hr⟩ := find_t (k := k) (n := n) (a := x1) (b := x2) (g := g) (by omega) hg
      rw [hr]
      simp only [Option.bind_some]
      split
      · exact ⟨_, _, rfl, by omega⟩
      · split
        · exact ⟨_, _, rfl, by omega⟩
        · rw [if_pos (by omega)]
          unfold spec_l7Nodes.f
          exact ⟨_, _, rfl, by rw [List.length_append]; simp⟩
  have j1 : ∀ (x1 x2 : Int) (c : Bool), ∃ g' e, spec_l7And.j1 (k + 2) x1 x2 c n g = some (n, g', e) ∧ g'.length ≤ g.length + 1 := by
    intro x1 x2 c
    simp only [spec_l7And.j1]
    split
    · exact ⟨_, _, rfl, by omega⟩
    · split <;> exact j2 _ _ _
  have j0 : ∀ (x1 x2 : Int), ∃ g' e, spec_l7And.j0 (k + 3) x1 x2 n g = some (n, g', e) ∧ g'.length ≤ g.length + 1 := by
    intro x1 x2
    simp only [spec_l7And.j0]
    split
    · exact j1 _ _ _
    · split <;> exact j1 _ _ _
  unfold spec_l7And.f
  split <;> exact j0 _ _
theorem not_t (a : Int) : ∃ e, spec_l7Not.f a = some e := by
  unfold spec_l7Not.f
  split <;> exact ⟨_, rfl⟩
theorem copy_f {k : Nat} {n : Int} {g : List S73} (hk : g.length < k) (hg : g.length ≤ 1000) : spec_l7Copy.f k n g = some (n, g) := by
  unfold spec_l7Copy.f
  refine run_inv (fun k (s : List S73) i => spec_l7Copy.l0 k (i : Int) n g n s) g.length (fun i s => s = g.take i) _ ?_ ?_ k 0 [] (Nat.zero_le _) (by omega) rfl
  · rintro k i s hi rfl
    refine Or.inr ⟨g.take (i + 1), ?_, rfl⟩
    simp only [spec_l7Copy.l0]
    rw [if_pos (by omega), if_pos (by omega), if_pos (by rw [List.length_take]; omega), wrap_id (x := (i : Int) + 1) (by omega) (by omega), take_succ_getD g i z73 hi]
    rfl
  · rintro k s rfl
    simp only [spec_l7Copy.l0]
    rw [if_neg (by omega), List.take_length]
theorem draw_same {l : List Int} (hw : ∀ x ∈ l, (Lit.int .u8 x).wf = true) {k : Nat} (hk : 100 < k) : ∃ n g a b, spec_DrawSameEdges.f k l = some (n, g, a, b) ∧ g.length ≤ 17 := by
  unfold spec_DrawSameEdges.f
  obtain ⟨b, hb, hb'⟩ := open_f hw
  rw [hb]
  simp only [Option.bind_some]
  obtain ⟨n, g, p, e, hg, h0, h1⟩ := any_f (k := k) hb' (by omega)
  rw [e]
  simp only [Option.bind_some]
  obtain ⟨a, q, e2, h2, h3⟩ := some_f (k := k) hb' (by omega) h0 (by omega) n g
  rw [e2]
  simp only [Option.bind_some]
  rw [spec_CircuitValid_f (by omega) (by omega)]
  simp only [Option.bind_some]
  obtain ⟨k, rfl⟩ : ∃ m, k = m + 1 := ⟨k - 1, by omega⟩
  have j0 : ∀ (c : Bool) (q : Int), 0 ≤ q → q ≤ 1000 → ∃ n' g' a' b', spec_DrawSameEdges.j0 (k + 1) a c b q n g = some (n', g', a', b') ∧ g'.length ≤ 17 := by
    intro c q h0 h1
    simp only [spec_DrawSameEdges.j0]
    cases c with
    | true =>
      rw [if_pos (show true = true from rfl)]
      obtain ⟨r1, e1, -⟩ := pick_f (k := k) (b := b) (p := q) (n := n) (by omega) hb' (by omega) (by omega)
      rw [e1]
      simp only [Option.bind_some]
      rw [copy_f (by omega) (by omega)]
      simp only [Option.bind_some]
      unfold spec_l7Pick.f
      rw [if_pos (show a = a from rfl)]
      simp only [Option.bind_some]
      generalize wrap64 (2 * wrap64 (1 + r1)) = X
      obtain ⟨g1, e1, w1, hg1⟩ := and_t (k := k) (n := n) (a := a) (b := X) (g := g) (by omega) (by omega)
      rw [w1]
      simp only [Option.bind_some]
      obtain ⟨g2, e2, w2, hg2⟩ := and_t (k := k) (n := n) (a := a) (b := wrap64 (X + 1)) (g := g1) (by omega) (by omega)
      rw [w2]
      simp only [Option.bind_some]
      unfold spec_l7Or.f
      obtain ⟨u, hu⟩ := not_t e1
      obtain ⟨v, hv⟩ := not_t e2
      rw [hu, hv]
      simp only [Option.bind_some]
      obtain ⟨g3, e3, w3, hg3⟩ := and_t (k := k) (n := n) (a := u) (b := v) (g := g2) (by omega) (by omega)
      rw [w3]
      simp only [Option.bind_some]
      obtain ⟨z, hz⟩ := not_t e3
      rw [hz]
      exact ⟨_, _, _, _, rfl, by show g3.length ≤ 17; omega⟩
    | false =>
      rw [if_neg (by decide)]
      obtain ⟨z, q2, e3, -, -⟩ := some_f (k := k) hb' (by omega) h0 (by omega) n g
      rw [e3]
      exact ⟨_, _, _, _, rfl, by omega⟩
  unfold spec_l7Edge.f spec_l7Nodes.f spec_l1In.f
  simp only [Option.bind_some]
  split
  · split
    · simp only [Option.bind_some]
      split
      · split
        · obtain ⟨r1, e1, -⟩ := pick_f (k := k + 1) (b := b) (p := q) (n := 2) (by omega) hb' (by omega) (by omega)
          rw [e1]
          simp only [Option.bind_some]
          exact j0 _ _ (by omega) (by omega)
        · exact j0 _ _ (by omega) (by omega)
      · exact j0 _ _ (by omega) (by omega)
    · simp only [Option.bind_some, Bool.false_eq_true, if_false]
      exact j0 _ _ (by omega) (by omega)
  · exact j0 _ _ (by omega) (by omega)
theorem xor_one_even {b : Int} (h0 : 0 ≤ b) (h1 : b < 4611686018427387904) : Go.bits .xor .i64 b 1 = if b % 2 = 1 then b - 1 else b + 1 := by
  obtain ⟨a, rfl⟩ := Int.eq_ofNat_of_zero_le h0
  have h2 : (BitVec.ofInt 64 (a : Int)).toNat = a := by
    rw [BitVec.toNat_ofInt]
    omega
  have h4 : Go.bits .xor .i64 (a : Int) 1 = IntKind.i64.wrap ((a ^^^ 1 : Nat) : Int) := by
    show IntKind.i64.wrap (((BitVec.ofInt 64 (a : Int) ^^^ BitVec.ofInt 64 1).toNat : Nat) : Int) = _
    rw [BitVec.toNat_xor, h2]
    rfl
  have h5 : a ^^^ 1 = if a % 2 = 1 then a - 1 else a + 1 := by
    have e1 : (a ^^^ 1) / 2 = a / 2 := by rw [Nat.xor_div_two]; simp
    have e2 : (a ^^^ 1) % 2 = (a % 2 + 1) % 2 := by
      have := Nat.xor_mod_two_pow (a := a) (b := 1) (n := 1)
      rcases Nat.mod_two_eq_zero_or_one a with h | h <;> simp [h] at this ⊢ <;> omega
    split <;> omega
  rw [h4, IntKind.wrap_i64, h5]
  split <;> split <;> omega
theorem same_flip {n : Int} {g : List S73} {a b : Int} (h : sameR n g a b = true) : sameR n g b a = true := by
  unfold sameR at h ⊢
  simp only [Bool.and_eq_true] at h ⊢
  obtain ⟨h1, h2, h3, h4⟩ := h
  have h4 := of_decide_eq_true h4
  exact ⟨h1, h3, h2, decide_eq_true fun x hx => (h4 x hx).symm⟩
theorem same_not {n : Int} {g : List S73} {a b : Int} (h : sameR n g a b = true) : sameR n g a (Go.bits .xor .i64 b 1) = false := by
  unfold sameR at h
  simp only [Bool.and_eq_true] at h
  obtain ⟨h1, h2, h3, h4⟩ := h
  have h4 := of_decide_eq_true h4
  obtain ⟨b1, b2, b3⟩ := circ_bounds h1
  have h5 : 0 ≤ b ∧ b ≤ 2 * (1 + n + (g.length : Int)) - 1 := of_decide_eq_true h3
  rw [Bool.eq_false_iff]
  intro h
  unfold sameR at h
  simp only [Bool.and_eq_true] at h
  obtain ⟨-, -, -, h6⟩ := h
  have h6 := of_decide_eq_true h6
  have e1 := h4 0 (Nat.pow_pos (by decide))
  have e2 := h6 0 (Nat.pow_pos (by decide))
  rw [xor_one_even h5.1 (by omega)] at e2
  have hb := (values_inv g (bits_bitsL ((0 : Nat) : Int) n.toNat)).1
  rw [e1] at e2
  generalize valuesR g (bitsL ((0 : Nat) : Int) n.toNat) = vs at e2 hb
  have hx := bits_at hb (b / 2).toNat
  unfold edgeV at e2
  by_cases hp : b % 2 = 1
  · rw [if_pos hp, if_pos hp, if_neg (by omega), show (b - 1) / 2 = b / 2 from by omega] at e2
    omega
  · rw [if_neg hp, if_neg hp, if_pos (by omega), show (b + 1) / 2 = b / 2 from by omega] at e2
    omega
theorem same_edge {n : Int} {g : List S73} {a b : Int} (h : sameR n g a b = true) {v : List Int} (hv : (v.length : Int) = n) (hb : Bits v) : edgeR n g v a = edgeR n g v b := by
  unfold sameR at h
  simp only [Bool.and_eq_true] at h
  obtain ⟨h1, h2, h3, h4⟩ := h
  have h4 := of_decide_eq_true h4
  obtain ⟨x, hx, e⟩ := bits_of_list v.length v rfl hb
  have h5 := h4 x (by rw [← hv]; exact hx)
  rw [← hv, Int.toNat_natCast, e] at h5
  unfold edgeR
  rw [h5, if_pos h2, if_pos h3]

theorem FnSameEdges : laws_FnSameEdges.Pure := by
  intro l hl hl8 hw
  refine ⟨12000, ?_⟩
  unfold laws_FnSameEdges.f
  by_cases h : (l.length : Int) > 1048576
  · rw [if_pos h]
  · rw [if_neg h]
    obtain ⟨n, g, a, b, hd, hg⟩ := draw_same hw (k := 12000) (by omega)
    rw [hd]
    simp only [Option.bind_some]
    rw [impl_same (by omega) (by omega), spec_same (by omega) (by omega)]
    simp only [Option.bind_some]
    rw [if_neg (by simp), impl_CircuitValid_f (by omega) (by omega), spec_CircuitValid_f (by omega) (by omega)]
    simp only [Option.bind_some, bne_self_eq_false]
    rw [show (12000 : Nat) = 11999 + 1 from rfl]
    simp only [laws_FnSameEdges.j0]
    rw [if_neg (by decide)]
    generalize hs : sameR n g a b = s
    -- what stands behind the loop
    have tail : ∀ k, 6000 ≤ k → laws_FnSameEdges.j2 (k + 1) a b s 32 false n g = some true ∧ ∀ i : Int, laws_FnSameEdges.j2 (k + 1) a b s i false n g = some true := by
      intro k hk
      have t : ∀ i : Int, laws_FnSameEdges.j2 (k + 1) a b s i false n g = some true := by
        intro i
        simp only [laws_FnSameEdges.j2]
        rw [if_neg (by decide)]
        cases s with
        | false => rw [if_neg (by decide)]
        | true =>
          rw [if_pos (show true = true from rfl), impl_same (by omega) (by omega), same_flip hs]
          simp only [Option.bind_some, if_true]
          rw [impl_same (by omega) (by omega), same_not hs]
          rfl
      exact ⟨t 32, t⟩
    by_cases hc : circOK n g = true
    · obtain ⟨b1, b2, b3⟩ := circ_bounds hc
      obtain ⟨m, rfl⟩ : ∃ m : Nat, n = (m : Int) := ⟨n.toNat, by omega⟩
      -- the bits of a round
      have bitsG : ∀ (i : Nat), i < 32 → ∀ k, 6000 ≤ k → ∃ v : List Int, (v.length : Int) = (m : Int) ∧ Bits v ∧ laws_FnSameEdges.l1 (k + (m + 1)) a b s (i : Int) [] (m : Int) 0 (m : Int) g = (if s = true then (impl_EdgeValue.f k (m : Int) g v a).bind fun t1 => (impl_EdgeValue.f k (m : Int) g v b).bind fun t2 => (if t1 = t2 then laws_FnSameEdges.l0 k a b s (wrap64 ((i : Int) + 1)) (m : Int) g else some false) else laws_FnSameEdges.l0 k a b s (wrap64 ((i : Int) + 1)) (m : Int) g) := by
        intro i hi k hk
        refine ⟨(List.range m).map fun j : Nat => Int.tmod (shr .i64 (i : Int) (j : Int)) 2, by simp, ?_, ?_⟩
        · intro x hx
          obtain ⟨j, -, rfl⟩ := List.mem_map.1 hx
          have h0 : 0 ≤ shr .i64 (i : Int) (j : Int) := by
            unfold shr
            exact Int.ediv_nonneg (by omega) (Int.le_of_lt (pow_pos_int _))
          have := tmod_in h0 (show (1 : Int) ≤ 2 by decide)
          omega
        · refine run_goto (fun k (v : List Int) j => laws_FnSameEdges.l1 k a b s (i : Int) v (m : Int) (j : Int) (m : Int) g) m (fun j v => v = ((List.range m).map fun j : Nat => Int.tmod (shr .i64 (i : Int) (j : Int)) 2).take j) (fun k => (if s = true then (impl_EdgeValue.f k (m : Int) g ((List.range m).map fun j : Nat => Int.tmod (shr .i64 (i : Int) (j : Int)) 2) a).bind fun t1 => (impl_EdgeValue.f k (m : Int) g ((List.range m).map fun j : Nat => Int.tmod (shr .i64 (i : Int) (j : Int)) 2) b).bind fun t2 => (if t1 = t2 then laws_FnSameEdges.l0 k a b s (wrap64 ((i : Int) + 1)) (m : Int) g else some false) else laws_FnSameEdges.l0 k a b s (wrap64 ((i : Int) + 1)) (m : Int) g)) ?_ ?_ m k 0 [] (by omega) rfl
          · rintro k j v hj rfl
            refine ⟨_, ?_, (take_map_range_succ _ m j hj).symm⟩
            simp only [laws_FnSameEdges.l1]
            rw [if_pos (by omega), if_pos (by omega), if_pos (by rw [take_map_range_length _ _ _ (by omega)]; omega), wrap_id (x := (j : Int) + 1) (by omega) (by omega)]
            rfl
          · rintro k v rfl
            simp only [laws_FnSameEdges.l1]
            rw [if_neg (by omega), List.take_of_length_le (by simp)]
      refine run_invC (m + 2) 6100 (fun k (_ : Unit) i => laws_FnSameEdges.l0 k a b s (i : Int) (m : Int) g) 32 (fun _ _ => True) _ ?_ ?_ 11999 0 () (Nat.zero_le _) ?_ trivial
      · intro k i _ hk hi _
        refine Or.inr ⟨(), ?_, trivial⟩
        rw [show k + (m + 2 + 1) = (k + (m + 1)) + 1 + 1 from by omega]
        simp only [laws_FnSameEdges.l0]
        rw [if_pos (by omega), impl_CircuitValid_f (by omega) (by omega), hc]
        simp only [Option.bind_some, laws_FnSameEdges.j2, if_true]
        obtain ⟨v, hv, hb, e⟩ := bitsG i hi k (by omega)
        rw [e, wrap_id (x := (i : Int) + 1) (by omega) (by omega)]
        cases s with
        | false => rw [if_neg (by decide)]; rfl
        | true =>
          rw [if_pos (show true = true from rfl), impl_edge (by omega) (by omega) (by omega), impl_edge (by omega) (by omega) (by omega), same_edge hs hv hb]
          simp only [Option.bind_some, if_true]
          rfl
      · intro k _ hk _
        rw [show k + (m + 2 + 1) = (k + (m + 1)) + 1 + 1 from by omega]
        simp only [laws_FnSameEdges.l0]
        rw [if_neg (by decide)]
        exact (tail _ (by omega)).2 _
      · have : (32 - 0 + 1) * (m + 2 + 1) ≤ 33 * 15 := Nat.mul_le_mul (by omega) (by omega)
        omega
    · rw [show (11999 : Nat) = 11998 + 1 from rfl]
      simp only [laws_FnSameEdges.l0]
      rw [if_pos (by decide), impl_CircuitValid_f (by omega) (by omega), Bool.eq_false_iff.2 hc]
      simp only [Option.bind_some]
      rw [show (11998 : Nat) = 11997 + 1 from rfl]
      exact (tail _ (by omega)).2 _

end Go.Proofs.Ythphgkhmeobadab.Pure
