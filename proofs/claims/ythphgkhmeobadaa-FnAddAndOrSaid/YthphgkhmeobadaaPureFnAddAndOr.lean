/- The law 'once is enough' holds for all bytes: whatever circuit and edges are drawn of them, And and Or are contrary to each other, and nothing is added twice.
Conditions: none. -/
import Derived.Test.YthphgkhmeobadaaXFnAddAndOrx11
import Derived.Test.YthphgkhmeobadaaXLib2
namespace Go.Proofs.Ythphgkhmeobadaa.Pure
open Go.RowKit Go.Proofs.Ythphgkhmeobadaa.XFnAddAndOr Go.Proofs.YthphgkhmeobadaaW.PrintWords Go.Proofs.YthphgkhmeobadaaW.PrintLast Go.Proofs.YthphgkhmeobadaaW.PrintMore Go.Proofs.YthphgkhmeobadaaX
set_option linter.unusedVariables false
set_option linter.unusedSimpArgs false

theorem rdT57_nat (xs : List S57) (i : Nat) : rd_T57 xs (i : Int) = xs.getD i z57 := by
  unfold rd_T57
  simp

theorem l1In_f (n a b : Int) : spec_l1In.f n a b = some (inB a b n) := by
  unfold spec_l1In.f inB
  by_cases h : n ≥ a
  · rw [if_pos h]; congr 1; simp; omega
  · rw [if_neg h, decide_eq_false (by omega)]

/-- A circuit that is one: its gates' edges lead to what stands ahead. -/
def gateOK (n : Int) (g : List S57) (j : Nat) : Bool := inB 0 (wrap64 (wrap64 (2 * wrap64 (wrap64 (1 + n) + (j : Int))) - 1)) (g.getD j z57).f0 && inB 0 (wrap64 (wrap64 (2 * wrap64 (wrap64 (1 + n) + (j : Int))) - 1)) (g.getD j z57).f1
def circOK (n : Int) (g : List S57) : Bool := inB 0 12 n && !decide ((g.length : Int) > 600) && decide (∀ j, j < g.length → gateOK n g j = true)

theorem spec_CircuitValid_f {k : Nat} {n : Int} {g : List S57} (hk : g.length + 2 < k) (hm : g.length ≤ 35184372088832) : spec_CircuitValid.f k n g = some (circOK n g) := by
  unfold spec_CircuitValid.f circOK
  rw [l1In_f]
  simp only [Option.bind_some]
  obtain ⟨k, rfl⟩ : ∃ m, k = m + 1 := ⟨k - 1, by omega⟩
  cases inB 0 12 n
  · simp [spec_CircuitValid.j0]
  · simp only [if_true, Bool.true_and, spec_CircuitValid.j0]
    cases hd : decide ((g.length : Int) > 600)
    · simp only [Bool.false_eq_true, if_false, Bool.not_false, Bool.true_and]
      refine (run_all (fun k i => spec_CircuitValid.l0 k (i : Int) n g) g.length (gateOK n g) true false ?_ ?_ k (by omega)).trans ?_
      · intro k i hi
        simp only [spec_CircuitValid.l0]
        rw [if_pos (by omega), if_pos (by omega), wrap_id (x := (i : Int) + 1) (by omega) (by omega), l1In_f, l1In_f]
        simp only [rdT57_nat, Option.bind_some]
        unfold gateOK
        cases inB 0 (wrap64 (wrap64 (2 * wrap64 (wrap64 (1 + n) + (i : Int))) - 1)) (g.getD i z57).f0
        · simp
        · simp
      · intro k
        simp only [spec_CircuitValid.l0]
        rw [if_neg (by omega)]
      · by_cases h : ∀ j, j < g.length → gateOK n g j = true
        · rw [if_pos h, decide_eq_true h]
        · rw [if_neg h, decide_eq_false h]
    · simp

theorem circ_bounds {n : Int} {g : List S57} (h : circOK n g = true) : 0 ≤ n ∧ n ≤ 12 ∧ g.length ≤ 600 := by
  unfold circOK at h
  have h1 := Bool.and_eq_true_iff.1 (Bool.and_eq_true_iff.1 h).1
  have h2 : 0 ≤ n ∧ n ≤ 12 := of_decide_eq_true h1.1
  have h3 : ¬ ((g.length : Int) > 600) := by simpa using h1.2
  omega
theorem circ_gate {n : Int} {g : List S57} (h : circOK n g = true) {j : Nat} (hj : j < g.length) : (0 ≤ (g.getD j z57).f0 ∧ (g.getD j z57).f0 < 2 * (1 + n + (j : Int))) ∧ (0 ≤ (g.getD j z57).f1 ∧ (g.getD j z57).f1 < 2 * (1 + n + (j : Int))) := by
  obtain ⟨h1, h2, h3⟩ := circ_bounds h
  have h4 := of_decide_eq_true (Bool.and_eq_true_iff.1 h).2 j hj
  unfold gateOK at h4
  rw [wrap_id (x := 1 + n) (by omega) (by omega), wrap_id (x := 1 + n + (j : Int)) (by omega) (by omega), wrap_id (x := 2 * (1 + n + (j : Int))) (by omega) (by omega), wrap_id (by omega) (by omega)] at h4
  have h5 := Bool.and_eq_true_iff.1 h4
  have h6 := of_decide_eq_true h5.1
  have h7 := of_decide_eq_true h5.2
  omega

theorem in_f (n a b : Int) : impl_in.f n a b = some (inB a b n) := by
  unfold impl_in.f inB
  by_cases h : n ≥ a
  · rw [if_pos h]; congr 1; simp; omega
  · rw [if_neg h, decide_eq_false (by omega)]

theorem impl_CircuitValid_f {k : Nat} {n : Int} {g : List S57} (hk : g.length + 2 < k) (hm : g.length ≤ 35184372088832) : impl_CircuitValid.f k n g = some (circOK n g) := by
  unfold impl_CircuitValid.f circOK
  rw [in_f]
  simp only [Option.bind_some]
  obtain ⟨k, rfl⟩ : ∃ m, k = m + 1 := ⟨k - 1, by omega⟩
  cases inB 0 12 n
  · simp [impl_CircuitValid.j0]
  · simp only [if_true, Bool.true_and, impl_CircuitValid.j0]
    cases hd : decide ((g.length : Int) > 600)
    · simp only [Bool.false_eq_true, if_false, Bool.not_false, Bool.true_and]
      refine (run_all (fun k i => impl_CircuitValid.l0 k g (g.length : Int) (i : Int) n g) g.length (gateOK n g) true false ?_ ?_ k (by omega)).trans ?_
      · intro k i hi
        simp only [impl_CircuitValid.l0]
        rw [if_pos (by omega), if_pos (by omega), if_pos (by omega), wrap_id (x := (i : Int) + 1) (by omega) (by omega), in_f, in_f]
        simp only [rdT57_nat, Option.bind_some]
        unfold gateOK
        cases inB 0 (wrap64 (wrap64 (2 * wrap64 (wrap64 (1 + n) + (i : Int))) - 1)) (g.getD i z57).f0
        · simp
        · simp
      · intro k
        simp only [impl_CircuitValid.l0]
        rw [if_neg (by omega)]
      · by_cases h : ∀ j, j < g.length → gateOK n g j = true
        · rw [if_pos h, decide_eq_true h]
        · rw [if_neg h, decide_eq_false h]
    · simp

theorem open_f {l : List Int} (hw : ∀ x ∈ l, (Lit.int .u8 x).wf = true) : ∃ b, spec_l40Open.f l = some (b, 0) ∧ b.length ≤ 2000 ∧ ∀ x ∈ b, 0 ≤ x ∧ x < 256 := by
  have hw' : ∀ x ∈ l, 0 ≤ x ∧ x < 256 := by
    intro x hx
    have := hw x hx
    have e1 : IntKind.u8.min = 0 := by decide
    have e2 : IntKind.u8.max = 255 := by decide
    simp [Lit.wf, e1, e2] at this
    omega
  unfold spec_l40Open.f
  by_cases h : (l.length : Int) > 2000
  · rw [if_pos h, if_pos (by omega)]
    exact ⟨l.take 2000, rfl, by rw [List.length_take]; omega, fun x hx => hw' x (List.mem_of_mem_take hx)⟩
  · rw [if_neg h]
    exact ⟨l, rfl, by omega, hw'⟩

theorem xor_nat64 {x y : Int} (hx : 0 ≤ x) (hx2 : x < 4611686018427387904) (hy : 0 ≤ y) (hy2 : y < 4611686018427387904) : 0 ≤ Go.bits .xor .i64 x y ∧ Go.bits .xor .i64 x y < 4611686018427387904 := by
  obtain ⟨a, rfl⟩ := Int.eq_ofNat_of_zero_le hx
  obtain ⟨b, rfl⟩ := Int.eq_ofNat_of_zero_le hy
  have h1 : (BitVec.ofInt 64 (a : Int)).toNat = a := by
    rw [BitVec.toNat_ofInt]
    omega
  have h2 : (BitVec.ofInt 64 (b : Int)).toNat = b := by
    rw [BitVec.toNat_ofInt]
    omega
  have h3 : a ^^^ b < 2 ^ 62 := Nat.xor_lt_two_pow (by omega) (by omega)
  have h4 : Go.bits .xor .i64 (a : Int) (b : Int) = IntKind.i64.wrap ((a ^^^ b : Nat) : Int) := by
    show IntKind.i64.wrap (((BitVec.ofInt 64 (a : Int) ^^^ BitVec.ofInt 64 (b : Int)).toNat : Nat) : Int) = _
    rw [BitVec.toNat_xor, h1, h2]
  rw [h4, IntKind.wrap_i64]
  omega
theorem tmod_in {x n : Int} (hx : 0 ≤ x) (hn : 1 ≤ n) : 0 ≤ Int.tmod x n ∧ Int.tmod x n < n := ⟨Int.tmod_nonneg _ hx, Int.tmod_lt_of_pos _ (by omega)⟩
/-- What is drawn of some bytes: a number below the bound that is asked, or 0. -/
def Bytes (b : List Int) : Prop := b.length ≤ 2000 ∧ ∀ x ∈ b, 0 ≤ x ∧ x < 256
theorem rd_byte {b : List Int} (hb : Bytes b) {i : Int} (h0 : 0 ≤ i) (h1 : i < (b.length : Int)) : 0 ≤ rd b i ∧ rd b i < 256 := by
  obtain ⟨j, rfl⟩ := Int.eq_ofNat_of_zero_le h0
  rw [rd_nat]
  exact hb.2 _ (getD_mem b j 0 (by omega))
theorem pick_f {k : Nat} {b : List Int} {p n : Int} (hk : 0 < k) (hb : Bytes b) (hp : 0 ≤ p) (hp2 : p ≤ 1000000) : ∃ r, spec_l40Rd_pick.f k b p n = some (r, p + 1) ∧ 0 ≤ r ∧ (1 ≤ n → r < n) := by
  obtain ⟨k, rfl⟩ : ∃ m, k = m + 1 := ⟨k - 1, by omega⟩
  have hl := hb.1
  have e1 : wrap64 (p + 1) = p + 1 := wrap_id (by omega) (by omega)
  unfold spec_l40Rd_pick.f
  rw [e1]
  by_cases hn : n < 1
  · rw [if_pos hn]
    exact ⟨0, by simp only [spec_l40Rd_pick.j0, if_true], Int.le_refl _, fun h => absurd hn (by omega)⟩
  · rw [if_neg hn]
    by_cases h0 : b.length = 0
    · have h1 : ((b.length : Int) == 0) = true := by simp [h0]
      rw [h1]
      exact ⟨0, by simp only [spec_l40Rd_pick.j0, if_true], Int.le_refl _, fun h => by omega⟩
    · have h1 : ((b.length : Int) == 0) = false := by simpa using h0
      have e2 : wrap64 (p + 1 - 1) = p := by rw [show p + 1 - 1 = p from by omega]; exact wrap_id (by omega) (by omega)
      have hn0 : ¬ n = 0 := by omega
      rw [h1]
      simp only [spec_l40Rd_pick.j0, Bool.false_eq_true, if_false, e2, if_neg hn0]
      by_cases h2 : p < (b.length : Int)
      · have h3 := rd_byte hb hp h2
        rw [if_pos h2, if_pos hp, wrap_id (x := rd b p) (by omega) (by omega)]
        have h4 := tmod_in h3.1 (show 1 ≤ n by omega)
        exact ⟨_, rfl, h4.1, fun _ => h4.2⟩
      · have hl0 : ¬ (b.length : Int) = 0 := by omega
        have h3 := tmod_in hp (show 1 ≤ (b.length : Int) by omega)
        have e3 : wrap64 (wrap64 (p * 7) + 3) = p * 7 + 3 := by rw [wrap_id (x := p * 7) (by omega) (by omega)]; exact wrap_id (by omega) (by omega)
        have h4 := tmod_in (show 0 ≤ p * 7 + 3 by omega) (show 1 ≤ (b.length : Int) by omega)
        rw [e3]
        generalize Int.tmod (p * 7 + 3) (b.length : Int) = j at h4 ⊢
        generalize Int.tmod p (b.length : Int) = i at h3 ⊢
        rw [if_neg h2, if_neg hl0, if_pos h3.1, if_pos h3.2, if_pos h4.1, if_pos h4.2]
        have h5 := rd_byte hb h3.1 h3.2
        have h6 := rd_byte hb h4.1 h4.2
        generalize rd b i = u at h5 ⊢
        generalize rd b j = v at h6 ⊢
        have h7 : 0 ≤ Int.tdiv p (b.length : Int) ∧ Int.tdiv p (b.length : Int) ≤ p := by
          rw [Int.tdiv_eq_ediv_of_nonneg hp]
          exact ⟨Int.ediv_nonneg hp (by omega), Int.ediv_le_self _ hp⟩
        generalize Int.tdiv p (b.length : Int) = d at h7 ⊢
        have e4 : wrap64 (wrap64 (wrap64 (wrap64 (wrap64 u * 131) + wrap64 (wrap64 v * 1117)) + wrap64 (p * 29)) + wrap64 (wrap64 d * 53)) = u * 131 + v * 1117 + p * 29 + d * 53 := by
          rw [wrap_id (x := u) (by omega) (by omega), wrap_id (x := v) (by omega) (by omega), wrap_id (x := d) (by omega) (by omega), wrap_id (x := u * 131) (by omega) (by omega), wrap_id (x := v * 1117) (by omega) (by omega), wrap_id (x := p * 29) (by omega) (by omega), wrap_id (x := d * 53) (by omega) (by omega), wrap_id (x := u * 131 + v * 1117) (by omega) (by omega), wrap_id (x := u * 131 + v * 1117 + p * 29) (by omega) (by omega), wrap_id (by omega) (by omega)]
        rw [e4]
        have h8 : 0 ≤ u * 131 + v * 1117 + p * 29 + d * 53 ∧ u * 131 + v * 1117 + p * 29 + d * 53 < 1000000000 := by omega
        generalize u * 131 + v * 1117 + p * 29 + d * 53 = X at h8 ⊢
        have h9 : 0 ≤ Int.tdiv X 64 ∧ Int.tdiv X 64 ≤ X := by
          rw [Int.tdiv_eq_ediv_of_nonneg h8.1]
          omega
        rw [wrap_id (x := Int.tdiv X 64) (by omega) (by omega)]
        have h10 := xor_nat64 h8.1 (by omega) h9.1 (by omega)
        have h11 := tmod_in h10.1 (show 1 ≤ n by omega)
        exact ⟨_, rfl, h11.1, fun _ => h11.2⟩

/-- The same, with a round left for what is called. -/
theorem run_ex2 {σ β : Type} (L : Nat → σ → Nat → Option β) (n : Nat) (inv : Nat → σ → Prop) (P : β → Prop)
    (hstep : ∀ k i s, 0 < k → i < n → inv i s → ∃ s', L (k + 1) s i = L k s' (i + 1) ∧ inv (i + 1) s')
    (hend : ∀ k s, 0 < k → inv n s → ∃ r, L (k + 1) s n = some r ∧ P r) : ∀ k i s, i ≤ n → n - i + 1 < k → inv i s → ∃ r, L k s i = some r ∧ P r := by
  have key : ∀ d k i s, n - i = d → i ≤ n → d + 1 < k → inv i s → ∃ r, L k s i = some r ∧ P r := by
    intro d
    induction d with
    | zero =>
      intro k i s hd hi hk hs
      obtain ⟨k, rfl⟩ : ∃ m, k = m + 1 := ⟨k - 1, by omega⟩
      obtain rfl : i = n := by omega
      exact hend k s (by omega) hs
    | succ d ih =>
      intro k i s hd hi hk hs
      obtain ⟨k, rfl⟩ : ∃ m, k = m + 1 := ⟨k - 1, by omega⟩
      obtain ⟨s', h, hs'⟩ := hstep k i s (by omega) (by omega) hs
      rw [h]
      exact ih k (i + 1) s' (by omega) (by omega) (by omega) hs'
  intro k i s hi hk hs
  exact key (n - i) k i s rfl hi hk hs

theorem num_f {k : Nat} {b l : List Int} {p : Int} (hk : 0 < k) (hb : Bytes b) (hp : 0 ≤ p) (hp2 : p ≤ 1000000) (hl : 1 ≤ l.length) : ∃ r, spec_l40Rd_num.f k b p l = some (r, p + 1) ∧ r ∈ l := by
  unfold spec_l40Rd_num.f
  obtain ⟨r, h1, h2, h3⟩ := pick_f (n := (l.length : Int)) hk hb hp hp2
  rw [h1]
  simp only [Option.bind_some]
  have h4 := h3 (by omega)
  rw [if_pos h2, if_pos h4]
  obtain ⟨j, rfl⟩ := Int.eq_ofNat_of_zero_le h2
  exact ⟨_, rfl, by rw [rd_nat]; exact getD_mem l j 0 (by omega)⟩

theorem bnds {n : Int} {g : List S57} (h : circOK n g = true) : 0 ≤ n ∧ n ≤ 12 ∧ g.length ≤ 600 := by
  unfold circOK at h
  have h1 := Bool.and_eq_true_iff.1 (Bool.and_eq_true_iff.1 h).1
  have h2 : 0 ≤ n ∧ n ≤ 12 := of_decide_eq_true h1.1
  have h3 : ¬ ((g.length : Int) > 600) := by simpa using h1.2
  omega
theorem gate_ok {n : Int} {g : List S57} (h : circOK n g = true) {j : Nat} (hj : j < g.length) : (0 ≤ (g.getD j z57).f0 ∧ (g.getD j z57).f0 < 2 * (1 + n + (j : Int))) ∧ (0 ≤ (g.getD j z57).f1 ∧ (g.getD j z57).f1 < 2 * (1 + n + (j : Int))) := by
  obtain ⟨h1, h2, h3⟩ := bnds h
  have h4 := of_decide_eq_true (Bool.and_eq_true_iff.1 h).2 j hj
  unfold gateOK at h4
  rw [wrap_id (x := 1 + n) (by omega) (by omega), wrap_id (x := 1 + n + (j : Int)) (by omega) (by omega), wrap_id (x := 2 * (1 + n + (j : Int))) (by omega) (by omega), wrap_id (by omega) (by omega)] at h4
  have h5 := Bool.and_eq_true_iff.1 h4
  have h6 := of_decide_eq_true h5.1
  have h7 := of_decide_eq_true h5.2
  omega
def edgeOK (n : Int) (g : List S57) (e : Int) : Bool := inB 0 (2 * (1 + n + (g.length : Int)) - 1) e
theorem edge_in {n : Int} {g : List S57} {e : Int} (h : edgeOK n g e = true) : 0 ≤ e ∧ e ≤ 2 * (1 + n + (g.length : Int)) - 1 := of_decide_eq_true h
theorem wf_in {x : Int} (h0 : -9223372036854775808 ≤ x) (h1 : x ≤ 9223372036854775807) : (Lit.int .i64 x).wf = true := wf_iff.2 ⟨h0, h1⟩
/-- A loop that looks for the first element of which a test holds tells what stands at its place. -/
theorem run_findIdx {α β : Type} (L : Nat → Nat → Option β) (l : List α) (d : α) (q : α → Bool) (good : Nat → β) (bad : β)
    (hstep : ∀ k i, i < l.length → L (k + 1) i = if q (l.getD i d) = true then some (good i) else L k (i + 1)) (hend : ∀ k, L (k + 1) l.length = some bad) (k : Nat) (hk : l.length < k) :
    L k 0 = some (match l.findIdx? q with | some i => good i | none => bad) := by
  have key : ∀ e i k, i + e = l.length → e < k → L k i = some (match (l.drop i).findIdx? q with | some j => good (i + j) | none => bad) := by
    intro e
    induction e with
    | zero =>
      intro i k hi hk
      obtain ⟨k, rfl⟩ : ∃ t, k = t + 1 := ⟨k - 1, by omega⟩
      obtain rfl : i = l.length := by omega
      rw [hend, List.drop_length]
      rfl
    | succ e ih =>
      intro i k hi hk
      obtain ⟨k, rfl⟩ : ∃ t, k = t + 1 := ⟨k - 1, by omega⟩
      rw [hstep k i (by omega), List.drop_eq_getElem_cons (by omega), List.findIdx?_cons]
      have hg : l.getD i d = l[i]'(by omega) := by simp [List.getD_eq_getElem?_getD, show i < l.length from by omega]
      rw [hg]
      by_cases hq : q (l[i]'(by omega)) = true
      · rw [if_pos hq, if_pos hq]
        rfl
      · rw [if_neg hq, if_neg hq, ih (i + 1) k (by omega) (by omega)]
        cases (l.drop (i + 1)).findIdx? q with
        | none => rfl
        | some j =>
          show some (good (i + 1 + j)) = some (good (i + (j + 1)))
          rw [show i + 1 + j = i + (j + 1) from by omega]
  have h := key l.length 0 k (by omega) hk
  rw [h, List.drop_zero]
  cases l.findIdx? q with
  | none => rfl
  | some j =>
    show some (good (0 + j)) = some (good j)
    rw [Nat.zero_add]
theorem find_x {k : Nat} {n a b : Int} {g : List S57} (hk : g.length < k) (hm : g.length ≤ 1000) : spec_l7Find.f k n g a b = some (match g.findIdx? (impl_building.eqS ⟨a, b⟩) with | some i => wrap64 (wrap64 (1 + n) + (i : Int)) | none => -1) := by
  unfold spec_l7Find.f
  refine run_findIdx (fun k i => spec_l7Find.l0 k a b (i : Int) n g) g z57 (impl_building.eqS ⟨a, b⟩) (fun i => wrap64 (wrap64 (1 + n) + (i : Int))) (-1) ?_ ?_ k hk
  · intro k i hi
    simp only [spec_l7Find.l0]
    rw [if_pos (by omega), if_pos (by omega), rdT57_nat, wrap_id (x := (i : Int) + 1) (by omega) (by omega)]
    unfold impl_building.eqS
    by_cases c0 : (g.getD i z57).f0 = a
    · rw [if_pos c0]
      by_cases c1 : (g.getD i z57).f1 = b
      · rw [if_pos c1, if_pos (decide_eq_true ⟨c0.symm, c1.symm⟩)]
      · rw [if_neg c1, if_neg (fun h => c1 (of_decide_eq_true h).2.symm)]
        rfl
    · rw [if_neg c0, if_neg (fun h => c0 (of_decide_eq_true h).1.symm)]
      rfl
  · intro k
    simp only [spec_l7Find.l0]
    rw [if_neg (by omega)]
theorem xor_one {b : Int} (h0 : 0 ≤ b) (h1 : b < 4611686018427387904) : Go.bits .xor .i64 b 1 = if b % 2 = 1 then b - 1 else b + 1 := by
  obtain ⟨a, rfl⟩ := Int.eq_ofNat_of_zero_le h0
  have h2 : (BitVec.ofInt 64 (a : Int)).toNat = a := by
    rw [BitVec.toNat_ofInt]
    omega
  have h4 : Go.bits .xor .i64 (a : Int) 1 = IntKind.i64.wrap ((a ^^^ 1 : Nat) : Int) := by
    show IntKind.i64.wrap (((BitVec.ofInt 64 (a : Int) ^^^ BitVec.ofInt 64 1).toNat : Nat) : Int) = _
    rw [BitVec.toNat_xor, h2]
    rfl
  have h5 : a ^^^ 1 = if a % 2 = 1 then a - 1 else a + 1 := by
    have e1 : (a ^^^ 1) / 2 = a / 2 := by rw [Nat.xor_div_two]; simp
    have e2 : (a ^^^ 1) % 2 = (a % 2 + 1) % 2 := by
      have := Nat.xor_mod_two_pow (a := a) (b := 1) (n := 1)
      rcases Nat.mod_two_eq_zero_or_one a with h | h <;> simp [h] at this ⊢ <;> omega
    split <;> omega
  rw [h4, IntKind.wrap_i64, h5]
  split <;> split <;> omega
theorem xor_half {x : Int} (h0 : 0 ≤ x) (h1 : x < 100000) : Go.bits .xor .i64 x 1 / 2 = x / 2 ∧ Go.bits .xor .i64 x 1 ≠ x ∧ 0 ≤ Go.bits .xor .i64 x 1 := by
  rw [xor_one h0 (by omega)]
  split <;> omega
theorem seen_all (n : Int) (g : List S57) (y : S57) : impl_building.seen n g g.length y = (g.findIdx? (impl_building.eqS y)).map (impl_building.at_ n) := by
  unfold impl_building.seen
  rw [List.take_length]
theorem copy_x {k : Nat} {n : Int} {g : List S57} (hk : g.length < k) (hg : g.length ≤ 1000) : spec_l7Copy.f k n g = some (n, g) := by
  unfold spec_l7Copy.f
  refine run_inv (fun k (s : List S57) i => spec_l7Copy.l0 k (i : Int) n g n s) g.length (fun i s => s = g.take i) _ ?_ ?_ k 0 [] (Nat.zero_le _) (by omega) rfl
  · rintro k i s hi rfl
    refine Or.inr ⟨g.take (i + 1), ?_, rfl⟩
    simp only [spec_l7Copy.l0]
    rw [if_pos (by omega), if_pos (by omega), if_pos (by rw [List.length_take]; omega), wrap_id (x := (i : Int) + 1) (by omega) (by omega), take_succ_getD g i z57 hi, rdT57_nat]
    rfl
  · rintro k s rfl
    simp only [spec_l7Copy.l0]
    rw [if_neg (by omega), List.take_length]
theorem and_key {k : Nat} {n : Int} {g : List S57} (hk : g.length < k) (hn : 0 ≤ n ∧ n ≤ 12) (hg : g.length ≤ 600) (x y : Int) (h0 : 0 ≤ x) (h1 : x ≤ y) (h2 : y < 100000) :
    spec_l7And.j0 (k + 3) x y n g = some (n, (impl_builder_and.g n g x y).2.1, if (impl_builder_and.g n g x y).2.2 = true then -1 else (impl_builder_and.g n g x y).1) := by
  unfold impl_builder_and.g
  simp only [spec_l7And.j0]
  by_cases c0 : x = 0
  · rw [if_pos c0, if_pos c0]
    simp only [spec_l7And.j1, if_true, Bool.false_eq_true, if_false]
  · rw [if_neg c0, if_neg c0, Int.tdiv_eq_ediv_of_nonneg h0, Int.tdiv_eq_ediv_of_nonneg (show 0 ≤ y by omega), wrap_id (x := x / 2) (by omega) (by omega), wrap_id (x := y / 2) (by omega) (by omega)]
    obtain ⟨x1, x2, x3⟩ := xor_half h0 (by omega)
    by_cases c1 : x / 2 = y / 2
    · rw [if_pos c1]
      by_cases c2 : x = y
      · subst c2
        rw [if_neg x2, bne_self_eq_false]
        simp only [spec_l7And.j1, Bool.false_eq_true, if_false, if_true]
        by_cases c3 : x = 1
        · rw [if_pos c3, if_pos c3]
          simp only [spec_l7And.j2, if_true, Bool.false_eq_true, if_false]
        · rw [if_neg c3, if_neg c3, beq_self_eq_true]
          simp only [spec_l7And.j2, if_true, Bool.false_eq_true, if_false]
      · have hx : Go.bits .xor .i64 x 1 = y := by
          rw [xor_one h0 (by omega)]
          split <;> omega
        rw [if_pos hx, show (x != y) = true from by simpa using c2]
        simp only [spec_l7And.j1, if_true, Bool.false_eq_true, if_false]
    · have hx : ¬ Go.bits .xor .i64 x 1 = y := fun h => c1 (by rw [← h]; exact x1.symm)
      have c2 : ¬ x = y := fun h => c1 (by rw [h])
      rw [if_neg c1, if_neg hx]
      simp only [spec_l7And.j1, Bool.false_eq_true, if_false]
      by_cases c3 : x = 1
      · rw [if_pos c3, if_pos c3]
        simp only [spec_l7And.j2, if_true, Bool.false_eq_true, if_false]
      · rw [if_neg c3, if_neg c3, if_neg c2, beq_eq_false_iff_ne.mpr c2]
        simp only [spec_l7And.j2, Bool.false_eq_true, if_false]
        rw [find_x hk (by omega), seen_all]
        simp only [Option.bind_some]
        cases hf : g.findIdx? (impl_building.eqS ⟨x, y⟩) with
        | some i =>
          have hi : i < g.length := (List.findIdx?_eq_some_iff_findIdx_eq.1 hf).1
          simp only [Option.map_some]
          rw [if_pos (by rw [wrap_id (x := 1 + n) (by omega) (by omega), wrap_id (by omega) (by omega)]; omega)]
          rfl
        | none =>
          simp only [Option.map_none]
          rw [if_neg (by decide)]
          by_cases c4 : (g.length : Int) ≥ 600
          · rw [if_pos c4, if_pos c4]
            rfl
          · rw [if_neg c4, if_neg c4, if_pos (by omega)]
            unfold spec_l7Nodes.f
            simp only [Option.bind_some, Bool.false_eq_true, if_false, List.length_append, List.length_singleton]
            rw [wrap_id (x := 1 + n) (by omega) (by omega), wrap_id (x := 1 + n + ((g.length + 1 : Nat) : Int)) (by omega) (by omega), wrap_id (x := 1 + n + ((g.length + 1 : Nat) : Int) - 1) (by omega) (by omega), wrap_id (x := n + ((g.length : Int) + 1)) (by omega) (by omega)]
            refine congrArg some (Prod.ext rfl (Prod.ext rfl ?_))
            show wrap64 _ = wrap64 _
            refine congrArg wrap64 ?_
            omega
theorem and_x {k : Nat} {n : Int} {g : List S57} (hk : g.length + 5 < k) (hn : 0 ≤ n ∧ n ≤ 12) (hg : g.length ≤ 600) {a b : Int} (ha : 0 ≤ a ∧ a < 100000) (hb : 0 ≤ b ∧ b < 100000) :
    spec_l7And.f k n g a b = some (n, (impl_builder_and.f n g a b).2.1, if (impl_builder_and.f n g a b).2.2 = true then -1 else (impl_builder_and.f n g a b).1) := by
  obtain ⟨k, rfl⟩ : ∃ m, k = m + 3 := ⟨k - 3, by omega⟩
  unfold spec_l7And.f impl_builder_and.f
  by_cases h : a > b
  · rw [if_pos h, if_pos (show b < a from h), if_neg (show ¬ a < b by omega)]
    exact and_key (by omega) hn hg b a hb.1 (by omega) ha.2
  · rw [if_neg h, if_neg (show ¬ b < a from h)]
    by_cases h2 : a < b
    · rw [if_pos h2]
      exact and_key (by omega) hn hg a b ha.1 (by omega) hb.2
    · rw [if_neg h2]
      obtain rfl : a = b := by omega
      exact and_key (by omega) hn hg a a ha.1 (by omega) hb.2
theorem and_pos {n : Int} {g : List S57} (hn : 0 ≤ n ∧ n ≤ 12) (hg : g.length ≤ 600) {a b : Int} (ha : 0 ≤ a ∧ a < 100000) (hb : 0 ≤ b ∧ b < 100000) : 0 ≤ (impl_builder_and.f n g a b).1 ∧ (impl_builder_and.f n g a b).1 < 200000 := by
  have key : ∀ x y, 0 ≤ x → x < 100000 → 0 ≤ y → y < 100000 → 0 ≤ (impl_builder_and.g n g x y).1 ∧ (impl_builder_and.g n g x y).1 < 200000 := by
    intro x y h0 h1 h2 h3
    unfold impl_builder_and.g
    rw [seen_all]
    split
    · simp
    · split
      · simp
      · split
        · simp only; omega
        · split
          · simp only; omega
          · cases hf : g.findIdx? (impl_building.eqS ⟨x, y⟩) with
            | some i =>
              have hi : i < g.length := (List.findIdx?_eq_some_iff_findIdx_eq.1 hf).1
              simp only [Option.map_some]
              unfold impl_building.at_
              rw [wrap_id (x := 1 + n) (by omega) (by omega), wrap_id (x := 1 + n + (i : Int)) (by omega) (by omega), wrap_id (by omega) (by omega)]
              omega
            | none =>
              simp only [Option.map_none]
              split
              · simp
              · simp only
                rw [wrap_id (x := n + ((g.length : Int) + 1)) (by omega) (by omega), wrap_id (by omega) (by omega)]
                omega
  unfold impl_builder_and.f
  split <;> split <;> exact key _ _ (by omega) (by omega) (by omega) (by omega)
/-- What adding tells, by what the builder tells. -/
def addR (r : Int × List S57 × Bool) (n : Int) (g : List S57) (a b : Int) : Int × List S57 × Int := if circOK n g = true then (if edgeOK n g a = true then (if edgeOK n g b = true then (if r.2.2 = true then (0, [], -1) else (n, r.2.1, r.1)) else (0, [], -1)) else (0, [], -1)) else (0, [], -1)
theorem addR_len {r : Int × List S57 × Bool} {n : Int} {g : List S57} {a b : Int} (h : g.length ≤ 600 → r.2.1.length ≤ 601) : (addR r n g a b).2.1.length ≤ 601 := by
  unfold addR
  split
  · have := h (bnds (by assumption)).2.2
    (repeat' split) <;> simp only [List.length_nil] <;> omega
  · simp
theorem told_x {n e : Int} {l : List S57} {f : Bool} (h : f = false → 0 ≤ e) : spec_l7Told.f n l (if f = true then -1 else e) = some (if f = true then (0, [], -1) else (n, l, e)) := by
  unfold spec_l7Told.f
  cases f with
  | true => rfl
  | false =>
    have := h rfl
    simp only [Bool.false_eq_true, if_false]
    rw [if_neg (by omega)]
theorem good_all {n : Int} {g : List S57} {a b : Int} (h : circOK n g = true) (ha : edgeOK n g a = true) (hb : edgeOK n g b = true) : (g.all (fun y => (Lit.int .i64 y.f0).wf && (Lit.int .i64 y.f1).wf) && (Lit.int .i64 a).wf && (Lit.int .i64 b).wf && decide (g.length ≤ 600)) = true := by
  obtain ⟨b1, b2, b3⟩ := bnds h
  have ea := edge_in ha
  have eb := edge_in hb
  simp only [Bool.and_eq_true, decide_eq_true_eq, List.all_eq_true]
  refine ⟨⟨⟨fun y hy => ?_, wf_in (by omega) (by omega)⟩, wf_in (by omega) (by omega)⟩, b3⟩
  obtain ⟨j, hj, rfl⟩ := mem_getD z57 hy
  have := gate_ok h hj
  exact ⟨wf_in (by omega) (by omega), wf_in (by omega) (by omega)⟩

theorem spec_addAnd {k : Nat} {n : Int} {g : List S57} {a b : Int} (hk : g.length + 30 < k) (hm : g.length ≤ 1048576) : spec_AddAnd.f k n g a b = some (addR (impl_builder_and.f n g a b) n g a b) := by
  unfold spec_AddAnd.f spec_l7Edge.f spec_l7Nodes.f addR
  obtain ⟨k, rfl⟩ : ∃ m, k = m + 1 := ⟨k - 1, by omega⟩
  rw [spec_CircuitValid_f (by omega) (by omega)]
  simp only [Option.bind_some, l1In_f, spec_AddAnd.j0]
  by_cases h : circOK n g = true
  · obtain ⟨b1, b2, b3⟩ := bnds h
    rw [if_pos h, if_pos h, wrap_id (x := 1 + n) (by omega) (by omega), wrap_id (x := 1 + n + (g.length : Int)) (by omega) (by omega), wrap_id (x := 2 * (1 + n + (g.length : Int))) (by omega) (by omega), wrap_id (x := 2 * (1 + n + (g.length : Int)) - 1) (by omega) (by omega)]
    rw [show inB 0 (2 * (1 + n + (g.length : Int)) - 1) a = edgeOK n g a from rfl, show inB 0 (2 * (1 + n + (g.length : Int)) - 1) b = edgeOK n g b from rfl]
    cases ha : edgeOK n g a with
    | false => rfl
    | true =>
      cases hb : edgeOK n g b with
      | false => rfl
      | true =>
        have ea := edge_in ha
        have eb := edge_in hb
        simp only [if_true, Bool.not_true, Bool.false_eq_true, if_false]
        rw [copy_x (by omega) (by omega)]
        simp only [Option.bind_some]
        rw [and_x (by omega) ⟨b1, b2⟩ b3 (by omega) (by omega)]
        simp only [Option.bind_some]
        rw [told_x (fun _ => (and_pos ⟨b1, b2⟩ b3 (by omega) (by omega)).1)]
        rfl
  · rw [if_neg h, if_neg h]
    rfl
theorem impl_addAnd {k : Nat} {n : Int} {g : List S57} {a b : Int} (hk : g.length + 30 < k) (hm : g.length ≤ 1048576) : impl_AddAnd.f k n g a b = some (addR (impl_builder_and.f n g a b) n g a b) := by
  unfold impl_AddAnd.f impl_Circuit_isEdge.f addR
  rw [impl_CircuitValid_f (by omega) (by omega)]
  simp only [Option.bind_some, in_f]
  by_cases h : circOK n g = true
  · obtain ⟨b1, b2, b3⟩ := bnds h
    rw [if_pos h, if_pos h, wrap_id (x := 1 + n) (by omega) (by omega), wrap_id (x := 1 + n + (g.length : Int)) (by omega) (by omega), wrap_id (x := 2 * (1 + n + (g.length : Int))) (by omega) (by omega), wrap_id (x := 2 * (1 + n + (g.length : Int)) - 1) (by omega) (by omega)]
    rw [show inB 0 (2 * (1 + n + (g.length : Int)) - 1) a = edgeOK n g a from rfl, show inB 0 (2 * (1 + n + (g.length : Int)) - 1) b = edgeOK n g b from rfl]
    cases ha : edgeOK n g a with
    | false => rfl
    | true =>
      cases hb : edgeOK n g b with
      | false => rfl
      | true =>
        simp only [if_true]
        rw [if_pos (show impl_AddAnd.good g a b = true from good_all h ha hb)]
  · rw [if_neg h, if_neg h]
theorem impl_addOr {k : Nat} {n : Int} {g : List S57} {a b : Int} (hk : g.length + 30 < k) (hm : g.length ≤ 1048576) : impl_AddOr.f k n g a b = some (addR (impl_builder_or.f n g a b) n g a b) := by
  unfold impl_AddOr.f impl_Circuit_isEdge.f addR
  rw [impl_CircuitValid_f (by omega) (by omega)]
  simp only [Option.bind_some, in_f]
  by_cases h : circOK n g = true
  · obtain ⟨b1, b2, b3⟩ := bnds h
    rw [if_pos h, if_pos h, wrap_id (x := 1 + n) (by omega) (by omega), wrap_id (x := 1 + n + (g.length : Int)) (by omega) (by omega), wrap_id (x := 2 * (1 + n + (g.length : Int))) (by omega) (by omega), wrap_id (x := 2 * (1 + n + (g.length : Int)) - 1) (by omega) (by omega)]
    rw [show inB 0 (2 * (1 + n + (g.length : Int)) - 1) a = edgeOK n g a from rfl, show inB 0 (2 * (1 + n + (g.length : Int)) - 1) b = edgeOK n g b from rfl]
    cases ha : edgeOK n g a with
    | false => rfl
    | true =>
      cases hb : edgeOK n g b with
      | false => rfl
      | true =>
        simp only [if_true]
        rw [if_pos (show impl_AddOr.good g a b = true from good_all h ha hb)]
  · rw [if_neg h, if_neg h]
theorem draw_loop {b : List Int} (hb : Bytes b) : ∀ (m k : Nat) (p n : Int) (g : List S57), m + 1 < k → 0 ≤ p → p + 2 * (m : Int) ≤ 1000 → g.length + m ≤ 14 → ∃ g', spec_l7Draw.l0 k (m : Int) b p n g = some (n, g', p + 2 * (m : Int)) ∧ g'.length ≤ 14 := by
  intro m
  induction m with
  | zero =>
    intro k p n g hk h0 h1 hg
    obtain ⟨k, rfl⟩ : ∃ m, k = m + 1 := ⟨k - 1, by omega⟩
    refine ⟨g, ?_, by omega⟩
    simp only [spec_l7Draw.l0]
    rw [if_neg (by simp)]
    simp
  | succ m ih =>
    intro k p n g hk h0 h1 hg
    obtain ⟨k, rfl⟩ : ∃ m, k = m + 1 := ⟨k - 1, by omega⟩
    simp only [spec_l7Draw.l0]
    rw [if_pos (by omega)]
    unfold spec_l7Nodes.f
    simp only [Option.bind_some]
    generalize wrap64 (2 * wrap64 (wrap64 (1 + n) + (g.length : Int))) = N
    obtain ⟨r1, e1, -⟩ := pick_f (k := k) (b := b) (p := p) (n := N) (by omega) hb (by omega) (by omega)
    rw [e1]
    simp only [Option.bind_some]
    generalize wrap64 (Int.tdiv (wrap64 (N + 1)) 2) = N2
    obtain ⟨r2, e2, -⟩ := pick_f (k := k) (b := b) (p := p + 1) (n := N2) (by omega) hb (by omega) (by omega)
    rw [e2]
    simp only [Option.bind_some]
    rw [if_pos (by omega), wrap_id (x := ((m + 1 : Nat) : Int) - 1) (by omega) (by omega), show ((m + 1 : Nat) : Int) - 1 = (m : Int) from by omega]
    obtain ⟨g', e3, h3⟩ := ih k (p + 1 + 1) n (g ++ [⟨r1, wrap64 (wrap64 (N - 1) - r2)⟩]) (by omega) (by omega) (by omega) (by rw [List.length_append]; simp; omega)
    refine ⟨g', ?_, h3⟩
    rw [e3]
    refine congrArg some (Prod.ext rfl (Prod.ext rfl ?_))
    show p + 1 + 1 + 2 * (m : Int) = p + 2 * ((m + 1 : Nat) : Int)
    omega
theorem draw_f {b : List Int} (hb : Bytes b) {k : Nat} (hk : 30 < k) : ∃ n g p, spec_l7Draw.f k b 0 5 = some (n, g, p) ∧ g.length ≤ 14 ∧ 0 ≤ p ∧ p ≤ 40 := by
  unfold spec_l7Draw.f
  obtain ⟨r1, e1, -⟩ := pick_f (k := k) (b := b) (p := 0) (n := wrap64 (5 + 1)) (by omega) hb (by omega) (by omega)
  rw [e1]
  simp only [Option.bind_some]
  obtain ⟨r2, e2, h2⟩ := num_f (k := k) (b := b) (l := [3, 6, 10, 1, 14, 0]) (p := 0 + 1) (by omega) hb (by omega) (by omega) (by simp)
  rw [e2]
  simp only [Option.bind_some]
  have h3 : 0 ≤ r2 ∧ r2 ≤ 14 := by
    simp at h2
    omega
  obtain ⟨m, rfl⟩ : ∃ m : Nat, r2 = (m : Int) := ⟨r2.toNat, by omega⟩
  obtain ⟨g, e3, h4⟩ := draw_loop hb m k (0 + 1 + 1) r1 [] (by omega) (by omega) (by omega) (by simp; omega)
  exact ⟨_, _, _, e3, h4, by omega, by omega⟩
theorem any_f {b : List Int} (hb : Bytes b) {k : Nat} (hk : 30 < k) : ∃ n g p, spec_l7Any.f k b 0 5 = some (n, g, p) ∧ g.length ≤ 14 ∧ 0 ≤ p ∧ p ≤ 50 := by
  obtain ⟨k, rfl⟩ : ∃ m, k = m + 1 := ⟨k - 1, by omega⟩
  unfold spec_l7Any.f
  obtain ⟨n, g, p, e, hg, h0, h1⟩ := draw_f hb hk
  rw [e]
  simp only [Option.bind_some]
  obtain ⟨r1, e1, -⟩ := pick_f (k := k + 1) (b := b) (p := p) (n := 14) (by omega) hb (by omega) (by omega)
  rw [e1]
  simp only [Option.bind_some]
  by_cases c1 : r1 = 0
  · rw [if_pos c1]
    obtain ⟨r2, e2, -⟩ := pick_f (k := k + 1) (b := b) (p := p + 1) (n := 2) (by omega) hb (by omega) (by omega)
    rw [e2]
    simp only [Option.bind_some]
    have j0 : ∀ x21 : Bool, (x21 = false → g.length ≠ 0) → ∃ n' g' p', spec_l7Any.j0 (k + 1) x21 b (p + 1 + 1) n g = some (n', g', p') ∧ g'.length ≤ 14 ∧ 0 ≤ p' ∧ p' ≤ 50 := by
      intro x21 hx
      simp only [spec_l7Any.j0]
      cases x21 with
      | true =>
        obtain ⟨r3, e3, -⟩ := num_f (k := k) (b := b) (l := [(-1), 13]) (p := p + 1 + 1) (by omega) hb (by omega) (by omega) (by simp)
        rw [if_pos (show true = true from rfl), e3]
        exact ⟨_, _, _, rfl, hg, by omega, by omega⟩
      | false =>
        have hx := hx rfl
        rw [if_neg (by decide)]
        obtain ⟨r3, e3, h3, h3'⟩ := pick_f (k := k) (b := b) (p := p + 1 + 1) (n := (g.length : Int)) (by omega) hb (by omega) (by omega)
        rw [e3]
        simp only [Option.bind_some]
        obtain ⟨r4, e4, -⟩ := num_f (k := k) (b := b) (l := [(-1), wrap64 (2 * wrap64 (wrap64 (1 + n) + r3))]) (p := p + 1 + 1 + 1) (by omega) hb (by omega) (by omega) (by simp)
        rw [e4]
        simp only [Option.bind_some]
        rw [if_pos h3, if_pos (h3' (by omega))]
        exact ⟨_, _, _, rfl, by rw [List.length_set]; exact hg, by omega, by omega⟩
    by_cases c2 : r2 = 0
    · rw [if_pos c2]
      exact j0 true (fun h => by cases h)
    · rw [if_neg c2]
      refine j0 _ fun h h0 => ?_
      rw [h0] at h
      cases h
  · rw [if_neg c1]
    exact ⟨_, _, _, rfl, hg, by omega, by omega⟩
theorem some_g {b : List Int} (hb : Bytes b) {k : Nat} (hk : 30 < k) {p : Int} (h0 : 0 ≤ p) (h1 : p ≤ 5000) (n : Int) (g : List S57) : ∃ e q, spec_l7Some.f k b p n g = some (e, q) ∧ 0 ≤ q ∧ q ≤ p + 3 := by
  unfold spec_l7Some.f spec_l7Nodes.f
  simp only [Option.bind_some]
  generalize wrap64 (2 * wrap64 (wrap64 (1 + n) + (g.length : Int))) = N
  obtain ⟨r1, e1, -⟩ := pick_f (k := k) (b := b) (p := p) (n := 15) (by omega) hb (by omega) (by omega)
  rw [e1]
  simp only [Option.bind_some]
  by_cases c1 : r1 = 0
  · rw [if_pos c1]
    obtain ⟨r2, e2, -⟩ := num_f (k := k) (b := b) (l := [N, (-1)]) (p := p + 1) (by omega) hb (by omega) (by omega) (by simp)
    rw [e2]
    exact ⟨_, _, rfl, by omega, by omega⟩
  · rw [if_neg c1]
    obtain ⟨r2, e2, -⟩ := pick_f (k := k) (b := b) (p := p + 1) (n := 2) (by omega) hb (by omega) (by omega)
    rw [e2]
    simp only [Option.bind_some]
    by_cases c2 : r2 = 0
    · rw [if_pos c2]
      obtain ⟨r3, e3, -⟩ := pick_f (k := k) (b := b) (p := p + 1 + 1) (n := 4) (by omega) hb (by omega) (by omega)
      rw [e3]
      exact ⟨_, _, rfl, by omega, by omega⟩
    · rw [if_neg c2]
      obtain ⟨r3, e3, -⟩ := pick_f (k := k) (b := b) (p := p + 1 + 1) (n := N) (by omega) hb (by omega) (by omega)
      rw [e3]
      exact ⟨_, _, rfl, by omega, by omega⟩

theorem xor_twice {a : Int} (h0 : 0 ≤ a) (h1 : a < 100000) : Go.bits .xor .i64 (Go.bits .xor .i64 a 1) 1 = a := by
  have e := xor_one h0 (by omega)
  have h2 : 0 ≤ Go.bits .xor .i64 a 1 ∧ Go.bits .xor .i64 a 1 < 200000 := by rw [e]; split <;> omega
  rw [xor_one h2.1 (by omega), e]
  (repeat' split) <;> omega
theorem edge_flip {n : Int} {g : List S57} {e : Int} (hn : 0 ≤ n ∧ n ≤ 12) (hg : g.length ≤ 600) (h : edgeOK n g e = true) : edgeOK n g (Go.bits .xor .i64 e 1) = true := by
  have h2 := edge_in h
  refine decide_eq_true ?_
  rw [xor_one h2.1 (by omega)]
  split <;> omega
theorem circ_snoc {n : Int} {g : List S57} (h : circOK n g = true) (hl : g.length < 600) {X Y : Int} (hX : 0 ≤ X ∧ X ≤ 2 * (1 + n + (g.length : Int)) - 1) (hY : 0 ≤ Y ∧ Y ≤ 2 * (1 + n + (g.length : Int)) - 1) : circOK n (g ++ [⟨X, Y⟩]) = true := by
  obtain ⟨b1, b2, b3⟩ := bnds h
  have hlen : (g ++ [(⟨X, Y⟩ : S57)]).length = g.length + 1 := by simp
  unfold circOK
  rw [Bool.and_eq_true_iff, Bool.and_eq_true_iff]
  refine ⟨⟨decide_eq_true ⟨b1, b2⟩, ?_⟩, decide_eq_true fun j hj => ?_⟩
  · rw [hlen]
    simp only [Bool.not_eq_true', decide_eq_false_iff_not]
    omega
  · rw [hlen] at hj
    unfold gateOK
    rw [wrap_id (x := 1 + n) (by omega) (by omega), wrap_id (x := 1 + n + (j : Int)) (by omega) (by omega), wrap_id (x := 2 * (1 + n + (j : Int))) (by omega) (by omega), wrap_id (x := 2 * (1 + n + (j : Int)) - 1) (by omega) (by omega)]
    by_cases e : j = g.length
    · rw [getD_append_last _ _ _ _ e, Bool.and_eq_true_iff]
      exact ⟨decide_eq_true (by simp only; omega), decide_eq_true (by simp only; omega)⟩
    · rw [getD_append_left _ _ _ _ (by omega), Bool.and_eq_true_iff]
      have := gate_ok h (show j < g.length by omega)
      exact ⟨decide_eq_true (by omega), decide_eq_true (by omega)⟩
theorem g_again {n : Int} {g : List S57} (h : circOK n g = true) {X Y : Int} (hX : 0 ≤ X ∧ X ≤ 2 * (1 + n + (g.length : Int)) - 1) (hY : 0 ≤ Y ∧ Y ≤ 2 * (1 + n + (g.length : Int)) - 1) (hf : (impl_builder_and.g n g X Y).2.2 = false) :
    circOK n (impl_builder_and.g n g X Y).2.1 = true ∧ g.length ≤ (impl_builder_and.g n g X Y).2.1.length ∧ impl_builder_and.g n (impl_builder_and.g n g X Y).2.1 X Y = ((impl_builder_and.g n g X Y).1, (impl_builder_and.g n g X Y).2.1, false) := by
  obtain ⟨b1, b2, b3⟩ := bnds h
  unfold impl_builder_and.g at hf ⊢
  by_cases c0 : X = 0
  · simp only [if_pos c0]
    exact ⟨h, Nat.le_refl _, trivial⟩
  · simp only [if_neg c0] at hf ⊢
    by_cases c1 : Go.bits .xor .i64 X 1 = Y
    · simp only [if_pos c1]
      exact ⟨h, Nat.le_refl _, trivial⟩
    · simp only [if_neg c1] at hf ⊢
      by_cases c2 : X = 1
      · simp only [if_pos c2]
        exact ⟨h, Nat.le_refl _, trivial⟩
      · simp only [if_neg c2] at hf ⊢
        by_cases c3 : X = Y
        · simp only [if_pos c3]
          exact ⟨h, Nat.le_refl _, trivial⟩
        · simp only [if_neg c3] at hf ⊢
          rw [seen_all] at hf ⊢
          cases hq : g.findIdx? (impl_building.eqS ⟨X, Y⟩) with
          | some i =>
            simp only [Option.map_some]
            refine ⟨h, Nat.le_refl _, ?_⟩
            rw [seen_all, hq]
            rfl
          | none =>
            rw [hq] at hf
            simp only [Option.map_none] at hf ⊢
            by_cases c4 : (g.length : Int) ≥ 600
            · rw [if_pos c4] at hf
              cases hf
            · simp only [if_neg c4]
              refine ⟨circ_snoc h (by omega) hX hY, by simp, ?_⟩
              have e1 : impl_building.seen n (g ++ [(⟨X, Y⟩ : S57)]) (g ++ [(⟨X, Y⟩ : S57)]).length ⟨X, Y⟩ = some (wrap64 (2 * wrap64 (n + ((g.length : Int) + 1)))) := by
                rw [seen_all, List.findIdx?_append, hq]
                have e2 : [(⟨X, Y⟩ : S57)].findIdx? (impl_building.eqS ⟨X, Y⟩) = some 0 := by simp [List.findIdx?_cons, impl_building.eqS]
                rw [e2]
                simp only [Option.none_or, Option.map_some, Nat.zero_add]
                unfold impl_building.at_
                rw [wrap_id (x := 1 + n) (by omega) (by omega), show 1 + n + (g.length : Int) = n + ((g.length : Int) + 1) from by omega]
              rw [e1]
theorem f_swap (n : Int) (g : List S57) (a b : Int) : impl_builder_and.f n g b a = impl_builder_and.f n g a b := by
  unfold impl_builder_and.f
  by_cases h : a < b
  · rw [if_pos h, if_pos h, if_neg (show ¬ b < a by omega), if_neg (show ¬ b < a by omega)]
  · rw [if_neg h, if_neg h]
    by_cases h2 : b < a
    · rw [if_pos h2, if_pos h2]
    · obtain rfl : a = b := by omega
      simp
theorem f_again {n : Int} {g : List S57} (h : circOK n g = true) {a b : Int} (ha : edgeOK n g a = true) (hb : edgeOK n g b = true) (hf : (impl_builder_and.f n g a b).2.2 = false) :
    circOK n (impl_builder_and.f n g a b).2.1 = true ∧ g.length ≤ (impl_builder_and.f n g a b).2.1.length ∧ impl_builder_and.f n (impl_builder_and.f n g a b).2.1 a b = ((impl_builder_and.f n g a b).1, (impl_builder_and.f n g a b).2.1, false) := by
  have ea := edge_in ha
  have eb := edge_in hb
  unfold impl_builder_and.f at hf ⊢
  refine g_again h ?_ ?_ hf <;> split <;> omega
theorem addR_cases {n : Int} {g : List S57} {a b : Int} : (addR (impl_builder_and.f n g a b) n g a b).2.2 = -1 ∨ (circOK n g = true ∧ edgeOK n g a = true ∧ edgeOK n g b = true ∧ (impl_builder_and.f n g a b).2.2 = false ∧ addR (impl_builder_and.f n g a b) n g a b = (n, (impl_builder_and.f n g a b).2.1, (impl_builder_and.f n g a b).1)) := by
  unfold addR
  by_cases h : circOK n g = true
  · rw [if_pos h]
    by_cases ha : edgeOK n g a = true
    · rw [if_pos ha]
      by_cases hb : edgeOK n g b = true
      · rw [if_pos hb]
        cases hf : (impl_builder_and.f n g a b).2.2 with
        | true => exact .inl rfl
        | false => exact .inr ⟨h, ha, hb, rfl, rfl⟩
      · rw [if_neg hb]
        exact .inl rfl
    · rw [if_neg ha]
      exact .inl rfl
  · rw [if_neg h]
    exact .inl rfl
theorem addR_ok {r : Int × List S57 × Bool} {n : Int} {g : List S57} {a b : Int} (h : circOK n g = true) (ha : edgeOK n g a = true) (hb : edgeOK n g b = true) (hf : r.2.2 = false) : addR r n g a b = (n, r.2.1, r.1) := by
  unfold addR
  rw [if_pos h, if_pos ha, if_pos hb, hf, if_neg (by decide)]
theorem fill_loop {b : List Int} (hb : Bytes b) {n : Int} {p : Int} (h0 : 0 ≤ p) (h1 : p ≤ 1000) (P : Int × List S57 × Int × Int → Prop)
    (hj : ∀ k (g : List S57) q, 40 < k → 0 ≤ q → q ≤ 2000 → g.length ≤ 600 → ∃ r, spec_DrawAddAnd.j1 k b q n g = some r ∧ P r) : ∀ (d k : Nat) (g : List S57), g.length + d = 600 → d + 50 < k → ∃ r, spec_DrawAddAnd.l0 k b p n g = some r ∧ P r := by
  intro d
  induction d with
  | zero =>
    intro k g hg hk
    obtain ⟨k, rfl⟩ : ∃ m, k = m + 1 := ⟨k - 1, by omega⟩
    unfold spec_DrawAddAnd.l0
    rw [if_neg (by omega)]
    obtain ⟨r1, e1, -⟩ := pick_f (k := k) (b := b) (p := p) (n := 3) (by omega) hb (by omega) (by omega)
    rw [e1]
    simp only [Option.bind_some]
    by_cases c : r1 = 0
    · rw [if_pos c, if_pos (by omega)]
      exact hj k _ _ (by omega) (by omega) (by omega) (by rw [List.length_take]; omega)
    · rw [if_neg c]
      exact hj k _ _ (by omega) (by omega) (by omega) (by omega)
  | succ d ih =>
    intro k g hg hk
    obtain ⟨k, rfl⟩ : ∃ m, k = m + 1 := ⟨k - 1, by omega⟩
    unfold spec_DrawAddAnd.l0
    rw [if_pos (by omega), if_pos (by omega)]
    exact ih k _ (by rw [List.length_append, List.length_singleton]; omega) (by omega)
theorem draw_add {l : List Int} (hw : ∀ x ∈ l, (Lit.int .u8 x).wf = true) {k : Nat} (hk : 1000 < k) : ∃ r : Int × List S57 × Int × Int, spec_DrawAddAnd.f k l = some r ∧ r.2.1.length ≤ 600 := by
  unfold spec_DrawAddAnd.f
  obtain ⟨b, hb, hb'⟩ := open_f hw
  rw [hb]
  simp only [Option.bind_some]
  obtain ⟨n, g, p, e, hg, h0, h1⟩ := any_f (k := k) hb' (by omega)
  rw [e]
  simp only [Option.bind_some]
  obtain ⟨r1, e1, -⟩ := pick_f (k := k) (b := b) (p := p) (n := 40) (by omega) hb' (by omega) (by omega)
  rw [e1]
  simp only [Option.bind_some]
  have hj : ∀ k (g : List S57) q, 40 < k → 0 ≤ q → q ≤ 2000 → g.length ≤ 600 → ∃ r, spec_DrawAddAnd.j1 k b q n g = some r ∧ r.2.1.length ≤ 600 := by
    intro k g q hk h0 h1 hg
    obtain ⟨k, rfl⟩ : ∃ m, k = m + 2 := ⟨k - 2, by omega⟩
    have j2 : ∀ (c : Bool) (q : Int), 0 ≤ q → q ≤ 2001 → (c = true → 0 < g.length) → ∃ r, spec_DrawAddAnd.j2 (k + 1) c b q n g = some r ∧ r.2.1.length ≤ 600 := by
      intro c q h0 h1 hc
      simp only [spec_DrawAddAnd.j2]
      cases c with
      | true =>
        have := hc rfl
        rw [if_pos (show true = true from rfl), if_pos (by omega)]
        exact ⟨_, rfl, hg⟩
      | false =>
        rw [if_neg (by decide)]
        obtain ⟨e3, q3, w3, h3, h3'⟩ := some_g (k := k) hb' (by omega) h0 (by omega) n g
        rw [w3]
        simp only [Option.bind_some]
        obtain ⟨e4, q4, w4, -, -⟩ := some_g (k := k) hb' (by omega) h3 (by omega) n g
        rw [w4]
        exact ⟨_, rfl, hg⟩
    simp only [spec_DrawAddAnd.j1]
    by_cases c : (g.length : Int) > 0
    · rw [if_pos c]
      obtain ⟨r2, e2, -⟩ := pick_f (k := k + 1) (b := b) (p := q) (n := 5) (by omega) hb' (by omega) (by omega)
      rw [e2]
      simp only [Option.bind_some]
      exact j2 _ _ (by omega) (by omega) (fun _ => by omega)
    · rw [if_neg c]
      exact j2 _ _ (by omega) (by omega) (fun h => by cases h)
  by_cases c : r1 = 0
  · rw [if_pos c]
    exact fill_loop hb' (by omega) (by omega) (fun r => r.2.1.length ≤ 600) hj (600 - g.length) k g (by omega) (by omega)
  · rw [if_neg c]
    exact hj k g _ (by omega) (by omega) (by omega) (by omega)

theorem FnAddAndOr : laws_FnAddAndOr.Pure := by
  intro l hl hl8 hw
  refine ⟨3001, ?_⟩
  unfold laws_FnAddAndOr.f
  by_cases h : (l.length : Int) > 1048576
  · rw [if_pos h]
  · rw [if_neg h]
    obtain ⟨⟨n, g, a, b⟩, hd, hg⟩ := draw_add hw (k := 3001) (by omega)
    rw [hd]
    simp only [Option.bind_some] at hg ⊢
    rw [impl_addAnd (by omega) (by omega), spec_addAnd (by omega) (by omega)]
    simp only [Option.bind_some, if_true]
    rw [show (3001 : Nat) = 3000 + 1 from rfl]
    simp only [laws_FnAddAndOr.j0, if_true]
    rcases addR_cases (n := n) (g := g) (a := a) (b := b) with h1 | ⟨hc, ha, hb, hf, e⟩
    · rw [h1]
      rfl
    · obtain ⟨b1, b2, b3⟩ := bnds hc
      have ea := edge_in ha
      have eb := edge_in hb
      have hp := and_pos ⟨b1, b2⟩ b3 (a := a) (b := b) (by omega) (by omega)
      have hlen := impl_builder_and.f_len n g a b b3
      obtain ⟨hc2, hl2, hagain⟩ := f_again hc ha hb hf
      rw [e]
      simp only
      rw [if_neg (by simpa using hp.1)]
      rw [impl_addOr (by omega) (by omega), impl_addAnd (by omega) (by omega)]
      simp only [Option.bind_some]
      have ho : impl_builder_or.f n g (Go.bits .xor .i64 a 1) (Go.bits .xor .i64 b 1) = (Go.bits .xor .i64 (impl_builder_and.f n g a b).1 1, (impl_builder_and.f n g a b).2) := by
        unfold impl_builder_or.f
        rw [xor_twice ea.1 (by omega), xor_twice eb.1 (by omega)]
      rw [addR_ok hc (edge_flip ⟨b1, b2⟩ b3 ha) (edge_flip ⟨b1, b2⟩ b3 hb) (by rw [ho]; exact hf), ho]
      have e2 : ∀ {x : Int}, edgeOK n g x = true → edgeOK n (impl_builder_and.f n g a b).2.1 x = true := fun {x} hx => by
        have := edge_in hx
        exact decide_eq_true (by omega)
      rw [f_swap n (impl_builder_and.f n g a b).2.1 a b, hagain, addR_ok hc2 (e2 hb) (e2 ha) rfl]
      simp

end Go.Proofs.Ythphgkhmeobadaa.Pure
