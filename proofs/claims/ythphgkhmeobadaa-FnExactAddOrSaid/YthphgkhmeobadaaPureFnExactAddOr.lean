/- The law on AddOr holds for all arguments: the program tells what the reference tells, leaves its argument as it was, and shares no memory.
Conditions: none. -/
import Derived.Test.YthphgkhmeobadaaXFnExactAddOrx10
import Derived.Test.YthphgkhmeobadaaXLib2
namespace Go.Proofs.Ythphgkhmeobadaa.Pure
open Go.RowKit Go.Proofs.Ythphgkhmeobadaa.XFnExactAddOr Go.Proofs.YthphgkhmeobadaaW.PrintWords Go.Proofs.YthphgkhmeobadaaW.PrintLast Go.Proofs.YthphgkhmeobadaaW.PrintMore Go.Proofs.YthphgkhmeobadaaX
set_option linter.unusedVariables false
set_option linter.unusedSimpArgs false

theorem rdT63_nat (xs : List S63) (i : Nat) : rd_T63 xs (i : Int) = xs.getD i z63 := by
  unfold rd_T63
  simp

theorem rdT57_nat (xs : List S57) (i : Nat) : rd_T57 xs (i : Int) = xs.getD i z57 := by
  unfold rd_T57
  simp

theorem szAndS_f {l : List S63} {a : Int} (h0 : 0 ≤ a) (h1 : a ≤ 1048576) (hl : l.length ≤ 9223372036854775807) : laws_szAndS.f l a = some (if a - (l.length : Int) < 0 then -1 else a - (l.length : Int)) := by
  unfold laws_szAndS.f
  rw [wrap_id (by omega) (by omega)]
  by_cases h : a - (l.length : Int) < 0
  · rw [if_pos h, if_pos h]
  · rw [if_neg h, if_neg h]

def cAnd (x : S63) : S57 := ⟨x.f0, x.f1⟩
theorem toAndS_f {k : Nat} {l : List S63} (hk : l.length < k) (hm : l.length ≤ 17592186044416) : laws_toAndS.f k l = some (l.map cAnd) := by
  unfold laws_toAndS.f
  rw [if_pos (by omega), if_pos (by omega)]
  refine run_inv (fun k (s : List S57) i => laws_toAndS.l0 k l s (i : Int)) l.length (fun i s => s.length = l.length ∧ ∀ j, j < i → s.getD j z57 = (l.map cAnd).getD j z57) _ ?_ ?_ k 0 _ (Nat.zero_le _) (by omega) ⟨by simp, fun j hj => absurd hj (Nat.not_lt_zero j)⟩
  · intro k i s hi ⟨hl, hs⟩
    refine Or.inr ⟨s.set i (cAnd (l.getD i z63)), ?_, by simpa using hl, fun j hj => ?_⟩
    · simp only [laws_toAndS.l0]
      rw [if_pos (by omega), if_pos (by omega)]
      simp only [laws_toAnd.f, Option.bind_some, rdT63_nat]
      rw [if_pos (by omega), wrap_id (by omega) (by omega)]
      rfl
    · rw [getD_set _ _ _ _ _ (by omega)]
      by_cases e : j = i
      · rw [if_pos e, e]
        simp [List.getD_eq_getElem?_getD, hi]
      · rw [if_neg e]
        exact hs j (by omega)
  · intro k s ⟨hl, hs⟩
    simp only [laws_toAndS.l0]
    rw [if_neg (by omega), ext_getD (d := z57) (s := s) (l := l.map cAnd) (by simpa using hl) (fun j hj => hs j (by simpa using hj))]

theorem eqAndS_f {k : Nat} {l : List S57} (hk : l.length < k) (hm : l.length ≤ 35184372088832) : laws_eqAndS.f k l l = some true := by
  unfold laws_eqAndS.f
  rw [if_pos rfl]
  refine run_inv (fun k (_ : Unit) i => laws_eqAndS.l0 k l l (i : Int)) l.length (fun _ _ => True) _ ?_ ?_ k 0 () (Nat.zero_le _) (by omega) trivial
  · intro k i _ hi _
    refine Or.inr ⟨(), ?_, trivial⟩
    simp only [laws_eqAndS.l0]
    rw [if_pos (by omega), if_pos (by omega), if_pos (by omega), wrap_id (by omega) (by omega)]
    simp only [laws_eqAnd.f, if_true, Option.bind_some]
    rfl
  · intro k _ _
    simp only [laws_eqAndS.l0]
    rw [if_neg (by omega)]

/-- A loop that ends in something of which P holds. -/
theorem run_ex {σ β : Type} (L : Nat → σ → Nat → Option β) (n : Nat) (inv : Nat → σ → Prop) (P : β → Prop)
    (hstep : ∀ k i s, i < n → inv i s → ∃ s', L (k + 1) s i = L k s' (i + 1) ∧ inv (i + 1) s')
    (hend : ∀ k s, inv n s → ∃ r, L (k + 1) s n = some r ∧ P r) : ∀ k i s, i ≤ n → n - i < k → inv i s → ∃ r, L k s i = some r ∧ P r := by
  have key : ∀ d k i s, n - i = d → i ≤ n → d < k → inv i s → ∃ r, L k s i = some r ∧ P r := by
    intro d
    induction d with
    | zero =>
      intro k i s hd hi hk hs
      obtain ⟨k, rfl⟩ : ∃ m, k = m + 1 := ⟨k - 1, by omega⟩
      obtain rfl : i = n := by omega
      exact hend k s hs
    | succ d ih =>
      intro k i s hd hi hk hs
      obtain ⟨k, rfl⟩ : ∃ m, k = m + 1 := ⟨k - 1, by omega⟩
      obtain ⟨s', h, hs'⟩ := hstep k i s (by omega) hs
      rw [h]
      exact ih k (i + 1) s' (by omega) (by omega) (by omega) hs'
  intro k i s hi hk hs
  exact key (n - i) k i s rfl hi hk hs

theorem markAndS_f {k : Nat} {l : List S57} {a : Int} (hk : l.length < k) (hm : l.length ≤ 1048576) (h0 : 0 ≤ a) (h1 : a ≤ 1000000000000000000) : ∃ r, laws_markAndS.f k l a = some r ∧ r.1 = a + 2 * (l.length : Int) := by
  unfold laws_markAndS.f
  refine run_ex (fun k (s : List S57 × Int) i => laws_markAndS.l0 k s.1 s.2 (i : Int)) l.length (fun i s => s.1.length = l.length ∧ s.2 = a + 2 * (i : Int)) _ ?_ ?_ k 0 (l, a) (Nat.zero_le _) (by omega) ⟨rfl, by simp⟩
  · rintro k i ⟨s, c⟩ hi ⟨hl, hc⟩
    simp only at hl hc
    simp only [laws_markAndS.l0, Option.bind_some]
    rw [if_pos (by omega), if_pos (by omega), wrap_id (x := (i : Int) + 1) (by omega) (by omega), wrap_id (x := c + 1) (by omega) (by omega), wrap_id (x := c + 1 + 1) (by omega) (by omega)]
    refine ⟨(_, _), rfl, by simpa using hl, ?_⟩
    simp only [Int.natCast_add]
    omega
  · rintro k ⟨s, c⟩ ⟨hl, hc⟩
    simp only at hl hc
    simp only [laws_markAndS.l0]
    rw [if_neg (by omega)]
    exact ⟨_, rfl, hc⟩

def marksAnd (a : Int) (n : Nat) : List S57 := (List.range n).map fun j : Nat => ⟨a + 2 * (j : Int), a + 2 * (j : Int) + 1⟩
theorem marksAnd_length (a : Int) (n : Nat) : (marksAnd a n).length = n := by simp [marksAnd]
theorem marksAnd_getD (a : Int) (n j : Nat) (h : j < n) : (marksAnd a n).getD j z57 = ⟨a + 2 * (j : Int), a + 2 * (j : Int) + 1⟩ := by
  simp [marksAnd, List.getD_eq_getElem?_getD, h]
theorem markAndS_x {k : Nat} {l : List S57} {a : Int} (hk : l.length < k) (hm : l.length ≤ 1048576) (h0 : 0 ≤ a) (h1 : a ≤ 1000000000000000000) : laws_markAndS.f k l a = some (a + 2 * (l.length : Int), marksAnd a l.length) := by
  unfold laws_markAndS.f
  refine run_inv (fun k (s : List S57 × Int) i => laws_markAndS.l0 k s.1 s.2 (i : Int)) l.length (fun i s => s.1.length = l.length ∧ s.2 = a + 2 * (i : Int) ∧ ∀ j, j < i → s.1.getD j z57 = ⟨a + 2 * (j : Int), a + 2 * (j : Int) + 1⟩) _ ?_ ?_ k 0 (l, a) (Nat.zero_le _) (by omega) ⟨rfl, by simp, fun j hj => absurd hj (Nat.not_lt_zero j)⟩
  · rintro k i ⟨s, c⟩ hi ⟨hl, hc, hs⟩
    simp only at hl hc hs
    have g : ∀ A, (s.set i A).getD i z57 = A := fun A => by rw [getD_set _ _ _ _ _ (by omega), if_pos rfl]
    refine Or.inr ⟨(s.set i ⟨c, c + 1⟩, c + 1 + 1), ?_, by simpa using hl, by simp only [Int.natCast_add]; omega, fun j hj => ?_⟩
    · simp only [laws_markAndS.l0, Option.bind_some]
      rw [if_pos (by omega), if_pos (by omega), wrap_id (x := (i : Int) + 1) (by omega) (by omega), wrap_id (x := c + 1) (by omega) (by omega), wrap_id (x := c + 1 + 1) (by omega) (by omega)]
      simp only [rdT57_nat, Int.toNat_natCast, g, List.set_set]
      rfl
    · simp only
      rw [getD_set _ _ _ _ _ (by omega)]
      by_cases e : j = i
      · rw [if_pos e, e, hc]
      · rw [if_neg e]
        exact hs j (by omega)
  · rintro k ⟨s, c⟩ ⟨hl, hc, hs⟩
    simp only at hl hc hs
    simp only [laws_markAndS.l0]
    rw [if_neg (by omega), hc, ext_getD (d := z57) (s := s) (l := marksAnd a l.length) (by rw [marksAnd_length]; exact hl) (fun j hj => by rw [marksAnd_length] at hj; rw [marksAnd_getD _ _ _ hj]; exact hs j hj)]
theorem heldAndS_f {k n : Nat} {a : Int} (hk : n < k) (hm : n ≤ 1048576) (h0 : 0 ≤ a) (h1 : a ≤ 1000000000000000000) : laws_heldAndS.f k (marksAnd a n) a = some (a + 2 * (n : Int)) := by
  unfold laws_heldAndS.f
  have hlen := marksAnd_length a n
  refine run_inv (fun k (s : Int) i => laws_heldAndS.l0 k (marksAnd a n) s (i : Int)) n (fun i s => s = a + 2 * (i : Int)) _ ?_ ?_ k 0 a (Nat.zero_le _) (by omega) (by simp)
  · rintro k i s hi rfl
    refine Or.inr ⟨a + 2 * (i : Int) + 1 + 1, ?_, by simp only [Int.natCast_add]; omega⟩
    simp only [laws_heldAndS.l0]
    rw [if_pos (by omega), if_pos (by omega), wrap_id (x := (i : Int) + 1) (by omega) (by omega), wrap_id (x := a + 2 * (i : Int) + 1) (by omega) (by omega), wrap_id (x := a + 2 * (i : Int) + 1 + 1) (by omega) (by omega)]
    simp only [rdT57_nat, marksAnd_getD _ _ _ hi, if_true]
    rfl
  · rintro k s rfl
    simp only [laws_heldAndS.l0]
    rw [if_neg (by omega)]

theorem l1In_f (n a b : Int) : spec_l1In.f n a b = some (inB a b n) := by
  unfold spec_l1In.f inB
  by_cases h : n ≥ a
  · rw [if_pos h]; congr 1; simp; omega
  · rw [if_neg h, decide_eq_false (by omega)]

/-- A circuit that is one: its gates' edges lead to what stands ahead. -/
def gateOK (n : Int) (g : List S57) (j : Nat) : Bool := inB 0 (wrap64 (wrap64 (2 * wrap64 (wrap64 (1 + n) + (j : Int))) - 1)) (g.getD j z57).f0 && inB 0 (wrap64 (wrap64 (2 * wrap64 (wrap64 (1 + n) + (j : Int))) - 1)) (g.getD j z57).f1
def circOK (n : Int) (g : List S57) : Bool := inB 0 12 n && !decide ((g.length : Int) > 600) && decide (∀ j, j < g.length → gateOK n g j = true)

theorem spec_CircuitValid_f {k : Nat} {n : Int} {g : List S57} (hk : g.length + 2 < k) (hm : g.length ≤ 35184372088832) : spec_CircuitValid.f k n g = some (circOK n g) := by
  unfold spec_CircuitValid.f circOK
  rw [l1In_f]
  simp only [Option.bind_some]
  obtain ⟨k, rfl⟩ : ∃ m, k = m + 1 := ⟨k - 1, by omega⟩
  cases inB 0 12 n
  · simp [spec_CircuitValid.j0]
  · simp only [if_true, Bool.true_and, spec_CircuitValid.j0]
    cases hd : decide ((g.length : Int) > 600)
    · simp only [Bool.false_eq_true, if_false, Bool.not_false, Bool.true_and]
      refine (run_all (fun k i => spec_CircuitValid.l0 k (i : Int) n g) g.length (gateOK n g) true false ?_ ?_ k (by omega)).trans ?_
      · intro k i hi
        simp only [spec_CircuitValid.l0]
        rw [if_pos (by omega), if_pos (by omega), wrap_id (x := (i : Int) + 1) (by omega) (by omega), l1In_f, l1In_f]
        simp only [rdT57_nat, Option.bind_some]
        unfold gateOK
        cases inB 0 (wrap64 (wrap64 (2 * wrap64 (wrap64 (1 + n) + (i : Int))) - 1)) (g.getD i z57).f0
        · simp
        · simp
      · intro k
        simp only [spec_CircuitValid.l0]
        rw [if_neg (by omega)]
      · by_cases h : ∀ j, j < g.length → gateOK n g j = true
        · rw [if_pos h, decide_eq_true h]
        · rw [if_neg h, decide_eq_false h]
    · simp

theorem circ_bounds {n : Int} {g : List S57} (h : circOK n g = true) : 0 ≤ n ∧ n ≤ 12 ∧ g.length ≤ 600 := by
  unfold circOK at h
  have h1 := Bool.and_eq_true_iff.1 (Bool.and_eq_true_iff.1 h).1
  have h2 : 0 ≤ n ∧ n ≤ 12 := of_decide_eq_true h1.1
  have h3 : ¬ ((g.length : Int) > 600) := by simpa using h1.2
  omega
theorem circ_gate {n : Int} {g : List S57} (h : circOK n g = true) {j : Nat} (hj : j < g.length) : (0 ≤ (g.getD j z57).f0 ∧ (g.getD j z57).f0 < 2 * (1 + n + (j : Int))) ∧ (0 ≤ (g.getD j z57).f1 ∧ (g.getD j z57).f1 < 2 * (1 + n + (j : Int))) := by
  obtain ⟨h1, h2, h3⟩ := circ_bounds h
  have h4 := of_decide_eq_true (Bool.and_eq_true_iff.1 h).2 j hj
  unfold gateOK at h4
  rw [wrap_id (x := 1 + n) (by omega) (by omega), wrap_id (x := 1 + n + (j : Int)) (by omega) (by omega), wrap_id (x := 2 * (1 + n + (j : Int))) (by omega) (by omega), wrap_id (by omega) (by omega)] at h4
  have h5 := Bool.and_eq_true_iff.1 h4
  have h6 := of_decide_eq_true h5.1
  have h7 := of_decide_eq_true h5.2
  omega

theorem in_f (n a b : Int) : impl_in.f n a b = some (inB a b n) := by
  unfold impl_in.f inB
  by_cases h : n ≥ a
  · rw [if_pos h]; congr 1; simp; omega
  · rw [if_neg h, decide_eq_false (by omega)]

theorem impl_CircuitValid_f {k : Nat} {n : Int} {g : List S57} (hk : g.length + 2 < k) (hm : g.length ≤ 35184372088832) : impl_CircuitValid.f k n g = some (circOK n g) := by
  unfold impl_CircuitValid.f circOK
  rw [in_f]
  simp only [Option.bind_some]
  obtain ⟨k, rfl⟩ : ∃ m, k = m + 1 := ⟨k - 1, by omega⟩
  cases inB 0 12 n
  · simp [impl_CircuitValid.j0]
  · simp only [if_true, Bool.true_and, impl_CircuitValid.j0]
    cases hd : decide ((g.length : Int) > 600)
    · simp only [Bool.false_eq_true, if_false, Bool.not_false, Bool.true_and]
      refine (run_all (fun k i => impl_CircuitValid.l0 k g (g.length : Int) (i : Int) n g) g.length (gateOK n g) true false ?_ ?_ k (by omega)).trans ?_
      · intro k i hi
        simp only [impl_CircuitValid.l0]
        rw [if_pos (by omega), if_pos (by omega), if_pos (by omega), wrap_id (x := (i : Int) + 1) (by omega) (by omega), in_f, in_f]
        simp only [rdT57_nat, Option.bind_some]
        unfold gateOK
        cases inB 0 (wrap64 (wrap64 (2 * wrap64 (wrap64 (1 + n) + (i : Int))) - 1)) (g.getD i z57).f0
        · simp
        · simp
      · intro k
        simp only [impl_CircuitValid.l0]
        rw [if_neg (by omega)]
      · by_cases h : ∀ j, j < g.length → gateOK n g j = true
        · rw [if_pos h, decide_eq_true h]
        · rw [if_neg h, decide_eq_false h]
    · simp

theorem bnds {n : Int} {g : List S57} (h : circOK n g = true) : 0 ≤ n ∧ n ≤ 12 ∧ g.length ≤ 600 := by
  unfold circOK at h
  have h1 := Bool.and_eq_true_iff.1 (Bool.and_eq_true_iff.1 h).1
  have h2 : 0 ≤ n ∧ n ≤ 12 := of_decide_eq_true h1.1
  have h3 : ¬ ((g.length : Int) > 600) := by simpa using h1.2
  omega
theorem gate_ok {n : Int} {g : List S57} (h : circOK n g = true) {j : Nat} (hj : j < g.length) : (0 ≤ (g.getD j z57).f0 ∧ (g.getD j z57).f0 < 2 * (1 + n + (j : Int))) ∧ (0 ≤ (g.getD j z57).f1 ∧ (g.getD j z57).f1 < 2 * (1 + n + (j : Int))) := by
  obtain ⟨h1, h2, h3⟩ := bnds h
  have h4 := of_decide_eq_true (Bool.and_eq_true_iff.1 h).2 j hj
  unfold gateOK at h4
  rw [wrap_id (x := 1 + n) (by omega) (by omega), wrap_id (x := 1 + n + (j : Int)) (by omega) (by omega), wrap_id (x := 2 * (1 + n + (j : Int))) (by omega) (by omega), wrap_id (by omega) (by omega)] at h4
  have h5 := Bool.and_eq_true_iff.1 h4
  have h6 := of_decide_eq_true h5.1
  have h7 := of_decide_eq_true h5.2
  omega
def edgeOK (n : Int) (g : List S57) (e : Int) : Bool := inB 0 (2 * (1 + n + (g.length : Int)) - 1) e
theorem edge_in {n : Int} {g : List S57} {e : Int} (h : edgeOK n g e = true) : 0 ≤ e ∧ e ≤ 2 * (1 + n + (g.length : Int)) - 1 := of_decide_eq_true h
theorem wf_in {x : Int} (h0 : -9223372036854775808 ≤ x) (h1 : x ≤ 9223372036854775807) : (Lit.int .i64 x).wf = true := wf_iff.2 ⟨h0, h1⟩
/-- A loop that looks for the first element of which a test holds tells what stands at its place. -/
theorem run_findIdx {α β : Type} (L : Nat → Nat → Option β) (l : List α) (d : α) (q : α → Bool) (good : Nat → β) (bad : β)
    (hstep : ∀ k i, i < l.length → L (k + 1) i = if q (l.getD i d) = true then some (good i) else L k (i + 1)) (hend : ∀ k, L (k + 1) l.length = some bad) (k : Nat) (hk : l.length < k) :
    L k 0 = some (match l.findIdx? q with | some i => good i | none => bad) := by
  have key : ∀ e i k, i + e = l.length → e < k → L k i = some (match (l.drop i).findIdx? q with | some j => good (i + j) | none => bad) := by
    intro e
    induction e with
    | zero =>
      intro i k hi hk
      obtain ⟨k, rfl⟩ : ∃ t, k = t + 1 := ⟨k - 1, by omega⟩
      obtain rfl : i = l.length := by omega
      rw [hend, List.drop_length]
      rfl
    | succ e ih =>
      intro i k hi hk
      obtain ⟨k, rfl⟩ : ∃ t, k = t + 1 := ⟨k - 1, by omega⟩
      rw [hstep k i (by omega), List.drop_eq_getElem_cons (by omega), List.findIdx?_cons]
      have hg : l.getD i d = l[i]'(by omega) := by simp [List.getD_eq_getElem?_getD, show i < l.length from by omega]
      rw [hg]
      by_cases hq : q (l[i]'(by omega)) = true
      · rw [if_pos hq, if_pos hq]
        rfl
      · rw [if_neg hq, if_neg hq, ih (i + 1) k (by omega) (by omega)]
        cases (l.drop (i + 1)).findIdx? q with
        | none => rfl
        | some j =>
          show some (good (i + 1 + j)) = some (good (i + (j + 1)))
          rw [show i + 1 + j = i + (j + 1) from by omega]
  have h := key l.length 0 k (by omega) hk
  rw [h, List.drop_zero]
  cases l.findIdx? q with
  | none => rfl
  | some j =>
    show some (good (0 + j)) = some (good j)
    rw [Nat.zero_add]
theorem find_x {k : Nat} {n a b : Int} {g : List S57} (hk : g.length < k) (hm : g.length ≤ 1000) : spec_l7Find.f k n g a b = some (match g.findIdx? (impl_building.eqS ⟨a, b⟩) with | some i => wrap64 (wrap64 (1 + n) + (i : Int)) | none => -1) := by
  unfold spec_l7Find.f
  refine run_findIdx (fun k i => spec_l7Find.l0 k a b (i : Int) n g) g z57 (impl_building.eqS ⟨a, b⟩) (fun i => wrap64 (wrap64 (1 + n) + (i : Int))) (-1) ?_ ?_ k hk
  · intro k i hi
    simp only [spec_l7Find.l0]
    rw [if_pos (by omega), if_pos (by omega), rdT57_nat, wrap_id (x := (i : Int) + 1) (by omega) (by omega)]
    unfold impl_building.eqS
    by_cases c0 : (g.getD i z57).f0 = a
    · rw [if_pos c0]
      by_cases c1 : (g.getD i z57).f1 = b
      · rw [if_pos c1, if_pos (decide_eq_true ⟨c0.symm, c1.symm⟩)]
      · rw [if_neg c1, if_neg (fun h => c1 (of_decide_eq_true h).2.symm)]
        rfl
    · rw [if_neg c0, if_neg (fun h => c0 (of_decide_eq_true h).1.symm)]
      rfl
  · intro k
    simp only [spec_l7Find.l0]
    rw [if_neg (by omega)]
theorem xor_one {b : Int} (h0 : 0 ≤ b) (h1 : b < 4611686018427387904) : Go.bits .xor .i64 b 1 = if b % 2 = 1 then b - 1 else b + 1 := by
  obtain ⟨a, rfl⟩ := Int.eq_ofNat_of_zero_le h0
  have h2 : (BitVec.ofInt 64 (a : Int)).toNat = a := by
    rw [BitVec.toNat_ofInt]
    omega
  have h4 : Go.bits .xor .i64 (a : Int) 1 = IntKind.i64.wrap ((a ^^^ 1 : Nat) : Int) := by
    show IntKind.i64.wrap (((BitVec.ofInt 64 (a : Int) ^^^ BitVec.ofInt 64 1).toNat : Nat) : Int) = _
    rw [BitVec.toNat_xor, h2]
    rfl
  have h5 : a ^^^ 1 = if a % 2 = 1 then a - 1 else a + 1 := by
    have e1 : (a ^^^ 1) / 2 = a / 2 := by rw [Nat.xor_div_two]; simp
    have e2 : (a ^^^ 1) % 2 = (a % 2 + 1) % 2 := by
      have := Nat.xor_mod_two_pow (a := a) (b := 1) (n := 1)
      rcases Nat.mod_two_eq_zero_or_one a with h | h <;> simp [h] at this ⊢ <;> omega
    split <;> omega
  rw [h4, IntKind.wrap_i64, h5]
  split <;> split <;> omega
theorem xor_half {x : Int} (h0 : 0 ≤ x) (h1 : x < 100000) : Go.bits .xor .i64 x 1 / 2 = x / 2 ∧ Go.bits .xor .i64 x 1 ≠ x ∧ 0 ≤ Go.bits .xor .i64 x 1 := by
  rw [xor_one h0 (by omega)]
  split <;> omega
theorem seen_all (n : Int) (g : List S57) (y : S57) : impl_building.seen n g g.length y = (g.findIdx? (impl_building.eqS y)).map (impl_building.at_ n) := by
  unfold impl_building.seen
  rw [List.take_length]
theorem copy_x {k : Nat} {n : Int} {g : List S57} (hk : g.length < k) (hg : g.length ≤ 1000) : spec_l7Copy.f k n g = some (n, g) := by
  unfold spec_l7Copy.f
  refine run_inv (fun k (s : List S57) i => spec_l7Copy.l0 k (i : Int) n g n s) g.length (fun i s => s = g.take i) _ ?_ ?_ k 0 [] (Nat.zero_le _) (by omega) rfl
  · rintro k i s hi rfl
    refine Or.inr ⟨g.take (i + 1), ?_, rfl⟩
    simp only [spec_l7Copy.l0]
    rw [if_pos (by omega), if_pos (by omega), if_pos (by rw [List.length_take]; omega), wrap_id (x := (i : Int) + 1) (by omega) (by omega), take_succ_getD g i z57 hi, rdT57_nat]
    rfl
  · rintro k s rfl
    simp only [spec_l7Copy.l0]
    rw [if_neg (by omega), List.take_length]
theorem and_key {k : Nat} {n : Int} {g : List S57} (hk : g.length < k) (hn : 0 ≤ n ∧ n ≤ 12) (hg : g.length ≤ 600) (x y : Int) (h0 : 0 ≤ x) (h1 : x ≤ y) (h2 : y < 100000) :
    spec_l7And.j0 (k + 3) x y n g = some (n, (impl_builder_and.g n g x y).2.1, if (impl_builder_and.g n g x y).2.2 = true then -1 else (impl_builder_and.g n g x y).1) := by
  unfold impl_builder_and.g
  simp only [spec_l7And.j0]
  by_cases c0 : x = 0
  · rw [if_pos c0, if_pos c0]
    simp only [spec_l7And.j1, if_true, Bool.false_eq_true, if_false]
  · rw [if_neg c0, if_neg c0, Int.tdiv_eq_ediv_of_nonneg h0, Int.tdiv_eq_ediv_of_nonneg (show 0 ≤ y by omega), wrap_id (x := x / 2) (by omega) (by omega), wrap_id (x := y / 2) (by omega) (by omega)]
    obtain ⟨x1, x2, x3⟩ := xor_half h0 (by omega)
    by_cases c1 : x / 2 = y / 2
    · rw [if_pos c1]
      by_cases c2 : x = y
      · subst c2
        rw [if_neg x2, bne_self_eq_false]
        simp only [spec_l7And.j1, Bool.false_eq_true, if_false, if_true]
        by_cases c3 : x = 1
        · rw [if_pos c3, if_pos c3]
          simp only [spec_l7And.j2, if_true, Bool.false_eq_true, if_false]
        · rw [if_neg c3, if_neg c3, beq_self_eq_true]
          simp only [spec_l7And.j2, if_true, Bool.false_eq_true, if_false]
      · have hx : Go.bits .xor .i64 x 1 = y := by
          rw [xor_one h0 (by omega)]
          split <;> omega
        rw [if_pos hx, show (x != y) = true from by simpa using c2]
        simp only [spec_l7And.j1, if_true, Bool.false_eq_true, if_false]
    · have hx : ¬ Go.bits .xor .i64 x 1 = y := fun h => c1 (by rw [← h]; exact x1.symm)
      have c2 : ¬ x = y := fun h => c1 (by rw [h])
      rw [if_neg c1, if_neg hx]
      simp only [spec_l7And.j1, Bool.false_eq_true, if_false]
      by_cases c3 : x = 1
      · rw [if_pos c3, if_pos c3]
        simp only [spec_l7And.j2, if_true, Bool.false_eq_true, if_false]
      · rw [if_neg c3, if_neg c3, if_neg c2, beq_eq_false_iff_ne.mpr c2]
        simp only [spec_l7And.j2, Bool.false_eq_true, if_false]
        rw [find_x hk (by omega), seen_all]
        simp only [Option.bind_some]
        cases hf : g.findIdx? (impl_building.eqS ⟨x, y⟩) with
        | some i =>
          have hi : i < g.length := (List.findIdx?_eq_some_iff_findIdx_eq.1 hf).1
          simp only [Option.map_some]
          rw [if_pos (by rw [wrap_id (x := 1 + n) (by omega) (by omega), wrap_id (by omega) (by omega)]; omega)]
          rfl
        | none =>
          simp only [Option.map_none]
          rw [if_neg (by decide)]
          by_cases c4 : (g.length : Int) ≥ 600
          · rw [if_pos c4, if_pos c4]
            rfl
          · rw [if_neg c4, if_neg c4, if_pos (by omega)]
            unfold spec_l7Nodes.f
            simp only [Option.bind_some, Bool.false_eq_true, if_false, List.length_append, List.length_singleton]
            rw [wrap_id (x := 1 + n) (by omega) (by omega), wrap_id (x := 1 + n + ((g.length + 1 : Nat) : Int)) (by omega) (by omega), wrap_id (x := 1 + n + ((g.length + 1 : Nat) : Int) - 1) (by omega) (by omega), wrap_id (x := n + ((g.length : Int) + 1)) (by omega) (by omega)]
            refine congrArg some (Prod.ext rfl (Prod.ext rfl ?_))
            show wrap64 _ = wrap64 _
            refine congrArg wrap64 ?_
            omega
theorem and_x {k : Nat} {n : Int} {g : List S57} (hk : g.length + 5 < k) (hn : 0 ≤ n ∧ n ≤ 12) (hg : g.length ≤ 600) {a b : Int} (ha : 0 ≤ a ∧ a < 100000) (hb : 0 ≤ b ∧ b < 100000) :
    spec_l7And.f k n g a b = some (n, (impl_builder_and.f n g a b).2.1, if (impl_builder_and.f n g a b).2.2 = true then -1 else (impl_builder_and.f n g a b).1) := by
  obtain ⟨k, rfl⟩ : ∃ m, k = m + 3 := ⟨k - 3, by omega⟩
  unfold spec_l7And.f impl_builder_and.f
  by_cases h : a > b
  · rw [if_pos h, if_pos (show b < a from h), if_neg (show ¬ a < b by omega)]
    exact and_key (by omega) hn hg b a hb.1 (by omega) ha.2
  · rw [if_neg h, if_neg (show ¬ b < a from h)]
    by_cases h2 : a < b
    · rw [if_pos h2]
      exact and_key (by omega) hn hg a b ha.1 (by omega) hb.2
    · rw [if_neg h2]
      obtain rfl : a = b := by omega
      exact and_key (by omega) hn hg a a ha.1 (by omega) hb.2
theorem and_pos {n : Int} {g : List S57} (hn : 0 ≤ n ∧ n ≤ 12) (hg : g.length ≤ 600) {a b : Int} (ha : 0 ≤ a ∧ a < 100000) (hb : 0 ≤ b ∧ b < 100000) : 0 ≤ (impl_builder_and.f n g a b).1 ∧ (impl_builder_and.f n g a b).1 < 200000 := by
  have key : ∀ x y, 0 ≤ x → x < 100000 → 0 ≤ y → y < 100000 → 0 ≤ (impl_builder_and.g n g x y).1 ∧ (impl_builder_and.g n g x y).1 < 200000 := by
    intro x y h0 h1 h2 h3
    unfold impl_builder_and.g
    rw [seen_all]
    split
    · simp
    · split
      · simp
      · split
        · simp only; omega
        · split
          · simp only; omega
          · cases hf : g.findIdx? (impl_building.eqS ⟨x, y⟩) with
            | some i =>
              have hi : i < g.length := (List.findIdx?_eq_some_iff_findIdx_eq.1 hf).1
              simp only [Option.map_some]
              unfold impl_building.at_
              rw [wrap_id (x := 1 + n) (by omega) (by omega), wrap_id (x := 1 + n + (i : Int)) (by omega) (by omega), wrap_id (by omega) (by omega)]
              omega
            | none =>
              simp only [Option.map_none]
              split
              · simp
              · simp only
                rw [wrap_id (x := n + ((g.length : Int) + 1)) (by omega) (by omega), wrap_id (by omega) (by omega)]
                omega
  unfold impl_builder_and.f
  split <;> split <;> exact key _ _ (by omega) (by omega) (by omega) (by omega)
/-- What adding tells, by what the builder tells. -/
def addR (r : Int × List S57 × Bool) (n : Int) (g : List S57) (a b : Int) : Int × List S57 × Int := if circOK n g = true then (if edgeOK n g a = true then (if edgeOK n g b = true then (if r.2.2 = true then (0, [], -1) else (n, r.2.1, r.1)) else (0, [], -1)) else (0, [], -1)) else (0, [], -1)
theorem addR_len {r : Int × List S57 × Bool} {n : Int} {g : List S57} {a b : Int} (h : g.length ≤ 600 → r.2.1.length ≤ 601) : (addR r n g a b).2.1.length ≤ 601 := by
  unfold addR
  split
  · have := h (bnds (by assumption)).2.2
    (repeat' split) <;> simp only [List.length_nil] <;> omega
  · simp
theorem told_x {n e : Int} {l : List S57} {f : Bool} (h : f = false → 0 ≤ e) : spec_l7Told.f n l (if f = true then -1 else e) = some (if f = true then (0, [], -1) else (n, l, e)) := by
  unfold spec_l7Told.f
  cases f with
  | true => rfl
  | false =>
    have := h rfl
    simp only [Bool.false_eq_true, if_false]
    rw [if_neg (by omega)]
theorem good_all {n : Int} {g : List S57} {a b : Int} (h : circOK n g = true) (ha : edgeOK n g a = true) (hb : edgeOK n g b = true) : (g.all (fun y => (Lit.int .i64 y.f0).wf && (Lit.int .i64 y.f1).wf) && (Lit.int .i64 a).wf && (Lit.int .i64 b).wf && decide (g.length ≤ 600)) = true := by
  obtain ⟨b1, b2, b3⟩ := bnds h
  have ea := edge_in ha
  have eb := edge_in hb
  simp only [Bool.and_eq_true, decide_eq_true_eq, List.all_eq_true]
  refine ⟨⟨⟨fun y hy => ?_, wf_in (by omega) (by omega)⟩, wf_in (by omega) (by omega)⟩, b3⟩
  obtain ⟨j, hj, rfl⟩ := mem_getD z57 hy
  have := gate_ok h hj
  exact ⟨wf_in (by omega) (by omega), wf_in (by omega) (by omega)⟩

theorem not_x {a : Int} (h0 : 0 ≤ a) (h1 : a < 200000) : spec_l7Not.f a = some (Go.bits .xor .i64 a 1) := by
  unfold spec_l7Not.f
  rw [if_neg (by omega), xor_one h0 (by omega), Int.tdiv_eq_ediv_of_nonneg h0, Int.tmod_eq_emod_of_nonneg h0, wrap_id (x := a / 2) (by omega) (by omega), wrap_id (x := a / 2 * 2) (by omega) (by omega), wrap_id (x := a / 2 * 2 + 1) (by omega) (by omega), wrap_id (by omega) (by omega)]
  refine congrArg some ?_
  split <;> omega
theorem xor_small {a : Int} (h0 : 0 ≤ a) (h1 : a < 90000) : 0 ≤ Go.bits .xor .i64 a 1 ∧ Go.bits .xor .i64 a 1 < 100000 := by
  rw [xor_one h0 (by omega)]
  split <;> omega
theorem or_x {k : Nat} {n : Int} {g : List S57} (hk : g.length + 5 < k) (hn : 0 ≤ n ∧ n ≤ 12) (hg : g.length ≤ 600) {a b : Int} (ha : 0 ≤ a ∧ a < 90000) (hb : 0 ≤ b ∧ b < 90000) :
    spec_l7Or.f k n g a b = some (n, (impl_builder_or.f n g a b).2.1, if (impl_builder_or.f n g a b).2.2 = true then -1 else (impl_builder_or.f n g a b).1) := by
  have xa := xor_small ha.1 ha.2
  have xb := xor_small hb.1 hb.2
  have hp := and_pos hn hg xa xb
  unfold spec_l7Or.f impl_builder_or.f
  rw [not_x ha.1 (by omega), not_x hb.1 (by omega)]
  simp only [Option.bind_some]
  rw [and_x hk hn hg xa xb]
  simp only [Option.bind_some]
  generalize impl_builder_and.f n g (Go.bits .xor .i64 a 1) (Go.bits .xor .i64 b 1) = r at hp ⊢
  obtain ⟨r1, r2, r3⟩ := r
  cases r3 with
  | true =>
    simp only [if_true]
    rfl
  | false =>
    simp only [Bool.false_eq_true, if_false] at hp ⊢
    rw [not_x hp.1 hp.2]
    rfl
theorem or_pos {n : Int} {g : List S57} (hn : 0 ≤ n ∧ n ≤ 12) (hg : g.length ≤ 600) {a b : Int} (ha : 0 ≤ a ∧ a < 90000) (hb : 0 ≤ b ∧ b < 90000) : 0 ≤ (impl_builder_or.f n g a b).1 ∧ (impl_builder_or.f n g a b).1 < 300000 := by
  have hp := and_pos hn hg (xor_small ha.1 ha.2) (xor_small hb.1 hb.2)
  unfold impl_builder_or.f
  simp only
  rw [xor_one hp.1 (by omega)]
  split <;> omega

theorem spec_addOr {k : Nat} {n : Int} {g : List S57} {a b : Int} (hk : g.length + 30 < k) (hm : g.length ≤ 1048576) : spec_AddOr.f k n g a b = some (addR (impl_builder_or.f n g a b) n g a b) := by
  unfold spec_AddOr.f spec_l7Edge.f spec_l7Nodes.f addR
  obtain ⟨k, rfl⟩ : ∃ m, k = m + 1 := ⟨k - 1, by omega⟩
  rw [spec_CircuitValid_f (by omega) (by omega)]
  simp only [Option.bind_some, l1In_f, spec_AddOr.j0]
  by_cases h : circOK n g = true
  · obtain ⟨b1, b2, b3⟩ := bnds h
    rw [if_pos h, if_pos h, wrap_id (x := 1 + n) (by omega) (by omega), wrap_id (x := 1 + n + (g.length : Int)) (by omega) (by omega), wrap_id (x := 2 * (1 + n + (g.length : Int))) (by omega) (by omega), wrap_id (x := 2 * (1 + n + (g.length : Int)) - 1) (by omega) (by omega)]
    rw [show inB 0 (2 * (1 + n + (g.length : Int)) - 1) a = edgeOK n g a from rfl, show inB 0 (2 * (1 + n + (g.length : Int)) - 1) b = edgeOK n g b from rfl]
    cases ha : edgeOK n g a with
    | false => rfl
    | true =>
      cases hb : edgeOK n g b with
      | false => rfl
      | true =>
        have ea := edge_in ha
        have eb := edge_in hb
        simp only [if_true, Bool.not_true, Bool.false_eq_true, if_false]
        rw [copy_x (by omega) (by omega)]
        simp only [Option.bind_some]
        rw [or_x (by omega) ⟨b1, b2⟩ b3 (by omega) (by omega)]
        simp only [Option.bind_some]
        rw [told_x (fun _ => (or_pos ⟨b1, b2⟩ b3 (by omega) (by omega)).1)]
        rfl
  · rw [if_neg h, if_neg h]
    rfl
theorem impl_addOr {k : Nat} {n : Int} {g : List S57} {a b : Int} (hk : g.length + 30 < k) (hm : g.length ≤ 1048576) : impl_AddOr.f k n g a b = some (addR (impl_builder_or.f n g a b) n g a b) := by
  unfold impl_AddOr.f impl_Circuit_isEdge.f addR
  rw [impl_CircuitValid_f (by omega) (by omega)]
  simp only [Option.bind_some, in_f]
  by_cases h : circOK n g = true
  · obtain ⟨b1, b2, b3⟩ := bnds h
    rw [if_pos h, if_pos h, wrap_id (x := 1 + n) (by omega) (by omega), wrap_id (x := 1 + n + (g.length : Int)) (by omega) (by omega), wrap_id (x := 2 * (1 + n + (g.length : Int))) (by omega) (by omega), wrap_id (x := 2 * (1 + n + (g.length : Int)) - 1) (by omega) (by omega)]
    rw [show inB 0 (2 * (1 + n + (g.length : Int)) - 1) a = edgeOK n g a from rfl, show inB 0 (2 * (1 + n + (g.length : Int)) - 1) b = edgeOK n g b from rfl]
    cases ha : edgeOK n g a with
    | false => rfl
    | true =>
      cases hb : edgeOK n g b with
      | false => rfl
      | true =>
        simp only [if_true]
        rw [if_pos (show impl_AddOr.good g a b = true from good_all h ha hb)]
  · rw [if_neg h, if_neg h]

theorem FnExactAddOr : laws_FnExactAddOr.Pure := by
  intro n g a b hn hg hw ha hb
  refine ⟨g.length + 5000, ?_⟩
  unfold laws_FnExactAddOr.f
  unfold laws_szCircuit.f
  rw [szAndS_f (by omega) (by omega) hg]
  simp only [Option.bind_some]
  by_cases h2 : 1048576 - (g.length : Int) < 0
  · rw [if_pos h2]
    rfl
  · simp only [if_neg h2, Option.bind_some]
    have hlen : (g.map cAnd).length = g.length := by simp
    simp only [laws_toCircuit.f]
    rw [toAndS_f (by omega) (by omega)]
    simp only [Option.bind_some]
    rw [spec_addOr (by omega) (by omega), impl_addOr (by omega) (by omega)]
    have hI := impl_addOr (k := g.length + 4998) (n := n) (g := g.map cAnd) (a := a) (b := b) (by omega) (by omega)
    have hR := addR_len (r := impl_builder_or.f n (g.map cAnd) a b) (n := n) (g := g.map cAnd) (a := a) (b := b) (impl_builder_or.f_len n (g.map cAnd) a b)
    generalize addR (impl_builder_or.f n (g.map cAnd) a b) n (g.map cAnd) a b = R at hI hR ⊢
    obtain ⟨R1, R2, R3⟩ := R
    simp only [Option.bind_some, laws_eqCircuit.f, if_true] at hR ⊢
    rw [eqAndS_f (l := R2) (by omega) (by omega)]
    simp only [Option.bind_some, decide_true, if_true, bne_self_eq_false]
    rw [show g.length + 5000 = g.length + 4999 + 1 from rfl]
    simp only [laws_FnExactAddOr.j0, Bool.false_eq_true, if_false, laws_toCircuit.f, laws_eqCircuit.f, if_true]
    rw [toAndS_f (by omega) (by omega)]
    simp only [Option.bind_some]
    rw [eqAndS_f (l := g.map cAnd) (by omega) (by omega)]
    simp only [Option.bind_some, decide_true, if_true, laws_markCircuit.f]
    obtain ⟨⟨m1, m2⟩, hm1, hm2⟩ := markAndS_f (k := g.length + 4999) (l := g.map cAnd) (a := 1) (by omega) (by omega) (by omega) (by omega)
    simp only at hm2
    rw [hm1]
    have hq : ¬ (m1 < 0) := by omega
    have hq2 : ¬ ((1 : Int) + 2 * (R2.length : Int) < 0) := by omega
    simp only [Option.bind_some, if_neg hq]
    rw [eqAndS_f (l := R2) (by omega) (by omega)]
    simp only [Option.bind_some, decide_true, if_true, bne_self_eq_false]
    rw [show g.length + 4999 = g.length + 4998 + 1 from rfl]
    simp only [laws_FnExactAddOr.j1, Bool.false_eq_true, if_false, laws_markCircuit.f, laws_heldCircuit.f]
    rw [markAndS_x (by omega) (by omega) (by omega) (by omega)]
    simp only [Option.bind_some]
    rw [heldAndS_f (by omega) (by omega) (by omega) (by omega)]
    simp only [Option.bind_some, if_neg hq2, if_true, laws_toCircuit.f]
    rw [toAndS_f (by omega) (by omega)]
    simp only [Option.bind_some, hI, laws_eqCircuit.f, if_true]
    rw [eqAndS_f (l := R2) (by omega) (by omega)]
    simp only [Option.bind_some, decide_true, if_true, bne_self_eq_false]
    rw [show g.length + 4998 = g.length + 4997 + 1 from rfl]
    simp only [laws_FnExactAddOr.j2, Bool.false_eq_true, if_false, laws_heldCircuit.f]
    rw [heldAndS_f (by omega) (by omega) (by omega) (by omega)]
    simp only [Option.bind_some, if_neg hq2, if_true]

end Go.Proofs.Ythphgkhmeobadaa.Pure
