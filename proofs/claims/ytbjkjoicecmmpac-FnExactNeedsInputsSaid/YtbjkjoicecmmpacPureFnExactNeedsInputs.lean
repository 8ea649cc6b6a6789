/- The law on NeedsInputs holds for all arguments: the program's list of inputs that an edge needs is the reference's, in memory of its own, and the argument stays as it was.
Conditions: none. -/
import Derived.Test.YtbjkjoicecmmpacXFnExactNeedsInputsx6
import Derived.Test.YtbjkjoicecmmpacXLib2
namespace Go.Proofs.Ytbjkjoicecmmpac.Pure
open Go.RowKit Go.Proofs.Ytbjkjoicecmmpac.XFnExactNeedsInputs Go.Proofs.YtbjkjoicecmmpacW.PrintWords Go.Proofs.YtbjkjoicecmmpacW.PrintLast Go.Proofs.YtbjkjoicecmmpacW.PrintMore Go.Proofs.YtbjkjoicecmmpacX
set_option linter.unusedVariables false
set_option linter.unusedSimpArgs false

theorem rdT163_nat (xs : List S163) (i : Nat) : rd_T163 xs (i : Int) = xs.getD i z163 := by
  unfold rd_T163
  simp

theorem rdT145_nat (xs : List S145) (i : Nat) : rd_T145 xs (i : Int) = xs.getD i z145 := by
  unfold rd_T145
  simp

theorem eqIntS_f {k : Nat} {a b : List Int} (hk : a.length < k) (hm : a.length ≤ 35184372088832) : laws_eqIntS.f k a b = some (decide (a = b)) := by
  unfold laws_eqIntS.f
  by_cases hab : a.length = b.length
  · rw [if_pos (by omega)]
    refine run_inv (fun k (_ : Unit) i => laws_eqIntS.l0 k a b (i : Int)) a.length (fun i _ => ∀ j, j < i → a.getD j 0 = b.getD j 0) _ ?_ ?_ k 0 () (Nat.zero_le _) (by omega) (fun j hj => absurd hj (Nat.not_lt_zero j))
    · intro k i _ hi hs
      by_cases e : a.getD i 0 = b.getD i 0
      · refine Or.inr ⟨(), ?_, fun j hj => ?_⟩
        · simp only [laws_eqIntS.l0]
          rw [if_pos (by omega), if_pos (by omega), if_pos (by omega), rd_nat, rd_nat, if_pos e, wrap_id (by omega) (by omega)]
          rfl
        · by_cases e2 : j = i
          · rw [e2]; exact e
          · exact hs j (by omega)
      · refine Or.inl ?_
        simp only [laws_eqIntS.l0]
        rw [if_pos (by omega), if_pos (by omega), if_pos (by omega), rd_nat, rd_nat, if_neg e, decide_eq_false (fun h => e (by rw [h]))]
    · intro k _ hs
      simp only [laws_eqIntS.l0]
      rw [if_neg (by omega), decide_eq_true (ext_getD hab (fun j hj => hs j (by omega)))]
  · rw [if_neg (by omega), decide_eq_false (fun h => hab (by rw [h]))]

theorem markIntS_f {k : Nat} {l : List Int} {a : Int} (hk : l.length < k) (hm : l.length ≤ 35184372088832) (h0 : 0 ≤ a) (h1 : a ≤ 1000000000000000000) : laws_markIntS.f k l a = some (a + l.length, marks a l.length) := by
  unfold laws_markIntS.f
  refine (?_ : laws_markIntS.l0 k l a ((0 : Nat) : Int) = _)
  refine run_inv (fun k (s : List Int × Int) i => laws_markIntS.l0 k s.1 s.2 (i : Int)) l.length (fun i s => s.1.length = l.length ∧ s.2 = a + (i : Int) ∧ ∀ j, j < i → s.1.getD j 0 = a + (j : Int)) _ ?_ ?_ k 0 (l, a) (Nat.zero_le _) (by omega) ⟨rfl, by simp, fun j hj => absurd hj (Nat.not_lt_zero j)⟩
  · rintro k i ⟨s, c⟩ hi ⟨hl, hc, hs⟩
    simp only at hl hc hs
    subst hc
    refine Or.inr ⟨(s.set i (a + (i : Int)), a + (i : Int) + 1), ?_, by simpa using hl, by simp only [Int.natCast_add]; omega, fun j hj => ?_⟩
    · simp only [laws_markIntS.l0]
      rw [if_pos (by omega), if_pos (by omega), wrap_id (x := a + (i : Int) + 1) (by omega) (by omega), wrap_id (by omega) (by omega)]
      rfl
    · simp only
      rw [getD_set _ _ _ _ _ (by omega)]
      by_cases e : j = i
      · rw [if_pos e, e]
      · rw [if_neg e]
        exact hs j (by omega)
  · rintro k ⟨s, c⟩ ⟨hl, hc, hs⟩
    simp only at hl hc hs
    subst hc
    simp only [laws_markIntS.l0]
    rw [if_neg (by omega), ext_getD (d := 0) (s := s) (l := marks a l.length) (by rw [marks_length]; exact hl) (fun j hj => by rw [marks_length] at hj; rw [marks_getD _ _ _ hj]; exact hs j hj)]

theorem heldIntS_f {k : Nat} {n : Nat} {a : Int} (hk : n < k) (hm : n ≤ 35184372088832) (h0 : 0 ≤ a) (h1 : a ≤ 1000000000000000000) : laws_heldIntS.f k (marks a n) a = some (a + (n : Int)) := by
  unfold laws_heldIntS.f
  refine (?_ : laws_heldIntS.l0 k (marks a n) a ((0 : Nat) : Int) = _)
  have hlen := marks_length a n
  refine run_inv (fun k (s : Int) i => laws_heldIntS.l0 k (marks a n) s (i : Int)) n (fun i s => s = a + (i : Int)) _ ?_ ?_ k 0 a (Nat.zero_le _) (by omega) (by simp)
  · rintro k i s hi rfl
    refine Or.inr ⟨a + (i : Int) + 1, ?_, by simp only [Int.natCast_add]; omega⟩
    simp only [laws_heldIntS.l0]
    rw [if_pos (by omega), if_pos (by omega), rd_nat, marks_getD _ _ _ hi, if_pos rfl, wrap_id (x := a + (i : Int) + 1) (by omega) (by omega), wrap_id (by omega) (by omega)]
    rfl
  · rintro k s rfl
    simp only [laws_heldIntS.l0]
    rw [if_neg (by omega)]

theorem szAndS_f {l : List S163} {a : Int} (h0 : 0 ≤ a) (h1 : a ≤ 1048576) (hl : l.length ≤ 9223372036854775807) : laws_szAndS.f l a = some (if a - (l.length : Int) < 0 then -1 else a - (l.length : Int)) := by
  unfold laws_szAndS.f
  rw [wrap_id (by omega) (by omega)]
  by_cases h : a - (l.length : Int) < 0
  · rw [if_pos h, if_pos h]
  · rw [if_neg h, if_neg h]

def cAnd (x : S163) : S145 := ⟨x.f0, x.f1⟩
theorem toAndS_f {k : Nat} {l : List S163} (hk : l.length < k) (hm : l.length ≤ 17592186044416) : laws_toAndS.f k l = some (l.map cAnd) := by
  unfold laws_toAndS.f
  rw [if_pos (by omega), if_pos (by omega)]
  refine run_inv (fun k (s : List S145) i => laws_toAndS.l0 k l s (i : Int)) l.length (fun i s => s.length = l.length ∧ ∀ j, j < i → s.getD j z145 = (l.map cAnd).getD j z145) _ ?_ ?_ k 0 _ (Nat.zero_le _) (by omega) ⟨by simp, fun j hj => absurd hj (Nat.not_lt_zero j)⟩
  · intro k i s hi ⟨hl, hs⟩
    refine Or.inr ⟨s.set i (cAnd (l.getD i z163)), ?_, by simpa using hl, fun j hj => ?_⟩
    · simp only [laws_toAndS.l0]
      rw [if_pos (by omega), if_pos (by omega)]
      simp only [laws_toAnd.f, Option.bind_some, rdT163_nat]
      rw [if_pos (by omega), wrap_id (by omega) (by omega)]
      rfl
    · rw [getD_set _ _ _ _ _ (by omega)]
      by_cases e : j = i
      · rw [if_pos e, e]
        simp [List.getD_eq_getElem?_getD, hi]
      · rw [if_neg e]
        exact hs j (by omega)
  · intro k s ⟨hl, hs⟩
    simp only [laws_toAndS.l0]
    rw [if_neg (by omega), ext_getD (d := z145) (s := s) (l := l.map cAnd) (by simpa using hl) (fun j hj => hs j (by simpa using hj))]

theorem eqAndS_f {k : Nat} {l : List S145} (hk : l.length < k) (hm : l.length ≤ 35184372088832) : laws_eqAndS.f k l l = some true := by
  unfold laws_eqAndS.f
  rw [if_pos rfl]
  refine run_inv (fun k (_ : Unit) i => laws_eqAndS.l0 k l l (i : Int)) l.length (fun _ _ => True) _ ?_ ?_ k 0 () (Nat.zero_le _) (by omega) trivial
  · intro k i _ hi _
    refine Or.inr ⟨(), ?_, trivial⟩
    simp only [laws_eqAndS.l0]
    rw [if_pos (by omega), if_pos (by omega), if_pos (by omega), wrap_id (by omega) (by omega)]
    simp only [laws_eqAnd.f, if_true, Option.bind_some]
    rfl
  · intro k _ _
    simp only [laws_eqAndS.l0]
    rw [if_neg (by omega)]

/-- A loop that ends in something of which P holds. -/
theorem run_ex {σ β : Type} (L : Nat → σ → Nat → Option β) (n : Nat) (inv : Nat → σ → Prop) (P : β → Prop)
    (hstep : ∀ k i s, i < n → inv i s → ∃ s', L (k + 1) s i = L k s' (i + 1) ∧ inv (i + 1) s')
    (hend : ∀ k s, inv n s → ∃ r, L (k + 1) s n = some r ∧ P r) : ∀ k i s, i ≤ n → n - i < k → inv i s → ∃ r, L k s i = some r ∧ P r := by
  have key : ∀ d k i s, n - i = d → i ≤ n → d < k → inv i s → ∃ r, L k s i = some r ∧ P r := by
    intro d
    induction d with
    | zero =>
      intro k i s hd hi hk hs
      obtain ⟨k, rfl⟩ : ∃ m, k = m + 1 := ⟨k - 1, by omega⟩
      obtain rfl : i = n := by omega
      exact hend k s hs
    | succ d ih =>
      intro k i s hd hi hk hs
      obtain ⟨k, rfl⟩ : ∃ m, k = m + 1 := ⟨k - 1, by omega⟩
      obtain ⟨s', h, hs'⟩ := hstep k i s (by omega) hs
      rw [h]
      exact ih k (i + 1) s' (by omega) (by omega) (by omega) hs'
  intro k i s hi hk hs
  exact key (n - i) k i s rfl hi hk hs

theorem markAndS_f {k : Nat} {l : List S145} {a : Int} (hk : l.length < k) (hm : l.length ≤ 1048576) (h0 : 0 ≤ a) (h1 : a ≤ 1000000000000000000) : ∃ r, laws_markAndS.f k l a = some r ∧ r.1 = a + 2 * (l.length : Int) := by
  unfold laws_markAndS.f
  refine run_ex (fun k (s : List S145 × Int) i => laws_markAndS.l0 k s.1 s.2 (i : Int)) l.length (fun i s => s.1.length = l.length ∧ s.2 = a + 2 * (i : Int)) _ ?_ ?_ k 0 (l, a) (Nat.zero_le _) (by omega) ⟨rfl, by simp⟩
  · rintro k i ⟨s, c⟩ hi ⟨hl, hc⟩
    simp only at hl hc
    simp only [laws_markAndS.l0, Option.bind_some]
    rw [if_pos (by omega), if_pos (by omega), wrap_id (x := (i : Int) + 1) (by omega) (by omega), wrap_id (x := c + 1) (by omega) (by omega), wrap_id (x := c + 1 + 1) (by omega) (by omega)]
    refine ⟨(_, _), rfl, by simpa using hl, ?_⟩
    simp only [Int.natCast_add]
    omega
  · rintro k ⟨s, c⟩ ⟨hl, hc⟩
    simp only at hl hc
    simp only [laws_markAndS.l0]
    rw [if_neg (by omega)]
    exact ⟨_, rfl, hc⟩

theorem l1In_f (n a b : Int) : spec_l1In.f n a b = some (inB a b n) := by
  unfold spec_l1In.f inB
  by_cases h : n ≥ a
  · rw [if_pos h]; congr 1; simp; omega
  · rw [if_neg h, decide_eq_false (by omega)]

/-- A circuit that is one: its gates' edges lead to what stands ahead. -/
def gateOK (n : Int) (g : List S145) (j : Nat) : Bool := inB 0 (wrap64 (wrap64 (2 * wrap64 (wrap64 (1 + n) + (j : Int))) - 1)) (g.getD j z145).f0 && inB 0 (wrap64 (wrap64 (2 * wrap64 (wrap64 (1 + n) + (j : Int))) - 1)) (g.getD j z145).f1
def circOK (n : Int) (g : List S145) : Bool := inB 0 12 n && !decide ((g.length : Int) > 600) && decide (∀ j, j < g.length → gateOK n g j = true)

theorem spec_CircuitValid_f {k : Nat} {n : Int} {g : List S145} (hk : g.length + 2 < k) (hm : g.length ≤ 35184372088832) : spec_CircuitValid.f k n g = some (circOK n g) := by
  unfold spec_CircuitValid.f circOK
  rw [l1In_f]
  simp only [Option.bind_some]
  obtain ⟨k, rfl⟩ : ∃ m, k = m + 1 := ⟨k - 1, by omega⟩
  cases inB 0 12 n
  · simp [spec_CircuitValid.j0]
  · simp only [if_true, Bool.true_and, spec_CircuitValid.j0]
    cases hd : decide ((g.length : Int) > 600)
    · simp only [Bool.false_eq_true, if_false, Bool.not_false, Bool.true_and]
      refine (run_all (fun k i => spec_CircuitValid.l0 k (i : Int) n g) g.length (gateOK n g) true false ?_ ?_ k (by omega)).trans ?_
      · intro k i hi
        simp only [spec_CircuitValid.l0]
        rw [if_pos (by omega), if_pos (by omega), wrap_id (x := (i : Int) + 1) (by omega) (by omega), l1In_f, l1In_f]
        simp only [rdT145_nat, Option.bind_some]
        unfold gateOK
        cases inB 0 (wrap64 (wrap64 (2 * wrap64 (wrap64 (1 + n) + (i : Int))) - 1)) (g.getD i z145).f0
        · simp
        · simp
      · intro k
        simp only [spec_CircuitValid.l0]
        rw [if_neg (by omega)]
      · by_cases h : ∀ j, j < g.length → gateOK n g j = true
        · rw [if_pos h, decide_eq_true h]
        · rw [if_neg h, decide_eq_false h]
    · simp

theorem circ_bounds {n : Int} {g : List S145} (h : circOK n g = true) : 0 ≤ n ∧ n ≤ 12 ∧ g.length ≤ 600 := by
  unfold circOK at h
  have h1 := Bool.and_eq_true_iff.1 (Bool.and_eq_true_iff.1 h).1
  have h2 : 0 ≤ n ∧ n ≤ 12 := of_decide_eq_true h1.1
  have h3 : ¬ ((g.length : Int) > 600) := by simpa using h1.2
  omega
theorem circ_gate {n : Int} {g : List S145} (h : circOK n g = true) {j : Nat} (hj : j < g.length) : (0 ≤ (g.getD j z145).f0 ∧ (g.getD j z145).f0 < 2 * (1 + n + (j : Int))) ∧ (0 ≤ (g.getD j z145).f1 ∧ (g.getD j z145).f1 < 2 * (1 + n + (j : Int))) := by
  obtain ⟨h1, h2, h3⟩ := circ_bounds h
  have h4 := of_decide_eq_true (Bool.and_eq_true_iff.1 h).2 j hj
  unfold gateOK at h4
  rw [wrap_id (x := 1 + n) (by omega) (by omega), wrap_id (x := 1 + n + (j : Int)) (by omega) (by omega), wrap_id (x := 2 * (1 + n + (j : Int))) (by omega) (by omega), wrap_id (by omega) (by omega)] at h4
  have h5 := Bool.and_eq_true_iff.1 h4
  have h6 := of_decide_eq_true h5.1
  have h7 := of_decide_eq_true h5.2
  omega

theorem in_f (n a b : Int) : impl_in.f n a b = some (inB a b n) := by
  unfold impl_in.f inB
  by_cases h : n ≥ a
  · rw [if_pos h]; congr 1; simp; omega
  · rw [if_neg h, decide_eq_false (by omega)]

theorem impl_CircuitValid_f {k : Nat} {n : Int} {g : List S145} (hk : g.length + 2 < k) (hm : g.length ≤ 35184372088832) : impl_CircuitValid.f k n g = some (circOK n g) := by
  unfold impl_CircuitValid.f circOK
  rw [in_f]
  simp only [Option.bind_some]
  obtain ⟨k, rfl⟩ : ∃ m, k = m + 1 := ⟨k - 1, by omega⟩
  cases inB 0 12 n
  · simp [impl_CircuitValid.j0]
  · simp only [if_true, Bool.true_and, impl_CircuitValid.j0]
    cases hd : decide ((g.length : Int) > 600)
    · simp only [Bool.false_eq_true, if_false, Bool.not_false, Bool.true_and]
      refine (run_all (fun k i => impl_CircuitValid.l0 k g (g.length : Int) (i : Int) n g) g.length (gateOK n g) true false ?_ ?_ k (by omega)).trans ?_
      · intro k i hi
        simp only [impl_CircuitValid.l0]
        rw [if_pos (by omega), if_pos (by omega), if_pos (by omega), wrap_id (x := (i : Int) + 1) (by omega) (by omega), in_f, in_f]
        simp only [rdT145_nat, Option.bind_some]
        unfold gateOK
        cases inB 0 (wrap64 (wrap64 (2 * wrap64 (wrap64 (1 + n) + (i : Int))) - 1)) (g.getD i z145).f0
        · simp
        · simp
      · intro k
        simp only [impl_CircuitValid.l0]
        rw [if_neg (by omega)]
      · by_cases h : ∀ j, j < g.length → gateOK n g j = true
        · rw [if_pos h, decide_eq_true h]
        · rw [if_neg h, decide_eq_false h]
    · simp

theorem clone_int_f {l : List Int} (h : l.length ≤ 35184372088832) : impl_clone_int.f l = some l := by
  unfold impl_clone_int.f
  rw [if_pos h]

theorem rdOf_nat {α : Type} (d : α) (xs : List α) (i : Nat) : rdOf d xs (i : Int) = xs.getD i d := by
  unfold rdOf
  simp

/-- The places below i at which a test holds. -/
def placesL (p : Nat → Bool) (i : Nat) : List Int := ((List.range i).filter p).map fun j : Nat => (j : Int)
theorem placesL_succ (p : Nat → Bool) (i : Nat) : placesL p (i + 1) = if p i = true then placesL p i ++ [(i : Int)] else placesL p i := by
  unfold placesL
  rw [List.range_succ, List.filter_append, List.map_append]
  cases h : p i <;> simp [h]
theorem placesL_length (p : Nat → Bool) (i : Nat) : (placesL p i).length ≤ i := by
  unfold placesL
  rw [List.length_map]
  exact Nat.le_trans (List.length_filter_le _ _) (by simp)
theorem placesL_congr {p q : Nat → Bool} {i : Nat} (h : ∀ j, j < i → p j = q j) : placesL p i = placesL q i := by
  unfold placesL
  rw [List.filter_congr (fun j hj => h j (List.mem_range.1 hj))]

theorem listOf_f {k : Nat} {l : List Bool} (hk : l.length < k) (hm : l.length ≤ 1000000) : impl_listOf.f k l = some (placesL (fun j => l.getD j false) l.length) := by
  unfold impl_listOf.f
  refine run_inv (fun k (s : List Int) i => impl_listOf.l0 k s l (l.length : Int) (i : Int)) l.length (fun i s => s = placesL (fun j => l.getD j false) i) _ ?_ ?_ k 0 _ (Nat.zero_le _) (by omega) rfl
  · rintro k i s hi rfl
    have hl := placesL_length (fun j => l.getD j false) i
    refine Or.inr ⟨_, ?_, (placesL_succ _ i).symm⟩
    simp only [impl_listOf.l0]
    rw [if_pos (by omega), if_pos (by omega), if_pos (by omega), wrap_id (x := (i : Int) + 1) (by omega) (by omega)]
    simp only [rdOf_nat]
    cases l.getD i false
    · rfl
    · simp only [if_true]
      rw [if_pos (by omega)]
      rfl
  · rintro k s rfl
    have hl := placesL_length (fun j => l.getD j false) l.length
    simp only [impl_listOf.l0]
    rw [if_neg (by omega), clone_int_f (by omega)]
    rfl

def edgeOK (n : Int) (g : List S145) (e : Int) : Bool := inB 0 (2 * (1 + n + (g.length : Int)) - 1) e
/-- One gate, from what is marked to what it leans on. -/
def reachStep (m : Nat) (g : List S145) (s : List Bool) (i : Nat) : List Bool :=
  if s.getD (m + i) false = true then (s.set ((g.getD i z145).f0 / 2).toNat true).set ((g.getD i z145).f1 / 2).toNat true else s
def reachT (m : Nat) (g : List S145) (s0 : List Bool) : Nat → List Bool
  | 0 => s0
  | t + 1 => reachStep m g (reachT m g s0 t) (g.length - 1 - t)
theorem reachT_length (m : Nat) (g : List S145) (s0 : List Bool) (t : Nat) : (reachT m g s0 t).length = s0.length := by
  induction t with
  | zero => rfl
  | succ t ih =>
    simp only [reachT, reachStep]
    split
    · rw [List.length_set, List.length_set, ih]
    · exact ih
def start (n : Int) (g : List S145) (e : Int) : List Bool := (List.replicate (1 + n + (g.length : Int)).toNat false).set (e / 2).toNat true
def reachR (n : Int) (g : List S145) (e : Int) : List Bool := reachT (1 + n).toNat g (start n g e) g.length
def needsR (n : Int) (g : List S145) (e : Int) : List Int := if circOK n g = true then (if edgeOK n g e = true then placesL (fun j => (reachR n g e).getD (1 + j) false) n.toNat else []) else []

theorem spec_run {k : Nat} {n : Int} {g : List S145} {s0 : List Bool} (hk : g.length < k) (h : circOK n g = true) (hs0 : (s0.length : Int) = 1 + n + (g.length : Int)) :
    spec_l7Reach.l0 k s0 ((g.length : Int) - 1) n g = some (reachT (1 + n).toNat g s0 g.length) := by
  obtain ⟨b1, b2, b3⟩ := circ_bounds h
  have e0 : ((g.length : Int) - 1) = (g.length : Int) - 1 - ((0 : Nat) : Int) := by omega
  rw [e0]
  refine run_inv (fun k (s : List Bool) t => spec_l7Reach.l0 k s ((g.length : Int) - 1 - (t : Int)) n g) g.length (fun t s => s = reachT (1 + n).toNat g s0 t) _ ?_ ?_ k 0 s0 (Nat.zero_le _) (by omega) rfl
  · rintro k t s ht rfl
    have hl := reachT_length (1 + n).toNat g s0 t
    have hg := circ_gate h (show g.length - 1 - t < g.length by omega)
    refine Or.inr ⟨_, ?_, rfl⟩
    simp only [spec_l7Reach.l0, reachT, reachStep]
    generalize hS : reachT (1 + n).toNat g s0 t = S at hl ⊢
    have ej : ((g.length : Int) - 1 - (t : Int)) = ((g.length - 1 - t : Nat) : Int) := by omega
    have ew : wrap64 (((g.length - 1 - t : Nat) : Int) - 1) = (g.length : Int) - 1 - ((t + 1 : Nat) : Int) := by rw [wrap_id (by omega) (by omega)]; omega
    have em : wrap64 (wrap64 (1 + n) + ((g.length - 1 - t : Nat) : Int)) = (((1 + n).toNat + (g.length - 1 - t) : Nat) : Int) := by rw [wrap_id (x := 1 + n) (by omega) (by omega), wrap_id (by omega) (by omega)]; omega
    rw [ej, em, ew, rdOf_nat]
    simp only [rdT145_nat]
    generalize g.getD (g.length - 1 - t) z145 = x at hg ⊢
    obtain ⟨⟨f1, f2⟩, f3, f4⟩ := hg
    have q1 : wrap64 (Int.tdiv x.f0 2) = x.f0 / 2 := by rw [Int.tdiv_eq_ediv_of_nonneg f1]; exact wrap_id (by omega) (by omega)
    have q2 : wrap64 (Int.tdiv x.f1 2) = x.f1 / 2 := by rw [Int.tdiv_eq_ediv_of_nonneg f3]; exact wrap_id (by omega) (by omega)
    rw [q1, q2, if_pos (by omega), if_pos (by omega), if_pos (by omega)]
    by_cases e : S.getD ((1 + n).toNat + (g.length - 1 - t)) false = true
    · rw [if_pos e, if_pos e, if_pos (by omega), if_pos (by omega), if_pos (by omega), if_pos (by omega), if_pos (by omega), if_pos (by omega)]
    · rw [if_neg e, if_neg e]
  · rintro k s rfl
    simp only [spec_l7Reach.l0]
    rw [if_neg (by omega)]

theorem impl_run {k : Nat} {n : Int} {g : List S145} {s0 : List Bool} (hk : g.length < k) (h : circOK n g = true) (hs0 : (s0.length : Int) = 1 + n + (g.length : Int)) :
    impl_Circuit_needs.l0 k s0 ((g.length : Int) - 1) n g = some (reachT (1 + n).toNat g s0 g.length) := by
  obtain ⟨b1, b2, b3⟩ := circ_bounds h
  have e0 : ((g.length : Int) - 1) = (g.length : Int) - 1 - ((0 : Nat) : Int) := by omega
  rw [e0]
  refine run_inv (fun k (s : List Bool) t => impl_Circuit_needs.l0 k s ((g.length : Int) - 1 - (t : Int)) n g) g.length (fun t s => s = reachT (1 + n).toNat g s0 t) _ ?_ ?_ k 0 s0 (Nat.zero_le _) (by omega) rfl
  · rintro k t s ht rfl
    have hl := reachT_length (1 + n).toNat g s0 t
    have hg := circ_gate h (show g.length - 1 - t < g.length by omega)
    refine Or.inr ⟨_, ?_, rfl⟩
    simp only [impl_Circuit_needs.l0, reachT, reachStep]
    generalize hS : reachT (1 + n).toNat g s0 t = S at hl ⊢
    have ej : ((g.length : Int) - 1 - (t : Int)) = ((g.length - 1 - t : Nat) : Int) := by omega
    have ew : wrap64 (((g.length - 1 - t : Nat) : Int) - 1) = (g.length : Int) - 1 - ((t + 1 : Nat) : Int) := by rw [wrap_id (by omega) (by omega)]; omega
    have em : wrap64 (wrap64 (1 + n) + ((g.length - 1 - t : Nat) : Int)) = (((1 + n).toNat + (g.length - 1 - t) : Nat) : Int) := by rw [wrap_id (x := 1 + n) (by omega) (by omega), wrap_id (by omega) (by omega)]; omega
    rw [ej, em, ew, rdOf_nat]
    simp only [rdT145_nat]
    generalize g.getD (g.length - 1 - t) z145 = x at hg ⊢
    obtain ⟨⟨f1, f2⟩, f3, f4⟩ := hg
    have q1 : wrap64 (Int.tdiv x.f0 2) = x.f0 / 2 := by rw [Int.tdiv_eq_ediv_of_nonneg f1]; exact wrap_id (by omega) (by omega)
    have q2 : wrap64 (Int.tdiv x.f1 2) = x.f1 / 2 := by rw [Int.tdiv_eq_ediv_of_nonneg f3]; exact wrap_id (by omega) (by omega)
    rw [q1, q2, if_pos (by omega), if_pos (by omega), if_pos (by omega)]
    by_cases e : S.getD ((1 + n).toNat + (g.length - 1 - t)) false = true
    · rw [if_pos e, if_pos e, if_pos (by omega), if_pos (by omega), if_pos (by omega), if_pos (by omega), if_pos (by omega), if_pos (by omega)]
    · rw [if_neg e, if_neg e]
  · rintro k s rfl
    simp only [impl_Circuit_needs.l0]
    rw [if_neg (by omega)]

theorem start_length {n : Int} {g : List S145} {e : Int} (h : circOK n g = true) : ((start n g e).length : Int) = 1 + n + (g.length : Int) := by
  obtain ⟨b1, b2, b3⟩ := circ_bounds h
  unfold start
  rw [List.length_set, List.length_replicate]
  omega
theorem l7Reach_f {k : Nat} {n : Int} {g : List S145} {e : Int} (hk : g.length < k) (h : circOK n g = true) (he : edgeOK n g e = true) : spec_l7Reach.f k n g e = some (reachR n g e) := by
  obtain ⟨b1, b2, b3⟩ := circ_bounds h
  have h7 : 0 ≤ e ∧ e ≤ 2 * (1 + n + (g.length : Int)) - 1 := of_decide_eq_true he
  unfold spec_l7Reach.f spec_l7Nodes.f
  simp only [Option.bind_some]
  rw [wrap_id (x := 1 + n) (by omega) (by omega), wrap_id (x := 1 + n + (g.length : Int)) (by omega) (by omega), if_pos (by omega), if_pos (by omega), Int.tdiv_eq_ediv_of_nonneg h7.1, wrap_id (x := e / 2) (by omega) (by omega), wrap_id (x := (g.length : Int) - 1) (by omega) (by omega), if_pos (by omega), if_pos (by rw [List.length_replicate]; omega)]
  exact spec_run hk h (start_length h)
theorem needs_f {k : Nat} {n : Int} {g : List S145} {e : Int} (hk : g.length < k) (h : circOK n g = true) (he : edgeOK n g e = true) : impl_Circuit_needs.f k n g e = some (reachR n g e) := by
  obtain ⟨b1, b2, b3⟩ := circ_bounds h
  have h7 : 0 ≤ e ∧ e ≤ 2 * (1 + n + (g.length : Int)) - 1 := of_decide_eq_true he
  unfold impl_Circuit_needs.f
  simp only [Option.bind_some]
  rw [wrap_id (x := 1 + n) (by omega) (by omega), wrap_id (x := 1 + n + (g.length : Int)) (by omega) (by omega), if_pos (by omega), if_pos (by omega), Int.tdiv_eq_ediv_of_nonneg h7.1, wrap_id (x := e / 2) (by omega) (by omega), wrap_id (x := (g.length : Int) - 1) (by omega) (by omega), if_pos (by omega), if_pos (by rw [List.length_replicate]; omega)]
  exact impl_run hk h (start_length h)
theorem reachR_length {n : Int} {g : List S145} {e : Int} (h : circOK n g = true) : ((reachR n g e).length : Int) = 1 + n + (g.length : Int) := by
  unfold reachR
  rw [reachT_length]
  exact start_length h
theorem spec_needs {k : Nat} {n : Int} {g : List S145} {e : Int} (hk : g.length + 50 < k) (hm : g.length ≤ 1048576) : spec_NeedsInputs.f k n g e = some (needsR n g e) := by
  unfold spec_NeedsInputs.f spec_l7Edge.f spec_l7Nodes.f needsR
  obtain ⟨k, rfl⟩ : ∃ m, k = m + 1 := ⟨k - 1, by omega⟩
  simp only [Option.bind_some, l1In_f, spec_NeedsInputs.j0]
  rw [spec_CircuitValid_f (by omega) (by omega)]
  simp only [Option.bind_some]
  by_cases h : circOK n g = true
  · obtain ⟨b1, b2, b3⟩ := circ_bounds h
    rw [if_pos h, if_pos h, wrap_id (x := 1 + n) (by omega) (by omega), wrap_id (x := 1 + n + (g.length : Int)) (by omega) (by omega), wrap_id (x := 2 * (1 + n + (g.length : Int))) (by omega) (by omega), wrap_id (x := 2 * (1 + n + (g.length : Int)) - 1) (by omega) (by omega)]
    rw [show inB 0 (2 * (1 + n + (g.length : Int)) - 1) e = edgeOK n g e from rfl]
    by_cases he : edgeOK n g e = true
    · rw [if_pos he, he]
      simp only [Bool.not_true, Bool.false_eq_true, if_false]
      rw [l7Reach_f (by omega) h he]
      simp only [Option.bind_some]
      have hR := reachR_length (e := e) h
      generalize reachR n g e = R at hR ⊢
      obtain ⟨m, rfl⟩ : ∃ m : Nat, n = (m : Int) := ⟨n.toNat, by omega⟩
      rw [Int.toNat_natCast]
      refine run_inv (fun k (s : List Int) i => spec_NeedsInputs.l0 k s R (i : Int) (m : Int) g) m (fun i s => s = placesL (fun j => R.getD (1 + j) false) i) _ ?_ ?_ k 0 [] (Nat.zero_le _) (by omega) rfl
      · rintro k i s hi rfl
        have hl := placesL_length (fun j => R.getD (1 + j) false) i
        refine Or.inr ⟨_, ?_, (placesL_succ _ i).symm⟩
        simp only [spec_NeedsInputs.l0]
        have e1 : wrap64 (1 + (i : Int)) = ((1 + i : Nat) : Int) := by rw [wrap_id (by omega) (by omega)]; omega
        rw [e1, if_pos (by omega), if_pos (by omega), if_pos (by omega), wrap_id (x := (i : Int) + 1) (by omega) (by omega), rdOf_nat]
        cases R.getD (1 + i) false
        · rfl
        · simp only [if_true]
          rw [if_pos (by omega)]
          rfl
      · rintro k s rfl
        simp only [spec_NeedsInputs.l0]
        rw [if_neg (by omega)]
    · rw [if_neg he, Bool.eq_false_iff.2 he]
      rfl
  · rw [if_neg h, if_neg h]
    rfl
theorem impl_needs {k : Nat} {n : Int} {g : List S145} {e : Int} (hk : g.length + 50 < k) (hm : g.length ≤ 1048576) : impl_NeedsInputs.f k n g e = some (needsR n g e) := by
  unfold impl_NeedsInputs.f impl_Circuit_isEdge.f needsR
  obtain ⟨k, rfl⟩ : ∃ m, k = m + 1 := ⟨k - 1, by omega⟩
  simp only [Option.bind_some, in_f, impl_NeedsInputs.j0]
  rw [impl_CircuitValid_f (by omega) (by omega)]
  simp only [Option.bind_some]
  by_cases h : circOK n g = true
  · obtain ⟨b1, b2, b3⟩ := circ_bounds h
    rw [if_pos h, if_pos h, wrap_id (x := 1 + n) (by omega) (by omega), wrap_id (x := 1 + n + (g.length : Int)) (by omega) (by omega), wrap_id (x := 2 * (1 + n + (g.length : Int))) (by omega) (by omega), wrap_id (x := 2 * (1 + n + (g.length : Int)) - 1) (by omega) (by omega)]
    rw [show inB 0 (2 * (1 + n + (g.length : Int)) - 1) e = edgeOK n g e from rfl]
    by_cases he : edgeOK n g e = true
    · rw [if_pos he, he]
      simp only [Bool.not_true, Bool.false_eq_true, if_false]
      rw [needs_f (by omega) h he]
      simp only [Option.bind_some]
      have hR := reachR_length (e := e) h
      generalize reachR n g e = R at hR ⊢
      obtain ⟨m, rfl⟩ : ∃ m : Nat, n = (m : Int) := ⟨n.toNat, by omega⟩
      have e1 : ((1 : Int) + (m : Int)).toNat = 1 + m := by omega
      have hlen : ((R.take (1 + m)).drop 1).length = m := by rw [List.length_drop, List.length_take]; omega
      rw [e1, if_pos (by omega), if_pos (by omega), listOf_f (by omega) (by omega), hlen, Int.toNat_natCast]
      simp only [Option.bind_some]
      congr 1
      refine placesL_congr fun j hj => ?_
      simp only [List.getD_eq_getElem?_getD, List.getElem?_drop, List.getElem?_take]
      rw [if_pos (by omega)]
    · rw [if_neg he, Bool.eq_false_iff.2 he]
      rfl
  · rw [if_neg h, if_neg h]
    rfl

theorem FnExactNeedsInputs : laws_FnExactNeedsInputs.Pure := by
  intro n g e hn hg hw he
  refine ⟨4 * g.length + 100, ?_⟩
  unfold laws_FnExactNeedsInputs.f
  unfold laws_szCircuit.f
  rw [szAndS_f (by omega) (by omega) hg]
  simp only [Option.bind_some]
  by_cases h2 : 1048576 - (g.length : Int) < 0
  · rw [if_pos h2]
    rfl
  · simp only [if_neg h2, Option.bind_some]
    have hlen : (g.map cAnd).length = g.length := by simp
    simp only [laws_toCircuit.f]
    rw [toAndS_f (by omega) (by omega)]
    simp only [Option.bind_some]
    rw [spec_needs (by omega) (by omega), impl_needs (by omega) (by omega)]
    have hI := impl_needs (k := 4 * g.length + 99) (n := n) (g := g.map cAnd) (e := e) (by omega) (by omega)
    have hR : (needsR n (g.map cAnd) e).length ≤ 12 := by
      unfold needsR
      split
      · rename_i h
        obtain ⟨b1, b2, b3⟩ := circ_bounds h
        split
        · have := placesL_length (fun j => (reachR n (g.map cAnd) e).getD (1 + j) false) n.toNat
          omega
        · simp
      · simp
    generalize needsR n (g.map cAnd) e = R at hI hR ⊢
    simp only [Option.bind_some, laws_eqCircuit.f, laws_markCircuit.f, if_true]
    rw [eqIntS_f (a := R) (by omega) (by omega), eqAndS_f (by omega) (by omega)]
    obtain ⟨⟨m1, m2⟩, hm1, hm2⟩ := markAndS_f (k := 4 * g.length + 100) (l := g.map cAnd) (a := 1) (by omega) (by omega) (by omega) (by omega)
    simp only at hm2
    rw [hm1]
    have hq2 : ¬ ((1 : Int) + (R.length : Int) < 0) := by omega
    have hq : ¬ (m1 < 0) := by omega
    simp only [Option.bind_some, decide_true, if_true, if_neg hq, Bool.not_true, laws_FnExactNeedsInputs.j0, Bool.false_eq_true, if_false]
    rw [markIntS_f (by omega) (by omega) (by omega) (by omega)]
    simp only [Option.bind_some]
    rw [heldIntS_f (by omega) (by omega) (by omega) (by omega)]
    simp only [laws_toCircuit.f]
    rw [toAndS_f (by omega) (by omega)]
    simp only [Option.bind_some, if_neg hq2, if_true, hI]
    rw [eqIntS_f (by omega) (by omega)]
    simp only [Option.bind_some, decide_true, if_true, if_neg hq2]

end Go.Proofs.Ytbjkjoicecmmpac.Pure
