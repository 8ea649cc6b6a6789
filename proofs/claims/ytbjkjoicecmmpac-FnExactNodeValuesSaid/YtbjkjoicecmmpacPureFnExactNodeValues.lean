/- The law on NodeValues holds for all arguments: the program's values of the nodes are the reference's, in memory of their own, and the arguments stay as they were.
Conditions: none. -/
import Derived.Test.YtbjkjoicecmmpacXFnExactNodeValuesx6
import Derived.Test.YtbjkjoicecmmpacXLib2
namespace Go.Proofs.Ytbjkjoicecmmpac.Pure
open Go.RowKit Go.Proofs.Ytbjkjoicecmmpac.XFnExactNodeValues Go.Proofs.YtbjkjoicecmmpacW.PrintWords Go.Proofs.YtbjkjoicecmmpacW.PrintLast Go.Proofs.YtbjkjoicecmmpacW.PrintMore Go.Proofs.YtbjkjoicecmmpacX
set_option linter.unusedVariables false
set_option linter.unusedSimpArgs false

theorem rdT163_nat (xs : List S163) (i : Nat) : rd_T163 xs (i : Int) = xs.getD i z163 := by
  unfold rd_T163
  simp

theorem rdT145_nat (xs : List S145) (i : Nat) : rd_T145 xs (i : Int) = xs.getD i z145 := by
  unfold rd_T145
  simp

theorem eqIntS_f {k : Nat} {a b : List Int} (hk : a.length < k) (hm : a.length ≤ 35184372088832) : laws_eqIntS.f k a b = some (decide (a = b)) := by
  unfold laws_eqIntS.f
  by_cases hab : a.length = b.length
  · rw [if_pos (by omega)]
    refine run_inv (fun k (_ : Unit) i => laws_eqIntS.l0 k a b (i : Int)) a.length (fun i _ => ∀ j, j < i → a.getD j 0 = b.getD j 0) _ ?_ ?_ k 0 () (Nat.zero_le _) (by omega) (fun j hj => absurd hj (Nat.not_lt_zero j))
    · intro k i _ hi hs
      by_cases e : a.getD i 0 = b.getD i 0
      · refine Or.inr ⟨(), ?_, fun j hj => ?_⟩
        · simp only [laws_eqIntS.l0]
          rw [if_pos (by omega), if_pos (by omega), if_pos (by omega), rd_nat, rd_nat, if_pos e, wrap_id (by omega) (by omega)]
          rfl
        · by_cases e2 : j = i
          · rw [e2]; exact e
          · exact hs j (by omega)
      · refine Or.inl ?_
        simp only [laws_eqIntS.l0]
        rw [if_pos (by omega), if_pos (by omega), if_pos (by omega), rd_nat, rd_nat, if_neg e, decide_eq_false (fun h => e (by rw [h]))]
    · intro k _ hs
      simp only [laws_eqIntS.l0]
      rw [if_neg (by omega), decide_eq_true (ext_getD hab (fun j hj => hs j (by omega)))]
  · rw [if_neg (by omega), decide_eq_false (fun h => hab (by rw [h]))]

theorem markIntS_f {k : Nat} {l : List Int} {a : Int} (hk : l.length < k) (hm : l.length ≤ 35184372088832) (h0 : 0 ≤ a) (h1 : a ≤ 1000000000000000000) : laws_markIntS.f k l a = some (a + l.length, marks a l.length) := by
  unfold laws_markIntS.f
  refine (?_ : laws_markIntS.l0 k l a ((0 : Nat) : Int) = _)
  refine run_inv (fun k (s : List Int × Int) i => laws_markIntS.l0 k s.1 s.2 (i : Int)) l.length (fun i s => s.1.length = l.length ∧ s.2 = a + (i : Int) ∧ ∀ j, j < i → s.1.getD j 0 = a + (j : Int)) _ ?_ ?_ k 0 (l, a) (Nat.zero_le _) (by omega) ⟨rfl, by simp, fun j hj => absurd hj (Nat.not_lt_zero j)⟩
  · rintro k i ⟨s, c⟩ hi ⟨hl, hc, hs⟩
    simp only at hl hc hs
    subst hc
    refine Or.inr ⟨(s.set i (a + (i : Int)), a + (i : Int) + 1), ?_, by simpa using hl, by simp only [Int.natCast_add]; omega, fun j hj => ?_⟩
    · simp only [laws_markIntS.l0]
      rw [if_pos (by omega), if_pos (by omega), wrap_id (x := a + (i : Int) + 1) (by omega) (by omega), wrap_id (by omega) (by omega)]
      rfl
    · simp only
      rw [getD_set _ _ _ _ _ (by omega)]
      by_cases e : j = i
      · rw [if_pos e, e]
      · rw [if_neg e]
        exact hs j (by omega)
  · rintro k ⟨s, c⟩ ⟨hl, hc, hs⟩
    simp only at hl hc hs
    subst hc
    simp only [laws_markIntS.l0]
    rw [if_neg (by omega), ext_getD (d := 0) (s := s) (l := marks a l.length) (by rw [marks_length]; exact hl) (fun j hj => by rw [marks_length] at hj; rw [marks_getD _ _ _ hj]; exact hs j hj)]

theorem heldIntS_f {k : Nat} {n : Nat} {a : Int} (hk : n < k) (hm : n ≤ 35184372088832) (h0 : 0 ≤ a) (h1 : a ≤ 1000000000000000000) : laws_heldIntS.f k (marks a n) a = some (a + (n : Int)) := by
  unfold laws_heldIntS.f
  refine (?_ : laws_heldIntS.l0 k (marks a n) a ((0 : Nat) : Int) = _)
  have hlen := marks_length a n
  refine run_inv (fun k (s : Int) i => laws_heldIntS.l0 k (marks a n) s (i : Int)) n (fun i s => s = a + (i : Int)) _ ?_ ?_ k 0 a (Nat.zero_le _) (by omega) (by simp)
  · rintro k i s hi rfl
    refine Or.inr ⟨a + (i : Int) + 1, ?_, by simp only [Int.natCast_add]; omega⟩
    simp only [laws_heldIntS.l0]
    rw [if_pos (by omega), if_pos (by omega), rd_nat, marks_getD _ _ _ hi, if_pos rfl, wrap_id (x := a + (i : Int) + 1) (by omega) (by omega), wrap_id (by omega) (by omega)]
    rfl
  · rintro k s rfl
    simp only [laws_heldIntS.l0]
    rw [if_neg (by omega)]

theorem toIntS_f {k : Nat} {l : List Int} (hk : l.length < k) (hm : l.length ≤ 35184372088832) : laws_toIntS.f k l = some l := by
  unfold laws_toIntS.f
  rw [if_pos (by omega), if_pos (by omega)]
  refine run_inv (fun k (s : List Int) i => laws_toIntS.l0 k l s (i : Int)) l.length (fun i s => s.length = l.length ∧ ∀ j, j < i → s.getD j 0 = l.getD j 0) l ?_ ?_ k 0 _ (Nat.zero_le _) (by omega) ⟨by simp, fun j hj => absurd hj (Nat.not_lt_zero j)⟩
  · intro k i s hi ⟨hl, hs⟩
    refine Or.inr ⟨s.set i (l.getD i 0), ?_, by simpa using hl, fun j hj => ?_⟩
    · simp only [laws_toIntS.l0]
      rw [if_pos (by omega), if_pos (by omega), if_pos (by omega), wrap_id (by omega) (by omega), rd_nat]
      rfl
    · rw [getD_set _ _ _ _ _ (by omega)]
      by_cases e : j = i
      · rw [if_pos e, e]
      · rw [if_neg e]
        exact hs j (by omega)
  · intro k s ⟨hl, hs⟩
    simp only [laws_toIntS.l0]
    rw [if_neg (by omega), ext_getD hl hs]

theorem szAndS_f {l : List S163} {a : Int} (h0 : 0 ≤ a) (h1 : a ≤ 1048576) (hl : l.length ≤ 9223372036854775807) : laws_szAndS.f l a = some (if a - (l.length : Int) < 0 then -1 else a - (l.length : Int)) := by
  unfold laws_szAndS.f
  rw [wrap_id (by omega) (by omega)]
  by_cases h : a - (l.length : Int) < 0
  · rw [if_pos h, if_pos h]
  · rw [if_neg h, if_neg h]

def cAnd (x : S163) : S145 := ⟨x.f0, x.f1⟩
theorem toAndS_f {k : Nat} {l : List S163} (hk : l.length < k) (hm : l.length ≤ 17592186044416) : laws_toAndS.f k l = some (l.map cAnd) := by
  unfold laws_toAndS.f
  rw [if_pos (by omega), if_pos (by omega)]
  refine run_inv (fun k (s : List S145) i => laws_toAndS.l0 k l s (i : Int)) l.length (fun i s => s.length = l.length ∧ ∀ j, j < i → s.getD j z145 = (l.map cAnd).getD j z145) _ ?_ ?_ k 0 _ (Nat.zero_le _) (by omega) ⟨by simp, fun j hj => absurd hj (Nat.not_lt_zero j)⟩
  · intro k i s hi ⟨hl, hs⟩
    refine Or.inr ⟨s.set i (cAnd (l.getD i z163)), ?_, by simpa using hl, fun j hj => ?_⟩
    · simp only [laws_toAndS.l0]
      rw [if_pos (by omega), if_pos (by omega)]
      simp only [laws_toAnd.f, Option.bind_some, rdT163_nat]
      rw [if_pos (by omega), wrap_id (by omega) (by omega)]
      rfl
    · rw [getD_set _ _ _ _ _ (by omega)]
      by_cases e : j = i
      · rw [if_pos e, e]
        simp [List.getD_eq_getElem?_getD, hi]
      · rw [if_neg e]
        exact hs j (by omega)
  · intro k s ⟨hl, hs⟩
    simp only [laws_toAndS.l0]
    rw [if_neg (by omega), ext_getD (d := z145) (s := s) (l := l.map cAnd) (by simpa using hl) (fun j hj => hs j (by simpa using hj))]

theorem eqAndS_f {k : Nat} {l : List S145} (hk : l.length < k) (hm : l.length ≤ 35184372088832) : laws_eqAndS.f k l l = some true := by
  unfold laws_eqAndS.f
  rw [if_pos rfl]
  refine run_inv (fun k (_ : Unit) i => laws_eqAndS.l0 k l l (i : Int)) l.length (fun _ _ => True) _ ?_ ?_ k 0 () (Nat.zero_le _) (by omega) trivial
  · intro k i _ hi _
    refine Or.inr ⟨(), ?_, trivial⟩
    simp only [laws_eqAndS.l0]
    rw [if_pos (by omega), if_pos (by omega), if_pos (by omega), wrap_id (by omega) (by omega)]
    simp only [laws_eqAnd.f, if_true, Option.bind_some]
    rfl
  · intro k _ _
    simp only [laws_eqAndS.l0]
    rw [if_neg (by omega)]

/-- A loop that ends in something of which P holds. -/
theorem run_ex {σ β : Type} (L : Nat → σ → Nat → Option β) (n : Nat) (inv : Nat → σ → Prop) (P : β → Prop)
    (hstep : ∀ k i s, i < n → inv i s → ∃ s', L (k + 1) s i = L k s' (i + 1) ∧ inv (i + 1) s')
    (hend : ∀ k s, inv n s → ∃ r, L (k + 1) s n = some r ∧ P r) : ∀ k i s, i ≤ n → n - i < k → inv i s → ∃ r, L k s i = some r ∧ P r := by
  have key : ∀ d k i s, n - i = d → i ≤ n → d < k → inv i s → ∃ r, L k s i = some r ∧ P r := by
    intro d
    induction d with
    | zero =>
      intro k i s hd hi hk hs
      obtain ⟨k, rfl⟩ : ∃ m, k = m + 1 := ⟨k - 1, by omega⟩
      obtain rfl : i = n := by omega
      exact hend k s hs
    | succ d ih =>
      intro k i s hd hi hk hs
      obtain ⟨k, rfl⟩ : ∃ m, k = m + 1 := ⟨k - 1, by omega⟩
      obtain ⟨s', h, hs'⟩ := hstep k i s (by omega) hs
      rw [h]
      exact ih k (i + 1) s' (by omega) (by omega) (by omega) hs'
  intro k i s hi hk hs
  exact key (n - i) k i s rfl hi hk hs

theorem markAndS_f {k : Nat} {l : List S145} {a : Int} (hk : l.length < k) (hm : l.length ≤ 1048576) (h0 : 0 ≤ a) (h1 : a ≤ 1000000000000000000) : ∃ r, laws_markAndS.f k l a = some r ∧ r.1 = a + 2 * (l.length : Int) := by
  unfold laws_markAndS.f
  refine run_ex (fun k (s : List S145 × Int) i => laws_markAndS.l0 k s.1 s.2 (i : Int)) l.length (fun i s => s.1.length = l.length ∧ s.2 = a + 2 * (i : Int)) _ ?_ ?_ k 0 (l, a) (Nat.zero_le _) (by omega) ⟨rfl, by simp⟩
  · rintro k i ⟨s, c⟩ hi ⟨hl, hc⟩
    simp only at hl hc
    simp only [laws_markAndS.l0, Option.bind_some]
    rw [if_pos (by omega), if_pos (by omega), wrap_id (x := (i : Int) + 1) (by omega) (by omega), wrap_id (x := c + 1) (by omega) (by omega), wrap_id (x := c + 1 + 1) (by omega) (by omega)]
    refine ⟨(_, _), rfl, by simpa using hl, ?_⟩
    simp only [Int.natCast_add]
    omega
  · rintro k ⟨s, c⟩ ⟨hl, hc⟩
    simp only at hl hc
    simp only [laws_markAndS.l0]
    rw [if_neg (by omega)]
    exact ⟨_, rfl, hc⟩

theorem l1In_f (n a b : Int) : spec_l1In.f n a b = some (inB a b n) := by
  unfold spec_l1In.f inB
  by_cases h : n ≥ a
  · rw [if_pos h]; congr 1; simp; omega
  · rw [if_neg h, decide_eq_false (by omega)]

theorem l6Are_f {k : Nat} {l : List Int} (hk : l.length < k) (hm : l.length ≤ 35184372088832) : spec_l6Are.f k l = some (l.all (inB 0 1)) := by
  unfold spec_l6Are.f
  refine (run_allL (fun k i => spec_l6Are.l0 k l (i : Int)) l 0 (inB 0 1) true false ?_ ?_ k hk).trans ?_
  · intro k i hi
    simp only [spec_l6Are.l0]
    rw [if_pos (by omega), if_pos (by omega), l1In_f, rd_nat, wrap_id (by omega) (by omega)]
    rfl
  · intro k
    simp only [spec_l6Are.l0]
    rw [if_neg (by omega)]
  · cases l.all (inB 0 1) <;> simp

/-- A circuit that is one: its gates' edges lead to what stands ahead. -/
def gateOK (n : Int) (g : List S145) (j : Nat) : Bool := inB 0 (wrap64 (wrap64 (2 * wrap64 (wrap64 (1 + n) + (j : Int))) - 1)) (g.getD j z145).f0 && inB 0 (wrap64 (wrap64 (2 * wrap64 (wrap64 (1 + n) + (j : Int))) - 1)) (g.getD j z145).f1
def circOK (n : Int) (g : List S145) : Bool := inB 0 12 n && !decide ((g.length : Int) > 600) && decide (∀ j, j < g.length → gateOK n g j = true)

theorem spec_CircuitValid_f {k : Nat} {n : Int} {g : List S145} (hk : g.length + 2 < k) (hm : g.length ≤ 35184372088832) : spec_CircuitValid.f k n g = some (circOK n g) := by
  unfold spec_CircuitValid.f circOK
  rw [l1In_f]
  simp only [Option.bind_some]
  obtain ⟨k, rfl⟩ : ∃ m, k = m + 1 := ⟨k - 1, by omega⟩
  cases inB 0 12 n
  · simp [spec_CircuitValid.j0]
  · simp only [if_true, Bool.true_and, spec_CircuitValid.j0]
    cases hd : decide ((g.length : Int) > 600)
    · simp only [Bool.false_eq_true, if_false, Bool.not_false, Bool.true_and]
      refine (run_all (fun k i => spec_CircuitValid.l0 k (i : Int) n g) g.length (gateOK n g) true false ?_ ?_ k (by omega)).trans ?_
      · intro k i hi
        simp only [spec_CircuitValid.l0]
        rw [if_pos (by omega), if_pos (by omega), wrap_id (x := (i : Int) + 1) (by omega) (by omega), l1In_f, l1In_f]
        simp only [rdT145_nat, Option.bind_some]
        unfold gateOK
        cases inB 0 (wrap64 (wrap64 (2 * wrap64 (wrap64 (1 + n) + (i : Int))) - 1)) (g.getD i z145).f0
        · simp
        · simp
      · intro k
        simp only [spec_CircuitValid.l0]
        rw [if_neg (by omega)]
      · by_cases h : ∀ j, j < g.length → gateOK n g j = true
        · rw [if_pos h, decide_eq_true h]
        · rw [if_neg h, decide_eq_false h]
    · simp

theorem circ_bounds {n : Int} {g : List S145} (h : circOK n g = true) : 0 ≤ n ∧ n ≤ 12 ∧ g.length ≤ 600 := by
  unfold circOK at h
  have h1 := Bool.and_eq_true_iff.1 (Bool.and_eq_true_iff.1 h).1
  have h2 : 0 ≤ n ∧ n ≤ 12 := of_decide_eq_true h1.1
  have h3 : ¬ ((g.length : Int) > 600) := by simpa using h1.2
  omega
theorem circ_gate {n : Int} {g : List S145} (h : circOK n g = true) {j : Nat} (hj : j < g.length) : (0 ≤ (g.getD j z145).f0 ∧ (g.getD j z145).f0 < 2 * (1 + n + (j : Int))) ∧ (0 ≤ (g.getD j z145).f1 ∧ (g.getD j z145).f1 < 2 * (1 + n + (j : Int))) := by
  obtain ⟨h1, h2, h3⟩ := circ_bounds h
  have h4 := of_decide_eq_true (Bool.and_eq_true_iff.1 h).2 j hj
  unfold gateOK at h4
  rw [wrap_id (x := 1 + n) (by omega) (by omega), wrap_id (x := 1 + n + (j : Int)) (by omega) (by omega), wrap_id (x := 2 * (1 + n + (j : Int))) (by omega) (by omega), wrap_id (by omega) (by omega)] at h4
  have h5 := Bool.and_eq_true_iff.1 h4
  have h6 := of_decide_eq_true h5.1
  have h7 := of_decide_eq_true h5.2
  omega

/-- What an edge carries: its node's bit, turned where the edge is odd. -/
def edgeV (vs : List Int) (e : Int) : Int := if e % 2 = 1 then 1 - vs.getD (e / 2).toNat 0 else vs.getD (e / 2).toNat 0
def Bits (vs : List Int) : Prop := ∀ x ∈ vs, x = 0 ∨ x = 1
theorem bits_at {vs : List Int} (h : Bits vs) (i : Nat) : vs.getD i 0 = 0 ∨ vs.getD i 0 = 1 := by
  by_cases hi : i < vs.length
  · exact h _ (getD_mem vs i 0 hi)
  · left
    simp [List.getD_eq_getElem?_getD, List.getElem?_eq_none (Nat.le_of_not_lt hi)]
theorem edgeV_bit {vs : List Int} (h : Bits vs) (e : Int) : edgeV vs e = 0 ∨ edgeV vs e = 1 := by
  unfold edgeV
  have := bits_at h (e / 2).toNat
  split <;> omega
theorem bits_of_all {v : List Int} (h : v.all (inB 0 1) = true) : Bits v := by
  intro x hx
  have h1 := List.all_eq_true.1 h x hx
  have h2 : 0 ≤ x ∧ x ≤ 1 := of_decide_eq_true h1
  omega

theorem l7Of_f {vs : List Int} {e : Int} (hb : Bits vs) (h0 : 0 ≤ e) (h1 : e < 2 * (vs.length : Int)) (hm : vs.length ≤ 1048576) : spec_l7Of.f vs e = some (edgeV vs e) := by
  unfold spec_l7Of.f edgeV
  rw [Int.tmod_eq_emod_of_nonneg h0, Int.tdiv_eq_ediv_of_nonneg h0, wrap_id (x := e / 2) (by omega) (by omega)]
  have hx := bits_at hb (e / 2).toNat
  have hr : rd vs (e / 2) = vs.getD (e / 2).toNat 0 := by
    obtain ⟨j, hj⟩ := Int.eq_ofNat_of_zero_le (show 0 ≤ e / 2 by omega)
    rw [hj, Int.toNat_natCast]
    exact rd_nat vs j
  simp only [hr, if_pos (show 0 ≤ e / 2 by omega), if_pos (show e / 2 < (vs.length : Int) by omega), wrap_id (x := 1 - vs.getD (e / 2).toNat 0) (by omega) (by omega)]
  split <;> rfl

/-- A gate behind the others. -/
def gateV (vs : List Int) (x : S145) : List Int := vs ++ [edgeV vs x.f0 * edgeV vs x.f1]
def valuesR (g : List S145) (v : List Int) : List Int := g.foldl gateV ([0] ++ v)
theorem bits_start {v : List Int} (h : Bits v) : Bits ([0] ++ v) := by
  intro x hx
  rcases List.mem_append.1 hx with hx | hx
  · left; simpa using hx
  · exact h x hx
theorem gateV_bits {vs : List Int} (h : Bits vs) (x : S145) : Bits (gateV vs x) := by
  intro y hy
  unfold gateV at hy
  rcases List.mem_append.1 hy with hy | hy
  · exact h y hy
  · have hy : y = edgeV vs x.f0 * edgeV vs x.f1 := by simpa using hy
    rcases edgeV_bit h x.f0 with h1 | h1 <;> rcases edgeV_bit h x.f1 with h2 | h2 <;> rw [h1, h2] at hy <;> simp [hy]
theorem fold_inv (g : List S145) {v : List Int} (hv : Bits v) : ∀ i, i ≤ g.length → Bits ((g.take i).foldl gateV ([0] ++ v)) ∧ ((g.take i).foldl gateV ([0] ++ v)).length = 1 + v.length + i := by
  intro i
  induction i with
  | zero =>
    intro _
    refine ⟨bits_start hv, ?_⟩
    simp
    omega
  | succ i ih =>
    intro hi
    obtain ⟨h1, h2⟩ := ih (by omega)
    rw [foldl_take_succ gateV ([0] ++ v) g z145 i (by omega)]
    refine ⟨gateV_bits h1 _, ?_⟩
    have h3 : ∀ (vs : List Int) x, (gateV vs x).length = vs.length + 1 := fun vs x => by simp [gateV]
    rw [h3, h2]
    omega
theorem values_inv (g : List S145) {v : List Int} (hv : Bits v) : Bits (valuesR g v) ∧ (valuesR g v).length = 1 + v.length + g.length := by
  have h := fold_inv g hv g.length (Nat.le_refl _)
  rw [List.take_length] at h
  exact h

theorem l7Run_f {k : Nat} {n : Int} {g : List S145} {v : List Int} (hk : g.length + v.length + 5 < k) (h : circOK n g = true) (hn : (v.length : Int) = n) (hv : Bits v) : spec_l7Run.f k n g v = some (valuesR g v) := by
  unfold spec_l7Run.f
  obtain ⟨b1, b2, b3⟩ := circ_bounds h
  subst hn
  obtain ⟨k, rfl⟩ : ∃ m, k = m + (v.length + 1) := ⟨k - (v.length + 1), by omega⟩
  refine Eq.trans (run_goto (fun k (s : List Int) i => spec_l7Run.l0 k v s (i : Int) (v.length : Int) g) v.length (fun i s => s = [0] ++ v.take i) (fun k => spec_l7Run.l1 k ([0] ++ v) 0 (v.length : Int) g) ?_ ?_ v.length k 0 [0] (by omega) (by simp)) ?_
  · rintro k i s hi rfl
    have hl : ([0] ++ v.take i).length = 1 + i := by rw [List.length_append, List.length_take]; simp; omega
    refine ⟨_, ?_, rfl⟩
    simp only [spec_l7Run.l0]
    rw [if_pos (by omega), if_pos (by omega), if_pos (by omega), if_pos (by omega), wrap_id (x := (i : Int) + 1) (by omega) (by omega), rd_nat, take_succ_getD v i 0 hi, List.append_assoc]
    rfl
  · rintro k s rfl
    simp only [spec_l7Run.l0]
    rw [if_neg (by omega), List.take_length]
  · refine run_inv (fun k (s : List Int) i => spec_l7Run.l1 k s (i : Int) (v.length : Int) g) g.length (fun i s => s = (g.take i).foldl gateV ([0] ++ v)) _ ?_ ?_ k 0 _ (Nat.zero_le _) (by omega) rfl
    · rintro k i s hi rfl
      obtain ⟨h1, h2⟩ := fold_inv g hv i (by omega)
      have h3 := circ_gate h hi
      refine Or.inr ⟨_, ?_, (foldl_take_succ gateV ([0] ++ v) g z145 i hi).symm⟩
      simp only [spec_l7Run.l1, rdT145_nat]
      rw [if_pos (by omega), if_pos (by omega), l7Of_f h1 h3.1.1 (by rw [h2]; omega) (by omega), l7Of_f h1 h3.2.1 (by rw [h2]; omega) (by omega)]
      simp only [Option.bind_some]
      have h4 : 0 ≤ edgeV ((g.take i).foldl gateV ([0] ++ v)) (g.getD i z145).f0 * edgeV ((g.take i).foldl gateV ([0] ++ v)) (g.getD i z145).f1 ∧ edgeV ((g.take i).foldl gateV ([0] ++ v)) (g.getD i z145).f0 * edgeV ((g.take i).foldl gateV ([0] ++ v)) (g.getD i z145).f1 ≤ 1 := by
        rcases edgeV_bit h1 (g.getD i z145).f0 with e1 | e1 <;> rcases edgeV_bit h1 (g.getD i z145).f1 with e2 | e2 <;> rw [e1, e2] <;> decide
      rw [if_pos (by omega), wrap_id (x := (i : Int) + 1) (by omega) (by omega), wrap_id (by omega) (by omega)]
      rfl
    · rintro k s rfl
      simp only [spec_l7Run.l1]
      rw [if_neg (by omega), List.take_length]
      rfl

def nodesR (n : Int) (g : List S145) (v : List Int) : List Int := if circOK n g = true then (if (v.length : Int) = n then (if v.all (inB 0 1) = true then valuesR g v else []) else []) else []
theorem spec_nodes {k : Nat} {n : Int} {g : List S145} {v : List Int} (hk : g.length + v.length + 20 < k) (hm : g.length ≤ 1048576) (hv : v.length ≤ 1048576) : spec_NodeValues.f k n g v = some (nodesR n g v) := by
  unfold spec_NodeValues.f nodesR
  rw [spec_CircuitValid_f (by omega) (by omega)]
  simp only [Option.bind_some]
  by_cases h : circOK n g = true
  · rw [if_pos h, if_pos h]
    by_cases h4 : (v.length : Int) = n
    · rw [if_pos h4, if_pos h4, l6Are_f (by omega) (by omega)]
      simp only [Option.bind_some]
      by_cases h5 : v.all (inB 0 1) = true
      · rw [if_pos h5, if_pos h5, l7Run_f (by omega) h h4 (bits_of_all h5)]
        rfl
      · rw [if_neg h5, if_neg h5]
    · rw [if_neg h4, if_neg h4]
  · rw [if_neg h, if_neg h]

theorem in_f (n a b : Int) : impl_in.f n a b = some (inB a b n) := by
  unfold impl_in.f inB
  by_cases h : n ≥ a
  · rw [if_pos h]; congr 1; simp; omega
  · rw [if_neg h, decide_eq_false (by omega)]

theorem contains_impl_bitsValid_1 {k : Nat} {l : List Int} (hk : l.length < k) (hm : l.length ≤ 35184372088832) : slices_ContainsFunc_int_int_impl_bitsValid_1.f k l = some (l.any fun x => !(inB 0 1 x)) := by
  unfold slices_ContainsFunc_int_int_impl_bitsValid_1.f slices_IndexFunc_int_int_impl_bitsValid_1.f
  obtain ⟨r, h1, h2⟩ := run_find (fun k i => slices_IndexFunc_int_int_impl_bitsValid_1.l0 k l (l.length : Int) (i : Int)) l 0 (fun x => !(inB 0 1 x)) (by
    intro k i hi
    simp only [slices_IndexFunc_int_int_impl_bitsValid_1.l0]
    rw [if_pos (by omega), if_pos (by omega), if_pos (by omega), rd_nat, wrap_id (by omega) (by omega)]
    unfold impl_bitsValid_1.f
    rw [in_f]
    rfl) (by
    intro k
    simp only [slices_IndexFunc_int_int_impl_bitsValid_1.l0]
    rw [if_neg (by omega)]) k hk
  have h1' : slices_IndexFunc_int_int_impl_bitsValid_1.l0 k l (l.length : Int) 0 = some r := h1
  rw [h1', Option.bind_some, h2]

theorem impl_bitsValid_f {k : Nat} {l : List Int} (hk : l.length < k) (hm : l.length ≤ 35184372088832) : impl_bitsValid.f k l = some (l.all (inB 0 1)) := by
  unfold impl_bitsValid.f
  rw [contains_impl_bitsValid_1 hk hm]
  simp only [Option.bind_some]
  have e : l.all (inB 0 1) = !(l.any fun x => !(inB 0 1 x)) := by simp [List.any_eq_not_all_not]
  rw [e]

theorem impl_CircuitValid_f {k : Nat} {n : Int} {g : List S145} (hk : g.length + 2 < k) (hm : g.length ≤ 35184372088832) : impl_CircuitValid.f k n g = some (circOK n g) := by
  unfold impl_CircuitValid.f circOK
  rw [in_f]
  simp only [Option.bind_some]
  obtain ⟨k, rfl⟩ : ∃ m, k = m + 1 := ⟨k - 1, by omega⟩
  cases inB 0 12 n
  · simp [impl_CircuitValid.j0]
  · simp only [if_true, Bool.true_and, impl_CircuitValid.j0]
    cases hd : decide ((g.length : Int) > 600)
    · simp only [Bool.false_eq_true, if_false, Bool.not_false, Bool.true_and]
      refine (run_all (fun k i => impl_CircuitValid.l0 k g (g.length : Int) (i : Int) n g) g.length (gateOK n g) true false ?_ ?_ k (by omega)).trans ?_
      · intro k i hi
        simp only [impl_CircuitValid.l0]
        rw [if_pos (by omega), if_pos (by omega), if_pos (by omega), wrap_id (x := (i : Int) + 1) (by omega) (by omega), in_f, in_f]
        simp only [rdT145_nat, Option.bind_some]
        unfold gateOK
        cases inB 0 (wrap64 (wrap64 (2 * wrap64 (wrap64 (1 + n) + (i : Int))) - 1)) (g.getD i z145).f0
        · simp
        · simp
      · intro k
        simp only [impl_CircuitValid.l0]
        rw [if_neg (by omega)]
      · by_cases h : ∀ j, j < g.length → gateOK n g j = true
        · rw [if_pos h, decide_eq_true h]
        · rw [if_neg h, decide_eq_false h]
    · simp

theorem clone_int_f {l : List Int} (h : l.length ≤ 35184372088832) : impl_clone_int.f l = some l := by
  unfold impl_clone_int.f
  rw [if_pos h]

theorem edgeOf_f {vs : List Int} {e : Int} (hb : Bits vs) (h0 : 0 ≤ e) (h1 : e < 2 * (vs.length : Int)) (hm : vs.length ≤ 1048576) : impl_edgeOf.f vs e = some (edgeV vs e) := by
  unfold impl_edgeOf.f edgeV
  rw [Int.tdiv_eq_ediv_of_nonneg h0, wrap_id (x := e / 2) (by omega) (by omega)]
  have hx := bits_at hb (e / 2).toNat
  have hr : rd vs (e / 2) = vs.getD (e / 2).toNat 0 := by
    obtain ⟨j, hj⟩ := Int.eq_ofNat_of_zero_le (show 0 ≤ e / 2 by omega)
    rw [hj, Int.toNat_natCast]
    exact rd_nat vs j
  rw [hr, if_pos (show 0 ≤ e / 2 by omega), if_pos (show e / 2 < (vs.length : Int) by omega), and_one h0 (by omega)]
  congr 1
  rcases Int.emod_two_eq e with h2 | h2
  · rw [h2, if_neg (by omega)]
    rcases hx with hx | hx
    · rw [hx]; decide
    · rw [hx]; decide
  · rw [h2, if_pos rfl]
    rcases hx with hx | hx
    · rw [hx]; decide
    · rw [hx]; decide

theorem and_bits {x y : Int} (hx : x = 0 ∨ x = 1) (hy : y = 0 ∨ y = 1) : Go.bits .and .i64 x y = x * y := by
  rcases hx with rfl | rfl <;> rcases hy with rfl | rfl <;> decide
theorem Circuit_values_f {k : Nat} {n : Int} {g : List S145} {v : List Int} (hk : g.length + v.length + 5 < k) (h : circOK n g = true) (hn : (v.length : Int) = n) (hv : Bits v) : impl_Circuit_values.f k n g v = some (valuesR g v) := by
  unfold impl_Circuit_values.f
  obtain ⟨b1, b2, b3⟩ := circ_bounds h
  subst hn
  simp only [Option.bind_some]
  rw [if_pos (by simp; omega)]
  refine run_inv (fun k (s : List Int) i => impl_Circuit_values.l0 k s g (g.length : Int) (i : Int)) g.length (fun i s => s = (g.take i).foldl gateV ([0] ++ v)) _ ?_ ?_ k 0 _ (Nat.zero_le _) (by omega) rfl
  · rintro k i s hi rfl
    obtain ⟨h1, h2⟩ := fold_inv g hv i (by omega)
    have h3 := circ_gate h hi
    refine Or.inr ⟨_, ?_, (foldl_take_succ gateV ([0] ++ v) g z145 i hi).symm⟩
    simp only [impl_Circuit_values.l0, rdT145_nat]
    rw [if_pos (by omega), if_pos (by omega), if_pos (by omega), edgeOf_f h1 h3.1.1 (by rw [h2]; omega) (by omega), edgeOf_f h1 h3.2.1 (by rw [h2]; omega) (by omega)]
    simp only [Option.bind_some]
    rw [if_pos (by omega), wrap_id (x := (i : Int) + 1) (by omega) (by omega), and_bits (edgeV_bit h1 _) (edgeV_bit h1 _)]
    rfl
  · rintro k s rfl
    simp only [impl_Circuit_values.l0]
    rw [if_neg (by omega), List.take_length]
    rfl

theorem impl_nodes {k : Nat} {n : Int} {g : List S145} {v : List Int} (hk : g.length + v.length + 20 < k) (hm : g.length ≤ 1048576) (hv : v.length ≤ 1048576) : impl_NodeValues.f k n g v = some (nodesR n g v) := by
  unfold impl_NodeValues.f nodesR
  obtain ⟨k, rfl⟩ : ∃ m, k = m + 1 := ⟨k - 1, by omega⟩
  rw [impl_CircuitValid_f (by omega) (by omega)]
  simp only [Option.bind_some, impl_NodeValues.j0]
  by_cases h : circOK n g = true
  · obtain ⟨b1, b2, b3⟩ := circ_bounds h
    rw [if_pos h, if_pos h]
    by_cases h4 : (v.length : Int) = n
    · rw [if_pos h4, if_pos h4, impl_bitsValid_f (by omega) (by omega)]
      simp only [Option.bind_some]
      by_cases h5 : v.all (inB 0 1) = true
      · have hl := (values_inv g (bits_of_all h5)).2
        rw [h5]
        simp only [Bool.not_true, Bool.false_eq_true, if_false, if_true]
        rw [Circuit_values_f (by omega) h h4 (bits_of_all h5)]
        simp only [Option.bind_some]
        rw [clone_int_f (by omega)]
        rfl
      · rw [Bool.eq_false_iff.2 h5]
        rfl
    · rw [if_neg h4, if_neg h4]
      rfl
  · rw [if_neg h, if_neg h]
    rfl

theorem FnExactNodeValues : laws_FnExactNodeValues.Pure := by
  intro n g v hn hg hw hv hw'
  refine ⟨4 * g.length + 4 * v.length + 100, ?_⟩
  unfold laws_FnExactNodeValues.f
  by_cases h : (v.length : Int) > 1048576
  · rw [if_pos h]
  · rw [if_neg h]
    unfold laws_szCircuit.f
    rw [szAndS_f (by omega) (by omega) hg]
    simp only [Option.bind_some]
    by_cases h2 : 1048576 - (g.length : Int) < 0
    · rw [if_pos h2]
      rfl
    · simp only [if_neg h2, Option.bind_some]
      have hlen : (g.map cAnd).length = g.length := by simp
      simp only [laws_toCircuit.f]
      rw [toAndS_f (by omega) (by omega), toIntS_f (by omega) (by omega)]
      simp only [Option.bind_some]
      rw [spec_nodes (by omega) (by omega) (by omega), impl_nodes (by omega) (by omega) (by omega)]
      have hI := impl_nodes (k := 4 * g.length + 4 * v.length + 99) (n := n) (g := g.map cAnd) (v := v) (by omega) (by omega) (by omega)
      have hR : (nodesR n (g.map cAnd) v).length ≤ 1 + v.length + g.length := by
        unfold nodesR
        split
        · split
          · split
            · rename_i h5
              rw [(values_inv (g.map cAnd) (bits_of_all h5)).2, hlen]
              omega
            · simp
          · simp
        · simp
      generalize nodesR n (g.map cAnd) v = R at hI hR ⊢
      simp only [Option.bind_some, laws_eqCircuit.f, laws_markCircuit.f, if_true]
      rw [eqIntS_f (a := R) (by omega) (by omega), eqAndS_f (by omega) (by omega), eqIntS_f (a := v) (by omega) (by omega)]
      obtain ⟨⟨m1, m2⟩, hm1, hm2⟩ := markAndS_f (k := 4 * g.length + 4 * v.length + 100) (l := g.map cAnd) (a := 1) (by omega) (by omega) (by omega) (by omega)
      simp only at hm2
      rw [hm1]
      have hq2 : ¬ ((1 : Int) + (R.length : Int) < 0) := by omega
      simp only [Option.bind_some, decide_true, if_true]
      rw [markIntS_f (by omega) (by omega) (by omega) (by omega)]
      have hq : ¬ (m1 + (v.length : Int) < 0) := by omega
      simp only [Option.bind_some, if_neg hq, Bool.not_true, laws_FnExactNodeValues.j0, Bool.false_eq_true, if_false]
      rw [markIntS_f (by omega) (by omega) (by omega) (by omega)]
      simp only [Option.bind_some]
      rw [heldIntS_f (by omega) (by omega) (by omega) (by omega)]
      simp only [laws_toCircuit.f]
      rw [toAndS_f (by omega) (by omega), toIntS_f (by omega) (by omega)]
      simp only [Option.bind_some, if_neg hq2, if_true, hI]
      rw [eqIntS_f (by omega) (by omega)]
      simp only [Option.bind_some, decide_true, if_true, if_neg hq2]

end Go.Proofs.Ytbjkjoicecmmpac.Pure
