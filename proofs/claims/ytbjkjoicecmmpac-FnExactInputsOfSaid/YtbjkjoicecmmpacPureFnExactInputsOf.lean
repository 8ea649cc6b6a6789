/- The law on InputsOf holds for all arguments: the program's inputs are the reference's, in memory of their own, and the arguments stay as they were.
Conditions: none. -/
import Derived.Test.YtbjkjoicecmmpacXFnExactInputsOfx5
import Derived.Test.YtbjkjoicecmmpacXLib2
namespace Go.Proofs.Ytbjkjoicecmmpac.Pure
open Go.RowKit Go.Proofs.Ytbjkjoicecmmpac.XFnExactInputsOf Go.Proofs.YtbjkjoicecmmpacW.PrintWords Go.Proofs.YtbjkjoicecmmpacW.PrintLast Go.Proofs.YtbjkjoicecmmpacW.PrintMore Go.Proofs.YtbjkjoicecmmpacX
set_option linter.unusedVariables false
set_option linter.unusedSimpArgs false

theorem rdT163_nat (xs : List S163) (i : Nat) : rd_T163 xs (i : Int) = xs.getD i z163 := by
  unfold rd_T163
  simp

theorem rdT145_nat (xs : List S145) (i : Nat) : rd_T145 xs (i : Int) = xs.getD i z145 := by
  unfold rd_T145
  simp

theorem eqIntS_f {k : Nat} {a b : List Int} (hk : a.length < k) (hm : a.length ≤ 35184372088832) : laws_eqIntS.f k a b = some (decide (a = b)) := by
  unfold laws_eqIntS.f
  by_cases hab : a.length = b.length
  · rw [if_pos (by omega)]
    refine run_inv (fun k (_ : Unit) i => laws_eqIntS.l0 k a b (i : Int)) a.length (fun i _ => ∀ j, j < i → a.getD j 0 = b.getD j 0) _ ?_ ?_ k 0 () (Nat.zero_le _) (by omega) (fun j hj => absurd hj (Nat.not_lt_zero j))
    · intro k i _ hi hs
      by_cases e : a.getD i 0 = b.getD i 0
      · refine Or.inr ⟨(), ?_, fun j hj => ?_⟩
        · simp only [laws_eqIntS.l0]
          rw [if_pos (by omega), if_pos (by omega), if_pos (by omega), rd_nat, rd_nat, if_pos e, wrap_id (by omega) (by omega)]
          rfl
        · by_cases e2 : j = i
          · rw [e2]; exact e
          · exact hs j (by omega)
      · refine Or.inl ?_
        simp only [laws_eqIntS.l0]
        rw [if_pos (by omega), if_pos (by omega), if_pos (by omega), rd_nat, rd_nat, if_neg e, decide_eq_false (fun h => e (by rw [h]))]
    · intro k _ hs
      simp only [laws_eqIntS.l0]
      rw [if_neg (by omega), decide_eq_true (ext_getD hab (fun j hj => hs j (by omega)))]
  · rw [if_neg (by omega), decide_eq_false (fun h => hab (by rw [h]))]

theorem markIntS_f {k : Nat} {l : List Int} {a : Int} (hk : l.length < k) (hm : l.length ≤ 35184372088832) (h0 : 0 ≤ a) (h1 : a ≤ 1000000000000000000) : laws_markIntS.f k l a = some (a + l.length, marks a l.length) := by
  unfold laws_markIntS.f
  refine (?_ : laws_markIntS.l0 k l a ((0 : Nat) : Int) = _)
  refine run_inv (fun k (s : List Int × Int) i => laws_markIntS.l0 k s.1 s.2 (i : Int)) l.length (fun i s => s.1.length = l.length ∧ s.2 = a + (i : Int) ∧ ∀ j, j < i → s.1.getD j 0 = a + (j : Int)) _ ?_ ?_ k 0 (l, a) (Nat.zero_le _) (by omega) ⟨rfl, by simp, fun j hj => absurd hj (Nat.not_lt_zero j)⟩
  · rintro k i ⟨s, c⟩ hi ⟨hl, hc, hs⟩
    simp only at hl hc hs
    subst hc
    refine Or.inr ⟨(s.set i (a + (i : Int)), a + (i : Int) + 1), ?_, by simpa using hl, by simp only [Int.natCast_add]; omega, fun j hj => ?_⟩
    · simp only [laws_markIntS.l0]
      rw [if_pos (by omega), if_pos (by omega), wrap_id (x := a + (i : Int) + 1) (by omega) (by omega), wrap_id (by omega) (by omega)]
      rfl
    · simp only
      rw [getD_set _ _ _ _ _ (by omega)]
      by_cases e : j = i
      · rw [if_pos e, e]
      · rw [if_neg e]
        exact hs j (by omega)
  · rintro k ⟨s, c⟩ ⟨hl, hc, hs⟩
    simp only at hl hc hs
    subst hc
    simp only [laws_markIntS.l0]
    rw [if_neg (by omega), ext_getD (d := 0) (s := s) (l := marks a l.length) (by rw [marks_length]; exact hl) (fun j hj => by rw [marks_length] at hj; rw [marks_getD _ _ _ hj]; exact hs j hj)]

theorem heldIntS_f {k : Nat} {n : Nat} {a : Int} (hk : n < k) (hm : n ≤ 35184372088832) (h0 : 0 ≤ a) (h1 : a ≤ 1000000000000000000) : laws_heldIntS.f k (marks a n) a = some (a + (n : Int)) := by
  unfold laws_heldIntS.f
  refine (?_ : laws_heldIntS.l0 k (marks a n) a ((0 : Nat) : Int) = _)
  have hlen := marks_length a n
  refine run_inv (fun k (s : Int) i => laws_heldIntS.l0 k (marks a n) s (i : Int)) n (fun i s => s = a + (i : Int)) _ ?_ ?_ k 0 a (Nat.zero_le _) (by omega) (by simp)
  · rintro k i s hi rfl
    refine Or.inr ⟨a + (i : Int) + 1, ?_, by simp only [Int.natCast_add]; omega⟩
    simp only [laws_heldIntS.l0]
    rw [if_pos (by omega), if_pos (by omega), rd_nat, marks_getD _ _ _ hi, if_pos rfl, wrap_id (x := a + (i : Int) + 1) (by omega) (by omega), wrap_id (by omega) (by omega)]
    rfl
  · rintro k s rfl
    simp only [laws_heldIntS.l0]
    rw [if_neg (by omega)]

theorem toIntS_f {k : Nat} {l : List Int} (hk : l.length < k) (hm : l.length ≤ 35184372088832) : laws_toIntS.f k l = some l := by
  unfold laws_toIntS.f
  rw [if_pos (by omega), if_pos (by omega)]
  refine run_inv (fun k (s : List Int) i => laws_toIntS.l0 k l s (i : Int)) l.length (fun i s => s.length = l.length ∧ ∀ j, j < i → s.getD j 0 = l.getD j 0) l ?_ ?_ k 0 _ (Nat.zero_le _) (by omega) ⟨by simp, fun j hj => absurd hj (Nat.not_lt_zero j)⟩
  · intro k i s hi ⟨hl, hs⟩
    refine Or.inr ⟨s.set i (l.getD i 0), ?_, by simpa using hl, fun j hj => ?_⟩
    · simp only [laws_toIntS.l0]
      rw [if_pos (by omega), if_pos (by omega), if_pos (by omega), wrap_id (by omega) (by omega), rd_nat]
      rfl
    · rw [getD_set _ _ _ _ _ (by omega)]
      by_cases e : j = i
      · rw [if_pos e, e]
      · rw [if_neg e]
        exact hs j (by omega)
  · intro k s ⟨hl, hs⟩
    simp only [laws_toIntS.l0]
    rw [if_neg (by omega), ext_getD hl hs]

theorem szAndS_f {l : List S163} {a : Int} (h0 : 0 ≤ a) (h1 : a ≤ 1048576) (hl : l.length ≤ 9223372036854775807) : laws_szAndS.f l a = some (if a - (l.length : Int) < 0 then -1 else a - (l.length : Int)) := by
  unfold laws_szAndS.f
  rw [wrap_id (by omega) (by omega)]
  by_cases h : a - (l.length : Int) < 0
  · rw [if_pos h, if_pos h]
  · rw [if_neg h, if_neg h]

theorem l1In_f (n a b : Int) : spec_l1In.f n a b = some (inB a b n) := by
  unfold spec_l1In.f inB
  by_cases h : n ≥ a
  · rw [if_pos h]; congr 1; simp; omega
  · rw [if_neg h, decide_eq_false (by omega)]

theorem l6Are_f {k : Nat} {l : List Int} (hk : l.length < k) (hm : l.length ≤ 35184372088832) : spec_l6Are.f k l = some (l.all (inB 0 1)) := by
  unfold spec_l6Are.f
  refine (run_allL (fun k i => spec_l6Are.l0 k l (i : Int)) l 0 (inB 0 1) true false ?_ ?_ k hk).trans ?_
  · intro k i hi
    simp only [spec_l6Are.l0]
    rw [if_pos (by omega), if_pos (by omega), l1In_f, rd_nat, wrap_id (by omega) (by omega)]
    rfl
  · intro k
    simp only [spec_l6Are.l0]
    rw [if_neg (by omega)]
  · cases l.all (inB 0 1) <;> simp

/-- A circuit that is one: its gates' edges lead to what stands ahead. -/
def gateOK (n : Int) (g : List S145) (j : Nat) : Bool := inB 0 (wrap64 (wrap64 (2 * wrap64 (wrap64 (1 + n) + (j : Int))) - 1)) (g.getD j z145).f0 && inB 0 (wrap64 (wrap64 (2 * wrap64 (wrap64 (1 + n) + (j : Int))) - 1)) (g.getD j z145).f1
def circOK (n : Int) (g : List S145) : Bool := inB 0 12 n && !decide ((g.length : Int) > 600) && decide (∀ j, j < g.length → gateOK n g j = true)

theorem spec_CircuitValid_f {k : Nat} {n : Int} {g : List S145} (hk : g.length + 2 < k) (hm : g.length ≤ 35184372088832) : spec_CircuitValid.f k n g = some (circOK n g) := by
  unfold spec_CircuitValid.f circOK
  rw [l1In_f]
  simp only [Option.bind_some]
  obtain ⟨k, rfl⟩ : ∃ m, k = m + 1 := ⟨k - 1, by omega⟩
  cases inB 0 12 n
  · simp [spec_CircuitValid.j0]
  · simp only [if_true, Bool.true_and, spec_CircuitValid.j0]
    cases hd : decide ((g.length : Int) > 600)
    · simp only [Bool.false_eq_true, if_false, Bool.not_false, Bool.true_and]
      refine (run_all (fun k i => spec_CircuitValid.l0 k (i : Int) n g) g.length (gateOK n g) true false ?_ ?_ k (by omega)).trans ?_
      · intro k i hi
        simp only [spec_CircuitValid.l0]
        rw [if_pos (by omega), if_pos (by omega), wrap_id (x := (i : Int) + 1) (by omega) (by omega), l1In_f, l1In_f]
        simp only [rdT145_nat, Option.bind_some]
        unfold gateOK
        cases inB 0 (wrap64 (wrap64 (2 * wrap64 (wrap64 (1 + n) + (i : Int))) - 1)) (g.getD i z145).f0
        · simp
        · simp
      · intro k
        simp only [spec_CircuitValid.l0]
        rw [if_neg (by omega)]
      · by_cases h : ∀ j, j < g.length → gateOK n g j = true
        · rw [if_pos h, decide_eq_true h]
        · rw [if_neg h, decide_eq_false h]
    · simp

theorem circ_bounds {n : Int} {g : List S145} (h : circOK n g = true) : 0 ≤ n ∧ n ≤ 12 ∧ g.length ≤ 600 := by
  unfold circOK at h
  have h1 := Bool.and_eq_true_iff.1 (Bool.and_eq_true_iff.1 h).1
  have h2 : 0 ≤ n ∧ n ≤ 12 := of_decide_eq_true h1.1
  have h3 : ¬ ((g.length : Int) > 600) := by simpa using h1.2
  omega
theorem circ_gate {n : Int} {g : List S145} (h : circOK n g = true) {j : Nat} (hj : j < g.length) : (0 ≤ (g.getD j z145).f0 ∧ (g.getD j z145).f0 < 2 * (1 + n + (j : Int))) ∧ (0 ≤ (g.getD j z145).f1 ∧ (g.getD j z145).f1 < 2 * (1 + n + (j : Int))) := by
  obtain ⟨h1, h2, h3⟩ := circ_bounds h
  have h4 := of_decide_eq_true (Bool.and_eq_true_iff.1 h).2 j hj
  unfold gateOK at h4
  rw [wrap_id (x := 1 + n) (by omega) (by omega), wrap_id (x := 1 + n + (j : Int)) (by omega) (by omega), wrap_id (x := 2 * (1 + n + (j : Int))) (by omega) (by omega), wrap_id (by omega) (by omega)] at h4
  have h5 := Bool.and_eq_true_iff.1 h4
  have h6 := of_decide_eq_true h5.1
  have h7 := of_decide_eq_true h5.2
  omega

theorem l3Copy_f {k : Nat} {l : List Int} (hk : l.length < k) (hm : l.length ≤ 1048576) : spec_l3Copy.f k l = some l := by
  unfold spec_l3Copy.f
  refine run_inv (fun k (s : List Int) i => spec_l3Copy.l0 k l s (i : Int)) l.length (fun i s => s = l.take i) _ ?_ ?_ k 0 [] (Nat.zero_le _) (by omega) (by simp)
  · rintro k i s hi rfl
    have hl : (l.take i).length = i := by rw [List.length_take]; omega
    refine Or.inr ⟨_, ?_, (take_succ_getD l i 0 hi).symm⟩
    simp only [spec_l3Copy.l0]
    rw [if_pos (by omega), if_pos (by omega), if_pos (by rw [hl]; omega), wrap_id (x := (i : Int) + 1) (by omega) (by omega), rd_nat]
    rfl
  · rintro k s rfl
    simp only [spec_l3Copy.l0]
    rw [if_neg (by omega), List.take_length]

def cAnd (x : S163) : S145 := ⟨x.f0, x.f1⟩
theorem toAndS_f {k : Nat} {l : List S163} (hk : l.length < k) (hm : l.length ≤ 17592186044416) : laws_toAndS.f k l = some (l.map cAnd) := by
  unfold laws_toAndS.f
  rw [if_pos (by omega), if_pos (by omega)]
  refine run_inv (fun k (s : List S145) i => laws_toAndS.l0 k l s (i : Int)) l.length (fun i s => s.length = l.length ∧ ∀ j, j < i → s.getD j z145 = (l.map cAnd).getD j z145) _ ?_ ?_ k 0 _ (Nat.zero_le _) (by omega) ⟨by simp, fun j hj => absurd hj (Nat.not_lt_zero j)⟩
  · intro k i s hi ⟨hl, hs⟩
    refine Or.inr ⟨s.set i (cAnd (l.getD i z163)), ?_, by simpa using hl, fun j hj => ?_⟩
    · simp only [laws_toAndS.l0]
      rw [if_pos (by omega), if_pos (by omega)]
      simp only [laws_toAnd.f, Option.bind_some, rdT163_nat]
      rw [if_pos (by omega), wrap_id (by omega) (by omega)]
      rfl
    · rw [getD_set _ _ _ _ _ (by omega)]
      by_cases e : j = i
      · rw [if_pos e, e]
        simp [List.getD_eq_getElem?_getD, hi]
      · rw [if_neg e]
        exact hs j (by omega)
  · intro k s ⟨hl, hs⟩
    simp only [laws_toAndS.l0]
    rw [if_neg (by omega), ext_getD (d := z145) (s := s) (l := l.map cAnd) (by simpa using hl) (fun j hj => hs j (by simpa using hj))]

theorem in_f (n a b : Int) : impl_in.f n a b = some (inB a b n) := by
  unfold impl_in.f inB
  by_cases h : n ≥ a
  · rw [if_pos h]; congr 1; simp; omega
  · rw [if_neg h, decide_eq_false (by omega)]

theorem contains_impl_bitsValid_1 {k : Nat} {l : List Int} (hk : l.length < k) (hm : l.length ≤ 35184372088832) : slices_ContainsFunc_int_int_impl_bitsValid_1.f k l = some (l.any fun x => !(inB 0 1 x)) := by
  unfold slices_ContainsFunc_int_int_impl_bitsValid_1.f slices_IndexFunc_int_int_impl_bitsValid_1.f
  obtain ⟨r, h1, h2⟩ := run_find (fun k i => slices_IndexFunc_int_int_impl_bitsValid_1.l0 k l (l.length : Int) (i : Int)) l 0 (fun x => !(inB 0 1 x)) (by
    intro k i hi
    simp only [slices_IndexFunc_int_int_impl_bitsValid_1.l0]
    rw [if_pos (by omega), if_pos (by omega), if_pos (by omega), rd_nat, wrap_id (by omega) (by omega)]
    unfold impl_bitsValid_1.f
    rw [in_f]
    rfl) (by
    intro k
    simp only [slices_IndexFunc_int_int_impl_bitsValid_1.l0]
    rw [if_neg (by omega)]) k hk
  have h1' : slices_IndexFunc_int_int_impl_bitsValid_1.l0 k l (l.length : Int) 0 = some r := h1
  rw [h1', Option.bind_some, h2]

theorem impl_bitsValid_f {k : Nat} {l : List Int} (hk : l.length < k) (hm : l.length ≤ 35184372088832) : impl_bitsValid.f k l = some (l.all (inB 0 1)) := by
  unfold impl_bitsValid.f
  rw [contains_impl_bitsValid_1 hk hm]
  simp only [Option.bind_some]
  have e : l.all (inB 0 1) = !(l.any fun x => !(inB 0 1 x)) := by simp [List.any_eq_not_all_not]
  rw [e]

theorem impl_CircuitValid_f {k : Nat} {n : Int} {g : List S145} (hk : g.length + 2 < k) (hm : g.length ≤ 35184372088832) : impl_CircuitValid.f k n g = some (circOK n g) := by
  unfold impl_CircuitValid.f circOK
  rw [in_f]
  simp only [Option.bind_some]
  obtain ⟨k, rfl⟩ : ∃ m, k = m + 1 := ⟨k - 1, by omega⟩
  cases inB 0 12 n
  · simp [impl_CircuitValid.j0]
  · simp only [if_true, Bool.true_and, impl_CircuitValid.j0]
    cases hd : decide ((g.length : Int) > 600)
    · simp only [Bool.false_eq_true, if_false, Bool.not_false, Bool.true_and]
      refine (run_all (fun k i => impl_CircuitValid.l0 k g (g.length : Int) (i : Int) n g) g.length (gateOK n g) true false ?_ ?_ k (by omega)).trans ?_
      · intro k i hi
        simp only [impl_CircuitValid.l0]
        rw [if_pos (by omega), if_pos (by omega), if_pos (by omega), wrap_id (x := (i : Int) + 1) (by omega) (by omega), in_f, in_f]
        simp only [rdT145_nat, Option.bind_some]
        unfold gateOK
        cases inB 0 (wrap64 (wrap64 (2 * wrap64 (wrap64 (1 + n) + (i : Int))) - 1)) (g.getD i z145).f0
        · simp
        · simp
      · intro k
        simp only [impl_CircuitValid.l0]
        rw [if_neg (by omega)]
      · by_cases h : ∀ j, j < g.length → gateOK n g j = true
        · rw [if_pos h, decide_eq_true h]
        · rw [if_neg h, decide_eq_false h]
    · simp

theorem clone_int_f {l : List Int} (h : l.length ≤ 35184372088832) : impl_clone_int.f l = some l := by
  unfold impl_clone_int.f
  rw [if_pos h]

theorem eqAndS_f {k : Nat} {l : List S145} (hk : l.length < k) (hm : l.length ≤ 35184372088832) : laws_eqAndS.f k l l = some true := by
  unfold laws_eqAndS.f
  rw [if_pos rfl]
  refine run_inv (fun k (_ : Unit) i => laws_eqAndS.l0 k l l (i : Int)) l.length (fun _ _ => True) _ ?_ ?_ k 0 () (Nat.zero_le _) (by omega) trivial
  · intro k i _ hi _
    refine Or.inr ⟨(), ?_, trivial⟩
    simp only [laws_eqAndS.l0]
    rw [if_pos (by omega), if_pos (by omega), if_pos (by omega), wrap_id (by omega) (by omega)]
    simp only [laws_eqAnd.f, if_true, Option.bind_some]
    rfl
  · intro k _ _
    simp only [laws_eqAndS.l0]
    rw [if_neg (by omega)]

/-- A loop that ends in something of which P holds. -/
theorem run_ex {σ β : Type} (L : Nat → σ → Nat → Option β) (n : Nat) (inv : Nat → σ → Prop) (P : β → Prop)
    (hstep : ∀ k i s, i < n → inv i s → ∃ s', L (k + 1) s i = L k s' (i + 1) ∧ inv (i + 1) s')
    (hend : ∀ k s, inv n s → ∃ r, L (k + 1) s n = some r ∧ P r) : ∀ k i s, i ≤ n → n - i < k → inv i s → ∃ r, L k s i = some r ∧ P r := by
  have key : ∀ d k i s, n - i = d → i ≤ n → d < k → inv i s → ∃ r, L k s i = some r ∧ P r := by
    intro d
    induction d with
    | zero =>
      intro k i s hd hi hk hs
      obtain ⟨k, rfl⟩ : ∃ m, k = m + 1 := ⟨k - 1, by omega⟩
      obtain rfl : i = n := by omega
      exact hend k s hs
    | succ d ih =>
      intro k i s hd hi hk hs
      obtain ⟨k, rfl⟩ : ∃ m, k = m + 1 := ⟨k - 1, by omega⟩
      obtain ⟨s', h, hs'⟩ := hstep k i s (by omega) hs
      rw [h]
      exact ih k (i + 1) s' (by omega) (by omega) (by omega) hs'
  intro k i s hi hk hs
  exact key (n - i) k i s rfl hi hk hs

theorem markAndS_f {k : Nat} {l : List S145} {a : Int} (hk : l.length < k) (hm : l.length ≤ 1048576) (h0 : 0 ≤ a) (h1 : a ≤ 1000000000000000000) : ∃ r, laws_markAndS.f k l a = some r ∧ r.1 = a + 2 * (l.length : Int) := by
  unfold laws_markAndS.f
  refine run_ex (fun k (s : List S145 × Int) i => laws_markAndS.l0 k s.1 s.2 (i : Int)) l.length (fun i s => s.1.length = l.length ∧ s.2 = a + 2 * (i : Int)) _ ?_ ?_ k 0 (l, a) (Nat.zero_le _) (by omega) ⟨rfl, by simp⟩
  · rintro k i ⟨s, c⟩ hi ⟨hl, hc⟩
    simp only at hl hc
    simp only [laws_markAndS.l0, Option.bind_some]
    rw [if_pos (by omega), if_pos (by omega), wrap_id (x := (i : Int) + 1) (by omega) (by omega), wrap_id (x := c + 1) (by omega) (by omega), wrap_id (x := c + 1 + 1) (by omega) (by omega)]
    refine ⟨(_, _), rfl, by simpa using hl, ?_⟩
    simp only [Int.natCast_add]
    omega
  · rintro k ⟨s, c⟩ ⟨hl, hc⟩
    simp only at hl hc
    simp only [laws_markAndS.l0]
    rw [if_neg (by omega)]
    exact ⟨_, rfl, hc⟩

def inputsR (n : Int) (g : List S145) (v : List Int) : List Int := if circOK n g = true then (if (v.length : Int) = n + (g.length : Int) then (if v.all (inB 0 1) = true then v.take n.toNat else []) else []) else []
theorem spec_inputs {k : Nat} {n : Int} {g : List S145} {v : List Int} (hk : g.length + v.length + 20 < k) (hm : g.length ≤ 1048576) (hv : v.length ≤ 1048576) : spec_InputsOf.f k n g v = some (inputsR n g v) := by
  unfold spec_InputsOf.f spec_l7Nodes.f inputsR
  rw [spec_CircuitValid_f (by omega) (by omega)]
  simp only [Option.bind_some]
  by_cases h : circOK n g = true
  · obtain ⟨h1, h2, h3⟩ := circ_bounds h
    rw [if_pos h, if_pos h, wrap_id (x := 1 + n) (by omega) (by omega), wrap_id (x := 1 + n + (g.length : Int)) (by omega) (by omega), show 1 + n + (g.length : Int) - 1 = n + (g.length : Int) from by omega, wrap_id (by omega) (by omega)]
    by_cases h4 : (v.length : Int) = n + (g.length : Int)
    · rw [if_pos h4, if_pos h4, l6Are_f (by omega) (by omega)]
      simp only [Option.bind_some]
      by_cases h5 : v.all (inB 0 1) = true
      · rw [if_pos h5, if_pos h5, if_pos h1, if_pos (by omega), l3Copy_f (by rw [List.length_take]; omega) (by rw [List.length_take]; omega)]
        rfl
      · rw [if_neg h5, if_neg h5]
    · rw [if_neg h4, if_neg h4]
  · rw [if_neg h, if_neg h]
theorem impl_inputs {k : Nat} {n : Int} {g : List S145} {v : List Int} (hk : g.length + v.length + 20 < k) (hm : g.length ≤ 1048576) (hv : v.length ≤ 1048576) : impl_InputsOf.f k n g v = some (inputsR n g v) := by
  unfold impl_InputsOf.f inputsR
  rw [impl_CircuitValid_f (by omega) (by omega)]
  simp only [Option.bind_some]
  by_cases h : circOK n g = true
  · obtain ⟨h1, h2, h3⟩ := circ_bounds h
    rw [if_pos h, if_pos h, wrap_id (x := n + (g.length : Int)) (by omega) (by omega)]
    by_cases h4 : (v.length : Int) = n + (g.length : Int)
    · rw [if_pos h4, if_pos h4, impl_bitsValid_f (by omega) (by omega)]
      simp only [Option.bind_some]
      by_cases h5 : v.all (inB 0 1) = true
      · rw [if_pos h5, if_pos h5, if_pos h1, if_pos (by omega), clone_int_f (by rw [List.length_take]; omega)]
        rfl
      · rw [if_neg h5, if_neg h5]
    · rw [if_neg h4, if_neg h4]
  · rw [if_neg h, if_neg h]

theorem FnExactInputsOf : laws_FnExactInputsOf.Pure := by
  intro n g v hn hg hw hv hw'
  refine ⟨2 * g.length + 2 * v.length + 100, ?_⟩
  unfold laws_FnExactInputsOf.f
  by_cases h : (v.length : Int) > 1048576
  · rw [if_pos h]
  · rw [if_neg h]
    unfold laws_szCircuit.f
    rw [szAndS_f (by omega) (by omega) hg]
    simp only [Option.bind_some]
    by_cases h2 : 1048576 - (g.length : Int) < 0
    · rw [if_pos h2]
      rfl
    · simp only [if_neg h2, Option.bind_some]
      have hlen : (g.map cAnd).length = g.length := by simp
      simp only [laws_toCircuit.f]
      rw [toAndS_f (by omega) (by omega), toIntS_f (by omega) (by omega)]
      simp only [Option.bind_some]
      rw [spec_inputs (by omega) (by omega) (by omega), impl_inputs (by omega) (by omega) (by omega)]
      have hI := impl_inputs (k := 2 * g.length + 2 * v.length + 99) (n := n) (g := g.map cAnd) (v := v) (by omega) (by omega) (by omega)
      have hR : (inputsR n (g.map cAnd) v).length ≤ v.length := by
        unfold inputsR
        split
        · split
          · split
            · rw [List.length_take]; omega
            · simp
          · simp
        · simp
      generalize inputsR n (g.map cAnd) v = R at hI hR ⊢
      simp only [Option.bind_some, laws_eqCircuit.f, laws_markCircuit.f, if_true]
      rw [eqIntS_f (a := R) (by omega) (by omega), eqAndS_f (by omega) (by omega), eqIntS_f (a := v) (by omega) (by omega)]
      obtain ⟨⟨m1, m2⟩, hm1, hm2⟩ := markAndS_f (k := 2 * g.length + 2 * v.length + 100) (l := g.map cAnd) (a := 1) (by omega) (by omega) (by omega) (by omega)
      simp only at hm2
      rw [hm1]
      have hq2 : ¬ ((1 : Int) + (R.length : Int) < 0) := by omega
      simp only [Option.bind_some, decide_true, if_true]
      rw [markIntS_f (by omega) (by omega) (by omega) (by omega)]
      have hq : ¬ (m1 + (v.length : Int) < 0) := by omega
      simp only [Option.bind_some, if_neg hq, Bool.not_true, laws_FnExactInputsOf.j0, Bool.false_eq_true, if_false]
      rw [markIntS_f (by omega) (by omega) (by omega) (by omega)]
      simp only [Option.bind_some]
      rw [heldIntS_f (by omega) (by omega) (by omega) (by omega)]
      simp only [laws_toCircuit.f]
      rw [toAndS_f (by omega) (by omega), toIntS_f (by omega) (by omega)]
      simp only [Option.bind_some, if_neg hq2, if_true, hI]
      rw [eqIntS_f (by omega) (by omega)]
      simp only [Option.bind_some, decide_true, if_true, if_neg hq2]

end Go.Proofs.Ytbjkjoicecmmpac.Pure
