/- The law on DiagramUses holds for all arguments: the program's list is the reference's, in memory of its own, and the argument stays as it was.
Conditions: none. -/
import Derived.Test.YthcegdgffdppgaaXFnExactDiagramUsesx10
import Derived.Test.YthcegdgffdppgaaXLib2
namespace Go.Proofs.Ythcegdgffdppgaa.Pure
open Go.RowKit Go.Proofs.Ythcegdgffdppgaa.XFnExactDiagramUses Go.Proofs.YthcegdgffdppgaaW.PrintWords Go.Proofs.YthcegdgffdppgaaW.PrintLast Go.Proofs.YthcegdgffdppgaaW.PrintMore Go.Proofs.YthcegdgffdppgaaX
set_option linter.unusedVariables false
set_option linter.unusedSimpArgs false

theorem rdT63_nat (xs : List S63) (i : Nat) : rd_T63 xs (i : Int) = xs.getD i z63 := by
  unfold rd_T63
  simp

theorem rdT45_nat (xs : List S45) (i : Nat) : rd_T45 xs (i : Int) = xs.getD i z45 := by
  unfold rd_T45
  simp

theorem szForkS_f {l : List S63} {a : Int} (h0 : 0 ≤ a) (h1 : a ≤ 1048576) (hl : l.length ≤ 9223372036854775807) : laws_szForkS.f l a = some (if a - (l.length : Int) < 0 then -1 else a - (l.length : Int)) := by
  unfold laws_szForkS.f
  rw [wrap_id (by omega) (by omega)]
  by_cases h : a - (l.length : Int) < 0
  · rw [if_pos h, if_pos h]
  · rw [if_neg h, if_neg h]

theorem szDiagram_f {b : Int} {l} {a : Int} (h0 : 0 ≤ a) (h1 : a ≤ 1048576) (hl : l.length ≤ 9223372036854775807) : laws_szDiagram.f b l a = some (if a - (l.length : Int) < 0 then -1 else a - (l.length : Int)) := by
  unfold laws_szDiagram.f
  rw [szForkS_f h0 h1 hl]
  simp only [Option.bind_some]
  by_cases h : a - (l.length : Int) < 0
  · rw [if_pos h, if_pos (by decide)]
  · rw [if_neg h, if_neg h]

def cFork (x : S63) : S45 := ⟨x.f0, x.f1, x.f2⟩
theorem toForkS_f {k : Nat} {l : List S63} (hk : l.length < k) (hm : l.length ≤ 11728124029610) : laws_toForkS.f k l = some (l.map cFork) := by
  unfold laws_toForkS.f
  rw [if_pos (by omega), if_pos (by omega)]
  refine run_inv (fun k (s : List S45) i => laws_toForkS.l0 k l s (i : Int)) l.length (fun i s => s.length = l.length ∧ ∀ j, j < i → s.getD j z45 = (l.map cFork).getD j z45) _ ?_ ?_ k 0 _ (Nat.zero_le _) (by omega) ⟨by simp, fun j hj => absurd hj (Nat.not_lt_zero j)⟩
  · intro k i s hi ⟨hl, hs⟩
    refine Or.inr ⟨s.set i (cFork (l.getD i z63)), ?_, by simpa using hl, fun j hj => ?_⟩
    · simp only [laws_toForkS.l0]
      rw [if_pos (by omega), if_pos (by omega)]
      simp only [laws_toFork.f, Option.bind_some, rdT63_nat]
      rw [if_pos (by omega), wrap_id (by omega) (by omega)]
      rfl
    · rw [getD_set _ _ _ _ _ (by omega)]
      by_cases e : j = i
      · rw [if_pos e, e]
        simp [List.getD_eq_getElem?_getD, hi]
      · rw [if_neg e]
        exact hs j (by omega)
  · intro k s ⟨hl, hs⟩
    simp only [laws_toForkS.l0]
    rw [if_neg (by omega), ext_getD (d := z45) (s := s) (l := l.map cFork) (by simpa using hl) (fun j hj => hs j (by simpa using hj))]

theorem toDiagram_f {k : Nat} {a : Int} {l} (hk : l.length < k) (hm : l.length ≤ 1048576) : laws_toDiagram.f k a l = some (a, l.map cFork) := by
  unfold laws_toDiagram.f
  rw [toForkS_f hk (by omega)]
  rfl

theorem eqForkS_f {k : Nat} {l : List S45} (hk : l.length < k) (hm : l.length ≤ 35184372088832) : laws_eqForkS.f k l l = some true := by
  unfold laws_eqForkS.f
  rw [if_pos rfl]
  refine run_inv (fun k (_ : Unit) i => laws_eqForkS.l0 k l l (i : Int)) l.length (fun _ _ => True) _ ?_ ?_ k 0 () (Nat.zero_le _) (by omega) trivial
  · intro k i _ hi _
    refine Or.inr ⟨(), ?_, trivial⟩
    simp only [laws_eqForkS.l0]
    rw [if_pos (by omega), if_pos (by omega), if_pos (by omega), wrap_id (by omega) (by omega)]
    simp only [laws_eqFork.f, if_true, Option.bind_some]
    rfl
  · intro k _ _
    simp only [laws_eqForkS.l0]
    rw [if_neg (by omega)]

theorem eqDiagram_f {k : Nat} {a : Int} {l} (hk : l.length < k) (hm : l.length ≤ 1048576) : laws_eqDiagram.f k a l a l = some true := by
  unfold laws_eqDiagram.f
  rw [if_pos rfl, eqForkS_f hk (by omega)]
  rfl

theorem eqIntS_f {k : Nat} {a b : List Int} (hk : a.length < k) (hm : a.length ≤ 35184372088832) : laws_eqIntS.f k a b = some (decide (a = b)) := by
  unfold laws_eqIntS.f
  by_cases hab : a.length = b.length
  · rw [if_pos (by omega)]
    refine run_inv (fun k (_ : Unit) i => laws_eqIntS.l0 k a b (i : Int)) a.length (fun i _ => ∀ j, j < i → a.getD j 0 = b.getD j 0) _ ?_ ?_ k 0 () (Nat.zero_le _) (by omega) (fun j hj => absurd hj (Nat.not_lt_zero j))
    · intro k i _ hi hs
      by_cases e : a.getD i 0 = b.getD i 0
      · refine Or.inr ⟨(), ?_, fun j hj => ?_⟩
        · simp only [laws_eqIntS.l0]
          rw [if_pos (by omega), if_pos (by omega), if_pos (by omega), rd_nat, rd_nat, if_pos e, wrap_id (by omega) (by omega)]
          rfl
        · by_cases e2 : j = i
          · rw [e2]; exact e
          · exact hs j (by omega)
      · refine Or.inl ?_
        simp only [laws_eqIntS.l0]
        rw [if_pos (by omega), if_pos (by omega), if_pos (by omega), rd_nat, rd_nat, if_neg e, decide_eq_false (fun h => e (by rw [h]))]
    · intro k _ hs
      simp only [laws_eqIntS.l0]
      rw [if_neg (by omega), decide_eq_true (ext_getD hab (fun j hj => hs j (by omega)))]
  · rw [if_neg (by omega), decide_eq_false (fun h => hab (by rw [h]))]

/-- A loop that ends in something of which P holds. -/
theorem run_ex {σ β : Type} (L : Nat → σ → Nat → Option β) (n : Nat) (inv : Nat → σ → Prop) (P : β → Prop)
    (hstep : ∀ k i s, i < n → inv i s → ∃ s', L (k + 1) s i = L k s' (i + 1) ∧ inv (i + 1) s')
    (hend : ∀ k s, inv n s → ∃ r, L (k + 1) s n = some r ∧ P r) : ∀ k i s, i ≤ n → n - i < k → inv i s → ∃ r, L k s i = some r ∧ P r := by
  have key : ∀ d k i s, n - i = d → i ≤ n → d < k → inv i s → ∃ r, L k s i = some r ∧ P r := by
    intro d
    induction d with
    | zero =>
      intro k i s hd hi hk hs
      obtain ⟨k, rfl⟩ : ∃ m, k = m + 1 := ⟨k - 1, by omega⟩
      obtain rfl : i = n := by omega
      exact hend k s hs
    | succ d ih =>
      intro k i s hd hi hk hs
      obtain ⟨k, rfl⟩ : ∃ m, k = m + 1 := ⟨k - 1, by omega⟩
      obtain ⟨s', h, hs'⟩ := hstep k i s (by omega) hs
      rw [h]
      exact ih k (i + 1) s' (by omega) (by omega) (by omega) hs'
  intro k i s hi hk hs
  exact key (n - i) k i s rfl hi hk hs

theorem markForkS_f {k : Nat} {l : List S45} {a : Int} (hk : l.length < k) (hm : l.length ≤ 1048576) (h0 : 0 ≤ a) (h1 : a ≤ 1000000000000000000) : ∃ r, laws_markForkS.f k l a = some r ∧ r.1 = a + 3 * (l.length : Int) := by
  unfold laws_markForkS.f
  refine run_ex (fun k (s : List S45 × Int) i => laws_markForkS.l0 k s.1 s.2 (i : Int)) l.length (fun i s => s.1.length = l.length ∧ s.2 = a + 3 * (i : Int)) _ ?_ ?_ k 0 (l, a) (Nat.zero_le _) (by omega) ⟨rfl, by simp⟩
  · rintro k i ⟨s, c⟩ hi ⟨hl, hc⟩
    simp only at hl hc
    simp only [laws_markForkS.l0, Option.bind_some]
    rw [if_pos (by omega), if_pos (by omega), wrap_id (x := (i : Int) + 1) (by omega) (by omega), wrap_id (x := c + 1) (by omega) (by omega), wrap_id (x := c + 1 + 1) (by omega) (by omega), wrap_id (x := c + 1 + 1 + 1) (by omega) (by omega)]
    refine ⟨(_, _), rfl, by simpa using hl, ?_⟩
    simp only [Int.natCast_add]
    omega
  · rintro k ⟨s, c⟩ ⟨hl, hc⟩
    simp only at hl hc
    simp only [laws_markForkS.l0]
    rw [if_neg (by omega)]
    exact ⟨_, rfl, hc⟩

theorem markIntS_f {k : Nat} {l : List Int} {a : Int} (hk : l.length < k) (hm : l.length ≤ 35184372088832) (h0 : 0 ≤ a) (h1 : a ≤ 1000000000000000000) : laws_markIntS.f k l a = some (a + l.length, marks a l.length) := by
  unfold laws_markIntS.f
  refine (?_ : laws_markIntS.l0 k l a ((0 : Nat) : Int) = _)
  refine run_inv (fun k (s : List Int × Int) i => laws_markIntS.l0 k s.1 s.2 (i : Int)) l.length (fun i s => s.1.length = l.length ∧ s.2 = a + (i : Int) ∧ ∀ j, j < i → s.1.getD j 0 = a + (j : Int)) _ ?_ ?_ k 0 (l, a) (Nat.zero_le _) (by omega) ⟨rfl, by simp, fun j hj => absurd hj (Nat.not_lt_zero j)⟩
  · rintro k i ⟨s, c⟩ hi ⟨hl, hc, hs⟩
    simp only at hl hc hs
    subst hc
    refine Or.inr ⟨(s.set i (a + (i : Int)), a + (i : Int) + 1), ?_, by simpa using hl, by simp only [Int.natCast_add]; omega, fun j hj => ?_⟩
    · simp only [laws_markIntS.l0]
      rw [if_pos (by omega), if_pos (by omega), wrap_id (x := a + (i : Int) + 1) (by omega) (by omega), wrap_id (by omega) (by omega)]
      rfl
    · simp only
      rw [getD_set _ _ _ _ _ (by omega)]
      by_cases e : j = i
      · rw [if_pos e, e]
      · rw [if_neg e]
        exact hs j (by omega)
  · rintro k ⟨s, c⟩ ⟨hl, hc, hs⟩
    simp only at hl hc hs
    subst hc
    simp only [laws_markIntS.l0]
    rw [if_neg (by omega), ext_getD (d := 0) (s := s) (l := marks a l.length) (by rw [marks_length]; exact hl) (fun j hj => by rw [marks_length] at hj; rw [marks_getD _ _ _ hj]; exact hs j hj)]

theorem heldIntS_f {k : Nat} {n : Nat} {a : Int} (hk : n < k) (hm : n ≤ 35184372088832) (h0 : 0 ≤ a) (h1 : a ≤ 1000000000000000000) : laws_heldIntS.f k (marks a n) a = some (a + (n : Int)) := by
  unfold laws_heldIntS.f
  refine (?_ : laws_heldIntS.l0 k (marks a n) a ((0 : Nat) : Int) = _)
  have hlen := marks_length a n
  refine run_inv (fun k (s : Int) i => laws_heldIntS.l0 k (marks a n) s (i : Int)) n (fun i s => s = a + (i : Int)) _ ?_ ?_ k 0 a (Nat.zero_le _) (by omega) (by simp)
  · rintro k i s hi rfl
    refine Or.inr ⟨a + (i : Int) + 1, ?_, by simp only [Int.natCast_add]; omega⟩
    simp only [laws_heldIntS.l0]
    rw [if_pos (by omega), if_pos (by omega), rd_nat, marks_getD _ _ _ hi, if_pos rfl, wrap_id (x := a + (i : Int) + 1) (by omega) (by omega), wrap_id (by omega) (by omega)]
    rfl
  · rintro k s rfl
    simp only [laws_heldIntS.l0]
    rw [if_neg (by omega)]

theorem l1In_f (n a b : Int) : spec_l1In.f n a b = some (inB a b n) := by
  unfold spec_l1In.f inB
  by_cases h : n ≥ a
  · rw [if_pos h]; congr 1; simp; omega
  · rw [if_neg h, decide_eq_false (by omega)]

def vr (a : Int) (l : List S45) (n : Int) : Int := if n < 2 then a else (l.getD (n - 2).toNat z45).f0
def frk (a : Int) (l : List S45) (j : Nat) : Bool := inB 0 (a - 1) (l.getD j z45).f0 && (inB 0 ((j : Int) + 1) (l.getD j z45).f1 && (inB 0 ((j : Int) + 1) (l.getD j z45).f2 && (decide (vr a l (l.getD j z45).f1 > (l.getD j z45).f0) && decide (vr a l (l.getD j z45).f2 > (l.getD j z45).f0))))
def eqT (x y : S45) : Bool := x.f0 == y.f0 && (x.f1 == y.f1 && (x.f2 == y.f2))
def okD (a : Int) (l : List S45) (j : Nat) : Bool := frk a l j && (!decide ((l.getD j z45).f1 = (l.getD j z45).f2) && decide (∀ q, q < j → eqT (l.getD q z45) (l.getD j z45) = false))
def dvOK (a : Int) (l : List S45) : Bool := inB 0 12 a && (!decide ((l.length : Int) > 2000) && decide (∀ j, j < l.length → okD a l j = true))
theorem l8Var_f {a : Int} {l : List S45} {n : Int} (h0 : 0 ≤ n) (h1 : n < (l.length : Int) + 2) (hl : l.length ≤ 1048576) : spec_l8Var.f a l n = some (vr a l n) := by
  unfold spec_l8Var.f vr
  by_cases h : n < 2
  · rw [if_pos h, if_pos h]
  · rw [if_neg h, if_neg h, wrap_id (x := n - 2) (by omega) (by omega), if_pos (by omega), if_pos (by omega)]
    rfl
theorem l8Fork_f {k : Nat} {a : Int} {l : List S45} {j : Nat} (hk : 0 < k) (ha : 0 ≤ a ∧ a ≤ 12) (hj : j < l.length) (hl : l.length ≤ 1048576) : spec_l8Fork.f k a l (l.getD j z45).f0 (l.getD j z45).f1 (l.getD j z45).f2 ((j : Int) + 1) = some (frk a l j) := by
  obtain ⟨k, rfl⟩ : ∃ m, k = m + 1 := ⟨k - 1, by omega⟩
  unfold spec_l8Fork.f frk
  rw [wrap_id (x := a - 1) (by omega) (by omega), l1In_f]
  simp only [Option.bind_some, l1In_f, spec_l8Fork.j0]
  cases inB 0 (a - 1) (l.getD j z45).f0 with
  | false => rfl
  | true =>
    simp only [if_true, Bool.true_and]
    cases h1 : inB 0 ((j : Int) + 1) (l.getD j z45).f1 with
    | false => rfl
    | true =>
      simp only [if_true, Bool.true_and]
      cases h2 : inB 0 ((j : Int) + 1) (l.getD j z45).f2 with
      | false => rfl
      | true =>
        have h1 : 0 ≤ (l.getD j z45).f1 ∧ (l.getD j z45).f1 ≤ (j : Int) + 1 := of_decide_eq_true h1
        have h2 : 0 ≤ (l.getD j z45).f2 ∧ (l.getD j z45).f2 ≤ (j : Int) + 1 := of_decide_eq_true h2
        simp only [Bool.not_true, Bool.false_eq_true, if_false, Bool.true_and]
        rw [l8Var_f h1.1 (by omega) hl]
        simp only [Option.bind_some]
        by_cases h3 : vr a l (l.getD j z45).f1 > (l.getD j z45).f0
        · rw [if_pos h3, l8Var_f h2.1 (by omega) hl, decide_eq_true h3]
          rfl
        · rw [if_neg h3, decide_eq_false h3]
          rfl
theorem dv_loop {a : Int} {l : List S45} (ha : 0 ≤ a ∧ a ≤ 12) (hl : l.length ≤ 1048576) : ∀ d i, i + d = l.length → ∃ K, ∀ k, K ≤ k → spec_DiagramValid.l0 k (i : Int) a l = some (decide (∀ j, j < l.length → i ≤ j → okD a l j = true)) := by
  intro d
  induction d with
  | zero =>
    intro i hi
    refine ⟨1, fun k hk => ?_⟩
    obtain ⟨k, rfl⟩ : ∃ m, k = m + 1 := ⟨k - 1, by omega⟩
    simp only [spec_DiagramValid.l0]
    rw [if_neg (by omega), decide_eq_true (fun j h2 h1 => absurd h2 (by omega))]
  | succ d ih =>
    intro i hi
    obtain ⟨K, hK⟩ := ih (i + 1) (by omega)
    refine ⟨K + i + 20, fun k hk => ?_⟩
    have step : (∀ j, j < l.length → i ≤ j → okD a l j = true) ↔ (okD a l i = true ∧ ∀ j, j < l.length → i + 1 ≤ j → okD a l j = true) :=
      ⟨fun h => ⟨h i (by omega) (Nat.le_refl _), fun j h2 h1 => h j h2 (by omega)⟩, fun h j h2 h1 => if e : j = i then by rw [e]; exact h.1 else h.2 j h2 (by omega)⟩
    obtain ⟨k, rfl⟩ : ∃ m, k = m + 1 := ⟨k - 1, by omega⟩
    simp only [spec_DiagramValid.l0]
    rw [if_pos (by omega), if_pos (by omega), wrap_id (x := (i : Int) + 1) (by omega) (by omega)]
    simp only [rdT45_nat]
    rw [l8Fork_f (by omega) ha (by omega) hl]
    simp only [Option.bind_some]
    cases hf : frk a l i with
    | false =>
      rw [if_neg (by decide)]
      obtain ⟨k, rfl⟩ : ∃ m, k = m + 1 := ⟨k - 1, by omega⟩
      simp only [spec_DiagramValid.j2, if_true]
      rw [decide_eq_false (fun h => by have := (step.1 h).1; unfold okD at this; rw [hf] at this; cases this)]
    | true =>
      rw [if_pos rfl]
      obtain ⟨k, rfl⟩ : ∃ m, k = m + 1 := ⟨k - 1, by omega⟩
      by_cases he : (l.getD i z45).f1 = (l.getD i z45).f2
      · simp only [spec_DiagramValid.j2, beq_iff_eq.mpr he, if_true]
        rw [decide_eq_false (fun h => by have := (step.1 h).1; unfold okD at this; rw [decide_eq_true he, hf] at this; cases this)]
      · have hb : ((l.getD i z45).f1 == (l.getD i z45).f2) = false := beq_eq_false_iff_ne.mpr he
        simp only [spec_DiagramValid.j2, hb, Bool.false_eq_true, if_false]
        by_cases hq : ∀ q, q < i → eqT (l.getD q z45) (l.getD i z45) = false
        · have hok : okD a l i = true := by unfold okD; rw [hf, decide_eq_false he, decide_eq_true hq]; rfl
          obtain ⟨k, rfl⟩ : ∃ m, k = m + (i + 1) := ⟨k - (i + 1), by omega⟩
          refine (run_goto (fun k (_ : Unit) q => spec_DiagramValid.l1 k (i : Int) (q : Int) a l (l.getD i z45).f0 (l.getD i z45).f1 (l.getD i z45).f2) i (fun _ _ => True) (fun k => spec_DiagramValid.l0 k (wrap64 ((i : Int) + 1)) a l) ?_ ?_ i k 0 () (by omega) trivial).trans ?_
          · intro k q _ hqi _
            refine ⟨(), ?_, trivial⟩
            have := hq q hqi
            unfold eqT at this
            simp only [spec_DiagramValid.l1, rdT45_nat]
            rw [if_pos (by omega), if_pos (by omega), if_pos (by omega), this, if_neg (by decide), wrap_id (x := (q : Int) + 1) (by omega) (by omega)]
            rfl
          · intro k _ _
            simp only [spec_DiagramValid.l1]
            rw [if_neg (by omega)]
          · rw [wrap_id (x := (i : Int) + 1) (by omega) (by omega)]
            refine (hK k (by omega)).trans ?_
            congr 1
            rw [Bool.eq_iff_iff, decide_eq_true_iff, decide_eq_true_iff, step]
            exact ⟨fun h => ⟨hok, h⟩, fun h => h.2⟩
        · rw [decide_eq_false (fun h => by have := (step.1 h).1; unfold okD at this; rw [decide_eq_false hq, decide_eq_false he, hf] at this; cases this)]
          refine run_inv (fun k (_ : Unit) q => spec_DiagramValid.l1 k (i : Int) (q : Int) a l (l.getD i z45).f0 (l.getD i z45).f1 (l.getD i z45).f2) i (fun q _ => ∀ q', q' < q → eqT (l.getD q' z45) (l.getD i z45) = false) false ?_ ?_ k 0 () (Nat.zero_le _) (by omega) (fun q' h => absurd h (Nat.not_lt_zero _))
          · intro k q _ hqi hs
            simp only [spec_DiagramValid.l1, rdT45_nat]
            rw [if_pos (by omega), if_pos (by omega), if_pos (by omega), wrap_id (x := (q : Int) + 1) (by omega) (by omega)]
            cases hh : eqT (l.getD q z45) (l.getD i z45) with
            | true => left; unfold eqT at hh; rw [if_pos hh]
            | false =>
              refine Or.inr ⟨(), ?_, fun q' h => if e : q' = q then by rw [e]; exact hh else hs q' (by omega)⟩
              unfold eqT at hh
              rw [hh, if_neg (by decide)]
              rfl
          · intro k _ hs
            exact absurd hs hq
theorem spec_DiagramValid_f {a : Int} {l : List S45} (hl : l.length ≤ 1048576) : ∃ K, ∀ k, K ≤ k → spec_DiagramValid.f k a l = some (dvOK a l) := by
  unfold dvOK
  by_cases ha : 0 ≤ a ∧ a ≤ 12
  · obtain ⟨K, hK⟩ := dv_loop (a := a) (l := l) ha hl l.length 0 (by omega)
    refine ⟨K + 2, fun k hk => ?_⟩
    unfold spec_DiagramValid.f
    rw [l1In_f, show inB 0 12 a = true from decide_eq_true ha]
    simp only [Option.bind_some, if_true, Bool.true_and]
    obtain ⟨k, rfl⟩ : ∃ m, k = m + 1 := ⟨k - 1, by omega⟩
    simp only [spec_DiagramValid.j0]
    by_cases h : (l.length : Int) > 2000
    · rw [if_pos (decide_eq_true h), decide_eq_true h]
      rfl
    · rw [if_neg (by simpa using h), decide_eq_false h]
      refine (hK k (by omega)).trans ?_
      simp
  · refine ⟨2, fun k hk => ?_⟩
    unfold spec_DiagramValid.f
    rw [l1In_f, show inB 0 12 a = false from decide_eq_false ha]
    obtain ⟨k, rfl⟩ : ∃ m, k = m + 1 := ⟨k - 1, by omega⟩
    simp [spec_DiagramValid.j0]

theorem dv_ok {a : Int} {l : List S45} (h : dvOK a l = true) : (0 ≤ a ∧ a ≤ 12) ∧ l.length ≤ 2000 ∧ ∀ j, j < l.length → (0 ≤ (l.getD j z45).f0 ∧ (l.getD j z45).f0 ≤ a - 1) ∧ (0 ≤ (l.getD j z45).f1 ∧ (l.getD j z45).f1 ≤ (j : Int) + 1) ∧ (0 ≤ (l.getD j z45).f2 ∧ (l.getD j z45).f2 ≤ (j : Int) + 1) ∧ vr a l (l.getD j z45).f1 > (l.getD j z45).f0 ∧ vr a l (l.getD j z45).f2 > (l.getD j z45).f0 ∧ (l.getD j z45).f1 ≠ (l.getD j z45).f2 := by
  unfold dvOK at h
  obtain ⟨h1, h2⟩ := Bool.and_eq_true_iff.1 h
  obtain ⟨h3, h4⟩ := Bool.and_eq_true_iff.1 h2
  refine ⟨of_decide_eq_true h1, ?_, fun j hj => ?_⟩
  · have : ¬ (l.length : Int) > 2000 := by simpa using h3
    omega
  · have h5 := of_decide_eq_true h4 j hj
    unfold okD frk at h5
    obtain ⟨h6, h7⟩ := Bool.and_eq_true_iff.1 h5
    obtain ⟨g1, h6⟩ := Bool.and_eq_true_iff.1 h6
    obtain ⟨g2, h6⟩ := Bool.and_eq_true_iff.1 h6
    obtain ⟨g3, h6⟩ := Bool.and_eq_true_iff.1 h6
    obtain ⟨g4, g5⟩ := Bool.and_eq_true_iff.1 h6
    obtain ⟨g6, _⟩ := Bool.and_eq_true_iff.1 h7
    exact ⟨of_decide_eq_true g1, of_decide_eq_true g2, of_decide_eq_true g3, of_decide_eq_true g4, of_decide_eq_true g5, by simpa using g6⟩
theorem l8Place_f {a : Int} {l : List S45} {n : Int} (hl : l.length ≤ 1048576) : spec_l8Place.f a l n = some (inB 0 ((l.length : Int) + 1) n) := by
  unfold spec_l8Place.f
  rw [wrap_id (x := (l.length : Int) + 1) (by omega) (by omega), l1In_f]
  rfl

theorem in_f (n a b : Int) : impl_in.f n a b = some (inB a b n) := by
  unfold impl_in.f inB
  by_cases h : n ≥ a
  · rw [if_pos h]; congr 1; simp; omega
  · rw [if_neg h, decide_eq_false (by omega)]

theorem varAt_f {a : Int} {l : List S45} {n : Int} (h0 : 0 ≤ n) (h1 : n < (l.length : Int) + 2) (hl : l.length ≤ 1048576) : impl_Diagram_varAt.f a l n = some (vr 12 l n) := by
  unfold impl_Diagram_varAt.f vr
  by_cases h : n < 2
  · rw [if_pos h, if_pos h]
  · rw [if_neg h, if_neg h, wrap_id (x := n - 2) (by omega) (by omega), if_pos (by omega), if_pos (by omega)]
    rfl
theorem vr_gt {a x n : Int} {l : List S45} (ha : a ≤ 12) (hx : x ≤ a - 1) : (vr a l n > x) ↔ ¬ (vr 12 l n ≤ x) := by
  unfold vr
  by_cases h : n < 2
  · rw [if_pos h, if_pos h]; omega
  · rw [if_neg h, if_neg h]; omega
theorem seen_iff {l : List S45} {j : Nat} (hj : j < l.length) : (impl_DiagramValid.F l j (l.getD j z45)).isSome = !decide (∀ q, q < j → eqT (l.getD q z45) (l.getD j z45) = false) := by
  have e : ((l.take j).any (impl_DiagramValid.eqS (l.getD j z45))) = !decide (∀ q, q < j → eqT (l.getD q z45) (l.getD j z45) = false) := by
    by_cases h : ∀ q, q < j → eqT (l.getD q z45) (l.getD j z45) = false
    · rw [decide_eq_true h]
      cases hh : (l.take j).any (impl_DiagramValid.eqS (l.getD j z45)) with
      | false => rfl
      | true =>
        obtain ⟨x, hx, hx2⟩ := List.any_eq_true.1 hh
        obtain ⟨q, hq, rfl⟩ := mem_getD z45 hx
        rw [List.length_take] at hq
        have e1 : (l.take j).getD q z45 = l.getD q z45 := by rw [List.getD_eq_getElem?_getD, List.getD_eq_getElem?_getD, List.getElem?_take, if_pos (by omega)]
        rw [e1] at hx2
        have h2 := h q (by omega)
        unfold impl_DiagramValid.eqS at hx2
        obtain ⟨y1, y2, y3⟩ := of_decide_eq_true hx2
        unfold eqT at h2
        rw [← y1, ← y2, ← y3] at h2
        simp at h2
    · rw [decide_eq_false h]
      have h2 : ∃ q, q < j ∧ eqT (l.getD q z45) (l.getD j z45) = true := by
        refine Classical.byContradiction (fun hn => h (fun q hq => ?_))
        cases hh : eqT (l.getD q z45) (l.getD j z45) with
        | false => rfl
        | true => exact absurd ⟨q, hq, hh⟩ hn
      obtain ⟨q, hq, hq2⟩ := h2
      refine List.any_eq_true.2 ⟨l.getD q z45, ?_, ?_⟩
      · have hl2 : q < (l.take j).length := by rw [List.length_take]; omega
        have e1 : (l.take j).getD q z45 = l.getD q z45 := by rw [List.getD_eq_getElem?_getD, List.getD_eq_getElem?_getD, List.getElem?_take, if_pos (by omega)]
        rw [← e1]
        exact getD_mem _ _ _ hl2
      · unfold eqT at hq2
        unfold impl_DiagramValid.eqS
        simp only [Bool.and_eq_true, beq_iff_eq] at hq2
        exact decide_eq_true ⟨hq2.1.symm, hq2.2.1.symm, hq2.2.2.symm⟩
  unfold impl_DiagramValid.F
  rw [e]
  cases decide (∀ q, q < j → eqT (l.getD q z45) (l.getD j z45) = false) <;> rfl
theorem impl_ok {a : Int} {l : List S45} {j : Nat} (ha : 0 ≤ a ∧ a ≤ 12) (hj : j < l.length) (hl : l.length ≤ 1048576) : impl_DiagramValid.ok a l (j : Int) = some (okD a l j) := by
  unfold impl_DiagramValid.ok okD frk
  rw [wrap_id (x := a - 1) (by omega) (by omega), wrap_id (x := (j : Int) + 1) (by omega) (by omega)]
  simp only [rdT45_nat, in_f, Option.bind_some]
  cases h0 : inB 0 (a - 1) (l.getD j z45).f0 with
  | false => rfl
  | true =>
    simp only [if_true, Bool.true_and]
    cases h1 : inB 0 ((j : Int) + 1) (l.getD j z45).f1 with
    | false => rfl
    | true =>
      simp only [if_true, Bool.true_and]
      cases h2 : inB 0 ((j : Int) + 1) (l.getD j z45).f2 with
      | false => rfl
      | true =>
        have h0 : 0 ≤ (l.getD j z45).f0 ∧ (l.getD j z45).f0 ≤ a - 1 := of_decide_eq_true h0
        have h1 : 0 ≤ (l.getD j z45).f1 ∧ (l.getD j z45).f1 ≤ (j : Int) + 1 := of_decide_eq_true h1
        have h2 : 0 ≤ (l.getD j z45).f2 ∧ (l.getD j z45).f2 ≤ (j : Int) + 1 := of_decide_eq_true h2
        simp only [if_true, Bool.true_and]
        rw [varAt_f h1.1 (by omega) hl, varAt_f h2.1 (by omega) hl]
        simp only [Option.bind_some]
        have g1 := vr_gt (l := l) (n := (l.getD j z45).f1) ha.2 h0.2
        have g2 := vr_gt (l := l) (n := (l.getD j z45).f2) ha.2 h0.2
        by_cases he : (l.getD j z45).f1 = (l.getD j z45).f2
        · rw [if_pos he, decide_eq_true he]
          simp
        · rw [if_neg he, decide_eq_false he]
          by_cases v1 : vr 12 l (l.getD j z45).f1 ≤ (l.getD j z45).f0
          · rw [if_pos v1, decide_eq_false (fun h => g1.1 h v1)]
            rfl
          · rw [if_neg v1, decide_eq_true (g1.2 v1)]
            by_cases v2 : vr 12 l (l.getD j z45).f2 ≤ (l.getD j z45).f0
            · rw [if_pos v2, decide_eq_false (fun h => g2.1 h v2)]
              rfl
            · rw [if_neg v2, decide_eq_true (g2.2 v2), Int.toNat_natCast, seen_iff hj]
              simp
theorem impl_go {a : Int} {l : List S45} (ha : 0 ≤ a ∧ a ≤ 12) (hl : l.length ≤ 1048576) : ∀ m i, i + m = l.length → impl_DiagramValid.go a l m (i : Int) = some (decide (∀ j, j < l.length → i ≤ j → okD a l j = true)) := by
  intro m
  induction m with
  | zero =>
    intro i hi
    simp only [impl_DiagramValid.go]
    rw [decide_eq_true (fun j h2 h1 => absurd h2 (by omega))]
  | succ m ih =>
    intro i hi
    have h1 := ih (i + 1) (by omega)
    simp only [impl_DiagramValid.go]
    rw [impl_ok ha (by omega) hl]
    simp only [Option.bind_some]
    rw [show ((i : Int) + 1) = ((i + 1 : Nat) : Int) by omega]
    cases ho : okD a l i with
    | false =>
      rw [if_neg (by decide), decide_eq_false (fun h => by have := h i (by omega) (Nat.le_refl _); rw [ho] at this; cases this)]
    | true =>
      rw [if_pos rfl, h1]
      congr 1
      rw [Bool.eq_iff_iff, decide_eq_true_iff, decide_eq_true_iff]
      exact ⟨fun h j h2 h1 => if e : j = i then by rw [e]; exact ho else h j h2 (by omega), fun h j h2 h1 => h j h2 (by omega)⟩
theorem impl_DiagramValid_f {a : Int} {l : List S45} (hl : l.length ≤ 1048576) : impl_DiagramValid.f a l = some (dvOK a l) := by
  unfold impl_DiagramValid.f dvOK
  rw [in_f]
  simp only [Option.bind_some]
  by_cases ha : 0 ≤ a ∧ a ≤ 12
  · rw [show inB 0 12 a = true from decide_eq_true ha]
    simp only [if_true, Bool.true_and]
    by_cases h : (l.length : Int) > 2000
    · rw [if_pos h, decide_eq_true h]
      rfl
    · rw [if_neg h, decide_eq_false h]
      refine (impl_go ha hl l.length 0 (by omega)).trans ?_
      simp
  · rw [show inB 0 12 a = false from decide_eq_false ha]
    rfl

theorem isPlace_f {a : Int} {l : List S45} {n : Int} (hl : l.length ≤ 1048576) : impl_Diagram_isPlace.f a l n = some (inB 0 ((l.length : Int) + 1) n) := by
  unfold impl_Diagram_isPlace.f
  rw [wrap_id (x := (l.length : Int) + 1) (by omega) (by omega), in_f]
  rfl

theorem reach_eq (a : Int) (l : List S45) : ∀ k s i, spec_l8Reach.l0 k s i a l = impl_Diagram_needs.l0 k s i a l := by
  intro k
  induction k with
  | zero => intro s i; rfl
  | succ k ih =>
    intro s i
    simp only [spec_l8Reach.l0, impl_Diagram_needs.l0, ih]
theorem rdOf_nat (xs : List Bool) (i : Nat) : rdOf false xs (i : Int) = xs.getD i false := by
  unfold rdOf
  simp
theorem needs_loop {a : Int} {l : List S45} (h : dvOK a l = true) : ∀ m s, m ≤ l.length → s.length = l.length + 2 → ∃ R : List Bool, R.length = l.length + 2 ∧ ∀ k, m < k → impl_Diagram_needs.l0 k s ((m : Int) - 1) a l = some R := by
  obtain ⟨ha, hl, hf⟩ := dv_ok h
  intro m
  induction m with
  | zero =>
    intro s _ hs
    refine ⟨s, hs, fun k hk => ?_⟩
    obtain ⟨k, rfl⟩ : ∃ m, k = m + 1 := ⟨k - 1, by omega⟩
    simp only [impl_Diagram_needs.l0]
    rw [if_neg (by omega)]
  | succ m ih =>
    intro s hm hs
    obtain ⟨_, h1, h2, _, _, _⟩ := hf m (by omega)
    have e1 : (((m + 1 : Nat) : Int) - 1) = (m : Int) := by omega
    have e2 : wrap64 ((m : Int) + 2) = ((m + 2 : Nat) : Int) := by rw [wrap_id (by omega) (by omega)]; omega
    have e3 : wrap64 ((m : Int) - 1) = (m : Int) - 1 := wrap_id (by omega) (by omega)
    by_cases hn : s.getD (m + 2) false = true
    · obtain ⟨R, hR, hk⟩ := ih ((s.set ((l.getD m z45).f1).toNat true).set ((l.getD m z45).f2).toNat true) (by omega) (by simp [hs])
      refine ⟨R, hR, fun k hk2 => ?_⟩
      obtain ⟨k, rfl⟩ : ∃ m, k = m + 1 := ⟨k - 1, by omega⟩
      simp only [impl_Diagram_needs.l0, e1, e2, e3, rdOf_nat, rdT45_nat]
      rw [if_pos (by omega), if_pos (by omega), if_pos (by omega), if_pos hn, if_pos (by omega), if_pos (by omega), if_pos h1.1, if_pos (by omega), if_pos h2.1, if_pos (by omega)]
      exact hk k (by omega)
    · obtain ⟨R, hR, hk⟩ := ih s (by omega) hs
      refine ⟨R, hR, fun k hk2 => ?_⟩
      obtain ⟨k, rfl⟩ : ∃ m, k = m + 1 := ⟨k - 1, by omega⟩
      simp only [impl_Diagram_needs.l0, e1, e2, e3, rdOf_nat]
      rw [if_pos (by omega), if_pos (by omega), if_pos (by omega), if_neg hn]
      exact hk k (by omega)
theorem needs_f {a : Int} {l : List S45} {n : Int} (h : dvOK a l = true) (hn : inB 0 ((l.length : Int) + 1) n = true) : ∃ R : List Bool, R.length = l.length + 2 ∧ ∀ k, l.length < k → impl_Diagram_needs.f k a l n = some R ∧ spec_l8Reach.f k a l n = some R := by
  obtain ⟨ha, hl, hf⟩ := dv_ok h
  have hn : 0 ≤ n ∧ n ≤ (l.length : Int) + 1 := of_decide_eq_true hn
  have e2 : wrap64 ((l.length : Int) + 2) = ((l.length + 2 : Nat) : Int) := by rw [wrap_id (by omega) (by omega)]; omega
  have e3 : wrap64 ((l.length : Int) - 1) = (l.length : Int) - 1 := wrap_id (by omega) (by omega)
  obtain ⟨R, hR, hk⟩ := needs_loop h l.length ((List.replicate (l.length + 2) false).set n.toNat true) (Nat.le_refl _) (by simp)
  refine ⟨R, hR, fun k hk2 => ?_⟩
  have h1 : impl_Diagram_needs.f k a l n = some R := by
    unfold impl_Diagram_needs.f
    rw [e2, e3, if_pos (by omega), if_pos (by omega)]
    simp only [Option.bind_some, List.length_replicate, Int.toNat_natCast]
    rw [if_pos hn.1, if_pos (by omega)]
    exact hk k hk2
  refine ⟨h1, ?_⟩
  rw [← h1]
  unfold spec_l8Reach.f impl_Diagram_needs.f
  simp only [reach_eq]

theorem clone_int_f {l : List Int} (h : l.length ≤ 35184372088832) : impl_clone_int.f l = some l := by
  unfold impl_clone_int.f
  rw [if_pos h]

/-- The places below i at which a test holds. -/
def placesL (p : Nat → Bool) (i : Nat) : List Int := ((List.range i).filter p).map fun j : Nat => (j : Int)
theorem placesL_succ (p : Nat → Bool) (i : Nat) : placesL p (i + 1) = if p i = true then placesL p i ++ [(i : Int)] else placesL p i := by
  unfold placesL
  rw [List.range_succ, List.filter_append, List.map_append]
  cases h : p i <;> simp [h]
theorem placesL_length (p : Nat → Bool) (i : Nat) : (placesL p i).length ≤ i := by
  unfold placesL
  rw [List.length_map]
  exact Nat.le_trans (List.length_filter_le _ _) (by simp)
theorem placesL_congr {p q : Nat → Bool} {i : Nat} (h : ∀ j, j < i → p j = q j) : placesL p i = placesL q i := by
  unfold placesL
  rw [List.filter_congr (fun j hj => h j (List.mem_range.1 hj))]

theorem listOf_f {k : Nat} {l : List Bool} (hk : l.length < k) (hm : l.length ≤ 1000000) : impl_listOf.f k l = some (placesL (fun j => l.getD j false) l.length) := by
  unfold impl_listOf.f
  refine run_inv (fun k (s : List Int) i => impl_listOf.l0 k s l (l.length : Int) (i : Int)) l.length (fun i s => s = placesL (fun j => l.getD j false) i) _ ?_ ?_ k 0 _ (Nat.zero_le _) (by omega) rfl
  · rintro k i s hi rfl
    have hl := placesL_length (fun j => l.getD j false) i
    refine Or.inr ⟨_, ?_, (placesL_succ _ i).symm⟩
    simp only [impl_listOf.l0]
    rw [if_pos (by omega), if_pos (by omega), if_pos (by omega), wrap_id (x := (i : Int) + 1) (by omega) (by omega)]
    simp only [rdOf_nat]
    cases l.getD i false
    · rfl
    · simp only [if_true]
      rw [if_pos (by omega)]
      rfl
  · rintro k s rfl
    have hl := placesL_length (fun j => l.getD j false) l.length
    simp only [impl_listOf.l0]
    rw [if_neg (by omega), clone_int_f (by omega)]
    rfl

def us (l : List S45) (R : List Bool) (v i : Nat) : Bool := (List.range i).any fun j => R.getD (j + 2) false && decide ((l.getD j z45).f0 = (v : Int))
theorem us_succ (l : List S45) (R : List Bool) (v i : Nat) : us l R v (i + 1) = (us l R v i || (R.getD (i + 2) false && decide ((l.getD i z45).f0 = (v : Int)))) := by
  unfold us
  rw [List.range_succ, List.any_append]
  simp
theorem uses_l1 {a : Int} {l : List S45} {R : List Bool} (hl : l.length ≤ 2000) (hR : R.length = l.length + 2) (k : Nat) (s : List Int) (v : Nat) (hs : s.length < 100) : ∀ m i, i + m = l.length → spec_DiagramUses.l1 (k + m + 1) s R (v : Int) (us l R v i) (i : Int) a l = if us l R v l.length = true then spec_DiagramUses.l0 k (s ++ [(v : Int)]) R (wrap64 ((v : Int) + 1)) a l else spec_DiagramUses.l0 k s R (wrap64 ((v : Int) + 1)) a l := by
  intro m
  induction m with
  | zero =>
    intro i hi
    obtain rfl : i = l.length := by omega
    simp only [Nat.add_zero, spec_DiagramUses.l1]
    rw [if_neg (by omega)]
    by_cases hu : us l R v l.length = true
    · rw [if_pos hu, if_pos hu, if_pos (by omega)]
    · rw [if_neg hu, if_neg hu]
  | succ m ih =>
    intro i hi
    have g := us_succ l R v i
    have h := ih (i + 1) (by omega)
    have e1 : wrap64 ((i : Int) + 1) = ((i + 1 : Nat) : Int) := by rw [wrap_id (by omega) (by omega)]; omega
    have e2 : wrap64 ((i : Int) + 2) = ((i + 2 : Nat) : Int) := by rw [wrap_id (by omega) (by omega)]; omega
    rw [show k + (m + 1) + 1 = (k + m + 1) + 1 by omega]
    simp only [spec_DiagramUses.l1, e1, e2, rdOf_nat, rdT45_nat]
    rw [if_pos (by omega)]
    cases hb : us l R v i with
    | true =>
      rw [hb, Bool.true_or] at g
      rw [g] at h
      rw [if_pos rfl]
      exact h
    | false =>
      rw [hb, Bool.false_or] at g
      rw [if_neg (by simp), if_pos (by omega), if_pos (by omega)]
      cases hc : R.getD (i + 2) false with
      | true =>
        rw [hc, Bool.true_and] at g
        rw [if_pos rfl, if_pos (by omega), show ((l.getD i z45).f0 == (v : Int)) = decide ((l.getD i z45).f0 = (v : Int)) from rfl, ← g]
        exact h
      | false =>
        rw [hc, Bool.false_and] at g
        rw [g] at h
        rw [if_neg (by simp)]
        exact h
theorem uses_l0 {a : Nat} {l : List S45} {R : List Bool} (ha : a ≤ 12) (hl : l.length ≤ 2000) (hR : R.length = l.length + 2) (k : Nat) : ∀ d v, v + d = a → spec_DiagramUses.l0 (k + d * (l.length + 2) + 1) (placesL (fun v => us l R v l.length) v) R (v : Int) (a : Int) l = some (placesL (fun v => us l R v l.length) a) := by
  intro d
  induction d with
  | zero =>
    intro v hv
    obtain rfl : v = a := by omega
    simp only [spec_DiagramUses.l0]
    rw [if_neg (by omega)]
  | succ d ih =>
    intro v hv
    have h := ih (v + 1) (by omega)
    have hp := placesL_length (fun v => us l R v l.length) v
    have g := uses_l1 (a := (a : Int)) hl hR (k + d * (l.length + 2) + 1) (placesL (fun v => us l R v l.length) v) v (by omega) l.length 0 (by omega)
    have e1 : wrap64 ((v : Int) + 1) = ((v + 1 : Nat) : Int) := by rw [wrap_id (by omega) (by omega)]; omega
    rw [show k + (d + 1) * (l.length + 2) + 1 = ((k + d * (l.length + 2) + 1) + l.length + 1) + 1 by rw [Nat.succ_mul]; omega]
    simp only [spec_DiagramUses.l0]
    rw [if_pos (by omega)]
    rw [e1] at g
    refine Eq.trans g ?_
    rw [placesL_succ] at h
    by_cases hu : us l R v l.length = true
    · rw [if_pos hu] at h ⊢
      exact h
    · rw [if_neg hu] at h ⊢
      exact h
theorem uses_impl {a : Nat} {l : List S45} {R : List Bool} (ha : a ≤ 12) (h : dvOK (a : Int) l = true) (hR : R.length = l.length + 2) {k : Nat} (hk : l.length + 30 < k) : impl_DiagramUses.l0 k (List.replicate a false) (R.drop 2) ((R.drop 2).length : Int) 0 (a : Int) l = some (placesL (fun v => us l R v l.length) a) := by
  obtain ⟨_, hl, hf⟩ := dv_ok h
  have hD : (R.drop 2).length = l.length := by rw [List.length_drop]; omega
  rw [hD]
  have hgo : ∀ m i s k, i + m = l.length → m + 30 < k → s.length = a → (∀ v, v < a → s.getD v false = us l R v i) → impl_DiagramUses.l0 k s (R.drop 2) (l.length : Int) (i : Int) (a : Int) l = some (placesL (fun v => us l R v l.length) a) := by
    intro m
    induction m with
    | zero =>
      intro i s k hi hk hs hv
      obtain rfl : i = l.length := by omega
      obtain ⟨k, rfl⟩ : ∃ m, k = m + 1 := ⟨k - 1, by omega⟩
      simp only [impl_DiagramUses.l0]
      rw [if_neg (by omega), listOf_f (by omega) (by omega), hs, placesL_congr hv]
      rfl
    | succ m ih =>
      intro i s k hi hk hs hv
      obtain ⟨k, rfl⟩ : ∃ m, k = m + 1 := ⟨k - 1, by omega⟩
      obtain ⟨h0, _, _, _, _, _⟩ := hf i (by omega)
      have e1 : wrap64 ((i : Int) + 1) = ((i + 1 : Nat) : Int) := by rw [wrap_id (by omega) (by omega)]; omega
      have e3 : (R.drop 2).getD i false = R.getD (i + 2) false := by rw [List.getD_eq_getElem?_getD, List.getD_eq_getElem?_getD, List.getElem?_drop, Nat.add_comm]
      have c1 : (i : Int) < (l.length : Int) := by omega
      have c2 : (i : Int) < ((R.drop 2).length : Int) := by omega
      simp only [impl_DiagramUses.l0, e1, rdOf_nat, rdT45_nat, e3]
      rw [if_pos c1, if_pos (Int.natCast_nonneg i), if_pos c2]
      cases hc : R.getD (i + 2) false with
      | true =>
        rw [if_pos rfl, if_pos c1, if_pos h0.1, if_pos (by omega)]
        refine ih (i + 1) _ k (by omega) (by omega) (by simp [hs]) (fun v hv2 => ?_)
        rw [us_succ, hc, Bool.true_and, ← hv v hv2]
        by_cases he : (l.getD i z45).f0 = (v : Int)
        · rw [decide_eq_true he, he, Bool.or_true]
          simp [List.getD_eq_getElem?_getD, hs, hv2]
        · rw [decide_eq_false he, Bool.or_false]
          have : (l.getD i z45).f0.toNat ≠ v := by omega
          rw [List.getD_eq_getElem?_getD, List.getElem?_set_ne this, ← List.getD_eq_getElem?_getD]
      | false =>
        rw [if_neg (by simp)]
        refine ih (i + 1) _ k (by omega) (by omega) hs (fun v hv2 => ?_)
        rw [us_succ, hc, Bool.false_and, Bool.or_false]
        exact hv v hv2
  refine hgo l.length 0 _ k (by omega) (by omega) (by simp) (fun v hv => ?_)
  unfold us
  simp [List.getD_eq_getElem?_getD, hv]
theorem uses_eq {a : Int} {l : List S45} {n : Int} (hl : l.length ≤ 1048576) : ∃ K R, R.length ≤ 12 ∧ ∀ k, K ≤ k → spec_DiagramUses.f k a l n = some R ∧ impl_DiagramUses.f k a l n = some R := by
  obtain ⟨K, hK⟩ := spec_DiagramValid_f (a := a) (l := l) hl
  cases h : dvOK a l with
  | false =>
    refine ⟨K + 1, [], by simp, fun k hk => ?_⟩
    obtain ⟨k, rfl⟩ : ∃ m, k = m + 1 := ⟨k - 1, by omega⟩
    unfold spec_DiagramUses.f impl_DiagramUses.f
    rw [hK (k + 1) (by omega), impl_DiagramValid_f hl, h]
    exact ⟨rfl, rfl⟩
  | true =>
    obtain ⟨ha, hl2, _⟩ := dv_ok h
    cases hn : inB 0 ((l.length : Int) + 1) n with
    | false =>
      refine ⟨K + 1, [], by simp, fun k hk => ?_⟩
      obtain ⟨k, rfl⟩ : ∃ m, k = m + 1 := ⟨k - 1, by omega⟩
      unfold spec_DiagramUses.f impl_DiagramUses.f
      rw [hK (k + 1) (by omega), impl_DiagramValid_f hl, h, l8Place_f hl, isPlace_f hl, hn]
      exact ⟨rfl, rfl⟩
    | true =>
      obtain ⟨R, hR, hk2⟩ := needs_f h hn
      obtain ⟨a, rfl⟩ := Int.eq_ofNat_of_zero_le ha.1
      have hp := placesL_length (fun v => us l R v l.length) a
      refine ⟨K + a * (l.length + 2) + l.length + 50, placesL (fun v => us l R v l.length) a, by omega, fun k hk => ?_⟩
      obtain ⟨k, rfl⟩ : ∃ m, k = (m + a * (l.length + 2) + 1) + 1 := ⟨k - a * (l.length + 2) - 2, by omega⟩
      obtain ⟨h1, h2⟩ := hk2 (k + a * (l.length + 2) + 1) (by omega)
      have h3 := uses_l0 (a := a) (R := R) (by omega) hl2 hR k a 0 (by omega)
      have h4 := uses_impl (a := a) (R := R) (k := k + a * (l.length + 2) + 1) (by omega) h hR (by omega)
      unfold spec_DiagramUses.f impl_DiagramUses.f
      rw [hK (k + a * (l.length + 2) + 1 + 1) (by omega), impl_DiagramValid_f hl, h, l8Place_f hl, isPlace_f hl, hn]
      simp only [Option.bind_some, if_true, Bool.not_true, spec_DiagramUses.j0, impl_DiagramUses.j0, Bool.false_eq_true, if_false, h1, h2]
      rw [if_pos (by omega), if_pos (by omega), if_pos (by omega)]
      exact ⟨h3, h4⟩

theorem FnExactDiagramUses : laws_FnExactDiagramUses.Pure := by
  intro a l n ha hl hx hn
  by_cases h : 1048576 - (l.length : Int) < 0
  · refine ⟨0, ?_⟩
    unfold laws_FnExactDiagramUses.f
    rw [szDiagram_f (by omega) (by omega) hl, if_pos h]
    rfl
  · have hm : (l.map cFork).length = l.length := by simp
    obtain ⟨K, R, hR, hK⟩ := uses_eq (a := a) (l := l.map cFork) (n := n) (by omega)
    refine ⟨K + l.length + R.length + 20, ?_⟩
    obtain ⟨h1, h2⟩ := hK (K + l.length + R.length + 20) (by omega)
    obtain ⟨_, h3⟩ := hK (K + l.length + R.length + 19) (by omega)
    unfold laws_FnExactDiagramUses.f
    rw [szDiagram_f (by omega) (by omega) hl, if_neg h]
    simp only [Option.bind_some]
    rw [if_neg h, toDiagram_f (by omega) (by omega)]
    simp only [Option.bind_some]
    rw [h1, h2]
    simp only [Option.bind_some]
    rw [eqIntS_f (by omega) (by omega), eqDiagram_f (by omega) (by omega)]
    unfold laws_markDiagram.f
    obtain ⟨⟨m1, m2⟩, hm1, hm2⟩ := markForkS_f (k := K + l.length + R.length + 20) (l := l.map cFork) (a := 1) (by omega) (by omega) (by omega) (by omega)
    simp only at hm2
    rw [hm1]
    have hq : ¬ (m1 < 0) := by omega
    have hq2 : ¬ ((1 : Int) + (R.length : Int) < 0) := by omega
    simp only [Option.bind_some, decide_true, if_true, if_neg hq, Bool.not_true, laws_FnExactDiagramUses.j0, Bool.false_eq_true, if_false]
    rw [markIntS_f (by omega) (by omega) (by omega) (by omega)]
    simp only [Option.bind_some]
    rw [heldIntS_f (by omega) (by omega) (by omega) (by omega), toDiagram_f (by omega) (by omega)]
    simp only [Option.bind_some, if_neg hq2, if_true, h3]
    rw [eqIntS_f (by omega) (by omega)]
    simp only [Option.bind_some, decide_true, if_true, if_neg hq2]

end Go.Proofs.Ythcegdgffdppgaa.Pure
