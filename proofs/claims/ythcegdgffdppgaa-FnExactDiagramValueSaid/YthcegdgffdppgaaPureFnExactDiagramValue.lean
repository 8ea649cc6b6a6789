/- The law on DiagramValue holds for all arguments: the program tells what the reference tells, and leaves its arguments as they were.
Conditions: none. -/
import Derived.Test.YthcegdgffdppgaaXFnExactDiagramValuex8
import Derived.Test.YthcegdgffdppgaaXLib2
namespace Go.Proofs.Ythcegdgffdppgaa.Pure
open Go.RowKit Go.Proofs.Ythcegdgffdppgaa.XFnExactDiagramValue Go.Proofs.YthcegdgffdppgaaW.PrintWords Go.Proofs.YthcegdgffdppgaaW.PrintLast Go.Proofs.YthcegdgffdppgaaW.PrintMore Go.Proofs.YthcegdgffdppgaaX
set_option linter.unusedVariables false
set_option linter.unusedSimpArgs false

theorem rdT63_nat (xs : List S63) (i : Nat) : rd_T63 xs (i : Int) = xs.getD i z63 := by
  unfold rd_T63
  simp

theorem rdT45_nat (xs : List S45) (i : Nat) : rd_T45 xs (i : Int) = xs.getD i z45 := by
  unfold rd_T45
  simp

theorem szForkS_f {l : List S63} {a : Int} (h0 : 0 ≤ a) (h1 : a ≤ 1048576) (hl : l.length ≤ 9223372036854775807) : laws_szForkS.f l a = some (if a - (l.length : Int) < 0 then -1 else a - (l.length : Int)) := by
  unfold laws_szForkS.f
  rw [wrap_id (by omega) (by omega)]
  by_cases h : a - (l.length : Int) < 0
  · rw [if_pos h, if_pos h]
  · rw [if_neg h, if_neg h]

theorem szDiagram_f {b : Int} {l} {a : Int} (h0 : 0 ≤ a) (h1 : a ≤ 1048576) (hl : l.length ≤ 9223372036854775807) : laws_szDiagram.f b l a = some (if a - (l.length : Int) < 0 then -1 else a - (l.length : Int)) := by
  unfold laws_szDiagram.f
  rw [szForkS_f h0 h1 hl]
  simp only [Option.bind_some]
  by_cases h : a - (l.length : Int) < 0
  · rw [if_pos h, if_pos (by decide)]
  · rw [if_neg h, if_neg h]

def cFork (x : S63) : S45 := ⟨x.f0, x.f1, x.f2⟩
theorem toForkS_f {k : Nat} {l : List S63} (hk : l.length < k) (hm : l.length ≤ 11728124029610) : laws_toForkS.f k l = some (l.map cFork) := by
  unfold laws_toForkS.f
  rw [if_pos (by omega), if_pos (by omega)]
  refine run_inv (fun k (s : List S45) i => laws_toForkS.l0 k l s (i : Int)) l.length (fun i s => s.length = l.length ∧ ∀ j, j < i → s.getD j z45 = (l.map cFork).getD j z45) _ ?_ ?_ k 0 _ (Nat.zero_le _) (by omega) ⟨by simp, fun j hj => absurd hj (Nat.not_lt_zero j)⟩
  · intro k i s hi ⟨hl, hs⟩
    refine Or.inr ⟨s.set i (cFork (l.getD i z63)), ?_, by simpa using hl, fun j hj => ?_⟩
    · simp only [laws_toForkS.l0]
      rw [if_pos (by omega), if_pos (by omega)]
      simp only [laws_toFork.f, Option.bind_some, rdT63_nat]
      rw [if_pos (by omega), wrap_id (by omega) (by omega)]
      rfl
    · rw [getD_set _ _ _ _ _ (by omega)]
      by_cases e : j = i
      · rw [if_pos e, e]
        simp [List.getD_eq_getElem?_getD, hi]
      · rw [if_neg e]
        exact hs j (by omega)
  · intro k s ⟨hl, hs⟩
    simp only [laws_toForkS.l0]
    rw [if_neg (by omega), ext_getD (d := z45) (s := s) (l := l.map cFork) (by simpa using hl) (fun j hj => hs j (by simpa using hj))]

theorem toDiagram_f {k : Nat} {a : Int} {l} (hk : l.length < k) (hm : l.length ≤ 1048576) : laws_toDiagram.f k a l = some (a, l.map cFork) := by
  unfold laws_toDiagram.f
  rw [toForkS_f hk (by omega)]
  rfl

theorem eqForkS_f {k : Nat} {l : List S45} (hk : l.length < k) (hm : l.length ≤ 35184372088832) : laws_eqForkS.f k l l = some true := by
  unfold laws_eqForkS.f
  rw [if_pos rfl]
  refine run_inv (fun k (_ : Unit) i => laws_eqForkS.l0 k l l (i : Int)) l.length (fun _ _ => True) _ ?_ ?_ k 0 () (Nat.zero_le _) (by omega) trivial
  · intro k i _ hi _
    refine Or.inr ⟨(), ?_, trivial⟩
    simp only [laws_eqForkS.l0]
    rw [if_pos (by omega), if_pos (by omega), if_pos (by omega), wrap_id (by omega) (by omega)]
    simp only [laws_eqFork.f, if_true, Option.bind_some]
    rfl
  · intro k _ _
    simp only [laws_eqForkS.l0]
    rw [if_neg (by omega)]

theorem eqDiagram_f {k : Nat} {a : Int} {l} (hk : l.length < k) (hm : l.length ≤ 1048576) : laws_eqDiagram.f k a l a l = some true := by
  unfold laws_eqDiagram.f
  rw [if_pos rfl, eqForkS_f hk (by omega)]
  rfl

theorem l1In_f (n a b : Int) : spec_l1In.f n a b = some (inB a b n) := by
  unfold spec_l1In.f inB
  by_cases h : n ≥ a
  · rw [if_pos h]; congr 1; simp; omega
  · rw [if_neg h, decide_eq_false (by omega)]

def vr (a : Int) (l : List S45) (n : Int) : Int := if n < 2 then a else (l.getD (n - 2).toNat z45).f0
def frk (a : Int) (l : List S45) (j : Nat) : Bool := inB 0 (a - 1) (l.getD j z45).f0 && (inB 0 ((j : Int) + 1) (l.getD j z45).f1 && (inB 0 ((j : Int) + 1) (l.getD j z45).f2 && (decide (vr a l (l.getD j z45).f1 > (l.getD j z45).f0) && decide (vr a l (l.getD j z45).f2 > (l.getD j z45).f0))))
def eqT (x y : S45) : Bool := x.f0 == y.f0 && (x.f1 == y.f1 && (x.f2 == y.f2))
def okD (a : Int) (l : List S45) (j : Nat) : Bool := frk a l j && (!decide ((l.getD j z45).f1 = (l.getD j z45).f2) && decide (∀ q, q < j → eqT (l.getD q z45) (l.getD j z45) = false))
def dvOK (a : Int) (l : List S45) : Bool := inB 0 12 a && (!decide ((l.length : Int) > 2000) && decide (∀ j, j < l.length → okD a l j = true))
theorem l8Var_f {a : Int} {l : List S45} {n : Int} (h0 : 0 ≤ n) (h1 : n < (l.length : Int) + 2) (hl : l.length ≤ 1048576) : spec_l8Var.f a l n = some (vr a l n) := by
  unfold spec_l8Var.f vr
  by_cases h : n < 2
  · rw [if_pos h, if_pos h]
  · rw [if_neg h, if_neg h, wrap_id (x := n - 2) (by omega) (by omega), if_pos (by omega), if_pos (by omega)]
    rfl
theorem l8Fork_f {k : Nat} {a : Int} {l : List S45} {j : Nat} (hk : 0 < k) (ha : 0 ≤ a ∧ a ≤ 12) (hj : j < l.length) (hl : l.length ≤ 1048576) : spec_l8Fork.f k a l (l.getD j z45).f0 (l.getD j z45).f1 (l.getD j z45).f2 ((j : Int) + 1) = some (frk a l j) := by
  obtain ⟨k, rfl⟩ : ∃ m, k = m + 1 := ⟨k - 1, by omega⟩
  unfold spec_l8Fork.f frk
  rw [wrap_id (x := a - 1) (by omega) (by omega), l1In_f]
  simp only [Option.bind_some, l1In_f, spec_l8Fork.j0]
  cases inB 0 (a - 1) (l.getD j z45).f0 with
  | false => rfl
  | true =>
    simp only [if_true, Bool.true_and]
    cases h1 : inB 0 ((j : Int) + 1) (l.getD j z45).f1 with
    | false => rfl
    | true =>
      simp only [if_true, Bool.true_and]
      cases h2 : inB 0 ((j : Int) + 1) (l.getD j z45).f2 with
      | false => rfl
      | true =>
        have h1 : 0 ≤ (l.getD j z45).f1 ∧ (l.getD j z45).f1 ≤ (j : Int) + 1 := of_decide_eq_true h1
        have h2 : 0 ≤ (l.getD j z45).f2 ∧ (l.getD j z45).f2 ≤ (j : Int) + 1 := of_decide_eq_true h2
        simp only [Bool.not_true, Bool.false_eq_true, if_false, Bool.true_and]
        rw [l8Var_f h1.1 (by omega) hl]
        simp only [Option.bind_some]
        by_cases h3 : vr a l (l.getD j z45).f1 > (l.getD j z45).f0
        · rw [if_pos h3, l8Var_f h2.1 (by omega) hl, decide_eq_true h3]
          rfl
        · rw [if_neg h3, decide_eq_false h3]
          rfl
theorem dv_loop {a : Int} {l : List S45} (ha : 0 ≤ a ∧ a ≤ 12) (hl : l.length ≤ 1048576) : ∀ d i, i + d = l.length → ∃ K, ∀ k, K ≤ k → spec_DiagramValid.l0 k (i : Int) a l = some (decide (∀ j, j < l.length → i ≤ j → okD a l j = true)) := by
  intro d
  induction d with
  | zero =>
    intro i hi
    refine ⟨1, fun k hk => ?_⟩
    obtain ⟨k, rfl⟩ : ∃ m, k = m + 1 := ⟨k - 1, by omega⟩
    simp only [spec_DiagramValid.l0]
    rw [if_neg (by omega), decide_eq_true (fun j h2 h1 => absurd h2 (by omega))]
  | succ d ih =>
    intro i hi
    obtain ⟨K, hK⟩ := ih (i + 1) (by omega)
    refine ⟨K + i + 20, fun k hk => ?_⟩
    have step : (∀ j, j < l.length → i ≤ j → okD a l j = true) ↔ (okD a l i = true ∧ ∀ j, j < l.length → i + 1 ≤ j → okD a l j = true) :=
      ⟨fun h => ⟨h i (by omega) (Nat.le_refl _), fun j h2 h1 => h j h2 (by omega)⟩, fun h j h2 h1 => if e : j = i then by rw [e]; exact h.1 else h.2 j h2 (by omega)⟩
    obtain ⟨k, rfl⟩ : ∃ m, k = m + 1 := ⟨k - 1, by omega⟩
    simp only [spec_DiagramValid.l0]
    rw [if_pos (by omega), if_pos (by omega), wrap_id (x := (i : Int) + 1) (by omega) (by omega)]
    simp only [rdT45_nat]
    rw [l8Fork_f (by omega) ha (by omega) hl]
    simp only [Option.bind_some]
    cases hf : frk a l i with
    | false =>
      rw [if_neg (by decide)]
      obtain ⟨k, rfl⟩ : ∃ m, k = m + 1 := ⟨k - 1, by omega⟩
      simp only [spec_DiagramValid.j2, if_true]
      rw [decide_eq_false (fun h => by have := (step.1 h).1; unfold okD at this; rw [hf] at this; cases this)]
    | true =>
      rw [if_pos rfl]
      obtain ⟨k, rfl⟩ : ∃ m, k = m + 1 := ⟨k - 1, by omega⟩
      by_cases he : (l.getD i z45).f1 = (l.getD i z45).f2
      · simp only [spec_DiagramValid.j2, beq_iff_eq.mpr he, if_true]
        rw [decide_eq_false (fun h => by have := (step.1 h).1; unfold okD at this; rw [decide_eq_true he, hf] at this; cases this)]
      · have hb : ((l.getD i z45).f1 == (l.getD i z45).f2) = false := beq_eq_false_iff_ne.mpr he
        simp only [spec_DiagramValid.j2, hb, Bool.false_eq_true, if_false]
        by_cases hq : ∀ q, q < i → eqT (l.getD q z45) (l.getD i z45) = false
        · have hok : okD a l i = true := by unfold okD; rw [hf, decide_eq_false he, decide_eq_true hq]; rfl
          obtain ⟨k, rfl⟩ : ∃ m, k = m + (i + 1) := ⟨k - (i + 1), by omega⟩
          refine (run_goto (fun k (_ : Unit) q => spec_DiagramValid.l1 k (i : Int) (q : Int) a l (l.getD i z45).f0 (l.getD i z45).f1 (l.getD i z45).f2) i (fun _ _ => True) (fun k => spec_DiagramValid.l0 k (wrap64 ((i : Int) + 1)) a l) ?_ ?_ i k 0 () (by omega) trivial).trans ?_
          · intro k q _ hqi _
            refine ⟨(), ?_, trivial⟩
            have := hq q hqi
            unfold eqT at this
            simp only [spec_DiagramValid.l1, rdT45_nat]
            rw [if_pos (by omega), if_pos (by omega), if_pos (by omega), this, if_neg (by decide), wrap_id (x := (q : Int) + 1) (by omega) (by omega)]
            rfl
          · intro k _ _
            simp only [spec_DiagramValid.l1]
            rw [if_neg (by omega)]
          · rw [wrap_id (x := (i : Int) + 1) (by omega) (by omega)]
            refine (hK k (by omega)).trans ?_
            congr 1
            rw [Bool.eq_iff_iff, decide_eq_true_iff, decide_eq_true_iff, step]
            exact ⟨fun h => ⟨hok, h⟩, fun h => h.2⟩
        · rw [decide_eq_false (fun h => by have := (step.1 h).1; unfold okD at this; rw [decide_eq_false hq, decide_eq_false he, hf] at this; cases this)]
          refine run_inv (fun k (_ : Unit) q => spec_DiagramValid.l1 k (i : Int) (q : Int) a l (l.getD i z45).f0 (l.getD i z45).f1 (l.getD i z45).f2) i (fun q _ => ∀ q', q' < q → eqT (l.getD q' z45) (l.getD i z45) = false) false ?_ ?_ k 0 () (Nat.zero_le _) (by omega) (fun q' h => absurd h (Nat.not_lt_zero _))
          · intro k q _ hqi hs
            simp only [spec_DiagramValid.l1, rdT45_nat]
            rw [if_pos (by omega), if_pos (by omega), if_pos (by omega), wrap_id (x := (q : Int) + 1) (by omega) (by omega)]
            cases hh : eqT (l.getD q z45) (l.getD i z45) with
            | true => left; unfold eqT at hh; rw [if_pos hh]
            | false =>
              refine Or.inr ⟨(), ?_, fun q' h => if e : q' = q then by rw [e]; exact hh else hs q' (by omega)⟩
              unfold eqT at hh
              rw [hh, if_neg (by decide)]
              rfl
          · intro k _ hs
            exact absurd hs hq
theorem spec_DiagramValid_f {a : Int} {l : List S45} (hl : l.length ≤ 1048576) : ∃ K, ∀ k, K ≤ k → spec_DiagramValid.f k a l = some (dvOK a l) := by
  unfold dvOK
  by_cases ha : 0 ≤ a ∧ a ≤ 12
  · obtain ⟨K, hK⟩ := dv_loop (a := a) (l := l) ha hl l.length 0 (by omega)
    refine ⟨K + 2, fun k hk => ?_⟩
    unfold spec_DiagramValid.f
    rw [l1In_f, show inB 0 12 a = true from decide_eq_true ha]
    simp only [Option.bind_some, if_true, Bool.true_and]
    obtain ⟨k, rfl⟩ : ∃ m, k = m + 1 := ⟨k - 1, by omega⟩
    simp only [spec_DiagramValid.j0]
    by_cases h : (l.length : Int) > 2000
    · rw [if_pos (decide_eq_true h), decide_eq_true h]
      rfl
    · rw [if_neg (by simpa using h), decide_eq_false h]
      refine (hK k (by omega)).trans ?_
      simp
  · refine ⟨2, fun k hk => ?_⟩
    unfold spec_DiagramValid.f
    rw [l1In_f, show inB 0 12 a = false from decide_eq_false ha]
    obtain ⟨k, rfl⟩ : ∃ m, k = m + 1 := ⟨k - 1, by omega⟩
    simp [spec_DiagramValid.j0]

theorem dv_ok {a : Int} {l : List S45} (h : dvOK a l = true) : (0 ≤ a ∧ a ≤ 12) ∧ l.length ≤ 2000 ∧ ∀ j, j < l.length → (0 ≤ (l.getD j z45).f0 ∧ (l.getD j z45).f0 ≤ a - 1) ∧ (0 ≤ (l.getD j z45).f1 ∧ (l.getD j z45).f1 ≤ (j : Int) + 1) ∧ (0 ≤ (l.getD j z45).f2 ∧ (l.getD j z45).f2 ≤ (j : Int) + 1) ∧ vr a l (l.getD j z45).f1 > (l.getD j z45).f0 ∧ vr a l (l.getD j z45).f2 > (l.getD j z45).f0 ∧ (l.getD j z45).f1 ≠ (l.getD j z45).f2 := by
  unfold dvOK at h
  obtain ⟨h1, h2⟩ := Bool.and_eq_true_iff.1 h
  obtain ⟨h3, h4⟩ := Bool.and_eq_true_iff.1 h2
  refine ⟨of_decide_eq_true h1, ?_, fun j hj => ?_⟩
  · have : ¬ (l.length : Int) > 2000 := by simpa using h3
    omega
  · have h5 := of_decide_eq_true h4 j hj
    unfold okD frk at h5
    obtain ⟨h6, h7⟩ := Bool.and_eq_true_iff.1 h5
    obtain ⟨g1, h6⟩ := Bool.and_eq_true_iff.1 h6
    obtain ⟨g2, h6⟩ := Bool.and_eq_true_iff.1 h6
    obtain ⟨g3, h6⟩ := Bool.and_eq_true_iff.1 h6
    obtain ⟨g4, g5⟩ := Bool.and_eq_true_iff.1 h6
    obtain ⟨g6, _⟩ := Bool.and_eq_true_iff.1 h7
    exact ⟨of_decide_eq_true g1, of_decide_eq_true g2, of_decide_eq_true g3, of_decide_eq_true g4, of_decide_eq_true g5, by simpa using g6⟩
theorem l8Place_f {a : Int} {l : List S45} {n : Int} (hl : l.length ≤ 1048576) : spec_l8Place.f a l n = some (inB 0 ((l.length : Int) + 1) n) := by
  unfold spec_l8Place.f
  rw [wrap_id (x := (l.length : Int) + 1) (by omega) (by omega), l1In_f]
  rfl

theorem l6Are_f {k : Nat} {l : List Int} (hk : l.length < k) (hm : l.length ≤ 35184372088832) : spec_l6Are.f k l = some (l.all (inB 0 1)) := by
  unfold spec_l6Are.f
  refine (run_allL (fun k i => spec_l6Are.l0 k l (i : Int)) l 0 (inB 0 1) true false ?_ ?_ k hk).trans ?_
  · intro k i hi
    simp only [spec_l6Are.l0]
    rw [if_pos (by omega), if_pos (by omega), l1In_f, rd_nat, wrap_id (by omega) (by omega)]
    rfl
  · intro k
    simp only [spec_l6Are.l0]
    rw [if_neg (by omega)]
  · cases l.all (inB 0 1) <;> simp

theorem toIntS_f {k : Nat} {l : List Int} (hk : l.length < k) (hm : l.length ≤ 35184372088832) : laws_toIntS.f k l = some l := by
  unfold laws_toIntS.f
  rw [if_pos (by omega), if_pos (by omega)]
  refine run_inv (fun k (s : List Int) i => laws_toIntS.l0 k l s (i : Int)) l.length (fun i s => s.length = l.length ∧ ∀ j, j < i → s.getD j 0 = l.getD j 0) l ?_ ?_ k 0 _ (Nat.zero_le _) (by omega) ⟨by simp, fun j hj => absurd hj (Nat.not_lt_zero j)⟩
  · intro k i s hi ⟨hl, hs⟩
    refine Or.inr ⟨s.set i (l.getD i 0), ?_, by simpa using hl, fun j hj => ?_⟩
    · simp only [laws_toIntS.l0]
      rw [if_pos (by omega), if_pos (by omega), if_pos (by omega), wrap_id (by omega) (by omega), rd_nat]
      rfl
    · rw [getD_set _ _ _ _ _ (by omega)]
      by_cases e : j = i
      · rw [if_pos e, e]
      · rw [if_neg e]
        exact hs j (by omega)
  · intro k s ⟨hl, hs⟩
    simp only [laws_toIntS.l0]
    rw [if_neg (by omega), ext_getD hl hs]

theorem in_f (n a b : Int) : impl_in.f n a b = some (inB a b n) := by
  unfold impl_in.f inB
  by_cases h : n ≥ a
  · rw [if_pos h]; congr 1; simp; omega
  · rw [if_neg h, decide_eq_false (by omega)]

theorem varAt_f {a : Int} {l : List S45} {n : Int} (h0 : 0 ≤ n) (h1 : n < (l.length : Int) + 2) (hl : l.length ≤ 1048576) : impl_Diagram_varAt.f a l n = some (vr 12 l n) := by
  unfold impl_Diagram_varAt.f vr
  by_cases h : n < 2
  · rw [if_pos h, if_pos h]
  · rw [if_neg h, if_neg h, wrap_id (x := n - 2) (by omega) (by omega), if_pos (by omega), if_pos (by omega)]
    rfl
theorem vr_gt {a x n : Int} {l : List S45} (ha : a ≤ 12) (hx : x ≤ a - 1) : (vr a l n > x) ↔ ¬ (vr 12 l n ≤ x) := by
  unfold vr
  by_cases h : n < 2
  · rw [if_pos h, if_pos h]; omega
  · rw [if_neg h, if_neg h]; omega
theorem seen_iff {l : List S45} {j : Nat} (hj : j < l.length) : (impl_DiagramValid.F l j (l.getD j z45)).isSome = !decide (∀ q, q < j → eqT (l.getD q z45) (l.getD j z45) = false) := by
  have e : ((l.take j).any (impl_DiagramValid.eqS (l.getD j z45))) = !decide (∀ q, q < j → eqT (l.getD q z45) (l.getD j z45) = false) := by
    by_cases h : ∀ q, q < j → eqT (l.getD q z45) (l.getD j z45) = false
    · rw [decide_eq_true h]
      cases hh : (l.take j).any (impl_DiagramValid.eqS (l.getD j z45)) with
      | false => rfl
      | true =>
        obtain ⟨x, hx, hx2⟩ := List.any_eq_true.1 hh
        obtain ⟨q, hq, rfl⟩ := mem_getD z45 hx
        rw [List.length_take] at hq
        have e1 : (l.take j).getD q z45 = l.getD q z45 := by rw [List.getD_eq_getElem?_getD, List.getD_eq_getElem?_getD, List.getElem?_take, if_pos (by omega)]
        rw [e1] at hx2
        have h2 := h q (by omega)
        unfold impl_DiagramValid.eqS at hx2
        obtain ⟨y1, y2, y3⟩ := of_decide_eq_true hx2
        unfold eqT at h2
        rw [← y1, ← y2, ← y3] at h2
        simp at h2
    · rw [decide_eq_false h]
      have h2 : ∃ q, q < j ∧ eqT (l.getD q z45) (l.getD j z45) = true := by
        refine Classical.byContradiction (fun hn => h (fun q hq => ?_))
        cases hh : eqT (l.getD q z45) (l.getD j z45) with
        | false => rfl
        | true => exact absurd ⟨q, hq, hh⟩ hn
      obtain ⟨q, hq, hq2⟩ := h2
      refine List.any_eq_true.2 ⟨l.getD q z45, ?_, ?_⟩
      · have hl2 : q < (l.take j).length := by rw [List.length_take]; omega
        have e1 : (l.take j).getD q z45 = l.getD q z45 := by rw [List.getD_eq_getElem?_getD, List.getD_eq_getElem?_getD, List.getElem?_take, if_pos (by omega)]
        rw [← e1]
        exact getD_mem _ _ _ hl2
      · unfold eqT at hq2
        unfold impl_DiagramValid.eqS
        simp only [Bool.and_eq_true, beq_iff_eq] at hq2
        exact decide_eq_true ⟨hq2.1.symm, hq2.2.1.symm, hq2.2.2.symm⟩
  unfold impl_DiagramValid.F
  rw [e]
  cases decide (∀ q, q < j → eqT (l.getD q z45) (l.getD j z45) = false) <;> rfl
theorem impl_ok {a : Int} {l : List S45} {j : Nat} (ha : 0 ≤ a ∧ a ≤ 12) (hj : j < l.length) (hl : l.length ≤ 1048576) : impl_DiagramValid.ok a l (j : Int) = some (okD a l j) := by
  unfold impl_DiagramValid.ok okD frk
  rw [wrap_id (x := a - 1) (by omega) (by omega), wrap_id (x := (j : Int) + 1) (by omega) (by omega)]
  simp only [rdT45_nat, in_f, Option.bind_some]
  cases h0 : inB 0 (a - 1) (l.getD j z45).f0 with
  | false => rfl
  | true =>
    simp only [if_true, Bool.true_and]
    cases h1 : inB 0 ((j : Int) + 1) (l.getD j z45).f1 with
    | false => rfl
    | true =>
      simp only [if_true, Bool.true_and]
      cases h2 : inB 0 ((j : Int) + 1) (l.getD j z45).f2 with
      | false => rfl
      | true =>
        have h0 : 0 ≤ (l.getD j z45).f0 ∧ (l.getD j z45).f0 ≤ a - 1 := of_decide_eq_true h0
        have h1 : 0 ≤ (l.getD j z45).f1 ∧ (l.getD j z45).f1 ≤ (j : Int) + 1 := of_decide_eq_true h1
        have h2 : 0 ≤ (l.getD j z45).f2 ∧ (l.getD j z45).f2 ≤ (j : Int) + 1 := of_decide_eq_true h2
        simp only [if_true, Bool.true_and]
        rw [varAt_f h1.1 (by omega) hl, varAt_f h2.1 (by omega) hl]
        simp only [Option.bind_some]
        have g1 := vr_gt (l := l) (n := (l.getD j z45).f1) ha.2 h0.2
        have g2 := vr_gt (l := l) (n := (l.getD j z45).f2) ha.2 h0.2
        by_cases he : (l.getD j z45).f1 = (l.getD j z45).f2
        · rw [if_pos he, decide_eq_true he]
          simp
        · rw [if_neg he, decide_eq_false he]
          by_cases v1 : vr 12 l (l.getD j z45).f1 ≤ (l.getD j z45).f0
          · rw [if_pos v1, decide_eq_false (fun h => g1.1 h v1)]
            rfl
          · rw [if_neg v1, decide_eq_true (g1.2 v1)]
            by_cases v2 : vr 12 l (l.getD j z45).f2 ≤ (l.getD j z45).f0
            · rw [if_pos v2, decide_eq_false (fun h => g2.1 h v2)]
              rfl
            · rw [if_neg v2, decide_eq_true (g2.2 v2), Int.toNat_natCast, seen_iff hj]
              simp
theorem impl_go {a : Int} {l : List S45} (ha : 0 ≤ a ∧ a ≤ 12) (hl : l.length ≤ 1048576) : ∀ m i, i + m = l.length → impl_DiagramValid.go a l m (i : Int) = some (decide (∀ j, j < l.length → i ≤ j → okD a l j = true)) := by
  intro m
  induction m with
  | zero =>
    intro i hi
    simp only [impl_DiagramValid.go]
    rw [decide_eq_true (fun j h2 h1 => absurd h2 (by omega))]
  | succ m ih =>
    intro i hi
    have h1 := ih (i + 1) (by omega)
    simp only [impl_DiagramValid.go]
    rw [impl_ok ha (by omega) hl]
    simp only [Option.bind_some]
    rw [show ((i : Int) + 1) = ((i + 1 : Nat) : Int) by omega]
    cases ho : okD a l i with
    | false =>
      rw [if_neg (by decide), decide_eq_false (fun h => by have := h i (by omega) (Nat.le_refl _); rw [ho] at this; cases this)]
    | true =>
      rw [if_pos rfl, h1]
      congr 1
      rw [Bool.eq_iff_iff, decide_eq_true_iff, decide_eq_true_iff]
      exact ⟨fun h j h2 h1 => if e : j = i then by rw [e]; exact ho else h j h2 (by omega), fun h j h2 h1 => h j h2 (by omega)⟩
theorem impl_DiagramValid_f {a : Int} {l : List S45} (hl : l.length ≤ 1048576) : impl_DiagramValid.f a l = some (dvOK a l) := by
  unfold impl_DiagramValid.f dvOK
  rw [in_f]
  simp only [Option.bind_some]
  by_cases ha : 0 ≤ a ∧ a ≤ 12
  · rw [show inB 0 12 a = true from decide_eq_true ha]
    simp only [if_true, Bool.true_and]
    by_cases h : (l.length : Int) > 2000
    · rw [if_pos h, decide_eq_true h]
      rfl
    · rw [if_neg h, decide_eq_false h]
      refine (impl_go ha hl l.length 0 (by omega)).trans ?_
      simp
  · rw [show inB 0 12 a = false from decide_eq_false ha]
    rfl

theorem isPlace_f {a : Int} {l : List S45} {n : Int} (hl : l.length ≤ 1048576) : impl_Diagram_isPlace.f a l n = some (inB 0 ((l.length : Int) + 1) n) := by
  unfold impl_Diagram_isPlace.f
  rw [wrap_id (x := (l.length : Int) + 1) (by omega) (by omega), in_f]
  rfl

theorem contains_impl_bitsValid_1 {k : Nat} {l : List Int} (hk : l.length < k) (hm : l.length ≤ 35184372088832) : slices_ContainsFunc_int_int_impl_bitsValid_1.f k l = some (l.any fun x => !(inB 0 1 x)) := by
  unfold slices_ContainsFunc_int_int_impl_bitsValid_1.f slices_IndexFunc_int_int_impl_bitsValid_1.f
  obtain ⟨r, h1, h2⟩ := run_find (fun k i => slices_IndexFunc_int_int_impl_bitsValid_1.l0 k l (l.length : Int) (i : Int)) l 0 (fun x => !(inB 0 1 x)) (by
    intro k i hi
    simp only [slices_IndexFunc_int_int_impl_bitsValid_1.l0]
    rw [if_pos (by omega), if_pos (by omega), if_pos (by omega), rd_nat, wrap_id (by omega) (by omega)]
    unfold impl_bitsValid_1.f
    rw [in_f]
    rfl) (by
    intro k
    simp only [slices_IndexFunc_int_int_impl_bitsValid_1.l0]
    rw [if_neg (by omega)]) k hk
  have h1' : slices_IndexFunc_int_int_impl_bitsValid_1.l0 k l (l.length : Int) 0 = some r := h1
  rw [h1', Option.bind_some, h2]

theorem impl_bitsValid_f {k : Nat} {l : List Int} (hk : l.length < k) (hm : l.length ≤ 35184372088832) : impl_bitsValid.f k l = some (l.all (inB 0 1)) := by
  unfold impl_bitsValid.f
  rw [contains_impl_bitsValid_1 hk hm]
  simp only [Option.bind_some]
  have e : l.all (inB 0 1) = !(l.any fun x => !(inB 0 1 x)) := by simp [List.any_eq_not_all_not]
  rw [e]

theorem eqIntS_f {k : Nat} {a b : List Int} (hk : a.length < k) (hm : a.length ≤ 35184372088832) : laws_eqIntS.f k a b = some (decide (a = b)) := by
  unfold laws_eqIntS.f
  by_cases hab : a.length = b.length
  · rw [if_pos (by omega)]
    refine run_inv (fun k (_ : Unit) i => laws_eqIntS.l0 k a b (i : Int)) a.length (fun i _ => ∀ j, j < i → a.getD j 0 = b.getD j 0) _ ?_ ?_ k 0 () (Nat.zero_le _) (by omega) (fun j hj => absurd hj (Nat.not_lt_zero j))
    · intro k i _ hi hs
      by_cases e : a.getD i 0 = b.getD i 0
      · refine Or.inr ⟨(), ?_, fun j hj => ?_⟩
        · simp only [laws_eqIntS.l0]
          rw [if_pos (by omega), if_pos (by omega), if_pos (by omega), rd_nat, rd_nat, if_pos e, wrap_id (by omega) (by omega)]
          rfl
        · by_cases e2 : j = i
          · rw [e2]; exact e
          · exact hs j (by omega)
      · refine Or.inl ?_
        simp only [laws_eqIntS.l0]
        rw [if_pos (by omega), if_pos (by omega), if_pos (by omega), rd_nat, rd_nat, if_neg e, decide_eq_false (fun h => e (by rw [h]))]
    · intro k _ hs
      simp only [laws_eqIntS.l0]
      rw [if_neg (by omega), decide_eq_true (ext_getD hab (fun j hj => hs j (by omega)))]
  · rw [if_neg (by omega), decide_eq_false (fun h => hab (by rw [h]))]

theorem val_loop {a : Int} {l : List S45} {v : List Int} (h : dvOK a l = true) (hv : (v.length : Int) = a) : ∀ m : Nat, m < l.length + 2 → ∃ r, ∀ k, m < k → spec_l8Value.l0 k (m : Int) v a l = some r ∧ impl_Diagram_value.l0 k (m : Int) v a l = some r := by
  obtain ⟨ha, hl, hf⟩ := dv_ok h
  intro m
  induction m using Nat.strongRecOn with
  | ind m ih =>
    intro hm
    by_cases h2 : m < 2
    · refine ⟨(m : Int), fun k hk => ?_⟩
      obtain ⟨k, rfl⟩ : ∃ m, k = m + 1 := ⟨k - 1, by omega⟩
      simp only [spec_l8Value.l0, impl_Diagram_value.l0]
      rw [if_neg (by omega), if_neg (by omega)]
      exact ⟨rfl, rfl⟩
    · obtain ⟨h0, h1, h3, _, _, _⟩ := hf (m - 2) (by omega)
      have e2 : wrap64 ((m : Int) - 2) = ((m - 2 : Nat) : Int) := by rw [wrap_id (by omega) (by omega)]; omega
      obtain ⟨c1, hc1⟩ := Int.eq_ofNat_of_zero_le h1.1
      obtain ⟨c2, hc2⟩ := Int.eq_ofNat_of_zero_le h3.1
      obtain ⟨r1, hr1⟩ := ih c1 (by omega) (by omega)
      obtain ⟨r2, hr2⟩ := ih c2 (by omega) (by omega)
      refine ⟨if rd v (l.getD (m - 2) z45).f0 = 1 then r2 else r1, fun k hk => ?_⟩
      obtain ⟨k, rfl⟩ : ∃ m, k = m + 1 := ⟨k - 1, by omega⟩
      by_cases hb : rd v (l.getD (m - 2) z45).f0 = 1
      · obtain ⟨g1, g2⟩ := hr2 k (by omega)
        refine ⟨?_, ?_⟩
        · simp only [spec_l8Value.l0, e2, rdT45_nat]
          rw [if_pos (by omega), if_pos (by omega), if_pos (by omega), if_pos h0.1, if_pos (by omega), if_pos hb, if_pos hb, hc2]
          exact g1
        · simp only [impl_Diagram_value.l0, e2, rdT45_nat]
          rw [if_pos (by omega), if_pos (by omega), if_pos (by omega), if_pos h0.1, if_pos (by omega), if_pos hb, if_pos hb, hc2]
          exact g2
      · obtain ⟨g1, g2⟩ := hr1 k (by omega)
        refine ⟨?_, ?_⟩
        · simp only [spec_l8Value.l0, e2, rdT45_nat]
          rw [if_pos (by omega), if_pos (by omega), if_pos (by omega), if_pos h0.1, if_pos (by omega), if_neg hb, if_neg hb, hc1]
          exact g1
        · simp only [impl_Diagram_value.l0, e2, rdT45_nat]
          rw [if_pos (by omega), if_pos (by omega), if_pos (by omega), if_pos h0.1, if_pos (by omega), if_neg hb, if_neg hb, hc1]
          exact g2
theorem value_eq {a : Int} {l : List S45} {v : List Int} {n : Int} (hl : l.length ≤ 1048576) (hv : v.length ≤ 1048576) : ∃ K r, ∀ k, K ≤ k → spec_DiagramValue.f k a l n v = some r ∧ impl_DiagramValue.f k a l n v = some r := by
  obtain ⟨K, hK⟩ := spec_DiagramValid_f (a := a) (l := l) hl
  cases h : dvOK a l with
  | false =>
    refine ⟨K, -1, fun k hk => ?_⟩
    unfold spec_DiagramValue.f impl_DiagramValue.f
    rw [hK k hk, impl_DiagramValid_f hl, h]
    exact ⟨rfl, rfl⟩
  | true =>
    cases hn : inB 0 ((l.length : Int) + 1) n with
    | false =>
      refine ⟨K, -1, fun k hk => ?_⟩
      unfold spec_DiagramValue.f impl_DiagramValue.f
      rw [hK k hk, impl_DiagramValid_f hl, h, l8Place_f hl, isPlace_f hl, hn]
      exact ⟨rfl, rfl⟩
    | true =>
      have hn2 : 0 ≤ n ∧ n ≤ (l.length : Int) + 1 := of_decide_eq_true hn
      obtain ⟨m, rfl⟩ := Int.eq_ofNat_of_zero_le hn2.1
      by_cases hv2 : (v.length : Int) = a
      · cases hb : v.all (inB 0 1) with
        | false =>
          refine ⟨K + v.length + 1, -1, fun k hk => ?_⟩
          unfold spec_DiagramValue.f impl_DiagramValue.f
          rw [hK k (by omega), impl_DiagramValid_f hl, h, l8Place_f hl, isPlace_f hl, hn, l6Are_f (by omega) (by omega), impl_bitsValid_f (by omega) (by omega), hb]
          simp only [Option.bind_some, if_true, if_pos hv2, Bool.false_eq_true, if_false, and_self]
        | true =>
          obtain ⟨r, hr⟩ := val_loop h hv2 m (by omega)
          refine ⟨K + v.length + m + 1, r, fun k hk => ?_⟩
          obtain ⟨h1, h2⟩ := hr k (by omega)
          unfold spec_DiagramValue.f impl_DiagramValue.f spec_l8Value.f impl_Diagram_value.f
          rw [hK k (by omega), impl_DiagramValid_f hl, h, l8Place_f hl, isPlace_f hl, hn, l6Are_f (by omega) (by omega), impl_bitsValid_f (by omega) (by omega), hb, h1, h2]
          simp only [Option.bind_some, if_true, if_pos hv2, and_self]
      · refine ⟨K, -1, fun k hk => ?_⟩
        unfold spec_DiagramValue.f impl_DiagramValue.f
        rw [hK k hk, impl_DiagramValid_f hl, h, l8Place_f hl, isPlace_f hl, hn]
        simp only [Option.bind_some, if_true, if_neg hv2, and_self]
theorem FnExactDiagramValue : laws_FnExactDiagramValue.Pure := by
  intro a l n v ha hl hx hn hv hvw
  by_cases h0 : (v.length : Int) > 1048576
  · refine ⟨0, ?_⟩
    unfold laws_FnExactDiagramValue.f
    rw [if_pos h0]
  · by_cases h : 1048576 - (l.length : Int) < 0
    · refine ⟨0, ?_⟩
      unfold laws_FnExactDiagramValue.f
      rw [if_neg h0, szDiagram_f (by omega) (by omega) hl, if_pos h]
      rfl
    · have hm : (l.map cFork).length = l.length := by simp
      obtain ⟨K, r, hK⟩ := value_eq (a := a) (l := l.map cFork) (v := v) (n := n) (by omega) (by omega)
      refine ⟨K + l.length + v.length + 10, ?_⟩
      obtain ⟨h1, h2⟩ := hK (K + l.length + v.length + 10) (by omega)
      unfold laws_FnExactDiagramValue.f
      rw [if_neg h0, szDiagram_f (by omega) (by omega) hl, if_neg h]
      simp only [Option.bind_some]
      rw [if_neg h, toDiagram_f (by omega) (by omega), toIntS_f (by omega) (by omega)]
      simp only [Option.bind_some]
      rw [h1, h2]
      simp only [Option.bind_some, if_true]
      rw [eqDiagram_f (by omega) (by omega), eqIntS_f (by omega) (by omega)]
      simp

end Go.Proofs.Ythcegdgffdppgaa.Pure
