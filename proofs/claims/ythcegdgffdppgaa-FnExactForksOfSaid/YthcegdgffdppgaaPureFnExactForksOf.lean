/- The law on ForksOf holds for all arguments: the program tells what the reference tells, and leaves its argument as it was.
Conditions: none. -/
import Derived.Test.YthcegdgffdppgaaXFnExactForksOfx8
import Derived.Test.YthcegdgffdppgaaXLib2
namespace Go.Proofs.Ythcegdgffdppgaa.Pure
open Go.RowKit Go.Proofs.Ythcegdgffdppgaa.XFnExactForksOf Go.Proofs.YthcegdgffdppgaaW.PrintWords Go.Proofs.YthcegdgffdppgaaW.PrintLast Go.Proofs.YthcegdgffdppgaaW.PrintMore Go.Proofs.YthcegdgffdppgaaX
set_option linter.unusedVariables false
set_option linter.unusedSimpArgs false

theorem rdT63_nat (xs : List S63) (i : Nat) : rd_T63 xs (i : Int) = xs.getD i z63 := by
  unfold rd_T63
  simp

theorem rdT45_nat (xs : List S45) (i : Nat) : rd_T45 xs (i : Int) = xs.getD i z45 := by
  unfold rd_T45
  simp

theorem szForkS_f {l : List S63} {a : Int} (h0 : 0 ≤ a) (h1 : a ≤ 1048576) (hl : l.length ≤ 9223372036854775807) : laws_szForkS.f l a = some (if a - (l.length : Int) < 0 then -1 else a - (l.length : Int)) := by
  unfold laws_szForkS.f
  rw [wrap_id (by omega) (by omega)]
  by_cases h : a - (l.length : Int) < 0
  · rw [if_pos h, if_pos h]
  · rw [if_neg h, if_neg h]

theorem szDiagram_f {b : Int} {l} {a : Int} (h0 : 0 ≤ a) (h1 : a ≤ 1048576) (hl : l.length ≤ 9223372036854775807) : laws_szDiagram.f b l a = some (if a - (l.length : Int) < 0 then -1 else a - (l.length : Int)) := by
  unfold laws_szDiagram.f
  rw [szForkS_f h0 h1 hl]
  simp only [Option.bind_some]
  by_cases h : a - (l.length : Int) < 0
  · rw [if_pos h, if_pos (by decide)]
  · rw [if_neg h, if_neg h]

def cFork (x : S63) : S45 := ⟨x.f0, x.f1, x.f2⟩
theorem toForkS_f {k : Nat} {l : List S63} (hk : l.length < k) (hm : l.length ≤ 11728124029610) : laws_toForkS.f k l = some (l.map cFork) := by
  unfold laws_toForkS.f
  rw [if_pos (by omega), if_pos (by omega)]
  refine run_inv (fun k (s : List S45) i => laws_toForkS.l0 k l s (i : Int)) l.length (fun i s => s.length = l.length ∧ ∀ j, j < i → s.getD j z45 = (l.map cFork).getD j z45) _ ?_ ?_ k 0 _ (Nat.zero_le _) (by omega) ⟨by simp, fun j hj => absurd hj (Nat.not_lt_zero j)⟩
  · intro k i s hi ⟨hl, hs⟩
    refine Or.inr ⟨s.set i (cFork (l.getD i z63)), ?_, by simpa using hl, fun j hj => ?_⟩
    · simp only [laws_toForkS.l0]
      rw [if_pos (by omega), if_pos (by omega)]
      simp only [laws_toFork.f, Option.bind_some, rdT63_nat]
      rw [if_pos (by omega), wrap_id (by omega) (by omega)]
      rfl
    · rw [getD_set _ _ _ _ _ (by omega)]
      by_cases e : j = i
      · rw [if_pos e, e]
        simp [List.getD_eq_getElem?_getD, hi]
      · rw [if_neg e]
        exact hs j (by omega)
  · intro k s ⟨hl, hs⟩
    simp only [laws_toForkS.l0]
    rw [if_neg (by omega), ext_getD (d := z45) (s := s) (l := l.map cFork) (by simpa using hl) (fun j hj => hs j (by simpa using hj))]

theorem toDiagram_f {k : Nat} {a : Int} {l} (hk : l.length < k) (hm : l.length ≤ 1048576) : laws_toDiagram.f k a l = some (a, l.map cFork) := by
  unfold laws_toDiagram.f
  rw [toForkS_f hk (by omega)]
  rfl

theorem eqForkS_f {k : Nat} {l : List S45} (hk : l.length < k) (hm : l.length ≤ 35184372088832) : laws_eqForkS.f k l l = some true := by
  unfold laws_eqForkS.f
  rw [if_pos rfl]
  refine run_inv (fun k (_ : Unit) i => laws_eqForkS.l0 k l l (i : Int)) l.length (fun _ _ => True) _ ?_ ?_ k 0 () (Nat.zero_le _) (by omega) trivial
  · intro k i _ hi _
    refine Or.inr ⟨(), ?_, trivial⟩
    simp only [laws_eqForkS.l0]
    rw [if_pos (by omega), if_pos (by omega), if_pos (by omega), wrap_id (by omega) (by omega)]
    simp only [laws_eqFork.f, if_true, Option.bind_some]
    rfl
  · intro k _ _
    simp only [laws_eqForkS.l0]
    rw [if_neg (by omega)]

theorem eqDiagram_f {k : Nat} {a : Int} {l} (hk : l.length < k) (hm : l.length ≤ 1048576) : laws_eqDiagram.f k a l a l = some true := by
  unfold laws_eqDiagram.f
  rw [if_pos rfl, eqForkS_f hk (by omega)]
  rfl

theorem l1In_f (n a b : Int) : spec_l1In.f n a b = some (inB a b n) := by
  unfold spec_l1In.f inB
  by_cases h : n ≥ a
  · rw [if_pos h]; congr 1; simp; omega
  · rw [if_neg h, decide_eq_false (by omega)]

def vr (a : Int) (l : List S45) (n : Int) : Int := if n < 2 then a else (l.getD (n - 2).toNat z45).f0
def frk (a : Int) (l : List S45) (j : Nat) : Bool := inB 0 (a - 1) (l.getD j z45).f0 && (inB 0 ((j : Int) + 1) (l.getD j z45).f1 && (inB 0 ((j : Int) + 1) (l.getD j z45).f2 && (decide (vr a l (l.getD j z45).f1 > (l.getD j z45).f0) && decide (vr a l (l.getD j z45).f2 > (l.getD j z45).f0))))
def eqT (x y : S45) : Bool := x.f0 == y.f0 && (x.f1 == y.f1 && (x.f2 == y.f2))
def okD (a : Int) (l : List S45) (j : Nat) : Bool := frk a l j && (!decide ((l.getD j z45).f1 = (l.getD j z45).f2) && decide (∀ q, q < j → eqT (l.getD q z45) (l.getD j z45) = false))
def dvOK (a : Int) (l : List S45) : Bool := inB 0 12 a && (!decide ((l.length : Int) > 2000) && decide (∀ j, j < l.length → okD a l j = true))
theorem l8Var_f {a : Int} {l : List S45} {n : Int} (h0 : 0 ≤ n) (h1 : n < (l.length : Int) + 2) (hl : l.length ≤ 1048576) : spec_l8Var.f a l n = some (vr a l n) := by
  unfold spec_l8Var.f vr
  by_cases h : n < 2
  · rw [if_pos h, if_pos h]
  · rw [if_neg h, if_neg h, wrap_id (x := n - 2) (by omega) (by omega), if_pos (by omega), if_pos (by omega)]
    rfl
theorem l8Fork_f {k : Nat} {a : Int} {l : List S45} {j : Nat} (hk : 0 < k) (ha : 0 ≤ a ∧ a ≤ 12) (hj : j < l.length) (hl : l.length ≤ 1048576) : spec_l8Fork.f k a l (l.getD j z45).f0 (l.getD j z45).f1 (l.getD j z45).f2 ((j : Int) + 1) = some (frk a l j) := by
  obtain ⟨k, rfl⟩ : ∃ m, k = m + 1 := ⟨k - 1, by omega⟩
  unfold spec_l8Fork.f frk
  rw [wrap_id (x := a - 1) (by omega) (by omega), l1In_f]
  simp only [Option.bind_some, l1In_f, spec_l8Fork.j0]
  cases inB 0 (a - 1) (l.getD j z45).f0 with
  | false => rfl
  | true =>
    simp only [if_true, Bool.true_and]
    cases h1 : inB 0 ((j : Int) + 1) (l.getD j z45).f1 with
    | false => rfl
    | true =>
      simp only [if_true, Bool.true_and]
      cases h2 : inB 0 ((j : Int) + 1) (l.getD j z45).f2 with
      | false => rfl
      | true =>
        have h1 : 0 ≤ (l.getD j z45).f1 ∧ (l.getD j z45).f1 ≤ (j : Int) + 1 := of_decide_eq_true h1
        have h2 : 0 ≤ (l.getD j z45).f2 ∧ (l.getD j z45).f2 ≤ (j : Int) + 1 := of_decide_eq_true h2
        simp only [Bool.not_true, Bool.false_eq_true, if_false, Bool.true_and]
        rw [l8Var_f h1.1 (by omega) hl]
        simp only [Option.bind_some]
        by_cases h3 : vr a l (l.getD j z45).f1 > (l.getD j z45).f0
        · rw [if_pos h3, l8Var_f h2.1 (by omega) hl, decide_eq_true h3]
          rfl
        · rw [if_neg h3, decide_eq_false h3]
          rfl
theorem dv_loop {a : Int} {l : List S45} (ha : 0 ≤ a ∧ a ≤ 12) (hl : l.length ≤ 1048576) : ∀ d i, i + d = l.length → ∃ K, ∀ k, K ≤ k → spec_DiagramValid.l0 k (i : Int) a l = some (decide (∀ j, j < l.length → i ≤ j → okD a l j = true)) := by
  intro d
  induction d with
  | zero =>
    intro i hi
    refine ⟨1, fun k hk => ?_⟩
    obtain ⟨k, rfl⟩ : ∃ m, k = m + 1 := ⟨k - 1, by omega⟩
    simp only [spec_DiagramValid.l0]
    rw [if_neg (by omega), decide_eq_true (fun j h2 h1 => absurd h2 (by omega))]
  | succ d ih =>
    intro i hi
    obtain ⟨K, hK⟩ := ih (i + 1) (by omega)
    refine ⟨K + i + 20, fun k hk => ?_⟩
    have step : (∀ j, j < l.length → i ≤ j → okD a l j = true) ↔ (okD a l i = true ∧ ∀ j, j < l.length → i + 1 ≤ j → okD a l j = true) :=
      ⟨fun h => ⟨h i (by omega) (Nat.le_refl _), fun j h2 h1 => h j h2 (by omega)⟩, fun h j h2 h1 => if e : j = i then by rw [e]; exact h.1 else h.2 j h2 (by omega)⟩
    obtain ⟨k, rfl⟩ : ∃ m, k = m + 1 := ⟨k - 1, by omega⟩
    simp only [spec_DiagramValid.l0]
    rw [if_pos (by omega), if_pos (by omega), wrap_id (x := (i : Int) + 1) (by omega) (by omega)]
    simp only [rdT45_nat]
    rw [l8Fork_f (by omega) ha (by omega) hl]
    simp only [Option.bind_some]
    cases hf : frk a l i with
    | false =>
      rw [if_neg (by decide)]
      obtain ⟨k, rfl⟩ : ∃ m, k = m + 1 := ⟨k - 1, by omega⟩
      simp only [spec_DiagramValid.j2, if_true]
      rw [decide_eq_false (fun h => by have := (step.1 h).1; unfold okD at this; rw [hf] at this; cases this)]
    | true =>
      rw [if_pos rfl]
      obtain ⟨k, rfl⟩ : ∃ m, k = m + 1 := ⟨k - 1, by omega⟩
      by_cases he : (l.getD i z45).f1 = (l.getD i z45).f2
      · simp only [spec_DiagramValid.j2, beq_iff_eq.mpr he, if_true]
        rw [decide_eq_false (fun h => by have := (step.1 h).1; unfold okD at this; rw [decide_eq_true he, hf] at this; cases this)]
      · have hb : ((l.getD i z45).f1 == (l.getD i z45).f2) = false := beq_eq_false_iff_ne.mpr he
        simp only [spec_DiagramValid.j2, hb, Bool.false_eq_true, if_false]
        by_cases hq : ∀ q, q < i → eqT (l.getD q z45) (l.getD i z45) = false
        · have hok : okD a l i = true := by unfold okD; rw [hf, decide_eq_false he, decide_eq_true hq]; rfl
          obtain ⟨k, rfl⟩ : ∃ m, k = m + (i + 1) := ⟨k - (i + 1), by omega⟩
          refine (run_goto (fun k (_ : Unit) q => spec_DiagramValid.l1 k (i : Int) (q : Int) a l (l.getD i z45).f0 (l.getD i z45).f1 (l.getD i z45).f2) i (fun _ _ => True) (fun k => spec_DiagramValid.l0 k (wrap64 ((i : Int) + 1)) a l) ?_ ?_ i k 0 () (by omega) trivial).trans ?_
          · intro k q _ hqi _
            refine ⟨(), ?_, trivial⟩
            have := hq q hqi
            unfold eqT at this
            simp only [spec_DiagramValid.l1, rdT45_nat]
            rw [if_pos (by omega), if_pos (by omega), if_pos (by omega), this, if_neg (by decide), wrap_id (x := (q : Int) + 1) (by omega) (by omega)]
            rfl
          · intro k _ _
            simp only [spec_DiagramValid.l1]
            rw [if_neg (by omega)]
          · rw [wrap_id (x := (i : Int) + 1) (by omega) (by omega)]
            refine (hK k (by omega)).trans ?_
            congr 1
            rw [Bool.eq_iff_iff, decide_eq_true_iff, decide_eq_true_iff, step]
            exact ⟨fun h => ⟨hok, h⟩, fun h => h.2⟩
        · rw [decide_eq_false (fun h => by have := (step.1 h).1; unfold okD at this; rw [decide_eq_false hq, decide_eq_false he, hf] at this; cases this)]
          refine run_inv (fun k (_ : Unit) q => spec_DiagramValid.l1 k (i : Int) (q : Int) a l (l.getD i z45).f0 (l.getD i z45).f1 (l.getD i z45).f2) i (fun q _ => ∀ q', q' < q → eqT (l.getD q' z45) (l.getD i z45) = false) false ?_ ?_ k 0 () (Nat.zero_le _) (by omega) (fun q' h => absurd h (Nat.not_lt_zero _))
          · intro k q _ hqi hs
            simp only [spec_DiagramValid.l1, rdT45_nat]
            rw [if_pos (by omega), if_pos (by omega), if_pos (by omega), wrap_id (x := (q : Int) + 1) (by omega) (by omega)]
            cases hh : eqT (l.getD q z45) (l.getD i z45) with
            | true => left; unfold eqT at hh; rw [if_pos hh]
            | false =>
              refine Or.inr ⟨(), ?_, fun q' h => if e : q' = q then by rw [e]; exact hh else hs q' (by omega)⟩
              unfold eqT at hh
              rw [hh, if_neg (by decide)]
              rfl
          · intro k _ hs
            exact absurd hs hq
theorem spec_DiagramValid_f {a : Int} {l : List S45} (hl : l.length ≤ 1048576) : ∃ K, ∀ k, K ≤ k → spec_DiagramValid.f k a l = some (dvOK a l) := by
  unfold dvOK
  by_cases ha : 0 ≤ a ∧ a ≤ 12
  · obtain ⟨K, hK⟩ := dv_loop (a := a) (l := l) ha hl l.length 0 (by omega)
    refine ⟨K + 2, fun k hk => ?_⟩
    unfold spec_DiagramValid.f
    rw [l1In_f, show inB 0 12 a = true from decide_eq_true ha]
    simp only [Option.bind_some, if_true, Bool.true_and]
    obtain ⟨k, rfl⟩ : ∃ m, k = m + 1 := ⟨k - 1, by omega⟩
    simp only [spec_DiagramValid.j0]
    by_cases h : (l.length : Int) > 2000
    · rw [if_pos (decide_eq_true h), decide_eq_true h]
      rfl
    · rw [if_neg (by simpa using h), decide_eq_false h]
      refine (hK k (by omega)).trans ?_
      simp
  · refine ⟨2, fun k hk => ?_⟩
    unfold spec_DiagramValid.f
    rw [l1In_f, show inB 0 12 a = false from decide_eq_false ha]
    obtain ⟨k, rfl⟩ : ∃ m, k = m + 1 := ⟨k - 1, by omega⟩
    simp [spec_DiagramValid.j0]

theorem dv_ok {a : Int} {l : List S45} (h : dvOK a l = true) : (0 ≤ a ∧ a ≤ 12) ∧ l.length ≤ 2000 ∧ ∀ j, j < l.length → (0 ≤ (l.getD j z45).f0 ∧ (l.getD j z45).f0 ≤ a - 1) ∧ (0 ≤ (l.getD j z45).f1 ∧ (l.getD j z45).f1 ≤ (j : Int) + 1) ∧ (0 ≤ (l.getD j z45).f2 ∧ (l.getD j z45).f2 ≤ (j : Int) + 1) ∧ vr a l (l.getD j z45).f1 > (l.getD j z45).f0 ∧ vr a l (l.getD j z45).f2 > (l.getD j z45).f0 ∧ (l.getD j z45).f1 ≠ (l.getD j z45).f2 := by
  unfold dvOK at h
  obtain ⟨h1, h2⟩ := Bool.and_eq_true_iff.1 h
  obtain ⟨h3, h4⟩ := Bool.and_eq_true_iff.1 h2
  refine ⟨of_decide_eq_true h1, ?_, fun j hj => ?_⟩
  · have : ¬ (l.length : Int) > 2000 := by simpa using h3
    omega
  · have h5 := of_decide_eq_true h4 j hj
    unfold okD frk at h5
    obtain ⟨h6, h7⟩ := Bool.and_eq_true_iff.1 h5
    obtain ⟨g1, h6⟩ := Bool.and_eq_true_iff.1 h6
    obtain ⟨g2, h6⟩ := Bool.and_eq_true_iff.1 h6
    obtain ⟨g3, h6⟩ := Bool.and_eq_true_iff.1 h6
    obtain ⟨g4, g5⟩ := Bool.and_eq_true_iff.1 h6
    obtain ⟨g6, _⟩ := Bool.and_eq_true_iff.1 h7
    exact ⟨of_decide_eq_true g1, of_decide_eq_true g2, of_decide_eq_true g3, of_decide_eq_true g4, of_decide_eq_true g5, by simpa using g6⟩
theorem l8Place_f {a : Int} {l : List S45} {n : Int} (hl : l.length ≤ 1048576) : spec_l8Place.f a l n = some (inB 0 ((l.length : Int) + 1) n) := by
  unfold spec_l8Place.f
  rw [wrap_id (x := (l.length : Int) + 1) (by omega) (by omega), l1In_f]
  rfl

theorem in_f (n a b : Int) : impl_in.f n a b = some (inB a b n) := by
  unfold impl_in.f inB
  by_cases h : n ≥ a
  · rw [if_pos h]; congr 1; simp; omega
  · rw [if_neg h, decide_eq_false (by omega)]

theorem varAt_f {a : Int} {l : List S45} {n : Int} (h0 : 0 ≤ n) (h1 : n < (l.length : Int) + 2) (hl : l.length ≤ 1048576) : impl_Diagram_varAt.f a l n = some (vr 12 l n) := by
  unfold impl_Diagram_varAt.f vr
  by_cases h : n < 2
  · rw [if_pos h, if_pos h]
  · rw [if_neg h, if_neg h, wrap_id (x := n - 2) (by omega) (by omega), if_pos (by omega), if_pos (by omega)]
    rfl
theorem vr_gt {a x n : Int} {l : List S45} (ha : a ≤ 12) (hx : x ≤ a - 1) : (vr a l n > x) ↔ ¬ (vr 12 l n ≤ x) := by
  unfold vr
  by_cases h : n < 2
  · rw [if_pos h, if_pos h]; omega
  · rw [if_neg h, if_neg h]; omega
theorem seen_iff {l : List S45} {j : Nat} (hj : j < l.length) : (impl_DiagramValid.F l j (l.getD j z45)).isSome = !decide (∀ q, q < j → eqT (l.getD q z45) (l.getD j z45) = false) := by
  have e : ((l.take j).any (impl_DiagramValid.eqS (l.getD j z45))) = !decide (∀ q, q < j → eqT (l.getD q z45) (l.getD j z45) = false) := by
    by_cases h : ∀ q, q < j → eqT (l.getD q z45) (l.getD j z45) = false
    · rw [decide_eq_true h]
      cases hh : (l.take j).any (impl_DiagramValid.eqS (l.getD j z45)) with
      | false => rfl
      | true =>
        obtain ⟨x, hx, hx2⟩ := List.any_eq_true.1 hh
        obtain ⟨q, hq, rfl⟩ := mem_getD z45 hx
        rw [List.length_take] at hq
        have e1 : (l.take j).getD q z45 = l.getD q z45 := by rw [List.getD_eq_getElem?_getD, List.getD_eq_getElem?_getD, List.getElem?_take, if_pos (by omega)]
        rw [e1] at hx2
        have h2 := h q (by omega)
        unfold impl_DiagramValid.eqS at hx2
        obtain ⟨y1, y2, y3⟩ := of_decide_eq_true hx2
        unfold eqT at h2
        rw [← y1, ← y2, ← y3] at h2
        simp at h2
    · rw [decide_eq_false h]
      have h2 : ∃ q, q < j ∧ eqT (l.getD q z45) (l.getD j z45) = true := by
        refine Classical.byContradiction (fun hn => h (fun q hq => ?_))
        cases hh : eqT (l.getD q z45) (l.getD j z45) with
        | false => rfl
        | true => exact absurd ⟨q, hq, hh⟩ hn
      obtain ⟨q, hq, hq2⟩ := h2
      refine List.any_eq_true.2 ⟨l.getD q z45, ?_, ?_⟩
      · have hl2 : q < (l.take j).length := by rw [List.length_take]; omega
        have e1 : (l.take j).getD q z45 = l.getD q z45 := by rw [List.getD_eq_getElem?_getD, List.getD_eq_getElem?_getD, List.getElem?_take, if_pos (by omega)]
        rw [← e1]
        exact getD_mem _ _ _ hl2
      · unfold eqT at hq2
        unfold impl_DiagramValid.eqS
        simp only [Bool.and_eq_true, beq_iff_eq] at hq2
        exact decide_eq_true ⟨hq2.1.symm, hq2.2.1.symm, hq2.2.2.symm⟩
  unfold impl_DiagramValid.F
  rw [e]
  cases decide (∀ q, q < j → eqT (l.getD q z45) (l.getD j z45) = false) <;> rfl
theorem impl_ok {a : Int} {l : List S45} {j : Nat} (ha : 0 ≤ a ∧ a ≤ 12) (hj : j < l.length) (hl : l.length ≤ 1048576) : impl_DiagramValid.ok a l (j : Int) = some (okD a l j) := by
  unfold impl_DiagramValid.ok okD frk
  rw [wrap_id (x := a - 1) (by omega) (by omega), wrap_id (x := (j : Int) + 1) (by omega) (by omega)]
  simp only [rdT45_nat, in_f, Option.bind_some]
  cases h0 : inB 0 (a - 1) (l.getD j z45).f0 with
  | false => rfl
  | true =>
    simp only [if_true, Bool.true_and]
    cases h1 : inB 0 ((j : Int) + 1) (l.getD j z45).f1 with
    | false => rfl
    | true =>
      simp only [if_true, Bool.true_and]
      cases h2 : inB 0 ((j : Int) + 1) (l.getD j z45).f2 with
      | false => rfl
      | true =>
        have h0 : 0 ≤ (l.getD j z45).f0 ∧ (l.getD j z45).f0 ≤ a - 1 := of_decide_eq_true h0
        have h1 : 0 ≤ (l.getD j z45).f1 ∧ (l.getD j z45).f1 ≤ (j : Int) + 1 := of_decide_eq_true h1
        have h2 : 0 ≤ (l.getD j z45).f2 ∧ (l.getD j z45).f2 ≤ (j : Int) + 1 := of_decide_eq_true h2
        simp only [if_true, Bool.true_and]
        rw [varAt_f h1.1 (by omega) hl, varAt_f h2.1 (by omega) hl]
        simp only [Option.bind_some]
        have g1 := vr_gt (l := l) (n := (l.getD j z45).f1) ha.2 h0.2
        have g2 := vr_gt (l := l) (n := (l.getD j z45).f2) ha.2 h0.2
        by_cases he : (l.getD j z45).f1 = (l.getD j z45).f2
        · rw [if_pos he, decide_eq_true he]
          simp
        · rw [if_neg he, decide_eq_false he]
          by_cases v1 : vr 12 l (l.getD j z45).f1 ≤ (l.getD j z45).f0
          · rw [if_pos v1, decide_eq_false (fun h => g1.1 h v1)]
            rfl
          · rw [if_neg v1, decide_eq_true (g1.2 v1)]
            by_cases v2 : vr 12 l (l.getD j z45).f2 ≤ (l.getD j z45).f0
            · rw [if_pos v2, decide_eq_false (fun h => g2.1 h v2)]
              rfl
            · rw [if_neg v2, decide_eq_true (g2.2 v2), Int.toNat_natCast, seen_iff hj]
              simp
theorem impl_go {a : Int} {l : List S45} (ha : 0 ≤ a ∧ a ≤ 12) (hl : l.length ≤ 1048576) : ∀ m i, i + m = l.length → impl_DiagramValid.go a l m (i : Int) = some (decide (∀ j, j < l.length → i ≤ j → okD a l j = true)) := by
  intro m
  induction m with
  | zero =>
    intro i hi
    simp only [impl_DiagramValid.go]
    rw [decide_eq_true (fun j h2 h1 => absurd h2 (by omega))]
  | succ m ih =>
    intro i hi
    have h1 := ih (i + 1) (by omega)
    simp only [impl_DiagramValid.go]
    rw [impl_ok ha (by omega) hl]
    simp only [Option.bind_some]
    rw [show ((i : Int) + 1) = ((i + 1 : Nat) : Int) by omega]
    cases ho : okD a l i with
    | false =>
      rw [if_neg (by decide), decide_eq_false (fun h => by have := h i (by omega) (Nat.le_refl _); rw [ho] at this; cases this)]
    | true =>
      rw [if_pos rfl, h1]
      congr 1
      rw [Bool.eq_iff_iff, decide_eq_true_iff, decide_eq_true_iff]
      exact ⟨fun h j h2 h1 => if e : j = i then by rw [e]; exact ho else h j h2 (by omega), fun h j h2 h1 => h j h2 (by omega)⟩
theorem impl_DiagramValid_f {a : Int} {l : List S45} (hl : l.length ≤ 1048576) : impl_DiagramValid.f a l = some (dvOK a l) := by
  unfold impl_DiagramValid.f dvOK
  rw [in_f]
  simp only [Option.bind_some]
  by_cases ha : 0 ≤ a ∧ a ≤ 12
  · rw [show inB 0 12 a = true from decide_eq_true ha]
    simp only [if_true, Bool.true_and]
    by_cases h : (l.length : Int) > 2000
    · rw [if_pos h, decide_eq_true h]
      rfl
    · rw [if_neg h, decide_eq_false h]
      refine (impl_go ha hl l.length 0 (by omega)).trans ?_
      simp
  · rw [show inB 0 12 a = false from decide_eq_false ha]
    rfl

theorem isPlace_f {a : Int} {l : List S45} {n : Int} (hl : l.length ≤ 1048576) : impl_Diagram_isPlace.f a l n = some (inB 0 ((l.length : Int) + 1) n) := by
  unfold impl_Diagram_isPlace.f
  rw [wrap_id (x := (l.length : Int) + 1) (by omega) (by omega), in_f]
  rfl

theorem reach_eq (a : Int) (l : List S45) : ∀ k s i, spec_l8Reach.l0 k s i a l = impl_Diagram_needs.l0 k s i a l := by
  intro k
  induction k with
  | zero => intro s i; rfl
  | succ k ih =>
    intro s i
    simp only [spec_l8Reach.l0, impl_Diagram_needs.l0, ih]
theorem rdOf_nat (xs : List Bool) (i : Nat) : rdOf false xs (i : Int) = xs.getD i false := by
  unfold rdOf
  simp
theorem needs_loop {a : Int} {l : List S45} (h : dvOK a l = true) : ∀ m s, m ≤ l.length → s.length = l.length + 2 → ∃ R : List Bool, R.length = l.length + 2 ∧ ∀ k, m < k → impl_Diagram_needs.l0 k s ((m : Int) - 1) a l = some R := by
  obtain ⟨ha, hl, hf⟩ := dv_ok h
  intro m
  induction m with
  | zero =>
    intro s _ hs
    refine ⟨s, hs, fun k hk => ?_⟩
    obtain ⟨k, rfl⟩ : ∃ m, k = m + 1 := ⟨k - 1, by omega⟩
    simp only [impl_Diagram_needs.l0]
    rw [if_neg (by omega)]
  | succ m ih =>
    intro s hm hs
    obtain ⟨_, h1, h2, _, _, _⟩ := hf m (by omega)
    have e1 : (((m + 1 : Nat) : Int) - 1) = (m : Int) := by omega
    have e2 : wrap64 ((m : Int) + 2) = ((m + 2 : Nat) : Int) := by rw [wrap_id (by omega) (by omega)]; omega
    have e3 : wrap64 ((m : Int) - 1) = (m : Int) - 1 := wrap_id (by omega) (by omega)
    by_cases hn : s.getD (m + 2) false = true
    · obtain ⟨R, hR, hk⟩ := ih ((s.set ((l.getD m z45).f1).toNat true).set ((l.getD m z45).f2).toNat true) (by omega) (by simp [hs])
      refine ⟨R, hR, fun k hk2 => ?_⟩
      obtain ⟨k, rfl⟩ : ∃ m, k = m + 1 := ⟨k - 1, by omega⟩
      simp only [impl_Diagram_needs.l0, e1, e2, e3, rdOf_nat, rdT45_nat]
      rw [if_pos (by omega), if_pos (by omega), if_pos (by omega), if_pos hn, if_pos (by omega), if_pos (by omega), if_pos h1.1, if_pos (by omega), if_pos h2.1, if_pos (by omega)]
      exact hk k (by omega)
    · obtain ⟨R, hR, hk⟩ := ih s (by omega) hs
      refine ⟨R, hR, fun k hk2 => ?_⟩
      obtain ⟨k, rfl⟩ : ∃ m, k = m + 1 := ⟨k - 1, by omega⟩
      simp only [impl_Diagram_needs.l0, e1, e2, e3, rdOf_nat]
      rw [if_pos (by omega), if_pos (by omega), if_pos (by omega), if_neg hn]
      exact hk k (by omega)
theorem needs_f {a : Int} {l : List S45} {n : Int} (h : dvOK a l = true) (hn : inB 0 ((l.length : Int) + 1) n = true) : ∃ R : List Bool, R.length = l.length + 2 ∧ ∀ k, l.length < k → impl_Diagram_needs.f k a l n = some R ∧ spec_l8Reach.f k a l n = some R := by
  obtain ⟨ha, hl, hf⟩ := dv_ok h
  have hn : 0 ≤ n ∧ n ≤ (l.length : Int) + 1 := of_decide_eq_true hn
  have e2 : wrap64 ((l.length : Int) + 2) = ((l.length + 2 : Nat) : Int) := by rw [wrap_id (by omega) (by omega)]; omega
  have e3 : wrap64 ((l.length : Int) - 1) = (l.length : Int) - 1 := wrap_id (by omega) (by omega)
  obtain ⟨R, hR, hk⟩ := needs_loop h l.length ((List.replicate (l.length + 2) false).set n.toNat true) (Nat.le_refl _) (by simp)
  refine ⟨R, hR, fun k hk2 => ?_⟩
  have h1 : impl_Diagram_needs.f k a l n = some R := by
    unfold impl_Diagram_needs.f
    rw [e2, e3, if_pos (by omega), if_pos (by omega)]
    simp only [Option.bind_some, List.length_replicate, Int.toNat_natCast]
    rw [if_pos hn.1, if_pos (by omega)]
    exact hk k hk2
  refine ⟨h1, ?_⟩
  rw [← h1]
  unfold spec_l8Reach.f impl_Diagram_needs.f
  simp only [reach_eq]

def cnt (D : List Bool) : Nat := (D.filter id).length
theorem cnt_take (D : List Bool) (i : Nat) (h : i < D.length) : cnt (D.take (i + 1)) = cnt (D.take i) + (if D.getD i false = true then 1 else 0) := by
  unfold cnt
  rw [take_succ_getD D i false h, List.filter_append, List.length_append]
  cases D.getD i false <;> simp
theorem cnt_le (D : List Bool) (i : Nat) : cnt (D.take i) ≤ i := by
  unfold cnt
  have h1 := List.length_filter_le id (D.take i)
  rw [List.length_take] at h1
  omega
theorem size_f {k n : Nat} {R : List Bool} (hk : n < k) (hR : R.length = n + 2) (hn : n ≤ 1048576) : spec_l9Size.l0 k R 0 2 = some ((cnt (R.drop 2) : Nat) : Int) := by
  refine run_inv (fun k (s : Int) i => spec_l9Size.l0 k R s ((i : Int) + 2)) n (fun i s => s = ((cnt ((R.drop 2).take i) : Nat) : Int)) _ ?_ ?_ k 0 0 (Nat.zero_le _) (by omega) (by simp [cnt])
  · rintro k i s hi rfl
    have hc := cnt_take (R.drop 2) i (by rw [List.length_drop]; omega)
    have hle := cnt_le (R.drop 2) i
    have e1 : (R.drop 2).getD i false = R.getD (i + 2) false := by rw [List.getD_eq_getElem?_getD, List.getD_eq_getElem?_getD, List.getElem?_drop, Nat.add_comm]
    have e2 : ((i : Int) + 2) = ((i + 2 : Nat) : Int) := by omega
    rw [e1] at hc
    simp only [spec_l9Size.l0]
    rw [if_pos (by omega), if_pos (by omega), wrap_id (x := (i : Int) + 2 + 1) (by omega) (by omega), e2, rdOf_nat]
    by_cases hb : R.getD (i + 2) false = true
    · rw [if_pos hb] at hc
      refine Or.inr ⟨((cnt ((R.drop 2).take i) : Nat) : Int) + 1, ?_, by rw [hc]; omega⟩
      rw [if_pos hb, wrap_id (x := ((cnt ((R.drop 2).take i) : Nat) : Int) + 1) (by omega) (by omega), show (((i + 2 : Nat) : Int) + 1) = (((i + 1 : Nat) : Int) + 2) by omega]
    · rw [if_neg hb] at hc
      refine Or.inr ⟨((cnt ((R.drop 2).take i) : Nat) : Int), ?_, by rw [hc]; omega⟩
      rw [if_neg hb, show (((i + 2 : Nat) : Int) + 1) = (((i + 1 : Nat) : Int) + 2) by omega]
  · rintro k s rfl
    simp only [spec_l9Size.l0]
    rw [if_neg (by omega), List.take_of_length_le (by rw [List.length_drop]; omega)]
theorem forks_f {k : Nat} {D : List Bool} (hk : D.length < k) (hn : D.length ≤ 1048576) : impl_Diagram_forksOf.l0 k 0 D (D.length : Int) 0 = some ((cnt D : Nat) : Int) := by
  refine run_inv (fun k (s : Int) i => impl_Diagram_forksOf.l0 k s D (D.length : Int) (i : Int)) D.length (fun i s => s = ((cnt (D.take i) : Nat) : Int)) _ ?_ ?_ k 0 0 (Nat.zero_le _) (by omega) (by simp [cnt])
  · rintro k i s hi rfl
    have hc := cnt_take D i hi
    have hle := cnt_le D i
    simp only [impl_Diagram_forksOf.l0]
    rw [if_pos (by omega), if_pos (by omega), if_pos (by omega), rdOf_nat, wrap_id (x := (i : Int) + 1) (by omega) (by omega)]
    unfold impl_bit.f
    by_cases hb : D.getD i false = true
    · rw [if_pos hb] at hc
      refine Or.inr ⟨((cnt (D.take i) : Nat) : Int) + 1, ?_, by rw [hc]; omega⟩
      rw [if_pos hb]
      simp only [Option.bind_some]
      rw [wrap_id (x := ((cnt (D.take i) : Nat) : Int) + 1) (by omega) (by omega)]
      rfl
    · rw [if_neg hb] at hc
      refine Or.inr ⟨((cnt (D.take i) : Nat) : Int), ?_, by rw [hc]; omega⟩
      rw [if_neg hb]
      simp only [Option.bind_some]
      rw [wrap_id (x := ((cnt (D.take i) : Nat) : Int) + 0) (by omega) (by omega), Int.add_zero]
      rfl
  · rintro k s rfl
    simp only [impl_Diagram_forksOf.l0]
    rw [if_neg (by omega), List.take_length]
theorem forks_eq {a : Int} {l : List S45} {n : Int} (hl : l.length ≤ 1048576) : ∃ K r, ∀ k, K ≤ k → spec_ForksOf.f k a l n = some r ∧ impl_ForksOf.f k a l n = some r := by
  obtain ⟨K, hK⟩ := spec_DiagramValid_f (a := a) (l := l) hl
  cases h : dvOK a l with
  | false =>
    refine ⟨K, -1, fun k hk => ?_⟩
    unfold spec_ForksOf.f impl_ForksOf.f
    rw [hK k hk, impl_DiagramValid_f hl, h]
    exact ⟨rfl, rfl⟩
  | true =>
    cases hn : inB 0 ((l.length : Int) + 1) n with
    | false =>
      refine ⟨K, -1, fun k hk => ?_⟩
      unfold spec_ForksOf.f impl_ForksOf.f
      rw [hK k hk, impl_DiagramValid_f hl, h, l8Place_f hl, isPlace_f hl, hn]
      exact ⟨rfl, rfl⟩
    | true =>
      obtain ⟨R, hR, hk2⟩ := needs_f h hn
      refine ⟨K + l.length + 10, ((cnt (R.drop 2) : Nat) : Int), fun k hk => ?_⟩
      obtain ⟨h1, h2⟩ := hk2 k (by omega)
      have h3 := size_f (k := k) (n := l.length) (R := R) (by omega) hR hl
      have h4 := forks_f (k := k) (D := R.drop 2) (by rw [List.length_drop]; omega) (by rw [List.length_drop]; omega)
      unfold spec_ForksOf.f impl_ForksOf.f spec_l9Size.f impl_Diagram_forksOf.f
      rw [hK k (by omega), impl_DiagramValid_f hl, h, l8Place_f hl, isPlace_f hl, hn, h1, h2]
      simp only [Option.bind_some, if_true]
      rw [if_pos (by omega), h3, h4]
      exact ⟨rfl, rfl⟩
theorem FnExactForksOf : laws_FnExactForksOf.Pure := by
  intro a l n ha hl hx hn
  by_cases h : 1048576 - (l.length : Int) < 0
  · refine ⟨0, ?_⟩
    unfold laws_FnExactForksOf.f
    rw [szDiagram_f (by omega) (by omega) hl, if_pos h]
    rfl
  · have hm : (l.map cFork).length = l.length := by simp
    obtain ⟨K, r, hK⟩ := forks_eq (a := a) (l := l.map cFork) (n := n) (by omega)
    refine ⟨K + l.length + 10, ?_⟩
    obtain ⟨h1, h2⟩ := hK (K + l.length + 10) (by omega)
    unfold laws_FnExactForksOf.f
    rw [szDiagram_f (by omega) (by omega) hl, if_neg h]
    simp only [Option.bind_some]
    rw [if_neg h, toDiagram_f (by omega) (by omega)]
    simp only [Option.bind_some]
    rw [h1, h2]
    simp only [Option.bind_some, if_true]
    rw [eqDiagram_f (by omega) (by omega)]
    simp

end Go.Proofs.Ythcegdgffdppgaa.Pure
