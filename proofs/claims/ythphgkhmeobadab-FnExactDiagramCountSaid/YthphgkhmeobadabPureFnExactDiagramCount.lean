/- The law on DiagramCount holds for all arguments: the program tells what the reference tells, and leaves its argument as it was.
Conditions: none. -/
import Derived.Test.YthphgkhmeobadabXFnExactDiagramCountx7
import Derived.Test.YthphgkhmeobadabXLib2
namespace Go.Proofs.Ythphgkhmeobadab.Pure
open Go.RowKit Go.Proofs.Ythphgkhmeobadab.XFnExactDiagramCount Go.Proofs.YthphgkhmeobadabW.PrintWords Go.Proofs.YthphgkhmeobadabW.PrintLast Go.Proofs.YthphgkhmeobadabW.PrintMore Go.Proofs.YthphgkhmeobadabX
set_option linter.unusedVariables false
set_option linter.unusedSimpArgs false

theorem rdT88_nat (xs : List S88) (i : Nat) : rd_T88 xs (i : Int) = xs.getD i z88 := by
  unfold rd_T88
  simp

theorem rdT85_nat (xs : List S85) (i : Nat) : rd_T85 xs (i : Int) = xs.getD i z85 := by
  unfold rd_T85
  simp

theorem szForkS_f {l : List S88} {a : Int} (h0 : 0 ≤ a) (h1 : a ≤ 1048576) (hl : l.length ≤ 9223372036854775807) : laws_szForkS.f l a = some (if a - (l.length : Int) < 0 then -1 else a - (l.length : Int)) := by
  unfold laws_szForkS.f
  rw [wrap_id (by omega) (by omega)]
  by_cases h : a - (l.length : Int) < 0
  · rw [if_pos h, if_pos h]
  · rw [if_neg h, if_neg h]

theorem szDiagram_f {b : Int} {l} {a : Int} (h0 : 0 ≤ a) (h1 : a ≤ 1048576) (hl : l.length ≤ 9223372036854775807) : laws_szDiagram.f b l a = some (if a - (l.length : Int) < 0 then -1 else a - (l.length : Int)) := by
  unfold laws_szDiagram.f
  rw [szForkS_f h0 h1 hl]
  simp only [Option.bind_some]
  by_cases h : a - (l.length : Int) < 0
  · rw [if_pos h, if_pos (by decide)]
  · rw [if_neg h, if_neg h]

theorem l1In_f (n a b : Int) : spec_l1In.f n a b = some (inB a b n) := by
  unfold spec_l1In.f inB
  by_cases h : n ≥ a
  · rw [if_pos h]; congr 1; simp; omega
  · rw [if_neg h, decide_eq_false (by omega)]

def vr (a : Int) (l : List S85) (n : Int) : Int := if n < 2 then a else (l.getD (n - 2).toNat z85).f0
def frk (a : Int) (l : List S85) (j : Nat) : Bool := inB 0 (a - 1) (l.getD j z85).f0 && (inB 0 ((j : Int) + 1) (l.getD j z85).f1 && (inB 0 ((j : Int) + 1) (l.getD j z85).f2 && (decide (vr a l (l.getD j z85).f1 > (l.getD j z85).f0) && decide (vr a l (l.getD j z85).f2 > (l.getD j z85).f0))))
def eqT (x y : S85) : Bool := x.f0 == y.f0 && (x.f1 == y.f1 && (x.f2 == y.f2))
def okD (a : Int) (l : List S85) (j : Nat) : Bool := frk a l j && (!decide ((l.getD j z85).f1 = (l.getD j z85).f2) && decide (∀ q, q < j → eqT (l.getD q z85) (l.getD j z85) = false))
def dvOK (a : Int) (l : List S85) : Bool := inB 0 12 a && (!decide ((l.length : Int) > 2000) && decide (∀ j, j < l.length → okD a l j = true))
theorem l8Var_f {a : Int} {l : List S85} {n : Int} (h0 : 0 ≤ n) (h1 : n < (l.length : Int) + 2) (hl : l.length ≤ 1048576) : spec_l8Var.f a l n = some (vr a l n) := by
  unfold spec_l8Var.f vr
  by_cases h : n < 2
  · rw [if_pos h, if_pos h]
  · rw [if_neg h, if_neg h, wrap_id (x := n - 2) (by omega) (by omega), if_pos (by omega), if_pos (by omega)]
    rfl
theorem l8Fork_f {k : Nat} {a : Int} {l : List S85} {j : Nat} (hk : 0 < k) (ha : 0 ≤ a ∧ a ≤ 12) (hj : j < l.length) (hl : l.length ≤ 1048576) : spec_l8Fork.f k a l (l.getD j z85).f0 (l.getD j z85).f1 (l.getD j z85).f2 ((j : Int) + 1) = some (frk a l j) := by
  obtain ⟨k, rfl⟩ : ∃ m, k = m + 1 := ⟨k - 1, by omega⟩
  unfold spec_l8Fork.f frk
  rw [wrap_id (x := a - 1) (by omega) (by omega), l1In_f]
  simp only [Option.bind_some, l1In_f, spec_l8Fork.j0]
  cases inB 0 (a - 1) (l.getD j z85).f0 with
  | false => rfl
  | true =>
    simp only [if_true, Bool.true_and]
    cases h1 : inB 0 ((j : Int) + 1) (l.getD j z85).f1 with
    | false => rfl
    | true =>
      simp only [if_true, Bool.true_and]
      cases h2 : inB 0 ((j : Int) + 1) (l.getD j z85).f2 with
      | false => rfl
      | true =>
        have h1 : 0 ≤ (l.getD j z85).f1 ∧ (l.getD j z85).f1 ≤ (j : Int) + 1 := of_decide_eq_true h1
        have h2 : 0 ≤ (l.getD j z85).f2 ∧ (l.getD j z85).f2 ≤ (j : Int) + 1 := of_decide_eq_true h2
        simp only [Bool.not_true, Bool.false_eq_true, if_false, Bool.true_and]
        rw [l8Var_f h1.1 (by omega) hl]
        simp only [Option.bind_some]
        by_cases h3 : vr a l (l.getD j z85).f1 > (l.getD j z85).f0
        · rw [if_pos h3, l8Var_f h2.1 (by omega) hl, decide_eq_true h3]
          rfl
        · rw [if_neg h3, decide_eq_false h3]
          rfl
theorem dv_loop {a : Int} {l : List S85} (ha : 0 ≤ a ∧ a ≤ 12) (hl : l.length ≤ 1048576) : ∀ d i, i + d = l.length → ∃ K, ∀ k, K ≤ k → spec_DiagramValid.l0 k (i : Int) a l = some (decide (∀ j, j < l.length → i ≤ j → okD a l j = true)) := by
  intro d
  induction d with
  | zero =>
    intro i hi
    refine ⟨1, fun k hk => ?_⟩
    obtain ⟨k, rfl⟩ : ∃ m, k = m + 1 := ⟨k - 1, by omega⟩
    simp only [spec_DiagramValid.l0]
    rw [if_neg (by omega), decide_eq_true (fun j h2 h1 => absurd h2 (by omega))]
  | succ d ih =>
    intro i hi
    obtain ⟨K, hK⟩ := ih (i + 1) (by omega)
    refine ⟨K + i + 20, fun k hk => ?_⟩
    have step : (∀ j, j < l.length → i ≤ j → okD a l j = true) ↔ (okD a l i = true ∧ ∀ j, j < l.length → i + 1 ≤ j → okD a l j = true) :=
      ⟨fun h => ⟨h i (by omega) (Nat.le_refl _), fun j h2 h1 => h j h2 (by omega)⟩, fun h j h2 h1 => if e : j = i then by rw [e]; exact h.1 else h.2 j h2 (by omega)⟩
    obtain ⟨k, rfl⟩ : ∃ m, k = m + 1 := ⟨k - 1, by omega⟩
    simp only [spec_DiagramValid.l0]
    rw [if_pos (by omega), if_pos (by omega), wrap_id (x := (i : Int) + 1) (by omega) (by omega)]
    simp only [rdT85_nat]
    rw [l8Fork_f (by omega) ha (by omega) hl]
    simp only [Option.bind_some]
    cases hf : frk a l i with
    | false =>
      rw [if_neg (by decide)]
      obtain ⟨k, rfl⟩ : ∃ m, k = m + 1 := ⟨k - 1, by omega⟩
      simp only [spec_DiagramValid.j2, if_true]
      rw [decide_eq_false (fun h => by have := (step.1 h).1; unfold okD at this; rw [hf] at this; cases this)]
    | true =>
      rw [if_pos rfl]
      obtain ⟨k, rfl⟩ : ∃ m, k = m + 1 := ⟨k - 1, by omega⟩
      by_cases he : (l.getD i z85).f1 = (l.getD i z85).f2
      · simp only [spec_DiagramValid.j2, beq_iff_eq.mpr he, if_true]
        rw [decide_eq_false (fun h => by have := (step.1 h).1; unfold okD at this; rw [decide_eq_true he, hf] at this; cases this)]
      · have hb : ((l.getD i z85).f1 == (l.getD i z85).f2) = false := beq_eq_false_iff_ne.mpr he
        simp only [spec_DiagramValid.j2, hb, Bool.false_eq_true, if_false]
        by_cases hq : ∀ q, q < i → eqT (l.getD q z85) (l.getD i z85) = false
        · have hok : okD a l i = true := by unfold okD; rw [hf, decide_eq_false he, decide_eq_true hq]; rfl
          obtain ⟨k, rfl⟩ : ∃ m, k = m + (i + 1) := ⟨k - (i + 1), by omega⟩
          refine (run_goto (fun k (_ : Unit) q => spec_DiagramValid.l1 k (i : Int) (q : Int) a l (l.getD i z85).f0 (l.getD i z85).f1 (l.getD i z85).f2) i (fun _ _ => True) (fun k => spec_DiagramValid.l0 k (wrap64 ((i : Int) + 1)) a l) ?_ ?_ i k 0 () (by omega) trivial).trans ?_
          · intro k q _ hqi _
            refine ⟨(), ?_, trivial⟩
            have := hq q hqi
            unfold eqT at this
            simp only [spec_DiagramValid.l1, rdT85_nat]
            rw [if_pos (by omega), if_pos (by omega), if_pos (by omega), this, if_neg (by decide), wrap_id (x := (q : Int) + 1) (by omega) (by omega)]
            rfl
          · intro k _ _
            simp only [spec_DiagramValid.l1]
            rw [if_neg (by omega)]
          · rw [wrap_id (x := (i : Int) + 1) (by omega) (by omega)]
            refine (hK k (by omega)).trans ?_
            congr 1
            rw [Bool.eq_iff_iff, decide_eq_true_iff, decide_eq_true_iff, step]
            exact ⟨fun h => ⟨hok, h⟩, fun h => h.2⟩
        · rw [decide_eq_false (fun h => by have := (step.1 h).1; unfold okD at this; rw [decide_eq_false hq, decide_eq_false he, hf] at this; cases this)]
          refine run_inv (fun k (_ : Unit) q => spec_DiagramValid.l1 k (i : Int) (q : Int) a l (l.getD i z85).f0 (l.getD i z85).f1 (l.getD i z85).f2) i (fun q _ => ∀ q', q' < q → eqT (l.getD q' z85) (l.getD i z85) = false) false ?_ ?_ k 0 () (Nat.zero_le _) (by omega) (fun q' h => absurd h (Nat.not_lt_zero _))
          · intro k q _ hqi hs
            simp only [spec_DiagramValid.l1, rdT85_nat]
            rw [if_pos (by omega), if_pos (by omega), if_pos (by omega), wrap_id (x := (q : Int) + 1) (by omega) (by omega)]
            cases hh : eqT (l.getD q z85) (l.getD i z85) with
            | true => left; unfold eqT at hh; rw [if_pos hh]
            | false =>
              refine Or.inr ⟨(), ?_, fun q' h => if e : q' = q then by rw [e]; exact hh else hs q' (by omega)⟩
              unfold eqT at hh
              rw [hh, if_neg (by decide)]
              rfl
          · intro k _ hs
            exact absurd hs hq
theorem spec_DiagramValid_f {a : Int} {l : List S85} (hl : l.length ≤ 1048576) : ∃ K, ∀ k, K ≤ k → spec_DiagramValid.f k a l = some (dvOK a l) := by
  unfold dvOK
  by_cases ha : 0 ≤ a ∧ a ≤ 12
  · obtain ⟨K, hK⟩ := dv_loop (a := a) (l := l) ha hl l.length 0 (by omega)
    refine ⟨K + 2, fun k hk => ?_⟩
    unfold spec_DiagramValid.f
    rw [l1In_f, show inB 0 12 a = true from decide_eq_true ha]
    simp only [Option.bind_some, if_true, Bool.true_and]
    obtain ⟨k, rfl⟩ : ∃ m, k = m + 1 := ⟨k - 1, by omega⟩
    simp only [spec_DiagramValid.j0]
    by_cases h : (l.length : Int) > 2000
    · rw [if_pos (decide_eq_true h), decide_eq_true h]
      rfl
    · rw [if_neg (by simpa using h), decide_eq_false h]
      refine (hK k (by omega)).trans ?_
      simp
  · refine ⟨2, fun k hk => ?_⟩
    unfold spec_DiagramValid.f
    rw [l1In_f, show inB 0 12 a = false from decide_eq_false ha]
    obtain ⟨k, rfl⟩ : ∃ m, k = m + 1 := ⟨k - 1, by omega⟩
    simp [spec_DiagramValid.j0]

theorem dv_ok {a : Int} {l : List S85} (h : dvOK a l = true) : (0 ≤ a ∧ a ≤ 12) ∧ l.length ≤ 2000 ∧ ∀ j, j < l.length → (0 ≤ (l.getD j z85).f0 ∧ (l.getD j z85).f0 ≤ a - 1) ∧ (0 ≤ (l.getD j z85).f1 ∧ (l.getD j z85).f1 ≤ (j : Int) + 1) ∧ (0 ≤ (l.getD j z85).f2 ∧ (l.getD j z85).f2 ≤ (j : Int) + 1) ∧ vr a l (l.getD j z85).f1 > (l.getD j z85).f0 ∧ vr a l (l.getD j z85).f2 > (l.getD j z85).f0 ∧ (l.getD j z85).f1 ≠ (l.getD j z85).f2 := by
  unfold dvOK at h
  obtain ⟨h1, h2⟩ := Bool.and_eq_true_iff.1 h
  obtain ⟨h3, h4⟩ := Bool.and_eq_true_iff.1 h2
  refine ⟨of_decide_eq_true h1, ?_, fun j hj => ?_⟩
  · have : ¬ (l.length : Int) > 2000 := by simpa using h3
    omega
  · have h5 := of_decide_eq_true h4 j hj
    unfold okD frk at h5
    obtain ⟨h6, h7⟩ := Bool.and_eq_true_iff.1 h5
    obtain ⟨g1, h6⟩ := Bool.and_eq_true_iff.1 h6
    obtain ⟨g2, h6⟩ := Bool.and_eq_true_iff.1 h6
    obtain ⟨g3, h6⟩ := Bool.and_eq_true_iff.1 h6
    obtain ⟨g4, g5⟩ := Bool.and_eq_true_iff.1 h6
    obtain ⟨g6, _⟩ := Bool.and_eq_true_iff.1 h7
    exact ⟨of_decide_eq_true g1, of_decide_eq_true g2, of_decide_eq_true g3, of_decide_eq_true g4, of_decide_eq_true g5, by simpa using g6⟩
theorem l8Place_f {a : Int} {l : List S85} {n : Int} (hl : l.length ≤ 1048576) : spec_l8Place.f a l n = some (inB 0 ((l.length : Int) + 1) n) := by
  unfold spec_l8Place.f
  rw [wrap_id (x := (l.length : Int) + 1) (by omega) (by omega), l1In_f]
  rfl

def cFork (x : S88) : S85 := ⟨x.f0, x.f1, x.f2⟩
theorem toForkS_f {k : Nat} {l : List S88} (hk : l.length < k) (hm : l.length ≤ 11728124029610) : laws_toForkS.f k l = some (l.map cFork) := by
  unfold laws_toForkS.f
  rw [if_pos (by omega), if_pos (by omega)]
  refine run_inv (fun k (s : List S85) i => laws_toForkS.l0 k l s (i : Int)) l.length (fun i s => s.length = l.length ∧ ∀ j, j < i → s.getD j z85 = (l.map cFork).getD j z85) _ ?_ ?_ k 0 _ (Nat.zero_le _) (by omega) ⟨by simp, fun j hj => absurd hj (Nat.not_lt_zero j)⟩
  · intro k i s hi ⟨hl, hs⟩
    refine Or.inr ⟨s.set i (cFork (l.getD i z88)), ?_, by simpa using hl, fun j hj => ?_⟩
    · simp only [laws_toForkS.l0]
      rw [if_pos (by omega), if_pos (by omega)]
      simp only [laws_toFork.f, Option.bind_some, rdT88_nat]
      rw [if_pos (by omega), wrap_id (by omega) (by omega)]
      rfl
    · rw [getD_set _ _ _ _ _ (by omega)]
      by_cases e : j = i
      · rw [if_pos e, e]
        simp [List.getD_eq_getElem?_getD, hi]
      · rw [if_neg e]
        exact hs j (by omega)
  · intro k s ⟨hl, hs⟩
    simp only [laws_toForkS.l0]
    rw [if_neg (by omega), ext_getD (d := z85) (s := s) (l := l.map cFork) (by simpa using hl) (fun j hj => hs j (by simpa using hj))]

theorem toDiagram_f {k : Nat} {a : Int} {l} (hk : l.length < k) (hm : l.length ≤ 1048576) : laws_toDiagram.f k a l = some (a, l.map cFork) := by
  unfold laws_toDiagram.f
  rw [toForkS_f hk (by omega)]
  rfl

theorem in_f (n a b : Int) : impl_in.f n a b = some (inB a b n) := by
  unfold impl_in.f inB
  by_cases h : n ≥ a
  · rw [if_pos h]; congr 1; simp; omega
  · rw [if_neg h, decide_eq_false (by omega)]

theorem varAt_f {a : Int} {l : List S85} {n : Int} (h0 : 0 ≤ n) (h1 : n < (l.length : Int) + 2) (hl : l.length ≤ 1048576) : impl_Diagram_varAt.f a l n = some (vr 12 l n) := by
  unfold impl_Diagram_varAt.f vr
  by_cases h : n < 2
  · rw [if_pos h, if_pos h]
  · rw [if_neg h, if_neg h, wrap_id (x := n - 2) (by omega) (by omega), if_pos (by omega), if_pos (by omega)]
    rfl
theorem vr_gt {a x n : Int} {l : List S85} (ha : a ≤ 12) (hx : x ≤ a - 1) : (vr a l n > x) ↔ ¬ (vr 12 l n ≤ x) := by
  unfold vr
  by_cases h : n < 2
  · rw [if_pos h, if_pos h]; omega
  · rw [if_neg h, if_neg h]; omega
theorem seen_iff {l : List S85} {j : Nat} (hj : j < l.length) : (impl_DiagramValid.F l j (l.getD j z85)).isSome = !decide (∀ q, q < j → eqT (l.getD q z85) (l.getD j z85) = false) := by
  have e : ((l.take j).any (impl_DiagramValid.eqS (l.getD j z85))) = !decide (∀ q, q < j → eqT (l.getD q z85) (l.getD j z85) = false) := by
    by_cases h : ∀ q, q < j → eqT (l.getD q z85) (l.getD j z85) = false
    · rw [decide_eq_true h]
      cases hh : (l.take j).any (impl_DiagramValid.eqS (l.getD j z85)) with
      | false => rfl
      | true =>
        obtain ⟨x, hx, hx2⟩ := List.any_eq_true.1 hh
        obtain ⟨q, hq, rfl⟩ := mem_getD z85 hx
        rw [List.length_take] at hq
        have e1 : (l.take j).getD q z85 = l.getD q z85 := by rw [List.getD_eq_getElem?_getD, List.getD_eq_getElem?_getD, List.getElem?_take, if_pos (by omega)]
        rw [e1] at hx2
        have h2 := h q (by omega)
        unfold impl_DiagramValid.eqS at hx2
        obtain ⟨y1, y2, y3⟩ := of_decide_eq_true hx2
        unfold eqT at h2
        rw [← y1, ← y2, ← y3] at h2
        simp at h2
    · rw [decide_eq_false h]
      have h2 : ∃ q, q < j ∧ eqT (l.getD q z85) (l.getD j z85) = true := by
        refine Classical.byContradiction (fun hn => h (fun q hq => ?_))
        cases hh : eqT (l.getD q z85) (l.getD j z85) with
        | false => rfl
        | true => exact absurd ⟨q, hq, hh⟩ hn
      obtain ⟨q, hq, hq2⟩ := h2
      refine List.any_eq_true.2 ⟨l.getD q z85, ?_, ?_⟩
      · have hl2 : q < (l.take j).length := by rw [List.length_take]; omega
        have e1 : (l.take j).getD q z85 = l.getD q z85 := by rw [List.getD_eq_getElem?_getD, List.getD_eq_getElem?_getD, List.getElem?_take, if_pos (by omega)]
        rw [← e1]
        exact getD_mem _ _ _ hl2
      · unfold eqT at hq2
        unfold impl_DiagramValid.eqS
        simp only [Bool.and_eq_true, beq_iff_eq] at hq2
        exact decide_eq_true ⟨hq2.1.symm, hq2.2.1.symm, hq2.2.2.symm⟩
  unfold impl_DiagramValid.F
  rw [e]
  cases decide (∀ q, q < j → eqT (l.getD q z85) (l.getD j z85) = false) <;> rfl
theorem impl_ok {a : Int} {l : List S85} {j : Nat} (ha : 0 ≤ a ∧ a ≤ 12) (hj : j < l.length) (hl : l.length ≤ 1048576) : impl_DiagramValid.ok a l (j : Int) = some (okD a l j) := by
  unfold impl_DiagramValid.ok okD frk
  rw [wrap_id (x := a - 1) (by omega) (by omega), wrap_id (x := (j : Int) + 1) (by omega) (by omega)]
  simp only [rdT85_nat, in_f, Option.bind_some]
  cases h0 : inB 0 (a - 1) (l.getD j z85).f0 with
  | false => rfl
  | true =>
    simp only [if_true, Bool.true_and]
    cases h1 : inB 0 ((j : Int) + 1) (l.getD j z85).f1 with
    | false => rfl
    | true =>
      simp only [if_true, Bool.true_and]
      cases h2 : inB 0 ((j : Int) + 1) (l.getD j z85).f2 with
      | false => rfl
      | true =>
        have h0 : 0 ≤ (l.getD j z85).f0 ∧ (l.getD j z85).f0 ≤ a - 1 := of_decide_eq_true h0
        have h1 : 0 ≤ (l.getD j z85).f1 ∧ (l.getD j z85).f1 ≤ (j : Int) + 1 := of_decide_eq_true h1
        have h2 : 0 ≤ (l.getD j z85).f2 ∧ (l.getD j z85).f2 ≤ (j : Int) + 1 := of_decide_eq_true h2
        simp only [if_true, Bool.true_and]
        rw [varAt_f h1.1 (by omega) hl, varAt_f h2.1 (by omega) hl]
        simp only [Option.bind_some]
        have g1 := vr_gt (l := l) (n := (l.getD j z85).f1) ha.2 h0.2
        have g2 := vr_gt (l := l) (n := (l.getD j z85).f2) ha.2 h0.2
        by_cases he : (l.getD j z85).f1 = (l.getD j z85).f2
        · rw [if_pos he, decide_eq_true he]
          simp
        · rw [if_neg he, decide_eq_false he]
          by_cases v1 : vr 12 l (l.getD j z85).f1 ≤ (l.getD j z85).f0
          · rw [if_pos v1, decide_eq_false (fun h => g1.1 h v1)]
            rfl
          · rw [if_neg v1, decide_eq_true (g1.2 v1)]
            by_cases v2 : vr 12 l (l.getD j z85).f2 ≤ (l.getD j z85).f0
            · rw [if_pos v2, decide_eq_false (fun h => g2.1 h v2)]
              rfl
            · rw [if_neg v2, decide_eq_true (g2.2 v2), Int.toNat_natCast, seen_iff hj]
              simp
theorem impl_go {a : Int} {l : List S85} (ha : 0 ≤ a ∧ a ≤ 12) (hl : l.length ≤ 1048576) : ∀ m i, i + m = l.length → impl_DiagramValid.go a l m (i : Int) = some (decide (∀ j, j < l.length → i ≤ j → okD a l j = true)) := by
  intro m
  induction m with
  | zero =>
    intro i hi
    simp only [impl_DiagramValid.go]
    rw [decide_eq_true (fun j h2 h1 => absurd h2 (by omega))]
  | succ m ih =>
    intro i hi
    have h1 := ih (i + 1) (by omega)
    simp only [impl_DiagramValid.go]
    rw [impl_ok ha (by omega) hl]
    simp only [Option.bind_some]
    rw [show ((i : Int) + 1) = ((i + 1 : Nat) : Int) by omega]
    cases ho : okD a l i with
    | false =>
      rw [if_neg (by decide), decide_eq_false (fun h => by have := h i (by omega) (Nat.le_refl _); rw [ho] at this; cases this)]
    | true =>
      rw [if_pos rfl, h1]
      congr 1
      rw [Bool.eq_iff_iff, decide_eq_true_iff, decide_eq_true_iff]
      exact ⟨fun h j h2 h1 => if e : j = i then by rw [e]; exact ho else h j h2 (by omega), fun h j h2 h1 => h j h2 (by omega)⟩
theorem impl_DiagramValid_f {a : Int} {l : List S85} (hl : l.length ≤ 1048576) : impl_DiagramValid.f a l = some (dvOK a l) := by
  unfold impl_DiagramValid.f dvOK
  rw [in_f]
  simp only [Option.bind_some]
  by_cases ha : 0 ≤ a ∧ a ≤ 12
  · rw [show inB 0 12 a = true from decide_eq_true ha]
    simp only [if_true, Bool.true_and]
    by_cases h : (l.length : Int) > 2000
    · rw [if_pos h, decide_eq_true h]
      rfl
    · rw [if_neg h, decide_eq_false h]
      refine (impl_go ha hl l.length 0 (by omega)).trans ?_
      simp
  · rw [show inB 0 12 a = false from decide_eq_false ha]
    rfl

theorem isPlace_f {a : Int} {l : List S85} {n : Int} (hl : l.length ≤ 1048576) : impl_Diagram_isPlace.f a l n = some (inB 0 ((l.length : Int) + 1) n) := by
  unfold impl_Diagram_isPlace.f
  rw [wrap_id (x := (l.length : Int) + 1) (by omega) (by omega), in_f]
  rfl

theorem eqForkS_f {k : Nat} {l : List S85} (hk : l.length < k) (hm : l.length ≤ 35184372088832) : laws_eqForkS.f k l l = some true := by
  unfold laws_eqForkS.f
  rw [if_pos rfl]
  refine run_inv (fun k (_ : Unit) i => laws_eqForkS.l0 k l l (i : Int)) l.length (fun _ _ => True) _ ?_ ?_ k 0 () (Nat.zero_le _) (by omega) trivial
  · intro k i _ hi _
    refine Or.inr ⟨(), ?_, trivial⟩
    simp only [laws_eqForkS.l0]
    rw [if_pos (by omega), if_pos (by omega), if_pos (by omega), wrap_id (by omega) (by omega)]
    simp only [laws_eqFork.f, if_true, Option.bind_some]
    rfl
  · intro k _ _
    simp only [laws_eqForkS.l0]
    rw [if_neg (by omega)]

theorem eqDiagram_f {k : Nat} {a : Int} {l} (hk : l.length < k) (hm : l.length ≤ 1048576) : laws_eqDiagram.f k a l a l = some true := by
  unfold laws_eqDiagram.f
  rw [if_pos rfl, eqForkS_f hk (by omega)]
  rfl

theorem shl_nat (w j : Nat) (hj : j ≤ 12) (hw : w * 2 ^ j ≤ 4096) : shl .i64 (w : Int) (j : Int) = ((w * 2 ^ j : Nat) : Int) := by
  unfold shl
  rw [Int.toNat_natCast, show IntKind.i64.bits = 64 from rfl, Nat.min_eq_left (by omega), IntKind.wrap_i64]
  have h2 : ((w : Int) * 2 ^ j) = ((w * 2 ^ j : Nat) : Int) := by simp
  rw [h2]
  generalize w * 2 ^ j = q at hw
  omega
theorem vr_rd {a : Int} {l : List S85} {x : Int} (h0 : 0 ≤ x) : vr a l (x + 2) = (rd_T85 l x).f0 := by
  unfold vr rd_T85
  rw [if_neg (by omega), Int.add_sub_cancel]
theorem ok_of {a : Int} {l : List S85} (h : dvOK a l = true) : impl_DiagramCount.ok a l = true := by
  obtain ⟨h1, h2, h3⟩ := dv_ok h
  unfold impl_DiagramCount.ok
  rw [Bool.and_eq_true_iff]
  refine ⟨decide_eq_true ⟨h1.1, h1.2, h2⟩, List.all_eq_true.2 fun i hi => ?_⟩
  obtain ⟨g1, g2, g3, g4, g5, -⟩ := h3 i (List.mem_range.1 hi)
  unfold impl_DiagramCount.okAt
  refine decide_eq_true ?_
  have e : ∀ y : Int, rd_T85 l y = l.getD y.toNat z85 := fun _ => rfl
  rw [show rd_T85 l (i : Int) = l.getD i z85 from by rw [e]; simp]
  refine ⟨g1.1, by omega, g2.1, by omega, g3.1, by omega, fun hq => ?_, fun hq => ?_⟩
  · unfold vr at g4
    rw [if_neg (by omega)] at g4
    rw [e]
    exact g4
  · unfold vr at g5
    rw [if_neg (by omega)] at g5
    rw [e]
    exact g5
theorem pow_split (w p q : Nat) (h : w ≤ 2 ^ q) : w * 2 ^ p ≤ 2 ^ (q + p) := by
  rw [Nat.pow_add]
  exact Nat.mul_le_mul_right _ h
theorem pow_12 {r s : Nat} (h : r + s ≤ 12) {w : Nat} (hw : w ≤ 2 ^ s) (v : Nat) (hv : v ≤ r) : w * 2 ^ (r - v) ≤ 4096 := by
  have h1 := pow_split w (r - v) s hw
  have h2 : 2 ^ (s + (r - v)) ≤ 2 ^ 12 := Nat.pow_le_pow_right (by decide) (by omega)
  have h3 : (2 : Nat) ^ 12 = 4096 := by decide
  omega
theorem key {V : Int} {l : List S85} (h : dvOK V l = true) : ∀ (b : Nat) (n : Int), 0 ≤ n → n < (b : Int) → n < (l.length : Int) + 2 →
    ∃ w r s : Nat, vr V l n = (r : Int) ∧ V = ((r + s : Nat) : Int) ∧ w ≤ 2 ^ s ∧ (∀ k, b < k → ∀ v : Nat, v ≤ r → spec_l8Count.f k V l n (v : Int) = some ((w * 2 ^ (r - v) : Nat) : Int)) ∧ ∀ m, impl_DiagramCount.dep V l n ≤ m → impl_DiagramCount.cnt V l m n = ((w * 2 ^ r : Nat) : Int) := by
  obtain ⟨h1, h2, h3⟩ := dv_ok h
  obtain ⟨V, rfl⟩ : ∃ m : Nat, V = (m : Int) := ⟨V.toNat, by omega⟩
  intro b
  induction b with
  | zero =>
    intro n h0 hb
    omega
  | succ b ih =>
    intro n h0 hb hn
    by_cases c : n < 2
    · obtain ⟨w, rfl⟩ : ∃ m : Nat, n = (m : Int) := ⟨n.toNat, by omega⟩
      have hw : w ≤ 2 ^ 0 := by
        rw [Nat.pow_zero]
        omega
      refine ⟨w, V, 0, ?_, by simp, hw, fun k hk v hv => ?_, fun m _ => ?_⟩
      · unfold vr
        rw [if_pos c]
      · obtain ⟨k, rfl⟩ : ∃ m, k = m + 1 := ⟨k - 1, by omega⟩
        rw [spec_l8Count.f, if_pos c, wrap_id (x := (V : Int) - (v : Int)) (by omega) (by omega), if_pos (by omega), show (V : Int) - (v : Int) = ((V - v : Nat) : Int) from by omega, shl_nat w (V - v) (by omega) (pow_12 (s := 0) (by omega) hw v hv)]
      · have e : shl .i64 (w : Int) (V : Int) = ((w * 2 ^ V : Nat) : Int) := shl_nat w V (by omega) (pow_12 (r := V) (s := 0) (by omega) hw 0 (by omega))
        cases m with
        | zero => rw [impl_DiagramCount.cnt, e]
        | succ m => rw [impl_DiagramCount.cnt, if_pos c, e]
    · obtain ⟨x, rfl⟩ : ∃ x, n = x + 2 := ⟨n - 2, by omega⟩
      have hok := ok_of h
      have q := impl_DiagramCount.ok_at hok x (by omega) (by omega)
      have d := impl_DiagramCount.dep_lt hok x (by omega) (by omega)
      obtain ⟨j, rfl⟩ : ∃ m : Nat, x = (m : Int) := ⟨x.toNat, by omega⟩
      obtain ⟨-, -, -, g4, g5, -⟩ := h3 j (by omega)
      have e0 : rd_T85 l (j : Int) = l.getD j z85 := by unfold rd_T85; simp
      rw [← e0] at g4 g5
      obtain ⟨w1, r1, s1, a1, a2, a3, a4, a5⟩ := ih (rd_T85 l (j : Int)).f1 q.2.2.1 (by omega) (by omega)
      obtain ⟨w2, r2, s2, b1, b2, b3, b4, b5⟩ := ih (rd_T85 l (j : Int)).f2 q.2.2.2.2.1 (by omega) (by omega)
      obtain ⟨X, hX⟩ : ∃ m : Nat, (rd_T85 l (j : Int)).f0 = (m : Int) := ⟨(rd_T85 l (j : Int)).f0.toNat, by omega⟩
      rw [a1, hX] at g4
      rw [b1, hX] at g5
      obtain ⟨p1, rfl⟩ : ∃ p, r1 = X + 1 + p := ⟨r1 - X - 1, by omega⟩
      obtain ⟨p2, rfl⟩ : ∃ p, r2 = X + 1 + p := ⟨r2 - X - 1, by omega⟩
      have f1 := pow_split w1 p1 s1 a3
      have f2 := pow_split w2 p2 s2 b3
      have es : s2 + p2 = s1 + p1 := by omega
      rw [es] at f2
      have hw : w1 * 2 ^ p1 + w2 * 2 ^ p2 ≤ 2 ^ (s1 + p1 + 1) := by
        rw [Nat.pow_succ]
        omega
      have hV : X + (s1 + p1 + 1) ≤ 12 := by omega
      refine ⟨w1 * 2 ^ p1 + w2 * 2 ^ p2, X, s1 + p1 + 1, by rw [vr_rd (by omega), hX], by omega, hw, fun k hk v hv => ?_, fun m hm => ?_⟩
      · obtain ⟨k, rfl⟩ : ∃ m, k = m + 1 := ⟨k - 1, by omega⟩
        have k1 := a4 k (by omega) (X + 1) (by omega)
        have k2 := b4 k (by omega) (X + 1) (by omega)
        have bnd := pow_12 (r := X) (s := s1 + p1 + 1) hV hw v hv
        have bnd2 := pow_12 (r := X) (s := s1 + p1 + 1) hV hw X (Nat.le_refl _)
        rw [Nat.sub_self, Nat.pow_zero, Nat.mul_one] at bnd2
        rw [show X + 1 + p1 - (X + 1) = p1 from by omega] at k1
        rw [show X + 1 + p2 - (X + 1) = p2 from by omega] at k2
        rw [spec_l8Count.f, if_neg c, Int.add_sub_cancel, wrap_id (x := (j : Int)) (by omega) (by omega), if_pos (by omega), if_pos (by omega), hX, wrap_id (x := (X : Int) + 1) (by omega) (by omega), show (X : Int) + 1 = ((X + 1 : Nat) : Int) from by omega, k1]
        simp only [Option.bind_some]
        rw [k2]
        simp only [Option.bind_some]
        rw [wrap_id (x := (X : Int) - (v : Int)) (by omega) (by omega), if_pos (by omega), show ((w1 * 2 ^ p1 : Nat) : Int) + ((w2 * 2 ^ p2 : Nat) : Int) = ((w1 * 2 ^ p1 + w2 * 2 ^ p2 : Nat) : Int) from by omega, wrap_id (by omega) (by omega), show (X : Int) - (v : Int) = ((X - v : Nat) : Int) from by omega, shl_nat _ _ (by omega) bnd]
      · obtain ⟨m, rfl⟩ : ∃ q, m = q + 1 := ⟨m - 1, by omega⟩
        have k1 := a5 m (by omega)
        have k2 := b5 m (by omega)
        have bnd := pow_12 (r := X) (s := s1 + p1 + 1) hV hw 0 (by omega)
        rw [Nat.sub_zero] at bnd
        have e1 : w1 * 2 ^ (X + 1 + p1) + w2 * 2 ^ (X + 1 + p2) = 2 * ((w1 * 2 ^ p1 + w2 * 2 ^ p2) * 2 ^ X) := by
          have t1 : w1 * 2 ^ (X + 1 + p1) = 2 * (w1 * 2 ^ p1 * 2 ^ X) := by
            rw [show X + 1 + p1 = X + p1 + 1 from by omega, Nat.pow_succ, Nat.pow_add]
            ac_rfl
          have t2 : w2 * 2 ^ (X + 1 + p2) = 2 * (w2 * 2 ^ p2 * 2 ^ X) := by
            rw [show X + 1 + p2 = X + p2 + 1 from by omega, Nat.pow_succ, Nat.pow_add]
            ac_rfl
          rw [t1, t2, Nat.add_mul]
          omega
        rw [impl_DiagramCount.cnt, if_neg c, Int.add_sub_cancel, k1, k2]
        generalize (w1 * 2 ^ p1 + w2 * 2 ^ p2) * 2 ^ X = Z at bnd e1 ⊢
        rw [show ((w1 * 2 ^ (X + 1 + p1) : Nat) : Int) + ((w2 * 2 ^ (X + 1 + p2) : Nat) : Int) = ((2 * Z : Nat) : Int) from by omega, wrap_id (x := ((2 * Z : Nat) : Int)) (by omega) (by omega), Int.tdiv_eq_ediv_of_nonneg (by omega), wrap_id (x := ((2 * Z : Nat) : Int) / 2) (by omega) (by omega)]
        omega
theorem count_eq {a : Int} {l : List S85} {n : Int} (hl : l.length ≤ 1048576) : ∃ K r, ∀ k, K ≤ k → spec_DiagramCount.f k a l n = some r ∧ impl_DiagramCount.f a l n = some r := by
  obtain ⟨K, hK⟩ := spec_DiagramValid_f (a := a) (l := l) hl
  unfold impl_DiagramCount.f
  rw [impl_DiagramValid_f hl]
  simp only [Option.bind_some]
  cases h : dvOK a l with
  | false =>
    refine ⟨K, -1, fun k hk => ?_⟩
    unfold spec_DiagramCount.f
    rw [hK k hk, h]
    exact ⟨rfl, rfl⟩
  | true =>
    rw [isPlace_f hl]
    simp only [Option.bind_some, if_true]
    cases hn : inB 0 ((l.length : Int) + 1) n with
    | false =>
      refine ⟨K, -1, fun k hk => ?_⟩
      unfold spec_DiagramCount.f
      rw [hK k hk, h, l8Place_f hl, hn]
      exact ⟨rfl, rfl⟩
    | true =>
      have hb : 0 ≤ n ∧ n ≤ (l.length : Int) + 1 := of_decide_eq_true hn
      obtain ⟨w, r, s, e1, e2, e3, e4, e5⟩ := key h (l.length + 2) n hb.1 (by omega) (by omega)
      have hd : impl_DiagramCount.dep a l n ≤ 13 := by
        unfold impl_DiagramCount.dep
        split
        · omega
        · have := (dv_ok h).1
          have := impl_DiagramCount.ok_at (ok_of h) (n - 2) (by omega) (by omega)
          omega
      refine ⟨K + l.length + 5, ((w * 2 ^ r : Nat) : Int), fun k hk => ?_⟩
      have e6 := e4 k (by omega) 0 (by omega)
      rw [Nat.sub_zero] at e6
      unfold spec_DiagramCount.f
      rw [hK k (by omega), h, l8Place_f hl, hn]
      simp only [Option.bind_some, if_true]
      rw [if_pos ⟨ok_of h, hb.1, by omega⟩, e5 13 hd]
      refine ⟨?_, rfl⟩
      rw [show (0 : Int) = ((0 : Nat) : Int) from rfl, e6]
      rfl
theorem FnExactDiagramCount : laws_FnExactDiagramCount.Pure := by
  intro a l n ha hl hx hn
  by_cases h : 1048576 - (l.length : Int) < 0
  · refine ⟨0, ?_⟩
    unfold laws_FnExactDiagramCount.f
    rw [szDiagram_f (by omega) (by omega) hl, if_pos h]
    rfl
  · have hm : (l.map cFork).length = l.length := by simp
    obtain ⟨K, r, hK⟩ := count_eq (a := a) (l := l.map cFork) (n := n) (by omega)
    refine ⟨K + l.length + 10, ?_⟩
    obtain ⟨h1, h2⟩ := hK (K + l.length + 10) (by omega)
    unfold laws_FnExactDiagramCount.f
    rw [szDiagram_f (by omega) (by omega) hl, if_neg h]
    simp only [Option.bind_some]
    rw [if_neg h, toDiagram_f (by omega) (by omega)]
    simp only [Option.bind_some]
    rw [h1, h2]
    simp only [Option.bind_some, if_true]
    rw [eqDiagram_f (by omega) (by omega)]
    simp

end Go.Proofs.Ythphgkhmeobadab.Pure
