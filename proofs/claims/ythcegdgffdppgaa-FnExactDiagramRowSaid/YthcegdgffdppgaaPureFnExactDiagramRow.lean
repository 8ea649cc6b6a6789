/- The law on DiagramRow holds for all arguments: the program's row is the reference's, in memory of its own, and the argument stays as it was.
Conditions: none. -/
import Derived.Test.YthcegdgffdppgaaXFnExactDiagramRowx8
import Derived.Test.YthcegdgffdppgaaXLib2
namespace Go.Proofs.Ythcegdgffdppgaa.Pure
open Go.RowKit Go.Proofs.Ythcegdgffdppgaa.XFnExactDiagramRow Go.Proofs.YthcegdgffdppgaaW.PrintWords Go.Proofs.YthcegdgffdppgaaW.PrintLast Go.Proofs.YthcegdgffdppgaaW.PrintMore Go.Proofs.YthcegdgffdppgaaX
set_option linter.unusedVariables false
set_option linter.unusedSimpArgs false

theorem rdT63_nat (xs : List S63) (i : Nat) : rd_T63 xs (i : Int) = xs.getD i z63 := by
  unfold rd_T63
  simp

theorem rdT45_nat (xs : List S45) (i : Nat) : rd_T45 xs (i : Int) = xs.getD i z45 := by
  unfold rd_T45
  simp

theorem szForkS_f {l : List S63} {a : Int} (h0 : 0 ≤ a) (h1 : a ≤ 1048576) (hl : l.length ≤ 9223372036854775807) : laws_szForkS.f l a = some (if a - (l.length : Int) < 0 then -1 else a - (l.length : Int)) := by
  unfold laws_szForkS.f
  rw [wrap_id (by omega) (by omega)]
  by_cases h : a - (l.length : Int) < 0
  · rw [if_pos h, if_pos h]
  · rw [if_neg h, if_neg h]

theorem szDiagram_f {b : Int} {l} {a : Int} (h0 : 0 ≤ a) (h1 : a ≤ 1048576) (hl : l.length ≤ 9223372036854775807) : laws_szDiagram.f b l a = some (if a - (l.length : Int) < 0 then -1 else a - (l.length : Int)) := by
  unfold laws_szDiagram.f
  rw [szForkS_f h0 h1 hl]
  simp only [Option.bind_some]
  by_cases h : a - (l.length : Int) < 0
  · rw [if_pos h, if_pos (by decide)]
  · rw [if_neg h, if_neg h]

def cFork (x : S63) : S45 := ⟨x.f0, x.f1, x.f2⟩
theorem toForkS_f {k : Nat} {l : List S63} (hk : l.length < k) (hm : l.length ≤ 11728124029610) : laws_toForkS.f k l = some (l.map cFork) := by
  unfold laws_toForkS.f
  rw [if_pos (by omega), if_pos (by omega)]
  refine run_inv (fun k (s : List S45) i => laws_toForkS.l0 k l s (i : Int)) l.length (fun i s => s.length = l.length ∧ ∀ j, j < i → s.getD j z45 = (l.map cFork).getD j z45) _ ?_ ?_ k 0 _ (Nat.zero_le _) (by omega) ⟨by simp, fun j hj => absurd hj (Nat.not_lt_zero j)⟩
  · intro k i s hi ⟨hl, hs⟩
    refine Or.inr ⟨s.set i (cFork (l.getD i z63)), ?_, by simpa using hl, fun j hj => ?_⟩
    · simp only [laws_toForkS.l0]
      rw [if_pos (by omega), if_pos (by omega)]
      simp only [laws_toFork.f, Option.bind_some, rdT63_nat]
      rw [if_pos (by omega), wrap_id (by omega) (by omega)]
      rfl
    · rw [getD_set _ _ _ _ _ (by omega)]
      by_cases e : j = i
      · rw [if_pos e, e]
        simp [List.getD_eq_getElem?_getD, hi]
      · rw [if_neg e]
        exact hs j (by omega)
  · intro k s ⟨hl, hs⟩
    simp only [laws_toForkS.l0]
    rw [if_neg (by omega), ext_getD (d := z45) (s := s) (l := l.map cFork) (by simpa using hl) (fun j hj => hs j (by simpa using hj))]

theorem toDiagram_f {k : Nat} {a : Int} {l} (hk : l.length < k) (hm : l.length ≤ 1048576) : laws_toDiagram.f k a l = some (a, l.map cFork) := by
  unfold laws_toDiagram.f
  rw [toForkS_f hk (by omega)]
  rfl

theorem eqForkS_f {k : Nat} {l : List S45} (hk : l.length < k) (hm : l.length ≤ 35184372088832) : laws_eqForkS.f k l l = some true := by
  unfold laws_eqForkS.f
  rw [if_pos rfl]
  refine run_inv (fun k (_ : Unit) i => laws_eqForkS.l0 k l l (i : Int)) l.length (fun _ _ => True) _ ?_ ?_ k 0 () (Nat.zero_le _) (by omega) trivial
  · intro k i _ hi _
    refine Or.inr ⟨(), ?_, trivial⟩
    simp only [laws_eqForkS.l0]
    rw [if_pos (by omega), if_pos (by omega), if_pos (by omega), wrap_id (by omega) (by omega)]
    simp only [laws_eqFork.f, if_true, Option.bind_some]
    rfl
  · intro k _ _
    simp only [laws_eqForkS.l0]
    rw [if_neg (by omega)]

theorem eqDiagram_f {k : Nat} {a : Int} {l} (hk : l.length < k) (hm : l.length ≤ 1048576) : laws_eqDiagram.f k a l a l = some true := by
  unfold laws_eqDiagram.f
  rw [if_pos rfl, eqForkS_f hk (by omega)]
  rfl

theorem eqIntS_f {k : Nat} {a b : List Int} (hk : a.length < k) (hm : a.length ≤ 35184372088832) : laws_eqIntS.f k a b = some (decide (a = b)) := by
  unfold laws_eqIntS.f
  by_cases hab : a.length = b.length
  · rw [if_pos (by omega)]
    refine run_inv (fun k (_ : Unit) i => laws_eqIntS.l0 k a b (i : Int)) a.length (fun i _ => ∀ j, j < i → a.getD j 0 = b.getD j 0) _ ?_ ?_ k 0 () (Nat.zero_le _) (by omega) (fun j hj => absurd hj (Nat.not_lt_zero j))
    · intro k i _ hi hs
      by_cases e : a.getD i 0 = b.getD i 0
      · refine Or.inr ⟨(), ?_, fun j hj => ?_⟩
        · simp only [laws_eqIntS.l0]
          rw [if_pos (by omega), if_pos (by omega), if_pos (by omega), rd_nat, rd_nat, if_pos e, wrap_id (by omega) (by omega)]
          rfl
        · by_cases e2 : j = i
          · rw [e2]; exact e
          · exact hs j (by omega)
      · refine Or.inl ?_
        simp only [laws_eqIntS.l0]
        rw [if_pos (by omega), if_pos (by omega), if_pos (by omega), rd_nat, rd_nat, if_neg e, decide_eq_false (fun h => e (by rw [h]))]
    · intro k _ hs
      simp only [laws_eqIntS.l0]
      rw [if_neg (by omega), decide_eq_true (ext_getD hab (fun j hj => hs j (by omega)))]
  · rw [if_neg (by omega), decide_eq_false (fun h => hab (by rw [h]))]

theorem l1In_f (n a b : Int) : spec_l1In.f n a b = some (inB a b n) := by
  unfold spec_l1In.f inB
  by_cases h : n ≥ a
  · rw [if_pos h]; congr 1; simp; omega
  · rw [if_neg h, decide_eq_false (by omega)]

def vr (a : Int) (l : List S45) (n : Int) : Int := if n < 2 then a else (l.getD (n - 2).toNat z45).f0
def frk (a : Int) (l : List S45) (j : Nat) : Bool := inB 0 (a - 1) (l.getD j z45).f0 && (inB 0 ((j : Int) + 1) (l.getD j z45).f1 && (inB 0 ((j : Int) + 1) (l.getD j z45).f2 && (decide (vr a l (l.getD j z45).f1 > (l.getD j z45).f0) && decide (vr a l (l.getD j z45).f2 > (l.getD j z45).f0))))
def eqT (x y : S45) : Bool := x.f0 == y.f0 && (x.f1 == y.f1 && (x.f2 == y.f2))
def okD (a : Int) (l : List S45) (j : Nat) : Bool := frk a l j && (!decide ((l.getD j z45).f1 = (l.getD j z45).f2) && decide (∀ q, q < j → eqT (l.getD q z45) (l.getD j z45) = false))
def dvOK (a : Int) (l : List S45) : Bool := inB 0 12 a && (!decide ((l.length : Int) > 2000) && decide (∀ j, j < l.length → okD a l j = true))
theorem l8Var_f {a : Int} {l : List S45} {n : Int} (h0 : 0 ≤ n) (h1 : n < (l.length : Int) + 2) (hl : l.length ≤ 1048576) : spec_l8Var.f a l n = some (vr a l n) := by
  unfold spec_l8Var.f vr
  by_cases h : n < 2
  · rw [if_pos h, if_pos h]
  · rw [if_neg h, if_neg h, wrap_id (x := n - 2) (by omega) (by omega), if_pos (by omega), if_pos (by omega)]
    rfl
theorem l8Fork_f {k : Nat} {a : Int} {l : List S45} {j : Nat} (hk : 0 < k) (ha : 0 ≤ a ∧ a ≤ 12) (hj : j < l.length) (hl : l.length ≤ 1048576) : spec_l8Fork.f k a l (l.getD j z45).f0 (l.getD j z45).f1 (l.getD j z45).f2 ((j : Int) + 1) = some (frk a l j) := by
  obtain ⟨k, rfl⟩ : ∃ m, k = m + 1 := ⟨k - 1, by omega⟩
  unfold spec_l8Fork.f frk
  rw [wrap_id (x := a - 1) (by omega) (by omega), l1In_f]
  simp only [Option.bind_some, l1In_f, spec_l8Fork.j0]
  cases inB 0 (a - 1) (l.getD j z45).f0 with
  | false => rfl
  | true =>
    simp only [if_true, Bool.true_and]
    cases h1 : inB 0 ((j : Int) + 1) (l.getD j z45).f1 with
    | false => rfl
    | true =>
      simp only [if_true, Bool.true_and]
      cases h2 : inB 0 ((j : Int) + 1) (l.getD j z45).f2 with
      | false => rfl
      | true =>
        have h1 : 0 ≤ (l.getD j z45).f1 ∧ (l.getD j z45).f1 ≤ (j : Int) + 1 := of_decide_eq_true h1
        have h2 : 0 ≤ (l.getD j z45).f2 ∧ (l.getD j z45).f2 ≤ (j : Int) + 1 := of_decide_eq_true h2
        simp only [Bool.not_true, Bool.false_eq_true, if_false, Bool.true_and]
        rw [l8Var_f h1.1 (by omega) hl]
        simp only [Option.bind_some]
        by_cases h3 : vr a l (l.getD j z45).f1 > (l.getD j z45).f0
        · rw [if_pos h3, l8Var_f h2.1 (by omega) hl, decide_eq_true h3]
          rfl
        · rw [if_neg h3, decide_eq_false h3]
          rfl
theorem dv_loop {a : Int} {l : List S45} (ha : 0 ≤ a ∧ a ≤ 12) (hl : l.length ≤ 1048576) : ∀ d i, i + d = l.length → ∃ K, ∀ k, K ≤ k → spec_DiagramValid.l0 k (i : Int) a l = some (decide (∀ j, j < l.length → i ≤ j → okD a l j = true)) := by
  intro d
  induction d with
  | zero =>
    intro i hi
    refine ⟨1, fun k hk => ?_⟩
    obtain ⟨k, rfl⟩ : ∃ m, k = m + 1 := ⟨k - 1, by omega⟩
    simp only [spec_DiagramValid.l0]
    rw [if_neg (by omega), decide_eq_true (fun j h2 h1 => absurd h2 (by omega))]
  | succ d ih =>
    intro i hi
    obtain ⟨K, hK⟩ := ih (i + 1) (by omega)
    refine ⟨K + i + 20, fun k hk => ?_⟩
    have step : (∀ j, j < l.length → i ≤ j → okD a l j = true) ↔ (okD a l i = true ∧ ∀ j, j < l.length → i + 1 ≤ j → okD a l j = true) :=
      ⟨fun h => ⟨h i (by omega) (Nat.le_refl _), fun j h2 h1 => h j h2 (by omega)⟩, fun h j h2 h1 => if e : j = i then by rw [e]; exact h.1 else h.2 j h2 (by omega)⟩
    obtain ⟨k, rfl⟩ : ∃ m, k = m + 1 := ⟨k - 1, by omega⟩
    simp only [spec_DiagramValid.l0]
    rw [if_pos (by omega), if_pos (by omega), wrap_id (x := (i : Int) + 1) (by omega) (by omega)]
    simp only [rdT45_nat]
    rw [l8Fork_f (by omega) ha (by omega) hl]
    simp only [Option.bind_some]
    cases hf : frk a l i with
    | false =>
      rw [if_neg (by decide)]
      obtain ⟨k, rfl⟩ : ∃ m, k = m + 1 := ⟨k - 1, by omega⟩
      simp only [spec_DiagramValid.j2, if_true]
      rw [decide_eq_false (fun h => by have := (step.1 h).1; unfold okD at this; rw [hf] at this; cases this)]
    | true =>
      rw [if_pos rfl]
      obtain ⟨k, rfl⟩ : ∃ m, k = m + 1 := ⟨k - 1, by omega⟩
      by_cases he : (l.getD i z45).f1 = (l.getD i z45).f2
      · simp only [spec_DiagramValid.j2, beq_iff_eq.mpr he, if_true]
        rw [decide_eq_false (fun h => by have := (step.1 h).1; unfold okD at this; rw [decide_eq_true he, hf] at this; cases this)]
      · have hb : ((l.getD i z45).f1 == (l.getD i z45).f2) = false := beq_eq_false_iff_ne.mpr he
        simp only [spec_DiagramValid.j2, hb, Bool.false_eq_true, if_false]
        by_cases hq : ∀ q, q < i → eqT (l.getD q z45) (l.getD i z45) = false
        · have hok : okD a l i = true := by unfold okD; rw [hf, decide_eq_false he, decide_eq_true hq]; rfl
          obtain ⟨k, rfl⟩ : ∃ m, k = m + (i + 1) := ⟨k - (i + 1), by omega⟩
          refine (run_goto (fun k (_ : Unit) q => spec_DiagramValid.l1 k (i : Int) (q : Int) a l (l.getD i z45).f0 (l.getD i z45).f1 (l.getD i z45).f2) i (fun _ _ => True) (fun k => spec_DiagramValid.l0 k (wrap64 ((i : Int) + 1)) a l) ?_ ?_ i k 0 () (by omega) trivial).trans ?_
          · intro k q _ hqi _
            refine ⟨(), ?_, trivial⟩
            have := hq q hqi
            unfold eqT at this
            simp only [spec_DiagramValid.l1, rdT45_nat]
            rw [if_pos (by omega), if_pos (by omega), if_pos (by omega), this, if_neg (by decide), wrap_id (x := (q : Int) + 1) (by omega) (by omega)]
            rfl
          · intro k _ _
            simp only [spec_DiagramValid.l1]
            rw [if_neg (by omega)]
          · rw [wrap_id (x := (i : Int) + 1) (by omega) (by omega)]
            refine (hK k (by omega)).trans ?_
            congr 1
            rw [Bool.eq_iff_iff, decide_eq_true_iff, decide_eq_true_iff, step]
            exact ⟨fun h => ⟨hok, h⟩, fun h => h.2⟩
        · rw [decide_eq_false (fun h => by have := (step.1 h).1; unfold okD at this; rw [decide_eq_false hq, decide_eq_false he, hf] at this; cases this)]
          refine run_inv (fun k (_ : Unit) q => spec_DiagramValid.l1 k (i : Int) (q : Int) a l (l.getD i z45).f0 (l.getD i z45).f1 (l.getD i z45).f2) i (fun q _ => ∀ q', q' < q → eqT (l.getD q' z45) (l.getD i z45) = false) false ?_ ?_ k 0 () (Nat.zero_le _) (by omega) (fun q' h => absurd h (Nat.not_lt_zero _))
          · intro k q _ hqi hs
            simp only [spec_DiagramValid.l1, rdT45_nat]
            rw [if_pos (by omega), if_pos (by omega), if_pos (by omega), wrap_id (x := (q : Int) + 1) (by omega) (by omega)]
            cases hh : eqT (l.getD q z45) (l.getD i z45) with
            | true => left; unfold eqT at hh; rw [if_pos hh]
            | false =>
              refine Or.inr ⟨(), ?_, fun q' h => if e : q' = q then by rw [e]; exact hh else hs q' (by omega)⟩
              unfold eqT at hh
              rw [hh, if_neg (by decide)]
              rfl
          · intro k _ hs
            exact absurd hs hq
theorem spec_DiagramValid_f {a : Int} {l : List S45} (hl : l.length ≤ 1048576) : ∃ K, ∀ k, K ≤ k → spec_DiagramValid.f k a l = some (dvOK a l) := by
  unfold dvOK
  by_cases ha : 0 ≤ a ∧ a ≤ 12
  · obtain ⟨K, hK⟩ := dv_loop (a := a) (l := l) ha hl l.length 0 (by omega)
    refine ⟨K + 2, fun k hk => ?_⟩
    unfold spec_DiagramValid.f
    rw [l1In_f, show inB 0 12 a = true from decide_eq_true ha]
    simp only [Option.bind_some, if_true, Bool.true_and]
    obtain ⟨k, rfl⟩ : ∃ m, k = m + 1 := ⟨k - 1, by omega⟩
    simp only [spec_DiagramValid.j0]
    by_cases h : (l.length : Int) > 2000
    · rw [if_pos (decide_eq_true h), decide_eq_true h]
      rfl
    · rw [if_neg (by simpa using h), decide_eq_false h]
      refine (hK k (by omega)).trans ?_
      simp
  · refine ⟨2, fun k hk => ?_⟩
    unfold spec_DiagramValid.f
    rw [l1In_f, show inB 0 12 a = false from decide_eq_false ha]
    obtain ⟨k, rfl⟩ : ∃ m, k = m + 1 := ⟨k - 1, by omega⟩
    simp [spec_DiagramValid.j0]

theorem dv_ok {a : Int} {l : List S45} (h : dvOK a l = true) : (0 ≤ a ∧ a ≤ 12) ∧ l.length ≤ 2000 ∧ ∀ j, j < l.length → (0 ≤ (l.getD j z45).f0 ∧ (l.getD j z45).f0 ≤ a - 1) ∧ (0 ≤ (l.getD j z45).f1 ∧ (l.getD j z45).f1 ≤ (j : Int) + 1) ∧ (0 ≤ (l.getD j z45).f2 ∧ (l.getD j z45).f2 ≤ (j : Int) + 1) ∧ vr a l (l.getD j z45).f1 > (l.getD j z45).f0 ∧ vr a l (l.getD j z45).f2 > (l.getD j z45).f0 ∧ (l.getD j z45).f1 ≠ (l.getD j z45).f2 := by
  unfold dvOK at h
  obtain ⟨h1, h2⟩ := Bool.and_eq_true_iff.1 h
  obtain ⟨h3, h4⟩ := Bool.and_eq_true_iff.1 h2
  refine ⟨of_decide_eq_true h1, ?_, fun j hj => ?_⟩
  · have : ¬ (l.length : Int) > 2000 := by simpa using h3
    omega
  · have h5 := of_decide_eq_true h4 j hj
    unfold okD frk at h5
    obtain ⟨h6, h7⟩ := Bool.and_eq_true_iff.1 h5
    obtain ⟨g1, h6⟩ := Bool.and_eq_true_iff.1 h6
    obtain ⟨g2, h6⟩ := Bool.and_eq_true_iff.1 h6
    obtain ⟨g3, h6⟩ := Bool.and_eq_true_iff.1 h6
    obtain ⟨g4, g5⟩ := Bool.and_eq_true_iff.1 h6
    obtain ⟨g6, _⟩ := Bool.and_eq_true_iff.1 h7
    exact ⟨of_decide_eq_true g1, of_decide_eq_true g2, of_decide_eq_true g3, of_decide_eq_true g4, of_decide_eq_true g5, by simpa using g6⟩
theorem l8Place_f {a : Int} {l : List S45} {n : Int} (hl : l.length ≤ 1048576) : spec_l8Place.f a l n = some (inB 0 ((l.length : Int) + 1) n) := by
  unfold spec_l8Place.f
  rw [wrap_id (x := (l.length : Int) + 1) (by omega) (by omega), l1In_f]
  rfl

theorem in_f (n a b : Int) : impl_in.f n a b = some (inB a b n) := by
  unfold impl_in.f inB
  by_cases h : n ≥ a
  · rw [if_pos h]; congr 1; simp; omega
  · rw [if_neg h, decide_eq_false (by omega)]

theorem varAt_f {a : Int} {l : List S45} {n : Int} (h0 : 0 ≤ n) (h1 : n < (l.length : Int) + 2) (hl : l.length ≤ 1048576) : impl_Diagram_varAt.f a l n = some (vr 12 l n) := by
  unfold impl_Diagram_varAt.f vr
  by_cases h : n < 2
  · rw [if_pos h, if_pos h]
  · rw [if_neg h, if_neg h, wrap_id (x := n - 2) (by omega) (by omega), if_pos (by omega), if_pos (by omega)]
    rfl
theorem vr_gt {a x n : Int} {l : List S45} (ha : a ≤ 12) (hx : x ≤ a - 1) : (vr a l n > x) ↔ ¬ (vr 12 l n ≤ x) := by
  unfold vr
  by_cases h : n < 2
  · rw [if_pos h, if_pos h]; omega
  · rw [if_neg h, if_neg h]; omega
theorem seen_iff {l : List S45} {j : Nat} (hj : j < l.length) : (impl_DiagramValid.F l j (l.getD j z45)).isSome = !decide (∀ q, q < j → eqT (l.getD q z45) (l.getD j z45) = false) := by
  have e : ((l.take j).any (impl_DiagramValid.eqS (l.getD j z45))) = !decide (∀ q, q < j → eqT (l.getD q z45) (l.getD j z45) = false) := by
    by_cases h : ∀ q, q < j → eqT (l.getD q z45) (l.getD j z45) = false
    · rw [decide_eq_true h]
      cases hh : (l.take j).any (impl_DiagramValid.eqS (l.getD j z45)) with
      | false => rfl
      | true =>
        obtain ⟨x, hx, hx2⟩ := List.any_eq_true.1 hh
        obtain ⟨q, hq, rfl⟩ := mem_getD z45 hx
        rw [List.length_take] at hq
        have e1 : (l.take j).getD q z45 = l.getD q z45 := by rw [List.getD_eq_getElem?_getD, List.getD_eq_getElem?_getD, List.getElem?_take, if_pos (by omega)]
        rw [e1] at hx2
        have h2 := h q (by omega)
        unfold impl_DiagramValid.eqS at hx2
        obtain ⟨y1, y2, y3⟩ := of_decide_eq_true hx2
        unfold eqT at h2
        rw [← y1, ← y2, ← y3] at h2
        simp at h2
    · rw [decide_eq_false h]
      have h2 : ∃ q, q < j ∧ eqT (l.getD q z45) (l.getD j z45) = true := by
        refine Classical.byContradiction (fun hn => h (fun q hq => ?_))
        cases hh : eqT (l.getD q z45) (l.getD j z45) with
        | false => rfl
        | true => exact absurd ⟨q, hq, hh⟩ hn
      obtain ⟨q, hq, hq2⟩ := h2
      refine List.any_eq_true.2 ⟨l.getD q z45, ?_, ?_⟩
      · have hl2 : q < (l.take j).length := by rw [List.length_take]; omega
        have e1 : (l.take j).getD q z45 = l.getD q z45 := by rw [List.getD_eq_getElem?_getD, List.getD_eq_getElem?_getD, List.getElem?_take, if_pos (by omega)]
        rw [← e1]
        exact getD_mem _ _ _ hl2
      · unfold eqT at hq2
        unfold impl_DiagramValid.eqS
        simp only [Bool.and_eq_true, beq_iff_eq] at hq2
        exact decide_eq_true ⟨hq2.1.symm, hq2.2.1.symm, hq2.2.2.symm⟩
  unfold impl_DiagramValid.F
  rw [e]
  cases decide (∀ q, q < j → eqT (l.getD q z45) (l.getD j z45) = false) <;> rfl
theorem impl_ok {a : Int} {l : List S45} {j : Nat} (ha : 0 ≤ a ∧ a ≤ 12) (hj : j < l.length) (hl : l.length ≤ 1048576) : impl_DiagramValid.ok a l (j : Int) = some (okD a l j) := by
  unfold impl_DiagramValid.ok okD frk
  rw [wrap_id (x := a - 1) (by omega) (by omega), wrap_id (x := (j : Int) + 1) (by omega) (by omega)]
  simp only [rdT45_nat, in_f, Option.bind_some]
  cases h0 : inB 0 (a - 1) (l.getD j z45).f0 with
  | false => rfl
  | true =>
    simp only [if_true, Bool.true_and]
    cases h1 : inB 0 ((j : Int) + 1) (l.getD j z45).f1 with
    | false => rfl
    | true =>
      simp only [if_true, Bool.true_and]
      cases h2 : inB 0 ((j : Int) + 1) (l.getD j z45).f2 with
      | false => rfl
      | true =>
        have h0 : 0 ≤ (l.getD j z45).f0 ∧ (l.getD j z45).f0 ≤ a - 1 := of_decide_eq_true h0
        have h1 : 0 ≤ (l.getD j z45).f1 ∧ (l.getD j z45).f1 ≤ (j : Int) + 1 := of_decide_eq_true h1
        have h2 : 0 ≤ (l.getD j z45).f2 ∧ (l.getD j z45).f2 ≤ (j : Int) + 1 := of_decide_eq_true h2
        simp only [if_true, Bool.true_and]
        rw [varAt_f h1.1 (by omega) hl, varAt_f h2.1 (by omega) hl]
        simp only [Option.bind_some]
        have g1 := vr_gt (l := l) (n := (l.getD j z45).f1) ha.2 h0.2
        have g2 := vr_gt (l := l) (n := (l.getD j z45).f2) ha.2 h0.2
        by_cases he : (l.getD j z45).f1 = (l.getD j z45).f2
        · rw [if_pos he, decide_eq_true he]
          simp
        · rw [if_neg he, decide_eq_false he]
          by_cases v1 : vr 12 l (l.getD j z45).f1 ≤ (l.getD j z45).f0
          · rw [if_pos v1, decide_eq_false (fun h => g1.1 h v1)]
            rfl
          · rw [if_neg v1, decide_eq_true (g1.2 v1)]
            by_cases v2 : vr 12 l (l.getD j z45).f2 ≤ (l.getD j z45).f0
            · rw [if_pos v2, decide_eq_false (fun h => g2.1 h v2)]
              rfl
            · rw [if_neg v2, decide_eq_true (g2.2 v2), Int.toNat_natCast, seen_iff hj]
              simp
theorem impl_go {a : Int} {l : List S45} (ha : 0 ≤ a ∧ a ≤ 12) (hl : l.length ≤ 1048576) : ∀ m i, i + m = l.length → impl_DiagramValid.go a l m (i : Int) = some (decide (∀ j, j < l.length → i ≤ j → okD a l j = true)) := by
  intro m
  induction m with
  | zero =>
    intro i hi
    simp only [impl_DiagramValid.go]
    rw [decide_eq_true (fun j h2 h1 => absurd h2 (by omega))]
  | succ m ih =>
    intro i hi
    have h1 := ih (i + 1) (by omega)
    simp only [impl_DiagramValid.go]
    rw [impl_ok ha (by omega) hl]
    simp only [Option.bind_some]
    rw [show ((i : Int) + 1) = ((i + 1 : Nat) : Int) by omega]
    cases ho : okD a l i with
    | false =>
      rw [if_neg (by decide), decide_eq_false (fun h => by have := h i (by omega) (Nat.le_refl _); rw [ho] at this; cases this)]
    | true =>
      rw [if_pos rfl, h1]
      congr 1
      rw [Bool.eq_iff_iff, decide_eq_true_iff, decide_eq_true_iff]
      exact ⟨fun h j h2 h1 => if e : j = i then by rw [e]; exact ho else h j h2 (by omega), fun h j h2 h1 => h j h2 (by omega)⟩
theorem impl_DiagramValid_f {a : Int} {l : List S45} (hl : l.length ≤ 1048576) : impl_DiagramValid.f a l = some (dvOK a l) := by
  unfold impl_DiagramValid.f dvOK
  rw [in_f]
  simp only [Option.bind_some]
  by_cases ha : 0 ≤ a ∧ a ≤ 12
  · rw [show inB 0 12 a = true from decide_eq_true ha]
    simp only [if_true, Bool.true_and]
    by_cases h : (l.length : Int) > 2000
    · rw [if_pos h, decide_eq_true h]
      rfl
    · rw [if_neg h, decide_eq_false h]
      refine (impl_go ha hl l.length 0 (by omega)).trans ?_
      simp
  · rw [show inB 0 12 a = false from decide_eq_false ha]
    rfl

theorem isPlace_f {a : Int} {l : List S45} {n : Int} (hl : l.length ≤ 1048576) : impl_Diagram_isPlace.f a l n = some (inB 0 ((l.length : Int) + 1) n) := by
  unfold impl_Diagram_isPlace.f
  rw [wrap_id (x := (l.length : Int) + 1) (by omega) (by omega), in_f]
  rfl

theorem clone_int_f {l : List Int} (h : l.length ≤ 35184372088832) : impl_clone_int.f l = some l := by
  unfold impl_clone_int.f
  rw [if_pos h]

/-- A loop that ends in something of which P holds. -/
theorem run_ex {σ β : Type} (L : Nat → σ → Nat → Option β) (n : Nat) (inv : Nat → σ → Prop) (P : β → Prop)
    (hstep : ∀ k i s, i < n → inv i s → ∃ s', L (k + 1) s i = L k s' (i + 1) ∧ inv (i + 1) s')
    (hend : ∀ k s, inv n s → ∃ r, L (k + 1) s n = some r ∧ P r) : ∀ k i s, i ≤ n → n - i < k → inv i s → ∃ r, L k s i = some r ∧ P r := by
  have key : ∀ d k i s, n - i = d → i ≤ n → d < k → inv i s → ∃ r, L k s i = some r ∧ P r := by
    intro d
    induction d with
    | zero =>
      intro k i s hd hi hk hs
      obtain ⟨k, rfl⟩ : ∃ m, k = m + 1 := ⟨k - 1, by omega⟩
      obtain rfl : i = n := by omega
      exact hend k s hs
    | succ d ih =>
      intro k i s hd hi hk hs
      obtain ⟨k, rfl⟩ : ∃ m, k = m + 1 := ⟨k - 1, by omega⟩
      obtain ⟨s', h, hs'⟩ := hstep k i s (by omega) hs
      rw [h]
      exact ih k (i + 1) s' (by omega) (by omega) (by omega) hs'
  intro k i s hi hk hs
  exact key (n - i) k i s rfl hi hk hs

theorem markForkS_f {k : Nat} {l : List S45} {a : Int} (hk : l.length < k) (hm : l.length ≤ 1048576) (h0 : 0 ≤ a) (h1 : a ≤ 1000000000000000000) : ∃ r, laws_markForkS.f k l a = some r ∧ r.1 = a + 3 * (l.length : Int) := by
  unfold laws_markForkS.f
  refine run_ex (fun k (s : List S45 × Int) i => laws_markForkS.l0 k s.1 s.2 (i : Int)) l.length (fun i s => s.1.length = l.length ∧ s.2 = a + 3 * (i : Int)) _ ?_ ?_ k 0 (l, a) (Nat.zero_le _) (by omega) ⟨rfl, by simp⟩
  · rintro k i ⟨s, c⟩ hi ⟨hl, hc⟩
    simp only at hl hc
    simp only [laws_markForkS.l0, Option.bind_some]
    rw [if_pos (by omega), if_pos (by omega), wrap_id (x := (i : Int) + 1) (by omega) (by omega), wrap_id (x := c + 1) (by omega) (by omega), wrap_id (x := c + 1 + 1) (by omega) (by omega), wrap_id (x := c + 1 + 1 + 1) (by omega) (by omega)]
    refine ⟨(_, _), rfl, by simpa using hl, ?_⟩
    simp only [Int.natCast_add]
    omega
  · rintro k ⟨s, c⟩ ⟨hl, hc⟩
    simp only at hl hc
    simp only [laws_markForkS.l0]
    rw [if_neg (by omega)]
    exact ⟨_, rfl, hc⟩

theorem markIntS_f {k : Nat} {l : List Int} {a : Int} (hk : l.length < k) (hm : l.length ≤ 35184372088832) (h0 : 0 ≤ a) (h1 : a ≤ 1000000000000000000) : laws_markIntS.f k l a = some (a + l.length, marks a l.length) := by
  unfold laws_markIntS.f
  refine (?_ : laws_markIntS.l0 k l a ((0 : Nat) : Int) = _)
  refine run_inv (fun k (s : List Int × Int) i => laws_markIntS.l0 k s.1 s.2 (i : Int)) l.length (fun i s => s.1.length = l.length ∧ s.2 = a + (i : Int) ∧ ∀ j, j < i → s.1.getD j 0 = a + (j : Int)) _ ?_ ?_ k 0 (l, a) (Nat.zero_le _) (by omega) ⟨rfl, by simp, fun j hj => absurd hj (Nat.not_lt_zero j)⟩
  · rintro k i ⟨s, c⟩ hi ⟨hl, hc, hs⟩
    simp only at hl hc hs
    subst hc
    refine Or.inr ⟨(s.set i (a + (i : Int)), a + (i : Int) + 1), ?_, by simpa using hl, by simp only [Int.natCast_add]; omega, fun j hj => ?_⟩
    · simp only [laws_markIntS.l0]
      rw [if_pos (by omega), if_pos (by omega), wrap_id (x := a + (i : Int) + 1) (by omega) (by omega), wrap_id (by omega) (by omega)]
      rfl
    · simp only
      rw [getD_set _ _ _ _ _ (by omega)]
      by_cases e : j = i
      · rw [if_pos e, e]
      · rw [if_neg e]
        exact hs j (by omega)
  · rintro k ⟨s, c⟩ ⟨hl, hc, hs⟩
    simp only at hl hc hs
    subst hc
    simp only [laws_markIntS.l0]
    rw [if_neg (by omega), ext_getD (d := 0) (s := s) (l := marks a l.length) (by rw [marks_length]; exact hl) (fun j hj => by rw [marks_length] at hj; rw [marks_getD _ _ _ hj]; exact hs j hj)]

theorem heldIntS_f {k : Nat} {n : Nat} {a : Int} (hk : n < k) (hm : n ≤ 35184372088832) (h0 : 0 ≤ a) (h1 : a ≤ 1000000000000000000) : laws_heldIntS.f k (marks a n) a = some (a + (n : Int)) := by
  unfold laws_heldIntS.f
  refine (?_ : laws_heldIntS.l0 k (marks a n) a ((0 : Nat) : Int) = _)
  have hlen := marks_length a n
  refine run_inv (fun k (s : Int) i => laws_heldIntS.l0 k (marks a n) s (i : Int)) n (fun i s => s = a + (i : Int)) _ ?_ ?_ k 0 a (Nat.zero_le _) (by omega) (by simp)
  · rintro k i s hi rfl
    refine Or.inr ⟨a + (i : Int) + 1, ?_, by simp only [Int.natCast_add]; omega⟩
    simp only [laws_heldIntS.l0]
    rw [if_pos (by omega), if_pos (by omega), rd_nat, marks_getD _ _ _ hi, if_pos rfl, wrap_id (x := a + (i : Int) + 1) (by omega) (by omega), wrap_id (by omega) (by omega)]
    rfl
  · rintro k s rfl
    simp only [laws_heldIntS.l0]
    rw [if_neg (by omega)]

theorem at_skip {a : Int} {l : List S45} {c v b : Int} (h0 : 0 ≤ c) (h1 : c < (l.length : Int) + 2) (hl : l.length ≤ 2000) (hv : vr a l c ≠ v) : spec_l8At.f a l c v b = some c := by
  unfold spec_l8At.f
  rw [l8Var_f h0 h1 (by omega)]
  simp only [Option.bind_some]
  rw [if_neg hv]
theorem at_here {a : Int} {l : List S45} {m : Nat} {v b : Int} (h0 : 2 ≤ m) (h1 : m < l.length + 2) (hl : l.length ≤ 2000) (hv : vr a l (m : Int) = v) : spec_l8At.f a l (m : Int) v b = some (if b = 1 then (l.getD (m - 2) z45).f2 else (l.getD (m - 2) z45).f1) := by
  have e2 : wrap64 ((m : Int) - 2) = ((m - 2 : Nat) : Int) := by rw [wrap_id (by omega) (by omega)]; omega
  unfold spec_l8At.f
  rw [l8Var_f (by omega) (by omega) (by omega)]
  simp only [Option.bind_some, e2, rdT45_nat]
  rw [if_pos hv]
  by_cases hb : b = 1
  · rw [if_pos hb, if_pos hb, if_pos (by omega), if_pos (by omega)]
  · rw [if_neg hb, if_neg hb, if_pos (by omega), if_pos (by omega)]
theorem row_skip {a : Nat} {l : List S45} {c : Nat} (ha : a ≤ 12) (h0 : 1 ≤ c) (h1 : c < l.length + 2) (hl : l.length ≤ 2000) {w : Nat} (hw : vr (a : Int) l (c : Int) = (w : Int)) (hwa : w ≤ a) (k : Nat) : ∀ d v (s : List Int), v + d = w → s.length = v → spec_DiagramRow.l0 (k + d) (c : Int) s (v : Int) (a : Int) l = spec_DiagramRow.l0 k (c : Int) (s ++ List.replicate d 0) (w : Int) (a : Int) l := by
  intro d
  induction d with
  | zero =>
    intro v s hv hs
    obtain rfl : v = w := by omega
    simp
  | succ d ih =>
    intro v s hv hs
    have e1 : wrap64 ((v : Int) + 1) = ((v + 1 : Nat) : Int) := by rw [wrap_id (by omega) (by omega)]; omega
    rw [show k + (d + 1) = (k + d) + 1 by omega]
    simp only [spec_DiagramRow.l0, e1]
    rw [if_pos (by omega), at_skip (by omega) (by omega) hl (by omega)]
    simp only [Option.bind_some]
    rw [if_neg (by omega), if_pos (by omega), ih (v + 1) (s ++ [0]) (by omega) (by simp [hs])]
    rw [List.append_assoc]
    rfl
structure Hid (p : Prop) : Prop where
  out : p
theorem row_loop {a : Nat} {l : List S45} (h : dvOK (a : Int) l = true) : ∀ m : Nat, 1 ≤ m → m < l.length + 2 → ∃ (S : List Int) (v : Nat), vr (a : Int) l (m : Int) = (v : Int) ∧ v + S.length = a ∧ (∀ k (p : List Int), m < k → p.length = v → impl_DiagramRow.l0 k (m : Int) (p ++ List.replicate S.length 0) (a : Int) l = some (p ++ S)) ∧ (∀ k (p : List Int), S.length < k → p.length = v → spec_DiagramRow.l0 k (m : Int) p (v : Int) (a : Int) l = some (p ++ S)) := by
  obtain ⟨ha, hl, hf⟩ := dv_ok h
  intro m
  induction m using Nat.strongRecOn with
  | ind m ih =>
    intro hm1 hm
    by_cases h2 : m < 2
    · refine ⟨[], a, ?_, by simp, fun k p hk hp => ?_, fun k p hk hp => ?_⟩
      · unfold vr
        rw [if_pos (by omega)]
      · obtain ⟨k, rfl⟩ : ∃ m, k = m + 1 := ⟨k - 1, by omega⟩
        simp only [impl_DiagramRow.l0, List.length_nil, List.replicate_zero, List.append_nil]
        rw [if_neg (by omega)]
        unfold impl_clone_int.f
        rw [if_pos (by omega)]
        rfl
      · obtain ⟨k, rfl⟩ : ∃ m, k = m + 1 := ⟨k - 1, by omega⟩
        simp only [spec_DiagramRow.l0, List.append_nil]
        rw [if_neg (by omega)]
    · have hF := Hid.mk (hf (m - 2) (by omega))
      have h0 := hF.out.1
      have h1 := hF.out.2.1
      have h3 := hF.out.2.2.1
      have e2 : wrap64 ((m : Int) - 2) = ((m - 2 : Nat) : Int) := by rw [wrap_id (by omega) (by omega)]; omega
      have hv := Hid.mk (show vr (a : Int) l (m : Int) = (l.getD (m - 2) z45).f0 by
        unfold vr
        rw [if_neg (by omega), show ((m : Int) - 2).toNat = m - 2 by omega])
      obtain ⟨v, hv0⟩ := Int.eq_ofNat_of_zero_le h0.1
      have hvv := Hid.mk (hv.out.trans hv0)
      have e1 : wrap64 ((v : Int) + 1) = ((v + 1 : Nat) : Int) := by rw [wrap_id (by omega) (by omega)]; omega
      by_cases hz : (l.getD (m - 2) z45).f1 = 0
      · obtain ⟨c, hc⟩ := Int.eq_ofNat_of_zero_le h3.1
        have h6 : c ≠ 0 := fun e => hF.out.2.2.2.2.2 (by rw [hz, hc, e]; rfl)
        obtain ⟨S, w, hw0, hS, hi, hs⟩ := ih c (by omega) (by omega) (by omega)
        have hw := Hid.mk hw0
        clear hw0
        have hwv : v < w := by
          have h5 := hF.out.2.2.2.2.1
          rw [hc, hv0] at h5
          have h5 : (v : Int) < (w : Int) := by
            have := hw.out
            rw [← this]
            exact h5
          exact Int.ofNat_lt.1 h5
        refine ⟨1 :: (List.replicate (w - v - 1) 0 ++ S), v, hvv.out, by simp; omega, fun k p hk hp => ?_, fun k p hk hp => ?_⟩
        · obtain ⟨k, rfl⟩ : ∃ m, k = m + 1 := ⟨k - 1, by omega⟩
          have g := hi k (p ++ 1 :: List.replicate (w - v - 1) 0) (by omega) (by simp; omega)
          have er : (p ++ List.replicate (1 :: (List.replicate (w - v - 1) (0 : Int) ++ S)).length (0 : Int)).set v 1 = (p ++ 1 :: List.replicate (w - v - 1) 0) ++ List.replicate S.length 0 := by
            rw [List.set_append_right _ _ (by omega), show v - p.length = 0 by omega, List.append_assoc]
            simp only [List.length_cons, List.length_append, List.length_replicate, List.replicate_succ, List.set_cons_zero, List.cons_append, List.replicate_append_replicate]
          simp only [impl_DiagramRow.l0, e2, rdT45_nat]
          rw [if_pos (by omega), if_pos (by omega), if_pos (by omega), if_pos hz, if_pos h0.1, if_pos (by rw [hv0]; simp; omega), hv0, hc]
          (try simp only [Int.ofNat_eq_natCast, Int.toNat_natCast])
          rw [er]
          refine Eq.trans g ?_
          simp
        · obtain ⟨k, rfl⟩ : ∃ q, k = (q + (w - v - 1)) + 1 := ⟨k - (w - v - 1) - 1, by simp at hk; omega⟩
          have hk2 : S.length < k := by simp at hk; omega
          have g := hs k (p ++ [1] ++ List.replicate (w - v - 1) 0) hk2 (by simp; omega)
          simp only [spec_DiagramRow.l0, e1]
          rw [if_pos (by omega), at_here (by omega) hm hl hvv.out, at_here (by omega) hm hl hvv.out]
          simp only [Option.bind_some, if_true, Int.reduceEq, if_false]
          rw [if_pos hz, if_pos (by omega), hc]
          rw [row_skip (w := w) (by omega) (by omega) (by omega) hl hw.out (by omega) k (w - v - 1) (v + 1) (p ++ [1]) (by omega) (by simp [hp])]
          rw [g]
          simp
      · obtain ⟨c, hc⟩ := Int.eq_ofNat_of_zero_le h1.1
        obtain ⟨S, w, hw0, hS, hi, hs⟩ := ih c (by omega) (by omega) (by omega)
        have hw := Hid.mk hw0
        clear hw0
        have hwv : v < w := by
          have h5 := hF.out.2.2.2.1
          rw [hc, hv0] at h5
          have h5 : (v : Int) < (w : Int) := by
            have := hw.out
            rw [← this]
            exact h5
          exact Int.ofNat_lt.1 h5
        refine ⟨0 :: (List.replicate (w - v - 1) 0 ++ S), v, hvv.out, by simp; omega, fun k p hk hp => ?_, fun k p hk hp => ?_⟩
        · obtain ⟨k, rfl⟩ : ∃ m, k = m + 1 := ⟨k - 1, by omega⟩
          have g := hi k (p ++ 0 :: List.replicate (w - v - 1) 0) (by omega) (by simp; omega)
          have er : (p ++ List.replicate (0 :: (List.replicate (w - v - 1) (0 : Int) ++ S)).length (0 : Int)) = (p ++ 0 :: List.replicate (w - v - 1) 0) ++ List.replicate S.length 0 := by
            rw [List.append_assoc]
            simp only [List.length_cons, List.length_append, List.length_replicate, List.replicate_succ, List.cons_append, List.replicate_append_replicate]
          simp only [impl_DiagramRow.l0, e2, rdT45_nat]
          rw [if_pos (by omega), if_pos (by omega), if_pos (by omega), if_neg hz, hc, er]
          refine Eq.trans g ?_
          simp
        · obtain ⟨k, rfl⟩ : ∃ q, k = (q + (w - v - 1)) + 1 := ⟨k - (w - v - 1) - 1, by simp at hk; omega⟩
          have hk2 : S.length < k := by simp at hk; omega
          have g := hs k (p ++ [0] ++ List.replicate (w - v - 1) 0) hk2 (by simp; omega)
          simp only [spec_DiagramRow.l0, e1]
          rw [if_pos (by omega), at_here (by omega) hm hl hvv.out]
          simp only [Option.bind_some, Int.reduceEq, if_false]
          rw [if_neg hz, if_pos (by omega), hc]
          rw [row_skip (w := w) (by omega) (by omega) (by omega) hl hw.out (by omega) k (w - v - 1) (v + 1) (p ++ [0]) (by omega) (by simp [hp])]
          rw [g]
          simp
theorem row_eq {a : Int} {l : List S45} {n : Int} (hl : l.length ≤ 1048576) : ∃ K R, R.length ≤ 12 ∧ ∀ k, K ≤ k → spec_DiagramRow.f k a l n = some R ∧ impl_DiagramRow.f k a l n = some R := by
  obtain ⟨K, hK⟩ := spec_DiagramValid_f (a := a) (l := l) hl
  cases h : dvOK a l with
  | false =>
    refine ⟨K + 1, [], by simp, fun k hk => ?_⟩
    obtain ⟨k, rfl⟩ : ∃ m, k = m + 1 := ⟨k - 1, by omega⟩
    unfold spec_DiagramRow.f impl_DiagramRow.f
    rw [hK (k + 1) (by omega), impl_DiagramValid_f hl, h]
    exact ⟨rfl, rfl⟩
  | true =>
    obtain ⟨ha, hl2, _⟩ := dv_ok h
    cases hn : inB 0 ((l.length : Int) + 1) n with
    | false =>
      refine ⟨K + 1, [], by simp, fun k hk => ?_⟩
      obtain ⟨k, rfl⟩ : ∃ m, k = m + 1 := ⟨k - 1, by omega⟩
      unfold spec_DiagramRow.f impl_DiagramRow.f
      rw [hK (k + 1) (by omega), impl_DiagramValid_f hl, h, l8Place_f hl, isPlace_f hl, hn]
      exact ⟨rfl, rfl⟩
    | true =>
      have hn2 : 0 ≤ n ∧ n ≤ (l.length : Int) + 1 := of_decide_eq_true hn
      by_cases hz : n = 0
      · subst hz
        refine ⟨K + 1, [], by simp, fun k hk => ?_⟩
        obtain ⟨k, rfl⟩ : ∃ m, k = m + 1 := ⟨k - 1, by omega⟩
        unfold spec_DiagramRow.f impl_DiagramRow.f
        rw [hK (k + 1) (by omega), impl_DiagramValid_f hl, h, l8Place_f hl, isPlace_f hl, hn]
        exact ⟨rfl, rfl⟩
      · obtain ⟨a, rfl⟩ := Int.eq_ofNat_of_zero_le ha.1
        obtain ⟨m, rfl⟩ := Int.eq_ofNat_of_zero_le hn2.1
        try simp only [Int.ofNat_eq_natCast] at *
        obtain ⟨S, v, hv, hS, hi, hs⟩ := row_loop h m (by omega) (by omega)
        refine ⟨K + l.length + 100, List.replicate v 0 ++ S, by simp; omega, fun k hk => ?_⟩
        obtain ⟨k, rfl⟩ : ∃ q, k = (q + v) + 1 := ⟨k - v - 1, by omega⟩
        have h3 := hs k (List.replicate v 0) (by omega) (by simp)
        have h4 := hi (k + v) (List.replicate v 0) (by omega) (by simp)
        have h5 := row_skip (l := l) (c := m) (w := v) (by omega) (by omega) (by omega) hl2 hv (by omega) k v 0 [] (by omega) (by simp)
        rw [List.replicate_append_replicate, hS] at h4
        rw [List.nil_append, h3] at h5
        have hb : ((m : Int) == 0) = false := by simpa using hz
        unfold spec_DiagramRow.f impl_DiagramRow.f
        rw [hK (k + v + 1) (by omega), impl_DiagramValid_f hl, h, l8Place_f hl, isPlace_f hl, hn]
        simp only [Option.bind_some, if_true, hb, spec_DiagramRow.j0, impl_DiagramRow.j0, Bool.false_eq_true, if_false, Int.toNat_natCast]
        rw [if_pos (by omega), if_pos (by omega)]
        exact ⟨h5, h4⟩

theorem FnExactDiagramRow : laws_FnExactDiagramRow.Pure := by
  intro a l n ha hl hx hn
  by_cases h : 1048576 - (l.length : Int) < 0
  · refine ⟨0, ?_⟩
    unfold laws_FnExactDiagramRow.f
    rw [szDiagram_f (by omega) (by omega) hl, if_pos h]
    rfl
  · have hm : (l.map cFork).length = l.length := by simp
    obtain ⟨K, R, hR, hK⟩ := row_eq (a := a) (l := l.map cFork) (n := n) (by omega)
    refine ⟨K + l.length + R.length + 20, ?_⟩
    obtain ⟨h1, h2⟩ := hK (K + l.length + R.length + 20) (by omega)
    obtain ⟨_, h3⟩ := hK (K + l.length + R.length + 19) (by omega)
    unfold laws_FnExactDiagramRow.f
    rw [szDiagram_f (by omega) (by omega) hl, if_neg h]
    simp only [Option.bind_some]
    rw [if_neg h, toDiagram_f (by omega) (by omega)]
    simp only [Option.bind_some]
    rw [h1, h2]
    simp only [Option.bind_some]
    rw [eqIntS_f (by omega) (by omega), eqDiagram_f (by omega) (by omega)]
    unfold laws_markDiagram.f
    obtain ⟨⟨m1, m2⟩, hm1, hm2⟩ := markForkS_f (k := K + l.length + R.length + 20) (l := l.map cFork) (a := 1) (by omega) (by omega) (by omega) (by omega)
    simp only at hm2
    rw [hm1]
    have hq : ¬ (m1 < 0) := by omega
    have hq2 : ¬ ((1 : Int) + (R.length : Int) < 0) := by omega
    simp only [Option.bind_some, decide_true, if_true, if_neg hq, Bool.not_true, laws_FnExactDiagramRow.j0, Bool.false_eq_true, if_false]
    rw [markIntS_f (by omega) (by omega) (by omega) (by omega)]
    simp only [Option.bind_some]
    rw [heldIntS_f (by omega) (by omega) (by omega) (by omega), toDiagram_f (by omega) (by omega)]
    simp only [Option.bind_some, if_neg hq2, if_true, h3]
    rw [eqIntS_f (by omega) (by omega)]
    simp only [Option.bind_some, decide_true, if_true, if_neg hq2]

end Go.Proofs.Ythcegdgffdppgaa.Pure
