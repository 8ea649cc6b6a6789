/- More plain lemmas on loops told in rounds, and on lists.
Conditions: each lemma's own. -/
import Derived.Test.YthphgkhmeobadacXLib
namespace Go.Proofs.YthphgkhmeobadacX
open Go.Proofs.YthphgkhmeobadacW.PrintWords Go.Proofs.YthphgkhmeobadacW.PrintMore Go.RowKit
set_option linter.unusedVariables false

/-- A loop a round of which takes c + 1 of the rounds that are counted, and calls what needs B. -/
theorem run_invC {σ β : Type} (c B : Nat) (L : Nat → σ → Nat → Option β) (n : Nat) (inv : Nat → σ → Prop) (r : β)
    (hstep : ∀ k i s, B ≤ k → i < n → inv i s → L (k + (c + 1)) s i = some r ∨ ∃ s', L (k + (c + 1)) s i = L k s' (i + 1) ∧ inv (i + 1) s')
    (hend : ∀ k s, B ≤ k → inv n s → L (k + (c + 1)) s n = some r) : ∀ k i s, i ≤ n → (n - i + 1) * (c + 1) + B ≤ k → inv i s → L k s i = some r := by
  have key : ∀ d k i s, n - i = d → i ≤ n → (d + 1) * (c + 1) + B ≤ k → inv i s → L k s i = some r := by
    intro d
    induction d with
    | zero =>
      intro k i s hd hi hk hs
      obtain ⟨k, rfl⟩ : ∃ m, k = m + (c + 1) := ⟨k - (c + 1), by omega⟩
      obtain rfl : i = n := by omega
      exact hend k s (by omega) hs
    | succ d ih =>
      intro k i s hd hi hk hs
      rw [Nat.add_mul (d + 1), Nat.one_mul] at hk
      have h0 : 0 ≤ (d + 1) * (c + 1) := Nat.zero_le _
      obtain ⟨k, rfl⟩ : ∃ m, k = m + (c + 1) := ⟨k - (c + 1), by omega⟩
      rcases hstep k i s (by omega) (by omega) hs with h | ⟨s', h, hs'⟩
      · exact h
      · rw [h]
        exact ih k (i + 1) s' (by omega) (by omega) (by omega) hs'
  intro k i s hi hk hs
  exact key (n - i) k i s rfl hi hk hs
/-- A loop that leads on to what stands behind it. -/
theorem run_goto {σ β : Type} (L : Nat → σ → Nat → Option β) (n : Nat) (inv : Nat → σ → Prop) (E : Nat → Option β)
    (hstep : ∀ k i s, i < n → inv i s → ∃ s', L (k + 1) s i = L k s' (i + 1) ∧ inv (i + 1) s')
    (hend : ∀ k s, inv n s → L (k + 1) s n = E k) : ∀ d k i s, i + d = n → inv i s → L (k + (d + 1)) s i = E k := by
  intro d
  induction d with
  | zero =>
    intro k i s hi hs
    obtain rfl : i = n := by omega
    exact hend k s hs
  | succ d ih =>
    intro k i s hi hs
    obtain ⟨s', h, hs'⟩ := hstep (k + (d + 1)) i s (by omega) hs
    rw [show k + (d + 1 + 1) = k + (d + 1) + 1 from by omega, h]
    exact ih k (i + 1) s' (by omega) hs'

theorem getD_map_range {α : Type} (f : Nat → α) (n j : Nat) (d : α) (h : j < n) : ((List.range n).map f).getD j d = f j := by
  simp [List.getD_eq_getElem?_getD, h]
theorem take_map_range_succ {α : Type} (f : Nat → α) (n i : Nat) (h : i < n) : ((List.range n).map f).take (i + 1) = ((List.range n).map f).take i ++ [f i] := by
  have := take_succ_getD ((List.range n).map f) i (f i) (by simpa using h)
  rw [getD_map_range f n i (f i) h] at this
  exact this
theorem take_map_range_length {α : Type} (f : Nat → α) (n i : Nat) (h : i ≤ n) : (((List.range n).map f).take i).length = i := by
  simp
  omega

def joinL (a b : List Int) : List Int := (List.range a.length).map fun j => if a.getD j 0 = b.getD j 0 then a.getD j 0 else 2
theorem joinL_length (a b : List Int) : (joinL a b).length = a.length := by simp [joinL]
def meetL (a b : List Int) : List Int := (List.range a.length).map fun j => if a.getD j 0 = 2 then b.getD j 0 else a.getD j 0
theorem meetL_length (a b : List Int) : (meetL a b).length = a.length := by simp [meetL]
theorem len_of_ok {l : List Int} {a : Int} (h : cubeOK l a = true) : (l.length : Int) = a ∧ 0 ≤ a ∧ a ≤ 12 := by
  unfold cubeOK inB at h
  simp at h
  omega
theorem elem_of_ok {l : List Int} {a : Int} (h : cubeOK l a = true) (j : Nat) (hj : j < l.length) : l.getD j 0 = 0 ∨ l.getD j 0 = 1 ∨ l.getD j 0 = 2 := by
  unfold cubeOK at h
  have h1 := (Bool.and_eq_true_iff.1 (Bool.and_eq_true_iff.1 h).1).1
  have h2 := (all_getD l 0 (inB 0 2)).2 h1 j hj
  have h3 := of_decide_eq_true h2
  omega

end Go.Proofs.YthphgkhmeobadacX
