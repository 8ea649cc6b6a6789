/- Plain lemmas on whole numbers, lists and loops told in rounds: no Go in them but the wrap of an int.
Conditions: each lemma's own. -/
import Derived.Test.YtnidjlhbejifoaaWWords
import Derived.Test.YtnidjlhbejifoaaWMore
import Derived.Laws.BitsLemmas
namespace Go.Proofs.YtnidjlhbejifoaaX
open Go.Proofs.YtnidjlhbejifoaaW.PrintWords Go.Proofs.YtnidjlhbejifoaaW.PrintMore Go.RowKit
set_option linter.unusedVariables false

theorem wrap_id {x : Int} (h0 : -9223372036854775808 ≤ x) (h1 : x ≤ 9223372036854775807) : wrap64 x = x := by
  unfold wrap64
  omega
theorem rd_nat (xs : List Int) (i : Nat) : rd xs (i : Int) = xs.getD i 0 := by
  unfold rd
  simp
theorem mx_eq (a b : Int) : mx a b = max a b := by
  unfold mx
  omega
/-- A loop over an index: from a state in which the invariant holds it tells r. -/
theorem run_inv {σ β : Type} (L : Nat → σ → Nat → Option β) (n : Nat) (inv : Nat → σ → Prop) (r : β)
    (hstep : ∀ k i s, i < n → inv i s → L (k + 1) s i = some r ∨ ∃ s', L (k + 1) s i = L k s' (i + 1) ∧ inv (i + 1) s')
    (hend : ∀ k s, inv n s → L (k + 1) s n = some r) : ∀ k i s, i ≤ n → n - i < k → inv i s → L k s i = some r := by
  intro k
  induction k with
  | zero => intro i s _ hk; omega
  | succ k ih =>
    intro i s hi hk hs
    by_cases he : i = n
    · subst he
      exact hend k s hs
    · rcases hstep k i s (by omega) hs with h | ⟨s', h, hs'⟩
      · exact h
      · rw [h]
        exact ih (i + 1) s' (by omega) (by omega) hs'
theorem ext_getD {α : Type} {d : α} {s l : List α} (h : s.length = l.length) (he : ∀ j, j < l.length → s.getD j d = l.getD j d) : s = l := by
  refine List.ext_getElem h fun j h1 h2 => ?_
  have := he j h2
  simpa [List.getD, h1, h2] using this
theorem getD_mem {α : Type} (s : List α) (j : Nat) (d : α) (h : j < s.length) : s.getD j d ∈ s := by
  have : s.getD j d = s[j] := by simp [List.getD_eq_getElem?_getD, h]
  rw [this]
  exact List.getElem_mem h
theorem take_succ_getD {α : Type} (s : List α) (i : Nat) (d : α) (h : i < s.length) : s.take (i + 1) = s.take i ++ [s.getD i d] := by
  rw [List.take_succ_eq_append_getElem h]
  simp [List.getD_eq_getElem?_getD, h]

/-- The same three where a round calls what needs B rounds of its own. -/
theorem run_invB {σ β : Type} (B : Nat) (L : Nat → σ → Nat → Option β) (n : Nat) (inv : Nat → σ → Prop) (r : β)
    (hstep : ∀ k i s, B ≤ k → i < n → inv i s → L (k + 1) s i = some r ∨ ∃ s', L (k + 1) s i = L k s' (i + 1) ∧ inv (i + 1) s')
    (hend : ∀ k s, B ≤ k → inv n s → L (k + 1) s n = some r) : ∀ k i s, i ≤ n → n - i + B < k → inv i s → L k s i = some r := by
  intro k
  induction k with
  | zero => intro i s _ hk; omega
  | succ k ih =>
    intro i s hi hk hs
    by_cases he : i = n
    · subst he
      exact hend k s (by omega) hs
    · rcases hstep k i s (by omega) (by omega) hs with h | ⟨s', h, hs'⟩
      · exact h
      · rw [h]
        exact ih (i + 1) s' (by omega) (by omega) hs'
theorem run_allB {β : Type} (B : Nat) (L : Nat → Nat → Option β) (n : Nat) (p : Nat → Bool) (good bad : β)
    (hstep : ∀ k i, B ≤ k → i < n → L (k + 1) i = if p i = true then L k (i + 1) else some bad) (hend : ∀ k, B ≤ k → L (k + 1) n = some good) (k : Nat) (hk : n + B < k) :
    L k 0 = some (if (∀ j, j < n → p j = true) then good else bad) := by
  by_cases h : ∀ j, j < n → p j = true
  · rw [if_pos h]
    refine run_invB B (fun k (_ : Unit) i => L k i) n (fun _ _ => True) good ?_ (fun k _ hb _ => hend k hb) k 0 () (Nat.zero_le _) (by omega) trivial
    intro k i _ hb hi _
    exact Or.inr ⟨(), by rw [hstep k i hb hi, if_pos (h i hi)], trivial⟩
  · rw [if_neg h]
    refine run_invB B (fun k (_ : Unit) i => L k i) n (fun i _ => ∀ j, j < i → p j = true) bad ?_ ?_ k 0 () (Nat.zero_le _) (by omega) (fun j hj => absurd hj (Nat.not_lt_zero j))
    · intro k i _ hb hi hs
      by_cases e : p i = true
      · refine Or.inr ⟨(), by rw [hstep k i hb hi, if_pos e], fun j hj => ?_⟩
        by_cases e2 : j = i
        · rw [e2]; exact e
        · exact hs j (by omega)
      · exact Or.inl (by rw [hstep k i hb hi, if_neg e])
    · intro k _ _ hs
      exact absurd hs h
def inB (lo hi x : Int) : Bool := decide (lo ≤ x ∧ x ≤ hi)
end Go.Proofs.YtnidjlhbejifoaaX
