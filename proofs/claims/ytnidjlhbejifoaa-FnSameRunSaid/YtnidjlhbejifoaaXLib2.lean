/- More plain lemmas on loops told in rounds, and on lists.
Conditions: each lemma's own. -/
import Derived.Test.YtnidjlhbejifoaaXLib
namespace Go.Proofs.YtnidjlhbejifoaaX
open Go.Proofs.YtnidjlhbejifoaaW.PrintWords Go.Proofs.YtnidjlhbejifoaaW.PrintMore Go.RowKit
set_option linter.unusedVariables false

/-- A loop that leads on to what stands behind it. -/
theorem run_goto {σ β : Type} (L : Nat → σ → Nat → Option β) (n : Nat) (inv : Nat → σ → Prop) (E : Nat → Option β)
    (hstep : ∀ k i s, i < n → inv i s → ∃ s', L (k + 1) s i = L k s' (i + 1) ∧ inv (i + 1) s')
    (hend : ∀ k s, inv n s → L (k + 1) s n = E k) : ∀ d k i s, i + d = n → inv i s → L (k + (d + 1)) s i = E k := by
  intro d
  induction d with
  | zero =>
    intro k i s hi hs
    obtain rfl : i = n := by omega
    exact hend k s hs
  | succ d ih =>
    intro k i s hi hs
    obtain ⟨s', h, hs'⟩ := hstep (k + (d + 1)) i s (by omega) hs
    rw [show k + (d + 1 + 1) = k + (d + 1) + 1 from by omega, h]
    exact ih k (i + 1) s' (by omega) hs'

end Go.Proofs.YtnidjlhbejifoaaX
