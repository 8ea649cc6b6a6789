/- The law on CircuitValid holds for all arguments: the program tells what the reference tells, and leaves its argument as it was.
Conditions: none. -/
import Derived.Test.YtfiloaoofhnjkaaXFnExactCircuitValidx2
import Derived.Test.YtfiloaoofhnjkaaXLib2
namespace Go.Proofs.Ytfiloaoofhnjkaa.Pure
open Go.RowKit Go.Proofs.Ytfiloaoofhnjkaa.XFnExactCircuitValid Go.Proofs.YtfiloaoofhnjkaaW.PrintWords Go.Proofs.YtfiloaoofhnjkaaW.PrintLast Go.Proofs.YtfiloaoofhnjkaaW.PrintMore Go.Proofs.YtfiloaoofhnjkaaX
set_option linter.unusedVariables false
set_option linter.unusedSimpArgs false

theorem rdT75_nat (xs : List S75) (i : Nat) : rd_T75 xs (i : Int) = xs.getD i z75 := by
  unfold rd_T75
  simp

theorem rdT68_nat (xs : List S68) (i : Nat) : rd_T68 xs (i : Int) = xs.getD i z68 := by
  unfold rd_T68
  simp

theorem szAndS_f {l : List S75} {a : Int} (h0 : 0 ≤ a) (h1 : a ≤ 1048576) (hl : l.length ≤ 9223372036854775807) : laws_szAndS.f l a = some (if a - (l.length : Int) < 0 then -1 else a - (l.length : Int)) := by
  unfold laws_szAndS.f
  rw [wrap_id (by omega) (by omega)]
  by_cases h : a - (l.length : Int) < 0
  · rw [if_pos h, if_pos h]
  · rw [if_neg h, if_neg h]

theorem l1In_f (n a b : Int) : spec_l1In.f n a b = some (inB a b n) := by
  unfold spec_l1In.f inB
  by_cases h : n ≥ a
  · rw [if_pos h]; congr 1; simp; omega
  · rw [if_neg h, decide_eq_false (by omega)]

/-- A circuit that is one: its gates' edges lead to what stands ahead. -/
def gateOK (n : Int) (g : List S68) (j : Nat) : Bool := inB 0 (wrap64 (wrap64 (2 * wrap64 (wrap64 (1 + n) + (j : Int))) - 1)) (g.getD j z68).f0 && inB 0 (wrap64 (wrap64 (2 * wrap64 (wrap64 (1 + n) + (j : Int))) - 1)) (g.getD j z68).f1
def circOK (n : Int) (g : List S68) : Bool := inB 0 12 n && !decide ((g.length : Int) > 600) && decide (∀ j, j < g.length → gateOK n g j = true)

theorem spec_CircuitValid_f {k : Nat} {n : Int} {g : List S68} (hk : g.length + 2 < k) (hm : g.length ≤ 35184372088832) : spec_CircuitValid.f k n g = some (circOK n g) := by
  unfold spec_CircuitValid.f circOK
  rw [l1In_f]
  simp only [Option.bind_some]
  obtain ⟨k, rfl⟩ : ∃ m, k = m + 1 := ⟨k - 1, by omega⟩
  cases inB 0 12 n
  · simp [spec_CircuitValid.j0]
  · simp only [if_true, Bool.true_and, spec_CircuitValid.j0]
    cases hd : decide ((g.length : Int) > 600)
    · simp only [Bool.false_eq_true, if_false, Bool.not_false, Bool.true_and]
      refine (run_all (fun k i => spec_CircuitValid.l0 k (i : Int) n g) g.length (gateOK n g) true false ?_ ?_ k (by omega)).trans ?_
      · intro k i hi
        simp only [spec_CircuitValid.l0]
        rw [if_pos (by omega), if_pos (by omega), wrap_id (x := (i : Int) + 1) (by omega) (by omega), l1In_f, l1In_f]
        simp only [rdT68_nat, Option.bind_some]
        unfold gateOK
        cases inB 0 (wrap64 (wrap64 (2 * wrap64 (wrap64 (1 + n) + (i : Int))) - 1)) (g.getD i z68).f0
        · simp
        · simp
      · intro k
        simp only [spec_CircuitValid.l0]
        rw [if_neg (by omega)]
      · by_cases h : ∀ j, j < g.length → gateOK n g j = true
        · rw [if_pos h, decide_eq_true h]
        · rw [if_neg h, decide_eq_false h]
    · simp

def cAnd (x : S75) : S68 := ⟨x.f0, x.f1⟩
theorem toAndS_f {k : Nat} {l : List S75} (hk : l.length < k) (hm : l.length ≤ 17592186044416) : laws_toAndS.f k l = some (l.map cAnd) := by
  unfold laws_toAndS.f
  rw [if_pos (by omega), if_pos (by omega)]
  refine run_inv (fun k (s : List S68) i => laws_toAndS.l0 k l s (i : Int)) l.length (fun i s => s.length = l.length ∧ ∀ j, j < i → s.getD j z68 = (l.map cAnd).getD j z68) _ ?_ ?_ k 0 _ (Nat.zero_le _) (by omega) ⟨by simp, fun j hj => absurd hj (Nat.not_lt_zero j)⟩
  · intro k i s hi ⟨hl, hs⟩
    refine Or.inr ⟨s.set i (cAnd (l.getD i z75)), ?_, by simpa using hl, fun j hj => ?_⟩
    · simp only [laws_toAndS.l0]
      rw [if_pos (by omega), if_pos (by omega)]
      simp only [laws_toAnd.f, Option.bind_some, rdT75_nat]
      rw [if_pos (by omega), wrap_id (by omega) (by omega)]
      rfl
    · rw [getD_set _ _ _ _ _ (by omega)]
      by_cases e : j = i
      · rw [if_pos e, e]
        simp [List.getD_eq_getElem?_getD, hi]
      · rw [if_neg e]
        exact hs j (by omega)
  · intro k s ⟨hl, hs⟩
    simp only [laws_toAndS.l0]
    rw [if_neg (by omega), ext_getD (d := z68) (s := s) (l := l.map cAnd) (by simpa using hl) (fun j hj => hs j (by simpa using hj))]

theorem in_f (n a b : Int) : impl_in.f n a b = some (inB a b n) := by
  unfold impl_in.f inB
  by_cases h : n ≥ a
  · rw [if_pos h]; congr 1; simp; omega
  · rw [if_neg h, decide_eq_false (by omega)]

theorem impl_CircuitValid_f {k : Nat} {n : Int} {g : List S68} (hk : g.length + 2 < k) (hm : g.length ≤ 35184372088832) : impl_CircuitValid.f k n g = some (circOK n g) := by
  unfold impl_CircuitValid.f circOK
  rw [in_f]
  simp only [Option.bind_some]
  obtain ⟨k, rfl⟩ : ∃ m, k = m + 1 := ⟨k - 1, by omega⟩
  cases inB 0 12 n
  · simp [impl_CircuitValid.j0]
  · simp only [if_true, Bool.true_and, impl_CircuitValid.j0]
    cases hd : decide ((g.length : Int) > 600)
    · simp only [Bool.false_eq_true, if_false, Bool.not_false, Bool.true_and]
      refine (run_all (fun k i => impl_CircuitValid.l0 k g (g.length : Int) (i : Int) n g) g.length (gateOK n g) true false ?_ ?_ k (by omega)).trans ?_
      · intro k i hi
        simp only [impl_CircuitValid.l0]
        rw [if_pos (by omega), if_pos (by omega), if_pos (by omega), wrap_id (x := (i : Int) + 1) (by omega) (by omega), in_f, in_f]
        simp only [rdT68_nat, Option.bind_some]
        unfold gateOK
        cases inB 0 (wrap64 (wrap64 (2 * wrap64 (wrap64 (1 + n) + (i : Int))) - 1)) (g.getD i z68).f0
        · simp
        · simp
      · intro k
        simp only [impl_CircuitValid.l0]
        rw [if_neg (by omega)]
      · by_cases h : ∀ j, j < g.length → gateOK n g j = true
        · rw [if_pos h, decide_eq_true h]
        · rw [if_neg h, decide_eq_false h]
    · simp

theorem eqAndS_f {k : Nat} {l : List S68} (hk : l.length < k) (hm : l.length ≤ 35184372088832) : laws_eqAndS.f k l l = some true := by
  unfold laws_eqAndS.f
  rw [if_pos rfl]
  refine run_inv (fun k (_ : Unit) i => laws_eqAndS.l0 k l l (i : Int)) l.length (fun _ _ => True) _ ?_ ?_ k 0 () (Nat.zero_le _) (by omega) trivial
  · intro k i _ hi _
    refine Or.inr ⟨(), ?_, trivial⟩
    simp only [laws_eqAndS.l0]
    rw [if_pos (by omega), if_pos (by omega), if_pos (by omega), wrap_id (by omega) (by omega)]
    simp only [laws_eqAnd.f, if_true, Option.bind_some]
    rfl
  · intro k _ _
    simp only [laws_eqAndS.l0]
    rw [if_neg (by omega)]

theorem FnExactCircuitValid : laws_FnExactCircuitValid.Pure := by
  intro n g hn hl hw
  refine ⟨g.length + 100, ?_⟩
  unfold laws_FnExactCircuitValid.f laws_szCircuit.f
  rw [szAndS_f (by omega) (by omega) hl]
  simp only [Option.bind_some]
  by_cases h : 1048576 - (g.length : Int) < 0
  · rw [if_pos h]
    rfl
  · simp only [if_neg h, laws_toCircuit.f]
    rw [toAndS_f (by omega) (by omega)]
    simp only [Option.bind_some]
    rw [spec_CircuitValid_f (by simp) (by simp; omega), impl_CircuitValid_f (by simp) (by simp; omega)]
    simp only [Option.bind_some, laws_eqCircuit.f, if_true]
    rw [eqAndS_f (by simp) (by simp; omega)]
    simp

end Go.Proofs.Ytfiloaoofhnjkaa.Pure
