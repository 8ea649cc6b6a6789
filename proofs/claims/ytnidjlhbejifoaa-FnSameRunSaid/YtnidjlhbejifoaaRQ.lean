/- A system whose parts are short is judged; where it is valid, every rule makes something of every state of as many numbers as there are variables.
Conditions: each theorem's own. -/
import Derived.Test.YtnidjlhbejifoaaRP
namespace Go.Proofs.Ytnidjlhbejifoaa.XFnSameRun
open Go.RowKit Go.Proofs.YtnidjlhbejifoaaW.PrintWords Go.Proofs.YtnidjlhbejifoaaW.PrintLast Go.Proofs.YtnidjlhbejifoaaW.PrintMore Go.Proofs.YtnidjlhbejifoaaX
set_option linter.unusedVariables false
set_option linter.unusedSimpArgs false
/-- A loop that judges element by element. -/
theorem run_b {σ : Type} (L : Nat → σ → Nat → Option Bool) (n B : Nat) (good : Nat → Prop) (Q : Prop)
  (hstep : ∀ k s i, B ≤ k → i < n → L (k + 1) s i = some false ∨ ∃ s', L (k + 1) s i = L k s' (i + 1) ∧ good i)
  (hend : ∀ k s, B ≤ k → ∃ b, L (k + 1) s n = some b ∧ (b = true → Q)) : ∀ k s, n + B < k → ∃ b, L k s 0 = some b ∧ (b = true → Q ∧ ∀ i, i < n → good i) := by
 have key : ∀ d i k s, n - i = d → i ≤ n → d + B < k → ∃ b, L k s i = some b ∧ (b = true → Q ∧ ∀ j, i ≤ j → j < n → good j) := by
  intro d
  induction d with
  | zero =>
   intro i k s hd hi hk
   obtain ⟨k, rfl⟩ : ∃ m, k = m + 1 := ⟨k - 1, by omega⟩
   obtain rfl : i = n := by omega
   obtain ⟨b, h1, h2⟩ := hend k s (by omega)
   exact ⟨b, h1, fun hb => ⟨h2 hb, fun j hj hj2 => by omega⟩⟩
  | succ d ih =>
   intro i k s hd hi hk
   obtain ⟨k, rfl⟩ : ∃ m, k = m + 1 := ⟨k - 1, by omega⟩
   rcases hstep k s i (by omega) (by omega) with h | ⟨s', h, hg⟩
   ·exact ⟨false, h, fun hb => by cases hb⟩
   ·obtain ⟨b, h1, h2⟩ := ih (i + 1) k s' (by omega) (by omega) (by omega)
    refine ⟨b, h.trans h1, fun hb => ⟨(h2 hb).1, fun j hj hj2 => ?_⟩⟩
    by_cases e : j = i
    ·rw [e]; exact hg
    ·exact (h2 hb).2 j (by omega) hj2
 intro k s hk
 obtain ⟨b, h1, h2⟩ := key n 0 k s (by omega) (by omega) hk
 exact ⟨b, h1, fun hb => ⟨(h2 hb).1, fun i hi => (h2 hb).2 i (by omega) hi⟩⟩
theorem rdL3_nat (xs : List (List S54)) (i : Nat) : rd_L3 xs (i : Int) = xs.getD i [] := by simp [rd_L3]
theorem rdT59_nat (xs : List S59) (i : Nat) : rd_T59 xs (i : Int) = xs.getD i z59 := by simp [rd_T59]
theorem l2Is_f {k : Nat} {l : List S54} {v kind : Int} (hk : 1030 < k) (hl : l.length ≤ 1000) : ∃ b, spec_l2Is.f k l v kind = some b ∧ (b = true → kindsOK l v = true) := by
 unfold spec_l2Is.f
 rw [spec_kinds_f (by omega) (by omega)]
 simp only [Option.bind_some]
 have hm := kindsR_length l v
 by_cases h : ((kindsR l v).length : Int) > 0
 ·rw [if_pos h, wrap_id (by omega) (by omega), if_pos (by omega), if_pos (by omega)]
  exact ⟨_, rfl, fun _ => kindsR_pos.1 (by omega)⟩
 ·rw [if_neg h]
  exact ⟨_, rfl, fun h => by cases h⟩
/-- A rule that is one over v variables. -/
structure GoodRule (v : Nat) (r : S59) : Prop where
 when : kindsOK r.f0 v = true
 len : r.f1.length = r.f2.length
 set : ∀ j, j < r.f1.length → 0 ≤ r.f1.getD j 0 ∧ r.f1.getD j 0 < v ∧ kindsOK (r.f2.getD j []) v = true
theorem l2Rule_f {k v : Nat} {r : S59} (hk : 3000 < k) (hv : v ≤ 5) (h0 : r.f0.length ≤ 1000) (h1 : r.f1.length ≤ 1000) (h2 : r.f2.length ≤ 1000) (h3 : ∀ t ∈ r.f2, t.length ≤ 1000) :
  ∃ b, spec_l2Rule.f k r.f0 r.f1 r.f2 v = some b ∧ (b = true → GoodRule v r) := by
 unfold spec_l2Rule.f
 obtain ⟨b, e1, g1⟩ := l2Is_f (k := k) (l := r.f0) (v := v) (kind := 2) (by omega) h0
 obtain ⟨k, rfl⟩ : ∃ m, k = m + 1 := ⟨k - 1, by omega⟩
 rw [e1]
 simp only [Option.bind_some, spec_l2Rule.j0]
 cases b with
 | false => exact ⟨false, by simp, fun h => by cases h⟩
 | true =>
  simp only [if_true]
  by_cases hlen : (r.f1.length : Int) = (r.f2.length : Int)
  ·rw [if_pos hlen]
   by_cases hgt : (r.f1.length : Int) > v
   ·rw [decide_eq_true hgt]
    exact ⟨false, by simp, fun h => by cases h⟩
   ·rw [decide_eq_false hgt]
    simp only [Bool.false_eq_true, if_false]
    have hw : wrap64 ((v : Int) - 1) = (v : Int) - 1 := wrap_id (by omega) (by omega)
    obtain ⟨b, hb1, hb2⟩ := run_b (fun k (_ : Unit) i => spec_l2Rule.l0 k (v : Int) (i : Int) r.f0 r.f1 r.f2) r.f1.length 1040 (fun j => 0 ≤ r.f1.getD j 0 ∧ r.f1.getD j 0 < v ∧ kindsOK (r.f2.getD j []) v = true) True (by
     intro k _ i hB hi
     simp only [spec_l2Rule.l0]
     rw [if_pos (by omega), if_pos (by omega), l1In_f, rd_nat, hw]
     simp only [Option.bind_some]
     by_cases hin : inB 0 ((v : Int) - 1) (r.f1.getD i 0) = true
     ·rw [if_pos hin]
      have hin2 : 0 ≤ r.f1.getD i 0 ∧ r.f1.getD i 0 ≤ (v : Int) - 1 := of_decide_eq_true hin
      obtain ⟨b2, e2, g2⟩ := l2Is_f (k := k) (l := rd_L3 r.f2 (i : Int)) (v := v) (kind := 1) (by omega) (by rw [rdL3_nat]; exact h3 _ (getD_mem _ _ _ (by omega)))
      have hwi : wrap64 ((i : Int) + 1) = ((i + 1 : Nat) : Int) := by rw [wrap_id (by omega) (by omega)]; omega
      have hgood : b2 = true → (0 ≤ r.f1.getD i 0 ∧ r.f1.getD i 0 < v ∧ kindsOK (r.f2.getD i []) v = true) := fun h => ⟨hin2.1, by omega, by rw [← rdL3_nat]; exact g2 h⟩
      rw [e2]
      by_cases hi0 : (i : Int) > 0
      ·have hwm : wrap64 ((i : Int) - 1) = (i : Int) - 1 := wrap_id (by omega) (by omega)
       rw [if_pos hi0, hwm, if_pos (by omega), if_pos (by omega)]
       by_cases hle : r.f1.getD i 0 ≤ rd r.f1 ((i : Int) - 1)
       ·rw [if_pos hle]
        exact .inl rfl
       ·rw [if_neg hle, if_pos (by omega)]
        cases b2 with
        | false => exact .inl rfl
        | true => exact .inr ⟨(), by rw [hwi]; rfl, hgood rfl⟩
      ·rw [if_neg hi0, if_pos (by omega)]
       cases b2 with
       | false => exact .inl rfl
       | true => exact .inr ⟨(), by rw [hwi]; rfl, hgood rfl⟩
     ·rw [if_neg hin]
      exact .inl rfl) (by
     intro k _ hB
     simp only [spec_l2Rule.l0]
     rw [if_neg (by omega)]
     exact ⟨true, rfl, fun _ => trivial⟩) k () (by omega)
    exact ⟨b, hb1, fun h => ⟨g1 rfl, by omega, (hb2 h).2⟩⟩
  ·rw [if_neg hlen]
   exact ⟨false, rfl, fun h => by cases h⟩
def lens (q : Nat) (r : S59) : Prop := r.f0.length ≤ q ∧ r.f1.length ≤ q ∧ r.f2.length ≤ q ∧ ∀ t ∈ r.f2, t.length ≤ q
/-- A system that is one. -/
structure GoodSys (vars : List S51) (rules : List S59) : Prop where
 len : 1 ≤ vars.length ∧ vars.length ≤ 5
 rule : ∀ j, j < rules.length → GoodRule vars.length (rules.getD j z59)
theorem l2Var_f (a b c : Int) : ∃ r, spec_l2Var.f a b c = some r := by
 unfold spec_l2Var.f
 simp only [l1In_f, Option.bind_some]
 split
 ·split
  ·split
   ·exact ⟨_, rfl⟩
   ·exact ⟨_, rfl⟩
  ·exact ⟨_, rfl⟩
 ·exact ⟨_, rfl⟩
theorem sysValid_f {k : Nat} {vars : List S51} {rules : List S59} (hk : 5000 < k) (hv : vars.length ≤ 1000) (hr : rules.length ≤ 1000) (hs : ∀ r ∈ rules, lens 1000 r) :
  ∃ b, spec_SystemValid.f k vars rules = some b ∧ (b = true → GoodSys vars rules) := by
 unfold spec_SystemValid.f
 rw [l1In_f]
 simp only [Option.bind_some]
 obtain ⟨k, rfl⟩ : ∃ m, k = m + 1 := ⟨k - 1, by omega⟩
 simp only [spec_SystemValid.j0]
 by_cases hin : inB 1 5 (vars.length : Int) = true
 ·rw [if_pos hin]
  have hin2 : 1 ≤ (vars.length : Int) ∧ (vars.length : Int) ≤ 5 := of_decide_eq_true hin
  by_cases hgt : (rules.length : Int) > 8
  ·rw [decide_eq_true hgt]
   exact ⟨false, by simp, fun h => by cases h⟩
  ·rw [decide_eq_false hgt]
   simp only [Bool.false_eq_true, if_false]
   obtain ⟨b, hb1, hb2⟩ := run_b (fun k (s : Int) i => spec_SystemValid.l0 k s (i : Int) vars rules) vars.length 4100 (fun _ => True) (∀ j, j < rules.length → GoodRule vars.length (rules.getD j z59)) (by
    intro k s i hB hi
    simp only [spec_SystemValid.l0]
    rw [if_pos (by omega), if_pos (by omega)]
    obtain ⟨b, e⟩ := l2Var_f ((rd_T51 vars (i : Int)).f0) ((rd_T51 vars (i : Int)).f1) ((rd_T51 vars (i : Int)).f2)
    rw [e]
    simp only [Option.bind_some]
    have hwi : wrap64 ((i : Int) + 1) = ((i + 1 : Nat) : Int) := by rw [wrap_id (by omega) (by omega)]; omega
    cases b with
    | false => exact .inl rfl
    | true => exact .inr ⟨_, by rw [hwi]; rfl, trivial⟩) (by
    intro k s hB
    simp only [spec_SystemValid.l0]
    rw [if_neg (by omega)]
    obtain ⟨b, hb1, hb2⟩ := run_b (fun k (_ : Unit) i => spec_SystemValid.l1 k s (i : Int) vars rules) rules.length 3010 (fun j => GoodRule vars.length (rules.getD j z59)) True (by
     intro k _ i hB hi
     simp only [spec_SystemValid.l1]
     rw [if_pos (by omega), if_pos (by omega), rdT59_nat]
     obtain ⟨q0, q1, q2, q3⟩ := hs _ (getD_mem rules i z59 hi)
     obtain ⟨b, e, g⟩ := l2Rule_f (k := k) (v := vars.length) (r := rules.getD i z59) (by omega) (by omega) q0 q1 q2 q3
     rw [e]
     simp only [Option.bind_some]
     have hwi : wrap64 ((i : Int) + 1) = ((i + 1 : Nat) : Int) := by rw [wrap_id (by omega) (by omega)]; omega
     cases b with
     | false => exact .inl rfl
     | true => exact .inr ⟨(), by rw [hwi]; rfl, g rfl⟩) (by
     intro k _ hB
     simp only [spec_SystemValid.l1]
     rw [if_neg (by omega)]
     exact ⟨_, rfl, fun _ => trivial⟩) k () (by omega)
    exact ⟨b, hb1, fun h => (hb2 h).2⟩) k 1 (by omega)
   exact ⟨b, hb1, fun h => ⟨by omega, (hb2 h).1⟩⟩
 ·rw [if_neg hin]
  exact ⟨false, by simp, fun h => by cases h⟩
/-- The first state, where the system is one. -/
theorem first_f {k : Nat} {vars : List S51} {rules : List S59} (hk : 6100 < k) (hl : vars.length ≤ 1000) (hv : ∀ k, 6000 < k → spec_SystemValid.f k vars rules = some true) : ∃ r, spec_FirstState.f k vars rules = some r ∧ r.length = vars.length := by
 unfold spec_FirstState.f
 have key : ∀ d (i k : Nat) (s : List Int), vars.length - i = d → i ≤ vars.length → 6001 + d < k → s.length = i → ∃ r, spec_FirstState.l0 k s (i : Int) vars rules = some r ∧ r.length = vars.length := by
  intro d
  induction d with
  | zero =>
   intro i k s hd hi hk hs
   obtain ⟨k, rfl⟩ : ∃ m, k = m + 1 := ⟨k - 1, by omega⟩
   simp only [spec_FirstState.l0]
   rw [if_neg (by omega)]
   exact ⟨_, rfl, by omega⟩
  | succ d ih =>
   intro i k s hd hi hk hs
   obtain ⟨k, rfl⟩ : ∃ m, k = m + 1 := ⟨k - 1, by omega⟩
   simp only [spec_FirstState.l0]
   rw [if_pos (by omega), hv k (by omega)]
   simp only [Option.bind_some, if_true]
   rw [if_pos (by omega), if_pos (by omega), show wrap64 ((i : Int) + 1) = ((i + 1 : Nat) : Int) from by rw [wrap_id (by omega) (by omega)]; omega]
   exact ih (i + 1) k _ (by omega) (by omega) (by omega) (by simp [hs])
 by_cases h : vars.length ≤ 90
 ·exact key vars.length 0 k [] (by omega) (by omega) (by omega) rfl
 ·exfalso
  have h1 := hv 6001 (by omega)
  unfold spec_SystemValid.f at h1
  rw [l1In_f] at h1
  have h2 : inB 1 5 (vars.length : Int) = false := decide_eq_false (by omega)
  simp only [Option.bind_some, h2, Bool.false_eq_true, if_false, spec_SystemValid.j0, if_true] at h1
  cases h1
theorem held_f (a : Int) : ∃ r, spec_l1Held.f a = some r := by
 unfold spec_l1Held.f
 split
 ·exact ⟨_, rfl⟩
 ·split <;> exact ⟨_, rfl⟩
theorem truth_f (a : Bool) : ∃ r, spec_l1Truth.f a = some r := by
 unfold spec_l1Truth.f
 split <;> exact ⟨_, rfl⟩
theorem do_f (op a b : Int) : ∃ r, spec_l1Do.f op a b = some r := by
 unfold spec_l1Do.f
 obtain ⟨r1, e1⟩ := held_f (wrap64 (a + b))
 obtain ⟨r2, e2⟩ := held_f (wrap64 (a - b))
 obtain ⟨r3, e3⟩ := held_f (wrap64 (a * b))
 obtain ⟨r4, e4⟩ := truth_f (decide (a < b))
 obtain ⟨r5, e5⟩ := truth_f (a == b)
 obtain ⟨r6, e6⟩ := truth_f (decide (wrap64 (a + b) > 0))
 rw [e1, e2, e3, e4, e5, e6]
 simp only [Option.bind_some]
 split
 ·exact ⟨_, rfl⟩
 ·split
  ·exact ⟨_, rfl⟩
  ·split
   ·exact ⟨_, rfl⟩
   ·split
    ·exact ⟨_, rfl⟩
    ·split
     ·exact ⟨_, rfl⟩
     ·split
      ·exact ⟨_, rfl⟩
      ·split <;> exact ⟨_, rfl⟩
theorem values_f {k : Nat} {l : List S54} {s : List Int} (hk : 1010 < k) (hl : l.length ≤ 1000) (hs : s.length ≤ 1000) (hg : kindsOK l (s.length : Int) = true) : ∃ r, spec_l1Values.f k l s = some r ∧ r.length = l.length := by
 unfold spec_l1Values.f
 have hat := of_decide_eq_true (Bool.and_eq_true_iff.1 hg).2
 have key : ∀ d (i k : Nat) (x : List Int), l.length - i = d → i ≤ l.length → d < k → x.length = i → ∃ r, spec_l1Values.l0 k l s x (i : Int) = some r ∧ r.length = l.length := by
  intro d
  induction d with
  | zero =>
   intro i k x hd hi hk hx
   obtain ⟨k, rfl⟩ : ∃ m, k = m + 1 := ⟨k - 1, by omega⟩
   simp only [spec_l1Values.l0]
   rw [if_neg (by omega)]
   exact ⟨_, rfl, by omega⟩
  | succ d ih =>
   intro i k x hd hi hk hx
   obtain ⟨k, rfl⟩ : ∃ m, k = m + 1 := ⟨k - 1, by omega⟩
   have h1 := hat i (by omega)
   unfold kindAt kindF at h1
   have hwi : wrap64 ((i : Int) + 1) = ((i + 1 : Nat) : Int) := by rw [wrap_id (by omega) (by omega)]; omega
   simp only [spec_l1Values.l0, rdT54_nat]
   rw [if_pos (by omega), if_pos (by omega), if_pos (show x.length < 17592186044416 by omega), hwi]
   generalize l.getD i z54 = t at h1 ⊢
   by_cases h0 : t.f0 = 0
   ·rw [if_pos h0]
    exact ih (i + 1) k (x ++ [_]) (by omega) (by omega) (by omega) (by rw [List.length_append, hx]; rfl)
   ·rw [if_neg h0]
    rw [if_neg h0] at h1
    by_cases h2 : t.f0 = 1
    ·rw [if_pos h2]
     rw [if_pos h2] at h1
     by_cases h3 : inB 0 (wrap64 ((s.length : Int) - 1)) t.f1 = true ∧ t.f2 = 0 ∧ t.f3 = 0
     ·have h4 : 0 ≤ t.f1 ∧ t.f1 ≤ wrap64 ((s.length : Int) - 1) := of_decide_eq_true h3.1
      rw [wrap_id (by omega) (by omega)] at h4
      rw [if_pos h4.1, if_pos (by omega), if_pos (by omega)]
      exact ih (i + 1) k (x ++ [_]) (by omega) (by omega) (by omega) (by rw [List.length_append, hx]; rfl)
     ·rw [if_neg h3] at h1
      exact absurd rfl h1
    ·rw [if_neg h2]
     rw [if_neg h2] at h1
     have hkl := kindsTo_length l (s.length : Int) i
     by_cases h3 : inB 0 (wrap64 (((kindsTo l (s.length : Int) i).length : Int) - 1)) t.f2 = true ∧ inB 0 (wrap64 (((kindsTo l (s.length : Int) i).length : Int) - 1)) t.f3 = true
     ·have h4 : 0 ≤ t.f2 ∧ t.f2 ≤ wrap64 (((kindsTo l (s.length : Int) i).length : Int) - 1) := of_decide_eq_true h3.1
      have h5 : 0 ≤ t.f3 ∧ t.f3 ≤ wrap64 (((kindsTo l (s.length : Int) i).length : Int) - 1) := of_decide_eq_true h3.2
      rw [wrap_id (by omega) (by omega), hkl] at h4 h5
      rw [if_pos h4.1, if_pos (by omega), if_pos h5.1, if_pos (by omega)]
      obtain ⟨r, e⟩ := do_f t.f0 (rd x t.f2) (rd x t.f3)
      rw [e]
      simp only [Option.bind_some]
      rw [if_pos (by omega)]
      exact ih (i + 1) k (x ++ [_]) (by omega) (by omega) (by omega) (by rw [List.length_append, hx]; rfl)
     ·rw [if_neg (fun g => h3 ⟨g.2.2.1, g.2.2.2.1⟩)] at h1
      exact absurd rfl h1
 exact key l.length 0 k [] (by omega) (by omega) (by omega) rfl
theorem last_f {k : Nat} {l : List S54} {s : List Int} (hk : 1010 < k) (hl : l.length ≤ 1000) (hs : s.length ≤ 1000) (hg : kindsOK l (s.length : Int) = true) : ∃ r, spec_l2Last.f k l s = some r := by
 unfold spec_l2Last.f
 obtain ⟨r, e, h⟩ := values_f hk hl hs hg
 have h1 := kinds_small hg
 rw [e]
 simp only [Option.bind_some]
 rw [wrap_id (by omega) (by omega), if_pos (by omega), if_pos (by omega)]
 exact ⟨_, rfl⟩
theorem l2In_f {k : Nat} {vars : List S51} {rules : List S59} {s : List Int} (hk : 1010 < k) (hs : s.length ≤ 1000) (hl : s.length = vars.length) : ∃ b, spec_l2In.f k vars rules s = some b := by
 unfold spec_l2In.f
 rw [if_pos (by omega)]
 obtain ⟨b, h, _⟩ := run_b (fun k (_ : Unit) i => spec_l2In.l0 k s (i : Int) vars rules) s.length 0 (fun _ => True) True (by
  intro k _ i hB hi
  simp only [spec_l2In.l0]
  rw [if_pos (by omega), if_pos (by omega), if_pos (by omega), l1In_f, show wrap64 ((i : Int) + 1) = ((i + 1 : Nat) : Int) from by rw [wrap_id (by omega) (by omega)]; omega]
  simp only [Option.bind_some]
  split
  ·exact .inr ⟨(), rfl, trivial⟩
  ·exact .inl rfl) (by
  intro k _ hB
  simp only [spec_l2In.l0]
  rw [if_neg (by omega)]
  exact ⟨_, rfl, fun _ => trivial⟩) k () (by omega)
 exact ⟨b, h⟩
/-- What a rule makes of a state: nothing, or a state of as many numbers. -/
theorem use_f {vars : List S51} {rules : List S59} {s : List Int} {i : Nat} (hg : GoodSys vars rules) (hs : s.length = vars.length) (hi : i < rules.length) (hl : lens 1000 (rules.getD i z59)) :
  ∃ r, spec_l2Use.f 5000 vars rules s (i : Int) = some r ∧ (r = [] ∨ r.length = vars.length) := by
 have hlen := hg.len
 have hr := hg.rule i hi
 unfold spec_l2Use.f
 rw [if_pos (by omega), if_pos (by omega), rdT59_nat]
 generalize rules.getD i z59 = R at hr hl ⊢
 obtain ⟨q0, q1, q2, q3⟩ := hl
 obtain ⟨t, e⟩ := last_f (k := 5000) (s := s) (by omega) q0 (by omega) (by rw [hs]; exact hr.when)
 rw [e]
 simp only [Option.bind_some]
 by_cases h0 : t = 0
 ·rw [if_pos h0]
  exact ⟨_, rfl, .inl rfl⟩
 ·rw [if_neg h0]
  have key2 : ∀ d (j k : Nat) (x : List Int), R.f1.length - j = d → j ≤ R.f1.length → d + 1500 < k → x.length = s.length → ∃ r, spec_l2Use.l1 k s x (j : Int) vars rules R.f0 R.f1 R.f2 = some r ∧ (r = [] ∨ r.length = vars.length) := by
   intro d
   induction d with
   | zero =>
    intro j k x hd hj hk hx
    obtain ⟨k, rfl⟩ : ∃ m, k = m + 1 := ⟨k - 1, by omega⟩
    simp only [spec_l2Use.l1]
    rw [if_neg (by omega)]
    obtain ⟨b, e2⟩ := l2In_f (k := k) (vars := vars) (rules := rules) (s := x) (by omega) (by omega) (by omega)
    rw [e2]
    simp only [Option.bind_some]
    split
    ·exact ⟨_, rfl, .inr (by omega)⟩
    ·exact ⟨_, rfl, .inl rfl⟩
   | succ d ih =>
    intro j k x hd hj hk hx
    obtain ⟨k, rfl⟩ : ∃ m, k = m + 1 := ⟨k - 1, by omega⟩
    have hlen2 := hr.len
    have hset := hr.set j (by omega)
    obtain ⟨t2, e2⟩ := last_f (k := k) (l := R.f2.getD j []) (s := s) (by omega) (q3 _ (getD_mem _ _ _ (by omega))) (by omega) (by rw [hs]; exact hset.2.2)
    simp only [spec_l2Use.l1]
    rw [if_pos (by omega), if_pos (by omega), if_pos (by omega), rdL3_nat, e2, rd_nat]
    simp only [Option.bind_some]
    rw [if_pos hset.1, if_pos (by omega), show wrap64 ((j : Int) + 1) = ((j + 1 : Nat) : Int) from by rw [wrap_id (by omega) (by omega)]; omega]
    exact ih (j + 1) k _ (by omega) (by omega) (by omega) (by simpa using hx)
  have key : ∀ d (j k : Nat) (x : List Int), s.length - j = d → j ≤ s.length → d + 2600 < k → x.length = j → ∃ r, spec_l2Use.l0 k s x (j : Int) vars rules R.f0 R.f1 R.f2 = some r ∧ (r = [] ∨ r.length = vars.length) := by
   intro d
   induction d with
   | zero =>
    intro j k x hd hj hk hx
    obtain ⟨k, rfl⟩ : ∃ m, k = m + 1 := ⟨k - 1, by omega⟩
    simp only [spec_l2Use.l0]
    rw [if_neg (by omega)]
    exact key2 R.f1.length 0 k x (by omega) (by omega) (by omega) (by omega)
   | succ d ih =>
    intro j k x hd hj hk hx
    obtain ⟨k, rfl⟩ : ∃ m, k = m + 1 := ⟨k - 1, by omega⟩
    simp only [spec_l2Use.l0]
    rw [if_pos (by omega), if_pos (by omega), if_pos (by omega), show wrap64 ((j : Int) + 1) = ((j + 1 : Nat) : Int) from by rw [wrap_id (by omega) (by omega)]; omega]
    exact ih (j + 1) k _ (by omega) (by omega) (by omega) (by simp [hx])
  exact key s.length 0 5000 [] (by omega) (by omega) (by omega) rfl
end Go.Proofs.Ytnidjlhbejifoaa.XFnSameRun
