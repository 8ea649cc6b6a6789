/- The law on Contrary holds for all arguments: the program's formula is the reference's, in memory of its own, and the argument stays as it was.
Conditions: none. -/
import Derived.Test.YthcegdgffdppgadXFnExactContraryx5
import Derived.Test.YthcegdgffdppgadXLib2
namespace Go.Proofs.Ythcegdgffdppgad.Pure
open Go.RowKit Go.Proofs.Ythcegdgffdppgad.XFnExactContrary Go.Proofs.YthcegdgffdppgadW.PrintWords Go.Proofs.YthcegdgffdppgadW.PrintLast Go.Proofs.YthcegdgffdppgadW.PrintMore Go.Proofs.YthcegdgffdppgadX
set_option linter.unusedVariables false
set_option linter.unusedSimpArgs false

theorem rdT62_nat (xs : List S62) (i : Nat) : rd_T62 xs (i : Int) = xs.getD i z62 := by
  unfold rd_T62
  simp

theorem rdT60_nat (xs : List S60) (i : Nat) : rd_T60 xs (i : Int) = xs.getD i z60 := by
  unfold rd_T60
  simp

theorem szTimeS_f {l : List S62} {a : Int} (h0 : 0 ≤ a) (h1 : a ≤ 1048576) (hl : l.length ≤ 9223372036854775807) : laws_szTimeS.f l a = some (if a - (l.length : Int) < 0 then -1 else a - (l.length : Int)) := by
  unfold laws_szTimeS.f
  rw [wrap_id (by omega) (by omega)]
  by_cases h : a - (l.length : Int) < 0
  · rw [if_pos h, if_pos h]
  · rw [if_neg h, if_neg h]

theorem l1In_f (n a b : Int) : spec_l1In.f n a b = some (inB a b n) := by
  unfold spec_l1In.f inB
  by_cases h : n ≥ a
  · rw [if_pos h]; congr 1; simp; omega
  · rw [if_neg h, decide_eq_false (by omega)]

/-- A step of a formula of time: its operation, its number, its two parts; how many steps stand ahead; how many facts there are. -/
def timeOK (op n a b ahead facts : Int) : Bool :=
  if op = 0 then decide (n = 0 ∧ a = 0 ∧ b = 0)
  else if op = 1 then inB 0 (wrap64 (facts - 1)) n && decide (a = 0 ∧ b = 0)
  else inB 2 7 op && decide (n = 0) && (inB 0 (wrap64 (ahead - 1)) a && (inB 0 (wrap64 (ahead - 1)) b && (decide (a = b) || !decide (op = 2 ∨ op = 5))))

theorem spec_l20Step_f (op n a b ahead facts : Int) : spec_l20Step.f op n a b ahead facts = some (timeOK op n a b ahead facts) := by
  unfold spec_l20Step.f timeOK
  by_cases h0 : op = 0
  · rw [if_pos h0, if_pos h0]
    by_cases h1 : n = 0
    · by_cases h2 : a = 0
      · rw [if_pos h1, if_pos h2]
        simp [h1, h2]
        by_cases h3 : b = 0 <;> simp [h3]
      · rw [if_pos h1, if_neg h2]
        simp [h2]
    · rw [if_neg h1]
      simp [h1]
  · rw [if_neg h0, if_neg h0]
    by_cases h1 : op = 1
    · rw [if_pos h1, if_pos h1, l1In_f]
      simp only [Option.bind_some]
      cases inB 0 (wrap64 (facts - 1)) n
      · simp
      · by_cases h2 : a = 0
        · rw [if_pos rfl, if_pos h2]
          simp [h2]
          by_cases h3 : b = 0 <;> simp [h3]
        · rw [if_pos rfl, if_neg h2]
          simp [h2]
    · rw [if_neg h1, if_neg h1, l1In_f]
      simp only [Option.bind_some, l1In_f]
      cases inB 2 7 op
      · simp
      · by_cases h2 : n = 0
        · rw [if_pos rfl, if_pos h2, decide_eq_true h2]
          simp only [Bool.true_and]
          cases inB 0 (wrap64 (ahead - 1)) a
          · simp
          · cases inB 0 (wrap64 (ahead - 1)) b
            · simp
            · simp only [if_true, Bool.true_and, spec_l20One.f]
              by_cases h3 : op = 2 ∨ op = 5
              · rw [decide_eq_true h3]
                rcases h3 with rfl | rfl
                all_goals
                  simp
                  by_cases h4 : a = b
                  · simp [h4]
                  · simp [h4, Ne.symm h4]
              · rw [decide_eq_false h3]
                simp only [not_or] at h3
                simp [h3]
        · rw [if_pos rfl, if_neg h2, decide_eq_false h2]
          simp
def timesOK (l : List S60) (facts : Int) : Bool := inB 0 4 facts && inB 1 24 (l.length : Int) && decide (∀ j, j < l.length → timeOK (l.getD j z60).f0 (l.getD j z60).f1 (l.getD j z60).f2 (l.getD j z60).f3 (j : Int) facts = true)
theorem spec_TimesValid_f {k : Nat} {l : List S60} {a : Int} (hk : l.length + 2 < k) (hm : l.length ≤ 35184372088832) : spec_TimesValid.f k l a = some (timesOK l a) := by
  unfold spec_TimesValid.f timesOK
  rw [l1In_f]
  simp only [Option.bind_some, l1In_f]
  obtain ⟨k, rfl⟩ : ∃ m, k = m + 1 := ⟨k - 1, by omega⟩
  cases inB 0 4 a
  · simp [spec_TimesValid.j0]
  · simp only [if_true, Bool.true_and]
    cases inB 1 24 (l.length : Int)
    · simp [spec_TimesValid.j0]
    · simp only [Bool.not_true, Bool.true_and, spec_TimesValid.j0, Bool.false_eq_true, if_false]
      refine (run_all (fun k i => spec_TimesValid.l0 k l a (i : Int)) l.length (fun j => timeOK (l.getD j z60).f0 (l.getD j z60).f1 (l.getD j z60).f2 (l.getD j z60).f3 (j : Int) a) true false ?_ ?_ k (by omega)).trans ?_
      · intro k i hi
        simp only [spec_TimesValid.l0]
        rw [if_pos (by omega), if_pos (by omega), wrap_id (x := (i : Int) + 1) (by omega) (by omega)]
        simp only [rdT60_nat, spec_l20Step_f, Option.bind_some]
        rfl
      · intro k
        simp only [spec_TimesValid.l0]
        rw [if_neg (by omega)]
      · by_cases h : ∀ j, j < l.length → timeOK (l.getD j z60).f0 (l.getD j z60).f1 (l.getD j z60).f2 (l.getD j z60).f3 (j : Int) a = true
        · rw [if_pos h, decide_eq_true h]
        · rw [if_neg h, decide_eq_false h]

def cTime (x : S62) : S60 := ⟨x.f0, x.f1, x.f2, x.f3⟩
theorem toTimeS_f {k : Nat} {l : List S62} (hk : l.length < k) (hm : l.length ≤ 8796093022208) : laws_toTimeS.f k l = some (l.map cTime) := by
  unfold laws_toTimeS.f
  rw [if_pos (by omega), if_pos (by omega)]
  refine run_inv (fun k (s : List S60) i => laws_toTimeS.l0 k l s (i : Int)) l.length (fun i s => s.length = l.length ∧ ∀ j, j < i → s.getD j z60 = (l.map cTime).getD j z60) _ ?_ ?_ k 0 _ (Nat.zero_le _) (by omega) ⟨by simp, fun j hj => absurd hj (Nat.not_lt_zero j)⟩
  · intro k i s hi ⟨hl, hs⟩
    refine Or.inr ⟨s.set i (cTime (l.getD i z62)), ?_, by simpa using hl, fun j hj => ?_⟩
    · simp only [laws_toTimeS.l0]
      rw [if_pos (by omega), if_pos (by omega)]
      simp only [laws_toTime.f, Option.bind_some, rdT62_nat]
      rw [if_pos (by omega), wrap_id (by omega) (by omega)]
      rfl
    · rw [getD_set _ _ _ _ _ (by omega)]
      by_cases e : j = i
      · rw [if_pos e, e]
        simp [List.getD_eq_getElem?_getD, hi]
      · rw [if_neg e]
        exact hs j (by omega)
  · intro k s ⟨hl, hs⟩
    simp only [laws_toTimeS.l0]
    rw [if_neg (by omega), ext_getD (d := z60) (s := s) (l := l.map cTime) (by simpa using hl) (fun j hj => hs j (by simpa using hj))]

theorem in_f (n a b : Int) : impl_in.f n a b = some (inB a b n) := by
  unfold impl_in.f inB
  by_cases h : n ≥ a
  · rw [if_pos h]; congr 1; simp; omega
  · rw [if_neg h, decide_eq_false (by omega)]

theorem impl_TimesValid_f {k : Nat} {l : List S60} {a : Int} (hk : l.length + 2 < k) (hm : l.length ≤ 35184372088832) : impl_TimesValid.f k l a = some (timesOK l a) := by
  unfold impl_TimesValid.f timesOK
  rw [in_f]
  simp only [Option.bind_some, in_f]
  obtain ⟨k, rfl⟩ : ∃ m, k = m + 1 := ⟨k - 1, by omega⟩
  cases inB 0 4 a
  · simp [impl_TimesValid.j0]
  · simp only [if_true, Bool.true_and]
    cases inB 1 24 (l.length : Int)
    · simp [impl_TimesValid.j0]
    · simp only [Bool.not_true, Bool.true_and, impl_TimesValid.j0, Bool.false_eq_true, if_false]
      refine (run_all (fun k i => impl_TimesValid.l0 k a l (l.length : Int) (i : Int)) l.length (fun j => timeOK (l.getD j z60).f0 (l.getD j z60).f1 (l.getD j z60).f2 (l.getD j z60).f3 (j : Int) a) true false ?_ ?_ k (by omega)).trans ?_
      · intro k i hi
        simp only [impl_TimesValid.l0]
        rw [if_pos (show (i : Int) < (l.length : Int) by omega), if_pos (show (0 : Int) ≤ (i : Int) by omega), if_pos (show (i : Int) < (l.length : Int) by omega), wrap_id (x := (i : Int) + 1) (by omega) (by omega)]
        simp only [rdT60_nat, in_f, Option.bind_some]
        generalize l.getD i z60 = x
        obtain ⟨op, n, p, q⟩ := x
        simp only [timeOK]
        rw [show ((i + 1 : Nat) : Int) = (i : Int) + 1 from rfl]
        generalize impl_TimesValid.l0 k a l (l.length : Int) ((i : Int) + 1) = G
        by_cases h0 : op = 0
        · rw [if_pos h0, if_pos h0]
          subst h0
          by_cases h1 : n = 0 <;> by_cases h2 : p = 0 <;> by_cases h3 : q = 0 <;> simp [h1, h2, h3]
        · rw [if_neg h0, if_neg h0]
          by_cases h1 : op = 1
          · rw [if_pos h1, if_pos h1]
            cases inB 0 (wrap64 (a - 1)) n
            · simp
            · by_cases h2 : p = 0 <;> by_cases h3 : q = 0 <;> simp [h2, h3]
          · rw [if_neg h1, if_neg h1]
            have e : inB 0 7 op = inB 2 7 op := decide_eq_decide.2 (by omega)
            rw [e]
            cases inB 2 7 op
            · simp
            · by_cases h2 : n = 0
              · cases inB 0 (wrap64 ((i : Int) - 1)) p
                · simp [h2]
                · cases inB 0 (wrap64 ((i : Int) - 1)) q
                  · simp [h2]
                  · by_cases h3 : p = q
                    · simp [h2, h3]
                    · by_cases h4 : op = 2
                      · simp [h2, h3, h4]
                      · by_cases h5 : op = 5 <;> simp [h2, h3, h4, h5]
              · simp [h2]
      · intro k
        simp only [impl_TimesValid.l0]
        rw [if_neg (by omega)]
      · by_cases h : ∀ j, j < l.length → timeOK (l.getD j z60).f0 (l.getD j z60).f1 (l.getD j z60).f2 (l.getD j z60).f3 (j : Int) a = true
        · rw [if_pos h, decide_eq_true h]
        · rw [if_neg h, decide_eq_false h]

theorem eqTimeS_f {k : Nat} {l : List S60} (hk : l.length < k) (hm : l.length ≤ 35184372088832) : laws_eqTimeS.f k l l = some true := by
  unfold laws_eqTimeS.f
  rw [if_pos rfl]
  refine run_inv (fun k (_ : Unit) i => laws_eqTimeS.l0 k l l (i : Int)) l.length (fun _ _ => True) _ ?_ ?_ k 0 () (Nat.zero_le _) (by omega) trivial
  · intro k i _ hi _
    refine Or.inr ⟨(), ?_, trivial⟩
    simp only [laws_eqTimeS.l0]
    rw [if_pos (by omega), if_pos (by omega), if_pos (by omega), wrap_id (by omega) (by omega)]
    simp only [laws_eqTime.f, if_true, Option.bind_some]
    rfl
  · intro k _ _
    simp only [laws_eqTimeS.l0]
    rw [if_neg (by omega)]

/-- A loop that ends in something of which P holds. -/
theorem run_ex {σ β : Type} (L : Nat → σ → Nat → Option β) (n : Nat) (inv : Nat → σ → Prop) (P : β → Prop)
    (hstep : ∀ k i s, i < n → inv i s → ∃ s', L (k + 1) s i = L k s' (i + 1) ∧ inv (i + 1) s')
    (hend : ∀ k s, inv n s → ∃ r, L (k + 1) s n = some r ∧ P r) : ∀ k i s, i ≤ n → n - i < k → inv i s → ∃ r, L k s i = some r ∧ P r := by
  have key : ∀ d k i s, n - i = d → i ≤ n → d < k → inv i s → ∃ r, L k s i = some r ∧ P r := by
    intro d
    induction d with
    | zero =>
      intro k i s hd hi hk hs
      obtain ⟨k, rfl⟩ : ∃ m, k = m + 1 := ⟨k - 1, by omega⟩
      obtain rfl : i = n := by omega
      exact hend k s hs
    | succ d ih =>
      intro k i s hd hi hk hs
      obtain ⟨k, rfl⟩ : ∃ m, k = m + 1 := ⟨k - 1, by omega⟩
      obtain ⟨s', h, hs'⟩ := hstep k i s (by omega) hs
      rw [h]
      exact ih k (i + 1) s' (by omega) (by omega) (by omega) hs'
  intro k i s hi hk hs
  exact key (n - i) k i s rfl hi hk hs

theorem markTimeS_f {k : Nat} {l : List S60} {a : Int} (hk : l.length < k) (hm : l.length ≤ 1048576) (h0 : 0 ≤ a) (h1 : a ≤ 1000000000000000000) : ∃ r, laws_markTimeS.f k l a = some r ∧ r.1 = a + 4 * (l.length : Int) := by
  unfold laws_markTimeS.f
  refine run_ex (fun k (s : List S60 × Int) i => laws_markTimeS.l0 k s.1 s.2 (i : Int)) l.length (fun i s => s.1.length = l.length ∧ s.2 = a + 4 * (i : Int)) _ ?_ ?_ k 0 (l, a) (Nat.zero_le _) (by omega) ⟨rfl, by simp⟩
  · rintro k i ⟨s, c⟩ hi ⟨hl, hc⟩
    simp only at hl hc
    simp only [laws_markTimeS.l0, Option.bind_some]
    rw [if_pos (by omega), if_pos (by omega), wrap_id (x := (i : Int) + 1) (by omega) (by omega), wrap_id (x := c + 1) (by omega) (by omega), wrap_id (x := c + 1 + 1) (by omega) (by omega), wrap_id (x := c + 1 + 1 + 1) (by omega) (by omega), wrap_id (x := c + 1 + 1 + 1 + 1) (by omega) (by omega)]
    refine ⟨(_, _), rfl, by simpa using hl, ?_⟩
    simp only [Int.natCast_add]
    omega
  · rintro k ⟨s, c⟩ ⟨hl, hc⟩
    simp only at hl hc
    simp only [laws_markTimeS.l0]
    rw [if_neg (by omega)]
    exact ⟨_, rfl, hc⟩

def marksTime (a : Int) (n : Nat) : List S60 := (List.range n).map fun j : Nat => ⟨a + 4 * (j : Int), a + 4 * (j : Int) + 1, a + 4 * (j : Int) + 1 + 1, a + 4 * (j : Int) + 1 + 1 + 1⟩
theorem marksTime_length (a : Int) (n : Nat) : (marksTime a n).length = n := by simp [marksTime]
theorem marksTime_getD (a : Int) (n j : Nat) (h : j < n) : (marksTime a n).getD j z60 = ⟨a + 4 * (j : Int), a + 4 * (j : Int) + 1, a + 4 * (j : Int) + 1 + 1, a + 4 * (j : Int) + 1 + 1 + 1⟩ := by
  simp [marksTime, List.getD_eq_getElem?_getD, h]
theorem markTimeS_x {k : Nat} {l : List S60} {a : Int} (hk : l.length < k) (hm : l.length ≤ 1048576) (h0 : 0 ≤ a) (h1 : a ≤ 1000000000000000000) : laws_markTimeS.f k l a = some (a + 4 * (l.length : Int), marksTime a l.length) := by
  unfold laws_markTimeS.f
  refine run_inv (fun k (s : List S60 × Int) i => laws_markTimeS.l0 k s.1 s.2 (i : Int)) l.length (fun i s => s.1.length = l.length ∧ s.2 = a + 4 * (i : Int) ∧ ∀ j, j < i → s.1.getD j z60 = ⟨a + 4 * (j : Int), a + 4 * (j : Int) + 1, a + 4 * (j : Int) + 1 + 1, a + 4 * (j : Int) + 1 + 1 + 1⟩) _ ?_ ?_ k 0 (l, a) (Nat.zero_le _) (by omega) ⟨rfl, by simp, fun j hj => absurd hj (Nat.not_lt_zero j)⟩
  · rintro k i ⟨s, c⟩ hi ⟨hl, hc, hs⟩
    simp only at hl hc hs
    have g : ∀ A, (s.set i A).getD i z60 = A := fun A => by rw [getD_set _ _ _ _ _ (by omega), if_pos rfl]
    refine Or.inr ⟨(s.set i ⟨c, c + 1, c + 1 + 1, c + 1 + 1 + 1⟩, c + 1 + 1 + 1 + 1), ?_, by simpa using hl, by simp only [Int.natCast_add]; omega, fun j hj => ?_⟩
    · simp only [laws_markTimeS.l0, Option.bind_some]
      rw [if_pos (by omega), if_pos (by omega), wrap_id (x := (i : Int) + 1) (by omega) (by omega), wrap_id (x := c + 1) (by omega) (by omega), wrap_id (x := c + 1 + 1) (by omega) (by omega), wrap_id (x := c + 1 + 1 + 1) (by omega) (by omega), wrap_id (x := c + 1 + 1 + 1 + 1) (by omega) (by omega)]
      simp only [rdT60_nat, Int.toNat_natCast, g, List.set_set]
      rfl
    · simp only
      rw [getD_set _ _ _ _ _ (by omega)]
      by_cases e : j = i
      · rw [if_pos e, e, hc]
      · rw [if_neg e]
        exact hs j (by omega)
  · rintro k ⟨s, c⟩ ⟨hl, hc, hs⟩
    simp only at hl hc hs
    simp only [laws_markTimeS.l0]
    rw [if_neg (by omega), hc, ext_getD (d := z60) (s := s) (l := marksTime a l.length) (by rw [marksTime_length]; exact hl) (fun j hj => by rw [marksTime_length] at hj; rw [marksTime_getD _ _ _ hj]; exact hs j hj)]
theorem heldTimeS_f {k n : Nat} {a : Int} (hk : n < k) (hm : n ≤ 1048576) (h0 : 0 ≤ a) (h1 : a ≤ 1000000000000000000) : laws_heldTimeS.f k (marksTime a n) a = some (a + 4 * (n : Int)) := by
  unfold laws_heldTimeS.f
  have hlen := marksTime_length a n
  refine run_inv (fun k (s : Int) i => laws_heldTimeS.l0 k (marksTime a n) s (i : Int)) n (fun i s => s = a + 4 * (i : Int)) _ ?_ ?_ k 0 a (Nat.zero_le _) (by omega) (by simp)
  · rintro k i s hi rfl
    refine Or.inr ⟨a + 4 * (i : Int) + 1 + 1 + 1 + 1, ?_, by simp only [Int.natCast_add]; omega⟩
    simp only [laws_heldTimeS.l0]
    rw [if_pos (by omega), if_pos (by omega), wrap_id (x := (i : Int) + 1) (by omega) (by omega), wrap_id (x := a + 4 * (i : Int) + 1) (by omega) (by omega), wrap_id (x := a + 4 * (i : Int) + 1 + 1) (by omega) (by omega), wrap_id (x := a + 4 * (i : Int) + 1 + 1 + 1) (by omega) (by omega), wrap_id (x := a + 4 * (i : Int) + 1 + 1 + 1 + 1) (by omega) (by omega)]
    simp only [rdT60_nat, marksTime_getD _ _ _ hi, if_true]
    rfl
  · rintro k s rfl
    simp only [laws_heldTimeS.l0]
    rw [if_neg (by omega)]

def contrT (l : List S60) : S60 := ⟨2, 0, wrap64 ((l.length : Int) - 1), wrap64 ((l.length : Int) - 1)⟩
def contrR (l : List S60) (a : Int) : List S60 := if timesOK l a = true then (if (l.length : Int) = 24 then [] else l ++ [contrT l]) else []
theorem times_small {l : List S60} {a : Int} (h : timesOK l a = true) : 1 ≤ l.length ∧ l.length ≤ 24 := by
  have h1 := (Bool.and_eq_true_iff.1 (Bool.and_eq_true_iff.1 h).1).2
  have h2 : 1 ≤ (l.length : Int) ∧ (l.length : Int) ≤ 24 := of_decide_eq_true h1
  omega
theorem l20Copy_f {k : Nat} {l : List S60} (hk : l.length < k) (hm : l.length ≤ 1048576) : spec_l20Copy.f k l = some l := by
  unfold spec_l20Copy.f
  refine run_inv (fun k (s : List S60) i => spec_l20Copy.l0 k l s (i : Int)) l.length (fun i s => s = l.take i) _ ?_ ?_ k 0 [] (Nat.zero_le _) (by omega) (by simp)
  · rintro k i s hi rfl
    have hl : (l.take i).length = i := by rw [List.length_take]; omega
    refine Or.inr ⟨_, ?_, (take_succ_getD l i z60 hi).symm⟩
    simp only [spec_l20Copy.l0]
    rw [if_pos (by omega), if_pos (by omega), if_pos (by rw [hl]; omega), wrap_id (x := (i : Int) + 1) (by omega) (by omega)]
    simp only [rdT60_nat]
    rfl
  · rintro k s rfl
    simp only [spec_l20Copy.l0]
    rw [if_neg (by omega), List.take_length]
theorem spec_contr {k : Nat} {l : List S60} {a : Int} (hk : l.length + 30 < k) (hm : l.length ≤ 1048576) : spec_Contrary.f k l a = some (contrR l a) := by
  unfold spec_Contrary.f contrR
  rw [spec_TimesValid_f (by omega) (by omega)]
  simp only [Option.bind_some]
  by_cases h : timesOK l a = true
  · have hs := times_small h
    rw [if_pos h, if_pos h]
    by_cases h2 : (l.length : Int) = 24
    · rw [if_pos h2, if_pos (by omega)]
    · rw [if_neg h2, if_neg (by omega), l20Copy_f (by omega) hm]
      simp only [Option.bind_some]
      rw [if_pos (by omega)]
      rfl
  · rw [if_neg h, if_neg h]
theorem impl_contr {k : Nat} {l : List S60} {a : Int} (hk : l.length + 30 < k) (hm : l.length ≤ 1048576) : impl_Contrary.f k l a = some (contrR l a) := by
  unfold impl_Contrary.f contrR
  rw [impl_TimesValid_f (by omega) (by omega)]
  simp only [Option.bind_some]
  by_cases h : timesOK l a = true
  · rw [if_pos h, if_pos h]
    by_cases h2 : (l.length : Int) = 24
    · rw [if_pos h2, if_pos h2]
    · rw [if_neg h2, if_neg h2, if_pos (by omega)]
      unfold contrT
      rw [wrap_id (x := (l.length : Int) - 1) (by omega) (by omega)]
  · rw [if_neg h, if_neg h]

theorem FnExactContrary : laws_FnExactContrary.Pure := by
  intro l a hl hw ha
  refine ⟨2 * l.length + 100, ?_⟩
  unfold laws_FnExactContrary.f
  rw [szTimeS_f (by omega) (by omega) hl]
  simp only [Option.bind_some]
  by_cases h : 1048576 - (l.length : Int) < 0
  · rw [if_pos h]
    rfl
  · simp only [if_neg h]
    rw [toTimeS_f (by omega) (by omega)]
    simp only [Option.bind_some]
    have hlen : (l.map cTime).length = l.length := by simp
    rw [spec_contr (by omega) (by omega), impl_contr (by omega) (by omega)]
    have hI := impl_contr (k := 2 * l.length + 99) (l := l.map cTime) (a := a) (by omega) (by omega)
    have hR : (contrR (l.map cTime) a).length ≤ 25 := by
      unfold contrR
      by_cases ht : timesOK (l.map cTime) a = true
      · have hs := times_small ht
        rw [if_pos ht]
        split
        · simp
        · rw [List.length_append]; simp only [List.length_singleton]; omega
      · rw [if_neg ht]; simp
    generalize contrR (l.map cTime) a = R at hI hR ⊢
    simp only [Option.bind_some]
    rw [eqTimeS_f (l := R) (by omega) (by omega), eqTimeS_f (l := l.map cTime) (by omega) (by omega)]
    obtain ⟨⟨m1, m2⟩, hm1, hm2⟩ := markTimeS_f (k := 2 * l.length + 100) (l := l.map cTime) (a := 1) (by omega) (by omega) (by omega) (by omega)
    simp only at hm2
    rw [hm1]
    have hq : ¬ (m1 < 0) := by omega
    have hq2 : ¬ ((1 : Int) + 4 * (R.length : Int) < 0) := by omega
    simp only [Option.bind_some, decide_true, if_true, if_neg hq, Bool.not_true, laws_FnExactContrary.j0, Bool.false_eq_true, if_false]
    rw [markTimeS_x (by omega) (by omega) (by omega) (by omega)]
    simp only [Option.bind_some]
    rw [heldTimeS_f (by omega) (by omega) (by omega) (by omega), toTimeS_f (by omega) (by omega)]
    simp only [Option.bind_some, if_neg hq2, if_true, hI]
    rw [eqTimeS_f (l := R) (by omega) (by omega)]
    simp only [Option.bind_some, decide_true, if_true, if_neg hq2]

end Go.Proofs.Ythcegdgffdppgad.Pure
