/- The law on Joined holds for all arguments: the program's terms are the reference's, in memory of their own, and the arguments stay as they were.
Conditions: none. -/
import Derived.Test.YthcegdgffdppgadXFnExactJoinedx7
import Derived.Test.YthcegdgffdppgadXLib2
namespace Go.Proofs.Ythcegdgffdppgad.Pure
open Go.RowKit Go.Proofs.Ythcegdgffdppgad.XFnExactJoined Go.Proofs.YthcegdgffdppgadW.PrintWords Go.Proofs.YthcegdgffdppgadW.PrintLast Go.Proofs.YthcegdgffdppgadW.PrintMore Go.Proofs.YthcegdgffdppgadX
set_option linter.unusedVariables false
set_option linter.unusedSimpArgs false

theorem rdT50_nat (xs : List S50) (i : Nat) : rd_T50 xs (i : Int) = xs.getD i z50 := by
  unfold rd_T50
  simp

theorem rdT48_nat (xs : List S48) (i : Nat) : rd_T48 xs (i : Int) = xs.getD i z48 := by
  unfold rd_T48
  simp

theorem szTermS_f {l : List S50} {a : Int} (h0 : 0 ≤ a) (h1 : a ≤ 1048576) (hl : l.length ≤ 9223372036854775807) : laws_szTermS.f l a = some (if a - (l.length : Int) < 0 then -1 else a - (l.length : Int)) := by
  unfold laws_szTermS.f
  rw [wrap_id (by omega) (by omega)]
  by_cases h : a - (l.length : Int) < 0
  · rw [if_pos h, if_pos h]
  · rw [if_neg h, if_neg h]

def cTerm (x : S50) : S48 := ⟨x.f0, x.f1, x.f2, x.f3⟩
theorem toTermS_f {k : Nat} {l : List S50} (hk : l.length < k) (hm : l.length ≤ 8796093022208) : laws_toTermS.f k l = some (l.map cTerm) := by
  unfold laws_toTermS.f
  rw [if_pos (by omega), if_pos (by omega)]
  refine run_inv (fun k (s : List S48) i => laws_toTermS.l0 k l s (i : Int)) l.length (fun i s => s.length = l.length ∧ ∀ j, j < i → s.getD j z48 = (l.map cTerm).getD j z48) _ ?_ ?_ k 0 _ (Nat.zero_le _) (by omega) ⟨by simp, fun j hj => absurd hj (Nat.not_lt_zero j)⟩
  · intro k i s hi ⟨hl, hs⟩
    refine Or.inr ⟨s.set i (cTerm (l.getD i z50)), ?_, by simpa using hl, fun j hj => ?_⟩
    · simp only [laws_toTermS.l0]
      rw [if_pos (by omega), if_pos (by omega)]
      simp only [laws_toTerm.f, Option.bind_some, rdT50_nat]
      rw [if_pos (by omega), wrap_id (by omega) (by omega)]
      rfl
    · rw [getD_set _ _ _ _ _ (by omega)]
      by_cases e : j = i
      · rw [if_pos e, e]
        simp [List.getD_eq_getElem?_getD, hi]
      · rw [if_neg e]
        exact hs j (by omega)
  · intro k s ⟨hl, hs⟩
    simp only [laws_toTermS.l0]
    rw [if_neg (by omega), ext_getD (d := z48) (s := s) (l := l.map cTerm) (by simpa using hl) (fun j hj => hs j (by simpa using hj))]

theorem eqTermS_f {k : Nat} {l : List S48} (hk : l.length < k) (hm : l.length ≤ 35184372088832) : laws_eqTermS.f k l l = some true := by
  unfold laws_eqTermS.f
  rw [if_pos rfl]
  refine run_inv (fun k (_ : Unit) i => laws_eqTermS.l0 k l l (i : Int)) l.length (fun _ _ => True) _ ?_ ?_ k 0 () (Nat.zero_le _) (by omega) trivial
  · intro k i _ hi _
    refine Or.inr ⟨(), ?_, trivial⟩
    simp only [laws_eqTermS.l0]
    rw [if_pos (by omega), if_pos (by omega), if_pos (by omega), wrap_id (by omega) (by omega)]
    simp only [laws_eqTerm.f, if_true, Option.bind_some]
    rfl
  · intro k _ _
    simp only [laws_eqTermS.l0]
    rw [if_neg (by omega)]

/-- A loop that ends in something of which P holds. -/
theorem run_ex {σ β : Type} (L : Nat → σ → Nat → Option β) (n : Nat) (inv : Nat → σ → Prop) (P : β → Prop)
    (hstep : ∀ k i s, i < n → inv i s → ∃ s', L (k + 1) s i = L k s' (i + 1) ∧ inv (i + 1) s')
    (hend : ∀ k s, inv n s → ∃ r, L (k + 1) s n = some r ∧ P r) : ∀ k i s, i ≤ n → n - i < k → inv i s → ∃ r, L k s i = some r ∧ P r := by
  have key : ∀ d k i s, n - i = d → i ≤ n → d < k → inv i s → ∃ r, L k s i = some r ∧ P r := by
    intro d
    induction d with
    | zero =>
      intro k i s hd hi hk hs
      obtain ⟨k, rfl⟩ : ∃ m, k = m + 1 := ⟨k - 1, by omega⟩
      obtain rfl : i = n := by omega
      exact hend k s hs
    | succ d ih =>
      intro k i s hd hi hk hs
      obtain ⟨k, rfl⟩ : ∃ m, k = m + 1 := ⟨k - 1, by omega⟩
      obtain ⟨s', h, hs'⟩ := hstep k i s (by omega) hs
      rw [h]
      exact ih k (i + 1) s' (by omega) (by omega) (by omega) hs'
  intro k i s hi hk hs
  exact key (n - i) k i s rfl hi hk hs

theorem markTermS_f {k : Nat} {l : List S48} {a : Int} (hk : l.length < k) (hm : l.length ≤ 1048576) (h0 : 0 ≤ a) (h1 : a ≤ 1000000000000000000) : ∃ r, laws_markTermS.f k l a = some r ∧ r.1 = a + 4 * (l.length : Int) := by
  unfold laws_markTermS.f
  refine run_ex (fun k (s : List S48 × Int) i => laws_markTermS.l0 k s.1 s.2 (i : Int)) l.length (fun i s => s.1.length = l.length ∧ s.2 = a + 4 * (i : Int)) _ ?_ ?_ k 0 (l, a) (Nat.zero_le _) (by omega) ⟨rfl, by simp⟩
  · rintro k i ⟨s, c⟩ hi ⟨hl, hc⟩
    simp only at hl hc
    simp only [laws_markTermS.l0, Option.bind_some]
    rw [if_pos (by omega), if_pos (by omega), wrap_id (x := (i : Int) + 1) (by omega) (by omega), wrap_id (x := c + 1) (by omega) (by omega), wrap_id (x := c + 1 + 1) (by omega) (by omega), wrap_id (x := c + 1 + 1 + 1) (by omega) (by omega), wrap_id (x := c + 1 + 1 + 1 + 1) (by omega) (by omega)]
    refine ⟨(_, _), rfl, by simpa using hl, ?_⟩
    simp only [Int.natCast_add]
    omega
  · rintro k ⟨s, c⟩ ⟨hl, hc⟩
    simp only at hl hc
    simp only [laws_markTermS.l0]
    rw [if_neg (by omega)]
    exact ⟨_, rfl, hc⟩

def marksTerm (a : Int) (n : Nat) : List S48 := (List.range n).map fun j : Nat => ⟨a + 4 * (j : Int), a + 4 * (j : Int) + 1, a + 4 * (j : Int) + 1 + 1, a + 4 * (j : Int) + 1 + 1 + 1⟩
theorem marksTerm_length (a : Int) (n : Nat) : (marksTerm a n).length = n := by simp [marksTerm]
theorem marksTerm_getD (a : Int) (n j : Nat) (h : j < n) : (marksTerm a n).getD j z48 = ⟨a + 4 * (j : Int), a + 4 * (j : Int) + 1, a + 4 * (j : Int) + 1 + 1, a + 4 * (j : Int) + 1 + 1 + 1⟩ := by
  simp [marksTerm, List.getD_eq_getElem?_getD, h]
theorem markTermS_x {k : Nat} {l : List S48} {a : Int} (hk : l.length < k) (hm : l.length ≤ 1048576) (h0 : 0 ≤ a) (h1 : a ≤ 1000000000000000000) : laws_markTermS.f k l a = some (a + 4 * (l.length : Int), marksTerm a l.length) := by
  unfold laws_markTermS.f
  refine run_inv (fun k (s : List S48 × Int) i => laws_markTermS.l0 k s.1 s.2 (i : Int)) l.length (fun i s => s.1.length = l.length ∧ s.2 = a + 4 * (i : Int) ∧ ∀ j, j < i → s.1.getD j z48 = ⟨a + 4 * (j : Int), a + 4 * (j : Int) + 1, a + 4 * (j : Int) + 1 + 1, a + 4 * (j : Int) + 1 + 1 + 1⟩) _ ?_ ?_ k 0 (l, a) (Nat.zero_le _) (by omega) ⟨rfl, by simp, fun j hj => absurd hj (Nat.not_lt_zero j)⟩
  · rintro k i ⟨s, c⟩ hi ⟨hl, hc, hs⟩
    simp only at hl hc hs
    have g : ∀ A, (s.set i A).getD i z48 = A := fun A => by rw [getD_set _ _ _ _ _ (by omega), if_pos rfl]
    refine Or.inr ⟨(s.set i ⟨c, c + 1, c + 1 + 1, c + 1 + 1 + 1⟩, c + 1 + 1 + 1 + 1), ?_, by simpa using hl, by simp only [Int.natCast_add]; omega, fun j hj => ?_⟩
    · simp only [laws_markTermS.l0, Option.bind_some]
      rw [if_pos (by omega), if_pos (by omega), wrap_id (x := (i : Int) + 1) (by omega) (by omega), wrap_id (x := c + 1) (by omega) (by omega), wrap_id (x := c + 1 + 1) (by omega) (by omega), wrap_id (x := c + 1 + 1 + 1) (by omega) (by omega), wrap_id (x := c + 1 + 1 + 1 + 1) (by omega) (by omega)]
      simp only [rdT48_nat, Int.toNat_natCast, g, List.set_set]
      rfl
    · simp only
      rw [getD_set _ _ _ _ _ (by omega)]
      by_cases e : j = i
      · rw [if_pos e, e, hc]
      · rw [if_neg e]
        exact hs j (by omega)
  · rintro k ⟨s, c⟩ ⟨hl, hc, hs⟩
    simp only at hl hc hs
    simp only [laws_markTermS.l0]
    rw [if_neg (by omega), hc, ext_getD (d := z48) (s := s) (l := marksTerm a l.length) (by rw [marksTerm_length]; exact hl) (fun j hj => by rw [marksTerm_length] at hj; rw [marksTerm_getD _ _ _ hj]; exact hs j hj)]
theorem heldTermS_f {k n : Nat} {a : Int} (hk : n < k) (hm : n ≤ 1048576) (h0 : 0 ≤ a) (h1 : a ≤ 1000000000000000000) : laws_heldTermS.f k (marksTerm a n) a = some (a + 4 * (n : Int)) := by
  unfold laws_heldTermS.f
  have hlen := marksTerm_length a n
  refine run_inv (fun k (s : Int) i => laws_heldTermS.l0 k (marksTerm a n) s (i : Int)) n (fun i s => s = a + 4 * (i : Int)) _ ?_ ?_ k 0 a (Nat.zero_le _) (by omega) (by simp)
  · rintro k i s hi rfl
    refine Or.inr ⟨a + 4 * (i : Int) + 1 + 1 + 1 + 1, ?_, by simp only [Int.natCast_add]; omega⟩
    simp only [laws_heldTermS.l0]
    rw [if_pos (by omega), if_pos (by omega), wrap_id (x := (i : Int) + 1) (by omega) (by omega), wrap_id (x := a + 4 * (i : Int) + 1) (by omega) (by omega), wrap_id (x := a + 4 * (i : Int) + 1 + 1) (by omega) (by omega), wrap_id (x := a + 4 * (i : Int) + 1 + 1 + 1) (by omega) (by omega), wrap_id (x := a + 4 * (i : Int) + 1 + 1 + 1 + 1) (by omega) (by omega)]
    simp only [rdT48_nat, marksTerm_getD _ _ _ hi, if_true]
    rfl
  · rintro k s rfl
    simp only [laws_heldTermS.l0]
    rw [if_neg (by omega)]

theorem l1In_f (n a b : Int) : spec_l1In.f n a b = some (inB a b n) := by
  unfold spec_l1In.f inB
  by_cases h : n ≥ a
  · rw [if_pos h]; congr 1; simp; omega
  · rw [if_neg h, decide_eq_false (by omega)]

/-- The kind of a term behind others whose kinds are ks: 1 a number, 2 a truth, 0 none. -/
def kindF (op n a b : Int) (ks : List Int) (v : Int) : Int :=
  if op = 0 then (if inB (-9999) 9999 n = true ∧ a = 0 ∧ b = 0 then 1 else 0)
  else if op = 1 then (if inB 0 (wrap64 (v - 1)) n = true ∧ a = 0 ∧ b = 0 then 1 else 0)
  else if inB 2 9 op = true ∧ n = 0 ∧ inB 0 (wrap64 ((ks.length : Int) - 1)) a = true ∧ inB 0 (wrap64 ((ks.length : Int) - 1)) b = true ∧ rd ks a = (if op ≥ 7 then 2 else 1) ∧ rd ks b = (if op ≥ 7 then 2 else 1) ∧ (op = 7 → b = a) then (if op ≥ 5 then 2 else 1) else 0
theorem in_len {ks : List Int} {a : Int} (hm : ks.length ≤ 1048576) (h : inB 0 (wrap64 ((ks.length : Int) - 1)) a = true) : 0 ≤ a ∧ a < (ks.length : Int) := by
  have h1 := of_decide_eq_true h
  rw [wrap_id (by omega) (by omega)] at h1
  omega

theorem l1Kind_f {k : Nat} {op n a b v : Int} {ks : List Int} (hk : 5 < k) (hm : ks.length ≤ 1048576) : spec_l1Kind.f k op n a b ks v = some (kindF op n a b ks v) := by
  obtain ⟨k, rfl⟩ : ∃ m, k = m + 5 := ⟨k - 5, by omega⟩
  unfold spec_l1Kind.f kindF
  simp only [spec_l1Kind.j0, spec_l1Kind.j1, spec_l1Kind.j2, spec_l1Kind.j3, spec_l1Kind.j4, l1In_f, Option.bind_some, spec_l1One.f]
  by_cases h0 : op = 0
  · subst h0
    have e : inB 2 9 0 = false := by decide
    rw [e]
    by_cases h1 : inB (-9999) 9999 n = true <;> by_cases h2 : a = 0 <;> by_cases h3 : b = 0 <;> simp [h1, h2, h3]
  · rw [if_neg h0, if_neg h0]
    by_cases h1 : op = 1
    · subst h1
      have e : inB 2 9 1 = false := by decide
      rw [e]
      by_cases h1 : inB 0 (wrap64 (v - 1)) n = true <;> by_cases h2 : a = 0 <;> by_cases h3 : b = 0 <;> simp [h1, h2, h3]
    · simp only [if_neg h1, Bool.false_eq_true, if_false]
      by_cases h2 : inB 2 9 op = true
      · by_cases h3 : n = 0
        · by_cases h4 : inB 0 (wrap64 ((ks.length : Int) - 1)) a = true
          · by_cases h5 : inB 0 (wrap64 ((ks.length : Int) - 1)) b = true
            · have ha := in_len hm h4
              have hb := in_len hm h5
              have h26 : 2 ≤ op ∧ op ≤ 9 := of_decide_eq_true h2
              simp only [h2, h3, h4, h5, if_true, Bool.not_true, Bool.false_eq_true, if_false, if_pos ha.1, if_pos ha.2, if_pos hb.1, if_pos hb.2, true_and]
              by_cases h7 : op ≥ 7
              · rw [if_pos h7]
                simp only [if_pos h7]
                by_cases h8 : rd ks a = 2
                · by_cases h9 : rd ks b = 2
                  · by_cases h10 : op = 7
                    · by_cases h11 : b = a <;> simp [h8, h9, h10, h11]
                    · have h12 : op ≥ 5 := by omega
                      simp [h8, h9, h10, h12]
                  · simp [h8, h9]
                · simp [h8]
              · rw [if_neg h7]
                simp only [if_neg h7]
                have h10 : ¬ op = 7 := by omega
                by_cases h8 : rd ks a = 1
                · by_cases h9 : rd ks b = 1
                  · by_cases h12 : op ≥ 5 <;> simp [h8, h9, h10, h12]
                  · simp [h8, h9]
                · simp [h8]
            · simp [h2, h3, h4, h5]
          · simp [h2, h3, h4]
        · simp [h2, h3]
      · simp [h2]

def kindsTo (l : List S48) (v : Int) : Nat → List Int
  | 0 => []
  | i + 1 => kindsTo l v i ++ [kindF (l.getD i z48).f0 (l.getD i z48).f1 (l.getD i z48).f2 (l.getD i z48).f3 (kindsTo l v i) v]
def kindAt (l : List S48) (v : Int) (i : Nat) : Int := kindF (l.getD i z48).f0 (l.getD i z48).f1 (l.getD i z48).f2 (l.getD i z48).f3 (kindsTo l v i) v
theorem kindsTo_length (l : List S48) (v : Int) (i : Nat) : (kindsTo l v i).length = i := by
  induction i with
  | zero => rfl
  | succ i ih => simp [kindsTo, ih]
def kindsOK (l : List S48) (v : Int) : Bool := inB 0 5 v && inB 1 40 (l.length : Int) && decide (∀ j, j < l.length → kindAt l v j ≠ 0)
/-- The kinds of all terms, or none. -/
def kindsR (l : List S48) (v : Int) : List Int := if kindsOK l v = true then kindsTo l v l.length else []
theorem kindsR_length (l : List S48) (v : Int) : (kindsR l v).length ≤ l.length := by
  unfold kindsR
  split
  · rw [kindsTo_length]; exact Nat.le_refl _
  · simp
theorem kindsR_pos {l : List S48} {v : Int} : 0 < (kindsR l v).length ↔ kindsOK l v = true := by
  unfold kindsR
  by_cases h : kindsOK l v = true
  · rw [if_pos h, kindsTo_length]
    have h1 := (Bool.and_eq_true_iff.1 (Bool.and_eq_true_iff.1 h).1).2
    have h2 : 1 ≤ (l.length : Int) ∧ (l.length : Int) ≤ 40 := of_decide_eq_true h1
    exact ⟨fun _ => h, fun _ => by omega⟩
  · rw [if_neg h]
    exact ⟨fun g => absurd g (Nat.lt_irrefl 0), fun g => absurd g h⟩

theorem spec_kinds_f {k : Nat} {l : List S48} {v : Int} (hk : l.length + 20 < k) (hm : l.length ≤ 1048576) : spec_KindsOf.f k l v = some (kindsR l v) := by
  unfold spec_KindsOf.f kindsR kindsOK
  obtain ⟨k, rfl⟩ : ∃ m, k = m + 1 := ⟨k - 1, by omega⟩
  simp only [l1In_f, Option.bind_some, spec_KindsOf.j0]
  cases inB 0 5 v
  · rfl
  · cases inB 1 40 (l.length : Int)
    · rfl
    · simp only [if_true, Bool.not_true, Bool.false_eq_true, if_false, Bool.true_and, decide_eq_true_eq]
      refine run_invB 10 (fun k (s : List Int) i => spec_KindsOf.l0 k l v s (i : Int)) l.length (fun i s => s = kindsTo l v i ∧ ∀ j, j < i → kindAt l v j ≠ 0) _ ?_ ?_ k 0 [] (Nat.zero_le _) (by omega) ⟨rfl, fun j hj => absurd hj (Nat.not_lt_zero j)⟩
      · rintro k i s hB hi ⟨rfl, hs⟩
        have hl := kindsTo_length l v i
        simp only [spec_KindsOf.l0]
        rw [if_pos (by omega), if_pos (by omega), rdT48_nat, l1Kind_f (by omega) (by omega), wrap_id (x := (i : Int) + 1) (by omega) (by omega)]
        simp only [Option.bind_some]
        by_cases e : kindAt l v i = 0
        · refine Or.inl ?_
          have e' : kindF (l.getD i z48).f0 (l.getD i z48).f1 (l.getD i z48).f2 (l.getD i z48).f3 (kindsTo l v i) v = 0 := e
          rw [if_pos e', if_neg (fun g => g i hi e)]
        · have e' : ¬ kindF (l.getD i z48).f0 (l.getD i z48).f1 (l.getD i z48).f2 (l.getD i z48).f3 (kindsTo l v i) v = 0 := e
          refine Or.inr ⟨kindsTo l v (i + 1), ?_, rfl, fun j hj => ?_⟩
          · rw [if_neg e', if_pos (by omega)]
            rfl
          · by_cases ej : j = i
            · rw [ej]; exact e
            · exact hs j (by omega)
      · rintro k s _ ⟨rfl, hs⟩
        simp only [spec_KindsOf.l0]
        rw [if_neg (by omega), if_pos hs]

theorem spec_TermsValid_f {k : Nat} {l : List S48} {v : Int} (hk : l.length + 20 < k) (hm : l.length ≤ 1048576) : spec_TermsValid.f k l v = some (kindsOK l v) := by
  unfold spec_TermsValid.f
  rw [spec_kinds_f hk hm]
  simp only [Option.bind_some]
  congr 1
  rw [Bool.eq_iff_iff, decide_eq_true_iff, ← kindsR_pos]
  omega

theorem in_f (n a b : Int) : impl_in.f n a b = some (inB a b n) := by
  unfold impl_in.f inB
  by_cases h : n ≥ a
  · rw [if_pos h]; congr 1; simp; omega
  · rw [if_neg h, decide_eq_false (by omega)]

theorem parts_f {k : Nat} {op : Int} (hk : 2 < k) : impl_parts.f k op = some (if 2 ≤ op ∧ op ≤ 4 then (2, 1, 1) else if 5 ≤ op ∧ op ≤ 6 then (2, 1, 2) else if op = 7 then (1, 2, 2) else if 8 ≤ op ∧ op ≤ 9 then (2, 2, 2) else (0, 0, 1)) := by
  obtain ⟨k, rfl⟩ : ∃ m, k = m + 2 := ⟨k - 2, by omega⟩
  unfold impl_parts.f
  simp only [impl_parts.j0, impl_parts.j1]
  by_cases h2 : op = 2
  · subst h2; rfl
  · by_cases h3 : op = 3
    · subst h3; rfl
    · by_cases h4 : op = 4
      · subst h4; rfl
      · by_cases h5 : op = 5
        · subst h5; rfl
        · by_cases h6 : op = 6
          · subst h6; rfl
          · by_cases h7 : op = 7
            · subst h7; rfl
            · by_cases h8 : op = 8
              · subst h8; rfl
              · by_cases h9 : op = 9
                · subst h9; rfl
                · have e4 : (op == 4) = false := by simpa using h4
                  have e6 : (op == 6) = false := by simpa using h6
                  rw [if_neg h2, if_neg h3, e4, if_neg (by decide), if_neg h5, e6, if_neg (by decide), if_neg h7, if_neg h8, if_neg h9, if_neg (by omega), if_neg (by omega)]
                  try rw [if_neg (by omega)]
                  try rw [if_neg (by omega)]

theorem impl_kinds_f {k : Nat} {l : List S48} {v : Int} (hk : l.length + 20 < k) (hm : l.length ≤ 1048576) : impl_kindsOf.f k l v = some (kindsR l v) := by
  unfold impl_kindsOf.f kindsR kindsOK
  obtain ⟨k, rfl⟩ : ∃ m, k = m + 1 := ⟨k - 1, by omega⟩
  simp only [in_f, Option.bind_some, impl_kindsOf.j0]
  cases inB 0 5 v
  · rfl
  · cases hin : inB 1 40 (l.length : Int)
    · rfl
    · simp only [if_true, Bool.not_true, Bool.false_eq_true, if_false, Bool.true_and, decide_eq_true_eq]
      rw [if_pos (by omega), if_pos (by omega)]
      refine run_invB 10 (fun k (s : List Int) i => impl_kindsOf.l0 k v s l (l.length : Int) (i : Int)) l.length (fun i s => s = kindsTo l v i ∧ ∀ j, j < i → kindAt l v j ≠ 0) _ ?_ ?_ k 0 [] (Nat.zero_le _) (by omega) ⟨rfl, fun j hj => absurd hj (Nat.not_lt_zero j)⟩
      · rintro k i s hB hi ⟨rfl, hs⟩
        have hl := kindsTo_length l v i
        have key : ∀ G : List Int → Option (List Int), (kindAt l v i = 0 → impl_kindsOf.l0 (k + 1) v (kindsTo l v i) l (l.length : Int) (i : Int) = some []) ∧ (kindAt l v i ≠ 0 → impl_kindsOf.l0 (k + 1) v (kindsTo l v i) l (l.length : Int) (i : Int) = impl_kindsOf.l0 k v (kindsTo l v i ++ [kindAt l v i]) l (l.length : Int) ((i : Int) + 1)) := by
          intro _
          have c1 : (i : Int) < (l.length : Int) := by omega
          have c2 : (0 : Int) ≤ (i : Int) := by omega
          have c3 : (kindsTo l v i).length < 17592186044416 := by omega
          have hli : ((i : Int)) = ((kindsTo l v i).length : Int) := by omega
          unfold kindAt
          simp only [impl_kindsOf.l0, if_pos c1, if_pos c2, if_pos c3, rdT48_nat, in_f, Option.bind_some, wrap_id (x := (i : Int) + 1) (by omega) (by omega)]
          rw [parts_f (by omega)]
          simp only [Option.bind_some]
          rw [show wrap64 ((i : Int) - 1) = wrap64 (((kindsTo l v i).length : Int) - 1) from by rw [← hli]]
          generalize l.getD i z48 = x
          obtain ⟨op, n, a, b⟩ := x
          simp only [kindF]
          generalize kindsTo l v i = ks at hl c3 hli ⊢
          generalize hG : (fun s => impl_kindsOf.l0 k v s l (l.length : Int) ((i : Int) + 1)) = G
          have hG' : ∀ s, impl_kindsOf.l0 k v s l (l.length : Int) ((i : Int) + 1) = G s := fun s => by rw [← hG]
          simp only [hG']
          clear hG hG'
          by_cases h0 : op = 0
          · subst h0
            by_cases h1 : inB (-9999) 9999 n = true <;> by_cases h2 : a = 0 <;> by_cases h3 : b = 0 <;> simp [h1, h2, h3]
          · simp only [if_neg h0]
            by_cases h1 : op = 1
            · subst h1
              by_cases h1 : inB 0 (wrap64 (v - 1)) n = true <;> by_cases h2 : a = 0 <;> by_cases h3 : b = 0 <;> simp [h1, h2, h3]
            · simp only [if_neg h1]
              have e : inB 0 9 op = inB 2 9 op := decide_eq_decide.2 (by omega)
              rw [e]
              by_cases h2 : inB 2 9 op = true
              · have h29 : 2 ≤ op ∧ op ≤ 9 := of_decide_eq_true h2
                by_cases h3 : n = 0
                · by_cases h4 : inB 0 (wrap64 ((ks.length : Int) - 1)) a = true
                  · by_cases h5 : inB 0 (wrap64 ((ks.length : Int) - 1)) b = true
                    · have ha := in_len (by omega) h4
                      have hb := in_len (by omega) h5
                      simp only [h2, h3, h4, h5, if_true, if_pos ha.1, if_pos ha.2, if_pos hb.1, if_pos hb.2, true_and]
                      have hop : op = 2 ∨ op = 3 ∨ op = 4 ∨ op = 5 ∨ op = 6 ∨ op = 7 ∨ op = 8 ∨ op = 9 := by omega
                      generalize rd ks a = ra
                      generalize rd ks b = rb
                      rcases hop with rfl | rfl | rfl | rfl | rfl | rfl | rfl | rfl
                      all_goals
                        simp
                        first
                          | (by_cases g1 : ra = 1 <;> by_cases g2 : rb = 1 <;> simp [g1, g2]; done)
                          | (by_cases g1 : ra = 2 <;> by_cases g2 : rb = 2 <;> simp [g1, g2]; done)
                          | (by_cases g3 : a = b
                             · by_cases g1 : ra = 2 <;> by_cases g2 : rb = 2 <;> simp [g1, g2, g3]
                             · have g4 : ¬ b = a := fun g => g3 g.symm
                               by_cases g1 : ra = 2 <;> by_cases g2 : rb = 2 <;> simp [g1, g2, g3, g4])
                    · simp [h2, h3, h4, h5]
                  · simp [h2, h3, h4]
                · simp [h2, h3]
              · simp [h2]
        obtain ⟨k1, k2⟩ := key (fun _ => none)
        by_cases e : kindAt l v i = 0
        · refine Or.inl ?_
          rw [k1 e, if_neg (fun g => g i hi e)]
        · refine Or.inr ⟨kindsTo l v (i + 1), k2 e, rfl, fun j hj => ?_⟩
          by_cases ej : j = i
          · rw [ej]; exact e
          · exact hs j (by omega)
      · rintro k s _ ⟨rfl, hs⟩
        simp only [impl_kindsOf.l0]
        rw [if_neg (by omega)]
        have hin' : 1 ≤ (l.length : Int) ∧ (l.length : Int) ≤ 40 := of_decide_eq_true hin
        rw [if_pos (by rw [kindsTo_length]; omega)]
        rw [if_pos hs]

theorem impl_TermsValid_f {k : Nat} {l : List S48} {v : Int} (hk : l.length + 20 < k) (hm : l.length ≤ 1048576) : impl_TermsValid.f k l v = some (kindsOK l v) := by
  unfold impl_TermsValid.f
  rw [impl_kinds_f hk hm]
  simp only [Option.bind_some]
  congr 1
  rw [Bool.eq_iff_iff, decide_eq_true_iff, ← kindsR_pos]

def moved (d : Int) (x : S48) : S48 := if x.f0 ≥ 2 then ⟨x.f0, x.f1, wrap64 (x.f2 + d), wrap64 (x.f3 + d)⟩ else ⟨x.f0, x.f1, x.f2, x.f3⟩
/-- Two expressions, the second behind the first, and what joins them. -/
def frontT (op : Int) (a b : List S48) : List S48 := if op = 7 then a else a ++ b.map (moved (a.length : Int))
def joinT (op : Int) (a b : List S48) : List S48 := frontT op a b ++ [⟨op, 0, wrap64 ((a.length : Int) - 1), wrap64 (((frontT op a b).length : Int) - 1)⟩]
def joinR (op : Int) (a b : List S48) (v : Int) : List S48 := if (kindsOK a v && kindsOK b v) = true then (if inB 2 9 op = true then (if kindsOK (joinT op a b) v = true then joinT op a b else []) else []) else []
theorem kinds_small {l : List S48} {v : Int} (h : kindsOK l v = true) : 1 ≤ l.length ∧ l.length ≤ 40 := by
  have h1 := (Bool.and_eq_true_iff.1 (Bool.and_eq_true_iff.1 h).1).2
  have h2 : 1 ≤ (l.length : Int) ∧ (l.length : Int) ≤ 40 := of_decide_eq_true h1
  omega
theorem kinds_zero {l : List S48} {v : Int} (h : kindsOK l v = true) (j : Nat) (hj : j < l.length) (h2 : (l.getD j z48).f0 ≥ 2) : (l.getD j z48).f1 = 0 := by
  have h1 := of_decide_eq_true (Bool.and_eq_true_iff.1 h).2 j hj
  unfold kindAt kindF at h1
  rw [if_neg (by omega), if_neg (by omega)] at h1
  by_cases g : (l.getD j z48).f1 = 0
  · exact g
  · rw [if_neg (fun q => g q.2.1)] at h1
    exact absurd rfl h1
theorem front_length (op : Int) (a b : List S48) : (frontT op a b).length ≤ a.length + b.length := by
  unfold frontT
  split
  · omega
  · rw [List.length_append, List.length_map]; omega
theorem joinT_length (op : Int) (a b : List S48) : (joinT op a b).length ≤ a.length + b.length + 1 := by
  have := front_length op a b
  unfold joinT
  rw [List.length_append]
  simp
  omega
theorem join_bad {op : Int} {a b : List S48} {v : Int} (h : op > 9) : kindsOK (joinT op a b) v = false := by
  rw [Bool.eq_false_iff]
  intro hk
  have hl : (joinT op a b).length = (frontT op a b).length + 1 := by simp [joinT]
  have h1 := of_decide_eq_true (Bool.and_eq_true_iff.1 hk).2 (frontT op a b).length (by omega)
  have hx : (joinT op a b).getD (frontT op a b).length z48 = ⟨op, 0, wrap64 ((a.length : Int) - 1), wrap64 (((frontT op a b).length : Int) - 1)⟩ := by
    simp [joinT, List.getD_eq_getElem?_getD]
  unfold kindAt kindF at h1
  rw [hx] at h1
  simp only at h1
  rw [if_neg (by omega), if_neg (by omega), if_neg (fun q => by have := of_decide_eq_true q.1; omega)] at h1
  exact absurd rfl h1
theorem joined_f {k : Nat} {op : Int} {a b : List S48} (hk : b.length + 5 < k) (ha : a.length ≤ 1048576) (hb : b.length ≤ 1048576) : impl_joined.f k op a b = some (joinT op a b) := by
  unfold impl_joined.f impl_Term_50.f joinT frontT
  rw [if_pos (by omega)]
  simp only [Option.bind_some]
  by_cases h7 : op = 7
  · rw [if_pos h7, if_pos h7, if_pos (by omega)]
  · rw [if_neg h7, if_neg h7]
    refine run_inv (fun k (s : List S48) i => impl_joined.l0 k op a s b (b.length : Int) (i : Int)) b.length (fun i s => s = a ++ (b.map (moved (a.length : Int))).take i) _ ?_ ?_ k 0 a (Nat.zero_le _) (by omega) (by simp)
    · rintro k i s hi rfl
      have ht := take_succ_getD (b.map (moved (a.length : Int))) i z48 (by rw [List.length_map]; exact hi)
      have hg : (b.map (moved (a.length : Int))).getD i z48 = moved (a.length : Int) (b.getD i z48) := by simp [List.getD_eq_getElem?_getD, hi]
      rw [hg] at ht
      have hl : (a ++ (b.map (moved (a.length : Int))).take i).length < 4398046511104 := by rw [List.length_append, List.length_take, List.length_map]; omega
      have c1 : (i : Int) < (b.length : Int) := by omega
      have c2 : (0 : Int) ≤ (i : Int) := by omega
      refine Or.inr ⟨a ++ (b.map (moved (a.length : Int))).take (i + 1), ?_, rfl⟩
      rw [ht, ← List.append_assoc]
      have hmv : moved (a.length : Int) (b.getD i z48) = if (b.getD i z48).f0 ≥ 2 then ⟨(b.getD i z48).f0, (b.getD i z48).f1, wrap64 ((b.getD i z48).f2 + (a.length : Int)), wrap64 ((b.getD i z48).f3 + (a.length : Int))⟩ else ⟨(b.getD i z48).f0, (b.getD i z48).f1, (b.getD i z48).f2, (b.getD i z48).f3⟩ := rfl
      simp only [impl_joined.l0, if_pos c1, if_pos c2, if_pos hl, wrap_id (x := (i : Int) + 1) (by omega) (by omega), rdT48_nat]
      rw [hmv]
      by_cases e : (b.getD i z48).f0 ≥ 2
      · rw [if_pos e, if_pos e]
        rfl
      · rw [if_neg e, if_neg e]
        rfl
    · rintro k s rfl
      have e1 : (b.map (moved (a.length : Int))).take b.length = b.map (moved (a.length : Int)) := List.take_of_length_le (by rw [List.length_map]; omega)
      rw [e1]
      simp only [impl_joined.l0]
      rw [if_neg (by omega), if_pos (by rw [List.length_append, List.length_map]; omega)]
theorem impl_join_f {k : Nat} {op : Int} {a b : List S48} {v : Int} (hk : a.length + b.length + 200 < k) (ha : a.length ≤ 1048576) (hb : b.length ≤ 1048576) : impl_Joined.f k op a b v = some (joinR op a b v) := by
  unfold impl_Joined.f joinR
  obtain ⟨k, rfl⟩ : ∃ m, k = m + 1 := ⟨k - 1, by omega⟩
  rw [impl_TermsValid_f (by omega) ha, impl_TermsValid_f (by omega) hb]
  simp only [Option.bind_some, in_f, impl_Joined.j0, impl_Term_33.f]
  cases hA : kindsOK a v
  · rfl
  · cases hB : kindsOK b v
    · rfl
    · simp only [if_true, Bool.and_self]
      have sA := kinds_small hA
      have sB := kinds_small hB
      have hl := joinT_length op a b
      cases inB 2 9 op
      · rfl
      · simp only [Bool.not_true, Bool.false_eq_true, if_false, if_true]
        rw [joined_f (by omega) ha hb]
        simp only [Option.bind_some]
        rw [impl_TermsValid_f (by omega) (by omega), if_pos (by omega)]
        simp only [Option.bind_some]
        split <;> rfl
theorem spec_join_f {k : Nat} {op : Int} {a b : List S48} {v : Int} (hk : 2 * a.length + 2 * b.length + 300 < k) (ha : a.length ≤ 1048576) (hb : b.length ≤ 1048576) : spec_Joined.f k op a b v = some (joinR op a b v) := by
  unfold spec_Joined.f joinR
  obtain ⟨k, rfl⟩ : ∃ m, k = m + 1 := ⟨k - 1, by omega⟩
  rw [spec_TermsValid_f (by omega) ha, spec_TermsValid_f (by omega) hb]
  simp only [Option.bind_some, spec_Joined.j0]
  cases hA : kindsOK a v
  · rfl
  · cases hB : kindsOK b v
    · rfl
    · simp only [if_true, Bool.and_self, Bool.not_true, Bool.false_eq_true, if_false]
      have sA := kinds_small hA
      have sB := kinds_small hB
      have hl := joinT_length op a b
      have hfl := front_length op a b
      have hend : (if op < 2 then (some ([] : List S48)) else if kindsOK (joinT op a b) v = true then some (joinT op a b) else some []) = some (if inB 2 9 op = true then (if kindsOK (joinT op a b) v = true then joinT op a b else []) else []) := by
        by_cases h2 : op < 2
        · rw [if_pos h2, if_neg (fun q => by have := of_decide_eq_true q; omega)]
        · rw [if_neg h2]
          by_cases h9 : op > 9
          · have e29 : inB 2 9 op = false := decide_eq_false (by omega)
            rw [join_bad h9, e29]
            rfl
          · rw [if_pos (show inB 2 9 op = true from decide_eq_true (by omega))]
            split <;> rfl
      obtain ⟨k, rfl⟩ : ∃ m, k = m + (a.length + 1) := ⟨k - (a.length + 1), by omega⟩
      refine Eq.trans (run_goto (fun k (s : List S48) i => spec_Joined.l0 k op a b v s (i : Int)) a.length (fun i s => s = a.take i) (fun k => spec_Joined.l1 k op a b v a 0) ?_ ?_ a.length k 0 [] (by omega) (by simp)) ?_
      · rintro k i s hi rfl
        have hl : (a.take i).length = i := by rw [List.length_take]; omega
        refine ⟨_, ?_, rfl⟩
        simp only [spec_Joined.l0, rdT48_nat]
        rw [if_pos (by omega), if_pos (by omega), if_pos (by omega), wrap_id (x := (i : Int) + 1) (by omega) (by omega), take_succ_getD a i z48 hi]
        rfl
      · rintro k s rfl
        simp only [spec_Joined.l0]
        rw [if_neg (by omega), List.take_length]
      · by_cases h7 : op = 7
        · subst h7
          obtain ⟨k, rfl⟩ : ∃ m, k = m + 1 := ⟨k - 1, by omega⟩
          simp only [spec_Joined.l1, spec_l1One.f, Option.bind_some]
          rw [if_pos (by omega), if_pos (by rfl), if_pos (by omega), spec_TermsValid_f (by rw [List.length_append]; simp; omega) (by rw [List.length_append]; simp; omega)]
          have hj : joinT 7 a b = a ++ [⟨7, 0, wrap64 ((a.length : Int) - 1), wrap64 ((a.length : Int) - 1)⟩] := rfl
          rw [← hj]
          simp only [Option.bind_some]
          exact hend
        · have hfr : frontT op a b = a ++ b.map (moved (a.length : Int)) := if_neg h7
          have h7b : (op == 7) = false := by simpa using h7
          refine run_invB (a.length + b.length + 100) (fun k (s : List S48) i => spec_Joined.l1 k op a b v s (i : Int)) b.length (fun i s => s = a ++ (b.map (moved (a.length : Int))).take i) _ ?_ ?_ k 0 a (Nat.zero_le _) (by omega) (by simp)
          · rintro k i s hB2 hi rfl
            have ht := take_succ_getD (b.map (moved (a.length : Int))) i z48 (by rw [List.length_map]; exact hi)
            have hg : (b.map (moved (a.length : Int))).getD i z48 = moved (a.length : Int) (b.getD i z48) := by simp [List.getD_eq_getElem?_getD, hi]
            rw [hg] at ht
            have hl : (a ++ (b.map (moved (a.length : Int))).take i).length < 4398046511104 := by rw [List.length_append, List.length_take, List.length_map]; omega
            have c1 : (i : Int) < (b.length : Int) := by omega
            have c2 : (0 : Int) ≤ (i : Int) := by omega
            have hz := kinds_zero hB i hi
            refine Or.inr ⟨a ++ (b.map (moved (a.length : Int))).take (i + 1), ?_, rfl⟩
            rw [ht, ← List.append_assoc]
            have hmv : moved (a.length : Int) (b.getD i z48) = if (b.getD i z48).f0 ≥ 2 then ⟨(b.getD i z48).f0, (b.getD i z48).f1, wrap64 ((b.getD i z48).f2 + (a.length : Int)), wrap64 ((b.getD i z48).f3 + (a.length : Int))⟩ else ⟨(b.getD i z48).f0, (b.getD i z48).f1, (b.getD i z48).f2, (b.getD i z48).f3⟩ := rfl
            simp only [spec_Joined.l1, spec_l1One.f, h7b, Option.bind_some, Bool.false_eq_true, if_false, if_pos c1, if_pos c2, if_pos hl, wrap_id (x := (i : Int) + 1) (by omega) (by omega), rdT48_nat, spec_l1Moved.f]
            rw [hmv]
            by_cases e : (b.getD i z48).f0 ≥ 2
            · rw [if_pos e, if_pos e, hz e]
              rfl
            · rw [if_neg e, if_neg e]
              rfl
          · rintro k s hB2 rfl
            have e1 : (b.map (moved (a.length : Int))).take b.length = b.map (moved (a.length : Int)) := List.take_of_length_le (by rw [List.length_map]; omega)
            rw [e1, ← hfr]
            simp only [spec_Joined.l1, Option.bind_some]
            have hj : joinT op a b = frontT op a b ++ [⟨op, 0, wrap64 ((a.length : Int) - 1), wrap64 (((frontT op a b).length : Int) - 1)⟩] := rfl
            rw [if_neg (by omega), if_pos (by omega), ← hj, spec_TermsValid_f (by omega) (by omega)]
            simp only [Option.bind_some]
            exact hend

theorem FnExactJoined : laws_FnExactJoined.Pure := by
  intro op l m v ho hl hw hm hw' hv
  refine ⟨4 * l.length + 4 * m.length + 500, ?_⟩
  unfold laws_FnExactJoined.f
  rw [szTermS_f (by omega) (by omega) hl]
  simp only [Option.bind_some]
  by_cases h : 1048576 - (l.length : Int) < 0
  · rw [if_pos h]
    rfl
  · simp only [if_neg h]
    rw [szTermS_f (by omega) (by omega) hm]
    simp only [Option.bind_some]
    by_cases h2 : 1048576 - (l.length : Int) - (m.length : Int) < 0
    · rw [if_pos h2]
      rfl
    · simp only [if_neg h2]
      rw [toTermS_f (by omega) (by omega), toTermS_f (by omega) (by omega)]
      simp only [Option.bind_some]
      have hlen : (l.map cTerm).length = l.length := by simp
      have hlen2 : (m.map cTerm).length = m.length := by simp
      rw [spec_join_f (by omega) (by omega) (by omega), impl_join_f (by omega) (by omega) (by omega)]
      have hI := impl_join_f (k := 4 * l.length + 4 * m.length + 499) (op := op) (a := l.map cTerm) (b := m.map cTerm) (v := v) (by omega) (by omega) (by omega)
      have hR : (joinR op (l.map cTerm) (m.map cTerm) v).length ≤ 81 := by
        have := joinT_length op (l.map cTerm) (m.map cTerm)
        unfold joinR
        split
        · rename_i hab
          have s1 := kinds_small (Bool.and_eq_true_iff.1 hab).1
          have s2 := kinds_small (Bool.and_eq_true_iff.1 hab).2
          split
          · split
            · omega
            · simp
          · simp
        · simp
      generalize joinR op (l.map cTerm) (m.map cTerm) v = R at hI hR ⊢
      simp only [Option.bind_some]
      rw [eqTermS_f (l := R) (by omega) (by omega), eqTermS_f (l := l.map cTerm) (by omega) (by omega), eqTermS_f (l := m.map cTerm) (by omega) (by omega)]
      obtain ⟨⟨m1, m2⟩, hm1, hm2⟩ := markTermS_f (k := 4 * l.length + 4 * m.length + 500) (l := l.map cTerm) (a := 1) (by omega) (by omega) (by omega) (by omega)
      simp only at hm2
      obtain ⟨⟨m3, m4⟩, hm3, hm4⟩ := markTermS_f (k := 4 * l.length + 4 * m.length + 500) (l := m.map cTerm) (a := m1) (by omega) (by omega) (by omega) (by omega)
      simp only at hm4
      rw [hm1]
      simp only [Option.bind_some, decide_true, if_true]
      rw [hm3]
      have hq : ¬ (m3 < 0) := by omega
      have hq2 : ¬ ((1 : Int) + 4 * (R.length : Int) < 0) := by omega
      simp only [Option.bind_some, decide_true, if_true, if_neg hq, Bool.not_true, laws_FnExactJoined.j0, Bool.false_eq_true, if_false]
      rw [markTermS_x (by omega) (by omega) (by omega) (by omega)]
      simp only [Option.bind_some]
      rw [heldTermS_f (by omega) (by omega) (by omega) (by omega), toTermS_f (by omega) (by omega), toTermS_f (by omega) (by omega)]
      simp only [Option.bind_some, if_neg hq2, if_true, hI]
      rw [eqTermS_f (l := R) (by omega) (by omega)]
      simp only [Option.bind_some, decide_true, if_true, if_neg hq2]

end Go.Proofs.Ythcegdgffdppgad.Pure
