/- The law on UsedBy holds for all arguments: the program's list is the reference's, in memory of its own, and the argument stays as it was.
Conditions: none. -/
import Derived.Test.YthcegdgffdppgadXFnExactUsedByx7
import Derived.Test.YthcegdgffdppgadXLib2
namespace Go.Proofs.Ythcegdgffdppgad.Pure
open Go.RowKit Go.Proofs.Ythcegdgffdppgad.XFnExactUsedBy Go.Proofs.YthcegdgffdppgadW.PrintWords Go.Proofs.YthcegdgffdppgadW.PrintLast Go.Proofs.YthcegdgffdppgadW.PrintMore Go.Proofs.YthcegdgffdppgadX
set_option linter.unusedVariables false
set_option linter.unusedSimpArgs false

theorem rdT50_nat (xs : List S50) (i : Nat) : rd_T50 xs (i : Int) = xs.getD i z50 := by
  unfold rd_T50
  simp

theorem rdT48_nat (xs : List S48) (i : Nat) : rd_T48 xs (i : Int) = xs.getD i z48 := by
  unfold rd_T48
  simp

theorem szTermS_f {l : List S50} {a : Int} (h0 : 0 ≤ a) (h1 : a ≤ 1048576) (hl : l.length ≤ 9223372036854775807) : laws_szTermS.f l a = some (if a - (l.length : Int) < 0 then -1 else a - (l.length : Int)) := by
  unfold laws_szTermS.f
  rw [wrap_id (by omega) (by omega)]
  by_cases h : a - (l.length : Int) < 0
  · rw [if_pos h, if_pos h]
  · rw [if_neg h, if_neg h]

def cTerm (x : S50) : S48 := ⟨x.f0, x.f1, x.f2, x.f3⟩
theorem toTermS_f {k : Nat} {l : List S50} (hk : l.length < k) (hm : l.length ≤ 8796093022208) : laws_toTermS.f k l = some (l.map cTerm) := by
  unfold laws_toTermS.f
  rw [if_pos (by omega), if_pos (by omega)]
  refine run_inv (fun k (s : List S48) i => laws_toTermS.l0 k l s (i : Int)) l.length (fun i s => s.length = l.length ∧ ∀ j, j < i → s.getD j z48 = (l.map cTerm).getD j z48) _ ?_ ?_ k 0 _ (Nat.zero_le _) (by omega) ⟨by simp, fun j hj => absurd hj (Nat.not_lt_zero j)⟩
  · intro k i s hi ⟨hl, hs⟩
    refine Or.inr ⟨s.set i (cTerm (l.getD i z50)), ?_, by simpa using hl, fun j hj => ?_⟩
    · simp only [laws_toTermS.l0]
      rw [if_pos (by omega), if_pos (by omega)]
      simp only [laws_toTerm.f, Option.bind_some, rdT50_nat]
      rw [if_pos (by omega), wrap_id (by omega) (by omega)]
      rfl
    · rw [getD_set _ _ _ _ _ (by omega)]
      by_cases e : j = i
      · rw [if_pos e, e]
        simp [List.getD_eq_getElem?_getD, hi]
      · rw [if_neg e]
        exact hs j (by omega)
  · intro k s ⟨hl, hs⟩
    simp only [laws_toTermS.l0]
    rw [if_neg (by omega), ext_getD (d := z48) (s := s) (l := l.map cTerm) (by simpa using hl) (fun j hj => hs j (by simpa using hj))]

theorem eqTermS_f {k : Nat} {l : List S48} (hk : l.length < k) (hm : l.length ≤ 35184372088832) : laws_eqTermS.f k l l = some true := by
  unfold laws_eqTermS.f
  rw [if_pos rfl]
  refine run_inv (fun k (_ : Unit) i => laws_eqTermS.l0 k l l (i : Int)) l.length (fun _ _ => True) _ ?_ ?_ k 0 () (Nat.zero_le _) (by omega) trivial
  · intro k i _ hi _
    refine Or.inr ⟨(), ?_, trivial⟩
    simp only [laws_eqTermS.l0]
    rw [if_pos (by omega), if_pos (by omega), if_pos (by omega), wrap_id (by omega) (by omega)]
    simp only [laws_eqTerm.f, if_true, Option.bind_some]
    rfl
  · intro k _ _
    simp only [laws_eqTermS.l0]
    rw [if_neg (by omega)]

/-- A loop that ends in something of which P holds. -/
theorem run_ex {σ β : Type} (L : Nat → σ → Nat → Option β) (n : Nat) (inv : Nat → σ → Prop) (P : β → Prop)
    (hstep : ∀ k i s, i < n → inv i s → ∃ s', L (k + 1) s i = L k s' (i + 1) ∧ inv (i + 1) s')
    (hend : ∀ k s, inv n s → ∃ r, L (k + 1) s n = some r ∧ P r) : ∀ k i s, i ≤ n → n - i < k → inv i s → ∃ r, L k s i = some r ∧ P r := by
  have key : ∀ d k i s, n - i = d → i ≤ n → d < k → inv i s → ∃ r, L k s i = some r ∧ P r := by
    intro d
    induction d with
    | zero =>
      intro k i s hd hi hk hs
      obtain ⟨k, rfl⟩ : ∃ m, k = m + 1 := ⟨k - 1, by omega⟩
      obtain rfl : i = n := by omega
      exact hend k s hs
    | succ d ih =>
      intro k i s hd hi hk hs
      obtain ⟨k, rfl⟩ : ∃ m, k = m + 1 := ⟨k - 1, by omega⟩
      obtain ⟨s', h, hs'⟩ := hstep k i s (by omega) hs
      rw [h]
      exact ih k (i + 1) s' (by omega) (by omega) (by omega) hs'
  intro k i s hi hk hs
  exact key (n - i) k i s rfl hi hk hs

theorem markTermS_f {k : Nat} {l : List S48} {a : Int} (hk : l.length < k) (hm : l.length ≤ 1048576) (h0 : 0 ≤ a) (h1 : a ≤ 1000000000000000000) : ∃ r, laws_markTermS.f k l a = some r ∧ r.1 = a + 4 * (l.length : Int) := by
  unfold laws_markTermS.f
  refine run_ex (fun k (s : List S48 × Int) i => laws_markTermS.l0 k s.1 s.2 (i : Int)) l.length (fun i s => s.1.length = l.length ∧ s.2 = a + 4 * (i : Int)) _ ?_ ?_ k 0 (l, a) (Nat.zero_le _) (by omega) ⟨rfl, by simp⟩
  · rintro k i ⟨s, c⟩ hi ⟨hl, hc⟩
    simp only at hl hc
    simp only [laws_markTermS.l0, Option.bind_some]
    rw [if_pos (by omega), if_pos (by omega), wrap_id (x := (i : Int) + 1) (by omega) (by omega), wrap_id (x := c + 1) (by omega) (by omega), wrap_id (x := c + 1 + 1) (by omega) (by omega), wrap_id (x := c + 1 + 1 + 1) (by omega) (by omega), wrap_id (x := c + 1 + 1 + 1 + 1) (by omega) (by omega)]
    refine ⟨(_, _), rfl, by simpa using hl, ?_⟩
    simp only [Int.natCast_add]
    omega
  · rintro k ⟨s, c⟩ ⟨hl, hc⟩
    simp only at hl hc
    simp only [laws_markTermS.l0]
    rw [if_neg (by omega)]
    exact ⟨_, rfl, hc⟩

theorem l1In_f (n a b : Int) : spec_l1In.f n a b = some (inB a b n) := by
  unfold spec_l1In.f inB
  by_cases h : n ≥ a
  · rw [if_pos h]; congr 1; simp; omega
  · rw [if_neg h, decide_eq_false (by omega)]

/-- The kind of a term behind others whose kinds are ks: 1 a number, 2 a truth, 0 none. -/
def kindF (op n a b : Int) (ks : List Int) (v : Int) : Int :=
  if op = 0 then (if inB (-9999) 9999 n = true ∧ a = 0 ∧ b = 0 then 1 else 0)
  else if op = 1 then (if inB 0 (wrap64 (v - 1)) n = true ∧ a = 0 ∧ b = 0 then 1 else 0)
  else if inB 2 9 op = true ∧ n = 0 ∧ inB 0 (wrap64 ((ks.length : Int) - 1)) a = true ∧ inB 0 (wrap64 ((ks.length : Int) - 1)) b = true ∧ rd ks a = (if op ≥ 7 then 2 else 1) ∧ rd ks b = (if op ≥ 7 then 2 else 1) ∧ (op = 7 → b = a) then (if op ≥ 5 then 2 else 1) else 0
theorem in_len {ks : List Int} {a : Int} (hm : ks.length ≤ 1048576) (h : inB 0 (wrap64 ((ks.length : Int) - 1)) a = true) : 0 ≤ a ∧ a < (ks.length : Int) := by
  have h1 := of_decide_eq_true h
  rw [wrap_id (by omega) (by omega)] at h1
  omega

theorem l1Kind_f {k : Nat} {op n a b v : Int} {ks : List Int} (hk : 5 < k) (hm : ks.length ≤ 1048576) : spec_l1Kind.f k op n a b ks v = some (kindF op n a b ks v) := by
  obtain ⟨k, rfl⟩ : ∃ m, k = m + 5 := ⟨k - 5, by omega⟩
  unfold spec_l1Kind.f kindF
  simp only [spec_l1Kind.j0, spec_l1Kind.j1, spec_l1Kind.j2, spec_l1Kind.j3, spec_l1Kind.j4, l1In_f, Option.bind_some, spec_l1One.f]
  by_cases h0 : op = 0
  · subst h0
    have e : inB 2 9 0 = false := by decide
    rw [e]
    by_cases h1 : inB (-9999) 9999 n = true <;> by_cases h2 : a = 0 <;> by_cases h3 : b = 0 <;> simp [h1, h2, h3]
  · rw [if_neg h0, if_neg h0]
    by_cases h1 : op = 1
    · subst h1
      have e : inB 2 9 1 = false := by decide
      rw [e]
      by_cases h1 : inB 0 (wrap64 (v - 1)) n = true <;> by_cases h2 : a = 0 <;> by_cases h3 : b = 0 <;> simp [h1, h2, h3]
    · simp only [if_neg h1, Bool.false_eq_true, if_false]
      by_cases h2 : inB 2 9 op = true
      · by_cases h3 : n = 0
        · by_cases h4 : inB 0 (wrap64 ((ks.length : Int) - 1)) a = true
          · by_cases h5 : inB 0 (wrap64 ((ks.length : Int) - 1)) b = true
            · have ha := in_len hm h4
              have hb := in_len hm h5
              have h26 : 2 ≤ op ∧ op ≤ 9 := of_decide_eq_true h2
              simp only [h2, h3, h4, h5, if_true, Bool.not_true, Bool.false_eq_true, if_false, if_pos ha.1, if_pos ha.2, if_pos hb.1, if_pos hb.2, true_and]
              by_cases h7 : op ≥ 7
              · rw [if_pos h7]
                simp only [if_pos h7]
                by_cases h8 : rd ks a = 2
                · by_cases h9 : rd ks b = 2
                  · by_cases h10 : op = 7
                    · by_cases h11 : b = a <;> simp [h8, h9, h10, h11]
                    · have h12 : op ≥ 5 := by omega
                      simp [h8, h9, h10, h12]
                  · simp [h8, h9]
                · simp [h8]
              · rw [if_neg h7]
                simp only [if_neg h7]
                have h10 : ¬ op = 7 := by omega
                by_cases h8 : rd ks a = 1
                · by_cases h9 : rd ks b = 1
                  · by_cases h12 : op ≥ 5 <;> simp [h8, h9, h10, h12]
                  · simp [h8, h9]
                · simp [h8]
            · simp [h2, h3, h4, h5]
          · simp [h2, h3, h4]
        · simp [h2, h3]
      · simp [h2]

def kindsTo (l : List S48) (v : Int) : Nat → List Int
  | 0 => []
  | i + 1 => kindsTo l v i ++ [kindF (l.getD i z48).f0 (l.getD i z48).f1 (l.getD i z48).f2 (l.getD i z48).f3 (kindsTo l v i) v]
def kindAt (l : List S48) (v : Int) (i : Nat) : Int := kindF (l.getD i z48).f0 (l.getD i z48).f1 (l.getD i z48).f2 (l.getD i z48).f3 (kindsTo l v i) v
theorem kindsTo_length (l : List S48) (v : Int) (i : Nat) : (kindsTo l v i).length = i := by
  induction i with
  | zero => rfl
  | succ i ih => simp [kindsTo, ih]
def kindsOK (l : List S48) (v : Int) : Bool := inB 0 5 v && inB 1 40 (l.length : Int) && decide (∀ j, j < l.length → kindAt l v j ≠ 0)
/-- The kinds of all terms, or none. -/
def kindsR (l : List S48) (v : Int) : List Int := if kindsOK l v = true then kindsTo l v l.length else []
theorem kindsR_length (l : List S48) (v : Int) : (kindsR l v).length ≤ l.length := by
  unfold kindsR
  split
  · rw [kindsTo_length]; exact Nat.le_refl _
  · simp
theorem kindsR_pos {l : List S48} {v : Int} : 0 < (kindsR l v).length ↔ kindsOK l v = true := by
  unfold kindsR
  by_cases h : kindsOK l v = true
  · rw [if_pos h, kindsTo_length]
    have h1 := (Bool.and_eq_true_iff.1 (Bool.and_eq_true_iff.1 h).1).2
    have h2 : 1 ≤ (l.length : Int) ∧ (l.length : Int) ≤ 40 := of_decide_eq_true h1
    exact ⟨fun _ => h, fun _ => by omega⟩
  · rw [if_neg h]
    exact ⟨fun g => absurd g (Nat.lt_irrefl 0), fun g => absurd g h⟩

theorem spec_kinds_f {k : Nat} {l : List S48} {v : Int} (hk : l.length + 20 < k) (hm : l.length ≤ 1048576) : spec_KindsOf.f k l v = some (kindsR l v) := by
  unfold spec_KindsOf.f kindsR kindsOK
  obtain ⟨k, rfl⟩ : ∃ m, k = m + 1 := ⟨k - 1, by omega⟩
  simp only [l1In_f, Option.bind_some, spec_KindsOf.j0]
  cases inB 0 5 v
  · rfl
  · cases inB 1 40 (l.length : Int)
    · rfl
    · simp only [if_true, Bool.not_true, Bool.false_eq_true, if_false, Bool.true_and, decide_eq_true_eq]
      refine run_invB 10 (fun k (s : List Int) i => spec_KindsOf.l0 k l v s (i : Int)) l.length (fun i s => s = kindsTo l v i ∧ ∀ j, j < i → kindAt l v j ≠ 0) _ ?_ ?_ k 0 [] (Nat.zero_le _) (by omega) ⟨rfl, fun j hj => absurd hj (Nat.not_lt_zero j)⟩
      · rintro k i s hB hi ⟨rfl, hs⟩
        have hl := kindsTo_length l v i
        simp only [spec_KindsOf.l0]
        rw [if_pos (by omega), if_pos (by omega), rdT48_nat, l1Kind_f (by omega) (by omega), wrap_id (x := (i : Int) + 1) (by omega) (by omega)]
        simp only [Option.bind_some]
        by_cases e : kindAt l v i = 0
        · refine Or.inl ?_
          have e' : kindF (l.getD i z48).f0 (l.getD i z48).f1 (l.getD i z48).f2 (l.getD i z48).f3 (kindsTo l v i) v = 0 := e
          rw [if_pos e', if_neg (fun g => g i hi e)]
        · have e' : ¬ kindF (l.getD i z48).f0 (l.getD i z48).f1 (l.getD i z48).f2 (l.getD i z48).f3 (kindsTo l v i) v = 0 := e
          refine Or.inr ⟨kindsTo l v (i + 1), ?_, rfl, fun j hj => ?_⟩
          · rw [if_neg e', if_pos (by omega)]
            rfl
          · by_cases ej : j = i
            · rw [ej]; exact e
            · exact hs j (by omega)
      · rintro k s _ ⟨rfl, hs⟩
        simp only [spec_KindsOf.l0]
        rw [if_neg (by omega), if_pos hs]

theorem spec_TermsValid_f {k : Nat} {l : List S48} {v : Int} (hk : l.length + 20 < k) (hm : l.length ≤ 1048576) : spec_TermsValid.f k l v = some (kindsOK l v) := by
  unfold spec_TermsValid.f
  rw [spec_kinds_f hk hm]
  simp only [Option.bind_some]
  congr 1
  rw [Bool.eq_iff_iff, decide_eq_true_iff, ← kindsR_pos]
  omega

theorem in_f (n a b : Int) : impl_in.f n a b = some (inB a b n) := by
  unfold impl_in.f inB
  by_cases h : n ≥ a
  · rw [if_pos h]; congr 1; simp; omega
  · rw [if_neg h, decide_eq_false (by omega)]

theorem parts_f {k : Nat} {op : Int} (hk : 2 < k) : impl_parts.f k op = some (if 2 ≤ op ∧ op ≤ 4 then (2, 1, 1) else if 5 ≤ op ∧ op ≤ 6 then (2, 1, 2) else if op = 7 then (1, 2, 2) else if 8 ≤ op ∧ op ≤ 9 then (2, 2, 2) else (0, 0, 1)) := by
  obtain ⟨k, rfl⟩ : ∃ m, k = m + 2 := ⟨k - 2, by omega⟩
  unfold impl_parts.f
  simp only [impl_parts.j0, impl_parts.j1]
  by_cases h2 : op = 2
  · subst h2; rfl
  · by_cases h3 : op = 3
    · subst h3; rfl
    · by_cases h4 : op = 4
      · subst h4; rfl
      · by_cases h5 : op = 5
        · subst h5; rfl
        · by_cases h6 : op = 6
          · subst h6; rfl
          · by_cases h7 : op = 7
            · subst h7; rfl
            · by_cases h8 : op = 8
              · subst h8; rfl
              · by_cases h9 : op = 9
                · subst h9; rfl
                · have e4 : (op == 4) = false := by simpa using h4
                  have e6 : (op == 6) = false := by simpa using h6
                  rw [if_neg h2, if_neg h3, e4, if_neg (by decide), if_neg h5, e6, if_neg (by decide), if_neg h7, if_neg h8, if_neg h9, if_neg (by omega), if_neg (by omega)]
                  try rw [if_neg (by omega)]
                  try rw [if_neg (by omega)]

theorem impl_kinds_f {k : Nat} {l : List S48} {v : Int} (hk : l.length + 20 < k) (hm : l.length ≤ 1048576) : impl_kindsOf.f k l v = some (kindsR l v) := by
  unfold impl_kindsOf.f kindsR kindsOK
  obtain ⟨k, rfl⟩ : ∃ m, k = m + 1 := ⟨k - 1, by omega⟩
  simp only [in_f, Option.bind_some, impl_kindsOf.j0]
  cases inB 0 5 v
  · rfl
  · cases hin : inB 1 40 (l.length : Int)
    · rfl
    · simp only [if_true, Bool.not_true, Bool.false_eq_true, if_false, Bool.true_and, decide_eq_true_eq]
      rw [if_pos (by omega), if_pos (by omega)]
      refine run_invB 10 (fun k (s : List Int) i => impl_kindsOf.l0 k v s l (l.length : Int) (i : Int)) l.length (fun i s => s = kindsTo l v i ∧ ∀ j, j < i → kindAt l v j ≠ 0) _ ?_ ?_ k 0 [] (Nat.zero_le _) (by omega) ⟨rfl, fun j hj => absurd hj (Nat.not_lt_zero j)⟩
      · rintro k i s hB hi ⟨rfl, hs⟩
        have hl := kindsTo_length l v i
        have key : ∀ G : List Int → Option (List Int), (kindAt l v i = 0 → impl_kindsOf.l0 (k + 1) v (kindsTo l v i) l (l.length : Int) (i : Int) = some []) ∧ (kindAt l v i ≠ 0 → impl_kindsOf.l0 (k + 1) v (kindsTo l v i) l (l.length : Int) (i : Int) = impl_kindsOf.l0 k v (kindsTo l v i ++ [kindAt l v i]) l (l.length : Int) ((i : Int) + 1)) := by
          intro _
          have c1 : (i : Int) < (l.length : Int) := by omega
          have c2 : (0 : Int) ≤ (i : Int) := by omega
          have c3 : (kindsTo l v i).length < 17592186044416 := by omega
          have hli : ((i : Int)) = ((kindsTo l v i).length : Int) := by omega
          unfold kindAt
          simp only [impl_kindsOf.l0, if_pos c1, if_pos c2, if_pos c3, rdT48_nat, in_f, Option.bind_some, wrap_id (x := (i : Int) + 1) (by omega) (by omega)]
          rw [parts_f (by omega)]
          simp only [Option.bind_some]
          rw [show wrap64 ((i : Int) - 1) = wrap64 (((kindsTo l v i).length : Int) - 1) from by rw [← hli]]
          generalize l.getD i z48 = x
          obtain ⟨op, n, a, b⟩ := x
          simp only [kindF]
          generalize kindsTo l v i = ks at hl c3 hli ⊢
          generalize hG : (fun s => impl_kindsOf.l0 k v s l (l.length : Int) ((i : Int) + 1)) = G
          have hG' : ∀ s, impl_kindsOf.l0 k v s l (l.length : Int) ((i : Int) + 1) = G s := fun s => by rw [← hG]
          simp only [hG']
          clear hG hG'
          by_cases h0 : op = 0
          · subst h0
            by_cases h1 : inB (-9999) 9999 n = true <;> by_cases h2 : a = 0 <;> by_cases h3 : b = 0 <;> simp [h1, h2, h3]
          · simp only [if_neg h0]
            by_cases h1 : op = 1
            · subst h1
              by_cases h1 : inB 0 (wrap64 (v - 1)) n = true <;> by_cases h2 : a = 0 <;> by_cases h3 : b = 0 <;> simp [h1, h2, h3]
            · simp only [if_neg h1]
              have e : inB 0 9 op = inB 2 9 op := decide_eq_decide.2 (by omega)
              rw [e]
              by_cases h2 : inB 2 9 op = true
              · have h29 : 2 ≤ op ∧ op ≤ 9 := of_decide_eq_true h2
                by_cases h3 : n = 0
                · by_cases h4 : inB 0 (wrap64 ((ks.length : Int) - 1)) a = true
                  · by_cases h5 : inB 0 (wrap64 ((ks.length : Int) - 1)) b = true
                    · have ha := in_len (by omega) h4
                      have hb := in_len (by omega) h5
                      simp only [h2, h3, h4, h5, if_true, if_pos ha.1, if_pos ha.2, if_pos hb.1, if_pos hb.2, true_and]
                      have hop : op = 2 ∨ op = 3 ∨ op = 4 ∨ op = 5 ∨ op = 6 ∨ op = 7 ∨ op = 8 ∨ op = 9 := by omega
                      generalize rd ks a = ra
                      generalize rd ks b = rb
                      rcases hop with rfl | rfl | rfl | rfl | rfl | rfl | rfl | rfl
                      all_goals
                        simp
                        first
                          | (by_cases g1 : ra = 1 <;> by_cases g2 : rb = 1 <;> simp [g1, g2]; done)
                          | (by_cases g1 : ra = 2 <;> by_cases g2 : rb = 2 <;> simp [g1, g2]; done)
                          | (by_cases g3 : a = b
                             · by_cases g1 : ra = 2 <;> by_cases g2 : rb = 2 <;> simp [g1, g2, g3]
                             · have g4 : ¬ b = a := fun g => g3 g.symm
                               by_cases g1 : ra = 2 <;> by_cases g2 : rb = 2 <;> simp [g1, g2, g3, g4])
                    · simp [h2, h3, h4, h5]
                  · simp [h2, h3, h4]
                · simp [h2, h3]
              · simp [h2]
        obtain ⟨k1, k2⟩ := key (fun _ => none)
        by_cases e : kindAt l v i = 0
        · refine Or.inl ?_
          rw [k1 e, if_neg (fun g => g i hi e)]
        · refine Or.inr ⟨kindsTo l v (i + 1), k2 e, rfl, fun j hj => ?_⟩
          by_cases ej : j = i
          · rw [ej]; exact e
          · exact hs j (by omega)
      · rintro k s _ ⟨rfl, hs⟩
        simp only [impl_kindsOf.l0]
        rw [if_neg (by omega)]
        have hin' : 1 ≤ (l.length : Int) ∧ (l.length : Int) ≤ 40 := of_decide_eq_true hin
        rw [if_pos (by rw [kindsTo_length]; omega)]
        rw [if_pos hs]

theorem impl_TermsValid_f {k : Nat} {l : List S48} {v : Int} (hk : l.length + 20 < k) (hm : l.length ≤ 1048576) : impl_TermsValid.f k l v = some (kindsOK l v) := by
  unfold impl_TermsValid.f
  rw [impl_kinds_f hk hm]
  simp only [Option.bind_some]
  congr 1
  rw [Bool.eq_iff_iff, decide_eq_true_iff, ← kindsR_pos]

theorem clone_int_f {l : List Int} (h : l.length ≤ 35184372088832) : impl_clone_int.f l = some l := by
  unfold impl_clone_int.f
  rw [if_pos h]

theorem eqIntS_f {k : Nat} {a b : List Int} (hk : a.length < k) (hm : a.length ≤ 35184372088832) : laws_eqIntS.f k a b = some (decide (a = b)) := by
  unfold laws_eqIntS.f
  by_cases hab : a.length = b.length
  · rw [if_pos (by omega)]
    refine run_inv (fun k (_ : Unit) i => laws_eqIntS.l0 k a b (i : Int)) a.length (fun i _ => ∀ j, j < i → a.getD j 0 = b.getD j 0) _ ?_ ?_ k 0 () (Nat.zero_le _) (by omega) (fun j hj => absurd hj (Nat.not_lt_zero j))
    · intro k i _ hi hs
      by_cases e : a.getD i 0 = b.getD i 0
      · refine Or.inr ⟨(), ?_, fun j hj => ?_⟩
        · simp only [laws_eqIntS.l0]
          rw [if_pos (by omega), if_pos (by omega), if_pos (by omega), rd_nat, rd_nat, if_pos e, wrap_id (by omega) (by omega)]
          rfl
        · by_cases e2 : j = i
          · rw [e2]; exact e
          · exact hs j (by omega)
      · refine Or.inl ?_
        simp only [laws_eqIntS.l0]
        rw [if_pos (by omega), if_pos (by omega), if_pos (by omega), rd_nat, rd_nat, if_neg e, decide_eq_false (fun h => e (by rw [h]))]
    · intro k _ hs
      simp only [laws_eqIntS.l0]
      rw [if_neg (by omega), decide_eq_true (ext_getD hab (fun j hj => hs j (by omega)))]
  · rw [if_neg (by omega), decide_eq_false (fun h => hab (by rw [h]))]

theorem markIntS_f {k : Nat} {l : List Int} {a : Int} (hk : l.length < k) (hm : l.length ≤ 35184372088832) (h0 : 0 ≤ a) (h1 : a ≤ 1000000000000000000) : laws_markIntS.f k l a = some (a + l.length, marks a l.length) := by
  unfold laws_markIntS.f
  refine (?_ : laws_markIntS.l0 k l a ((0 : Nat) : Int) = _)
  refine run_inv (fun k (s : List Int × Int) i => laws_markIntS.l0 k s.1 s.2 (i : Int)) l.length (fun i s => s.1.length = l.length ∧ s.2 = a + (i : Int) ∧ ∀ j, j < i → s.1.getD j 0 = a + (j : Int)) _ ?_ ?_ k 0 (l, a) (Nat.zero_le _) (by omega) ⟨rfl, by simp, fun j hj => absurd hj (Nat.not_lt_zero j)⟩
  · rintro k i ⟨s, c⟩ hi ⟨hl, hc, hs⟩
    simp only at hl hc hs
    subst hc
    refine Or.inr ⟨(s.set i (a + (i : Int)), a + (i : Int) + 1), ?_, by simpa using hl, by simp only [Int.natCast_add]; omega, fun j hj => ?_⟩
    · simp only [laws_markIntS.l0]
      rw [if_pos (by omega), if_pos (by omega), wrap_id (x := a + (i : Int) + 1) (by omega) (by omega), wrap_id (by omega) (by omega)]
      rfl
    · simp only
      rw [getD_set _ _ _ _ _ (by omega)]
      by_cases e : j = i
      · rw [if_pos e, e]
      · rw [if_neg e]
        exact hs j (by omega)
  · rintro k ⟨s, c⟩ ⟨hl, hc, hs⟩
    simp only at hl hc hs
    subst hc
    simp only [laws_markIntS.l0]
    rw [if_neg (by omega), ext_getD (d := 0) (s := s) (l := marks a l.length) (by rw [marks_length]; exact hl) (fun j hj => by rw [marks_length] at hj; rw [marks_getD _ _ _ hj]; exact hs j hj)]

theorem heldIntS_f {k : Nat} {n : Nat} {a : Int} (hk : n < k) (hm : n ≤ 35184372088832) (h0 : 0 ≤ a) (h1 : a ≤ 1000000000000000000) : laws_heldIntS.f k (marks a n) a = some (a + (n : Int)) := by
  unfold laws_heldIntS.f
  refine (?_ : laws_heldIntS.l0 k (marks a n) a ((0 : Nat) : Int) = _)
  have hlen := marks_length a n
  refine run_inv (fun k (s : Int) i => laws_heldIntS.l0 k (marks a n) s (i : Int)) n (fun i s => s = a + (i : Int)) _ ?_ ?_ k 0 a (Nat.zero_le _) (by omega) (by simp)
  · rintro k i s hi rfl
    refine Or.inr ⟨a + (i : Int) + 1, ?_, by simp only [Int.natCast_add]; omega⟩
    simp only [laws_heldIntS.l0]
    rw [if_pos (by omega), if_pos (by omega), rd_nat, marks_getD _ _ _ hi, if_pos rfl, wrap_id (x := a + (i : Int) + 1) (by omega) (by omega), wrap_id (by omega) (by omega)]
    rfl
  · rintro k s rfl
    simp only [laws_heldIntS.l0]
    rw [if_neg (by omega)]

/-- The places below i at which a test holds. -/
def placesL (p : Nat → Bool) (i : Nat) : List Int := ((List.range i).filter p).map fun j : Nat => (j : Int)
theorem placesL_succ (p : Nat → Bool) (i : Nat) : placesL p (i + 1) = if p i = true then placesL p i ++ [(i : Int)] else placesL p i := by
  unfold placesL
  rw [List.range_succ, List.filter_append, List.map_append]
  cases h : p i <;> simp [h]
theorem placesL_length (p : Nat → Bool) (i : Nat) : (placesL p i).length ≤ i := by
  unfold placesL
  rw [List.length_map]
  exact Nat.le_trans (List.length_filter_le _ _) (by simp)
theorem placesL_congr {p q : Nat → Bool} {i : Nat} (h : ∀ j, j < i → p j = q j) : placesL p i = placesL q i := by
  unfold placesL
  rw [List.filter_congr (fun j hj => h j (List.mem_range.1 hj))]

theorem kinds_small {l : List S48} {v : Int} (h : kindsOK l v = true) : (0 ≤ v ∧ v ≤ 5) ∧ 1 ≤ l.length ∧ l.length ≤ 40 := by
  have h1 := Bool.and_eq_true_iff.1 (Bool.and_eq_true_iff.1 h).1
  have h2 : 1 ≤ (l.length : Int) ∧ (l.length : Int) ≤ 40 := of_decide_eq_true h1.2
  exact ⟨of_decide_eq_true h1.1, by omega⟩
theorem kinds_facts {l : List S48} {v : Int} (h : kindsOK l v = true) (j : Nat) (hj : j < l.length) : (l.getD j z48).f0 = 0 ∨ ((l.getD j z48).f0 = 1 ∧ 0 ≤ (l.getD j z48).f1 ∧ (l.getD j z48).f1 < v) ∨ (2 ≤ (l.getD j z48).f0 ∧ (0 ≤ (l.getD j z48).f2 ∧ (l.getD j z48).f2 < (j : Int)) ∧ (0 ≤ (l.getD j z48).f3 ∧ (l.getD j z48).f3 < (j : Int))) := by
  have hs := kinds_small h
  have h1 := of_decide_eq_true (Bool.and_eq_true_iff.1 h).2 j hj
  have hk := kindsTo_length l v j
  unfold kindAt kindF at h1
  by_cases h2 : (l.getD j z48).f0 = 0
  · exact Or.inl h2
  · rw [if_neg h2] at h1
    by_cases h3 : (l.getD j z48).f0 = 1
    · rw [if_pos h3] at h1
      refine Or.inr (Or.inl ⟨h3, ?_⟩)
      by_cases g : inB 0 (wrap64 (v - 1)) (l.getD j z48).f1 = true
      · have g2 := of_decide_eq_true g
        rw [wrap_id (by omega) (by omega)] at g2
        omega
      · rw [if_neg (fun q => g q.1)] at h1
        exact absurd rfl h1
    · rw [if_neg h3] at h1
      refine Or.inr (Or.inr ?_)
      by_cases g : inB 2 9 (l.getD j z48).f0 = true ∧ inB 0 (wrap64 (((kindsTo l v j).length : Int) - 1)) (l.getD j z48).f2 = true ∧ inB 0 (wrap64 (((kindsTo l v j).length : Int) - 1)) (l.getD j z48).f3 = true
      · have g1 : 2 ≤ (l.getD j z48).f0 ∧ (l.getD j z48).f0 ≤ 9 := of_decide_eq_true g.1
        have g2 := in_len (by omega) g.2.1
        have g3 := in_len (by omega) g.2.2
        rw [hk] at g2 g3
        exact ⟨g1.1, g2, g3⟩
      · rw [if_neg (fun q => g ⟨q.1, q.2.2.1, q.2.2.2.1⟩)] at h1
        exact absurd rfl h1
def usT (l : List S48) (R : List Bool) (v i : Nat) : Bool := (List.range i).any fun j => R.getD j false && (decide ((l.getD j z48).f0 = 1) && decide ((l.getD j z48).f1 = (v : Int)))
theorem usT_succ (l : List S48) (R : List Bool) (v i : Nat) : usT l R v (i + 1) = (usT l R v i || (R.getD i false && (decide ((l.getD i z48).f0 = 1) && decide ((l.getD i z48).f1 = (v : Int))))) := by
  unfold usT
  rw [List.range_succ, List.any_append]
  simp
theorem rdOfU_nat (xs : List Bool) (i : Nat) : rdOf false xs (i : Int) = xs.getD i false := by
  unfold rdOf
  simp
theorem used_loop {l : List S48} {v : Int} (h : kindsOK l v = true) : ∀ m s (u : List Bool), m ≤ l.length → s.length = l.length → u.length = v.toNat → ∃ R u' : List Bool, R.length = l.length ∧ u'.length = v.toNat ∧ (∀ j, m ≤ j → R.getD j false = s.getD j false) ∧ (∀ x, x < v.toNat → u'.getD x false = (u.getD x false || usT l R x m)) ∧ (∀ k, m < k → spec_l1Needed.l1 k l s ((m : Int) - 1) = some R) ∧ (∀ k, impl_usedBy.l0 (k + 2 * m + 1) l s u ((m : Int) - 1) = impl_usedBy.l1 k [] u' (u'.length : Int) 0) := by
  have hsm := kinds_small h
  intro m
  induction m with
  | zero =>
    intro s u _ hs hu
    refine ⟨s, u, hs, hu, fun _ _ => rfl, fun x _ => by simp [usT], fun k hk => ?_, fun k => ?_⟩
    · obtain ⟨k, rfl⟩ : ∃ q, k = q + 1 := ⟨k - 1, by omega⟩
      simp only [spec_l1Needed.l1]
      rw [if_neg (by omega)]
    · simp only [impl_usedBy.l0]
      rw [if_neg (by omega)]
  | succ m ih =>
    intro s u hm hs hu
    have hf := kinds_facts h m (by omega)
    have e1 : (((m + 1 : Nat) : Int) - 1) = (m : Int) := by omega
    have e3 : wrap64 ((m : Int) - 1) = (m : Int) - 1 := wrap_id (by omega) (by omega)
    have c1 : (m : Int) < (l.length : Int) := by omega
    have c2 : (m : Int) < (s.length : Int) := by omega
    have c0 : (m : Int) ≥ 0 := Int.natCast_nonneg m
    have spec1 : ∀ s', (if s.getD m false = true then (if (l.getD m z48).f0 ≥ 2 then (s.set (l.getD m z48).f2.toNat true).set (l.getD m z48).f3.toNat true else s) else s) = s' → ∀ k, spec_l1Needed.l1 (k + 1) l s (m : Int) = spec_l1Needed.l1 k l s' ((m : Int) - 1) := by
      intro s' hs' k
      simp only [spec_l1Needed.l1, e3, rdOfU_nat, rdT48_nat]
      rw [if_pos c0, if_pos c0, if_pos c2]
      by_cases hn : s.getD m false = true
      · rw [if_pos hn, if_pos c1]
        rw [if_pos hn] at hs'
        by_cases h2 : (l.getD m z48).f0 ≥ 2
        · rw [if_pos h2] at hs' ⊢
          have h3 : (0 ≤ (l.getD m z48).f2 ∧ (l.getD m z48).f2 < (m : Int)) ∧ (0 ≤ (l.getD m z48).f3 ∧ (l.getD m z48).f3 < (m : Int)) := by
            rcases hf with q | q | q
            · omega
            · omega
            · exact q.2
          rw [if_pos h3.1.1, if_pos (by omega), if_pos h3.2.1, if_pos (by omega), hs']
        · rw [if_neg h2] at hs' ⊢
          rw [hs']
      · rw [if_neg hn]
        rw [if_neg hn] at hs'
        rw [hs']
    have fin : ∀ s' u', s'.length = l.length → u'.length = v.toNat → (∀ j, m ≤ j → s'.getD j false = s.getD j false) → (∀ x, x < v.toNat → u'.getD x false = (u.getD x false || (s.getD m false && (decide ((l.getD m z48).f0 = 1) && decide ((l.getD m z48).f1 = (x : Int)))))) → (∀ k, spec_l1Needed.l1 (k + 1) l s (m : Int) = spec_l1Needed.l1 k l s' ((m : Int) - 1)) → (∀ k, impl_usedBy.l0 (k + 2) l s u (m : Int) = impl_usedBy.l0 k l s' u' ((m : Int) - 1)) → ∃ R u'' : List Bool, R.length = l.length ∧ u''.length = v.toNat ∧ (∀ j, m + 1 ≤ j → R.getD j false = s.getD j false) ∧ (∀ x, x < v.toNat → u''.getD x false = (u.getD x false || usT l R x (m + 1))) ∧ (∀ k, m + 1 < k → spec_l1Needed.l1 k l s (m : Int) = some R) ∧ (∀ k, impl_usedBy.l0 (k + 2 * (m + 1) + 1) l s u (m : Int) = impl_usedBy.l1 k [] u'' (u''.length : Int) 0) := by
      intro s' u' hs' hu' hv hux h1 h2
      obtain ⟨R, u'', hR, hu'', hRv, hxx, hsp, him⟩ := ih s' u' (by omega) hs' hu'
      refine ⟨R, u'', hR, hu'', fun j hj => (hRv j (by omega)).trans (hv j (by omega)), fun x hx => ?_, fun k hk => ?_, fun k => ?_⟩
      · rw [hxx x hx, hux x hx, usT_succ, hRv m (Nat.le_refl m), hv m (Nat.le_refl m)]
        cases u.getD x false <;> cases usT l R x m <;> simp
      · obtain ⟨k, rfl⟩ : ∃ q, k = q + 1 := ⟨k - 1, by omega⟩
        rw [h1, hsp k (by omega)]
      · rw [show k + 2 * (m + 1) + 1 = (k + 2 * m + 1) + 2 by omega, h2, him]
    rw [e1]
    by_cases hn : s.getD m false = true
    · rcases hf with q | q | q
      · refine fin s u hs hu (fun _ _ => rfl) (fun x _ => ?_) (spec1 s (by rw [if_pos hn, if_neg (by omega)])) (fun k => ?_)
        · rw [q]; simp
        · simp only [impl_usedBy.l0, impl_usedBy.j1, e3, rdOfU_nat, rdT48_nat]
          rw [if_pos c0, if_pos c0, if_pos c1, if_pos c2, if_pos hn, if_pos (by rw [q]; rfl)]
      · refine fin s (u.set (l.getD m z48).f1.toNat true) hs (by rw [List.length_set, hu]) (fun _ _ => rfl) (fun x hx => ?_) (spec1 s (by rw [if_pos hn, if_neg (by omega)])) (fun k => ?_)
        · rw [getD_set u _ x true false (by omega), hn, decide_eq_true q.1, Bool.true_and, Bool.true_and]
          by_cases he : (l.getD m z48).f1 = (x : Int)
          · rw [if_pos (by omega), decide_eq_true he, Bool.or_true]
          · rw [if_neg (by omega), decide_eq_false he, Bool.or_false]
        · simp only [impl_usedBy.l0, impl_usedBy.j1, e3, rdOfU_nat, rdT48_nat]
          rw [if_pos c0, if_pos c0, if_pos c1, if_pos c2, if_pos hn, if_neg (by rw [q.1]; decide), if_pos q.1, if_pos q.2.1, if_pos (by omega)]
      · have n2 : ¬ (l.getD m z48).f2.toNat = m := by omega
        refine fin ((s.set (l.getD m z48).f2.toNat true).set (l.getD m z48).f3.toNat true) u (by rw [List.length_set, List.length_set, hs]) hu (fun j hj => ?_) (fun x _ => ?_) (spec1 _ (by rw [if_pos hn, if_pos q.1])) (fun k => ?_)
        · rw [getD_set _ _ j true false (by rw [List.length_set]; omega), if_neg (by omega), getD_set _ _ j true false (by omega), if_neg (by omega)]
        · rw [decide_eq_false (show ¬ (l.getD m z48).f0 = 1 by omega)]; simp
        · have hb : ((l.getD m z48).f0 == 0) = false := beq_eq_false_iff_ne.2 (by omega)
          simp only [impl_usedBy.l0, impl_usedBy.j1, e3, rdOfU_nat, rdT48_nat]
          rw [if_pos c0, if_pos c0, if_pos c1, if_pos c2, if_pos hn, hb, if_neg (by simp), if_neg (by omega), if_pos q.2.1.1, if_pos (by omega), if_pos q.2.2.1, if_pos (by omega)]
    · refine fin s u hs hu (fun _ _ => rfl) (fun x _ => ?_) (spec1 s (by rw [if_neg hn])) (fun k => ?_)
      · rw [Bool.eq_false_iff.2 hn]; simp
      · simp only [impl_usedBy.l0, impl_usedBy.j1, e3, rdOfU_nat, rdT48_nat]
        rw [if_pos c0, if_pos c0, if_pos c1, if_pos c2, if_neg hn]
        first | rw [if_pos rfl] | rw [if_pos trivial]
theorem usedList_f {k : Nat} {l : List Bool} (hk : l.length < k) (hm : l.length ≤ 1000000) : impl_usedBy.l1 k [] l (l.length : Int) 0 = some (placesL (fun j => l.getD j false) l.length) := by
  refine run_inv (fun k (s : List Int) i => impl_usedBy.l1 k s l (l.length : Int) (i : Int)) l.length (fun i s => s = placesL (fun j => l.getD j false) i) _ ?_ ?_ k 0 _ (Nat.zero_le _) (by omega) rfl
  · rintro k i s hi rfl
    have hl := placesL_length (fun j => l.getD j false) i
    refine Or.inr ⟨_, ?_, (placesL_succ _ i).symm⟩
    simp only [impl_usedBy.l1]
    rw [if_pos (by omega), if_pos (by omega), if_pos (by omega), wrap_id (x := (i : Int) + 1) (by omega) (by omega)]
    simp only [rdOfU_nat]
    cases l.getD i false
    · rfl
    · simp only [if_true]
      rw [if_pos (by omega)]
      rfl
  · rintro k s rfl
    have hl := placesL_length (fun j => l.getD j false) l.length
    simp only [impl_usedBy.l1]
    rw [if_neg (by omega)]
    unfold impl_clone_int.f
    rw [if_pos (by omega)]
    rfl
def lastL (n : Nat) : List Bool := (List.range n).map (fun i => decide (i + 1 = n))
theorem lastL_set (n : Nat) (hn : 1 ≤ n) : (List.replicate n false).set (n - 1) true = lastL n := by
  refine ext_getD (d := false) (by simp [lastL]) (fun j hj => ?_)
  have hj : j < n := by simpa [lastL] using hj
  rw [getD_set _ _ j true false (by simp; omega)]
  unfold lastL
  rw [getD_map_range _ _ _ _ hj]
  by_cases he : j = n - 1
  · rw [if_pos he, decide_eq_true (by omega)]
  · rw [if_neg he, decide_eq_false (by omega)]
    simp [List.getD_eq_getElem?_getD, hj]
theorem need_start {l : List S48} (hn : l.length ≤ 40) : ∀ d i k, i + d = l.length → spec_l1Needed.l0 (k + d + 1) l ((lastL l.length).take i) (i : Int) = spec_l1Needed.l1 k l (lastL l.length) (wrap64 ((l.length : Int) - 1)) := by
  have hl : (lastL l.length).length = l.length := by simp [lastL]
  intro d
  induction d with
  | zero =>
    intro i k hi
    simp only [spec_l1Needed.l0]
    rw [if_neg (by omega), List.take_of_length_le (by omega)]
  | succ d ih =>
    intro i k hi
    have hi2 : i < (lastL l.length).length := by omega
    have g := ih (i + 1) k (by omega)
    have e1 : wrap64 ((i : Int) + 1) = ((i + 1 : Nat) : Int) := by rw [wrap_id (by omega) (by omega)]; omega
    have e2 : wrap64 ((l.length : Int) - 1) = (l.length : Int) - 1 := wrap_id (by omega) (by omega)
    have e4 : ((i : Int) == (l.length : Int) - 1) = (lastL l.length).getD i false := by
      unfold lastL
      rw [getD_map_range _ _ _ _ (by omega)]
      by_cases he : i + 1 = l.length
      · rw [decide_eq_true he]; simp; omega
      · rw [decide_eq_false he]; simp; omega
    have hlt : ((lastL l.length).take i).length < 140737488355328 := by rw [List.length_take]; omega
    rw [take_succ_getD (lastL l.length) i false hi2] at g
    obtain ⟨q, hq⟩ : ∃ q, q = k + d + 1 := ⟨_, rfl⟩
    rw [← hq] at g
    rw [show k + (d + 1) + 1 = q + 1 by omega]
    simp only [spec_l1Needed.l0, e1]
    rw [if_pos (by omega), if_pos hlt, e2, e4]
    rw [e2] at g
    exact g
theorem used_l1 {l : List S48} {R : List Bool} (hl : l.length ≤ 40) (hR : R.length = l.length) (k : Nat) (s : List Int) (a : Int) (v : Nat) (hs : s.length < 100) : ∀ m i, i + m = l.length → spec_UsedBy.l1 (k + m + 1) l a s R (v : Int) (usT l R v i) (i : Int) = if usT l R v l.length = true then spec_UsedBy.l0 k l a (s ++ [(v : Int)]) R (wrap64 ((v : Int) + 1)) else spec_UsedBy.l0 k l a s R (wrap64 ((v : Int) + 1)) := by
  intro m
  induction m with
  | zero =>
    intro i hi
    obtain rfl : i = l.length := by omega
    simp only [Nat.add_zero, spec_UsedBy.l1]
    rw [if_neg (by omega)]
    by_cases hu : usT l R v l.length = true
    · rw [if_pos hu, if_pos hu, if_pos (by omega)]
    · rw [if_neg hu, if_neg hu]
  | succ m ih =>
    intro i hi
    have g := usT_succ l R v i
    have h := ih (i + 1) (by omega)
    have e1 : wrap64 ((i : Int) + 1) = ((i + 1 : Nat) : Int) := by rw [wrap_id (by omega) (by omega)]; omega
    have c1 : (i : Int) < (l.length : Int) := by omega
    have c2 : (i : Int) < (R.length : Int) := by omega
    rw [show k + (m + 1) + 1 = (k + m + 1) + 1 by omega]
    simp only [spec_UsedBy.l1, e1, rdOfU_nat, rdT48_nat]
    rw [if_pos c1]
    cases hb : usT l R v i with
    | true =>
      rw [hb, Bool.true_or] at g
      rw [g] at h
      rw [if_pos rfl]
      exact h
    | false =>
      rw [hb, Bool.false_or] at g
      rw [if_neg (by simp), if_pos (Int.natCast_nonneg i), if_pos c2]
      cases hc : R.getD i false with
      | true =>
        rw [hc, Bool.true_and] at g
        rw [if_pos rfl]
        by_cases h1 : (l.getD i z48).f0 = 1
        · rw [decide_eq_true h1, Bool.true_and] at g
          rw [if_pos h1, show ((l.getD i z48).f1 == (v : Int)) = decide ((l.getD i z48).f1 = (v : Int)) from rfl, ← g]
          exact h
        · rw [decide_eq_false h1, Bool.false_and] at g
          rw [g] at h
          rw [if_neg h1]
          exact h
      | false =>
        rw [hc, Bool.false_and] at g
        rw [g] at h
        rw [if_neg (by simp)]
        exact h
theorem used_l0 {a : Nat} {l : List S48} {R : List Bool} (ha : a ≤ 5) (hl : l.length ≤ 40) (hR : R.length = l.length) (k : Nat) : ∀ d v, v + d = a → spec_UsedBy.l0 (k + d * (l.length + 2) + 1) l (a : Int) (placesL (fun v => usT l R v l.length) v) R (v : Int) = some (placesL (fun v => usT l R v l.length) a) := by
  intro d
  induction d with
  | zero =>
    intro v hv
    obtain rfl : v = a := by omega
    simp only [spec_UsedBy.l0]
    rw [if_neg (by omega)]
  | succ d ih =>
    intro v hv
    have h := ih (v + 1) (by omega)
    have hp := placesL_length (fun v => usT l R v l.length) v
    have g := used_l1 hl hR (k + d * (l.length + 2) + 1) (placesL (fun v => usT l R v l.length) v) (a : Int) v (by omega) l.length 0 (by omega)
    have e1 : wrap64 ((v : Int) + 1) = ((v + 1 : Nat) : Int) := by rw [wrap_id (by omega) (by omega)]; omega
    rw [show k + (d + 1) * (l.length + 2) + 1 = ((k + d * (l.length + 2) + 1) + l.length + 1) + 1 by rw [Nat.succ_mul]; omega]
    simp only [spec_UsedBy.l0]
    rw [if_pos (by omega)]
    rw [e1] at g
    refine Eq.trans g ?_
    rw [placesL_succ] at h
    by_cases hu : usT l R v l.length = true
    · rw [if_pos hu] at h ⊢
      exact h
    · rw [if_neg hu] at h ⊢
      exact h
theorem used_eq {l : List S48} {v : Int} (hm : l.length ≤ 1048576) : ∃ K R, R.length ≤ 12 ∧ ∀ k, K ≤ k → spec_UsedBy.f k l v = some R ∧ impl_UsedBy.f k l v = some R := by
  by_cases h : kindsOK l v = true
  · obtain ⟨hv, hl1, hl⟩ := kinds_small h
    obtain ⟨a, rfl⟩ := Int.eq_ofNat_of_zero_le hv.1
    have hll : (lastL l.length).length = l.length := by simp [lastL]
    obtain ⟨R, u, hR, hu, _, hux, hsp, him⟩ := used_loop h l.length (lastL l.length) (List.replicate a false) (Nat.le_refl _) hll (by simp)
    have hp := placesL_length (fun v => usT l R v l.length) a
    refine ⟨a * (l.length + 2) + 3 * l.length + 200, placesL (fun v => usT l R v l.length) a, by omega, fun k hk => ?_⟩
    have e2 : wrap64 ((l.length : Int) - 1) = (l.length : Int) - 1 := wrap_id (by omega) (by omega)
    have hz : (Int.toNat ((l.length : Int) - 1)) = l.length - 1 := by omega
    constructor
    · obtain ⟨q, hq⟩ : ∃ q, k = q + a * (l.length + 2) + 1 := ⟨k - a * (l.length + 2) - 1, by omega⟩
      obtain ⟨p, hp2⟩ : ∃ p, k = p + l.length + 1 := ⟨k - l.length - 1, by omega⟩
      have g1 := need_start hl l.length 0 p (by omega)
      rw [e2, hsp p (by omega), List.take_zero] at g1
      rw [← hp2] at g1
      have g2 := used_l0 (a := a) (by omega) hl hR q a 0 (by omega)
      rw [← hq] at g2
      unfold spec_UsedBy.f spec_l1Needed.f
      rw [spec_TermsValid_f (by omega) hm, h]
      simp only [Option.bind_some, if_true]
      refine Eq.trans (congrArg (fun o => Option.bind o _) g1) ?_
      exact g2
    · obtain ⟨q, hq⟩ : ∃ q, k = q + 2 * l.length + 1 := ⟨k - 2 * l.length - 1, by omega⟩
      have g1 := him q
      rw [← hq, usedList_f (by omega) (by omega), hu] at g1
      unfold impl_UsedBy.f impl_usedBy.f
      rw [impl_TermsValid_f (by omega) hm, h]
      simp only [Option.bind_some, if_true, Int.toNat_natCast, List.length_replicate, e2, hz]
      rw [if_pos (by omega), if_pos (by omega), if_pos (by omega), if_pos (by omega), if_pos (by omega), if_pos (by omega), lastL_set _ hl1]
      refine Eq.trans (congrArg (fun o => Option.bind o _) g1) ?_
      simp only [Option.bind_some]
      refine congrArg some (placesL_congr (fun j hj => ?_))
      rw [hux j hj, show (List.replicate a false).getD j false = false from by rw [List.getD_eq_getElem?_getD, List.getElem?_replicate]; split <;> rfl, Bool.false_or]
  · refine ⟨l.length + 100, [], by simp, fun k hk => ?_⟩
    unfold spec_UsedBy.f impl_UsedBy.f
    rw [spec_TermsValid_f (by omega) hm, impl_TermsValid_f (by omega) hm, Bool.eq_false_iff.2 h]
    exact ⟨rfl, rfl⟩
theorem FnExactUsedBy : laws_FnExactUsedBy.Pure := by
  intro l a hl hw ha
  by_cases h : 1048576 - (l.length : Int) < 0
  · refine ⟨0, ?_⟩
    unfold laws_FnExactUsedBy.f
    rw [szTermS_f (by omega) (by omega) hl, if_pos h]
    rfl
  · have hlen : (l.map cTerm).length = l.length := by simp
    obtain ⟨K, R, hR, hK⟩ := used_eq (l := l.map cTerm) (v := a) (by omega)
    refine ⟨K + l.length + R.length + 20, ?_⟩
    obtain ⟨h1, h2⟩ := hK (K + l.length + R.length + 20) (by omega)
    obtain ⟨_, h3⟩ := hK (K + l.length + R.length + 19) (by omega)
    unfold laws_FnExactUsedBy.f
    rw [szTermS_f (by omega) (by omega) hl]
    simp only [Option.bind_some]
    rw [if_neg h, toTermS_f (by omega) (by omega)]
    simp only [Option.bind_some]
    rw [h1, h2]
    simp only [Option.bind_some]
    rw [eqIntS_f (by omega) (by omega), eqTermS_f (by omega) (by omega)]
    obtain ⟨⟨m1, m2⟩, hm1, hm2⟩ := markTermS_f (k := K + l.length + R.length + 20) (l := l.map cTerm) (a := 1) (by omega) (by omega) (by omega) (by omega)
    simp only at hm2
    rw [hm1]
    have hq : ¬ (m1 < 0) := by omega
    have hq2 : ¬ ((1 : Int) + (R.length : Int) < 0) := by omega
    simp only [Option.bind_some, decide_true, if_true, if_neg hq, Bool.not_true, laws_FnExactUsedBy.j0, Bool.false_eq_true, if_false]
    rw [markIntS_f (by omega) (by omega) (by omega) (by omega)]
    simp only [Option.bind_some]
    rw [heldIntS_f (by omega) (by omega) (by omega) (by omega), toTermS_f (by omega) (by omega)]
    simp only [Option.bind_some, if_neg hq2, if_true, h3]
    rw [eqIntS_f (by omega) (by omega)]
    simp only [Option.bind_some, decide_true, if_true, if_neg hq2]
    split <;> rfl

end Go.Proofs.Ythcegdgffdppgad.Pure
