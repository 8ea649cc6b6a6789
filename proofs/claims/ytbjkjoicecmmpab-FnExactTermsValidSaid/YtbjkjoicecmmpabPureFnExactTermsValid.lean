/- The law on TermsValid holds for all arguments: the program tells what the reference tells, and leaves its argument as it was.
Conditions: none. -/
import Derived.Test.YtbjkjoicecmmpabXFnExactTermsValidx5
import Derived.Test.YtbjkjoicecmmpabXLib2
namespace Go.Proofs.Ytbjkjoicecmmpab.Pure
open Go.RowKit Go.Proofs.Ytbjkjoicecmmpab.XFnExactTermsValid Go.Proofs.YtbjkjoicecmmpabW.PrintWords Go.Proofs.YtbjkjoicecmmpabW.PrintLast Go.Proofs.YtbjkjoicecmmpabW.PrintMore Go.Proofs.YtbjkjoicecmmpabX
set_option linter.unusedVariables false
set_option linter.unusedSimpArgs false

theorem rdT104_nat (xs : List S104) (i : Nat) : rd_T104 xs (i : Int) = xs.getD i z104 := by
  unfold rd_T104
  simp

theorem rdT102_nat (xs : List S102) (i : Nat) : rd_T102 xs (i : Int) = xs.getD i z102 := by
  unfold rd_T102
  simp

theorem szTermS_f {l : List S104} {a : Int} (h0 : 0 ≤ a) (h1 : a ≤ 1048576) (hl : l.length ≤ 9223372036854775807) : laws_szTermS.f l a = some (if a - (l.length : Int) < 0 then -1 else a - (l.length : Int)) := by
  unfold laws_szTermS.f
  rw [wrap_id (by omega) (by omega)]
  by_cases h : a - (l.length : Int) < 0
  · rw [if_pos h, if_pos h]
  · rw [if_neg h, if_neg h]

theorem l1In_f (n a b : Int) : spec_l1In.f n a b = some (inB a b n) := by
  unfold spec_l1In.f inB
  by_cases h : n ≥ a
  · rw [if_pos h]; congr 1; simp; omega
  · rw [if_neg h, decide_eq_false (by omega)]

/-- The kind of a term behind others whose kinds are ks: 1 a number, 2 a truth, 0 none. -/
def kindF (op n a b : Int) (ks : List Int) (v : Int) : Int :=
  if op = 0 then (if inB (-9999) 9999 n = true ∧ a = 0 ∧ b = 0 then 1 else 0)
  else if op = 1 then (if inB 0 (wrap64 (v - 1)) n = true ∧ a = 0 ∧ b = 0 then 1 else 0)
  else if inB 2 9 op = true ∧ n = 0 ∧ inB 0 (wrap64 ((ks.length : Int) - 1)) a = true ∧ inB 0 (wrap64 ((ks.length : Int) - 1)) b = true ∧ rd ks a = (if op ≥ 7 then 2 else 1) ∧ rd ks b = (if op ≥ 7 then 2 else 1) ∧ (op = 7 → b = a) then (if op ≥ 5 then 2 else 1) else 0
theorem in_len {ks : List Int} {a : Int} (hm : ks.length ≤ 1048576) (h : inB 0 (wrap64 ((ks.length : Int) - 1)) a = true) : 0 ≤ a ∧ a < (ks.length : Int) := by
  have h1 := of_decide_eq_true h
  rw [wrap_id (by omega) (by omega)] at h1
  omega

theorem l1Kind_f {k : Nat} {op n a b v : Int} {ks : List Int} (hk : 5 < k) (hm : ks.length ≤ 1048576) : spec_l1Kind.f k op n a b ks v = some (kindF op n a b ks v) := by
  obtain ⟨k, rfl⟩ : ∃ m, k = m + 5 := ⟨k - 5, by omega⟩
  unfold spec_l1Kind.f kindF
  simp only [spec_l1Kind.j0, spec_l1Kind.j1, spec_l1Kind.j2, spec_l1Kind.j3, spec_l1Kind.j4, l1In_f, Option.bind_some, spec_l1One.f]
  by_cases h0 : op = 0
  · subst h0
    have e : inB 2 9 0 = false := by decide
    rw [e]
    by_cases h1 : inB (-9999) 9999 n = true <;> by_cases h2 : a = 0 <;> by_cases h3 : b = 0 <;> simp [h1, h2, h3]
  · rw [if_neg h0, if_neg h0]
    by_cases h1 : op = 1
    · subst h1
      have e : inB 2 9 1 = false := by decide
      rw [e]
      by_cases h1 : inB 0 (wrap64 (v - 1)) n = true <;> by_cases h2 : a = 0 <;> by_cases h3 : b = 0 <;> simp [h1, h2, h3]
    · simp only [if_neg h1, Bool.false_eq_true, if_false]
      by_cases h2 : inB 2 9 op = true
      · by_cases h3 : n = 0
        · by_cases h4 : inB 0 (wrap64 ((ks.length : Int) - 1)) a = true
          · by_cases h5 : inB 0 (wrap64 ((ks.length : Int) - 1)) b = true
            · have ha := in_len hm h4
              have hb := in_len hm h5
              have h26 : 2 ≤ op ∧ op ≤ 9 := of_decide_eq_true h2
              simp only [h2, h3, h4, h5, if_true, Bool.not_true, Bool.false_eq_true, if_false, if_pos ha.1, if_pos ha.2, if_pos hb.1, if_pos hb.2, true_and]
              by_cases h7 : op ≥ 7
              · rw [if_pos h7]
                simp only [if_pos h7]
                by_cases h8 : rd ks a = 2
                · by_cases h9 : rd ks b = 2
                  · by_cases h10 : op = 7
                    · by_cases h11 : b = a <;> simp [h8, h9, h10, h11]
                    · have h12 : op ≥ 5 := by omega
                      simp [h8, h9, h10, h12]
                  · simp [h8, h9]
                · simp [h8]
              · rw [if_neg h7]
                simp only [if_neg h7]
                have h10 : ¬ op = 7 := by omega
                by_cases h8 : rd ks a = 1
                · by_cases h9 : rd ks b = 1
                  · by_cases h12 : op ≥ 5 <;> simp [h8, h9, h10, h12]
                  · simp [h8, h9]
                · simp [h8]
            · simp [h2, h3, h4, h5]
          · simp [h2, h3, h4]
        · simp [h2, h3]
      · simp [h2]

def kindsTo (l : List S102) (v : Int) : Nat → List Int
  | 0 => []
  | i + 1 => kindsTo l v i ++ [kindF (l.getD i z102).f0 (l.getD i z102).f1 (l.getD i z102).f2 (l.getD i z102).f3 (kindsTo l v i) v]
def kindAt (l : List S102) (v : Int) (i : Nat) : Int := kindF (l.getD i z102).f0 (l.getD i z102).f1 (l.getD i z102).f2 (l.getD i z102).f3 (kindsTo l v i) v
theorem kindsTo_length (l : List S102) (v : Int) (i : Nat) : (kindsTo l v i).length = i := by
  induction i with
  | zero => rfl
  | succ i ih => simp [kindsTo, ih]
def kindsOK (l : List S102) (v : Int) : Bool := inB 0 5 v && inB 1 40 (l.length : Int) && decide (∀ j, j < l.length → kindAt l v j ≠ 0)
/-- The kinds of all terms, or none. -/
def kindsR (l : List S102) (v : Int) : List Int := if kindsOK l v = true then kindsTo l v l.length else []
theorem kindsR_length (l : List S102) (v : Int) : (kindsR l v).length ≤ l.length := by
  unfold kindsR
  split
  · rw [kindsTo_length]; exact Nat.le_refl _
  · simp
theorem kindsR_pos {l : List S102} {v : Int} : 0 < (kindsR l v).length ↔ kindsOK l v = true := by
  unfold kindsR
  by_cases h : kindsOK l v = true
  · rw [if_pos h, kindsTo_length]
    have h1 := (Bool.and_eq_true_iff.1 (Bool.and_eq_true_iff.1 h).1).2
    have h2 : 1 ≤ (l.length : Int) ∧ (l.length : Int) ≤ 40 := of_decide_eq_true h1
    exact ⟨fun _ => h, fun _ => by omega⟩
  · rw [if_neg h]
    exact ⟨fun g => absurd g (Nat.lt_irrefl 0), fun g => absurd g h⟩

theorem spec_kinds_f {k : Nat} {l : List S102} {v : Int} (hk : l.length + 20 < k) (hm : l.length ≤ 1048576) : spec_KindsOf.f k l v = some (kindsR l v) := by
  unfold spec_KindsOf.f kindsR kindsOK
  obtain ⟨k, rfl⟩ : ∃ m, k = m + 1 := ⟨k - 1, by omega⟩
  simp only [l1In_f, Option.bind_some, spec_KindsOf.j0]
  cases inB 0 5 v
  · rfl
  · cases inB 1 40 (l.length : Int)
    · rfl
    · simp only [if_true, Bool.not_true, Bool.false_eq_true, if_false, Bool.true_and, decide_eq_true_eq]
      refine run_invB 10 (fun k (s : List Int) i => spec_KindsOf.l0 k l v s (i : Int)) l.length (fun i s => s = kindsTo l v i ∧ ∀ j, j < i → kindAt l v j ≠ 0) _ ?_ ?_ k 0 [] (Nat.zero_le _) (by omega) ⟨rfl, fun j hj => absurd hj (Nat.not_lt_zero j)⟩
      · rintro k i s hB hi ⟨rfl, hs⟩
        have hl := kindsTo_length l v i
        simp only [spec_KindsOf.l0]
        rw [if_pos (by omega), if_pos (by omega), rdT102_nat, l1Kind_f (by omega) (by omega), wrap_id (x := (i : Int) + 1) (by omega) (by omega)]
        simp only [Option.bind_some]
        by_cases e : kindAt l v i = 0
        · refine Or.inl ?_
          have e' : kindF (l.getD i z102).f0 (l.getD i z102).f1 (l.getD i z102).f2 (l.getD i z102).f3 (kindsTo l v i) v = 0 := e
          rw [if_pos e', if_neg (fun g => g i hi e)]
        · have e' : ¬ kindF (l.getD i z102).f0 (l.getD i z102).f1 (l.getD i z102).f2 (l.getD i z102).f3 (kindsTo l v i) v = 0 := e
          refine Or.inr ⟨kindsTo l v (i + 1), ?_, rfl, fun j hj => ?_⟩
          · rw [if_neg e', if_pos (by omega)]
            rfl
          · by_cases ej : j = i
            · rw [ej]; exact e
            · exact hs j (by omega)
      · rintro k s _ ⟨rfl, hs⟩
        simp only [spec_KindsOf.l0]
        rw [if_neg (by omega), if_pos hs]

theorem spec_TermsValid_f {k : Nat} {l : List S102} {v : Int} (hk : l.length + 20 < k) (hm : l.length ≤ 1048576) : spec_TermsValid.f k l v = some (kindsOK l v) := by
  unfold spec_TermsValid.f
  rw [spec_kinds_f hk hm]
  simp only [Option.bind_some]
  congr 1
  rw [Bool.eq_iff_iff, decide_eq_true_iff, ← kindsR_pos]
  omega

def cTerm (x : S104) : S102 := ⟨x.f0, x.f1, x.f2, x.f3⟩
theorem toTermS_f {k : Nat} {l : List S104} (hk : l.length < k) (hm : l.length ≤ 8796093022208) : laws_toTermS.f k l = some (l.map cTerm) := by
  unfold laws_toTermS.f
  rw [if_pos (by omega), if_pos (by omega)]
  refine run_inv (fun k (s : List S102) i => laws_toTermS.l0 k l s (i : Int)) l.length (fun i s => s.length = l.length ∧ ∀ j, j < i → s.getD j z102 = (l.map cTerm).getD j z102) _ ?_ ?_ k 0 _ (Nat.zero_le _) (by omega) ⟨by simp, fun j hj => absurd hj (Nat.not_lt_zero j)⟩
  · intro k i s hi ⟨hl, hs⟩
    refine Or.inr ⟨s.set i (cTerm (l.getD i z104)), ?_, by simpa using hl, fun j hj => ?_⟩
    · simp only [laws_toTermS.l0]
      rw [if_pos (by omega), if_pos (by omega)]
      simp only [laws_toTerm.f, Option.bind_some, rdT104_nat]
      rw [if_pos (by omega), wrap_id (by omega) (by omega)]
      rfl
    · rw [getD_set _ _ _ _ _ (by omega)]
      by_cases e : j = i
      · rw [if_pos e, e]
        simp [List.getD_eq_getElem?_getD, hi]
      · rw [if_neg e]
        exact hs j (by omega)
  · intro k s ⟨hl, hs⟩
    simp only [laws_toTermS.l0]
    rw [if_neg (by omega), ext_getD (d := z102) (s := s) (l := l.map cTerm) (by simpa using hl) (fun j hj => hs j (by simpa using hj))]

theorem in_f (n a b : Int) : impl_in.f n a b = some (inB a b n) := by
  unfold impl_in.f inB
  by_cases h : n ≥ a
  · rw [if_pos h]; congr 1; simp; omega
  · rw [if_neg h, decide_eq_false (by omega)]

theorem parts_f {k : Nat} {op : Int} (hk : 2 < k) : impl_parts.f k op = some (if 2 ≤ op ∧ op ≤ 4 then (2, 1, 1) else if 5 ≤ op ∧ op ≤ 6 then (2, 1, 2) else if op = 7 then (1, 2, 2) else if 8 ≤ op ∧ op ≤ 9 then (2, 2, 2) else (0, 0, 1)) := by
  obtain ⟨k, rfl⟩ : ∃ m, k = m + 2 := ⟨k - 2, by omega⟩
  unfold impl_parts.f
  simp only [impl_parts.j0, impl_parts.j1]
  by_cases h2 : op = 2
  · subst h2; rfl
  · by_cases h3 : op = 3
    · subst h3; rfl
    · by_cases h4 : op = 4
      · subst h4; rfl
      · by_cases h5 : op = 5
        · subst h5; rfl
        · by_cases h6 : op = 6
          · subst h6; rfl
          · by_cases h7 : op = 7
            · subst h7; rfl
            · by_cases h8 : op = 8
              · subst h8; rfl
              · by_cases h9 : op = 9
                · subst h9; rfl
                · have e4 : (op == 4) = false := by simpa using h4
                  have e6 : (op == 6) = false := by simpa using h6
                  rw [if_neg h2, if_neg h3, e4, if_neg (by decide), if_neg h5, e6, if_neg (by decide), if_neg h7, if_neg h8, if_neg h9, if_neg (by omega), if_neg (by omega)]
                  try rw [if_neg (by omega)]
                  try rw [if_neg (by omega)]

theorem impl_kinds_f {k : Nat} {l : List S102} {v : Int} (hk : l.length + 20 < k) (hm : l.length ≤ 1048576) : impl_kindsOf.f k l v = some (kindsR l v) := by
  unfold impl_kindsOf.f kindsR kindsOK
  obtain ⟨k, rfl⟩ : ∃ m, k = m + 1 := ⟨k - 1, by omega⟩
  simp only [in_f, Option.bind_some, impl_kindsOf.j0]
  cases inB 0 5 v
  · rfl
  · cases hin : inB 1 40 (l.length : Int)
    · rfl
    · simp only [if_true, Bool.not_true, Bool.false_eq_true, if_false, Bool.true_and, decide_eq_true_eq]
      rw [if_pos (by omega), if_pos (by omega)]
      refine run_invB 10 (fun k (s : List Int) i => impl_kindsOf.l0 k v s l (l.length : Int) (i : Int)) l.length (fun i s => s = kindsTo l v i ∧ ∀ j, j < i → kindAt l v j ≠ 0) _ ?_ ?_ k 0 [] (Nat.zero_le _) (by omega) ⟨rfl, fun j hj => absurd hj (Nat.not_lt_zero j)⟩
      · rintro k i s hB hi ⟨rfl, hs⟩
        have hl := kindsTo_length l v i
        have key : ∀ G : List Int → Option (List Int), (kindAt l v i = 0 → impl_kindsOf.l0 (k + 1) v (kindsTo l v i) l (l.length : Int) (i : Int) = some []) ∧ (kindAt l v i ≠ 0 → impl_kindsOf.l0 (k + 1) v (kindsTo l v i) l (l.length : Int) (i : Int) = impl_kindsOf.l0 k v (kindsTo l v i ++ [kindAt l v i]) l (l.length : Int) ((i : Int) + 1)) := by
          intro _
          have c1 : (i : Int) < (l.length : Int) := by omega
          have c2 : (0 : Int) ≤ (i : Int) := by omega
          have c3 : (kindsTo l v i).length < 17592186044416 := by omega
          have hli : ((i : Int)) = ((kindsTo l v i).length : Int) := by omega
          unfold kindAt
          simp only [impl_kindsOf.l0, if_pos c1, if_pos c2, if_pos c3, rdT102_nat, in_f, Option.bind_some, wrap_id (x := (i : Int) + 1) (by omega) (by omega)]
          rw [parts_f (by omega)]
          simp only [Option.bind_some]
          rw [show wrap64 ((i : Int) - 1) = wrap64 (((kindsTo l v i).length : Int) - 1) from by rw [← hli]]
          generalize l.getD i z102 = x
          obtain ⟨op, n, a, b⟩ := x
          simp only [kindF]
          generalize kindsTo l v i = ks at hl c3 hli ⊢
          generalize hG : (fun s => impl_kindsOf.l0 k v s l (l.length : Int) ((i : Int) + 1)) = G
          have hG' : ∀ s, impl_kindsOf.l0 k v s l (l.length : Int) ((i : Int) + 1) = G s := fun s => by rw [← hG]
          simp only [hG']
          clear hG hG'
          by_cases h0 : op = 0
          · subst h0
            by_cases h1 : inB (-9999) 9999 n = true <;> by_cases h2 : a = 0 <;> by_cases h3 : b = 0 <;> simp [h1, h2, h3]
          · simp only [if_neg h0]
            by_cases h1 : op = 1
            · subst h1
              by_cases h1 : inB 0 (wrap64 (v - 1)) n = true <;> by_cases h2 : a = 0 <;> by_cases h3 : b = 0 <;> simp [h1, h2, h3]
            · simp only [if_neg h1]
              have e : inB 0 9 op = inB 2 9 op := decide_eq_decide.2 (by omega)
              rw [e]
              by_cases h2 : inB 2 9 op = true
              · have h29 : 2 ≤ op ∧ op ≤ 9 := of_decide_eq_true h2
                by_cases h3 : n = 0
                · by_cases h4 : inB 0 (wrap64 ((ks.length : Int) - 1)) a = true
                  · by_cases h5 : inB 0 (wrap64 ((ks.length : Int) - 1)) b = true
                    · have ha := in_len (by omega) h4
                      have hb := in_len (by omega) h5
                      simp only [h2, h3, h4, h5, if_true, if_pos ha.1, if_pos ha.2, if_pos hb.1, if_pos hb.2, true_and]
                      have hop : op = 2 ∨ op = 3 ∨ op = 4 ∨ op = 5 ∨ op = 6 ∨ op = 7 ∨ op = 8 ∨ op = 9 := by omega
                      generalize rd ks a = ra
                      generalize rd ks b = rb
                      rcases hop with rfl | rfl | rfl | rfl | rfl | rfl | rfl | rfl
                      all_goals
                        simp
                        first
                          | (by_cases g1 : ra = 1 <;> by_cases g2 : rb = 1 <;> simp [g1, g2]; done)
                          | (by_cases g1 : ra = 2 <;> by_cases g2 : rb = 2 <;> simp [g1, g2]; done)
                          | (by_cases g3 : a = b
                             · by_cases g1 : ra = 2 <;> by_cases g2 : rb = 2 <;> simp [g1, g2, g3]
                             · have g4 : ¬ b = a := fun g => g3 g.symm
                               by_cases g1 : ra = 2 <;> by_cases g2 : rb = 2 <;> simp [g1, g2, g3, g4])
                    · simp [h2, h3, h4, h5]
                  · simp [h2, h3, h4]
                · simp [h2, h3]
              · simp [h2]
        obtain ⟨k1, k2⟩ := key (fun _ => none)
        by_cases e : kindAt l v i = 0
        · refine Or.inl ?_
          rw [k1 e, if_neg (fun g => g i hi e)]
        · refine Or.inr ⟨kindsTo l v (i + 1), k2 e, rfl, fun j hj => ?_⟩
          by_cases ej : j = i
          · rw [ej]; exact e
          · exact hs j (by omega)
      · rintro k s _ ⟨rfl, hs⟩
        simp only [impl_kindsOf.l0]
        rw [if_neg (by omega)]
        have hin' : 1 ≤ (l.length : Int) ∧ (l.length : Int) ≤ 40 := of_decide_eq_true hin
        rw [if_pos (by rw [kindsTo_length]; omega)]
        rw [if_pos hs]

theorem impl_TermsValid_f {k : Nat} {l : List S102} {v : Int} (hk : l.length + 20 < k) (hm : l.length ≤ 1048576) : impl_TermsValid.f k l v = some (kindsOK l v) := by
  unfold impl_TermsValid.f
  rw [impl_kinds_f hk hm]
  simp only [Option.bind_some]
  congr 1
  rw [Bool.eq_iff_iff, decide_eq_true_iff, ← kindsR_pos]

theorem eqTermS_f {k : Nat} {l : List S102} (hk : l.length < k) (hm : l.length ≤ 35184372088832) : laws_eqTermS.f k l l = some true := by
  unfold laws_eqTermS.f
  rw [if_pos rfl]
  refine run_inv (fun k (_ : Unit) i => laws_eqTermS.l0 k l l (i : Int)) l.length (fun _ _ => True) _ ?_ ?_ k 0 () (Nat.zero_le _) (by omega) trivial
  · intro k i _ hi _
    refine Or.inr ⟨(), ?_, trivial⟩
    simp only [laws_eqTermS.l0]
    rw [if_pos (by omega), if_pos (by omega), if_pos (by omega), wrap_id (by omega) (by omega)]
    simp only [laws_eqTerm.f, if_true, Option.bind_some]
    rfl
  · intro k _ _
    simp only [laws_eqTermS.l0]
    rw [if_neg (by omega)]

theorem FnExactTermsValid : laws_FnExactTermsValid.Pure := by
  intro l a hl hw ha
  refine ⟨2 * l.length + 100, ?_⟩
  unfold laws_FnExactTermsValid.f
  rw [szTermS_f (by omega) (by omega) hl]
  simp only [Option.bind_some]
  by_cases h : 1048576 - (l.length : Int) < 0
  · rw [if_pos h]
    rfl
  · simp only [if_neg h]
    rw [toTermS_f (by omega) (by omega)]
    simp only [Option.bind_some]
    have hlen : (l.map cTerm).length = l.length := by simp
    rw [spec_TermsValid_f (by omega) (by omega), impl_TermsValid_f (by omega) (by omega)]
    simp only [Option.bind_some, bne_self_eq_false, Bool.false_eq_true, if_false]
    rw [eqTermS_f (by omega) (by omega)]
    simp

end Go.Proofs.Ytbjkjoicecmmpab.Pure
