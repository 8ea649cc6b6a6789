/- What judges and compares tells something for all arguments that are short enough.
Conditions: each theorem's own. -/
import Derived.Test.YtnidjlhbejifoaaRTyC
import Derived.Test.YtnidjlhbejifoaaXFnSameRunx11
namespace Go.Proofs.Ytnidjlhbejifoaa.XFnSameRun
open Go.RowKit Go.Proofs.YtnidjlhbejifoaaW.PrintWords Go.Proofs.YtnidjlhbejifoaaW.PrintLast Go.Proofs.YtnidjlhbejifoaaW.PrintMore Go.Proofs.YtnidjlhbejifoaaX
set_option linter.unusedVariables false
set_option linter.unusedSimpArgs false

theorem l2Same_f {k : Nat} {a b : List Int} (hk : a.length < k) (hm : a.length ≤ 35184372088832) : spec_l2Same.f k a b = some (decide (a = b)) := by
 unfold spec_l2Same.f
 by_cases hab : a.length = b.length
 ·rw [if_pos (by omega)]
  refine run_inv (fun k (_ : Unit) i => spec_l2Same.l0 k a b (i : Int)) a.length (fun i _ => ∀ j, j < i → a.getD j 0 = b.getD j 0) _ ?_ ?_ k 0 () (Nat.zero_le _) (by omega) (fun j hj => absurd hj (Nat.not_lt_zero j))
  ·intro k i _ hi hs
   by_cases e : a.getD i 0 = b.getD i 0
   ·refine Or.inr ⟨(), ?_, fun j hj => ?_⟩
    ·simp only [spec_l2Same.l0]
     rw [if_pos (by omega), if_pos (by omega), if_pos (by omega), rd_nat, rd_nat, if_pos e, wrap_id (by omega) (by omega)]
     rfl
    ·by_cases e2 : j = i
     ·rw [e2]; exact e
     ·exact hs j (by omega)
   ·refine Or.inl ?_
    simp only [spec_l2Same.l0]
    rw [if_pos (by omega), if_pos (by omega), if_pos (by omega), rd_nat, rd_nat, if_neg e, decide_eq_false (fun h => e (by rw [h]))]
  ·intro k _ hs
   simp only [spec_l2Same.l0]
   rw [if_neg (by omega), decide_eq_true (ext_getD hab (fun j hj => hs j (by omega)))]
 ·rw [if_neg (by omega), decide_eq_false (fun h => hab (by rw [h]))]

theorem l3Copy_f {k : Nat} {l : List Int} (hk : l.length < k) (hm : l.length ≤ 1048576) : spec_l3Copy.f k l = some l := by
 unfold spec_l3Copy.f
 refine run_inv (fun k (s : List Int) i => spec_l3Copy.l0 k l s (i : Int)) l.length (fun i s => s = l.take i) _ ?_ ?_ k 0 [] (Nat.zero_le _) (by omega) (by simp)
 ·rintro k i s hi rfl
  have hl : (l.take i).length = i := by rw [List.length_take]; omega
  refine Or.inr ⟨_, ?_, (take_succ_getD l i 0 hi).symm⟩
  simp only [spec_l3Copy.l0]
  rw [if_pos (by omega), if_pos (by omega), if_pos (by rw [hl]; omega), wrap_id (x := (i : Int) + 1) (by omega) (by omega), rd_nat]
  rfl
 ·rintro k s rfl
  simp only [spec_l3Copy.l0]
  rw [if_neg (by omega), List.take_length]

theorem l1In_f (n a b : Int) : spec_l1In.f n a b = some (inB a b n) := by
 unfold spec_l1In.f inB
 by_cases h : n ≥ a
 ·rw [if_pos h]; congr 1; simp; omega
 ·rw [if_neg h, decide_eq_false (by omega)]

/-- The kind of a term behind others whose kinds are ks: 1 a number, 2 a truth, 0 none. -/
def kindF (op n a b : Int) (ks : List Int) (v : Int) : Int :=
 if op = 0 then (if inB (-9999) 9999 n = true ∧ a = 0 ∧ b = 0 then 1 else 0)
 else if op = 1 then (if inB 0 (wrap64 (v - 1)) n = true ∧ a = 0 ∧ b = 0 then 1 else 0)
 else if inB 2 9 op = true ∧ n = 0 ∧ inB 0 (wrap64 ((ks.length : Int) - 1)) a = true ∧ inB 0 (wrap64 ((ks.length : Int) - 1)) b = true ∧ rd ks a = (if op ≥ 7 then 2 else 1) ∧ rd ks b = (if op ≥ 7 then 2 else 1) ∧ (op = 7 → b = a) then (if op ≥ 5 then 2 else 1) else 0
theorem in_len {ks : List Int} {a : Int} (hm : ks.length ≤ 1048576) (h : inB 0 (wrap64 ((ks.length : Int) - 1)) a = true) : 0 ≤ a ∧ a < (ks.length : Int) := by
 have h1 := of_decide_eq_true h
 rw [wrap_id (by omega) (by omega)] at h1
 omega

theorem rdT54_nat (xs : List S54) (i : Nat) : rd_T54 xs (i : Int) = xs.getD i z54 := by simp [rd_T54]

theorem l1Kind_f {k : Nat} {op n a b v : Int} {ks : List Int} (hk : 5 < k) (hm : ks.length ≤ 1048576) : spec_l1Kind.f k op n a b ks v = some (kindF op n a b ks v) := by
 obtain ⟨k, rfl⟩ : ∃ m, k = m + 5 := ⟨k - 5, by omega⟩
 unfold spec_l1Kind.f kindF
 simp only [spec_l1Kind.j0, spec_l1Kind.j1, spec_l1Kind.j2, spec_l1Kind.j3, spec_l1Kind.j4, l1In_f, Option.bind_some, spec_l1One.f]
 by_cases h0 : op = 0
 ·subst h0
  have e : inB 2 9 0 = false := by decide
  rw [e]
  by_cases h1 : inB (-9999) 9999 n = true <;> by_cases h2 : a = 0 <;> by_cases h3 : b = 0 <;> simp [h1, h2, h3]
 ·rw [if_neg h0, if_neg h0]
  by_cases h1 : op = 1
  ·subst h1
   have e : inB 2 9 1 = false := by decide
   rw [e]
   by_cases h1 : inB 0 (wrap64 (v - 1)) n = true <;> by_cases h2 : a = 0 <;> by_cases h3 : b = 0 <;> simp [h1, h2, h3]
  ·simp only [if_neg h1, Bool.false_eq_true, if_false]
   by_cases h2 : inB 2 9 op = true
   ·by_cases h3 : n = 0
    ·by_cases h4 : inB 0 (wrap64 ((ks.length : Int) - 1)) a = true
     ·by_cases h5 : inB 0 (wrap64 ((ks.length : Int) - 1)) b = true
      ·have ha := in_len hm h4
       have hb := in_len hm h5
       have h26 : 2 ≤ op ∧ op ≤ 9 := of_decide_eq_true h2
       simp only [h2, h3, h4, h5, if_true, Bool.not_true, Bool.false_eq_true, if_false, if_pos ha.1, if_pos ha.2, if_pos hb.1, if_pos hb.2, true_and]
       by_cases h7 : op ≥ 7
       ·rw [if_pos h7]
        simp only [if_pos h7]
        by_cases h8 : rd ks a = 2
        ·by_cases h9 : rd ks b = 2
         ·by_cases h10 : op = 7
          ·by_cases h11 : b = a <;> simp [h8, h9, h10, h11]
          ·have h12 : op ≥ 5 := by omega
           simp [h8, h9, h10, h12]
         ·simp [h8, h9]
        ·simp [h8]
       ·rw [if_neg h7]
        simp only [if_neg h7]
        have h10 : ¬ op = 7 := by omega
        by_cases h8 : rd ks a = 1
        ·by_cases h9 : rd ks b = 1
         ·by_cases h12 : op ≥ 5 <;> simp [h8, h9, h10, h12]
         ·simp [h8, h9]
        ·simp [h8]
      ·simp [h2, h3, h4, h5]
     ·simp [h2, h3, h4]
    ·simp [h2, h3]
   ·simp [h2]

def kindsTo (l : List S54) (v : Int) : Nat → List Int
 | 0 => []
 | i + 1 => kindsTo l v i ++ [kindF (l.getD i z54).f0 (l.getD i z54).f1 (l.getD i z54).f2 (l.getD i z54).f3 (kindsTo l v i) v]
def kindAt (l : List S54) (v : Int) (i : Nat) : Int := kindF (l.getD i z54).f0 (l.getD i z54).f1 (l.getD i z54).f2 (l.getD i z54).f3 (kindsTo l v i) v
theorem kindsTo_length (l : List S54) (v : Int) (i : Nat) : (kindsTo l v i).length = i := by
 induction i with
 | zero => rfl
 | succ i ih => simp [kindsTo, ih]
def kindsOK (l : List S54) (v : Int) : Bool := inB 0 5 v && inB 1 40 (l.length : Int) && decide (∀ j, j < l.length → kindAt l v j ≠ 0)
/-- The kinds of all terms, or none. -/
def kindsR (l : List S54) (v : Int) : List Int := if kindsOK l v = true then kindsTo l v l.length else []
theorem kindsR_length (l : List S54) (v : Int) : (kindsR l v).length ≤ l.length := by
 unfold kindsR
 split
 ·rw [kindsTo_length]; exact Nat.le_refl _
 ·simp
theorem kindsR_pos {l : List S54} {v : Int} : 0 < (kindsR l v).length ↔ kindsOK l v = true := by
 unfold kindsR
 by_cases h : kindsOK l v = true
 ·rw [if_pos h, kindsTo_length]
  have h1 := (Bool.and_eq_true_iff.1 (Bool.and_eq_true_iff.1 h).1).2
  have h2 : 1 ≤ (l.length : Int) ∧ (l.length : Int) ≤ 40 := of_decide_eq_true h1
  exact ⟨fun _ => h, fun _ => by omega⟩
 ·rw [if_neg h]
  exact ⟨fun g => absurd g (Nat.lt_irrefl 0), fun g => absurd g h⟩

theorem spec_kinds_f {k : Nat} {l : List S54} {v : Int} (hk : l.length + 20 < k) (hm : l.length ≤ 1048576) : spec_KindsOf.f k l v = some (kindsR l v) := by
 unfold spec_KindsOf.f kindsR kindsOK
 obtain ⟨k, rfl⟩ : ∃ m, k = m + 1 := ⟨k - 1, by omega⟩
 simp only [l1In_f, Option.bind_some, spec_KindsOf.j0]
 cases inB 0 5 v
 ·rfl
 ·cases inB 1 40 (l.length : Int)
  ·rfl
  ·simp only [if_true, Bool.not_true, Bool.false_eq_true, if_false, Bool.true_and, decide_eq_true_eq]
   refine run_invB 10 (fun k (s : List Int) i => spec_KindsOf.l0 k l v s (i : Int)) l.length (fun i s => s = kindsTo l v i ∧ ∀ j, j < i → kindAt l v j ≠ 0) _ ?_ ?_ k 0 [] (Nat.zero_le _) (by omega) ⟨rfl, fun j hj => absurd hj (Nat.not_lt_zero j)⟩
   ·rintro k i s hB hi ⟨rfl, hs⟩
    have hl := kindsTo_length l v i
    simp only [spec_KindsOf.l0]
    rw [if_pos (by omega), if_pos (by omega), rdT54_nat, l1Kind_f (by omega) (by omega), wrap_id (x := (i : Int) + 1) (by omega) (by omega)]
    simp only [Option.bind_some]
    by_cases e : kindAt l v i = 0
    ·refine Or.inl ?_
     have e' : kindF (l.getD i z54).f0 (l.getD i z54).f1 (l.getD i z54).f2 (l.getD i z54).f3 (kindsTo l v i) v = 0 := e
     rw [if_pos e', if_neg (fun g => g i hi e)]
    ·have e' : ¬ kindF (l.getD i z54).f0 (l.getD i z54).f1 (l.getD i z54).f2 (l.getD i z54).f3 (kindsTo l v i) v = 0 := e
     refine Or.inr ⟨kindsTo l v (i + 1), ?_, rfl, fun j hj => ?_⟩
     ·rw [if_neg e', if_pos (by omega)]
      rfl
     ·by_cases ej : j = i
      ·rw [ej]; exact e
      ·exact hs j (by omega)
   ·rintro k s _ ⟨rfl, hs⟩
    simp only [spec_KindsOf.l0]
    rw [if_neg (by omega), if_pos hs]

theorem spec_TermsValid_f {k : Nat} {l : List S54} {v : Int} (hk : l.length + 20 < k) (hm : l.length ≤ 1048576) : spec_TermsValid.f k l v = some (kindsOK l v) := by
 unfold spec_TermsValid.f
 rw [spec_kinds_f hk hm]
 simp only [Option.bind_some]
 congr 1
 rw [Bool.eq_iff_iff, decide_eq_true_iff, ← kindsR_pos]
 omega

theorem l2Less_f {a b : List Int} (hm : a.length ≤ 1048576) : ∃ k r, spec_l2Less.f k a b = some r := by
 unfold spec_l2Less.f
 have key : ∀ d (i : Nat), a.length - i = d → i ≤ a.length → ∃ r, spec_l2Less.l0 (2 * d + 2) a b (i : Int) = some r := by
  intro d
  induction d with
  | zero =>
   intro i hd hi
   simp only [spec_l2Less.l0, Nat.mul_zero]
   rw [if_neg (by omega)]
   exact ⟨_, rfl⟩
  | succ d ih =>
   intro i hd hi
   rw [show 2 * (d + 1) + 2 = (2 * d + 2) + 1 + 1 from by omega]
   simp only [spec_l2Less.l0]
   rw [if_pos (by omega)]
   simp only [spec_l2Less.j1]
   by_cases h : (i : Int) < (b.length : Int)
   ·rw [decide_eq_true h, if_pos rfl, if_pos (by omega), if_pos (by omega), if_pos h]
    by_cases e : rd a (i : Int) = rd b (i : Int)
    ·rw [if_pos e, wrap_id (by omega) (by omega)]
     exact ih (i + 1) (by omega) (by omega)
    ·rw [if_neg e]
     exact ⟨_, rfl⟩
   ·rw [decide_eq_false h]
    exact ⟨_, rfl⟩
 obtain ⟨r, hr⟩ := key a.length 0 (by omega) (by omega)
 exact ⟨_, r, hr⟩
def moved (d : Int) (x : S54) : S54 := if x.f0 ≥ 2 then ⟨x.f0, x.f1, wrap64 (x.f2 + d), wrap64 (x.f3 + d)⟩ else ⟨x.f0, x.f1, x.f2, x.f3⟩
/-- Two expressions, the second behind the first, and what joins them. -/
def frontT (op : Int) (a b : List S54) : List S54 := if op = 7 then a else a ++ b.map (moved (a.length : Int))
def joinT (op : Int) (a b : List S54) : List S54 := frontT op a b ++ [⟨op, 0, wrap64 ((a.length : Int) - 1), wrap64 (((frontT op a b).length : Int) - 1)⟩]
def joinR (op : Int) (a b : List S54) (v : Int) : List S54 := if (kindsOK a v && kindsOK b v) = true then (if inB 2 9 op = true then (if kindsOK (joinT op a b) v = true then joinT op a b else []) else []) else []
theorem kinds_small {l : List S54} {v : Int} (h : kindsOK l v = true) : 1 ≤ l.length ∧ l.length ≤ 40 := by
 have h1 := (Bool.and_eq_true_iff.1 (Bool.and_eq_true_iff.1 h).1).2
 have h2 : 1 ≤ (l.length : Int) ∧ (l.length : Int) ≤ 40 := of_decide_eq_true h1
 omega
theorem kinds_zero {l : List S54} {v : Int} (h : kindsOK l v = true) (j : Nat) (hj : j < l.length) (h2 : (l.getD j z54).f0 ≥ 2) : (l.getD j z54).f1 = 0 := by
 have h1 := of_decide_eq_true (Bool.and_eq_true_iff.1 h).2 j hj
 unfold kindAt kindF at h1
 rw [if_neg (by omega), if_neg (by omega)] at h1
 by_cases g : (l.getD j z54).f1 = 0
 ·exact g
 ·rw [if_neg (fun q => g q.2.1)] at h1
  exact absurd rfl h1
theorem front_length (op : Int) (a b : List S54) : (frontT op a b).length ≤ a.length + b.length := by
 unfold frontT
 split
 ·omega
 ·rw [List.length_append, List.length_map]; omega
theorem joinT_length (op : Int) (a b : List S54) : (joinT op a b).length ≤ a.length + b.length + 1 := by
 have := front_length op a b
 unfold joinT
 rw [List.length_append]
 simp
 omega
theorem join_bad {op : Int} {a b : List S54} {v : Int} (h : op > 9) : kindsOK (joinT op a b) v = false := by
 rw [Bool.eq_false_iff]
 intro hk
 have hl : (joinT op a b).length = (frontT op a b).length + 1 := by simp [joinT]
 have h1 := of_decide_eq_true (Bool.and_eq_true_iff.1 hk).2 (frontT op a b).length (by omega)
 have hx : (joinT op a b).getD (frontT op a b).length z54 = ⟨op, 0, wrap64 ((a.length : Int) - 1), wrap64 (((frontT op a b).length : Int) - 1)⟩ := by
  simp [joinT, List.getD_eq_getElem?_getD]
 unfold kindAt kindF at h1
 rw [hx] at h1
 simp only at h1
 rw [if_neg (by omega), if_neg (by omega), if_neg (fun q => by have := of_decide_eq_true q.1; omega)] at h1
 exact absurd rfl h1
theorem spec_join_f {k : Nat} {op : Int} {a b : List S54} {v : Int} (hk : 2 * a.length + 2 * b.length + 300 < k) (ha : a.length ≤ 1048576) (hb : b.length ≤ 1048576) : spec_Joined.f k op a b v = some (joinR op a b v) := by
 unfold spec_Joined.f joinR
 obtain ⟨k, rfl⟩ : ∃ m, k = m + 1 := ⟨k - 1, by omega⟩
 rw [spec_TermsValid_f (by omega) ha, spec_TermsValid_f (by omega) hb]
 simp only [Option.bind_some, spec_Joined.j0]
 cases hA : kindsOK a v
 ·rfl
 ·cases hB : kindsOK b v
  ·rfl
  ·simp only [if_true, Bool.and_self, Bool.not_true, Bool.false_eq_true, if_false]
   have sA := kinds_small hA
   have sB := kinds_small hB
   have hl := joinT_length op a b
   have hfl := front_length op a b
   have hend : (if op < 2 then (some ([] : List S54)) else if kindsOK (joinT op a b) v = true then some (joinT op a b) else some []) = some (if inB 2 9 op = true then (if kindsOK (joinT op a b) v = true then joinT op a b else []) else []) := by
    by_cases h2 : op < 2
    ·rw [if_pos h2, if_neg (fun q => by have := of_decide_eq_true q; omega)]
    ·rw [if_neg h2]
     by_cases h9 : op > 9
     ·have e29 : inB 2 9 op = false := decide_eq_false (by omega)
      rw [join_bad h9, e29]
      rfl
     ·rw [if_pos (show inB 2 9 op = true from decide_eq_true (by omega))]
      split <;> rfl
   obtain ⟨k, rfl⟩ : ∃ m, k = m + (a.length + 1) := ⟨k - (a.length + 1), by omega⟩
   refine Eq.trans (run_goto (fun k (s : List S54) i => spec_Joined.l0 k op a b v s (i : Int)) a.length (fun i s => s = a.take i) (fun k => spec_Joined.l1 k op a b v a 0) ?_ ?_ a.length k 0 [] (by omega) (by simp)) ?_
   ·rintro k i s hi rfl
    have hl : (a.take i).length = i := by rw [List.length_take]; omega
    refine ⟨_, ?_, rfl⟩
    simp only [spec_Joined.l0, rdT54_nat]
    rw [if_pos (by omega), if_pos (by omega), if_pos (by omega), wrap_id (x := (i : Int) + 1) (by omega) (by omega), take_succ_getD a i z54 hi]
    rfl
   ·rintro k s rfl
    simp only [spec_Joined.l0]
    rw [if_neg (by omega), List.take_length]
   ·by_cases h7 : op = 7
    ·subst h7
     obtain ⟨k, rfl⟩ : ∃ m, k = m + 1 := ⟨k - 1, by omega⟩
     simp only [spec_Joined.l1, spec_l1One.f, Option.bind_some]
     rw [if_pos (by omega), if_pos (by rfl), if_pos (by omega), spec_TermsValid_f (by rw [List.length_append]; simp; omega) (by rw [List.length_append]; simp; omega)]
     have hj : joinT 7 a b = a ++ [⟨7, 0, wrap64 ((a.length : Int) - 1), wrap64 ((a.length : Int) - 1)⟩] := rfl
     rw [← hj]
     simp only [Option.bind_some]
     exact hend
    ·have hfr : frontT op a b = a ++ b.map (moved (a.length : Int)) := if_neg h7
     have h7b : (op == 7) = false := by simpa using h7
     refine run_invB (a.length + b.length + 100) (fun k (s : List S54) i => spec_Joined.l1 k op a b v s (i : Int)) b.length (fun i s => s = a ++ (b.map (moved (a.length : Int))).take i) _ ?_ ?_ k 0 a (Nat.zero_le _) (by omega) (by simp)
     ·rintro k i s hB2 hi rfl
      have ht := take_succ_getD (b.map (moved (a.length : Int))) i z54 (by rw [List.length_map]; exact hi)
      have hg : (b.map (moved (a.length : Int))).getD i z54 = moved (a.length : Int) (b.getD i z54) := by simp [List.getD_eq_getElem?_getD, hi]
      rw [hg] at ht
      have hl : (a ++ (b.map (moved (a.length : Int))).take i).length < 4398046511104 := by rw [List.length_append, List.length_take, List.length_map]; omega
      have c1 : (i : Int) < (b.length : Int) := by omega
      have c2 : (0 : Int) ≤ (i : Int) := by omega
      have hz := kinds_zero hB i hi
      refine Or.inr ⟨a ++ (b.map (moved (a.length : Int))).take (i + 1), ?_, rfl⟩
      rw [ht, ← List.append_assoc]
      have hmv : moved (a.length : Int) (b.getD i z54) = if (b.getD i z54).f0 ≥ 2 then ⟨(b.getD i z54).f0, (b.getD i z54).f1, wrap64 ((b.getD i z54).f2 + (a.length : Int)), wrap64 ((b.getD i z54).f3 + (a.length : Int))⟩ else ⟨(b.getD i z54).f0, (b.getD i z54).f1, (b.getD i z54).f2, (b.getD i z54).f3⟩ := rfl
      simp only [spec_Joined.l1, spec_l1One.f, h7b, Option.bind_some, Bool.false_eq_true, if_false, if_pos c1, if_pos c2, if_pos hl, wrap_id (x := (i : Int) + 1) (by omega) (by omega), rdT54_nat, spec_l1Moved.f]
      rw [hmv]
      by_cases e : (b.getD i z54).f0 ≥ 2
      ·rw [if_pos e, if_pos e, hz e]
       rfl
      ·rw [if_neg e, if_neg e]
       rfl
     ·rintro k s hB2 rfl
      have e1 : (b.map (moved (a.length : Int))).take b.length = b.map (moved (a.length : Int)) := List.take_of_length_le (by rw [List.length_map]; omega)
      rw [e1, ← hfr]
      simp only [spec_Joined.l1, Option.bind_some]
      have hj : joinT op a b = frontT op a b ++ [⟨op, 0, wrap64 ((a.length : Int) - 1), wrap64 (((frontT op a b).length : Int) - 1)⟩] := rfl
      rw [if_neg (by omega), if_pos (by omega), ← hj, spec_TermsValid_f (by omega) (by omega)]
      simp only [Option.bind_some]
      exact hend


theorem joinR_length (op : Int) (a b : List S54) (v : Int) : (joinR op a b v).length ≤ 81 := by
 unfold joinR
 by_cases h : (kindsOK a v && kindsOK b v) = true
 ·rw [if_pos h]
  have h2 := Bool.and_eq_true_iff.1 h
  have sA := kinds_small h2.1
  have sB := kinds_small h2.2
  have := joinT_length op a b
  split
  ·split
   ·omega
   ·simp
  ·simp
 ·rw [if_neg h]
  simp
theorem l1Number_f {b : List Int} {p : Int} (hb : Bytes b) (hp : 0 ≤ p) (hp2 : p ≤ 999990) : ∃ r, spec_l1Number.f 1 b p = some (r, p + 6) := by
 unfold spec_l1Number.f
 obtain ⟨r1, e1, _⟩ := pick_f (k := 1) (n := 4) (by decide) hb hp (by omega)
 obtain ⟨r2, e2, _⟩ := pick_f (k := 1) (n := 4) (by decide) hb (p := p + 1) (by omega) (by omega)
 obtain ⟨r3, e3, _⟩ := pick_f (k := 1) (n := 7) (by decide) hb (p := p + 1 + 1) (by omega) (by omega)
 obtain ⟨r4, e4, _⟩ := pick_f (k := 1) (n := 200) (by decide) hb (p := p + 1 + 1 + 1) (by omega) (by omega)
 obtain ⟨r5, e5, h50, h51⟩ := pick_f (k := 1) (n := 4) (by decide) hb (p := p + 1 + 1 + 1 + 1) (by omega) (by omega)
 have h51 := h51 (by omega)
 rw [e1]
 simp only [Option.bind_some]
 rw [e2]
 simp only [Option.bind_some]
 rw [e3]
 simp only [Option.bind_some]
 rw [e4]
 simp only [Option.bind_some]
 rw [e5]
 simp only [Option.bind_some]
 rw [if_pos h50, if_pos (by simpa using h51)]
 obtain ⟨r6, e6, _⟩ := num_f (k := 1) (l := [r1, r2, wrap64 (r3 - 3), 1, 0, wrap64 (r4 - 100), rd [9999, -9999, 5000, 100] r5]) (by decide) hb (p := p + 1 + 1 + 1 + 1 + 1) (by omega) (by omega) (by simp)
 rw [e6]
 exact ⟨r6, by simp; omega⟩
theorem l1Pick_f {b l : List Int} {p v : Int} (hb : Bytes b) (hp : 0 ≤ p) (hp2 : p ≤ 999990) (hl : l.length ≤ 1000) : ∃ r, spec_l1Pick.f 1002 b p l v = some (r, p + 1) := by
 unfold spec_l1Pick.f
 obtain ⟨a, e1, h0, h1⟩ := pick_f (k := 1002) (n := (l.length : Int)) (by decide) hb hp (by omega)
 rw [e1]
 simp only [Option.bind_some]
 have key : ∀ d (i : Nat) (k : Nat), l.length - i = d → i ≤ l.length → d < k → ∃ r, spec_l1Pick.l0 k l v a (i : Int) b (p + 1) = some (r, p + 1) := by
  intro d
  induction d with
  | zero =>
   intro i k hd hi hk
   obtain ⟨k, rfl⟩ : ∃ m, k = m + 1 := ⟨k - 1, by omega⟩
   simp only [spec_l1Pick.l0]
   rw [if_neg (by omega)]
   exact ⟨_, rfl⟩
  | succ d ih =>
   intro i k hd hi hk
   obtain ⟨k, rfl⟩ : ∃ m, k = m + 1 := ⟨k - 1, by omega⟩
   have h1 := h1 (by omega)
   have e2 : wrap64 (a + (i : Int)) = a + (i : Int) := wrap_id (by omega) (by omega)
   have h3 := tmod_in (show 0 ≤ a + (i : Int) by omega) (show 1 ≤ (l.length : Int) by omega)
   simp only [spec_l1Pick.l0]
   rw [if_pos (by omega), if_neg (by omega), e2, if_pos h3.1, if_pos h3.2, wrap_id (x := (i : Int) + 1) (by omega) (by omega)]
   split
   ·exact ⟨_, rfl⟩
   ·exact ih (i + 1) k (by omega) (by omega) (by omega)
 exact key l.length 0 1002 (by omega) (by omega) (by omega)
theorem l2Cond_f {b : List Int} {p a0 a1 a2 v : Int} (hb : Bytes b) (hp : 0 ≤ p) (hp2 : p ≤ 999990) : ∃ r, spec_l2Cond.f 1 b p a0 a1 a2 v = some (r, p + 3) ∧ r.length ≤ 4 := by
 unfold spec_l2Cond.f
 obtain ⟨r1, e1, _⟩ := pick_f (k := 1) (n := wrap64 ((wrap64 (a1 - a0)) + 1)) (by decide) hb hp (by omega)
 obtain ⟨r2, e2, _⟩ := num_f (k := 1) (l := [6, 5, 5, 6]) (by decide) hb (p := p + 1) (by omega) (by omega) (by simp)
 obtain ⟨r3, e3, _⟩ := pick_f (k := 1) (n := 3) (by decide) hb (p := p + 1 + 1) (by omega) (by omega)
 rw [e1]
 simp only [Option.bind_some]
 rw [e2]
 simp only [Option.bind_some, spec_l2VarOf.f, spec_l2Const.f]
 rw [e3]
 simp only [Option.bind_some]
 have e4 : p + 1 + 1 + 1 = p + 3 := by omega
 rw [e4]
 split
 ·exact ⟨_, rfl, by simp⟩
 ·exact ⟨_, rfl, by simp⟩

end Go.Proofs.Ytnidjlhbejifoaa.XFnSameRun
