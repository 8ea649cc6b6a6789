/- What impl.SameRun, spec.SameRun, impl.LassoAt and wcInts compute, in plain Lean: the two tell whether two runs that go round agree at all times.
Conditions: each theorem's own. -/
import Derived.Test.YtnidjlhbejifoaaXFnSameRunx11
import Derived.Test.YtnidjlhbejifoaaRP
namespace Go.Proofs.Ytnidjlhbejifoaa.XFnSameRun
open Go.RowKit Go.Proofs.YtnidjlhbejifoaaW.PrintWords Go.Proofs.YtnidjlhbejifoaaW.PrintLast Go.Proofs.YtnidjlhbejifoaaW.PrintMore Go.Proofs.YtnidjlhbejifoaaX
set_option linter.unusedVariables false
set_option linter.unusedSimpArgs false
theorem rdL_nat (xs : List (List Int)) (i : Nat) : rd_L5 xs (i : Int) = xs.getD i [] := by simp [rd_L5]

theorem slEqual_f {k : Nat} {a b : List Int} (hk : a.length < k) (hm : a.length ≤ 35184372088832) : slices_Equal_int_int.f k a b = some (decide (a = b)) := by
 unfold slices_Equal_int_int.f
 by_cases hab : a.length = b.length
 ·rw [if_pos (by omega)]
  refine run_inv (fun k (_ : Unit) i => slices_Equal_int_int.l0 k a b (a.length : Int) (i : Int)) a.length (fun i _ => ∀ j, j < i → a.getD j 0 = b.getD j 0) _ ?_ ?_ k 0 () (Nat.zero_le _) (by omega) (fun j hj => absurd hj (Nat.not_lt_zero j))
  ·intro k i _ hi hs
   by_cases e : a.getD i 0 = b.getD i 0
   ·refine Or.inr ⟨(), ?_, fun j hj => ?_⟩
    ·simp only [slices_Equal_int_int.l0]
     rw [if_pos (by omega), if_pos (by omega), if_pos (by omega), if_pos (by omega), rd_nat, rd_nat, if_pos e, wrap_id (by omega) (by omega)]
     rfl
    ·by_cases e2 : j = i
     ·rw [e2]; exact e
     ·exact hs j (by omega)
   ·refine Or.inl ?_
    simp only [slices_Equal_int_int.l0]
    rw [if_pos (by omega), if_pos (by omega), if_pos (by omega), if_pos (by omega), rd_nat, rd_nat, if_neg e, decide_eq_false (fun h => e (by rw [h]))]
  ·intro k _ hs
   simp only [slices_Equal_int_int.l0]
   rw [if_neg (by omega), decide_eq_true (ext_getD hab (fun j hj => hs j (by omega)))]
 ·rw [if_neg (by omega), decide_eq_false (fun h => hab (by rw [h]))]

theorem wcInts_f {k : Nat} {a b : List Int} (hk : a.length < k) (hm : a.length ≤ 35184372088832) : laws_wcInts.f k a b = some (decide (a = b)) := by
 unfold laws_wcInts.f
 by_cases hab : a.length = b.length
 ·rw [if_pos (by omega)]
  refine run_inv (fun k (_ : Unit) i => laws_wcInts.l0 k b a (a.length : Int) (i : Int)) a.length (fun i _ => ∀ j, j < i → a.getD j 0 = b.getD j 0) _ ?_ ?_ k 0 () (Nat.zero_le _) (by omega) (fun j hj => absurd hj (Nat.not_lt_zero j))
  ·intro k i _ hi hs
   by_cases e : b.getD i 0 = a.getD i 0
   ·refine Or.inr ⟨(), ?_, fun j hj => ?_⟩
    ·simp only [laws_wcInts.l0]
     rw [if_pos (by omega), if_pos (by omega), if_pos (by omega), if_pos (by omega), rd_nat, rd_nat, if_pos e, wrap_id (by omega) (by omega)]
     rfl
    ·by_cases e2 : j = i
     ·rw [e2]; exact e.symm
     ·exact hs j (by omega)
   ·refine Or.inl ?_
    simp only [laws_wcInts.l0]
    rw [if_pos (by omega), if_pos (by omega), if_pos (by omega), if_pos (by omega), rd_nat, rd_nat, if_neg e, decide_eq_false (fun h => e (by rw [h]))]
  ·intro k _ hs
   simp only [laws_wcInts.l0]
   rw [if_neg (by omega), decide_eq_true (ext_getD hab (fun j hj => hs j (by omega)))]
 ·rw [if_neg (by omega), decide_eq_false (fun h => hab (by rw [h]))]

/-- The state at a time of a run that goes round a loop. -/
def atL (s l : List (List Int)) (i : Nat) : List Int := if i < s.length then s.getD i [] else l.getD ((i - s.length) % l.length) []
def loopOK (s l : List (List Int)) : Bool := if (l.length : Int) > 0 then decide (wrap64 ((s.length : Int) + (l.length : Int)) ≤ 500) else false
theorem loop_bounds {s l : List (List Int)} (h : loopOK s l = true) (hs : s.length ≤ 1048576) (hl : l.length ≤ 1048576) : 0 < l.length ∧ s.length + l.length ≤ 500 := by
 unfold loopOK at h
 by_cases e : (l.length : Int) > 0
 ·rw [if_pos e] at h
  have h := of_decide_eq_true h
  rw [wrap_id (by omega) (by omega)] at h
  omega
 ·rw [if_neg e] at h
  cases h
theorem l3At_f {s l : List (List Int)} {i : Nat} (hl : 0 < l.length) (hi : i ≤ 1048576) (hs : s.length ≤ 1048576) : spec_l3At.f s l (i : Int) = some (atL s l i) := by
 unfold spec_l3At.f atL
 by_cases h : i < s.length
 ·rw [if_pos (by omega), if_pos (by omega), if_pos h, rdL_nat]
 ·have e1 : wrap64 ((i : Int) - (s.length : Int)) = ((i - s.length : Nat) : Int) := by rw [wrap_id (by omega) (by omega)]; omega
  have e2 : Int.tmod ((i - s.length : Nat) : Int) (l.length : Int) = (((i - s.length) % l.length : Nat) : Int) := by rw [Int.tmod_eq_emod_of_nonneg (by omega)]; exact (Int.natCast_emod _ _).symm
  have e3 := Nat.mod_lt (i - s.length) hl
  rw [if_neg (by omega), if_neg (by omega), e1, e2, if_pos (by omega), if_pos (by omega), if_neg h, rdL_nat]
theorem lassoAt_f {s l : List (List Int)} {i : Nat} (hl : 0 < l.length) (hi : i ≤ 1048576) (hs : s.length ≤ 1048576) : impl_lassoAt.f s l (i : Int) = some (atL s l i) := by
 unfold impl_lassoAt.f atL
 by_cases h : i < s.length
 ·rw [if_pos (by omega), if_pos (by omega), if_pos h, rdL_nat]
 ·have e1 : wrap64 ((i : Int) - (s.length : Int)) = ((i - s.length : Nat) : Int) := by rw [wrap_id (by omega) (by omega)]; omega
  have e2 : Int.tmod ((i - s.length : Nat) : Int) (l.length : Int) = (((i - s.length) % l.length : Nat) : Int) := by rw [Int.tmod_eq_emod_of_nonneg (by omega)]; exact (Int.natCast_emod _ _).symm
  have e3 := Nat.mod_lt (i - s.length) hl
  rw [if_neg (by omega), if_neg (by omega), e1, e2, if_pos (by omega), if_pos (by omega), if_neg h, rdL_nat]
theorem gcd_f : ∀ (b a k : Nat), b < k → spec_l3Gcd.l0 k (a : Int) (b : Int) = some ((Nat.gcd a b : Nat) : Int) := by
 intro b
 induction b using Nat.strongRecOn with
 | ind b ih =>
  intro a k hk
  obtain ⟨k, rfl⟩ : ∃ m, k = m + 1 := ⟨k - 1, by omega⟩
  simp only [spec_l3Gcd.l0]
  by_cases h : b = 0
  ·subst h
   rw [if_neg (by omega), Nat.gcd_zero_right]
  ·have hm := Nat.mod_lt a (Nat.pos_of_ne_zero h)
   have e2 : Int.tmod (a : Int) (b : Int) = ((a % b : Nat) : Int) := by rw [Int.tmod_eq_emod_of_nonneg (by omega)]; exact (Int.natCast_emod _ _).symm
   rw [if_pos (by omega), if_neg (by omega), e2, ih (a % b) hm b k (by omega), Nat.gcd_comm a b, Nat.gcd_rec b a, Nat.gcd_comm]
theorem atL_period {s l : List (List Int)} {i m : Nat} (hi : s.length ≤ i) (hm : l.length ∣ m) : atL s l (i + m) = atL s l i := by
 unfold atL
 obtain ⟨q, rfl⟩ := hm
 rw [if_neg (by omega), if_neg (by omega), show i + l.length * q - s.length = (i - s.length) + l.length * q from by omega, Nat.add_mul_mod_self_left]
/-- Runs that agree as far as their starts and one common turn agree everywhere. -/
theorem agree_all {s l s' l' : List (List Int)} {m p : Nat} (hs : s.length ≤ m) (hs' : s'.length ≤ m) (hp : 0 < p) (h1 : l.length ∣ p) (h2 : l'.length ∣ p)
  (h : ∀ i, i < m + p → atL s l i = atL s' l' i) : ∀ i, atL s l i = atL s' l' i := by
 intro i
 induction i using Nat.strongRecOn with
 | ind i ih =>
  by_cases hi : i < m + p
  ·exact h i hi
  ·have h3 := atL_period (s := s) (l := l) (i := i - p) (m := p) (by omega) h1
   have h4 := atL_period (s := s') (l := l') (i := i - p) (m := p) (by omega) h2
   rw [show i - p + p = i from by omega] at h3 h4
   rw [h3, h4]
   exact ih (i - p) (by omega)
def runR (s l s' l' : List (List Int)) : Bool := loopOK s l && (loopOK s' l' && decide (∀ i : Nat, i < max s.length s'.length + l.length * l'.length → atL s l i = atL s' l' i))
theorem at_len {s l : List (List Int)} (hs : ∀ x ∈ s, x.length ≤ 1048576) (hl : ∀ x ∈ l, x.length ≤ 1048576) (i : Nat) (h0 : 0 < l.length) : (atL s l i).length ≤ 1048576 := by
 unfold atL
 split
 ·rename_i h
  exact hs _ (getD_mem s i [] h)
 ·exact hl _ (getD_mem l _ [] (Nat.mod_lt _ h0))
theorem impl_run {k : Nat} {s l s' l' : List (List Int)} (hk : 2000000 < k) (b1 : s.length ≤ 1048576) (b2 : l.length ≤ 1048576) (b3 : s'.length ≤ 1048576) (b4 : l'.length ≤ 1048576)
  (x1 : ∀ x ∈ s, x.length ≤ 1048576) (x2 : ∀ x ∈ l, x.length ≤ 1048576) (x3 : ∀ x ∈ s', x.length ≤ 1048576) (x4 : ∀ x ∈ l', x.length ≤ 1048576) : impl_SameRun.f k s l s' l' = some (runR s l s' l') := by
 have hok : ∀ a b, impl_lassoOk.f a b = some (loopOK a b) := by
  intro a b
  unfold impl_lassoOk.f loopOK
  split <;> rfl
 unfold impl_SameRun.f runR
 obtain ⟨k, rfl⟩ : ∃ m, k = m + 1 := ⟨k - 1, by omega⟩
 rw [hok, hok]
 simp only [Option.bind_some, impl_SameRun.j0]
 cases hA : loopOK s l
 ·rfl
 ·cases hB : loopOK s' l'
  ·rfl
  ·have hA' := loop_bounds hA b1 b2
   have hB' := loop_bounds hB b3 b4
   simp only [if_true, Bool.not_true, Bool.false_eq_true, if_false, Bool.true_and]
   have hmul : l.length * l'.length ≤ 500 * 500 := Nat.mul_le_mul (by omega) (by omega)
   have e1 : mx (s.length : Int) (s'.length : Int) = ((max s.length s'.length : Nat) : Int) := by rw [mx_eq]; omega
   have e2 : (l.length : Int) * (l'.length : Int) = ((l.length * l'.length : Nat) : Int) := by simp
   rw [e1, e2, wrap_id (x := ((l.length * l'.length : Nat) : Int)) (by omega) (by omega), wrap_id (by omega) (by omega), show ((max s.length s'.length : Nat) : Int) + ((l.length * l'.length : Nat) : Int) = ((max s.length s'.length + l.length * l'.length : Nat) : Int) from by omega]
   have hmx : max s.length s'.length ≤ 500 := by omega
   have hnb : max s.length s'.length + l.length * l'.length ≤ 300000 := by omega
   generalize max s.length s'.length + l.length * l'.length = n at hnb ⊢
   refine (run_allB 1048577 (fun k i => impl_SameRun.l0 k s l s' l' (n : Int) (i : Int)) n (fun i => decide (atL s l i = atL s' l' i)) true false ?_ ?_ k ?_).trans ?_
   ·intro k i hB2 hi
    have hi' : i ≤ 1048576 := by omega
    simp only [impl_SameRun.l0]
    rw [if_pos (by omega), lassoAt_f hA'.1 hi' b1, lassoAt_f hB'.1 hi' b3]
    simp only [Option.bind_some]
    have := at_len x1 x2 i hA'.1
    rw [slEqual_f (by omega) (by omega), wrap_id (x := (i : Int) + 1) (by omega) (by omega)]
    simp only [Option.bind_some]
    rfl
   ·intro k _
    simp only [impl_SameRun.l0]
    rw [if_neg (by omega)]
   ·omega
   ·by_cases hall : ∀ i : Nat, i < n → atL s l i = atL s' l' i
    ·rw [if_pos (fun j hj => decide_eq_true (hall j hj)), decide_eq_true hall]
    ·rw [if_neg (fun hx => hall (fun j hj => of_decide_eq_true (hx j hj))), decide_eq_false hall]
theorem spec_run {k : Nat} {s l s' l' : List (List Int)} (hk : 2000000 < k) (b1 : s.length ≤ 1048576) (b2 : l.length ≤ 1048576) (b3 : s'.length ≤ 1048576) (b4 : l'.length ≤ 1048576)
  (x1 : ∀ x ∈ s, x.length ≤ 1048576) (x2 : ∀ x ∈ l, x.length ≤ 1048576) (x3 : ∀ x ∈ s', x.length ≤ 1048576) (x4 : ∀ x ∈ l', x.length ≤ 1048576) : spec_SameRun.f k s l s' l' = some (runR s l s' l') := by
 have hok : ∀ a b, spec_l3Loop.f a b = some (loopOK a b) := by
  intro a b
  unfold spec_l3Loop.f loopOK
  split <;> rfl
 unfold spec_SameRun.f runR
 obtain ⟨k, rfl⟩ : ∃ m, k = m + 2 := ⟨k - 2, by omega⟩
 rw [hok, hok]
 simp only [Option.bind_some, spec_SameRun.j0]
 cases hA : loopOK s l
 ·rfl
 ·cases hB : loopOK s' l'
  ·rfl
  ·have hA' := loop_bounds hA b1 b2
   have hB' := loop_bounds hB b3 b4
   simp only [if_true, Bool.not_true, Bool.false_eq_true, if_false, Bool.true_and]
   have hg := Nat.gcd_pos_of_pos_left l'.length hA'.1
   have hgl : Nat.gcd l.length l'.length ∣ l.length := Nat.gcd_dvd_left _ _
   have hgl2 : Nat.gcd l.length l'.length ∣ l'.length := Nat.gcd_dvd_right _ _
   have d2 : l'.length ∣ l.length / Nat.gcd l.length l'.length * l'.length := ⟨l.length / Nat.gcd l.length l'.length, Nat.mul_comm _ _⟩
   have d1 : l.length ∣ l.length / Nat.gcd l.length l'.length * l'.length := by
    rw [Nat.div_mul_right_comm hgl, Nat.mul_div_assoc _ hgl2]
    exact ⟨_, rfl⟩
   have hle : l.length / Nat.gcd l.length l'.length * l'.length ≤ l.length * l'.length := Nat.mul_le_mul_right _ (Nat.div_le_self _ _)
   have hpos : 0 < l.length / Nat.gcd l.length l'.length * l'.length := Nat.mul_pos (Nat.div_pos (Nat.le_of_dvd hA'.1 hgl) hg) hB'.1
   have hmul : l.length * l'.length ≤ 500 * 500 := Nat.mul_le_mul (by omega) (by omega)
   have hdle : l.length / Nat.gcd l.length l'.length ≤ l.length := Nat.div_le_self _ _
   have hm : (if (s'.length : Int) > (s.length : Int) then spec_SameRun.j1 (k + 1) s l s' l' (s'.length : Int) else spec_SameRun.j1 (k + 1) s l s' l' (s.length : Int)) = spec_SameRun.j1 (k + 1) s l s' l' ((max s.length s'.length : Nat) : Int) := by
    by_cases e : (s'.length : Int) > (s.length : Int)
    ·rw [if_pos e, show max s.length s'.length = s'.length from by omega]
    ·rw [if_neg e, show max s.length s'.length = s.length from by omega]
   rw [hm]
   simp only [spec_SameRun.j1, spec_l3Gcd.f]
   rw [gcd_f l'.length l.length k (by omega)]
   simp only [Option.bind_some]
   have e3 : (l.length : Int) / ((Nat.gcd l.length l'.length : Nat) : Int) = ((l.length / Nat.gcd l.length l'.length : Nat) : Int) := (Int.natCast_ediv _ _).symm
   have hg0 : ¬ ((Nat.gcd l.length l'.length : Nat) : Int) = 0 := by omega
   rw [if_neg hg0, e3]
   clear e3 hg0 hgl hgl2 hg
   generalize l.length / Nat.gcd l.length l'.length = D at d1 d2 hle hpos hdle ⊢
   rw [wrap_id (x := (D : Int)) (by omega) (by omega), ← Int.natCast_mul, wrap_id (x := ((D * l'.length : Nat) : Int)) (by omega) (by omega), ← Int.natCast_add, wrap_id (by omega) (by omega)]
   have hiff : (∀ i : Nat, i < max s.length s'.length + l.length * l'.length → atL s l i = atL s' l' i) ↔ (∀ i : Nat, i < max s.length s'.length + D * l'.length → atL s l i = atL s' l' i) := by
    constructor
    ·intro h i hi
     exact h i (by omega)
    ·intro h i _
     exact agree_all (Nat.le_max_left _ _) (Nat.le_max_right _ _) hpos d1 d2 h i
   have hde : decide (∀ i : Nat, i < max s.length s'.length + l.length * l'.length → atL s l i = atL s' l' i) = decide (∀ i : Nat, i < max s.length s'.length + D * l'.length → atL s l i = atL s' l' i) := by
    by_cases g : ∀ i : Nat, i < max s.length s'.length + D * l'.length → atL s l i = atL s' l' i
    ·rw [decide_eq_true g, decide_eq_true (hiff.2 g)]
    ·rw [decide_eq_false g, decide_eq_false (fun g' => g (hiff.1 g'))]
   rw [hde]
   clear hde
   have hmx : max s.length s'.length ≤ 500 := by omega
   have hnb : max s.length s'.length + D * l'.length ≤ 300000 := by omega
   clear hm
   generalize max s.length s'.length + D * l'.length = n at hnb ⊢
   refine (run_allB 1048577 (fun k i => spec_SameRun.l0 k s l s' l' (n : Int) (i : Int)) n (fun i => decide (atL s l i = atL s' l' i)) true false ?_ ?_ k ?_).trans ?_
   ·intro k i hB2 hi
    have hi' : i ≤ 1048576 := by omega
    simp only [spec_SameRun.l0]
    rw [if_pos (by omega), l3At_f hA'.1 hi' b1, l3At_f hB'.1 hi' b3]
    simp only [Option.bind_some]
    have := at_len x1 x2 i hA'.1
    rw [l2Same_f (by omega) (by omega), wrap_id (x := (i : Int) + 1) (by omega) (by omega)]
    simp only [Option.bind_some]
    rfl
   ·intro k _
    simp only [spec_SameRun.l0]
    rw [if_neg (by omega)]
   ·omega
   ·by_cases hall : ∀ i : Nat, i < n → atL s l i = atL s' l' i
    ·rw [if_pos (fun j hj => decide_eq_true (hall j hj)), decide_eq_true hall]
    ·rw [if_neg (fun hx => hall (fun j hj => of_decide_eq_true (hx j hj))), decide_eq_false hall]


theorem loopOK_of {s l : List (List Int)} (h0 : 0 < l.length) (h1 : s.length + l.length ≤ 500) : loopOK s l = true := by
 unfold loopOK
 rw [if_pos (by omega), wrap_id (by omega) (by omega)]
 exact decide_eq_true (by omega)
theorem lassoAtX_f {s l : List (List Int)} {i : Nat} (hl : 0 < l.length) (hs : s.length + l.length ≤ 500) (hi : i ≤ 1048576) (x1 : ∀ x ∈ s, x.length ≤ 1048576) (x2 : ∀ x ∈ l, x.length ≤ 1048576) : impl_LassoAt.f 2 s l (i : Int) = some (atL s l i) := by
 have hc : impl_lassoOk.f s l = some (loopOK s l) := by
  unfold impl_lassoOk.f loopOK
  split <;> rfl
 have := at_len x1 x2 i hl
 unfold impl_LassoAt.f
 rw [hc, loopOK_of hl hs, decide_eq_false (show ¬ (i : Int) < 0 by omega)]
 simp only [Option.bind_some, if_true, Bool.not_true, impl_LassoAt.j0, Bool.false_eq_true, if_false, lassoAt_f hl hi (show s.length ≤ 1048576 by omega)]
 unfold impl_clone_int.f
 rw [if_pos (by omega)]
 rfl
/-- Where the two runs are told to be the same, they are at each time. -/
theorem runR_at {s l s' l' : List (List Int)} (h : runR s l s' l' = true) (h1 : 0 < l.length) (h2 : 0 < l'.length) (i : Nat) : atL s l i = atL s' l' i := by
 unfold runR at h
 simp only [Bool.and_eq_true, decide_eq_true_eq] at h
 exact agree_all (Nat.le_max_left _ _) (Nat.le_max_right _ _) (Nat.mul_pos h1 h2) ⟨l'.length, rfl⟩ ⟨l.length, Nat.mul_comm _ _⟩ h.2.2 i
theorem runR_pos {s l s' l' : List (List Int)} (h : runR s l s' l' = true) : 0 < l.length ∧ 0 < l'.length := by
 unfold runR at h
 simp only [Bool.and_eq_true] at h
 have key : ∀ a b : List (List Int), loopOK a b = true → 0 < b.length := by
  intro a b hb
  unfold loopOK at hb
  split at hb
  ·omega
  ·cases hb
 exact ⟨key _ _ h.1, key _ _ h.2.1⟩

end Go.Proofs.Ytnidjlhbejifoaa.XFnSameRun
