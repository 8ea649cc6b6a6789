/- The law on SameRun holds for all arguments: the program tells what the reference tells, and leaves its arguments as they were. The program looks as far as the product of the two loops' lengths, the reference as far as their least common multiple: both tell whether the two runs agree everywhere.
Conditions: none. -/
import Derived.Test.YtbjkjoicecmmpabXFnExactSameRunx4
import Derived.Test.YtbjkjoicecmmpabXLib2
namespace Go.Proofs.Ytbjkjoicecmmpab.Pure
open Go.RowKit Go.Proofs.Ytbjkjoicecmmpab.XFnExactSameRun Go.Proofs.YtbjkjoicecmmpabW.PrintWords Go.Proofs.YtbjkjoicecmmpabW.PrintLast Go.Proofs.YtbjkjoicecmmpabW.PrintMore Go.Proofs.YtbjkjoicecmmpabX
set_option linter.unusedVariables false
set_option linter.unusedSimpArgs false

theorem rdL_nat (xs : List (List Int)) (i : Nat) : rd_L1 xs (i : Int) = xs.getD i [] := by
  unfold rd_L1
  simp

/-- How many numbers all rows hold. -/
def total (l : List (List Int)) : Nat := (l.map List.length).sum
theorem total_take (l : List (List Int)) (i : Nat) (h : i < l.length) : total (l.take (i + 1)) = total (l.take i) + (l.getD i []).length := by
  unfold total
  rw [take_succ_getD l i [] h, List.map_append, List.sum_append]
  simp
theorem total_le (l : List (List Int)) (i : Nat) : total (l.take i) ≤ total l := by
  have h : total l = total (l.take i) + total (l.drop i) := by
    unfold total
    rw [← List.sum_append, ← List.map_append, List.take_append_drop]
  omega
theorem total_mem {l : List (List Int)} {x : List Int} (h : x ∈ l) : x.length ≤ total l := by
  unfold total
  induction l with
  | nil => cases h
  | cons y l ih =>
    simp only [List.map_cons, List.sum_cons]
    rcases List.mem_cons.1 h with rfl | h
    · omega
    · have := ih h
      omega

theorem szIntS_f {l : List Int} {a : Int} (h0 : 0 ≤ a) (h1 : a ≤ 1048576) (hl : l.length ≤ 9223372036854775807) : laws_szIntS.f l a = some (if a - (l.length : Int) < 0 then -1 else a - (l.length : Int)) := by
  unfold laws_szIntS.f
  rw [wrap_id (by omega) (by omega)]
  by_cases h : a - (l.length : Int) < 0
  · rw [if_pos h, if_pos h]
  · rw [if_neg h, if_neg h]
theorem szIntSS_f {k : Nat} {l : List (List Int)} {a : Int} (hk : 1048577 < k) (h0 : 0 ≤ a) (h1 : a ≤ 1048576) (hl : l.length ≤ 9223372036854775807) (hx : ∀ x ∈ l, x.length ≤ 9223372036854775807) :
    ∃ r, laws_szIntSS.f k l a = some r ∧ (0 ≤ r → r = a - (l.length : Int) - (total l : Int)) := by
  unfold laws_szIntSS.f
  rw [wrap_id (by omega) (by omega)]
  by_cases h : a - (l.length : Int) < 0
  · exact ⟨-1, by rw [if_pos h], fun g => absurd g (by omega)⟩
  · rw [if_neg h]
    refine ⟨if a - (l.length : Int) - (total l : Int) < 0 then -1 else a - (l.length : Int) - (total l : Int), ?_, ?_⟩
    · refine run_inv (fun k (s : Int) i => laws_szIntSS.l0 k l s (i : Int)) l.length (fun i s => s = a - (l.length : Int) - (total (l.take i) : Int) ∧ 0 ≤ s) _ ?_ ?_ k 0 _ (Nat.zero_le _) (by omega) ⟨by simp [total], by omega⟩
      · rintro k i s hi ⟨rfl, hs⟩
        have ht := total_take l i hi
        have hle := total_le l (i + 1)
        have hlen := hx _ (getD_mem l i [] hi)
        simp only [laws_szIntSS.l0]
        rw [if_pos (by omega), if_pos (by omega), rdL_nat, szIntS_f hs (by omega) hlen, wrap_id (x := (i : Int) + 1) (by omega) (by omega)]
        simp only [Option.bind_some]
        by_cases hneg : a - (l.length : Int) - (total (l.take i) : Int) - ((l.getD i []).length : Int) < 0
        · refine Or.inl ?_
          rw [if_pos (show (if a - (l.length : Int) - (total (l.take i) : Int) - ((l.getD i []).length : Int) < 0 then (-1 : Int) else _) < 0 by rw [if_pos hneg]; omega), if_pos (by omega)]
        · refine Or.inr ⟨a - (l.length : Int) - (total (l.take i) : Int) - ((l.getD i []).length : Int), ?_, ?_⟩
          · simp only [if_neg hneg]
            rfl
          · rw [ht]
            exact ⟨by simp only [Int.natCast_add]; omega, by omega⟩
      · rintro k s ⟨rfl, hs⟩
        simp only [laws_szIntSS.l0]
        rw [if_neg (by omega)]
        rw [List.take_length] at hs ⊢
        rw [if_neg (by omega)]
    · intro g
      by_cases hneg : a - (l.length : Int) - (total l : Int) < 0
      · rw [if_pos hneg] at g
        omega
      · rw [if_neg hneg]

theorem toIntS_f {k : Nat} {l : List Int} (hk : l.length < k) (hm : l.length ≤ 35184372088832) : laws_toIntS.f k l = some l := by
  unfold laws_toIntS.f
  rw [if_pos (by omega), if_pos (by omega)]
  refine run_inv (fun k (s : List Int) i => laws_toIntS.l0 k l s (i : Int)) l.length (fun i s => s.length = l.length ∧ ∀ j, j < i → s.getD j 0 = l.getD j 0) l ?_ ?_ k 0 _ (Nat.zero_le _) (by omega) ⟨by simp, fun j hj => absurd hj (Nat.not_lt_zero j)⟩
  · intro k i s hi ⟨hl, hs⟩
    refine Or.inr ⟨s.set i (l.getD i 0), ?_, by simpa using hl, fun j hj => ?_⟩
    · simp only [laws_toIntS.l0]
      rw [if_pos (by omega), if_pos (by omega), if_pos (by omega), wrap_id (by omega) (by omega), rd_nat]
      rfl
    · rw [getD_set _ _ _ _ _ (by omega)]
      by_cases e : j = i
      · rw [if_pos e, e]
      · rw [if_neg e]
        exact hs j (by omega)
  · intro k s ⟨hl, hs⟩
    simp only [laws_toIntS.l0]
    rw [if_neg (by omega), ext_getD hl hs]

theorem toIntSS_f {k : Nat} {l : List (List Int)} (hk : 2100000 < k) (hl : l.length ≤ 1048576) (hx : ∀ x ∈ l, x.length ≤ 1048576) : laws_toIntSS.f k l = some l := by
  unfold laws_toIntSS.f
  rw [if_pos (by omega), if_pos (by omega)]
  refine run_invB 1048577 (fun k (s : List (List Int)) i => laws_toIntSS.l0 k l s (i : Int)) l.length (fun i s => s.length = l.length ∧ ∀ j, j < i → s.getD j [] = l.getD j []) _ ?_ ?_ k 0 _ (Nat.zero_le _) (by omega) ⟨by simp, fun j hj => absurd hj (Nat.not_lt_zero j)⟩
  · intro k i s hB hi ⟨hl2, hs⟩
    have hlen := hx _ (getD_mem l i [] hi)
    refine Or.inr ⟨s.set i (l.getD i []), ?_, by simpa using hl2, fun j hj => ?_⟩
    · simp only [laws_toIntSS.l0]
      rw [if_pos (by omega), if_pos (by omega), rdL_nat, toIntS_f (by omega) (by omega)]
      simp only [Option.bind_some]
      rw [if_pos (by omega), wrap_id (by omega) (by omega)]
      rfl
    · rw [getD_set _ _ _ _ _ (by omega)]
      by_cases e : j = i
      · rw [if_pos e, e]
      · rw [if_neg e]
        exact hs j (by omega)
  · intro k s _ ⟨hl2, hs⟩
    simp only [laws_toIntSS.l0]
    rw [if_neg (by omega), ext_getD (d := ([] : List Int)) hl2 hs]

theorem eqIntS_f {k : Nat} {a b : List Int} (hk : a.length < k) (hm : a.length ≤ 35184372088832) : laws_eqIntS.f k a b = some (decide (a = b)) := by
  unfold laws_eqIntS.f
  by_cases hab : a.length = b.length
  · rw [if_pos (by omega)]
    refine run_inv (fun k (_ : Unit) i => laws_eqIntS.l0 k a b (i : Int)) a.length (fun i _ => ∀ j, j < i → a.getD j 0 = b.getD j 0) _ ?_ ?_ k 0 () (Nat.zero_le _) (by omega) (fun j hj => absurd hj (Nat.not_lt_zero j))
    · intro k i _ hi hs
      by_cases e : a.getD i 0 = b.getD i 0
      · refine Or.inr ⟨(), ?_, fun j hj => ?_⟩
        · simp only [laws_eqIntS.l0]
          rw [if_pos (by omega), if_pos (by omega), if_pos (by omega), rd_nat, rd_nat, if_pos e, wrap_id (by omega) (by omega)]
          rfl
        · by_cases e2 : j = i
          · rw [e2]; exact e
          · exact hs j (by omega)
      · refine Or.inl ?_
        simp only [laws_eqIntS.l0]
        rw [if_pos (by omega), if_pos (by omega), if_pos (by omega), rd_nat, rd_nat, if_neg e, decide_eq_false (fun h => e (by rw [h]))]
    · intro k _ hs
      simp only [laws_eqIntS.l0]
      rw [if_neg (by omega), decide_eq_true (ext_getD hab (fun j hj => hs j (by omega)))]
  · rw [if_neg (by omega), decide_eq_false (fun h => hab (by rw [h]))]

theorem eqIntSS_f {k : Nat} {l : List (List Int)} (hk : 2100000 < k) (hl : l.length ≤ 1048576) (hx : ∀ x ∈ l, x.length ≤ 1048576) : laws_eqIntSS.f k l l = some true := by
  unfold laws_eqIntSS.f
  rw [if_pos rfl]
  refine run_invB 1048577 (fun k (_ : Unit) i => laws_eqIntSS.l0 k l l (i : Int)) l.length (fun _ _ => True) _ ?_ ?_ k 0 () (Nat.zero_le _) (by omega) trivial
  · intro k i _ hB hi _
    have hlen := hx _ (getD_mem l i [] hi)
    refine Or.inr ⟨(), ?_, trivial⟩
    simp only [laws_eqIntSS.l0]
    rw [if_pos (by omega), if_pos (by omega), if_pos (by omega), rdL_nat, eqIntS_f (by omega) (by omega), wrap_id (by omega) (by omega)]
    simp
  · intro k _ _ _
    simp only [laws_eqIntSS.l0]
    rw [if_neg (by omega)]

theorem l2Same_f {k : Nat} {a b : List Int} (hk : a.length < k) (hm : a.length ≤ 35184372088832) : spec_l2Same.f k a b = some (decide (a = b)) := by
  unfold spec_l2Same.f
  by_cases hab : a.length = b.length
  · rw [if_pos (by omega)]
    refine run_inv (fun k (_ : Unit) i => spec_l2Same.l0 k a b (i : Int)) a.length (fun i _ => ∀ j, j < i → a.getD j 0 = b.getD j 0) _ ?_ ?_ k 0 () (Nat.zero_le _) (by omega) (fun j hj => absurd hj (Nat.not_lt_zero j))
    · intro k i _ hi hs
      by_cases e : a.getD i 0 = b.getD i 0
      · refine Or.inr ⟨(), ?_, fun j hj => ?_⟩
        · simp only [spec_l2Same.l0]
          rw [if_pos (by omega), if_pos (by omega), if_pos (by omega), rd_nat, rd_nat, if_pos e, wrap_id (by omega) (by omega)]
          rfl
        · by_cases e2 : j = i
          · rw [e2]; exact e
          · exact hs j (by omega)
      · refine Or.inl ?_
        simp only [spec_l2Same.l0]
        rw [if_pos (by omega), if_pos (by omega), if_pos (by omega), rd_nat, rd_nat, if_neg e, decide_eq_false (fun h => e (by rw [h]))]
    · intro k _ hs
      simp only [spec_l2Same.l0]
      rw [if_neg (by omega), decide_eq_true (ext_getD hab (fun j hj => hs j (by omega)))]
  · rw [if_neg (by omega), decide_eq_false (fun h => hab (by rw [h]))]

theorem slEqual_f {k : Nat} {a b : List Int} (hk : a.length < k) (hm : a.length ≤ 35184372088832) : slices_Equal_int_int.f k a b = some (decide (a = b)) := by
  unfold slices_Equal_int_int.f
  by_cases hab : a.length = b.length
  · rw [if_pos (by omega)]
    refine run_inv (fun k (_ : Unit) i => slices_Equal_int_int.l0 k a b (a.length : Int) (i : Int)) a.length (fun i _ => ∀ j, j < i → a.getD j 0 = b.getD j 0) _ ?_ ?_ k 0 () (Nat.zero_le _) (by omega) (fun j hj => absurd hj (Nat.not_lt_zero j))
    · intro k i _ hi hs
      by_cases e : a.getD i 0 = b.getD i 0
      · refine Or.inr ⟨(), ?_, fun j hj => ?_⟩
        · simp only [slices_Equal_int_int.l0]
          rw [if_pos (by omega), if_pos (by omega), if_pos (by omega), if_pos (by omega), rd_nat, rd_nat, if_pos e, wrap_id (by omega) (by omega)]
          rfl
        · by_cases e2 : j = i
          · rw [e2]; exact e
          · exact hs j (by omega)
      · refine Or.inl ?_
        simp only [slices_Equal_int_int.l0]
        rw [if_pos (by omega), if_pos (by omega), if_pos (by omega), if_pos (by omega), rd_nat, rd_nat, if_neg e, decide_eq_false (fun h => e (by rw [h]))]
    · intro k _ hs
      simp only [slices_Equal_int_int.l0]
      rw [if_neg (by omega), decide_eq_true (ext_getD hab (fun j hj => hs j (by omega)))]
  · rw [if_neg (by omega), decide_eq_false (fun h => hab (by rw [h]))]

/-- The state at a time of a run that goes round a loop. -/
def atL (s l : List (List Int)) (i : Nat) : List Int := if i < s.length then s.getD i [] else l.getD ((i - s.length) % l.length) []
def loopOK (s l : List (List Int)) : Bool := if (l.length : Int) > 0 then decide (wrap64 ((s.length : Int) + (l.length : Int)) ≤ 500) else false
theorem loop_bounds {s l : List (List Int)} (h : loopOK s l = true) (hs : s.length ≤ 1048576) (hl : l.length ≤ 1048576) : 0 < l.length ∧ s.length + l.length ≤ 500 := by
  unfold loopOK at h
  by_cases e : (l.length : Int) > 0
  · rw [if_pos e] at h
    have h := of_decide_eq_true h
    rw [wrap_id (by omega) (by omega)] at h
    omega
  · rw [if_neg e] at h
    cases h
theorem l3At_f {s l : List (List Int)} {i : Nat} (hl : 0 < l.length) (hi : i ≤ 1048576) (hs : s.length ≤ 1048576) : spec_l3At.f s l (i : Int) = some (atL s l i) := by
  unfold spec_l3At.f atL
  by_cases h : i < s.length
  · rw [if_pos (by omega), if_pos (by omega), if_pos h, rdL_nat]
  · have e1 : wrap64 ((i : Int) - (s.length : Int)) = ((i - s.length : Nat) : Int) := by rw [wrap_id (by omega) (by omega)]; omega
    have e2 : Int.tmod ((i - s.length : Nat) : Int) (l.length : Int) = (((i - s.length) % l.length : Nat) : Int) := by rw [Int.tmod_eq_emod_of_nonneg (by omega)]; exact (Int.natCast_emod _ _).symm
    have e3 := Nat.mod_lt (i - s.length) hl
    rw [if_neg (by omega), if_neg (by omega), e1, e2, if_pos (by omega), if_pos (by omega), if_neg h, rdL_nat]
theorem lassoAt_f {s l : List (List Int)} {i : Nat} (hl : 0 < l.length) (hi : i ≤ 1048576) (hs : s.length ≤ 1048576) : impl_lassoAt.f s l (i : Int) = some (atL s l i) := by
  unfold impl_lassoAt.f atL
  by_cases h : i < s.length
  · rw [if_pos (by omega), if_pos (by omega), if_pos h, rdL_nat]
  · have e1 : wrap64 ((i : Int) - (s.length : Int)) = ((i - s.length : Nat) : Int) := by rw [wrap_id (by omega) (by omega)]; omega
    have e2 : Int.tmod ((i - s.length : Nat) : Int) (l.length : Int) = (((i - s.length) % l.length : Nat) : Int) := by rw [Int.tmod_eq_emod_of_nonneg (by omega)]; exact (Int.natCast_emod _ _).symm
    have e3 := Nat.mod_lt (i - s.length) hl
    rw [if_neg (by omega), if_neg (by omega), e1, e2, if_pos (by omega), if_pos (by omega), if_neg h, rdL_nat]
theorem gcd_f : ∀ (b a k : Nat), b < k → spec_l3Gcd.l0 k (a : Int) (b : Int) = some ((Nat.gcd a b : Nat) : Int) := by
  intro b
  induction b using Nat.strongRecOn with
  | ind b ih =>
    intro a k hk
    obtain ⟨k, rfl⟩ : ∃ m, k = m + 1 := ⟨k - 1, by omega⟩
    simp only [spec_l3Gcd.l0]
    by_cases h : b = 0
    · subst h
      rw [if_neg (by omega), Nat.gcd_zero_right]
    · have hm := Nat.mod_lt a (Nat.pos_of_ne_zero h)
      have e2 : Int.tmod (a : Int) (b : Int) = ((a % b : Nat) : Int) := by rw [Int.tmod_eq_emod_of_nonneg (by omega)]; exact (Int.natCast_emod _ _).symm
      rw [if_pos (by omega), if_neg (by omega), e2, ih (a % b) hm b k (by omega), Nat.gcd_comm a b, Nat.gcd_rec b a, Nat.gcd_comm]
theorem atL_period {s l : List (List Int)} {i m : Nat} (hi : s.length ≤ i) (hm : l.length ∣ m) : atL s l (i + m) = atL s l i := by
  unfold atL
  obtain ⟨q, rfl⟩ := hm
  rw [if_neg (by omega), if_neg (by omega), show i + l.length * q - s.length = (i - s.length) + l.length * q from by omega, Nat.add_mul_mod_self_left]
/-- Runs that agree as far as their starts and one common turn agree everywhere. -/
theorem agree_all {s l s' l' : List (List Int)} {m p : Nat} (hs : s.length ≤ m) (hs' : s'.length ≤ m) (hp : 0 < p) (h1 : l.length ∣ p) (h2 : l'.length ∣ p)
    (h : ∀ i, i < m + p → atL s l i = atL s' l' i) : ∀ i, atL s l i = atL s' l' i := by
  intro i
  induction i using Nat.strongRecOn with
  | ind i ih =>
    by_cases hi : i < m + p
    · exact h i hi
    · have h3 := atL_period (s := s) (l := l) (i := i - p) (m := p) (by omega) h1
      have h4 := atL_period (s := s') (l := l') (i := i - p) (m := p) (by omega) h2
      rw [show i - p + p = i from by omega] at h3 h4
      rw [h3, h4]
      exact ih (i - p) (by omega)
def runR (s l s' l' : List (List Int)) : Bool := loopOK s l && (loopOK s' l' && decide (∀ i : Nat, i < max s.length s'.length + l.length * l'.length → atL s l i = atL s' l' i))
theorem at_len {s l : List (List Int)} (hs : ∀ x ∈ s, x.length ≤ 1048576) (hl : ∀ x ∈ l, x.length ≤ 1048576) (i : Nat) (h0 : 0 < l.length) : (atL s l i).length ≤ 1048576 := by
  unfold atL
  split
  · rename_i h
    exact hs _ (getD_mem s i [] h)
  · exact hl _ (getD_mem l _ [] (Nat.mod_lt _ h0))
theorem impl_run {k : Nat} {s l s' l' : List (List Int)} (hk : 2000000 < k) (b1 : s.length ≤ 1048576) (b2 : l.length ≤ 1048576) (b3 : s'.length ≤ 1048576) (b4 : l'.length ≤ 1048576)
    (x1 : ∀ x ∈ s, x.length ≤ 1048576) (x2 : ∀ x ∈ l, x.length ≤ 1048576) (x3 : ∀ x ∈ s', x.length ≤ 1048576) (x4 : ∀ x ∈ l', x.length ≤ 1048576) : impl_SameRun.f k s l s' l' = some (runR s l s' l') := by
  have hok : ∀ a b, impl_lassoOk.f a b = some (loopOK a b) := by
    intro a b
    unfold impl_lassoOk.f loopOK
    split <;> rfl
  unfold impl_SameRun.f runR
  obtain ⟨k, rfl⟩ : ∃ m, k = m + 1 := ⟨k - 1, by omega⟩
  rw [hok, hok]
  simp only [Option.bind_some, impl_SameRun.j0]
  cases hA : loopOK s l
  · rfl
  · cases hB : loopOK s' l'
    · rfl
    · have hA' := loop_bounds hA b1 b2
      have hB' := loop_bounds hB b3 b4
      simp only [if_true, Bool.not_true, Bool.false_eq_true, if_false, Bool.true_and]
      have hmul : l.length * l'.length ≤ 500 * 500 := Nat.mul_le_mul (by omega) (by omega)
      have e1 : mx (s.length : Int) (s'.length : Int) = ((max s.length s'.length : Nat) : Int) := by rw [mx_eq]; omega
      have e2 : (l.length : Int) * (l'.length : Int) = ((l.length * l'.length : Nat) : Int) := by simp
      rw [e1, e2, wrap_id (x := ((l.length * l'.length : Nat) : Int)) (by omega) (by omega), wrap_id (by omega) (by omega), show ((max s.length s'.length : Nat) : Int) + ((l.length * l'.length : Nat) : Int) = ((max s.length s'.length + l.length * l'.length : Nat) : Int) from by omega]
      have hmx : max s.length s'.length ≤ 500 := by omega
      have hnb : max s.length s'.length + l.length * l'.length ≤ 300000 := by omega
      generalize max s.length s'.length + l.length * l'.length = n at hnb ⊢
      refine (run_allB 1048577 (fun k i => impl_SameRun.l0 k s l s' l' (n : Int) (i : Int)) n (fun i => decide (atL s l i = atL s' l' i)) true false ?_ ?_ k ?_).trans ?_
      · intro k i hB2 hi
        have hi' : i ≤ 1048576 := by omega
        simp only [impl_SameRun.l0]
        rw [if_pos (by omega), lassoAt_f hA'.1 hi' b1, lassoAt_f hB'.1 hi' b3]
        simp only [Option.bind_some]
        have := at_len x1 x2 i hA'.1
        rw [slEqual_f (by omega) (by omega), wrap_id (x := (i : Int) + 1) (by omega) (by omega)]
        simp only [Option.bind_some]
        rfl
      · intro k _
        simp only [impl_SameRun.l0]
        rw [if_neg (by omega)]
      · omega
      · by_cases hall : ∀ i : Nat, i < n → atL s l i = atL s' l' i
        · rw [if_pos (fun j hj => decide_eq_true (hall j hj)), decide_eq_true hall]
        · rw [if_neg (fun hx => hall (fun j hj => of_decide_eq_true (hx j hj))), decide_eq_false hall]
theorem spec_run {k : Nat} {s l s' l' : List (List Int)} (hk : 2000000 < k) (b1 : s.length ≤ 1048576) (b2 : l.length ≤ 1048576) (b3 : s'.length ≤ 1048576) (b4 : l'.length ≤ 1048576)
    (x1 : ∀ x ∈ s, x.length ≤ 1048576) (x2 : ∀ x ∈ l, x.length ≤ 1048576) (x3 : ∀ x ∈ s', x.length ≤ 1048576) (x4 : ∀ x ∈ l', x.length ≤ 1048576) : spec_SameRun.f k s l s' l' = some (runR s l s' l') := by
  have hok : ∀ a b, spec_l3Loop.f a b = some (loopOK a b) := by
    intro a b
    unfold spec_l3Loop.f loopOK
    split <;> rfl
  unfold spec_SameRun.f runR
  obtain ⟨k, rfl⟩ : ∃ m, k = m + 2 := ⟨k - 2, by omega⟩
  rw [hok, hok]
  simp only [Option.bind_some, spec_SameRun.j0]
  cases hA : loopOK s l
  · rfl
  · cases hB : loopOK s' l'
    · rfl
    · have hA' := loop_bounds hA b1 b2
      have hB' := loop_bounds hB b3 b4
      simp only [if_true, Bool.not_true, Bool.false_eq_true, if_false, Bool.true_and]
      have hg := Nat.gcd_pos_of_pos_left l'.length hA'.1
      have hgl : Nat.gcd l.length l'.length ∣ l.length := Nat.gcd_dvd_left _ _
      have hgl2 : Nat.gcd l.length l'.length ∣ l'.length := Nat.gcd_dvd_right _ _
      have d2 : l'.length ∣ l.length / Nat.gcd l.length l'.length * l'.length := ⟨l.length / Nat.gcd l.length l'.length, Nat.mul_comm _ _⟩
      have d1 : l.length ∣ l.length / Nat.gcd l.length l'.length * l'.length := by
        rw [Nat.div_mul_right_comm hgl, Nat.mul_div_assoc _ hgl2]
        exact ⟨_, rfl⟩
      have hle : l.length / Nat.gcd l.length l'.length * l'.length ≤ l.length * l'.length := Nat.mul_le_mul_right _ (Nat.div_le_self _ _)
      have hpos : 0 < l.length / Nat.gcd l.length l'.length * l'.length := Nat.mul_pos (Nat.div_pos (Nat.le_of_dvd hA'.1 hgl) hg) hB'.1
      have hmul : l.length * l'.length ≤ 500 * 500 := Nat.mul_le_mul (by omega) (by omega)
      have hdle : l.length / Nat.gcd l.length l'.length ≤ l.length := Nat.div_le_self _ _
      have hm : (if (s'.length : Int) > (s.length : Int) then spec_SameRun.j1 (k + 1) s l s' l' (s'.length : Int) else spec_SameRun.j1 (k + 1) s l s' l' (s.length : Int)) = spec_SameRun.j1 (k + 1) s l s' l' ((max s.length s'.length : Nat) : Int) := by
        by_cases e : (s'.length : Int) > (s.length : Int)
        · rw [if_pos e, show max s.length s'.length = s'.length from by omega]
        · rw [if_neg e, show max s.length s'.length = s.length from by omega]
      rw [hm]
      simp only [spec_SameRun.j1, spec_l3Gcd.f]
      rw [gcd_f l'.length l.length k (by omega)]
      simp only [Option.bind_some]
      have e3 : (l.length : Int) / ((Nat.gcd l.length l'.length : Nat) : Int) = ((l.length / Nat.gcd l.length l'.length : Nat) : Int) := (Int.natCast_ediv _ _).symm
      have hg0 : ¬ ((Nat.gcd l.length l'.length : Nat) : Int) = 0 := by omega
      rw [if_neg hg0, e3]
      clear e3 hg0 hgl hgl2 hg
      generalize l.length / Nat.gcd l.length l'.length = D at d1 d2 hle hpos hdle ⊢
      rw [wrap_id (x := (D : Int)) (by omega) (by omega), ← Int.natCast_mul, wrap_id (x := ((D * l'.length : Nat) : Int)) (by omega) (by omega), ← Int.natCast_add, wrap_id (by omega) (by omega)]
      have hiff : (∀ i : Nat, i < max s.length s'.length + l.length * l'.length → atL s l i = atL s' l' i) ↔ (∀ i : Nat, i < max s.length s'.length + D * l'.length → atL s l i = atL s' l' i) := by
        constructor
        · intro h i hi
          exact h i (by omega)
        · intro h i _
          exact agree_all (Nat.le_max_left _ _) (Nat.le_max_right _ _) hpos d1 d2 h i
      have hde : decide (∀ i : Nat, i < max s.length s'.length + l.length * l'.length → atL s l i = atL s' l' i) = decide (∀ i : Nat, i < max s.length s'.length + D * l'.length → atL s l i = atL s' l' i) := by
        by_cases g : ∀ i : Nat, i < max s.length s'.length + D * l'.length → atL s l i = atL s' l' i
        · rw [decide_eq_true g, decide_eq_true (hiff.2 g)]
        · rw [decide_eq_false g, decide_eq_false (fun g' => g (hiff.1 g'))]
      rw [hde]
      clear hde
      have hmx : max s.length s'.length ≤ 500 := by omega
      have hnb : max s.length s'.length + D * l'.length ≤ 300000 := by omega
      clear hm
      generalize max s.length s'.length + D * l'.length = n at hnb ⊢
      refine (run_allB 1048577 (fun k i => spec_SameRun.l0 k s l s' l' (n : Int) (i : Int)) n (fun i => decide (atL s l i = atL s' l' i)) true false ?_ ?_ k ?_).trans ?_
      · intro k i hB2 hi
        have hi' : i ≤ 1048576 := by omega
        simp only [spec_SameRun.l0]
        rw [if_pos (by omega), l3At_f hA'.1 hi' b1, l3At_f hB'.1 hi' b3]
        simp only [Option.bind_some]
        have := at_len x1 x2 i hA'.1
        rw [l2Same_f (by omega) (by omega), wrap_id (x := (i : Int) + 1) (by omega) (by omega)]
        simp only [Option.bind_some]
        rfl
      · intro k _
        simp only [spec_SameRun.l0]
        rw [if_neg (by omega)]
      · omega
      · by_cases hall : ∀ i : Nat, i < n → atL s l i = atL s' l' i
        · rw [if_pos (fun j hj => decide_eq_true (hall j hj)), decide_eq_true hall]
        · rw [if_neg (fun hx => hall (fun j hj => of_decide_eq_true (hx j hj))), decide_eq_false hall]

theorem FnExactSameRun : laws_FnExactSameRun.Pure := by
  intro l0 l1 l2 l3 h0 x0 h1 x1 h2 x2 h3 x3
  refine ⟨4000000, ?_⟩
  unfold laws_FnExactSameRun.f
  obtain ⟨r0, e0, t0⟩ := szIntSS_f (k := 4000000) (l := l0) (a := 1048576) (by omega) (by omega) (by omega) h0 (fun x h => (x0 x h).1)
  rw [e0]
  simp only [Option.bind_some]
  by_cases c0 : r0 < 0
  · rw [if_pos c0]
  · have t0 := t0 (by omega)
    obtain ⟨r1, e1, t1⟩ := szIntSS_f (k := 4000000) (l := l1) (a := r0) (by omega) (by omega) (by omega) h1 (fun x h => (x1 x h).1)
    rw [if_neg c0, e1]
    simp only [Option.bind_some]
    by_cases c1 : r1 < 0
    · rw [if_pos c1]
    · have t1 := t1 (by omega)
      obtain ⟨r2, e2, t2⟩ := szIntSS_f (k := 4000000) (l := l2) (a := r1) (by omega) (by omega) (by omega) h2 (fun x h => (x2 x h).1)
      rw [if_neg c1, e2]
      simp only [Option.bind_some]
      by_cases c2 : r2 < 0
      · rw [if_pos c2]
      · have t2 := t2 (by omega)
        obtain ⟨r3, e3, t3⟩ := szIntSS_f (k := 4000000) (l := l3) (a := r2) (by omega) (by omega) (by omega) h3 (fun x h => (x3 x h).1)
        rw [if_neg c2, e3]
        simp only [Option.bind_some]
        by_cases c3 : r3 < 0
        · rw [if_pos c3]
        · have t3 := t3 (by omega)
          have b0 : l0.length ≤ 1048576 := by omega
          have b1 : l1.length ≤ 1048576 := by omega
          have b2 : l2.length ≤ 1048576 := by omega
          have b3 : l3.length ≤ 1048576 := by omega
          have y0 : ∀ x ∈ l0, x.length ≤ 1048576 := fun x g => by have := total_mem g; omega
          have y1 : ∀ x ∈ l1, x.length ≤ 1048576 := fun x g => by have := total_mem g; omega
          have y2 : ∀ x ∈ l2, x.length ≤ 1048576 := fun x g => by have := total_mem g; omega
          have y3 : ∀ x ∈ l3, x.length ≤ 1048576 := fun x g => by have := total_mem g; omega
          rw [if_neg c3, toIntSS_f (by omega) b0 y0, toIntSS_f (by omega) b1 y1, toIntSS_f (by omega) b2 y2, toIntSS_f (by omega) b3 y3]
          simp only [Option.bind_some]
          rw [spec_run (by omega) b0 b1 b2 b3 y0 y1 y2 y3, impl_run (by omega) b0 b1 b2 b3 y0 y1 y2 y3]
          simp only [Option.bind_some, bne_self_eq_false, Bool.false_eq_true, if_false]
          rw [eqIntSS_f (by omega) b0 y0, eqIntSS_f (by omega) b1 y1, eqIntSS_f (by omega) b2 y2, eqIntSS_f (by omega) b3 y3]
          simp

end Go.Proofs.Ytbjkjoicecmmpab.Pure
