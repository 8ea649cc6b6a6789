/- The law 'the highest one first' holds for all bytes: whatever is drawn of them, the program's bits of the number are the reference's, and their value is the number again.
Conditions: none. -/
import Derived.Test.YtbjkjoicecmmpaaXFnValueBitsx3
import Derived.Test.YtbjkjoicecmmpaaXLib2
namespace Go.Proofs.Ytbjkjoicecmmpaa.Pure
open Go.RowKit Go.Proofs.Ytbjkjoicecmmpaa.XFnValueBits Go.Proofs.YtbjkjoicecmmpaaW.PrintWords Go.Proofs.YtbjkjoicecmmpaaW.PrintLast Go.Proofs.YtbjkjoicecmmpaaW.PrintMore Go.Proofs.YtbjkjoicecmmpaaX
set_option linter.unusedVariables false
set_option linter.unusedSimpArgs false

theorem open_f {l : List Int} (hw : ∀ x ∈ l, (Lit.int .u8 x).wf = true) : ∃ b, spec_l40Open.f l = some (b, 0) ∧ b.length ≤ 2000 ∧ ∀ x ∈ b, 0 ≤ x ∧ x < 256 := by
  have hw' : ∀ x ∈ l, 0 ≤ x ∧ x < 256 := by
    intro x hx
    have := hw x hx
    have e1 : IntKind.u8.min = 0 := by decide
    have e2 : IntKind.u8.max = 255 := by decide
    simp [Lit.wf, e1, e2] at this
    omega
  unfold spec_l40Open.f
  by_cases h : (l.length : Int) > 2000
  · rw [if_pos h, if_pos (by omega)]
    exact ⟨l.take 2000, rfl, by rw [List.length_take]; omega, fun x hx => hw' x (List.mem_of_mem_take hx)⟩
  · rw [if_neg h]
    exact ⟨l, rfl, by omega, hw'⟩

theorem xor_nat64 {x y : Int} (hx : 0 ≤ x) (hx2 : x < 4611686018427387904) (hy : 0 ≤ y) (hy2 : y < 4611686018427387904) : 0 ≤ Go.bits .xor .i64 x y ∧ Go.bits .xor .i64 x y < 4611686018427387904 := by
  obtain ⟨a, rfl⟩ := Int.eq_ofNat_of_zero_le hx
  obtain ⟨b, rfl⟩ := Int.eq_ofNat_of_zero_le hy
  have h1 : (BitVec.ofInt 64 (a : Int)).toNat = a := by
    rw [BitVec.toNat_ofInt]
    omega
  have h2 : (BitVec.ofInt 64 (b : Int)).toNat = b := by
    rw [BitVec.toNat_ofInt]
    omega
  have h3 : a ^^^ b < 2 ^ 62 := Nat.xor_lt_two_pow (by omega) (by omega)
  have h4 : Go.bits .xor .i64 (a : Int) (b : Int) = IntKind.i64.wrap ((a ^^^ b : Nat) : Int) := by
    show IntKind.i64.wrap (((BitVec.ofInt 64 (a : Int) ^^^ BitVec.ofInt 64 (b : Int)).toNat : Nat) : Int) = _
    rw [BitVec.toNat_xor, h1, h2]
  rw [h4, IntKind.wrap_i64]
  omega
theorem tmod_in {x n : Int} (hx : 0 ≤ x) (hn : 1 ≤ n) : 0 ≤ Int.tmod x n ∧ Int.tmod x n < n := ⟨Int.tmod_nonneg _ hx, Int.tmod_lt_of_pos _ (by omega)⟩
/-- What is drawn of some bytes: a number below the bound that is asked, or 0. -/
def Bytes (b : List Int) : Prop := b.length ≤ 2000 ∧ ∀ x ∈ b, 0 ≤ x ∧ x < 256
theorem rd_byte {b : List Int} (hb : Bytes b) {i : Int} (h0 : 0 ≤ i) (h1 : i < (b.length : Int)) : 0 ≤ rd b i ∧ rd b i < 256 := by
  obtain ⟨j, rfl⟩ := Int.eq_ofNat_of_zero_le h0
  rw [rd_nat]
  exact hb.2 _ (getD_mem b j 0 (by omega))
theorem pick_f {k : Nat} {b : List Int} {p n : Int} (hk : 0 < k) (hb : Bytes b) (hp : 0 ≤ p) (hp2 : p ≤ 1000000) : ∃ r, spec_l40Rd_pick.f k b p n = some (r, p + 1) ∧ 0 ≤ r ∧ (1 ≤ n → r < n) := by
  obtain ⟨k, rfl⟩ : ∃ m, k = m + 1 := ⟨k - 1, by omega⟩
  have hl := hb.1
  have e1 : wrap64 (p + 1) = p + 1 := wrap_id (by omega) (by omega)
  unfold spec_l40Rd_pick.f
  rw [e1]
  by_cases hn : n < 1
  · rw [if_pos hn]
    exact ⟨0, by simp only [spec_l40Rd_pick.j0, if_true], Int.le_refl _, fun h => absurd hn (by omega)⟩
  · rw [if_neg hn]
    by_cases h0 : b.length = 0
    · have h1 : ((b.length : Int) == 0) = true := by simp [h0]
      rw [h1]
      exact ⟨0, by simp only [spec_l40Rd_pick.j0, if_true], Int.le_refl _, fun h => by omega⟩
    · have h1 : ((b.length : Int) == 0) = false := by simpa using h0
      have e2 : wrap64 (p + 1 - 1) = p := by rw [show p + 1 - 1 = p from by omega]; exact wrap_id (by omega) (by omega)
      have hn0 : ¬ n = 0 := by omega
      rw [h1]
      simp only [spec_l40Rd_pick.j0, Bool.false_eq_true, if_false, e2, if_neg hn0]
      by_cases h2 : p < (b.length : Int)
      · have h3 := rd_byte hb hp h2
        rw [if_pos h2, if_pos hp, wrap_id (x := rd b p) (by omega) (by omega)]
        have h4 := tmod_in h3.1 (show 1 ≤ n by omega)
        exact ⟨_, rfl, h4.1, fun _ => h4.2⟩
      · have hl0 : ¬ (b.length : Int) = 0 := by omega
        have h3 := tmod_in hp (show 1 ≤ (b.length : Int) by omega)
        have e3 : wrap64 (wrap64 (p * 7) + 3) = p * 7 + 3 := by rw [wrap_id (x := p * 7) (by omega) (by omega)]; exact wrap_id (by omega) (by omega)
        have h4 := tmod_in (show 0 ≤ p * 7 + 3 by omega) (show 1 ≤ (b.length : Int) by omega)
        rw [e3]
        generalize Int.tmod (p * 7 + 3) (b.length : Int) = j at h4 ⊢
        generalize Int.tmod p (b.length : Int) = i at h3 ⊢
        rw [if_neg h2, if_neg hl0, if_pos h3.1, if_pos h3.2, if_pos h4.1, if_pos h4.2]
        have h5 := rd_byte hb h3.1 h3.2
        have h6 := rd_byte hb h4.1 h4.2
        generalize rd b i = u at h5 ⊢
        generalize rd b j = v at h6 ⊢
        have h7 : 0 ≤ Int.tdiv p (b.length : Int) ∧ Int.tdiv p (b.length : Int) ≤ p := by
          rw [Int.tdiv_eq_ediv_of_nonneg hp]
          exact ⟨Int.ediv_nonneg hp (by omega), Int.ediv_le_self _ hp⟩
        generalize Int.tdiv p (b.length : Int) = d at h7 ⊢
        have e4 : wrap64 (wrap64 (wrap64 (wrap64 (wrap64 u * 131) + wrap64 (wrap64 v * 1117)) + wrap64 (p * 29)) + wrap64 (wrap64 d * 53)) = u * 131 + v * 1117 + p * 29 + d * 53 := by
          rw [wrap_id (x := u) (by omega) (by omega), wrap_id (x := v) (by omega) (by omega), wrap_id (x := d) (by omega) (by omega), wrap_id (x := u * 131) (by omega) (by omega), wrap_id (x := v * 1117) (by omega) (by omega), wrap_id (x := p * 29) (by omega) (by omega), wrap_id (x := d * 53) (by omega) (by omega), wrap_id (x := u * 131 + v * 1117) (by omega) (by omega), wrap_id (x := u * 131 + v * 1117 + p * 29) (by omega) (by omega), wrap_id (by omega) (by omega)]
        rw [e4]
        have h8 : 0 ≤ u * 131 + v * 1117 + p * 29 + d * 53 ∧ u * 131 + v * 1117 + p * 29 + d * 53 < 1000000000 := by omega
        generalize u * 131 + v * 1117 + p * 29 + d * 53 = X at h8 ⊢
        have h9 : 0 ≤ Int.tdiv X 64 ∧ Int.tdiv X 64 ≤ X := by
          rw [Int.tdiv_eq_ediv_of_nonneg h8.1]
          omega
        rw [wrap_id (x := Int.tdiv X 64) (by omega) (by omega)]
        have h10 := xor_nat64 h8.1 (by omega) h9.1 (by omega)
        have h11 := tmod_in h10.1 (show 1 ≤ n by omega)
        exact ⟨_, rfl, h11.1, fun _ => h11.2⟩

/-- The same, with a round left for what is called. -/
theorem run_ex2 {σ β : Type} (L : Nat → σ → Nat → Option β) (n : Nat) (inv : Nat → σ → Prop) (P : β → Prop)
    (hstep : ∀ k i s, 0 < k → i < n → inv i s → ∃ s', L (k + 1) s i = L k s' (i + 1) ∧ inv (i + 1) s')
    (hend : ∀ k s, 0 < k → inv n s → ∃ r, L (k + 1) s n = some r ∧ P r) : ∀ k i s, i ≤ n → n - i + 1 < k → inv i s → ∃ r, L k s i = some r ∧ P r := by
  have key : ∀ d k i s, n - i = d → i ≤ n → d + 1 < k → inv i s → ∃ r, L k s i = some r ∧ P r := by
    intro d
    induction d with
    | zero =>
      intro k i s hd hi hk hs
      obtain ⟨k, rfl⟩ : ∃ m, k = m + 1 := ⟨k - 1, by omega⟩
      obtain rfl : i = n := by omega
      exact hend k s (by omega) hs
    | succ d ih =>
      intro k i s hd hi hk hs
      obtain ⟨k, rfl⟩ : ∃ m, k = m + 1 := ⟨k - 1, by omega⟩
      obtain ⟨s', h, hs'⟩ := hstep k i s (by omega) (by omega) hs
      rw [h]
      exact ih k (i + 1) s' (by omega) (by omega) (by omega) hs'
  intro k i s hi hk hs
  exact key (n - i) k i s rfl hi hk hs

theorem num_f {k : Nat} {b l : List Int} {p : Int} (hk : 0 < k) (hb : Bytes b) (hp : 0 ≤ p) (hp2 : p ≤ 1000000) (hl : 1 ≤ l.length) : ∃ r, spec_l40Rd_num.f k b p l = some (r, p + 1) ∧ r ∈ l := by
  unfold spec_l40Rd_num.f
  obtain ⟨r, h1, h2, h3⟩ := pick_f (n := (l.length : Int)) hk hb hp hp2
  rw [h1]
  simp only [Option.bind_some]
  have h4 := h3 (by omega)
  rw [if_pos h2, if_pos h4]
  obtain ⟨j, rfl⟩ := Int.eq_ofNat_of_zero_le h2
  exact ⟨_, rfl, by rw [rd_nat]; exact getD_mem l j 0 (by omega)⟩

theorem in_f (n a b : Int) : impl_in.f n a b = some (inB a b n) := by
  unfold impl_in.f inB
  by_cases h : n ≥ a
  · rw [if_pos h]; congr 1; simp; omega
  · rw [if_neg h, decide_eq_false (by omega)]

theorem clone_int_f {l : List Int} (h : l.length ≤ 35184372088832) : impl_clone_int.f l = some l := by
  unfold impl_clone_int.f
  rw [if_pos h]

theorem valueBits_f {k m : Nat} {n : Int} (hn : 0 ≤ n) (hn2 : n ≤ 9223372036854775807) (hm : m ≤ 60) (hk : m < k) : impl_valueBits.f k n (m : Int) = some (bitsL n m) := by
  unfold impl_valueBits.f
  rw [if_pos (by omega), if_pos (by omega)]
  simp only [Option.bind_some, Int.toNat_natCast, List.length_replicate]
  refine (?_ : impl_valueBits.l0 k n (m : Int) (List.replicate m 0) (m : Int) ((0 : Nat) : Int) = _)
  refine run_inv (fun k (s : List Int) i => impl_valueBits.l0 k n (m : Int) s (m : Int) (i : Int)) m (fun i s => s.length = m ∧ ∀ j, j < i → s.getD j 0 = (bitsL n m).getD j 0) _ ?_ ?_ k 0 _ (Nat.zero_le _) (by omega) ⟨by simp, fun j hj => absurd hj (Nat.not_lt_zero j)⟩
  · intro k i s hi ⟨hl, hs⟩
    refine Or.inr ⟨s.set i ((bitsL n m).getD i 0), ?_, by simpa using hl, fun j hj => ?_⟩
    · simp only [impl_valueBits.l0]
      have ej : wrap64 (wrap64 ((m : Int) - 1) - (i : Int)) = ((m - 1 - i : Nat) : Int) := by
        rw [wrap_id (x := (m : Int) - 1) (by omega) (by omega), wrap_id (by omega) (by omega)]
        omega
      have h2 : n / 2 ^ (m - 1 - i) ≤ n := Int.ediv_le_self _ hn
      rw [ej, if_pos (by omega), if_pos (by omega), if_pos (by omega), if_pos (by omega), shr_nat _ _ (by omega), and_one (Int.ediv_nonneg hn (Int.le_of_lt (pow_pos_int _))) (by omega), wrap_id (by omega) (by omega), bitsL_getD _ _ _ hi]
      rfl
    · rw [getD_set _ _ _ _ _ (by omega)]
      by_cases e : j = i
      · rw [if_pos e, e]
      · rw [if_neg e]
        exact hs j (by omega)
  · intro k s ⟨hl, hs⟩
    simp only [impl_valueBits.l0]
    rw [if_neg (by omega), ext_getD (d := 0) (l := bitsL n m) (by rw [bitsL_length]; exact hl) (fun j hj => hs j (by rw [bitsL_length] at hj; exact hj))]

theorem wcInts_f {k : Nat} {a b : List Int} (hk : a.length < k) (hm : a.length ≤ 35184372088832) : laws_wcInts.f k a b = some (decide (a = b)) := by
  unfold laws_wcInts.f
  by_cases hab : a.length = b.length
  · rw [if_pos (by omega)]
    refine run_inv (fun k (_ : Unit) i => laws_wcInts.l0 k b a (a.length : Int) (i : Int)) a.length (fun i _ => ∀ j, j < i → a.getD j 0 = b.getD j 0) _ ?_ ?_ k 0 () (Nat.zero_le _) (by omega) (fun j hj => absurd hj (Nat.not_lt_zero j))
    · intro k i _ hi hs
      by_cases e : b.getD i 0 = a.getD i 0
      · refine Or.inr ⟨(), ?_, fun j hj => ?_⟩
        · simp only [laws_wcInts.l0]
          rw [if_pos (by omega), if_pos (by omega), if_pos (by omega), if_pos (by omega), rd_nat, rd_nat, if_pos e, wrap_id (by omega) (by omega)]
          rfl
        · by_cases e2 : j = i
          · rw [e2]; exact e.symm
          · exact hs j (by omega)
      · refine Or.inl ?_
        simp only [laws_wcInts.l0]
        rw [if_pos (by omega), if_pos (by omega), if_pos (by omega), if_pos (by omega), rd_nat, rd_nat, if_neg e, decide_eq_false (fun h => e (by rw [h]))]
    · intro k _ hs
      simp only [laws_wcInts.l0]
      rw [if_neg (by omega), decide_eq_true (ext_getD hab (fun j hj => hs j (by omega)))]
  · rw [if_neg (by omega), decide_eq_false (fun h => hab (by rw [h]))]

theorem l1In_f (n a b : Int) : spec_l1In.f n a b = some (inB a b n) := by
  unfold spec_l1In.f inB
  by_cases h : n ≥ a
  · rw [if_pos h]; congr 1; simp; omega
  · rw [if_neg h, decide_eq_false (by omega)]

theorem l6Value_f {k m : Nat} {n : Int} (hn : 0 ≤ n) (hm : m ≤ 60) (hk : m < k) : spec_l6Value.f k n (m : Int) = some (bitsL n m) := by
  unfold spec_l6Value.f
  rw [wrap_id (by omega) (by omega)]
  have e0 : ((m : Int) - 1) = (m : Int) - 1 - ((0 : Nat) : Int) := by omega
  rw [e0]
  refine run_inv (fun k (s : List Int) i => spec_l6Value.l0 k n s ((m : Int) - 1 - (i : Int))) m (fun i s => s = (bitsL n m).take i) _ ?_ ?_ k 0 [] (Nat.zero_le _) (by omega) (by simp)
  · rintro k i s hi rfl
    have hl : ((bitsL n m).take i).length = i := by rw [List.length_take, bitsL_length]; omega
    refine Or.inr ⟨_, ?_, (take_succ_getD (bitsL n m) i 0 (by rw [bitsL_length]; exact hi)).symm⟩
    simp only [spec_l6Value.l0]
    have ej : ((m : Int) - 1 - (i : Int)) = ((m - 1 - i : Nat) : Int) := by omega
    have ew : wrap64 (((m - 1 - i : Nat) : Int) - 1) = (m : Int) - 1 - ((i + 1 : Nat) : Int) := by rw [wrap_id (by omega) (by omega)]; omega
    rw [ej, if_pos (by omega), if_pos (by omega), if_pos (by rw [hl]; omega), shr_nat _ _ (by omega), Int.tmod_eq_emod_of_nonneg (Int.ediv_nonneg hn (Int.le_of_lt (pow_pos_int _))), ew, bitsL_getD _ _ _ hi]
  · rintro k s rfl
    simp only [spec_l6Value.l0]
    rw [if_neg (by omega), List.take_of_length_le (by rw [bitsL_length]; omega)]

theorem contains_impl_bitsValid_1 {k : Nat} {l : List Int} (hk : l.length < k) (hm : l.length ≤ 35184372088832) : slices_ContainsFunc_int_int_impl_bitsValid_1.f k l = some (l.any fun x => !(inB 0 1 x)) := by
  unfold slices_ContainsFunc_int_int_impl_bitsValid_1.f slices_IndexFunc_int_int_impl_bitsValid_1.f
  obtain ⟨r, h1, h2⟩ := run_find (fun k i => slices_IndexFunc_int_int_impl_bitsValid_1.l0 k l (l.length : Int) (i : Int)) l 0 (fun x => !(inB 0 1 x)) (by
    intro k i hi
    simp only [slices_IndexFunc_int_int_impl_bitsValid_1.l0]
    rw [if_pos (by omega), if_pos (by omega), if_pos (by omega), rd_nat, wrap_id (by omega) (by omega)]
    unfold impl_bitsValid_1.f
    rw [in_f]
    rfl) (by
    intro k
    simp only [slices_IndexFunc_int_int_impl_bitsValid_1.l0]
    rw [if_neg (by omega)]) k hk
  have h1' : slices_IndexFunc_int_int_impl_bitsValid_1.l0 k l (l.length : Int) 0 = some r := h1
  rw [h1', Option.bind_some, h2]

theorem impl_bitsValid_f {k : Nat} {l : List Int} (hk : l.length < k) (hm : l.length ≤ 35184372088832) : impl_bitsValid.f k l = some (l.all (inB 0 1)) := by
  unfold impl_bitsValid.f
  rw [contains_impl_bitsValid_1 hk hm]
  simp only [Option.bind_some]
  have e : l.all (inB 0 1) = !(l.any fun x => !(inB 0 1 x)) := by simp [List.any_eq_not_all_not]
  rw [e]

theorem both (k : Nat) (hk : 20 ≤ k) (n many : Int) : ∃ R : List Int, (((0 ≤ many ∧ many ≤ 12) ∧ ¬ n < 0 ∧ ¬ n ≥ 2 ^ many.toNat ∧ R = bitsL n many.toNat) ∨ (¬ ((0 ≤ many ∧ many ≤ 12) ∧ ¬ n < 0 ∧ ¬ n ≥ 2 ^ many.toNat) ∧ R = [])) ∧ spec_ValueBits.f k n many = some R ∧ impl_ValueBits.f k n many = some R := by
  obtain ⟨k, rfl⟩ : ∃ m, k = m + 1 := ⟨k - 1, by omega⟩
  unfold spec_ValueBits.f impl_ValueBits.f
  simp only [l1In_f, in_f, Option.bind_some, impl_ValueBits.j0]
  unfold inB
  by_cases hm : 0 ≤ many ∧ many ≤ 12
  · obtain ⟨m, rfl⟩ : ∃ m : Nat, many = (m : Int) := ⟨many.toNat, by omega⟩
    have hp := pow_le_int m 12 (by omega)
    have hp0 := pow_pos_int m
    rw [if_pos (decide_eq_true hm), if_pos (decide_eq_true hm), if_pos hm.1, shl_one m (by omega), wrap_id (by omega) (by omega), Int.toNat_natCast]
    by_cases h0 : n < 0
    · refine ⟨[], Or.inr ⟨fun h => h.2.1 h0, rfl⟩, by rw [if_pos h0], ?_⟩
      rw [decide_eq_false (by omega)]
      simp
    · rw [if_neg h0]
      rw [if_pos hm.1]
      by_cases h1 : n ≥ 2 ^ m
      · refine ⟨[], Or.inr ⟨fun h => h.2.2 h1, rfl⟩, by rw [if_pos h1], ?_⟩
        rw [decide_eq_false (by omega)]
        simp
      · refine ⟨bitsL n m, Or.inl ⟨hm, h0, h1, rfl⟩, ?_, ?_⟩
        · rw [if_neg h1, l6Value_f (by omega) (by omega) (by omega)]
          rfl
        · rw [decide_eq_true (by omega), valueBits_f (by omega) (by omega) (by omega) (by omega)]
          simp only [Bool.not_true, Option.bind_some]
          rw [clone_int_f (by rw [bitsL_length]; omega)]
          simp
  · refine ⟨[], Or.inr ⟨fun h => hm h.1, rfl⟩, ?_, ?_⟩
    · rw [decide_eq_false hm]
      simp
    · rw [decide_eq_false hm]
      simp
def stepN (n b : Int) : Int := wrap64 (wrap64 (n * 2) + b)
theorem bitsValue_f {k : Nat} {l : List Int} (hk : l.length < k) (hm : l.length ≤ 35184372088832) : impl_bitsValue.f k l = some (l.foldl stepN 0) := by
  unfold impl_bitsValue.f
  refine run_inv (fun k (s : Int) i => impl_bitsValue.l0 k s l (l.length : Int) (i : Int)) l.length (fun i s => s = (l.take i).foldl stepN 0) _ ?_ ?_ k 0 _ (Nat.zero_le _) (by omega) rfl
  · rintro k i s hi rfl
    refine Or.inr ⟨_, ?_, (foldl_take_succ stepN 0 l 0 i hi).symm⟩
    simp only [impl_bitsValue.l0]
    rw [if_pos (by omega), if_pos (by omega), if_pos (by omega), rd_nat, wrap_id (x := (i : Int) + 1) (by omega) (by omega), Int.mul_comm 2]
    rfl
  · rintro k s rfl
    simp only [impl_bitsValue.l0]
    rw [if_neg (by omega), List.take_length]
theorem BitsValue_f {k : Nat} {l : List Int} (hk : l.length < k) (hm : l.length ≤ 35184372088832) : impl_BitsValue.f k l = some (if l.length > 12 then -1 else if l.all (inB 0 1) = true then l.foldl stepN 0 else -1) := by
  unfold impl_BitsValue.f
  rw [impl_bitsValid_f hk hm, bitsValue_f hk hm]
  by_cases h : (l.length : Int) > 12
  · have h' : l.length > 12 := by omega
    rw [if_pos h, if_pos h']
  · have h' : ¬ l.length > 12 := by omega
    rw [if_neg h, if_neg h']
    simp only [Option.bind_some]
    cases l.all (inB 0 1)
    · rfl
    · rfl
theorem value_bits {n : Int} {m : Nat} (hm : m ≤ 12) (h0 : 0 ≤ n) (h1 : n < 2 ^ m) : (bitsL n m).foldl stepN 0 = n := by
  have hp := pow_le_int m 12 (by omega)
  have key : ∀ i, i ≤ m → ((bitsL n m).take i).foldl stepN 0 = n / 2 ^ (m - i) := by
    intro i
    induction i with
    | zero =>
      intro _
      simp only [List.take_zero, List.foldl_nil, Nat.sub_zero]
      exact (Int.ediv_eq_zero_of_lt h0 h1).symm
    | succ i ih =>
      intro hi
      rw [foldl_take_succ stepN 0 (bitsL n m) 0 i (by rw [bitsL_length]; omega), ih (by omega), bitsL_getD _ _ _ (by omega)]
      have e : n / 2 ^ (m - i) = n / 2 ^ (m - (i + 1)) / 2 := by
        rw [Int.ediv_ediv_of_nonneg (Int.le_of_lt (pow_pos_int _)), ← Int.pow_succ]
        congr 2
        omega
      rw [e, show m - 1 - i = m - (i + 1) from by omega]
      have h2 : 0 ≤ n / 2 ^ (m - (i + 1)) := Int.ediv_nonneg h0 (Int.le_of_lt (pow_pos_int _))
      have h3 : n / 2 ^ (m - (i + 1)) ≤ n := Int.ediv_le_self _ h0
      generalize n / 2 ^ (m - (i + 1)) = q at h2 h3 ⊢
      unfold stepN
      rw [wrap_id (x := q / 2 * 2) (by omega) (by omega), wrap_id (by omega) (by omega)]
      omega
  have h := key m (Nat.le_refl _)
  rw [List.take_of_length_le (by rw [bitsL_length]; omega), Nat.sub_self, Int.pow_zero, Int.ediv_one] at h
  exact h
theorem bits_all (n : Int) (m : Nat) : (bitsL n m).all (inB 0 1) = true := by
  refine List.all_eq_true.2 fun x hx => ?_
  obtain ⟨j, hj, rfl⟩ := mem_getD 0 hx
  rw [bitsL_length] at hj
  rw [bitsL_getD _ _ _ hj]
  exact decide_eq_true (by omega)

theorem FnValueBits : laws_FnValueBits.Pure := by
  intro l hl hl8 hw
  refine ⟨40, ?_⟩
  unfold laws_FnValueBits.f
  by_cases h : (l.length : Int) > 1048576
  · rw [if_pos h]
  · rw [if_neg h]
    have hd : ∃ n many, spec_DrawValueBits.f 40 l = some (n, many) := by
      unfold spec_DrawValueBits.f
      obtain ⟨b, hb, hb'⟩ := open_f hw
      rw [hb]
      simp only [Option.bind_some]
      obtain ⟨r1, e1, -⟩ := num_f (k := 40) (b := b) (l := [1, 2, 3, 5, 8, 12, 13, 0, (-1), 4]) (p := 0) (by omega) hb' (by omega) (by omega) (by simp)
      rw [e1]
      simp only [Option.bind_some]
      obtain ⟨r2, e2, -⟩ := pick_f (k := 40) (b := b) (p := 0 + 1) (n := 8) (by omega) hb' (by omega) (by omega)
      rw [e2]
      simp only [Option.bind_some]
      obtain ⟨r3, e3, -⟩ := pick_f (k := 40) (b := b) (p := 0 + 1 + 1) (n := 200) (by omega) hb' (by omega) (by omega)
      rw [e3]
      simp only [Option.bind_some]
      obtain ⟨r4, e4, -⟩ := pick_f (k := 40) (b := b) (p := 0 + 1 + 1 + 1) (n := 4) (by omega) hb' (by omega) (by omega)
      rw [e4]
      simp only [Option.bind_some]
      obtain ⟨r5, e5, -⟩ := num_f (k := 40) (b := b) (l := [r2, r3, 0, 1, 4095, 4096, (-1), 7, 8, r4]) (p := 0 + 1 + 1 + 1 + 1) (by omega) hb' (by omega) (by omega) (by simp)
      rw [e5]
      exact ⟨r5, r1, rfl⟩
    obtain ⟨n, many, hd⟩ := hd
    obtain ⟨R, hR, h1, h2⟩ := both 40 (by omega) n many
    rw [hd]
    simp only [Option.bind_some]
    rw [h1, h2]
    simp only [Option.bind_some]
    rcases hR with ⟨hm, h0, hn, rfl⟩ | ⟨hno, rfl⟩
    · obtain ⟨m, rfl⟩ : ∃ m : Nat, many = (m : Int) := ⟨many.toNat, by omega⟩
      rw [Int.toNat_natCast] at hn ⊢
      have hlen := bitsL_length n m
      rw [wcInts_f (by omega) (by omega)]
      simp only [Option.bind_some, decide_true, if_true]
      have hB := BitsValue_f (k := 40) (l := bitsL n m) (by omega) (by omega)
      rw [if_neg (by omega), if_pos (bits_all n m), value_bits (by omega) (by omega) (by omega)] at hB
      rw [hB]
      have hlen2 : ([2] ++ bitsL n m).length = m + 1 := by rw [List.length_append, hlen]; simp; omega
      rw [BitsValue_f (l := [2] ++ bitsL n m) (by omega) (by omega)]
      have hall : ([2] ++ bitsL n m).all (inB 0 1) = false := by simp [inB]
      rw [hall]
      by_cases hz : m = 0
      · subst hz
        have e0 : ((bitsL n 0).length : Int) = 0 := by omega
        rw [if_pos e0, if_pos (by simp)]
      · have e0 : ¬ ((bitsL n m).length : Int) = 0 := by omega
        rw [if_neg e0, if_pos (by omega)]
        simp only [Option.bind_some, if_true]
        rw [if_pos (by simp; omega)]
        by_cases h12 : ([2] ++ bitsL n m).length > 12
        · rw [if_pos h12]
          simp
        · rw [if_neg h12]
          simp
    · rw [wcInts_f (by simp) (by simp)]
      simp only [Option.bind_some, decide_true, if_true, List.length_nil]
      by_cases c1 : many ≤ 0
      · rw [if_pos (by rfl), if_pos c1]
      · by_cases c2 : many > 12
        · rw [if_pos (by rfl), if_neg c1, if_pos c2]
        · by_cases c3 : n < 0
          · rw [if_pos (by rfl), if_neg c1, if_neg c2, if_pos c3]
          · obtain ⟨m, rfl⟩ : ∃ m : Nat, many = (m : Int) := ⟨many.toNat, by omega⟩
            rw [if_pos (by rfl), if_neg c1, if_neg c2, if_neg c3, if_pos (by omega), shl_one m (by omega), if_pos]
            rw [Int.toNat_natCast] at hno
            exact Decidable.byContradiction fun c4 => hno ⟨by omega, c3, c4⟩

end Go.Proofs.Ytbjkjoicecmmpaa.Pure
