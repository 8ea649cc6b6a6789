/- The law 'bit by bit' on cubes holds for all bytes: whatever two cubes are drawn of them, the program's meet and join and size are the reference's, the meet holds what both hold, and the join what either holds.
Conditions: none. -/
import Derived.Test.YtbjkjoicecmmpacXFnCubeMeetx7
import Derived.Test.YtbjkjoicecmmpacXLib2
namespace Go.Proofs.Ytbjkjoicecmmpac.Pure
open Go.RowKit Go.Proofs.Ytbjkjoicecmmpac.XFnCubeMeet Go.Proofs.YtbjkjoicecmmpacW.PrintWords Go.Proofs.YtbjkjoicecmmpacW.PrintLast Go.Proofs.YtbjkjoicecmmpacW.PrintMore Go.Proofs.YtbjkjoicecmmpacX
set_option linter.unusedVariables false
set_option linter.unusedSimpArgs false

theorem l3Copy_f {k : Nat} {l : List Int} (hk : l.length < k) (hm : l.length ≤ 1048576) : spec_l3Copy.f k l = some l := by
  unfold spec_l3Copy.f
  refine run_inv (fun k (s : List Int) i => spec_l3Copy.l0 k l s (i : Int)) l.length (fun i s => s = l.take i) _ ?_ ?_ k 0 [] (Nat.zero_le _) (by omega) (by simp)
  · rintro k i s hi rfl
    have hl : (l.take i).length = i := by rw [List.length_take]; omega
    refine Or.inr ⟨_, ?_, (take_succ_getD l i 0 hi).symm⟩
    simp only [spec_l3Copy.l0]
    rw [if_pos (by omega), if_pos (by omega), if_pos (by rw [hl]; omega), wrap_id (x := (i : Int) + 1) (by omega) (by omega), rd_nat]
    rfl
  · rintro k s rfl
    simp only [spec_l3Copy.l0]
    rw [if_neg (by omega), List.take_length]

theorem open_f {l : List Int} (hw : ∀ x ∈ l, (Lit.int .u8 x).wf = true) : ∃ b, spec_l40Open.f l = some (b, 0) ∧ b.length ≤ 2000 ∧ ∀ x ∈ b, 0 ≤ x ∧ x < 256 := by
  have hw' : ∀ x ∈ l, 0 ≤ x ∧ x < 256 := by
    intro x hx
    have := hw x hx
    have e1 : IntKind.u8.min = 0 := by decide
    have e2 : IntKind.u8.max = 255 := by decide
    simp [Lit.wf, e1, e2] at this
    omega
  unfold spec_l40Open.f
  by_cases h : (l.length : Int) > 2000
  · rw [if_pos h, if_pos (by omega)]
    exact ⟨l.take 2000, rfl, by rw [List.length_take]; omega, fun x hx => hw' x (List.mem_of_mem_take hx)⟩
  · rw [if_neg h]
    exact ⟨l, rfl, by omega, hw'⟩

theorem xor_nat64 {x y : Int} (hx : 0 ≤ x) (hx2 : x < 4611686018427387904) (hy : 0 ≤ y) (hy2 : y < 4611686018427387904) : 0 ≤ Go.bits .xor .i64 x y ∧ Go.bits .xor .i64 x y < 4611686018427387904 := by
  obtain ⟨a, rfl⟩ := Int.eq_ofNat_of_zero_le hx
  obtain ⟨b, rfl⟩ := Int.eq_ofNat_of_zero_le hy
  have h1 : (BitVec.ofInt 64 (a : Int)).toNat = a := by
    rw [BitVec.toNat_ofInt]
    omega
  have h2 : (BitVec.ofInt 64 (b : Int)).toNat = b := by
    rw [BitVec.toNat_ofInt]
    omega
  have h3 : a ^^^ b < 2 ^ 62 := Nat.xor_lt_two_pow (by omega) (by omega)
  have h4 : Go.bits .xor .i64 (a : Int) (b : Int) = IntKind.i64.wrap ((a ^^^ b : Nat) : Int) := by
    show IntKind.i64.wrap (((BitVec.ofInt 64 (a : Int) ^^^ BitVec.ofInt 64 (b : Int)).toNat : Nat) : Int) = _
    rw [BitVec.toNat_xor, h1, h2]
  rw [h4, IntKind.wrap_i64]
  omega
theorem tmod_in {x n : Int} (hx : 0 ≤ x) (hn : 1 ≤ n) : 0 ≤ Int.tmod x n ∧ Int.tmod x n < n := ⟨Int.tmod_nonneg _ hx, Int.tmod_lt_of_pos _ (by omega)⟩
/-- What is drawn of some bytes: a number below the bound that is asked, or 0. -/
def Bytes (b : List Int) : Prop := b.length ≤ 2000 ∧ ∀ x ∈ b, 0 ≤ x ∧ x < 256
theorem rd_byte {b : List Int} (hb : Bytes b) {i : Int} (h0 : 0 ≤ i) (h1 : i < (b.length : Int)) : 0 ≤ rd b i ∧ rd b i < 256 := by
  obtain ⟨j, rfl⟩ := Int.eq_ofNat_of_zero_le h0
  rw [rd_nat]
  exact hb.2 _ (getD_mem b j 0 (by omega))
theorem pick_f {k : Nat} {b : List Int} {p n : Int} (hk : 0 < k) (hb : Bytes b) (hp : 0 ≤ p) (hp2 : p ≤ 1000000) : ∃ r, spec_l40Rd_pick.f k b p n = some (r, p + 1) ∧ 0 ≤ r ∧ (1 ≤ n → r < n) := by
  obtain ⟨k, rfl⟩ : ∃ m, k = m + 1 := ⟨k - 1, by omega⟩
  have hl := hb.1
  have e1 : wrap64 (p + 1) = p + 1 := wrap_id (by omega) (by omega)
  unfold spec_l40Rd_pick.f
  rw [e1]
  by_cases hn : n < 1
  · rw [if_pos hn]
    exact ⟨0, by simp only [spec_l40Rd_pick.j0, if_true], Int.le_refl _, fun h => absurd hn (by omega)⟩
  · rw [if_neg hn]
    by_cases h0 : b.length = 0
    · have h1 : ((b.length : Int) == 0) = true := by simp [h0]
      rw [h1]
      exact ⟨0, by simp only [spec_l40Rd_pick.j0, if_true], Int.le_refl _, fun h => by omega⟩
    · have h1 : ((b.length : Int) == 0) = false := by simpa using h0
      have e2 : wrap64 (p + 1 - 1) = p := by rw [show p + 1 - 1 = p from by omega]; exact wrap_id (by omega) (by omega)
      have hn0 : ¬ n = 0 := by omega
      rw [h1]
      simp only [spec_l40Rd_pick.j0, Bool.false_eq_true, if_false, e2, if_neg hn0]
      by_cases h2 : p < (b.length : Int)
      · have h3 := rd_byte hb hp h2
        rw [if_pos h2, if_pos hp, wrap_id (x := rd b p) (by omega) (by omega)]
        have h4 := tmod_in h3.1 (show 1 ≤ n by omega)
        exact ⟨_, rfl, h4.1, fun _ => h4.2⟩
      · have hl0 : ¬ (b.length : Int) = 0 := by omega
        have h3 := tmod_in hp (show 1 ≤ (b.length : Int) by omega)
        have e3 : wrap64 (wrap64 (p * 7) + 3) = p * 7 + 3 := by rw [wrap_id (x := p * 7) (by omega) (by omega)]; exact wrap_id (by omega) (by omega)
        have h4 := tmod_in (show 0 ≤ p * 7 + 3 by omega) (show 1 ≤ (b.length : Int) by omega)
        rw [e3]
        generalize Int.tmod (p * 7 + 3) (b.length : Int) = j at h4 ⊢
        generalize Int.tmod p (b.length : Int) = i at h3 ⊢
        rw [if_neg h2, if_neg hl0, if_pos h3.1, if_pos h3.2, if_pos h4.1, if_pos h4.2]
        have h5 := rd_byte hb h3.1 h3.2
        have h6 := rd_byte hb h4.1 h4.2
        generalize rd b i = u at h5 ⊢
        generalize rd b j = v at h6 ⊢
        have h7 : 0 ≤ Int.tdiv p (b.length : Int) ∧ Int.tdiv p (b.length : Int) ≤ p := by
          rw [Int.tdiv_eq_ediv_of_nonneg hp]
          exact ⟨Int.ediv_nonneg hp (by omega), Int.ediv_le_self _ hp⟩
        generalize Int.tdiv p (b.length : Int) = d at h7 ⊢
        have e4 : wrap64 (wrap64 (wrap64 (wrap64 (wrap64 u * 131) + wrap64 (wrap64 v * 1117)) + wrap64 (p * 29)) + wrap64 (wrap64 d * 53)) = u * 131 + v * 1117 + p * 29 + d * 53 := by
          rw [wrap_id (x := u) (by omega) (by omega), wrap_id (x := v) (by omega) (by omega), wrap_id (x := d) (by omega) (by omega), wrap_id (x := u * 131) (by omega) (by omega), wrap_id (x := v * 1117) (by omega) (by omega), wrap_id (x := p * 29) (by omega) (by omega), wrap_id (x := d * 53) (by omega) (by omega), wrap_id (x := u * 131 + v * 1117) (by omega) (by omega), wrap_id (x := u * 131 + v * 1117 + p * 29) (by omega) (by omega), wrap_id (by omega) (by omega)]
        rw [e4]
        have h8 : 0 ≤ u * 131 + v * 1117 + p * 29 + d * 53 ∧ u * 131 + v * 1117 + p * 29 + d * 53 < 1000000000 := by omega
        generalize u * 131 + v * 1117 + p * 29 + d * 53 = X at h8 ⊢
        have h9 : 0 ≤ Int.tdiv X 64 ∧ Int.tdiv X 64 ≤ X := by
          rw [Int.tdiv_eq_ediv_of_nonneg h8.1]
          omega
        rw [wrap_id (x := Int.tdiv X 64) (by omega) (by omega)]
        have h10 := xor_nat64 h8.1 (by omega) h9.1 (by omega)
        have h11 := tmod_in h10.1 (show 1 ≤ n by omega)
        exact ⟨_, rfl, h11.1, fun _ => h11.2⟩

/-- The same, with a round left for what is called. -/
theorem run_ex2 {σ β : Type} (L : Nat → σ → Nat → Option β) (n : Nat) (inv : Nat → σ → Prop) (P : β → Prop)
    (hstep : ∀ k i s, 0 < k → i < n → inv i s → ∃ s', L (k + 1) s i = L k s' (i + 1) ∧ inv (i + 1) s')
    (hend : ∀ k s, 0 < k → inv n s → ∃ r, L (k + 1) s n = some r ∧ P r) : ∀ k i s, i ≤ n → n - i + 1 < k → inv i s → ∃ r, L k s i = some r ∧ P r := by
  have key : ∀ d k i s, n - i = d → i ≤ n → d + 1 < k → inv i s → ∃ r, L k s i = some r ∧ P r := by
    intro d
    induction d with
    | zero =>
      intro k i s hd hi hk hs
      obtain ⟨k, rfl⟩ : ∃ m, k = m + 1 := ⟨k - 1, by omega⟩
      obtain rfl : i = n := by omega
      exact hend k s (by omega) hs
    | succ d ih =>
      intro k i s hd hi hk hs
      obtain ⟨k, rfl⟩ : ∃ m, k = m + 1 := ⟨k - 1, by omega⟩
      obtain ⟨s', h, hs'⟩ := hstep k i s (by omega) (by omega) hs
      rw [h]
      exact ih k (i + 1) s' (by omega) (by omega) (by omega) hs'
  intro k i s hi hk hs
  exact key (n - i) k i s rfl hi hk hs

theorem num_f {k : Nat} {b l : List Int} {p : Int} (hk : 0 < k) (hb : Bytes b) (hp : 0 ≤ p) (hp2 : p ≤ 1000000) (hl : 1 ≤ l.length) : ∃ r, spec_l40Rd_num.f k b p l = some (r, p + 1) ∧ r ∈ l := by
  unfold spec_l40Rd_num.f
  obtain ⟨r, h1, h2, h3⟩ := pick_f (n := (l.length : Int)) hk hb hp hp2
  rw [h1]
  simp only [Option.bind_some]
  have h4 := h3 (by omega)
  rw [if_pos h2, if_pos h4]
  obtain ⟨j, rfl⟩ := Int.eq_ofNat_of_zero_le h2
  exact ⟨_, rfl, by rw [rd_nat]; exact getD_mem l j 0 (by omega)⟩

theorem clone_int_f {l : List Int} (h : l.length ≤ 35184372088832) : impl_clone_int.f l = some l := by
  unfold impl_clone_int.f
  rw [if_pos h]

theorem in_f (n a b : Int) : impl_in.f n a b = some (inB a b n) := by
  unfold impl_in.f inB
  by_cases h : n ≥ a
  · rw [if_pos h]; congr 1; simp; omega
  · rw [if_neg h, decide_eq_false (by omega)]

theorem contains_impl_CubeValid_1 {k : Nat} {l : List Int} (hk : l.length < k) (hm : l.length ≤ 35184372088832) : slices_ContainsFunc_int_int_impl_CubeValid_1.f k l = some (l.any fun x => !(inB 0 2 x)) := by
  unfold slices_ContainsFunc_int_int_impl_CubeValid_1.f slices_IndexFunc_int_int_impl_CubeValid_1.f
  obtain ⟨r, h1, h2⟩ := run_find (fun k i => slices_IndexFunc_int_int_impl_CubeValid_1.l0 k l (l.length : Int) (i : Int)) l 0 (fun x => !(inB 0 2 x)) (by
    intro k i hi
    simp only [slices_IndexFunc_int_int_impl_CubeValid_1.l0]
    rw [if_pos (by omega), if_pos (by omega), if_pos (by omega), rd_nat, wrap_id (by omega) (by omega)]
    unfold impl_CubeValid_1.f
    rw [in_f]
    rfl) (by
    intro k
    simp only [slices_IndexFunc_int_int_impl_CubeValid_1.l0]
    rw [if_neg (by omega)]) k hk
  have h1' : slices_IndexFunc_int_int_impl_CubeValid_1.l0 k l (l.length : Int) 0 = some r := h1
  rw [h1', Option.bind_some, h2]

theorem impl_CubeValid_f {k : Nat} {l : List Int} {a : Int} (hk : l.length < k) (hm : l.length ≤ 35184372088832) : impl_CubeValid.f k l a = some (cubeOK l a) := by
  unfold impl_CubeValid.f cubeOK
  rw [in_f, contains_impl_CubeValid_1 hk hm]
  simp only [Option.bind_some]
  have e : l.all (inB 0 2) = !(l.any fun x => !(inB 0 2 x)) := by simp [List.any_eq_not_all_not]
  rw [e]
  cases inB 0 12 a
  · simp
  · by_cases h : (l.length : Int) = a
    · simp [h]
    · simp [h]

theorem bothCubes_f {k : Nat} {a b : List Int} (hk : a.length < k) (hk2 : b.length < k) (hm : a.length ≤ 35184372088832) (hm2 : b.length ≤ 35184372088832) : impl_bothCubes.f k a b = some (cubeOK a a.length && cubeOK b a.length) := by
  unfold impl_bothCubes.f
  rw [impl_CubeValid_f hk hm, impl_CubeValid_f hk2 hm2]
  simp only [Option.bind_some]
  cases cubeOK a a.length <;> simp

theorem l1In_f (n a b : Int) : spec_l1In.f n a b = some (inB a b n) := by
  unfold spec_l1In.f inB
  by_cases h : n ≥ a
  · rw [if_pos h]; congr 1; simp; omega
  · rw [if_neg h, decide_eq_false (by omega)]

theorem spec_CubeValid_f {k : Nat} {l : List Int} {a : Int} (hk : l.length < k) (hm : l.length ≤ 35184372088832) : spec_CubeValid.f k l a = some (cubeOK l a) := by
  unfold spec_CubeValid.f
  refine (run_allL (fun k i => spec_CubeValid.l0 k l a (i : Int)) l 0 (inB 0 2) (inB 0 12 a && ((l.length : Int) == a)) false ?_ ?_ k hk).trans ?_
  · intro k i hi
    simp only [spec_CubeValid.l0]
    rw [if_pos (by omega), if_pos (by omega), l1In_f, rd_nat, wrap_id (by omega) (by omega)]
    rfl
  · intro k
    simp only [spec_CubeValid.l0]
    rw [if_neg (by omega), l1In_f]
    simp only [Option.bind_some]
    cases inB 0 12 a <;> simp
  · unfold cubeOK
    cases l.all (inB 0 2) <;> simp

theorem l16Two_f {k : Nat} {a b : List Int} (hk : a.length < k) (hk2 : b.length < k) (hm : a.length ≤ 35184372088832) (hm2 : b.length ≤ 35184372088832) : spec_l16Two.f k a b = some (cubeOK a a.length && cubeOK b a.length) := by
  unfold spec_l16Two.f
  rw [spec_CubeValid_f hk hm, spec_CubeValid_f hk2 hm2]
  simp only [Option.bind_some]
  cases cubeOK a a.length <;> simp

theorem wcInts_f {k : Nat} {a b : List Int} (hk : a.length < k) (hm : a.length ≤ 35184372088832) : laws_wcInts.f k a b = some (decide (a = b)) := by
  unfold laws_wcInts.f
  by_cases hab : a.length = b.length
  · rw [if_pos (by omega)]
    refine run_inv (fun k (_ : Unit) i => laws_wcInts.l0 k b a (a.length : Int) (i : Int)) a.length (fun i _ => ∀ j, j < i → a.getD j 0 = b.getD j 0) _ ?_ ?_ k 0 () (Nat.zero_le _) (by omega) (fun j hj => absurd hj (Nat.not_lt_zero j))
    · intro k i _ hi hs
      by_cases e : b.getD i 0 = a.getD i 0
      · refine Or.inr ⟨(), ?_, fun j hj => ?_⟩
        · simp only [laws_wcInts.l0]
          rw [if_pos (by omega), if_pos (by omega), if_pos (by omega), if_pos (by omega), rd_nat, rd_nat, if_pos e, wrap_id (by omega) (by omega)]
          rfl
        · by_cases e2 : j = i
          · rw [e2]; exact e.symm
          · exact hs j (by omega)
      · refine Or.inl ?_
        simp only [laws_wcInts.l0]
        rw [if_pos (by omega), if_pos (by omega), if_pos (by omega), if_pos (by omega), rd_nat, rd_nat, if_neg e, decide_eq_false (fun h => e (by rw [h]))]
    · intro k _ hs
      simp only [laws_wcInts.l0]
      rw [if_neg (by omega), decide_eq_true (ext_getD hab (fun j hj => hs j (by omega)))]
  · rw [if_neg (by omega), decide_eq_false (fun h => hab (by rw [h]))]

theorem contains_impl_bitsValid_1 {k : Nat} {l : List Int} (hk : l.length < k) (hm : l.length ≤ 35184372088832) : slices_ContainsFunc_int_int_impl_bitsValid_1.f k l = some (l.any fun x => !(inB 0 1 x)) := by
  unfold slices_ContainsFunc_int_int_impl_bitsValid_1.f slices_IndexFunc_int_int_impl_bitsValid_1.f
  obtain ⟨r, h1, h2⟩ := run_find (fun k i => slices_IndexFunc_int_int_impl_bitsValid_1.l0 k l (l.length : Int) (i : Int)) l 0 (fun x => !(inB 0 1 x)) (by
    intro k i hi
    simp only [slices_IndexFunc_int_int_impl_bitsValid_1.l0]
    rw [if_pos (by omega), if_pos (by omega), if_pos (by omega), rd_nat, wrap_id (by omega) (by omega)]
    unfold impl_bitsValid_1.f
    rw [in_f]
    rfl) (by
    intro k
    simp only [slices_IndexFunc_int_int_impl_bitsValid_1.l0]
    rw [if_neg (by omega)]) k hk
  have h1' : slices_IndexFunc_int_int_impl_bitsValid_1.l0 k l (l.length : Int) 0 = some r := h1
  rw [h1', Option.bind_some, h2]

theorem impl_bitsValid_f {k : Nat} {l : List Int} (hk : l.length < k) (hm : l.length ≤ 35184372088832) : impl_bitsValid.f k l = some (l.all (inB 0 1)) := by
  unfold impl_bitsValid.f
  rw [contains_impl_bitsValid_1 hk hm]
  simp only [Option.bind_some]
  have e : l.all (inB 0 1) = !(l.any fun x => !(inB 0 1 x)) := by simp [List.any_eq_not_all_not]
  rw [e]

theorem cubeHas_f {k : Nat} {c b : List Int} (hk : c.length < k) (hm : c.length ≤ 35184372088832) (hb : c.length ≤ b.length) : impl_cubeHas.f k c b = some (hasL c b) := by
  unfold impl_cubeHas.f
  refine (run_all (fun k i => impl_cubeHas.l0 k b c (c.length : Int) (i : Int)) c.length (fun i => decide (c.getD i 0 = 2 ∨ c.getD i 0 = b.getD i 0)) true false ?_ ?_ k hk).trans ?_
  · intro k i hi
    simp only [impl_cubeHas.l0]
    rw [if_pos (by omega), if_pos (by omega), if_pos (by omega), wrap_id (by omega) (by omega)]
    simp only [rd_nat]
    by_cases e1 : c.getD i 0 = 2
    · rw [if_pos e1, if_pos (decide_eq_true (.inl e1))]
      rfl
    · rw [if_neg e1, if_pos (by omega)]
      by_cases e2 : c.getD i 0 = b.getD i 0
      · rw [if_pos e2, if_pos (decide_eq_true (.inr e2))]
        rfl
      · rw [if_neg e2, if_neg (fun h => (of_decide_eq_true h).elim e1 e2)]
  · intro k
    simp only [impl_cubeHas.l0]
    rw [if_neg (by omega)]
  · unfold hasL
    by_cases h : ∀ j, j < c.length → c.getD j 0 = 2 ∨ c.getD j 0 = b.getD j 0
    · rw [if_pos (fun j hj => decide_eq_true (h j hj)), decide_eq_true h]
    · rw [if_neg (fun g => h (fun j hj => of_decide_eq_true (g j hj))), decide_eq_false h]

def agreeAt (a b : List Int) (j : Nat) : Bool := a.getD j 0 == 2 || b.getD j 0 == 2 || a.getD j 0 == b.getD j 0
def meetR (a b : List Int) : List Int × Bool := if (cubeOK a a.length && cubeOK b a.length) = true then (if ((List.range a.length).all fun j => agreeAt a b j) = true then (meetL a b, true) else ([], false)) else ([], false)

theorem spec_meet {k : Nat} {a b : List Int} (hk : 3 * a.length + b.length + 10 < k) (hm : a.length ≤ 1048576) (hm2 : b.length ≤ 1048576) :
    spec_CubeMeet.f k a b = some (meetR a b) := by
  unfold spec_CubeMeet.f
  rw [l16Two_f (by omega) (by omega) (by omega) (by omega)]
  simp only [Option.bind_some]
  unfold meetR
  by_cases h : (cubeOK a a.length && cubeOK b a.length) = true
  · rw [if_pos h, if_pos h]
    have hb := (len_of_ok (Bool.and_eq_true_iff.1 h).2).1
    refine run_invC 1 0 (fun k (s : List Int) i => spec_CubeMeet.l0 k a b s (i : Int)) a.length (fun i s => s = (meetL a b).take i ∧ ∀ j, j < i → agreeAt a b j = true) _ ?_ ?_ k 0 [] (Nat.zero_le _) (by omega) ⟨by simp, fun j hj => absurd hj (Nat.not_lt_zero j)⟩
    · rintro k i s hB hi ⟨rfl, hs⟩
      have hl := take_map_range_length (fun j => if a.getD j 0 = 2 then b.getD j 0 else a.getD j 0) a.length i (by omega)
      have c1 : (i : Int) < (a.length : Int) := by omega
      have c2 : (0 : Int) ≤ (i : Int) := by omega
      have c3 : (i : Int) < (b.length : Int) := by omega
      have c4 : (List.take i (meetL a b)).length < 17592186044416 := by unfold meetL; rw [hl]; omega
      simp only [spec_CubeMeet.l0, spec_CubeMeet.j1, if_pos c1, if_pos c2, if_pos c3, if_pos c4, wrap_id (x := (i : Int) + 1) (by omega) (by omega), rd_nat]
      have hnext : ∀ j, agreeAt a b i = true → j < i + 1 → agreeAt a b j = true := by
        intro j hi' hj
        by_cases e : j = i
        · rw [e]; exact hi'
        · exact hs j (by omega)
      by_cases e : a.getD i 0 = 2
      · rw [if_pos e]
        have hag : agreeAt a b i = true := by unfold agreeAt; rw [e]; simp
        refine Or.inr ⟨_, ?_, (take_map_range_succ _ a.length i hi).symm, fun j hj => hnext j hag hj⟩
        rw [if_neg (by decide)]
        try rw [if_pos e]
        try rw [if_pos e]
        rfl
      · rw [if_neg e]
        by_cases e2 : b.getD i 0 = 2
        · rw [if_pos e2]
          have hag : agreeAt a b i = true := by unfold agreeAt; rw [e2]; simp
          refine Or.inr ⟨_, ?_, (take_map_range_succ _ a.length i hi).symm, fun j hj => hnext j hag hj⟩
          rw [if_neg (by decide)]
          try rw [if_neg e]
          try rw [if_neg e]
          rfl
        · rw [if_neg e2]
          by_cases e3 : a.getD i 0 = b.getD i 0
          · have hag : agreeAt a b i = true := by unfold agreeAt; rw [e3]; simp
            refine Or.inr ⟨_, ?_, (take_map_range_succ _ a.length i hi).symm, fun j hj => hnext j hag hj⟩
            rw [if_neg (by simp only [bne_iff_ne, ne_eq]; intro h'; exact h' e3)]
            try rw [if_neg e]
            try rw [if_neg e]
            rfl
          · refine Or.inl ?_
            rw [if_pos (by simpa using e3), if_neg]
            intro hall
            have := (List.all_eq_true.1 hall) i (List.mem_range.2 hi)
            simp only [agreeAt, Bool.or_eq_true, beq_iff_eq] at this
            omega
    · rintro k s _ ⟨rfl, hs⟩
      simp only [spec_CubeMeet.l0, spec_CubeMeet.j1]
      rw [if_neg (by omega), List.take_of_length_le (by rw [meetL_length]; omega), if_pos (List.all_eq_true.2 fun j hj => hs j (List.mem_range.1 hj))]
  · rw [if_neg h, if_neg h]
theorem impl_meet {k : Nat} {a b : List Int} (hk : 3 * a.length + b.length + 10 < k) (hm : a.length ≤ 1048576) (hm2 : b.length ≤ 1048576) :
    impl_CubeMeet.f k a b = some (meetR a b) := by
  unfold impl_CubeMeet.f
  rw [bothCubes_f (by omega) (by omega) (by omega) (by omega)]
  simp only [Option.bind_some]
  unfold meetR
  by_cases h : (cubeOK a a.length && cubeOK b a.length) = true
  · rw [if_pos h, if_pos h, if_pos (by omega), if_pos (by omega)]
    have hb := (len_of_ok (Bool.and_eq_true_iff.1 h).2).1
    have hA := elem_of_ok (Bool.and_eq_true_iff.1 h).1
    have hB := elem_of_ok (Bool.and_eq_true_iff.1 h).2
    refine run_inv (fun k (s : List Int) i => impl_CubeMeet.l0 k a b s (a.length : Int) (i : Int)) a.length (fun i s => s.length = a.length ∧ (∀ j, j < i → s.getD j 0 = (meetL a b).getD j 0) ∧ ∀ j, j < i → agreeAt a b j = true) _ ?_ ?_ k 0 _ (Nat.zero_le _) (by omega) ⟨by simp, fun j hj => absurd hj (Nat.not_lt_zero j), fun j hj => absurd hj (Nat.not_lt_zero j)⟩
    · rintro k i s hi ⟨hl, hs, hg⟩
      have ha := hA i hi
      have hb' := hB i (by omega)
      simp only [impl_CubeMeet.l0]
      rw [if_pos (by omega), if_pos (by omega), if_pos (by omega), if_pos (by omega), if_pos (by omega), wrap_id (x := (i : Int) + 1) (by omega) (by omega)]
      simp only [rd_nat, Option.bind_some]
      have hmeet : mn (a.getD i 0) (b.getD i 0) = (meetL a b).getD i 0 ∨ agreeAt a b i = false := by
        unfold meetL agreeAt mn
        rw [getD_map_range _ _ _ _ hi]
        by_cases e : a.getD i 0 = 2
        · left
          rw [if_pos e]
          split <;> omega
        · rw [if_neg e]
          by_cases e2 : b.getD i 0 = 2
          · left
            split <;> omega
          · by_cases e3 : a.getD i 0 = b.getD i 0
            · left
              split <;> omega
            · right
              simp only [Bool.or_eq_false_iff, beq_eq_false_iff_ne]
              exact ⟨⟨e, e2⟩, e3⟩
      have hmx : mx (a.getD i 0) (b.getD i 0) < 2 ↔ (a.getD i 0 ≠ 2 ∧ b.getD i 0 ≠ 2) := by
        unfold mx
        split <;> omega
      have hgo : agreeAt a b i = true → (s.set ((i : Int)).toNat (mn (a.getD i 0) (b.getD i 0))).length = a.length ∧ (∀ j, j < i + 1 → (s.set ((i : Int)).toNat (mn (a.getD i 0) (b.getD i 0))).getD j 0 = (meetL a b).getD j 0) ∧ ∀ j, j < i + 1 → agreeAt a b j = true := by
        intro hag
        refine ⟨by simpa using hl, fun j hj => ?_, fun j hj => ?_⟩
        · rw [Int.toNat_natCast, getD_set _ _ _ _ _ (by omega)]
          by_cases e : j = i
          · rw [if_pos e, e]
            rcases hmeet with h' | h'
            · exact h'
            · rw [hag] at h'; cases h'
          · rw [if_neg e]
            exact hs j (by omega)
        · by_cases e : j = i
          · rw [e]; exact hag
          · exact hg j (by omega)
      by_cases e : mx (a.getD i 0) (b.getD i 0) < 2
      · rw [if_pos e]
        have e' := hmx.1 e
        by_cases e3 : a.getD i 0 = b.getD i 0
        · rw [if_pos e3]
          exact Or.inr ⟨_, rfl, hgo (by unfold agreeAt; rw [e3]; simp)⟩
        · rw [if_neg e3]
          refine Or.inl ?_
          rw [if_neg]
          intro hall
          have := (List.all_eq_true.1 hall) i (List.mem_range.2 hi)
          simp only [agreeAt, Bool.or_eq_true, beq_iff_eq] at this
          omega
      · rw [if_neg e]
        refine Or.inr ⟨_, rfl, hgo ?_⟩
        have : a.getD i 0 = 2 ∨ b.getD i 0 = 2 := by
          by_cases e1 : a.getD i 0 = 2
          · exact Or.inl e1
          · by_cases e2 : b.getD i 0 = 2
            · exact Or.inr e2
            · exact absurd (hmx.2 ⟨e1, e2⟩) e
        simp only [agreeAt, Bool.or_eq_true, beq_iff_eq]
        omega
    · rintro k s ⟨hl, hs, hg⟩
      simp only [impl_CubeMeet.l0]
      rw [if_neg (by omega), clone_int_f (by omega), ext_getD (d := 0) (s := s) (l := meetL a b) (by rw [meetL_length]; exact hl) (fun j hj => by
        rw [meetL_length] at hj
        exact hs j hj), if_pos (List.all_eq_true.2 fun j hj => hg j (List.mem_range.1 hj))]
      rfl
  · rw [if_neg h, if_neg h]

theorem spec_join {k : Nat} {a b : List Int} (hk : 3 * a.length + b.length + 10 < k) (hm : a.length ≤ 1048576) (hm2 : b.length ≤ 1048576) :
    spec_CubeJoin.f k a b = some (if (cubeOK a a.length && cubeOK b a.length) = true then joinL a b else []) := by
  unfold spec_CubeJoin.f
  by_cases h : (cubeOK a a.length && cubeOK b a.length) = true
  · rw [if_pos h]
    have hb := (len_of_ok (Bool.and_eq_true_iff.1 h).2).1
    refine run_invC 1 (a.length + b.length + 1) (fun k (s : List Int) i => spec_CubeJoin.l0 k a b s (i : Int)) a.length (fun i s => s = (joinL a b).take i) _ ?_ ?_ k 0 [] (Nat.zero_le _) (by omega) (by simp)
    · rintro k i s hB hi rfl
      have hl := take_map_range_length (fun j => if a.getD j 0 = b.getD j 0 then a.getD j 0 else 2) a.length i (by omega)
      refine Or.inr ⟨_, ?_, (take_map_range_succ _ a.length i hi).symm⟩
      simp only [spec_CubeJoin.l0, spec_CubeJoin.j1]
      rw [if_pos (by omega), l16Two_f (by omega) (by omega) (by omega) (by omega), h]
      simp only [Option.bind_some, if_true]
      rw [if_pos (by omega), if_pos (by omega), if_pos (by omega), wrap_id (x := (i : Int) + 1) (by omega) (by omega)]
      simp only [rd_nat]
      unfold joinL
      by_cases e : a.getD i 0 = b.getD i 0
      · rw [if_pos e, if_pos (by rw [hl]; omega), if_pos e]
        rfl
      · rw [if_neg e, if_pos (by rw [hl]; omega), if_neg e]
        rfl
    · rintro k s _ rfl
      simp only [spec_CubeJoin.l0, spec_CubeJoin.j1]
      rw [if_neg (by omega), List.take_of_length_le (by rw [joinL_length]; omega)]
      simp
  · rw [if_neg h]
    obtain ⟨k, rfl⟩ : ∃ m, k = m + 2 := ⟨k - 2, by omega⟩
    simp only [spec_CubeJoin.l0, spec_CubeJoin.j1]
    rw [l16Two_f (by omega) (by omega) (by omega) (by omega), Bool.eq_false_iff.2 h]
    simp
theorem impl_join {k : Nat} {a b : List Int} (hk : 3 * a.length + b.length + 10 < k) (hm : a.length ≤ 1048576) (hm2 : b.length ≤ 1048576) :
    impl_CubeJoin.f k a b = some (if (cubeOK a a.length && cubeOK b a.length) = true then joinL a b else []) := by
  unfold impl_CubeJoin.f
  rw [bothCubes_f (by omega) (by omega) (by omega) (by omega)]
  simp only [Option.bind_some]
  by_cases h : (cubeOK a a.length && cubeOK b a.length) = true
  · rw [if_pos h, if_pos h, clone_int_f (by omega)]
    have hb := (len_of_ok (Bool.and_eq_true_iff.1 h).2).1
    simp only [Option.bind_some]
    refine run_inv (fun k (s : List Int) i => impl_CubeJoin.l0 k a b s (a.length : Int) (i : Int)) a.length (fun i s => s.length = a.length ∧ ∀ j, j < a.length → s.getD j 0 = if j < i then (joinL a b).getD j 0 else a.getD j 0) _ ?_ ?_ k 0 a (Nat.zero_le _) (by omega) ⟨rfl, fun j _ => by rw [if_neg (by omega)]⟩
    · rintro k i s hi ⟨hl, hs⟩
      simp only [impl_CubeJoin.l0]
      rw [if_pos (by omega), if_pos (by omega), if_pos (by omega), if_pos (by omega), wrap_id (x := (i : Int) + 1) (by omega) (by omega)]
      simp only [rd_nat]
      by_cases e : a.getD i 0 = b.getD i 0
      · refine Or.inr ⟨s, by rw [if_pos e]; rfl, hl, fun j hj => ?_⟩
        rw [hs j hj]
        by_cases e1 : j < i
        · rw [if_pos e1, if_pos (by omega)]
        · by_cases e2 : j = i
          · subst e2
            rw [if_neg e1, if_pos (by omega)]
            unfold joinL
            rw [getD_map_range _ _ _ _ hi, if_pos e]
          · rw [if_neg e1, if_neg (by omega)]
      · refine Or.inr ⟨s.set i 2, by rw [if_neg e, if_pos (by omega)]; rfl, by simpa using hl, fun j hj => ?_⟩
        rw [getD_set _ _ _ _ _ (by omega)]
        by_cases e2 : j = i
        · subst e2
          rw [if_pos rfl, if_pos (by omega)]
          unfold joinL
          rw [getD_map_range _ _ _ _ hi, if_neg e]
        · rw [if_neg e2, hs j hj]
          by_cases e1 : j < i
          · rw [if_pos e1, if_pos (by omega)]
          · rw [if_neg e1, if_neg (by omega)]
    · rintro k s ⟨hl, hs⟩
      simp only [impl_CubeJoin.l0]
      rw [if_neg (by omega), ext_getD (d := 0) (s := s) (l := joinL a b) (by rw [joinL_length]; exact hl) (fun j hj => by
        rw [joinL_length] at hj
        rw [hs j hj, if_pos hj])]
  · rw [if_neg h, if_neg h]

def stepC (n x : Int) : Int := if x = 2 then wrap64 (n * 2) else n
theorem stepC_two {n x : Int} (h : x = 2) : stepC n x = wrap64 (n * 2) := if_pos h
theorem stepC_other {n x : Int} (h : ¬ x = 2) : stepC n x = n := if_neg h
theorem spec_CubeSize_l {k : Nat} {l : List Int} (hk : l.length < k) (hm : l.length ≤ 35184372088832) : spec_CubeSize.l0 k l 1 0 = some (l.foldl stepC 1) := by
  refine run_inv (fun k (s : Int) i => spec_CubeSize.l0 k l s (i : Int)) l.length (fun i s => s = (l.take i).foldl stepC 1) _ ?_ ?_ k 0 _ (Nat.zero_le _) (by omega) rfl
  · rintro k i s hi rfl
    refine Or.inr ⟨_, ?_, (foldl_take_succ stepC 1 l 0 i hi).symm⟩
    simp only [spec_CubeSize.l0]
    rw [if_pos (by omega), if_pos (by omega), rd_nat, wrap_id (x := (i : Int) + 1) (by omega) (by omega)]
    by_cases e : l.getD i 0 = 2
    · rw [if_pos e, stepC_two e]
      rfl
    · rw [if_neg e, stepC_other e]
      rfl
  · rintro k s rfl
    simp only [spec_CubeSize.l0]
    rw [if_neg (by omega), List.take_length]
theorem impl_CubeSize_l {k : Nat} {l : List Int} (hk : l.length < k) (hm : l.length ≤ 35184372088832) (hok : l.all (inB 0 2) = true) : impl_CubeSize.l0 k 1 l (l.length : Int) 0 = some (l.foldl stepC 1) := by
  refine run_inv (fun k (s : Int) i => impl_CubeSize.l0 k s l (l.length : Int) (i : Int)) l.length (fun i s => s = (l.take i).foldl stepC 1 ∧ -9223372036854775808 ≤ s ∧ s ≤ 9223372036854775807) _ ?_ ?_ k 0 _ (Nat.zero_le _) (by omega) ⟨rfl, by omega, by omega⟩
  · rintro k i s hi ⟨rfl, h0, h1⟩
    have hx := (all_getD l 0 (inB 0 2)).2 hok i hi
    unfold inB at hx
    have hx := of_decide_eq_true hx
    have e1 : wrap64 (1 + wrap64 (Int.tdiv (l.getD i 0) 2)) = if l.getD i 0 = 2 then 2 else 1 := by
      have : l.getD i 0 = 0 ∨ l.getD i 0 = 1 ∨ l.getD i 0 = 2 := by omega
      rcases this with h | h | h
      · rw [h, if_neg (by omega), show Int.tdiv 0 2 = 0 from rfl, wrap_id (x := 0) (by omega) (by omega), wrap_id (by omega) (by omega)]
        rfl
      · rw [h, if_neg (by omega), show Int.tdiv 1 2 = 0 from rfl, wrap_id (x := 0) (by omega) (by omega), wrap_id (by omega) (by omega)]
        rfl
      · rw [h, if_pos rfl, show Int.tdiv 2 2 = 1 from rfl, wrap_id (x := 1) (by omega) (by omega), wrap_id (by omega) (by omega)]
        rfl
    refine Or.inr ⟨_, ?_, (foldl_take_succ stepC 1 l 0 i hi).symm, ?_⟩
    · simp only [impl_CubeSize.l0]
      rw [if_pos (by omega), if_pos (by omega), if_pos (by omega), rd_nat, e1, wrap_id (x := (i : Int) + 1) (by omega) (by omega)]
      by_cases e : l.getD i 0 = 2
      · rw [if_pos e, stepC_two e]
        rfl
      · rw [if_neg e, stepC_other e, Int.mul_one, wrap_id (x := List.foldl _ _ _) h0 h1]
        rfl
    · by_cases e : l.getD i 0 = 2
      · rw [stepC_two e]
        exact wrap_range _
      · rw [stepC_other e]
        exact ⟨h0, h1⟩
  · rintro k s ⟨rfl, _⟩
    simp only [impl_CubeSize.l0]
    rw [if_neg (by omega), List.take_length]


def sizeR (l : List Int) : Int := if cubeOK l l.length = true then l.foldl stepC 1 else -1
theorem sizes {k : Nat} {l : List Int} (hk : l.length < k) (hm : l.length ≤ 35184372088832) : spec_CubeSize.f k l = some (sizeR l) ∧ impl_CubeSize.f k l = some (sizeR l) := by
  unfold spec_CubeSize.f impl_CubeSize.f sizeR
  rw [spec_CubeValid_f hk hm, impl_CubeValid_f hk hm]
  simp only [Option.bind_some]
  by_cases h : cubeOK l l.length = true
  · rw [if_pos h, if_pos h, if_pos h, spec_CubeSize_l hk hm, impl_CubeSize_l hk hm (by
      unfold cubeOK at h
      exact (Bool.and_eq_true_iff.1 (Bool.and_eq_true_iff.1 h).1).1)]
    exact ⟨rfl, rfl⟩
  · rw [if_neg h, if_neg h, if_neg h]
    exact ⟨rfl, rfl⟩
theorem size_pos {l : List Int} (h : cubeOK l l.length = true) : 0 ≤ sizeR l := by
  have hb := len_of_ok h
  unfold sizeR
  rw [if_pos h]
  have key : ∀ i, i ≤ l.length → 1 ≤ (l.take i).foldl stepC 1 ∧ (l.take i).foldl stepC 1 ≤ 2 ^ i := by
    intro i
    induction i with
    | zero => intro _; exact ⟨by simp, by simp⟩
    | succ i ih =>
      intro hi
      obtain ⟨h1, h2⟩ := ih (by omega)
      have hp := pow_le_int i 12 (by omega)
      rw [foldl_take_succ stepC 1 l 0 i (by omega), Int.pow_succ]
      generalize (l.take i).foldl stepC 1 = q at h1 h2 ⊢
      unfold stepC
      split
      · rw [wrap_id (by omega) (by omega)]
        omega
      · omega
  have h1 := (key l.length (Nat.le_refl _)).1
  rw [List.take_length] at h1
  omega
theorem CubeHas_f {k : Nat} {a b : List Int} (hk : a.length < k) (hk2 : b.length < k) (hm : a.length ≤ 35184372088832) (hm2 : b.length ≤ 35184372088832) (h : cubeOK a b.length = true) (hv : b.all (inB 0 1) = true) : impl_CubeHas.f k a b = some (hasL a b) := by
  unfold impl_CubeHas.f
  have hb := len_of_ok h
  rw [impl_CubeValid_f hk hm, impl_bitsValid_f hk2 hm2, h, hv]
  simp only [Option.bind_some, if_true]
  rw [cubeHas_f hk hm (by omega)]
  rfl
theorem CubeInside_f {k : Nat} {a b : List Int} (hk : a.length < k) (hk2 : b.length < k) (hm : a.length ≤ 35184372088832) (hm2 : b.length ≤ 35184372088832) (h : cubeOK a a.length = true) (h' : cubeOK b a.length = true) : impl_CubeInside.f k a b = some (hasL b a) := by
  unfold impl_CubeInside.f
  have hb := len_of_ok h'
  rw [bothCubes_f hk hk2 hm hm2, h, h']
  simp only [Option.bind_some, Bool.and_self, if_true]
  rw [cubeHas_f hk2 hm2 (by omega)]
  rfl
theorem ok_of {l : List Int} {n : Nat} (hl : l.length = n) (hn : n ≤ 12) (h : ∀ j, j < n → l.getD j 0 = 0 ∨ l.getD j 0 = 1 ∨ l.getD j 0 = 2) : cubeOK l n = true := by
  unfold cubeOK
  have h1 : l.all (inB 0 2) = true := (all_getD l 0 (inB 0 2)).1 (fun j hj => decide_eq_true (by have := h j (by omega); omega))
  rw [h1]
  unfold inB
  simp
  omega
/-- The point whose bits are x's, the lowest first. -/
def pt (x : Nat) (m : Nat) : List Int := (List.range m).map fun i : Nat => (x : Int) / 2 ^ i % 2
theorem pt_length (x m : Nat) : (pt x m).length = m := by simp [pt]
theorem pt_all (x m : Nat) : (pt x m).all (inB 0 1) = true := by
  unfold pt
  refine List.all_eq_true.2 fun y hy => ?_
  obtain ⟨i, _, rfl⟩ := List.mem_map.1 hy
  exact decide_eq_true (by omega)
theorem has_iff (c v : List Int) : hasL c v = true ↔ ∀ j, j < c.length → c.getD j 0 = 2 ∨ c.getD j 0 = v.getD j 0 := by
  unfold hasL
  exact decide_eq_true_iff
theorem inner {k x : Nat} {a b M J : List Int} {f : Bool} {y z : Int} (hm : a.length ≤ 60) :
    laws_FnCubeMeet.l1 (k + (a.length + 1)) a b M f J (x : Int) [] y z (a.length : Int) 0 = laws_FnCubeMeet.l1 (k + 1) a b M f J (x : Int) (pt x a.length) y z (a.length : Int) (a.length : Int) := by
  refine run_goto (fun k (s : List Int) i => laws_FnCubeMeet.l1 k a b M f J (x : Int) s y z (a.length : Int) (i : Int)) a.length (fun i s => s = (pt x a.length).take i) (fun k => laws_FnCubeMeet.l1 (k + 1) a b M f J (x : Int) (pt x a.length) y z (a.length : Int) (a.length : Int)) ?_ ?_ a.length k 0 [] (by omega) (by simp)
  · rintro k i s hi rfl
    have hl := take_map_range_length (fun i : Nat => (x : Int) / 2 ^ i % 2) a.length i (by omega)
    refine ⟨_, ?_, (take_map_range_succ (fun i : Nat => (x : Int) / 2 ^ i % 2) a.length i hi).symm⟩
    simp only [laws_FnCubeMeet.l1]
    rw [if_pos (by omega), if_pos (by omega), if_pos (by unfold pt; rw [hl]; omega), wrap_id (x := (i : Int) + 1) (by omega) (by omega), shr_nat _ _ (by omega), Int.tmod_eq_emod_of_nonneg (Int.ediv_nonneg (by omega) (Int.le_of_lt (pow_pos_int _)))]
    rfl
  · rintro k s rfl
    rw [List.take_of_length_le (by rw [pt_length]; omega)]
theorem cube_law {k : Nat} {a b : List Int} (hk : (2 ^ a.length + 1) * (a.length + 2) + 200 < k) (h : (cubeOK a a.length && cubeOK b a.length) = true) :
    laws_FnCubeMeet.l0 k a b (meetR a b).1 (meetR a b).2 (joinL a b) (shl .i64 1 (a.length : Int)) 0 = some true := by
  have hA := (Bool.and_eq_true_iff.1 h).1
  have hB := (Bool.and_eq_true_iff.1 h).2
  have hla := len_of_ok hA
  have hlb := len_of_ok hB
  have eA := elem_of_ok hA
  have eB := elem_of_ok hB
  rw [shl_one a.length (by omega)]
  have hp : 2 ^ a.length ≤ 4096 := Nat.pow_le_pow_right (show 0 < 2 by decide) (show a.length ≤ 12 by omega)
  have hJ : cubeOK (joinL a b) a.length = true := ok_of (joinL_length a b) (by omega) (fun j hj => by
    unfold joinL
    rw [getD_map_range _ _ _ _ hj]
    have := eA j hj
    split <;> omega)
  have hJv : ∀ v : List Int, hasL a v = true ∨ hasL b v = true → hasL (joinL a b) v = true := by
    intro v hv
    rw [has_iff]
    intro j hj
    rw [joinL_length] at hj
    unfold joinL
    rw [getD_map_range _ _ _ _ hj]
    by_cases e : a.getD j 0 = b.getD j 0
    · rw [if_pos e]
      rcases hv with hv | hv
      · exact (has_iff a v).1 hv j hj
      · rw [e]
        exact (has_iff b v).1 hv j (by omega)
    · rw [if_neg e]
      exact Or.inl rfl
  have hM : (meetR a b).2 = true → meetR a b = (meetL a b, true) ∧ ∀ j, j < a.length → agreeAt a b j = true := by
    intro hf
    unfold meetR at hf ⊢
    rw [if_pos h] at hf ⊢
    by_cases e : ((List.range a.length).all fun j => agreeAt a b j) = true
    · rw [if_pos e]
      exact ⟨rfl, fun j hj => (List.all_eq_true.1 e) j (List.mem_range.2 hj)⟩
    · rw [if_neg e] at hf
      cases hf
  have hMok : cubeOK (meetL a b) a.length = true := ok_of (meetL_length a b) (by omega) (fun j hj => by
    unfold meetL
    rw [getD_map_range _ _ _ _ hj]
    have := eA j hj
    have := eB j (by omega)
    split <;> omega)
  have hMv : (meetR a b).2 = true → ∀ v : List Int, hasL (meetL a b) v = (hasL a v && hasL b v) := by
    intro hf v
    have hag := (hM hf).2
    rw [Bool.eq_iff_iff, Bool.and_eq_true, has_iff, has_iff, has_iff, meetL_length]
    have hkey : ∀ j, j < a.length → (((meetL a b).getD j 0 = 2 ∨ (meetL a b).getD j 0 = v.getD j 0) ↔ ((a.getD j 0 = 2 ∨ a.getD j 0 = v.getD j 0) ∧ (b.getD j 0 = 2 ∨ b.getD j 0 = v.getD j 0))) := by
      intro j hj
      have h1 := hag j hj
      simp only [agreeAt, Bool.or_eq_true, beq_iff_eq] at h1
      unfold meetL
      rw [getD_map_range _ _ _ _ hj]
      split <;> omega
    constructor
    · intro h1
      exact ⟨fun j hj => ((hkey j hj).1 (h1 j hj)).1, fun j hj => ((hkey j (by omega)).1 (h1 j (by omega))).2⟩
    · rintro ⟨h1, h2⟩ j hj
      exact (hkey j hj).2 ⟨h1 j hj, h2 j (by omega)⟩
  have hMn : (meetR a b).2 = false → ∀ v : List Int, hasL a v = true → hasL b v = false := by
    intro hf v hav
    unfold meetR at hf
    rw [if_pos h] at hf
    by_cases e : ((List.range a.length).all fun j => agreeAt a b j) = true
    · rw [if_pos e] at hf
      cases hf
    · rw [Bool.eq_false_iff]
      intro hbv
      refine e (List.all_eq_true.2 fun j hj => ?_)
      have hj' := List.mem_range.1 hj
      have h1 := (has_iff a v).1 hav j hj'
      have h2 := (has_iff b v).1 hbv j (by omega)
      simp only [agreeAt, Bool.or_eq_true, beq_iff_eq]
      omega
  refine run_invC (a.length + 1) 100 (fun k (_ : Unit) i => laws_FnCubeMeet.l0 k a b (meetR a b).1 (meetR a b).2 (joinL a b) (2 ^ a.length) (i : Int)) (2 ^ a.length) (fun _ _ => True) _ ?_ ?_ k 0 () (Nat.zero_le _) (by simp only [Nat.sub_zero]; have hk' : (2 ^ a.length + 1) * (a.length + 1 + 1) + 200 < k := hk; omega) trivial
  · intro k x _ hBk hx _
    refine Or.inr ⟨(), ?_, trivial⟩
    show laws_FnCubeMeet.l0 (k + (a.length + 1) + 1) a b (meetR a b).1 (meetR a b).2 (joinL a b) (2 ^ a.length) (x : Int) = laws_FnCubeMeet.l0 k a b (meetR a b).1 (meetR a b).2 (joinL a b) (2 ^ a.length) ((x : Int) + 1)
    simp only [laws_FnCubeMeet.l0]
    rw [if_pos (by exact_mod_cast hx), inner (by omega)]
    simp only [laws_FnCubeMeet.l1]
    have hlv := pt_length x a.length
    have hva := pt_all x a.length
    generalize pt x a.length = v at hlv hva ⊢
    have hlM : (meetL a b).length = a.length := meetL_length a b
    have hlJ : (joinL a b).length = a.length := joinL_length a b
    rw [if_neg (by omega), CubeHas_f (by omega) (by omega) (by omega) (by omega) (by rw [hlv]; exact hA) hva, CubeHas_f (a := b) (by omega) (by omega) (by omega) (by omega) (by rw [hlv]; exact hB) hva, CubeHas_f (a := joinL a b) (by omega) (by omega) (by omega) (by omega) (by rw [hlv]; exact hJ) hva, wrap_id (x := (x : Int) + 1) (by omega) (by omega)]
    simp only [Option.bind_some]
    cases hf : (meetR a b).2
    · have h1 := hMn hf v
      cases ha : hasL a v
      · cases hb : hasL b v
        · simp
        · rw [hJv v (Or.inr hb)]
          simp
      · rw [h1 ha, hJv v (Or.inl ha)]
        simp
    · have h1 := hMv hf v
      rw [(hM hf).1]
      simp only [if_true]
      rw [CubeHas_f (a := meetL a b) (by omega) (by omega) (by omega) (by omega) (by rw [hlv]; exact hMok) hva, h1]
      simp only [Option.bind_some]
      cases ha : hasL a v
      · cases hb : hasL b v
        · simp
        · rw [hJv v (Or.inr hb)]
          simp
      · rw [hJv v (Or.inl ha)]
        cases hb : hasL b v
        · simp
        · simp
  · intro k _ hBk _
    show laws_FnCubeMeet.l0 (k + (a.length + 1) + 1) a b (meetR a b).1 (meetR a b).2 (joinL a b) (2 ^ a.length) ((2 ^ a.length : Nat) : Int) = _
    simp only [laws_FnCubeMeet.l0]
    have hlM : (meetL a b).length = a.length := meetL_length a b
    have hlJ : (joinL a b).length = a.length := joinL_length a b
    have hin1 : hasL (joinL a b) a = true := by
      rw [has_iff]
      intro j hj
      rw [joinL_length] at hj
      unfold joinL
      rw [getD_map_range _ _ _ _ hj]
      split
      · exact Or.inr rfl
      · exact Or.inl rfl
    have hin2 : hasL (joinL a b) b = true := by
      rw [has_iff]
      intro j hj
      rw [joinL_length] at hj
      unfold joinL
      rw [getD_map_range _ _ _ _ hj]
      split
      · rename_i e
        exact Or.inr e
      · exact Or.inl rfl
    have hin3 : hasL a (meetL a b) = true := by
      rw [has_iff]
      intro j hj
      unfold meetL
      rw [getD_map_range _ _ _ _ hj]
      split
      · rename_i e
        exact Or.inl e
      · exact Or.inr rfl
    have elb : b.length = a.length := by omega
    rw [if_neg (by simp), CubeInside_f (by omega) (by omega) (by omega) (by omega) hA hJ, CubeInside_f (a := b) (by omega) (by omega) (by omega) (by omega) (by rw [elb]; exact hB) (by rw [elb]; exact hJ), hin1, hin2]
    simp only [Option.bind_some, if_true]
    cases hf : (meetR a b).2
    · simp
    · rw [(hM hf).1]
      simp only [if_true]
      rw [CubeInside_f (a := meetL a b) (by omega) (by omega) (by omega) (by omega) (by rw [hlM]; exact hMok) (by rw [hlM]; exact hA), hin3]
      rfl
theorem some_f {k : Nat} {b : List Int} {p : Int} {n : Nat} (hk : n + 10 < k) (hb : Bytes b) (hp : 0 ≤ p) (hp2 : p ≤ 1000) (hn : n ≤ 10) : ∃ r, spec_l16Some.f k b p (n : Int) = some r ∧ (r.1.length ≤ 20 ∧ 0 ≤ r.2 ∧ r.2 ≤ p + 20) := by
  unfold spec_l16Some.f
  refine run_ex2 (fun k (s : List Int × Int) i => spec_l16Some.l0 k (n : Int) s.1 (i : Int) b s.2) n (fun i s => s.1.length = i ∧ s.2 = p + (i : Int)) _ ?_ ?_ k 0 ([], p) (Nat.zero_le _) (by omega) ⟨rfl, by simp⟩
  · rintro k i ⟨s, q⟩ hk hi ⟨h1, h2⟩
    simp only at h1 h2
    subst h2
    obtain ⟨r, e1, -⟩ := num_f (k := k) (b := b) (l := [0, 1, 2, 2]) (p := p + (i : Int)) hk hb (by omega) (by omega) (by simp)
    refine ⟨(s ++ [r], p + (i : Int) + 1), ?_, by simp [h1], by simp only [Int.natCast_add]; omega⟩
    simp only [spec_l16Some.l0]
    rw [if_pos (by omega), e1]
    simp only [Option.bind_some]
    rw [if_pos (by omega), wrap_id (x := (i : Int) + 1) (by omega) (by omega)]
    rfl
  · rintro k ⟨s, q⟩ hk ⟨h1, h2⟩
    simp only at h1 h2
    subst h2
    simp only [spec_l16Some.l0]
    rw [if_neg (by omega)]
    obtain ⟨r, e1, -⟩ := pick_f (k := k) (b := b) (p := p + (n : Int)) (n := 14) hk hb (by omega) (by omega)
    rw [e1]
    simp only [Option.bind_some]
    by_cases e : r = 0
    · rw [if_pos e]
      obtain ⟨r2, e2, -⟩ := num_f (k := k) (b := b) (l := [0, 2, 3, (-1)]) (p := p + (n : Int) + 1) hk hb (by omega) (by omega) (by simp)
      rw [e2]
      simp only [Option.bind_some]
      rw [if_pos (by omega)]
      exact ⟨_, rfl, by simp; omega, by omega, by omega⟩
    · rw [if_neg e]
      exact ⟨_, rfl, by simp; omega, by omega, by omega⟩
theorem draw_f {k : Nat} {l : List Int} (hk : 100 < k) (hw : ∀ x ∈ l, (Lit.int .u8 x).wf = true) : ∃ r, spec_DrawCubeMeet.f k l = some r ∧ r.1.length ≤ 20 ∧ r.2.length ≤ 20 := by
  unfold spec_DrawCubeMeet.f spec_l16Pair.f
  obtain ⟨b, hb, hb'⟩ := open_f hw
  rw [hb]
  simp only [Option.bind_some]
  obtain ⟨n, e1, hn⟩ := num_f (k := k) (b := b) (l := [1, 2, 3, 5, 0]) (p := 0) (by omega) hb' (by omega) (by omega) (by simp)
  rw [e1]
  simp only [Option.bind_some]
  have hn' : 0 ≤ n ∧ n ≤ 5 := by
    simp at hn
    omega
  obtain ⟨m, rfl⟩ : ∃ m : Nat, n = (m : Int) := ⟨n.toNat, by omega⟩
  obtain ⟨⟨s, p⟩, e2, h1, h2, h3⟩ := some_f (k := k) (b := b) (p := 0 + 1) (n := m) (by omega) hb' (by omega) (by omega) (by omega)
  simp only at h1 h2 h3
  rw [e2]
  simp only [Option.bind_some]
  obtain ⟨r, e3, -⟩ := pick_f (k := k) (b := b) (p := p) (n := 3) (by omega) hb' (by omega) (by omega)
  rw [e3]
  simp only [Option.bind_some]
  by_cases e : r = 0
  · rw [if_pos e, l3Copy_f (by omega) (by omega)]
    simp only [Option.bind_some]
    by_cases hs : (s.length : Int) > 0
    · rw [if_pos hs]
      obtain ⟨j, e4, h4, h5⟩ := pick_f (k := k) (b := b) (p := p + 1) (n := (s.length : Int)) (by omega) hb' (by omega) (by omega)
      rw [e4]
      simp only [Option.bind_some]
      rw [if_pos h4, if_pos (h5 (by omega))]
      exact ⟨_, rfl, by omega, by simp; omega⟩
    · rw [if_neg hs]
      exact ⟨_, rfl, by omega, by omega⟩
  · rw [if_neg e]
    obtain ⟨⟨s2, p2⟩, e4, h4, -, -⟩ := some_f (k := k) (b := b) (p := p + 1) (n := m) (by omega) hb' (by omega) (by omega) (by omega)
    rw [e4]
    exact ⟨_, rfl, h1, h4⟩

theorem FnCubeMeet : laws_FnCubeMeet.Pure := by
  intro l hl hl8 hw
  refine ⟨2000000000000, ?_⟩
  unfold laws_FnCubeMeet.f
  by_cases h : (l.length : Int) > 1048576
  · rw [if_pos h]
  · rw [if_neg h]
    obtain ⟨⟨a, b⟩, hd, ha, hb⟩ := draw_f (k := 2000000000000) (by omega) hw
    simp only at ha hb
    rw [hd]
    simp only [Option.bind_some]
    rw [impl_meet (by omega) (by omega) (by omega), spec_meet (by omega) (by omega) (by omega), impl_join (by omega) (by omega) (by omega), spec_join (by omega) (by omega) (by omega), (sizes (by omega) (by omega)).1, (sizes (l := a) (by omega) (by omega)).2]
    have hRl : (meetR a b).1.length ≤ 20 := by
      unfold meetR
      split
      · split
        · rw [meetL_length]; omega
        · simp
      · simp
    have hJl : (if (cubeOK a a.length && cubeOK b a.length) = true then joinL a b else []).length ≤ 20 := by
      split
      · rw [joinL_length]; omega
      · simp
    simp only [Option.bind_some, bne_self_eq_false, Bool.false_eq_true, if_false]
    rw [wcInts_f (by omega) (by omega)]
    simp only [Option.bind_some, decide_true, if_true]
    rw [wcInts_f (by omega) (by omega)]
    simp only [Option.bind_some, decide_true, if_true, laws_FnCubeMeet.j0, Bool.false_eq_true, if_false]
    rw [(sizes (l := a) (by omega) (by omega)).2, impl_CubeValid_f (by omega) (by omega)]
    simp only [Option.bind_some, laws_FnCubeMeet.j1]
    by_cases hok : (cubeOK a a.length && cubeOK b a.length) = true
    · have hA := (Bool.and_eq_true_iff.1 hok).1
      have hB := (Bool.and_eq_true_iff.1 hok).2
      have hs := size_pos hA
      have hla := len_of_ok hA
      rw [if_pos hok, if_neg (by omega), hB]
      simp only [Bool.not_true, Bool.false_eq_true, if_false]
      refine cube_law ?_ hok
      have hp : 2 ^ a.length ≤ 2 ^ 12 := Nat.pow_le_pow_right (show 0 < 2 by decide) (show a.length ≤ 12 by omega)
      have : (2 ^ a.length + 1) * (a.length + 2) ≤ (2 ^ 12 + 1) * (12 + 2) := Nat.mul_le_mul (by omega) (by omega)
      omega
    · have hM : meetR a b = ([], false) := by unfold meetR; rw [if_neg hok]
      rw [if_neg hok, hM]
      by_cases hA : cubeOK a a.length = true
      · have hB : cubeOK b a.length = false := by
          rw [hA, Bool.true_and] at hok
          exact Bool.eq_false_iff.2 hok
        rw [hB]
        have hs := size_pos hA
        rw [if_neg (by omega)]
        simp
      · unfold sizeR
        rw [if_neg hA, if_pos (by omega)]
        simp

end Go.Proofs.Ytbjkjoicecmmpac.Pure
