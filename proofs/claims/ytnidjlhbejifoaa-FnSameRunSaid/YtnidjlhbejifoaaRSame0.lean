/- What is drawn of some bytes, told as relations: a call ends, and there are some values that the memory holds.
Conditions: each theorem's own. -/
import Derived.Test.YtnidjlhbejifoaaXFnSameRunx1
import Derived.Test.YtnidjlhbejifoaaXLib2
namespace Go.Proofs.Ytnidjlhbejifoaa.XFnSameRun
open Go.RowKit Go.Proofs.YtnidjlhbejifoaaW.PrintWords Go.Proofs.YtnidjlhbejifoaaW.PrintLast Go.Proofs.YtnidjlhbejifoaaW.PrintMore Go.Proofs.YtnidjlhbejifoaaX
set_option linter.unusedVariables false
set_option linter.unusedSimpArgs false

theorem xor_nat64 {x y : Int} (hx : 0 ≤ x) (hx2 : x < 4611686018427387904) (hy : 0 ≤ y) (hy2 : y < 4611686018427387904) : 0 ≤ Go.bits .xor .i64 x y ∧ Go.bits .xor .i64 x y < 4611686018427387904 := by
 obtain ⟨a, rfl⟩ := Int.eq_ofNat_of_zero_le hx
 obtain ⟨b, rfl⟩ := Int.eq_ofNat_of_zero_le hy
 have h1 : (BitVec.ofInt 64 (a : Int)).toNat = a := by
  rw [BitVec.toNat_ofInt]
  omega
 have h2 : (BitVec.ofInt 64 (b : Int)).toNat = b := by
  rw [BitVec.toNat_ofInt]
  omega
 have h3 : a ^^^ b < 2 ^ 62 := Nat.xor_lt_two_pow (by omega) (by omega)
 have h4 : Go.bits .xor .i64 (a : Int) (b : Int) = IntKind.i64.wrap ((a ^^^ b : Nat) : Int) := by
  show IntKind.i64.wrap (((BitVec.ofInt 64 (a : Int) ^^^ BitVec.ofInt 64 (b : Int)).toNat : Nat) : Int) = _
  rw [BitVec.toNat_xor, h1, h2]
 rw [h4, IntKind.wrap_i64]
 omega
theorem tmod_in {x n : Int} (hx : 0 ≤ x) (hn : 1 ≤ n) : 0 ≤ Int.tmod x n ∧ Int.tmod x n < n := ⟨Int.tmod_nonneg _ hx, Int.tmod_lt_of_pos _ (by omega)⟩
/-- What is drawn of some bytes: a number below the bound that is asked, or 0. -/
def Bytes (b : List Int) : Prop := b.length ≤ 2000 ∧ ∀ x ∈ b, 0 ≤ x ∧ x < 256
theorem rd_byte {b : List Int} (hb : Bytes b) {i : Int} (h0 : 0 ≤ i) (h1 : i < (b.length : Int)) : 0 ≤ rd b i ∧ rd b i < 256 := by
 obtain ⟨j, rfl⟩ := Int.eq_ofNat_of_zero_le h0
 rw [rd_nat]
 exact hb.2 _ (getD_mem b j 0 (by omega))
theorem pick_f {k : Nat} {b : List Int} {p n : Int} (hk : 0 < k) (hb : Bytes b) (hp : 0 ≤ p) (hp2 : p ≤ 1000000) : ∃ r, spec_l40Rd_pick.f k b p n = some (r, p + 1) ∧ 0 ≤ r ∧ (1 ≤ n → r < n) := by
 obtain ⟨k, rfl⟩ : ∃ m, k = m + 1 := ⟨k - 1, by omega⟩
 have hl := hb.1
 have e1 : wrap64 (p + 1) = p + 1 := wrap_id (by omega) (by omega)
 unfold spec_l40Rd_pick.f
 rw [e1]
 by_cases hn : n < 1
 ·rw [if_pos hn]
  exact ⟨0, by simp only [spec_l40Rd_pick.j0, if_true], Int.le_refl _, fun h => absurd hn (by omega)⟩
 ·rw [if_neg hn]
  by_cases h0 : b.length = 0
  ·have h1 : ((b.length : Int) == 0) = true := by simp [h0]
   rw [h1]
   exact ⟨0, by simp only [spec_l40Rd_pick.j0, if_true], Int.le_refl _, fun h => by omega⟩
  ·have h1 : ((b.length : Int) == 0) = false := by simpa using h0
   have e2 : wrap64 (p + 1 - 1) = p := by rw [show p + 1 - 1 = p from by omega]; exact wrap_id (by omega) (by omega)
   have hn0 : ¬ n = 0 := by omega
   rw [h1]
   simp only [spec_l40Rd_pick.j0, Bool.false_eq_true, if_false, e2, if_neg hn0]
   by_cases h2 : p < (b.length : Int)
   ·have h3 := rd_byte hb hp h2
    rw [if_pos h2, if_pos hp, wrap_id (x := rd b p) (by omega) (by omega)]
    have h4 := tmod_in h3.1 (show 1 ≤ n by omega)
    exact ⟨_, rfl, h4.1, fun _ => h4.2⟩
   ·have hl0 : ¬ (b.length : Int) = 0 := by omega
    have h3 := tmod_in hp (show 1 ≤ (b.length : Int) by omega)
    have e3 : wrap64 (wrap64 (p * 7) + 3) = p * 7 + 3 := by rw [wrap_id (x := p * 7) (by omega) (by omega)]; exact wrap_id (by omega) (by omega)
    have h4 := tmod_in (show 0 ≤ p * 7 + 3 by omega) (show 1 ≤ (b.length : Int) by omega)
    rw [e3]
    generalize Int.tmod (p * 7 + 3) (b.length : Int) = j at h4 ⊢
    generalize Int.tmod p (b.length : Int) = i at h3 ⊢
    rw [if_neg h2, if_neg hl0, if_pos h3.1, if_pos h3.2, if_pos h4.1, if_pos h4.2]
    have h5 := rd_byte hb h3.1 h3.2
    have h6 := rd_byte hb h4.1 h4.2
    generalize rd b i = u at h5 ⊢
    generalize rd b j = v at h6 ⊢
    have h7 : 0 ≤ Int.tdiv p (b.length : Int) ∧ Int.tdiv p (b.length : Int) ≤ p := by
     rw [Int.tdiv_eq_ediv_of_nonneg hp]
     exact ⟨Int.ediv_nonneg hp (by omega), Int.ediv_le_self _ hp⟩
    generalize Int.tdiv p (b.length : Int) = d at h7 ⊢
    have e4 : wrap64 (wrap64 (wrap64 (wrap64 (wrap64 u * 131) + wrap64 (wrap64 v * 1117)) + wrap64 (p * 29)) + wrap64 (wrap64 d * 53)) = u * 131 + v * 1117 + p * 29 + d * 53 := by
     rw [wrap_id (x := u) (by omega) (by omega), wrap_id (x := v) (by omega) (by omega), wrap_id (x := d) (by omega) (by omega), wrap_id (x := u * 131) (by omega) (by omega), wrap_id (x := v * 1117) (by omega) (by omega), wrap_id (x := p * 29) (by omega) (by omega), wrap_id (x := d * 53) (by omega) (by omega), wrap_id (x := u * 131 + v * 1117) (by omega) (by omega), wrap_id (x := u * 131 + v * 1117 + p * 29) (by omega) (by omega), wrap_id (by omega) (by omega)]
    rw [e4]
    have h8 : 0 ≤ u * 131 + v * 1117 + p * 29 + d * 53 ∧ u * 131 + v * 1117 + p * 29 + d * 53 < 1000000000 := by omega
    generalize u * 131 + v * 1117 + p * 29 + d * 53 = X at h8 ⊢
    have h9 : 0 ≤ Int.tdiv X 64 ∧ Int.tdiv X 64 ≤ X := by
     rw [Int.tdiv_eq_ediv_of_nonneg h8.1]
     omega
    rw [wrap_id (x := Int.tdiv X 64) (by omega) (by omega)]
    have h10 := xor_nat64 h8.1 (by omega) h9.1 (by omega)
    have h11 := tmod_in h10.1 (show 1 ≤ n by omega)
    exact ⟨_, rfl, h11.1, fun _ => h11.2⟩

theorem num_f {k : Nat} {b l : List Int} {p : Int} (hk : 0 < k) (hb : Bytes b) (hp : 0 ≤ p) (hp2 : p ≤ 1000000) (hl : 1 ≤ l.length) : ∃ r, spec_l40Rd_num.f k b p l = some (r, p + 1) ∧ r ∈ l := by
 unfold spec_l40Rd_num.f
 obtain ⟨r, h1, h2, h3⟩ := pick_f (n := (l.length : Int)) hk hb hp hp2
 rw [h1]
 simp only [Option.bind_some]
 have h4 := h3 (by omega)
 rw [if_pos h2, if_pos h4]
 obtain ⟨j, rfl⟩ := Int.eq_ofNat_of_zero_le h2
 exact ⟨_, rfl, by rw [rd_nat]; exact getD_mem l j 0 (by omega)⟩

theorem open_f {l : List Int} (hw : ∀ x ∈ l, (Lit.int .u8 x).wf = true) : ∃ b, spec_l40Open.f l = some (b, 0) ∧ b.length ≤ 2000 ∧ ∀ x ∈ b, 0 ≤ x ∧ x < 256 := by
 have hw' : ∀ x ∈ l, 0 ≤ x ∧ x < 256 := by
  intro x hx
  have := hw x hx
  have e1 : IntKind.u8.min = 0 := by decide
  have e2 : IntKind.u8.max = 255 := by decide
  simp [Lit.wf, e1, e2] at this
  omega
 unfold spec_l40Open.f
 by_cases h : (l.length : Int) > 2000
 ·rw [if_pos h, if_pos (by omega)]
  exact ⟨l.take 2000, rfl, by rw [List.length_take]; omega, fun x hx => hw' x (List.mem_of_mem_take hx)⟩
 ·rw [if_neg h]
  exact ⟨l, rfl, by omega, hw'⟩

/-- The reader in the world W, P numbers drawn at most; what is elder than w0 is as it was. -/
structure St (w0 W : World) (g : Nat) (P : Int) : Prop where
 rd : ∃ b p, IsS49 w0 W g b p ∧ Bytes b ∧ 0 ≤ p ∧ p ≤ P
 below : Below w0.heap.size w0 W
section
variable {w0 W W1 : World} {g : Nat} {P Q : Int}
theorem St.more (h : St w0 W g P) (hq : P ≤ Q) : St w0 W g Q := by
 obtain ⟨⟨b, p, h1, h2, h3, h4⟩, h5⟩ := h
 exact ⟨⟨b, p, h1, h2, h3, by omega⟩, h5⟩
theorem St.lt (h : St w0 W g P) : g < W.heap.size := by obtain ⟨⟨b, p, h1, _⟩, _⟩ := h; exact h1.lt
theorem St.step (h : St w0 W g P) (hb : Below W.heap.size W W1) : St w0 W1 g P := by
 obtain ⟨⟨b, p, h1, h2, h3, h4⟩, h5⟩ := h
 exact ⟨⟨b, p, h1.below hb, h2, h3, h4⟩, below_then h5 h5.size hb⟩
theorem St.drewN (h : St w0 W g P) (m : Nat) : St w0 (W.drewN m) g P := by
 obtain ⟨h1, h5⟩ := h
 exact ⟨h1, pw_below_drewN h5 m⟩
theorem St.drew (h : St w0 W g P) : St w0 W.drew g P := by
 obtain ⟨h1, h5⟩ := h
 exact ⟨h1, below_drew h5⟩
theorem St.far {b j : Nat} (h : St w0 W g P) (hne : g ≠ b) (hge : w0.heap.size ≤ b) (u : Value) : St w0 (W.setCell ⟨b, j, none⟩ u) g P := by
 obtain ⟨⟨q, p, h1, h2, h3, h4⟩, h5⟩ := h
 exact ⟨⟨q, p, h1.far hne u, h2, h3, h4⟩, below_set h5 hge⟩
theorem St.grown {row : Option Nat} (h : St w0 W g P) (hw : W.grownBy W1 row) (hne : some g ≠ row) (hge : ∀ k, row = some k → w0.heap.size ≤ k) : St w0 W1 g P := by
 obtain ⟨⟨b, p, h1, h2, h3, h4⟩, h5⟩ := h
 exact ⟨⟨b, p, h1.grown hw hne, h2, h3, h4⟩, pw_below_grown h5 row h5.size hw hge⟩
end
theorem pickR {w0 w : World} {g : Nat} {P : Int} (n : Int) (h : St w0 w g P) (hP : P ≤ 1000000) :
  Calls Try.prog 11 #[.pointer (some ⟨g, 0, none⟩), .int .i64 n] w fun e w' => ∃ r, e = .returned (.int .i64 r) ∧ 0 ≤ r ∧ (1 ≤ n → r < n) ∧ St w0 w' g (P + 1) ∧ KeepBut w w' g none := by
 obtain ⟨⟨b, p, h1, h2, h3, h4⟩, h5⟩ := h
 obtain ⟨r, e, h6, h7⟩ := pick_f (k := 1) (n := n) (by decide) h2 h3 (by omega)
 refine (spec_l40Rd_pick.calls 1 g b p n r (p + 1) w0 w h1 h5 e).mono ?_
 rintro e w' ⟨rfl, hi, hb, hk⟩
 exact ⟨r, rfl, h6, h7, ⟨⟨b, p + 1, hi, h2, by omega, by omega⟩, hb⟩, hk⟩
theorem numR {w0 w : World} {g : Nat} {P : Int} {A1 : Option Addr} {c1 : Nat} {l1 : List Int} (h : St w0 w g P) (hP : P ≤ 1000000) (hl : 1 ≤ l1.length) (hr1 : Kd.C (Kd.int .i64) w A1 l1.length l1) (hc1 : l1.length ≤ c1) (hf1 : ∀ ad, A1 = some ad → 0 < l1.length → ad.block ≠ g) :
  Calls Try.prog 26 #[.pointer (some ⟨g, 0, none⟩), .slice A1 l1.length c1] w fun e w' => ∃ r, e = .returned (.int .i64 r) ∧ r ∈ l1 ∧ St w0 w' g (P + 1) ∧ KeepBut w w' g none := by
 obtain ⟨⟨b, p, h1, h2, h3, h4⟩, h5⟩ := h
 obtain ⟨r, e, h6⟩ := num_f (k := 1) (l := l1) (by decide) h2 h3 (by omega) hl
 refine (spec_l40Rd_num.calls 1 g b p A1 c1 l1 r (p + 1) w0 w h1 h5 hr1 hc1 hf1 e).mono ?_
 rintro e w' ⟨rfl, hi, hb, hk⟩
 exact ⟨r, rfl, h6, ⟨⟨b, p + 1, hi, h2, by omega, by omega⟩, hb⟩, hk⟩

/-- The frame of a call that draws, from the world w on: the reader, and all else of w's as it was. -/
structure Fr (w0 w W : World) (g : Nat) (P : Int) : Prop where
 st : St w0 W g P
 keep : KeepBut w W g none
 base : w0.heap.size ≤ w.heap.size
section
variable {w0 w W W1 : World} {g : Nat} {P Q : Int}
theorem Fr.start (h : St w0 w g P) : Fr w0 w w g P := ⟨h, KeepBut.refl _ _ _, h.below.size⟩
theorem Fr.more (h : Fr w0 w W g P) (hq : P ≤ Q) : Fr w0 w W g Q := ⟨h.st.more hq, h.keep, h.base⟩
theorem Fr.size (h : Fr w0 w W g P) : w.heap.size ≤ W.heap.size := h.keep.1
theorem Fr.lt (h : Fr w0 w W g P) : g < W.heap.size := h.st.lt
theorem Fr.below (h : Fr w0 w W g P) (hb : Below W.heap.size W W1) : Fr w0 w W1 g P := ⟨h.st.step hb, KeepBut.trans h.keep (KeepBut.of_below hb g none) (.inl rfl), h.base⟩
theorem Fr.alloc (h : Fr w0 w W g P) (o : Obj) : Fr w0 w (W.alloc o) g P := h.below (below_alloc (Below.refl _ _) o)
theorem Fr.drewN (h : Fr w0 w W g P) (m : Nat) : Fr w0 w (W.drewN m) g P := ⟨h.st.drewN m, keep_drewN h.keep m, h.base⟩
theorem Fr.drew (h : Fr w0 w W g P) : Fr w0 w W.drew g P := ⟨h.st.drew, keep_drew h.keep, h.base⟩
theorem Fr.call (h : Fr w0 w W g P) (hs : St w0 W1 g Q) (hk : KeepBut W W1 g none) : Fr w0 w W1 g Q := ⟨hs, KeepBut.trans h.keep hk (.inl rfl), h.base⟩
theorem Fr.far {b j : Nat} (h : Fr w0 w W g P) (hne : g ≠ b) (hge : w.heap.size ≤ b) (u : Value) : Fr w0 w (W.setCell ⟨b, j, none⟩ u) g P := ⟨h.st.far hne (Nat.le_trans h.base hge) u, keep_far h.keep hge u, h.base⟩
theorem Fr.grown {row : Option Nat} (h : Fr w0 w W g P) (hw : W.grownBy W1 row) (hne : some g ≠ row) (hge : ∀ k, row = some k → w.heap.size ≤ k) : Fr w0 w W1 g P :=
 ⟨h.st.grown hw hne (fun k hk => Nat.le_trans h.base (hge k hk)), KeepBut.trans h.keep (KeepBut.of_grown hw g) (by cases row with | none => exact .inl rfl | some b => exact .inr ⟨b, rfl, hge b rfl⟩), h.base⟩
end

end Go.Proofs.Ytnidjlhbejifoaa.XFnSameRun
