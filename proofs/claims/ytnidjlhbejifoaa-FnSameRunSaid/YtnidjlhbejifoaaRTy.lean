/- Rows in memory told by their elements' type alone: what is drawn at random is known no further. Every store of a value of the right type leaves them so.
Conditions: each theorem's own. -/
import Derived.Test.YtnidjlhbejifoaaXFnSameRunx0
namespace Go.Proofs.Ytnidjlhbejifoaa.XFnSameRun
open Go.RowKit Go.Proofs.YtnidjlhbejifoaaW.PrintWords Go.Proofs.YtnidjlhbejifoaaW.PrintLast Go.Proofs.YtnidjlhbejifoaaW.PrintMore
set_option linter.unusedVariables false
set_option linter.unusedSimpArgs false
namespace Ty
/-- A row of elements of type e (sz cells each), from block B on, each cell as K says. -/
def Row (B e sz : Nat) (K : Nat → Value → Prop) (W : World) (A : Option Addr) (n c : Nat) : Prop :=
 (A = none ∧ n = 0 ∧ c = 0) ∨ ∃ g off cs, A = some ⟨g, off, none⟩ ∧ B ≤ g ∧ W.heap[g]? = some (.cells cs e (0, 0)) ∧ off % sz = 0 ∧ n ≤ c ∧ c ≤ maxLen ∧ off + c * sz ≤ cs.size ∧ ∀ j u, j < n * sz → cs[off + j]? = some u → K (j % sz) u
def isI (u : Value) : Prop := ∃ z : Int, u = .int .i64 z
/-- How many cells an element of type e has. -/
def esz (e : Nat) : Nat := if e = 51 then 3 else if e = 54 then 4 else if e = 59 then 3 else 1
/-- A slice of numbers, or of structs of numbers; its length meets q. -/
def TI (B e : Nat) (q : Nat → Prop) (W : World) (u : Value) : Prop := ∃ A n c, u = .slice A n c ∧ q n ∧ Row B e (esz e) (fun _ => isI) W A n c
/-- A slice of slices of terms. -/
def TJ (q : Nat → Prop) (B : Nat) (W : World) (u : Value) : Prop := ∃ A n c, u = .slice A n c ∧ q n ∧ Row B 56 1 (fun _ => TI B 54 q W) W A n c
/-- Cell i of an element of type e. -/
def TC (q : Nat → Prop) (B : Nat) (W : World) (e i : Nat) (u : Value) : Prop :=
 if e = 28 then TI B 3 q W u else if e = 56 then TI B 54 q W u else
 if e = 59 then (if i = 0 then TI B 54 q W u else if i = 1 then TI B 3 q W u else TJ q B W u) else
 if e = 3 ∨ e = 51 ∨ e = 54 then isI u else False
def TE (e : Nat) : Prop := e = 3 ∨ e = 51 ∨ e = 54 ∨ e = 28 ∨ e = 56 ∨ e = 59
/-- A slice with elements of type e; q: what a slice of slices of numbers says of their lengths. -/
def T (q : Nat → Prop) (B e : Nat) (W : World) (A : Option Addr) (n c : Nat) : Prop := Row B e (esz e) (TC q B W e) W A n c
/-- W1 is W, cells of the known types turned into cells of the same types. -/
def Ext (q : Nat → Prop) (B : Nat) (W W1 : World) : Prop :=
 ∀ g cs e, B ≤ g → TE e → W.heap[g]? = some (.cells cs e (0, 0)) → ∃ cs1, W1.heap[g]? = some (.cells cs1 e (0, 0)) ∧ cs1.size = cs.size ∧ ∀ j u, cs1[j]? = some u → cs[j]? = some u ∨ TC q B W e (j % esz e) u
section
variable {q q1 : Nat → Prop} {B e sz n c : Nat} {K K1 : Nat → Value → Prop} {W W1 : World} {A : Option Addr} {u : Value}
theorem esz_pos (e : Nat) : 0 < esz e := by unfold esz; split <;> (try split) <;> (try split) <;> omega
theorem Row.nil : Row B e sz K W none 0 0 := .inl ⟨rfl, rfl, rfl⟩
theorem Row.le (h : Row B e sz K W A n c) : n ≤ c := by
 rcases h with ⟨_, rfl, rfl⟩ | ⟨g, off, cs, _, _, _, _, h, _⟩
 ·exact Nat.le_refl _
 ·exact h
theorem Row.max (h : Row B e sz K W A n c) : c ≤ 9223372036854775807 := by
 rcases h with ⟨_, rfl, rfl⟩ | ⟨g, off, cs, _, _, _, _, _, h, _⟩
 ·omega
 ·simp only [maxLen] at h; omega
theorem Row.imp (h : Row B e sz K W A n c) (hK : ∀ i u, K i u → K1 i u) : Row B e sz K1 W A n c := by
 rcases h with h | ⟨g, off, cs, h1, h2, h3, h4, h5, h6, h7, h8⟩
 ·exact .inl h
 ·exact .inr ⟨g, off, cs, h1, h2, h3, h4, h5, h6, h7, fun j u hj hu => hK _ _ (h8 j u hj hu)⟩
theorem Row.ext (h : Row B e (esz e) K W A n c) (hx : Ext q B W W1) (he : TE e) (hK : ∀ i u, K i u → K1 i u) (hT : ∀ i u, TC q B W e i u → K1 i u) : Row B e (esz e) K1 W1 A n c := by
 rcases h with h | ⟨g, off, cs, h1, h2, h3, h4, h5, h6, h7, h8⟩
 ·exact .inl h
 ·obtain ⟨cs1, e1, e2, e3⟩ := hx g cs e h2 he h3
  refine .inr ⟨g, off, cs1, h1, h2, e1, h4, h5, h6, by rw [e2]; exact h7, fun j u hj hu => ?_⟩
  rcases e3 _ u hu with h | h
  ·exact hK _ _ (h8 j u hj h)
  ·have hm : (off + j) % esz e = j % esz e := by rw [Nat.add_mod, h4, Nat.zero_add, Nat.mod_mod]
   rw [hm] at h
   exact hT _ _ h
theorem TI.ext (h : TI B e q1 W u) (hx : Ext q B W W1) (he : e = 3 ∨ e = 51 ∨ e = 54) : TI B e q1 W1 u := by
 obtain ⟨A, n, c, rfl, hq, hr⟩ := h
 refine ⟨A, n, c, rfl, hq, hr.ext hx (by unfold TE; omega) (fun _ _ h => h) (fun i u h => ?_)⟩
 unfold TC at h
 rcases he with rfl | rfl | rfl <;> simpa using h
theorem TJ.ext (h : TJ q B W u) (hx : Ext q B W W1) : TJ q B W1 u := by
 obtain ⟨A, n, c, rfl, hq, hr⟩ := h
 refine ⟨A, n, c, rfl, hq, Row.ext (e := 56) hr hx (by unfold TE; omega) (fun _ _ h => TI.ext h hx (by omega)) (fun i u h => ?_)⟩
 have h2 : TI B 54 q W u := by unfold TC at h; simpa using h
 exact TI.ext h2 hx (by omega)
theorem TC.ext {i : Nat} (h : TC q B W e i u) (hx : Ext q B W W1) : TC q B W1 e i u := by
 unfold TC at h ⊢
 by_cases h28 : e = 28
 ·rw [if_pos h28] at h ⊢
  exact TI.ext h hx (by omega)
 ·rw [if_neg h28] at h ⊢
  by_cases h56 : e = 56
  ·rw [if_pos h56] at h ⊢
   exact TI.ext h hx (by omega)
  ·rw [if_neg h56] at h ⊢
   by_cases h59 : e = 59
   ·rw [if_pos h59] at h ⊢
    by_cases h0 : i = 0
    ·rw [if_pos h0] at h ⊢
     exact TI.ext h hx (by omega)
    ·rw [if_neg h0] at h ⊢
     by_cases h1 : i = 1
     ·rw [if_pos h1] at h ⊢
      exact TI.ext h hx (by omega)
     ·rw [if_neg h1] at h ⊢
      exact TJ.ext h hx
   ·rw [if_neg h59] at h ⊢
    exact h
theorem TI.mono (h : TI B e q W u) (hq : ∀ n, q n → q1 n) : TI B e q1 W u := by
 obtain ⟨A, n, c, rfl, h1, h2⟩ := h
 exact ⟨A, n, c, rfl, hq n h1, h2⟩
theorem TJ.mono (h : TJ q B W u) (hq : ∀ n, q n → q1 n) : TJ q1 B W u := by
 obtain ⟨A, n, c, rfl, h1, h2⟩ := h
 exact ⟨A, n, c, rfl, hq n h1, Row.imp h2 (fun _ _ h => h.mono hq)⟩
theorem TC.mono {i : Nat} (h : TC q B W e i u) (hq : ∀ n, q n → q1 n) : TC q1 B W e i u := by
 unfold TC at h ⊢
 by_cases h28 : e = 28
 ·rw [if_pos h28] at h ⊢
  exact h.mono hq
 ·rw [if_neg h28] at h ⊢
  by_cases h56 : e = 56
  ·rw [if_pos h56] at h ⊢
   exact h.mono hq
  ·rw [if_neg h56] at h ⊢
   by_cases h59 : e = 59
   ·rw [if_pos h59] at h ⊢
    by_cases h0 : i = 0
    ·rw [if_pos h0] at h ⊢
     exact h.mono hq
    ·rw [if_neg h0] at h ⊢
     by_cases h1 : i = 1
     ·rw [if_pos h1] at h ⊢
      exact h.mono hq
     ·rw [if_neg h1] at h ⊢
      exact h.mono hq
   ·rw [if_neg h59] at h ⊢
    exact h
theorem T.mono (h : T q B e W A n c) (hq : ∀ n, q n → q1 n) : T q1 B e W A n c := Row.imp h (fun _ _ h => h.mono hq)
theorem T.ext (h : T q B e W A n c) (hx : Ext q B W W1) (he : TE e) : T q B e W1 A n c := Row.ext h hx he (fun _ _ h => h.ext hx) (fun _ _ h => h.ext hx)
theorem T.nil : T q B e W none 0 0 := Row.nil
theorem T.le (h : T q B e W A n c) : n ≤ c := Row.le h
/-- A row that holds no slices: q is not asked. -/
theorem T.any (h : T q B e W A n c) (he : e ≠ 28 ∧ e ≠ 56 ∧ e ≠ 59) : T q1 B e W A n c := Row.imp h (fun _ _ h => by
 unfold TC at h ⊢
 rw [if_neg he.1, if_neg he.2.1, if_neg he.2.2] at h ⊢
 exact h)
theorem Ext.keep {g : Nat} (h : KeepBut W W1 g none) (hg : ∀ cs e, TE e → W.heap[g]? ≠ some (.cells cs e (0, 0))) : Ext q B W W1 := by
 intro b cs e hb he hc
 refine ⟨cs, (h.2 b (blk_lt hc) ?_ (by simp)).trans hc, rfl, fun j u hu => .inl hu⟩
 rintro rfl
 exact hg cs e he hc
theorem Ext.below (h : Below W.heap.size W W1) : Ext q B W W1 := by
 intro b cs e hb he hc
 exact ⟨cs, (h.block b (blk_lt hc)).trans hc, rfl, fun j u hu => .inl hu⟩
theorem Ext.set {g j e : Nat} {cs : Array Value} (hg : W.heap[g]? = some (.cells cs e (0, 0))) (hu : TC q B W e (j % esz e) u) : Ext q B W (W.setCell ⟨g, j, none⟩ u) := by
 intro b cs1 e1 hb he hc
 by_cases hbg : b = g
 ·subst hbg
  rw [hg] at hc
  injection hc with hc
  injection hc with hc1 hc2
  subst hc1
  subst hc2
  refine ⟨cs.setIfInBounds j u, blk_set hg j u, by simp, fun i x hx => ?_⟩
  by_cases hij : j = i
  ·subst hij
   by_cases hl : j < cs.size
   ·rw [Array.getElem?_setIfInBounds_self_of_lt hl] at hx
    injection hx with hx
    subst hx
    exact .inr hu
   ·rw [Array.getElem?_eq_none (by simp; omega)] at hx
    cases hx
  ·rw [Array.getElem?_setIfInBounds_ne hij] at hx
   exact .inl hx
 ·exact ⟨cs1, (Below.heap_setCell W ⟨g, j, none⟩ u b hbg).trans hc, rfl, fun i x hx => .inl hx⟩
end

/-! ### append of one element -/
section
variable {q : Nat → Prop} {B e sz n c : Nat} {K : Nat → Value → Prop} {W : World} {A : Option Addr}
/-- What an append of one element leaves: a longer row; and of each block its cells, but for those that were written. -/
structure Grew (B e sz : Nat) (K : Nat → Value → Prop) (W W1 : World) (A A1 : Option Addr) (n c1 : Nat) : Prop where
 row : Row B e sz K W1 A1 (n + 1) c1
 old : ∀ (g : Nat) (cs : Array Value) (t : TypeId), W.heap[g]? = some (.cells cs t (0, 0)) → ∃ cs1 : Array Value, W1.heap[g]? = some (.cells cs1 t (0, 0)) ∧ cs1.size = cs.size ∧ ∀ j u, cs1[j]? = some u → cs[j]? = some u ∨ (t = e ∧ K (j % sz) u)
 grown : W.grownBy W1 (A.map Addr.block)
 at_ : A1.map Addr.block = A.map Addr.block ∨ ∃ b, A1.map Addr.block = some b ∧ W.heap.size ≤ b
theorem grew_new {P : Program} {z : Value} {olds news : List Value} {cap : Nat} (hz : z.cells.size = sz) (hs : 0 < sz) (hlo : olds.length = n * sz) (hl : news.length = sz) (hB : B ≤ W.heap.size)
  (ho : ∀ j u, olds[j]? = some u → K (j % sz) u) (hn : ∀ j u, news[j]? = some u → K j u) (hcap : n + 1 ≤ cap) (hmax : cap ≤ maxLen) :
  Grew B e sz K W (W.drew.alloc (.cells (olds.toArray ++ news.toArray ++ Builtin.zeroCells z.cells (cap - (n + 1))) e)) A (some ⟨W.heap.size, 0, none⟩) n cap := by
 refine ⟨.inr ⟨W.heap.size, 0, _, rfl, hB, heap_alloc_new W.drew _, Nat.zero_mod _, hcap, hmax, ?_, ?_⟩, fun g cs t hg => ⟨cs, ?_, rfl, fun j u hu => .inl hu⟩, ⟨rfl, rfl, rfl, by simp, fun k hk _ => Go.heap_alloc_old W.drew _ hk⟩, .inr ⟨_, rfl, Nat.le_refl _⟩⟩
 ·simp only [Array.size_append, List.size_toArray, size_zeroCells, hz, hlo, hl, Nat.zero_add]
  have h1 : cap * sz = n * sz + sz + (cap - (n + 1)) * sz := by
   have h2 : cap = n + 1 + (cap - (n + 1)) := by omega
   conv => lhs; rw [h2, Nat.add_mul, Nat.add_mul, Nat.one_mul]
  omega
 ·intro j u hj hu
  rw [Nat.zero_add] at hu
  rw [Nat.add_mul, Nat.one_mul] at hj
  rw [Array.getElem?_append_left (by simp; omega)] at hu
  by_cases h1 : j < n * sz
  ·rw [Array.getElem?_append_left (by simp; omega)] at hu
   exact ho j u (by simpa using hu)
  ·rw [Array.getElem?_append_right (by simp; omega)] at hu
   simp only [List.size_toArray, hlo, List.getElem?_toArray] at hu
   have h2 : j % sz = j - n * sz := by
    have h3 : j = (j - n * sz) + n * sz := by omega
    rw [h3, Nat.add_mul_mod_self_right]
    rw [Nat.mod_eq_of_lt (by omega)]
    omega
   rw [h2]
   exact hn _ u hu
 ·exact (Go.heap_alloc_old W.drew _ (blk_lt hg)).trans hg
theorem grew_room {g off : Nat} {cs : Array Value} {news : List Value} (hg : W.heap[g]? = some (.cells cs e (0, 0))) (hs : 0 < sz) (hl : news.length = sz) (hB : B ≤ g) (hoff : off % sz = 0)
  (ho : ∀ j u, j < n * sz → cs[off + j]? = some u → K (j % sz) u) (hn : ∀ j u, news[j]? = some u → K j u) (hcap : n + 1 ≤ c) (hmax : c ≤ maxLen) (hfit : off + c * sz ≤ cs.size) :
  Grew B e sz K W (W.setRow g (cs.toList.take (off + n * sz) ++ news ++ cs.toList.drop (off + n * sz + news.length)).toArray) (some ⟨g, off, none⟩) (some ⟨g, off, none⟩) n c := by
 have h0 : n * sz + sz ≤ c * sz := by rw [← Nat.succ_mul]; exact Nat.mul_le_mul_right _ hcap
 have hsize : (cs.toList.take (off + n * sz) ++ news ++ cs.toList.drop (off + n * sz + news.length)).toArray.size = cs.size := by
  simp only [List.size_toArray, List.length_append, List.length_take, List.length_drop, Array.length_toList]
  omega
 have hcell : ∀ j u, (cs.toList.take (off + n * sz) ++ news ++ cs.toList.drop (off + n * sz + news.length)).toArray[j]? = some u → cs[j]? = some u ∧ ¬ (off + n * sz ≤ j ∧ j < off + n * sz + sz) ∨ (off + n * sz ≤ j ∧ j < off + n * sz + sz ∧ news[j - (off + n * sz)]? = some u) := by
  intro j u hu
  simp only [List.getElem?_toArray] at hu
  have htl : (cs.toList.take (off + n * sz)).length = off + n * sz := by simp; omega
  by_cases h1 : j < off + n * sz
  ·rw [List.append_assoc, List.getElem?_append_left (by omega), List.getElem?_take_of_lt h1] at hu
   exact .inl ⟨by simpa using hu, by omega⟩
  ·by_cases h2 : j < off + n * sz + sz
   ·rw [List.getElem?_append_left (by rw [List.length_append, htl, hl]; omega), List.getElem?_append_right (by omega), htl] at hu
    exact .inr ⟨by omega, h2, hu⟩
   ·rw [List.getElem?_append_right (by rw [List.length_append, htl, hl]; omega), List.length_append, htl, List.getElem?_drop] at hu
    have h3 : off + n * sz + news.length + (j - (off + n * sz + news.length)) = j := by omega
    rw [h3] at hu
    exact .inl ⟨by simpa using hu, by omega⟩
 have hmod : ∀ j, (off + j) % sz = j % sz := fun j => by rw [Nat.add_mod, hoff, Nat.zero_add, Nat.mod_mod]
 have hlast : ∀ i, i < sz → (n * sz + i) % sz = i := fun i hi => by rw [Nat.add_comm, Nat.add_mul_mod_self_right, Nat.mod_eq_of_lt hi]
 refine ⟨.inr ⟨g, off, _, rfl, hB, setRow_heap W g cs _ e _ hg, hoff, hcap, hmax, by rw [hsize]; exact hfit, fun j u hj hu => ?_⟩, fun b cs1 t hb => ?_, ⟨rfl, rfl, rfl, by simp, fun k _ hk => setRow_other W g k _ (fun h => hk (by rw [h]; rfl))⟩, .inl rfl⟩
 ·rw [Nat.add_mul, Nat.one_mul] at hj
  rcases hcell _ u hu with ⟨h1, h2⟩ | ⟨h1, h2, h3⟩
  ·exact ho j u (by omega) h1
  ·have h4 : j = n * sz + (off + j - (off + n * sz)) := by omega
   rw [h4, hlast _ (by omega)]
   exact hn _ u h3
 ·by_cases hbg : b = g
  ·subst hbg
   rw [hg] at hb
   injection hb with hb
   injection hb with hb1 hb2
   subst hb1
   subst hb2
   refine ⟨_, setRow_heap W b cs _ e _ hg, hsize, fun j u hu => ?_⟩
   rcases hcell j u hu with ⟨h1, h2⟩ | ⟨h1, h2, h3⟩
   ·exact .inl h1
   ·refine .inr ⟨rfl, ?_⟩
    have h4 : j = off + (n * sz + (j - (off + n * sz))) := by omega
    rw [h4, hmod, hlast _ (by omega)]
    exact hn _ u h3
  ·exact ⟨cs1, (setRow_other W g b _ hbg).trans hb, rfl, fun j u hu => .inl hu⟩
theorem run_append_T {P : Program} (t ty : TypeId) (i : TypeInfo) (z : Value) (bytes : Nat) (ht : P.underlying t = some (.slice e)) (hi : P.info? e = some i) (hz : i.zero = some z)
  (hsize : i.size = sz) (hby : i.bytes = bytes) (hzs : z.cells.size = sz) (hsz : 0 < sz) (h : Row B e sz K W A n c) (hB : B ≤ W.heap.size)
  (a : Addr) (m : Nat) (news : List Value) (hl : news.length = sz) (hnews : ∀ j u, news[j]? = some u → W.cell? (a.add j) = some u) (h1 : ∀ u ∈ news, u.oneCell' = true) (hn : ∀ j u, news[j]? = some u → K j u)
  (hlim : (n + 1) * bytes ≤ 140737488355328) (hb0 : 0 < bytes) :
  ∃ A1 c1 W1, (Builtin.append_ #[t, t] ty #[.slice A n c, .slice (some a) 1 m]).run P W = .ok (.slice A1 (n + 1) c1) W1 ∧ Grew B e sz K W W1 A A1 n c1 := by
 subst hsize
 subst hby
 have hlen : n + 1 ≤ 140737488355328 := Nat.le_trans (Nat.le_mul_of_pos_right _ hb0) hlim
 rcases h with ⟨rfl, rfl, rfl⟩ | ⟨g, off, cs, rfl, hBg, hg, hoff, hnc, hmax, hfit, ho⟩
 ·have hr := run_append_nil (P := P) W t ty e i z ht hi hz a 1 m news (by omega) hnews (by omega) (by omega) (by omega)
  simp only [Nat.zero_add] at hr ⊢
  refine ⟨_, _, _, hr, ?_⟩
  have h2 := grew_new (P := P) (W := W) (B := B) (e := e) (K := K) (n := 0) (A := none) (z := z) (olds := []) (news := news) (cap := grownCap W 1 0 e) hzs hsz (by simp) hl hB (fun j u hu => by simp at hu) hn (by have := grownCap_ge W 1 0 e; omega) (grownCap_le_maxLen W 1 0 e (by simp [maxLen]))
  simpa using h2
 ·by_cases hroom : n + 1 ≤ c
  ·have hf := run_firstCells_some (P := P) W i.size 1 a m 1 news (by omega) hnews
   have h0 : n * i.size + i.size ≤ c * i.size := by rw [← Nat.succ_mul]; exact Nat.mul_le_mul_right _ hroom
   have hst := run_storeCells_at P g (off + n * i.size) e news 0 cs W hg (by omega) h1
   simp only [Nat.add_zero] at hst
   refine ⟨_, _, _, ?_, grew_room hg hsz hl hBg hoff ho hn hroom hmax hfit⟩
   have hf := run_firstCells_some (P := P) W i.size 1 a 1 m news (by omega) hnews
   simp [Builtin.append_, run_underlying ht, sizeOf, typeInfo, hi, Builtin.lenOf, hroom, hf, Addr.add_lit, hst]
  ·have hcn : n = c := by omega
   have hlo : ((cs.toList.drop off).take (n * i.size)).length = n * i.size := by
    have h0 : n * i.size ≤ c * i.size := Nat.mul_le_mul_right _ hnc
    simp only [List.length_take, List.length_drop, Array.length_toList]
    omega
   have hol : ∀ j u, ((cs.toList.drop off).take (n * i.size))[j]? = some u → j < n * i.size ∧ cs[off + j]? = some u := by
    intro j u hu
    have hj : j < n * i.size := by have := (List.getElem?_eq_some_iff.1 hu).1; omega
    rw [List.getElem?_take_of_lt hj, List.getElem?_drop] at hu
    exact ⟨hj, by simpa using hu⟩
   have hr := run_append_grow (P := P) W t ty e i z ht hi hz ⟨g, off, none⟩ n c ((cs.toList.drop off).take (n * i.size)) hlo (fun j u hu => by
    rw [Addr.add_lit, cell_of_row W g (off + j) cs e (0, 0) hg]
    exact (hol j u hu).2) a 1 m news (by omega) hnews (by omega) (by omega) (growslice_fits (by omega) hlim)
   exact ⟨_, _, _, hr, grew_new (P := P) hzs hsz hlo hl hB (fun j u hu => ho j u (hol j u hu).1 (hol j u hu).2) hn (grownCap_ge W (n + 1) c e) (grownCap_le_maxLen W (n + 1) c e (by simp only [maxLen]; omega))⟩
end
end Ty
end Go.Proofs.Ytnidjlhbejifoaa.XFnSameRun
