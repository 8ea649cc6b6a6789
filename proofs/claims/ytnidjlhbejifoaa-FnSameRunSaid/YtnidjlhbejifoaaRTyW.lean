/- What a walk meets when values are drawn: new variables, stores, appends, calls; what is known of rows told by their type is carried over each of them.
Conditions: each theorem's own. -/
import Derived.Test.YtnidjlhbejifoaaRTy
import Derived.Test.YtnidjlhbejifoaaRSame0
namespace Go.Proofs.Ytnidjlhbejifoaa.XFnSameRun
open Go.RowKit Go.Proofs.YtnidjlhbejifoaaW.PrintWords Go.Proofs.YtnidjlhbejifoaaW.PrintLast Go.Proofs.YtnidjlhbejifoaaW.PrintMore Go.Proofs.YtnidjlhbejifoaaX
set_option linter.unusedVariables false
set_option linter.unusedSimpArgs false
namespace Ty
/-- From W to W1: known rows stay known rows; a block of another type than t, not the reader's, stays as it is. -/
structure Mv (q : Nat → Prop) (w0 : World) (g t : Nat) (W W1 : World) : Prop where
 ext : Ext q w0.heap.size W W1
 blk : ∀ (gb : Nat) (cells : Array Value) (t1 : TypeId), t1 ≠ t → gb ≠ g → W.heap[gb]? = some (.cells cells t1 (0, 0)) → W1.heap[gb]? = some (.cells cells t1 (0, 0))
 size : W.heap.size ≤ W1.heap.size
/-- A known row. -/
structure Rw (q : Nat → Prop) (w0 : World) (e : Nat) (W : World) (A : Option Addr) (n c : Nat) : Prop where
 t : T q w0.heap.size e W A n c
 e : TE e
/-- A known row of the call's own. -/
structure Lc (q : Nat → Prop) (w0 w : World) (e : Nat) (W : World) (A : Option Addr) (n c : Nat) : Prop where
 t : T q w0.heap.size e W A n c
 e : TE e
 o : ∀ b, A.map Addr.block = some b → w.heap.size ≤ b
/-- A variable's block. -/
structure Bk (w : World) (g t : Nat) (W : World) (gb : Nat) (cs : Array Value) : Prop where
 b : W.heap[gb]? = some (.cells cs t (0, 0))
 ne : gb ≠ g
 new : w.heap.size ≤ gb
section
variable {q q1 : Nat → Prop} {w0 w W W1 : World} {g gb e t n c : Nat} {P : Int} {A : Option Addr} {cs : Array Value} {u : Value}
theorem Rw.mv (h : Rw q w0 e W A n c) (hm : Mv q w0 g t W W1) : Rw q w0 e W1 A n c := ⟨h.t.ext hm.ext h.e, h.e⟩
theorem Lc.mv (h : Lc q w0 w e W A n c) (hm : Mv q w0 g t W W1) : Lc q w0 w e W1 A n c := ⟨h.t.ext hm.ext h.e, h.e, h.o⟩
theorem Lc.r (h : Lc q w0 w e W A n c) : Rw q w0 e W A n c := ⟨h.t, h.e⟩
theorem Lc.nil (e : Nat) (he : TE e) (W : World) : Lc q w0 w e W none 0 0 := ⟨T.nil, he, fun b hb => by simp at hb⟩
theorem Lc.le (h : Lc q w0 w e W A n c) : n ≤ c := h.t.le
theorem Bk.mv (h : Bk w g e W gb cs) (hm : Mv q w0 g t W W1) (hne : e ≠ t) : Bk w g e W1 gb cs := ⟨hm.blk gb cs e hne h.ne h.b, h.ne, h.new⟩
theorem Bk.cell (h : Bk w g e W gb cs) (j : Nat) : W.cell? ⟨gb, j, none⟩ = cs[j]? := blk_cell h.b j
theorem Bk.free (h : Bk w g e W gb cs) (j : Nat) : W.frozen? ⟨gb, j, none⟩ = false := blk_frozen h.b j
theorem _root_.Go.Proofs.Ytnidjlhbejifoaa.XFnSameRun.St.notT (h : St w0 W g P) : ∀ cs e, TE e → W.heap[g]? ≠ some (.cells cs e (0, 0)) := by
 obtain ⟨⟨b, p, ⟨A0, c0, hb, _⟩, _⟩, _⟩ := h
 intro cs e he hc
 rw [hb] at hc
 injection hc with hc
 injection hc with _ hc
 subst hc
 unfold TE at he
 omega
theorem Mv.keep (hs : St w0 W g P) (hk : KeepBut W W1 g none) : Mv q w0 g 0 W W1 := ⟨Ext.keep hk hs.notT, fun gb cells t1 _ hg hb => hk.blk hb hg (by simp), hk.1⟩
theorem Mv.below (hb : Below W.heap.size W W1) : Mv q w0 g 0 W W1 := ⟨Ext.below hb, fun gb cells t1 _ hg h => blk_below h hb, hb.size⟩
theorem Mv.drew : Mv q w0 g 0 W W.drew := Mv.below (below_drew1 (Below.refl _ _))
/-- The known row's block is neither the reader's nor a variable's of another type. -/
theorem T.typed (h : T q w0.heap.size e W A n c) : ∀ b, A.map Addr.block = some b → w0.heap.size ≤ b ∧ ∃ cs, W.heap[b]? = some (.cells cs e (0, 0)) := by
 intro b hb
 rcases h with ⟨rfl, _⟩ | ⟨g1, off, cs, rfl, hB, hg, _⟩
 ·simp at hb
 ·have : g1 = b := by simpa using hb
  subst this
  exact ⟨hB, cs, hg⟩
theorem T.ne (h : T q w0.heap.size e W A n c) (hb : W.heap[gb]? = some (.cells cs t (0, 0))) (hne : t ≠ e) : some gb ≠ A.map Addr.block := by
 intro he
 obtain ⟨_, cs1, h1⟩ := h.typed gb he.symm
 rw [hb] at h1
 injection h1 with h1
 injection h1 with _ h1
 exact hne h1
theorem T.ne_rd (h : T q w0.heap.size e W A n c) (he : TE e) (hs : St w0 W g P) : some g ≠ A.map Addr.block := by
 intro h1
 obtain ⟨_, cs1, h2⟩ := h.typed g h1.symm
 exact hs.notT cs1 e he h2
/-- A new block of the call's own. -/
theorem Fr.newB (h : Fr w0 w W g P) (hg : gb = W.heap.size) (hb : W1.heap[gb]? = some (.cells cs t (0, 0))) : Bk w g t W1 gb cs := ⟨hb, by have := h.lt; omega, by have := h.size; omega⟩
end
section
variable {P : Program} {ops : Array Oper} {rest : List Oper} {o : Oper} {a : Act} {Q : Exit → Act → World → Prop} {w0 w W : World} {g : Nat} {D : Int} {q : Nat → Prop}
/-- A new variable, a literal's array: a block of the call's own. -/
theorem new_block (HF : Fr w0 w W g D) (hgd : o.guard = none) {N : Tmp} (_hd : o.dst = some N) {v : Nat → Value} {cs : Array Value} {t : TypeId}
  (hrun : (execOp a.eval o).run P W = .ok (.value (v W.heap.size)) (W.alloc (.cells cs t (0, 0))))
  (h : ∀ gb w1, Bk w g t w1 gb cs → Fr w0 w w1 g D → Mv q w0 g 0 W w1 → W.heap.size ≤ gb → wpList P ops Q rest (a.put o.dst (v gb)) w1) : wpList P ops Q (o :: rest) a W :=
 Kd.event_run hgd hrun (h _ _ (Fr.newB HF rfl (blk_new W _)) (HF.alloc _) (Mv.below (below_alloc (Below.refl _ _) _)) (Nat.le_refl _))
/-- A store into a block of the call's own. -/
theorem put_block (HF : Fr w0 w W g D) {e : TypeId} {gb : Nat} {cs : Array Value} (HB : Bk w g e W gb cs) (hgd : o.guard = none) {t : TypeId} {p : Tmp} {v : Operand} (_ho : o.op = .store t (.tmp p) v) (hN : o.dst = none) (j : Nat) (u : Value)
  (hrun : (execOp a.eval o).run P W = .ok .skip (W.setCell ⟨gb, j, none⟩ u)) (hu : TE e → TC q w0.heap.size W e (j % esz e) u)
  (h : ∀ w1, Bk w g e w1 gb (cs.setIfInBounds j u) → Fr w0 w w1 g D → Mv q w0 g e W w1 → wpList P ops Q rest a w1) : wpList P ops Q (o :: rest) a W := by
 refine store_event hgd _ho hN hrun ?_
 rintro w' rfl
 refine h _ ⟨blk_set HB.b j u, HB.ne, HB.new⟩ (HF.far (Ne.symm HB.ne) HB.new u) ⟨?_, fun b cells t1 ht hb hc => ?_, by simp [World.setCell]⟩
 ·by_cases he : TE e
  ·exact Ext.set HB.b (hu he)
  ·intro b cs1 e1 hb he1 hc
   refine ⟨cs1, (Below.heap_setCell W ⟨gb, j, none⟩ u b ?_).trans hc, rfl, fun i x hx => .inl hx⟩
   rintro rfl
   have h2 := HB.b
   rw [show W.heap[b]? = some (.cells cs1 e1 (0, 0)) from hc] at h2
   injection h2 with h2
   injection h2 with _ h2
   exact he (h2 ▸ he1)
 ·refine (Below.heap_setCell W ⟨gb, j, none⟩ u b ?_).trans hc
  rintro rfl
  have h2 := HB.b
  rw [show W.heap[b]? = some (.cells cells t1 (0, 0)) from hc] at h2
  injection h2 with h2
  injection h2 with _ h2
  exact ht h2
/-- A whole struct stored into its variable. -/
theorem put_whole (HF : Fr w0 w W g D) {e : TypeId} {gb : Nat} {old : Array Value} (HB : Bk w g e W gb old) (hgd : o.guard = none) {ty : TypeId} {x y : Operand} (ho : o.op = .store ty x y) (hN : o.dst = none) (cells : Array Value)
  (hx : a.eval x = .pointer (some ⟨gb, 0, none⟩)) (hy : a.eval y = .agg cells) (hi : (P.info? ty).map (·.size) = some cells.size) (hold : old.size = cells.size) (h1 : cells.all (·.oneCell') = true) (hu : TE e → ∀ (j : Nat) (u : Value), cells[j]? = some u → TC q w0.heap.size W e (j % esz e) u)
  (h : ∀ w1, Bk w g e w1 gb cells → Fr w0 w w1 g D → Mv q w0 g e W w1 → wpList P ops Q rest a w1) : wpList P ops Q (o :: rest) a W := by
 refine wpList_store_row hgd ty x y ho gb cells hx hy e old HB.b hi hold h1 ?_
 have hp : a.put o.dst undef = a := by rw [hN]; rfl
 rw [hp]
 have hother : ∀ k, k ≠ gb → (W.setRow gb cells).heap[k]? = W.heap[k]? := fun k hk => setRow_other W gb k cells hk
 have hg : W.grownBy (W.setRow gb cells) (some gb) := ⟨rfl, rfl, rfl, by simp, fun k _ hk => hother k (fun h => hk (by rw [h]))⟩
 refine h _ ⟨setRow_heap W gb old cells e (0, 0) HB.b, HB.ne, HB.new⟩ (HF.grown hg (fun h => HB.ne (by injection h with h; exact h.symm)) (fun k hk => by injection hk with hk; subst hk; exact HB.new)) ⟨?_, fun b cells1 t1 ht hb hc => (hother b ?_).trans hc, hg.size⟩
 ·intro b cs1 e1 hb he1 hc
  by_cases hbg : b = gb
  ·subst hbg
   have h2 := HB.b
   rw [show W.heap[b]? = some (.cells cs1 e1 (0, 0)) from hc] at h2
   injection h2 with h2
   injection h2 with h3 h4
   subst h3
   subst h4
   exact ⟨cells, setRow_heap W b cs1 cells e1 (0, 0) hc, hold.symm, fun j u hj => .inr (hu he1 j u hj)⟩
  ·exact ⟨cs1, (hother b hbg).trans hc, rfl, fun j u hj => .inl hj⟩
 ·rintro rfl
  have h2 := HB.b
  rw [show W.heap[b]? = some (.cells cells1 t1 (0, 0)) from hc] at h2
  injection h2 with h2
  injection h2 with _ h2
  exact ht h2
/-- A whole struct loaded out of its variable. -/
theorem load_whole {e : TypeId} {gb : Nat} {cs : Array Value} {d : TypeDesc} (HB : Bk w g e W gb cs) (hgd : o.guard = none) {N : Tmp} (_hd : o.dst = some N) (ty : TypeId) (x : Operand) (ho : o.op = .load ty x) (hx : a.eval x = .pointer (some ⟨gb, 0, none⟩))
  (hu : P.underlying ty = some d) (hd : (match d with | .struct _ | .array _ _ => true | _ => false) = true) (hi : (P.info? ty).map (·.size) = some cs.size)
  (h : wpList P ops Q rest (a.put o.dst (.agg cs)) W) : wpList P ops Q (o :: rest) a W :=
 wpList_load_row hgd ty x ho gb hx e cs (0, 0) d HB.b hu hd hi h
/-- An append of one element to a row of the call's own, the element laid into a new block just now. -/
theorem app_row (HF : Fr w0 w W g D) (hgd : o.guard = none) (s x : Operand) (t : TypeId) {e : Nat} {z : Value} {bytes : Nat} {A : Option Addr} {n c : Nat} (HL : Lc q w0 w e W A n c)
  (ho : o.op = .call { callee := .builtin .append, args := #[s, x], argTypes := #[t, t] })
  (ht : P.underlying t = some (.slice e)) (hinfo : (P.info? e).map (fun i => (i.zero, i.size, i.bytes)) = some (some z, esz e, bytes)) (hz : z.cells.size = esz e) (hb0 : 0 < bytes)
  (cs : List Value) (hs : a.eval s = .slice A n c) (hx : a.eval x = .slice (some ⟨W.heap.size, 0, none⟩) 1 1) (hcs : cs.length = esz e) (h1 : ∀ u ∈ cs, u.oneCell' = true) (hn : ∀ j u, cs[j]? = some u → TC q w0.heap.size W e j u)
  (hl : (n + 1) * bytes ≤ 140737488355328)
  (h : ∀ A1 c1 w1, Lc q w0 w e w1 A1 (n + 1) c1 → Fr w0 w w1 g D → Mv q w0 g e W w1 → wpList P ops Q rest (a.put o.dst (.slice A1 (n + 1) c1)) w1) :
  wpList P ops Q (o :: rest) a (W.alloc (.cells cs.toArray e)) := by
 obtain ⟨i0, hi, hzz⟩ := Option.map_eq_some_iff.1 hinfo
 simp only [Prod.mk.injEq] at hzz
 obtain ⟨hz0, hz1, hz2⟩ := hzz
 have hBW : w0.heap.size ≤ W.heap.size := Nat.le_trans HF.base HF.size
 have hrow : Row w0.heap.size e (esz e) (TC q w0.heap.size W e) (W.alloc (.cells cs.toArray e)) A n c := by
  rcases HL.t with h | ⟨g, off, cs, h1, h2, h3, h4⟩
  ·exact .inl h
  ·exact .inr ⟨g, off, cs, h1, h2, (Go.heap_alloc_old W _ (blk_lt h3)).trans h3, h4⟩
 obtain ⟨A1, c1, W1, hr, hg⟩ := run_append_T (P := P) t o.type i0 z bytes ht hi hz0 hz1 hz2 hz (esz_pos e) hrow (by simp; omega) ⟨W.heap.size, 0, none⟩ 1 cs hcs
  (by simpa using World.news_of_block (cs := cs.toArray) (t := e) (fr := (0, 0)) (heap_alloc_new W (.cells cs.toArray e))) h1 hn hl hb0
 have hold : ∀ (b : Nat) (cs1 : Array Value) (t1 : TypeId), W.heap[b]? = some (.cells cs1 t1 (0, 0)) → ∃ cs2 : Array Value, W1.heap[b]? = some (.cells cs2 t1 (0, 0)) ∧ cs2.size = cs1.size ∧ ∀ j u, cs2[j]? = some u → cs1[j]? = some u ∨ (t1 = e ∧ TC q w0.heap.size W e (j % esz e) u) :=
  fun b cs1 t1 hb => hg.old b cs1 t1 ((Go.heap_alloc_old W _ (blk_lt hb)).trans hb)
 have hx1 : Ext q w0.heap.size W W1 := by
  intro b cs1 t1 hb he1 hc
  obtain ⟨cs2, e1, e2, e3⟩ := hold b cs1 t1 hc
  refine ⟨cs2, e1, e2, fun j u hu => ?_⟩
  rcases e3 j u hu with h | ⟨rfl, h⟩
  ·exact .inl h
  ·exact .inr h
 have hgr : W.grownBy W1 (A.map Addr.block) := World.grownBy.trans (World.grownBy_alloc W _ _) hg.grown
 refine wpList_plain hgd fun K hK => ?_
 unfold Oper.wp execOp
 simp only [ho, resolve, invoke, builtin, Sem.run_bind, Sem.run_pure, Result.andThen_ok, List.map_toArray, List.map_cons, List.map_nil, hs, hx, hr]
 refine hK _ _ (h A1 c1 W1 ⟨Row.imp hg.row (fun _ _ h => h.ext hx1), HL.e, fun b hb => ?_⟩ (HF.grown hgr (HL.t.ne_rd HL.e HF.st) (fun k hk => HL.o k hk)) ⟨hx1, fun b cells t1 hte hbg hc => ?_, hgr.size⟩)
 ·rcases hg.at_ with h | ⟨b1, h, h2⟩
  ·exact HL.o b (by rw [← h]; exact hb)
  ·rw [h] at hb
   injection hb with hb
   have := HF.size
   simp at h2
   omega
 ·exact (hgr.block b (blk_lt hc) (HL.t.ne hc hte)).trans hc
end
/-! ### The same in a region that draws its order: one operation -/
section
variable {P : Program} {ops : Array Oper} {o : Oper} {a : Act} {Q : Exit → Act → World → Prop} {Kc : Act → World → Prop} {w0 w W : World} {g : Nat} {D : Int} {q : Nat → Prop}
theorem new_block_step (HF : Fr w0 w W g D) (hw : Region.wanted o (yielded ops a.tmps) = true) {N : Tmp} (_hd : o.dst = some N) {v : Nat → Value} {cs : Array Value} {t : TypeId}
  (hrun : (execOp a.eval o).run P W = .ok (.value (v W.heap.size)) (W.alloc (.cells cs t (0, 0))))
  (h : ∀ gb w1, Bk w g t w1 gb cs → Fr w0 w w1 g D → Mv q w0 g 0 W w1 → W.heap.size ≤ gb → Kc (a.put o.dst (v gb)) w1) : if Region.wanted o (yielded ops a.tmps) = true then Oper.wp P o a W Kc Q else Kc (a.put o.dst undef) W :=
 event_step hw hrun (h _ _ (Fr.newB HF rfl (blk_new W _)) (HF.alloc _) (Mv.below (below_alloc (Below.refl _ _) _)) (Nat.le_refl _))
theorem put_cell (HF : Fr w0 w W g D) {e gb : Nat} {cs : Array Value} (HB : Bk w g e W gb cs) (j : Nat) (u : Value) (hu : TE e → TC q w0.heap.size W e (j % esz e) u) :
  Bk w g e (W.setCell ⟨gb, j, none⟩ u) gb (cs.setIfInBounds j u) ∧ Fr w0 w (W.setCell ⟨gb, j, none⟩ u) g D ∧ Mv q w0 g e W (W.setCell ⟨gb, j, none⟩ u) := by
 refine ⟨⟨blk_set HB.b j u, HB.ne, HB.new⟩, HF.far (Ne.symm HB.ne) HB.new u, ⟨?_, fun b cells t1 ht hb hc => ?_, by simp [World.setCell]⟩⟩
 ·by_cases he : TE e
  ·exact Ext.set HB.b (hu he)
  ·intro b cs1 e1 hb he1 hc
   refine ⟨cs1, (Below.heap_setCell W ⟨gb, j, none⟩ u b ?_).trans hc, rfl, fun i x hx => .inl hx⟩
   rintro rfl
   have h2 := HB.b
   rw [show W.heap[b]? = some (.cells cs1 e1 (0, 0)) from hc] at h2
   injection h2 with h2
   injection h2 with _ h2
   exact he (h2 ▸ he1)
 ·refine (Below.heap_setCell W ⟨gb, j, none⟩ u b ?_).trans hc
  rintro rfl
  have h2 := HB.b
  rw [show W.heap[b]? = some (.cells cells t1 (0, 0)) from hc] at h2
  injection h2 with h2
  injection h2 with _ h2
  exact ht h2
theorem put_block_step (HF : Fr w0 w W g D) {e : TypeId} {gb : Nat} {cs : Array Value} (HB : Bk w g e W gb cs) (hw : Region.wanted o (yielded ops a.tmps) = true) (hN : o.dst = none) (j : Nat) (u : Value)
  (hrun : (execOp a.eval o).run P W = .ok .skip (W.setCell ⟨gb, j, none⟩ u)) (hu : TE e → TC q w0.heap.size W e (j % esz e) u)
  (h : ∀ w1, Bk w g e w1 gb (cs.setIfInBounds j u) → Fr w0 w w1 g D → Mv q w0 g e W w1 → Kc a w1) : if Region.wanted o (yielded ops a.tmps) = true then Oper.wp P o a W Kc Q else Kc (a.put none undef) W := by
 obtain ⟨h1, h2, h3⟩ := put_cell HF HB j u hu
 exact skip_ hw hN hrun (h _ h1 h2 h3)
theorem app_row_step (HF : Fr w0 w W g D) (hw : Region.wanted o (yielded ops a.tmps) = true) (s x : Operand) (t : TypeId) {e : Nat} {z : Value} {bytes : Nat} {A : Option Addr} {n c : Nat} (HL : Lc q w0 w e W A n c)
  (ho : o.op = .call { callee := .builtin .append, args := #[s, x], argTypes := #[t, t] })
  (ht : P.underlying t = some (.slice e)) (hinfo : (P.info? e).map (fun i => (i.zero, i.size, i.bytes)) = some (some z, esz e, bytes)) (hz : z.cells.size = esz e) (hb0 : 0 < bytes)
  (cs : List Value) (hs : a.eval s = .slice A n c) {gb : Nat} (hx : a.eval x = .slice (some ⟨gb, 0, none⟩) 1 1) (HBx : Bk w g e W gb cs.toArray) (hcs : cs.length = esz e) (h1 : ∀ u ∈ cs, u.oneCell' = true) (hn : ∀ j u, cs[j]? = some u → TC q w0.heap.size W e j u)
  (hl : (n + 1) * bytes ≤ 140737488355328)
  (h : ∀ A1 c1 w1, Lc q w0 w e w1 A1 (n + 1) c1 → Fr w0 w w1 g D → Mv q w0 g e W w1 → Kc (a.put o.dst (.slice A1 (n + 1) c1)) w1) :
  if Region.wanted o (yielded ops a.tmps) = true then Oper.wp P o a W Kc Q else Kc (a.put o.dst undef) W := by
 obtain ⟨i0, hi, hzz⟩ := Option.map_eq_some_iff.1 hinfo
 simp only [Prod.mk.injEq] at hzz
 obtain ⟨hz0, hz1, hz2⟩ := hzz
 have hBW : w0.heap.size ≤ W.heap.size := Nat.le_trans HF.base HF.size
 obtain ⟨A1, c1, W1, hr, hg⟩ := run_append_T (P := P) t o.type i0 z bytes ht hi hz0 hz1 hz2 hz (esz_pos e) HL.t hBW ⟨gb, 0, none⟩ 1 cs hcs
  (by simpa using World.news_of_block (cs := cs.toArray) (t := e) (fr := (0, 0)) HBx.b) h1 hn hl hb0
 have hx1 : Ext q w0.heap.size W W1 := by
  intro b cs1 t1 hb he1 hc
  obtain ⟨cs2, e1, e2, e3⟩ := hg.old b cs1 t1 hc
  refine ⟨cs2, e1, e2, fun j u hu => ?_⟩
  rcases e3 j u hu with h | ⟨rfl, h⟩
  ·exact .inl h
  ·exact .inr h
 rw [if_pos hw]
 unfold Oper.wp execOp
 simp only [ho, resolve, invoke, builtin, Sem.run_bind, Sem.run_pure, Result.andThen_ok, List.map_toArray, List.map_cons, List.map_nil, hs, hx, hr]
 refine h A1 c1 W1 ⟨Row.imp hg.row (fun _ _ h => h.ext hx1), HL.e, fun b hb => ?_⟩ (HF.grown hg.grown (HL.t.ne_rd HL.e HF.st) (fun k hk => HL.o k hk)) ⟨hx1, fun b cells t1 hte hbg hc => ?_, hg.grown.size⟩
 ·rcases hg.at_ with h | ⟨b1, h, h2⟩
  ·exact HL.o b (by rw [← h]; exact hb)
  ·rw [h] at hb
   injection hb with hb
   have := HF.size
   omega
 ·exact (hg.grown.block b (blk_lt hc) (HL.t.ne hc hte)).trans hc
end
end Ty
end Go.Proofs.Ytnidjlhbejifoaa.XFnSameRun
