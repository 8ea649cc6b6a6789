/- The first element of a row told by type: it is read, and stored into.
Conditions: each theorem's own. -/
import Derived.Test.YtnidjlhbejifoaaRTyR
namespace Go.Proofs.Ytnidjlhbejifoaa.XFnSameRun
open Go.RowKit Go.Proofs.YtnidjlhbejifoaaW.PrintWords Go.Proofs.YtnidjlhbejifoaaW.PrintLast Go.Proofs.YtnidjlhbejifoaaW.PrintMore Go.Proofs.YtnidjlhbejifoaaX
set_option linter.unusedVariables false
set_option linter.unusedSimpArgs false
namespace Ty
section
variable {q q1 : Nat → Prop} {B e sz n c : Nat} {K K1 : Nat → Value → Prop} {W W1 : World} {A : Option Addr} {u : Value}
theorem addr0 {ad : Addr} (h : ad.spot = none) : ad = ⟨ad.block, ad.off + 0, none⟩ := by
 obtain ⟨b, o, s⟩ := ad
 subst h
 rfl
theorem T.cell0 {ad : Addr} (h : T q B e W (some ad) n c) (hn : 0 < n) : ∃ u, W.cell? ad = some u := by
 obtain ⟨u, hu⟩ := h.cellOf 0 (Nat.mul_pos hn (esz_pos e))
 rw [← addr0 h.spot_] at hu
 exact ⟨u, hu⟩
theorem T.free0 {ad : Addr} (h : T q B e W (some ad) n c) : W.frozen? ad = false := by
 have h1 := h.freeOf ad.off
 have h2 := addr0 h.spot_
 rw [h2]
 exact h1
theorem TC.r0 {A1 : Option Addr} {n1 c1 : Nat} (hn : q n1) (h : T q1 B 54 W A1 n1 c1) : TC q B W 59 (0 % esz 59) (.slice A1 n1 c1) := by
 have e : 0 % esz 59 = 0 := rfl
 rw [e]
 simp only [TC]
 exact ⟨A1, n1, c1, rfl, hn, h.r54⟩
theorem TC.r1 {A1 : Option Addr} {n1 c1 : Nat} (hn : q n1) (h : T q1 B 3 W A1 n1 c1) : TC q B W 59 (1 % esz 59) (.slice A1 n1 c1) := by
 have e : 1 % esz 59 = 1 := rfl
 rw [e]
 simp only [TC]
 exact ⟨A1, n1, c1, rfl, hn, h.r3⟩
theorem TC.r2 {A1 : Option Addr} {n1 c1 : Nat} (hn : q n1) (h : T q B 56 W A1 n1 c1) : TC q B W 59 (2 % esz 59) (.slice A1 n1 c1) := by
 have e : 2 % esz 59 = 2 := rfl
 rw [e]
 simp only [TC]
 exact ⟨A1, n1, c1, rfl, hn, h.r56⟩
/-- Another variable's block, whatever its type. -/
theorem Bk.other {w : World} {g t gb b : Nat} {cs : Array Value} (h : Bk w g t W b cs) (hk : ∀ k, k ≠ gb → W1.heap[k]? = W.heap[k]?) (hne : b ≠ gb) : Bk w g t W1 b cs := ⟨(hk b hne).trans h.b, h.ne, h.new⟩
theorem Bk.lt {w : World} {g t b : Nat} {cs : Array Value} (h : Bk w g t W b cs) : b < W.heap.size := blk_lt h.b
section
variable {Pr : Program} {ops : Array Oper} {rest : List Oper} {o : Oper} {a : Act} {Q : Exit → Act → World → Prop} {Kc : Act → World → Prop} {w0 w : World} {g : Nat} {D : Int}
theorem put_block_k (HF : Fr w0 w W g D) {e : TypeId} {gb : Nat} {cs : Array Value} (HB : Bk w g e W gb cs) (hgd : o.guard = none) {t : TypeId} {p : Tmp} {v : Operand} (_ho : o.op = .store t (.tmp p) v) (hN : o.dst = none) (j : Nat) (u : Value)
  (hrun : (execOp a.eval o).run Pr W = .ok .skip (W.setCell ⟨gb, j, none⟩ u)) (hu : TE e → TC q w0.heap.size W e (j % esz e) u)
  (h : ∀ w1, Bk w g e w1 gb (cs.setIfInBounds j u) → Fr w0 w w1 g D → Mv q w0 g e W w1 → (∀ k, k ≠ gb → w1.heap[k]? = W.heap[k]?) → wpList Pr ops Q rest a w1) : wpList Pr ops Q (o :: rest) a W := by
 obtain ⟨h1, h2, h3⟩ := put_cell HF HB j u hu
 refine store_event hgd _ho hN hrun ?_
 rintro w' rfl
 exact h _ h1 h2 h3 (fun k hk => Below.heap_setCell W ⟨gb, j, none⟩ u k hk)
theorem put_block_step_k (HF : Fr w0 w W g D) {e : TypeId} {gb : Nat} {cs : Array Value} (HB : Bk w g e W gb cs) (hw : Region.wanted o (yielded ops a.tmps) = true) (hN : o.dst = none) (j : Nat) (u : Value)
  (hrun : (execOp a.eval o).run Pr W = .ok .skip (W.setCell ⟨gb, j, none⟩ u)) (hu : TE e → TC q w0.heap.size W e (j % esz e) u)
  (h : ∀ w1, Bk w g e w1 gb (cs.setIfInBounds j u) → Fr w0 w w1 g D → Mv q w0 g e W w1 → (∀ k, k ≠ gb → w1.heap[k]? = W.heap[k]?) → Kc a w1) : if Region.wanted o (yielded ops a.tmps) = true then Oper.wp Pr o a W Kc Q else Kc (a.put none undef) W := by
 obtain ⟨h1, h2, h3⟩ := put_cell HF HB j u hu
 exact skip_ hw hN hrun (h _ h1 h2 h3 (fun k hk => Below.heap_setCell W ⟨gb, j, none⟩ u k hk))
theorem whole_cells (HF : Fr w0 w W g D) {e gb : Nat} {old : Array Value} (HB : Bk w g e W gb old) (cells : Array Value) (hold : old.size = cells.size) (hu : TE e → ∀ (j : Nat) (u : Value), cells[j]? = some u → TC q w0.heap.size W e (j % esz e) u) :
  Bk w g e (W.setRow gb cells) gb cells ∧ Fr w0 w (W.setRow gb cells) g D ∧ Mv q w0 g e W (W.setRow gb cells) ∧ ∀ k, k ≠ gb → (W.setRow gb cells).heap[k]? = W.heap[k]? := by
 have hother : ∀ k, k ≠ gb → (W.setRow gb cells).heap[k]? = W.heap[k]? := fun k hk => setRow_other W gb k cells hk
 have hg : W.grownBy (W.setRow gb cells) (some gb) := ⟨rfl, rfl, rfl, by simp, fun k _ hk => hother k (fun h => hk (by rw [h]))⟩
 refine ⟨⟨setRow_heap W gb old cells e (0, 0) HB.b, HB.ne, HB.new⟩, HF.grown hg (fun h => HB.ne (by injection h with h; exact h.symm)) (fun k hk => by injection hk with hk; subst hk; exact HB.new), ⟨?_, fun b cells1 t1 ht hb hc => (hother b ?_).trans hc, hg.size⟩, hother⟩
 ·intro b cs1 e1 hb he1 hc
  by_cases hbg : b = gb
  ·subst hbg
   have h2 := HB.b
   rw [show W.heap[b]? = some (.cells cs1 e1 (0, 0)) from hc] at h2
   injection h2 with h2
   injection h2 with h3 h4
   subst h3
   subst h4
   exact ⟨cells, setRow_heap W b cs1 cells e1 (0, 0) hc, hold.symm, fun j u hj => .inr (hu he1 j u hj)⟩
  ·exact ⟨cs1, (hother b hbg).trans hc, rfl, fun j u hj => .inl hj⟩
 ·rintro rfl
  have h2 := HB.b
  rw [show W.heap[b]? = some (.cells cells1 t1 (0, 0)) from hc] at h2
  injection h2 with h2
  injection h2 with _ h2
  exact ht h2
theorem put_whole_k (HF : Fr w0 w W g D) {e : TypeId} {gb : Nat} {old : Array Value} (HB : Bk w g e W gb old) (hgd : o.guard = none) {ty : TypeId} {x y : Operand} (ho : o.op = .store ty x y) (hN : o.dst = none) (cells : Array Value)
  (hx : a.eval x = .pointer (some ⟨gb, 0, none⟩)) (hy : a.eval y = .agg cells) (hi : (Pr.info? ty).map (·.size) = some cells.size) (hold : old.size = cells.size) (h1 : cells.all (·.oneCell') = true) (hu : TE e → ∀ (j : Nat) (u : Value), cells[j]? = some u → TC q w0.heap.size W e (j % esz e) u)
  (h : ∀ w1, Bk w g e w1 gb cells → Fr w0 w w1 g D → Mv q w0 g e W w1 → (∀ k, k ≠ gb → w1.heap[k]? = W.heap[k]?) → wpList Pr ops Q rest a w1) : wpList Pr ops Q (o :: rest) a W := by
 refine wpList_store_row hgd ty x y ho gb cells hx hy e old HB.b hi hold h1 ?_
 have hp : a.put o.dst undef = a := by rw [hN]; rfl
 rw [hp]
 obtain ⟨h2, h3, h4, h5⟩ := whole_cells HF HB cells hold hu
 exact h _ h2 h3 h4 h5
theorem put_whole_step (HF : Fr w0 w W g D) {e : TypeId} {gb : Nat} {old : Array Value} (HB : Bk w g e W gb old) (hw : Region.wanted o (yielded ops a.tmps) = true) {ty : TypeId} {x y : Operand} (ho : o.op = .store ty x y) (hN : o.dst = none) (cells : Array Value)
  (hx : a.eval x = .pointer (some ⟨gb, 0, none⟩)) (hy : a.eval y = .agg cells) (hi : (Pr.info? ty).map (·.size) = some cells.size) (hold : old.size = cells.size) (h1 : cells.all (·.oneCell') = true) (hu : TE e → ∀ (j : Nat) (u : Value), cells[j]? = some u → TC q w0.heap.size W e (j % esz e) u)
  (h : ∀ w1, Bk w g e w1 gb cells → Fr w0 w w1 g D → Mv q w0 g e W w1 → (∀ k, k ≠ gb → w1.heap[k]? = W.heap[k]?) → Kc a w1) : if Region.wanted o (yielded ops a.tmps) = true then Oper.wp Pr o a W Kc Q else Kc (a.put none undef) W := by
 rw [if_pos hw]
 obtain ⟨h2, h3, h4, h5⟩ := whole_cells HF HB cells hold hu
 refine wp_store_row ty x y ho gb cells hx hy e old HB.b hi hold h1 ?_
 have hp : a.put o.dst undef = a := by rw [hN]; rfl
 rw [hp]
 exact h _ h2 h3 h4 h5
theorem put_row0 {ad : Addr} (HF : Fr w0 w W g D) (HL : Lc q w0 w e W (some ad) n c) (hgd : o.guard = none) {t : TypeId} {p : Tmp} {v : Operand} (_ho : o.op = .store t (.tmp p) v) (hN : o.dst = none) (u : Value) (hu : TC q w0.heap.size W e 0 u)
  (hrun : (execOp a.eval o).run Pr W = .ok .skip (W.setCell ad u))
  (h : ∀ w1, Lc q w0 w e w1 (some ad) n c → Fr w0 w w1 g D → Mv q w0 g e W w1 → wpList Pr ops Q rest a w1) : wpList Pr ops Q (o :: rest) a W := by
 have h2 := addr0 HL.t.spot_
 rw [h2] at hrun
 exact put_row HF HL hgd _ho hN 0 u (by rw [Nat.zero_mod]; exact hu) hrun h
theorem put_row0_step {ad : Addr} (HF : Fr w0 w W g D) (HL : Lc q w0 w e W (some ad) n c) (hw : Region.wanted o (yielded ops a.tmps) = true) (hN : o.dst = none) (u : Value) (hu : TC q w0.heap.size W e 0 u)
  (hrun : (execOp a.eval o).run Pr W = .ok .skip (W.setCell ad u))
  (h : ∀ w1, Lc q w0 w e w1 (some ad) n c → Fr w0 w w1 g D → Mv q w0 g e W w1 → Kc a w1) : if Region.wanted o (yielded ops a.tmps) = true then Oper.wp Pr o a W Kc Q else Kc (a.put none undef) W := by
 have h2 := addr0 HL.t.spot_
 rw [h2] at hrun
 exact put_row_step HF HL hw hN 0 u (by rw [Nat.zero_mod]; exact hu) hrun h
end
end
end Ty
end Go.Proofs.Ytnidjlhbejifoaa.XFnSameRun
