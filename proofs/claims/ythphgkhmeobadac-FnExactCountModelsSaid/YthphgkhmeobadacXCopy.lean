/- The built-in copy, over rows of elements of any number of cells: a row that the call made takes up what another row holds.
Conditions: as many elements here as there. -/
import Derived.Test.YthphgkhmeobadacWWords
import Derived.Test.YthphgkhmeobadacWApart
import Derived.Laws.CopyOwn
import Derived.ArgAppend
namespace Go.Proofs.YthphgkhmeobadacX
open Go.Proofs.YthphgkhmeobadacW.PrintWords Go.RowKit
set_option linter.unusedVariables false

theorem run_copy_many {P : Program} (w : World) (dT sT ty elem : TypeId) (g o dLen dCap : Nat) (a : Addr) (sLen sCap sz : Nat) (cur : Array Value) (t : TypeId) (cs : List Value)
    (hu : P.underlying dT = some (.slice elem)) (hs : (P.info? elem).map (·.size) = some sz)
    (hg : w.heap[g]? = some (.cells cur t (0, 0))) (hn : cs.length = Nat.min sLen dLen * sz)
    (hsrc : ∀ j v, cs[j]? = some v → w.cell? (a.add j) = some v) (hfit : o + cs.length ≤ cur.size) (h1 : ∀ v ∈ cs, v.oneCell' = true) :
    (Builtin.copy_ #[dT, sT] ty #[.slice (some ⟨g, o, none⟩) dLen dCap, .slice (some a) sLen sCap]).run P w =
      .ok (goInt (Nat.min sLen dLen)) (w.setRow g (cur.toList.take o ++ cs ++ cur.toList.drop (o + cs.length)).toArray) := by
  have hl := run_loadCells_list (P := P) (w := w) a cs hsrc
  have hst := run_storeCells_at P g o t cs 0 cur w hg (by simpa using hfit) h1
  cases hq : P.info? elem with
  | none => simp [hq] at hs
  | some i =>
    have hi : i.size = sz := by simpa [hq] using hs
    simp [Builtin.copy_, run_underlying hu, Builtin.lenOf, Builtin.firstCells, sizeOf, typeInfo, hq, hi, ← hn, hl, hst]

section
variable {α : Type} {P : Program} {ops : Array Oper} {rest : List Oper} {o : Oper} {a : Act} {Q : Exit → Act → World → Prop}

theorem R_copy (d : Kd α) {w0 W : World} (base e : Nat) (hgd : o.guard = none) {N : Tmp} (hdst : o.dst = some N) (x y : Operand) (dT sT : TypeId)
    (ho : o.op = .call { callee := .builtin .copy, args := #[x, y], argTypes := #[dT, sT] }) (hu : P.underlying dT = some (.slice e)) (hsz : (P.info? e).map (·.size) = some d.sz) (hs0 : 0 < d.sz)
    {ok : Nat → Prop} {v : Value} {xs ys : List α} {A : Option Addr} {n c : Nat} (hx : a.eval x = v) (hy : a.eval y = .slice A n c)
    (HO : d.R e W base ok v xs) (HR : d.C W A n ys) (hlen : xs.length = n) (hpos : 0 < n)
    (hKM : ∀ (w' : World) (okp : Nat → Prop) (p : α) (cs : List Value), d.K W p cs → d.M w' base okp p cs) (HB : Below base w0 W)
    (h : ∀ w1, d.R e w1 base ok v ys → Below base w0 w1 → wpList P ops Q rest (a.put o.dst (goInt n)) w1) :
    wpList P ops Q (o :: rest) a W := by
  obtain ⟨hok, inner, ⟨hil, hv⟩, hr⟩ := HO
  have hys : ys.length = n := HR.1
  rcases hv with ⟨_, h0⟩ | ⟨g, cap, cur, rfl, hbg, hg, hnc, hcm, hcs, htake⟩
  · omega
  obtain ⟨ad, rfl, _⟩ := HR.2.2 hpos
  obtain ⟨news, hnr, hnc2⟩ := ReadsRow.inner_ HR
  have hone : ∀ u ∈ news, u.oneCell' = true := by
    intro u hu
    obtain ⟨q, hq, rfl⟩ := List.mem_iff_getElem.1 hu
    have hql : q / d.sz < ys.length := by
      rw [Nat.div_lt_iff_lt_mul hs0, ← hnr.1]
      exact hq
    have hc := hnr.2 (q / d.sz) _ (List.getElem?_eq_getElem hql)
    refine d.K_one hc _ ?_
    rw [List.mem_iff_getElem?]
    refine ⟨q % d.sz, ?_⟩
    rw [List.getElem?_take, if_pos (Nat.mod_lt _ hs0), List.getElem?_drop, Nat.mul_comm, Nat.div_add_mod, List.getElem?_eq_getElem hq]
  have hnl : news.length = n * d.sz := by rw [hnr.1, hys]
  have hfit : 0 + news.length ≤ cur.size := by
    rw [Nat.zero_add, hnl, hcs, ← hlen]
    exact Nat.mul_le_mul_right _ hnc
  have hrun := run_copy_many (P := P) W dT sT o.type e g 0 xs.length cap ad n c d.sz cur e news hu hsz hg (by rw [hlen, show Nat.min n n = n from Nat.min_self n, hnl]) hnc2 hfit hone
  refine wpList_plain hgd fun K hK => ?_
  unfold Oper.wp
  rw [hlen, show Nat.min n n = n from Nat.min_self n] at hrun
  simp [execOp, ho, resolve, invoke, builtin, hx, hy, hlen, hrun, Result.andThen]
  refine hK _ _ (h _ ⟨hok, news, ⟨by rw [hys, hnl], .inr ⟨g, cap, _, ?_, hbg, setRow_heap W g _ _ e _ hg, by omega, hcm, ?_, ?_⟩⟩, ?_⟩ (below_setRow HB hbg _))
  · rw [hlen, hys]
  · simp
    omega
  · simp [hys, hnl]
  · exact hnr.imp_ (fun p q hp => hKM _ _ p q hp)
end

theorem setCell_same (w : World) (g i : Nat) (u v : Value) : (w.setCell ⟨g, i, none⟩ u).setCell ⟨g, i, none⟩ v = w.setCell ⟨g, i, none⟩ v := by
  unfold World.setCell
  congr 1
  apply Array.ext_getElem?
  intro k
  simp only [Array.getElem?_modify]
  by_cases h : g = k
  · simp only [if_pos h]
    cases w.heap[k]? with
    | none => rfl
    | some o => cases o <;> simp [Array.setIfInBounds_setIfInBounds]
  · simp only [if_neg h]
theorem setCell_order (w : World) (g i j : Nat) (u v : Value) (h : i < j) : (w.setCell ⟨g, j, none⟩ u).setCell ⟨g, i, none⟩ v = (w.setCell ⟨g, i, none⟩ v).setCell ⟨g, j, none⟩ u := by
  have hij : i ≠ j := Nat.ne_of_lt h
  unfold World.setCell
  congr 1
  apply Array.ext_getElem?
  intro k
  simp only [Array.getElem?_modify]
  by_cases h : g = k
  · simp only [if_pos h]
    cases w.heap[k]? with
    | none => rfl
    | some o => cases o <;> simp [Array.setIfInBounds_comm _ _ hij.symm]
  · simp only [if_neg h]
theorem gate_load {P : Program} {ops : Array Oper} {rest : List Oper} {o : Oper} {a : Act} {Q : Exit → Act → World → Prop} {W : World} {t : TypeId} {p : Operand} (_ho : o.op = .load t p) (h : wpList P ops Q (o :: rest) a W) : wpList P ops Q (o :: rest) a W := h
/-- All of them, each asked. -/
def allO {α : Type} (f : α → Option Bool) : List α → Option Bool
  | [] => some true
  | x :: xs => (f x).bind fun b => (allO f xs).map fun c => b && c
theorem allO_mono {α : Type} {f g : α → Option Bool} (h : ∀ x, LeO (f x) (g x)) : ∀ l, LeO (allO f l) (allO g l)
  | [] => LeO.refl _
  | x :: xs => by
    unfold allO
    exact LeO.bind (h x) (fun b => LeO.map _ (allO_mono h xs))
theorem allO_some {α : Type} {f : α → Option Bool} : ∀ {l : List α} {r : Bool}, allO f l = some r → (∀ x ∈ l, f x = some ((f x).getD false)) ∧ r = l.all fun x => (f x).getD false
  | [], r, h => ⟨fun _ h => by simp at h, by simpa [allO] using h.symm⟩
  | x :: xs, r, h => by
    unfold allO at h
    obtain ⟨b, hb, h⟩ := Option.bind_eq_some_iff.mp h
    obtain ⟨c, hc, rfl⟩ := Option.map_eq_some_iff.mp h
    obtain ⟨h1, h2⟩ := allO_some hc
    refine ⟨fun y hy => ?_, by rw [h2, List.all_cons, hb]; rfl⟩
    rcases List.mem_cons.mp hy with rfl | hy
    · rw [hb]; rfl
    · exact h1 y hy
theorem allO_of {α : Type} {f : α → Option Bool} {q : α → Bool} : ∀ {l : List α}, (∀ x ∈ l, f x = some (q x)) → allO f l = some (l.all q)
  | [], _ => rfl
  | x :: xs, h => by
    unfold allO
    rw [h x (by simp), allO_of (fun y hy => h y (by simp [hy]))]
    rfl
theorem not_any {α : Type} {z : α} {l : List α} {q : α → Bool} {b : Bool} (h : b = true ↔ ∃ x : Int, 0 ≤ x ∧ x < l.length ∧ (!q (l.getD x.toNat z)) = true) : (!b) = l.all q := by
  cases hb : b with
  | false =>
    symm
    simp only [Bool.not_false]
    rw [List.all_eq_true]
    intro y hy
    obtain ⟨i, hi, rfl⟩ := List.mem_iff_getElem.mp hy
    cases hq : q l[i] with
    | true => rfl
    | false =>
      exfalso
      have := h.mpr ⟨(i : Int), by omega, by omega, by rw [Int.toNat_natCast, List.getD_eq_getElem?_getD, List.getElem?_eq_getElem hi]; simp [hq]⟩
      rw [hb] at this
      cases this
  | true =>
    obtain ⟨x, h0, h1, h2⟩ := h.mp hb
    symm
    simp only [Bool.not_true]
    cases ha : l.all q with
    | false => rfl
    | true =>
      have hi : x.toNat < l.length := by omega
      have := List.all_eq_true.mp ha (l.getD x.toNat z) (by rw [List.getD_eq_getElem?_getD, List.getElem?_eq_getElem hi]; exact List.getElem_mem hi)
      rw [this] at h2
      cases h2
theorem getD_mem' {α : Type} {z : α} {l : List α} {x : Int} (h0 : 0 ≤ x) (h1 : x < l.length) : l.getD x.toNat z ∈ l := by
  have hi : x.toNat < l.length := by omega
  rw [List.getD_eq_getElem?_getD, List.getElem?_eq_getElem hi]
  exact List.getElem_mem hi
/-- The cells of a row of rows, as values. -/
theorem rows_vals {α : Type} {d : Kd α} {e : Nat} {w : World} {A : Option Addr} {l : List (List α)} (h : Kd.C (Kd.slice e d) w A l.length l) : ∃ vals : Int → Value, ∀ x : Int, 0 ≤ x → x < l.length → (∃ ad, A = some ad ∧ w.cell? (ad.add x.toNat) = some (vals x)) ∧ ∃ A' c', vals x = .slice A' (l.getD x.toNat []).length c' ∧ (l.getD x.toNat []).length ≤ c' ∧ Kd.C d w A' (l.getD x.toNat []).length (l.getD x.toNat []) := by
  refine Classical.axiomOfChoice (show ∀ x : Int, ∃ v : Value, 0 ≤ x → x < l.length → (∃ ad, A = some ad ∧ w.cell? (ad.add x.toNat) = some v) ∧ ∃ A' c', v = .slice A' (l.getD x.toNat []).length c' ∧ (l.getD x.toNat []).length ≤ c' ∧ Kd.C d w A' (l.getD x.toNat []).length (l.getD x.toNat []) from fun x => ?_)
  by_cases hx : 0 ≤ x ∧ x < l.length
  · obtain ⟨ad, c, e, _, ⟨A', cc, rfl, hcc, hC⟩, hcell⟩ := Kd.C_get h [] x hx.1 hx.2
    refine ⟨_, fun _ _ => ⟨⟨ad, e, ?_⟩, A', cc, rfl, hcc, hC⟩⟩
    have := hcell 0 _ rfl
    simpa [Kd.slice] using this
  · exact ⟨undef, fun h0 h1 => absurd ⟨h0, h1⟩ hx⟩
theorem ints_vals {k : IntKind} {w : World} {A : Option Addr} {l : List Int} (h : Kd.C (Kd.int k) w A l.length l) : ∀ x : Int, 0 ≤ x → x < l.length → ∃ ad, A = some ad ∧ w.cell? (ad.add x.toNat) = some (.int k (l.getD x.toNat 0)) := fun x h0 h1 => by
  obtain ⟨ad, c, e, _, rfl, hcell⟩ := Kd.C_get h 0 x h0 h1
  refine ⟨ad, e, ?_⟩
  have := hcell 0 _ rfl
  simpa [Kd.int, Kd.scalar] using this
section
variable {α : Type} {P : Program} {ops : Array Oper} {rest : List Oper} {o : Oper} {a : Act} {Q : Exit → Act → World → Prop}
/-- append(clipped, x): the row is full, so that a new one is laid. -/
theorem R_append_full (d : Kd α) {W : World} (base e : Nat) (hgd : o.guard = none) (s x : Operand) (t : TypeId) (z : Value) (bytes : Nat)
    (ho : o.op = .call { callee := .builtin .append, args := #[s, x], argTypes := #[t, t] }) (ht : P.underlying t = some (.slice e)) (hinfo : (P.info? e).map (fun i => (i.zero, i.size, i.bytes)) = some (some z, d.sz, bytes)) (hz : z.cells.size = d.sz) (hs0 : 0 < d.sz) (hb0 : 0 < bytes)
    {ok : Nat → Prop} {A : Option Addr} {n c : Nat} {xs : List α} (hs : a.eval s = .slice A n n) (HR : d.R e W base ok (.slice A n c) xs) (p : α) (ys : List Value) (hx : a.eval x = .slice (some ⟨W.heap.size, 0, none⟩) 1 1) (hp : d.K W p ys)
    (hKM : ∀ (w' : World) (base' : Nat) (okp : Nat → Prop) (p : α) (cs : List Value), d.K W p cs → d.M w' base' okp p cs) (hl : (n + 1) * bytes ≤ 140737488355328)
    (h : ∀ v1 w1, d.R e w1 W.heap.size (fun _ => True) v1 (xs ++ [p]) → Below W.heap.size W w1 → wpList P ops Q rest (a.put o.dst v1) w1) :
    wpList P ops Q (o :: rest) a (W.alloc (.cells ys.toArray e)) := by
  obtain ⟨i0, hi, hzz⟩ := Option.map_eq_some_iff.1 hinfo
  simp only [Prod.mk.injEq] at hzz
  obtain ⟨hz0, hz1, hz2⟩ := hzz
  obtain ⟨hok, inner, hown, hreps⟩ := HR
  have hlen : n + 1 ≤ 140737488355328 := Nat.le_trans (Nat.le_mul_of_pos_right _ hb0) hl
  have hn : n = xs.length ∧ (A = none → n = 0 ∧ n = 0) ∧ ∀ b, A = some b → ∀ j u, inner[j]? = some u → (W.alloc (.cells ys.toArray e)).cell? (b.add j) = some u := by
    rcases hown.2 with ⟨hv, hz⟩ | ⟨g, cap, cur, hv, _, hh, h1, h2, h3, h4⟩
    · injection hv with e1 e2 e3
      subst e1
      exact ⟨by omega, (fun _ => ⟨by omega, by omega⟩), (fun b hb => by cases hb)⟩
    · injection hv with e1 e2 e3
      subst e1
      refine ⟨e2, (fun h => by cases h), fun b hb j u hu => ?_⟩
      injection hb with hb
      subst hb
      rw [add_plain]
      have hc := hown.cells (g := g) (by simp [Value.ownBlock]) j u hu
      rw [add_plain] at hc
      exact (pw_cell_below (below_alloc (Below.refl _ _) _) hc)
  obtain ⟨hn1, hnone, holds⟩ := hn
  have hys := d.K_len hp
  refine wpList_append_grows (W.alloc (.cells ys.toArray e)) hgd s x t ho e i0 z d.sz bytes ht hi hz0 hz1 hz2 hz hs0 A n n inner hs hnone (by rw [hn1]; exact hown.1) holds ⟨W.heap.size, 0, none⟩ 1 1 ys hx (by rw [hys]; simp)
    (by simpa using World.news_of_block (cs := ys.toArray) (t := e) (fr := (0, 0)) (heap_alloc_new W (.cells ys.toArray e))) (d.K_one hp) (by omega) (by simp only [maxLen]; omega) hl ?_
  intro v1 w1 hown1 hg
  have hB : Below W.heap.size W w1 := (below_alloc (Below.refl W.heap.size W) (.cells ys.toArray e)).grown hg (by simp) (fun k hk => by cases hk)
  refine h v1 w1 ⟨fun _ _ => trivial, inner ++ ys, ?_, ?_⟩ hB
  · rw [List.length_append, List.length_singleton, ← hn1]
    exact own_weaken hown1 (by simp)
  · exact Reps.snoc (hreps.imp_ (fun q cs hq => hKM _ _ _ q cs (d.K_of_M hq))) (hKM _ _ _ p ys hp) hys
end
/-- Which of n things are done, as a number's bits. -/
def bA (n m : Nat) : Array Bool := ((List.range n).map fun j => m.testBit j).toArray
theorem splitS {α β : Type} {d : Kd α} {d2 : Kd β} {e e2 : Nat} {W w1 : World} {base : Nat} {ok ok2 : Nat → Prop} {v u : Value} {xs : List α} {ys : List β} (hf : Kd.S d e W base ok v xs) (hp : Kd.S d2 e2 w1 W.heap.size ok2 u ys) (hb : Below W.heap.size W w1) : ∃ N, Kd.S d e w1 base (fun k => (ok k ∧ some k ≠ u.ownBlock) ∧ k < N) v xs ∧ Kd.S d2 e2 w1 W.heap.size (fun k => ok2 k ∧ N ≤ k) u ys := ⟨W.heap.size, Kd.S_told (Kd.S_old hf hb) (Kd.S_base hp), Kd.S_mono (Kd.S_bound hp) (fun _ h => ⟨h.1, h.2.1⟩)⟩

end Go.Proofs.YthphgkhmeobadacX
