/- Rows told by their elements' type are read as some lists; rows that hold a list are rows told by type.
Conditions: each theorem's own. -/
import Derived.Test.YtnidjlhbejifoaaRTyW
namespace Go.Proofs.Ytnidjlhbejifoaa.XFnSameRun
open Go.RowKit Go.Proofs.YtnidjlhbejifoaaW.PrintWords Go.Proofs.YtnidjlhbejifoaaW.PrintLast Go.Proofs.YtnidjlhbejifoaaW.PrintMore Go.Proofs.YtnidjlhbejifoaaX
set_option linter.unusedVariables false
set_option linter.unusedSimpArgs false
namespace Ty
/-- A block of a known type. -/
def okT (W : World) (k : Nat) : Prop := ∃ cs e, TE e ∧ W.heap[k]? = some (.cells cs e (0, 0))
section
variable {q q1 : Nat → Prop} {B e sz n c : Nat} {K : Nat → Value → Prop} {W W1 : World} {A : Option Addr} {u : Value} {α : Type}
theorem Row.F (d : Kd α) (hd : d.sz = sz) (hs : 0 < sz) (he : TE e) (h : Row B e sz K W A n c) (Pq : α → Prop)
  (hel : ∀ cs : List Value, cs.length = sz → (∀ i u, cs[i]? = some u → K i u) → ∃ x, Kd.FK d W (okT W) x cs ∧ Pq x) : ∃ xs : List α, xs.length = n ∧ Kd.F d W (okT W) A n xs ∧ ∀ x ∈ xs, Pq x := by
 subst hd
 have hmax := h.max
 have hle := h.le
 rcases h with ⟨rfl, rfl, rfl⟩ | ⟨g, off, cs, rfl, hB, hg, hoff, hnc, hcm, hfit, ho⟩
 ·exact ⟨[], rfl, Kd.F_nil d W _, fun x hx => by cases hx⟩
 ·have hlen : ∀ j, j < n → ((cs.toList.drop (off + j * d.sz)).take d.sz).length = d.sz := by
   intro j hj
   have h1 : j * d.sz + d.sz ≤ c * d.sz := by rw [← Nat.succ_mul]; exact Nat.mul_le_mul_right _ (by omega)
   simp only [List.length_take, List.length_drop, Array.length_toList]
   omega
  have hat : ∀ j i u, ((cs.toList.drop (off + j * d.sz)).take d.sz)[i]? = some u → i < d.sz ∧ cs[off + (j * d.sz + i)]? = some u := by
   intro j i u hu
   have hi : i < d.sz := by
    have := (List.getElem?_eq_some_iff.1 hu).1
    simp only [List.length_take] at this
    omega
   rw [List.getElem?_take_of_lt hi, List.getElem?_drop] at hu
   exact ⟨hi, by rw [← Nat.add_assoc]; simpa using hu⟩
  have hex : ∀ j : Fin n, ∃ x, Kd.FK d W (okT W) x ((cs.toList.drop (off + j.1 * d.sz)).take d.sz) ∧ Pq x := by
   intro j
   refine hel _ (hlen j.1 j.2) (fun i u hu => ?_)
   obtain ⟨hi, h2⟩ := hat j.1 i u hu
   have h1 : j.1 * d.sz + d.sz ≤ n * d.sz := by rw [← Nat.succ_mul]; exact Nat.mul_le_mul_right _ (by have := j.2; omega)
   have h3 := ho (j.1 * d.sz + i) u (by omega) h2
   rw [Nat.add_comm, Nat.add_mul_mod_self_right, Nat.mod_eq_of_lt hi] at h3
   exact h3
  refine ⟨List.ofFn (fun j => Classical.choose (hex j)), by simp, fun W' hW => ⟨by simp, by omega, fun hn => ⟨⟨g, off, none⟩, rfl, fun j p hp => ?_⟩⟩, fun x hx => ?_⟩
  ·obtain ⟨hj, hp2⟩ := List.getElem?_eq_some_iff.1 hp
   have hjn : j < n := by simpa using hj
   have hx : p = Classical.choose (hex ⟨j, hjn⟩) := by rw [← hp2]; simp
   have hs2 := Classical.choose_spec (hex ⟨j, hjn⟩)
   rw [← hx] at hs2
   refine ⟨_, hlen j hjn, hs2.1 W' hW, fun i u hu => ?_⟩
   obtain ⟨hi, h2⟩ := hat j i u hu
   rw [Addr.add_lit]
   have hb : W'.heap[g]? = some (.cells cs e (0, 0)) := (hW g ⟨cs, e, he, hg⟩ (blk_lt hg)).trans hg
   rw [cell_of_row W' g _ cs e (0, 0) hb]
   exact h2
  ·obtain ⟨j, hj, rfl⟩ := List.mem_iff_getElem.1 hx
   rw [List.getElem_ofFn]
   exact (Classical.choose_spec (hex _)).2
theorem TE3 : TE 3 := by unfold TE; omega
theorem TE51 : TE 51 := by unfold TE; omega
theorem TE54 : TE 54 := by unfold TE; omega
theorem TE28 : TE 28 := by unfold TE; omega
theorem TE56 : TE 56 := by unfold TE; omega
theorem TE59 : TE 59 := by unfold TE; omega
theorem Row.c3 (h : Row B 3 1 (fun _ => isI) W A n c) : ∃ xs : List Int, xs.length = n ∧ Kd.F (Kd.int .i64) W (okT W) A n xs := by
 obtain ⟨xs, h1, h2, _⟩ := Row.F (Kd.int .i64) rfl (by decide) TE3 h (fun _ => True) (fun cs hl hk => by
  match cs, hl with
  | [u], _ =>
   obtain ⟨z, rfl⟩ := hk 0 u rfl
   exact ⟨z, fun W' _ => rfl, trivial⟩)
 exact ⟨xs, h1, h2⟩
theorem Row.c51 (h : Row B 51 3 (fun _ => isI) W A n c) : ∃ xs : List S51, xs.length = n ∧ Kd.F k51 W (okT W) A n xs := by
 obtain ⟨xs, h1, h2, _⟩ := Row.F k51 rfl (by decide) TE51 h (fun _ => True) (fun cs hl hk => by
  match cs, hl with
  | [u0, u1, u2], _ =>
   obtain ⟨z0, rfl⟩ := hk 0 _ rfl
   obtain ⟨z1, rfl⟩ := hk 1 _ rfl
   obtain ⟨z2, rfl⟩ := hk 2 _ rfl
   exact ⟨⟨z0, z1, z2⟩, k51_mkF W _ ⟨z0, z1, z2⟩, trivial⟩)
 exact ⟨xs, h1, h2⟩
theorem Row.c54 (h : Row B 54 4 (fun _ => isI) W A n c) : ∃ xs : List S54, xs.length = n ∧ Kd.F k54 W (okT W) A n xs := by
 obtain ⟨xs, h1, h2, _⟩ := Row.F k54 rfl (by decide) TE54 h (fun _ => True) (fun cs hl hk => by
  match cs, hl with
  | [u0, u1, u2, u3], _ =>
   obtain ⟨z0, rfl⟩ := hk 0 _ rfl
   obtain ⟨z1, rfl⟩ := hk 1 _ rfl
   obtain ⟨z2, rfl⟩ := hk 2 _ rfl
   obtain ⟨z3, rfl⟩ := hk 3 _ rfl
   exact ⟨⟨z0, z1, z2, z3⟩, k54_mkF W _ ⟨z0, z1, z2, z3⟩, trivial⟩)
 exact ⟨xs, h1, h2⟩
theorem TI.fk3 (h : TI B 3 q W u) : ∃ x : List Int, Kd.FK (Kd.slice 3 (Kd.int .i64)) W (okT W) x [u] ∧ q x.length := by
 obtain ⟨A, n, c, rfl, hq, hr⟩ := h
 obtain ⟨xs, rfl, h2⟩ := Row.c3 hr
 exact ⟨xs, fun W' hW => ⟨A, c, rfl, hr.le, h2 W' hW⟩, hq⟩
theorem TI.fk54 (h : TI B 54 q W u) : ∃ x : List S54, Kd.FK (Kd.slice 54 k54) W (okT W) x [u] ∧ q x.length := by
 obtain ⟨A, n, c, rfl, hq, hr⟩ := h
 obtain ⟨xs, rfl, h2⟩ := Row.c54 hr
 exact ⟨xs, fun W' hW => ⟨A, c, rfl, hr.le, h2 W' hW⟩, hq⟩
theorem T.r3 (h : T q B 3 W A n c) : Row B 3 1 (fun _ => isI) W A n c := Row.imp h (fun _ _ h => by simpa [TC] using h)
theorem T.r51 (h : T q B 51 W A n c) : Row B 51 3 (fun _ => isI) W A n c := Row.imp h (fun _ _ h => by simpa [TC] using h)
theorem T.r54 (h : T q B 54 W A n c) : Row B 54 4 (fun _ => isI) W A n c := Row.imp h (fun _ _ h => by simpa [TC] using h)
theorem T.r28 (h : T q B 28 W A n c) : Row B 28 1 (fun _ => TI B 3 q W) W A n c := Row.imp h (fun _ _ h => by simpa [TC] using h)
theorem T.r56 (h : T q B 56 W A n c) : Row B 56 1 (fun _ => TI B 54 q W) W A n c := Row.imp h (fun _ _ h => by simpa [TC] using h)
theorem T.r59 (h : T q B 59 W A n c) : Row B 59 3 (fun i u => if i = 0 then TI B 54 q W u else if i = 1 then TI B 3 q W u else TJ q B W u) W A n c := Row.imp h (fun _ _ h => by simpa [TC] using h)
theorem T.of3 (h : Row B 3 1 (fun _ => isI) W A n c) : T q B 3 W A n c := Row.imp h (fun _ _ h => by simpa [TC] using h)
theorem T.of54 (h : Row B 54 4 (fun _ => isI) W A n c) : T q B 54 W A n c := Row.imp h (fun _ _ h => by simpa [TC] using h)
theorem T.of56 (h : Row B 56 1 (fun _ => TI B 54 q W) W A n c) : T q B 56 W A n c := Row.imp h (fun _ _ h => by simpa [TC] using h)
theorem Row.c56 (h : Row B 56 1 (fun _ => TI B 54 q W) W A n c) : ∃ xs : List (List S54), xs.length = n ∧ Kd.F (Kd.slice 54 k54) W (okT W) A n xs ∧ ∀ x ∈ xs, q x.length :=
 Row.F (Kd.slice 54 k54) rfl (by decide) TE56 h (fun x => q x.length) (fun cs hl hk => by
  match cs, hl with
  | [u], _ => exact TI.fk54 (hk 0 u rfl))
theorem T.c3 (h : T q B 3 W A n c) : ∃ xs : List Int, xs.length = n ∧ Kd.F (Kd.int .i64) W (okT W) A n xs := h.r3.c3
theorem T.c51 (h : T q B 51 W A n c) : ∃ xs : List S51, xs.length = n ∧ Kd.F k51 W (okT W) A n xs := h.r51.c51
theorem T.c54 (h : T q B 54 W A n c) : ∃ xs : List S54, xs.length = n ∧ Kd.F k54 W (okT W) A n xs := h.r54.c54
theorem T.c28 (h : T q B 28 W A n c) : ∃ xs : List (List Int), xs.length = n ∧ Kd.F (Kd.slice 3 (Kd.int .i64)) W (okT W) A n xs ∧ ∀ x ∈ xs, q x.length :=
 Row.F (Kd.slice 3 (Kd.int .i64)) rfl (by decide) TE28 h.r28 (fun x => q x.length) (fun cs hl hk => by
  match cs, hl with
  | [u], _ => exact TI.fk3 (hk 0 u rfl))
/-- A rule all of whose parts are short. -/
def Short (q : Nat → Prop) (x : S59) : Prop := q x.f0.length ∧ q x.f1.length ∧ q x.f2.length ∧ ∀ t ∈ x.f2, q t.length
theorem T.c59 (h : T q B 59 W A n c) : ∃ xs : List S59, xs.length = n ∧ Kd.F k59 W (okT W) A n xs ∧ ∀ x ∈ xs, Short q x :=
 Row.F k59 rfl (by decide) TE59 h.r59 (Short q) (fun cs hl hk => by
  match cs, hl with
  | [u0, u1, u2], _ =>
   obtain ⟨A0, n0, c0, rfl, q0, r0⟩ : TI B 54 q W u0 := by simpa using hk 0 _ rfl
   obtain ⟨A1, n1, c1, rfl, q1, r1⟩ : TI B 3 q W u1 := by simpa using hk 1 _ rfl
   obtain ⟨A2, n2, c2, rfl, q2, r2⟩ : TJ q B W u2 := by simpa using hk 2 _ rfl
   obtain ⟨x0, rfl, f0⟩ := Row.c54 r0
   obtain ⟨x1, rfl, f1⟩ := Row.c3 r1
   obtain ⟨x2, rfl, f2, p2⟩ := Row.c56 r2
   exact ⟨⟨x0, x1, x2⟩, k59_mkF W _ ⟨x0, x1, x2⟩ r0.le f0 r1.le f1 r2.le f2, q0, q1, q2, p2⟩)
/-- Single elements. -/
theorem Row.at_ (h : Row B e sz K W A n c) (i : Nat) (hi : i < n) : ∃ ad : Addr, A = some ad ∧ ad.spot = none ∧ ∀ j, j < sz → ∃ u, W.cell? ⟨ad.block, ad.off + i * sz + j, none⟩ = some u ∧ K j u := by
 rcases h with ⟨_, rfl, _⟩ | ⟨g, off, cs, rfl, hB, hg, hoff, hnc, hcm, hfit, ho⟩
 ·omega
 ·refine ⟨_, rfl, rfl, fun j hj => ?_⟩
  have h1 : i * sz + sz ≤ n * sz := by rw [← Nat.succ_mul]; exact Nat.mul_le_mul_right _ (by omega)
  have h2 : n * sz ≤ c * sz := Nat.mul_le_mul_right _ hnc
  have hl : off + (i * sz + j) < cs.size := by omega
  refine ⟨cs[off + (i * sz + j)], ?_, ?_⟩
  ·rw [cell_of_row W g _ cs e (0, 0) hg]
   simp only [Nat.add_assoc]
   exact Array.getElem?_eq_getElem hl
  ·have h3 := ho (i * sz + j) _ (by omega) (Array.getElem?_eq_getElem hl)
   have h4 : (i * sz + j) % sz = j := by rw [Nat.add_comm, Nat.add_mul_mod_self_right, Nat.mod_eq_of_lt hj]
   rw [h4] at h3
   exact h3
theorem T.some_ (h : T q B e W A n c) (hn : 0 < n) : ∃ ad : Addr, A = some ad := by
 obtain ⟨ad, h, _⟩ := Row.at_ h 0 hn
 exact ⟨ad, h⟩
theorem add_spot {ad : Addr} (h : ad.spot = none) (k : Nat) : ad.add k = ⟨ad.block, ad.off + k, none⟩ := by
 obtain ⟨b, o, s⟩ := ad
 subst h
 exact Addr.add_lit b o k
theorem T.at3 {ad : Addr} (h : T q B 3 W (some ad) n c) (i : Int) (h0 : 0 ≤ i) (h1 : i < n) : ∃ z : Int, W.cell? (ad.add i.toNat) = some (.int .i64 z) := by
 obtain ⟨ad2, e, hs, hc⟩ := h.r3.at_ i.toNat (by omega)
 cases e
 obtain ⟨u, hu, z, rfl⟩ := hc 0 (by omega)
 refine ⟨z, ?_⟩
 rw [add_spot hs]
 simpa using hu
theorem T.at28 {ad : Addr} (h : T q B 28 W (some ad) n c) (i : Int) (h0 : 0 ≤ i) (h1 : i < n) : ∃ A1 n1 c1, W.cell? (ad.add i.toNat) = some (.slice A1 n1 c1) ∧ q n1 ∧ T q1 B 3 W A1 n1 c1 := by
 obtain ⟨ad2, e, hs, hc⟩ := h.r28.at_ i.toNat (by omega)
 cases e
 obtain ⟨u, hu, A1, n1, c1, rfl, hq, hr⟩ := hc 0 (by omega)
 refine ⟨A1, n1, c1, ?_, hq, T.of3 hr⟩
 rw [add_spot hs]
 simpa using hu
theorem T.at51 {ad : Addr} (h : T q B 51 W (some ad) n c) (i : Int) (h0 : 0 ≤ i) (h1 : i < n) : ∃ a b d : Int, W.cell? (ad.add (i.toNat * 3)) = some (.int .i64 a) ∧ W.cell? ⟨(ad.add (i.toNat * 3)).block, (ad.add (i.toNat * 3)).off + 1, none⟩ = some (.int .i64 b) ∧ W.cell? ⟨(ad.add (i.toNat * 3)).block, (ad.add (i.toNat * 3)).off + 2, none⟩ = some (.int .i64 d) := by
 obtain ⟨ad2, e, hs, hc⟩ := h.r51.at_ i.toNat (by omega)
 cases e
 obtain ⟨u0, hu0, z0, rfl⟩ := hc 0 (by omega)
 obtain ⟨u1, hu1, z1, rfl⟩ := hc 1 (by omega)
 obtain ⟨u2, hu2, z2, rfl⟩ := hc 2 (by omega)
 exact ⟨z0, z1, z2, by rw [add_spot hs]; exact hu0, by rw [add_spot hs]; exact hu1, by rw [add_spot hs]; exact hu2⟩
theorem T.at59 {ad : Addr} (h : T q B 59 W (some ad) n c) (i : Int) (h0 : 0 ≤ i) (h1 : i < n) : ∃ A0 n0 c0 A1 n1 c1 A2 n2 c2, W.cell? (ad.add (i.toNat * 3)) = some (.slice A0 n0 c0) ∧ W.cell? ⟨(ad.add (i.toNat * 3)).block, (ad.add (i.toNat * 3)).off + 1, none⟩ = some (.slice A1 n1 c1) ∧ W.cell? ⟨(ad.add (i.toNat * 3)).block, (ad.add (i.toNat * 3)).off + 2, none⟩ = some (.slice A2 n2 c2) ∧ q n0 ∧ q n1 ∧ q n2 ∧ T q B 54 W A0 n0 c0 ∧ T q B 3 W A1 n1 c1 ∧ T q B 56 W A2 n2 c2 := by
 obtain ⟨ad2, e, hs, hc⟩ := h.r59.at_ i.toNat (by omega)
 cases e
 obtain ⟨u0, hu0, k0⟩ := hc 0 (by omega)
 obtain ⟨u1, hu1, k1⟩ := hc 1 (by omega)
 obtain ⟨u2, hu2, k2⟩ := hc 2 (by omega)
 obtain ⟨A0, n0, c0, rfl, q0, r0⟩ : TI B 54 q W u0 := by simpa using k0
 obtain ⟨A1, n1, c1, rfl, q1, r1⟩ : TI B 3 q W u1 := by simpa using k1
 obtain ⟨A2, n2, c2, rfl, q2, r2⟩ : TJ q B W u2 := by simpa using k2
 exact ⟨A0, n0, c0, A1, n1, c1, A2, n2, c2, by rw [add_spot hs]; exact hu0, by rw [add_spot hs]; exact hu1, by rw [add_spot hs]; exact hu2, q0, q1, q2, T.of54 r0, T.of3 r1, T.of56 r2⟩
/-- A cell of a block of type t, not the reader's. -/
structure Ce (g t : Nat) (W : World) (p : Addr) (v : Value) : Prop where
 c : W.cell? p = some v
 s : p.spot = none
 ne : p.block ≠ g
 b : ∃ cs : Array Value, W.heap[p.block]? = some (.cells cs t (0, 0))
theorem Ce.mv {w0 : World} {g t t1 : Nat} {p : Addr} {v : Value} (h : Ce g t W p v) (hm : Mv q w0 g t1 W W1) (hne : t ≠ t1) : Ce g t W1 p v := by
 obtain ⟨hc, hs, hg, cs, hb⟩ := h
 have h2 := hm.blk _ cs t hne hg hb
 exact ⟨(World.cell?_of_block (h2.trans hb.symm)).trans hc, hs, hg, cs, h2⟩
theorem T.ce {w0 : World} {g : Nat} {P : Int} {p : Addr} {v : Value} {i : Nat} (h : T q w0.heap.size e W A n c) (he : TE e) (hs : St w0 W g P) {ad : Addr} (hA : A = some ad) (hb : p.block = ad.block) (hsp : p.spot = none) (hc : W.cell? p = some v) : Ce g e W p v := by
 subst hA
 obtain ⟨_, cs, h2⟩ := h.typed ad.block rfl
 exact ⟨hc, hsp, fun hg => h.ne_rd he hs (by rw [← hg, hb]; rfl), cs, by rw [hb]; exact h2⟩
theorem T.ce51 {w0 : World} {g : Nat} {P : Int} {ad : Addr} (h : T q w0.heap.size 51 W (some ad) n c) (hs : St w0 W g P) (i : Int) (h0 : 0 ≤ i) (h1 : i < n) : ∃ a b d : Int, Ce g 51 W (ad.add (i.toNat * 3)) (.int .i64 a) ∧ Ce g 51 W ⟨(ad.add (i.toNat * 3)).block, (ad.add (i.toNat * 3)).off + 1, none⟩ (.int .i64 b) ∧ Ce g 51 W ⟨(ad.add (i.toNat * 3)).block, (ad.add (i.toNat * 3)).off + 2, none⟩ (.int .i64 d) := by
 obtain ⟨a, b, d, ha, hb, hd⟩ := h.at51 i h0 h1
 obtain ⟨ad2, e2, hs2, _⟩ := h.r51.at_ i.toNat (by omega)
 cases e2
 have e3 : (ad.add (i.toNat * 3)).block = ad.block := by rw [add_spot hs2]
 have e4 : (ad.add (i.toNat * 3)).spot = none := by rw [add_spot hs2]
 exact ⟨a, b, d, T.ce (i := 0) h TE51 hs rfl e3 e4 ha, T.ce (i := 0) h TE51 hs rfl e3 rfl hb, T.ce (i := 0) h TE51 hs rfl e3 rfl hd⟩
theorem TC.allI {l : List Value} {j i : Nat} (he : e = 3 ∨ e = 51 ∨ e = 54) (h : ∀ u ∈ l, isI u) (hu : l.toArray[j]? = some u) : TC q B W e i u := by
 have h1 : isI u := h u (List.mem_of_getElem? (by simpa using hu))
 rcases he with rfl | rfl | rfl <;> simpa [TC] using h1
theorem T.spot_ {ad : Addr} (h : T q B e W (some ad) n c) : ad.spot = none := by
 rcases h with ⟨h, _⟩ | ⟨g, off, cs, h, _⟩
 ·cases h
 ·cases h
  rfl
theorem Ce.at0 {w0 : World} {g : Nat} {P : Int} {ad : Addr} (h : T q w0.heap.size 51 W (some ad) n c) (hs : St w0 W g P) (hn : 0 < n) : ∃ a b d : Int, Ce g 51 W ad (.int .i64 a) ∧ Ce g 51 W ⟨ad.block, ad.off + 1, none⟩ (.int .i64 b) ∧ Ce g 51 W ⟨ad.block, ad.off + 2, none⟩ (.int .i64 d) := by
 obtain ⟨a, b, d, h0, h1, h2⟩ := h.ce51 hs 0 (Int.le_refl _) (by omega)
 have e : ad.add ((0 : Int).toNat * 3) = ad := by simp [Addr.add]
 rw [e] at h0 h1 h2
 exact ⟨a, b, d, h0, h1, h2⟩
theorem T.cellOf {ad : Addr} (h : T q B e W (some ad) n c) (j : Nat) (hj : j < n * esz e) : ∃ u, W.cell? ⟨ad.block, ad.off + j, none⟩ = some u := by
 rcases h with ⟨h, _⟩ | ⟨g, off, cs, h, hB, hg, hoff, hnc, hcm, hfit, ho⟩
 ·cases h
 ·cases h
  have h2 : n * esz e ≤ c * esz e := Nat.mul_le_mul_right _ hnc
  have hl : off + j < cs.size := by omega
  refine ⟨cs[off + j], ?_⟩
  rw [cell_of_row W g _ cs e (0, 0) hg]
  exact Array.getElem?_eq_getElem (show off + j < cs.size by omega)
theorem T.freeOf {ad : Addr} (h : T q B e W (some ad) n c) (j : Nat) : W.frozen? ⟨ad.block, j, none⟩ = false := by
 rcases h with ⟨h, _⟩ | ⟨g, off, cs, h, hB, hg, _⟩
 ·cases h
 ·cases h
  exact blk_frozen hg j
/-- A store into an element of a row of the call's own. -/
theorem put_elem {w0 w : World} {g : Nat} {P : Int} {ad : Addr} (HF : Fr w0 w W g P) (HL : Lc q w0 w e W (some ad) n c) (j : Nat) (u : Value) (hu : TC q w0.heap.size W e (j % esz e) u) :
  Lc q w0 w e (W.setCell ⟨ad.block, ad.off + j, none⟩ u) (some ad) n c ∧ Fr w0 w (W.setCell ⟨ad.block, ad.off + j, none⟩ u) g P ∧ Mv q w0 g e W (W.setCell ⟨ad.block, ad.off + j, none⟩ u) := by
 obtain ⟨hB, cs, hb⟩ := HL.t.typed ad.block rfl
 have hm : (ad.off + j) % esz e = j % esz e := by
  rcases HL.t with ⟨h, _⟩ | ⟨g1, off, cs1, h, _, _, hoff, _⟩
  ·cases h
  ·cases h
   simp only
   rw [Nat.add_mod, hoff, Nat.zero_add, Nat.mod_mod]
 have hBk : Bk w g e W ad.block cs := ⟨hb, fun h => HL.t.ne_rd HL.e HF.st (by rw [← h]; rfl), HL.o _ rfl⟩
 obtain ⟨h1, h2, h3⟩ := put_cell HF hBk (ad.off + j) u (fun _ => by rw [hm]; exact hu)
 exact ⟨HL.mv h3, h2, h3⟩
section
variable {Pr : Program} {ops : Array Oper} {rest : List Oper} {o : Oper} {a : Act} {Q : Exit → Act → World → Prop} {Kc : Act → World → Prop} {w0 w : World} {g : Nat} {D : Int}
theorem put_row {ad : Addr} (HF : Fr w0 w W g D) (HL : Lc q w0 w e W (some ad) n c) (hgd : o.guard = none) {t : TypeId} {p : Tmp} {v : Operand} (_ho : o.op = .store t (.tmp p) v) (hN : o.dst = none) (j : Nat) (u : Value) (hu : TC q w0.heap.size W e (j % esz e) u)
  (hrun : (execOp a.eval o).run Pr W = .ok .skip (W.setCell ⟨ad.block, ad.off + j, none⟩ u))
  (h : ∀ w1, Lc q w0 w e w1 (some ad) n c → Fr w0 w w1 g D → Mv q w0 g e W w1 → wpList Pr ops Q rest a w1) : wpList Pr ops Q (o :: rest) a W := by
 obtain ⟨h1, h2, h3⟩ := put_elem HF HL j u hu
 refine store_event hgd _ho hN hrun ?_
 rintro w' rfl
 exact h _ h1 h2 h3
theorem put_row_step {ad : Addr} (HF : Fr w0 w W g D) (HL : Lc q w0 w e W (some ad) n c) (hw : Region.wanted o (yielded ops a.tmps) = true) (hN : o.dst = none) (j : Nat) (u : Value) (hu : TC q w0.heap.size W e (j % esz e) u)
  (hrun : (execOp a.eval o).run Pr W = .ok .skip (W.setCell ⟨ad.block, ad.off + j, none⟩ u))
  (h : ∀ w1, Lc q w0 w e w1 (some ad) n c → Fr w0 w w1 g D → Mv q w0 g e W w1 → Kc a w1) : if Region.wanted o (yielded ops a.tmps) = true then Oper.wp Pr o a W Kc Q else Kc (a.put none undef) W := by
 obtain ⟨h1, h2, h3⟩ := put_elem HF HL j u hu
 exact skip_ hw hN hrun (h _ h1 h2 h3)
end
/-- A row that is held is one told by type. -/
theorem own_row {base : Nat} {v : Value} {inner : List Value} (ho : W.ownsRow base e sz v n inner) (hK : ∀ j u, inner[j]? = some u → K (j % sz) u) (hB : B ≤ base) : ∃ A c, v = .slice A n c ∧ Row B e sz K W A n c ∧ ∀ b, A.map Addr.block = some b → base ≤ b := by
 rcases ho.2 with ⟨rfl, rfl⟩ | ⟨g, cap, cur, rfl, hb, hg, hn, hc, hsz, ht⟩
 ·exact ⟨none, 0, rfl, Row.nil, fun b hb => by simp at hb⟩
 ·refine ⟨_, cap, rfl, .inr ⟨g, 0, cur, rfl, by omega, hg, Nat.zero_mod _, hn, hc, by omega, fun j u hj hu => ?_⟩, fun b h => ?_⟩
  ·refine hK j u ?_
   rw [Nat.zero_add] at hu
   rw [← ht, List.getElem?_take_of_lt hj]
   simpa using hu
  ·have : g = b := by simpa using h
   omega
/-- The cells of one element. -/
theorem TC.one (a : Int) : ∀ (j : Nat) (u : Value), [Value.int .i64 a][j]? = some u → TC q B W 3 j u
 | 0, u, h => by
  injection h with h
  subst h
  simp only [TC]
  exact ⟨a, rfl⟩
theorem TC.four (a b c d : Int) : ∀ (j : Nat) (u : Value), [Value.int .i64 a, .int .i64 b, .int .i64 c, .int .i64 d][j]? = some u → TC q B W 54 j u := by
 intro j u h
 have hm : u ∈ [Value.int .i64 a, .int .i64 b, .int .i64 c, .int .i64 d] := List.mem_of_getElem? h
 have hi : isI u := by
  simp only [List.mem_cons, List.not_mem_nil, or_false] at hm
  rcases hm with rfl | rfl | rfl | rfl <;> exact ⟨_, rfl⟩
 simpa [TC] using hi
theorem TC.three (a b c : Int) : ∀ (j : Nat) (u : Value), [Value.int .i64 a, .int .i64 b, .int .i64 c][j]? = some u → TC q B W 51 j u := by
 intro j u h
 have hm : u ∈ [Value.int .i64 a, .int .i64 b, .int .i64 c] := List.mem_of_getElem? h
 have hi : isI u := by
  simp only [List.mem_cons, List.not_mem_nil, or_false] at hm
  rcases hm with rfl | rfl | rfl <;> exact ⟨_, rfl⟩
 simpa [TC] using hi
theorem TC.ints {A1 : Option Addr} {n1 c1 : Nat} (hq : q n1) (h1 : T q1 B 3 W A1 n1 c1) : ∀ (j : Nat) (u : Value), [Value.slice A1 n1 c1][j]? = some u → TC q B W 28 j u
 | 0, u, h => by
  injection h with h
  subst h
  simp only [TC]
  exact ⟨A1, n1, c1, rfl, hq, h1.r3⟩
theorem TC.terms {A1 : Option Addr} {n1 c1 : Nat} (hn : q n1) (h1 : T q1 B 54 W A1 n1 c1) : ∀ (j : Nat) (u : Value), [Value.slice A1 n1 c1][j]? = some u → TC q B W 56 j u
 | 0, u, h => by
  injection h with h
  subst h
  simp only [TC]
  exact ⟨A1, n1, c1, rfl, hn, h1.r54⟩
theorem TC.rule {A0 A1 A2 : Option Addr} {n0 c0 n1 c1 n2 c2 : Nat} (q0 : q n0) (q1' : q n1) (q2 : q n2) (h0 : T q1 B 54 W A0 n0 c0) (h1 : T q1 B 3 W A1 n1 c1) (h2 : T q B 56 W A2 n2 c2) : ∀ (j : Nat) (u : Value), [Value.slice A0 n0 c0, .slice A1 n1 c1, .slice A2 n2 c2][j]? = some u → TC q B W 59 j u
 | 0, u, h => by
  injection h with h
  subst h
  simp only [TC]
  exact ⟨A0, n0, c0, rfl, q0, h0.r54⟩
 | 1, u, h => by
  injection h with h
  subst h
  simp only [TC]
  exact ⟨A1, n1, c1, rfl, q1', h1.r3⟩
 | 2, u, h => by
  injection h with h
  subst h
  simp only [TC]
  exact ⟨A2, n2, c2, rfl, q2, h2.r56⟩
/-- The same of a whole variable. -/
theorem TC.mod {cs : List Value} (hl : cs.length = esz e) (h : ∀ (j : Nat) (u : Value), cs[j]? = some u → TC q B W e j u) : ∀ (j : Nat) (u : Value), cs.toArray[j]? = some u → TC q B W e (j % esz e) u := by
 intro j u hu
 have h1 : cs[j]? = some u := by simpa using hu
 have hj := (List.getElem?_eq_some_iff.1 h1).1
 rw [Nat.mod_eq_of_lt (by omega)]
 exact h j u h1
/-- A literal's array, a row just made. -/
theorem _root_.Go.Proofs.Ytnidjlhbejifoaa.XFnSameRun.Ty.Lc.mono {w0 w : World} (h : Lc q w0 w e W A n c) (hq : ∀ n, q n → q1 n) : Lc q1 w0 w e W A n c := ⟨h.t.mono hq, h.e, h.o⟩
theorem Lc.lit {w0 w : World} {g gb k : Nat} {P : Int} {cs : Array Value} (HF : Fr w0 w W1 g P) (HB : Bk w g e W1 gb cs) (he : TE e) (hs : cs.size = k * esz e) (hk : k ≤ 1000) (hc : ∀ j u, cs[j]? = some u → TC q w0.heap.size W1 e (j % esz e) u) : Lc q w0 w e W1 (some ⟨gb, 0, none⟩) k k :=
 ⟨.inr ⟨gb, 0, cs, rfl, Nat.le_trans HF.base HB.new, HB.b, Nat.zero_mod _, Nat.le_refl _, by simp only [maxLen]; omega, by omega, fun j u hj hu => hc j u (by simpa using hu)⟩, he, fun b hb => by
  have : gb = b := by simpa using hb
  subst this
  exact HB.new⟩
theorem T.ofR3 {base : Nat} {ok : Nat → Prop} {v : Value} {xs : List Int} (h : Kd.R (Kd.int .i64) 3 W base ok v xs) (hB : B ≤ base) : ∃ A c, v = .slice A xs.length c ∧ T q B 3 W A xs.length c ∧ ∀ b, A.map Addr.block = some b → base ≤ b := by
 have ho := Kd.own_of_R h
 obtain ⟨A, c, hv, hr, hb⟩ := own_row (B := B) (K := fun _ => isI) ho (fun j u hu => by
  simp only [encs, List.getElem?_map] at hu
  cases hx : xs[j]? with
  | none => rw [hx] at hu; simp at hu
  | some z => rw [hx] at hu; simp at hu; exact ⟨z, hu.symm⟩) hB
 exact ⟨A, c, hv, T.of3 hr, hb⟩
theorem T.ofR54 {base : Nat} {ok : Nat → Prop} {v : Value} {xs : List S54} (h : Kd.R k54 54 W base ok v xs) (hB : B ≤ base) : ∃ A c, v = .slice A xs.length c ∧ T q B 54 W A xs.length c ∧ ∀ b, A.map Addr.block = some b → base ≤ b := by
 obtain ⟨_, inner, ho, hr⟩ := h
 obtain ⟨A, c, hv, hrow, hb⟩ := own_row (B := B) (K := fun _ => isI) ho (fun j u hu => by
  have hl : inner.length = xs.length * 4 := hr.1
  have hj : j < inner.length := (List.getElem?_eq_some_iff.1 hu).1
  have hj2 : j / 4 < xs.length := by omega
  have h2 := hr.2 (j / 4) _ (List.getElem?_eq_getElem hj2)
  have h3 := k54_openM h2
  have h4 : (List.take 4 (List.drop (j / 4 * 4) inner))[j % 4]? = some u := by
   rw [List.getElem?_take_of_lt (by omega), List.getElem?_drop]
   have h5 : j / 4 * 4 + j % 4 = j := by omega
   rw [h5]
   exact hu
  have h6 : k54.sz = 4 := rfl
  rw [h6] at h3
  rw [h3] at h4
  have h7 : j % 4 < 4 := by omega
  generalize j % 4 = r at h4 h7
  match r, h7 with
  | 0, _ => exact ⟨_, by simpa using h4.symm⟩
  | 1, _ => exact ⟨_, by simpa using h4.symm⟩
  | 2, _ => exact ⟨_, by simpa using h4.symm⟩
  | 3, _ => exact ⟨_, by simpa using h4.symm⟩) hB
 exact ⟨A, c, hv, T.of54 hrow, hb⟩
end
end Ty
end Go.Proofs.Ytnidjlhbejifoaa.XFnSameRun
