/- spec.l2Any over rows told by type.
Conditions: each theorem's own. -/
import Derived.WalkMore
import Derived.Test.YtnidjlhbejifoaaRSys
namespace Go.Proofs.Ytnidjlhbejifoaa.XFnSameRun
open Go.RowKit Go.Proofs.YtnidjlhbejifoaaW.PrintWords Go.Proofs.YtnidjlhbejifoaaW.PrintLast Go.Proofs.YtnidjlhbejifoaaW.PrintMore Go.Proofs.YtnidjlhbejifoaaX Ty
attribute [local go_sem] max2_int max_two
set_option linter.unusedVariables false
set_option linter.unusedSimpArgs false
/-- What is drawn is short. -/
def Q8 (n : Nat) : Prop := n ≤ 81
def Q1 (n : Nat) : Prop := n ≤ 1000
theorem q8_of : ∀ n, n ≤ 81 → Q8 n := fun n h => h
theorem q81 : ∀ n, Q8 n → Q1 n := fun n h => by unfold Q8 at h; unfold Q1; omega
/-- Structs of type 35 that stood at w and are not the reader's: they stand. -/
structure KT (g : Nat) (w W : World) : Prop where
 h : ∀ (gb : Nat) (cells : Array Value), gb ≠ g → gb < w.heap.size → w.heap[gb]? = some (.cells cells 35 (0, 0)) → W.heap[gb]? = some (.cells cells 35 (0, 0))
theorem KT.mv {q : Nat → Prop} {w0 w W W1 : World} {g t : Nat} (h : KT g w W) (hm : Mv q w0 g t W W1) (hne : 35 ≠ t) : KT g w W1 := ⟨fun gb cells hg hl hc => hm.blk gb cells 35 hne hg (h.h gb cells hg hl hc)⟩
theorem KT.other {w W W1 : World} {g gb : Nat} (h : KT g w W) (hk : ∀ k, k ≠ gb → W1.heap[k]? = W.heap[k]?) (hn : w.heap.size ≤ gb) : KT g w W1 := ⟨fun b cells hg hl hc => (hk b (by omega)).trans (h.h b cells hg hl hc)⟩
/-- The frame of a call told from the first world on. -/
theorem Fr.first {w0 w : World} {g : Nat} {P : Int} (h : St w0 w g P) : Fr w0 w0 w g P := ⟨h, KeepBut.of_below h.below g none, Nat.le_refl _⟩
theorem Lc.first {q : Nat → Prop} {w0 W : World} {e n c : Nat} {A : Option Addr} (h : T q w0.heap.size e W A n c) (he : TE e) : Lc q w0 w0 e W A n c := ⟨h, he, fun b hb => (h.typed b hb).1⟩

set_option maxHeartbeats 8000000 in
set_option maxRecDepth 100000 in
theorem l2Any.rel {w0 w : World} {g : Nat} {P : Int} (most : Int) (hS : St w0 w g P) (hP : P ≤ 500000) :
  Calls Try.prog 22 #[.pointer (some ⟨g, 0, none⟩), .int .i64 most] w fun e w' => ∃ A0 n0 c0 A1 n1 c1, e = .returned (.agg #[.slice A0 n0 c0, .slice A1 n1 c1]) ∧ n0 ≤ 3 ∧ n1 ≤ 4 ∧ Rw Q1 w0 51 w' A0 n0 c0 ∧ Rw Q1 w0 59 w' A1 n1 c1 ∧ St w0 w' g (P + 2110) ∧ KT g w w' := by
 have hu28 := Try.underlying28
 have hu32 := Try.underlying32
 have hu33 := Try.underlying33
 have hu35 := Try.underlying35
 have hu51 := Try.underlying51
 have hu59 := Try.underlying59
 have hu56 := Try.underlying56
 have hu57 := Try.underlying57
 have HF := Fr.first hS
 have HK : KT g w w := ⟨fun _ _ _ _ h => h⟩
 have HZ : w.heap.size ≤ w.heap.size := Nat.le_refl _
 have HP := Aside0.mk hP
 clear hS hP
 go_enter Try.func22, Try.ntmps22
 go_wp2_with (first | ((with_reducible refine gate_dst (N := 4) rfl ?_); (try (refine gate_guard (by rfl) ?_; dsimp only)); refine new_block (q := Q8) HF ?hg (N := 4) ?hd (v := fun gb => .pointer (some ⟨gb, 0, none⟩)) (cs := #[.slice none 0 0, .slice none 0 0]) (t := 35) ?hr ?_; (case hd => rfl); (case hg => rfl); (case hr => first | (go_simp; done) | (go_simp; rfl)); intro gb4 w4 hb hf hm hge; have hn4 : w.heap.size ≤ gb4 := Nat.le_trans HZ hge; replace HF := hf; replace HK := HK.mv hm (by decide); replace HZ := Nat.le_trans HZ hm.size; have B4 := hb; clear hb hf hm hge) | ((with_reducible refine gate_dst (N := 5) rfl ?_); (try (refine gate_guard (by rfl) ?_; dsimp only)); refine new_block (q := Q8) HF ?hg (N := 5) ?hd (v := fun gb => .pointer (some ⟨gb, 0, none⟩)) (cs := #[.slice none 0 0, .slice none 0 0]) (t := 35) ?hr ?_; (case hd => rfl); (case hg => rfl); (case hr => first | (go_simp; done) | (go_simp; rfl)); intro gb5 w5 hb hf hm hge; have hne : gb4 ≠ gb5 := (by have := B4.lt; omega); have hn5 : w.heap.size ≤ gb5 := Nat.le_trans HZ hge; replace HF := hf; replace LV := LV.mv hm; replace LR := LR.mv hm; replace HK := HK.mv hm (by decide); replace B4 := B4.mv hm (by decide); replace HZ := Nat.le_trans HZ hm.size; have B5 := hb; clear hb hf hm hge) | (go_at_call 25; (with_reducible refine (l2System.rel (q := Q8) most HF.st (by have := HP.out; omega) q8_of).mono ?_); rintro e w_ ⟨A0, n0, c0, A1, n1, c1, rfl, h1, h3, h4, hl0, hl1, hf1⟩; obtain ⟨hf, hm⟩ := HF.via (q := Q8) hf1; have LV := Lc.base hl0 HF; have LR := Lc.base hl1 HF; replace HF := hf; replace HK := HK.mv hm (by decide); replace B4 := B4.mv hm (by decide); replace HZ := Nat.le_trans HZ hm.size; have HX := Aside0.mk (And.intro h1 (And.intro h3 h4)); obtain ⟨b1, e1⟩ : ∃ b1, decide (0 < n1) = b1 := ⟨_, rfl⟩; have e2 : decide ((0 : Int) < (n1 : Int)) = b1 := (by rw [← e1]; apply decide_eq_decide.2; omega); clear hf hm hf1 hl0 hl1 h1 h3 h4) | ((with_reducible refine gate_store (t := 35) (p := 5) (v := .tmp 9) rfl ?_); refine put_whole_k (q := Q8) HF B5 ?hg (ty := 35) (x := .tmp 5) (y := .tmp 9) ?ho ?hd #[.slice A0 n0 c0, .slice A1 n1 c1] rfl rfl (by kernel_rfl) rfl ?h1 ?hu ?_; (case ho => rfl); (case hd => rfl); (case hg => rfl); (case h1 => simp [Value.oneCell']); (case hu => exact fun h => absurd h (by unfold TE; omega)); intro w_ hb hf hm hk; replace HF := hf; replace LV := LV.mv hm; replace LR := LR.mv hm; replace HZ := Nat.le_trans HZ hm.size; replace B4 := B4.other hk hne; replace HK := HK.other hk hn5; clear hk; clear B5; have B5 := hb; clear hb hf hm) | (go_at_call 11; have _t := r11; clear _t; (with_reducible refine (pickT Q8 _ HF (by have := HP.out; omega)).mono ?_); rintro e w_ ⟨r14, rfl, hr0, hr1, hf, hm⟩; replace HF := hf; replace LV := LV.mv hm; replace LR := LR.mv hm; replace HK := HK.mv hm (by decide); replace B4 := B4.mv hm (by decide); replace B5 := B5.mv hm (by decide); replace HZ := Nat.le_trans HZ hm.size; clear hr0 hr1; clear hf hm; have hz1 := (B5.cell 1).trans (show _ = some (.slice A1 n1 c1) from rfl)) | (go_at_call 11; (with_reducible refine (pickT Q8 _ HF (by have := HP.out; omega)).mono ?_); rintro e w_ ⟨r11, rfl, hr0, hr1, hf, hm⟩; replace HF := hf; replace LV := LV.mv hm; replace LR := LR.mv hm; replace HK := HK.mv hm (by decide); replace B4 := B4.mv hm (by decide); replace B5 := B5.mv hm (by decide); replace HZ := Nat.le_trans HZ hm.size; clear hr0 hr1; clear hf hm; have hz1 := (B5.cell 1).trans (show _ = some (.slice A1 n1 c1) from rfl)) | ((with_reducible refine gate_store (t := 32) (p := 80) (v := (.const (.slice none 0 0))) rfl ?_); refine put_block_k (q := Q8) HF B5 ?hg (t := 32) (p := 80) (v := (.const (.slice none 0 0))) ?ho ?hd 0 (.slice none 0 0) ?hr ?hu ?_; (case ho => rfl); (case hd => rfl); (case hg => rfl); (case hr => have hcz_ := B5.cell 0; have hfz_ := B5.free 0; first | (go_simp; done) | (go_simp; rfl)); (case hu => exact fun h => absurd h (by unfold TE; omega)); intro w_ hb hf hm hk; replace HF := hf; replace LV := LV.mv hm; replace LR := LR.mv hm; replace HZ := Nat.le_trans HZ hm.size; replace B4 := B4.other hk hne; replace HK := HK.other hk hn5; clear hk; clear B5; have B5 : Bk w0 g 35 w_ gb5 #[.slice none 0 0, .slice A1 n1 c1] := hb; clear hb hf hm) | ((with_reducible refine gate_dst (N := 98) rfl ?_); refine load_whole B5 ?hg (N := 98) ?hd 35 (.tmp 5) ?ho rfl Try.underlying35 rfl (by kernel_rfl) ?_; (case ho => rfl); (case hd => rfl); (case hg => rfl)) | ((with_reducible refine gate_store (t := 35) (p := 4) (v := .tmp 98) rfl ?_); refine put_whole_k (q := Q8) HF B4 ?hg (ty := 35) (x := .tmp 4) (y := .tmp 98) ?ho ?hd #[_, _] rfl rfl (by kernel_rfl) rfl ?h1 ?hu ?_; (case ho => rfl); (case hd => rfl); (case hg => rfl); (case h1 => simp [Value.oneCell']); (case hu => exact fun h => absurd h (by unfold TE; omega)); intro w_ hb hf hm hk; replace HF := hf; replace LV := LV.mv hm; replace LR := LR.mv hm; replace HZ := Nat.le_trans HZ hm.size; replace B5 := B5.other hk (Ne.symm hne); replace HK := HK.other hk hn4; clear hk; clear B4; have B4 := hb; clear hb hf hm))
 all_goals try (refine bodyPost_ret (results_cell_row rfl _ _ gb4 35 #[.slice A0 n0 c0, .slice A1 n1 c1] (0, 0) _ rfl B4.b Try.underlying35 rfl (by kernel_rfl)) rfl ?_; exact ⟨_, _, _, _, _, _, rfl, by have := HX.out; omega, by have := HX.out; omega, (LV.mono q81).r, (LR.mono q81).r, St.more HF.st (by omega), HK⟩)
 all_goals try (refine bodyPost_ret (results_cell_row rfl _ _ gb4 35 #[.slice none 0 0, .slice A1 n1 c1] (0, 0) _ rfl B4.b Try.underlying35 rfl (by kernel_rfl)) rfl ?_; exact ⟨_, _, _, _, _, _, rfl, by omega, by have := HX.out; omega, ⟨T.nil, TE51⟩, (LR.mono q81).r, St.more HF.st (by omega), HK⟩)
 ·skip
  replace LV := LV.mono q81
  replace LR := LR.mono q81
  replace LV := LV.mv (Mv.drew (g := g))
  replace LR := LR.mv (Mv.drew (g := g))
  replace B4 := B4.mv (Mv.drew (q := Q1) (w0 := w0)) (by decide)
  replace B5 := B5.mv (Mv.drew (q := Q1) (w0 := w0)) (by decide)
  replace HK := HK.mv (Mv.drew (q := Q1) (w0 := w0)) (by decide)
  replace HF := HF.drew
  obtain ⟨ad, rfl⟩ := LV.t.some_ (by have := HX.out; omega)
  obtain ⟨x0, x1, x2, C0, C1, C2⟩ := Ce.at0 LV.t HF.st (by have := HX.out; omega)
  have p2 : ((0 : Int) < (n0 : Int)) = True := eq_true (by have := HX.out; omega)
  have p3 : (0 < n0) = True := eq_true (by have := HX.out; omega)
  refine start_ (n := 11) (S := fun w' => w'.cell? ⟨gb5, 0, none⟩ = some (.slice (some ad) n0 c0) ∧ w'.cell? ⟨ad.block, ad.off + 1, none⟩ = some (.int .i64 x1)) (ds := [10]) (ms 11 0) (by kernel_rfl) rfl rfl ⟨(B5.cell 0).trans rfl, C1.c⟩ (fun hHeld => ?_)
  refine pure_ (i := 0) (N := some 17) (v := ?_) (a' := ?_) (ms 11 1) rfl rfl (by kernel_rfl) (fun _ _ _ h => h) (Or.inl ⟨by rfl, ?_⟩) ?_ ?_
  rotate_left
  ·intro w'
   go_simp
   with_reducible rfl
  rotate_left
  ·simp only [Act.put, List.setIfInBounds_toArray, List.set_cons_zero, List.set_cons_succ, i64_w]
   rfl
  refine pure_ (i := 2) (N := some 19) (v := ?_) (a' := ?_) (ms 11 5) rfl rfl (by kernel_rfl) (fun _ _ _ h => h) (Or.inl ⟨by rfl, ?_⟩) ?_ ?_
  rotate_left
  ·intro w'
   go_simp
   with_reducible rfl
  rotate_left
  ·simp only [Act.put, List.setIfInBounds_toArray, List.set_cons_zero, List.set_cons_succ, i64_w]
   rfl
  refine take_ (i := 1) (N := some 18) (v := ?_) (a' := ?_) (ms 11 7) rfl rfl (by kernel_rfl) (fun _ _ _ h => h) (Or.inl ⟨by rfl, ?_⟩) hHeld ?_ ?_
  rotate_left
  ·rintro w' ⟨s0, s1⟩
   go_simp
   with_reducible rfl
  rotate_left
  ·simp only [Act.put, List.setIfInBounds_toArray, List.set_cons_zero, List.set_cons_succ, i64_w]
   rfl
  refine take_ (i := 3) (N := some 20) (v := ?_) (a' := ?_) (ms 11 15) rfl rfl (by kernel_rfl) (fun _ _ _ h => h) (Or.inl ⟨by rfl, ?_⟩) hHeld ?_ ?_
  rotate_left
  ·rintro w' ⟨s0, s1⟩
   go_simp
   with_reducible rfl
  rotate_left
  ·simp only [Act.put, List.setIfInBounds_toArray, List.set_cons_zero, List.set_cons_succ, i64_w]
   rfl
  refine pure_ (i := 4) (N := some 21) (v := ?_) (a' := ?_) (ms 11 31) rfl rfl (by kernel_rfl) (fun _ _ _ h => h) (Or.inl ⟨by rfl, ?_⟩) ?_ ?_
  rotate_left
  ·intro w'
   go_simp
   with_reducible rfl
  rotate_left
  ·simp only [Act.put, List.setIfInBounds_toArray, List.set_cons_zero, List.set_cons_succ, i64_w]
   rfl
  refine pure_ (i := 5) (N := some 22) (v := ?_) (a' := ?_) (ms 11 63) rfl rfl (by kernel_rfl) (fun _ _ _ h => h) (Or.inl ⟨by rfl, ?_⟩) ?_ ?_
  rotate_left
  ·intro w'
   go_simp
   with_reducible rfl
  rotate_left
  ·simp only [Act.put, List.setIfInBounds_toArray, List.set_cons_zero, List.set_cons_succ, i64_w]
   rfl
  refine take_ (i := 6) (N := some 23) (v := ?_) (a' := ?_) (ms 11 127) rfl rfl (by kernel_rfl) (fun _ _ _ h => h) (Or.inl ⟨by rfl, ?_⟩) hHeld ?_ ?_
  rotate_left
  ·rintro w' ⟨s0, s1⟩
   go_simp
   with_reducible rfl
  rotate_left
  ·simp only [Act.put, List.setIfInBounds_toArray, List.set_cons_zero, List.set_cons_succ, i64_w]
   rfl
  refine pure_ (i := 7) (N := some 24) (v := ?_) (a' := ?_) (ms 11 255) rfl rfl (by kernel_rfl) (fun _ _ _ h => h) (Or.inl ⟨by rfl, ?_⟩) ?_ ?_
  rotate_left
  ·intro w'
   go_simp
   with_reducible rfl
  rotate_left
  ·simp only [Act.put, List.setIfInBounds_toArray, List.set_cons_zero, List.set_cons_succ, i64_w]
   rfl
  refine pure_ (i := 8) (N := some 25) (v := ?_) (a' := ?_) (ms 11 511) rfl rfl (by kernel_rfl) (fun _ _ _ h => h) (Or.inl ⟨by rfl, ?_⟩) ?_ ?_
  rotate_left
  ·intro w'
   go_simp
   with_reducible rfl
  rotate_left
  ·simp only [Act.put, List.setIfInBounds_toArray, List.set_cons_zero, List.set_cons_succ, i64_w]
   rfl
  refine pure_ (i := 9) (N := some 26) (v := ?_) (a' := ?_) (ms 11 1023) rfl rfl (by kernel_rfl) (fun _ _ _ h => h) (Or.inl ⟨by rfl, ?_⟩) ?_ ?_
  rotate_left
  ·intro w'
   go_simp
   with_reducible rfl
  rotate_left
  ·simp only [Act.put, List.setIfInBounds_toArray, List.set_cons_zero, List.set_cons_succ, i64_w]
   rfl
  refine last_ (i := 10) (N := none) (ms 11 2047) rfl rfl (by kernel_rfl) (by decide) (fun K hK => ?_)
  have hcz_ := C2.c
  have hfz_ := LV.t.freeOf (ad.off + 2)
  refine put_row_step HF LV ?hw ?hd 2 (.int .i64 (wrap64 (x1 + 1))) ?hu ?hr ?_
  case hw => rfl
  case hd => rfl
  case hu => exact (TC.allI (l := [.int .i64 (wrap64 (x1 + 1))]) (j := 0) (by omega) (by simp [isI]) rfl)
  case hr => first | (go_simp; done) | (go_simp; rfl)
  clear hcz_ hfz_
  intro w26 hl hf hm
  replace HF := hf
  replace LR := LR.mv hm
  replace HK := HK.mv hm (by decide)
  replace B4 := B4.mv hm (by decide)
  replace B5 := B5.mv hm (by decide)
  replace HZ := Nat.le_trans HZ hm.size
  clear LV
  have LV := hl
  clear hl hf hm
  refine hK.out _ _ ?_
  clear hK K
  refine done_ (by kernel_rfl) ?_
  go_wp2_with (first | ((with_reducible refine gate_dst (N := 98) rfl ?_); refine load_whole B5 ?hg (N := 98) ?hd 35 (.tmp 5) ?ho rfl Try.underlying35 rfl (by kernel_rfl) ?_; (case ho => rfl); (case hd => rfl); (case hg => rfl)) | ((with_reducible refine gate_store (t := 35) (p := 4) (v := .tmp 98) rfl ?_); refine put_whole_k (q := Q1) HF B4 ?hg (ty := 35) (x := .tmp 4) (y := .tmp 98) ?ho ?hd #[.slice (some ad) n0 c0, .slice A1 n1 c1] rfl rfl (by kernel_rfl) rfl ?h1 ?hu ?_; (case ho => rfl); (case hd => rfl); (case hg => rfl); (case h1 => simp [Value.oneCell']); (case hu => exact fun h => absurd h (by unfold TE; omega)); intro w_ hb hf hm hk; replace HF := hf; replace LV := LV.mv hm; replace LR := LR.mv hm; replace HZ := Nat.le_trans HZ hm.size; replace B5 := B5.other hk (Ne.symm hne); replace HK := HK.other hk hn4; clear hk; clear B4; have B4 := hb; clear hb hf hm))
  refine bodyPost_ret (results_cell_row rfl _ _ gb4 35 #[.slice (some ad) n0 c0, .slice A1 n1 c1] (0, 0) _ rfl B4.b Try.underlying35 rfl (by kernel_rfl)) rfl ?_
  exact ⟨_, _, _, _, _, _, rfl, by have := HX.out; omega, by have := HX.out; omega, LV.r, LR.r, St.more HF.st (by omega), HK⟩
 ·skip
  replace LV := LV.mono q81
  replace LR := LR.mono q81
  replace LV := LV.mv (Mv.drew (g := g))
  replace LR := LR.mv (Mv.drew (g := g))
  replace B4 := B4.mv (Mv.drew (q := Q1) (w0 := w0)) (by decide)
  replace B5 := B5.mv (Mv.drew (q := Q1) (w0 := w0)) (by decide)
  replace HK := HK.mv (Mv.drew (q := Q1) (w0 := w0)) (by decide)
  replace HF := HF.drew
  obtain ⟨ad, rfl⟩ := LV.t.some_ (by have := HX.out; omega)
  obtain ⟨x0, x1, x2, C0, C1, C2⟩ := Ce.at0 LV.t HF.st (by have := HX.out; omega)
  have p2 : ((0 : Int) < (n0 : Int)) = True := eq_true (by have := HX.out; omega)
  have p3 : (0 < n0) = True := eq_true (by have := HX.out; omega)
  refine start_ (n := 14) (S := fun w' => w'.cell? ⟨gb5, 0, none⟩ = some (.slice (some ad) n0 c0) ∧ w'.cell? ad = some (.int .i64 x0)) (ds := [13]) (ms 14 0) (by kernel_rfl) rfl rfl ⟨(B5.cell 0).trans rfl, C0.c⟩ (fun hHeld => ?_)
  refine pure_ (i := 0) (N := some 29) (v := ?_) (a' := ?_) (ms 14 1) rfl rfl (by kernel_rfl) (fun _ _ _ h => h) (Or.inl ⟨by rfl, ?_⟩) ?_ ?_
  rotate_left
  ·intro w'
   go_simp
   with_reducible rfl
  rotate_left
  ·simp only [Act.put, List.setIfInBounds_toArray, List.set_cons_zero, List.set_cons_succ, i64_w]
   rfl
  refine pure_ (i := 2) (N := some 31) (v := ?_) (a' := ?_) (ms 14 5) rfl rfl (by kernel_rfl) (fun _ _ _ h => h) (Or.inl ⟨by rfl, ?_⟩) ?_ ?_
  rotate_left
  ·intro w'
   go_simp
   with_reducible rfl
  rotate_left
  ·simp only [Act.put, List.setIfInBounds_toArray, List.set_cons_zero, List.set_cons_succ, i64_w]
   rfl
  refine pure_ (i := 7) (N := some 36) (v := ?_) (a' := ?_) (ms 14 133) rfl rfl (by kernel_rfl) (fun _ _ _ h => h) (Or.inl ⟨by rfl, ?_⟩) ?_ ?_
  rotate_left
  ·intro w'
   go_simp
   with_reducible rfl
  rotate_left
  ·simp only [Act.put, List.setIfInBounds_toArray, List.set_cons_zero, List.set_cons_succ, i64_w]
   rfl
  refine take_ (i := 1) (N := some 30) (v := ?_) (a' := ?_) (ms 14 135) rfl rfl (by kernel_rfl) (fun _ _ _ h => h) (Or.inl ⟨by rfl, ?_⟩) hHeld ?_ ?_
  rotate_left
  ·rintro w' ⟨s0, s1⟩
   go_simp
   with_reducible rfl
  rotate_left
  ·simp only [Act.put, List.setIfInBounds_toArray, List.set_cons_zero, List.set_cons_succ, i64_w]
   rfl
  refine take_ (i := 3) (N := some 32) (v := ?_) (a' := ?_) (ms 14 143) rfl rfl (by kernel_rfl) (fun _ _ _ h => h) (Or.inl ⟨by rfl, ?_⟩) hHeld ?_ ?_
  rotate_left
  ·rintro w' ⟨s0, s1⟩
   go_simp
   with_reducible rfl
  rotate_left
  ·simp only [Act.put, List.setIfInBounds_toArray, List.set_cons_zero, List.set_cons_succ, i64_w]
   rfl
  refine pure_ (i := 4) (N := some 33) (v := ?_) (a' := ?_) (ms 14 159) rfl rfl (by kernel_rfl) (fun _ _ _ h => h) (Or.inl ⟨by rfl, ?_⟩) ?_ ?_
  rotate_left
  ·intro w'
   go_simp
   with_reducible rfl
  rotate_left
  ·simp only [Act.put, List.setIfInBounds_toArray, List.set_cons_zero, List.set_cons_succ, i64_w]
   rfl
  refine pure_ (i := 5) (N := some 34) (v := ?_) (a' := ?_) (ms 14 191) rfl rfl (by kernel_rfl) (fun _ _ _ h => h) (Or.inl ⟨by rfl, ?_⟩) ?_ ?_
  rotate_left
  ·intro w'
   go_simp
   with_reducible rfl
  rotate_left
  ·simp only [Act.put, List.setIfInBounds_toArray, List.set_cons_zero, List.set_cons_succ, i64_w]
   rfl
  refine take_ (i := 6) (N := some 35) (v := ?_) (a' := ?_) (ms 14 255) rfl rfl (by kernel_rfl) (fun _ _ _ h => h) (Or.inl ⟨by rfl, ?_⟩) hHeld ?_ ?_
  rotate_left
  ·rintro w' ⟨s0, s1⟩
   go_simp
   with_reducible rfl
  rotate_left
  ·simp only [Act.put, List.setIfInBounds_toArray, List.set_cons_zero, List.set_cons_succ, i64_w]
   rfl
  refine one_ (i := 8) (N := some 37) (ms 14 511) rfl rfl (by kernel_rfl) (by decide) (fun K hK => ?_)
  refine new_block_step (q := Q1) HF ?hw (N := 37) ?hd (v := fun gb => .slice (some ⟨gb, 0, none⟩) 3 3) (cs := #[.int .i64 (-1), .int .i64 20, .int .i64 19]) (t := 3) ?hr ?_
  case hd => rfl
  case hw => rfl
  case hr => first | (go_simp; done) | (go_simp; rfl)
  intro gb37 w37 hb hf hm hge
  replace HF := hf
  replace LV := LV.mv hm
  replace LR := LR.mv hm
  replace HK := HK.mv hm (by decide)
  replace B4 := B4.mv hm (by decide)
  replace B5 := B5.mv hm (by decide)
  replace C0 := C0.mv hm (by decide)
  replace C1 := C1.mv hm (by decide)
  replace C2 := C2.mv hm (by decide)
  replace HZ := Nat.le_trans HZ hm.size
  have B37 := hb
  clear hb hf hm hge
  refine hK.out _ _ ⟨(B5.cell 0).trans rfl, C0.c⟩ (fun hHeld => ?_)
  clear hK K
  refine norm_ (a' := ?_) ?_ ?_
  rotate_left
  ·show Act.put _ (some 37) _ = _
   simp only [Act.put, List.setIfInBounds_toArray, List.set_cons_zero, List.set_cons_succ, i64_w]
   rfl
  refine one_ (i := 9) (N := some 38) (ms 14 1023) rfl rfl (by kernel_rfl) (by decide) (fun K hK => ?_)
  refine goes_ Try.func26 (by kernel_rfl) rfl #[.pointer (some ⟨g, 0, none⟩), .slice (some ⟨gb37, 0, none⟩) 3 3] (by rfl) rfl rfl (by simp only [List.map_toArray, List.map_cons, List.map_nil]; rfl) ?_
  with_reducible refine (numT Q1 [-1, 20, 19] 3 rfl HF (by have := HP.out; omega) (by decide) (by decide) B37).mono ?_
  rintro e w38 ⟨r38, rfl, hr38, hf, hm⟩
  refine ⟨_, rfl, ?_⟩
  replace HF := hf
  replace LV := LV.mv hm
  replace LR := LR.mv hm
  replace HK := HK.mv hm (by decide)
  replace B4 := B4.mv hm (by decide)
  replace B5 := B5.mv hm (by decide)
  replace C0 := C0.mv hm (by decide)
  replace C1 := C1.mv hm (by decide)
  replace C2 := C2.mv hm (by decide)
  replace HZ := Nat.le_trans HZ hm.size
  clear B37 hr38
  clear hf hm
  refine hK.out _ _ ⟨(B5.cell 0).trans rfl, C0.c⟩ (fun hHeld => ?_)
  clear hK K
  refine norm_ (a' := ?_) ?_ ?_
  rotate_left
  ·show Act.put _ (some 38) _ = _
   simp only [Act.put, List.setIfInBounds_toArray, List.set_cons_zero, List.set_cons_succ, i64_w]
   rfl
  refine pure_ (i := 10) (N := some 39) (v := ?_) (a' := ?_) (ms 14 2047) rfl rfl (by kernel_rfl) (fun _ _ _ h => h) (Or.inl ⟨by rfl, ?_⟩) ?_ ?_
  rotate_left
  ·intro w'
   go_simp
   with_reducible rfl
  rotate_left
  ·simp only [Act.put, List.setIfInBounds_toArray, List.set_cons_zero, List.set_cons_succ, i64_w]
   rfl
  refine pure_ (i := 11) (N := some 40) (v := ?_) (a' := ?_) (ms 14 4095) rfl rfl (by kernel_rfl) (fun _ _ _ h => h) (Or.inl ⟨by rfl, ?_⟩) ?_ ?_
  rotate_left
  ·intro w'
   go_simp
   with_reducible rfl
  rotate_left
  ·simp only [Act.put, List.setIfInBounds_toArray, List.set_cons_zero, List.set_cons_succ, i64_w]
   rfl
  refine pure_ (i := 12) (N := some 41) (v := ?_) (a' := ?_) (ms 14 8191) rfl rfl (by kernel_rfl) (fun _ _ _ h => h) (Or.inl ⟨by rfl, ?_⟩) ?_ ?_
  rotate_left
  ·intro w'
   go_simp
   with_reducible rfl
  rotate_left
  ·simp only [Act.put, List.setIfInBounds_toArray, List.set_cons_zero, List.set_cons_succ, i64_w]
   rfl
  refine last_ (i := 13) (N := none) (ms 14 16383) rfl rfl (by kernel_rfl) (by decide) (fun K hK => ?_)
  have hcz_ := C1.c
  have hfz_ := LV.t.freeOf (ad.off + 1)
  refine put_row_step HF LV ?hw ?hd 1 (.int .i64 (wrap64 (x0 + r38))) ?hu ?hr ?_
  case hw => rfl
  case hd => rfl
  case hu => exact (TC.allI (l := [.int .i64 (wrap64 (x0 + r38))]) (j := 0) (by omega) (by simp [isI]) rfl)
  case hr => first | (go_simp; done) | (go_simp; rfl)
  clear hcz_ hfz_
  intro w41 hl hf hm
  replace HF := hf
  replace LR := LR.mv hm
  replace HK := HK.mv hm (by decide)
  replace B4 := B4.mv hm (by decide)
  replace B5 := B5.mv hm (by decide)
  replace HZ := Nat.le_trans HZ hm.size
  clear LV
  have LV := hl
  clear hl hf hm
  refine hK.out _ _ ?_
  clear hK K
  refine done_ (by kernel_rfl) ?_
  go_wp2_with (first | ((with_reducible refine gate_dst (N := 98) rfl ?_); refine load_whole B5 ?hg (N := 98) ?hd 35 (.tmp 5) ?ho rfl Try.underlying35 rfl (by kernel_rfl) ?_; (case ho => rfl); (case hd => rfl); (case hg => rfl)) | ((with_reducible refine gate_store (t := 35) (p := 4) (v := .tmp 98) rfl ?_); refine put_whole_k (q := Q1) HF B4 ?hg (ty := 35) (x := .tmp 4) (y := .tmp 98) ?ho ?hd #[.slice (some ad) n0 c0, .slice A1 n1 c1] rfl rfl (by kernel_rfl) rfl ?h1 ?hu ?_; (case ho => rfl); (case hd => rfl); (case hg => rfl); (case h1 => simp [Value.oneCell']); (case hu => exact fun h => absurd h (by unfold TE; omega)); intro w_ hb hf hm hk; replace HF := hf; replace LV := LV.mv hm; replace LR := LR.mv hm; replace HZ := Nat.le_trans HZ hm.size; replace B5 := B5.other hk (Ne.symm hne); replace HK := HK.other hk hn4; clear hk; clear B4; have B4 := hb; clear hb hf hm))
  refine bodyPost_ret (results_cell_row rfl _ _ gb4 35 #[.slice (some ad) n0 c0, .slice A1 n1 c1] (0, 0) _ rfl B4.b Try.underlying35 rfl (by kernel_rfl)) rfl ?_
  exact ⟨_, _, _, _, _, _, rfl, by have := HX.out; omega, by have := HX.out; omega, LV.r, LR.r, St.more HF.st (by omega), HK⟩
 ·skip
  have hb : b1 = true := by assumption
  rw [hb] at e1
  have hn1 : 0 < n1 := of_decide_eq_true e1
  clear e1 e2
  obtain ⟨ad, rfl⟩ := LR.t.some_ hn1
  have p2 : ((0 : Int) < (n1 : Int)) = True := eq_true (by omega)
  have p3 : (0 < n1) = True := eq_true hn1
  replace LV := LV.mono q81
  replace LR := LR.mono q81
  replace LV := LV.mv (Mv.drew (g := g))
  replace LR := LR.mv (Mv.drew (g := g))
  replace B4 := B4.mv (Mv.drew (q := Q1) (w0 := w0)) (by decide)
  replace B5 := B5.mv (Mv.drew (q := Q1) (w0 := w0)) (by decide)
  replace HK := HK.mv (Mv.drew (q := Q1) (w0 := w0)) (by decide)
  replace HF := HF.drew
  refine start_ (n := 7) (S := fun w' => w'.cell? ⟨gb5, 1, none⟩ = some (.slice (some ad) n1 c1)) (ds := [6]) (ms 7 0) (by kernel_rfl) rfl rfl ((B5.cell 1).trans rfl) (fun hHeld => ?_)
  refine pure_ (i := 0) (N := some 50) (v := ?_) (a' := ?_) (ms 7 1) rfl rfl (by kernel_rfl) (fun _ _ _ h => h) (Or.inl ⟨by rfl, ?_⟩) ?_ ?_
  rotate_left
  ·intro w'
   go_simp
   with_reducible rfl
  rotate_left
  ·simp only [Act.put, List.setIfInBounds_toArray, List.set_cons_zero, List.set_cons_succ, i64_w]
   rfl
  refine take_ (i := 1) (N := some 51) (v := ?_) (a' := ?_) (ms 7 3) rfl rfl (by kernel_rfl) (fun _ _ _ h => h) (Or.inl ⟨by rfl, ?_⟩) hHeld ?_ ?_
  rotate_left
  ·intro w' s0
   go_simp
   with_reducible rfl
  rotate_left
  ·simp only [Act.put, List.setIfInBounds_toArray, List.set_cons_zero, List.set_cons_succ, i64_w]
   rfl
  refine one_ (i := 2) (N := some 52) (ms 7 7) rfl rfl (by kernel_rfl) (by decide) (fun K hK => ?_)
  refine goes_ Try.func27 (by kernel_rfl) rfl #[.int .i64 1] (by rfl) rfl rfl (by simp only [List.map_toArray, List.map_cons, List.map_nil]; rfl) ?_
  with_reducible refine (constT Q1 _ HF).mono ?_
  rintro e w52 ⟨rfl, hf, hm⟩
  refine ⟨_, rfl, ?_⟩
  replace HF := hf
  replace LV := LV.mv hm
  replace LR := LR.mv hm
  replace HK := HK.mv hm (by decide)
  replace B4 := B4.mv hm (by decide)
  replace B5 := B5.mv hm (by decide)
  replace HZ := Nat.le_trans HZ hm.size
  clear hf hm
  refine hK.out _ _ ((B5.cell 1).trans rfl) (fun hHeld => ?_)
  clear hK K
  refine norm_ (a' := ?_) ?_ ?_
  rotate_left
  ·show Act.put _ (some 52) _ = _
   simp only [Act.put, List.setIfInBounds_toArray, List.set_cons_zero, List.set_cons_succ, i64_w]
   rfl
  refine one_ (i := 3) (N := some 53) (ms 7 15) rfl rfl (by kernel_rfl) (by decide) (fun K hK => ?_)
  refine new_block_step (q := Q1) HF ?hw (N := 53) ?hd (v := fun gb => .slice (some ⟨gb, 0, none⟩) 1 1) (cs := #[.int .i64 0, .int .i64 1, .int .i64 0, .int .i64 0]) (t := 54) ?hr ?_
  case hd => rfl
  case hw => rfl
  case hr => first | (go_simp; done) | (go_simp; rfl)
  intro gb53 w53 hb hf hm hge
  replace HF := hf
  replace LV := LV.mv hm
  replace LR := LR.mv hm
  replace HK := HK.mv hm (by decide)
  replace B4 := B4.mv hm (by decide)
  replace B5 := B5.mv hm (by decide)
  replace HZ := Nat.le_trans HZ hm.size
  have B53 := hb
  clear hb hf hm hge
  have LT := Lc.lit (q := Q1) (k := 1) HF B53 TE54 rfl (by omega) (fun j u h => TC.allI (by omega) (by simp [isI]) h)
  clear B53
  refine hK.out _ _ ((B5.cell 1).trans rfl) (fun hHeld => ?_)
  clear hK K
  refine norm_ (a' := ?_) ?_ ?_
  rotate_left
  ·show Act.put _ (some 53) _ = _
   simp only [Act.put, List.setIfInBounds_toArray, List.set_cons_zero, List.set_cons_succ, i64_w]
   rfl
  refine pure_ (i := 4) (N := some 54) (v := ?_) (a' := ?_) (ms 7 31) rfl rfl (by kernel_rfl) (fun _ _ _ h => h) (Or.inl ⟨by rfl, ?_⟩) ?_ ?_
  rotate_left
  ·intro w'
   go_simp
   with_reducible rfl
  rotate_left
  ·simp only [Act.put, List.setIfInBounds_toArray, List.set_cons_zero, List.set_cons_succ, i64_w]
   rfl
  refine pure_ (i := 5) (N := some 55) (v := ?_) (a' := ?_) (ms 7 63) rfl rfl (by kernel_rfl) (fun _ _ _ h => h) (Or.inl ⟨by rfl, ?_⟩) ?_ ?_
  rotate_left
  ·intro w'
   go_simp
   with_reducible rfl
  rotate_left
  ·simp only [Act.put, List.setIfInBounds_toArray, List.set_cons_zero, List.set_cons_succ, i64_w]
   rfl
  refine last_ (i := 6) (N := none) (ms 7 127) rfl rfl (by kernel_rfl) (by decide) (fun K hK => ?_)
  obtain ⟨u_, hcz_⟩ := LR.t.cell0 hn1
  have hfz_ := LR.t.free0
  refine put_row0_step HF LR ?hw ?hd (.slice (some ⟨gb53, 0, none⟩) 1 1) ?hu ?hr ?_
  case hw => rfl
  case hd => rfl
  case hu => exact TC.r0 (show (1:Nat) ≤ 1000 by omega) LT.t
  case hr => first | (go_simp; done) | (go_simp; rfl)
  clear hcz_ hfz_
  intro w55 hl hf hm
  replace HF := hf
  replace LV := LV.mv hm
  replace HK := HK.mv hm (by decide)
  replace B4 := B4.mv hm (by decide)
  replace B5 := B5.mv hm (by decide)
  replace HZ := Nat.le_trans HZ hm.size
  clear LR
  have LR := hl
  clear hl hf hm
  refine hK.out _ _ ?_
  clear hK K
  refine done_ (by kernel_rfl) ?_
  go_wp2_with (first | ((with_reducible refine gate_dst (N := 98) rfl ?_); refine load_whole B5 ?hg (N := 98) ?hd 35 (.tmp 5) ?ho rfl Try.underlying35 rfl (by kernel_rfl) ?_; (case ho => rfl); (case hd => rfl); (case hg => rfl)) | ((with_reducible refine gate_store (t := 35) (p := 4) (v := .tmp 98) rfl ?_); refine put_whole_k (q := Q1) HF B4 ?hg (ty := 35) (x := .tmp 4) (y := .tmp 98) ?ho ?hd #[.slice A0 n0 c0, .slice (some ad) n1 c1] rfl rfl (by kernel_rfl) rfl ?h1 ?hu ?_; (case ho => rfl); (case hd => rfl); (case hg => rfl); (case h1 => simp [Value.oneCell']); (case hu => exact fun h => absurd h (by unfold TE; omega)); intro w_ hb hf hm hk; replace HF := hf; replace LV := LV.mv hm; replace LR := LR.mv hm; replace HZ := Nat.le_trans HZ hm.size; replace B5 := B5.other hk (Ne.symm hne); replace HK := HK.other hk hn4; clear hk; clear B4; have B4 := hb; clear hb hf hm))
  refine bodyPost_ret (results_cell_row rfl _ _ gb4 35 #[.slice A0 n0 c0, .slice (some ad) n1 c1] (0, 0) _ rfl B4.b Try.underlying35 rfl (by kernel_rfl)) rfl ?_
  exact ⟨_, _, _, _, _, _, rfl, by have := HX.out; omega, by have := HX.out; omega, LV.r, LR.r, St.more HF.st (by omega), HK⟩
 ·skip
  have hb : b1 = true := by assumption
  rw [hb] at e1
  have hn1 : 0 < n1 := of_decide_eq_true e1
  clear e1 e2
  obtain ⟨ad, rfl⟩ := LR.t.some_ hn1
  have p2 : ((0 : Int) < (n1 : Int)) = True := eq_true (by omega)
  have p3 : (0 < n1) = True := eq_true hn1
  replace LV := LV.mv (Mv.drew (g := g))
  replace LR := LR.mv (Mv.drew (g := g))
  replace B4 := B4.mv (Mv.drew (q := Q1) (w0 := w0)) (by decide)
  replace B5 := B5.mv (Mv.drew (q := Q1) (w0 := w0)) (by decide)
  replace HK := HK.mv (Mv.drew (q := Q1) (w0 := w0)) (by decide)
  replace HF := HF.drew
  obtain ⟨Aw, nw, cw, As, ns, cs, At, nt, ct, hc0, hc1, hc2, qw, qs, qt, TW, TS, TT⟩ := LR.t.at59 0 (by omega) (by omega)
  have ead : ad.add ((0 : Int).toNat * 3) = ad := by simp [Addr.add]
  rw [ead] at hc0 hc1 hc2
  clear hc0 ead
  have HQ1 := Aside0.mk qs
  replace LV := LV.mono q81
  replace LR := LR.mono q81
  have C1 := T.ce (i := 0) (p := ⟨ad.block, ad.off + 1, none⟩) LR.t TE59 HF.st rfl rfl rfl hc1
  have LS := Lc.first (TS.any (q1 := Q1) ⟨by decide, by decide, by decide⟩) TE3
  have HS := Aside0.mk (show ns ≤ 81 from qs)
  clear hc1 hc2 qw qs qt TW TS TT
  refine start_ (n := 15) (S := fun w' => w'.cell? ⟨gb5, 1, none⟩ = some (.slice (some ad) n1 c1) ∧ w'.cell? ⟨gb5, 0, none⟩ = some (.slice A0 n0 c0) ∧ w'.cell? ⟨ad.block, ad.off + 1, none⟩ = some (.slice As ns cs)) (ds := [14]) (ms 15 0) (by kernel_rfl) rfl rfl ⟨(B5.cell 1).trans rfl, (B5.cell 0).trans rfl, C1.c⟩ (fun hHeld => ?_)
  refine pure_ (i := 0) (N := some 64) (v := ?_) (a' := ?_) (ms 15 1) rfl rfl (by kernel_rfl) (fun _ _ _ h => h) (Or.inl ⟨by rfl, ?_⟩) ?_ ?_
  rotate_left
  ·intro w'
   go_simp
   with_reducible rfl
  rotate_left
  ·simp only [Act.put, List.setIfInBounds_toArray, List.set_cons_zero, List.set_cons_succ, i64_w]
   rfl
  refine pure_ (i := 2) (N := some 66) (v := ?_) (a' := ?_) (ms 15 5) rfl rfl (by kernel_rfl) (fun _ _ _ h => h) (Or.inl ⟨by rfl, ?_⟩) ?_ ?_
  rotate_left
  ·intro w'
   go_simp
   with_reducible rfl
  rotate_left
  ·simp only [Act.put, List.setIfInBounds_toArray, List.set_cons_zero, List.set_cons_succ, i64_w]
   rfl
  refine pure_ (i := 7) (N := some 71) (v := ?_) (a' := ?_) (ms 15 133) rfl rfl (by kernel_rfl) (fun _ _ _ h => h) (Or.inl ⟨by rfl, ?_⟩) ?_ ?_
  rotate_left
  ·intro w'
   go_simp
   with_reducible rfl
  rotate_left
  ·simp only [Act.put, List.setIfInBounds_toArray, List.set_cons_zero, List.set_cons_succ, i64_w]
   rfl
  refine take_ (i := 1) (N := some 65) (v := ?_) (a' := ?_) (ms 15 135) rfl rfl (by kernel_rfl) (fun _ _ _ h => h) (Or.inl ⟨by rfl, ?_⟩) hHeld ?_ ?_
  rotate_left
  ·rintro w' ⟨s0, s1, s2⟩
   go_simp
   with_reducible rfl
  rotate_left
  ·simp only [Act.put, List.setIfInBounds_toArray, List.set_cons_zero, List.set_cons_succ, i64_w]
   rfl
  refine take_ (i := 3) (N := some 67) (v := ?_) (a' := ?_) (ms 15 143) rfl rfl (by kernel_rfl) (fun _ _ _ h => h) (Or.inl ⟨by rfl, ?_⟩) hHeld ?_ ?_
  rotate_left
  ·rintro w' ⟨s0, s1, s2⟩
   go_simp
   with_reducible rfl
  rotate_left
  ·simp only [Act.put, List.setIfInBounds_toArray, List.set_cons_zero, List.set_cons_succ, i64_w]
   rfl
  refine pure_ (i := 4) (N := some 68) (v := ?_) (a' := ?_) (ms 15 159) rfl rfl (by kernel_rfl) (fun _ _ _ h => h) (Or.inl ⟨by rfl, ?_⟩) ?_ ?_
  rotate_left
  ·intro w'
   go_simp
   with_reducible rfl
  rotate_left
  ·simp only [Act.put, List.setIfInBounds_toArray, List.set_cons_zero, List.set_cons_succ, i64_w]
   rfl
  refine pure_ (i := 5) (N := some 69) (v := ?_) (a' := ?_) (ms 15 191) rfl rfl (by kernel_rfl) (fun _ _ _ h => h) (Or.inl ⟨by rfl, ?_⟩) ?_ ?_
  rotate_left
  ·intro w'
   go_simp
   with_reducible rfl
  rotate_left
  ·simp only [Act.put, List.setIfInBounds_toArray, List.set_cons_zero, List.set_cons_succ, i64_w]
   rfl
  refine take_ (i := 6) (N := some 70) (v := ?_) (a' := ?_) (ms 15 255) rfl rfl (by kernel_rfl) (fun _ _ _ h => h) (Or.inl ⟨by rfl, ?_⟩) hHeld ?_ ?_
  rotate_left
  ·rintro w' ⟨s0, s1, s2⟩
   go_simp
   with_reducible rfl
  rotate_left
  ·simp only [Act.put, List.setIfInBounds_toArray, List.set_cons_zero, List.set_cons_succ, i64_w]
   rfl
  refine take_ (i := 8) (N := some 72) (v := ?_) (a' := ?_) (ms 15 511) rfl rfl (by kernel_rfl) (fun _ _ _ h => h) (Or.inl ⟨by rfl, ?_⟩) hHeld ?_ ?_
  rotate_left
  ·rintro w' ⟨s0, s1, s2⟩
   go_simp
   with_reducible rfl
  rotate_left
  ·simp only [Act.put, List.setIfInBounds_toArray, List.set_cons_zero, List.set_cons_succ, i64_w]
   rfl
  refine pure_ (i := 9) (N := some 73) (v := ?_) (a' := ?_) (ms 15 1023) rfl rfl (by kernel_rfl) (fun _ _ _ h => h) (Or.inl ⟨by rfl, ?_⟩) ?_ ?_
  rotate_left
  ·intro w'
   go_simp
   with_reducible rfl
  rotate_left
  ·simp only [Act.put, List.setIfInBounds_toArray, List.set_cons_zero, List.set_cons_succ, i64_w]
   rfl
  refine one_ (i := 10) (N := some 74) (ms 15 2047) rfl rfl (by kernel_rfl) (by decide) (fun K hK => ?_)
  refine new_block_step (q := Q1) HF ?hw (N := 74) ?hd (v := fun gb => .slice (some ⟨gb, 0, none⟩) 1 1) (cs := #[.int .i64 n0]) (t := 3) ?hr ?_
  case hd => rfl
  case hw => rfl
  case hr => first | (go_simp; done) | (go_simp; rfl)
  intro gb74 w74 hb hf hm hge
  replace HF := hf
  replace LV := LV.mv hm
  replace LR := LR.mv hm
  replace LS := LS.mv hm
  replace HK := HK.mv hm (by decide)
  replace B4 := B4.mv hm (by decide)
  replace B5 := B5.mv hm (by decide)
  replace C1 := C1.mv hm (by decide)
  replace HZ := Nat.le_trans HZ hm.size
  have B74 := hb
  clear hb hf hm hge
  refine hK.out _ _ ⟨(B5.cell 1).trans rfl, (B5.cell 0).trans rfl, C1.c⟩ (fun hHeld => ?_)
  clear hK K
  refine norm_ (a' := ?_) ?_ ?_
  rotate_left
  ·show Act.put _ (some 74) _ = _
   simp only [Act.put, List.setIfInBounds_toArray, List.set_cons_zero, List.set_cons_succ, i64_w]
   rfl
  refine one_ (i := 11) (N := some 75) (ms 15 4095) rfl rfl (by kernel_rfl) (by decide) (fun K hK => ?_)
  refine app_row_step HF (by rfl) (.tmp 70) (.tmp 74) 28 (e := 3) (z := .int .i64 0) (bytes := 8) LS rfl Try.underlying28 info3 rfl (by decide) [.int .i64 n0] rfl rfl B74 rfl ?h1 ?ht ?hl ?_
  case h1 => simp [Value.oneCell']
  case ht => exact TC.one _
  case hl => have : ns ≤ 81 := HS.out; omega
  intro A_ c_ w75 hl hf hm
  replace HF := hf
  replace LV := LV.mv hm
  replace LR := LR.mv hm
  replace HK := HK.mv hm (by decide)
  replace B4 := B4.mv hm (by decide)
  replace B5 := B5.mv hm (by decide)
  replace C1 := C1.mv hm (by decide)
  replace HZ := Nat.le_trans HZ hm.size
  clear LS
  have LS := hl
  clear hl hf hm
  refine hK.out _ _ ⟨(B5.cell 1).trans rfl, (B5.cell 0).trans rfl, C1.c⟩ (fun hHeld => ?_)
  clear hK K
  refine norm_ (a' := ?_) ?_ ?_
  rotate_left
  ·show Act.put _ (some 75) _ = _
   simp only [Act.put, List.setIfInBounds_toArray, List.set_cons_zero, List.set_cons_succ, i64_w]
   rfl
  refine pure_ (i := 12) (N := some 76) (v := ?_) (a' := ?_) (ms 15 8191) rfl rfl (by kernel_rfl) (fun _ _ _ h => h) (Or.inl ⟨by rfl, ?_⟩) ?_ ?_
  rotate_left
  ·intro w'
   go_simp
   with_reducible rfl
  rotate_left
  ·simp only [Act.put, List.setIfInBounds_toArray, List.set_cons_zero, List.set_cons_succ, i64_w]
   rfl
  refine pure_ (i := 13) (N := some 77) (v := ?_) (a' := ?_) (ms 15 16383) rfl rfl (by kernel_rfl) (fun _ _ _ h => h) (Or.inl ⟨by rfl, ?_⟩) ?_ ?_
  rotate_left
  ·intro w'
   go_simp
   with_reducible rfl
  rotate_left
  ·simp only [Act.put, List.setIfInBounds_toArray, List.set_cons_zero, List.set_cons_succ, i64_w]
   rfl
  refine last_ (i := 14) (N := none) (ms 15 32767) rfl rfl (by kernel_rfl) (by decide) (fun K hK => ?_)
  have hcz_ := C1.c
  have hfz_ := LR.t.freeOf (ad.off + 1)
  refine put_row_step HF LR ?hw ?hd 1 (.slice A_ (ns + 1) c_) ?hu ?hr ?_
  case hw => rfl
  case hd => rfl
  case hu => exact TC.r1 (show ns + 1 ≤ 1000 by have : ns ≤ 81 := HS.out; omega) LS.t
  case hr => first | (go_simp; done) | (go_simp; rfl)
  clear hcz_ hfz_
  intro w77 hl hf hm
  replace HF := hf
  replace LV := LV.mv hm
  replace LS := LS.mv hm
  replace HK := HK.mv hm (by decide)
  replace B4 := B4.mv hm (by decide)
  replace B5 := B5.mv hm (by decide)
  replace HZ := Nat.le_trans HZ hm.size
  clear LR
  have LR := hl
  clear hl hf hm
  refine hK.out _ _ ?_
  clear hK K
  refine done_ (by kernel_rfl) ?_
  go_wp2_with (first | ((with_reducible refine gate_dst (N := 98) rfl ?_); refine load_whole B5 ?hg (N := 98) ?hd 35 (.tmp 5) ?ho rfl Try.underlying35 rfl (by kernel_rfl) ?_; (case ho => rfl); (case hd => rfl); (case hg => rfl)) | ((with_reducible refine gate_store (t := 35) (p := 4) (v := .tmp 98) rfl ?_); refine put_whole_k (q := Q1) HF B4 ?hg (ty := 35) (x := .tmp 4) (y := .tmp 98) ?ho ?hd #[.slice A0 n0 c0, .slice (some ad) n1 c1] rfl rfl (by kernel_rfl) rfl ?h1 ?hu ?_; (case ho => rfl); (case hd => rfl); (case hg => rfl); (case h1 => simp [Value.oneCell']); (case hu => exact fun h => absurd h (by unfold TE; omega)); intro w_ hb hf hm hk; replace HF := hf; replace LV := LV.mv hm; replace LR := LR.mv hm; replace HZ := Nat.le_trans HZ hm.size; replace B5 := B5.other hk (Ne.symm hne); replace HK := HK.other hk hn4; clear hk; clear B4; have B4 := hb; clear hb hf hm))
  refine bodyPost_ret (results_cell_row rfl _ _ gb4 35 #[.slice A0 n0 c0, .slice (some ad) n1 c1] (0, 0) _ rfl B4.b Try.underlying35 rfl (by kernel_rfl)) rfl ?_
  exact ⟨_, _, _, _, _, _, rfl, by have := HX.out; omega, by have := HX.out; omega, LV.r, LR.r, St.more HF.st (by omega), HK⟩
 ·skip
  have hb : b1 = true := by assumption
  rw [hb] at e1
  have hn1 : 0 < n1 := of_decide_eq_true e1
  clear e1 e2
  obtain ⟨ad, rfl⟩ := LR.t.some_ hn1
  have p2 : ((0 : Int) < (n1 : Int)) = True := eq_true (by omega)
  have p3 : (0 < n1) = True := eq_true hn1
  replace LV := LV.mv (Mv.drew (g := g))
  replace LR := LR.mv (Mv.drew (g := g))
  replace B4 := B4.mv (Mv.drew (q := Q1) (w0 := w0)) (by decide)
  replace B5 := B5.mv (Mv.drew (q := Q1) (w0 := w0)) (by decide)
  replace HK := HK.mv (Mv.drew (q := Q1) (w0 := w0)) (by decide)
  replace HF := HF.drew
  obtain ⟨Aw, nw, cw, As, ns, cs, At, nt, ct, hc0, hc1, hc2, qw, qs, qt, TW, TS, TT⟩ := LR.t.at59 0 (by omega) (by omega)
  have ead : ad.add ((0 : Int).toNat * 3) = ad := by simp [Addr.add]
  rw [ead] at hc0 hc1 hc2
  clear hc0 ead
  have HQ1 := Aside0.mk qt
  replace LV := LV.mono q81
  replace LR := LR.mono q81
  have C2 := T.ce (i := 0) (p := ⟨ad.block, ad.off + 2, none⟩) LR.t TE59 HF.st rfl rfl rfl hc2
  have LT := Lc.first (TT.mono q81) TE56
  have HS := Aside0.mk (show nt ≤ 81 from qt)
  clear hc1 hc2 qw qs qt TW TS TT
  refine start_ (n := 14) (S := fun w' => w'.cell? ⟨gb5, 1, none⟩ = some (.slice (some ad) n1 c1) ∧ w'.cell? ⟨ad.block, ad.off + 2, none⟩ = some (.slice At nt ct)) (ds := [13]) (ms 14 0) (by kernel_rfl) rfl rfl ⟨(B5.cell 1).trans rfl, C2.c⟩ (fun hHeld => ?_)
  refine pure_ (i := 0) (N := some 85) (v := ?_) (a' := ?_) (ms 14 1) rfl rfl (by kernel_rfl) (fun _ _ _ h => h) (Or.inl ⟨by rfl, ?_⟩) ?_ ?_
  rotate_left
  ·intro w'
   go_simp
   with_reducible rfl
  rotate_left
  ·simp only [Act.put, List.setIfInBounds_toArray, List.set_cons_zero, List.set_cons_succ, i64_w]
   rfl
  refine pure_ (i := 2) (N := some 87) (v := ?_) (a' := ?_) (ms 14 5) rfl rfl (by kernel_rfl) (fun _ _ _ h => h) (Or.inl ⟨by rfl, ?_⟩) ?_ ?_
  rotate_left
  ·intro w'
   go_simp
   with_reducible rfl
  rotate_left
  ·simp only [Act.put, List.setIfInBounds_toArray, List.set_cons_zero, List.set_cons_succ, i64_w]
   rfl
  refine take_ (i := 1) (N := some 86) (v := ?_) (a' := ?_) (ms 14 7) rfl rfl (by kernel_rfl) (fun _ _ _ h => h) (Or.inl ⟨by rfl, ?_⟩) hHeld ?_ ?_
  rotate_left
  ·rintro w' ⟨s0, s1⟩
   go_simp
   with_reducible rfl
  rotate_left
  ·simp only [Act.put, List.setIfInBounds_toArray, List.set_cons_zero, List.set_cons_succ, i64_w]
   rfl
  refine take_ (i := 3) (N := some 88) (v := ?_) (a' := ?_) (ms 14 15) rfl rfl (by kernel_rfl) (fun _ _ _ h => h) (Or.inl ⟨by rfl, ?_⟩) hHeld ?_ ?_
  rotate_left
  ·rintro w' ⟨s0, s1⟩
   go_simp
   with_reducible rfl
  rotate_left
  ·simp only [Act.put, List.setIfInBounds_toArray, List.set_cons_zero, List.set_cons_succ, i64_w]
   rfl
  refine pure_ (i := 4) (N := some 89) (v := ?_) (a' := ?_) (ms 14 31) rfl rfl (by kernel_rfl) (fun _ _ _ h => h) (Or.inl ⟨by rfl, ?_⟩) ?_ ?_
  rotate_left
  ·intro w'
   go_simp
   with_reducible rfl
  rotate_left
  ·simp only [Act.put, List.setIfInBounds_toArray, List.set_cons_zero, List.set_cons_succ, i64_w]
   rfl
  refine pure_ (i := 5) (N := some 90) (v := ?_) (a' := ?_) (ms 14 63) rfl rfl (by kernel_rfl) (fun _ _ _ h => h) (Or.inl ⟨by rfl, ?_⟩) ?_ ?_
  rotate_left
  ·intro w'
   go_simp
   with_reducible rfl
  rotate_left
  ·simp only [Act.put, List.setIfInBounds_toArray, List.set_cons_zero, List.set_cons_succ, i64_w]
   rfl
  refine take_ (i := 6) (N := some 91) (v := ?_) (a' := ?_) (ms 14 127) rfl rfl (by kernel_rfl) (fun _ _ _ h => h) (Or.inl ⟨by rfl, ?_⟩) hHeld ?_ ?_
  rotate_left
  ·rintro w' ⟨s0, s1⟩
   go_simp
   with_reducible rfl
  rotate_left
  ·simp only [Act.put, List.setIfInBounds_toArray, List.set_cons_zero, List.set_cons_succ, i64_w]
   rfl
  refine one_ (i := 7) (N := some 92) (ms 14 255) rfl rfl (by kernel_rfl) (by decide) (fun K hK => ?_)
  refine goes_ Try.func27 (by kernel_rfl) rfl #[.int .i64 0] (by rfl) rfl rfl (by simp only [List.map_toArray, List.map_cons, List.map_nil]; rfl) ?_
  with_reducible refine (constT Q1 _ HF).mono ?_
  rintro e w92 ⟨rfl, hf, hm⟩
  refine ⟨_, rfl, ?_⟩
  replace HF := hf
  replace LV := LV.mv hm
  replace LR := LR.mv hm
  replace LT := LT.mv hm
  replace HK := HK.mv hm (by decide)
  replace B4 := B4.mv hm (by decide)
  replace B5 := B5.mv hm (by decide)
  replace C2 := C2.mv hm (by decide)
  replace HZ := Nat.le_trans HZ hm.size
  clear hf hm
  refine hK.out _ _ ⟨(B5.cell 1).trans rfl, C2.c⟩ (fun hHeld => ?_)
  clear hK K
  refine norm_ (a' := ?_) ?_ ?_
  rotate_left
  ·show Act.put _ (some 92) _ = _
   simp only [Act.put, List.setIfInBounds_toArray, List.set_cons_zero, List.set_cons_succ, i64_w]
   rfl
  refine one_ (i := 8) (N := some 93) (ms 14 511) rfl rfl (by kernel_rfl) (by decide) (fun K hK => ?_)
  refine new_block_step (q := Q1) HF ?hw (N := 93) ?hd (v := fun gb => .slice (some ⟨gb, 0, none⟩) 1 1) (cs := #[.int .i64 0, .int .i64 0, .int .i64 0, .int .i64 0]) (t := 54) ?hr ?_
  case hd => rfl
  case hw => rfl
  case hr => first | (go_simp; done) | (go_simp; rfl)
  intro gb93 w93 hb hf hm hge
  replace HF := hf
  replace LV := LV.mv hm
  replace LR := LR.mv hm
  replace LT := LT.mv hm
  replace HK := HK.mv hm (by decide)
  replace B4 := B4.mv hm (by decide)
  replace B5 := B5.mv hm (by decide)
  replace C2 := C2.mv hm (by decide)
  replace HZ := Nat.le_trans HZ hm.size
  have B93 := hb
  clear hb hf hm hge
  have LX := Lc.lit (q := Q1) (k := 1) HF B93 TE54 rfl (by omega) (fun j u h => TC.allI (by omega) (by simp [isI]) h)
  clear B93
  refine hK.out _ _ ⟨(B5.cell 1).trans rfl, C2.c⟩ (fun hHeld => ?_)
  clear hK K
  refine norm_ (a' := ?_) ?_ ?_
  rotate_left
  ·show Act.put _ (some 93) _ = _
   simp only [Act.put, List.setIfInBounds_toArray, List.set_cons_zero, List.set_cons_succ, i64_w]
   rfl
  refine one_ (i := 9) (N := some 94) (ms 14 1023) rfl rfl (by kernel_rfl) (by decide) (fun K hK => ?_)
  refine new_block_step (q := Q1) HF ?hw (N := 94) ?hd (v := fun gb => .slice (some ⟨gb, 0, none⟩) 1 1) (cs := #[.slice (some ⟨gb93, 0, none⟩) 1 1]) (t := 56) ?hr ?_
  case hd => rfl
  case hw => rfl
  case hr => first | (go_simp; done) | (go_simp; rfl)
  intro gb94 w94 hb hf hm hge
  replace HF := hf
  replace LV := LV.mv hm
  replace LR := LR.mv hm
  replace LT := LT.mv hm
  replace LX := LX.mv hm
  replace HK := HK.mv hm (by decide)
  replace B4 := B4.mv hm (by decide)
  replace B5 := B5.mv hm (by decide)
  replace C2 := C2.mv hm (by decide)
  replace HZ := Nat.le_trans HZ hm.size
  have B94 := hb
  clear hb hf hm hge
  refine hK.out _ _ ⟨(B5.cell 1).trans rfl, C2.c⟩ (fun hHeld => ?_)
  clear hK K
  refine norm_ (a' := ?_) ?_ ?_
  rotate_left
  ·show Act.put _ (some 94) _ = _
   simp only [Act.put, List.setIfInBounds_toArray, List.set_cons_zero, List.set_cons_succ, i64_w]
   rfl
  refine one_ (i := 10) (N := some 95) (ms 14 2047) rfl rfl (by kernel_rfl) (by decide) (fun K hK => ?_)
  refine app_row_step HF (by rfl) (.tmp 91) (.tmp 94) 57 (e := 56) (z := .slice none 0 0) (bytes := 24) LT rfl Try.underlying57 info56 rfl (by decide) [.slice (some ⟨gb93, 0, none⟩) 1 1] rfl rfl B94 rfl ?h1 ?ht ?hl ?_
  case h1 => simp [Value.oneCell']
  case ht => exact TC.terms (show (1:Nat) ≤ 1000 by omega) LX.t
  case hl => have : nt ≤ 81 := HS.out; omega
  intro A_ c_ w95 hl hf hm
  replace HF := hf
  replace LV := LV.mv hm
  replace LR := LR.mv hm
  replace LX := LX.mv hm
  replace HK := HK.mv hm (by decide)
  replace B4 := B4.mv hm (by decide)
  replace B5 := B5.mv hm (by decide)
  replace C2 := C2.mv hm (by decide)
  replace HZ := Nat.le_trans HZ hm.size
  clear LT
  have LT := hl
  clear hl hf hm
  refine hK.out _ _ ⟨(B5.cell 1).trans rfl, C2.c⟩ (fun hHeld => ?_)
  clear hK K
  refine norm_ (a' := ?_) ?_ ?_
  rotate_left
  ·show Act.put _ (some 95) _ = _
   simp only [Act.put, List.setIfInBounds_toArray, List.set_cons_zero, List.set_cons_succ, i64_w]
   rfl
  refine pure_ (i := 11) (N := some 96) (v := ?_) (a' := ?_) (ms 14 4095) rfl rfl (by kernel_rfl) (fun _ _ _ h => h) (Or.inl ⟨by rfl, ?_⟩) ?_ ?_
  rotate_left
  ·intro w'
   go_simp
   with_reducible rfl
  rotate_left
  ·simp only [Act.put, List.setIfInBounds_toArray, List.set_cons_zero, List.set_cons_succ, i64_w]
   rfl
  refine pure_ (i := 12) (N := some 97) (v := ?_) (a' := ?_) (ms 14 8191) rfl rfl (by kernel_rfl) (fun _ _ _ h => h) (Or.inl ⟨by rfl, ?_⟩) ?_ ?_
  rotate_left
  ·intro w'
   go_simp
   with_reducible rfl
  rotate_left
  ·simp only [Act.put, List.setIfInBounds_toArray, List.set_cons_zero, List.set_cons_succ, i64_w]
   rfl
  refine last_ (i := 13) (N := none) (ms 14 16383) rfl rfl (by kernel_rfl) (by decide) (fun K hK => ?_)
  have hcz_ := C2.c
  have hfz_ := LR.t.freeOf (ad.off + 2)
  refine put_row_step HF LR ?hw ?hd 2 (.slice A_ (nt + 1) c_) ?hu ?hr ?_
  case hw => rfl
  case hd => rfl
  case hu => exact TC.r2 (show nt + 1 ≤ 1000 by have : nt ≤ 81 := HS.out; omega) LT.t
  case hr => first | (go_simp; done) | (go_simp; rfl)
  clear hcz_ hfz_
  intro w97 hl hf hm
  replace HF := hf
  replace LV := LV.mv hm
  replace LT := LT.mv hm
  replace LX := LX.mv hm
  replace HK := HK.mv hm (by decide)
  replace B4 := B4.mv hm (by decide)
  replace B5 := B5.mv hm (by decide)
  replace HZ := Nat.le_trans HZ hm.size
  clear LR
  have LR := hl
  clear hl hf hm
  refine hK.out _ _ ?_
  clear hK K
  refine done_ (by kernel_rfl) ?_
  go_wp2_with (first | ((with_reducible refine gate_dst (N := 98) rfl ?_); refine load_whole B5 ?hg (N := 98) ?hd 35 (.tmp 5) ?ho rfl Try.underlying35 rfl (by kernel_rfl) ?_; (case ho => rfl); (case hd => rfl); (case hg => rfl)) | ((with_reducible refine gate_store (t := 35) (p := 4) (v := .tmp 98) rfl ?_); refine put_whole_k (q := Q1) HF B4 ?hg (ty := 35) (x := .tmp 4) (y := .tmp 98) ?ho ?hd #[.slice A0 n0 c0, .slice (some ad) n1 c1] rfl rfl (by kernel_rfl) rfl ?h1 ?hu ?_; (case ho => rfl); (case hd => rfl); (case hg => rfl); (case h1 => simp [Value.oneCell']); (case hu => exact fun h => absurd h (by unfold TE; omega)); intro w_ hb hf hm hk; replace HF := hf; replace LV := LV.mv hm; replace LR := LR.mv hm; replace HZ := Nat.le_trans HZ hm.size; replace B5 := B5.other hk (Ne.symm hne); replace HK := HK.other hk hn4; clear hk; clear B4; have B4 := hb; clear hb hf hm))
  refine bodyPost_ret (results_cell_row rfl _ _ gb4 35 #[.slice A0 n0 c0, .slice (some ad) n1 c1] (0, 0) _ rfl B4.b Try.underlying35 rfl (by kernel_rfl)) rfl ?_
  exact ⟨_, _, _, _, _, _, rfl, by have := HX.out; omega, by have := HX.out; omega, LV.r, LR.r, St.more HF.st (by omega), HK⟩
end Go.Proofs.Ytnidjlhbejifoaa.XFnSameRun
