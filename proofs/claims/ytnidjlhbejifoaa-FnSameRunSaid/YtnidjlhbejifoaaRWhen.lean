/- spec.l2When over rows told by type.
Conditions: each theorem's own. -/
import Derived.WalkMore
import Derived.Test.YtnidjlhbejifoaaRTyR
namespace Go.Proofs.Ytnidjlhbejifoaa.XFnSameRun
open Go.RowKit Go.Proofs.YtnidjlhbejifoaaW.PrintWords Go.Proofs.YtnidjlhbejifoaaW.PrintLast Go.Proofs.YtnidjlhbejifoaaW.PrintMore Go.Proofs.YtnidjlhbejifoaaX Ty
attribute [local go_sem] max2_int max_two
set_option linter.unusedVariables false
set_option linter.unusedSimpArgs false
set_option maxHeartbeats 8000000 in
set_option maxRecDepth 100000 in
theorem l2When.rel {q : Nat → Prop} {w0 w : World} {g : Nat} {P : Int} (A0 : Option Addr) (n0 c0 : Nat) (hS : St w0 w g P) (hP : P ≤ 800000) (hV : T q w0.heap.size 51 w A0 n0 c0) (h1 : 1 ≤ n0) (hn : n0 ≤ 5) :
  Calls Try.prog 37 #[.pointer (some ⟨g, 0, none⟩), .slice A0 n0 c0] w fun e w' => ∃ A n c, e = .returned (.slice A n c) ∧ n ≤ 81 ∧ Lc q w0 w 54 w' A n c ∧ Fr w0 w w' g (P + 10) := by
 have hu28 := Try.underlying28
 have hu56 := Try.underlying56
 have hu54 := Try.underlying54
 have hu51 := Try.underlying51
 have hu32 := Try.underlying32
 have HF := Fr.start hS
 have HV : Rw q w0 51 w A0 n0 c0 := ⟨hV, TE51⟩
 have HP := Aside0.mk hP
 obtain ⟨ad, rfl⟩ := HV.t.some_ (by omega)
 have HX := Aside0.mk (And.intro h1 hn)
 clear hS hV hP hn h1
 go_enter Try.func37, Try.ntmps37
 go_wp2_with (first | (go_at_call 11; have _t := r20; clear _t; clear hz0 hz1 hz2 C0 C1 C2; (with_reducible refine (pickT q _ HF (by have := HP.out; omega)).mono ?_); rintro e w_ ⟨r25, rfl, r250, r251_, hf, hm⟩; replace HF := hf; replace HV := HV.mv hm; (try replace L6 := L6.mv hm); have r251 := r251_ (by have := HX.out; omega); clear r251_; clear hf hm; skip) | (go_at_call 11; have _t := r11; clear _t; (with_reducible refine (pickT q _ HF (by have := HP.out; omega)).mono ?_); rintro e w_ ⟨r20, rfl, r200, r201_, hf, hm⟩; replace HF := hf; replace HV := HV.mv hm; (try replace L6 := L6.mv hm); have r201 := r201_ (by have := HX.out; omega); clear r201_; clear hf hm; skip) | (go_at_call 11; (with_reducible refine (pickT q _ HF (by have := HP.out; omega)).mono ?_); rintro e w_ ⟨r11, rfl, r110, r111_, hf, hm⟩; replace HF := hf; replace HV := HV.mv hm; (try replace L6 := L6.mv hm); have r111 := r111_ (by have := HX.out; omega); clear r111_; clear hf hm; have pxr11 := eq_true r110; have qxr11 := eq_true r111; obtain ⟨x0, x1, x2, C0, C1, C2⟩ := HV.t.ce51 HF.st r11 r110 r111; have hz0 := C0.c; have hz1 := C1.c; have hz2 := C2.c) | (go_at_call 43; (with_reducible refine (condT q _ _ _ _ HF (by have := HP.out; omega)).mono ?_); rintro e w_ ⟨A18, n18, c18, rfl, h18, hl, hf, hm⟩; replace HF := hf; replace HV := HV.mv hm; (try replace L6 := L6.mv hm); have L6 := hl; clear hl; have H18 := Aside0.mk h18; clear h18; clear hf hm))
 all_goals try (go_ret; exact ⟨_, _, _, rfl, by have := H18.out; omega, L6, Fr.more HF (by omega)⟩)
 replace HV := HV.mv (Mv.drew (g := g))
 replace L6 := L6.mv (Mv.drew (g := g))
 replace HF := HF.drew
 obtain ⟨x0, x1, x2, C0, C1, C2⟩ := HV.t.ce51 HF.st r25 r250 r251
 have px25 := eq_true r250
 have qx25 := eq_true r251
 refine start_ (n := 15) (S := fun w' => w'.cell? (ad.add (r25.toNat * 3)) = some (.int .i64 x0) ∧ w'.cell? ⟨(ad.add (r25.toNat * 3)).block, (ad.add (r25.toNat * 3)).off + 1, none⟩ = some (.int .i64 x1) ∧ w'.cell? ⟨(ad.add (r25.toNat * 3)).block, (ad.add (r25.toNat * 3)).off + 2, none⟩ = some (.int .i64 x2)) (ds := []) (ms 15 0) (by kernel_rfl) rfl rfl ⟨C0.c, C1.c, C2.c⟩ (fun hHeld => ?_)
 refine pure_ (i := 0) (N := some 26) (v := ?_) (a' := ?_) (ms 15 1) rfl rfl (by kernel_rfl) (fun _ _ _ h => h) (Or.inl ⟨by rfl, ?_⟩) ?_ ?_
 rotate_left
 ·intro w'
  go_simp
  with_reducible rfl
 rotate_left
 ·simp only [Act.put, List.setIfInBounds_toArray, List.set_cons_zero, List.set_cons_succ, i64_w]
  rfl
 refine pure_ (i := 3) (N := some 29) (v := ?_) (a' := ?_) (ms 15 9) rfl rfl (by kernel_rfl) (fun _ _ _ h => h) (Or.inl ⟨by rfl, ?_⟩) ?_ ?_
 rotate_left
 ·intro w'
  go_simp
  with_reducible rfl
 rotate_left
 ·simp only [Act.put, List.setIfInBounds_toArray, List.set_cons_zero, List.set_cons_succ, i64_w]
  rfl
 refine pure_ (i := 4) (N := some 30) (v := ?_) (a' := ?_) (ms 15 25) rfl rfl (by kernel_rfl) (fun _ _ _ h => h) (Or.inl ⟨by rfl, ?_⟩) ?_ ?_
 rotate_left
 ·intro w'
  go_simp
  with_reducible rfl
 rotate_left
 ·simp only [Act.put, List.setIfInBounds_toArray, List.set_cons_zero, List.set_cons_succ, i64_w]
  rfl
 refine pure_ (i := 5) (N := some 31) (v := ?_) (a' := ?_) (ms 15 57) rfl rfl (by kernel_rfl) (fun _ _ _ h => h) (Or.inl ⟨by rfl, ?_⟩) ?_ ?_
 rotate_left
 ·intro w'
  go_simp
  with_reducible rfl
 rotate_left
 ·simp only [Act.put, List.setIfInBounds_toArray, List.set_cons_zero, List.set_cons_succ, i64_w]
  rfl
 refine pure_ (i := 6) (N := some 32) (v := ?_) (a' := ?_) (ms 15 121) rfl rfl (by kernel_rfl) (fun _ _ _ h => h) (Or.inl ⟨by rfl, ?_⟩) ?_ ?_
 rotate_left
 ·intro w'
  go_simp
  with_reducible rfl
 rotate_left
 ·simp only [Act.put, List.setIfInBounds_toArray, List.set_cons_zero, List.set_cons_succ, i64_w]
  rfl
 refine pure_ (i := 7) (N := some 33) (v := ?_) (a' := ?_) (ms 15 249) rfl rfl (by kernel_rfl) (fun _ _ _ h => h) (Or.inl ⟨by rfl, ?_⟩) ?_ ?_
 rotate_left
 ·intro w'
  go_simp
  with_reducible rfl
 rotate_left
 ·simp only [Act.put, List.setIfInBounds_toArray, List.set_cons_zero, List.set_cons_succ, i64_w]
  rfl
 refine pure_ (i := 9) (N := some 35) (v := ?_) (a' := ?_) (ms 15 761) rfl rfl (by kernel_rfl) (fun _ _ _ h => h) (Or.inl ⟨by rfl, ?_⟩) ?_ ?_
 rotate_left
 ·intro w'
  go_simp
  with_reducible rfl
 rotate_left
 ·simp only [Act.put, List.setIfInBounds_toArray, List.set_cons_zero, List.set_cons_succ, i64_w]
  rfl
 refine pure_ (i := 11) (N := some 37) (v := ?_) (a' := ?_) (ms 15 2809) rfl rfl (by kernel_rfl) (fun _ _ _ h => h) (Or.inl ⟨by rfl, ?_⟩) ?_ ?_
 rotate_left
 ·intro w'
  go_simp
  with_reducible rfl
 rotate_left
 ·simp only [Act.put, List.setIfInBounds_toArray, List.set_cons_zero, List.set_cons_succ, i64_w]
  rfl
 refine pure_ (i := 12) (N := some 38) (v := ?_) (a' := ?_) (ms 15 6905) rfl rfl (by kernel_rfl) (fun _ _ _ h => h) (Or.inl ⟨by rfl, ?_⟩) ?_ ?_
 rotate_left
 ·intro w'
  go_simp
  with_reducible rfl
 rotate_left
 ·simp only [Act.put, List.setIfInBounds_toArray, List.set_cons_zero, List.set_cons_succ, i64_w]
  rfl
 refine take_ (i := 8) (N := some 34) (v := ?_) (a' := ?_) (ms 15 7161) rfl rfl (by kernel_rfl) (fun _ _ _ h => h) (Or.inl ⟨by rfl, ?_⟩) hHeld ?_ ?_
 rotate_left
 ·rintro w' ⟨s0, s1, s2⟩
  go_simp
  with_reducible rfl
 rotate_left
 ·simp only [Act.put, List.setIfInBounds_toArray, List.set_cons_zero, List.set_cons_succ, i64_w]
  rfl
 refine one_ (i := 1) (N := some 27) (ms 15 7163) rfl rfl (by kernel_rfl) (by decide) (fun K hK => ?_)
 refine new_block_step (q := q) HF ?hw (N := 27) ?hd (v := fun gb => .slice (some ⟨gb, 0, none⟩) 3 3) (cs := #[.int .i64 8, .int .i64 9, .int .i64 8]) (t := 3) ?hr ?_
 case hd => rfl
 case hw => rfl
 case hr => first | (go_simp; done) | (go_simp; rfl)
 intro gb27 w27 hb hf hm hge
 replace HF := hf
 replace HV := HV.mv hm
 replace L6 := L6.mv hm
 replace C0 := C0.mv hm (by decide)
 replace C1 := C1.mv hm (by decide)
 replace C2 := C2.mv hm (by decide)
 have B27 := hb
 clear hb hf hm hge
 refine hK.out _ _ ⟨C0.c, C1.c, C2.c⟩ (fun hHeld => ?_)
 clear hK K
 refine norm_ (a' := ?_) ?_ ?_
 rotate_left
 ·show Act.put _ (some 27) _ = _
  simp only [Act.put, List.setIfInBounds_toArray, List.set_cons_zero, List.set_cons_succ, i64_w]
  rfl
 refine one_ (i := 2) (N := some 28) (ms 15 7167) rfl rfl (by kernel_rfl) (by decide) (fun K hK => ?_)
 refine goes_ Try.func26 (by kernel_rfl) rfl #[.pointer (some ⟨g, 0, none⟩), .slice (some ⟨gb27, 0, none⟩) 3 3] (by rfl) rfl rfl (by simp only [List.map_toArray, List.map_cons, List.map_nil]; rfl) ?_
 with_reducible refine (numT q [8, 9, 8] 3 rfl HF (by have := HP.out; omega) (by decide) (by decide) B27).mono ?_
 rintro e w28 ⟨r28, rfl, hr28, hf, hm⟩
 refine ⟨_, rfl, ?_⟩
 replace HF := hf
 replace HV := HV.mv hm
 replace L6 := L6.mv hm
 replace C0 := C0.mv hm (by decide)
 replace C1 := C1.mv hm (by decide)
 replace C2 := C2.mv hm (by decide)
 clear B27 hr28
 clear hf hm
 refine hK.out _ _ ⟨C0.c, C1.c, C2.c⟩ (fun hHeld => ?_)
 clear hK K
 refine norm_ (a' := ?_) ?_ ?_
 rotate_left
 ·show Act.put _ (some 28) _ = _
  simp only [Act.put, List.setIfInBounds_toArray, List.set_cons_zero, List.set_cons_succ, i64_w]
  rfl
 refine one_ (i := 10) (N := some 36) (ms 15 8191) rfl rfl (by kernel_rfl) (by decide) (fun K hK => ?_)
 refine goes_ Try.func43 (by kernel_rfl) rfl #[.pointer (some ⟨g, 0, none⟩), .agg #[.int .i64 x0, .int .i64 x1, .int .i64 x2], .int .i64 r25] (by rfl) rfl rfl (by simp only [List.map_toArray, List.map_cons, List.map_nil]; rfl) ?_
 with_reducible refine (condT q _ _ _ _ HF (by have := HP.out; omega)).mono ?_
 rintro e w36 ⟨A36, n36, c36, rfl, h36, hl, hf, hm⟩
 refine ⟨_, rfl, ?_⟩
 replace HF := hf
 replace HV := HV.mv hm
 replace L6 := L6.mv hm
 replace C0 := C0.mv hm (by decide)
 replace C1 := C1.mv hm (by decide)
 replace C2 := C2.mv hm (by decide)
 have L36 := hl
 clear hl
 clear hf hm
 refine hK.out _ _ ⟨C0.c, C1.c, C2.c⟩ (fun hHeld => ?_)
 clear hK K
 refine norm_ (a' := ?_) ?_ ?_
 rotate_left
 ·show Act.put _ (some 36) _ = _
  simp only [Act.put, List.setIfInBounds_toArray, List.set_cons_zero, List.set_cons_succ, i64_w]
  rfl
 refine one_ (i := 13) (N := some 39) (ms 15 16383) rfl rfl (by kernel_rfl) (by decide) (fun K hK => ?_)
 refine goes_ Try.func44 (by kernel_rfl) rfl #[.int .i64 r28, .slice A18 n18 c18, .slice A36 n36 c36, .int .i64 n0] (by rfl) rfl rfl (by simp only [List.map_toArray, List.map_cons, List.map_nil]; rfl) ?_
 with_reducible refine (joinT' q _ _ HF L6.t L36.t (by have := H18.out; omega) (by omega)).mono ?_
 rintro e w39 ⟨A39, n39, c39, rfl, h39, hl, hf, hm⟩
 refine ⟨_, rfl, ?_⟩
 replace HF := hf
 replace HV := HV.mv hm
 replace L6 := L6.mv hm
 replace L36 := L36.mv hm
 replace C0 := C0.mv hm (by decide)
 replace C1 := C1.mv hm (by decide)
 replace C2 := C2.mv hm (by decide)
 have L39 := hl
 clear hl
 clear hf hm
 refine hK.out _ _ ⟨C0.c, C1.c, C2.c⟩ (fun hHeld => ?_)
 clear hK K
 refine norm_ (a' := ?_) ?_ ?_
 rotate_left
 ·show Act.put _ (some 39) _ = _
  simp only [Act.put, List.setIfInBounds_toArray, List.set_cons_zero, List.set_cons_succ, i64_w]
  rfl
 refine pure_ (i := 14) (N := some 6) (v := ?_) (a' := ?_) (ms 15 32767) rfl rfl (by kernel_rfl) (fun _ _ _ h => h) (Or.inl ⟨by rfl, ?_⟩) ?_ ?_
 rotate_left
 ·intro w'
  go_simp
  with_reducible rfl
 rotate_left
 ·simp only [Act.put, List.setIfInBounds_toArray, List.set_cons_zero, List.set_cons_succ, i64_w]
  rfl
 refine done_ (by kernel_rfl) ?_
 go_wp2_with (fail)
 go_ret
 exact ⟨_, _, _, rfl, h39, L39, Fr.more HF (by omega)⟩
end Go.Proofs.Ytnidjlhbejifoaa.XFnSameRun
