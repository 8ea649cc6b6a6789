/- spec.l2Value over rows told by type.
Conditions: each theorem's own. -/
import Derived.WalkMore
import Derived.Test.YtnidjlhbejifoaaRTerms
namespace Go.Proofs.Ytnidjlhbejifoaa.XFnSameRun
open Go.RowKit Go.Proofs.YtnidjlhbejifoaaW.PrintWords Go.Proofs.YtnidjlhbejifoaaW.PrintLast Go.Proofs.YtnidjlhbejifoaaW.PrintMore Go.Proofs.YtnidjlhbejifoaaX Ty
attribute [local go_sem] max2_int max_two
set_option linter.unusedVariables false
set_option linter.unusedSimpArgs false
set_option maxHeartbeats 8000000 in
set_option maxRecDepth 100000 in
theorem l2Value.rel {q : Nat → Prop} {w0 w : World} {g : Nat} {P : Int} (A0 : Option Addr) (n0 c0 : Nat) (a : Int) (hS : St w0 w g P) (hP : P ≤ 800000) (hV : T q w0.heap.size 51 w A0 n0 c0) (h0 : 0 ≤ a) (h1 : a < n0) (hn : n0 ≤ 5) :
  Calls Try.prog 38 #[.pointer (some ⟨g, 0, none⟩), .slice A0 n0 c0, .int .i64 a] w fun e w' => ∃ A n c, e = .returned (.slice A n c) ∧ n ≤ 10 ∧ Lc q w0 w 54 w' A n c ∧ Fr w0 w w' g (P + 70) := by
 have hu28 := Try.underlying28
 have hu56 := Try.underlying56
 have hu54 := Try.underlying54
 have hu51 := Try.underlying51
 have hu32 := Try.underlying32
 have HF := Fr.start hS
 have HV : Rw q w0 51 w A0 n0 c0 := ⟨hV, TE51⟩
 have HP := Aside0.mk hP
 obtain ⟨ad, rfl⟩ := HV.t.some_ (by omega)
 have HX := Aside0.mk (And.intro h0 (And.intro h1 hn))
 have px := eq_true h0
 have qx := eq_true h1
 clear hS hV hP hn h0 h1
 go_enter Try.func38, Try.ntmps38
 go_wp2_with (first | (go_at_call 11; (with_reducible refine (pickT q _ HF (by have := HP.out; omega)).mono ?_); rintro e w_ ⟨r9, rfl, hr0, hr1, hf, hm⟩; replace HF := hf; replace HV := HV.mv hm; clear hr0 hr1; clear hf hm) | (go_at_call 45; (with_reducible refine (varT q _ HF).mono ?_); rintro e w_ ⟨rfl, hf, hm⟩; replace HF := hf; replace HV := HV.mv hm; clear hf hm) | (go_at_call 27; (with_reducible refine (constT q _ HF).mono ?_); rintro e w_ ⟨rfl, hf, hm⟩; replace HF := hf; replace HV := HV.mv hm; clear hf hm) | ((with_reducible refine gate_dst (N := 16) rfl ?_); (try (refine gate_guard (by rfl) ?_; dsimp only)); refine new_block (q := q) HF ?hg (N := 16) ?hd (v := fun gb => .slice (some ⟨gb, 0, none⟩) 2 2) (cs := #[.int .i64 2, .int .i64 3]) (t := 3) ?hr ?_; (case hd => rfl); (case hg => rfl); (case hr => first | (go_simp; done) | (go_simp; rfl)); intro gb16 w16 hb hf hm hge; replace HF := hf; replace HV := HV.mv hm; have B16 := hb; clear hb hf hm hge) | (go_at_call 26; (with_reducible refine (numT q [2, 3] 2 rfl HF (by have := HP.out; omega) (by decide) (by decide) B16).mono ?_); rintro e w_ ⟨r17, rfl, hr17, hf, hm⟩; replace HF := hf; replace HV := HV.mv hm; clear B16; clear hr17; clear hf hm) | ((with_reducible refine gate_dst (N := 19) rfl ?_); (try (refine gate_guard (by rfl) ?_; dsimp only)); refine new_block (q := q) HF ?hg (N := 19) ?hd (v := fun gb => .slice (some ⟨gb, 0, none⟩) 3 3) (cs := #[.int .i64 1, .int .i64 a, .int .i64 0, .int .i64 0, .int .i64 0, .int .i64 1, .int .i64 0, .int .i64 0, .int .i64 r17, .int .i64 0, .int .i64 0, .int .i64 1]) (t := 54) ?hr ?_; (case hd => rfl); (case hg => rfl); (case hr => first | (go_simp; done) | (go_simp; rfl)); intro gb19 w19 hb hf hm hge; replace HF := hf; replace HV := HV.mv hm; have LR := Lc.lit (q := q) (k := 3) HF hb (by unfold TE; omega) rfl (by omega) (fun j u h => TC.allI (by omega) (by simp [isI]) h); clear hb hf hm hge) | ((with_reducible refine gate_dst (N := 51) rfl ?_); (try (refine gate_guard (by rfl) ?_; dsimp only)); refine new_block (q := q) HF ?hg (N := 51) ?hd (v := fun gb => .slice (some ⟨gb, 0, none⟩) 1 1) (cs := #[.int .i64 1, .int .i64 r9, .int .i64 0, .int .i64 0]) (t := 54) ?hr ?_; (case hd => rfl); (case hg => rfl); (case hr => first | (go_simp; done) | (go_simp; rfl)); intro gb51 w51 hb hf hm hge; replace HF := hf; replace HV := HV.mv hm; have LR := Lc.lit (q := q) (k := 1) HF hb (by unfold TE; omega) rfl (by omega) (fun j u h => TC.allI (by omega) (by simp [isI]) h); clear hb hf hm hge) | (go_at_call 46; (with_reducible refine (l1Terms.rel (q := q) _ HF.st (by have := HP.out; omega) (by omega)).mono ?_); rintro e w_ ⟨A55, n55, c55, rfl, h55, hl, hf1⟩; obtain ⟨hf, hm⟩ := HF.via (q := q) hf1; have LR := Lc.base hl HF; replace HF := hf; replace HV := HV.mv hm; clear hf1 hl; clear hf hm))
 all_goals try (go_ret; exact ⟨_, _, _, rfl, by omega, LR, Fr.more HF (by omega)⟩)
 replace HV := HV.mv (Mv.drew (g := g))
 replace HF := HF.drew
 obtain ⟨x0, x1, x2, C0, C1, C2⟩ := HV.t.ce51 HF.st a HX.out.1 HX.out.2.1
 refine start_ (n := 23) (S := fun w' => w'.cell? (ad.add (a.toNat * 3)) = some (.int .i64 x0) ∧ w'.cell? ⟨(ad.add (a.toNat * 3)).block, (ad.add (a.toNat * 3)).off + 1, none⟩ = some (.int .i64 x1)) (ds := []) (ms 23 0) (by kernel_rfl) rfl rfl ⟨C0.c, C1.c⟩ (fun hHeld => ?_)
 refine pure_ (i := 0) (N := some 22) (v := ?_) (a' := ?_) (ms 23 1) rfl rfl (by kernel_rfl) (fun _ _ _ h => h) (Or.inl ⟨by rfl, ?_⟩) ?_ ?_
 rotate_left
 ·intro w'
  go_simp
  with_reducible rfl
 rotate_left
 ·simp only [Act.put, List.setIfInBounds_toArray, List.set_cons_zero, List.set_cons_succ, i64_w]
  rfl
 refine pure_ (i := 1) (N := some 23) (v := ?_) (a' := ?_) (ms 23 3) rfl rfl (by kernel_rfl) (fun _ _ _ h => h) (Or.inl ⟨by rfl, ?_⟩) ?_ ?_
 rotate_left
 ·intro w'
  go_simp
  with_reducible rfl
 rotate_left
 ·simp only [Act.put, List.setIfInBounds_toArray, List.set_cons_zero, List.set_cons_succ, i64_w]
  rfl
 refine pure_ (i := 2) (N := some 24) (v := ?_) (a' := ?_) (ms 23 7) rfl rfl (by kernel_rfl) (fun _ _ _ h => h) (Or.inl ⟨by rfl, ?_⟩) ?_ ?_
 rotate_left
 ·intro w'
  go_simp
  with_reducible rfl
 rotate_left
 ·simp only [Act.put, List.setIfInBounds_toArray, List.set_cons_zero, List.set_cons_succ, i64_w]
  rfl
 refine pure_ (i := 3) (N := some 25) (v := ?_) (a' := ?_) (ms 23 15) rfl rfl (by kernel_rfl) (fun _ _ _ h => h) (Or.inl ⟨by rfl, ?_⟩) ?_ ?_
 rotate_left
 ·intro w'
  go_simp
  with_reducible rfl
 rotate_left
 ·simp only [Act.put, List.setIfInBounds_toArray, List.set_cons_zero, List.set_cons_succ, i64_w]
  rfl
 refine pure_ (i := 5) (N := some 27) (v := ?_) (a' := ?_) (ms 23 47) rfl rfl (by kernel_rfl) (fun _ _ _ h => h) (Or.inl ⟨by rfl, ?_⟩) ?_ ?_
 rotate_left
 ·intro w'
  go_simp
  with_reducible rfl
 rotate_left
 ·simp only [Act.put, List.setIfInBounds_toArray, List.set_cons_zero, List.set_cons_succ, i64_w]
  rfl
 refine pure_ (i := 6) (N := some 28) (v := ?_) (a' := ?_) (ms 23 111) rfl rfl (by kernel_rfl) (fun _ _ _ h => h) (Or.inl ⟨by rfl, ?_⟩) ?_ ?_
 rotate_left
 ·intro w'
  go_simp
  with_reducible rfl
 rotate_left
 ·simp only [Act.put, List.setIfInBounds_toArray, List.set_cons_zero, List.set_cons_succ, i64_w]
  rfl
 refine pure_ (i := 7) (N := some 29) (v := ?_) (a' := ?_) (ms 23 239) rfl rfl (by kernel_rfl) (fun _ _ _ h => h) (Or.inl ⟨by rfl, ?_⟩) ?_ ?_
 rotate_left
 ·intro w'
  go_simp
  with_reducible rfl
 rotate_left
 ·simp only [Act.put, List.setIfInBounds_toArray, List.set_cons_zero, List.set_cons_succ, i64_w]
  rfl
 refine pure_ (i := 8) (N := some 30) (v := ?_) (a' := ?_) (ms 23 495) rfl rfl (by kernel_rfl) (fun _ _ _ h => h) (Or.inl ⟨by rfl, ?_⟩) ?_ ?_
 rotate_left
 ·intro w'
  go_simp
  with_reducible rfl
 rotate_left
 ·simp only [Act.put, List.setIfInBounds_toArray, List.set_cons_zero, List.set_cons_succ, i64_w]
  rfl
 refine pure_ (i := 9) (N := some 31) (v := ?_) (a' := ?_) (ms 23 1007) rfl rfl (by kernel_rfl) (fun _ _ _ h => h) (Or.inl ⟨by rfl, ?_⟩) ?_ ?_
 rotate_left
 ·intro w'
  go_simp
  with_reducible rfl
 rotate_left
 ·simp only [Act.put, List.setIfInBounds_toArray, List.set_cons_zero, List.set_cons_succ, i64_w]
  rfl
 refine pure_ (i := 11) (N := some 33) (v := ?_) (a' := ?_) (ms 23 3055) rfl rfl (by kernel_rfl) (fun _ _ _ h => h) (Or.inl ⟨by rfl, ?_⟩) ?_ ?_
 rotate_left
 ·intro w'
  go_simp
  with_reducible rfl
 rotate_left
 ·simp only [Act.put, List.setIfInBounds_toArray, List.set_cons_zero, List.set_cons_succ, i64_w]
  rfl
 refine pure_ (i := 12) (N := some 34) (v := ?_) (a' := ?_) (ms 23 7151) rfl rfl (by kernel_rfl) (fun _ _ _ h => h) (Or.inl ⟨by rfl, ?_⟩) ?_ ?_
 rotate_left
 ·intro w'
  go_simp
  with_reducible rfl
 rotate_left
 ·simp only [Act.put, List.setIfInBounds_toArray, List.set_cons_zero, List.set_cons_succ, i64_w]
  rfl
 refine pure_ (i := 13) (N := some 35) (v := ?_) (a' := ?_) (ms 23 15343) rfl rfl (by kernel_rfl) (fun _ _ _ h => h) (Or.inl ⟨by rfl, ?_⟩) ?_ ?_
 rotate_left
 ·intro w'
  go_simp
  with_reducible rfl
 rotate_left
 ·simp only [Act.put, List.setIfInBounds_toArray, List.set_cons_zero, List.set_cons_succ, i64_w]
  rfl
 refine pure_ (i := 14) (N := some 36) (v := ?_) (a' := ?_) (ms 23 31727) rfl rfl (by kernel_rfl) (fun _ _ _ h => h) (Or.inl ⟨by rfl, ?_⟩) ?_ ?_
 rotate_left
 ·intro w'
  go_simp
  with_reducible rfl
 rotate_left
 ·simp only [Act.put, List.setIfInBounds_toArray, List.set_cons_zero, List.set_cons_succ, i64_w]
  rfl
 refine take_ (i := 4) (N := some 26) (v := ?_) (a' := ?_) (ms 23 31743) rfl rfl (by kernel_rfl) (fun _ _ _ h => h) (Or.inl ⟨by rfl, ?_⟩) hHeld ?_ ?_
 rotate_left
 ·rintro w' ⟨s0, s1⟩
  go_simp
  with_reducible rfl
 rotate_left
 ·simp only [Act.put, List.setIfInBounds_toArray, List.set_cons_zero, List.set_cons_succ, i64_w]
  rfl
 refine take_ (i := 10) (N := some 32) (v := ?_) (a' := ?_) (ms 23 32767) rfl rfl (by kernel_rfl) (fun _ _ _ h => h) (Or.inl ⟨by rfl, ?_⟩) hHeld ?_ ?_
 rotate_left
 ·rintro w' ⟨s0, s1⟩
  go_simp
  with_reducible rfl
 rotate_left
 ·simp only [Act.put, List.setIfInBounds_toArray, List.set_cons_zero, List.set_cons_succ, i64_w]
  rfl
 refine take_ (i := 15) (N := some 37) (v := ?_) (a' := ?_) (ms 23 65535) rfl rfl (by kernel_rfl) (fun _ _ _ h => h) (Or.inl ⟨by rfl, ?_⟩) hHeld ?_ ?_
 rotate_left
 ·rintro w' ⟨s0, s1⟩
  go_simp
  with_reducible rfl
 rotate_left
 ·simp only [Act.put, List.setIfInBounds_toArray, List.set_cons_zero, List.set_cons_succ, i64_w]
  rfl
 refine pure_ (i := 16) (N := some 38) (v := ?_) (a' := ?_) (ms 23 131071) rfl rfl (by kernel_rfl) (fun _ _ _ h => h) (Or.inl ⟨by rfl, ?_⟩) ?_ ?_
 rotate_left
 ·intro w'
  go_simp
  with_reducible rfl
 rotate_left
 ·simp only [Act.put, List.setIfInBounds_toArray, List.set_cons_zero, List.set_cons_succ, i64_w]
  rfl
 refine pure_ (i := 17) (N := some 39) (v := ?_) (a' := ?_) (ms 23 262143) rfl rfl (by kernel_rfl) (fun _ _ _ h => h) (Or.inl ⟨by rfl, ?_⟩) ?_ ?_
 rotate_left
 ·intro w'
  go_simp
  with_reducible rfl
 rotate_left
 ·simp only [Act.put, List.setIfInBounds_toArray, List.set_cons_zero, List.set_cons_succ, i64_w]
  rfl
 refine one_ (i := 18) (N := some 40) (ms 23 524287) rfl rfl (by kernel_rfl) (by decide) (fun K hK => ?_)
 refine goes_ Try.func11 (by kernel_rfl) rfl #[.pointer (some ⟨g, 0, none⟩), .int .i64 (wrap64 (wrap64 (x1 - x0) + 1))] (by rfl) rfl rfl (by simp only [List.map_toArray, List.map_cons, List.map_nil]; rfl) ?_
 with_reducible refine (pickT q _ HF (by have := HP.out; omega)).mono ?_
 rintro e w40 ⟨r40, rfl, hr0, hr1, hf, hm⟩
 refine ⟨_, rfl, ?_⟩
 replace HF := hf
 replace HV := HV.mv hm
 replace C0 := C0.mv hm (by decide)
 replace C1 := C1.mv hm (by decide)
 clear hr0 hr1
 clear hf hm
 refine hK.out _ _ ⟨C0.c, C1.c⟩ (fun hHeld => ?_)
 clear hK K
 refine norm_ (a' := ?_) ?_ ?_
 rotate_left
 ·show Act.put _ (some 40) _ = _
  simp only [Act.put, List.setIfInBounds_toArray, List.set_cons_zero, List.set_cons_succ, i64_w]
  rfl
 refine pure_ (i := 19) (N := some 41) (v := ?_) (a' := ?_) (ms 23 1048575) rfl rfl (by kernel_rfl) (fun _ _ _ h => h) (Or.inl ⟨by rfl, ?_⟩) ?_ ?_
 rotate_left
 ·intro w'
  go_simp
  with_reducible rfl
 rotate_left
 ·simp only [Act.put, List.setIfInBounds_toArray, List.set_cons_zero, List.set_cons_succ, i64_w]
  rfl
 refine one_ (i := 20) (N := some 42) (ms 23 2097151) rfl rfl (by kernel_rfl) (by decide) (fun K hK => ?_)
 refine goes_ Try.func27 (by kernel_rfl) rfl #[.int .i64 (wrap64 (x0 + r40))] (by rfl) rfl rfl (by simp only [List.map_toArray, List.map_cons, List.map_nil]; rfl) ?_
 with_reducible refine (constT q _ HF).mono ?_
 rintro e w42 ⟨rfl, hf, hm⟩
 refine ⟨_, rfl, ?_⟩
 replace HF := hf
 replace HV := HV.mv hm
 replace C0 := C0.mv hm (by decide)
 replace C1 := C1.mv hm (by decide)
 clear hf hm
 refine hK.out _ _ ⟨C0.c, C1.c⟩ (fun hHeld => ?_)
 clear hK K
 refine norm_ (a' := ?_) ?_ ?_
 rotate_left
 ·show Act.put _ (some 42) _ = _
  simp only [Act.put, List.setIfInBounds_toArray, List.set_cons_zero, List.set_cons_succ, i64_w]
  rfl
 refine one_ (i := 21) (N := some 43) (ms 23 4194303) rfl rfl (by kernel_rfl) (by decide) (fun K hK => ?_)
 refine new_block_step (q := q) HF ?hw (N := 43) ?hd (v := fun gb => .slice (some ⟨gb, 0, none⟩) 1 1) (cs := #[.int .i64 0, .int .i64 (wrap64 (x0 + r40)), .int .i64 0, .int .i64 0]) (t := 54) ?hr ?_
 case hd => rfl
 case hw => rfl
 case hr => first | (go_simp; done) | (go_simp; rfl)
 intro gb43 w43 hb hf hm hge
 replace HF := hf
 replace HV := HV.mv hm
 replace C0 := C0.mv hm (by decide)
 replace C1 := C1.mv hm (by decide)
 have B43 := hb
 clear hb hf hm hge
 refine hK.out _ _ ⟨C0.c, C1.c⟩ (fun hHeld => ?_)
 clear hK K
 refine norm_ (a' := ?_) ?_ ?_
 rotate_left
 ·show Act.put _ (some 43) _ = _
  simp only [Act.put, List.setIfInBounds_toArray, List.set_cons_zero, List.set_cons_succ, i64_w]
  rfl
 refine pure_ (i := 22) (N := some 6) (v := ?_) (a' := ?_) (ms 23 8388607) rfl rfl (by kernel_rfl) (fun _ _ _ h => h) (Or.inl ⟨by rfl, ?_⟩) ?_ ?_
 rotate_left
 ·intro w'
  go_simp
  with_reducible rfl
 rotate_left
 ·simp only [Act.put, List.setIfInBounds_toArray, List.set_cons_zero, List.set_cons_succ, i64_w]
  rfl
 refine done_ (by kernel_rfl) ?_
 have LR := Lc.lit (q := q) (k := 1) HF B43 TE54 rfl (by omega) (fun j u h => TC.allI (by omega) (by simp [isI]) h)
 go_wp2_with (fail)
 go_ret
 exact ⟨_, _, _, rfl, by omega, LR, Fr.more HF (by omega)⟩
end Go.Proofs.Ytnidjlhbejifoaa.XFnSameRun
