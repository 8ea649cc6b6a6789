/- spec.l2Some over rows told by type.
Conditions: each theorem's own. -/
import Derived.WalkMore
import Derived.Test.YtnidjlhbejifoaaRTyD
namespace Go.Proofs.Ytnidjlhbejifoaa.XFnSameRun
open Go.RowKit Go.Proofs.YtnidjlhbejifoaaW.PrintWords Go.Proofs.YtnidjlhbejifoaaW.PrintLast Go.Proofs.YtnidjlhbejifoaaW.PrintMore Go.Proofs.YtnidjlhbejifoaaX Ty
attribute [local go_sem] max2_int max_two
set_option linter.unusedVariables false
set_option linter.unusedSimpArgs false
set_option maxHeartbeats 8000000 in
set_option maxRecDepth 100000 in
theorem l2Some.rel {q : Nat → Prop} {w0 w : World} {g : Nat} {P : Int} (A0 : Option Addr) (n0 c0 : Nat) (A1 : Option Addr) (n1 c1 : Nat) (hS : St w0 w g P) (hP : P ≤ 800000) (hV : T q w0.heap.size 51 w A0 n0 c0) (hn : n0 ≤ 5) :
  Calls Try.prog 12 #[.pointer (some ⟨g, 0, none⟩), .agg #[.slice A0 n0 c0, .slice A1 n1 c1]] w fun e w' => ∃ A n c, e = .returned (.slice A n c) ∧ n ≤ 6 ∧ Lc q w0 w 3 w' A n c ∧ Fr w0 w w' g (P + 10) := by
 have hu35 := Try.underlying35
 have hu51 := Try.underlying51
 have hu32 := Try.underlying32
 have hu28 := Try.underlying28
 have HF := Fr.start hS
 have HV : Rw q w0 51 w A0 n0 c0 := ⟨hV, TE51⟩
 have HP := Aside0.mk hP
 have HN := Aside0.mk hn
 clear hS hV hP hn
 go_enter Try.func12, Try.ntmps12
 go_wp2_with (first | ((with_reducible refine gate_dst (N := 3) rfl ?_); (try (refine gate_guard (by rfl) ?_; dsimp only)); refine new_block (q := q) HF ?hg (N := 3) ?hd (v := fun gb => .pointer (some ⟨gb, 0, none⟩)) (cs := #[.slice A0 n0 c0, .slice A1 n1 c1]) (t := 35) ?hr ?_; (case hd => rfl); (case hg => rfl); (case hr => first | (go_simp; done) | (go_simp; rfl)); intro gb3 w3 hb hf hm hge; replace HF := hf; replace HV := HV.mv hm; (try replace L5 := L5.mv hm); (try replace B3 := B3.mv hm (by decide)); have B3 := hb; clear hb hf hm hge) | ((with_reducible refine gate_dst (N := 9) rfl ?_); (try (refine gate_guard (by rfl) ?_; dsimp only)); refine new_block (q := q) HF ?hg (N := 9) ?hd (v := fun gb => .slice (some ⟨gb, 0, none⟩) 0 0) (cs := #[]) (t := 3) ?hr ?_; (case hd => rfl); (case hg => rfl); (case hr => first | (go_simp; done) | (go_simp; rfl)); intro gb9 w9 hb hf hm hge; replace HF := hf; replace HV := HV.mv hm; (try replace L5 := L5.mv hm); (try replace B3 := B3.mv hm (by decide)); have L5 := Lc.lit (q := q) (k := 0) HF hb (by unfold TE; omega) rfl (by omega) (fun j u h => by simp at h); clear hb hf hm hge))
 go_loopg [5, 6] (n0 + 1) (fun kq v5 v6 wr => ∃ (A : Option Addr) (n c : Nat), v5 = .slice A n c ∧ v6 = .int .i64 n ∧ Lc q w0 w 3 wr A n c ∧ Bk w g 35 wr gb3 #[.slice A0 n0 c0, .slice A1 n1 c1] ∧ Rw q w0 51 wr A0 n0 c0 ∧ Fr w0 w wr g (P + n) ∧ Aside0 (n ≤ n0 ∧ n0 < n + kq))
 case atStart => exact ⟨_, _, _, rfl, rfl, L5, B3, HV, Fr.more HF (by omega), ⟨by omega, by omega⟩⟩
 case round =>
  clear L5 HF B3 HV
  obtain ⟨A, n, c, rfl, rfl, L5, B3, HV, HF, HX⟩ := hrel
  by_cases hc : n < n0
  ·skip
   have cb0 : decide (n < n0) = true := decide_eq_true hc
   have cb1 : decide ((n : Int) < (n0 : Int)) = true := decide_eq_true (by omega)
   have px : ((0 : Int) ≤ (n : Int)) = True := eq_true (by omega)
   have qx : ((n : Int) < (n0 : Int)) = True := eq_true (by omega)
   have qy : (n < n0) = True := eq_true hc
   obtain ⟨ad, rfl⟩ := HV.t.some_ (by omega)
   have hcz0 := (B3.cell 0).trans (show _ = some (.slice (some ad) n0 c0) from rfl)
   go_wp2_with (fail)
   clear hcz0
   replace HV := HV.mv (Mv.drew (g := g))
   replace L5 := L5.mv (Mv.drew (g := g))
   replace B3 := B3.mv (Mv.drew (q := q) (w0 := w0)) (by decide)
   replace HF := HF.drew
   obtain ⟨x0, x1, x2, C0, C1, C2⟩ := HV.t.ce51 HF.st (n : Int) (by omega) (by omega)
   clear C2
   rw [Int.toNat_natCast] at C0 C1
   refine start_ (n := 15) (S := fun w' => w'.cell? ⟨gb3, 0, none⟩ = some (.slice (some ad) n0 c0) ∧ w'.cell? (ad.add (n * 3)) = some (.int .i64 x0) ∧ w'.cell? ⟨(ad.add (n * 3)).block, (ad.add (n * 3)).off + 1, none⟩ = some (.int .i64 x1)) (ds := []) (ms 15 0) (by kernel_rfl) rfl rfl ⟨(B3.cell 0).trans rfl, C0.c, C1.c⟩ (fun hHeld => ?_)
   refine pure_ (i := 0) (N := some 17) (v := ?_) (a' := ?_) (ms 15 1) rfl rfl (by kernel_rfl) (fun _ _ _ h => h) (Or.inl ⟨by rfl, ?_⟩) ?_ ?_
   rotate_left
   ·intro w'
    go_simp
    with_reducible rfl
   rotate_left
   ·simp only [Act.put, List.setIfInBounds_toArray, List.set_cons_zero, List.set_cons_succ, i64_w]
    rfl
   refine pure_ (i := 2) (N := some 19) (v := ?_) (a' := ?_) (ms 15 5) rfl rfl (by kernel_rfl) (fun _ _ _ h => h) (Or.inl ⟨by rfl, ?_⟩) ?_ ?_
   rotate_left
   ·intro w'
    go_simp
    with_reducible rfl
   rotate_left
   ·simp only [Act.put, List.setIfInBounds_toArray, List.set_cons_zero, List.set_cons_succ, i64_w]
    rfl
   refine pure_ (i := 6) (N := some 23) (v := ?_) (a' := ?_) (ms 15 69) rfl rfl (by kernel_rfl) (fun _ _ _ h => h) (Or.inl ⟨by rfl, ?_⟩) ?_ ?_
   rotate_left
   ·intro w'
    go_simp
    with_reducible rfl
   rotate_left
   ·simp only [Act.put, List.setIfInBounds_toArray, List.set_cons_zero, List.set_cons_succ, i64_w]
    rfl
   refine pure_ (i := 8) (N := some 25) (v := ?_) (a' := ?_) (ms 15 325) rfl rfl (by kernel_rfl) (fun _ _ _ h => h) (Or.inl ⟨by rfl, ?_⟩) ?_ ?_
   rotate_left
   ·intro w'
    go_simp
    with_reducible rfl
   rotate_left
   ·simp only [Act.put, List.setIfInBounds_toArray, List.set_cons_zero, List.set_cons_succ, i64_w]
    rfl
   refine take_ (i := 1) (N := some 18) (v := ?_) (a' := ?_) (ms 15 327) rfl rfl (by kernel_rfl) (fun _ _ _ h => h) (Or.inl ⟨by rfl, ?_⟩) hHeld ?_ ?_
   rotate_left
   ·rintro w' ⟨s0, s1, s2⟩
    go_simp
    with_reducible rfl
   rotate_left
   ·simp only [Act.put, List.setIfInBounds_toArray, List.set_cons_zero, List.set_cons_succ, i64_w]
    rfl
   refine pure_ (i := 3) (N := some 20) (v := ?_) (a' := ?_) (ms 15 335) rfl rfl (by kernel_rfl) (fun _ _ _ h => h) (Or.inl ⟨by rfl, ?_⟩) ?_ ?_
   rotate_left
   ·intro w'
    go_simp
    with_reducible rfl
   rotate_left
   ·simp only [Act.put, List.setIfInBounds_toArray, List.set_cons_zero, List.set_cons_succ, i64_w]
    rfl
   refine pure_ (i := 4) (N := some 21) (v := ?_) (a' := ?_) (ms 15 351) rfl rfl (by kernel_rfl) (fun _ _ _ h => h) (Or.inl ⟨by rfl, ?_⟩) ?_ ?_
   rotate_left
   ·intro w'
    go_simp
    with_reducible rfl
   rotate_left
   ·simp only [Act.put, List.setIfInBounds_toArray, List.set_cons_zero, List.set_cons_succ, i64_w]
    rfl
   refine take_ (i := 5) (N := some 22) (v := ?_) (a' := ?_) (ms 15 383) rfl rfl (by kernel_rfl) (fun _ _ _ h => h) (Or.inl ⟨by rfl, ?_⟩) hHeld ?_ ?_
   rotate_left
   ·rintro w' ⟨s0, s1, s2⟩
    go_simp
    with_reducible rfl
   rotate_left
   ·simp only [Act.put, List.setIfInBounds_toArray, List.set_cons_zero, List.set_cons_succ, i64_w]
    rfl
   refine take_ (i := 7) (N := some 24) (v := ?_) (a' := ?_) (ms 15 511) rfl rfl (by kernel_rfl) (fun _ _ _ h => h) (Or.inl ⟨by rfl, ?_⟩) hHeld ?_ ?_
   rotate_left
   ·rintro w' ⟨s0, s1, s2⟩
    go_simp
    with_reducible rfl
   rotate_left
   ·simp only [Act.put, List.setIfInBounds_toArray, List.set_cons_zero, List.set_cons_succ, i64_w]
    rfl
   refine pure_ (i := 9) (N := some 26) (v := ?_) (a' := ?_) (ms 15 1023) rfl rfl (by kernel_rfl) (fun _ _ _ h => h) (Or.inl ⟨by rfl, ?_⟩) ?_ ?_
   rotate_left
   ·intro w'
    go_simp
    with_reducible rfl
   rotate_left
   ·simp only [Act.put, List.setIfInBounds_toArray, List.set_cons_zero, List.set_cons_succ, i64_w]
    rfl
   refine pure_ (i := 10) (N := some 27) (v := ?_) (a' := ?_) (ms 15 2047) rfl rfl (by kernel_rfl) (fun _ _ _ h => h) (Or.inl ⟨by rfl, ?_⟩) ?_ ?_
   rotate_left
   ·intro w'
    go_simp
    with_reducible rfl
   rotate_left
   ·simp only [Act.put, List.setIfInBounds_toArray, List.set_cons_zero, List.set_cons_succ, i64_w]
    rfl
   refine take_ (i := 11) (N := some 28) (v := ?_) (a' := ?_) (ms 15 4095) rfl rfl (by kernel_rfl) (fun _ _ _ h => h) (Or.inl ⟨by rfl, ?_⟩) hHeld ?_ ?_
   rotate_left
   ·rintro w' ⟨s0, s1, s2⟩
    go_simp
    with_reducible rfl
   rotate_left
   ·simp only [Act.put, List.setIfInBounds_toArray, List.set_cons_zero, List.set_cons_succ, i64_w]
    rfl
   refine pure_ (i := 12) (N := some 29) (v := ?_) (a' := ?_) (ms 15 8191) rfl rfl (by kernel_rfl) (fun _ _ _ h => h) (Or.inl ⟨by rfl, ?_⟩) ?_ ?_
   rotate_left
   ·intro w'
    go_simp
    with_reducible rfl
   rotate_left
   ·simp only [Act.put, List.setIfInBounds_toArray, List.set_cons_zero, List.set_cons_succ, i64_w]
    rfl
   refine pure_ (i := 13) (N := some 30) (v := ?_) (a' := ?_) (ms 15 16383) rfl rfl (by kernel_rfl) (fun _ _ _ h => h) (Or.inl ⟨by rfl, ?_⟩) ?_ ?_
   rotate_left
   ·intro w'
    go_simp
    with_reducible rfl
   rotate_left
   ·simp only [Act.put, List.setIfInBounds_toArray, List.set_cons_zero, List.set_cons_succ, i64_w]
    rfl
   refine pure_ (i := 14) (N := some 7) (v := ?_) (a' := ?_) (ms 15 32767) rfl rfl (by kernel_rfl) (fun _ _ _ h => h) (Or.inl ⟨by rfl, ?_⟩) ?_ ?_
   rotate_left
   ·intro w'
    go_simp
    with_reducible rfl
   rotate_left
   ·simp only [Act.put, List.setIfInBounds_toArray, List.set_cons_zero, List.set_cons_succ, i64_w]
    rfl
   refine done_ (by kernel_rfl) ?_
   have hcz0 := (B3.cell 0).trans (show _ = some (.slice (some ad) n0 c0) from rfl)
   have hz0 := C0.c
   have hz1 := C1.c
   have hwn : wrap64 ((n : Int) + 1) = (n : Int) + 1 := by unfold wrap64; have := HN.out; omega
   go_wp2_with (first | (go_at_call 11; (with_reducible refine (pickT q _ HF (by have := HX.out; have := HP.out; have := HN.out; omega)).mono ?_); rintro e w_ ⟨r46, rfl, hr0, hr1, hf, hm⟩; replace HF := hf; replace HV := HV.mv hm; replace L5 := L5.mv hm; replace B3 := B3.mv hm (by decide); (try replace C0 := C0.mv hm (by decide)); (try replace C1 := C1.mv hm (by decide)); clear hr0 hr1; clear hf hm) | ((with_reducible refine gate_builtin (b := .append) (xs := #[.tmp 48, .tmp 50]) rfl ?_); (try (refine gate_guard (by rfl) ?_; dsimp only)); at_builtin; refine app_row HF rfl (.tmp 48) (.tmp 50) 28 (e := 3) (z := .int .i64 0) (bytes := 8) L5 rfl Try.underlying28 info3 rfl (by decide) [_] rfl rfl rfl ?h1 ?ht ?hl ?_; (case h1 => simp [Value.oneCell']); (case ht => exact TC.one _); (case hl => have := HX.out; have := HN.out; omega); intro A_ c_ w_ hl hf hm; replace HF := hf; replace HV := HV.mv hm; replace B3 := B3.mv hm (by decide); (try replace C0 := C0.mv hm (by decide)); (try replace C1 := C1.mv hm (by decide)); clear L5; have L5 := hl; clear hl hf hm))
   all_goals
    go_roundg (gk - 1)
    case measure => have := HX.out; omega
    case rel => exact ⟨_, n + 1, _, rfl, (by first | rfl | (rw [hwn]; rfl)), L5, B3, HV, Fr.more HF (by omega), ⟨by omega, by have := HX.out; omega⟩⟩
  ·skip
   have cb0 : decide (n < n0) = false := decide_eq_false hc
   have cb1 : decide ((n : Int) < (n0 : Int)) = false := decide_eq_false (by omega)
   have hnn : n = n0 := by have := HX.out; omega
   have hcz0 := (B3.cell 0).trans (show _ = some (.slice A0 n0 c0) from rfl)
   rcases Nat.eq_zero_or_pos n with hz | hp
   ·have zb : ((n : Int) == 0) = true := by simp [hz]
    have zc : (n == 0) = true := by simp [hz]
    clear hz hnn
    go_wp2_with (first | (go_at_call 11; have _t := r53; clear _t; clear hcz0; (with_reducible refine (pickT q _ HF (by have := HX.out; have := HP.out; have := HN.out; omega)).mono ?_); rintro e w_ ⟨r56, rfl, hr0, hr1, hf, hm⟩; replace HF := hf; replace HV := HV.mv hm; replace L5 := L5.mv hm; replace B3 := B3.mv hm (by decide); clear hr0 hr1; clear hf hm; have hcz0 := (B3.cell 0).trans (show _ = some (.slice A0 n0 c0) from rfl)) | (go_at_call 11; (with_reducible refine (pickT q _ HF (by have := HX.out; have := HP.out; have := HN.out; omega)).mono ?_); rintro e w_ ⟨r53, rfl, hr0, hr1, hf, hm⟩; replace HF := hf; replace HV := HV.mv hm; replace L5 := L5.mv hm; replace B3 := B3.mv hm (by decide); clear hr0 hr1; clear hf hm; clear hcz0; have hcz0 := (B3.cell 0).trans (show _ = some (.slice A0 n0 c0) from rfl)) | ((with_reducible refine gate_builtin (b := .append) (xs := #[.tmp 63, .tmp 64]) rfl ?_); (try (refine gate_guard (by rfl) ?_; dsimp only)); at_builtin; refine app_row HF rfl (.tmp 63) (.tmp 64) 28 (e := 3) (z := .int .i64 0) (bytes := 8) L5 rfl Try.underlying28 info3 rfl (by decide) [_] rfl rfl rfl ?h1 ?ht ?hl ?_; (case h1 => simp [Value.oneCell']); (case ht => exact TC.one _); (case hl => have := HX.out; have := HN.out; omega); intro A_ c_ w_ hl hf hm; replace HF := hf; replace HV := HV.mv hm; replace B3 := B3.mv hm (by decide); clear L5; have L5 := hl; clear hl hf hm))
    all_goals go_ret
    all_goals exact ⟨_, _, _, rfl, by have := HX.out; have := HN.out; omega, L5, Fr.more HF (by have := HX.out; have := HN.out; omega)⟩
   ·have zb : ((n : Int) == 0) = false := by simp; omega
    have zc : (n == 0) = false := by simp; omega
    have HY := Aside0.mk (And.intro hp hnn)
    clear hcz0
    obtain ⟨ad, rfl⟩ := L5.t.some_ hp
    obtain ⟨ad0, rfl⟩ := HV.t.some_ (by omega)
    have p0 : (0 < n) = True := eq_true hp
    have p1 : ((0 : Int) < (n : Int)) = True := eq_true (by omega)
    have p2 : ((0 : Int) < (n0 : Int)) = True := eq_true (by omega)
    have p3 : (0 < n0) = True := eq_true (by omega)
    clear hp hnn
    have hcz0 := (B3.cell 0).trans (show _ = some (.slice (some ad0) n0 c0) from rfl)
    go_wp2_with (first | (go_at_call 11; have _t := r53; clear _t; (with_reducible refine (pickT q _ HF (by have := HX.out; have := HP.out; have := HN.out; omega)).mono ?_); rintro e w_ ⟨r56, rfl, hr0, hr1, hf, hm⟩; replace HF := hf; replace HV := HV.mv hm; replace L5 := L5.mv hm; replace B3 := B3.mv hm (by decide); clear hr0 hr1; clear hf hm; have hcz0 := (B3.cell 0).trans (show _ = some (.slice (some ad0) n0 c0) from rfl); obtain ⟨x0, x1, x2, C0, C1, C2⟩ := Ce.at0 HV.t HF.st (by have := HY.out; omega); have hz1 := C1.c; obtain ⟨u_, hu_⟩ := L5.t.cell0 (by have := HY.out; omega); have hf_ := L5.t.free0; clear C0 C2) | (go_at_call 11; (with_reducible refine (pickT q _ HF (by have := HX.out; have := HP.out; have := HN.out; omega)).mono ?_); rintro e w_ ⟨r53, rfl, hr0, hr1, hf, hm⟩; replace HF := hf; replace HV := HV.mv hm; replace L5 := L5.mv hm; replace B3 := B3.mv hm (by decide); clear hr0 hr1; clear hf hm; clear hcz0; skip) | ((with_reducible refine gate_builtin (b := .append) (xs := #[.tmp 63, .tmp 64]) rfl ?_); (try (refine gate_guard (by rfl) ?_; dsimp only)); at_builtin; refine app_row HF rfl (.tmp 63) (.tmp 64) 28 (e := 3) (z := .int .i64 0) (bytes := 8) L5 rfl Try.underlying28 info3 rfl (by decide) [_] rfl rfl rfl ?h1 ?ht ?hl ?_; (case h1 => simp [Value.oneCell']); (case ht => exact TC.one _); (case hl => have := HX.out; have := HN.out; omega); intro A_ c_ w_ hl hf hm; replace HF := hf; replace HV := HV.mv hm; replace B3 := B3.mv hm (by decide); clear L5; have L5 := hl; clear hl hf hm) | ((with_reducible refine gate_store (t := 3) (p := 73) (v := .tmp 72) rfl ?_); refine put_row0 HF L5 ?hg (t := 3) (p := 73) (v := .tmp 72) ?ho ?hd (.int .i64 (wrap64 (x1 + 1))) ?hu ?hr ?_; (case ho => rfl); (case hd => rfl); (case hg => rfl); (case hu => simp [TC, isI, esz]); (case hr => first | (go_simp; done) | (go_simp; rfl)); intro w_ hl hf hm; replace HF := hf; replace HV := HV.mv hm; clear L5; have L5 := hl; clear hl hf hm))
    all_goals go_ret
    all_goals exact ⟨_, _, _, rfl, by have := HX.out; have := HN.out; omega, L5, Fr.more HF (by have := HX.out; have := HN.out; omega)⟩
end Go.Proofs.Ytnidjlhbejifoaa.XFnSameRun
