/- spec.l2System over rows told by type.
Conditions: each theorem's own. -/
import Derived.WalkMore
import Derived.Test.YtnidjlhbejifoaaRRules
namespace Go.Proofs.Ytnidjlhbejifoaa.XFnSameRun
open Go.RowKit Go.Proofs.YtnidjlhbejifoaaW.PrintWords Go.Proofs.YtnidjlhbejifoaaW.PrintLast Go.Proofs.YtnidjlhbejifoaaW.PrintMore Go.Proofs.YtnidjlhbejifoaaX Ty
attribute [local go_sem] max2_int max_two
set_option linter.unusedVariables false
set_option linter.unusedSimpArgs false
set_option maxHeartbeats 8000000 in
set_option maxRecDepth 100000 in
theorem l2System.rel {q : Nat → Prop} {w0 w : World} {g : Nat} {P : Int} (most : Int) (hS : St w0 w g P) (hP : P ≤ 600000) (hq : ∀ n, n ≤ 81 → q n) :
  Calls Try.prog 25 #[.pointer (some ⟨g, 0, none⟩), .int .i64 most] w fun e w' => ∃ A0 n0 c0 A1 n1 c1, e = .returned (.agg #[.slice A0 n0 c0, .slice A1 n1 c1]) ∧ 1 ≤ n0 ∧ n0 ≤ 3 ∧ n1 ≤ 4 ∧ Lc q w0 w 51 w' A0 n0 c0 ∧ Lc q w0 w 59 w' A1 n1 c1 ∧ Fr w0 w w' g (P + 2100) := by
 have hu28 := Try.underlying28
 have hu32 := Try.underlying32
 have hu33 := Try.underlying33
 have hu35 := Try.underlying35
 have hu51 := Try.underlying51
 have hu59 := Try.underlying59
 have HF := Fr.start hS
 have HP := Aside0.mk hP
 have HQ := Aside0.mk hq
 clear hS hP hq
 go_enter Try.func25, Try.ntmps25
 go_wp2_with (first | ((with_reducible refine gate_dst (N := 4) rfl ?_); (try (refine gate_guard (by rfl) ?_; dsimp only)); refine new_block (q := q) HF ?hg (N := 4) ?hd (v := fun gb => .pointer (some ⟨gb, 0, none⟩)) (cs := #[.slice none 0 0, .slice none 0 0]) (t := 35) ?hr ?_; (case hd => rfl); (case hg => rfl); (case hr => first | (go_simp; done) | (go_simp; rfl)); intro gb4 w4 hb hf hm hge; replace HF := hf; have B4 := hb; clear hb hf hm hge) | ((with_reducible refine gate_dst (N := 5) rfl ?_); (try (refine gate_guard (by rfl) ?_; dsimp only)); refine new_block (q := q) HF ?hg (N := 5) ?hd (v := fun gb => .pointer (some ⟨gb, 0, none⟩)) (cs := #[.slice none 0 0, .slice none 0 0]) (t := 35) ?hr ?_; (case hd => rfl); (case hg => rfl); (case hr => first | (go_simp; done) | (go_simp; rfl)); intro gb5 w5 hb hf hm hge; have hne : gb4 ≠ gb5 := (by have := B4.lt; omega); replace HF := hf; replace B4 := B4.mv hm (by decide); (try replace B5 := B5.mv hm (by decide)); have B5 := hb; clear hb hf hm hge) | ((with_reducible refine gate_store (t := 35) (p := 5) (v := .tmp 10) rfl ?_); refine put_whole_k (q := q) HF B5 ?hg (ty := 35) (x := .tmp 5) (y := .tmp 10) ?ho ?hd #[.slice none 0 0, .slice none 0 0] rfl rfl (by kernel_rfl) rfl ?h1 ?hu ?_; (case ho => rfl); (case hd => rfl); (case hg => rfl); (case h1 => simp [Value.oneCell']); (case hu => exact fun h => absurd h (by unfold TE; omega)); intro w_ hb hf hm hk; replace HF := hf; (try replace B5 := B5.mv hm (by decide)); replace B4 := B4.other hk hne; clear hk; clear B5; have B5 := hb; clear hb hf hm) | (go_at_call 11; (with_reducible refine (pickT q _ HF (by have := HP.out; omega)).mono ?_); rintro e w_ ⟨r12, rfl, hr0, hr1_, hf, hm⟩; replace HF := hf; replace B4 := B4.mv hm (by decide); (try replace B5 := B5.mv hm (by decide)); have hr1 := hr1_ (by omega); have hw12 : wrap64 (1 + r12) = 1 + r12 := (by unfold wrap64; omega); clear hf hm))
 go_loopg [6, 7] 4 (fun kq v6 v7 wr => ∃ (k i : Int) (A : Option Addr) (n c : Nat), v6 = .int .i64 k ∧ v7 = .int .i64 i ∧ Bk w g 35 wr gb5 #[.slice A n c, .slice none 0 0] ∧ Bk w g 35 wr gb4 #[.slice none 0 0, .slice none 0 0] ∧ Lc q w0 w 51 wr A n c ∧ Fr w0 w wr g (P + 1 + 3 * (3 - i)) ∧ Aside0 (0 ≤ i ∧ (n : Int) ≤ 3 - i ∧ i < kq))
 case atStart => exact ⟨_, 1 + r12, _, _, _, rfl, rfl, B5, B4, Lc.nil 51 TE51 _, Fr.more HF (by omega), ⟨by omega, by omega, by omega⟩⟩
 case round =>
  clear HF B4 B5 hw12 hr0 hr1
  obtain ⟨k, i, A, n, c, rfl, rfl, B5, B4, LV, HF, HX⟩ := hrel
  have hi0 := HX.out.1
  by_cases hc : 0 < i
  ·skip
   have cb0 : decide (i > 0) = true := decide_eq_true hc
   have cb1 : decide (0 < i) = true := decide_eq_true hc
   have hwi : wrap64 (i - 1) = i - 1 := by unfold wrap64; have := HX.out; omega
   have HI := Aside0.mk hc
   clear hc hi0
   go_wp2_with (first | ((with_reducible refine gate_dst (N := 19) rfl ?_); (try (refine gate_guard (by rfl) ?_; dsimp only)); refine new_block (q := q) HF ?hg (N := 19) ?hd (v := fun gb => .slice (some ⟨gb, 0, none⟩) 5 5) (cs := #[.int .i64 2, .int .i64 3, .int .i64 2, .int .i64 4, .int .i64 5]) (t := 3) ?hr ?_; (case hd => rfl); (case hg => rfl); (case hr => first | (go_simp; done) | (go_simp; rfl)); intro gb19 w19 hb hf hm hge; replace HF := hf; replace LV := LV.mv hm; replace B4 := B4.mv hm (by decide); replace B5 := B5.mv hm (by decide); (try replace B19 := B19.mv hm (by decide)); (try replace B27 := B27.mv hm (by decide)); have B19 := hb; clear hb hf hm hge) | (go_at_call 26; (with_reducible refine (numT q [0, 0, 0, -1, 2] 5 rfl HF (by have := HX.out; have := HP.out; omega) (by decide) (by decide) B27).mono ?_); rintro e w_ ⟨r28, rfl, hr28, hf, hm⟩; replace HF := hf; replace LV := LV.mv hm; replace B4 := B4.mv hm (by decide); replace B5 := B5.mv hm (by decide); (try replace B19 := B19.mv hm (by decide)); (try replace B27 := B27.mv hm (by decide)); clear B27 hr28; clear hf hm) | (go_at_call 26; (with_reducible refine (numT q [2, 3, 2, 4, 5] 5 rfl HF (by have := HX.out; have := HP.out; omega) (by decide) (by decide) B19).mono ?_); rintro e w_ ⟨r20, rfl, hr20, hf, hm⟩; replace HF := hf; replace LV := LV.mv hm; replace B4 := B4.mv hm (by decide); replace B5 := B5.mv hm (by decide); (try replace B19 := B19.mv hm (by decide)); (try replace B27 := B27.mv hm (by decide)); clear B19 hr20; clear hf hm) | ((with_reducible refine gate_dst (N := 27) rfl ?_); (try (refine gate_guard (by rfl) ?_; dsimp only)); refine new_block (q := q) HF ?hg (N := 27) ?hd (v := fun gb => .slice (some ⟨gb, 0, none⟩) 5 5) (cs := #[.int .i64 0, .int .i64 0, .int .i64 0, .int .i64 (-1), .int .i64 2]) (t := 3) ?hr ?_; (case hd => rfl); (case hg => rfl); (case hr => first | (go_simp; done) | (go_simp; rfl)); intro gb27 w27 hb hf hm hge; replace HF := hf; replace LV := LV.mv hm; replace B4 := B4.mv hm (by decide); replace B5 := B5.mv hm (by decide); (try replace B19 := B19.mv hm (by decide)); (try replace B27 := B27.mv hm (by decide)); have B27 := hb; clear hb hf hm hge))
   all_goals try (go_roundg (gk - 1); (case measure => have := HX.out; have := HI.out; omega); (case rel => exact ⟨_, i - 1, _, _, _, rfl, (by first | rfl | rw [hwi]), B5, B4, LV, Fr.more HF (by omega), ⟨by have := HI.out; omega, by have := HX.out; omega, by have := HX.out; have := HI.out; omega⟩⟩))
   replace LV := LV.mv (Mv.drew (g := g))
   replace B4 := B4.mv (Mv.drew (q := q) (w0 := w0)) (by decide)
   replace B5 := B5.mv (Mv.drew (q := q) (w0 := w0)) (by decide)
   replace HF := HF.drew
   refine start_ (n := 17) (S := fun w' => w'.cell? ⟨gb5, 0, none⟩ = some (.slice A n c)) (ds := [16]) (ms 17 0) (by kernel_rfl) rfl rfl ((B5.cell 0).trans rfl) (fun hHeld => ?_)
   refine pure_ (i := 0) (N := some 29) (v := ?_) (a' := ?_) (ms 17 1) rfl rfl (by kernel_rfl) (fun _ _ _ h => h) (Or.inl ⟨by rfl, ?_⟩) ?_ ?_
   rotate_left
   ·intro w'
    go_simp
    with_reducible rfl
   rotate_left
   ·simp only [Act.put, List.setIfInBounds_toArray, List.set_cons_zero, List.set_cons_succ, i64_w]
    rfl
   refine pure_ (i := 2) (N := some 31) (v := ?_) (a' := ?_) (ms 17 5) rfl rfl (by kernel_rfl) (fun _ _ _ h => h) (Or.inl ⟨by rfl, ?_⟩) ?_ ?_
   rotate_left
   ·intro w'
    go_simp
    with_reducible rfl
   rotate_left
   ·simp only [Act.put, List.setIfInBounds_toArray, List.set_cons_zero, List.set_cons_succ, i64_w]
    rfl
   refine pure_ (i := 3) (N := some 32) (v := ?_) (a' := ?_) (ms 17 13) rfl rfl (by kernel_rfl) (fun _ _ _ h => h) (Or.inl ⟨by rfl, ?_⟩) ?_ ?_
   rotate_left
   ·intro w'
    go_simp
    with_reducible rfl
   rotate_left
   ·simp only [Act.put, List.setIfInBounds_toArray, List.set_cons_zero, List.set_cons_succ, i64_w]
    rfl
   refine pure_ (i := 4) (N := some 33) (v := ?_) (a' := ?_) (ms 17 29) rfl rfl (by kernel_rfl) (fun _ _ _ h => h) (Or.inl ⟨by rfl, ?_⟩) ?_ ?_
   rotate_left
   ·intro w'
    go_simp
    with_reducible rfl
   rotate_left
   ·simp only [Act.put, List.setIfInBounds_toArray, List.set_cons_zero, List.set_cons_succ, i64_w]
    rfl
   refine pure_ (i := 5) (N := some 34) (v := ?_) (a' := ?_) (ms 17 61) rfl rfl (by kernel_rfl) (fun _ _ _ h => h) (Or.inl ⟨by rfl, ?_⟩) ?_ ?_
   rotate_left
   ·intro w'
    go_simp
    with_reducible rfl
   rotate_left
   ·simp only [Act.put, List.setIfInBounds_toArray, List.set_cons_zero, List.set_cons_succ, i64_w]
    rfl
   refine pure_ (i := 6) (N := some 35) (v := ?_) (a' := ?_) (ms 17 125) rfl rfl (by kernel_rfl) (fun _ _ _ h => h) (Or.inl ⟨by rfl, ?_⟩) ?_ ?_
   rotate_left
   ·intro w'
    go_simp
    with_reducible rfl
   rotate_left
   ·simp only [Act.put, List.setIfInBounds_toArray, List.set_cons_zero, List.set_cons_succ, i64_w]
    rfl
   refine pure_ (i := 7) (N := some 36) (v := ?_) (a' := ?_) (ms 17 253) rfl rfl (by kernel_rfl) (fun _ _ _ h => h) (Or.inl ⟨by rfl, ?_⟩) ?_ ?_
   rotate_left
   ·intro w'
    go_simp
    with_reducible rfl
   rotate_left
   ·simp only [Act.put, List.setIfInBounds_toArray, List.set_cons_zero, List.set_cons_succ, i64_w]
    rfl
   refine pure_ (i := 8) (N := some 37) (v := ?_) (a' := ?_) (ms 17 509) rfl rfl (by kernel_rfl) (fun _ _ _ h => h) (Or.inl ⟨by rfl, ?_⟩) ?_ ?_
   rotate_left
   ·intro w'
    go_simp
    with_reducible rfl
   rotate_left
   ·simp only [Act.put, List.setIfInBounds_toArray, List.set_cons_zero, List.set_cons_succ, i64_w]
    rfl
   refine pure_ (i := 9) (N := some 38) (v := ?_) (a' := ?_) (ms 17 1021) rfl rfl (by kernel_rfl) (fun _ _ _ h => h) (Or.inl ⟨by rfl, ?_⟩) ?_ ?_
   rotate_left
   ·intro w'
    go_simp
    with_reducible rfl
   rotate_left
   ·simp only [Act.put, List.setIfInBounds_toArray, List.set_cons_zero, List.set_cons_succ, i64_w]
    rfl
   refine take_ (i := 1) (N := some 30) (v := ?_) (a' := ?_) (ms 17 1023) rfl rfl (by kernel_rfl) (fun _ _ _ h => h) (Or.inl ⟨by rfl, ?_⟩) hHeld ?_ ?_
   rotate_left
   ·intro w' s0
    go_simp
    with_reducible rfl
   rotate_left
   ·simp only [Act.put, List.setIfInBounds_toArray, List.set_cons_zero, List.set_cons_succ, i64_w]
    rfl
   refine one_ (i := 10) (N := some 39) (ms 17 2047) rfl rfl (by kernel_rfl) (by decide) (fun K hK => ?_)
   refine goes_ Try.func11 (by kernel_rfl) rfl #[.pointer (some ⟨g, 0, none⟩), .int .i64 r20] (by rfl) rfl rfl (by simp only [List.map_toArray, List.map_cons, List.map_nil]; rfl) ?_
   with_reducible refine (pickT q _ HF (by have := HX.out; have := HP.out; omega)).mono ?_
   rintro e w39 ⟨r39, rfl, hr0, hr1, hf, hm⟩
   refine ⟨_, rfl, ?_⟩
   replace HF := hf
   replace LV := LV.mv hm
   replace B4 := B4.mv hm (by decide)
   replace B5 := B5.mv hm (by decide)
   clear hr0 hr1
   clear hf hm
   refine hK.out _ _ ((B5.cell 0).trans rfl) (fun hHeld => ?_)
   clear hK K
   refine norm_ (a' := ?_) ?_ ?_
   rotate_left
   ·show Act.put _ (some 39) _ = _
    simp only [Act.put, List.setIfInBounds_toArray, List.set_cons_zero, List.set_cons_succ, i64_w]
    rfl
   refine pure_ (i := 11) (N := some 40) (v := ?_) (a' := ?_) (ms 17 4095) rfl rfl (by kernel_rfl) (fun _ _ _ h => h) (Or.inl ⟨by rfl, ?_⟩) ?_ ?_
   rotate_left
   ·intro w'
    go_simp
    with_reducible rfl
   rotate_left
   ·simp only [Act.put, List.setIfInBounds_toArray, List.set_cons_zero, List.set_cons_succ, i64_w]
    rfl
   refine pure_ (i := 12) (N := some 41) (v := ?_) (a' := ?_) (ms 17 8191) rfl rfl (by kernel_rfl) (fun _ _ _ h => h) (Or.inl ⟨by rfl, ?_⟩) ?_ ?_
   rotate_left
   ·intro w'
    go_simp
    with_reducible rfl
   rotate_left
   ·simp only [Act.put, List.setIfInBounds_toArray, List.set_cons_zero, List.set_cons_succ, i64_w]
    rfl
   refine one_ (i := 13) (N := some 42) (ms 17 16383) rfl rfl (by kernel_rfl) (by decide) (fun K hK => ?_)
   refine new_block_step (q := q) HF ?hw (N := 42) ?hd (v := fun gb => .slice (some ⟨gb, 0, none⟩) 1 1) (cs := #[.int .i64 r28, .int .i64 (wrap64 (wrap64 (r28 + r20) - 1)), .int .i64 (wrap64 (r28 + r39))]) (t := 51) ?hr ?_
   case hd => rfl
   case hw => rfl
   case hr => first | (go_simp; done) | (go_simp; rfl)
   intro gb42 w42 hb hf hm hge
   replace HF := hf
   replace LV := LV.mv hm
   replace B4 := B4.mv hm (by decide)
   replace B5 := B5.mv hm (by decide)
   have B42 := hb
   clear hb hf hm hge
   refine hK.out _ _ ((B5.cell 0).trans rfl) (fun hHeld => ?_)
   clear hK K
   refine norm_ (a' := ?_) ?_ ?_
   rotate_left
   ·show Act.put _ (some 42) _ = _
    simp only [Act.put, List.setIfInBounds_toArray, List.set_cons_zero, List.set_cons_succ, i64_w]
    rfl
   refine one_ (i := 14) (N := some 43) (ms 17 32767) rfl rfl (by kernel_rfl) (by decide) (fun K hK => ?_)
   refine app_row_step HF (by rfl) (.tmp 30) (.tmp 42) 32 (e := 51) (z := .agg #[.int .i64 0, .int .i64 0, .int .i64 0]) (bytes := 24) LV rfl Try.underlying32 info51 rfl (by decide) [.int .i64 r28, .int .i64 (wrap64 (wrap64 (r28 + r20) - 1)), .int .i64 (wrap64 (r28 + r39))] rfl rfl B42 rfl ?h1 ?ht ?hl ?_
   case h1 => simp [Value.oneCell']
   case ht => exact TC.three _ _ _
   case hl => have := HX.out; omega
   intro A_ c_ w43 hl hf hm
   replace HF := hf
   replace B4 := B4.mv hm (by decide)
   replace B5 := B5.mv hm (by decide)
   clear LV
   have LV := hl
   clear hl hf hm
   refine hK.out _ _ ((B5.cell 0).trans rfl) (fun hHeld => ?_)
   clear hK K
   refine norm_ (a' := ?_) ?_ ?_
   rotate_left
   ·show Act.put _ (some 43) _ = _
    simp only [Act.put, List.setIfInBounds_toArray, List.set_cons_zero, List.set_cons_succ, i64_w]
    rfl
   refine pure_ (i := 15) (N := some 44) (v := ?_) (a' := ?_) (ms 17 65535) rfl rfl (by kernel_rfl) (fun _ _ _ h => h) (Or.inl ⟨by rfl, ?_⟩) ?_ ?_
   rotate_left
   ·intro w'
    go_simp
    with_reducible rfl
   rotate_left
   ·simp only [Act.put, List.setIfInBounds_toArray, List.set_cons_zero, List.set_cons_succ, i64_w]
    rfl
   refine last_ (i := 16) (N := none) (ms 17 131071) rfl rfl (by kernel_rfl) (by decide) (fun K hK => ?_)
   have hcz_ := B5.cell 0
   have hfz_ := B5.free 0
   refine put_block_step_k (q := q) HF B5 ?hw ?hd 0 (.slice A_ (n + 1) c_) ?hr ?hu ?_
   case hd => rfl
   case hw => rfl
   case hr => first | (go_simp; done) | (go_simp; rfl)
   case hu => exact fun h => absurd h (by unfold TE; omega)
   clear hcz_ hfz_
   intro w44 hb hf hm hk
   replace HF := hf
   replace LV := LV.mv hm
   replace B4 := B4.other hk hne
   clear hk
   clear B5
   have B5 : Bk w g 35 w44 gb5 #[.slice A_ (n + 1) c_, .slice none 0 0] := hb
   clear hb hf hm
   refine hK.out _ _ ?_
   clear hK K
   refine done_ (by kernel_rfl) ?_
   go_wp2_with (fail)
   go_roundg (gk - 1)
   case measure => have := HX.out; have := HI.out; omega
   case rel => exact ⟨_, i - 1, _, _, _, rfl, (by first | rfl | rw [hwi]), B5, B4, LV, Fr.more HF (by omega), ⟨by have := HI.out; omega, by have := HX.out; omega, by have := HX.out; have := HI.out; omega⟩⟩
  ·skip
   have cb0 : decide (i > 0) = false := decide_eq_false hc
   have cb1 : decide (0 < i) = false := decide_eq_false hc
   rcases Nat.eq_zero_or_pos n with rfl | hn
   ·have hcz := (B5.cell 0).trans (show _ = some (.slice A 0 c) from rfl)
    go_wp2_with (first | ((with_reducible refine gate_builtin (b := .append) (xs := #[.tmp 53, .tmp 55]) rfl ?_); (try (refine gate_guard (by rfl) ?_; dsimp only)); at_builtin; refine app_row HF rfl (.tmp 53) (.tmp 55) 32 (e := 51) (z := .agg #[.int .i64 0, .int .i64 0, .int .i64 0]) (bytes := 24) LV rfl Try.underlying32 info51 rfl (by decide) [.int .i64 0, .int .i64 1, .int .i64 0] rfl rfl rfl ?h1 ?ht ?hl ?_; (case h1 => simp [Value.oneCell']); (case ht => exact TC.three _ _ _); (case hl => omega); intro A_ c_ w_ hl hf hm; replace HF := hf; replace B4 := B4.mv hm (by decide); replace B5 := B5.mv hm (by decide); clear LV; have LV := hl; clear hl hf hm; have hcy : A_ = A_ := rfl) | ((with_reducible refine gate_store (t := 32) (p := 57) (v := .tmp 56) rfl ?_); refine put_block_k (q := q) HF B5 ?hg (t := 32) (p := 57) (v := .tmp 56) ?ho ?hd 0 (.slice A_ 1 c_) ?hr ?hu ?_; (case ho => rfl); (case hd => rfl); (case hg => rfl); (case hr => have hcz_ := B5.cell 0; have hfz_ := B5.free 0; first | (go_simp; done) | (go_simp; rfl)); (case hu => exact fun h => absurd h (by unfold TE; omega)); intro w_ hb hf hm hk; replace HF := hf; replace LV := LV.mv hm; replace B4 := B4.other hk hne; clear hk; clear B5; have B5 : Bk w g 35 w_ gb5 #[.slice A_ 1 c_, .slice none 0 0] := hb; clear hb hf hm))
    replace LV := LV.mv (Mv.drew (g := g))
    replace B4 := B4.mv (Mv.drew (q := q) (w0 := w0)) (by decide)
    replace B5 := B5.mv (Mv.drew (q := q) (w0 := w0)) (by decide)
    replace HF := HF.drew
    refine start_ (n := 9) (S := fun w' => w'.cell? ⟨gb5, 0, none⟩ = some (.slice A_ (1) c_)) (ds := []) (ms 9 0) (by kernel_rfl) rfl rfl ((B5.cell 0).trans rfl) (fun hHeld => ?_)
    refine pure_ (i := 0) (N := some 58) (v := ?_) (a' := ?_) (ms 9 1) rfl rfl (by kernel_rfl) (fun _ _ _ h => h) (Or.inl ⟨by rfl, ?_⟩) ?_ ?_
    rotate_left
    ·intro w'
     go_simp
     with_reducible rfl
    rotate_left
    ·simp only [Act.put, List.setIfInBounds_toArray, List.set_cons_zero, List.set_cons_succ, i64_w]
     rfl
    refine pure_ (i := 1) (N := some 59) (v := ?_) (a' := ?_) (ms 9 3) rfl rfl (by kernel_rfl) (fun _ _ _ h => h) (Or.inl ⟨by rfl, ?_⟩) ?_ ?_
    rotate_left
    ·intro w'
     go_simp
     with_reducible rfl
    rotate_left
    ·simp only [Act.put, List.setIfInBounds_toArray, List.set_cons_zero, List.set_cons_succ, i64_w]
     rfl
    refine pure_ (i := 3) (N := some 61) (v := ?_) (a' := ?_) (ms 9 11) rfl rfl (by kernel_rfl) (fun _ _ _ h => h) (Or.inl ⟨by rfl, ?_⟩) ?_ ?_
    rotate_left
    ·intro w'
     go_simp
     with_reducible rfl
    rotate_left
    ·simp only [Act.put, List.setIfInBounds_toArray, List.set_cons_zero, List.set_cons_succ, i64_w]
     rfl
    refine take_ (i := 2) (N := some 60) (v := ?_) (a' := ?_) (ms 9 15) rfl rfl (by kernel_rfl) (fun _ _ _ h => h) (Or.inl ⟨by rfl, ?_⟩) hHeld ?_ ?_
    rotate_left
    ·intro w' s0
     go_simp
     with_reducible rfl
    rotate_left
    ·simp only [Act.put, List.setIfInBounds_toArray, List.set_cons_zero, List.set_cons_succ, i64_w]
     rfl
    refine one_ (i := 4) (N := some 62) (ms 9 31) rfl rfl (by kernel_rfl) (by decide) (fun K hK => ?_)
    refine new_block_step (q := q) HF ?hw (N := 62) ?hd (v := fun gb => .slice (some ⟨gb, 0, none⟩) 7 7) (cs := #[.int .i64 1, .int .i64 2, .int .i64 3, .int .i64 4, .int .i64 2, .int .i64 3, .int .i64 0]) (t := 3) ?hr ?_
    case hd => rfl
    case hw => rfl
    case hr => first | (go_simp; done) | (go_simp; rfl)
    intro gb62 w62 hb hf hm hge
    replace HF := hf
    replace LV := LV.mv hm
    replace B4 := B4.mv hm (by decide)
    replace B5 := B5.mv hm (by decide)
    have B62 := hb
    clear hb hf hm hge
    refine hK.out _ _ ((B5.cell 0).trans rfl) (fun hHeld => ?_)
    clear hK K
    refine norm_ (a' := ?_) ?_ ?_
    rotate_left
    ·show Act.put _ (some 62) _ = _
     simp only [Act.put, List.setIfInBounds_toArray, List.set_cons_zero, List.set_cons_succ, i64_w]
     rfl
    refine one_ (i := 5) (N := some 63) (ms 9 63) rfl rfl (by kernel_rfl) (by decide) (fun K hK => ?_)
    refine goes_ Try.func26 (by kernel_rfl) rfl #[.pointer (some ⟨g, 0, none⟩), .slice (some ⟨gb62, 0, none⟩) 7 7] (by rfl) rfl rfl (by simp only [List.map_toArray, List.map_cons, List.map_nil]; rfl) ?_
    with_reducible refine (numT q [1, 2, 3, 4, 2, 3, 0] 7 rfl HF (by have := HX.out; have := HP.out; omega) (by decide) (by decide) B62).mono ?_
    rintro e w63 ⟨r63, rfl, hr63, hf, hm⟩
    refine ⟨_, rfl, ?_⟩
    replace HF := hf
    replace LV := LV.mv hm
    replace B4 := B4.mv hm (by decide)
    replace B5 := B5.mv hm (by decide)
    clear B62
    clear hf hm
    refine hK.out _ _ ((B5.cell 0).trans rfl) (fun hHeld => ?_)
    clear hK K
    refine norm_ (a' := ?_) ?_ ?_
    rotate_left
    ·show Act.put _ (some 63) _ = _
     simp only [Act.put, List.setIfInBounds_toArray, List.set_cons_zero, List.set_cons_succ, i64_w]
     rfl
    refine one_ (i := 6) (N := some 64) (ms 9 127) rfl rfl (by kernel_rfl) (by decide) (fun K hK => ?_)
    have hr_ : 0 ≤ r63 ∧ r63 ≤ 4 := by simp at hr63; omega
    refine goes_ Try.func33 (by kernel_rfl) rfl #[.pointer (some ⟨g, 0, none⟩), .slice A_ (1) c_, .int .i64 r63] (by rfl) rfl rfl (by simp only [List.map_toArray, List.map_cons, List.map_nil]; rfl) ?_
    with_reducible refine (l2Rules.rel (q := q) _ _ _ r63 HF.st (by have := HX.out; have := HP.out; omega) LV.t (by have := HX.out; omega) (by have := HX.out; omega) hr_.1 hr_.2 HQ.out).mono ?_
    rintro e w64 ⟨A64, n64, c64, rfl, h64, hl, hf1⟩
    refine ⟨_, rfl, ?_⟩
    obtain ⟨hf, hm⟩ := HF.via (q := q) hf1
    have LR := Lc.base hl HF
    replace HF := hf
    replace LV := LV.mv hm
    replace B4 := B4.mv hm (by decide)
    replace B5 := B5.mv hm (by decide)
    clear hf hm hf1 hl
    refine hK.out _ _ ((B5.cell 0).trans rfl) (fun hHeld => ?_)
    clear hK K
    refine norm_ (a' := ?_) ?_ ?_
    rotate_left
    ·show Act.put _ (some 64) _ = _
     simp only [Act.put, List.setIfInBounds_toArray, List.set_cons_zero, List.set_cons_succ, i64_w]
     rfl
    refine pure_ (i := 7) (N := some 65) (v := ?_) (a' := ?_) (ms 9 255) rfl rfl (by kernel_rfl) (fun _ _ _ h => h) (Or.inl ⟨by rfl, ?_⟩) ?_ ?_
    rotate_left
    ·intro w'
     go_simp
     with_reducible rfl
    rotate_left
    ·simp only [Act.put, List.setIfInBounds_toArray, List.set_cons_zero, List.set_cons_succ, i64_w]
     rfl
    refine one_ (i := 8) (N := none) (ms 9 511) rfl rfl (by kernel_rfl) (by decide) (fun K hK => ?_)
    have hcz_ := B5.cell 1
    have hfz_ := B5.free 1
    refine put_block_step_k (q := q) HF B5 ?hw ?hd 1 (.slice A64 n64 c64) ?hr ?hu ?_
    case hd => rfl
    case hw => rfl
    case hr => first | (go_simp; done) | (go_simp; rfl)
    case hu => exact fun h => absurd h (by unfold TE; omega)
    clear hcz_ hfz_
    intro w65 hb hf hm hk
    replace HF := hf
    replace LV := LV.mv hm
    replace LR := LR.mv hm
    replace B4 := B4.other hk hne
    clear hk
    clear B5
    have B5 : Bk w g 35 w65 gb5 #[.slice A_ (1) c_, .slice A64 n64 c64] := hb
    clear hb hf hm
    refine hK.out _ _ ((B5.cell 0).trans rfl) (fun hHeld => ?_)
    clear hK K
    refine done_ (by kernel_rfl) ?_
    go_wp2_with (first | ((with_reducible refine gate_dst (N := 66) rfl ?_); refine load_whole B5 ?hg (N := 66) ?hd 35 (.tmp 5) ?ho rfl Try.underlying35 rfl (by kernel_rfl) ?_; (case ho => rfl); (case hd => rfl); (case hg => rfl)) | ((with_reducible refine gate_store (t := 35) (p := 4) (v := .tmp 66) rfl ?_); refine put_whole_k (q := q) HF B4 ?hg (ty := 35) (x := .tmp 4) (y := .tmp 66) ?ho ?hd #[.slice A_ (1) c_, .slice A64 n64 c64] rfl rfl (by kernel_rfl) rfl ?h1 ?hu ?_; (case ho => rfl); (case hd => rfl); (case hg => rfl); (case h1 => simp [Value.oneCell']); (case hu => exact fun h => absurd h (by unfold TE; omega)); intro w_ hb hf hm hk; replace HF := hf; replace LV := LV.mv hm; replace LR := LR.mv hm; replace B5 := B5.other hk (Ne.symm hne); clear hk; clear B4; have B4 := hb; clear hb hf hm))
    refine bodyPost_ret (results_cell_row rfl _ _ gb4 35 #[.slice A_ (1) c_, .slice A64 n64 c64] (0, 0) _ rfl B4.b Try.underlying35 rfl (by kernel_rfl)) rfl ?_
    exact ⟨_, _, _, _, _, _, rfl, by omega, by have := HX.out; omega, h64, LV, LR, Fr.more HF (by have := HX.out; omega)⟩
   ·have cn0 : ((n : Int) == 0) = false := by simp; omega
    have HN := Aside0.mk hn
    have hcz := (B5.cell 0).trans (show _ = some (.slice A n c) from rfl)
    go_wp2_with (fail)
    clear hcz
    replace LV := LV.mv (Mv.drew (g := g))
    replace B4 := B4.mv (Mv.drew (q := q) (w0 := w0)) (by decide)
    replace B5 := B5.mv (Mv.drew (q := q) (w0 := w0)) (by decide)
    replace HF := HF.drew
    refine start_ (n := 9) (S := fun w' => w'.cell? ⟨gb5, 0, none⟩ = some (.slice A (n) c)) (ds := []) (ms 9 0) (by kernel_rfl) rfl rfl ((B5.cell 0).trans rfl) (fun hHeld => ?_)
    refine pure_ (i := 0) (N := some 58) (v := ?_) (a' := ?_) (ms 9 1) rfl rfl (by kernel_rfl) (fun _ _ _ h => h) (Or.inl ⟨by rfl, ?_⟩) ?_ ?_
    rotate_left
    ·intro w'
     go_simp
     with_reducible rfl
    rotate_left
    ·simp only [Act.put, List.setIfInBounds_toArray, List.set_cons_zero, List.set_cons_succ, i64_w]
     rfl
    refine pure_ (i := 1) (N := some 59) (v := ?_) (a' := ?_) (ms 9 3) rfl rfl (by kernel_rfl) (fun _ _ _ h => h) (Or.inl ⟨by rfl, ?_⟩) ?_ ?_
    rotate_left
    ·intro w'
     go_simp
     with_reducible rfl
    rotate_left
    ·simp only [Act.put, List.setIfInBounds_toArray, List.set_cons_zero, List.set_cons_succ, i64_w]
     rfl
    refine pure_ (i := 3) (N := some 61) (v := ?_) (a' := ?_) (ms 9 11) rfl rfl (by kernel_rfl) (fun _ _ _ h => h) (Or.inl ⟨by rfl, ?_⟩) ?_ ?_
    rotate_left
    ·intro w'
     go_simp
     with_reducible rfl
    rotate_left
    ·simp only [Act.put, List.setIfInBounds_toArray, List.set_cons_zero, List.set_cons_succ, i64_w]
     rfl
    refine take_ (i := 2) (N := some 60) (v := ?_) (a' := ?_) (ms 9 15) rfl rfl (by kernel_rfl) (fun _ _ _ h => h) (Or.inl ⟨by rfl, ?_⟩) hHeld ?_ ?_
    rotate_left
    ·intro w' s0
     go_simp
     with_reducible rfl
    rotate_left
    ·simp only [Act.put, List.setIfInBounds_toArray, List.set_cons_zero, List.set_cons_succ, i64_w]
     rfl
    refine one_ (i := 4) (N := some 62) (ms 9 31) rfl rfl (by kernel_rfl) (by decide) (fun K hK => ?_)
    refine new_block_step (q := q) HF ?hw (N := 62) ?hd (v := fun gb => .slice (some ⟨gb, 0, none⟩) 7 7) (cs := #[.int .i64 1, .int .i64 2, .int .i64 3, .int .i64 4, .int .i64 2, .int .i64 3, .int .i64 0]) (t := 3) ?hr ?_
    case hd => rfl
    case hw => rfl
    case hr => first | (go_simp; done) | (go_simp; rfl)
    intro gb62 w62 hb hf hm hge
    replace HF := hf
    replace LV := LV.mv hm
    replace B4 := B4.mv hm (by decide)
    replace B5 := B5.mv hm (by decide)
    have B62 := hb
    clear hb hf hm hge
    refine hK.out _ _ ((B5.cell 0).trans rfl) (fun hHeld => ?_)
    clear hK K
    refine norm_ (a' := ?_) ?_ ?_
    rotate_left
    ·show Act.put _ (some 62) _ = _
     simp only [Act.put, List.setIfInBounds_toArray, List.set_cons_zero, List.set_cons_succ, i64_w]
     rfl
    refine one_ (i := 5) (N := some 63) (ms 9 63) rfl rfl (by kernel_rfl) (by decide) (fun K hK => ?_)
    refine goes_ Try.func26 (by kernel_rfl) rfl #[.pointer (some ⟨g, 0, none⟩), .slice (some ⟨gb62, 0, none⟩) 7 7] (by rfl) rfl rfl (by simp only [List.map_toArray, List.map_cons, List.map_nil]; rfl) ?_
    with_reducible refine (numT q [1, 2, 3, 4, 2, 3, 0] 7 rfl HF (by have := HX.out; have := HP.out; omega) (by decide) (by decide) B62).mono ?_
    rintro e w63 ⟨r63, rfl, hr63, hf, hm⟩
    refine ⟨_, rfl, ?_⟩
    replace HF := hf
    replace LV := LV.mv hm
    replace B4 := B4.mv hm (by decide)
    replace B5 := B5.mv hm (by decide)
    clear B62
    clear hf hm
    refine hK.out _ _ ((B5.cell 0).trans rfl) (fun hHeld => ?_)
    clear hK K
    refine norm_ (a' := ?_) ?_ ?_
    rotate_left
    ·show Act.put _ (some 63) _ = _
     simp only [Act.put, List.setIfInBounds_toArray, List.set_cons_zero, List.set_cons_succ, i64_w]
     rfl
    refine one_ (i := 6) (N := some 64) (ms 9 127) rfl rfl (by kernel_rfl) (by decide) (fun K hK => ?_)
    have hr_ : 0 ≤ r63 ∧ r63 ≤ 4 := by simp at hr63; omega
    refine goes_ Try.func33 (by kernel_rfl) rfl #[.pointer (some ⟨g, 0, none⟩), .slice A (n) c, .int .i64 r63] (by rfl) rfl rfl (by simp only [List.map_toArray, List.map_cons, List.map_nil]; rfl) ?_
    with_reducible refine (l2Rules.rel (q := q) _ _ _ r63 HF.st (by have := HX.out; have := HP.out; omega) LV.t (by have := HX.out; omega) (by have := HX.out; omega) hr_.1 hr_.2 HQ.out).mono ?_
    rintro e w64 ⟨A64, n64, c64, rfl, h64, hl, hf1⟩
    refine ⟨_, rfl, ?_⟩
    obtain ⟨hf, hm⟩ := HF.via (q := q) hf1
    have LR := Lc.base hl HF
    replace HF := hf
    replace LV := LV.mv hm
    replace B4 := B4.mv hm (by decide)
    replace B5 := B5.mv hm (by decide)
    clear hf hm hf1 hl
    refine hK.out _ _ ((B5.cell 0).trans rfl) (fun hHeld => ?_)
    clear hK K
    refine norm_ (a' := ?_) ?_ ?_
    rotate_left
    ·show Act.put _ (some 64) _ = _
     simp only [Act.put, List.setIfInBounds_toArray, List.set_cons_zero, List.set_cons_succ, i64_w]
     rfl
    refine pure_ (i := 7) (N := some 65) (v := ?_) (a' := ?_) (ms 9 255) rfl rfl (by kernel_rfl) (fun _ _ _ h => h) (Or.inl ⟨by rfl, ?_⟩) ?_ ?_
    rotate_left
    ·intro w'
     go_simp
     with_reducible rfl
    rotate_left
    ·simp only [Act.put, List.setIfInBounds_toArray, List.set_cons_zero, List.set_cons_succ, i64_w]
     rfl
    refine one_ (i := 8) (N := none) (ms 9 511) rfl rfl (by kernel_rfl) (by decide) (fun K hK => ?_)
    have hcz_ := B5.cell 1
    have hfz_ := B5.free 1
    refine put_block_step_k (q := q) HF B5 ?hw ?hd 1 (.slice A64 n64 c64) ?hr ?hu ?_
    case hd => rfl
    case hw => rfl
    case hr => first | (go_simp; done) | (go_simp; rfl)
    case hu => exact fun h => absurd h (by unfold TE; omega)
    clear hcz_ hfz_
    intro w65 hb hf hm hk
    replace HF := hf
    replace LV := LV.mv hm
    replace LR := LR.mv hm
    replace B4 := B4.other hk hne
    clear hk
    clear B5
    have B5 : Bk w g 35 w65 gb5 #[.slice A (n) c, .slice A64 n64 c64] := hb
    clear hb hf hm
    refine hK.out _ _ ((B5.cell 0).trans rfl) (fun hHeld => ?_)
    clear hK K
    refine done_ (by kernel_rfl) ?_
    go_wp2_with (first | ((with_reducible refine gate_dst (N := 66) rfl ?_); refine load_whole B5 ?hg (N := 66) ?hd 35 (.tmp 5) ?ho rfl Try.underlying35 rfl (by kernel_rfl) ?_; (case ho => rfl); (case hd => rfl); (case hg => rfl)) | ((with_reducible refine gate_store (t := 35) (p := 4) (v := .tmp 66) rfl ?_); refine put_whole_k (q := q) HF B4 ?hg (ty := 35) (x := .tmp 4) (y := .tmp 66) ?ho ?hd #[.slice A (n) c, .slice A64 n64 c64] rfl rfl (by kernel_rfl) rfl ?h1 ?hu ?_; (case ho => rfl); (case hd => rfl); (case hg => rfl); (case h1 => simp [Value.oneCell']); (case hu => exact fun h => absurd h (by unfold TE; omega)); intro w_ hb hf hm hk; replace HF := hf; replace LV := LV.mv hm; replace LR := LR.mv hm; replace B5 := B5.other hk (Ne.symm hne); clear hk; clear B4; have B4 := hb; clear hb hf hm))
    refine bodyPost_ret (results_cell_row rfl _ _ gb4 35 #[.slice A (n) c, .slice A64 n64 c64] (0, 0) _ rfl B4.b Try.underlying35 rfl (by kernel_rfl)) rfl ?_
    exact ⟨_, _, _, _, _, _, rfl, by omega, by have := HX.out; omega, h64, LV, LR, Fr.more HF (by have := HX.out; omega)⟩
end Go.Proofs.Ytnidjlhbejifoaa.XFnSameRun
