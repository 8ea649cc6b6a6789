/- spec.l2Rules over rows told by type.
Conditions: each theorem's own. -/
import Derived.WalkMore
import Derived.Test.YtnidjlhbejifoaaRWhen
import Derived.Test.YtnidjlhbejifoaaRValue
import Derived.Test.YtnidjlhbejifoaaRTyD
namespace Go.Proofs.Ytnidjlhbejifoaa.XFnSameRun
open Go.RowKit Go.Proofs.YtnidjlhbejifoaaW.PrintWords Go.Proofs.YtnidjlhbejifoaaW.PrintLast Go.Proofs.YtnidjlhbejifoaaW.PrintMore Go.Proofs.YtnidjlhbejifoaaX Ty
attribute [local go_sem] max2_int max_two
set_option linter.unusedVariables false
set_option linter.unusedSimpArgs false
set_option maxHeartbeats 8000000 in
set_option maxRecDepth 100000 in
theorem l2Rules.rel {q : Nat → Prop} {w0 w : World} {g : Nat} {P : Int} (A0 : Option Addr) (n0 c0 : Nat) (m : Int) (hS : St w0 w g P) (hP : P ≤ 700000) (hV : T q w0.heap.size 51 w A0 n0 c0) (h1 : 1 ≤ n0) (hn : n0 ≤ 5) (hm0 : 0 ≤ m) (hm1 : m ≤ 4) (hq : ∀ n, n ≤ 81 → q n) :
  Calls Try.prog 33 #[.pointer (some ⟨g, 0, none⟩), .slice A0 n0 c0, .int .i64 m] w fun e w' => ∃ A n c, e = .returned (.slice A n c) ∧ n ≤ 4 ∧ Lc q w0 w 59 w' A n c ∧ Fr w0 w w' g (P + 2000) := by
 have hu28 := Try.underlying28
 have hu33 := Try.underlying33
 have hu57 := Try.underlying57
 have hu59 := Try.underlying59
 have hu32 := Try.underlying32
 have hu51 := Try.underlying51
 have hu56 := Try.underlying56
 have HF := Fr.start hS
 have HV : Rw q w0 51 w A0 n0 c0 := ⟨hV, TE51⟩
 have HP := Aside0.mk hP
 have HN := Aside0.mk (And.intro h1 (And.intro hn (And.intro hm0 hm1)))
 have HQ := Aside0.mk hq
 clear hS hV hP hn h1 hm0 hm1 hq
 go_enter Try.func33, Try.ntmps33
 go_wp2_with (first | ((with_reducible refine gate_dst (N := 11) rfl ?_); (try (refine gate_guard (by rfl) ?_; dsimp only)); refine new_block (q := q) HF ?hg (N := 11) ?hd (v := fun gb => .slice (some ⟨gb, 0, none⟩) 0 0) (cs := #[]) (t := 59) ?hr ?_; (case hd => rfl); (case hg => rfl); (case hr => first | (go_simp; done) | (go_simp; rfl)); intro gb11 w11 hb hf hm hge; replace HF := hf; replace HV := HV.mv hm; have L7 := Lc.lit (q := q) (k := 0) HF hb (by unfold TE; omega) rfl (by omega) (fun j u h => by simp at h); clear hb hf hm hge))
 go_loopg [7, 8] 5 (fun kq v7 v8 wr => ∃ (A : Option Addr) (n c : Nat) (i : Int), v7 = .slice A n c ∧ v8 = .int .i64 i ∧ Lc q w0 w 59 wr A n c ∧ Rw q w0 51 wr A0 n0 c0 ∧ Fr w0 w wr g (P + 400 * i) ∧ Aside0 (0 ≤ i ∧ (n : Int) = i ∧ n ≤ 4 ∧ i ≤ m ∧ m < i + kq))
 case atStart => exact ⟨_, _, _, 0, rfl, rfl, L7, HV, Fr.more HF (by omega), ⟨by omega, by omega, by omega, by have := HN.out; omega, by have := HN.out; omega⟩⟩
 case round =>
  clear L7 HF HV
  obtain ⟨A, n, c, i, rfl, rfl, L7, HV, HF, HX⟩ := hrel
  obtain ⟨gko, rfl⟩ : ∃ x : Nat, x = gk := ⟨_, rfl⟩
  by_cases hc : i < m
  ·skip
   have cb0 : decide (i < m) = true := decide_eq_true hc
   have HI := Aside0.mk hc
   clear hc
   have hwi : wrap64 (i + 1) = i + 1 := by unfold wrap64; have := HX.out; have := HN.out; omega
   go_wp2_with (first | (go_at_call 37; (with_reducible refine (l2When.rel (q := q) _ _ _ HF.st (by have := HX.out; have := HP.out; have := HN.out; omega) HV.t (by have := HN.out; omega) (by have := HN.out; omega)).mono ?_); rintro e w_ ⟨A19, n19, c19, rfl, h19, hl, hf1⟩; obtain ⟨hf, hm⟩ := HF.via (q := q) hf1; have LW := Lc.base hl HF; replace HF := hf; replace HV := HV.mv hm; replace L7 := L7.mv hm; skip; (try replace B9 := B9.mv hm (by decide)); have H19 := Aside0.mk h19; clear hf hm hf1 hl h19) | ((with_reducible refine gate_dst (N := 9) rfl ?_); (try (refine gate_guard (by rfl) ?_; dsimp only)); refine new_block (q := q) HF ?hg (N := 9) ?hd (v := fun gb => .pointer (some ⟨gb, 0, none⟩)) (cs := #[.slice none 0 0, .slice none 0 0, .slice none 0 0]) (t := 59) ?hr ?_; (case hd => rfl); (case hg => rfl); (case hr => first | (go_simp; done) | (go_simp; rfl)); intro gb9 w9 hb hf hm hge; replace HF := hf; replace HV := HV.mv hm; replace L7 := L7.mv hm; (try replace LW := LW.mv hm); (try replace B9 := B9.mv hm (by decide)); have B9 := hb; clear hb hf hm hge) | ((with_reducible refine gate_store (t := 59) (p := 9) (v := .tmp 20) rfl ?_); refine put_whole (q := q) HF B9 ?hg (ty := 59) (x := .tmp 9) (y := .tmp 20) ?ho ?hd #[.slice A19 n19 c19, .slice none 0 0, .slice none 0 0] rfl rfl (by kernel_rfl) rfl ?h1 ?hu ?_; (case ho => rfl); (case hd => rfl); (case hg => rfl); (case h1 => simp [Value.oneCell']); (case hu => exact fun _ => TC.mod rfl (TC.rule (HQ.out _ (by have := H19.out; omega)) (HQ.out _ (by omega)) (HQ.out _ (by omega)) LW.t T.nil T.nil)); intro w_ hb hf hm; replace HF := hf; replace HV := HV.mv hm; replace L7 := L7.mv hm; (try replace LW := LW.mv hm); (try replace B9 := B9.mv hm (by decide)); clear B9; have B9 := hb; clear hb hf hm))
   obtain ⟨wo, rfl⟩ : ∃ wo : World, wo = wr := ⟨_, rfl⟩
   go_loopg [10] (n0 + 1) (fun kq v10 wr => ∃ (As : Option Addr) (ns cs : Nat) (At : Option Addr) (nt ct : Nat) (v : Int), v10 = .int .i64 v ∧ Bk w g 59 wr gb9 #[.slice A19 n19 c19, .slice As ns cs, .slice At nt ct] ∧ Lc q w0 w 54 wr A19 n19 c19 ∧ Lc q w0 w 3 wr As ns cs ∧ Lc q w0 w 56 wr At nt ct ∧ Lc q w0 w 59 wr A n c ∧ Rw q w0 51 wr A0 n0 c0 ∧ Fr w0 w wr g (P + 400 * i + 10 + 72 * v) ∧ Aside0 (0 ≤ v ∧ v ≤ n0 ∧ (ns : Int) ≤ v ∧ (nt : Int) ≤ v ∧ (n0 : Int) < v + kq))
   case atStart => exact ⟨_, _, _, _, _, _, 0, rfl, B9, LW, Lc.nil 3 TE3 _, Lc.nil 56 TE56 _, L7, HV, Fr.more HF (by omega), ⟨by omega, by omega, by omega, by omega, by omega⟩⟩
   case round =>
    clear L7 HF HV LW B9
    obtain ⟨As, ns, cs, At, nt, ct, v, rfl, B9, LW, LS, LT, L7, HV, HF, HY⟩ := hrel
    have hv0 := HY.out.1
    by_cases hc : v < (n0 : Int)
    ·skip
     have cb0 : decide (v < (n0 : Int)) = true := decide_eq_true hc
     have hwn : wrap64 ((n0 : Int) - 1) = (n0 : Int) - 1 := by unfold wrap64; have := HN.out; omega
     obtain ⟨b1, e1⟩ : ∃ b1, (v == (n0 : Int) - 1) = b1 := ⟨_, rfl⟩
     obtain ⟨b2, e2⟩ : ∃ b2, ((ns : Int) == 0) = b2 := ⟨_, rfl⟩
     have HI2 := Aside0.mk hc
     clear hc
     have hwv : wrap64 (v + 1) = v + 1 := by unfold wrap64; have := HY.out; have := HN.out; omega
     have hcz1 := (B9.cell 1).trans (show _ = some (.slice As ns cs) from rfl)
     go_wp2_with (first | (go_at_call 11; (with_reducible refine (pickT q _ HF (by have := HX.out; have := HY.out; have := HP.out; have := HN.out; omega)).mono ?_); rintro e w_ ⟨r31, rfl, hr0, hr1, hf, hm⟩; replace HF := hf; replace LW := LW.mv hm; replace LS := LS.mv hm; replace LT := LT.mv hm; replace L7 := L7.mv hm; replace HV := HV.mv hm; replace B9 := B9.mv hm (by decide); clear hr0 hr1; clear hf hm; (try clear hcz1); have hcz1 := (B9.cell 1).trans (show _ = some (.slice As ns cs) from rfl)) | ((with_reducible refine gate_builtin (b := .append) (xs := #[.tmp 52, .tmp 54]) rfl ?_); (try (refine gate_guard (by rfl) ?_; dsimp only)); at_builtin; refine app_row HF rfl (.tmp 52) (.tmp 54) 28 (e := 3) (z := .int .i64 0) (bytes := 8) LS rfl Try.underlying28 info3 rfl (by decide) [_] rfl rfl rfl ?h1 ?ht ?hl ?_; (case h1 => simp [Value.oneCell']); (case ht => exact TC.one _); (case hl => have := HY.out; have := HN.out; omega); intro A_ c_ w_ hl hf hm; replace HF := hf; replace LW := LW.mv hm; replace LT := LT.mv hm; replace L7 := L7.mv hm; replace HV := HV.mv hm; replace B9 := B9.mv hm (by decide); clear LS; have LS := hl; clear hl hf hm; skip) | ((with_reducible refine gate_store (t := 28) (p := 56) (v := .tmp 55) rfl ?_); refine put_block (q := q) HF B9 ?hg (t := 28) (p := 56) (v := .tmp 55) ?ho ?hd 1 (.slice A_ (ns + 1) c_) ?hr ?hu ?_; (case ho => rfl); (case hd => rfl); (case hg => rfl); (case hr => have hcz_ := B9.cell 1; have hfz_ := B9.free 1; first | (go_simp; done) | (go_simp; rfl)); (case hu => exact (fun _ => TC.r1 (HQ.out _ (by have := HY.out; have := HN.out; omega)) LS.t)); intro w_ hb hf hm; replace HF := hf; replace LW := LW.mv hm; replace LS := LS.mv hm; replace LT := LT.mv hm; replace L7 := L7.mv hm; replace HV := HV.mv hm; clear B9; have B9 : Bk w g 59 w_ gb9 #[.slice A19 n19 c19, .slice A_ (ns + 1) c_, .slice At nt ct] := hb; clear hb hf hm; (try clear hcz1); have hcz1 := (B9.cell 1).trans (show _ = some (.slice A_ (ns + 1) c_) from rfl)))
     all_goals try (go_roundg (gk - 1); (case measure => have := HY.out; have := HI2.out; omega); (case rel => exact ⟨_, _, _, _, _, _, v + 1, (by first | rfl | rw [hwv]), B9, LW, LS, LT, L7, HV, Fr.more HF (by omega), ⟨by omega, by have := HY.out; have := HI2.out; omega, by have := HY.out; omega, by have := HY.out; omega, by have := HY.out; omega⟩⟩))
     all_goals
      obtain ⟨A2_, c2_, hA2⟩ : ∃ A2_ c2_, A2_ = A_ ∧ c2_ = c_ := ⟨_, _, rfl, rfl⟩
      obtain ⟨rfl, rfl⟩ := hA2
      replace LW := LW.mv (Mv.drew (g := g))
      replace LS := LS.mv (Mv.drew (g := g))
      replace LT := LT.mv (Mv.drew (g := g))
      replace L7 := L7.mv (Mv.drew (g := g))
      replace HV := HV.mv (Mv.drew (g := g))
      replace B9 := B9.mv (Mv.drew (q := q) (w0 := w0)) (by decide)
      replace HF := HF.drew
      refine start_ (n := 10) (S := fun w' => w'.cell? ⟨gb9, 2, none⟩ = some (.slice At nt ct)) (ds := [9]) (ms 10 0) (by kernel_rfl) rfl rfl ((B9.cell 2).trans rfl) (fun hHeld => ?_)
      refine pure_ (i := 0) (N := some 57) (v := ?_) (a' := ?_) (ms 10 1) rfl rfl (by kernel_rfl) (fun _ _ _ h => h) (Or.inl ⟨by rfl, ?_⟩) ?_ ?_
      rotate_left
      ·intro w'
       go_simp
       with_reducible rfl
      rotate_left
      ·simp only [Act.put, List.setIfInBounds_toArray, List.set_cons_zero, List.set_cons_succ, i64_w]
       rfl
      refine pure_ (i := 2) (N := some 59) (v := ?_) (a' := ?_) (ms 10 5) rfl rfl (by kernel_rfl) (fun _ _ _ h => h) (Or.inl ⟨by rfl, ?_⟩) ?_ ?_
      rotate_left
      ·intro w'
       go_simp
       with_reducible rfl
      rotate_left
      ·simp only [Act.put, List.setIfInBounds_toArray, List.set_cons_zero, List.set_cons_succ, i64_w]
       rfl
      refine pure_ (i := 3) (N := some 60) (v := ?_) (a' := ?_) (ms 10 13) rfl rfl (by kernel_rfl) (fun _ _ _ h => h) (Or.inl ⟨by rfl, ?_⟩) ?_ ?_
      rotate_left
      ·intro w'
       go_simp
       with_reducible rfl
      rotate_left
      ·simp only [Act.put, List.setIfInBounds_toArray, List.set_cons_zero, List.set_cons_succ, i64_w]
       rfl
      refine pure_ (i := 4) (N := some 61) (v := ?_) (a' := ?_) (ms 10 29) rfl rfl (by kernel_rfl) (fun _ _ _ h => h) (Or.inl ⟨by rfl, ?_⟩) ?_ ?_
      rotate_left
      ·intro w'
       go_simp
       with_reducible rfl
      rotate_left
      ·simp only [Act.put, List.setIfInBounds_toArray, List.set_cons_zero, List.set_cons_succ, i64_w]
       rfl
      refine take_ (i := 1) (N := some 58) (v := ?_) (a' := ?_) (ms 10 31) rfl rfl (by kernel_rfl) (fun _ _ _ h => h) (Or.inl ⟨by rfl, ?_⟩) hHeld ?_ ?_
      rotate_left
      ·intro w' s0
       go_simp
       with_reducible rfl
      rotate_left
      ·simp only [Act.put, List.setIfInBounds_toArray, List.set_cons_zero, List.set_cons_succ, i64_w]
       rfl
      refine one_ (i := 5) (N := some 62) (ms 10 63) rfl rfl (by kernel_rfl) (by decide) (fun K hK => ?_)
      refine goes_ Try.func38 (by kernel_rfl) rfl #[.pointer (some ⟨g, 0, none⟩), .slice A0 n0 c0, .int .i64 v] (by rfl) rfl rfl (by simp only [List.map_toArray, List.map_cons, List.map_nil]; rfl) ?_
      with_reducible refine (l2Value.rel (q := q) _ _ _ v HF.st (by have := HX.out; have := HY.out; have := HP.out; have := HN.out; omega) HV.t HY.out.1 HI2.out (by have := HN.out; omega)).mono ?_
      rintro e w62 ⟨A62, n62, c62, rfl, h62, hl, hf1⟩
      refine ⟨_, rfl, ?_⟩
      obtain ⟨hf, hm⟩ := HF.via (q := q) hf1
      have L62 := Lc.base hl HF
      replace HF := hf
      replace LW := LW.mv hm
      replace LS := LS.mv hm
      replace LT := LT.mv hm
      replace L7 := L7.mv hm
      replace HV := HV.mv hm
      replace B9 := B9.mv hm (by decide)
      clear hf hm hf1 hl
      refine hK.out _ _ ((B9.cell 2).trans rfl) (fun hHeld => ?_)
      clear hK K
      refine norm_ (a' := ?_) ?_ ?_
      rotate_left
      ·show Act.put _ (some 62) _ = _
       simp only [Act.put, List.setIfInBounds_toArray, List.set_cons_zero, List.set_cons_succ, i64_w]
       rfl
      refine one_ (i := 6) (N := some 63) (ms 10 127) rfl rfl (by kernel_rfl) (by decide) (fun K hK => ?_)
      refine new_block_step (q := q) HF ?hw (N := 63) ?hd (v := fun gb => .slice (some ⟨gb, 0, none⟩) 1 1) (cs := #[.slice A62 n62 c62]) (t := 56) ?hr ?_
      case hd => rfl
      case hw => rfl
      case hr => first | (go_simp; done) | (go_simp; rfl)
      intro gb63 w63 hb hf hm hge
      replace HF := hf
      replace LW := LW.mv hm
      replace LS := LS.mv hm
      replace LT := LT.mv hm
      replace L7 := L7.mv hm
      replace HV := HV.mv hm
      replace L62 := L62.mv hm
      replace B9 := B9.mv hm (by decide)
      have B63 := hb
      clear hb hf hm hge
      refine hK.out _ _ ((B9.cell 2).trans rfl) (fun hHeld => ?_)
      clear hK K
      refine norm_ (a' := ?_) ?_ ?_
      rotate_left
      ·show Act.put _ (some 63) _ = _
       simp only [Act.put, List.setIfInBounds_toArray, List.set_cons_zero, List.set_cons_succ, i64_w]
       rfl
      refine one_ (i := 7) (N := some 64) (ms 10 255) rfl rfl (by kernel_rfl) (by decide) (fun K hK => ?_)
      refine app_row_step HF (by rfl) (.tmp 58) (.tmp 63) 57 (e := 56) (z := .slice none 0 0) (bytes := 24) LT rfl Try.underlying57 info56 rfl (by decide) [.slice A62 n62 c62] rfl rfl B63 rfl ?h1 ?ht ?hl ?_
      case h1 => simp [Value.oneCell']
      case ht => exact TC.terms (HQ.out _ (by omega)) L62.t
      case hl => have := HY.out; have := HN.out; omega
      intro A_ c_ w64 hl hf hm
      replace HF := hf
      replace LW := LW.mv hm
      replace LS := LS.mv hm
      replace L7 := L7.mv hm
      replace HV := HV.mv hm
      replace L62 := L62.mv hm
      replace B9 := B9.mv hm (by decide)
      clear LT
      have LT := hl
      clear hl hf hm
      refine hK.out _ _ ((B9.cell 2).trans rfl) (fun hHeld => ?_)
      clear hK K
      refine norm_ (a' := ?_) ?_ ?_
      rotate_left
      ·show Act.put _ (some 64) _ = _
       simp only [Act.put, List.setIfInBounds_toArray, List.set_cons_zero, List.set_cons_succ, i64_w]
       rfl
      refine pure_ (i := 8) (N := some 65) (v := ?_) (a' := ?_) (ms 10 511) rfl rfl (by kernel_rfl) (fun _ _ _ h => h) (Or.inl ⟨by rfl, ?_⟩) ?_ ?_
      rotate_left
      ·intro w'
       go_simp
       with_reducible rfl
      rotate_left
      ·simp only [Act.put, List.setIfInBounds_toArray, List.set_cons_zero, List.set_cons_succ, i64_w]
       rfl
      refine last_ (i := 9) (N := none) (ms 10 1023) rfl rfl (by kernel_rfl) (by decide) (fun K hK => ?_)
      have hcz_ := B9.cell 2
      have hfz_ := B9.free 2
      refine put_block_step (q := q) HF B9 ?hw ?hd 2 (.slice A_ (nt + 1) c_) ?hr ?hu ?_
      case hd => rfl
      case hw => rfl
      case hr => first | (go_simp; done) | (go_simp; rfl)
      case hu => exact (fun _ => TC.r2 (HQ.out _ (by have := HY.out; have := HN.out; omega)) LT.t)
      clear hcz_ hfz_
      intro w65 hb hf hm
      replace HF := hf
      replace LW := LW.mv hm
      replace LS := LS.mv hm
      replace LT := LT.mv hm
      replace L7 := L7.mv hm
      replace HV := HV.mv hm
      replace L62 := L62.mv hm
      clear B9
      have B9 : Bk w g 59 w65 gb9 #[.slice A19 n19 c19, .slice A2_ (ns + 1) c2_, .slice A_ (nt + 1) c_] := hb
      clear hb hf hm
      refine hK.out _ _ ?_
      clear hK K
      refine done_ (by kernel_rfl) ?_
      go_wp2_with (fail)
      go_roundg (gk - 1)
      case measure => have := HY.out; have := HI2.out; omega
      case rel => exact ⟨_, _, _, _, _, _, v + 1, (by first | rfl | rw [hwv]), B9, LW, LS, LT, L7, HV, Fr.more HF (by omega), ⟨by omega, by have := HY.out; have := HI2.out; omega, by have := HY.out; omega, by have := HY.out; omega, by have := HY.out; omega⟩⟩
    ·skip
     have cb0 : decide (v < (n0 : Int)) = false := decide_eq_false hc
     go_wp2_with (first | ((with_reducible refine gate_dst (N := 67) rfl ?_); refine load_whole B9 ?hg (N := 67) ?hd 59 (.tmp 9) ?ho rfl Try.underlying59 rfl (by kernel_rfl) ?_; (case ho => rfl); (case hd => rfl); (case hg => rfl)) | ((with_reducible refine gate_builtin (b := .append) (xs := #[.tmp 66, .tmp 68]) rfl ?_); (try (refine gate_guard (by rfl) ?_; dsimp only)); at_builtin; refine app_row HF rfl (.tmp 66) (.tmp 68) 33 (e := 59) (z := .agg #[.slice none 0 0, .slice none 0 0, .slice none 0 0]) (bytes := 72) L7 rfl Try.underlying33 info59 rfl (by decide) [_, _, _] rfl rfl rfl ?h1 ?ht ?hl ?_; (case h1 => simp [Value.oneCell']); (case ht => exact TC.rule (HQ.out _ (by have := H19.out; omega)) (HQ.out _ (by have := HY.out; have := HN.out; omega)) (HQ.out _ (by have := HY.out; have := HN.out; omega)) LW.t LS.t LT.t); (case hl => have := HX.out; omega); intro A_ c_ w_ hl hf hm; replace HF := hf; replace LW := LW.mv hm; replace LS := LS.mv hm; replace LT := LT.mv hm; replace HV := HV.mv hm; clear B9; clear L7; have L7 := hl; clear hl hf hm; skip))
     go_roundg (gko - 1)
     case measure => have := HX.out; have := HI.out; omega
     case rel => exact ⟨_, _, _, i + 1, rfl, (by first | rfl | rw [hwi]), L7, HV, Fr.more HF (by have := HY.out; have := HN.out; omega), ⟨by have := HX.out; omega, by have := HX.out; omega, by have := HX.out; have := HI.out; have := HN.out; omega, by have := HI.out; omega, by have := HX.out; omega⟩⟩
  ·skip
   have cb0 : decide (i < m) = false := decide_eq_false hc
   go_wp2_with (fail)
   go_ret
   exact ⟨_, _, _, rfl, by have := HX.out; omega, L7, Fr.more HF (by have := HX.out; have := HN.out; omega)⟩
end Go.Proofs.Ytnidjlhbejifoaa.XFnSameRun
