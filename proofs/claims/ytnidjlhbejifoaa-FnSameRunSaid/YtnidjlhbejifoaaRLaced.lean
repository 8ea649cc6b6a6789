/- spec.l3Laced over rows told by type.
Conditions: each theorem's own. -/
import Derived.WalkMore
import Derived.Test.YtnidjlhbejifoaaRLasso
import Derived.Test.YtnidjlhbejifoaaRAny
import Derived.Test.YtnidjlhbejifoaaRSome
namespace Go.Proofs.Ytnidjlhbejifoaa.XFnSameRun
open Go.RowKit Go.Proofs.YtnidjlhbejifoaaW.PrintWords Go.Proofs.YtnidjlhbejifoaaW.PrintLast Go.Proofs.YtnidjlhbejifoaaW.PrintMore Go.Proofs.YtnidjlhbejifoaaX Ty
attribute [local go_sem] max2_int max_two
set_option linter.unusedVariables false
set_option linter.unusedSimpArgs false
theorem QV.q1 {vars : List S51} {rules : List S59} (h : GoodSys vars rules) : ∀ n, QV vars n → Q1 n := QV.le h
theorem sysT {q : Nat → Prop} {w0 w W : World} {g n0 c0 n1 c1 : Nat} {P : Int} {A0 A1 : Option Addr} (HF : Fr w0 w W g P) (LV : Rw q w0 51 W A0 n0 c0) (LR : Rw Q1 w0 59 W A1 n1 c1) (h0 : n0 ≤ 5) (h1 : n1 ≤ 8) :
  Calls Try.prog 23 #[.agg #[.slice A0 n0 c0, .slice A1 n1 c1]] W fun e W1 => ∃ b : Bool, e = .returned (.bool b) ∧ (b = true → ∃ vars rules, n0 = vars.length ∧ n1 = rules.length ∧ Sys g W1 A0 c0 vars A1 c1 rules) ∧ Fr w0 w W1 g P ∧ Mv q w0 g 0 W W1 := by
 obtain ⟨vars, rfl, fv⟩ := LV.t.c51
 obtain ⟨rules, rfl, fr, hs⟩ := LR.t.c59
 have hs2 : ∀ r ∈ rules, lens 1000 r := fun r hr => by
  obtain ⟨a, b, c, d⟩ := hs r hr
  exact ⟨a, b, c, d⟩
 obtain ⟨b, hb1, hb2⟩ := sysValid_f (k := 5001) (vars := vars) (rules := rules) (by omega) (by omega) (by omega) hs2
 refine (spec_SystemValid.calls 5001 A0 c0 vars A1 c1 rules b W (Kd.F_now fv) LV.t.le (Kd.F_now fr) LR.t.le hb1).mono ?_
 rintro e W1 ⟨rfl, hbl⟩
 have hne := okT_ne HF.st
 refine ⟨b, rfl, fun hb => ⟨vars, rules, rfl, rfl, ⟨fun W2 hk => Kd.F_now (Kd.F_keep (Kd.F_below fv hbl) hk hne), fun W2 hk => Kd.F_now (Kd.F_keep (Kd.F_below fr hbl) hk hne), LV.t.le, LR.t.le, hb2 hb, hs2, h1, fun k hk => ?_⟩⟩, HF.belowM hbl⟩
 obtain ⟨b2, hb3, _⟩ := sysValid_f (k := k) (vars := vars) (rules := rules) (by omega) (by omega) (by omega) hs2
 have hle : ∀ d, spec_SystemValid.f (5001 + d) vars rules = some b := by
  intro d
  induction d with
  | zero => exact hb1
  | succ d ih => exact spec_SystemValid.mono _ _ _ _ ih
 have h5 := hle (k - 5001)
 rw [show 5001 + (k - 5001) = k from by omega] at h5
 rw [h5, hb]
/-- The reader, just opened. -/
theorem openT {w0 W : World} {c0 : Nat} {A0 : Option Addr} {l : List Int} (hB : Below w0.heap.size w0 W) (hr : Kd.C (Kd.int .u8) w0 A0 l.length l) (hc : l.length ≤ c0) (hw : ∀ x ∈ l, (Lit.int .u8 x).wf = true) :
  Calls Try.prog 21 #[.slice A0 l.length c0] W fun e W1 => ∃ g : Nat, e = .returned (.pointer (some ⟨g, 0, none⟩)) ∧ St w0 W1 g 0 ∧ Below W.heap.size W W1 := by
 obtain ⟨b, hb, h1, h2⟩ := open_f hw
 refine (spec_l40Open.calls A0 c0 l b 0 w0 W hB hr hc hb).mono ?_
 rintro e W1 ⟨g, rfl, hI, hb1, hb2⟩
 exact ⟨g, rfl, ⟨⟨b, 0, hI, ⟨h1, h2⟩, Int.le_refl _, Int.le_refl _⟩, hb1⟩, hb2⟩

set_option maxHeartbeats 8000000 in
set_option maxRecDepth 100000 in
theorem l3Laced.rel {w0 : World} (Ac : Option Addr) (cc : Nat) (code : List Int) (hr : Kd.C (Kd.int .u8) w0 Ac code.length code) (hcc : code.length ≤ cc) (hw : ∀ x ∈ code, (Lit.int .u8 x).wf = true) :
  Calls Try.prog 9 #[.slice Ac code.length cc] w0 fun e w' => ∃ g A0 n0 c0 A1 n1 c1 A n c A' n' c', e = .returned (.tuple #[.pointer (some ⟨g, 0, none⟩), .agg #[.slice A0 n0 c0, .slice A1 n1 c1], .slice A n c, .slice A' n' c']) ∧ n0 ≤ 5 ∧ n ≤ 30 ∧ n' ≤ 30 ∧ Rw Q1 w0 51 w' A0 n0 c0 ∧ Rw Q1 w0 28 w' A n c ∧ Rw Q1 w0 28 w' A' n' c' ∧ St w0 w' g 2300 := by
 have hu28 := Try.underlying28
 have hu33 := Try.underlying33
 have hu35 := Try.underlying35
 have hu23 := Try.underlying23
 have hu59 := Try.underlying59
 have hu32 := Try.underlying32
 have hu51 := Try.underlying51
 have HR := Aside0.mk hr
 have HC := Aside0.mk hcc
 have HW := Aside0.mk hw
 clear hr hcc hw
 go_enter Try.func9, Try.ntmps9
 go_wp2_with (first | (go_at_call 24; have hb_ : b16 = true := (by first | assumption | simp_all); obtain ⟨vars, rules, hv_, hr_, HY0⟩ := HS.out hb_; subst hv_; subst hr_; clear hb_; (with_reducible refine (l3Lasso.rel _ _ _ _ _ _ HF.st (by omega) HY0).mono ?_); rintro e w_ ⟨A25, n25, c25, A26, n26, c26, rfl, h25, h26, h27, hl, hl2, hf1⟩; obtain ⟨hf, hm⟩ := HF.via (q := Q1) hf1; have LS := (Lc.base hl HF).mono (QV.q1 HY0.good); have LL := (Lc.base hl2 HF).mono (QV.q1 HY0.good); replace HF := hf; replace LV := LV.mv hm; replace LR := LR.mv hm; replace B3 := B3.mv hm (by decide); replace B7 := B7.mv hm (by decide); have H25 := Aside0.mk (And.intro h25 (And.intro h26 h27)); have HV5 := Aside0.mk HY0.good.len; clear hf hm hf1 hl hl2 h25 h26 h27 HS HY0) | ((with_reducible refine gate_dst (N := 24) rfl ?_); refine load_whole B7 ?hg (N := 24) ?hd 35 (.tmp 7) ?ho rfl Try.underlying35 rfl (by kernel_rfl) ?_; (case ho => rfl); (case hd => rfl); (case hg => rfl)) | ((with_reducible refine gate_dst (N := 3) rfl ?_); (try (refine gate_guard (by rfl) ?_; dsimp only)); refine box_event ?hg (N := 3) ?hd (cs := #[.slice none 0 0, .slice none 0 0]) (t := 35) ?hr ?_; (case hd => rfl); (case hg => rfl); (case hr => first | (go_simp; done) | (go_simp; rfl)); intro gb3 hg w3 hbox hb; have B3 := Aside0.mk hbox; have H3 := Aside0.mk hb; have HG3 := Aside0.mk (show w0.heap.size ≤ gb3 from (by omega)); clear hbox hg hb) | (go_at_call 21; (with_reducible refine (openT H3.out HR.out HC.out HW.out).mono ?_); rintro e w_ ⟨g, rfl, hs, hb⟩; have HF := Fr.first hs; have hb3 := blk_below B3.out hb; clear B3; have B3 : Bk w0 g 35 w_ gb3 #[.slice none 0 0, .slice none 0 0] := ⟨hb3, (by obtain ⟨⟨b_, p_, ⟨A_, c_, hg_, _⟩, _⟩, _⟩ := hs; exact blk_ne hb3 hg_ (by decide)), (by have := H3.out.size; have := blk_lt hb3; exact HG3.out)⟩; clear hs hb hb3 H3 HG3) | (go_at_call 22; (with_reducible refine (l2Any.rel 40 HF.st (by omega)).mono ?_); rintro e w_ ⟨A0, n0, c0, A1, n1, c1, rfl, h0, h1, LV, LR, hs, hk⟩; have b3 := hk.h gb3 _ B3.ne B3.lt B3.b; have B3' : Bk w0 g 35 w_ gb3 #[.slice none 0 0, .slice none 0 0] := ⟨b3, B3.ne, B3.new⟩; clear B3; have B3 := B3'; have HF := Fr.first hs; have HN := Aside0.mk (And.intro h0 h1); clear B3' b3 h0 h1 hs hk) | ((with_reducible refine gate_dst (N := 7) rfl ?_); (try (refine gate_guard (by rfl) ?_; dsimp only)); refine new_block (q := Q1) HF ?hg (N := 7) ?hd (v := fun gb => .pointer (some ⟨gb, 0, none⟩)) (cs := #[.slice none 0 0, .slice none 0 0]) (t := 35) ?hr ?_; (case hd => rfl); (case hg => rfl); (case hr => first | (go_simp; done) | (go_simp; rfl)); intro gb7 w7 hb hf hm hge; have hne : gb3 ≠ gb7 := (by have := B3.lt; omega); replace HF := hf; replace LV := LV.mv hm; replace LR := LR.mv hm; replace B3 := B3.mv hm (by decide); have B7 := hb; clear hb hf hm hge) | ((with_reducible refine gate_store (t := 35) (p := 7) (v := .tmp 14) rfl ?_); refine put_whole_k (q := Q1) HF B7 ?hg (ty := 35) (x := .tmp 7) (y := .tmp 14) ?ho ?hd #[.slice A0 n0 c0, .slice A1 n1 c1] rfl rfl (by kernel_rfl) rfl ?h1 ?hu ?_; (case ho => rfl); (case hd => rfl); (case hg => rfl); (case h1 => simp [Value.oneCell']); (case hu => exact fun h => absurd h (by unfold TE; omega)); intro w_ hb hf hm hk; replace HF := hf; replace LV := LV.mv hm; replace LR := LR.mv hm; replace B3 := B3.other hk hne; clear hk; clear B7; have B7 := hb; clear hb hf hm) | ((with_reducible refine gate_dst (N := 15) rfl ?_); refine load_whole B7 ?hg (N := 15) ?hd 35 (.tmp 7) ?ho rfl Try.underlying35 rfl (by kernel_rfl) ?_; (case ho => rfl); (case hd => rfl); (case hg => rfl)) | (go_at_call 23; (with_reducible refine (sysT HF LV LR (by have := HN.out; omega) (by have := HN.out; omega)).mono ?_); rintro e w_ ⟨b16, rfl, hsys, hf, hm⟩; replace HF := hf; replace LV := LV.mv hm; replace LR := LR.mv hm; replace B3 := B3.mv hm (by decide); replace B7 := B7.mv hm (by decide); have HS := Aside0.mk hsys; clear hsys; clear hf hm))
 ·skip
  clear HS
  replace LV := LV.mv (Mv.drew (g := g))
  replace LR := LR.mv (Mv.drew (g := g))
  replace B3 := B3.mv (Mv.drew (q := Q1) (w0 := w0)) (by decide)
  replace B7 := B7.mv (Mv.drew (q := Q1) (w0 := w0)) (by decide)
  replace HF := HF.drew
  refine start_ (n := 8) (S := fun w' => w'.cell? ⟨gb7, 0, none⟩ = some (.slice A0 n0 c0) ∧ w'.cell? ⟨gb7, 1, none⟩ = some (.slice A1 n1 c1)) (ds := []) (ms 8 0) (by kernel_rfl) rfl rfl ⟨(B7.cell 0).trans rfl, (B7.cell 1).trans rfl⟩ (fun hHeld => ?_)
  refine pure_ (i := 0) (N := some 18) (v := ?_) (a' := ?_) (ms 8 1) rfl rfl (by kernel_rfl) (fun _ _ _ h => h) (Or.inl ⟨by rfl, ?_⟩) ?_ ?_
  rotate_left
  ·intro w'
   go_simp
   with_reducible rfl
  rotate_left
  ·simp only [Act.put, List.setIfInBounds_toArray, List.set_cons_zero, List.set_cons_succ, i64_w]
   rfl
  refine pure_ (i := 4) (N := some 2) (v := ?_) (a' := ?_) (ms 8 17) rfl rfl (by kernel_rfl) (fun _ _ _ h => h) (Or.inl ⟨by rfl, ?_⟩) ?_ ?_
  rotate_left
  ·intro w'
   go_simp
   with_reducible rfl
  rotate_left
  ·simp only [Act.put, List.setIfInBounds_toArray, List.set_cons_zero, List.set_cons_succ, i64_w]
   rfl
  refine take_ (i := 1) (N := some 19) (v := ?_) (a' := ?_) (ms 8 19) rfl rfl (by kernel_rfl) (fun _ _ _ h => h) (Or.inl ⟨by rfl, ?_⟩) hHeld ?_ ?_
  rotate_left
  ·rintro w' ⟨s0, s1⟩
   go_simp
   with_reducible rfl
  rotate_left
  ·simp only [Act.put, List.setIfInBounds_toArray, List.set_cons_zero, List.set_cons_succ, i64_w]
   rfl
  refine join_ (σ := Nat × Nat) 1 (ms 8 127) (fun s => [(20, .slice (some ⟨s.1, 0, none⟩) 1 1), (21, .slice (some ⟨s.2, 0, none⟩) 1 1)]) (fun s w' => Fr w0 w0 w' g (0 + 2110) ∧ Bk w0 g 35 w' gb3 #[.slice A0 n0 c0, .slice A1 n1 c1] ∧ Bk w0 g 35 w' gb7 #[.slice A0 n0 c0, .slice A1 n1 c1] ∧ Lc Q1 w0 w0 28 w' (some ⟨s.2, 0, none⟩) 1 1 ∧ Rw Q1 w0 51 w' A0 n0 c0) ?_ ?_
  rotate_left
  ·intro hCont
   refine two_ (i := 2) (j := 5) (Ni := some 20) (Nj := none) (ms 8 23) (ms 8 51) rfl rfl rfl rfl (by kernel_rfl) (by decide) (by decide) (fun K hK => ?_) (fun K hK => ?_)
   ·skip
    refine new_block_step (q := Q1) HF ?hw (N := 20) ?hd (v := fun gb => .slice (some ⟨gb, 0, none⟩) 1 1) (cs := #[.int .i64 0]) (t := 3) ?hr ?_
    case hd => rfl
    case hw => rfl
    case hr => first | (go_simp; done) | (go_simp; rfl)
    intro gb20 w20 hb hf hm hge
    replace HF := hf
    replace LV := LV.mv hm
    replace LR := LR.mv hm
    replace B3 := B3.mv hm (by decide)
    replace B7 := B7.mv hm (by decide)
    have B20 := hb
    clear hb hf hm hge
    have L20 := Lc.lit (q := Q1) (k := 1) HF B20 TE3 rfl (by omega) (fun j u h => TC.allI (by omega) (by simp [isI]) h)
    clear B20
    refine hK.out _ _ ⟨(B7.cell 0).trans rfl, (B7.cell 1).trans rfl⟩ (fun hHeld => ?_)
    clear hK K
    refine norm_ (a' := ?_) ?_ ?_
    rotate_left
    ·show Act.put _ (some 20) _ = _
     simp only [Act.put, List.setIfInBounds_toArray, List.set_cons_zero, List.set_cons_succ, i64_w]
     rfl
    refine two_ (i := 3) (j := 5) (Ni := some 21) (Nj := none) (ms 8 31) (ms 8 55) rfl rfl rfl rfl (by kernel_rfl) (by decide) (by decide) (fun K hK => ?_) (fun K hK => ?_)
    ·skip
     refine new_block_step (q := Q1) HF ?hw (N := 21) ?hd (v := fun gb => .slice (some ⟨gb, 0, none⟩) 1 1) (cs := #[.slice (some ⟨gb20, 0, none⟩) 1 1]) (t := 28) ?hr ?_
     case hd => rfl
     case hw => rfl
     case hr => first | (go_simp; done) | (go_simp; rfl)
     intro gb21 w21 hb hf hm hge
     replace HF := hf
     replace LV := LV.mv hm
     replace LR := LR.mv hm
     replace L20 := L20.mv hm
     replace B3 := B3.mv hm (by decide)
     replace B7 := B7.mv hm (by decide)
     have B21 := hb
     clear hb hf hm hge
     have L21 := Lc.lit (q := Q1) (k := 1) HF B21 TE28 rfl (by omega) (TC.mod (cs := [.slice (some ⟨gb20, 0, none⟩) 1 1]) rfl (TC.ints (q := Q1) (show (1:Nat) ≤ 1000 by omega) L20.t))
     clear B21
     refine hK.out _ _ ⟨(B7.cell 0).trans rfl, (B7.cell 1).trans rfl⟩ (fun hHeld => ?_)
     clear hK K
     refine norm_ (a' := ?_) ?_ ?_
     rotate_left
     ·show Act.put _ (some 21) _ = _
      simp only [Act.put, List.setIfInBounds_toArray, List.set_cons_zero, List.set_cons_succ, i64_w]
      rfl
     refine one_ (i := 5) (N := none) (ms 8 63) rfl rfl (by kernel_rfl) (by decide) (fun K hK => ?_)
     refine put_whole_step (q := Q1) HF B3 ?hw (ty := 35) (x := .tmp 3) (y := .tmp 19) ?ho ?hd #[.slice A0 n0 c0, .slice A1 n1 c1] rfl rfl (by kernel_rfl) rfl ?h1 ?hu ?_
     case hw => rfl
     case ho => rfl
     case hd => rfl
     case h1 => simp [Value.oneCell']
     case hu => exact fun h => absurd h (by unfold TE; omega)
     intro w19 hb hf hm hk
     replace HF := hf
     replace LV := LV.mv hm
     replace LR := LR.mv hm
     replace L20 := L20.mv hm
     replace L21 := L21.mv hm
     replace B7 := B7.other hk (Ne.symm hne)
     clear B3
     have B3 := hb
     clear hb hf hm hk
     refine hK.out _ _ ⟨(B7.cell 0).trans rfl, (B7.cell 1).trans rfl⟩ (fun hHeld => ?_)
     clear hK K
     refine pure_ (i := 6) (N := some 4) (v := ?_) (a' := ?_) (ms 8 127) rfl rfl (by kernel_rfl) (fun _ _ _ h => h) (Or.inl ⟨by rfl, ?_⟩) ?_ ?_
     rotate_left
     ·intro w'
      go_simp
      with_reducible rfl
     rotate_left
     ·simp only [Act.put, List.setIfInBounds_toArray, List.set_cons_zero, List.set_cons_succ, i64_w]
      rfl
     exact norm_ (by simp only [putAll, Act.put, List.setIfInBounds_toArray, List.set_cons_zero, List.set_cons_succ]) (hCont (gb20, gb21) _ ⟨HF, B3, B7, L21, LV⟩)
    ·skip
     refine put_whole_step (q := Q1) HF B3 ?hw (ty := 35) (x := .tmp 3) (y := .tmp 19) ?ho ?hd #[.slice A0 n0 c0, .slice A1 n1 c1] rfl rfl (by kernel_rfl) rfl ?h1 ?hu ?_
     case hw => rfl
     case ho => rfl
     case hd => rfl
     case h1 => simp [Value.oneCell']
     case hu => exact fun h => absurd h (by unfold TE; omega)
     intro w19 hb hf hm hk
     replace HF := hf
     replace LV := LV.mv hm
     replace LR := LR.mv hm
     replace L20 := L20.mv hm
     replace B7 := B7.other hk (Ne.symm hne)
     clear B3
     have B3 := hb
     clear hb hf hm hk
     refine hK.out _ _ ⟨(B7.cell 0).trans rfl, (B7.cell 1).trans rfl⟩ (fun hHeld => ?_)
     clear hK K
     refine pure_ (i := 6) (N := some 4) (v := ?_) (a' := ?_) (ms 8 119) rfl rfl (by kernel_rfl) (fun _ _ _ h => h) (Or.inl ⟨by rfl, ?_⟩) ?_ ?_
     rotate_left
     ·intro w'
      go_simp
      with_reducible rfl
     rotate_left
     ·simp only [Act.put, List.setIfInBounds_toArray, List.set_cons_zero, List.set_cons_succ, i64_w]
      rfl
     refine one_ (i := 3) (N := some 21) (ms 8 127) rfl rfl (by kernel_rfl) (by decide) (fun K hK => ?_)
     refine new_block_step (q := Q1) HF ?hw (N := 21) ?hd (v := fun gb => .slice (some ⟨gb, 0, none⟩) 1 1) (cs := #[.slice (some ⟨gb20, 0, none⟩) 1 1]) (t := 28) ?hr ?_
     case hd => rfl
     case hw => rfl
     case hr => first | (go_simp; done) | (go_simp; rfl)
     intro gb21 w21 hb hf hm hge
     replace HF := hf
     replace LV := LV.mv hm
     replace LR := LR.mv hm
     replace L20 := L20.mv hm
     replace B3 := B3.mv hm (by decide)
     replace B7 := B7.mv hm (by decide)
     have B21 := hb
     clear hb hf hm hge
     have L21 := Lc.lit (q := Q1) (k := 1) HF B21 TE28 rfl (by omega) (TC.mod (cs := [.slice (some ⟨gb20, 0, none⟩) 1 1]) rfl (TC.ints (q := Q1) (show (1:Nat) ≤ 1000 by omega) L20.t))
     clear B21
     refine hK.out _ _ ⟨(B7.cell 0).trans rfl, (B7.cell 1).trans rfl⟩ (fun hHeld => ?_)
     clear hK K
     refine norm_ (a' := ?_) ?_ ?_
     rotate_left
     ·show Act.put _ (some 21) _ = _
      simp only [Act.put, List.setIfInBounds_toArray, List.set_cons_zero, List.set_cons_succ, i64_w]
      rfl
     exact norm_ (by simp only [putAll, Act.put, List.setIfInBounds_toArray, List.set_cons_zero, List.set_cons_succ]) (hCont (gb20, gb21) _ ⟨HF, B3, B7, L21, LV⟩)
   ·skip
    refine put_whole_step (q := Q1) HF B3 ?hw (ty := 35) (x := .tmp 3) (y := .tmp 19) ?ho ?hd #[.slice A0 n0 c0, .slice A1 n1 c1] rfl rfl (by kernel_rfl) rfl ?h1 ?hu ?_
    case hw => rfl
    case ho => rfl
    case hd => rfl
    case h1 => simp [Value.oneCell']
    case hu => exact fun h => absurd h (by unfold TE; omega)
    intro w19 hb hf hm hk
    replace HF := hf
    replace LV := LV.mv hm
    replace LR := LR.mv hm
    replace B7 := B7.other hk (Ne.symm hne)
    clear B3
    have B3 := hb
    clear hb hf hm hk
    refine hK.out _ _ ⟨(B7.cell 0).trans rfl, (B7.cell 1).trans rfl⟩ (fun hHeld => ?_)
    clear hK K
    refine pure_ (i := 6) (N := some 4) (v := ?_) (a' := ?_) (ms 8 115) rfl rfl (by kernel_rfl) (fun _ _ _ h => h) (Or.inl ⟨by rfl, ?_⟩) ?_ ?_
    rotate_left
    ·intro w'
     go_simp
     with_reducible rfl
    rotate_left
    ·simp only [Act.put, List.setIfInBounds_toArray, List.set_cons_zero, List.set_cons_succ, i64_w]
     rfl
    refine one_ (i := 2) (N := some 20) (ms 8 119) rfl rfl (by kernel_rfl) (by decide) (fun K hK => ?_)
    refine new_block_step (q := Q1) HF ?hw (N := 20) ?hd (v := fun gb => .slice (some ⟨gb, 0, none⟩) 1 1) (cs := #[.int .i64 0]) (t := 3) ?hr ?_
    case hd => rfl
    case hw => rfl
    case hr => first | (go_simp; done) | (go_simp; rfl)
    intro gb20 w20 hb hf hm hge
    replace HF := hf
    replace LV := LV.mv hm
    replace LR := LR.mv hm
    replace B3 := B3.mv hm (by decide)
    replace B7 := B7.mv hm (by decide)
    have B20 := hb
    clear hb hf hm hge
    have L20 := Lc.lit (q := Q1) (k := 1) HF B20 TE3 rfl (by omega) (fun j u h => TC.allI (by omega) (by simp [isI]) h)
    clear B20
    refine hK.out _ _ ⟨(B7.cell 0).trans rfl, (B7.cell 1).trans rfl⟩ (fun hHeld => ?_)
    clear hK K
    refine norm_ (a' := ?_) ?_ ?_
    rotate_left
    ·show Act.put _ (some 20) _ = _
     simp only [Act.put, List.setIfInBounds_toArray, List.set_cons_zero, List.set_cons_succ, i64_w]
     rfl
    refine one_ (i := 3) (N := some 21) (ms 8 127) rfl rfl (by kernel_rfl) (by decide) (fun K hK => ?_)
    refine new_block_step (q := Q1) HF ?hw (N := 21) ?hd (v := fun gb => .slice (some ⟨gb, 0, none⟩) 1 1) (cs := #[.slice (some ⟨gb20, 0, none⟩) 1 1]) (t := 28) ?hr ?_
    case hd => rfl
    case hw => rfl
    case hr => first | (go_simp; done) | (go_simp; rfl)
    intro gb21 w21 hb hf hm hge
    replace HF := hf
    replace LV := LV.mv hm
    replace LR := LR.mv hm
    replace L20 := L20.mv hm
    replace B3 := B3.mv hm (by decide)
    replace B7 := B7.mv hm (by decide)
    have B21 := hb
    clear hb hf hm hge
    have L21 := Lc.lit (q := Q1) (k := 1) HF B21 TE28 rfl (by omega) (TC.mod (cs := [.slice (some ⟨gb20, 0, none⟩) 1 1]) rfl (TC.ints (q := Q1) (show (1:Nat) ≤ 1000 by omega) L20.t))
    clear B21
    refine hK.out _ _ ⟨(B7.cell 0).trans rfl, (B7.cell 1).trans rfl⟩ (fun hHeld => ?_)
    clear hK K
    refine norm_ (a' := ?_) ?_ ?_
    rotate_left
    ·show Act.put _ (some 21) _ = _
     simp only [Act.put, List.setIfInBounds_toArray, List.set_cons_zero, List.set_cons_succ, i64_w]
     rfl
    exact norm_ (by simp only [putAll, Act.put, List.setIfInBounds_toArray, List.set_cons_zero, List.set_cons_succ]) (hCont (gb20, gb21) _ ⟨HF, B3, B7, L21, LV⟩)
  rintro ⟨gb20, gb21⟩ w' ⟨HF, B3, B7, L21, LV⟩
  have hHeld : w'.cell? ⟨gb7, 0, none⟩ = some (.slice A0 n0 c0) ∧ w'.cell? ⟨gb7, 1, none⟩ = some (.slice A1 n1 c1) := ⟨(B7.cell 0).trans rfl, (B7.cell 1).trans rfl⟩
  refine norm_ (a' := ?_) ?_ ?_
  rotate_left
  ·simp only [putAll, Act.put, List.setIfInBounds_toArray, List.set_cons_zero, List.set_cons_succ]
   rfl
  refine pure_ (i := 7) (N := some 5) (v := ?_) (a' := ?_) (ms 8 255) rfl rfl (by kernel_rfl) (fun _ _ _ h => h) (Or.inl ⟨by rfl, ?_⟩) ?_ ?_
  rotate_left
  ·intro w'
   go_simp
   with_reducible rfl
  rotate_left
  ·simp only [Act.put, List.setIfInBounds_toArray, List.set_cons_zero, List.set_cons_succ, i64_w]
   rfl
  refine done_ (by kernel_rfl) ?_
  go_wp2_with (fail)
  refine bodyPost_ret (v := .tuple #[.pointer (some ⟨g, 0, none⟩), .agg #[.slice A0 n0 c0, .slice A1 n1 c1], .slice none 0 0, .slice (some ⟨gb21, 0, none⟩) 1 1]) (by simp [results, Try.results9, asAddr, run_loadVar_row _ gb3 35 35 #[.slice A0 n0 c0, .slice A1 n1 c1] (0, 0) _ B3.b Try.underlying35 rfl (by kernel_rfl)]) rfl ?_
  exact ⟨_, _, _, _, _, _, _, _, _, _, _, _, _, rfl, by have := HN.out; omega, by omega, by omega, LV, ⟨T.nil, TE28⟩, L21.r, St.more HF.st (by omega)⟩
 ·skip
  obtain ⟨ad, rfl⟩ := LL.t.some_ (by have := H25.out; omega)
  have hle := LL.le
  have f0 : (1 ≤ c26) = True := eq_true (by have := H25.out; omega)
  have f1 : ((1 : Int) ≤ (c26 : Int)) = True := eq_true (by have := H25.out; omega)
  have f2 : (1 ≤ n26) = True := eq_true (by have := H25.out; omega)
  have f3 : ((1 : Int) ≤ (n26 : Int)) = True := eq_true (by have := H25.out; omega)
  by_cases h2 : 1 < n26
  ·have e1 : decide (1 < n26) = true := decide_eq_true h2
   have e2 : decide ((1 : Int) < (n26 : Int)) = true := decide_eq_true (by omega)
   have f4 : (c26 = 1) = False := eq_false (by omega)
   have f5 : (1 = c26) = False := eq_false (by omega)
   clear h2 hle
   go_wp2_with (first | (go_at_call 11; have _t := r29; clear _t; (with_reducible refine (pickT Q1 _ HF (by omega)).mono ?_); rintro e w_ ⟨r32, rfl, hr0, hr1, hf, hm⟩; replace HF := hf; replace LV := LV.mv hm; replace LR := LR.mv hm; replace LS := LS.mv hm; replace LL := LL.mv hm; replace B3 := B3.mv hm (by decide); replace B7 := B7.mv hm (by decide); clear hr0 hr1; clear hf hm) | (go_at_call 11; (with_reducible refine (pickT Q1 _ HF (by omega)).mono ?_); rintro e w_ ⟨r29, rfl, hr0, hr1, hf, hm⟩; replace HF := hf; replace LV := LV.mv hm; replace LR := LR.mv hm; replace LS := LS.mv hm; replace LL := LL.mv hm; replace B3 := B3.mv hm (by decide); replace B7 := B7.mv hm (by decide); clear hr0 hr1; clear hf hm) | ((with_reducible refine gate_dst (N := 46) rfl ?_); refine load_whole B7 ?hg (N := 46) ?hd 35 (.tmp 7) ?ho rfl Try.underlying35 rfl (by kernel_rfl) ?_; (case ho => rfl); (case hd => rfl); (case hg => rfl)) | (go_at_call 12; (with_reducible refine (l2Some.rel (q := Q1) _ _ _ _ _ _ HF.st (by omega) LV.t HV5.out.2).mono ?_); rintro e w_ ⟨A47, n47, c47, rfl, h47, hl, hf1⟩; obtain ⟨hf, hm⟩ := HF.via (q := Q1) hf1; have L47 := Lc.base hl HF; replace HF := hf; replace LV := LV.mv hm; replace LR := LR.mv hm; replace LS := LS.mv hm; replace LL := LL.mv hm; replace B3 := B3.mv hm (by decide); replace B7 := B7.mv hm (by decide); have H47 := Aside0.mk (show Q1 n47 from (show n47 ≤ 1000 by omega)); clear hf hm hf1 hl h47) | ((with_reducible refine gate_builtin (b := .append) (xs := #[.tmp 44, .tmp 48]) rfl ?_); (try (refine gate_guard (by rfl) ?_; dsimp only)); at_builtin; refine app_row HF rfl (.tmp 44) (.tmp 48) 23 (e := 28) (z := .slice none 0 0) (bytes := 24) LL rfl Try.underlying23 info28 rfl (by decide) [.slice A47 n47 c47] rfl rfl rfl ?h1 ?ht ?hl ?_; (case h1 => simp [Value.oneCell']); (case ht => exact TC.ints (q := Q1) H47.out L47.t); (case hl => have := H25.out; omega); intro A_ c_ w_ hl hf hm; replace HF := hf; replace LV := LV.mv hm; replace LR := LR.mv hm; replace LS := LS.mv hm; replace L47 := L47.mv hm; replace B3 := B3.mv hm (by decide); replace B7 := B7.mv hm (by decide); clear LL; have LL := hl; clear hl hf hm))
   all_goals
    replace LV := LV.mv (Mv.drew (g := g))
    replace LR := LR.mv (Mv.drew (g := g))
    replace LS := LS.mv (Mv.drew (g := g))
    replace LL := LL.mv (Mv.drew (g := g))
    replace B3 := B3.mv (Mv.drew (q := Q1) (w0 := w0)) (by decide)
    replace B7 := B7.mv (Mv.drew (q := Q1) (w0 := w0)) (by decide)
    replace HF := HF.drew
    refine start_ (n := 8) (S := fun w' => w'.cell? ⟨gb7, 0, none⟩ = some (.slice A0 vars.length c0) ∧ w'.cell? ⟨gb7, 1, none⟩ = some (.slice A1 rules.length c1)) (ds := []) (ms 8 0) (by kernel_rfl) rfl rfl ⟨(B7.cell 0).trans rfl, (B7.cell 1).trans rfl⟩ (fun hHeld => ?_)
    refine pure_ (i := 0) (N := some 50) (v := ?_) (a' := ?_) (ms 8 1) rfl rfl (by kernel_rfl) (fun _ _ _ h => h) (Or.inl ⟨by rfl, ?_⟩) ?_ ?_
    rotate_left
    ·intro w'
     go_simp
     with_reducible rfl
    rotate_left
    ·simp only [Act.put, List.setIfInBounds_toArray, List.set_cons_zero, List.set_cons_succ, i64_w]
     rfl
    refine pure_ (i := 2) (N := some 52) (v := ?_) (a' := ?_) (ms 8 5) rfl rfl (by kernel_rfl) (fun _ _ _ h => h) (Or.inl ⟨by rfl, ?_⟩) ?_ ?_
    rotate_left
    ·intro w'
     go_simp
     with_reducible rfl
    rotate_left
    ·simp only [Act.put, List.setIfInBounds_toArray, List.set_cons_zero, List.set_cons_succ, i64_w]
     rfl
    refine pure_ (i := 3) (N := some 53) (v := ?_) (a' := ?_) (ms 8 13) rfl rfl (by kernel_rfl) (fun _ _ _ h => h) (Or.inl ⟨by rfl, ?_⟩) ?_ ?_
    rotate_left
    ·intro w'
     go_simp
     with_reducible rfl
    rotate_left
    ·simp only [Act.put, List.setIfInBounds_toArray, List.set_cons_zero, List.set_cons_succ, i64_w]
     rfl
    refine pure_ (i := 4) (N := some 2) (v := ?_) (a' := ?_) (ms 8 29) rfl rfl (by kernel_rfl) (fun _ _ _ h => h) (Or.inl ⟨by rfl, ?_⟩) ?_ ?_
    rotate_left
    ·intro w'
     go_simp
     with_reducible rfl
    rotate_left
    ·simp only [Act.put, List.setIfInBounds_toArray, List.set_cons_zero, List.set_cons_succ, i64_w]
     rfl
    refine take_ (i := 1) (N := some 51) (v := ?_) (a' := ?_) (ms 8 31) rfl rfl (by kernel_rfl) (fun _ _ _ h => h) (Or.inl ⟨by rfl, ?_⟩) hHeld ?_ ?_
    rotate_left
    ·rintro w' ⟨s0, s1⟩
     go_simp
     with_reducible rfl
    rotate_left
    ·simp only [Act.put, List.setIfInBounds_toArray, List.set_cons_zero, List.set_cons_succ, i64_w]
     rfl
    refine one_ (i := 5) (N := none) (ms 8 63) rfl rfl (by kernel_rfl) (by decide) (fun K hK => ?_)
    refine put_whole_step (q := Q1) HF B3 ?hw (ty := 35) (x := .tmp 3) (y := .tmp 51) ?ho ?hd #[.slice A0 vars.length c0, .slice A1 rules.length c1] rfl rfl (by kernel_rfl) rfl ?h1 ?hu ?_
    case hw => rfl
    case ho => rfl
    case hd => rfl
    case h1 => simp [Value.oneCell']
    case hu => exact fun h => absurd h (by unfold TE; omega)
    intro w51 hb hf hm hk
    replace HF := hf
    replace LV := LV.mv hm
    replace LR := LR.mv hm
    replace LS := LS.mv hm
    replace LL := LL.mv hm
    replace B7 := B7.other hk (Ne.symm hne)
    clear B3
    have B3 := hb
    clear hb hf hm hk
    refine hK.out _ _ ⟨(B7.cell 0).trans rfl, (B7.cell 1).trans rfl⟩ (fun hHeld => ?_)
    clear hK K
    refine pure_ (i := 6) (N := some 4) (v := ?_) (a' := ?_) (ms 8 127) rfl rfl (by kernel_rfl) (fun _ _ _ h => h) (Or.inl ⟨by rfl, ?_⟩) ?_ ?_
    rotate_left
    ·intro w'
     go_simp
     with_reducible rfl
    rotate_left
    ·simp only [Act.put, List.setIfInBounds_toArray, List.set_cons_zero, List.set_cons_succ, i64_w]
     rfl
    refine pure_ (i := 7) (N := some 5) (v := ?_) (a' := ?_) (ms 8 255) rfl rfl (by kernel_rfl) (fun _ _ _ h => h) (Or.inl ⟨by rfl, ?_⟩) ?_ ?_
    rotate_left
    ·intro w'
     go_simp
     with_reducible rfl
    rotate_left
    ·simp only [Act.put, List.setIfInBounds_toArray, List.set_cons_zero, List.set_cons_succ, i64_w]
     rfl
    refine done_ (by kernel_rfl) ?_
    go_wp2_with (fail)
    first
     | (refine bodyPost_ret (v := .tuple #[.pointer (some ⟨g, 0, none⟩), .agg #[.slice A0 vars.length c0, .slice A1 rules.length c1], .slice A25 n25 c25, .slice (some ad) n26 c26]) ?hres rfl ?_; (case hres => simp [results, Try.results9, asAddr, run_loadVar_row _ gb3 35 35 #[.slice A0 vars.length c0, .slice A1 rules.length c1] (0, 0) _ B3.b Try.underlying35 rfl (by kernel_rfl)]); exact ⟨_, _, _, _, _, _, _, _, _, _, _, _, _, rfl, HV5.out.2, by have := H25.out; omega, by have := H25.out; omega, LV, LS.r, LL.r, St.more HF.st (by omega)⟩)
     | (refine bodyPost_ret (v := .tuple #[.pointer (some ⟨g, 0, none⟩), .agg #[.slice A0 vars.length c0, .slice A1 rules.length c1], .slice A25 n25 c25, .slice A_ (n26 + 1) c_]) ?hres rfl ?_; (case hres => simp [results, Try.results9, asAddr, run_loadVar_row _ gb3 35 35 #[.slice A0 vars.length c0, .slice A1 rules.length c1] (0, 0) _ B3.b Try.underlying35 rfl (by kernel_rfl)]); exact ⟨_, _, _, _, _, _, _, _, _, _, _, _, _, rfl, HV5.out.2, by have := H25.out; omega, by have := H25.out; omega, LV, LS.r, LL.r, St.more HF.st (by omega)⟩)
     | (refine bodyPost_ret (v := .tuple #[.pointer (some ⟨g, 0, none⟩), .agg #[.slice A0 vars.length c0, .slice A1 rules.length c1], .slice A25 n25 c25, .slice none 0 0]) ?hres rfl ?_; (case hres => simp [results, Try.results9, asAddr, run_loadVar_row _ gb3 35 35 #[.slice A0 vars.length c0, .slice A1 rules.length c1] (0, 0) _ B3.b Try.underlying35 rfl (by kernel_rfl)]); exact ⟨_, _, _, _, _, _, _, _, _, _, _, _, _, rfl, HV5.out.2, by have := H25.out; omega, by omega, LV, LS.r, ⟨T.nil, TE28⟩, St.more HF.st (by omega)⟩)
     | (have hsp_ := LL.t.spot_; refine bodyPost_ret (v := .tuple #[.pointer (some ⟨g, 0, none⟩), .agg #[.slice A0 vars.length c0, .slice A1 rules.length c1], .slice A25 n25 c25, .slice (some (ad.add 1)) (n26 - 1) (c26 - 1)]) ?hres rfl ?_; (case hres => simp [results, Try.results9, asAddr, run_loadVar_row _ gb3 35 35 #[.slice A0 vars.length c0, .slice A1 rules.length c1] (0, 0) _ B3.b Try.underlying35 rfl (by kernel_rfl), Addr.add, hsp_]); exact ⟨_, _, _, _, _, _, _, _, _, _, _, _, _, rfl, HV5.out.2, by have := H25.out; omega, by have := H25.out; omega, LV, LS.r, (LL.drop (by have := H25.out; omega)).r, St.more HF.st (by omega)⟩)
  ·have e1 : decide (1 < n26) = false := decide_eq_false h2
   have e2 : decide ((1 : Int) < (n26 : Int)) = false := decide_eq_false (by omega)
   clear h2 hle
   go_wp2_with (first | (go_at_call 11; have _t := r29; clear _t; (with_reducible refine (pickT Q1 _ HF (by omega)).mono ?_); rintro e w_ ⟨r32, rfl, hr0, hr1, hf, hm⟩; replace HF := hf; replace LV := LV.mv hm; replace LR := LR.mv hm; replace LS := LS.mv hm; replace LL := LL.mv hm; replace B3 := B3.mv hm (by decide); replace B7 := B7.mv hm (by decide); clear hr0 hr1; clear hf hm) | (go_at_call 11; (with_reducible refine (pickT Q1 _ HF (by omega)).mono ?_); rintro e w_ ⟨r29, rfl, hr0, hr1, hf, hm⟩; replace HF := hf; replace LV := LV.mv hm; replace LR := LR.mv hm; replace LS := LS.mv hm; replace LL := LL.mv hm; replace B3 := B3.mv hm (by decide); replace B7 := B7.mv hm (by decide); clear hr0 hr1; clear hf hm) | ((with_reducible refine gate_dst (N := 46) rfl ?_); refine load_whole B7 ?hg (N := 46) ?hd 35 (.tmp 7) ?ho rfl Try.underlying35 rfl (by kernel_rfl) ?_; (case ho => rfl); (case hd => rfl); (case hg => rfl)) | (go_at_call 12; (with_reducible refine (l2Some.rel (q := Q1) _ _ _ _ _ _ HF.st (by omega) LV.t HV5.out.2).mono ?_); rintro e w_ ⟨A47, n47, c47, rfl, h47, hl, hf1⟩; obtain ⟨hf, hm⟩ := HF.via (q := Q1) hf1; have L47 := Lc.base hl HF; replace HF := hf; replace LV := LV.mv hm; replace LR := LR.mv hm; replace LS := LS.mv hm; replace LL := LL.mv hm; replace B3 := B3.mv hm (by decide); replace B7 := B7.mv hm (by decide); have H47 := Aside0.mk (show Q1 n47 from (show n47 ≤ 1000 by omega)); clear hf hm hf1 hl h47) | ((with_reducible refine gate_builtin (b := .append) (xs := #[.tmp 44, .tmp 48]) rfl ?_); (try (refine gate_guard (by rfl) ?_; dsimp only)); at_builtin; refine app_row HF rfl (.tmp 44) (.tmp 48) 23 (e := 28) (z := .slice none 0 0) (bytes := 24) LL rfl Try.underlying23 info28 rfl (by decide) [.slice A47 n47 c47] rfl rfl rfl ?h1 ?ht ?hl ?_; (case h1 => simp [Value.oneCell']); (case ht => exact TC.ints (q := Q1) H47.out L47.t); (case hl => have := H25.out; omega); intro A_ c_ w_ hl hf hm; replace HF := hf; replace LV := LV.mv hm; replace LR := LR.mv hm; replace LS := LS.mv hm; replace L47 := L47.mv hm; replace B3 := B3.mv hm (by decide); replace B7 := B7.mv hm (by decide); clear LL; have LL := hl; clear hl hf hm))
   all_goals
    replace LV := LV.mv (Mv.drew (g := g))
    replace LR := LR.mv (Mv.drew (g := g))
    replace LS := LS.mv (Mv.drew (g := g))
    replace LL := LL.mv (Mv.drew (g := g))
    replace B3 := B3.mv (Mv.drew (q := Q1) (w0 := w0)) (by decide)
    replace B7 := B7.mv (Mv.drew (q := Q1) (w0 := w0)) (by decide)
    replace HF := HF.drew
    refine start_ (n := 8) (S := fun w' => w'.cell? ⟨gb7, 0, none⟩ = some (.slice A0 vars.length c0) ∧ w'.cell? ⟨gb7, 1, none⟩ = some (.slice A1 rules.length c1)) (ds := []) (ms 8 0) (by kernel_rfl) rfl rfl ⟨(B7.cell 0).trans rfl, (B7.cell 1).trans rfl⟩ (fun hHeld => ?_)
    refine pure_ (i := 0) (N := some 50) (v := ?_) (a' := ?_) (ms 8 1) rfl rfl (by kernel_rfl) (fun _ _ _ h => h) (Or.inl ⟨by rfl, ?_⟩) ?_ ?_
    rotate_left
    ·intro w'
     go_simp
     with_reducible rfl
    rotate_left
    ·simp only [Act.put, List.setIfInBounds_toArray, List.set_cons_zero, List.set_cons_succ, i64_w]
     rfl
    refine pure_ (i := 2) (N := some 52) (v := ?_) (a' := ?_) (ms 8 5) rfl rfl (by kernel_rfl) (fun _ _ _ h => h) (Or.inl ⟨by rfl, ?_⟩) ?_ ?_
    rotate_left
    ·intro w'
     go_simp
     with_reducible rfl
    rotate_left
    ·simp only [Act.put, List.setIfInBounds_toArray, List.set_cons_zero, List.set_cons_succ, i64_w]
     rfl
    refine pure_ (i := 3) (N := some 53) (v := ?_) (a' := ?_) (ms 8 13) rfl rfl (by kernel_rfl) (fun _ _ _ h => h) (Or.inl ⟨by rfl, ?_⟩) ?_ ?_
    rotate_left
    ·intro w'
     go_simp
     with_reducible rfl
    rotate_left
    ·simp only [Act.put, List.setIfInBounds_toArray, List.set_cons_zero, List.set_cons_succ, i64_w]
     rfl
    refine pure_ (i := 4) (N := some 2) (v := ?_) (a' := ?_) (ms 8 29) rfl rfl (by kernel_rfl) (fun _ _ _ h => h) (Or.inl ⟨by rfl, ?_⟩) ?_ ?_
    rotate_left
    ·intro w'
     go_simp
     with_reducible rfl
    rotate_left
    ·simp only [Act.put, List.setIfInBounds_toArray, List.set_cons_zero, List.set_cons_succ, i64_w]
     rfl
    refine take_ (i := 1) (N := some 51) (v := ?_) (a' := ?_) (ms 8 31) rfl rfl (by kernel_rfl) (fun _ _ _ h => h) (Or.inl ⟨by rfl, ?_⟩) hHeld ?_ ?_
    rotate_left
    ·rintro w' ⟨s0, s1⟩
     go_simp
     with_reducible rfl
    rotate_left
    ·simp only [Act.put, List.setIfInBounds_toArray, List.set_cons_zero, List.set_cons_succ, i64_w]
     rfl
    refine one_ (i := 5) (N := none) (ms 8 63) rfl rfl (by kernel_rfl) (by decide) (fun K hK => ?_)
    refine put_whole_step (q := Q1) HF B3 ?hw (ty := 35) (x := .tmp 3) (y := .tmp 51) ?ho ?hd #[.slice A0 vars.length c0, .slice A1 rules.length c1] rfl rfl (by kernel_rfl) rfl ?h1 ?hu ?_
    case hw => rfl
    case ho => rfl
    case hd => rfl
    case h1 => simp [Value.oneCell']
    case hu => exact fun h => absurd h (by unfold TE; omega)
    intro w51 hb hf hm hk
    replace HF := hf
    replace LV := LV.mv hm
    replace LR := LR.mv hm
    replace LS := LS.mv hm
    replace LL := LL.mv hm
    replace B7 := B7.other hk (Ne.symm hne)
    clear B3
    have B3 := hb
    clear hb hf hm hk
    refine hK.out _ _ ⟨(B7.cell 0).trans rfl, (B7.cell 1).trans rfl⟩ (fun hHeld => ?_)
    clear hK K
    refine pure_ (i := 6) (N := some 4) (v := ?_) (a' := ?_) (ms 8 127) rfl rfl (by kernel_rfl) (fun _ _ _ h => h) (Or.inl ⟨by rfl, ?_⟩) ?_ ?_
    rotate_left
    ·intro w'
     go_simp
     with_reducible rfl
    rotate_left
    ·simp only [Act.put, List.setIfInBounds_toArray, List.set_cons_zero, List.set_cons_succ, i64_w]
     rfl
    refine pure_ (i := 7) (N := some 5) (v := ?_) (a' := ?_) (ms 8 255) rfl rfl (by kernel_rfl) (fun _ _ _ h => h) (Or.inl ⟨by rfl, ?_⟩) ?_ ?_
    rotate_left
    ·intro w'
     go_simp
     with_reducible rfl
    rotate_left
    ·simp only [Act.put, List.setIfInBounds_toArray, List.set_cons_zero, List.set_cons_succ, i64_w]
     rfl
    refine done_ (by kernel_rfl) ?_
    go_wp2_with (fail)
    first
     | (refine bodyPost_ret (v := .tuple #[.pointer (some ⟨g, 0, none⟩), .agg #[.slice A0 vars.length c0, .slice A1 rules.length c1], .slice A25 n25 c25, .slice (some ad) n26 c26]) ?hres rfl ?_; (case hres => simp [results, Try.results9, asAddr, run_loadVar_row _ gb3 35 35 #[.slice A0 vars.length c0, .slice A1 rules.length c1] (0, 0) _ B3.b Try.underlying35 rfl (by kernel_rfl)]); exact ⟨_, _, _, _, _, _, _, _, _, _, _, _, _, rfl, HV5.out.2, by have := H25.out; omega, by have := H25.out; omega, LV, LS.r, LL.r, St.more HF.st (by omega)⟩)
     | (refine bodyPost_ret (v := .tuple #[.pointer (some ⟨g, 0, none⟩), .agg #[.slice A0 vars.length c0, .slice A1 rules.length c1], .slice A25 n25 c25, .slice A_ (n26 + 1) c_]) ?hres rfl ?_; (case hres => simp [results, Try.results9, asAddr, run_loadVar_row _ gb3 35 35 #[.slice A0 vars.length c0, .slice A1 rules.length c1] (0, 0) _ B3.b Try.underlying35 rfl (by kernel_rfl)]); exact ⟨_, _, _, _, _, _, _, _, _, _, _, _, _, rfl, HV5.out.2, by have := H25.out; omega, by have := H25.out; omega, LV, LS.r, LL.r, St.more HF.st (by omega)⟩)
     | (refine bodyPost_ret (v := .tuple #[.pointer (some ⟨g, 0, none⟩), .agg #[.slice A0 vars.length c0, .slice A1 rules.length c1], .slice A25 n25 c25, .slice none 0 0]) ?hres rfl ?_; (case hres => simp [results, Try.results9, asAddr, run_loadVar_row _ gb3 35 35 #[.slice A0 vars.length c0, .slice A1 rules.length c1] (0, 0) _ B3.b Try.underlying35 rfl (by kernel_rfl)]); exact ⟨_, _, _, _, _, _, _, _, _, _, _, _, _, rfl, HV5.out.2, by have := H25.out; omega, by omega, LV, LS.r, ⟨T.nil, TE28⟩, St.more HF.st (by omega)⟩)
     | (have hsp_ := LL.t.spot_; refine bodyPost_ret (v := .tuple #[.pointer (some ⟨g, 0, none⟩), .agg #[.slice A0 vars.length c0, .slice A1 rules.length c1], .slice A25 n25 c25, .slice (some (ad.add 1)) (n26 - 1) (c26 - 1)]) ?hres rfl ?_; (case hres => simp [results, Try.results9, asAddr, run_loadVar_row _ gb3 35 35 #[.slice A0 vars.length c0, .slice A1 rules.length c1] (0, 0) _ B3.b Try.underlying35 rfl (by kernel_rfl), Addr.add, hsp_]); exact ⟨_, _, _, _, _, _, _, _, _, _, _, _, _, rfl, HV5.out.2, by have := H25.out; omega, by have := H25.out; omega, LV, LS.r, (LL.drop (by have := H25.out; omega)).r, St.more HF.st (by omega)⟩)
end Go.Proofs.Ytnidjlhbejifoaa.XFnSameRun
