/- spec.DrawSameRun over rows told by type.
Conditions: each theorem's own. -/
import Derived.WalkMore
import Derived.Test.YtnidjlhbejifoaaRLaced
namespace Go.Proofs.Ytnidjlhbejifoaa.XFnSameRun
open Go.RowKit Go.Proofs.YtnidjlhbejifoaaW.PrintWords Go.Proofs.YtnidjlhbejifoaaW.PrintLast Go.Proofs.YtnidjlhbejifoaaW.PrintMore Go.Proofs.YtnidjlhbejifoaaX Ty
attribute [local go_sem] max2_int max_two
set_option linter.unusedVariables false
set_option linter.unusedSimpArgs false
set_option maxHeartbeats 8000000 in
set_option maxRecDepth 100000 in
theorem DrawSameRun.rel {w0 : World} (Ac : Option Addr) (cc : Nat) (code : List Int) (hr : Kd.C (Kd.int .u8) w0 Ac code.length code) (hcc : code.length ≤ cc) (hw : ∀ x ∈ code, (Lit.int .u8 x).wf = true) :
  Calls Try.prog 4 #[.slice Ac code.length cc] w0 fun e w' => ∃ A1 n1 c1 A2 n2 c2 A3 n3 c3 A4 n4 c4, e = .returned (.tuple #[.slice A1 n1 c1, .slice A2 n2 c2, .slice A3 n3 c3, .slice A4 n4 c4]) ∧ n1 ≤ 100 ∧ n2 ≤ 100 ∧ n3 ≤ 100 ∧ n4 ≤ 100 ∧ Rw Q1 w0 28 w' A1 n1 c1 ∧ Rw Q1 w0 28 w' A2 n2 c2 ∧ Rw Q1 w0 28 w' A3 n3 c3 ∧ Rw Q1 w0 28 w' A4 n4 c4 ∧ Below w0.heap.size w0 w' := by
 have hu28 := Try.underlying28
 have hu33 := Try.underlying33
 have hu35 := Try.underlying35
 have hu23 := Try.underlying23
 have hu59 := Try.underlying59
 have hu32 := Try.underlying32
 have hu51 := Try.underlying51
 have HR := Aside0.mk hr
 have HC := Aside0.mk hcc
 have HW := Aside0.mk hw
 clear hr hcc hw
 go_enter Try.func4, Try.ntmps4
 go_wp2_with (first | (go_at_call 9; (with_reducible refine (l3Laced.rel Ac cc code HR.out HC.out HW.out).mono ?_); rintro e w_ ⟨g, A0, n0, c0, A1, n1, c1, A, n, c, A', n', c', rfl, h0, h1, h2, LV, LS, LL, hs⟩; have HF := Fr.first hs; have HN := Aside0.mk (And.intro h0 (And.intro h1 h2)); clear h0 h1 h2 hs HR HC HW) | ((with_reducible refine gate_dst (N := 7) rfl ?_); (try (refine gate_guard (by rfl) ?_; dsimp only)); refine new_block (q := Q1) HF ?hg (N := 7) ?hd (v := fun gb => .pointer (some ⟨gb, 0, none⟩)) (cs := #[.slice none 0 0, .slice none 0 0]) (t := 35) ?hr ?_; (case hd => rfl); (case hg => rfl); (case hr => first | (go_simp; done) | (go_simp; rfl)); intro gb7 w7 hb hf hm hge; replace HF := hf; replace LV := LV.mv hm; replace LS := LS.mv hm; replace LL := LL.mv hm; (try replace B7 := B7.mv hm (by decide)); have B7 := hb; clear hb hf hm hge) | ((with_reducible refine gate_store (t := 35) (p := 7) (v := .tmp 23) rfl ?_); refine put_whole (q := Q1) HF B7 ?hg (ty := 35) (x := .tmp 7) (y := .tmp 23) ?ho ?hd #[.slice A0 n0 c0, .slice A1 n1 c1] rfl rfl (by kernel_rfl) rfl ?h1 ?hu ?_; (case ho => rfl); (case hd => rfl); (case hg => rfl); (case h1 => simp [Value.oneCell']); (case hu => exact fun h => absurd h (by unfold TE; omega)); intro w_ hb hf hm; replace HF := hf; replace LV := LV.mv hm; replace LS := LS.mv hm; replace LL := LL.mv hm; (try replace B7 := B7.mv hm (by decide)); clear B7; have B7 := hb; clear hb hf hm) | ((with_reducible refine gate_dst (N := 26) rfl ?_); (try (refine gate_guard (by rfl) ?_; dsimp only)); refine new_block (q := Q1) HF ?hg (N := 26) ?hd (v := fun gb => .slice (some ⟨gb, 0, none⟩) 0 0) (cs := #[]) (t := 28) ?hr ?_; (case hd => rfl); (case hg => rfl); (case hr => first | (go_simp; done) | (go_simp; rfl)); intro gb26 w26 hb hf hm hge; replace HF := hf; replace LV := LV.mv hm; replace LS := LS.mv hm; replace LL := LL.mv hm; (try replace B7 := B7.mv hm (by decide)); have L10 := Lc.lit (q := Q1) (k := 0) HF hb (by unfold TE; omega) rfl (by omega) (fun j u h => by simp at h); clear hb hf hm hge) | ((with_reducible refine gate_dst (N := 27) rfl ?_); (try (refine gate_guard (by rfl) ?_; dsimp only)); refine new_block (q := Q1) HF ?hg (N := 27) ?hd (v := fun gb => .slice (some ⟨gb, 0, none⟩) 0 0) (cs := #[]) (t := 28) ?hr ?_; (case hd => rfl); (case hg => rfl); (case hr => first | (go_simp; done) | (go_simp; rfl)); intro gb27 w27 hb hf hm hge; replace HF := hf; replace LV := LV.mv hm; replace LS := LS.mv hm; replace LL := LL.mv hm; (try replace L10 := L10.mv hm); (try replace B7 := B7.mv hm (by decide)); have L11 := Lc.lit (q := Q1) (k := 0) HF hb (by unfold TE; omega) rfl (by omega) (fun j u h => by simp at h); clear hb hf hm hge))
 go_loopg [10, 12] (n + 1) (fun kq vd vi wr => ∃ (B : Option Addr) (k d : Nat), vd = .slice B k d ∧ vi = .int .i64 k ∧ Lc Q1 w0 w0 28 wr B k d ∧ Lc Q1 w0 w0 28 wr (some ⟨gb27, 0, none⟩) 0 0 ∧ Rw Q1 w0 51 wr A0 n0 c0 ∧ Rw Q1 w0 28 wr A n c ∧ Rw Q1 w0 28 wr A' n' c' ∧ Bk w0 g 35 wr gb7 #[.slice A0 n0 c0, .slice A1 n1 c1] ∧ Fr w0 w0 wr g 2300 ∧ Aside0 (k ≤ n ∧ n < k + kq))
 case atStart => exact ⟨_, 0, _, rfl, rfl, L10, L11, LV, LS, LL, B7, Fr.more HF (by omega), ⟨by omega, by omega⟩⟩
 case round =>
  clear L10 L11 LV LS LL B7 HF
  obtain ⟨B1, k1, d1, rfl, rfl, L10, L11, LV, LS, LL, B7, HF, HI⟩ := hrel
  by_cases hc : k1 < n
  ·skip
   have cb0 : decide (k1 < n) = true := decide_eq_true hc
   have cb1 : decide ((k1 : Int) < (n : Int)) = true := decide_eq_true (by omega)
   have px : ((0 : Int) ≤ (k1 : Int)) = True := eq_true (by omega)
   have qx : ((k1 : Int) < (n : Int)) = True := eq_true (by omega)
   have qy : (k1 < n) = True := eq_true hc
   obtain ⟨ad, rfl⟩ := LS.t.some_ (by omega)
   obtain ⟨Ae, ne, ce, hze, hqe, hte⟩ := LS.t.at28 (q1 := Q1) (k1 : Int) (by omega) (by omega)
   rw [Int.toNat_natCast] at hze
   have QE := Aside0.mk (show ne ≤ 1000 from hqe)
   have TE_ := Aside0.mk hte
   have HI2 := Aside0.mk hc
   clear hqe hte hc
   have hwk : wrap64 ((k1 : Int) + 1) = (k1 : Int) + 1 := by unfold wrap64; have := HN.out; have := HI2.out; omega
   go_wp2_with (first | (go_at_call 10; (with_reducible refine (copyT Q1 HF TE_.out (by have := QE.out; exact this)).mono ?_); rintro e w_ ⟨A39, c39, rfl, hl, hf, hm⟩; replace HF := hf; replace LV := LV.mv hm; replace LS := LS.mv hm; replace LL := LL.mv hm; replace L10 := L10.mv hm; replace L11 := L11.mv hm; replace B7 := B7.mv hm (by decide); have LX := hl; clear hl; clear hf hm) | ((with_reducible refine gate_builtin (b := .append) (xs := #[.tmp 34, .tmp 40]) rfl ?_); (try (refine gate_guard (by rfl) ?_; dsimp only)); at_builtin; refine app_row HF rfl (.tmp 34) (.tmp 40) 23 (e := 28) (z := .slice none 0 0) (bytes := 24) L10 rfl Try.underlying23 info28 rfl (by decide) [.slice A39 ne c39] rfl rfl rfl ?h1 ?ht ?hl ?_; (case h1 => simp [Value.oneCell']); (case ht => exact TC.ints (q := Q1) (show Q1 ne from QE.out) LX.t); (case hl => have := HN.out; have := HI2.out; omega); intro A_ c_ w_ hl hf hm; replace HF := hf; replace LV := LV.mv hm; replace LS := LS.mv hm; replace LL := LL.mv hm; replace L11 := L11.mv hm; replace LX := LX.mv hm; replace B7 := B7.mv hm (by decide); clear L10; have L10 := hl; clear hl hf hm))
   all_goals
    go_roundg (gk - 1)
    case measure => have := HI.out; have := HI2.out; omega
    case rel => exact ⟨_, k1 + 1, _, rfl, (by first | rfl | (rw [hwk]; rfl)), L10, L11, LV, LS, LL, B7, HF, ⟨by have := HI2.out; omega, by have := HI.out; omega⟩⟩
  ·skip
   have cb0 : decide (k1 < n) = false := decide_eq_false hc
   have cb1 : decide ((k1 : Int) < (n : Int)) = false := decide_eq_false (by omega)
   have hkn : n = k1 := by have := HI.out; omega
   subst hkn
   clear HI
   clear hc cb0 cb1
   go_wp2_with (fail)
   go_loopg [11, 13] (n' + 1) (fun kq vd vi wr => ∃ (B : Option Addr) (k d : Nat), vd = .slice B k d ∧ vi = .int .i64 k ∧ Lc Q1 w0 w0 28 wr B k d ∧ Lc Q1 w0 w0 28 wr B1 n d1 ∧ Rw Q1 w0 51 wr A0 n0 c0 ∧ Rw Q1 w0 28 wr A n c ∧ Rw Q1 w0 28 wr A' n' c' ∧ Bk w0 g 35 wr gb7 #[.slice A0 n0 c0, .slice A1 n1 c1] ∧ Fr w0 w0 wr g 2300 ∧ Aside0 (k ≤ n' ∧ n' < k + kq))
   case atStart => exact ⟨_, 0, _, rfl, rfl, L11, L10, LV, LS, LL, B7, Fr.more HF (by omega), ⟨by omega, by omega⟩⟩
   case round =>
    clear L11 L10 LV LS LL B7 HF
    obtain ⟨B2, k2, d2, rfl, rfl, L11, L10, LV, LS, LL, B7, HF, HI⟩ := hrel
    by_cases hc : k2 < n'
    ·skip
     have cb0 : decide (k2 < n') = true := decide_eq_true hc
     have cb1 : decide ((k2 : Int) < (n' : Int)) = true := decide_eq_true (by omega)
     have px : ((0 : Int) ≤ (k2 : Int)) = True := eq_true (by omega)
     have qx : ((k2 : Int) < (n' : Int)) = True := eq_true (by omega)
     have qy : (k2 < n') = True := eq_true hc
     obtain ⟨ad, rfl⟩ := LL.t.some_ (by omega)
     obtain ⟨Ae, ne, ce, hze, hqe, hte⟩ := LL.t.at28 (q1 := Q1) (k2 : Int) (by omega) (by omega)
     rw [Int.toNat_natCast] at hze
     have QE := Aside0.mk (show ne ≤ 1000 from hqe)
     have TE_ := Aside0.mk hte
     have HI2 := Aside0.mk hc
     clear hqe hte hc
     have hwk : wrap64 ((k2 : Int) + 1) = (k2 : Int) + 1 := by unfold wrap64; have := HN.out; have := HI2.out; omega
     go_wp2_with (first | (go_at_call 10; (with_reducible refine (copyT Q1 HF TE_.out (by have := QE.out; exact this)).mono ?_); rintro e w_ ⟨A39, c39, rfl, hl, hf, hm⟩; replace HF := hf; replace LV := LV.mv hm; replace LS := LS.mv hm; replace LL := LL.mv hm; replace L10 := L10.mv hm; replace L11 := L11.mv hm; replace B7 := B7.mv hm (by decide); have LX := hl; clear hl; clear hf hm) | ((with_reducible refine gate_builtin (b := .append) (xs := #[.tmp 48, .tmp 54]) rfl ?_); (try (refine gate_guard (by rfl) ?_; dsimp only)); at_builtin; refine app_row HF rfl (.tmp 48) (.tmp 54) 23 (e := 28) (z := .slice none 0 0) (bytes := 24) L11 rfl Try.underlying23 info28 rfl (by decide) [.slice A39 ne c39] rfl rfl rfl ?h1 ?ht ?hl ?_; (case h1 => simp [Value.oneCell']); (case ht => exact TC.ints (q := Q1) (show Q1 ne from QE.out) LX.t); (case hl => have := HN.out; have := HI2.out; omega); intro A_ c_ w_ hl hf hm; replace HF := hf; replace LV := LV.mv hm; replace LS := LS.mv hm; replace LL := LL.mv hm; replace L10 := L10.mv hm; replace LX := LX.mv hm; replace B7 := B7.mv hm (by decide); clear L11; have L11 := hl; clear hl hf hm))
     all_goals
      go_roundg (gk - 1)
      case measure => have := HI.out; have := HI2.out; omega
      case rel => exact ⟨_, k2 + 1, _, rfl, (by first | rfl | (rw [hwk]; rfl)), L11, L10, LV, LS, LL, B7, HF, ⟨by have := HI2.out; omega, by have := HI.out; omega⟩⟩
    ·skip
     have cb0 : decide (k2 < n') = false := decide_eq_false hc
     have cb1 : decide ((k2 : Int) < (n' : Int)) = false := decide_eq_false (by omega)
     have hkn : n' = k2 := by have := HI.out; omega
     subst hkn
     clear HI
     clear hc cb0 cb1
     go_wp2_with (first | (go_at_call 11; (with_reducible refine (pickT Q1 _ HF (by omega)).mono ?_); rintro e w_ ⟨r57, rfl, hr0, hr1_, hf, hm⟩; replace HF := hf; replace LV := LV.mv hm; replace LS := LS.mv hm; replace LL := LL.mv hm; replace L10 := L10.mv hm; replace L11 := L11.mv hm; replace B7 := B7.mv hm (by decide); have hr1 := hr1_ (by omega); clear hr1_; clear hf hm))
     go_loopg [10, 11, 14] 5 (fun kq vo vr vi wr => ∃ (B : Option Addr) (k d : Nat) (D : Option Addr) (e : Nat) (i : Int), vo = .slice B k d ∧ vr = .slice D n' e ∧ vi = .int .i64 i ∧ Lc Q1 w0 w0 28 wr B k d ∧ Lc Q1 w0 w0 28 wr D n' e ∧ Rw Q1 w0 51 wr A0 n0 c0 ∧ Rw Q1 w0 28 wr A n c ∧ Rw Q1 w0 28 wr A' n' c' ∧ Bk w0 g 35 wr gb7 #[.slice A0 n0 c0, .slice A1 n1 c1] ∧ Fr w0 w0 wr g 2301 ∧ Aside0 (0 ≤ i ∧ i < 4 ∧ (k : Int) + i ≤ n + 3 ∧ i < kq))
     case atStart => exact ⟨_, _, _, _, _, r57, rfl, rfl, rfl, L10, L11, LV, LS, LL, B7, Fr.more HF (by omega), ⟨by omega, by omega, by omega, by omega⟩⟩
     case round =>
      clear L10 L11 LV LS LL B7 HF
      obtain ⟨B3, k3, d3, D3, e3, i, rfl, rfl, rfl, L10, L11, LV, LS, LL, B7, HF, HI⟩ := hrel
      clear hr0 hr1
      by_cases hi : 0 < i
      ·by_cases hn : 0 < n'
       ·skip
        have cb0 : decide (0 < i) = true := decide_eq_true hi
        have cb1 : decide ((0 : Int) < (n' : Int)) = true := decide_eq_true (by omega)
        have cb2 : decide (0 < n') = true := decide_eq_true hn
        have p2 : ((0 : Int) < (n' : Int)) = True := eq_true (by omega)
        have p3 : (0 < n') = True := eq_true hn
        have HI2 := Aside0.mk (And.intro hi hn)
        obtain ⟨ad, rfl⟩ := L11.t.some_ hn
        obtain ⟨Af, nf, cf, hzf, hqf, htf⟩ := L11.t.at28 (q1 := Q1) 0 (by omega) (by omega)
        have ead : ad.add ((0 : Int).toNat) = ad := by simp [Addr.add]
        rw [ead] at hzf
        have QF := Aside0.mk (show nf ≤ 1000 from hqf)
        have TF := Aside0.mk htf
        clear hqf htf hi hn ead
        go_wp2_with (first | ((with_reducible refine gate_builtin (b := .append) (xs := #[.tmp 67, .tmp 71]) rfl ?_); (try (refine gate_guard (by rfl) ?_; dsimp only)); at_builtin; refine app_row HF rfl (.tmp 67) (.tmp 71) 23 (e := 28) (z := .slice none 0 0) (bytes := 24) L10 rfl Try.underlying23 info28 rfl (by decide) [.slice Af nf cf] rfl rfl rfl ?h1 ?ht ?hl ?_; (case h1 => simp [Value.oneCell']); (case ht => exact TC.ints (q := Q1) (show Q1 nf from QF.out) TF.out); (case hl => have := HN.out; have := HI.out; omega); intro A_ c_ w_ hl hf hm; replace HF := hf; replace LV := LV.mv hm; replace LS := LS.mv hm; replace LL := LL.mv hm; replace L11 := L11.mv hm; replace B7 := B7.mv hm (by decide); clear L10; have L10 := hl; clear hl hf hm) | ((with_reducible refine gate_dst (N := 73) rfl ?_); (try (refine gate_guard (by rfl) ?_; dsimp only)); refine new_block (q := Q1) HF ?hg (N := 73) ?hd (v := fun gb => .slice (some ⟨gb, 0, none⟩) 0 0) (cs := #[]) (t := 28) ?hr ?_; (case hd => rfl); (case hg => rfl); (case hr => first | (go_simp; done) | (go_simp; rfl)); intro gb73 w73 hb hf hm hge; replace HF := hf; replace LV := LV.mv hm; replace LS := LS.mv hm; replace LL := LL.mv hm; replace L10 := L10.mv hm; replace L11 := L11.mv hm; replace B7 := B7.mv hm (by decide); have L15 := Lc.lit (q := Q1) (k := 0) HF hb (by unfold TE; omega) rfl (by omega) (fun j u h => by simp at h); clear hb hf hm hge))
        clear hzf QF TF
        obtain ⟨gko, rfl⟩ : ∃ x : Nat, x = gk := ⟨_, rfl⟩
        go_loopg [15, 16] (n' + 1) (fun kq vd vi wr => ∃ (B : Option Addr) (t d : Nat) (k : Int), vd = .slice B t d ∧ vi = .int .i64 k ∧ Lc Q1 w0 w0 28 wr B t d ∧ Lc Q1 w0 w0 28 wr A_ (k3 + 1) c_ ∧ Lc Q1 w0 w0 28 wr (some ad) n' e3 ∧ Rw Q1 w0 51 wr A0 n0 c0 ∧ Rw Q1 w0 28 wr A n c ∧ Rw Q1 w0 28 wr A' n' c' ∧ Bk w0 g 35 wr gb7 #[.slice A0 n0 c0, .slice A1 n1 c1] ∧ Fr w0 w0 wr g 2301 ∧ Aside0 (k = t + 1 ∧ t ≤ n' ∧ n' < t + kq))
        case atStart => exact ⟨_, 0, _, 1, rfl, rfl, L15, L10, L11, LV, LS, LL, B7, HF, ⟨by omega, by omega, by omega⟩⟩
        case round =>
         clear L15 L10 L11 LV LS LL B7 HF
         obtain ⟨B6, t6, d6, k, rfl, rfl, L15, L10, L11, LV, LS, LL, B7, HF, HJ⟩ := hrel
         by_cases hc : k ≤ (n' : Int)
         ·skip
          have cb0 : decide (k ≤ (n' : Int)) = true := decide_eq_true hc
          have hnz : (n' : Int) ≠ 0 := by have := HI2.out; omega
          have zb : ((n' : Int) == 0) = false := by simp; have := HI2.out; omega
          have zc : ((n' : Int) = 0) = False := eq_false hnz
          have zd : (n' = 0) = False := eq_false (by omega)
          obtain ⟨r, hr⟩ : ∃ r, Int.tmod k (n' : Int) = r := ⟨_, rfl⟩
          have hr0 : 0 ≤ r := by rw [← hr]; exact Int.tmod_nonneg _ (by have := HJ.out; omega)
          have hr1 : r < (n' : Int) := by rw [← hr]; exact Int.tmod_lt_of_pos _ (by omega)
          have hwr : wrap64 r = r := by unfold wrap64; have := HN.out; omega
          have px := eq_true hr0
          have qx := eq_true hr1
          obtain ⟨Ae, ne, ce, hze, hqe, hte⟩ := L11.t.at28 (q1 := Q1) r hr0 hr1
          have QE := Aside0.mk (show ne ≤ 1000 from hqe)
          have TE_ := Aside0.mk hte
          have HJ2 := Aside0.mk hc
          clear hqe hte hc hr0 hr1 hnz
          have hwk : wrap64 (k + 1) = k + 1 := by unfold wrap64; have := HN.out; have := HJ.out; have := HJ2.out; omega
          go_wp2_with (first | ((with_reducible refine gate_builtin (b := .append) (xs := #[.tmp 80, .tmp 88]) rfl ?_); (try (refine gate_guard (by rfl) ?_; dsimp only)); at_builtin; refine app_row HF rfl (.tmp 80) (.tmp 88) 23 (e := 28) (z := .slice none 0 0) (bytes := 24) L15 rfl Try.underlying23 info28 rfl (by decide) [.slice Ae ne ce] rfl rfl rfl ?h1 ?ht ?hl ?_; (case h1 => simp [Value.oneCell']); (case ht => exact TC.ints (q := Q1) (show Q1 ne from QE.out) TE_.out); (case hl => have := HN.out; have := HJ.out; omega); intro A_ c_ w_ hl hf hm; replace HF := hf; replace LV := LV.mv hm; replace LS := LS.mv hm; replace LL := LL.mv hm; replace L10 := L10.mv hm; replace L11 := L11.mv hm; replace B7 := B7.mv hm (by decide); clear L15; have L15 := hl; clear hl hf hm))
          all_goals
           go_roundg (gk - 1)
           case measure => have := HJ.out; have := HJ2.out; omega
           case rel => exact ⟨_, t6 + 1, _, k + 1, rfl, (by first | rfl | (rw [hwk])), L15, L10, L11, LV, LS, LL, B7, HF, ⟨by have := HJ.out; omega, by have := HJ.out; have := HJ2.out; omega, by have := HJ.out; omega⟩⟩
         ·skip
          have cb0 : decide (k ≤ (n' : Int)) = false := decide_eq_false hc
          have hwi : wrap64 (i - 1) = i - 1 := by unfold wrap64; have := HI.out; omega
          have ht : n' = t6 := by have := HJ.out; omega
          subst ht
          clear hc
          go_wp2_with (fail)
          go_roundg (gko - 1)
          case measure => have := HI.out; have := HI2.out; omega
          case rel => exact ⟨_, k3 + 1, _, _, _, i - 1, rfl, rfl, (by first | rfl | rw [hwi]), L10, L15, LV, LS, LL, B7, HF, ⟨by have := HI2.out; omega, by have := HI.out; omega, by have := HI.out; omega, by have := HI.out; omega⟩⟩
       ·skip
        have cb0 : decide (0 < i) = true := decide_eq_true hi
        have cb1 : decide ((0 : Int) < (n' : Int)) = false := decide_eq_false (by omega)
        have cb2 : decide (0 < n') = false := decide_eq_false hn
        clear hi
        have HO := Aside0.mk (show k3 ≤ n + 3 by have := HI.out; omega)
        have HL := Aside0.mk (show n' ≤ n' + n' by omega)
        clear HI
        go_wp2_with (fail)
        (with_reducible refine (pickT Q1 _ HF (by omega)).mono ?_)
        rintro e w_ ⟨r92, rfl, hr0, hr1, hf, hm⟩
        clear hr0 hr1
        replace HF := hf
        replace LV := LV.mv hm
        replace LS := LS.mv hm
        replace LL := LL.mv hm
        replace L10 := L10.mv hm
        replace L11 := L11.mv hm
        replace B7 := B7.mv hm (by decide)
        clear hf hm
        by_cases hz : r92 = 0
        ·subst hz
         go_wp2_with (fail)
         clear HL
         go_loopg [11, 18] (n' + 1) (fun kq vd vi wr => ∃ (B : Option Addr) (k d i : Nat), vd = .slice B k d ∧ vi = .int .i64 i ∧ Lc Q1 w0 w0 28 wr B k d ∧ Lc Q1 w0 w0 28 wr B3 k3 d3 ∧ Rw Q1 w0 51 wr A0 n0 c0 ∧ Rw Q1 w0 28 wr A n c ∧ Rw Q1 w0 28 wr A' n' c' ∧ Bk w0 g 35 wr gb7 #[.slice A0 n0 c0, .slice A1 n1 c1] ∧ Fr w0 w0 wr g 2302 ∧ Aside0 (k = n' + i ∧ i ≤ n' ∧ n' < i + kq))
         case atStart => exact ⟨_, _, _, 0, rfl, rfl, L11, L10, LV, LS, LL, B7, Fr.more HF (by omega), ⟨by omega, by omega, by omega⟩⟩
         case round =>
          clear L11 L10 LV LS LL B7 HF
          obtain ⟨B8, k8, d8, i8, rfl, rfl, L11, L10, LV, LS, LL, B7, HF, HI⟩ := hrel
          by_cases hc : i8 < n'
          ·skip
           have cb0 : decide (i8 < n') = true := decide_eq_true hc
           have cb1 : decide ((i8 : Int) < (n' : Int)) = true := decide_eq_true (by omega)
           have hlt : i8 < k8 := by have := HI.out; omega
           have px : ((0 : Int) ≤ (i8 : Int)) = True := eq_true (by omega)
           have qx : ((i8 : Int) < (k8 : Int)) = True := eq_true (by omega)
           have qy : (i8 < k8) = True := eq_true hlt
           obtain ⟨ad, rfl⟩ := L11.t.some_ (by omega)
           obtain ⟨Ae, ne, ce, hze, hqe, hte⟩ := L11.t.at28 (q1 := Q1) (i8 : Int) (by omega) (by omega)
           rw [Int.toNat_natCast] at hze
           have QE := Aside0.mk (show ne ≤ 1000 from hqe)
           have TE_ := Aside0.mk hte
           have HI2 := Aside0.mk hc
           clear hqe hte hc hlt
           have hwk : wrap64 ((i8 : Int) + 1) = (i8 : Int) + 1 := by unfold wrap64; have := HN.out; have := HI2.out; omega
           go_wp2_with (first | (go_at_call 10; (with_reducible refine (copyT Q1 HF TE_.out (by have := QE.out; exact this)).mono ?_); rintro e w_ ⟨A39, c39, rfl, hl, hf, hm⟩; replace HF := hf; replace LV := LV.mv hm; replace LS := LS.mv hm; replace LL := LL.mv hm; replace L10 := L10.mv hm; replace L11 := L11.mv hm; replace B7 := B7.mv hm (by decide); have LX := hl; clear hl; clear hf hm) | ((with_reducible refine gate_builtin (b := .append) (xs := #[.tmp 101, .tmp 107]) rfl ?_); (try (refine gate_guard (by rfl) ?_; dsimp only)); at_builtin; refine app_row HF rfl (.tmp 101) (.tmp 107) 23 (e := 28) (z := .slice none 0 0) (bytes := 24) L11 rfl Try.underlying23 info28 rfl (by decide) [.slice A39 ne c39] rfl rfl rfl ?h1 ?ht ?hl ?_; (case h1 => simp [Value.oneCell']); (case ht => exact TC.ints (q := Q1) (show Q1 ne from QE.out) LX.t); (case hl => have := HN.out; have := HI2.out; have := HI.out; omega); intro A_ c_ w_ hl hf hm; replace HF := hf; replace LV := LV.mv hm; replace LS := LS.mv hm; replace LL := LL.mv hm; replace L10 := L10.mv hm; replace LX := LX.mv hm; replace B7 := B7.mv hm (by decide); clear L11; have L11 := hl; clear hl hf hm))
           all_goals
            go_roundg (gk - 1)
            case measure => have := HI.out; have := HI2.out; omega
            case rel => exact ⟨_, k8 + 1, _, i8 + 1, rfl, (by first | rfl | (rw [hwk]; rfl)), L11, L10, LV, LS, LL, B7, HF, ⟨by have := HI.out; omega, by have := HI2.out; omega, by have := HI.out; omega⟩⟩
          ·skip
           have cb0 : decide (i8 < n') = false := decide_eq_false hc
           have cb1 : decide ((i8 : Int) < (n' : Int)) = false := decide_eq_false (by omega)
           have HL := Aside0.mk (show k8 ≤ n' + n' by have := HI.out; omega)
           have hc_ := hc
           clear hc HI cb0 cb1
           have cb0 : decide (i8 < n') = false := decide_eq_false hc_
           have cb1 : decide ((i8 : Int) < (n' : Int)) = false := decide_eq_false (by omega)
           clear hc_
           go_wp2_with (fail)
           (with_reducible refine (pickT Q1 _ HF (by omega)).mono ?_)
           rintro e w_ ⟨r110, rfl, hr0, hr1, hf, hm⟩
           clear hr0 hr1
           replace HF := hf
           replace LV := LV.mv hm
           replace LS := LS.mv hm
           replace LL := LL.mv hm
           replace L10 := L10.mv hm
           replace L11 := L11.mv hm
           replace B7 := B7.mv hm (by decide)
           clear hf hm
           by_cases hp : 0 < k8
           ·obtain ⟨M, rfl⟩ : ∃ M, k8 = M + 1 := ⟨k8 - 1, by omega⟩
            obtain ⟨ad, rfl⟩ := L11.t.some_ hp
            have hwm : wrap64 (M : Int) = M := by unfold wrap64; have := HL.out; have := HN.out; omega
            have pm : ((0 : Int) ≤ (M : Int)) = True := eq_true (by omega)
            have q0 : decide ((0 : Int) < (M : Int) + 1) = true := decide_eq_true (by omega)
            have q1 : decide ((0 : Int) < ((M + 1 : Nat) : Int)) = true := decide_eq_true (by omega)
            have q2 : decide (0 < M + 1) = true := decide_eq_true (by omega)
            clear hp
            by_cases hz : r110 = 0
            ·subst hz
             go_wp2_with (first | ((with_reducible refine gate_dst (N := 122) rfl ?_); refine load_whole B7 ?hg (N := 122) ?hd 35 (.tmp 7) ?ho rfl Try.underlying35 rfl (by kernel_rfl) ?_; (case ho => rfl); (case hd => rfl); (case hg => rfl)) | (go_at_call 12; (with_reducible refine (l2Some.rel (q := Q1) _ _ _ _ _ _ HF.st (by omega) LV.t HN.out.1).mono ?_); rintro e w_ ⟨A47, n47, c47, rfl, h47, hl, hf1⟩; obtain ⟨hf, hm⟩ := HF.via (q := Q1) hf1; have L47 := Lc.base hl HF; replace HF := hf; replace LV := LV.mv hm; replace LS := LS.mv hm; replace LL := LL.mv hm; replace L10 := L10.mv hm; replace L11 := L11.mv hm; replace B7 := B7.mv hm (by decide); have H47 := Aside0.mk (show Q1 n47 from (show n47 ≤ 1000 by omega)); clear hf hm hf1 hl h47) | ((with_reducible refine gate_store (t := 28) (p := 124) (v := .tmp 123) rfl ?_); refine put_row (q := Q1) HF L11 ?hg (t := 28) (p := 124) (v := .tmp 123) ?ho ?hd M (.slice A47 n47 c47) ?hu ?hr ?_; (case ho => rfl); (case hd => rfl); (case hg => rfl); (case hu => show TC _ _ _ 28 (M % 1) _; rw [Nat.mod_one]; exact TC.ints (q := Q1) H47.out L47.t 0 _ rfl); (case hr => have ha_ := add_spot (k := M) L11.t.spot_; obtain ⟨u_, hcz_⟩ := L11.t.cellOf M (show M < (M + 1) * 1 by omega); have hfz_ := L11.t.freeOf (ad.off + M); first | (go_simp; done) | (go_simp; rfl)); intro w_ hl hf hm; replace HF := hf; replace LV := LV.mv hm; replace LS := LS.mv hm; replace LL := LL.mv hm; replace L10 := L10.mv hm; replace B7 := B7.mv hm (by decide); clear L11; have L11 := hl; clear hl hf hm))
             all_goals
              refine bodyPost_ret (v := .tuple #[.slice A n c, .slice A' n' c', .slice B3 k3 d3, .slice (some ad) (M + 1) d8]) ?hres rfl ?_
              case hres => simp [results, Try.results4]
              exact ⟨_, _, _, _, _, _, _, _, _, _, _, _, rfl, by have := HN.out; omega, by have := HN.out; omega, by have := HN.out; have := HO.out; omega, by have := HN.out; have := HL.out; omega, LS, LL, L10.r, L11.r, HF.st.below⟩
            ·skip
             have z0 : (r110 == 0) = false := by simp [hz]
             have z1 : decide (r110 = 0) = false := decide_eq_false hz
             clear hz
             go_wp2_with (fail)
             refine bodyPost_ret (v := .tuple #[.slice A n c, .slice A' n' c', .slice B3 k3 d3, .slice (some ad) (M + 1) d8]) ?hres rfl ?_
             case hres => simp [results, Try.results4]
             exact ⟨_, _, _, _, _, _, _, _, _, _, _, _, rfl, by have := HN.out; omega, by have := HN.out; omega, by have := HN.out; have := HO.out; omega, by have := HN.out; have := HL.out; omega, LS, LL, L10.r, L11.r, HF.st.below⟩
           ·have q1 : decide ((0 : Int) < (k8 : Int)) = false := decide_eq_false (by omega)
            have q2 : decide (0 < k8) = false := decide_eq_false (by omega)
            clear hp
            by_cases hz : r110 = 0
            ·subst hz
             go_wp2_with (fail)
             refine bodyPost_ret (v := .tuple #[.slice A n c, .slice A' n' c', .slice B3 k3 d3, .slice B8 k8 d8]) ?hres rfl ?_
             case hres => simp [results, Try.results4]
             exact ⟨_, _, _, _, _, _, _, _, _, _, _, _, rfl, by have := HN.out; omega, by have := HN.out; omega, by have := HN.out; have := HO.out; omega, by have := HN.out; have := HL.out; omega, LS, LL, L10.r, L11.r, HF.st.below⟩
            ·skip
             have z0 : (r110 == 0) = false := by simp [hz]
             have z1 : decide (r110 = 0) = false := decide_eq_false hz
             clear hz
             go_wp2_with (fail)
             refine bodyPost_ret (v := .tuple #[.slice A n c, .slice A' n' c', .slice B3 k3 d3, .slice B8 k8 d8]) ?hres rfl ?_
             case hres => simp [results, Try.results4]
             exact ⟨_, _, _, _, _, _, _, _, _, _, _, _, rfl, by have := HN.out; omega, by have := HN.out; omega, by have := HN.out; have := HO.out; omega, by have := HN.out; have := HL.out; omega, LS, LL, L10.r, L11.r, HF.st.below⟩
        ·have z0 : (r92 == 0) = false := by simp [hz]
         have z1 : decide (r92 = 0) = false := decide_eq_false hz
         clear hz
         go_wp2_with (fail)
         (with_reducible refine (pickT Q1 _ HF (by omega)).mono ?_)
         rintro e w_ ⟨r110, rfl, hr0, hr1, hf, hm⟩
         clear hr0 hr1
         replace HF := hf
         replace LV := LV.mv hm
         replace LS := LS.mv hm
         replace LL := LL.mv hm
         replace L10 := L10.mv hm
         replace L11 := L11.mv hm
         replace B7 := B7.mv hm (by decide)
         clear hf hm
         by_cases hp : 0 < n'
         ·obtain ⟨M, rfl⟩ : ∃ M, n' = M + 1 := ⟨n' - 1, by omega⟩
          obtain ⟨ad, rfl⟩ := L11.t.some_ hp
          have hwm : wrap64 (M : Int) = M := by unfold wrap64; have := HL.out; have := HN.out; omega
          have pm : ((0 : Int) ≤ (M : Int)) = True := eq_true (by omega)
          have q0 : decide ((0 : Int) < (M : Int) + 1) = true := decide_eq_true (by omega)
          have q1 : decide ((0 : Int) < ((M + 1 : Nat) : Int)) = true := decide_eq_true (by omega)
          have q2 : decide (0 < M + 1) = true := decide_eq_true (by omega)
          clear hp
          by_cases hz : r110 = 0
          ·subst hz
           go_wp2_with (first | ((with_reducible refine gate_dst (N := 122) rfl ?_); refine load_whole B7 ?hg (N := 122) ?hd 35 (.tmp 7) ?ho rfl Try.underlying35 rfl (by kernel_rfl) ?_; (case ho => rfl); (case hd => rfl); (case hg => rfl)) | (go_at_call 12; (with_reducible refine (l2Some.rel (q := Q1) _ _ _ _ _ _ HF.st (by omega) LV.t HN.out.1).mono ?_); rintro e w_ ⟨A47, n47, c47, rfl, h47, hl, hf1⟩; obtain ⟨hf, hm⟩ := HF.via (q := Q1) hf1; have L47 := Lc.base hl HF; replace HF := hf; replace LV := LV.mv hm; replace LS := LS.mv hm; replace LL := LL.mv hm; replace L10 := L10.mv hm; replace L11 := L11.mv hm; replace B7 := B7.mv hm (by decide); have H47 := Aside0.mk (show Q1 n47 from (show n47 ≤ 1000 by omega)); clear hf hm hf1 hl h47) | ((with_reducible refine gate_store (t := 28) (p := 124) (v := .tmp 123) rfl ?_); refine put_row (q := Q1) HF L11 ?hg (t := 28) (p := 124) (v := .tmp 123) ?ho ?hd M (.slice A47 n47 c47) ?hu ?hr ?_; (case ho => rfl); (case hd => rfl); (case hg => rfl); (case hu => show TC _ _ _ 28 (M % 1) _; rw [Nat.mod_one]; exact TC.ints (q := Q1) H47.out L47.t 0 _ rfl); (case hr => have ha_ := add_spot (k := M) L11.t.spot_; obtain ⟨u_, hcz_⟩ := L11.t.cellOf M (show M < (M + 1) * 1 by omega); have hfz_ := L11.t.freeOf (ad.off + M); first | (go_simp; done) | (go_simp; rfl)); intro w_ hl hf hm; replace HF := hf; replace LV := LV.mv hm; replace LS := LS.mv hm; replace LL := LL.mv hm; replace L10 := L10.mv hm; replace B7 := B7.mv hm (by decide); clear L11; have L11 := hl; clear hl hf hm))
           all_goals
            refine bodyPost_ret (v := .tuple #[.slice A n c, .slice A' (M + 1) c', .slice B3 k3 d3, .slice (some ad) (M + 1) e3]) ?hres rfl ?_
            case hres => simp [results, Try.results4]
            exact ⟨_, _, _, _, _, _, _, _, _, _, _, _, rfl, by have := HN.out; omega, by have := HN.out; omega, by have := HN.out; have := HO.out; omega, by have := HN.out; have := HL.out; omega, LS, LL, L10.r, L11.r, HF.st.below⟩
          ·skip
           have z0 : (r110 == 0) = false := by simp [hz]
           have z1 : decide (r110 = 0) = false := decide_eq_false hz
           clear hz
           go_wp2_with (fail)
           refine bodyPost_ret (v := .tuple #[.slice A n c, .slice A' (M + 1) c', .slice B3 k3 d3, .slice (some ad) (M + 1) e3]) ?hres rfl ?_
           case hres => simp [results, Try.results4]
           exact ⟨_, _, _, _, _, _, _, _, _, _, _, _, rfl, by have := HN.out; omega, by have := HN.out; omega, by have := HN.out; have := HO.out; omega, by have := HN.out; have := HL.out; omega, LS, LL, L10.r, L11.r, HF.st.below⟩
         ·have q1 : decide ((0 : Int) < (n' : Int)) = false := decide_eq_false (by omega)
          have q2 : decide (0 < n') = false := decide_eq_false (by omega)
          clear hp
          by_cases hz : r110 = 0
          ·subst hz
           go_wp2_with (fail)
           refine bodyPost_ret (v := .tuple #[.slice A n c, .slice A' n' c', .slice B3 k3 d3, .slice D3 n' e3]) ?hres rfl ?_
           case hres => simp [results, Try.results4]
           exact ⟨_, _, _, _, _, _, _, _, _, _, _, _, rfl, by have := HN.out; omega, by have := HN.out; omega, by have := HN.out; have := HO.out; omega, by have := HN.out; have := HL.out; omega, LS, LL, L10.r, L11.r, HF.st.below⟩
          ·skip
           have z0 : (r110 == 0) = false := by simp [hz]
           have z1 : decide (r110 = 0) = false := decide_eq_false hz
           clear hz
           go_wp2_with (fail)
           refine bodyPost_ret (v := .tuple #[.slice A n c, .slice A' n' c', .slice B3 k3 d3, .slice D3 n' e3]) ?hres rfl ?_
           case hres => simp [results, Try.results4]
           exact ⟨_, _, _, _, _, _, _, _, _, _, _, _, rfl, by have := HN.out; omega, by have := HN.out; omega, by have := HN.out; have := HO.out; omega, by have := HN.out; have := HL.out; omega, LS, LL, L10.r, L11.r, HF.st.below⟩
      ·skip
       have cb0 : decide (0 < i) = false := decide_eq_false hi
       clear hi
       have HO := Aside0.mk (show k3 ≤ n + 3 by have := HI.out; omega)
       have HL := Aside0.mk (show n' ≤ n' + n' by omega)
       clear HI
       go_wp2_with (fail)
       (with_reducible refine (pickT Q1 _ HF (by omega)).mono ?_)
       rintro e w_ ⟨r92, rfl, hr0, hr1, hf, hm⟩
       clear hr0 hr1
       replace HF := hf
       replace LV := LV.mv hm
       replace LS := LS.mv hm
       replace LL := LL.mv hm
       replace L10 := L10.mv hm
       replace L11 := L11.mv hm
       replace B7 := B7.mv hm (by decide)
       clear hf hm
       by_cases hz : r92 = 0
       ·subst hz
        go_wp2_with (fail)
        clear HL
        go_loopg [11, 18] (n' + 1) (fun kq vd vi wr => ∃ (B : Option Addr) (k d i : Nat), vd = .slice B k d ∧ vi = .int .i64 i ∧ Lc Q1 w0 w0 28 wr B k d ∧ Lc Q1 w0 w0 28 wr B3 k3 d3 ∧ Rw Q1 w0 51 wr A0 n0 c0 ∧ Rw Q1 w0 28 wr A n c ∧ Rw Q1 w0 28 wr A' n' c' ∧ Bk w0 g 35 wr gb7 #[.slice A0 n0 c0, .slice A1 n1 c1] ∧ Fr w0 w0 wr g 2302 ∧ Aside0 (k = n' + i ∧ i ≤ n' ∧ n' < i + kq))
        case atStart => exact ⟨_, _, _, 0, rfl, rfl, L11, L10, LV, LS, LL, B7, Fr.more HF (by omega), ⟨by omega, by omega, by omega⟩⟩
        case round =>
         clear L11 L10 LV LS LL B7 HF
         obtain ⟨B8, k8, d8, i8, rfl, rfl, L11, L10, LV, LS, LL, B7, HF, HI⟩ := hrel
         by_cases hc : i8 < n'
         ·skip
          have cb0 : decide (i8 < n') = true := decide_eq_true hc
          have cb1 : decide ((i8 : Int) < (n' : Int)) = true := decide_eq_true (by omega)
          have hlt : i8 < k8 := by have := HI.out; omega
          have px : ((0 : Int) ≤ (i8 : Int)) = True := eq_true (by omega)
          have qx : ((i8 : Int) < (k8 : Int)) = True := eq_true (by omega)
          have qy : (i8 < k8) = True := eq_true hlt
          obtain ⟨ad, rfl⟩ := L11.t.some_ (by omega)
          obtain ⟨Ae, ne, ce, hze, hqe, hte⟩ := L11.t.at28 (q1 := Q1) (i8 : Int) (by omega) (by omega)
          rw [Int.toNat_natCast] at hze
          have QE := Aside0.mk (show ne ≤ 1000 from hqe)
          have TE_ := Aside0.mk hte
          have HI2 := Aside0.mk hc
          clear hqe hte hc hlt
          have hwk : wrap64 ((i8 : Int) + 1) = (i8 : Int) + 1 := by unfold wrap64; have := HN.out; have := HI2.out; omega
          go_wp2_with (first | (go_at_call 10; (with_reducible refine (copyT Q1 HF TE_.out (by have := QE.out; exact this)).mono ?_); rintro e w_ ⟨A39, c39, rfl, hl, hf, hm⟩; replace HF := hf; replace LV := LV.mv hm; replace LS := LS.mv hm; replace LL := LL.mv hm; replace L10 := L10.mv hm; replace L11 := L11.mv hm; replace B7 := B7.mv hm (by decide); have LX := hl; clear hl; clear hf hm) | ((with_reducible refine gate_builtin (b := .append) (xs := #[.tmp 101, .tmp 107]) rfl ?_); (try (refine gate_guard (by rfl) ?_; dsimp only)); at_builtin; refine app_row HF rfl (.tmp 101) (.tmp 107) 23 (e := 28) (z := .slice none 0 0) (bytes := 24) L11 rfl Try.underlying23 info28 rfl (by decide) [.slice A39 ne c39] rfl rfl rfl ?h1 ?ht ?hl ?_; (case h1 => simp [Value.oneCell']); (case ht => exact TC.ints (q := Q1) (show Q1 ne from QE.out) LX.t); (case hl => have := HN.out; have := HI2.out; have := HI.out; omega); intro A_ c_ w_ hl hf hm; replace HF := hf; replace LV := LV.mv hm; replace LS := LS.mv hm; replace LL := LL.mv hm; replace L10 := L10.mv hm; replace LX := LX.mv hm; replace B7 := B7.mv hm (by decide); clear L11; have L11 := hl; clear hl hf hm))
          all_goals
           go_roundg (gk - 1)
           case measure => have := HI.out; have := HI2.out; omega
           case rel => exact ⟨_, k8 + 1, _, i8 + 1, rfl, (by first | rfl | (rw [hwk]; rfl)), L11, L10, LV, LS, LL, B7, HF, ⟨by have := HI.out; omega, by have := HI2.out; omega, by have := HI.out; omega⟩⟩
         ·skip
          have cb0 : decide (i8 < n') = false := decide_eq_false hc
          have cb1 : decide ((i8 : Int) < (n' : Int)) = false := decide_eq_false (by omega)
          have HL := Aside0.mk (show k8 ≤ n' + n' by have := HI.out; omega)
          have hc_ := hc
          clear hc HI cb0 cb1
          have cb0 : decide (i8 < n') = false := decide_eq_false hc_
          have cb1 : decide ((i8 : Int) < (n' : Int)) = false := decide_eq_false (by omega)
          clear hc_
          go_wp2_with (fail)
          (with_reducible refine (pickT Q1 _ HF (by omega)).mono ?_)
          rintro e w_ ⟨r110, rfl, hr0, hr1, hf, hm⟩
          clear hr0 hr1
          replace HF := hf
          replace LV := LV.mv hm
          replace LS := LS.mv hm
          replace LL := LL.mv hm
          replace L10 := L10.mv hm
          replace L11 := L11.mv hm
          replace B7 := B7.mv hm (by decide)
          clear hf hm
          by_cases hp : 0 < k8
          ·obtain ⟨M, rfl⟩ : ∃ M, k8 = M + 1 := ⟨k8 - 1, by omega⟩
           obtain ⟨ad, rfl⟩ := L11.t.some_ hp
           have hwm : wrap64 (M : Int) = M := by unfold wrap64; have := HL.out; have := HN.out; omega
           have pm : ((0 : Int) ≤ (M : Int)) = True := eq_true (by omega)
           have q0 : decide ((0 : Int) < (M : Int) + 1) = true := decide_eq_true (by omega)
           have q1 : decide ((0 : Int) < ((M + 1 : Nat) : Int)) = true := decide_eq_true (by omega)
           have q2 : decide (0 < M + 1) = true := decide_eq_true (by omega)
           clear hp
           by_cases hz : r110 = 0
           ·subst hz
            go_wp2_with (first | ((with_reducible refine gate_dst (N := 122) rfl ?_); refine load_whole B7 ?hg (N := 122) ?hd 35 (.tmp 7) ?ho rfl Try.underlying35 rfl (by kernel_rfl) ?_; (case ho => rfl); (case hd => rfl); (case hg => rfl)) | (go_at_call 12; (with_reducible refine (l2Some.rel (q := Q1) _ _ _ _ _ _ HF.st (by omega) LV.t HN.out.1).mono ?_); rintro e w_ ⟨A47, n47, c47, rfl, h47, hl, hf1⟩; obtain ⟨hf, hm⟩ := HF.via (q := Q1) hf1; have L47 := Lc.base hl HF; replace HF := hf; replace LV := LV.mv hm; replace LS := LS.mv hm; replace LL := LL.mv hm; replace L10 := L10.mv hm; replace L11 := L11.mv hm; replace B7 := B7.mv hm (by decide); have H47 := Aside0.mk (show Q1 n47 from (show n47 ≤ 1000 by omega)); clear hf hm hf1 hl h47) | ((with_reducible refine gate_store (t := 28) (p := 124) (v := .tmp 123) rfl ?_); refine put_row (q := Q1) HF L11 ?hg (t := 28) (p := 124) (v := .tmp 123) ?ho ?hd M (.slice A47 n47 c47) ?hu ?hr ?_; (case ho => rfl); (case hd => rfl); (case hg => rfl); (case hu => show TC _ _ _ 28 (M % 1) _; rw [Nat.mod_one]; exact TC.ints (q := Q1) H47.out L47.t 0 _ rfl); (case hr => have ha_ := add_spot (k := M) L11.t.spot_; obtain ⟨u_, hcz_⟩ := L11.t.cellOf M (show M < (M + 1) * 1 by omega); have hfz_ := L11.t.freeOf (ad.off + M); first | (go_simp; done) | (go_simp; rfl)); intro w_ hl hf hm; replace HF := hf; replace LV := LV.mv hm; replace LS := LS.mv hm; replace LL := LL.mv hm; replace L10 := L10.mv hm; replace B7 := B7.mv hm (by decide); clear L11; have L11 := hl; clear hl hf hm))
            all_goals
             refine bodyPost_ret (v := .tuple #[.slice A n c, .slice A' n' c', .slice B3 k3 d3, .slice (some ad) (M + 1) d8]) ?hres rfl ?_
             case hres => simp [results, Try.results4]
             exact ⟨_, _, _, _, _, _, _, _, _, _, _, _, rfl, by have := HN.out; omega, by have := HN.out; omega, by have := HN.out; have := HO.out; omega, by have := HN.out; have := HL.out; omega, LS, LL, L10.r, L11.r, HF.st.below⟩
           ·skip
            have z0 : (r110 == 0) = false := by simp [hz]
            have z1 : decide (r110 = 0) = false := decide_eq_false hz
            clear hz
            go_wp2_with (fail)
            refine bodyPost_ret (v := .tuple #[.slice A n c, .slice A' n' c', .slice B3 k3 d3, .slice (some ad) (M + 1) d8]) ?hres rfl ?_
            case hres => simp [results, Try.results4]
            exact ⟨_, _, _, _, _, _, _, _, _, _, _, _, rfl, by have := HN.out; omega, by have := HN.out; omega, by have := HN.out; have := HO.out; omega, by have := HN.out; have := HL.out; omega, LS, LL, L10.r, L11.r, HF.st.below⟩
          ·have q1 : decide ((0 : Int) < (k8 : Int)) = false := decide_eq_false (by omega)
           have q2 : decide (0 < k8) = false := decide_eq_false (by omega)
           clear hp
           by_cases hz : r110 = 0
           ·subst hz
            go_wp2_with (fail)
            refine bodyPost_ret (v := .tuple #[.slice A n c, .slice A' n' c', .slice B3 k3 d3, .slice B8 k8 d8]) ?hres rfl ?_
            case hres => simp [results, Try.results4]
            exact ⟨_, _, _, _, _, _, _, _, _, _, _, _, rfl, by have := HN.out; omega, by have := HN.out; omega, by have := HN.out; have := HO.out; omega, by have := HN.out; have := HL.out; omega, LS, LL, L10.r, L11.r, HF.st.below⟩
           ·skip
            have z0 : (r110 == 0) = false := by simp [hz]
            have z1 : decide (r110 = 0) = false := decide_eq_false hz
            clear hz
            go_wp2_with (fail)
            refine bodyPost_ret (v := .tuple #[.slice A n c, .slice A' n' c', .slice B3 k3 d3, .slice B8 k8 d8]) ?hres rfl ?_
            case hres => simp [results, Try.results4]
            exact ⟨_, _, _, _, _, _, _, _, _, _, _, _, rfl, by have := HN.out; omega, by have := HN.out; omega, by have := HN.out; have := HO.out; omega, by have := HN.out; have := HL.out; omega, LS, LL, L10.r, L11.r, HF.st.below⟩
       ·have z0 : (r92 == 0) = false := by simp [hz]
        have z1 : decide (r92 = 0) = false := decide_eq_false hz
        clear hz
        go_wp2_with (fail)
        (with_reducible refine (pickT Q1 _ HF (by omega)).mono ?_)
        rintro e w_ ⟨r110, rfl, hr0, hr1, hf, hm⟩
        clear hr0 hr1
        replace HF := hf
        replace LV := LV.mv hm
        replace LS := LS.mv hm
        replace LL := LL.mv hm
        replace L10 := L10.mv hm
        replace L11 := L11.mv hm
        replace B7 := B7.mv hm (by decide)
        clear hf hm
        by_cases hp : 0 < n'
        ·obtain ⟨M, rfl⟩ : ∃ M, n' = M + 1 := ⟨n' - 1, by omega⟩
         obtain ⟨ad, rfl⟩ := L11.t.some_ hp
         have hwm : wrap64 (M : Int) = M := by unfold wrap64; have := HL.out; have := HN.out; omega
         have pm : ((0 : Int) ≤ (M : Int)) = True := eq_true (by omega)
         have q0 : decide ((0 : Int) < (M : Int) + 1) = true := decide_eq_true (by omega)
         have q1 : decide ((0 : Int) < ((M + 1 : Nat) : Int)) = true := decide_eq_true (by omega)
         have q2 : decide (0 < M + 1) = true := decide_eq_true (by omega)
         clear hp
         by_cases hz : r110 = 0
         ·subst hz
          go_wp2_with (first | ((with_reducible refine gate_dst (N := 122) rfl ?_); refine load_whole B7 ?hg (N := 122) ?hd 35 (.tmp 7) ?ho rfl Try.underlying35 rfl (by kernel_rfl) ?_; (case ho => rfl); (case hd => rfl); (case hg => rfl)) | (go_at_call 12; (with_reducible refine (l2Some.rel (q := Q1) _ _ _ _ _ _ HF.st (by omega) LV.t HN.out.1).mono ?_); rintro e w_ ⟨A47, n47, c47, rfl, h47, hl, hf1⟩; obtain ⟨hf, hm⟩ := HF.via (q := Q1) hf1; have L47 := Lc.base hl HF; replace HF := hf; replace LV := LV.mv hm; replace LS := LS.mv hm; replace LL := LL.mv hm; replace L10 := L10.mv hm; replace L11 := L11.mv hm; replace B7 := B7.mv hm (by decide); have H47 := Aside0.mk (show Q1 n47 from (show n47 ≤ 1000 by omega)); clear hf hm hf1 hl h47) | ((with_reducible refine gate_store (t := 28) (p := 124) (v := .tmp 123) rfl ?_); refine put_row (q := Q1) HF L11 ?hg (t := 28) (p := 124) (v := .tmp 123) ?ho ?hd M (.slice A47 n47 c47) ?hu ?hr ?_; (case ho => rfl); (case hd => rfl); (case hg => rfl); (case hu => show TC _ _ _ 28 (M % 1) _; rw [Nat.mod_one]; exact TC.ints (q := Q1) H47.out L47.t 0 _ rfl); (case hr => have ha_ := add_spot (k := M) L11.t.spot_; obtain ⟨u_, hcz_⟩ := L11.t.cellOf M (show M < (M + 1) * 1 by omega); have hfz_ := L11.t.freeOf (ad.off + M); first | (go_simp; done) | (go_simp; rfl)); intro w_ hl hf hm; replace HF := hf; replace LV := LV.mv hm; replace LS := LS.mv hm; replace LL := LL.mv hm; replace L10 := L10.mv hm; replace B7 := B7.mv hm (by decide); clear L11; have L11 := hl; clear hl hf hm))
          all_goals
           refine bodyPost_ret (v := .tuple #[.slice A n c, .slice A' (M + 1) c', .slice B3 k3 d3, .slice (some ad) (M + 1) e3]) ?hres rfl ?_
           case hres => simp [results, Try.results4]
           exact ⟨_, _, _, _, _, _, _, _, _, _, _, _, rfl, by have := HN.out; omega, by have := HN.out; omega, by have := HN.out; have := HO.out; omega, by have := HN.out; have := HL.out; omega, LS, LL, L10.r, L11.r, HF.st.below⟩
         ·skip
          have z0 : (r110 == 0) = false := by simp [hz]
          have z1 : decide (r110 = 0) = false := decide_eq_false hz
          clear hz
          go_wp2_with (fail)
          refine bodyPost_ret (v := .tuple #[.slice A n c, .slice A' (M + 1) c', .slice B3 k3 d3, .slice (some ad) (M + 1) e3]) ?hres rfl ?_
          case hres => simp [results, Try.results4]
          exact ⟨_, _, _, _, _, _, _, _, _, _, _, _, rfl, by have := HN.out; omega, by have := HN.out; omega, by have := HN.out; have := HO.out; omega, by have := HN.out; have := HL.out; omega, LS, LL, L10.r, L11.r, HF.st.below⟩
        ·have q1 : decide ((0 : Int) < (n' : Int)) = false := decide_eq_false (by omega)
         have q2 : decide (0 < n') = false := decide_eq_false (by omega)
         clear hp
         by_cases hz : r110 = 0
         ·subst hz
          go_wp2_with (fail)
          refine bodyPost_ret (v := .tuple #[.slice A n c, .slice A' n' c', .slice B3 k3 d3, .slice D3 n' e3]) ?hres rfl ?_
          case hres => simp [results, Try.results4]
          exact ⟨_, _, _, _, _, _, _, _, _, _, _, _, rfl, by have := HN.out; omega, by have := HN.out; omega, by have := HN.out; have := HO.out; omega, by have := HN.out; have := HL.out; omega, LS, LL, L10.r, L11.r, HF.st.below⟩
         ·skip
          have z0 : (r110 == 0) = false := by simp [hz]
          have z1 : decide (r110 = 0) = false := decide_eq_false hz
          clear hz
          go_wp2_with (fail)
          refine bodyPost_ret (v := .tuple #[.slice A n c, .slice A' n' c', .slice B3 k3 d3, .slice D3 n' e3]) ?hres rfl ?_
          case hres => simp [results, Try.results4]
          exact ⟨_, _, _, _, _, _, _, _, _, _, _, _, rfl, by have := HN.out; omega, by have := HN.out; omega, by have := HN.out; have := HO.out; omega, by have := HN.out; have := HL.out; omega, LS, LL, L10.r, L11.r, HF.st.below⟩
end Go.Proofs.Ytnidjlhbejifoaa.XFnSameRun
