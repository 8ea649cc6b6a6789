/- spec.l3Lasso over rows told by type.
Conditions: each theorem's own. -/
import Derived.WalkMore
import Derived.Test.YtnidjlhbejifoaaRRun
namespace Go.Proofs.Ytnidjlhbejifoaa.XFnSameRun
open Go.RowKit Go.Proofs.YtnidjlhbejifoaaW.PrintWords Go.Proofs.YtnidjlhbejifoaaW.PrintLast Go.Proofs.YtnidjlhbejifoaaW.PrintMore Go.Proofs.YtnidjlhbejifoaaX Ty
attribute [local go_sem] max2_int max_two
set_option linter.unusedVariables false
set_option linter.unusedSimpArgs false
theorem Ty.T.take {q : Nat → Prop} {B e n c k : Nat} {W : World} {A : Option Addr} (h : T q B e W A n c) (hk : k ≤ n) : T q B e W A k c := by
 rcases h with ⟨h1, h2, h3⟩ | ⟨g, off, cs, h1, h2, h3, h4, h5, h6, h7, h8⟩
 ·exact .inl ⟨h1, by omega, h3⟩
 ·exact .inr ⟨g, off, cs, h1, h2, h3, h4, by omega, h6, h7, fun j u hj hu => h8 j u (Nat.lt_of_lt_of_le hj (Nat.mul_le_mul_right _ hk)) hu⟩
theorem Ty.T.drop {q : Nat → Prop} {B n c k : Nat} {W : World} {ad : Addr} (h : T q B 28 W (some ad) n c) (hk : k ≤ n) : T q B 28 W (some (ad.add k)) (n - k) (c - k) := by
 rcases h with ⟨h1, _⟩ | ⟨g, off, cs, h1, h2, h3, h4, h5, h6, h7, h8⟩
 ·cases h1
 ·injection h1 with h1
  subst h1
  have e1 : esz 28 = 1 := rfl
  rw [e1] at h4 h7 h8
  refine .inr ⟨g, off + k, cs, by rw [Addr.add_lit], h2, h3, by rw [e1]; exact Nat.mod_one _, by omega, by omega, by rw [e1]; omega, fun j u hj hu => ?_⟩
  rw [e1] at hj ⊢
  have h9 := h8 (k + j) u (by omega) (by rw [← Nat.add_assoc]; exact hu)
  rw [Nat.mod_one] at h9 ⊢
  exact h9
theorem Ty.Lc.take {q : Nat → Prop} {w0 w W : World} {e n c k : Nat} {A : Option Addr} (h : Lc q w0 w e W A n c) (hk : k ≤ n) : Lc q w0 w e W A k c := ⟨h.t.take hk, h.e, h.o⟩
theorem Ty.Lc.drop {q : Nat → Prop} {w0 w W : World} {n c k : Nat} {ad : Addr} (h : Lc q w0 w 28 W (some ad) n c) (hk : k ≤ n) : Lc q w0 w 28 W (some (ad.add k)) (n - k) (c - k) := ⟨h.t.drop hk, h.e, fun b hb => h.o b (by rw [← hb]; simp only [Option.map_some]; rw [add_spot h.t.spot_])⟩

set_option maxHeartbeats 8000000 in
set_option maxRecDepth 100000 in
theorem l3Lasso.rel {w0 w : World} {g : Nat} {P : Int} (A0 : Option Addr) (c0 : Nat) (vars : List S51) (A1 : Option Addr) (c1 : Nat) (rules : List S59) (hS : St w0 w g P) (hP : P ≤ 900000) (hY : Sys g w A0 c0 vars A1 c1 rules) :
  Calls Try.prog 24 #[.pointer (some ⟨g, 0, none⟩), .agg #[.slice A0 vars.length c0, .slice A1 rules.length c1]] w fun e w' => ∃ A n c A' n' c', e = .returned (.tuple #[.slice A n c, .slice A' n' c']) ∧ n ≤ 25 ∧ n' ≤ 25 ∧ 1 ≤ n' ∧ Lc (QV vars) w0 w 28 w' A n c ∧ Lc (QV vars) w0 w 28 w' A' n' c' ∧ Fr w0 w w' g (P + 24) := by
 have hu28 := Try.underlying28
 have hu33 := Try.underlying33
 have hu35 := Try.underlying35
 have hu23 := Try.underlying23
 have hu59 := Try.underlying59
 have HF := Fr.start hS
 have HP := Aside0.mk hP
 have HY := Aside0.mk hY
 clear hS hP hY
 go_enter Try.func24, Try.ntmps24
 go_wp2_with (first | ((with_reducible refine gate_dst (N := 3) rfl ?_); (try (refine gate_guard (by rfl) ?_; dsimp only)); refine new_block (q := QV vars) HF ?hg (N := 3) ?hd (v := fun gb => .pointer (some ⟨gb, 0, none⟩)) (cs := #[.slice A0 vars.length c0, .slice A1 rules.length c1]) (t := 35) ?hr ?_; (case hd => rfl); (case hg => rfl); (case hr => first | (go_simp; done) | (go_simp; rfl)); intro gb3 w3 hb hf hm hge; replace HF := hf; (try replace L6 := L6.mv hm); (try replace L14 := L14.mv hm); (try replace B3 := B3.mv hm (by decide)); have B3 := hb; clear hb hf hm hge) | ((with_reducible refine gate_dst (N := 13) rfl ?_); refine load_whole B3 ?hg (N := 13) ?hd 35 (.tmp 3) ?ho rfl Try.underlying35 rfl (by kernel_rfl) ?_; (case ho => rfl); (case hd => rfl); (case hg => rfl)) | (go_at_call 31; (with_reducible refine (firstT (QV vars) HF HY.out).mono ?_); rintro e w_ ⟨A14, c14, rfl, hl, hf, hm⟩; replace HF := hf; (try replace L6 := L6.mv hm); (try replace L14 := L14.mv hm); (try replace B3 := B3.mv hm (by decide)); have L14 := hl; clear hl; clear hf hm) | ((with_reducible refine gate_dst (N := 15) rfl ?_); (try (refine gate_guard (by rfl) ?_; dsimp only)); refine new_block (q := QV vars) HF ?hg (N := 15) ?hd (v := fun gb => .slice (some ⟨gb, 0, none⟩) 1 1) (cs := #[.slice A14 vars.length c14]) (t := 28) ?hr ?_; (case hd => rfl); (case hg => rfl); (case hr => first | (go_simp; done) | (go_simp; rfl)); intro gb15 w15 hb hf hm hge; replace HF := hf; (try replace L6 := L6.mv hm); (try replace L14 := L14.mv hm); (try replace B3 := B3.mv hm (by decide)); have L6 := Lc.lit (q := QV vars) (k := 1) HF hb (by unfold TE; omega) rfl (by omega) (TC.mod (cs := [.slice A14 vars.length c14]) rfl (TC.ints (q := QV vars) rfl L14.t)); clear hb hf hm hge))
 go_loopg [6, 7, 8] 25 (fun kq v6 v7 v8 wr => ∃ (A : Option Addr) (n c : Nat) (t i : Int), v6 = .slice A n c ∧ v7 = .int .i64 t ∧ v8 = .int .i64 i ∧ Lc (QV vars) w0 w 28 wr A n c ∧ Bk w g 35 wr gb3 #[.slice A0 vars.length c0, .slice A1 rules.length c1] ∧ Fr w0 w wr g (P + i) ∧ Aside0 (0 ≤ i ∧ i ≤ 24 ∧ 1 ≤ n ∧ (n : Int) ≤ i + 1 ∧ -1 ≤ t ∧ t < n ∧ 24 < i + kq))
 case atStart => exact ⟨_, _, _, -1, 0, rfl, rfl, rfl, L6, B3, Fr.more HF (by omega), ⟨by omega, by omega, by omega, by omega, by omega, by omega, by omega⟩⟩
 case round =>
  clear L6 HF B3 L14
  obtain ⟨A, n, c, t, i, rfl, rfl, rfl, L6, B3, HF, HI⟩ := hrel
  obtain ⟨gko, rfl⟩ : ∃ x : Nat, x = gk := ⟨_, rfl⟩
  obtain ⟨ad, rfl⟩ := L6.t.some_ (by have := HI.out; omega)
  by_cases hc : i < 24 ∧ t < 0
  ·skip
   have hi24 := hc.1
   have ht0 := hc.2
   clear hc
   have cb0 : decide (i < 24) = true := decide_eq_true hi24
   have cb1 : decide (t < 0) = true := decide_eq_true ht0
   have hwi : wrap64 (i + 1) = i + 1 := by unfold wrap64; have := HI.out; omega
   have HI2 := Aside0.mk (And.intro hi24 ht0)
   clear hi24 ht0
   obtain ⟨m, rfl⟩ : ∃ m, n = m + 1 := ⟨n - 1, by have := HI.out; omega⟩
   have hwm : wrap64 (m : Int) = m := by unfold wrap64; have := HI.out; omega
   have pm : ((0 : Int) ≤ (m : Int)) = True := eq_true (by omega)
   obtain ⟨A29, n29, c29, hz29, hq29, ht29⟩ := L6.t.at28 (q1 := QV vars) (m : Int) (by omega) (by omega)
   rw [Int.toNat_natCast] at hz29
   have Q29 := Aside0.mk (show n29 = vars.length from hq29)
   have T29 := Aside0.mk ht29
   clear hq29 ht29
   go_wp2_with (first | ((with_reducible refine gate_dst (N := 30) rfl ?_); refine load_whole B3 ?hg (N := 30) ?hd 35 (.tmp 3) ?ho rfl Try.underlying35 rfl (by kernel_rfl) ?_; (case ho => rfl); (case hd => rfl); (case hg => rfl)) | (go_at_call 32; (with_reducible refine (l2Next.rel (q1 := QV vars) _ _ _ _ _ _ _ _ _ HF.st (HY.out.keep HF.keep) T29.out Q29.out).mono ?_); rintro e w_ ⟨A32, n32, c32, rfl, h32, hl, hf1⟩; obtain ⟨hf, hm⟩ := HF.via (q := QV vars) hf1; have L10 := Lc.base hl HF; replace T29 := Aside0.mk ((Rw.mk T29.out TE3).mv hm).t; replace HF := hf; replace L6 := L6.mv hm; (try replace L11 := L11.mv hm); replace B3 := B3.mv hm (by decide); have H32 := Aside0.mk h32; obtain ⟨b1, e1⟩ : ∃ b1, decide (0 < n32) = b1 := ⟨_, rfl⟩; have e2 : decide ((0 : Int) < (n32 : Int)) = b1 := (by rw [← e1]; apply decide_eq_decide.2; omega); clear hf hm hf1 hl h32) | (go_at_call 10; (with_reducible refine (copyT (QV vars) HF T29.out (by have : n29 = vars.length := Q29.out; have := HY.out.good.len; omega)).mono ?_); rintro e w_ ⟨A34, c34, rfl, hl, hf, hm⟩; replace HF := hf; replace L6 := L6.mv hm; (try replace L10 := L10.mv hm); (try replace L11 := L11.mv hm); replace B3 := B3.mv hm (by decide); have L11 := hl; clear hl; clear hf hm) | (go_at_call 11; have hb_ : b1 = true := (by assumption); have hp_ : 0 < n32 := (by rw [hb_] at e1; exact of_decide_eq_true e1); clear hb_; (with_reducible refine (pickT (QV vars) _ HF (by have := HI.out; have := HI2.out; have := HP.out; omega)).mono ?_); rintro e w_ ⟨r42, rfl, hr0, hr1_, hf, hm⟩; replace HF := hf; replace L6 := L6.mv hm; (try replace L10 := L10.mv hm); (try replace L11 := L11.mv hm); replace B3 := B3.mv hm (by decide); have hr1 := hr1_ (by omega); clear hr1_; clear hf hm; obtain ⟨ad10, rfl⟩ := L10.t.some_ hp_; obtain ⟨A44, n44, c44, hz44, hq44, ht44⟩ := L10.t.at28 (q1 := QV vars) r42 hr0 hr1; have px42 := eq_true hr0; have qx42 := eq_true hr1; have Q44 := Aside0.mk hq44; have T44 := Aside0.mk ht44; clear hq44 ht44))
   ·skip
    have LX : Rw (QV vars) w0 3 _ A44 n44 c44 := ⟨T44.out, TE3⟩
    have QX := Aside0.mk Q44.out
    clear T44 Q44 hz44 L10 L11 T29 Q29
    obtain ⟨wo, hwo⟩ : ∃ wo : World, wo = w := ⟨_, rfl⟩
    clear hwo wo
    go_loopg [7, 12] (m + 2) (fun kq v7 v12 wr => ∃ (t k : Int), v7 = .int .i64 t ∧ v12 = .int .i64 k ∧ Lc (QV vars) w0 w 28 wr (some ad) (m + 1) c ∧ Rw (QV vars) w0 3 wr A44 n44 c44 ∧ Bk w g 35 wr gb3 #[.slice A0 vars.length c0, .slice A1 rules.length c1] ∧ Fr w0 w wr g (P + i + 1) ∧ Aside0 (0 ≤ k ∧ k ≤ m + 1 ∧ -1 ≤ t ∧ t < m + 1 ∧ (m : Int) + 1 < k + kq))
    case atStart => exact ⟨t, 0, rfl, rfl, L6, LX, B3, Fr.more HF (by omega), ⟨by omega, by omega, by have := HI.out; omega, by have := HI.out; omega, by omega⟩⟩
    case round =>
     clear L6 HF B3 LX
     obtain ⟨t2, k, rfl, rfl, L6, LX, B3, HF, HJ⟩ := hrel
     have hk0 := HJ.out.1
     by_cases hc : k < (m : Int) + 1
     ·skip
      have cb0 : decide (k < (m : Int) + 1) = true := decide_eq_true hc
      have HJ2 := Aside0.mk hc
      have px := eq_true hk0
      have qx := eq_true hc
      have hwk : wrap64 (k + 1) = k + 1 := by unfold wrap64; have := HJ.out; have := HI.out; omega
      obtain ⟨A54, n54, c54, hz54, hq54, ht54⟩ := L6.t.at28 (q1 := QV vars) k hk0 (by have := HJ2.out; omega); have T54 := Aside0.mk ht54; have Q54 := Aside0.mk (show n54 = vars.length from hq54); clear hq54 ht54
      clear hc
      go_wp2_with (first | (go_at_call 18; (with_reducible refine (sameT (QV vars) HF T54.out LX.t (by have := Q54.out; have := HY.out.good.len; omega)).mono ?_); rintro e w_ ⟨b56, rfl, hf, hm⟩; replace HF := hf; replace L6 := L6.mv hm; replace LX := LX.mv hm; replace B3 := B3.mv hm (by decide); clear hf hm))
      all_goals
       go_roundg (gk - 1)
       case measure => have := HJ.out; have := HJ2.out; omega
       case rel => exact ⟨_, k + 1, rfl, (by first | rfl | rw [hwk]), L6, LX, B3, HF, ⟨by omega, by have := HJ2.out; omega, by have := HJ.out; omega, by have := HJ.out; have := HJ2.out; omega, by have := HJ.out; omega⟩⟩
     ·skip
      have cb0 : decide (k < (m : Int) + 1) = false := decide_eq_false hc
      obtain ⟨b2, e3⟩ : ∃ b2, decide (t2 < 0) = b2 := ⟨_, rfl⟩
      go_wp2_with (first | ((with_reducible refine gate_builtin (b := .append) (xs := #[.tmp 60, .tmp 62]) rfl ?_); (try (refine gate_guard (by rfl) ?_; dsimp only)); at_builtin; refine app_row HF rfl (.tmp 60) (.tmp 62) 23 (e := 28) (z := .slice none 0 0) (bytes := 24) L6 rfl Try.underlying23 info28 rfl (by decide) [.slice A44 n44 c44] rfl rfl rfl ?h1 ?ht ?hl ?_; (case h1 => simp [Value.oneCell']); (case ht => exact TC.ints (q := QV vars) QX.out LX.t); (case hl => have := HI.out; omega); intro A_ c_ w_ hl hf hm; replace HF := hf; replace B3 := B3.mv hm (by decide); clear L6; have L6 := hl; clear hl hf hm))
      all_goals (go_roundg (gko - 1); (case measure => have := HI.out; have := HI2.out; omega); (case rel => exact ⟨_, _, _, t2, i + 1, rfl, rfl, (by first | rfl | rw [hwi]), L6, B3, Fr.more HF (by omega), ⟨by have := HI.out; omega, by have := HI2.out; omega, by omega, by have := HI.out; omega, by have := HJ.out; omega, by have := HJ.out; omega, by have := HI.out; omega⟩⟩))
   ·skip
    obtain rfl : b1 = false := by assumption
    have LX := L11.r
    have QX := Aside0.mk (show QV vars n29 from Q29.out)
    clear L10 L11 T29 Q29
    obtain ⟨wo, hwo⟩ : ∃ wo : World, wo = w := ⟨_, rfl⟩
    clear hwo wo
    go_loopg [7, 12] (m + 2) (fun kq v7 v12 wr => ∃ (t k : Int), v7 = .int .i64 t ∧ v12 = .int .i64 k ∧ Lc (QV vars) w0 w 28 wr (some ad) (m + 1) c ∧ Rw (QV vars) w0 3 wr A34 n29 c34 ∧ Bk w g 35 wr gb3 #[.slice A0 vars.length c0, .slice A1 rules.length c1] ∧ Fr w0 w wr g (P + i + 1) ∧ Aside0 (0 ≤ k ∧ k ≤ m + 1 ∧ -1 ≤ t ∧ t < m + 1 ∧ (m : Int) + 1 < k + kq))
    case atStart => exact ⟨t, 0, rfl, rfl, L6, LX, B3, Fr.more HF (by omega), ⟨by omega, by omega, by have := HI.out; omega, by have := HI.out; omega, by omega⟩⟩
    case round =>
     clear L6 HF B3 LX
     obtain ⟨t2, k, rfl, rfl, L6, LX, B3, HF, HJ⟩ := hrel
     have hk0 := HJ.out.1
     by_cases hc : k < (m : Int) + 1
     ·skip
      have cb0 : decide (k < (m : Int) + 1) = true := decide_eq_true hc
      have HJ2 := Aside0.mk hc
      have px := eq_true hk0
      have qx := eq_true hc
      have hwk : wrap64 (k + 1) = k + 1 := by unfold wrap64; have := HJ.out; have := HI.out; omega
      obtain ⟨A54, n54, c54, hz54, hq54, ht54⟩ := L6.t.at28 (q1 := QV vars) k hk0 (by have := HJ2.out; omega); have T54 := Aside0.mk ht54; have Q54 := Aside0.mk (show n54 = vars.length from hq54); clear hq54 ht54
      clear hc
      go_wp2_with (first | (go_at_call 18; (with_reducible refine (sameT (QV vars) HF T54.out LX.t (by have := Q54.out; have := HY.out.good.len; omega)).mono ?_); rintro e w_ ⟨b56, rfl, hf, hm⟩; replace HF := hf; replace L6 := L6.mv hm; replace LX := LX.mv hm; replace B3 := B3.mv hm (by decide); clear hf hm))
      all_goals
       go_roundg (gk - 1)
       case measure => have := HJ.out; have := HJ2.out; omega
       case rel => exact ⟨_, k + 1, rfl, (by first | rfl | rw [hwk]), L6, LX, B3, HF, ⟨by omega, by have := HJ2.out; omega, by have := HJ.out; omega, by have := HJ.out; have := HJ2.out; omega, by have := HJ.out; omega⟩⟩
     ·skip
      have cb0 : decide (k < (m : Int) + 1) = false := decide_eq_false hc
      obtain ⟨b2, e3⟩ : ∃ b2, decide (t2 < 0) = b2 := ⟨_, rfl⟩
      go_wp2_with (first | ((with_reducible refine gate_builtin (b := .append) (xs := #[.tmp 60, .tmp 62]) rfl ?_); (try (refine gate_guard (by rfl) ?_; dsimp only)); at_builtin; refine app_row HF rfl (.tmp 60) (.tmp 62) 23 (e := 28) (z := .slice none 0 0) (bytes := 24) L6 rfl Try.underlying23 info28 rfl (by decide) [.slice A34 n29 c34] rfl rfl rfl ?h1 ?ht ?hl ?_; (case h1 => simp [Value.oneCell']); (case ht => exact TC.ints (q := QV vars) QX.out LX.t); (case hl => have := HI.out; omega); intro A_ c_ w_ hl hf hm; replace HF := hf; replace B3 := B3.mv hm (by decide); clear L6; have L6 := hl; clear hl hf hm))
      all_goals (go_roundg (gko - 1); (case measure => have := HI.out; have := HI2.out; omega); (case rel => exact ⟨_, _, _, t2, i + 1, rfl, rfl, (by first | rfl | rw [hwi]), L6, B3, Fr.more HF (by omega), ⟨by have := HI.out; omega, by have := HI2.out; omega, by omega, by have := HI.out; omega, by have := HJ.out; omega, by have := HJ.out; omega, by have := HI.out; omega⟩⟩))
  ·skip
   obtain ⟨b1, e1⟩ : ∃ b1, decide (i < 24) = b1 := ⟨_, rfl⟩
   obtain ⟨b2, e2⟩ : ∃ b2, decide (t < 0) = b2 := ⟨_, rfl⟩
   have hbb : (b1 && b2) = false := by rw [← e1, ← e2]; rw [Bool.and_eq_false_iff]; by_cases h : i < 24; (· exact .inr (decide_eq_false (fun h2 => hc ⟨h, h2⟩))); (· exact .inl (decide_eq_false h))
   clear hc
   cases b1
   ·cases b2
    ·skip
     have ht0 : 0 ≤ t := by have := of_decide_eq_false e2; omega
     obtain ⟨tn, rfl⟩ := Int.eq_ofNat_of_zero_le ht0
     have hle := L6.le
     have htn : tn < n := by have := HI.out; omega
     have f0 : ((0 : Int) ≤ (tn : Int)) = True := eq_true (by omega)
     have f1 : ((tn : Int) ≤ (c : Int)) = True := eq_true (by omega)
     have f2 : (tn ≤ c) = True := eq_true (by omega)
     have f3 : ((tn : Int) ≤ (n : Int)) = True := eq_true (by omega)
     have f4 : (tn ≤ n) = True := eq_true (by omega)
     have f5 : (c = tn) = False := eq_false (by omega)
     have f6 : (tn = c) = False := eq_false (by omega)
     clear hle htn ht0
     go_wp2_with (fail)
     replace L6 := L6.mv (Mv.drew (g := g))
     replace HF := HF.drew
     refine start_ (n := 8) (S := fun w' => True) (ds := []) (ms 8 0) (by kernel_rfl) rfl rfl trivial (fun hHeld => ?_)
     refine pure_ (i := 0) (N := some 66) (v := ?_) (a' := ?_) (ms 8 1) rfl rfl (by kernel_rfl) (fun _ _ _ h => h) (Or.inl ⟨by rfl, ?_⟩) ?_ ?_
     rotate_left
     ·intro w'
      go_simp
      with_reducible rfl
     rotate_left
     ·simp only [Act.put, List.setIfInBounds_toArray, List.set_cons_zero, List.set_cons_succ, i64_w]
      rfl
     refine pure_ (i := 1) (N := some 67) (v := ?_) (a' := ?_) (ms 8 3) rfl rfl (by kernel_rfl) (fun _ _ _ h => h) (Or.inl ⟨by rfl, ?_⟩) ?_ ?_
     rotate_left
     ·intro w'
      go_simp
      with_reducible rfl
     rotate_left
     ·simp only [Act.put, List.setIfInBounds_toArray, List.set_cons_zero, List.set_cons_succ, i64_w]
      rfl
     refine pure_ (i := 2) (N := some 68) (v := ?_) (a' := ?_) (ms 8 7) rfl rfl (by kernel_rfl) (fun _ _ _ h => h) (Or.inl ⟨by rfl, ?_⟩) ?_ ?_
     rotate_left
     ·intro w'
      go_simp
      with_reducible rfl
     rotate_left
     ·simp only [Act.put, List.setIfInBounds_toArray, List.set_cons_zero, List.set_cons_succ, i64_w]
      rfl
     refine pure_ (i := 3) (N := some 69) (v := ?_) (a' := ?_) (ms 8 15) rfl rfl (by kernel_rfl) (fun _ _ _ h => h) (Or.inl ⟨by rfl, ?_⟩) ?_ ?_
     rotate_left
     ·intro w'
      go_simp
      with_reducible rfl
     rotate_left
     ·simp only [Act.put, List.setIfInBounds_toArray, List.set_cons_zero, List.set_cons_succ, i64_w]
      rfl
     refine pure_ (i := 4) (N := some 70) (v := ?_) (a' := ?_) (ms 8 31) rfl rfl (by kernel_rfl) (fun _ _ _ h => h) (Or.inl ⟨by rfl, ?_⟩) ?_ ?_
     rotate_left
     ·intro w'
      go_simp
      with_reducible rfl
     rotate_left
     ·simp only [Act.put, List.setIfInBounds_toArray, List.set_cons_zero, List.set_cons_succ, i64_w]
      rfl
     refine pure_ (i := 5) (N := some 71) (v := ?_) (a' := ?_) (ms 8 63) rfl rfl (by kernel_rfl) (fun _ _ _ h => h) (Or.inl ⟨by rfl, ?_⟩) ?_ ?_
     rotate_left
     ·intro w'
      go_simp
      with_reducible rfl
     rotate_left
     ·simp only [Act.put, List.setIfInBounds_toArray, List.set_cons_zero, List.set_cons_succ, i64_w]
      rfl
     refine pure_ (i := 6) (N := some 4) (v := ?_) (a' := ?_) (ms 8 127) rfl rfl (by kernel_rfl) (fun _ _ _ h => h) (Or.inl ⟨by rfl, ?_⟩) ?_ ?_
     rotate_left
     ·intro w'
      go_simp
      with_reducible rfl
     rotate_left
     ·simp only [Act.put, List.setIfInBounds_toArray, List.set_cons_zero, List.set_cons_succ, i64_w]
      rfl
     refine pure_ (i := 7) (N := some 5) (v := ?_) (a' := ?_) (ms 8 255) rfl rfl (by kernel_rfl) (fun _ _ _ h => h) (Or.inl ⟨by rfl, ?_⟩) ?_ ?_
     rotate_left
     ·intro w'
      go_simp
      with_reducible rfl
     rotate_left
     ·simp only [Act.put, List.setIfInBounds_toArray, List.set_cons_zero, List.set_cons_succ, i64_w]
      rfl
     refine done_ (by kernel_rfl) ?_
     go_wp2_with (fail)
     go_ret2
     exact ⟨_, _, _, _, _, _, rfl, by have := HI.out; omega, by have := HI.out; omega, by have := HI.out; omega, L6.take (by have := HI.out; omega), L6.drop (by have := HI.out; omega), Fr.more HF (by have := HI.out; omega)⟩
    ·skip
     have hle := L6.le
     have hn1 : 1 ≤ n := by have := HI.out; omega
     have f0 : (c = 0) = False := eq_false (by omega)
     clear hle hn1
     go_wp2_with (fail)
     replace L6 := L6.mv (Mv.drew (g := g))
     replace HF := HF.drew
     refine start_ (n := 8) (S := fun w' => True) (ds := []) (ms 8 0) (by kernel_rfl) rfl rfl trivial (fun hHeld => ?_)
     refine pure_ (i := 0) (N := some 66) (v := ?_) (a' := ?_) (ms 8 1) rfl rfl (by kernel_rfl) (fun _ _ _ h => h) (Or.inl ⟨by rfl, ?_⟩) ?_ ?_
     rotate_left
     ·intro w'
      go_simp
      with_reducible rfl
     rotate_left
     ·simp only [Act.put, List.setIfInBounds_toArray, List.set_cons_zero, List.set_cons_succ, i64_w]
      rfl
     refine pure_ (i := 1) (N := some 67) (v := ?_) (a' := ?_) (ms 8 3) rfl rfl (by kernel_rfl) (fun _ _ _ h => h) (Or.inl ⟨by rfl, ?_⟩) ?_ ?_
     rotate_left
     ·intro w'
      go_simp
      with_reducible rfl
     rotate_left
     ·simp only [Act.put, List.setIfInBounds_toArray, List.set_cons_zero, List.set_cons_succ, i64_w]
      rfl
     refine pure_ (i := 2) (N := some 68) (v := ?_) (a' := ?_) (ms 8 7) rfl rfl (by kernel_rfl) (fun _ _ _ h => h) (Or.inl ⟨by rfl, ?_⟩) ?_ ?_
     rotate_left
     ·intro w'
      go_simp
      with_reducible rfl
     rotate_left
     ·simp only [Act.put, List.setIfInBounds_toArray, List.set_cons_zero, List.set_cons_succ, i64_w]
      rfl
     refine pure_ (i := 3) (N := some 69) (v := ?_) (a' := ?_) (ms 8 15) rfl rfl (by kernel_rfl) (fun _ _ _ h => h) (Or.inl ⟨by rfl, ?_⟩) ?_ ?_
     rotate_left
     ·intro w'
      go_simp
      with_reducible rfl
     rotate_left
     ·simp only [Act.put, List.setIfInBounds_toArray, List.set_cons_zero, List.set_cons_succ, i64_w]
      rfl
     refine pure_ (i := 4) (N := some 70) (v := ?_) (a' := ?_) (ms 8 31) rfl rfl (by kernel_rfl) (fun _ _ _ h => h) (Or.inl ⟨by rfl, ?_⟩) ?_ ?_
     rotate_left
     ·intro w'
      go_simp
      with_reducible rfl
     rotate_left
     ·simp only [Act.put, List.setIfInBounds_toArray, List.set_cons_zero, List.set_cons_succ, i64_w]
      rfl
     refine pure_ (i := 5) (N := some 71) (v := ?_) (a' := ?_) (ms 8 63) rfl rfl (by kernel_rfl) (fun _ _ _ h => h) (Or.inl ⟨by rfl, ?_⟩) ?_ ?_
     rotate_left
     ·intro w'
      go_simp
      with_reducible rfl
     rotate_left
     ·simp only [Act.put, List.setIfInBounds_toArray, List.set_cons_zero, List.set_cons_succ, i64_w]
      rfl
     refine pure_ (i := 6) (N := some 4) (v := ?_) (a' := ?_) (ms 8 127) rfl rfl (by kernel_rfl) (fun _ _ _ h => h) (Or.inl ⟨by rfl, ?_⟩) ?_ ?_
     rotate_left
     ·intro w'
      go_simp
      with_reducible rfl
     rotate_left
     ·simp only [Act.put, List.setIfInBounds_toArray, List.set_cons_zero, List.set_cons_succ, i64_w]
      rfl
     refine pure_ (i := 7) (N := some 5) (v := ?_) (a' := ?_) (ms 8 255) rfl rfl (by kernel_rfl) (fun _ _ _ h => h) (Or.inl ⟨by rfl, ?_⟩) ?_ ?_
     rotate_left
     ·intro w'
      go_simp
      with_reducible rfl
     rotate_left
     ·simp only [Act.put, List.setIfInBounds_toArray, List.set_cons_zero, List.set_cons_succ, i64_w]
      rfl
     refine done_ (by kernel_rfl) ?_
     go_wp2_with (fail)
     go_ret2
     exact ⟨_, _, _, _, _, _, rfl, by have := HI.out; omega, by have := HI.out; omega, by have := HI.out; omega, L6.take (by have := HI.out; omega), L6, Fr.more HF (by have := HI.out; omega)⟩
   ·cases b2
    ·skip
     have ht0 : 0 ≤ t := by have := of_decide_eq_false e2; omega
     obtain ⟨tn, rfl⟩ := Int.eq_ofNat_of_zero_le ht0
     have hle := L6.le
     have htn : tn < n := by have := HI.out; omega
     have f0 : ((0 : Int) ≤ (tn : Int)) = True := eq_true (by omega)
     have f1 : ((tn : Int) ≤ (c : Int)) = True := eq_true (by omega)
     have f2 : (tn ≤ c) = True := eq_true (by omega)
     have f3 : ((tn : Int) ≤ (n : Int)) = True := eq_true (by omega)
     have f4 : (tn ≤ n) = True := eq_true (by omega)
     have f5 : (c = tn) = False := eq_false (by omega)
     have f6 : (tn = c) = False := eq_false (by omega)
     clear hle htn ht0
     go_wp2_with (fail)
     replace L6 := L6.mv (Mv.drew (g := g))
     replace HF := HF.drew
     refine start_ (n := 8) (S := fun w' => True) (ds := []) (ms 8 0) (by kernel_rfl) rfl rfl trivial (fun hHeld => ?_)
     refine pure_ (i := 0) (N := some 66) (v := ?_) (a' := ?_) (ms 8 1) rfl rfl (by kernel_rfl) (fun _ _ _ h => h) (Or.inl ⟨by rfl, ?_⟩) ?_ ?_
     rotate_left
     ·intro w'
      go_simp
      with_reducible rfl
     rotate_left
     ·simp only [Act.put, List.setIfInBounds_toArray, List.set_cons_zero, List.set_cons_succ, i64_w]
      rfl
     refine pure_ (i := 1) (N := some 67) (v := ?_) (a' := ?_) (ms 8 3) rfl rfl (by kernel_rfl) (fun _ _ _ h => h) (Or.inl ⟨by rfl, ?_⟩) ?_ ?_
     rotate_left
     ·intro w'
      go_simp
      with_reducible rfl
     rotate_left
     ·simp only [Act.put, List.setIfInBounds_toArray, List.set_cons_zero, List.set_cons_succ, i64_w]
      rfl
     refine pure_ (i := 2) (N := some 68) (v := ?_) (a' := ?_) (ms 8 7) rfl rfl (by kernel_rfl) (fun _ _ _ h => h) (Or.inl ⟨by rfl, ?_⟩) ?_ ?_
     rotate_left
     ·intro w'
      go_simp
      with_reducible rfl
     rotate_left
     ·simp only [Act.put, List.setIfInBounds_toArray, List.set_cons_zero, List.set_cons_succ, i64_w]
      rfl
     refine pure_ (i := 3) (N := some 69) (v := ?_) (a' := ?_) (ms 8 15) rfl rfl (by kernel_rfl) (fun _ _ _ h => h) (Or.inl ⟨by rfl, ?_⟩) ?_ ?_
     rotate_left
     ·intro w'
      go_simp
      with_reducible rfl
     rotate_left
     ·simp only [Act.put, List.setIfInBounds_toArray, List.set_cons_zero, List.set_cons_succ, i64_w]
      rfl
     refine pure_ (i := 4) (N := some 70) (v := ?_) (a' := ?_) (ms 8 31) rfl rfl (by kernel_rfl) (fun _ _ _ h => h) (Or.inl ⟨by rfl, ?_⟩) ?_ ?_
     rotate_left
     ·intro w'
      go_simp
      with_reducible rfl
     rotate_left
     ·simp only [Act.put, List.setIfInBounds_toArray, List.set_cons_zero, List.set_cons_succ, i64_w]
      rfl
     refine pure_ (i := 5) (N := some 71) (v := ?_) (a' := ?_) (ms 8 63) rfl rfl (by kernel_rfl) (fun _ _ _ h => h) (Or.inl ⟨by rfl, ?_⟩) ?_ ?_
     rotate_left
     ·intro w'
      go_simp
      with_reducible rfl
     rotate_left
     ·simp only [Act.put, List.setIfInBounds_toArray, List.set_cons_zero, List.set_cons_succ, i64_w]
      rfl
     refine pure_ (i := 6) (N := some 4) (v := ?_) (a' := ?_) (ms 8 127) rfl rfl (by kernel_rfl) (fun _ _ _ h => h) (Or.inl ⟨by rfl, ?_⟩) ?_ ?_
     rotate_left
     ·intro w'
      go_simp
      with_reducible rfl
     rotate_left
     ·simp only [Act.put, List.setIfInBounds_toArray, List.set_cons_zero, List.set_cons_succ, i64_w]
      rfl
     refine pure_ (i := 7) (N := some 5) (v := ?_) (a' := ?_) (ms 8 255) rfl rfl (by kernel_rfl) (fun _ _ _ h => h) (Or.inl ⟨by rfl, ?_⟩) ?_ ?_
     rotate_left
     ·intro w'
      go_simp
      with_reducible rfl
     rotate_left
     ·simp only [Act.put, List.setIfInBounds_toArray, List.set_cons_zero, List.set_cons_succ, i64_w]
      rfl
     refine done_ (by kernel_rfl) ?_
     go_wp2_with (fail)
     go_ret2
     exact ⟨_, _, _, _, _, _, rfl, by have := HI.out; omega, by have := HI.out; omega, by have := HI.out; omega, L6.take (by have := HI.out; omega), L6.drop (by have := HI.out; omega), Fr.more HF (by have := HI.out; omega)⟩
    ·cases hbb
end Go.Proofs.Ytnidjlhbejifoaa.XFnSameRun
