/- A valid system in memory: its first state, what its rules make of a state (spec.l2Next).
Conditions: each theorem's own. -/
import Derived.WalkMore
import Derived.Test.YtnidjlhbejifoaaRPut
import Derived.Test.YtnidjlhbejifoaaRQ
import Derived.Test.YtnidjlhbejifoaaRTyD
namespace Go.Proofs.Ytnidjlhbejifoaa.XFnSameRun
open Go.RowKit Go.Proofs.YtnidjlhbejifoaaW.PrintWords Go.Proofs.YtnidjlhbejifoaaW.PrintLast Go.Proofs.YtnidjlhbejifoaaW.PrintMore Go.Proofs.YtnidjlhbejifoaaX Ty
attribute [local go_sem] max2_int max_two
set_option linter.unusedVariables false
set_option linter.unusedSimpArgs false
/-- A valid system that lies in memory and stays there through draws. -/
structure Sys (g : Nat) (w : World) (A0 : Option Addr) (c0 : Nat) (vars : List S51) (A1 : Option Addr) (c1 : Nat) (rules : List S59) : Prop where
 v : ∀ W, KeepBut w W g none → Kd.C k51 W A0 vars.length vars
 r : ∀ W, KeepBut w W g none → Kd.C k59 W A1 rules.length rules
 cv : vars.length ≤ c0
 cr : rules.length ≤ c1
 good : GoodSys vars rules
 short : ∀ r ∈ rules, lens 1000 r
 few : rules.length ≤ 8
 valid : ∀ k, 6000 < k → spec_SystemValid.f k vars rules = some true
/-- As many numbers as there are variables. -/
def QV (vars : List S51) (n : Nat) : Prop := n = vars.length
theorem QV.le {vars : List S51} {rules : List S59} (h : GoodSys vars rules) : ∀ n, QV vars n → n ≤ 1000 := fun n hn => by unfold QV at hn; have := h.len; omega
section
variable {q q1 : Nat → Prop} {w0 w W W1 : World} {g n2 c0 c1 c2 : Nat} {P : Int} {A0 A1 A2 : Option Addr} {vars : List S51} {rules : List S59}
theorem Sys.keep (h : Sys g w A0 c0 vars A1 c1 rules) (hk : KeepBut w W g none) : Sys g W A0 c0 vars A1 c1 rules :=
 ⟨fun W1 h1 => h.v W1 (KeepBut.trans hk h1 (.inl rfl)), fun W1 h1 => h.r W1 (KeepBut.trans hk h1 (.inl rfl)), h.cv, h.cr, h.good, h.short, h.few, h.valid⟩
theorem firstT (q : Nat → Prop) (HF : Fr w0 w W g P) (HY : Sys g w A0 c0 vars A1 c1 rules) :
  Calls Try.prog 31 #[.agg #[.slice A0 vars.length c0, .slice A1 rules.length c1]] W fun e W1 => ∃ A c, e = .returned (.slice A vars.length c) ∧ Lc q w0 w 3 W1 A vars.length c ∧ Fr w0 w W1 g P ∧ Mv q w0 g 0 W W1 := by
 obtain ⟨r, hr, hl⟩ := first_f (k := 6101) (by omega) (by have := HY.good.len; omega) HY.valid
 refine (spec_FirstState.calls 6101 A0 c0 vars A1 c1 rules r W (HY.v W HF.keep) HY.cv (HY.r W HF.keep) HY.cr hr).mono ?_
 rintro e W1 ⟨v, rfl, hv, hb⟩
 obtain ⟨A, c, rfl, hlc⟩ := lc3 (q := q) hv HF
 rw [hl] at hlc ⊢
 exact ⟨A, c, rfl, hlc, HF.belowM hb⟩
theorem useT (q : Nat → Prop) (i : Int) (HF : Fr w0 w W g P) (HY : Sys g w A0 c0 vars A1 c1 rules) (h2 : T q1 w0.heap.size 3 W A2 n2 c2) (hn : n2 = vars.length) (h0 : 0 ≤ i) (h1 : i < rules.length) :
  Calls Try.prog 35 #[.agg #[.slice A0 vars.length c0, .slice A1 rules.length c1], .slice A2 n2 c2, .int .i64 i] W fun e W1 => ∃ A n c, e = .returned (.slice A n c) ∧ (n = 0 ∨ n = vars.length) ∧ Lc q w0 w 3 W1 A n c ∧ Fr w0 w W1 g P ∧ Mv q w0 g 0 W W1 := by
 obtain ⟨x2, rfl, f2⟩ := h2.c3
 obtain ⟨j, rfl⟩ := Int.eq_ofNat_of_zero_le h0
 have hj : j < rules.length := by omega
 obtain ⟨r, hr, hl⟩ := use_f HY.good hn hj (HY.short _ (getD_mem rules j z59 hj))
 refine (spec_l2Use.calls 5000 A0 c0 vars A1 c1 rules A2 c2 x2 (j : Int) r W (HY.v W HF.keep) HY.cv (HY.r W HF.keep) HY.cr (Kd.F_now f2) h2.le hr).mono ?_
 rintro e W1 ⟨v, rfl, hv, hb⟩
 obtain ⟨A, c, rfl, hlc⟩ := lc3 (q := q) hv HF
 refine ⟨A, _, c, rfl, ?_, hlc, HF.belowM hb⟩
 rcases hl with rfl | hl
 ·exact .inl rfl
 ·exact .inr hl
end

set_option maxHeartbeats 8000000 in
set_option maxRecDepth 100000 in
theorem l2Next.rel {q1 : Nat → Prop} {w0 w : World} {g : Nat} {P : Int} (A0 : Option Addr) (c0 : Nat) (vars : List S51) (A1 : Option Addr) (c1 : Nat) (rules : List S59) (A2 : Option Addr) (n2 c2 : Nat) (hS : St w0 w g P) (hY : Sys g w A0 c0 vars A1 c1 rules) (h2 : T q1 w0.heap.size 3 w A2 n2 c2) (hn : n2 = vars.length) :
  Calls Try.prog 32 #[.agg #[.slice A0 vars.length c0, .slice A1 rules.length c1], .slice A2 n2 c2] w fun e w' => ∃ A n c, e = .returned (.slice A n c) ∧ n ≤ 8 ∧ Lc (QV vars) w0 w 28 w' A n c ∧ Fr w0 w w' g P := by
 have hu28 := Try.underlying28
 have hu33 := Try.underlying33
 have hu35 := Try.underlying35
 have hu23 := Try.underlying23
 have hu59 := Try.underlying59
 have HF := Fr.start hS
 have HX : Rw (QV vars) w0 3 w A2 n2 c2 := ⟨h2.any ⟨by decide, by decide, by decide⟩, TE3⟩
 have HY := Aside0.mk hY
 have HN := Aside0.mk hn
 clear hS hY h2 hn
 go_enter Try.func32, Try.ntmps32
 go_wp2_with (first | ((with_reducible refine gate_dst (N := 2) rfl ?_); (try (refine gate_guard (by rfl) ?_; dsimp only)); refine new_block (q := QV vars) HF ?hg (N := 2) ?hd (v := fun gb => .pointer (some ⟨gb, 0, none⟩)) (cs := #[.slice A0 vars.length c0, .slice A1 rules.length c1]) (t := 35) ?hr ?_; (case hd => rfl); (case hg => rfl); (case hr => first | (go_simp; done) | (go_simp; rfl)); intro gb2 w2 hb hf hm hge; replace HF := hf; replace HX := HX.mv hm; (try replace L5 := L5.mv hm); (try replace B2 := B2.mv hm (by decide)); have B2 := hb; clear hb hf hm hge) | ((with_reducible refine gate_dst (N := 8) rfl ?_); (try (refine gate_guard (by rfl) ?_; dsimp only)); refine new_block (q := QV vars) HF ?hg (N := 8) ?hd (v := fun gb => .slice (some ⟨gb, 0, none⟩) 0 0) (cs := #[]) (t := 28) ?hr ?_; (case hd => rfl); (case hg => rfl); (case hr => first | (go_simp; done) | (go_simp; rfl)); intro gb8 w8 hb hf hm hge; replace HF := hf; replace HX := HX.mv hm; (try replace L5 := L5.mv hm); (try replace B2 := B2.mv hm (by decide)); have L5 := Lc.lit (q := QV vars) (k := 0) HF hb (by unfold TE; omega) rfl (by omega) (fun j u h => by simp at h); clear hb hf hm hge))
 go_loopg [5, 6] (rules.length + 1) (fun kq v5 v6 wr => ∃ (A : Option Addr) (n c : Nat) (i : Int), v5 = .slice A n c ∧ v6 = .int .i64 i ∧ Lc (QV vars) w0 w 28 wr A n c ∧ Bk w g 35 wr gb2 #[.slice A0 vars.length c0, .slice A1 rules.length c1] ∧ Rw (QV vars) w0 3 wr A2 n2 c2 ∧ Fr w0 w wr g P ∧ Aside0 (0 ≤ i ∧ (n : Int) ≤ i ∧ i ≤ rules.length ∧ (rules.length : Int) < i + kq))
 case atStart => exact ⟨_, _, _, 0, rfl, rfl, L5, B2, HX, HF, ⟨by omega, by omega, by omega, by omega⟩⟩
 case round =>
  clear L5 HF B2 HX
  obtain ⟨A, n, c, i, rfl, rfl, L5, B2, HX, HF, HI⟩ := hrel
  have hi0 := HI.out.1
  have hcz := (B2.cell 1).trans (show _ = some (.slice A1 rules.length c1) from rfl)
  by_cases hc : i < (rules.length : Int)
  ·skip
   have cb0 : decide (i < (rules.length : Int)) = true := decide_eq_true hc
   have hwi : wrap64 (i + 1) = i + 1 := by unfold wrap64; have := HI.out; have := HY.out.few; omega
   have HI2 := Aside0.mk hc
   clear hc hi0
   go_wp2_with (first | ((with_reducible refine gate_dst (N := 16) rfl ?_); refine load_whole B2 ?hg (N := 16) ?hd 35 (.tmp 2) ?ho rfl Try.underlying35 rfl (by kernel_rfl) ?_; (case ho => rfl); (case hd => rfl); (case hg => rfl)) | (go_at_call 35; (with_reducible refine (useT (QV vars) i HF HY.out HX.t HN.out HI.out.1 HI2.out).mono ?_); rintro e w_ ⟨A19, n19, c19, rfl, h19, hl, hf, hm⟩; replace HF := hf; replace HX := HX.mv hm; replace L5 := L5.mv hm; (try replace L7 := L7.mv hm); replace B2 := B2.mv hm (by decide); have L7 := hl; have H19 := Aside0.mk h19; obtain ⟨b1, e1⟩ : ∃ b1, decide (0 < n19) = b1 := ⟨_, rfl⟩; have e2 : decide ((0 : Int) < (n19 : Int)) = b1 := (by rw [← e1]; apply decide_eq_decide.2; omega); clear hl h19; clear hf hm) | (go_at_call 36; have hb_ : b1 = true := (by assumption); have hq_ : QV vars n19 := (by rw [hb_] at e1; have := of_decide_eq_true e1; have := H19.out; unfold QV; omega); clear hb_; (with_reducible refine (l2Put.rel (q := QV vars) _ _ _ _ _ _ HF.st L5.t L7.t hq_ (QV.le HY.out.good) (by have := HI.out; have := HY.out.few; omega)).mono ?_); rintro e w_ ⟨A25, n25, c25, rfl, h25, hl, hf1⟩; obtain ⟨hf, hm⟩ := HF.via (q := QV vars) hf1; have L5' := Lc.base hl HF; replace HF := hf; replace HX := HX.mv hm; replace L5 := L5.mv hm; (try replace L7 := L7.mv hm); replace B2 := B2.mv hm (by decide); clear L5; have L5 := L5'; have H25 := Aside0.mk h25; clear hf hm hf1 hl h25 L5' hq_))
   all_goals (go_roundg (gk - 1); (case measure => have := HI.out; have := HI2.out; omega); (case rel => exact ⟨_, _, _, i + 1, rfl, (by first | rfl | rw [hwi]), L5, B2, HX, HF, ⟨by have := HI.out; omega, by first | (have := HI.out; have := H25.out; omega) | (have := HI.out; omega), by have := HI2.out; omega, by have := HI.out; omega⟩⟩))
  ·skip
   have cb0 : decide (i < (rules.length : Int)) = false := decide_eq_false hc
   go_wp2_with (fail)
   go_ret
   exact ⟨_, _, _, rfl, by have := HI.out; have := HY.out.few; omega, L5, HF⟩
end Go.Proofs.Ytnidjlhbejifoaa.XFnSameRun
