/- spec.l2Put over rows told by type.
Conditions: each theorem's own. -/
import Derived.WalkMore
import Derived.Test.YtnidjlhbejifoaaRTyR
namespace Go.Proofs.Ytnidjlhbejifoaa.XFnSameRun
open Go.RowKit Go.Proofs.YtnidjlhbejifoaaW.PrintWords Go.Proofs.YtnidjlhbejifoaaW.PrintLast Go.Proofs.YtnidjlhbejifoaaW.PrintMore Go.Proofs.YtnidjlhbejifoaaX Ty
attribute [local go_sem] max2_int max_two
set_option linter.unusedVariables false
set_option linter.unusedSimpArgs false
set_option maxHeartbeats 8000000 in
set_option maxRecDepth 100000 in
theorem l2Put.rel {q q1 : Nat → Prop} {w0 w : World} {g : Nat} {P : Int} (A0 : Option Addr) (n0 c0 : Nat) (A1 : Option Addr) (n1 c1 : Nat) (hS : St w0 w g P) (h0 : T q w0.heap.size 28 w A0 n0 c0) (h1 : T q1 w0.heap.size 3 w A1 n1 c1) (hq : q n1) (hqn : ∀ n, q n → n ≤ 1000) (hn : n0 ≤ 1000) :
  Calls Try.prog 36 #[.slice A0 n0 c0, .slice A1 n1 c1] w fun e w' => ∃ A n c, e = .returned (.slice A n c) ∧ n ≤ n0 + 1 ∧ Lc q w0 w 28 w' A n c ∧ Fr w0 w w' g P := by
 have hu23 := Try.underlying23
 have HF := Fr.start hS
 have H0 : Rw q w0 28 w A0 n0 c0 := ⟨h0, TE28⟩
 have H1 : Rw q w0 3 w A1 n1 c1 := ⟨h1.any ⟨by decide, by decide, by decide⟩, TE3⟩
 have HQ := Aside0.mk hq
 have HQN := Aside0.mk hqn
 have HN := Aside0.mk hn
 clear hS h0 h1 hq hqn hn
 go_enter Try.func36, Try.ntmps36
 go_wp2_with (first | ((with_reducible refine gate_dst (N := 8) rfl ?_); (try (refine gate_guard (by rfl) ?_; dsimp only)); refine new_block (q := q) HF ?hg (N := 8) ?hd (v := fun gb => .slice (some ⟨gb, 0, none⟩) 0 0) (cs := #[]) (t := 28) ?hr ?_; (case hd => rfl); (case hg => rfl); (case hr => first | (go_simp; done) | (go_simp; rfl)); intro gb8 w8 hb hf hm hge; replace HF := hf; replace H0 := H0.mv hm; replace H1 := H1.mv hm; have L5 := Lc.lit (q := q) (k := 0) HF hb (by unfold TE; omega) rfl (by omega) (fun j u h => by simp at h); clear hb hf hm hge))
 go_loopg [5, 6, 7] (n0 + 1) (fun kq v5 v6 v7 wr => ∃ (A : Option Addr) (n c : Nat) (d : Bool) (i : Int), v5 = .slice A n c ∧ v6 = .bool d ∧ v7 = .int .i64 i ∧ Lc q w0 w 28 wr A n c ∧ Fr w0 w wr g P ∧ Rw q w0 28 wr A0 n0 c0 ∧ Rw q w0 3 wr A1 n1 c1 ∧ Aside0 (0 ≤ i ∧ i ≤ n0 ∧ (n : Int) ≤ i + 1 ∧ (d = false → (n : Int) ≤ i) ∧ (kq : Int) + i = n0 + 1))
 case atStart => exact ⟨_, _, _, false, 0, rfl, rfl, rfl, L5, HF, H0, H1, ⟨by omega, by omega, by omega, fun _ => by omega, by omega⟩⟩
 case round =>
  clear L5 HF H0 H1
  obtain ⟨A, n, c, d, i, rfl, rfl, rfl, L5, HF, H0, H1, HX⟩ := hrel
  have hi0 := HX.out.1
  have hi1 := HX.out.2.1
  by_cases hc : i < (n0 : Int)
  ·skip
   have cb0 : decide (i < (n0 : Int)) = true := decide_eq_true hc
   have px := eq_true hi0
   have qx := eq_true hc
   have hwx : wrap64 (i + 1) = i + 1 := by unfold wrap64; have := HN.out; omega
   obtain ⟨ad, rfl⟩ := H0.t.some_ (by omega)
   (try clear hc2); obtain ⟨A2, n2, c2, hc2, hq2, ht2⟩ := H0.t.at28 (q1 := q) i hi0 hc; have HQ2 := Aside0.mk hq2; have HT2 := Aside0.mk ht2; clear hq2 ht2
   cases d
   ·have HY := Aside0.mk (HX.out.2.2.2.1 rfl)
    go_wp2_with (first | (go_at_call 18; (with_reducible refine (sameT (A1 := A2) (n1 := n2) (c1 := c2) q HF HT2.out H1.t (HQN.out _ HQ2.out)).mono ?_); rintro e w_ ⟨b18, rfl, hf, hm⟩; replace HF := hf; replace H0 := H0.mv hm; replace H1 := H1.mv hm; replace L5 := L5.mv hm; clear hf hm; (try clear hc2); obtain ⟨A2, n2, c2, hc2, hq2, ht2⟩ := H0.t.at28 (q1 := q) i hi0 hc; have HQ2 := Aside0.mk hq2; have HT2 := Aside0.mk ht2; clear hq2 ht2) | (go_at_call 42; (with_reducible refine (lessT (A2 := A2) (n2 := n2) (c2 := c2) q HF H1.t HT2.out (HQN.out _ HQ.out)).mono ?_); rintro e w_ ⟨b42, rfl, hf, hm⟩; replace HF := hf; replace H0 := H0.mv hm; replace H1 := H1.mv hm; replace L5 := L5.mv hm; clear hf hm; (try clear hc2); obtain ⟨A2, n2, c2, hc2, hq2, ht2⟩ := H0.t.at28 (q1 := q) i hi0 hc; have HQ2 := Aside0.mk hq2; have HT2 := Aside0.mk ht2; clear hq2 ht2) | ((with_reducible refine gate_builtin (b := .append) (xs := #[.tmp 35, .tmp 37]) rfl ?_); (try (refine gate_guard (by rfl) ?_; dsimp only)); at_builtin; refine app_row HF rfl (.tmp 35) (.tmp 37) 23 (e := 28) (z := .slice none 0 0) (bytes := 24) L5 rfl Try.underlying23 info28 rfl (by decide) [.slice A1 n1 c1] rfl rfl rfl ?h1 ?ht ?hl ?_; (case h1 => simp [Value.oneCell']); (case ht => exact fun j u h => by (match j, h with | 0, h => (injection (h : some _ = some u) with h; subst h; simp only [TC]; exact ⟨_, _, _, rfl, HQ.out, H1.t.r3⟩))); (case hl => have := HX.out.1; have := HX.out.2.1; have := HY.out; have := HN.out; omega); intro A_ c_ w_ hl hf hm; replace HF := hf; replace H0 := H0.mv hm; replace H1 := H1.mv hm; clear L5; have L5 := hl; clear hl hf hm; (try clear hc2); obtain ⟨A2, n2, c2, hc2, hq2, ht2⟩ := H0.t.at28 (q1 := q) i hi0 hc; have HQ2 := Aside0.mk hq2; have HT2 := Aside0.mk ht2; clear hq2 ht2) | ((with_reducible refine gate_builtin (b := .append) (xs := #[.tmp 39, .tmp 44]) rfl ?_); (try (refine gate_guard (by rfl) ?_; dsimp only)); at_builtin; refine app_row HF rfl (.tmp 39) (.tmp 44) 23 (e := 28) (z := .slice none 0 0) (bytes := 24) L5 rfl Try.underlying23 info28 rfl (by decide) [.slice A2 n2 c2] rfl rfl rfl ?h1 ?ht ?hl ?_; (case h1 => simp [Value.oneCell']); (case ht => exact fun j u h => by (match j, h with | 0, h => (injection (h : some _ = some u) with h; subst h; simp only [TC]; exact ⟨_, _, _, rfl, HQ2.out, HT2.out.r3⟩))); (case hl => have := HX.out.1; have := HX.out.2.1; have := HY.out; have := HN.out; omega); intro A_ c_ w_ hl hf hm; replace HF := hf; replace H0 := H0.mv hm; replace H1 := H1.mv hm; clear L5; have L5 := hl; clear hl hf hm; (try clear hc2); obtain ⟨A2, n2, c2, hc2, hq2, ht2⟩ := H0.t.at28 (q1 := q) i hi0 hc; have HQ2 := Aside0.mk hq2; have HT2 := Aside0.mk ht2; clear hq2 ht2))
    all_goals
     go_roundg (gk - 1)
     case measure => have := HX.out.2.2.2.2; omega
     case rel => exact ⟨_, _, _, _, i + 1, rfl, rfl, (by rw [hwx]), L5, HF, H0, H1, ⟨by omega, by omega, by have := HY.out; omega, fun h => by first | (cases h; done) | (have := HY.out; omega), by have := HX.out.2.2.2.2; omega⟩⟩
   ·have HY := Aside0.mk HX.out.2.2.1
    go_wp2_with (first | (go_at_call 18; (with_reducible refine (sameT (A1 := A2) (n1 := n2) (c1 := c2) q HF HT2.out H1.t (HQN.out _ HQ2.out)).mono ?_); rintro e w_ ⟨b18, rfl, hf, hm⟩; replace HF := hf; replace H0 := H0.mv hm; replace H1 := H1.mv hm; replace L5 := L5.mv hm; clear hf hm; (try clear hc2); obtain ⟨A2, n2, c2, hc2, hq2, ht2⟩ := H0.t.at28 (q1 := q) i hi0 hc; have HQ2 := Aside0.mk hq2; have HT2 := Aside0.mk ht2; clear hq2 ht2) | (go_at_call 42; (with_reducible refine (lessT (A2 := A2) (n2 := n2) (c2 := c2) q HF H1.t HT2.out (HQN.out _ HQ.out)).mono ?_); rintro e w_ ⟨b42, rfl, hf, hm⟩; replace HF := hf; replace H0 := H0.mv hm; replace H1 := H1.mv hm; replace L5 := L5.mv hm; clear hf hm; (try clear hc2); obtain ⟨A2, n2, c2, hc2, hq2, ht2⟩ := H0.t.at28 (q1 := q) i hi0 hc; have HQ2 := Aside0.mk hq2; have HT2 := Aside0.mk ht2; clear hq2 ht2) | ((with_reducible refine gate_builtin (b := .append) (xs := #[.tmp 35, .tmp 37]) rfl ?_); (try (refine gate_guard (by rfl) ?_; dsimp only)); at_builtin; refine app_row HF rfl (.tmp 35) (.tmp 37) 23 (e := 28) (z := .slice none 0 0) (bytes := 24) L5 rfl Try.underlying23 info28 rfl (by decide) [.slice A1 n1 c1] rfl rfl rfl ?h1 ?ht ?hl ?_; (case h1 => simp [Value.oneCell']); (case ht => exact fun j u h => by (match j, h with | 0, h => (injection (h : some _ = some u) with h; subst h; simp only [TC]; exact ⟨_, _, _, rfl, HQ.out, H1.t.r3⟩))); (case hl => have := HX.out.1; have := HX.out.2.1; have := HY.out; have := HN.out; omega); intro A_ c_ w_ hl hf hm; replace HF := hf; replace H0 := H0.mv hm; replace H1 := H1.mv hm; clear L5; have L5 := hl; clear hl hf hm; (try clear hc2); obtain ⟨A2, n2, c2, hc2, hq2, ht2⟩ := H0.t.at28 (q1 := q) i hi0 hc; have HQ2 := Aside0.mk hq2; have HT2 := Aside0.mk ht2; clear hq2 ht2) | ((with_reducible refine gate_builtin (b := .append) (xs := #[.tmp 39, .tmp 44]) rfl ?_); (try (refine gate_guard (by rfl) ?_; dsimp only)); at_builtin; refine app_row HF rfl (.tmp 39) (.tmp 44) 23 (e := 28) (z := .slice none 0 0) (bytes := 24) L5 rfl Try.underlying23 info28 rfl (by decide) [.slice A2 n2 c2] rfl rfl rfl ?h1 ?ht ?hl ?_; (case h1 => simp [Value.oneCell']); (case ht => exact fun j u h => by (match j, h with | 0, h => (injection (h : some _ = some u) with h; subst h; simp only [TC]; exact ⟨_, _, _, rfl, HQ2.out, HT2.out.r3⟩))); (case hl => have := HX.out.1; have := HX.out.2.1; have := HY.out; have := HN.out; omega); intro A_ c_ w_ hl hf hm; replace HF := hf; replace H0 := H0.mv hm; replace H1 := H1.mv hm; clear L5; have L5 := hl; clear hl hf hm; (try clear hc2); obtain ⟨A2, n2, c2, hc2, hq2, ht2⟩ := H0.t.at28 (q1 := q) i hi0 hc; have HQ2 := Aside0.mk hq2; have HT2 := Aside0.mk ht2; clear hq2 ht2))
    all_goals
     go_roundg (gk - 1)
     case measure => have := HX.out.2.2.2.2; omega
     case rel => exact ⟨_, _, _, _, i + 1, rfl, rfl, (by rw [hwx]), L5, HF, H0, H1, ⟨by omega, by omega, by have := HY.out; omega, fun h => by first | (cases h; done) | (have := HY.out; omega), by have := HX.out.2.2.2.2; omega⟩⟩
  ·skip
   have cb0 : decide (i < (n0 : Int)) = false := decide_eq_false hc
   have hin := HX.out.2.1
   cases d
   ·have HY := Aside0.mk (HX.out.2.2.2.1 rfl)
    go_wp2_with (first | ((with_reducible refine gate_builtin (b := .append) (xs := #[.tmp 48, .tmp 50]) rfl ?_); (try (refine gate_guard (by rfl) ?_; dsimp only)); at_builtin; refine app_row HF rfl (.tmp 48) (.tmp 50) 23 (e := 28) (z := .slice none 0 0) (bytes := 24) L5 rfl Try.underlying23 info28 rfl (by decide) [.slice A1 n1 c1] rfl rfl rfl ?h1 ?ht ?hl ?_; (case h1 => simp [Value.oneCell']); (case ht => exact fun j u h => by (match j, h with | 0, h => (injection (h : some _ = some u) with h; subst h; simp only [TC]; exact ⟨_, _, _, rfl, HQ.out, H1.t.r3⟩))); (case hl => have := HX.out.2.1; have := HX.out.2.2.1; have := HN.out; omega); intro A_ c_ w_ hl hf hm; replace HF := hf; replace H0 := H0.mv hm; replace H1 := H1.mv hm; clear L5; have L5 := hl; clear hl hf hm))
    go_ret
    exact ⟨_, _, _, rfl, by have := HX.out.2.1; have := HY.out; omega, L5, HF⟩
   ·go_wp2_with (first | ((with_reducible refine gate_builtin (b := .append) (xs := #[.tmp 48, .tmp 50]) rfl ?_); (try (refine gate_guard (by rfl) ?_; dsimp only)); at_builtin; refine app_row HF rfl (.tmp 48) (.tmp 50) 23 (e := 28) (z := .slice none 0 0) (bytes := 24) L5 rfl Try.underlying23 info28 rfl (by decide) [.slice A1 n1 c1] rfl rfl rfl ?h1 ?ht ?hl ?_; (case h1 => simp [Value.oneCell']); (case ht => exact fun j u h => by (match j, h with | 0, h => (injection (h : some _ = some u) with h; subst h; simp only [TC]; exact ⟨_, _, _, rfl, HQ.out, H1.t.r3⟩))); (case hl => have := HX.out.2.1; have := HX.out.2.2.1; have := HN.out; omega); intro A_ c_ w_ hl hf hm; replace HF := hf; replace H0 := H0.mv hm; replace H1 := H1.mv hm; clear L5; have L5 := hl; clear hl hf hm))
    go_ret
    exact ⟨_, _, _, rfl, by have := HX.out.2.1; have := HX.out.2.2.1; omega, L5, HF⟩
end Go.Proofs.Ytnidjlhbejifoaa.XFnSameRun
