/- The built-in copy, over rows of elements of any number of cells: a row that the call made takes up what another row holds.
Conditions: as many elements here as there. -/
import Derived.Test.YtnidjlhbejifoaaWWords
import Derived.Test.YtnidjlhbejifoaaWLast
import Derived.Laws.CopyOwn
import Derived.ArgAppend
namespace Go.Proofs.YtnidjlhbejifoaaX
open Go.Proofs.YtnidjlhbejifoaaW.PrintWords Go.RowKit
set_option linter.unusedVariables false

theorem run_copy_many {P : Program} (w : World) (dT sT ty elem : TypeId) (g o dLen dCap : Nat) (a : Addr) (sLen sCap sz : Nat) (cur : Array Value) (t : TypeId) (cs : List Value)
    (hu : P.underlying dT = some (.slice elem)) (hs : (P.info? elem).map (·.size) = some sz)
    (hg : w.heap[g]? = some (.cells cur t (0, 0))) (hn : cs.length = Nat.min sLen dLen * sz)
    (hsrc : ∀ j v, cs[j]? = some v → w.cell? (a.add j) = some v) (hfit : o + cs.length ≤ cur.size) (h1 : ∀ v ∈ cs, v.oneCell' = true) :
    (Builtin.copy_ #[dT, sT] ty #[.slice (some ⟨g, o, none⟩) dLen dCap, .slice (some a) sLen sCap]).run P w =
      .ok (goInt (Nat.min sLen dLen)) (w.setRow g (cur.toList.take o ++ cs ++ cur.toList.drop (o + cs.length)).toArray) := by
  have hl := run_loadCells_list (P := P) (w := w) a cs hsrc
  have hst := run_storeCells_at P g o t cs 0 cur w hg (by simpa using hfit) h1
  cases hq : P.info? elem with
  | none => simp [hq] at hs
  | some i =>
    have hi : i.size = sz := by simpa [hq] using hs
    simp [Builtin.copy_, run_underlying hu, Builtin.lenOf, Builtin.firstCells, sizeOf, typeInfo, hq, hi, ← hn, hl, hst]

section
variable {α : Type} {P : Program} {ops : Array Oper} {rest : List Oper} {o : Oper} {a : Act} {Q : Exit → Act → World → Prop}

theorem R_copy (d : Kd α) {w0 W : World} (base e : Nat) (hgd : o.guard = none) {N : Tmp} (hdst : o.dst = some N) (x y : Operand) (dT sT : TypeId)
    (ho : o.op = .call { callee := .builtin .copy, args := #[x, y], argTypes := #[dT, sT] }) (hu : P.underlying dT = some (.slice e)) (hsz : (P.info? e).map (·.size) = some d.sz) (hs0 : 0 < d.sz)
    {ok : Nat → Prop} {v : Value} {xs ys : List α} {A : Option Addr} {n c : Nat} (hx : a.eval x = v) (hy : a.eval y = .slice A n c)
    (HO : d.R e W base ok v xs) (HR : d.C W A n ys) (hlen : xs.length = n) (hpos : 0 < n)
    (hKM : ∀ (w' : World) (okp : Nat → Prop) (p : α) (cs : List Value), d.K W p cs → d.M w' base okp p cs) (HB : Below base w0 W)
    (h : ∀ w1, d.R e w1 base ok v ys → Below base w0 w1 → wpList P ops Q rest (a.put o.dst (goInt n)) w1) :
    wpList P ops Q (o :: rest) a W := by
  obtain ⟨hok, inner, ⟨hil, hv⟩, hr⟩ := HO
  have hys : ys.length = n := HR.1
  rcases hv with ⟨_, h0⟩ | ⟨g, cap, cur, rfl, hbg, hg, hnc, hcm, hcs, htake⟩
  · omega
  obtain ⟨ad, rfl, _⟩ := HR.2.2 hpos
  obtain ⟨news, hnr, hnc2⟩ := ReadsRow.inner_ HR
  have hone : ∀ u ∈ news, u.oneCell' = true := by
    intro u hu
    obtain ⟨q, hq, rfl⟩ := List.mem_iff_getElem.1 hu
    have hql : q / d.sz < ys.length := by
      rw [Nat.div_lt_iff_lt_mul hs0, ← hnr.1]
      exact hq
    have hc := hnr.2 (q / d.sz) _ (List.getElem?_eq_getElem hql)
    refine d.K_one hc _ ?_
    rw [List.mem_iff_getElem?]
    refine ⟨q % d.sz, ?_⟩
    rw [List.getElem?_take, if_pos (Nat.mod_lt _ hs0), List.getElem?_drop, Nat.mul_comm, Nat.div_add_mod, List.getElem?_eq_getElem hq]
  have hnl : news.length = n * d.sz := by rw [hnr.1, hys]
  have hfit : 0 + news.length ≤ cur.size := by
    rw [Nat.zero_add, hnl, hcs, ← hlen]
    exact Nat.mul_le_mul_right _ hnc
  have hrun := run_copy_many (P := P) W dT sT o.type e g 0 xs.length cap ad n c d.sz cur e news hu hsz hg (by rw [hlen, show Nat.min n n = n from Nat.min_self n, hnl]) hnc2 hfit hone
  refine wpList_plain hgd fun K hK => ?_
  unfold Oper.wp
  rw [hlen, show Nat.min n n = n from Nat.min_self n] at hrun
  simp [execOp, ho, resolve, invoke, builtin, hx, hy, hlen, hrun, Result.andThen]
  refine hK _ _ (h _ ⟨hok, news, ⟨by rw [hys, hnl], .inr ⟨g, cap, _, ?_, hbg, setRow_heap W g _ _ e _ hg, by omega, hcm, ?_, ?_⟩⟩, ?_⟩ (below_setRow HB hbg _))
  · rw [hlen, hys]
  · simp
    omega
  · simp [hys, hnl]
  · exact hnr.imp_ (fun p q hp => hKM _ _ p q hp)
end

end Go.Proofs.YtnidjlhbejifoaaX
