/- How an argument that came in reads: a list of whole numbers, of structs, of lists, or a struct by value.
Conditions: the types' own tables alone. -/
import Derived.Test.YthphgkhmeobadacWWords
import Derived.Deep.Slices
import Derived.ChangeArms
import Derived.WideShapes
namespace Go.Proofs.YthphgkhmeobadacX
open Go.Proofs.YthphgkhmeobadacW.PrintWords Go.Deep Go.ChangeShapes Go.WideShapes
set_option linter.unusedVariables false

/-- What reads as a datum of type t is a row of cells that the kind tells, and its numbers fit. -/
def Opens {α : Type} (P : Program) (t : TypeId) (d : Kd α) (wf : α → Prop) : Prop :=
  P.cellsOf t = d.sz ∧ ∀ (H : Type) (enc : TypeId × Value → H) (w : World) (base : Nat) (held : Bool) (fuel : Nat) (cs : List Value) (x : DataW H × List MemPlace),
    DataW.trod enc P w base (fun _ => true) held fuel t cs = some x → ∃ y, d.K w y cs ∧ wf y

theorem opens_int {P : Program} {t : TypeId} {k : IntKind} (ht : P.underlying t = some (.int k)) (hc : P.cellsOf t = 1) :
    Opens P t (Kd.int k) (fun n => (Lit.int k n).wf = true) := by
  refine ⟨hc, fun H enc w base held fuel cs x h => ?_⟩
  obtain ⟨n, rfl, _, hw⟩ := DataW.trod_int ht h
  exact ⟨n, rfl, hw⟩

theorem exists_list {α : Type} {p : Nat → α → Prop} (n : Nat) (h : ∀ i, i < n → ∃ y, p i y) :
    ∃ l : List α, l.length = n ∧ ∀ i y, l[i]? = some y → p i y := by
  induction n with
  | zero => exact ⟨[], rfl, fun i y hy => by simp at hy⟩
  | succ n ih =>
    obtain ⟨l, hl, hp⟩ := ih (fun i hi => h i (by omega))
    obtain ⟨y, hy⟩ := h n (by omega)
    refine ⟨l ++ [y], by simp [hl], fun i z hz => ?_⟩
    by_cases hi : i < l.length
    · rw [List.getElem?_append_left hi] at hz
      exact hp i z hz
    · rw [List.getElem?_append_right (by omega)] at hz
      have : i = n := by
        by_cases e : i = n
        · exact e
        · rw [List.getElem?_eq_none (by simp; omega)] at hz
          cases hz
      subst this
      simp [hl] at hz
      subst hz
      exact hy

theorem opens_slice {α : Type} {P : Program} {t e : TypeId} {d : Kd α} {wf : α → Prop} (q : Nat) (ht : P.underlying t = some (.slice e)) (hc : P.cellsOf t = 1)
    (he : Opens P e d wf) : Opens P t (Kd.slice q d) (fun l => l.length ≤ 9223372036854775807 ∧ ∀ x ∈ l, wf x) := by
  refine ⟨hc, fun H enc w base held fuel cs x h => ?_⟩
  obtain ⟨hsz, hop⟩ := he
  rcases open_slice ht h with ⟨rfl, _⟩ | ⟨a, len, cap, m, n, D, Pl, rfl, hb, hl, hm, hmm, _, hx⟩
  · exact ⟨[], ⟨none, 0, rfl, Nat.le_refl _, Kd.C_nil d w⟩, by simp, fun x hx => by cases hx⟩
  · simp only [if_true] at hmm
    unfold maxLen at hm
    have each : ∀ i, i < len → ∃ y, ∃ c : List Value, c.length = d.sz ∧ d.K w y c ∧ wf y ∧ ∀ j u, c[j]? = some u → w.cell? (a.add (i * d.sz + j)) = some u := by
      intro i hi
      obtain ⟨cs', h1, h2⟩ := hx i (by omega)
      obtain ⟨y, hK, hw⟩ := hop H enc w base held n cs' _ h2
      obtain ⟨_, hlen, hcell⟩ := World.cells?_some h1
      refine ⟨y, cs', by rw [hlen, hsz], hK, hw, fun j u hu => ?_⟩
      have hj : j < P.cellsOf e := by
        have := (List.getElem?_eq_some_iff.1 hu).1
        omega
      have := hcell j hj
      rw [Go.Deep.add_add, hsz, hu] at this
      exact this
    obtain ⟨l, hll, hlp⟩ := exists_list len each
    subst hll
    refine ⟨l, ⟨some a, cap, rfl, hl, rfl, by omega, fun _ => ⟨a, rfl, fun j p hj => ?_⟩⟩, by omega, fun x hx => ?_⟩
    · obtain ⟨c, h1, h2, _, h4⟩ := hlp j p hj
      exact ⟨c, h1, h2, h4⟩
    · obtain ⟨i, hi⟩ := List.getElem?_of_mem hx
      obtain ⟨c, _, _, h3, _⟩ := hlp i x hi
      exact h3

/-- The fields of a struct, from a place on. -/
def OpensF {α : Type} (P : Program) (fs : List Field) (off : Nat) (d : Kd α) (wf : α → Prop) : Prop :=
  ∀ (H : Type) (enc : TypeId × Value → H) (w : World) (base : Nat) (held : Bool) (n : Nat) (cs : List Value), cs.length = off + d.sz →
    (∀ (i : Nat) (f : Field), fs[i]? = some f → ∃ y, DataW.trod enc P w base (fun _ => true) held n f.type ((cs.drop f.offset).take (P.cellsOf f.type)) = some y) →
    ∃ y, d.K w y (cs.drop off) ∧ wf y

theorem opensF_last {α : Type} {P : Program} {f : Field} {off : Nat} {d : Kd α} {wf : α → Prop} (ho : f.offset = off) (h : Opens P f.type d wf) : OpensF P [f] off d wf := by
  intro H enc w base held n cs hl hf
  obtain ⟨y, hy⟩ := hf 0 f rfl
  obtain ⟨z, hK, hw⟩ := h.2 H enc w base held n _ _ hy
  rw [ho, h.1, List.take_of_length_le (by rw [List.length_drop]; omega)] at hK
  exact ⟨z, hK, hw⟩

theorem opensF_cons {α β : Type} {P : Program} {f : Field} {fs : List Field} {off : Nat} {a : Kd α} {b : Kd β} {wa : α → Prop} {wb : β → Prop} (ho : f.offset = off)
    (ha : Opens P f.type a wa) (hb : OpensF P fs (off + a.sz) b wb) : OpensF P (f :: fs) off (Kd.pair a b) (fun x => wa x.1 ∧ wb x.2) := by
  intro H enc w base held n cs hl hf
  have hl' : cs.length = off + (a.sz + b.sz) := hl
  obtain ⟨y, hy⟩ := hf 0 f rfl
  obtain ⟨z, hK, hw⟩ := ha.2 H enc w base held n _ _ hy
  obtain ⟨u, hKu, hwu⟩ := hb H enc w base held n cs (by omega) (fun i g hg => hf (i + 1) g hg)
  rw [ho, ha.1] at hK
  refine ⟨(z, u), ⟨_, _, ?_, hK, hKu⟩, hw, hwu⟩
  rw [← List.drop_drop, List.take_append_drop]

theorem opens_struct {α β : Type} {P : Program} {t : TypeId} {fs : Array Field} {d : Kd α} {wf : α → Prop} {f : β → α} (g : α → β) (ht : P.underlying t = some (.struct fs)) (hc : P.cellsOf t = d.sz)
    (h : OpensF P fs.toList 0 d wf) (hfg : ∀ x, f (g x) = x) : Opens P t (Kd.iso d f) (fun x => wf (f x)) := by
  refine ⟨hc, fun H enc w base held fuel cs x hx => ?_⟩
  obtain ⟨xs, n, _, _, hl, hn, hf⟩ := DataW.trod_struct ht hx
  obtain ⟨y, hK, hw⟩ := h H enc w base held n cs (by omega) (fun i f hi => by
    have h1 := hf i f (by simpa using hi)
    have hi' : i < xs.length := by
      have := (List.getElem?_eq_some_iff.1 hi).1
      rw [hn]
      simpa using this
    rw [List.getElem?_eq_getElem hi'] at h1
    exact ⟨_, h1⟩)
  refine ⟨g y, ?_, ?_⟩
  · show d.K w (f (g y)) cs
    rw [hfg]
    exact hK
  · show wf (f (g y))
    rw [hfg]
    exact hw

/-- A struct that is handed over by value: its fields in line. -/
theorem open_fields {α : Type} {P : Program} {t : TypeId} {fs : Array Field} {d : Kd α} {wf : α → Prop} (ht : P.underlying t = some (.struct fs)) (hc : P.cellsOf t = d.sz)
    (h : OpensF P fs.toList 0 d wf) {H : Type} {enc : TypeId × Value → H} {w : World} {base b0 : Nat} {held : Bool} {r : Reach} {v : Value} {x : DataW H} {ps : List MemPlace}
    (hv : Value.okWide P w r b0 t v) (hx : DataW.Trod enc P w base (fun _ => true) held t v x ps) : ∃ (cs : List Value) (y : α), v = .agg cs.toArray ∧ d.K w y cs ∧ wf y := by
  obtain ⟨fuel, hf⟩ := hx
  obtain ⟨cs, rfl, _⟩ := okWide_struct ht hv
  obtain ⟨y, hK, hw⟩ := (opens_struct (f := id) id ht hc h (fun _ => rfl)).2 H enc w base held fuel _ _ hf
  exact ⟨cs.toList, y, by simp, hK, hw⟩

/-- A slice that is handed over. -/
theorem open_list {α : Type} {P : Program} {t e : TypeId} {d : Kd α} {wf : α → Prop} (ht : P.underlying t = some (.slice e)) (hc : P.cellsOf t = 1) (he : Opens P e d wf)
    {H : Type} {enc : TypeId × Value → H} {w : World} {base b0 : Nat} {held : Bool} {r : Reach} {v : Value} {x : DataW H} {ps : List MemPlace}
    (hv : Value.okWide P w r b0 t v) (hx : DataW.Trod enc P w base (fun _ => true) held t v x ps) :
    ∃ (A : Option Addr) (c : Nat) (l : List α), v = .slice A l.length c ∧ l.length ≤ c ∧ d.C w A l.length l ∧ l.length ≤ 9223372036854775807 ∧ ∀ y ∈ l, wf y := by
  obtain ⟨fuel, hf⟩ := hx
  obtain ⟨a, len, cap, rfl⟩ := okWide_slice ht hv
  obtain ⟨l, ⟨A, c, he2, hl, hC⟩, h1, h2⟩ := (opens_slice 0 ht hc he).2 H enc w base held fuel _ _ hf
  simp [Value.cells] at he2
  obtain ⟨rfl, rfl, rfl⟩ := he2
  exact ⟨_, _, l, rfl, hl, hC, h1, h2⟩

end Go.Proofs.YthphgkhmeobadacX
