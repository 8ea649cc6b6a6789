/- A map of the call's own, told as a function from its keys to what stands there: made, looked up, written.
Conditions: the key's type's own law, and that what is looked up reads as a key. -/
import Derived.Maps.OwnSet
import Derived.Maps.OwnOps
import Derived.DeepKeys4
import Derived.WalkKit
import Derived.Test.YthphgkhmeobadabWWords
namespace Go.Proofs.YthphgkhmeobadabX
open Go Go.Maps Go.RowKit
set_option linter.unusedVariables false

/-- How the elements of a map are laid: as a value, read as a literal. -/
structure ElemK (P : Program) (E : TypeId) {β : Type} (enc : β → Value) (z : β) where
  lit : β → Lit
  good : β → Prop
  read : ∀ v, good v → plainElem (H := Unit) P E (enc v) = some (.lit (lit v), [])
  inv : ∀ {v : Value} {x : DataW Unit × List MemPlace}, plainElem P E v = some x → ∃ y, v = enc y ∧ x = (.lit (lit y), [])
  inj : ∀ {x y}, lit x = lit y → x = y
  zgood : good z
  zero : ∀ w, (zeroValue E).run P w = .ok (enc z) w

def elemInt {P : Program} {E : TypeId} (he : P.underlying E = some (.int .i64)) (hz : ∀ w, (zeroValue E).run P w = .ok (.int .i64 0) w) : ElemK P E (Value.int .i64) (0 : Int) where
  lit := Lit.int .i64
  good n := (Lit.int .i64 n).wf = true
  read v h := plainElem_int he h
  inv h := by obtain ⟨a, rfl, rfl, _⟩ := plainElem_int_inv he h; exact ⟨a, rfl, rfl⟩
  inj h := by injection h
  zgood := by decide
  zero := hz
def elemBool {P : Program} {E : TypeId} (he : P.underlying E = some .bool) (hz : ∀ w, (zeroValue E).run P w = .ok (.bool false) w) : ElemK P E Value.bool false where
  lit := Lit.bool
  good _ := True
  read v _ := plainElem_bool he v
  inv {v x} h := by
    unfold plainElem at h
    rw [he] at h
    cases v <;> simp at h
    exact ⟨_, rfl, h.symm⟩
  inj h := by injection h
  zgood := trivial
  zero := hz

/-- How the keys are laid: which of them read as keys. -/
structure KeyK (P : Program) (K : TypeId) {α : Type} (enc : α → Value) where
  law : Keyed P K
  good : α → Prop
  read : ∀ x, good x → ∃ l, keyOf P K (enc x) = some l
  inj : ∀ {x y}, enc x = enc y → x = y

section
variable {P : Program} {K E T : TypeId} {α β : Type} {enc : α → Value} {encE : β → Value} {z : β}
/-- BLOCK b IS A MAP OF AT MOST n ENTRIES, AND AT KEY x STANDS F x. -/
def MapF (k : KeyK P K enc) (e : ElemK P E encE z) (w : World) (b n : Nat) (F : α → Option β) : Prop :=
  ∃ D : DataW Unit, w.ownsMap P K (plainElem P E) b n D ∧ ∀ x l, k.good x → keyOf P K (enc x) = some l → Maps.has D l = (F x).isSome ∧ D.atKey l (.lit (e.lit z)) = .lit (e.lit ((F x).getD z))

variable {k : KeyK P K enc} {e : ElemK P E encE z} {w w' : World} {b n : Nat} {F : α → Option β}
theorem MapF.made (k : KeyK P K enc) (e : ElemK P E encE z) (w : World) : MapF k e (w.alloc (.map #[] 0)) w.heap.size 0 (fun _ => none) :=
  ⟨.map [], World.ownsMap_made w P K _, fun x l _ _ => ⟨rfl, rfl⟩⟩
theorem MapF.mono (h : MapF k e w b n F) {n' : Nat} (hn : n ≤ n') : MapF k e w b n' F := let ⟨D, h1, h2⟩ := h; ⟨D, h1.mono hn, h2⟩
theorem MapF.congr (h : MapF k e w b n F) {G : α → Option β} (hG : ∀ x, k.good x → G x = F x) : MapF k e w b n G :=
  let ⟨D, h1, h2⟩ := h; ⟨D, h1, fun x l hx hl => by rw [hG x hx]; exact h2 x l hx hl⟩
theorem MapF.lt (h : MapF k e w b n F) : b < w.heap.size := let ⟨_, h1, _⟩ := h; h1.lt
theorem MapF.block (h : MapF k e w b n F) : ∃ es c, w.heap[b]? = some (.map es c) := let ⟨_, ⟨es, c, hb, _⟩, _⟩ := h; ⟨es, c, hb⟩
theorem MapF.move (h : MapF k e w b n F) (hb : w'.heap[b]? = w.heap[b]?) : MapF k e w' b n F := by
  obtain ⟨D, ⟨es, c, h1, r⟩, h2⟩ := h
  exact ⟨D, ⟨es, c, hb.trans h1, r⟩, h2⟩
theorem MapF.grown (h : MapF k e w b n F) {row : Option Nat} (hg : w.grownBy w' row) (hne : some b ≠ row) : MapF k e w' b n F := h.move (hg.block b h.lt hne)
theorem MapF.below (h : MapF k e w b n F) (hb : Below w.heap.size w w') : MapF k e w' b n F := h.move (hb.block b h.lt)
theorem MapF.alloc (h : MapF k e w b n F) (o : Obj) : MapF k e (w.alloc o) b n F := let ⟨D, h1, h2⟩ := h; ⟨D, h1.alloc o, h2⟩

theorem MapF.look (h : MapF k e w b n F) (ht : P.underlying T = some (.map K E)) {x : α} (hx : k.good x) :
    (Instr.lookup T (.map (some b)) (enc x) false).run P w = .ok (encE ((F x).getD z)) w := by
  obtain ⟨D, h1, h2⟩ := h
  obtain ⟨l, hl⟩ := k.read x hx
  obtain ⟨h3, h4⟩ := h2 x l hx hl
  obtain ⟨v, ps, hrun, hv⟩ := h1.lookup k.law ht (e.zero w) (e.read z e.zgood) hl
  obtain ⟨y, rfl, hy⟩ := e.inv hv
  rw [h4] at hy
  have := e.inj (DataW.lit.inj (congrArg Prod.fst hy))
  rw [hrun, this]
theorem MapF.look_ok (h : MapF k e w b n F) (ht : P.underlying T = some (.map K E)) {x : α} (hx : k.good x) :
    (Instr.lookup T (.map (some b)) (enc x) true).run P w = .ok (.tuple #[encE ((F x).getD z), .bool (F x).isSome]) w := by
  obtain ⟨D, h1, h2⟩ := h
  obtain ⟨l, hl⟩ := k.read x hx
  obtain ⟨h3, h4⟩ := h2 x l hx hl
  obtain ⟨v, ps, hrun, hv⟩ := h1.look_ok k.law ht (e.zero w) (e.read z e.zgood) hl
  obtain ⟨y, rfl, hy⟩ := e.inv hv
  rw [h4] at hy
  have := e.inj (DataW.lit.inj (congrArg Prod.fst hy))
  rw [hrun, h3, this]
theorem MapF.store (h : MapF k e w b n F) (ht : P.underlying T = some (.map K E)) (hn : n < maxLen) {x : α} (hx : k.good x) {v : β} (hv : e.good v) :
    ∃ w', (Instr.mapUpdate T (.map (some b)) (enc x) (encE v)).run P w = .ok () w' ∧ (∀ G : α → Option β, G x = some v → (∀ y, k.good y → y ≠ x → G y = F y) → MapF k e w' b (n + 1) G) ∧ w.grownBy w' (some b) := by
  obtain ⟨D, h1, h2⟩ := h
  obtain ⟨l, hl⟩ := k.read x hx
  obtain ⟨w', hrun, hown, hg⟩ := h1.update k.law ht hn hl (e.read v hv)
  refine ⟨w', hrun, fun G hGx hG => ⟨_, hown, fun y m hy hm => ?_⟩, hg⟩
  by_cases hxy : y = x
  · subst hxy
    obtain rfl : l = m := by rw [hl] at hm; exact Option.some.inj hm
    refine ⟨?_, ?_⟩
    · rw [has_put_same h1.isMap (k.law.key hl), hGx]; rfl
    · rw [atKey_put_same h1.isMap (k.law.key hl), hGx]; rfl
  · have hne : m ≠ l := fun e_ => hxy (k.inj (k.law.inj (e_ ▸ hm) hl))
    rw [has_put_other hne, atKey_put_other hne, hG y hy hxy]
    exact h2 y m hy hm
end

section
variable {P : Program} {K E : TypeId} {α β : Type} {enc : α → Value} {encE : β → Value} {z : β} {k : KeyK P K enc} {e : ElemK P E encE z} {b n : Nat} {F : α → Option β}
variable (w : World) {ops : Array Oper} {rest : List Oper} {o : Oper} {a : Act} {Q : Exit → Act → World → Prop}
theorem wpList_mapF_look (hg : o.guard = none) (m x : Operand) (t : TypeId) (hop : o.op = Op.lookup t m x false) (ht : P.underlying t = some (.map K E)) (h : MapF k e w b n F) (hm : a.eval m = .map (some b)) (key : α) (hx : a.eval x = enc key) (hk : k.good key)
    (hK : wpList P ops Q rest (a.put o.dst (encE ((F key).getD z))) w) : wpList P ops Q (o :: rest) a w := by
  refine wpList_plain hg fun K' hK' => ?_
  unfold Oper.wp
  simp [execOp, hop, hm, hx, h.look ht hk, Result.andThen]
  exact hK' _ _ hK
theorem wpList_mapF_ok (hg : o.guard = none) (m x : Operand) (t : TypeId) (hop : o.op = Op.lookup t m x true) (ht : P.underlying t = some (.map K E)) (h : MapF k e w b n F) (hm : a.eval m = .map (some b)) (key : α) (hx : a.eval x = enc key) (hk : k.good key)
    (hK : wpList P ops Q rest (a.put o.dst (.tuple #[encE ((F key).getD z), .bool (F key).isSome])) w) : wpList P ops Q (o :: rest) a w := by
  refine wpList_plain hg fun K' hK' => ?_
  unfold Oper.wp
  simp [execOp, hop, hm, hx, h.look_ok ht hk, Result.andThen]
  exact hK' _ _ hK
theorem wpList_mapF_store (hg : o.guard = none) (m x v : Operand) (t : TypeId) (hop : o.op = Op.mapUpdate t m x v) (ht : P.underlying t = some (.map K E)) (h : MapF k e w b n F) (hn : n < maxLen) (hm : a.eval m = .map (some b)) (key : α) (val : β) (hx : a.eval x = enc key) (hv : a.eval v = encE val) (hk : k.good key) (hvl : e.good val)
    (hK : ∀ w', (∀ G : α → Option β, G key = some val → (∀ y, k.good y → y ≠ key → G y = F y) → MapF k e w' b (n + 1) G) → w.grownBy w' (some b) → wpList P ops Q rest (a.put o.dst undef) w') : wpList P ops Q (o :: rest) a w := by
  refine wpList_plain hg fun K' hK' => ?_
  obtain ⟨w', hrun, r1, r2⟩ := h.store ht hn hk hvl
  unfold Oper.wp
  simp [execOp, hop, hm, hx, hv, hrun, Result.andThen]
  exact hK' _ _ (hK w' r1 r2)
end
section
variable {P : Program} {K E : TypeId} {α β : Type} {enc : α → Value} {encE : β → Value} {z : β} (k : KeyK P K enc) (e : ElemK P E encE z)
variable {W : World} {ops : Array Oper} {rest : List Oper} {o : Oper} {a : Act} {Q : Exit → Act → World → Prop}
theorem map_event (hgd : o.guard = none) {N : Tmp} (_hd : o.dst = some N) {t : TypeId} (ho : o.op = .makeMap t none)
    (h : ∀ g, g = W.heap.size → ∀ w1, MapF k e w1 g 0 (fun _ => none) → Below W.heap.size W w1 → wpList P ops Q rest (a.put o.dst (.map (some g))) w1) : wpList P ops Q (o :: rest) a W := by
  refine wpList_plain hgd fun K' hK' => ?_
  unfold Oper.wp
  simp [execOp, ho, run_makeMap, Result.andThen]
  exact hK' _ _ (h _ rfl _ (MapF.made k e W) ((Below.refl _ _).alloc (Nat.le_refl _) _))
end
/-! ### The same at a step of a region that draws its order -/
section
variable {P : Program} {K E : TypeId} {α β : Type} {enc : α → Value} {encE : β → Value} {z : β} {k : KeyK P K enc} {e : ElemK P E encE z} {b n : Nat} {F : α → Option β}
variable {w : World} {ops : Array Oper} {o : Oper} {a : Act} {Q : Exit → Act → World → Prop} {Kc : Act → World → Prop}
theorem mapF_store_step (hw : Region.wanted o (yielded ops a.tmps) = true) (hd : o.dst = none) (m x v : Operand) (t : TypeId) (hop : o.op = Op.mapUpdate t m x v) (ht : P.underlying t = some (.map K E)) (h : MapF k e w b n F) (hn : n < maxLen) (hm : a.eval m = .map (some b)) (key : α) (val : β) (hx : a.eval x = enc key) (hv : a.eval v = encE val) (hk : k.good key) (hvl : e.good val)
    (hK : ∀ w', (∀ G : α → Option β, G key = some val → (∀ y, k.good y → y ≠ key → G y = F y) → MapF k e w' b (n + 1) G) → w.grownBy w' (some b) → Kc a w') : if Region.wanted o (yielded ops a.tmps) = true then Oper.wp P o a w Kc Q else Kc (a.put none undef) w := by
  obtain ⟨w', hrun, r1, r2⟩ := h.store ht hn hk hvl
  rw [if_pos hw]
  unfold Oper.wp
  have hr : (execOp a.eval o).run P w = .ok .skip w' := by simp [execOp, hop, hm, hx, hv, hrun, Result.andThen]
  rw [hr]
  show Kc (a.put o.dst undef) w'
  rw [hd]
  exact hK w' r1 r2
theorem map_step (k : KeyK P K enc) (e : ElemK P E encE z) (hw : Region.wanted o (yielded ops a.tmps) = true) {N : Tmp} (_hd : o.dst = some N) {t : TypeId} (ho : o.op = .makeMap t none)
    (h : ∀ g, g = w.heap.size → ∀ w1, MapF k e w1 g 0 (fun _ => none) → Below w.heap.size w w1 → Kc (a.put o.dst (.map (some g))) w1) : if Region.wanted o (yielded ops a.tmps) = true then Oper.wp P o a w Kc Q else Kc (a.put o.dst undef) w := by
  rw [if_pos hw]
  unfold Oper.wp
  have hr : (execOp a.eval o).run P w = .ok (.value (.map (some w.heap.size))) (w.alloc (.map #[] 0)) := by simp [execOp, ho, run_makeMap, Result.andThen]
  rw [hr]
  exact h _ rfl _ (MapF.made k e w) ((Below.refl _ _).alloc (Nat.le_refl _) _)
end
end Go.Proofs.YthphgkhmeobadabX
