/- Plain lemmas on whole numbers, lists and loops told in rounds: no Go in them but the wrap of an int.
Conditions: each lemma's own. -/
import Derived.Test.YthphgkhmeobadacWWords
import Derived.Test.YthphgkhmeobadacWMore
import Derived.Laws.BitsLemmas
namespace Go.Proofs.YthphgkhmeobadacX
open Go.Proofs.YthphgkhmeobadacW.PrintWords Go.Proofs.YthphgkhmeobadacW.PrintMore Go.RowKit
set_option linter.unusedVariables false

theorem wrap_id {x : Int} (h0 : -9223372036854775808 ≤ x) (h1 : x ≤ 9223372036854775807) : wrap64 x = x := by
  unfold wrap64
  omega
theorem wf_iff {x : Int} : (Lit.int .i64 x).wf = true ↔ -9223372036854775808 ≤ x ∧ x ≤ 9223372036854775807 := by
  have e1 : IntKind.i64.min = -9223372036854775808 := by decide
  simp [Lit.wf, e1]
theorem rd_nat (xs : List Int) (i : Nat) : rd xs (i : Int) = xs.getD i 0 := by
  unfold rd
  simp
theorem mx_eq (a b : Int) : mx a b = max a b := by
  unfold mx
  omega
theorem mn_eq (a b : Int) : mn a b = min a b := by
  unfold mn
  omega

/-- A loop over an index: from a state in which the invariant holds it tells r. -/
theorem run_inv {σ β : Type} (L : Nat → σ → Nat → Option β) (n : Nat) (inv : Nat → σ → Prop) (r : β)
    (hstep : ∀ k i s, i < n → inv i s → L (k + 1) s i = some r ∨ ∃ s', L (k + 1) s i = L k s' (i + 1) ∧ inv (i + 1) s')
    (hend : ∀ k s, inv n s → L (k + 1) s n = some r) : ∀ k i s, i ≤ n → n - i < k → inv i s → L k s i = some r := by
  intro k
  induction k with
  | zero => intro i s _ hk; omega
  | succ k ih =>
    intro i s hi hk hs
    by_cases he : i = n
    · subst he
      exact hend k s hs
    · rcases hstep k i s (by omega) hs with h | ⟨s', h, hs'⟩
      · exact h
      · rw [h]
        exact ih (i + 1) s' (by omega) (by omega) hs'
/-- The same where a round takes two of the rounds that are counted (a loop whose body is a function of its own). -/
theorem run_inv2 {σ β : Type} (L : Nat → σ → Nat → Option β) (n : Nat) (inv : Nat → σ → Prop) (r : β) (c : Nat)
    (hstep : ∀ k i s, i < n → inv i s → L (k + (c + 1)) s i = some r ∨ ∃ s', L (k + (c + 1)) s i = L k s' (i + 1) ∧ inv (i + 1) s')
    (hend : ∀ k s, inv n s → L (k + (c + 1)) s n = some r) : ∀ k i s, i ≤ n → (n - i + 1) * (c + 1) ≤ k → inv i s → L k s i = some r := by
  have key : ∀ d k i s, n - i = d → i ≤ n → (d + 1) * (c + 1) ≤ k → inv i s → L k s i = some r := by
    intro d
    induction d with
    | zero =>
      intro k i s hd hi hk hs
      obtain ⟨k, rfl⟩ : ∃ m, k = m + (c + 1) := ⟨k - (c + 1), by omega⟩
      obtain rfl : i = n := by omega
      exact hend k s hs
    | succ d ih =>
      intro k i s hd hi hk hs
      rw [Nat.add_mul (d + 1), Nat.one_mul] at hk
      obtain ⟨k, rfl⟩ : ∃ m, k = m + (c + 1) := ⟨k - (c + 1), by omega⟩
      rcases hstep k i s (by omega) hs with h | ⟨s', h, hs'⟩
      · exact h
      · rw [h]
        exact ih k (i + 1) s' (by omega) (by omega) (by omega) hs'
  intro k i s hi hk hs
  exact key (n - i) k i s rfl hi hk hs

theorem ext_getD {α : Type} {d : α} {s l : List α} (h : s.length = l.length) (he : ∀ j, j < l.length → s.getD j d = l.getD j d) : s = l := by
  refine List.ext_getElem h fun j h1 h2 => ?_
  have := he j h2
  simpa [List.getD, h1, h2] using this
theorem getD_set {α : Type} (s : List α) (i j : Nat) (v d : α) (h : i < s.length) : (s.set i v).getD j d = if j = i then v else s.getD j d := by
  simp only [List.getD_eq_getElem?_getD, List.getElem?_set]
  by_cases e : i = j
  · subst e
    simp [h]
  · rw [if_neg e, if_neg (Ne.symm e)]
theorem getD_append_left {α : Type} (s t : List α) (j : Nat) (d : α) (h : j < s.length) : (s ++ t).getD j d = s.getD j d := by
  simp [List.getD_eq_getElem?_getD, List.getElem?_append_left h]
theorem getD_append_last {α : Type} (s : List α) (v d : α) (j : Nat) (h : j = s.length) : (s ++ [v]).getD j d = v := by
  subst h
  simp [List.getD_eq_getElem?_getD]
theorem getD_mem {α : Type} (s : List α) (j : Nat) (d : α) (h : j < s.length) : s.getD j d ∈ s := by
  have : s.getD j d = s[j] := by simp [List.getD_eq_getElem?_getD, h]
  rw [this]
  exact List.getElem_mem h
theorem mem_getD {α : Type} {s : List α} {x : α} (d : α) (h : x ∈ s) : ∃ j, j < s.length ∧ s.getD j d = x := by
  obtain ⟨j, hj, rfl⟩ := List.mem_iff_getElem.1 h
  exact ⟨j, hj, by simp [List.getD_eq_getElem?_getD, hj]⟩
theorem take_succ_getD {α : Type} (s : List α) (i : Nat) (d : α) (h : i < s.length) : s.take (i + 1) = s.take i ++ [s.getD i d] := by
  rw [List.take_succ_eq_append_getElem h]
  simp [List.getD_eq_getElem?_getD, h]

/-- The numbers that a marking lays: a, a + 1, .. -/
def marks (a : Int) (n : Nat) : List Int := (List.range n).map fun j : Nat => a + (j : Int)
theorem marks_length (a : Int) (n : Nat) : (marks a n).length = n := by simp [marks]
theorem marks_getD (a : Int) (n j : Nat) (h : j < n) : (marks a n).getD j 0 = a + (j : Int) := by
  simp [marks, List.getD_eq_getElem?_getD, h]

theorem and_one {x : Int} (h0 : 0 ≤ x) (h1 : x ≤ 9223372036854775807) : Go.bits .and .i64 x 1 = x % 2 := by
  have h := bits_mask .i64 63 (by decide) (fun n a b => by rw [IntKind.wrap_i64]; omega) 1 (by decide) x h0 (by omega)
  simpa using h
theorem shr_nat (x : Int) (j : Nat) (h : j ≤ 64) : shr .i64 x (j : Int) = x / 2 ^ j := by
  unfold shr
  rw [Int.toNat_natCast, show IntKind.i64.bits = 64 from rfl, Nat.min_eq_left h]
theorem shl_one (m : Nat) (h : m ≤ 62) : shl .i64 1 (m : Int) = 2 ^ m := by
  unfold shl
  rw [Int.toNat_natCast, show IntKind.i64.bits = 64 from rfl, Nat.min_eq_left (by omega), Int.one_mul, IntKind.wrap_i64]
  have h1 : (2 : Nat) ^ m ≤ 2 ^ 62 := Nat.pow_le_pow_right (by decide) h
  have h2 : ((2 : Int) ^ m) = ((2 ^ m : Nat) : Int) := by simp
  rw [h2]
  generalize 2 ^ m = q at h1
  omega
theorem pow_pos_int (m : Nat) : (0 : Int) < 2 ^ m := Int.pow_pos (by decide)
theorem pow_le_int (m j : Nat) (h : m ≤ j) : (2 : Int) ^ m ≤ 2 ^ j := by
  have h1 : (2 : Nat) ^ m ≤ 2 ^ j := Nat.pow_le_pow_right (by decide) h
  exact_mod_cast h1

/-- A number's bits, the highest first. -/
def bitsL (n : Int) (many : Nat) : List Int := (List.range many).map fun j : Nat => n / 2 ^ (many - 1 - j) % 2
theorem bitsL_length (n : Int) (many : Nat) : (bitsL n many).length = many := by simp [bitsL]
theorem bitsL_getD (n : Int) (many j : Nat) (h : j < many) : (bitsL n many).getD j 0 = n / 2 ^ (many - 1 - j) % 2 := by
  simp [bitsL, List.getD_eq_getElem?_getD, h]

/-- A loop that goes on while a test holds of each element. -/
theorem run_all {β : Type} (L : Nat → Nat → Option β) (n : Nat) (p : Nat → Bool) (good bad : β)
    (hstep : ∀ k i, i < n → L (k + 1) i = if p i = true then L k (i + 1) else some bad) (hend : ∀ k, L (k + 1) n = some good) (k : Nat) (hk : n < k) :
    L k 0 = some (if (∀ j, j < n → p j = true) then good else bad) := by
  by_cases h : ∀ j, j < n → p j = true
  · rw [if_pos h]
    refine run_inv (fun k (_ : Unit) i => L k i) n (fun _ _ => True) good ?_ (fun k _ _ => hend k) k 0 () (Nat.zero_le _) (by omega) trivial
    intro k i _ hi _
    exact Or.inr ⟨(), by rw [hstep k i hi, if_pos (h i hi)], trivial⟩
  · rw [if_neg h]
    refine run_inv (fun k (_ : Unit) i => L k i) n (fun i _ => ∀ j, j < i → p j = true) bad ?_ ?_ k 0 () (Nat.zero_le _) (by omega) (fun j hj => absurd hj (Nat.not_lt_zero j))
    · intro k i _ hi hs
      by_cases e : p i = true
      · refine Or.inr ⟨(), by rw [hstep k i hi, if_pos e], fun j hj => ?_⟩
        by_cases e2 : j = i
        · rw [e2]; exact e
        · exact hs j (by omega)
      · exact Or.inl (by rw [hstep k i hi, if_neg e])
    · intro k _ hs
      exact absurd hs h
theorem all_getD {α : Type} (l : List α) (d : α) (q : α → Bool) : (∀ j, j < l.length → q (l.getD j d) = true) ↔ l.all q = true := by
  rw [List.all_eq_true]
  constructor
  · intro h x hx
    obtain ⟨j, hj, rfl⟩ := mem_getD d hx
    exact h j hj
  · intro h j hj
    exact h _ (getD_mem l j d hj)
theorem run_allL {α β : Type} (L : Nat → Nat → Option β) (l : List α) (d : α) (q : α → Bool) (good bad : β)
    (hstep : ∀ k i, i < l.length → L (k + 1) i = if q (l.getD i d) = true then L k (i + 1) else some bad) (hend : ∀ k, L (k + 1) l.length = some good) (k : Nat) (hk : l.length < k) :
    L k 0 = some (if l.all q = true then good else bad) := by
  rw [run_all L l.length (fun i => q (l.getD i d)) good bad hstep hend k hk]
  by_cases h : l.all q = true
  · rw [if_pos h, if_pos ((all_getD l d q).2 h)]
  · rw [if_neg h, if_neg (fun g => h ((all_getD l d q).1 g))]
/-- A loop that looks for the first element of which a test holds. -/
theorem run_find {α : Type} (L : Nat → Nat → Option Int) (l : List α) (d : α) (q : α → Bool)
    (hstep : ∀ k i, i < l.length → L (k + 1) i = if q (l.getD i d) = true then some (i : Int) else L k (i + 1)) (hend : ∀ k, L (k + 1) l.length = some (-1)) (k : Nat) (hk : l.length < k) :
    ∃ r, L k 0 = some r ∧ decide (r ≥ 0) = l.any q := by
  by_cases h : l.any q = true
  · obtain ⟨x, hx, hq⟩ := List.any_eq_true.1 h
    obtain ⟨m, hm, rfl⟩ := mem_getD d hx
    have key : ∀ e i k, i + e = m → e < k → ∃ r, L k i = some r ∧ r ≥ 0 := by
      intro e
      induction e with
      | zero =>
        intro i k hi hk
        obtain ⟨k, rfl⟩ : ∃ t, k = t + 1 := ⟨k - 1, by omega⟩
        obtain rfl : i = m := by omega
        exact ⟨i, by rw [hstep k i hm, if_pos hq], by omega⟩
      | succ e ih =>
        intro i k hi hk
        obtain ⟨k, rfl⟩ : ∃ t, k = t + 1 := ⟨k - 1, by omega⟩
        by_cases e1 : q (l.getD i d) = true
        · exact ⟨i, by rw [hstep k i (by omega), if_pos e1], by omega⟩
        · rw [hstep k i (by omega), if_neg e1]
          exact ih (i + 1) k (by omega) (by omega)
    obtain ⟨r, hr, h0⟩ := key m 0 k (by omega) (by omega)
    exact ⟨r, hr, by rw [h, decide_eq_true h0]⟩
  · refine ⟨-1, ?_, ?_⟩
    · refine run_inv (fun k (_ : Unit) i => L k i) l.length (fun _ _ => True) _ ?_ (fun k _ _ => hend k) k 0 () (Nat.zero_le _) (by omega) trivial
      intro k i _ hi _
      refine Or.inr ⟨(), ?_, trivial⟩
      rw [hstep k i hi, if_neg (fun e => h (List.any_eq_true.2 ⟨_, getD_mem l i d hi, e⟩))]
    · rw [Bool.eq_false_iff.2 h]
      rfl
/-- The same three where a round calls what needs B rounds of its own. -/
theorem run_invB {σ β : Type} (B : Nat) (L : Nat → σ → Nat → Option β) (n : Nat) (inv : Nat → σ → Prop) (r : β)
    (hstep : ∀ k i s, B ≤ k → i < n → inv i s → L (k + 1) s i = some r ∨ ∃ s', L (k + 1) s i = L k s' (i + 1) ∧ inv (i + 1) s')
    (hend : ∀ k s, B ≤ k → inv n s → L (k + 1) s n = some r) : ∀ k i s, i ≤ n → n - i + B < k → inv i s → L k s i = some r := by
  intro k
  induction k with
  | zero => intro i s _ hk; omega
  | succ k ih =>
    intro i s hi hk hs
    by_cases he : i = n
    · subst he
      exact hend k s (by omega) hs
    · rcases hstep k i s (by omega) (by omega) hs with h | ⟨s', h, hs'⟩
      · exact h
      · rw [h]
        exact ih (i + 1) s' (by omega) (by omega) hs'
theorem run_allB {β : Type} (B : Nat) (L : Nat → Nat → Option β) (n : Nat) (p : Nat → Bool) (good bad : β)
    (hstep : ∀ k i, B ≤ k → i < n → L (k + 1) i = if p i = true then L k (i + 1) else some bad) (hend : ∀ k, B ≤ k → L (k + 1) n = some good) (k : Nat) (hk : n + B < k) :
    L k 0 = some (if (∀ j, j < n → p j = true) then good else bad) := by
  by_cases h : ∀ j, j < n → p j = true
  · rw [if_pos h]
    refine run_invB B (fun k (_ : Unit) i => L k i) n (fun _ _ => True) good ?_ (fun k _ hb _ => hend k hb) k 0 () (Nat.zero_le _) (by omega) trivial
    intro k i _ hb hi _
    exact Or.inr ⟨(), by rw [hstep k i hb hi, if_pos (h i hi)], trivial⟩
  · rw [if_neg h]
    refine run_invB B (fun k (_ : Unit) i => L k i) n (fun i _ => ∀ j, j < i → p j = true) bad ?_ ?_ k 0 () (Nat.zero_le _) (by omega) (fun j hj => absurd hj (Nat.not_lt_zero j))
    · intro k i _ hb hi hs
      by_cases e : p i = true
      · refine Or.inr ⟨(), by rw [hstep k i hb hi, if_pos e], fun j hj => ?_⟩
        by_cases e2 : j = i
        · rw [e2]; exact e
        · exact hs j (by omega)
      · exact Or.inl (by rw [hstep k i hb hi, if_neg e])
    · intro k _ _ hs
      exact absurd hs h
theorem wrap_range (x : Int) : -9223372036854775808 ≤ wrap64 x ∧ wrap64 x ≤ 9223372036854775807 := by
  unfold wrap64
  omega
theorem foldl_take_succ {α σ : Type} (f : σ → α → σ) (s : σ) (l : List α) (d : α) (i : Nat) (h : i < l.length) : (l.take (i + 1)).foldl f s = f ((l.take i).foldl f s) (l.getD i d) := by
  rw [take_succ_getD l i d h, List.foldl_append]
  rfl

def inB (lo hi x : Int) : Bool := decide (lo ≤ x ∧ x ≤ hi)
/-- Is that a cube over so many bits? -/
def cubeOK (l : List Int) (a : Int) : Bool := l.all (inB 0 2) && inB 0 12 a && ((l.length : Int) == a)
/-- Are bits in a cube? -/
def hasL (c b : List Int) : Bool := decide (∀ j, j < c.length → c.getD j 0 = 2 ∨ c.getD j 0 = b.getD j 0)

end Go.Proofs.YthphgkhmeobadacX
