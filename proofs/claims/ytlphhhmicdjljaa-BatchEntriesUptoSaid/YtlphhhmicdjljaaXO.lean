/-
  Numbers, as walks need them, and counted loops.
-/
import Derived.Test.YtlphhhmicdjljaaXM
import Derived.IntWalk
namespace Go.Sim
set_option linter.unusedSimpArgs false
set_option linter.unusedVariables false
variable {G : FuncId → Option AFn}
theorem wr {x : Int} (h : -9223372036854775808 ≤ x ∧ x < 9223372036854775808) : IntKind.i64.wrap x = x := by
  rw [Go.IntWalk.i64_in _ (by omega)]
theorem wu64 {x : Int} (h : 0 ≤ x ∧ x < 18446744073709551616) : IntKind.u64.wrap x = x := by rw [Go.IntWalk.u64_in _ (by omega)]
theorem wu32 {x : Int} (h : 0 ≤ x ∧ x < 4294967296) : IntKind.u32.wrap x = x := by rw [Go.IntWalk.u32_in _ (by omega)]
theorem wu8 {x : Int} (h : 0 ≤ x ∧ x < 256) : IntKind.u8.wrap x = x := by rw [Go.IntWalk.u8_in _ (by omega)]
theorem tdivE {x y : Int} (h : 0 ≤ x) : x.tdiv y = x / y := Int.tdiv_eq_ediv_of_nonneg h
theorem tmodE {x y : Int} (h : 0 ≤ x) : x.tmod y = x % y := Int.tmod_eq_emod_of_nonneg h
theorem beqT {b : Bool} : (b == true) = b := by cases b <;> rfl
theorem beqF {b : Bool} : (b == false) = !b := by cases b <;> rfl
theorem ltT {a b : Int} (h : a < b) : (a < b) = True := eq_true h
theorem ltF {a b : Int} (h : b ≤ a) : (a < b) = False := eq_false (by omega)
theorem leT {a b : Int} (h : a ≤ b) : (a ≤ b) = True := eq_true h
theorem leF {a b : Int} (h : b < a) : (a ≤ b) = False := eq_false (by omega)
theorem eqT {a b : Int} (h : a = b) : (a = b) = True := eq_true h
theorem eqF {a b : Int} (h : ¬ a = b) : (a = b) = False := eq_false h
theorem nltT {a b : Nat} (h : a < b) : (a < b) = True := eq_true h
theorem nltF {a b : Nat} (h : b ≤ a) : (a < b) = False := eq_false (by omega)
theorem nleT {a b : Nat} (h : a ≤ b) : (a ≤ b) = True := eq_true h
theorem nleF {a b : Nat} (h : b < a) : (a ≤ b) = False := eq_false (by omega)
theorem neqT {a b : Nat} (h : a = b) : (a = b) = True := eq_true h
theorem neqF {a b : Nat} (h : ¬ a = b) : (a = b) = False := eq_false h
theorem lenLtT {α : Type} {l : List α} {a : Nat} (h : a < l.length) : (a < l.length) = True := eq_true h
theorem lenLtF {α : Type} {l : List α} {a : Nat} (h : l.length ≤ a) : (a < l.length) = False := eq_false (by omega)
theorem lenLeT {α : Type} {l : List α} {c : Nat} (h : l.length ≤ c) : (l.length ≤ c) = True := eq_true h
theorem addLeT {a b c : Nat} (h : a + b ≤ c) : (a + b ≤ c) = True := eq_true h
theorem lenEqT {α : Type} {l : List α} {c : Nat} (h : l.length = c) : (l.length = c) = True := eq_true h
theorem lim_eq : LIM = 4294967296 := rfl
/-- An element of a list of data that is told by a map. -/
theorem mapGet {α β : Type} {f : α → β} {l : List α} {k : Nat} (h : k < l.length) : (l.map f)[k]? = some (f (l[k]'h)) := by
  rw [List.getElem?_map, List.getElem?_eq_getElem h]; rfl
theorem toNat_add1 {k : Nat} : ((k : Int) + 1).toNat = k + 1 := by omega
theorem cast_add1 {k : Nat} : ((k : Int) + 1) = ((k + 1 : Nat) : Int) := by omega

/-- What a counted loop comes to: 'stp' ends it, or tells the next state. -/
def itR {σ : Type} (stp : Nat → σ → (AExit × St) ⊕ σ) (fin : σ → AExit × St) : Nat → Nat → σ → AExit × St
  | _, 0, s => fin s
  | k, m + 1, s => match stp k s with | .inl r => r | .inr s' => itR stp fin (k + 1) m s'
theorem loop_it {σ : Type} {ks : List Nat} {x : ACode} (n : Nat) (st : Nat → σ → St) (inv : Nat → σ → Prop) (stp : Nat → σ → (AExit × St) ⊕ σ) (fin : σ → AExit × St)
    (h : ∀ k s, k ≤ n → inv k s → ∀ L : St → Option (AExit × St), (exL G x (st k s)).bind (loopF ks L) = if k < n then (match stp k s with | .inl r => some r | .inr s' => L (st (k + 1) s')) else some (fin s))
    (hi : ∀ k s s', k < n → inv k s → stp k s = .inr s' → inv (k + 1) s') : ∀ k s, k ≤ n → inv k s → loopL G ks x (st k s) = some (itR stp fin k (n - k) s) := by
  intro k s
  generalize hm : n - k = m
  induction m generalizing k s with
  | zero =>
    intro h1 h2
    rw [loopL_eq, h k s h1 h2, if_neg (by omega)]
    rfl
  | succ m ih =>
    intro h1 h2
    rw [loopL_eq, h k s h1 h2, if_pos (by omega)]
    simp only [itR]
    cases he : stp k s with
    | inl r => rfl
    | inr s' => exact ih (k + 1) s' (by omega) (by omega) (hi k s s' (by omega) h2 he)
/-- A loop that looks for what does not hold. -/
theorem loop_all {ks : List Nat} {x : ACode} (n : Nat) (p : Nat → Bool) (st : Nat → St) (R fin : AExit × St)
    (h : ∀ k, k ≤ n → ∀ L : St → Option (AExit × St), (exL G x (st k)).bind (loopF ks L) = if k < n then (if p k = true then L (st (k + 1)) else some R) else some fin) :
    loopL G ks x (st 0) = some (if (List.range n).all p = true then fin else R) := by
  have key : ∀ m k, k + m = n → loopL G ks x (st k) = some (if ((List.range' k m).all p) = true then fin else R) := by
    intro m
    induction m with
    | zero =>
      intro k hk
      rw [loopL_eq, h k (by omega), if_neg (by omega)]
      rfl
    | succ m ih =>
      intro k hk
      rw [loopL_eq, h k (by omega), if_pos (by omega), List.range'_succ, List.all_cons, ih (k + 1) (by omega)]
      cases p k <;> rfl
  have := key n 0 (by omega)
  rwa [← List.range_eq_range'] at this
theorem all_eq {α : Type} [DecidableEq α] {a b : List α} (h : a.length = b.length) : ((List.range a.length).all fun k => decide (a[k]? = b[k]?)) = decide (a = b) := by
  by_cases e : a = b
  · subst e; simp
  · rw [decide_eq_false e]
    apply Bool.eq_false_iff.2
    intro hh
    apply e
    rw [List.all_eq_true] at hh
    apply List.ext_getElem?
    intro k
    by_cases hk : k < a.length
    · simpa using hh k (List.mem_range.2 hk)
    · rw [List.getElem?_eq_none (by omega), List.getElem?_eq_none (by omega)]
theorem get_eq {α : Type} [DecidableEq α] {a b : List α} {k : Nat} (ha : k < a.length) (hb : k < b.length) : decide (a[k]? = b[k]?) = decide (a[k] = b[k]) := by
  rw [List.getElem?_eq_getElem ha, List.getElem?_eq_getElem hb]; simp
/-- A loop that looks for the first that holds. -/
def findR {α : Type} (n : Nat) (p : Nat → Bool) (R : Nat → α) (fin : α) : α := match (List.range n).find? p with | some k => R k | none => fin
theorem loop_find {ks : List Nat} {x : ACode} (n : Nat) (p : Nat → Bool) (st : Nat → St) (R : Nat → AExit × St) (fin : AExit × St)
    (h : ∀ k, k ≤ n → ∀ L : St → Option (AExit × St), (exL G x (st k)).bind (loopF ks L) = if k < n then (if p k = true then some (R k) else L (st (k + 1))) else some fin) :
    loopL G ks x (st 0) = some (findR n p R fin) := by
  have key : ∀ m k, k + m = n → loopL G ks x (st k) = some (match (List.range' k m).find? p with | some k => R k | none => fin) := by
    intro m
    induction m with
    | zero =>
      intro k hk
      rw [loopL_eq, h k (by omega), if_neg (by omega)]
      rfl
    | succ m ih =>
      intro k hk
      rw [loopL_eq, h k (by omega), if_pos (by omega), List.range'_succ, List.find?_cons, ih (k + 1) (by omega)]
      cases p k <;> rfl
  have := key n 0 (by omega)
  rwa [← List.range_eq_range'] at this
/-- The first index of an element that holds, or -1. -/
def idxI {α : Type} (p : α → Bool) (es : List α) : Int := match es.findIdx? p with | some i => i | none => -1
def atB {α : Type} (l : List α) (p : α → Bool) (k : Nat) : Bool := match l[k]? with | some a => p a | none => false
theorem find_range {α : Type} (l : List α) (p : α → Bool) : (List.range l.length).find? (atB l p) = l.findIdx? p := by
  have key : ∀ (m k : Nat), k + m = l.length → (List.range' k m).find? (atB l p) = ((l.drop k).findIdx? p).map (k + ·) := by
    intro m
    induction m with
    | zero => intro k hk; rw [List.drop_of_length_le (by omega)]; rfl
    | succ m ih =>
      intro k hk
      rw [List.range'_succ, List.find?_cons, List.drop_eq_getElem_cons (show k < l.length by omega), List.findIdx?_cons, ih (k + 1) (by omega)]
      have : atB l p k = p (l[k]'(by omega)) := by unfold atB; rw [List.getElem?_eq_getElem (by omega)]
      rw [this]
      cases p (l[k]'(by omega)) with
      | true => simp
      | false =>
        cases (l.drop (k + 1)).findIdx? p with
        | none => rfl
        | some i => simp; omega
  have := key l.length 0 (by omega)
  rw [← List.range_eq_range'] at this
  rw [this, List.drop_zero]
  cases l.findIdx? p <;> simp only [Option.map_none, Option.map_some, Nat.zero_add]
theorem atB_at {α : Type} {l : List α} {p : α → Bool} {k : Nat} (h : k < l.length) : atB l p k = p l[k] := by
  unfold atB; rw [List.getElem?_eq_getElem h]
theorem findR_idx {α β : Type} (l : List α) (p : α → Bool) (R : Nat → β) (fin : β) : findR l.length (atB l p) R fin = match l.findIdx? p with | some k => R k | none => fin := by
  unfold findR; rw [find_range]
theorem idxI_any {α : Type} (l : List α) (p : α → Bool) : decide (0 ≤ idxI p l) = l.any p := by
  unfold idxI
  cases h : l.findIdx? p with
  | none => simp at h; simpa using h
  | some i =>
    have := List.findIdx?_eq_some_iff_getElem.1 h
    simp
    exact ⟨_, List.getElem_mem this.1, this.2.1⟩
theorem idxI_lt {α : Type} (l : List α) (p : α → Bool) : -1 ≤ idxI p l ∧ idxI p l < l.length := by
  unfold idxI
  cases e : l.findIdx? p with
  | none => simp only; omega
  | some i => have := (List.findIdx?_eq_some_iff_getElem.1 e).1; simp only; omega
theorem idxI_some {α : Type} {l : List α} {p : α → Bool} {i : Nat} (h : idxI p l = i) : ∃ hi : i < l.length, p (l[i]) = true ∧ ∀ j (hj : j < i), p (l[j]'(by omega)) = false := by
  unfold idxI at h
  cases e : l.findIdx? p with
  | none => rw [e] at h; simp only at h; omega
  | some k =>
    rw [e] at h
    simp only at h
    obtain rfl : k = i := by omega
    obtain ⟨h1, h2, h3⟩ := List.findIdx?_eq_some_iff_getElem.1 e
    exact ⟨h1, h2, fun j hj => by have := h3 j hj; simpa using this⟩
theorem idxI_neg {α : Type} (l : List α) (p : α → Bool) : idxI p l < 0 ↔ ∀ a ∈ l, p a = false := by
  have := idxI_any l p
  have h2 : l.any p = false ↔ ∀ a ∈ l, p a = false := by simp
  rw [← h2, ← this]
  simp
theorem idxI_m1 {α : Type} (l : List α) (p : α → Bool) : idxI p l < 0 ↔ idxI p l = -1 := by have := idxI_lt l p; omega
end Go.Sim
