/-
  Numbers, as walks need them, and counted loops.
-/
import Derived.Test.YtlphhhmicdjljaaXM
import Derived.IntWalk
namespace Go.Sim
set_option linter.unusedSimpArgs false
set_option linter.unusedVariables false
variable {G : FuncId → Option AFn}
theorem wr {x : Int} (h : -9223372036854775808 ≤ x ∧ x < 9223372036854775808) : IntKind.i64.wrap x = x := by
  rw [Go.IntWalk.i64_in _ (by omega)]
theorem beqT {b : Bool} : (b == true) = b := by cases b <;> rfl
theorem beqF {b : Bool} : (b == false) = !b := by cases b <;> rfl
theorem ltT {a b : Int} (h : a < b) : (a < b) = True := eq_true h
theorem ltF {a b : Int} (h : b ≤ a) : (a < b) = False := eq_false (by omega)
theorem leT {a b : Int} (h : a ≤ b) : (a ≤ b) = True := eq_true h
theorem leF {a b : Int} (h : b < a) : (a ≤ b) = False := eq_false (by omega)
theorem eqT {a b : Int} (h : a = b) : (a = b) = True := eq_true h
theorem eqF {a b : Int} (h : ¬ a = b) : (a = b) = False := eq_false h
theorem nltT {a b : Nat} (h : a < b) : (a < b) = True := eq_true h
theorem nltF {a b : Nat} (h : b ≤ a) : (a < b) = False := eq_false (by omega)
theorem nleT {a b : Nat} (h : a ≤ b) : (a ≤ b) = True := eq_true h
theorem nleF {a b : Nat} (h : b < a) : (a ≤ b) = False := eq_false (by omega)
theorem neqT {a b : Nat} (h : a = b) : (a = b) = True := eq_true h
theorem neqF {a b : Nat} (h : ¬ a = b) : (a = b) = False := eq_false h
theorem lim_eq : LIM = 4294967296 := rfl
/-- An element of a list of data that is told by a map. -/
theorem mapGet {α β : Type} {f : α → β} {l : List α} {k : Nat} (h : k < l.length) : (l.map f)[k]? = some (f (l[k]'h)) := by
  rw [List.getElem?_map, List.getElem?_eq_getElem h]; rfl
theorem toNat_add1 {k : Nat} : ((k : Int) + 1).toNat = k + 1 := by omega
theorem cast_add1 {k : Nat} : ((k : Int) + 1) = ((k + 1 : Nat) : Int) := by omega

/-- What a counted loop comes to: 'stp' ends it, or tells the next state. -/
def itR {σ : Type} (stp : Nat → σ → (AExit × St) ⊕ σ) (fin : σ → AExit × St) : Nat → Nat → σ → AExit × St
  | _, 0, s => fin s
  | k, m + 1, s => match stp k s with | .inl r => r | .inr s' => itR stp fin (k + 1) m s'
theorem loop_it {σ : Type} {ks : List Nat} {x : ACode} (n : Nat) (st : Nat → σ → St) (inv : Nat → σ → Prop) (stp : Nat → σ → (AExit × St) ⊕ σ) (fin : σ → AExit × St)
    (h : ∀ k s, k ≤ n → inv k s → ∀ L : St → Option (AExit × St), (exL G x (st k s)).bind (loopF ks L) = if k < n then (match stp k s with | .inl r => some r | .inr s' => L (st (k + 1) s')) else some (fin s))
    (hi : ∀ k s s', k < n → inv k s → stp k s = .inr s' → inv (k + 1) s') : ∀ k s, k ≤ n → inv k s → loopL G ks x (st k s) = some (itR stp fin k (n - k) s) := by
  intro k s
  generalize hm : n - k = m
  induction m generalizing k s with
  | zero =>
    intro h1 h2
    rw [loopL_eq, h k s h1 h2, if_neg (by omega)]
    rfl
  | succ m ih =>
    intro h1 h2
    rw [loopL_eq, h k s h1 h2, if_pos (by omega)]
    simp only [itR]
    cases he : stp k s with
    | inl r => rfl
    | inr s' => exact ih (k + 1) s' (by omega) (by omega) (hi k s s' (by omega) h2 he)
end Go.Sim
