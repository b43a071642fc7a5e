/-
  Loops, where what comes out is told by a law rather than by a function.
-/
import Derived.Test.YtlphhhmicdjljaaXL
namespace Go.Sim
set_option linter.unusedSimpArgs false
set_option linter.unusedVariables false
variable {G : FuncId → Option AFn}
theorem loop_indP {T : Type} {ks : List Nat} {x : ACode} (μ : T → Nat) (inv : T → Prop) (st : T → St) (Q : T → Option (AExit × St) → Prop)
    (h : ∀ t, inv t → ∀ L : St → Option (AExit × St), (∀ t', inv t' → μ t' < μ t → Q t' (L (st t'))) → Q t ((exL G x (st t)).bind (loopF ks L))) : ∀ t, inv t → Q t (loopL G ks x (st t)) := by
  intro t
  generalize hk : μ t = k
  induction k using Nat.strongRecOn generalizing t with
  | ind k ih =>
    intro hi
    rw [loopL_eq]
    exact h t hi _ fun t' hi' hlt => ih (μ t') (by omega) t' rfl hi'
end Go.Sim
