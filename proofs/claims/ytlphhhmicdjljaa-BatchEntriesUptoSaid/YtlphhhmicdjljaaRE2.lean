/-
  Data of a form, as lists and numbers.
-/
import Derived.Test.YtlphhhmicdjljaaRF10
import Derived.Test.YtlphhhmicdjljaaXP
namespace Go.Proofs.Ytlphhhmicdjljaa
open Go Go.Sim
set_option linter.unusedSimpArgs false
set_option linter.unusedVariables false
set_option maxHeartbeats 10000000
theorem ex_list {α : Type} {f : α → D} {s : Sh} {x : D} (h : Sh.has (.sl s) x) (hs : ∀ e, Sh.has s e → ∃ a, e = f a) : ∃ l : List α, x = .sl (l.map f) ∧ l.length ≤ BIG := by
  cases x <;> simp only [Sh.has] at h
  rename_i es
  obtain ⟨h1, h2⟩ := h
  have : ∃ l : List α, es = l.map f := by
    clear h1
    induction es with
    | nil => exact ⟨[], rfl⟩
    | cons e es ih =>
      obtain ⟨a, rfl⟩ := hs e (h2 e (by simp))
      obtain ⟨l, rfl⟩ := ih fun e he => h2 e (by simp [he])
      exact ⟨a :: l, rfl⟩
  obtain ⟨l, rfl⟩ := this
  exact ⟨l, rfl, by simpa using h1⟩
theorem ex_int {k : IntKind} {x : D} (h : Sh.has (.int k) x) : ∃ n : Int, x = .int k n ∧ k.has n := by
  cases x <;> simp only [Sh.has] at h
  obtain ⟨rfl, h⟩ := h
  exact ⟨_, rfl, h⟩
theorem ex_ints {x : D} (h : Sh.has (.sl (.int .i64)) x) : ∃ l : List Int, x = .sl (ints l) ∧ l.length ≤ BIG := ex_list h fun e he => by obtain ⟨n, rfl, _⟩ := ex_int he; exact ⟨n, rfl⟩
end Go.Proofs.Ytlphhhmicdjljaa
