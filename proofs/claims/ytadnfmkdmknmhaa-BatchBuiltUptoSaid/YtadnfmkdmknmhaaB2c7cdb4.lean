/-
  Parts of lists, in the forms that walks take.
-/
import Derived.Test.YtadnfmkdmknmhaaB02b607f
set_option linter.unusedSimpArgs false
set_option linter.unusedVariables false
namespace Go.Sim
theorem takeMapF {α : Type} {f : α → D} {l : List α} {n : Nat} : (l.map f).take n = (l.take n).map f := by rw [List.map_take]
theorem dropMapF {α : Type} {f : α → D} {l : List α} {n : Nat} : (l.map f).drop n = (l.drop n).map f := by rw [List.map_drop]
theorem takeAll {α : Type} {l : List α} {n : Nat} (h : l.length ≤ n) : l.take n = l := List.take_of_length_le h
theorem dropAll {α : Type} {l : List α} {n : Nat} (h : l.length ≤ n) : l.drop n = [] := List.drop_of_length_le h
theorem takeGet {α : Type} {l : List α} {n k : Nat} (h : k < (l.take n).length) : (l.take n)[k]'h = l[k]'(by simp at h; omega) := by simp
theorem dropGet {α : Type} {l : List α} {n k : Nat} (h : k < (l.drop n).length) : (l.drop n)[k]'h = l[n + k]'(by simp at h; omega) := by simp
theorem neNilT {α : Type} {f : α → D} {l : List α} (h : ¬ l.length = 0) : (l.map f = []) = False := by
  apply eq_false
  intro e
  have := congrArg List.length e
  simp at this
  exact h (by rw [this]; rfl)
theorem minLeT {a b c : Nat} (h : min a b ≤ c) : (min a b ≤ c) = True := eq_true h
theorem minEqF {a b c : Nat} (h : ¬ min a b = c) : (min a b = c) = False := eq_false h
theorem addMinLeT {a b c d : Nat} (h : min a b + d ≤ c) : (min a b + d ≤ c) = True := eq_true h
attribute [go_sem] minLeT minEqF addMinLeT Option.toList_none Option.toList_some takeMapF dropMapF takeAll dropAll takeGet dropGet List.length_take List.length_drop neNilT List.map_eq_nil_iff
end Go.Sim
