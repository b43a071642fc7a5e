/-
  Part of the calculus in which the claim is proved: Parts of lists, in the forms that walks take
-/
import Derived.Test.YtcjncbkhbllchaaGreatB8368d65
set_option linter.unusedSimpArgs false
set_option linter.unusedVariables false
set_option maxHeartbeats 10000000
set_option maxRecDepth 100000
namespace Go.Sim
theorem takeMapF {α : Type} {f : α → D} {l : List α} {n : Nat} : (l.map f).take n = (l.take n).map f := by rw [List.map_take]
theorem dropMapF {α : Type} {f : α → D} {l : List α} {n : Nat} : (l.map f).drop n = (l.drop n).map f := by rw [List.map_drop]
theorem takeAll {α : Type} {l : List α} {n : Nat} (h : l.length ≤ n) : l.take n = l := List.take_of_length_le h
theorem dropAll {α : Type} {l : List α} {n : Nat} (h : l.length ≤ n) : l.drop n = [] := List.drop_of_length_le h
theorem minLeT {a b c : Nat} (h : min a b ≤ c) : (min a b ≤ c) = True := eq_true h
attribute [go_sem] minLeT Option.toList_none Option.toList_some takeMapF dropMapF takeAll dropAll List.length_take List.length_drop List.map_eq_nil_iff
end Go.Sim
