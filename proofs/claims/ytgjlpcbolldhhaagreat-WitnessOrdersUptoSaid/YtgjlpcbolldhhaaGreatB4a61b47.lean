/-
  Parts of lists, in the forms that walks take.
-/
import Derived.Test.YtgjlpcbolldhhaaGreatB6dfdb13
set_option linter.unusedSimpArgs false
set_option linter.unusedVariables false
set_option maxHeartbeats 10000000
set_option maxRecDepth 100000
namespace Go.Sim
theorem zJE {α : Type} {f : α -> D} {l : List α} {n : Nat} : (l.map f).take n = (l.take n).map f := by rw [zLI]
theorem zyp {α : Type} {f : α -> D} {l : List α} {n : Nat} : (l.map f).drop n = (l.drop n).map f := by rw [zLQ]
theorem zJB {α : Type} {l : List α} {n : Nat} (h : l.length <= n) : l.take n = l := zLK h
theorem zyo {α : Type} {l : List α} {n : Nat} (h : l.length <= n) : l.drop n = [] := List.drop_of_length_le h
theorem zCD {a b c : Nat} (h : min a b <= c) : (min a b <= c) = True := eq_true h
attribute [go_sem] zCD Option.toList_none Option.toList_some zJE zyp zJB zyo zLc zKZ List.map_eq_nil_iff
end Go.Sim
