/-
  Parts of lists, in the forms that walks take.
-/
import Derived.Test.YtfggldgdejjlnaaGreatB82acc28
set_option linter.unusedSimpArgs false
set_option linter.unusedVariables false
set_option maxHeartbeats 10000000
set_option maxRecDepth 100000
namespace Go.Sim
theorem zPg {α : Type} {f : α -> D} {l : List α} {n : Nat} : (l.map f).take n = (l.take n).map f := by rw [zRY]
theorem zEe {α : Type} {f : α -> D} {l : List α} {n : Nat} : (l.map f).drop n = (l.drop n).map f := by rw [zSO]
theorem zPd {α : Type} {l : List α} {n : Nat} (h : l.length <= n) : l.take n = l := zRy h
theorem zEc {α : Type} {l : List α} {n : Nat} (h : l.length <= n) : l.drop n = [] := zT5 h
theorem zIE {a b c : Nat} (h : min a b <= c) : (min a b <= c) = True := zR2 h
attribute [go_sem] zIE Option.toList_none Option.toList_some zPg zEe zPd zEc zRx zRp List.map_eq_nil_iff
end Go.Sim
