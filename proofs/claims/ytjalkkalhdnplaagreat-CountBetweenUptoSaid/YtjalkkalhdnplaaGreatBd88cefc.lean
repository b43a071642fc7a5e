/-
  Parts of lists, in the forms that walks take.
-/
import Derived.Test.YtjalkkalhdnplaaGreatB907f86f
set_option linter.unusedSimpArgs false
set_option linter.unusedVariables false
set_option maxHeartbeats 10000000
set_option maxRecDepth 100000
namespace Go.Sim
theorem zVg{α:Type}{f:α->D}{l:List α}{n:Nat}:(l.map f).take n=(l.take n).map f:=by rw[zYy]
theorem zF9{α:Type}{f:α->D}{l:List α}{n:Nat}:(l.map f).drop n=(l.drop n).map f:=by rw[zZd]
theorem zVd{α:Type}{l:List α}{n:Nat}(h:l.length<=n):l.take n=l:=zYp h
theorem zF8{α:Type}{l:List α}{n:Nat}(h:l.length<=n):l.drop n=[]:=zZG h
theorem zOS{a b c:Nat}(h:min a b<=c):(min a b<=c)=True:=zWN h
attribute [go_sem] zOS Option.toList_none Option.toList_some zVg zF9 zVd zF8 zXY zYY List.map_eq_nil_iff
end Go.Sim
