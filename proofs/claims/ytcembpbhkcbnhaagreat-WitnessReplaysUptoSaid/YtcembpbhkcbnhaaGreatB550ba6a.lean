/-
  Parts of lists, in the forms that walks take.
-/
import Derived.Test.YtcembpbhkcbnhaaGreatB3e4d643
set_option linter.unusedSimpArgs false
set_option linter.unusedVariables false
set_option maxHeartbeats 10000000
set_option maxRecDepth 100000
namespace Go.Sim
theorem z98{α:Type}{f:α->D}{l:List α}{n:Nat}:(l.map f).take n=(l.take n).map f:=by rw[zac7]
theorem zUd{α:Type}{f:α->D}{l:List α}{n:Nat}:(l.map f).drop n=(l.drop n).map f:=by rw[zadO]
theorem z95{α:Type}{l:List α}{n:Nat}(h:l.length<=n):l.take n=l:=zada h
theorem zUc{α:Type}{l:List α}{n:Nat}(h:l.length<=n):l.drop n=[]:=zaef h
theorem zZL{a b c:Nat}(h:min a b<=c):(min a b<=c)=True:=zabA h
attribute [go_sem] zZL Option.toList_none Option.toList_some z98 zUd z95 zUc zac9 zadA List.map_eq_nil_iff
end Go.Sim
