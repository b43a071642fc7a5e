/-
  Parts of lists, in the forms that walks take.
-/
import Derived.Test.YtjalkkalhdnplaaGreatB568fc85
set_option linter.unusedSimpArgs false
set_option linter.unusedVariables false
set_option maxHeartbeats 10000000
set_option maxRecDepth 100000
namespace Go.Sim
theorem zXz{α:Type}{f:α->D}{l:List α}{n:Nat}:(l.map f).take n=(l.take n).map f:=by rw[z0G]
theorem zHY{α:Type}{f:α->D}{l:List α}{n:Nat}:(l.map f).drop n=(l.drop n).map f:=by rw[z1w]
theorem zXw{α:Type}{l:List α}{n:Nat}(h:l.length<=n):l.take n=l:=z0Q h
theorem zHX{α:Type}{l:List α}{n:Nat}(h:l.length<=n):l.drop n=[]:=z1T h
theorem zRq{a b c:Nat}(h:min a b<=c):(min a b<=c)=True:=zY8 h
attribute [go_sem] zRq Option.toList_none Option.toList_some zXz zHY zXw zHX z0I z09 List.map_eq_nil_iff
end Go.Sim
