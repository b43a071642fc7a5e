/-
  Parts of lists, in the forms that walks take.
-/
import Derived.Test.YtdnlddoeamjcoaaGreatB842129c
set_option linter.unusedSimpArgs false
set_option linter.unusedVariables false
set_option maxHeartbeats 10000000
set_option maxRecDepth 100000
namespace Go.Sim
theorem zabJ{α:Type}{f:α->D}{l:List α}{n:Nat}:(l.map f).take n=(l.take n).map f:=by rw[zaeH]
theorem zUV{α:Type}{f:α->D}{l:List α}{n:Nat}:(l.map f).drop n=(l.drop n).map f:=by rw[zafq]
theorem zabG{α:Type}{l:List α}{n:Nat}(h:l.length<=n):l.take n=l:=zaeL h
theorem zUU{α:Type}{l:List α}{n:Nat}(h:l.length<=n):l.drop n=[]:=zafR h
theorem z0I{a b c:Nat}(h:min a b<=c):(min a b<=c)=True:=zadb h
attribute [go_sem] z0I Option.toList_none Option.toList_some zabJ zUV zabG zUU zaeJ zafc List.map_eq_nil_iff
end Go.Sim
