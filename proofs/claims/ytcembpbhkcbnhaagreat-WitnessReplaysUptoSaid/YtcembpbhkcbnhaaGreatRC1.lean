/-
  The statement WitnessReplays, for arguments up to the given bound: whatever the input, the law returns true and its arguments read as before.
-/
import Derived.Test.YtcembpbhkcbnhaaGreatRows
import Derived.Test.YtcembpbhkcbnhaaGreatB313aead
import Derived.Test.YtcembpbhkcbnhaaGreatB39efd7d
import Derived.ProofKit
import Derived.Test.YtcembpbhkcbnhaaGreatB9358c9c
import Derived.JoinedCond
set_option linter.unusedSimpArgs false
set_option linter.unusedVariables false
set_option maxHeartbeats 10000000
set_option maxRecDepth 100000
namespace Go.Proofs.YtcembpbhkcbnhaaGreat
open Go Go.ChangeShapes Go.WideShapes Go.ChangeAt Go.RowKit Go.Sim
theorem own:ownKnob Tryz.prog.godebug=none:=by kernel_rfl
theorem laid:laidOutB Tryz.prog=true:=by kernel_rfl
theorem bulk_ok{H:Type}:zhp (Rows.uptoBulk (H:=H)) Rows.uptoBulkAll where
 sl _ _:=by simp only[Rows.uptoBulk]
 agg _:=by simp only[Rows.uptoBulk]
 str _:=by simp only[Rows.uptoBulk]
 nil:=by simp only[Rows.uptoBulkAll]
 cons _ _:=by simp only[Rows.uptoBulkAll]
 pos d:=by
  cases d with
  | lit l=>cases l<;>simp [Rows.uptoBulk]
  | _=>simp [Rows.uptoBulk]
set_option maxRecDepth 100000 in
theorem zanP (H:Type) (enc:TypeId×Value->H) (W:Go.World) (base:Nat) (args:Array Value) (ds gs:List (DataW H)) (before:List MemPlace)
    (hval:∀(j:Nat) t v,Tryz.f3.params[j]? = some t->args[j]? = some v->Value.okWide Tryz.prog W .any base t v)
    (hW:DataW.Whole enc Tryz.prog Tryz.f3.params.toList Rows.witnessReplaysSpec.vars false W args.toList ds gs before) (hk:Rows.uptoSmall H (ds++gs)=true):
    Calls Tryz.prog 3 args W fun e W'=>∃v,e= .returned v/\Rows.witnessReplaysSpec.post enc Tryz.prog Tryz.f3 false true false false W args v W':=by
 have hW':=hW;obtain⟨p,q,hA0,hV,rfl,hfz,hnd⟩:=hW;have hA:DataW.TrodAll enc Tryz.prog W 0 (fun _=>true) true Tryz.f3.params.toList args.toList ds p:=hA0;rw[Tryz.params3] at hA hval;obtain⟨v0,vs0,d0,ds0,p0,q0,hargs,rfl,rfl,h0,r0⟩:=trodAll_cons hA;obtain⟨v1,vs1,d1,ds1,p1,q1,rfl,rfl,rfl,h1,r1⟩:=trodAll_cons r0;obtain⟨v2,vs2,d2,ds2,p2,q2,rfl,rfl,rfl,h2,r2⟩:=trodAll_cons r1;obtain⟨rfl,rfl,rfl⟩:=trodAll_nil r2;obtain rfl:args= #[v0,v1,v2]:=by cases args;simp_all
 obtain⟨rfl,rfl⟩:=trodVars_none hV;have hpost:∀W',Below W.heap.size W W'->Rows.witnessReplaysSpec.post enc Tryz.prog Tryz.f3 false true false false W #[v0,v1,v2] (.bool true) W':=fun W' hb=>
  z5e (by kernel_rfl) Tryz.underlying4 laid (by rw[Tryz.params3];intro t ht;simp at ht;rcases ht with rfl|rfl|rfl<;>exact⟨by kernel_rfl,of_decide_eq_true (by kernel_rfl)⟩) hW' rfl rfl hb
 simp only[zabL] at hk;have hb:Rows.uptoBulkAll [d0,d1,d2]<=1048576:=of_decide_eq_true hk;simp only[Rows.uptoBulkAll] at hb;obtain⟨x0,hs0,hr0⟩:=z4D bulk_ok (m:=12) (sh:= .agg [.int .i64,.int .i64,.int .i64,.int .i64,.int .i64,.int .i64,.int .i64,.int .i64]) h0 (by kernel_rfl) (by simp only[BIG];omega) (hval 0 23 v0 rfl rfl);obtain⟨x1,hs1,hr1⟩:=z4D bulk_ok (m:=12) (sh:= .sl (.agg [.int .i64,.int .i64,.int .i64,.int .i64,.int .i64,.int .i64,.int .i64,.sl (.agg [.int .i64,.int .i64,.int .i64,.int .i64]),.int .i64,.int .i64])) h1 (by kernel_rfl) (by simp only[BIG];omega) (hval 1 24 v1 rfl rfl);obtain⟨x2,hs2,hr2⟩:=z4D bulk_ok (m:=12) (sh:= .sl (.int .i64)) h2 (by kernel_rfl) (by simp only[BIG];omega) (hval 2 25 v2 rfl rfl);obtain⟨u,rfl⟩:=zajU hs0;obtain⟨l,rfl,hl,hR⟩:=zajR hs1;obtain⟨n,rfl,hn⟩:=zVm hs2;refine (zTH gok (ds:=[zaJ u,.sl (l.map zaw),.sl (zC n)]) (zamw u l hR n (by simp only[BIG,LIM] at *; omega)) (w:=W) (us:=[v0,v1,v2]) rfl fun i x u hx hu=> ?_).mono fun e W' ⟨u,he,hb,R',hr⟩=> ?_
 ·match i,hx,hu with
  | 0,hx,hu=>simp at hx hu;subst hx hu;exact hr0
  | 1,hx,hu=>simp at hx hu;subst hx hu;exact hr1
  | 2,hx,hu=>simp at hx hu;subst hx hu;exact hr2
  | n+3,hx,hu=>simp at hx
 ·subst he
  cases hr
  exact⟨_,rfl,hpost W' hb⟩
set_option maxRecDepth 100000 in
theorem zanQ(os:Os)(started:os.Started)(H:Type)(enc:TypeId×Value->H)(F:Stop.Interp):
    ReturnsInHanded {} Tryz.checked os 3 .any ((Rows.OpenSpec.upto Rows.witnessReplaysSpec).pre6 enc Tryz.prog Tryz.f3 Rows.witnessReplaysUptoRow.domain false) (((Rows.OpenSpec.upto Rows.witnessReplaysSpec).at F).post enc Tryz.prog Tryz.f3 false true false false):=by
 refine returnsInHanded_of_cond (C:=Tryz.checked) (s:=Rows.OpenSpec.upto Rows.witnessReplaysSpec) (k:=Rows.uptoSmall) rfl own started (by kernel_rfl) Tryz.func3
  (OpenSpec.witness (enc:=enc) (C:=Tryz.checked) (s:=Rows.OpenSpec.upto Rows.witnessReplaysSpec) (k:=Rows.uptoSmall) rfl false ⟨#[], #[.agg #[.int .i64 0,.int .i64 0,.int .i64 0,.int .i64 0,.int .i64 0,.int .i64 0,.int .i64 0,.int .i64 0],.slice none 0 0,.slice none 0 0],[]⟩ 8 (by kernel_rfl) (by kernel_rfl) (by kernel_rfl)
   (x:=([.agg [.lit (.int .i64 0),.lit (.int .i64 0),.lit (.int .i64 0),.lit (.int .i64 0),.lit (.int .i64 0),.lit (.int .i64 0),.lit (.int .i64 0),.lit (.int .i64 0)],.nil,.nil],[],[])) (by kernel_rfl) rfl (by kernel_rfl)) ?_
 intro W base args ds gs before hval hW _ hk _;exact zanP H enc W base args ds gs before hval hW hk
theorem witnessReplays_proved:Rows.WitnessReplaysUptoSaid:=
 OpenClaim.holds_of_cond 3 Tryz.f3 rfl rfl rfl rfl rfl rfl rfl ⟨rfl,rfl,rfl,rfl,rfl⟩ rfl rfl rfl rfl rfl t_witnessReplays_n Tryz.func3 t_witnessReplays_j t_witnessReplays_i t_witnessReplays_w
  (fun os started H enc _ F=>zanQ os started H enc F)
#print axioms witnessReplays_proved
end Go.Proofs.YtcembpbhkcbnhaaGreat
