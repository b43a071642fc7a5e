/-
  The statement ArenaStores, for arguments up to the given bound: whatever the input, the law returns true and its arguments read as before.
-/
import Derived.Test.YtjalkkalhdnplaaGreatRows
import Derived.Test.YtjalkkalhdnplaaGreatB5d730b8
import Derived.Test.YtjalkkalhdnplaaGreatB4855535
import Derived.Test.YtjalkkalhdnplaaGreatB6f42650
import Derived.ProofKit
import Derived.Test.YtjalkkalhdnplaaGreatBed42b5a
import Derived.JoinedCond
set_option linter.unusedSimpArgs false
set_option linter.unusedVariables false
set_option maxHeartbeats 10000000
set_option maxRecDepth 100000
namespace Go.Proofs.YtjalkkalhdnplaaGreat
open Go Go.ChangeShapes Go.WideShapes Go.ChangeAt Go.RowKit Go.Sim
theorem own:ownKnob Tryz.prog.godebug=none:=by kernel_rfl
theorem zO2:GOK Tryz.prog LA.G:=zQj gok zyP (zk Tryz.func96)
theorem laid:laidOutB Tryz.prog=true:=by kernel_rfl
theorem bulk_ok{H:Type}:zhn (Rows.uptoBulk (H:=H)) Rows.uptoBulkAll where
 sl _ _:=by simp only[Rows.uptoBulk]
 agg _:=by simp only[Rows.uptoBulk]
 str _:=by simp only[Rows.uptoBulk]
 nil:=by simp only[Rows.uptoBulkAll]
 cons _ _:=by simp only[Rows.uptoBulkAll]
 pos d:=by
  cases d with
  | lit l=>cases l<;>simp [Rows.uptoBulk]
  | _=>simp [Rows.uptoBulk]
set_option maxRecDepth 100000 in
theorem zFJ (H:Type) (enc:TypeId×Value->H) (W:Go.World) (base:Nat) (args:Array Value) (ds gs:List (DataW H)) (before:List MemPlace)
    (hval:∀(j:Nat) t v,Tryz.f5.params[j]? = some t->args[j]? = some v->Value.okWide Tryz.prog W .any base t v)
    (hW:DataW.Whole enc Tryz.prog Tryz.f5.params.toList Rows.arenaStoresSpec.vars false W args.toList ds gs before) (hk:Rows.uptoSmall H (ds++gs)=true):
    Calls Tryz.prog 5 args W fun e W'=>∃v,e= .returned v/\Rows.arenaStoresSpec.post enc Tryz.prog Tryz.f5 false true false false W args v W':=by
 have hW':=hW;obtain⟨p,q,hA0,hV,rfl,hfz,hnd⟩:=hW;have hA:DataW.TrodAll enc Tryz.prog W 0 (fun _=>true) true Tryz.f5.params.toList args.toList ds p:=hA0;rw[Tryz.params5] at hA hval;obtain⟨v0,vs0,d0,ds0,p0,q0,hargs,rfl,rfl,h0,r0⟩:=trodAll_cons hA;obtain⟨v1,vs1,d1,ds1,p1,q1,rfl,rfl,rfl,h1,r1⟩:=trodAll_cons r0;obtain⟨v2,vs2,d2,ds2,p2,q2,rfl,rfl,rfl,h2,r2⟩:=trodAll_cons r1;obtain⟨v3,vs3,d3,ds3,p3,q3,rfl,rfl,rfl,h3,r3⟩:=trodAll_cons r2;obtain⟨rfl,rfl,rfl⟩:=trodAll_nil r3;obtain rfl:args= #[v0,v1,v2,v3]:=by cases args;simp_all
 obtain⟨rfl,rfl⟩:=trodVars_none hV;have hpost:∀W',Below W.heap.size W W'->Rows.arenaStoresSpec.post enc Tryz.prog Tryz.f5 false true false false W #[v0,v1,v2,v3] (.bool true) W':=fun W' hb=>
  zS7 (by kernel_rfl) Tryz.underlying4 laid (by rw[Tryz.params5];intro t ht;simp at ht;rcases ht with rfl|rfl|rfl<;>exact⟨by kernel_rfl,of_decide_eq_true (by kernel_rfl)⟩) hW' rfl rfl hb
 simp only[zZd] at hk;have hb:Rows.uptoBulkAll [d0,d1,d2,d3]<=1048576:=of_decide_eq_true hk;simp only[Rows.uptoBulkAll] at hb;obtain⟨x0,hs0,hr0⟩:=zoT bulk_ok (m:=12) (sh:= .sl (.int .i64)) h0 (by kernel_rfl) (by simp only[BIG];omega) (hval 0 22 v0 rfl rfl);obtain⟨x1,hs1,hr1⟩:=zoT bulk_ok (m:=12) (sh:= .int .i64) h1 (by kernel_rfl) (by simp only[BIG];omega) (hval 1 3 v1 rfl rfl);obtain⟨x2,hs2,hr2⟩:=zoT bulk_ok (m:=12) (sh:= .int .i64) h2 (by kernel_rfl) (by simp only[BIG];omega) (hval 2 3 v2 rfl rfl);obtain⟨x3,hs3,hr3⟩:=zoT bulk_ok (m:=12) (sh:= .agg [.int .i64,.int .i64,.int .i64,.int .i64]) h3 (by kernel_rfl) (by simp only[BIG];omega) (hval 3 102 v3 rfl rfl);obtain⟨l,rfl,hl⟩:=zJf hs0;obtain⟨n1,rfl,_⟩:=zny hs1;obtain⟨n2,rfl,_⟩:=zny hs2;obtain⟨z,rfl⟩:=zJi hs3;refine (zHo zO2 (ds:=[.sl (zt l),.int .i64 n1,.int .i64 n2,zE z]) (LA.stores_ok l n1 n2 z (by simp only[BIG,LIM] at *; omega)) (w:=W) (us:=[v0,v1,v2,v3]) rfl fun i x u hx hu=> ?_).mono fun e W' ⟨u,he,hb,R',hr⟩=> ?_
 ·match i,hx,hu with
  | 0,hx,hu=>simp at hx hu;subst hx hu;exact hr0
  | 1,hx,hu=>simp at hx hu;subst hx hu;exact hr1
  | 2,hx,hu=>simp at hx hu;subst hx hu;exact hr2
  | 3,hx,hu=>simp at hx hu;subst hx hu;exact hr3
  | n+4,hx,hu=>simp at hx
 ·subst he
  cases hr
  exact⟨_,rfl,hpost W' hb⟩
set_option maxRecDepth 100000 in
theorem zFK(os:Os)(started:os.Started)(H:Type)(enc:TypeId×Value->H)(F:Stop.Interp):
    ReturnsInHanded {} Tryz.checked os 5 .any ((Rows.OpenSpec.upto Rows.arenaStoresSpec).pre6 enc Tryz.prog Tryz.f5 Rows.arenaStoresUptoRow.domain false) (((Rows.OpenSpec.upto Rows.arenaStoresSpec).at F).post enc Tryz.prog Tryz.f5 false true false false):=by
 refine returnsInHanded_of_cond (C:=Tryz.checked) (s:=Rows.OpenSpec.upto Rows.arenaStoresSpec) (k:=Rows.uptoSmall) rfl own started (by kernel_rfl) Tryz.func5
  (OpenSpec.witness (enc:=enc) (C:=Tryz.checked) (s:=Rows.OpenSpec.upto Rows.arenaStoresSpec) (k:=Rows.uptoSmall) rfl false ⟨#[], #[.slice none 0 0,.int .i64 0,.int .i64 0,.agg #[.int .i64 0,.int .i64 0,.int .i64 0,.int .i64 0]],[]⟩ 8 (by kernel_rfl) (by kernel_rfl) (by kernel_rfl)
   (x:=([.nil,.lit (.int .i64 0),.lit (.int .i64 0),.agg [.lit (.int .i64 0),.lit (.int .i64 0),.lit (.int .i64 0),.lit (.int .i64 0)]],[],[])) (by kernel_rfl) rfl (by kernel_rfl)) ?_
 intro W base args ds gs before hval hW _ hk _;exact zFJ H enc W base args ds gs before hval hW hk
theorem arenaStores_proved:Rows.ArenaStoresUptoSaid:=
 OpenClaim.holds_of_cond 5 Tryz.f5 rfl rfl rfl rfl rfl rfl rfl ⟨rfl,rfl,rfl,rfl,rfl⟩ rfl rfl rfl rfl rfl t_arenaStores_n Tryz.func5 t_arenaStores_j t_arenaStores_i t_arenaStores_w
  (fun os started H enc _ F=>zFK os started H enc F)
#print axioms arenaStores_proved
end Go.Proofs.YtjalkkalhdnplaaGreat
