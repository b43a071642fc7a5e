/-
  The statement ArenaSwaps, for arguments up to the given bound: whatever the input, the law returns true and its arguments read as before.
-/
import Derived.Test.YtnmcgdpmikhohaaGreatRows
import Derived.Test.YtnmcgdpmikhohaaGreatBcef4f92
import Derived.Test.YtnmcgdpmikhohaaGreatB709a0ff
import Derived.Test.YtnmcgdpmikhohaaGreatB72ce6a3
import Derived.ProofKit
import Derived.Test.YtnmcgdpmikhohaaGreatBfe19ee2
import Derived.JoinedCond
set_option linter.unusedSimpArgs false
set_option linter.unusedVariables false
set_option maxHeartbeats 10000000
set_option maxRecDepth 100000
namespace Go.Proofs.YtnmcgdpmikhohaaGreat
open Go Go.ChangeShapes Go.WideShapes Go.ChangeAt Go.RowKit Go.Sim
theorem own:ownKnob Tryz.prog.godebug=none:=by kernel_rfl
theorem laid:laidOutB Tryz.prog=true:=by kernel_rfl
theorem bulk_ok{H:Type}:zhp (Rows.uptoBulk (H:=H)) Rows.uptoBulkAll where
 sl _ _:=by simp only[Rows.uptoBulk]
 agg _:=by simp only[Rows.uptoBulk]
 str _:=by simp only[Rows.uptoBulk]
 nil:=by simp only[Rows.uptoBulkAll]
 cons _ _:=by simp only[Rows.uptoBulkAll]
 pos d:=by
  cases d with
  | lit l=>cases l<;>simp [Rows.uptoBulk]
  | _=>simp [Rows.uptoBulk]
set_option maxRecDepth 100000 in
theorem zaii (H:Type) (enc:TypeId×Value->H) (W:Go.World) (base:Nat) (args:Array Value) (ds gs:List (DataW H)) (before:List MemPlace)
    (hval:∀(j:Nat) t v,Tryz.f9.params[j]? = some t->args[j]? = some v->Value.okWide Tryz.prog W .any base t v)
    (hW:DataW.Whole enc Tryz.prog Tryz.f9.params.toList Rows.arenaSwapsSpec.vars false W args.toList ds gs before) (hk:Rows.uptoSmall H (ds++gs)=true):
    Calls Tryz.prog 9 args W fun e W'=>∃v,e= .returned v/\Rows.arenaSwapsSpec.post enc Tryz.prog Tryz.f9 false true false false W args v W':=by
 have hW':=hW;obtain⟨p,q,hA0,hV,rfl,hfz,hnd⟩:=hW;have hA:DataW.TrodAll enc Tryz.prog W 0 (fun _=>true) true Tryz.f9.params.toList args.toList ds p:=hA0;rw[Tryz.params9] at hA hval;obtain⟨v0,vs0,d0,ds0,p0,q0,hargs,rfl,rfl,h0,r0⟩:=trodAll_cons hA;obtain⟨v1,vs1,d1,ds1,p1,q1,rfl,rfl,rfl,h1,r1⟩:=trodAll_cons r0;obtain⟨v2,vs2,d2,ds2,p2,q2,rfl,rfl,rfl,h2,r2⟩:=trodAll_cons r1;obtain⟨v3,vs3,d3,ds3,p3,q3,rfl,rfl,rfl,h3,r3⟩:=trodAll_cons r2;obtain⟨v4,vs4,d4,ds4,p4,q4,rfl,rfl,rfl,h4,r4⟩:=trodAll_cons r3;obtain⟨rfl,rfl,rfl⟩:=trodAll_nil r4;obtain rfl:args= #[v0,v1,v2,v3,v4]:=by cases args;simp_all
 obtain⟨rfl,rfl⟩:=trodVars_none hV;have hpost:∀W',Below W.heap.size W W'->Rows.arenaSwapsSpec.post enc Tryz.prog Tryz.f9 false true false false W #[v0,v1,v2,v3,v4] (.bool true) W':=fun W' hb=>
  z5e (by kernel_rfl) Tryz.underlying4 laid (by rw[Tryz.params9];intro t ht;simp at ht;rcases ht with rfl|rfl<;>exact⟨by kernel_rfl,of_decide_eq_true (by kernel_rfl)⟩) hW' rfl rfl hb
 simp only[zabL] at hk;have hb:Rows.uptoBulkAll [d0,d1,d2,d3,d4]<=1048576:=of_decide_eq_true hk;simp only[Rows.uptoBulkAll] at hb;obtain⟨x0,hs0,hr0⟩:=z4D bulk_ok (m:=12) (sh:= .sl (.int .i64)) h0 (by kernel_rfl) (by simp only[BIG];omega) (hval 0 22 v0 rfl rfl);obtain⟨x1,hs1,hr1⟩:=z4D bulk_ok (m:=12) (sh:= .int .i64) h1 (by kernel_rfl) (by simp only[BIG];omega) (hval 1 3 v1 rfl rfl);obtain⟨x2,hs2,hr2⟩:=z4D bulk_ok (m:=12) (sh:= .int .i64) h2 (by kernel_rfl) (by simp only[BIG];omega) (hval 2 3 v2 rfl rfl);obtain⟨x3,hs3,hr3⟩:=z4D bulk_ok (m:=12) (sh:= .int .i64) h3 (by kernel_rfl) (by simp only[BIG];omega) (hval 3 3 v3 rfl rfl);obtain⟨x4,hs4,hr4⟩:=z4D bulk_ok (m:=12) (sh:= .int .i64) h4 (by kernel_rfl) (by simp only[BIG];omega) (hval 4 3 v4 rfl rfl);obtain⟨l,rfl,hl⟩:=zVm hs0;obtain⟨a,rfl,_⟩:=zVl hs1;obtain⟨b,rfl,_⟩:=zVl hs2;obtain⟨c,rfl,_⟩:=zVl hs3;obtain⟨d,rfl,_⟩:=zVl hs4;refine (zTH gok (ds:=[.sl (zC l),.int .i64 a,.int .i64 b,.int .i64 c,.int .i64 d]) (zaj8 l a b c d (by simp only[BIG,LIM] at *; omega)) (w:=W) (us:=[v0,v1,v2,v3,v4]) rfl fun i x u hx hu=> ?_).mono fun e W' ⟨u,he,hb,R',hr⟩=> ?_
 ·match i,hx,hu with
  | 0,hx,hu=>simp at hx hu;subst hx hu;exact hr0
  | 1,hx,hu=>simp at hx hu;subst hx hu;exact hr1
  | 2,hx,hu=>simp at hx hu;subst hx hu;exact hr2
  | 3,hx,hu=>simp at hx hu;subst hx hu;exact hr3
  | 4,hx,hu=>simp at hx hu;subst hx hu;exact hr4
  | n+5,hx,hu=>simp at hx
 ·subst he
  cases hr
  exact⟨_,rfl,hpost W' hb⟩
set_option maxRecDepth 100000 in
theorem zaij(os:Os)(started:os.Started)(H:Type)(enc:TypeId×Value->H)(F:Stop.Interp):
    ReturnsInHanded {} Tryz.checked os 9 .any ((Rows.OpenSpec.upto Rows.arenaSwapsSpec).pre6 enc Tryz.prog Tryz.f9 Rows.arenaSwapsUptoRow.domain false) (((Rows.OpenSpec.upto Rows.arenaSwapsSpec).at F).post enc Tryz.prog Tryz.f9 false true false false):=by
 refine returnsInHanded_of_cond (C:=Tryz.checked) (s:=Rows.OpenSpec.upto Rows.arenaSwapsSpec) (k:=Rows.uptoSmall) rfl own started (by kernel_rfl) Tryz.func9
  (OpenSpec.witness (enc:=enc) (C:=Tryz.checked) (s:=Rows.OpenSpec.upto Rows.arenaSwapsSpec) (k:=Rows.uptoSmall) rfl false ⟨#[], #[.slice none 0 0,.int .i64 0,.int .i64 0,.int .i64 0,.int .i64 0],[]⟩ 8 (by kernel_rfl) (by kernel_rfl) (by kernel_rfl)
   (x:=([.nil,.lit (.int .i64 0),.lit (.int .i64 0),.lit (.int .i64 0),.lit (.int .i64 0)],[],[])) (by kernel_rfl) rfl (by kernel_rfl)) ?_
 intro W base args ds gs before hval hW _ hk _;exact zaii H enc W base args ds gs before hval hW hk
theorem arenaSwaps_proved:Rows.ArenaSwapsUptoSaid:=
 OpenClaim.holds_of_cond 9 Tryz.f9 rfl rfl rfl rfl rfl rfl rfl ⟨rfl,rfl,rfl,rfl,rfl⟩ rfl rfl rfl rfl rfl t_arenaSwaps_n Tryz.func9 t_arenaSwaps_j t_arenaSwaps_i t_arenaSwaps_w
  (fun os started H enc _ F=>zaij os started H enc F)
#print axioms arenaSwaps_proved
end Go.Proofs.YtnmcgdpmikhohaaGreat
