/-
  The reader.
-/
import Derived.Test.YtdnlddoeamjcoaaGreatBb3fd0a8
import Derived.Test.YtdnlddoeamjcoaaGreatBfc2f73e
import Derived.Test.YtdnlddoeamjcoaaGreatB842129c
import Derived.Test.YtdnlddoeamjcoaaGreatBb3cae46
import Derived.Test.YtdnlddoeamjcoaaGreatB970ba0c
set_option linter.unusedSimpArgs false
set_option linter.unusedVariables false
set_option maxHeartbeats 10000000
set_option maxRecDepth 100000
namespace Go.Proofs.YtdnlddoeamjcoaaGreat
open Go Go.Sim
def RS(t x:zq):Prop:=x.inv=t.inv/\(x.results=t.results\/∃r:Result,(r.tokens.length<=12/\∀b∈r.tokens,b.length<=16)/\x.results=t.results++[r])
theorem RS.same{t x:zq}(h1:x.inv=t.inv)(h2:x.results=t.results):RS t x:=⟨h1,.inl h2⟩
theorem RS.next{t x:zq}(r:Result)(n:Int)(h1:x.inv=t.inv)(h2:x.results=t.results)(h3:r.tokens.length<=12/\∀b∈r.tokens,b.length<=16):RS t (za4 x r n):=
 ⟨h1,.inr ⟨r,h3,by show x.results++[r]=_;rw[h2]⟩⟩
theorem zfH{r:Result}(h:r.tokens=[]):r.tokens.length<=12/\∀b∈r.tokens,b.length<=16:=by rw[h];simp
theorem zmC(a:zy)(t:zq)(n:Int)(e:(goT a t n).2.2.2.2=0):(goT a t n).2.1.inv=t.inv/\(goT a t n).2.1.results=t.results:=by
 unfold goT at e ⊢
 split
 ·rename_i c;rw[zacY c] at e;exact absurd e c
 ·exact⟨rfl,rfl⟩
theorem znf{plan:zq->Pln}(h:∀t,(plan t).2.1.tokens=[])(lo hi:Int)(cells:zq->List Int)(a:zy)(t:zq)(n:Int)(e:(z7 plan lo hi cells a t n).2.2.2=0):RS t (z7 plan lo hi cells a t n).2.1:=by
 unfold z7 zaT at *;simp only at *
 split
 ·rename_i c;rw[zacY c] at e;exact absurd e c
 rename_i c;rw[zacX c] at e;have h0:(if t.pc=0 then zaO t (cells t) 1 else t).inv=t.inv/\(if t.pc=0 then zaO t (cells t) 1 else t).results=t.results:=by split<;>exact⟨rfl,rfl⟩
 generalize (if t.pc=0 then zaO t (cells t) 1 else t)=t' at *;have hg:=zmC a t' n;generalize goT a t' n=g at *
 split
 ·rename_i c;rw[zacY c] at e;exact absurd e c
 rename_i c;have hg:=hg (zadh.1 c)
 split
 ·exact .same (hg.1.trans h0.1) (hg.2.trans h0.2)
 split
 ·exact .same (hg.1.trans h0.1) (hg.2.trans h0.2)
 ·exact .next _ _ (hg.1.trans h0.1) (hg.2.trans h0.2) (zfH (h _))
theorem z6Z(a:zy)(t:zq)(n:Int)(e:(zb9 a t n).2.2.2=0):RS t (zb9 a t n).2.1:=by
 unfold zb9 at *;simp only at *
 split
 ·rename_i c;rw[zacY c] at e;exact absurd e c
 rename_i c;rw[zacX c] at e
 split
 ·split
  ·exact .next _ _ rfl rfl (zfH rfl)
  ·exact .same rfl rfl
 rename_i c;rw[zacX c] at e
 split
 ·rename_i c;rw[zacY c] at e;exact absurd e c
 split
 ·exact .same rfl rfl
 ·exact .next _ _ rfl rfl (zfH rfl)
theorem zTP(a:zy)(t:zq)(n:Int)(e:(zcS a t n).2.2.2=0):RS t (zcS a t n).2.1:=by
 unfold zcS at *;simp only at *
 split
 ·rename_i c;rw[zacY c] at e;exact absurd e c
 rename_i c;rw[zacX c] at e
 split
 ·exact .same rfl rfl
 rename_i c;rw[zacX c] at e
 split
 ·rename_i c;rw[zacY c] at e
  split
  ·rename_i c;rw[zacY c] at e;exact absurd e c
  ·exact .same rfl rfl
 rename_i c;rw[zacX c] at e
 split
 ·rename_i c;rw[zacY c] at e
  split
  ·rename_i c;rw[zacY c] at e;exact absurd e c
  ·exact .same rfl rfl
 split
 ·exact .same rfl rfl
 ·exact .next _ _ rfl rfl (zfH rfl)
theorem z8M(a:zy)(t:zq)(n:Int)(e:(zcV a t n).2.2.2=0):RS t (zcV a t n).2.1:=by
 have h:∀t,(zdV t).1.inv=t.inv/\(zdV t).1.results=t.results:=by
  intro t;unfold zdV;simp only
  split
  ·exact⟨rfl,rfl⟩
  split
  ·exact⟨rfl,rfl⟩
  split<;>exact⟨rfl,rfl⟩
 unfold zcV zaT at *;simp only at *
 split
 ·rename_i c;rw[zacY c] at e;exact absurd e c
 rename_i c;rw[zacX c] at e
 split
 ·exact .same rfl rfl
 rename_i c;rw[zacX c] at e;have hg:=zmC a t n;generalize goT a t n=g at *
 split
 ·rename_i c;rw[zacY c] at e;exact absurd e c
 rename_i c;have hg:=hg (zadh.1 c)
 split
 ·exact .same ((h _).1.trans hg.1) ((h _).2.trans hg.2)
 split
 ·exact .same hg.1 hg.2
 split
 ·exact .same hg.1 hg.2
 ·exact .next _ _ hg.1 hg.2 (zfH rfl)
theorem zaaJ(K:Tok)(a:zy)(t:zq)(n:Int)(e:(zbS K a t n).2.2.2=0):RS t (zbS K a t n).2.1:=by
 have h:∀t,(zdY t).1.inv=t.inv/\(zdY t).1.results=t.results:=by
  intro t;unfold zdY;simp only
  split<;>exact⟨rfl,rfl⟩
 unfold zbS zaT at *;simp only at *
 split
 ·rename_i c;rw[zacY c] at e;exact absurd e c
 rename_i c;rw[zacX c] at e
 split
 ·split
  ·exact .next _ _ rfl rfl (zfH rfl)
  ·simp only
   split<;>exact .same rfl rfl
 rename_i c;rw[zacX c] at e
 split
 ·exact .same rfl rfl
 rename_i c;rw[zacX c] at e;have hg:=zmC a t n;generalize goT a t n=g at *
 split
 ·rename_i c;rw[zacY c] at e;exact absurd e c
 rename_i c;have hg:=hg (zadh.1 c)
 split
 ·exact .same ((h _).1.trans hg.1) ((h _).2.trans hg.2)
 split
 ·exact .same hg.1 hg.2
 split
 ·exact .same hg.1 hg.2
 ·exact .next _ _ hg.1 hg.2 (zfH rfl)
theorem zaaw(K:Tok)(a:zy)(t:zq)(n:Int)(e:(zcY K a t n).2.2.2=0):RS t (zcY K a t n).2.1:=by
 have h:∀t,(zdX K t).1.inv=t.inv/\(zdX K t).1.results=t.results:=by
  intro t;unfold zdX;simp only
  split
  ·exact⟨rfl,rfl⟩
  split
  ·split<;>exact⟨rfl,rfl⟩
  ·exact⟨rfl,rfl⟩
 unfold zcY zaT at *;simp only at *
 split
 ·rename_i c;rw[zacY c] at e;exact absurd e c
 rename_i c;rw[zacX c] at e
 split
 ·split
  ·exact .next _ _ rfl rfl (zfH rfl)
  ·exact .same rfl rfl
 rename_i c;rw[zacX c] at e
 split
 ·rename_i c;rw[zacY c] at e
  split
  ·rename_i c;rw[zacY c] at e;exact absurd e c
  ·simp only
   split<;>exact .same rfl rfl
 rename_i c;rw[zacX c] at e
 split
 ·exact .same rfl rfl
 rename_i c;rw[zacX c] at e;have hg:=zmC a t n;generalize goT a t n=g at *
 split
 ·rename_i c;rw[zacY c] at e;exact absurd e c
 rename_i c;have hg:=hg (zadh.1 c)
 split
 ·exact .same ((h _).1.trans hg.1) ((h _).2.trans hg.2)
 split
 ·exact .same hg.1 hg.2
 split
 ·exact .next _ _ hg.1 hg.2 (zfH rfl)
 split
 ·exact .next _ _ hg.1 hg.2 (zfH rfl)
 ·exact .same hg.1 hg.2
theorem z8F{K:Tok}(hK:∀h,(K.enc h).1.length<=16)(a:zy)(t:zq)(n:Int)(e:(zcU K a t n).2.2.2=0):RS t (zcU K a t n).2.1:=by
 have h:∀t,(zdU t).1.inv=t.inv/\(zdU t).1.results=t.results:=by
  intro t;unfold zdU;simp only
  split
  ·exact⟨rfl,rfl⟩
  split
  ·exact⟨rfl,rfl⟩
  split
  ·exact⟨rfl,rfl⟩
  split<;>exact⟨rfl,rfl⟩
 have ht:∀t,(ziA K t).tokens.length<=12/\∀b∈(ziA K t).tokens,b.length<=16:=by
  intro t;unfold ziA;simp only[zadd];refine⟨zQ2 _ _ _ _ _ _,fun b hb=> ?_⟩;obtain⟨y,_,rfl⟩:=zadc.1 hb;exact hK _
 unfold zcU zaT at *;simp only at *
 split
 ·rename_i c;rw[zacY c] at e;exact absurd e c
 rename_i c;rw[zacX c] at e
 split
 ·exact .same rfl rfl
 rename_i c;rw[zacX c] at e
 split
 ·exact .same rfl rfl
 rename_i c;rw[zacX c] at e;have hg:=zmC a t n;generalize goT a t n=g at *
 split
 ·rename_i c;rw[zacY c] at e;exact absurd e c
 rename_i c;have hg:=hg (zadh.1 c)
 split
 ·exact .same ((h _).1.trans hg.1) ((h _).2.trans hg.2)
 split
 ·exact .same hg.1 hg.2
 split
 ·exact .next _ _ hg.1 hg.2 (zfH rfl)
 split
 ·exact .next _ _ hg.1 hg.2 (zfH rfl)
 split
 ·exact .next _ _ hg.1 hg.2 (ht _)
 ·exact .same hg.1 hg.2
theorem zQ6{K:Tok}(hK:∀h,(K.enc h).1.length<=16)(a:zy)(t:zq)(n:Int)(e:(zcn K a t n).2.2.2=0):RS t (zcn K a t n).2.1:=by
 have steal_tk:∀t,(zb2 t).2.1.tokens=[]:=by
  intro t;unfold zb2;simp only;split
  ·rfl
  split<;>rfl
 have split_tk:∀t,(zb1 t).2.1.tokens=[]:=by
  intro t;unfold zb1;simp only;split<;>rfl
 have merge_tk:∀t,(zbX t).2.1.tokens=[]:=by
  intro t;unfold zbX;simp only;split<;>rfl
 have sweep_tk:∀t,(zbx t).2.1.tokens=[]:=by
  intro t;unfold zbx;simp only;split
  ·rfl
  split
  ·rfl
  split
  ·rfl
  split<;>rfl
 have bury_tk:∀t,(zbT t).2.1.tokens=[]:=by
  intro t;unfold zbT;simp only;split
  ·rfl
  split<;>rfl
 unfold zcn at *
 by_cases c:t.done=true
 ·rw[zacY c] at e;exact absurd e (by decide)
 rw[zacX c] at e ⊢
 by_cases c0:t.inv.kind=1
 ·rw[zacY c0] at e ⊢; exact zaaw K a t n e
 rw[zacX c0] at e ⊢
 by_cases c1:t.inv.kind=2
 ·rw[zacY c1] at e ⊢; exact z8F hK a t n e
 rw[zacX c1] at e ⊢
 by_cases c2:3<=t.inv.kind/\t.inv.kind<=5
 ·rw[zacY c2] at e ⊢; exact zaaJ K a t n e
 rw[zacX c2] at e ⊢
 by_cases c3:t.inv.kind=6
 ·rw[zacY c3] at e ⊢; exact z6Z a t n e
 rw[zacX c3] at e ⊢
 by_cases c4:t.inv.kind=7
 ·rw[zacY c4] at e ⊢; exact zTP a t n e
 rw[zacX c4] at e ⊢
 by_cases c5:t.inv.kind=8
 ·rw[zacY c5] at e ⊢; exact z8M a t n e
 rw[zacX c5] at e ⊢
 by_cases c6:t.inv.kind=9
 ·rw[zacY c6] at e ⊢; exact znf steal_tk _ _ _ a t n e
 rw[zacX c6] at e ⊢
 by_cases c7:t.inv.kind=10
 ·rw[zacY c7] at e ⊢; exact znf split_tk _ _ _ a t n e
 rw[zacX c7] at e ⊢
 by_cases c8:t.inv.kind=11
 ·rw[zacY c8] at e ⊢; exact znf merge_tk _ _ _ a t n e
 rw[zacX c8] at e ⊢
 by_cases c9:t.inv.kind=12\/t.inv.kind=13
 ·rw[zacY c9] at e ⊢; exact znf sweep_tk _ _ _ a t n e
 rw[zacX c9] at e ⊢
 by_cases c10:t.inv.kind=14
 ·rw[zacY c10] at e ⊢; exact znf bury_tk _ _ _ a t n e
 rw[zacX c10] at e ⊢;exact absurd e (by decide)
theorem zVG{i:Invocation}{s:Setup}(h:zaK i s=0):zdw i<=6:=by
 unfold zaK at h;unfold zdw
 by_cases c1:i.kind=1
 ·rw[zacY c1] at h ⊢
  by_cases c:i.bodies.length=0\/6<i.bodies.length
  ·rw[zacY c] at h;cases h
  ·omega
 rw[zacX c1] at h ⊢
 by_cases c3:3<=i.kind/\i.kind<=5
 ·rw[zacX zo,zacY c3] at h;rw[zacY c3]
  by_cases c:i.tokens.length=0\/6<i.tokens.length
  ·rw[zacY c] at h;cases h
  ·omega
 ·rw[zacX c3];decide
structure QI(u:Setup)(B:Int)(w:World):Prop where
 wi:WI u w
 lb:LB B w
 hl:(w.handles.length:Int)<=12 * w.steps
 hb:∀b∈w.handles,b.length<=16
 tk:∀t∈w.tasks,t.results.length<=6/\∀b∈t.inv.tokens,b.length<=16
theorem QI.mono{u:Setup}{B C:Int}{w:World}(h:QI u B w)(hb:B<=C):QI u C w:={ h with lb:=h.lb.mono hb }
theorem zabp{K:Tok}(hK:ziQ K)(hE:∀h,(K.enc h).1.length<=16){u:Setup}{B:Int}{w:World}{i:Nat}(h:QI u B w)(hi:i<w.tasks.length)(e:(zdl K w i).2=0):QI u (B+1) (zdl K w i).1:=by
 refine { wi:=zabn hK h.wi hi e,lb:=zabo h.lb e,hl:= ?_,hb:= ?_,tk:= ?_ }
 all_goals
  have ht:=h.tk (w.tasks.getD i zD) (by rw[zj hi];exact zadf hi);have hT:=h.wi.ts (w.tasks.getD i zD) (by rw[zj hi];exact zadf hi);have h1:=h.hl;have h2:=h.hb;have h3:=h.tk;have hr:=zQ6 hE w.arena (w.tasks.getD i zD) (w.steps+1);have hd:(zcn K w.arena (w.tasks.getD i zD) (w.steps+1)).2.2.2=0->(w.tasks.getD i zD).done=false:=by
   intro q
   cases hq:(w.tasks.getD i zD).done with
   | false=>rfl
   | true=>unfold zcn at q;rw[zacY hq] at q;exact absurd q (by decide)
  unfold zdl at e ⊢;simp only at e ⊢;generalize w.tasks.getD i zD=t at *;generalize zcn K w.arena t (w.steps+1)=r at *
  by_cases c:r.2.2.2=0
  rotate_left
  ·rw[zacY c] at e;exact absurd e c
  rw[zacX (fun q=>q c)];obtain⟨q1,q2⟩:=hr c;have hent:=hT.e1 (hd c);have hres:=hT.e2;have hsix:=zVG hT.iv;clear hr hd e c;simp only
 ·rcases q2 with q2|⟨x,hx,q2⟩
  ·rw[q2];simp only[zadI,zacZ,zae4,zadk];omega
  ·rw[q2];simp only[zafT,zac1,zacZ,zafU,zae4,zadk,zac6];omega
 ·intro b hb
  rcases zads.1 hb with hb|hb
  ·exact h2 b hb
  ·rcases q2 with q2|⟨x,hx,q2⟩
   ·rw[q2] at hb;simp only[zadI,zacZ,zae4] at hb;cases hb
   ·rw[q2] at hb;simp only[zafT,zac1,zacZ,zafU,zae4,zadk] at hb;exact hx.2 b hb
 ·intro x hx
  rcases zm0 hx with hx|hx
  ·rw[hx,q1];refine⟨?_,ht.2⟩
   rcases q2 with q2|⟨x,hx,q2⟩
   ·rw[q2];omega
   ·rw[q2,zac6,zadF];omega
  ·exact h3 x hx
theorem zM5{K:Tok}(hK:ziQ K)(hE:∀h,(K.enc h).1.length<=16){u:Setup}{B:Int}{w:World}{k:Int}(h:QI u B w)(e:(zdD K w k).2=0):QI u (B+1) (zdD K w k).1:=by
 unfold zdD at e ⊢
 by_cases c:k<0\/((zbA w).length:Int)<=k
 ·rw[zacY c] at e;cases e
 ·rw[zacX c] at e ⊢;exact zabp hK hE h (zMU zo) e
theorem zabW{u:Setup}{B:Int}{w:World}{by_:Int}(h:QI u B w)(e:(zep w by_).2=0):QI u (B+1) (zep w by_).1:=by
 have h1:=zabU h.wi e;have h2:=zabV h.lb e;have h3:=h.hl;unfold zep at e h1 h2 ⊢
 by_cases c:(ze3 w.arena by_).2=0
 ·rw[zacX (fun q=>q c)] at h1 h2 ⊢;exact { wi:=h1,lb:=h2,hl:=by simp only;omega,hb:=h.hb,tk:=h.tk }
 ·rw[zacY c] at e;exact absurd e c
theorem zY7{u:Setup}{B:Int}{w:World}{i:Invocation}(h:QI u B w)(hi:∀b∈i.tokens,b.length<=16)(e:(zdg w i).2.2=0):QI u B (zdg w i).1:=by
 have h1:=zY5 h.wi e;have h2:=zY6 h.lb e;unfold zdg at e h1 h2 ⊢
 by_cases c:200<=w.tasks.length\/8<=(zbA w).length
 ·rw[zacY c] at e;cases e
 rw[zacX c] at e h1 h2 ⊢
 by_cases c2:(ze1 (w.tasks.length+1) i w.setup w.steps).2=0
 ·rw[zacX (fun q=>q c2)] at h1 h2 ⊢;refine { wi:=h1,lb:=h2,hl:=h.hl,hb:=h.hb,tk:=fun t ht=> ?_ }
  rcases zads.1 ht with ht|ht
  ·exact h.tk t ht
  ·rw[zadD.1 ht];unfold ze1
   split
   ·exact⟨by simp [zD],by simp [zD,ze4]⟩
   split
   ·exact⟨by simp [zD],by simp [zD,ze4]⟩
   split
   ·exact⟨by simp [zD],by simp [zD,ze4]⟩
   ·exact⟨by simp [zD],hi⟩
 ·rw[zacY c2] at e;exact absurd e c2
theorem zaca{K:Tok}(hE:∀h,(K.enc h).1.length<=16){r:Ref}{hs:List (List UInt8)}(h1:r.raw.length<=16)(h2:∀b∈hs,b.length<=16):(zfo K r hs).length<=16:=by
 have hb:∀k,(hs.getD k []).length<=16:=fun k=>by
  rw[zadC]
  cases hq:hs[k]? with
  | none=>simp
  | some b=>exact h2 b (zadm hq)
 unfold zfo;simp only;generalize ((zbH r.index 0).tmod hs.length).toNat=k
 split
 ·exact h1
 split
 ·exact hb k
 split
 ·rw[zadM];exact hb k
 split
 ·generalize (if r.variant=2 then ({ (K.par (hs.getD k [])).1 with gen:=(K.par (hs.getD k [])).1.gen+1 }:zbk) else if r.variant=3 then { (K.par (hs.getD k [])).1 with gen:=(K.par (hs.getD k [])).1.gen - 1 } else { (K.par (hs.getD k [])).1 with route:=((K.par (hs.getD k [])).1.route+1).tmod 65536 })=h
  split
  ·exact hb k
  ·exact hE h
 ·exact hb k
theorem zabr{u:Setup}{B:Int}{w:World}{i:Nat}(h:QI u B w)(hB:B<=200000)(hi:i<w.tasks.length):zg G zjS [.d (zM w),.d (.int .i64 i)] []=some (.d (.tup [zM (zdl zaS w i).1,.int .i64 (zdl zaS w i).2]),[]):=by
 have h1:=h.lb.st;have h2:=h.lb.lg;have h3:=h.hl;have h4:=h.tk _ (zadf hi);have hr:=zQ6 ztW w.arena w.tasks[i] (w.steps+1);refine zabl zlv h.wi hi zo zo ?_ (fun q=> ?_) zo zo (fun b hb=> ?_)
 ·have:=zQ5 zaS w.arena w.tasks[i] (w.steps+1);omega
 ·rcases (hr q).2 with q2|⟨x,hx,q2⟩
  ·exact .inl q2
  ·exact .inr ⟨x,by omega,q2⟩
 ·have:=h4.2 b hb;omega
theorem z6C{u:Setup}{B:Int}{w:World}{k:Int}(h:QI u B w)(hB:B<=200000):zg G zl7 [.d (zM w),.d (.int .i64 k)] []=some (.d (.tup [zM (zdD zaS w k).1,.int .i64 (zdD zaS w k).2]),[]):=
 z6A h.wi fun i hi=>zabr h hB hi
noncomputable def pkR(c:Command):Nat->World->Option (zac×St)
 | 0,w=>some (.exit 1,⟨[(2,.ref 2 0 0),(4,.ref 4 0 0)],[(2,.row [.d (zM w)]),(4,zWr)]⟩)
 | n+1,w=>if (zbA w).length=0 then some (.ret,⟨[(4,.ref 4 0 0),(5,.d (.int .i64 0))],[(4,.row [.d (zM w)])]⟩) else if (zdD zaS w ((zbH c.pick 0).tmod (zbA w).length)).2≠0 then some (.ret,⟨[(4,.ref 4 0 0),(5,.d (.int .i64 (zdD zaS w ((zbH c.pick 0).tmod (zbA w).length)).2))],[(4,zWr)]⟩) else pkR c n (zdD zaS w ((zbH c.pick 0).tmod (zbA w).length)).1
theorem z6E(c:Command):∀(n:Nat) (w:World),(∃w',ziv zaS c.pick n w=(w',0)/\(pkR c n w=some (.exit 1,⟨[(2,.ref 2 0 0),(4,.ref 4 0 0)],[(2,.row [.d (zM w')]),(4,zWr)]⟩)\/pkR c n w=some (.ret,⟨[(4,.ref 4 0 0),(5,.d (.int .i64 0))],[(4,.row [.d (zM w')])]⟩)))\/(∃e,e≠0/\ziv zaS c.pick n w=(zbv,e)/\pkR c n w=some (.ret,⟨[(4,.ref 4 0 0),(5,.d (.int .i64 e))],[(4,zWr)]⟩)):=by
 intro n
 induction n with
 | zero=>intro w;exact .inl ⟨w,rfl,.inl rfl⟩
 | succ n ih=>
  intro w;unfold ziv pkR
  by_cases c1:(zbA w).length=0
  ·rw[zacY c1,zacY c1];exact .inl ⟨w,rfl,.inr rfl⟩
  rw[zacX c1,zacX c1]
  by_cases c2:(zdD zaS w ((zbH c.pick 0).tmod (zbA w).length)).2=0
  ·rw[zacX (fun q=>q c2),zacX (fun q=>q c2)];exact ih _
  ·rw[zacY c2,zacY c2];exact .inr ⟨_,c2,rfl,rfl⟩
def pkS(c:Command)(m:Nat)(p:Nat×World):St:=⟨[(2,.ref 2 0 0),(3,.ref 3 0 0),(4,.ref 4 0 0),(6,.d (.int .i64 m)),(7,.d (.int .i64 p.1))],[(2,.row [.d (zM p.2)]),(3,.row [.d (zbf c)]),(4,zWr)]⟩
theorem z6F{u:Setup}{c:Command}{m:Nat}(hm:m<=255){B:Int}(hB:B<=102000):∀p:Nat×World,(p.1<=m/\QI u (B+p.1) p.2)->zai G [] zA9 (pkS c m p)=pkR c (m - p.1) p.2:=by
 refine za3 (fun p:Nat×World=>m - p.1) _ _ _ fun⟨k,w⟩ ⟨h1,h2⟩ L ih=> ?_;simp only at h1 h2;simp only[pkS,zA9] at ih ⊢
 by_cases h0:k<m
 ·have hk:=h2.wi.tl;have hn:=zBI w zo;have hc:=zBH w zo;have hol:=zBJ w;have e1:m - k=(m - (k+1))+1:=by omega
  rw[e1];unfold pkR
  by_cases c1:(zbA w).length=0
  ·rw[zacY c1];rw[<- hol] at c1;have h:=hn (zadN.1 c1);clear hn hc ih h2 hol c1 e1 hk;have sz_w:=zbo w;generalize zM w=D_w at *;simp only[zbf];unfold zWr;exact zS
  ·rw[zacX c1];have hp:=z6C (k:=(zbH c.pick 0).tmod (zbA w).length) h2 zo;have hq:=zM5 zlv.ok ztW (k:=(zbH c.pick 0).tmod (zbA w).length) h2;have hmx:(if c.pick<0 then 0 else c.pick)=zbH c.pick 0:=by
    unfold zbH;rfl
   generalize zbH c.pick 0=y at *;rw[<- hol] at *;generalize hO:opL w.tasks w.tasks.length=o at *
   rcases o with _|⟨o1,o⟩
   ·exact absurd rfl c1
   have h:=hc o1 o rfl;generalize zdD zaS w (y.tmod ((o1::o).length:Int))=r at *;obtain⟨w2,e⟩:=r;simp only[zac4] at hp hq c1
   by_cases c2:e=0
   ·subst c2;have i1:=ih (k+1,w2) ⟨by simp only;omega,by have:=hq rfl;rw[show B+((k+1:Nat):Int)=B+k+1 by omega];exact this⟩ (by simp only;omega);rw[zacX (by simp)];simp only at i1;clear hn hc ih h2 hol c1 e1 hk hq hO;generalize pkR c (m - (k+1)) w2=z at *;have sz_w:=zbo w;generalize zM w=D_w at *;have sz_w2:=zbo w2;generalize zM w2=D_w2 at *;obtain⟨ck,pk,by_,iv,rf⟩:=c;simp only[zbf] at *;unfold zWr at *;simp only[zNr,zE] at i1 hp;exact zS
   ·rw[zacY c2];replace c2:=zac3 c2;clear hn hc ih h2 hol c1 e1 hk hq hO;have sz_w:=zbo w;generalize zM w=D_w at *;have sz_w2:=zbo w2;generalize zM w2=D_w2 at *;obtain⟨ck,pk,by_,iv,rf⟩:=c;simp only[zbf] at *;unfold zWr at *;simp only[zNr,zE] at hp;exact zS
 ·have e1:m - k=0:=by omega
  rw[e1];clear ih h2;unfold pkR;have sz_w:=zbo w;generalize zM w=D_w at *;simp only[zbf];unfold zWr;exact zS
theorem zUO{u:Setup}{B:Int}{w:World}{c:Command}(h:QI u B w)(hB:B<=102000)(hk:c.kind=1):zg G zf5 [.d (zM w),.d (zbf c)] []=some (.d (.tup [zM (doW zaS w c).1,.int .i64 (doW zaS w c).2]),[]):=by
 have hm:(if 0<(if 255<c.by_ then 255 else c.by_) then (if 255<c.by_ then 255 else c.by_) else 0)=zbH 0 (zgt c.by_ 255):=by
  unfold zbH zgt
  by_cases q1:c.by_<255<;>by_cases q2:255<c.by_<;>simp only[q1,q2,if_true,if_false]<;>split<;>omega
 have hb:=zD4 c.by_;have h0:0<=zbH 0 (zgt c.by_ 255):=by unfold zbH;split<;>omega
 unfold doW;simp only;generalize zbH 0 (zgt c.by_ 255)=m at *;obtain⟨n,rfl⟩:∃n:Nat,m=n:=⟨m.toNat,by omega⟩;rw[zacY hk];simp only[zadG] at *;have hl:=z6F (c:=c) hb hB (0,w) ⟨by simp,by simpa using h⟩;have hc:=z6E c n w;simp only[pkS,zaeq,zado] at hl;clear h hb;obtain⟨k,pk,by_,iv,rf⟩:=c;simp only at *;subst hk
 rcases hc with ⟨v,hp,hr⟩|⟨e,he,hp,hr⟩
 ·rw[hp]
  rcases hr with hr|hr
  all_goals
   rw[hr] at hl;clear hp hr;simp only;have sz_w:=zbo w;generalize zM w=D_w at *;have sz_v:=zbo v;generalize zM v=D_v at *;simp only[zbf] at *;unfold zWr at *
  ·exact zW zfz
  ·exact zW zfz
 ·rw[hp];rw[hr] at hl;have hz:zM zbv= .agg [.int .i64 0,.int .i64 0,.int .i64 0,.int .i64 0,.int .i64 0,.int .i64 0,.int .i64 0,.int .i64 0,.sl [],.sl [],.int .i64 0,.int .i64 0,.sl [],.int .i64 0,.sl [],.sl [],.int .i64 0,.int .i64 0,.int .i64 0,.sl [],.sl [],.int .i64 0,.sl []]:=rfl;simp only[hz];clear hp hr hz;replace he:=zac3 he;have sz_w:=zbo w;generalize zM w=D_w at *;simp only[zbf] at *;unfold zWr at *;exact zW zfz
theorem xor8:∀n:Fin 256,zjL .u8 (n.val:Int) 1=((UInt8.ofNat n.val ^^^ 1).toNat:Int):=by decide+kernel
theorem zacL(v:UInt8):zjL .u8 (v.toNat:Int) 1=((v ^^^ 1).toNat:Int):=by
 have:=xor8 ⟨v.toNat,v.toNat_lt⟩;simp only[UInt8.ofNat_toNat] at this;exact this
theorem zacb(r:Ref)(hs:List (List UInt8))(hl:hs.length<=10000000)(hb:∀b∈hs,b.length<=16):zg G zqG [.d (zh0 r),.d (.sl (hs.map zaR))] []=some (.d (zaR (zfo zaS r hs)),[]):=by
 obtain⟨ri,rv,rr⟩:=r;have hmx:(if ri<0 then 0 else ri)=zbH ri 0:=by
  unfold zbH;rfl
 unfold zfo;simp only[zh0]
 by_cases c7:rv=7
 ·subst c7;rw[zacY (by simp)];clear hb hmx;simp only[zaR];generalize byD rr=R;exact zW zgp
 by_cases c0:hs.length=0
 ·rw[zacY (.inr c0)];have:=zadN.1 c0;subst this;clear hb hmx;replace c7:=zac3 c7;simp only[zaR,zacZ];exact zW zgp
 rw[zacX (by simp only[not_or];exact⟨c7,c0⟩)];have hn0:0<=zbH ri 0:=by unfold zbH;split<;>omega
 generalize zbH ri 0=y at *;obtain⟨k,hk⟩:∃k:Nat,y.tmod hs.length=k:=⟨(y.tmod hs.length).toNat,by have:=zafu (hs.length:Int) hn0;omega⟩;have hkl:k<hs.length:=by have:=zafv y (b:=hs.length) zo;omega
 rw[hk,zadG];have hg:hs.getD k []=hs[k]:=zj hkl;have hg2:(hs.map zaR)[k]? = some (zaR hs[k]):=by rw[zadj,zada hkl];rfl
 rw[hg];have hbl:=hb _ (zadf hkl);have hlen:(hs.map zaR).length=hs.length:=zadd _;generalize hs[k]=b at *;have hp:=zlv.pa b zo;have hq:=zabR b;have hq2:=zlv.ok.par b;generalize zaS.par b=p at *;obtain⟨h,e⟩:=p;simp only at hp hq hq2 ⊢;clear hg hb;generalize hs.map zaR=H at *;replace c7:=zac3 c7;have hbd:(byD b).length=b.length:=by unfold byD;simp
 have en:=zlv.en;simp only[zaH,zaR] at hp hg2 en ⊢
 by_cases ce:e=0
 ·subst ce;obtain⟨q1,q2,q3⟩:=hq rfl;obtain⟨⟨q4,q5⟩,_⟩:=hq2 rfl;rw[zacX (by simp)];rw[q1] at hbd;obtain⟨h1,h2,h3,h4⟩:=h;simp only at *;clear hq hq2;have fin:∀h':zbk,∃x:List D,byD (if (zaS.enc h').2≠0 then b else (zaS.enc h').1)=x:=fun _=>⟨_,rfl⟩
  by_cases v5:rv=5
  ·subst v5;rw[zacY (rfl:(5:Int)=5)];clear en fin;have hb15:(byD b)[15]? = some (.int .u8 ((b.getD 15 0).toNat)):=by
    unfold byD;rw[zadj,zada zo,zj zo];rfl
   have hset:byD (b.set (b.length - 1) (b.getD (b.length - 1) 0 ^^^ 1))=(byD b).set 15 (.int .u8 ((b.getD 15 0 ^^^ 1).toNat)):=by
    rw[q1];unfold byD;rw[zad9]
   rw[hset];have hx:=zacL (b.getD 15 0);have ha:zaI 1 (byD b)=true:=by simp [zaI,byD,D.size,D.cells]
   have hb16:∀h:15<(byD b).length,(byD b)[15]'h= .int .u8 ((b.getD 15 0).toNat):=fun h=>by
    have:=zada h;rw[hb15] at this;exact (Option.some.inj this).symm
   generalize b.getD 15 0=v at *;generalize byD b=R at *;clear q1 hbl hset;rw[zO zgp (by simp)];simp -implicitDefEqProofs (maxSteps:=4000000) (disch:=omega) only[zvb,zCG,zj,go_sem, *];(try simp only[zPr]);repeat' (first|done|rfl|((first|refine zay (fun hq=> ?_) (fun hq=> ?_)|refine zaD (fun hq=> ?_) (fun hq=> ?_))<;>(try (first|(exfalso;omega)|contradiction))<;>(try simp -implicitDefEqProofs (maxSteps:=4000000) (disch:=omega) only[zj,go_sem, *])<;>(try simp only[zPr])));(all_goals try rfl);(all_goals try (repeat' (first|done|rfl|(exfalso;omega)|contradiction|(refine zaz (fun hq=> ?_) (fun hq=> ?_)))))
   all_goals rw[zaeL (by rw[zadM];omega)]
  rw[zacX v5]
  by_cases v2:rv=2
  ·subst v2;rw[zacY (.inl rfl),zacY (rfl:(2:Int)=2)];have e1:=en ⟨h1,h2+1,h3,h4⟩;generalize zaS.enc ⟨h1,h2+1,h3,h4⟩=z at *;obtain⟨zb,ze⟩:=z;simp only at *;clear en fin
   by_cases cz:ze=0
   ·subst cz;rw[zacX (by simp)];generalize byD b=R at *;generalize byD zb=Z at *;clear q1 hbl;exact zW zgp
   ·rw[zacY cz];replace cz:=zac3 cz;generalize byD b=R at *;generalize byD zb=Z at *;clear q1 hbl;exact zW zgp
  by_cases v3:rv=3
  ·subst v3;rw[zacY (.inr (.inl rfl)),zacX (by decide:¬(3:Int)=2),zacY (rfl:(3:Int)=3)];have e1:=en ⟨h1,h2 - 1,h3,h4⟩;generalize zaS.enc ⟨h1,h2 - 1,h3,h4⟩=z at *;obtain⟨zb,ze⟩:=z;simp only at *;clear en fin
   by_cases cz:ze=0
   ·subst cz;rw[zacX (by simp)];generalize byD b=R at *;generalize byD zb=Z at *;clear q1 hbl;exact zW zgp
   ·rw[zacY cz];replace cz:=zac3 cz;generalize byD b=R at *;generalize byD zb=Z at *;clear q1 hbl;exact zW zgp
  by_cases v4:rv=4
  ·subst v4;rw[zacY (.inr (.inr rfl)),zacX (by decide:¬(4:Int)=2),zacX (by decide:¬(4:Int)=3)];have e1:=en ⟨h1,h2,(h3+1).tmod 65536,h4⟩;generalize zaS.enc ⟨h1,h2,(h3+1).tmod 65536,h4⟩=z at *;obtain⟨zb,ze⟩:=z;simp only at *;clear en fin
   by_cases cz:ze=0
   ·subst cz;rw[zacX (by simp)];generalize byD b=R at *;generalize byD zb=Z at *;clear q1 hbl;exact zW zgp
   ·rw[zacY cz];replace cz:=zac3 cz;generalize byD b=R at *;generalize byD zb=Z at *;clear q1 hbl;exact zW zgp
  rw[zacX (by simp only[not_or];exact⟨v2,v3,v4⟩)];replace v2:=zac3 v2;replace v3:=zac3 v3;replace v4:=zac3 v4;replace v5:=zac3 v5;clear en fin;generalize byD b=R at *;clear q1 hbl;exact zW zgp
 ·rw[zacY ce];replace ce:=zac3 ce;clear hq hq2 en;obtain⟨h1,h2,h3,h4⟩:=h;simp only at *;generalize byD b=R at *;exact zW zgp
theorem zUP{u:Setup}{B:Int}{w:World}{c:Command}(h:QI u B w)(hB:B<=102000)(hk:c.kind=3)(h1:1<=c.refs.length)(h2:c.refs.length<=2)(hb:c.inv.bodies.length<=1000):zg G zf5 [.d (zM w),.d (zbf c)] []=some (.d (.tup [zM (doW zaS w c).1,.int .i64 (doW zaS w c).2]),[]):=by
 have hh:=h.hl;have hst:=h.lb.st;have hi:=fun v:Invocation=>zL0 w (i:=v) h.wi.tl;have ht:=fun r=>zacb r w.handles zo h.hb;have hhl:w.handles.length<=4294967296:=by omega
 unfold doW;simp only;have hp0:0<c.refs.length:=by omega
 rw[zacX zo,zacX zo,zacY hk];simp only[zacY hp0];clear hp0;clear h hh hst;obtain⟨k,pk,by_,⟨v1,v2,v3,v4,v5,v6,bs,ts⟩,rf⟩:=c;simp only at *;subst hk
 rcases rf with _|⟨r1,_|⟨r2,rf⟩⟩
 ·simp at h1
 ·have hv:=hi ⟨v1,v2,v3,v4,v5,v6,bs,[zfo zaS r1 w.handles]⟩ (by simp) (by simp only;omega);have t1:=ht r1;clear hi ht h1 h2;simp only[zac1,zacZ];generalize zfo zaS r1 w.handles=x1 at *;generalize zdg w ⟨v1,v2,v3,v4,v5,v6,bs,[x1]⟩=r at *;obtain⟨r,n,e⟩:=r;simp only at *;obtain⟨s,wa,tasks,log,steps,handles⟩:=w;simp only at hhl t1
  by_cases c:e=0
  ·subst c;rw[zacY rfl];have sz_r:=zbo r;generalize zM r=D_r at *;simp only[zM,zbf,z9,zh0,zac1,zacZ] at *;have ex1:zaR x1= .sl (byD x1):=rfl;rw[ex1] at t1 hv;clear ex1;generalize byD x1=y1 at *;rw[zO zfz (by simp)];simp -implicitDefEqProofs (maxSteps:=4000000) (disch:=omega) only[zj4,zlc,za2,zmW,zj,go_sem, *]
  ·rw[zacX c];replace c:=zac3 c;have sz_r:=zbo r;generalize zM r=D_r at *;simp only[zM,zbf,z9,zh0,zac1,zacZ] at *;have ex1:zaR x1= .sl (byD x1):=rfl;rw[ex1] at t1 hv;clear ex1;generalize byD x1=y1 at *;rw[zO zfz (by simp)];simp -implicitDefEqProofs (maxSteps:=4000000) (disch:=omega) only[zj4,zlc,za2,zmW,zj,go_sem, *]
 ·have hv:=hi ⟨v1,v2,v3,v4,v5,v6,bs,[zfo zaS r1 w.handles,zfo zaS r2 w.handles]⟩ (by simp) (by simp only;omega);have:rf=[]:=by simp only[zac4] at h2;exact zadN.1 zo
  subst this;have t1:=ht r1;have t2:=ht r2;clear hi ht h1 h2;simp only[zac1,zacZ];generalize zfo zaS r1 w.handles=x1 at *;generalize zfo zaS r2 w.handles=x2 at *;generalize zdg w ⟨v1,v2,v3,v4,v5,v6,bs,[x1,x2]⟩=r at *;obtain⟨r,n,e⟩:=r;simp only at *;obtain⟨s,wa,tasks,log,steps,handles⟩:=w;simp only at hhl t1 t2
  by_cases c:e=0
  ·subst c;rw[zacY rfl];have sz_r:=zbo r;generalize zM r=D_r at *;simp only[zM,zbf,z9,zh0,zac1,zacZ] at *;have ex1:zaR x1= .sl (byD x1):=rfl;have ex2:zaR x2= .sl (byD x2):=rfl;rw[ex1] at t1 hv;rw[ex2] at t2 hv;clear ex1 ex2;generalize byD x1=y1 at *;generalize byD x2=y2 at *;rw[zO zfz (by simp)];simp -implicitDefEqProofs (maxSteps:=4000000) (disch:=omega) only[zj4,zlc,za2,zmW,zj,go_sem, *]
  ·rw[zacX c];replace c:=zac3 c;have sz_r:=zbo r;generalize zM r=D_r at *;simp only[zM,zbf,z9,zh0,zac1,zacZ] at *;have ex1:zaR x1= .sl (byD x1):=rfl;have ex2:zaR x2= .sl (byD x2):=rfl;rw[ex1] at t1 hv;rw[ex2] at t2 hv;clear ex1 ex2;generalize byD x1=y1 at *;generalize byD x2=y2 at *;rw[zO zfz (by simp)];simp -implicitDefEqProofs (maxSteps:=4000000) (disch:=omega) only[zj4,zlc,za2,zmW,zj,go_sem, *]
def ziZ(c:Command):Prop:=c.refs.length<=2/\(∀r∈c.refs,r.raw.length<=16)/\c.inv.tokens=[]/\c.inv.bodies.length<=1000
theorem zUM{u:Setup}{B:Int}{w:World}{c:Command}(h:QI u B w)(hB:B<=102000)(hc:ziZ c):zg G zf5 [.d (zM w),.d (zbf c)] []=some (.d (.tup [zM (doW zaS w c).1,.int .i64 (doW zaS w c).2]),[]):=by
 have h1:=h.lb.st;have h2:=h.lb.lg;obtain⟨c1,c2,c3,c4⟩:=hc
 by_cases k1:c.kind=1
 ·exact zUO h hB k1
 by_cases k2:c.kind=2
 ·exact zUQ h.wi zo zo k2
 by_cases k3:c.kind=3
 ·by_cases hr:c.refs=[]
  ·exact zUL h.wi.tl (by rw[c3];simp) zo k3 hr
  ·exact zUP h hB k3 (zaeA.2 hr) c1 c4
 ·exact zUN k1 k2 k3
theorem z6D{u:Setup}(k:Int):∀(n:Nat) (B:Int) (w:World),QI u B w->(ziv zaS k n w).2=0->QI u (B+n) (ziv zaS k n w).1:=by
 intro n
 induction n with
 | zero=>intro B w h _;exact h.mono zo
 | succ n ih=>
  intro B w h e;unfold ziv at e ⊢
  by_cases c:(zbA w).length=0
  ·rw[zacY c];exact h.mono zo
  rw[zacX c] at e ⊢
  by_cases c2:(zdD zaS w ((zbH k 0).tmod (zbA w).length)).2=0
  ·rw[zacX (fun q=>q c2)] at e ⊢;exact (ih _ _ (zM5 zlv.ok ztW h c2) e).mono zo
  ·rw[zacY c2] at e;exact absurd e c2
theorem zG4{u:Setup}{B:Int}{w:World}{c:Command}(h:QI u B w)(hc:ziZ c)(e:(doW zaS w c).2=0):QI u (B+255) (doW zaS w c).1:=by
 obtain⟨g1,g2,g3,g4⟩:=hc;unfold doW at e ⊢;simp only at e ⊢
 by_cases c1:c.kind=1
 ·rw[zacY c1] at e ⊢;have:=zD4 c.by_;exact (z6D _ _ _ _ h e).mono zo
 rw[zacX c1] at e ⊢
 by_cases c2:c.kind=2
 ·rw[zacY c2]
  split
  ·rename_i q;exact (zabW h q).mono zo
  ·exact h.mono zo
 rw[zacX c2] at e ⊢
 by_cases c3:c.kind=3
 ·rw[zacY c3];have hv:∀b∈(if 0<c.refs.length then { c.inv with tokens:=c.refs.map fun r=>zfo zaS r w.handles } else c.inv).tokens,b.length<=16:=by
   intro b hb
   split at hb
   ·obtain⟨r,hr,rfl⟩:=zadc.1 hb;exact zaca ztW (g2 r hr) h.hb
   ·rw[g3] at hb;cases hb
  generalize (if 0<c.refs.length then { c.inv with tokens:=c.refs.map fun r=>zfo zaS r w.handles } else c.inv)=v at *
  split
  ·rename_i q;exact (zY7 h hv q).mono zo
  ·exact h.mono zo
 ·rw[zacX c3];exact h.mono zo
theorem zBB{u:Setup}(e:(zdC u).2=0):QI u 0 (zdC u).1:=by
 unfold zdC at e ⊢
 by_cases c:(zR u).2=0
 ·rw[zacX (fun q=>q c)];have hu:zJ u=true:=by
   cases q:zJ u with
   | true=>rfl
   | false=>unfold zR at c;rw[zacY q] at c;exact absurd c (by simp)
  exact { wi:={ hu:=hu,su:=rfl,ar:=zSd c,ts:=fun t h=>by simp [zbv] at h,tl:=by simp [zbv],st:=by simp [zbv] },lb:=⟨by simp [zbv],by simp [zbv]⟩,hl:=by simp [zbv],hb:=fun b h=>by simp [zbv] at h,tk:=fun t h=>by simp [zbv] at h }
 ·rw[zacY c] at e;exact absurd e c
theorem z9x{u:Setup}{l:List Command}(hL:l.length<=400)(hc:∀c∈l,ziZ c):zg G zl8 [.d (zK u),.d (.sl (l.map zbf))] []=some (.d (.tup [zM (zgW zaS u l).1,.int .i64 (zgW zaS u l).2]),[]):=
 z9w (fun k w=>QI u (255 * k) w) hL (fun e=>(zBB e).mono zo) (fun k w c hm hk h=>zUM h zo (hc c hm)) (fun k w c hm hk h e=>(zG4 h (hc c hm) e).mono zo)
theorem z9z{u:Setup}:∀(l:List Command) (B:Int) (w:World),(∀c∈l,ziZ c)->QI u B w->(zeV zaS l w).2=0->QI u (B+255 * l.length) (zeV zaS l w).1:=by
 intro l
 induction l with
 | nil=>intro B w _ h _;exact h.mono (by simp)
 | cons c l ih=>
  intro B w hc h e;unfold zeV at e ⊢
  by_cases c1:(doW zaS w c).2=0
  ·rw[zacX (fun q=>q c1)] at e ⊢;exact (ih _ _ (fun x hx=>hc x (.tail _ hx)) (zG4 h (hc c (.head _)) c1) e).mono (by simp only[zac4];omega)
  ·rw[zacY c1] at e;exact absurd e c1
theorem z9A{u:Setup}{l:List Command}(hL:l.length<=400)(hc:∀c∈l,ziZ c)(e:(zgW zaS u l).2=0):QI u 102000 (zgW zaS u l).1:=by
 have h0:=zBB (u:=u);unfold zdC at h0;unfold zgW at e ⊢
 by_cases c1:(zR u).2=0
 ·rw[zacX (fun q=>q c1)] at e h0 ⊢;rw[zacX zo] at e ⊢;exact (z9z l 0 _ hc (h0 rfl) e).mono zo
 ·rw[zacY c1] at e;exact absurd e c1
theorem z6B(l:List Int)(a:Nat)(xs:List Int)(hL:l.length<=4000)(h1:1<=xs.length)(h2:xs.length<=1000):zg G zn1 [.ref 1000000 0 0,.d (.sl (zB xs))] [(1000000,zE l a)]=some (.d (.int .i64 (xs.getD (nD l a xs.length).toNat 0)),[(1000000,zE l (zbj l a).2)]):=by
 have hn:=zgP l a xs.length hL zo zo;have hb:=zbY l a (n:=xs.length) zo;obtain⟨i,hi⟩:∃i:Nat,nD l a xs.length=i:=⟨(nD l a xs.length).toNat,by omega⟩;rw[hi] at hn hb ⊢;have hlt:i<xs.length:=by omega
 rw[show ((i:Int)).toNat=i by omega,zj hlt];clear hb hi;exact zW zXl
theorem zM6{l:List Int}{a:Nat}{xs:List Int}{lo hi:Int}(h:∀x∈xs,lo<=x/\x<=hi)(h1:1<=xs.length)(h2:xs.length<=1000):lo<=xs.getD (nD l a xs.length).toNat 0/\xs.getD (nD l a xs.length).toNat 0<=hi:=by
 have:=zbY l a (n:=xs.length) zo;rw[zj (show (nD l a xs.length).toNat<xs.length by omega)];exact h _ (zadf _)
def fz(k x:Int):Int:=if k=7\/k=6 then 0 else x
theorem zWV(k p b ik h m v f t:Int)(bs ts rs:List D):zg G zn6 [.d (.agg [.int .i64 k,.int .i64 p,.int .i64 b,.int .i64 ik,.int .i64 h,.int .i64 m,.int .i64 v,.int .i64 f,.int .i64 t,.sl bs,.sl ts,.sl rs])] []=
    some (.d (.agg [.int .i64 k,.int .i64 p,.int .i64 b,.int .i64 ik,.int .i64 (fz ik h),.int .i64 (fz ik m),.int .i64 v,.int .i64 f,.int .i64 t,.sl bs,.sl ts,.sl rs]),[]):=by
 unfold fz
 by_cases h1:ik=7
 ·simp only[h1,zaeK,if_true];exact zW zzk
 ·by_cases h2:ik=6
  ·simp only[h1,h2,zaeT,if_true];exact zW zzk
  ·simp only[h1,h2,zaec,if_false];exact zW zzk
def zYO(i:Invocation):Prop:=i.tokens=[]/\i.bodies.length<=2/\(∀b∈i.bodies,b.length<=3)/\0<=i.home/\i.home<=3/\0<=i.max/\i.max<=3/\0<=i.visibility/\i.visibility<=100/\0<=i.from_/\i.from_<=4/\0<=i.to/\i.to<=3
def zg9(c:Command):Prop:=c.refs.length<=2/\(∀r∈c.refs,0<=r.index/\r.index<=5/\r.raw.length=1)/\zYO c.inv
def zri(l:List Int)(r:Option (Go.Sim.AV×zf)):Prop:=∃c a',zg9 c/\r=some (.d (zbf c),[(1000000,zE l a')])
theorem zkb{l:List Int}{k p b ik h m v f t:Int}{a':Nat}(h1:0<=h)(h2:h<=3)(h3:0<=m)(h4:m<=3)(h5:0<=v)(h6:v<=100)(h7:0<=f)(h8:f<=4)(h9:0<=t)(h10:t<=3):zf6 (zri l) (some (.d (.agg [.int .i64 k,.int .i64 p,.int .i64 b,.int .i64 ik,.int .i64 h,.int .i64 m,.int .i64 v,.int .i64 f,.int .i64 t,.sl [],.sl [],.sl []]),[(1000000,zE l a')])):=
 ⟨⟨k,p,b,⟨ik,h,m,v,f,t,[],[]⟩,[]⟩,a',⟨by simp,by simp,rfl,by simp,by simp,h1,h2,h3,h4,h5,h6,h7,h8,h9,h10⟩,rfl⟩
theorem zGW{l:List Int}(bs:List (List UInt8)){k p b ik:Int}{a':Nat}(h1:bs.length<=2)(h2:∀b∈bs,b.length<=3):zf6 (zri l) (some (.d (.agg [.int .i64 k,.int .i64 p,.int .i64 b,.int .i64 ik,.int .i64 (fz 1 0),.int .i64 (fz 1 0),.int .i64 0,.int .i64 0,.int .i64 0,.sl (bs.map D.str),.sl [],.sl []]),[(1000000,zE l a')])):=
 ⟨⟨k,p,b,⟨ik,0,0,0,0,0,bs,[]⟩,[]⟩,a',⟨by simp,by simp,rfl,h1,h2,by simp⟩,rfl⟩
theorem zrj{l:List Int}(rs:List Ref){k p b ik x v:Int}{a':Nat}(h1:0<=v)(h2:v<=100)(h3:rs.length<=2)(h4:∀r∈rs,0<=r.index/\r.index<=5/\r.raw.length=1):zf6 (zri l) (some (.d (.agg [.int .i64 k,.int .i64 p,.int .i64 b,.int .i64 ik,.int .i64 (fz x 0),.int .i64 (fz x 0),.int .i64 v,.int .i64 0,.int .i64 0,.sl [],.sl [],.sl (rs.map zh0)]),[(1000000,zE l a')])):=by
 have e:fz x 0=0:=by unfold fz;split<;>rfl
 rw[e];exact⟨⟨k,p,b,⟨ik,0,0,v,0,0,[],[]⟩,rs⟩,a',⟨h3,h4,rfl,by simp,by simp,by simp [h1,h2]⟩,rfl⟩
theorem zTv(l:List Int)(a:Nat)(hL:l.length<=4000):zf6 (zri l) (zg G ziN [.ref 1000000 0 0] [(1000000,zE l a)]):=by
 obtain⟨a1,q1⟩:∃a1,(zbj l a).2=a1:=⟨_,rfl⟩;obtain⟨a2,q2⟩:∃a2,(zbj l a1).2=a2:=⟨_,rfl⟩;obtain⟨a3,q3⟩:∃a3,(zbj l a2).2=a3:=⟨_,rfl⟩;have n1:=zbY l a (n:=20) zo;have n2:=zbY l a1 (n:=4) zo;have n3:=zbY l a2 (n:=2) zo;have hn:=fun at1 m=>zgP l at1 m hL;have hr:=fun at1 lo hi=>zno l at1 lo hi hL;have hb:=fun at1=>(zD0 l at1 hL).2;have hf:=zWV;have hp:=fun at1 xs=>z6B l at1 xs hL;have p1:=fun at1=>hp at1 [1,1,2,3,5,8,14,30] (by simp) (by simp);have p2:=fun at1=>hp at1 [0,1,3,10,40] (by simp) (by simp);have p3:=fun at1=>hp at1 [0,1,5,20,100] (by simp) (by simp);have p4:=fun at1=>hp at1 [0,1,10,50] (by simp) (by simp);have p5:=fun at1=>hp at1 [7,7,6,8] (by simp) (by simp);have p6:=fun at1=>hp at1 [0,0,0,0,2,3,4,5,7] (by simp) (by simp);simp only[zB,zac1,zacZ] at p1 p2 p3 p4 p5 p6;clear hp;have b3:=fun at1=>(zD0 l at1 hL).1;have v3:∀at1,0<=[0,1,5,20,100].getD (nD l at1 5).toNat (0:Int)/\[0,1,5,20,100].getD (nD l at1 5).toNat (0:Int)<=100:=fun at1=>zM6 (xs:=[0,1,5,20,100]) (by decide) (by simp) (by simp);have v4:∀at1,0<=[0,1,10,50].getD (nD l at1 4).toNat (0:Int)/\[0,1,10,50].getD (nD l at1 4).toNat (0:Int)<=100:=fun at1=>by
  have:=zM6 (l:=l) (a:=at1) (xs:=[0,1,10,50]) (lo:=0) (hi:=50) (by decide) (by simp) (by simp);exact⟨this.1,Int.le_trans this.2 (by decide)⟩
 have w3:=v3 a3;have w4:=v4 a3;have n4:=zbY l a2 (n:=3) zo;have n5:=zbY l a3 (n:=3) zo;have n6:=zbY l a3 (n:=4) zo;have n7:=zbY l a3 (n:=5) zo;have n8:=zbY l a3 (n:=2) zo;obtain⟨a4,q4⟩:∃a4,(zbj l a3).2=a4:=⟨_,rfl⟩;have n9:=zbY l a4 (n:=2) zo;have n10:∀at1,0<=nD l at1 6/\nD l at1 6<6:=fun at1=>zbY l at1 (n:=6) zo;clear v3 v4;have u8:∀at1,∃c:UInt8,nD l at1 256=c.toNat:=fun at1=>by
  have:=zbY l at1 (n:=256) zo;exact⟨UInt8.ofNat (nD l at1 256).toNat,by rw[UInt8.toNat_ofNat'];omega⟩
 rcases (show nD l a 20<9\/nD l a 20=9\/(nD l a 20=10\/nD l a 20=11\/nD l a 20=12)\/(nD l a 20=13\/nD l a 20=14)\/(nD l a 20=15\/nD l a 20=16)\/nD l a 20=17\/nD l a 20=18\/nD l a 20=19 by omega) with c|c|c|c|c|c|c|c
 ·rw[zO zfx (by simp)];simp -implicitDefEqProofs (maxSteps:=4000000) (disch:=omega) only[zey,zeU,zj,go_sem, *];(try simp only[zPr]);repeat' (first|done|rfl|((first|refine zay (fun hq=> ?_) (fun hq=> ?_)|refine zaD (fun hq=> ?_) (fun hq=> ?_))<;>(try (first|(exfalso;omega)|contradiction))<;>(try simp -implicitDefEqProofs (maxSteps:=4000000) (disch:=omega) only[zj,go_sem, *])<;>(try simp only[zPr])));(all_goals try rfl);(all_goals try (repeat' (first|done|rfl|(exfalso;omega)|contradiction|(refine zaz (fun hq=> ?_) (fun hq=> ?_)))))
  all_goals (refine zkb ?_ ?_ ?_ ?_ ?_ ?_ ?_ ?_ ?_ ?_<;>omega)
 ·rw[zO zfx (by simp)];simp -implicitDefEqProofs (maxSteps:=4000000) (disch:=omega) only[zey,zeU,zj,go_sem, *];(try simp only[zPr]);repeat' (first|done|rfl|((first|refine zay (fun hq=> ?_) (fun hq=> ?_)|refine zaD (fun hq=> ?_) (fun hq=> ?_))<;>(try (first|(exfalso;omega)|contradiction))<;>(try simp -implicitDefEqProofs (maxSteps:=4000000) (disch:=omega) only[zj,go_sem, *])<;>(try simp only[zPr])));(all_goals try rfl);(all_goals try (repeat' (first|done|rfl|(exfalso;omega)|contradiction|(refine zaz (fun hq=> ?_) (fun hq=> ?_)))))
  all_goals (refine zkb ?_ ?_ ?_ ?_ ?_ ?_ ?_ ?_ ?_ ?_<;>omega)
 ·rcases (show nD l a2 2=0\/nD l a2 2=1 by omega) with m0|m0
  ·rcases c with c|c|c
   all_goals (rw[zO zfx (by simp)];simp -implicitDefEqProofs (maxSteps:=4000000) (disch:=omega) only[zey,zeU,za2,zmL,zj,go_sem, *];(try simp only[zPr]);repeat' (first|done|rfl|((first|refine zay (fun hq=> ?_) (fun hq=> ?_)|refine zaD (fun hq=> ?_) (fun hq=> ?_))<;>(try (first|(exfalso;omega)|contradiction))<;>(try simp -implicitDefEqProofs (maxSteps:=4000000) (disch:=omega) only[za2,zmL,zj,go_sem, *])<;>(try simp only[zPr])));(all_goals try rfl);(all_goals try (repeat' (first|done|rfl|(exfalso;omega)|contradiction|(refine zaz (fun hq=> ?_) (fun hq=> ?_))))))
   all_goals exact zGW [_] (by simp) (by intro b hb;simp only[zadD] at hb;subst hb;exact b3 _)
  ·rcases c with c|c|c
   all_goals (rw[zO zfx (by simp)];simp -implicitDefEqProofs (maxSteps:=4000000) (disch:=omega) only[zey,zeU,za2,zmL,zj,go_sem, *];(try simp only[zPr]);repeat' (first|done|rfl|((first|refine zay (fun hq=> ?_) (fun hq=> ?_)|refine zaD (fun hq=> ?_) (fun hq=> ?_))<;>(try (first|(exfalso;omega)|contradiction))<;>(try simp -implicitDefEqProofs (maxSteps:=4000000) (disch:=omega) only[za2,zmL,zj,go_sem, *])<;>(try simp only[zPr])));(all_goals try rfl);(all_goals try (repeat' (first|done|rfl|(exfalso;omega)|contradiction|(refine zaz (fun hq=> ?_) (fun hq=> ?_))))))
   all_goals exact zGW [_,_] (by simp) (by intro b hb;simp only[zadB,zaeU,zaec] at hb;rcases hb with rfl|rfl<;>exact b3 _)
 ·rcases c with c|c
  all_goals (rw[zO zfx (by simp)];simp -implicitDefEqProofs (maxSteps:=4000000) (disch:=omega) only[zey,zeU,zj,go_sem, *];(try simp only[zPr]);repeat' (first|done|rfl|((first|refine zay (fun hq=> ?_) (fun hq=> ?_)|refine zaD (fun hq=> ?_) (fun hq=> ?_))<;>(try (first|(exfalso;omega)|contradiction))<;>(try simp -implicitDefEqProofs (maxSteps:=4000000) (disch:=omega) only[zj,go_sem, *])<;>(try simp only[zPr])));(all_goals try rfl);(all_goals try (repeat' (first|done|rfl|(exfalso;omega)|contradiction|(refine zaz (fun hq=> ?_) (fun hq=> ?_))))))
  all_goals (refine zkb ?_ ?_ ?_ ?_ ?_ ?_ ?_ ?_ ?_ ?_<;>(try simp only[fz])<;>(try split)<;>omega)
 ·rcases (show nD l a2 3=2\/¬nD l a2 3=2 by omega) with k5|k5
  ·obtain⟨s1,t1⟩:∃s1,(zbj l a4).2=s1:=⟨_,rfl⟩;obtain⟨s2,t2⟩:∃s2,(zbj l s1).2=s2:=⟨_,rfl⟩;obtain⟨s3,t3⟩:∃s3,(zbj l s2).2=s3:=⟨_,rfl⟩;obtain⟨s4,t4⟩:∃s4,(zbj l s3).2=s4:=⟨_,rfl⟩;obtain⟨s5,t5⟩:∃s5,(zbj l s4).2=s5:=⟨_,rfl⟩;obtain⟨s6,t6⟩:∃s6,(zbj l s5).2=s6:=⟨_,rfl⟩;obtain⟨c1,d1⟩:=u8 s3;obtain⟨c2,d2⟩:=u8 s6;have e1:=c1.toNat_lt;have e2:=c2.toNat_lt;have r1:=zbY l s1 (n:=6) zo;have r2:=zbY l s4 (n:=6) zo
   rcases (show nD l a4 2=0\/nD l a4 2=1 by omega) with m0|m0
   ·rcases c with c|c
    all_goals (rw[zO zfx (by simp)];simp -implicitDefEqProofs (maxSteps:=4000000) (disch:=omega) only[zey,zeU,za2,zhm,zj,go_sem, *];(try simp only[zPr]);repeat' (first|done|rfl|((first|refine zay (fun hq=> ?_) (fun hq=> ?_)|refine zaD (fun hq=> ?_) (fun hq=> ?_))<;>(try (first|(exfalso;omega)|contradiction))<;>(try simp -implicitDefEqProofs (maxSteps:=4000000) (disch:=omega) only[za2,zhm,zj,go_sem, *])<;>(try simp only[zPr])));(all_goals try rfl);(all_goals try (repeat' (first|done|rfl|(exfalso;omega)|contradiction|(refine zaz (fun hq=> ?_) (fun hq=> ?_))))))
    all_goals (refine zrj [⟨nD l s1 6,[0,0,0,0,2,3,4,5,7].getD (nD l s2 9).toNat 0,[c1]⟩] ?_ ?_ (by simp) ?_;(first|omega|exact zae3 _);(first|omega|decide);intro r hr;simp only[zadD] at hr;subst hr;exact⟨r1.1,by simp only;omega,rfl⟩)
   ·rcases c with c|c
    all_goals (rw[zO zfx (by simp)];simp -implicitDefEqProofs (maxSteps:=4000000) (disch:=omega) only[zey,zeU,za2,zhm,zj,go_sem, *];(try simp only[zPr]);repeat' (first|done|rfl|((first|refine zay (fun hq=> ?_) (fun hq=> ?_)|refine zaD (fun hq=> ?_) (fun hq=> ?_))<;>(try (first|(exfalso;omega)|contradiction))<;>(try simp -implicitDefEqProofs (maxSteps:=4000000) (disch:=omega) only[za2,zhm,zj,go_sem, *])<;>(try simp only[zPr])));(all_goals try rfl);(all_goals try (repeat' (first|done|rfl|(exfalso;omega)|contradiction|(refine zaz (fun hq=> ?_) (fun hq=> ?_))))))
    all_goals (refine zrj [⟨nD l s1 6,[0,0,0,0,2,3,4,5,7].getD (nD l s2 9).toNat 0,[c1]⟩,⟨nD l s4 6,[0,0,0,0,2,3,4,5,7].getD (nD l s5 9).toNat 0,[c2]⟩] ?_ ?_ (by simp) ?_;(first|omega|exact zae3 _);(first|omega|decide);intro r hr;simp only[zadB,zaeU,zaec] at hr;rcases hr with rfl|rfl;exact⟨r1.1,by simp only;omega,rfl⟩;exact⟨r2.1,by simp only;omega,rfl⟩)
  ·obtain⟨s1,t1⟩:∃s1,(zbj l a3).2=s1:=⟨_,rfl⟩;obtain rfl:s1=a4:=t1.symm.trans q4;obtain⟨s2,t2⟩:∃s2,(zbj l s1).2=s2:=⟨_,rfl⟩;obtain⟨s3,t3⟩:∃s3,(zbj l s2).2=s3:=⟨_,rfl⟩;obtain⟨s4,t4⟩:∃s4,(zbj l s3).2=s4:=⟨_,rfl⟩;obtain⟨s5,t5⟩:∃s5,(zbj l s4).2=s5:=⟨_,rfl⟩;obtain⟨s6,t6⟩:∃s6,(zbj l s5).2=s6:=⟨_,rfl⟩;obtain⟨c1,d1⟩:=u8 s3;obtain⟨c2,d2⟩:=u8 s6;have e1:=c1.toNat_lt;have e2:=c2.toNat_lt;have r1:=zbY l s1 (n:=6) zo;have r2:=zbY l s4 (n:=6) zo
   rcases (show nD l a3 2=0\/nD l a3 2=1 by omega) with m0|m0
   ·rcases c with c|c
    all_goals (rw[zO zfx (by simp)];simp -implicitDefEqProofs (maxSteps:=4000000) (disch:=omega) only[zey,zeU,za2,zhm,zj,go_sem, *];(try simp only[zPr]);repeat' (first|done|rfl|((first|refine zay (fun hq=> ?_) (fun hq=> ?_)|refine zaD (fun hq=> ?_) (fun hq=> ?_))<;>(try (first|(exfalso;omega)|contradiction))<;>(try simp -implicitDefEqProofs (maxSteps:=4000000) (disch:=omega) only[za2,zhm,zj,go_sem, *])<;>(try simp only[zPr])));(all_goals try rfl);(all_goals try (repeat' (first|done|rfl|(exfalso;omega)|contradiction|(refine zaz (fun hq=> ?_) (fun hq=> ?_))))))
    all_goals (refine zrj [⟨nD l s1 6,[0,0,0,0,2,3,4,5,7].getD (nD l s2 9).toNat 0,[c1]⟩] ?_ ?_ (by simp) ?_;(first|omega|exact zae3 _);(first|omega|decide);intro r hr;simp only[zadD] at hr;subst hr;exact⟨r1.1,by simp only;omega,rfl⟩)
   ·rcases c with c|c
    all_goals (rw[zO zfx (by simp)];simp -implicitDefEqProofs (maxSteps:=4000000) (disch:=omega) only[zey,zeU,za2,zhm,zj,go_sem, *];(try simp only[zPr]);repeat' (first|done|rfl|((first|refine zay (fun hq=> ?_) (fun hq=> ?_)|refine zaD (fun hq=> ?_) (fun hq=> ?_))<;>(try (first|(exfalso;omega)|contradiction))<;>(try simp -implicitDefEqProofs (maxSteps:=4000000) (disch:=omega) only[za2,zhm,zj,go_sem, *])<;>(try simp only[zPr])));(all_goals try rfl);(all_goals try (repeat' (first|done|rfl|(exfalso;omega)|contradiction|(refine zaz (fun hq=> ?_) (fun hq=> ?_))))))
    all_goals (refine zrj [⟨nD l s1 6,[0,0,0,0,2,3,4,5,7].getD (nD l s2 9).toNat 0,[c1]⟩,⟨nD l s4 6,[0,0,0,0,2,3,4,5,7].getD (nD l s5 9).toNat 0,[c2]⟩] ?_ ?_ (by simp) ?_;(first|omega|exact zae3 _);(first|omega|decide);intro r hr;simp only[zadB,zaeU,zaec] at hr;rcases hr with rfl|rfl;exact⟨r1.1,by simp only;omega,rfl⟩;exact⟨r2.1,by simp only;omega,rfl⟩)
 ·rw[zO zfx (by simp)];simp -implicitDefEqProofs (maxSteps:=4000000) (disch:=omega) only[zey,zeU,zj,go_sem, *];(try simp only[zPr]);repeat' (first|done|rfl|((first|refine zay (fun hq=> ?_) (fun hq=> ?_)|refine zaD (fun hq=> ?_) (fun hq=> ?_))<;>(try (first|(exfalso;omega)|contradiction))<;>(try simp -implicitDefEqProofs (maxSteps:=4000000) (disch:=omega) only[zj,go_sem, *])<;>(try simp only[zPr])));(all_goals try rfl);(all_goals try (repeat' (first|done|rfl|(exfalso;omega)|contradiction|(refine zaz (fun hq=> ?_) (fun hq=> ?_)))))
  all_goals (refine zkb ?_ ?_ ?_ ?_ ?_ ?_ ?_ ?_ ?_ ?_<;>(try simp only[fz])<;>(try split)<;>omega)
 ·rw[zO zfx (by simp)];simp -implicitDefEqProofs (maxSteps:=4000000) (disch:=omega) only[zey,zeU,zj,go_sem, *];(try simp only[zPr]);repeat' (first|done|rfl|((first|refine zay (fun hq=> ?_) (fun hq=> ?_)|refine zaD (fun hq=> ?_) (fun hq=> ?_))<;>(try (first|(exfalso;omega)|contradiction))<;>(try simp -implicitDefEqProofs (maxSteps:=4000000) (disch:=omega) only[zj,go_sem, *])<;>(try simp only[zPr])));(all_goals try rfl);(all_goals try (repeat' (first|done|rfl|(exfalso;omega)|contradiction|(refine zaz (fun hq=> ?_) (fun hq=> ?_)))))
  all_goals (refine zkb ?_ ?_ ?_ ?_ ?_ ?_ ?_ ?_ ?_ ?_<;>(try simp only[fz])<;>(try split)<;>omega)
 ·rw[zO zfx (by simp)];simp -implicitDefEqProofs (maxSteps:=4000000) (disch:=omega) only[zey,zeU,zj,go_sem, *];(try simp only[zPr]);repeat' (first|done|rfl|((first|refine zay (fun hq=> ?_) (fun hq=> ?_)|refine zaD (fun hq=> ?_) (fun hq=> ?_))<;>(try (first|(exfalso;omega)|contradiction))<;>(try simp -implicitDefEqProofs (maxSteps:=4000000) (disch:=omega) only[zj,go_sem, *])<;>(try simp only[zPr])));(all_goals try rfl);(all_goals try (repeat' (first|done|rfl|(exfalso;omega)|contradiction|(refine zaz (fun hq=> ?_) (fun hq=> ?_)))))
  all_goals (refine zkb ?_ ?_ ?_ ?_ ?_ ?_ ?_ ?_ ?_ ?_<;>(try simp only[fz])<;>(try split)<;>omega)
theorem zGV:∃f:List Int->Nat->Command×Nat,∀l a,l.length<=4000->zg9 (f l a).1/\zg G ziN [.ref 1000000 0 0] [(1000000,zE l a)]=some (.d (zbf (f l a).1),[(1000000,zE l (f l a).2)]):=by
 have h:∀l a,∃p:Command×Nat,l.length<=4000->zg9 p.1/\zg G ziN [.ref 1000000 0 0] [(1000000,zE l a)]=some (.d (zbf p.1),[(1000000,zE l p.2)]):=fun l a=>by
  by_cases h:l.length<=4000
  ·obtain⟨c,a',h1,h2⟩:=zTv l a h;exact⟨(c,a'),fun _=>⟨h1,h2⟩⟩
  ·exact⟨(zRw,0),fun h'=>absurd h' h⟩
 exact⟨fun l a=>Classical.choose (h l a),fun l a hl=>zadS (h l a) hl⟩
noncomputable def zka:List Int->Nat->Command×Nat:=Classical.choose zGV
theorem zTu(l:List Int)(a:Nat)(hL:l.length<=4000):zg9 (zka l a).1/\zg G ziN [.ref 1000000 0 0] [(1000000,zE l a)]=some (.d (zbf (zka l a).1),[(1000000,zE l (zka l a).2)]):=zadS zGV l a hL
def scS(l:List Int)(n:Int)(p:List Command×Nat×Nat):St:=⟨[(0,.ref 1000000 0 0),(1,.d (.int .i64 n)),(5,.acc 5 (p.1.map zbf)),(6,.d (.int .i64 p.2.2)),(1000000,.ref 1000000 1 0)],[(5,.acc p.1.length),(1000000,zE l p.2.1)]⟩
def zQH(l:List Int)(n:Nat)(r:Option (zac×St)):Prop:=∃(cs:List Command) (a':Nat),cs.length<=n/\(∀c∈cs,zg9 c)/\r=some (.exit 0,⟨[(5,.acc 5 (cs.map zbf)),(1000000,.ref 1000000 1 0)],[(5,.acc cs.length),(1000000,zE l a')]⟩)
theorem zaab(l:List Int)(n:Nat)(hL:l.length<=4000)(hn:n<=400):∀p:List Command×Nat×Nat,(p.1.length=p.2.2/\p.2.2<=n/\∀c∈p.1,zg9 c)->zQH l n (zai G [] zmM (scS l n p)):=by
 refine zsV (fun p:List Command×Nat×Nat=>n - p.2.2) _ (scS l n) (fun _=>zf6 (zQH l n)) fun⟨cs,a,k⟩ ⟨h1,h2,h3⟩ L ih=> ?_;simp only at h1 h2 h3;subst h1;have hm:=z0M l a hL
 by_cases h0:cs.length<n
 ·obtain⟨hc,hcmd⟩:=zTu l a hL;have i1:=ih (cs++[(zka l a).1],(zka l a).2,cs.length+1) ⟨by simp only[zac6,zadF],by simp only;omega,fun c hh=>(zads.1 hh).elim (fun h=>h3 c h) (fun h=>by rw[zadD.1 h];exact hc)⟩ (by simp only;omega);generalize zka l a=cc at *;obtain⟨c,a2⟩:=cc;simp only at *
  by_cases hmo:(a:Int)<l.length
  ·rw[zadn hmo] at hm;clear ih hc hmo;simp only[scS,zmM,zE] at *;simp only[zNr,zE] at i1;have sz_c:=zU4 c;generalize zbf c=D_c at *;exact zS
  ·rw[zadq hmo] at hm;clear ih hc i1 hmo;simp only[scS,zmM,zE] at *
   (try simp -implicitDefEqProofs (maxSteps:=4000000) (disch:=omega) only[zj,go_sem, *]);(try simp only[zPr]);repeat' (first|done|rfl|((first|refine zay (fun hq=> ?_) (fun hq=> ?_)|refine zaD (fun hq=> ?_) (fun hq=> ?_))<;>(try (first|(exfalso;omega)|contradiction))<;>(try simp -implicitDefEqProofs (maxSteps:=4000000) (disch:=omega) only[zj,go_sem, *])<;>(try simp only[zPr])));(all_goals try rfl);(all_goals try (repeat' (first|done|rfl|(exfalso;omega)|contradiction|(refine zaz (fun hq=> ?_) (fun hq=> ?_)))))
   all_goals exact⟨cs,a,by omega,h3,rfl⟩
 ·clear ih;simp only[scS,zmM,zE] at *
  (try simp -implicitDefEqProofs (maxSteps:=4000000) (disch:=omega) only[zj,go_sem, *]);(try simp only[zPr]);repeat' (first|done|rfl|((first|refine zay (fun hq=> ?_) (fun hq=> ?_)|refine zaD (fun hq=> ?_) (fun hq=> ?_))<;>(try (first|(exfalso;omega)|contradiction))<;>(try simp -implicitDefEqProofs (maxSteps:=4000000) (disch:=omega) only[zj,go_sem, *])<;>(try simp only[zPr])));(all_goals try rfl);(all_goals try (repeat' (first|done|rfl|(exfalso;omega)|contradiction|(refine zaz (fun hq=> ?_) (fun hq=> ?_)))))
  all_goals exact⟨cs,a,by omega,h3,rfl⟩
theorem zaac(l:List Int)(a n:Nat)(hL:l.length<=4000)(hn:n<=400):∃(cs:List Command) (a':Nat),cs.length<=n/\(∀c∈cs,zg9 c)/\zg G zn4 [.ref 1000000 0 0,.d (.int .i64 n)] [(1000000,zE l a)]=some (.d (.sl (cs.map zbf)),[(1000000,zE l a')]):=by
 obtain⟨cs,a',h1,h2,h⟩:=zaab l n hL hn ([],a,0) ⟨rfl,by simp,fun c h=>by cases h⟩;refine⟨cs,a',h1,h2,?_⟩;simp only[scS,zacZ,zac5,zado] at h;clear h2;exact zW zXn
theorem zYl{c:Command}(h:zg9 c):ziZ c:=⟨h.1,fun r hr=>by have:=(h.2.1 r hr).2.2;omega,h.2.2.1,by have:=h.2.2.2.1;omega⟩
theorem zI4{l:List Command}(h:∀c∈l,zg9 c):∀c∈l,ziZ c:=fun c hc=>zYl (h c hc)
def zjF:Setup:=⟨1,1,1,1,1,0,1,0⟩
theorem zacy(l:List Int)(a n:Nat)(hL:l.length<=4000)(hn:n<=400):∃(w:World) (u:Setup) (a':Nat),QI u 102000 w/\zg G zlA [.ref 1000000 0 0,.d (.int .i64 n)] [(1000000,zE l a)]=some (.d (zM w),[(1000000,zE l a')]):=by
 obtain⟨u,a1,_,hset⟩:=zaaL l a hL;obtain⟨cs,a2,h1,h2,hscr⟩:=zaac l a1 n hL hn;have hrun:=z9x (u:=u) (l:=cs) zo (zI4 h2);have hnew:=zMF zjF;have e0:(zdC zjF).2=0:=by
  unfold zdC zR;simp [zJ,inI,zjF]
 have hq0:=zBB (u:=zjF) e0;rw[e0] at hnew;have hq:=z9A (u:=u) (l:=cs) zo (zI4 h2);clear e0 h2;generalize zgW zaS u cs=r at *;generalize zdC zjF=r0 at *;obtain⟨w,e⟩:=r;obtain⟨w0,e0⟩:=r0;simp only[zE] at *
 by_cases c:e=0
 ·subst c;refine⟨w,u,a2,hq rfl,?_⟩;clear hq hq0 hnew;have sz_w:=zbo w;generalize zM w=D_w at *;have sz_u:=zHs u;generalize zK u=D_u at *;exact zW zId
 ·refine⟨w0,zjF,a2,hq0.mono zo,?_⟩;replace c:=zac3 c;clear hq hq0;simp only[zK,zjF] at hnew;have sz_w:=zbo w;generalize zM w=D_w at *;have sz_w0:=zbo w0;generalize zM w0=D_w0 at *;have sz_u:=zHs u;generalize zK u=D_u at *;exact zW zId
end Go.Proofs.YtdnlddoeamjcoaaGreat
