/-
  The law PurgeRefuses.
-/
import Derived.Test.YtnmcgdpmikhohaaGreatB3dc7559
import Derived.Test.YtnmcgdpmikhohaaGreatBbf76a49
import Derived.Test.YtnmcgdpmikhohaaGreatBc8d43d5
import Derived.Test.YtnmcgdpmikhohaaGreatB19ab77c
import Derived.Test.YtnmcgdpmikhohaaGreatB0ecd0d7
import Derived.Test.YtnmcgdpmikhohaaGreatBde55126
set_option linter.unusedSimpArgs false
set_option linter.unusedVariables false
set_option maxHeartbeats 10000000
set_option maxRecDepth 100000
namespace Go.Proofs.YtnmcgdpmikhohaaGreat
open Go Go.Sim
def RS(t x:zq):Prop:=x.inv=t.inv/\(x.results=t.results\/∃r:Result,(r.tokens.length<=12/\∀b∈r.tokens,b.length<=16)/\x.results=t.results++[r])
theorem RS.same{t x:zq}(h1:x.inv=t.inv)(h2:x.results=t.results):RS t x:=⟨h1,.inl h2⟩
theorem RS.next{t x:zq}(r:Result)(n:Int)(h1:x.inv=t.inv)(h2:x.results=t.results)(h3:r.tokens.length<=12/\∀b∈r.tokens,b.length<=16):RS t (zba x r n):=
 ⟨h1,.inr ⟨r,h3,by show x.results++[r]=_;rw[h2]⟩⟩
theorem zfi{r:Result}(h:r.tokens=[]):r.tokens.length<=12/\∀b∈r.tokens,b.length<=16:=by rw[h];simp
theorem zmt(a:zy)(t:zq)(n:Int)(e:(goT a t n).2.2.2.2=0):(goT a t n).2.1.inv=t.inv/\(goT a t n).2.1.results=t.results:=by
 unfold goT at e ⊢
 split
 ·rename_i c;rw[zabo c] at e;exact absurd e c
 ·exact⟨rfl,rfl⟩
theorem zm6{plan:zq->Pln}(h:∀t,(plan t).2.1.tokens=[])(lo hi:Int)(cells:zq->List Int)(a:zy)(t:zq)(n:Int)(e:(zbf plan lo hi cells a t n).2.2.2=0):RS t (zbf plan lo hi cells a t n).2.1:=by
 unfold zbf zbv at *;simp only at *
 split
 ·rename_i c;rw[zabo c] at e;exact absurd e c
 rename_i c;rw[zabn c] at e;have h0:(if t.pc=0 then zb8 t (cells t) 1 else t).inv=t.inv/\(if t.pc=0 then zb8 t (cells t) 1 else t).results=t.results:=by split<;>exact⟨rfl,rfl⟩
 generalize (if t.pc=0 then zb8 t (cells t) 1 else t)=t' at *;have hg:=zmt a t' n;generalize goT a t' n=g at *
 split
 ·rename_i c;rw[zabo c] at e;exact absurd e c
 rename_i c;have hg:=hg (zabG.1 c)
 split
 ·exact .same (hg.1.trans h0.1) (hg.2.trans h0.2)
 split
 ·exact .same (hg.1.trans h0.1) (hg.2.trans h0.2)
 ·exact .next _ _ (hg.1.trans h0.1) (hg.2.trans h0.2) (zfi (h _))
theorem z5o(a:zy)(t:zq)(n:Int)(e:(zci a t n).2.2.2=0):RS t (zci a t n).2.1:=by
 unfold zci at *;simp only at *
 split
 ·rename_i c;rw[zabo c] at e;exact absurd e c
 rename_i c;rw[zabn c] at e
 split
 ·split
  ·exact .next _ _ rfl rfl (zfi rfl)
  ·exact .same rfl rfl
 rename_i c;rw[zabn c] at e
 split
 ·rename_i c;rw[zabo c] at e;exact absurd e c
 split
 ·exact .same rfl rfl
 ·exact .next _ _ rfl rfl (zfi rfl)
theorem zTn(a:zy)(t:zq)(n:Int)(e:(zdy a t n).2.2.2=0):RS t (zdy a t n).2.1:=by
 unfold zdy at *;simp only at *
 split
 ·rename_i c;rw[zabo c] at e;exact absurd e c
 rename_i c;rw[zabn c] at e
 split
 ·exact .same rfl rfl
 rename_i c;rw[zabn c] at e
 split
 ·rename_i c;rw[zabo c] at e
  split
  ·rename_i c;rw[zabo c] at e;exact absurd e c
  ·exact .same rfl rfl
 rename_i c;rw[zabn c] at e
 split
 ·rename_i c;rw[zabo c] at e
  split
  ·rename_i c;rw[zabo c] at e;exact absurd e c
  ·exact .same rfl rfl
 split
 ·exact .same rfl rfl
 ·exact .next _ _ rfl rfl (zfi rfl)
theorem z7b(a:zy)(t:zq)(n:Int)(e:(zdO a t n).2.2.2=0):RS t (zdO a t n).2.1:=by
 have h:∀t,(zdk t).1.inv=t.inv/\(zdk t).1.results=t.results:=by
  intro t;unfold zdk;simp only
  split
  ·exact⟨rfl,rfl⟩
  split
  ·exact⟨rfl,rfl⟩
  split<;>exact⟨rfl,rfl⟩
 unfold zdO zbv at *;simp only at *
 split
 ·rename_i c;rw[zabo c] at e;exact absurd e c
 rename_i c;rw[zabn c] at e
 split
 ·exact .same rfl rfl
 rename_i c;rw[zabn c] at e;have hg:=zmt a t n;generalize goT a t n=g at *
 split
 ·rename_i c;rw[zabo c] at e;exact absurd e c
 rename_i c;have hg:=hg (zabG.1 c)
 split
 ·exact .same ((h _).1.trans hg.1) ((h _).2.trans hg.2)
 split
 ·exact .same hg.1 hg.2
 split
 ·exact .same hg.1 hg.2
 ·exact .next _ _ hg.1 hg.2 (zfi rfl)
theorem z89(K:Tok)(a:zy)(t:zq)(n:Int)(e:(zdS K a t n).2.2.2=0):RS t (zdS K a t n).2.1:=by
 have h:∀t,(zdn t).1.inv=t.inv/\(zdn t).1.results=t.results:=by
  intro t;unfold zdn;simp only
  split<;>exact⟨rfl,rfl⟩
 unfold zdS zbv at *;simp only at *
 split
 ·rename_i c;rw[zabo c] at e;exact absurd e c
 rename_i c;rw[zabn c] at e
 split
 ·split
  ·exact .next _ _ rfl rfl (zfi rfl)
  ·simp only
   split<;>exact .same rfl rfl
 rename_i c;rw[zabn c] at e
 split
 ·exact .same rfl rfl
 rename_i c;rw[zabn c] at e;have hg:=zmt a t n;generalize goT a t n=g at *
 split
 ·rename_i c;rw[zabo c] at e;exact absurd e c
 rename_i c;have hg:=hg (zabG.1 c)
 split
 ·exact .same ((h _).1.trans hg.1) ((h _).2.trans hg.2)
 split
 ·exact .same hg.1 hg.2
 split
 ·exact .same hg.1 hg.2
 ·exact .next _ _ hg.1 hg.2 (zfi rfl)
theorem z8V(K:Tok)(a:zy)(t:zq)(n:Int)(e:(zdQ K a t n).2.2.2=0):RS t (zdQ K a t n).2.1:=by
 have h:∀t,(zdm K t).1.inv=t.inv/\(zdm K t).1.results=t.results:=by
  intro t;unfold zdm;simp only
  split
  ·exact⟨rfl,rfl⟩
  split
  ·split<;>exact⟨rfl,rfl⟩
  ·exact⟨rfl,rfl⟩
 unfold zdQ zbv at *;simp only at *
 split
 ·rename_i c;rw[zabo c] at e;exact absurd e c
 rename_i c;rw[zabn c] at e
 split
 ·split
  ·exact .next _ _ rfl rfl (zfi rfl)
  ·exact .same rfl rfl
 rename_i c;rw[zabn c] at e
 split
 ·rename_i c;rw[zabo c] at e
  split
  ·rename_i c;rw[zabo c] at e;exact absurd e c
  ·simp only
   split<;>exact .same rfl rfl
 rename_i c;rw[zabn c] at e
 split
 ·exact .same rfl rfl
 rename_i c;rw[zabn c] at e;have hg:=zmt a t n;generalize goT a t n=g at *
 split
 ·rename_i c;rw[zabo c] at e;exact absurd e c
 rename_i c;have hg:=hg (zabG.1 c)
 split
 ·exact .same ((h _).1.trans hg.1) ((h _).2.trans hg.2)
 split
 ·exact .same hg.1 hg.2
 split
 ·exact .next _ _ hg.1 hg.2 (zfi rfl)
 split
 ·exact .next _ _ hg.1 hg.2 (zfi rfl)
 ·exact .same hg.1 hg.2
theorem z64{K:Tok}(hK:∀h,(K.enc h).1.length<=16)(a:zy)(t:zq)(n:Int)(e:(zdN K a t n).2.2.2=0):RS t (zdN K a t n).2.1:=by
 have h:∀t,(zdj t).1.inv=t.inv/\(zdj t).1.results=t.results:=by
  intro t;unfold zdj;simp only
  split
  ·exact⟨rfl,rfl⟩
  split
  ·exact⟨rfl,rfl⟩
  split
  ·exact⟨rfl,rfl⟩
  split<;>exact⟨rfl,rfl⟩
 have ht:∀t,(zib K t).tokens.length<=12/\∀b∈(zib K t).tokens,b.length<=16:=by
  intro t;unfold zib;simp only[zabE];refine⟨zQV _ _ _ _ _ _,fun b hb=> ?_⟩;obtain⟨y,_,rfl⟩:=zaby.1 hb;exact hK _
 unfold zdN zbv at *;simp only at *
 split
 ·rename_i c;rw[zabo c] at e;exact absurd e c
 rename_i c;rw[zabn c] at e
 split
 ·exact .same rfl rfl
 rename_i c;rw[zabn c] at e
 split
 ·exact .same rfl rfl
 rename_i c;rw[zabn c] at e;have hg:=zmt a t n;generalize goT a t n=g at *
 split
 ·rename_i c;rw[zabo c] at e;exact absurd e c
 rename_i c;have hg:=hg (zabG.1 c)
 split
 ·exact .same ((h _).1.trans hg.1) ((h _).2.trans hg.2)
 split
 ·exact .same hg.1 hg.2
 split
 ·exact .next _ _ hg.1 hg.2 (zfi rfl)
 split
 ·exact .next _ _ hg.1 hg.2 (zfi rfl)
 split
 ·exact .next _ _ hg.1 hg.2 (ht _)
 ·exact .same hg.1 hg.2
theorem zQZ{K:Tok}(hK:∀h,(K.enc h).1.length<=16)(a:zy)(t:zq)(n:Int)(e:(zbZ K a t n).2.2.2=0):RS t (zbZ K a t n).2.1:=by
 have steal_tk:∀t,(zey t).2.1.tokens=[]:=by
  intro t;unfold zey;simp only;split
  ·rfl
  split<;>rfl
 have split_tk:∀t,(zew t).2.1.tokens=[]:=by
  intro t;unfold zew;simp only;split<;>rfl
 have merge_tk:∀t,(zek t).2.1.tokens=[]:=by
  intro t;unfold zek;simp only;split<;>rfl
 have sweep_tk:∀t,(zdW t).2.1.tokens=[]:=by
  intro t;unfold zdW;simp only;split
  ·rfl
  split
  ·rfl
  split
  ·rfl
  split<;>rfl
 have bury_tk:∀t,(zdx t).2.1.tokens=[]:=by
  intro t;unfold zdx;simp only;split
  ·rfl
  split<;>rfl
 unfold zbZ at *
 by_cases c:t.done=true
 ·rw[zabo c] at e;exact absurd e (by decide)
 rw[zabn c] at e ⊢
 by_cases c0:t.inv.kind=1
 ·rw[zabo c0] at e ⊢; exact z8V K a t n e
 rw[zabn c0] at e ⊢
 by_cases c1:t.inv.kind=2
 ·rw[zabo c1] at e ⊢; exact z64 hK a t n e
 rw[zabn c1] at e ⊢
 by_cases c2:3<=t.inv.kind/\t.inv.kind<=5
 ·rw[zabo c2] at e ⊢; exact z89 K a t n e
 rw[zabn c2] at e ⊢
 by_cases c3:t.inv.kind=6
 ·rw[zabo c3] at e ⊢; exact z5o a t n e
 rw[zabn c3] at e ⊢
 by_cases c4:t.inv.kind=7
 ·rw[zabo c4] at e ⊢; exact zTn a t n e
 rw[zabn c4] at e ⊢
 by_cases c5:t.inv.kind=8
 ·rw[zabo c5] at e ⊢; exact z7b a t n e
 rw[zabn c5] at e ⊢
 by_cases c6:t.inv.kind=9
 ·rw[zabo c6] at e ⊢; exact zm6 steal_tk _ _ _ a t n e
 rw[zabn c6] at e ⊢
 by_cases c7:t.inv.kind=10
 ·rw[zabo c7] at e ⊢; exact zm6 split_tk _ _ _ a t n e
 rw[zabn c7] at e ⊢
 by_cases c8:t.inv.kind=11
 ·rw[zabo c8] at e ⊢; exact zm6 merge_tk _ _ _ a t n e
 rw[zabn c8] at e ⊢
 by_cases c9:t.inv.kind=12\/t.inv.kind=13
 ·rw[zabo c9] at e ⊢; exact zm6 sweep_tk _ _ _ a t n e
 rw[zabn c9] at e ⊢
 by_cases c10:t.inv.kind=14
 ·rw[zabo c10] at e ⊢; exact zm6 bury_tk _ _ _ a t n e
 rw[zabn c10] at e ⊢;exact absurd e (by decide)
theorem zU1{i:Invocation}{s:Setup}(h:zbM i s=0):zcX i<=6:=by
 unfold zbM at h;unfold zcX
 by_cases c1:i.kind=1
 ·rw[zabo c1] at h ⊢
  by_cases c:i.bodies.length=0\/6<i.bodies.length
  ·rw[zabo c] at h;cases h
  ·omega
 rw[zabn c1] at h ⊢
 by_cases c3:3<=i.kind/\i.kind<=5
 ·rw[zabn zo,zabo c3] at h;rw[zabo c3]
  by_cases c:i.tokens.length=0\/6<i.tokens.length
  ·rw[zabo c] at h;cases h
  ·omega
 ·rw[zabn c3];decide
structure QI(u:Setup)(B:Int)(w:World):Prop where
 wi:WI u w
 lb:LB B w
 hl:(w.handles.length:Int)<=12 * w.steps
 hb:∀b∈w.handles,b.length<=16
 tk:∀t∈w.tasks,t.results.length<=6/\∀b∈t.inv.tokens,b.length<=16
theorem QI.mono{u:Setup}{B C:Int}{w:World}(h:QI u B w)(hb:B<=C):QI u C w:={ h with lb:=h.lb.mono hb }
theorem z9O{K:Tok}(hK:zis K)(hE:∀h,(K.enc h).1.length<=16){u:Setup}{B:Int}{w:World}{i:Nat}(h:QI u B w)(hi:i<w.tasks.length)(e:(zcO K w i).2=0):QI u (B+1) (zcO K w i).1:=by
 refine { wi:=z9M hK h.wi hi e,lb:=z9N h.lb e,hl:= ?_,hb:= ?_,tk:= ?_ }
 all_goals
  have ht:=h.tk (w.tasks.getD i zE) (by rw[zh hi];exact zabC hi);have hT:=h.wi.ts (w.tasks.getD i zE) (by rw[zh hi];exact zabC hi);have h1:=h.hl;have h2:=h.hb;have h3:=h.tk;have hr:=zQZ hE w.arena (w.tasks.getD i zE) (w.steps+1);have hd:(zbZ K w.arena (w.tasks.getD i zE) (w.steps+1)).2.2.2=0->(w.tasks.getD i zE).done=false:=by
   intro q
   cases hq:(w.tasks.getD i zE).done with
   | false=>rfl
   | true=>unfold zbZ at q;rw[zabo hq] at q;exact absurd q (by decide)
  unfold zcO at e ⊢;simp only at e ⊢;generalize w.tasks.getD i zE=t at *;generalize zbZ K w.arena t (w.steps+1)=r at *
  by_cases c:r.2.2.2=0
  rotate_left
  ·rw[zabo c] at e;exact absurd e c
  rw[zabn (fun q=>q c)];obtain⟨q1,q2⟩:=hr c;have hent:=hT.e1 (hd c);have hres:=hT.e2;have hsix:=zU1 hT.iv;clear hr hd e c;simp only
 ·rcases q2 with q2|⟨x,hx,q2⟩
  ·rw[q2];simp only[zab7,zabq,zadt,zabL];omega
  ·rw[q2];simp only[zaeh,zabs,zabq,zaei,zadt,zabL,zabv];omega
 ·intro b hb
  rcases zabS.1 hb with hb|hb
  ·exact h2 b hb
  ·rcases q2 with q2|⟨x,hx,q2⟩
   ·rw[q2] at hb;simp only[zab7,zabq,zadt] at hb;cases hb
   ·rw[q2] at hb;simp only[zaeh,zabs,zabq,zaei,zadt,zabL] at hb;exact hx.2 b hb
 ·intro x hx
  rcases zmR hx with hx|hx
  ·rw[hx,q1];refine⟨?_,ht.2⟩
   rcases q2 with q2|⟨x,hx,q2⟩
   ·rw[q2];omega
   ·rw[q2,zabv,zab3];omega
  ·exact h3 x hx
theorem zMV{K:Tok}(hK:zis K)(hE:∀h,(K.enc h).1.length<=16){u:Setup}{B:Int}{w:World}{k:Int}(h:QI u B w)(e:(zc2 K w k).2=0):QI u (B+1) (zc2 K w k).1:=by
 unfold zc2 at e ⊢
 by_cases c:k<0\/((zbj w).length:Int)<=k
 ·rw[zabo c] at e;cases e
 ·rw[zabn c] at e ⊢;exact z9O hK hE h (zMK zo) e
theorem zaal{u:Setup}{B:Int}{w:World}{by_:Int}(h:QI u B w)(e:(zdX w by_).2=0):QI u (B+1) (zdX w by_).1:=by
 have h1:=zaaj h.wi e;have h2:=zaak h.lb e;have h3:=h.hl;unfold zdX at e h1 h2 ⊢
 by_cases c:(zeA w.arena by_).2=0
 ·rw[zabn (fun q=>q c)] at h1 h2 ⊢;exact { wi:=h1,lb:=h2,hl:=by simp only;omega,hb:=h.hb,tk:=h.tk }
 ·rw[zabo c] at e;exact absurd e c
theorem zYa{u:Setup}{B:Int}{w:World}{i:Invocation}(h:QI u B w)(hi:∀b∈i.tokens,b.length<=16)(e:(zcJ w i).2.2=0):QI u B (zcJ w i).1:=by
 have h1:=zX8 h.wi e;have h2:=zX9 h.lb e;unfold zcJ at e h1 h2 ⊢
 by_cases c:200<=w.tasks.length\/8<=(zbj w).length
 ·rw[zabo c] at e;cases e
 rw[zabn c] at e h1 h2 ⊢
 by_cases c2:(zex (w.tasks.length+1) i w.setup w.steps).2=0
 ·rw[zabn (fun q=>q c2)] at h1 h2 ⊢;refine { wi:=h1,lb:=h2,hl:=h.hl,hb:=h.hb,tk:=fun t ht=> ?_ }
  rcases zabS.1 ht with ht|ht
  ·exact h.tk t ht
  ·rw[zab1.1 ht];unfold zex
   split
   ·exact⟨by simp [zE],by simp [zE,zfA]⟩
   split
   ·exact⟨by simp [zE],by simp [zE,zfA]⟩
   split
   ·exact⟨by simp [zE],by simp [zE,zfA]⟩
   ·exact⟨by simp [zE],hi⟩
 ·rw[zabo c2] at e;exact absurd e c2
theorem zaaz{K:Tok}(hE:∀h,(K.enc h).1.length<=16){r:Ref}{hs:List (List UInt8)}(h1:r.raw.length<=16)(h2:∀b∈hs,b.length<=16):(zeZ K r hs).length<=16:=by
 have hb:∀k,(hs.getD k []).length<=16:=fun k=>by
  rw[zab0]
  cases hq:hs[k]? with
  | none=>simp
  | some b=>exact h2 b (zabK hq)
 unfold zeZ;simp only;generalize ((zbo r.index 0).tmod hs.length).toNat=k
 split
 ·exact h1
 split
 ·exact hb k
 split
 ·rw[zacb];exact hb k
 split
 ·generalize (if r.variant=2 then ({ (K.par (hs.getD k [])).1 with gen:=(K.par (hs.getD k [])).1.gen+1 }:za1) else if r.variant=3 then { (K.par (hs.getD k [])).1 with gen:=(K.par (hs.getD k [])).1.gen - 1 } else { (K.par (hs.getD k [])).1 with route:=((K.par (hs.getD k [])).1.route+1).tmod 65536 })=h
  split
  ·exact hb k
  ·exact hE h
 ·exact hb k
theorem z9Q{u:Setup}{B:Int}{w:World}{i:Nat}(h:QI u B w)(hB:B<=200000)(hi:i<w.tasks.length):zi G zjE [.d (zF w),.d (.int .i64 i)] []=some (.d (.tup [zF (zcO zaB w i).1,.int .i64 (zcO zaB w i).2]),[]):=by
 have h1:=h.lb.st;have h2:=h.lb.lg;have h3:=h.hl;have h4:=h.tk _ (zabC hi);have hr:=zQZ ztM w.arena w.tasks[i] (w.steps+1);refine z9K zlh h.wi hi zo zo ?_ (fun q=> ?_) zo zo (fun b hb=> ?_)
 ·have:=zQY zaB w.arena w.tasks[i] (w.steps+1);omega
 ·rcases (hr q).2 with q2|⟨x,hx,q2⟩
  ·exact .inl q2
  ·exact .inr ⟨x,by omega,q2⟩
 ·have:=h4.2 b hb;omega
theorem z4Z{u:Setup}{B:Int}{w:World}{k:Int}(h:QI u B w)(hB:B<=200000):zi G zlV [.d (zF w),.d (.int .i64 k)] []=some (.d (.tup [zF (zc2 zaB w k).1,.int .i64 (zc2 zaB w k).2]),[]):=
 z4X h.wi fun i hi=>z9Q h hB hi
noncomputable def pkR(c:Command):Nat->World->Option (zX×St)
 | 0,w=>some (.exit 1,⟨[(2,.ref 2 0 0),(4,.ref 4 0 0)],[(2,.row [.d (zF w)]),(4,zWr)]⟩)
 | n+1,w=>if (zbj w).length=0 then some (.ret,⟨[(4,.ref 4 0 0),(5,.d (.int .i64 0))],[(4,.row [.d (zF w)])]⟩) else if (zc2 zaB w ((zbo c.pick 0).tmod (zbj w).length)).2≠0 then some (.ret,⟨[(4,.ref 4 0 0),(5,.d (.int .i64 (zc2 zaB w ((zbo c.pick 0).tmod (zbj w).length)).2))],[(4,zWr)]⟩) else pkR c n (zc2 zaB w ((zbo c.pick 0).tmod (zbj w).length)).1
theorem z42(c:Command):∀(n:Nat) (w:World),(∃w',zh6 zaB c.pick n w=(w',0)/\(pkR c n w=some (.exit 1,⟨[(2,.ref 2 0 0),(4,.ref 4 0 0)],[(2,.row [.d (zF w')]),(4,zWr)]⟩)\/pkR c n w=some (.ret,⟨[(4,.ref 4 0 0),(5,.d (.int .i64 0))],[(4,.row [.d (zF w')])]⟩)))\/(∃e,e≠0/\zh6 zaB c.pick n w=(zbc,e)/\pkR c n w=some (.ret,⟨[(4,.ref 4 0 0),(5,.d (.int .i64 e))],[(4,zWr)]⟩)):=by
 intro n
 induction n with
 | zero=>intro w;exact .inl ⟨w,rfl,.inl rfl⟩
 | succ n ih=>
  intro w;unfold zh6 pkR
  by_cases c1:(zbj w).length=0
  ·rw[zabo c1,zabo c1];exact .inl ⟨w,rfl,.inr rfl⟩
  rw[zabn c1,zabn c1]
  by_cases c2:(zc2 zaB w ((zbo c.pick 0).tmod (zbj w).length)).2=0
  ·rw[zabn (fun q=>q c2),zabn (fun q=>q c2)];exact ih _
  ·rw[zabo c2,zabo c2];exact .inr ⟨_,c2,rfl,rfl⟩
def pkS(c:Command)(m:Nat)(p:Nat×World):St:=⟨[(2,.ref 2 0 0),(3,.ref 3 0 0),(4,.ref 4 0 0),(6,.d (.int .i64 m)),(7,.d (.int .i64 p.1))],[(2,.row [.d (zF p.2)]),(3,.row [.d (zaW c)]),(4,zWr)]⟩
theorem z43{u:Setup}{c:Command}{m:Nat}(hm:m<=255){B:Int}(hB:B<=102000):∀p:Nat×World,(p.1<=m/\QI u (B+p.1) p.2)->z6 G [] zAZ (pkS c m p)=pkR c (m - p.1) p.2:=by
 refine zaL (fun p:Nat×World=>m - p.1) _ _ _ fun⟨k,w⟩ ⟨h1,h2⟩ L ih=> ?_;simp only at h1 h2;simp only[pkS,zAZ] at ih ⊢
 by_cases h0:k<m
 ·have hk:=h2.wi.tl;have hn:=zBy w zo;have hc:=zBx w zo;have hol:=zBz w;have e1:m - k=(m - (k+1))+1:=by omega
  rw[e1];unfold pkR
  by_cases c1:(zbj w).length=0
  ·rw[zabo c1];rw[<- hol] at c1;have h:=hn (zacc.1 c1);clear hn hc ih h2 hol c1 e1 hk;have sz_w:=za6 w;generalize zF w=D_w at *;simp only[zaW];unfold zWr;exact zS
  ·rw[zabn c1];have hp:=z4Z (k:=(zbo c.pick 0).tmod (zbj w).length) h2 zo;have hq:=zMV zlh.ok ztM (k:=(zbo c.pick 0).tmod (zbj w).length) h2;have hmx:(if c.pick<0 then 0 else c.pick)=zbo c.pick 0:=by
    unfold zbo;rfl
   generalize zbo c.pick 0=y at *;rw[<- hol] at *;generalize hO:opL w.tasks w.tasks.length=o at *
   rcases o with _|⟨o1,o⟩
   ·exact absurd rfl c1
   have h:=hc o1 o rfl;generalize zc2 zaB w (y.tmod ((o1::o).length:Int))=r at *;obtain⟨w2,e⟩:=r;simp only[zabu] at hp hq c1
   by_cases c2:e=0
   ·subst c2;have i1:=ih (k+1,w2) ⟨by simp only;omega,by have:=hq rfl;rw[show B+((k+1:Nat):Int)=B+k+1 by omega];exact this⟩ (by simp only;omega);rw[zabn (by simp)];simp only at i1;clear hn hc ih h2 hol c1 e1 hk hq hO;generalize pkR c (m - (k+1)) w2=z at *;have sz_w:=za6 w;generalize zF w=D_w at *;have sz_w2:=za6 w2;generalize zF w2=D_w2 at *;obtain⟨ck,pk,by_,iv,rf⟩:=c;simp only[zaW] at *;unfold zWr at *;simp only[zNr,zB] at i1 hp;exact zS
   ·rw[zabo c2];replace c2:=zabt c2;clear hn hc ih h2 hol c1 e1 hk hq hO;have sz_w:=za6 w;generalize zF w=D_w at *;have sz_w2:=za6 w2;generalize zF w2=D_w2 at *;obtain⟨ck,pk,by_,iv,rf⟩:=c;simp only[zaW] at *;unfold zWr at *;simp only[zNr,zB] at hp;exact zS
 ·have e1:m - k=0:=by omega
  rw[e1];clear ih h2;unfold pkR;have sz_w:=za6 w;generalize zF w=D_w at *;simp only[zaW];unfold zWr;exact zS
theorem zT6{u:Setup}{B:Int}{w:World}{c:Command}(h:QI u B w)(hB:B<=102000)(hk:c.kind=1):zi G zfE [.d (zF w),.d (zaW c)] []=some (.d (.tup [zF (doW zaB w c).1,.int .i64 (doW zaB w c).2]),[]):=by
 have hm:(if 0<(if 255<c.by_ then 255 else c.by_) then (if 255<c.by_ then 255 else c.by_) else 0)=zbo 0 (zf4 c.by_ 255):=by
  unfold zbo zf4
  by_cases q1:c.by_<255<;>by_cases q2:255<c.by_<;>simp only[q1,q2,if_true,if_false]<;>split<;>omega
 have hb:=zDQ c.by_;have h0:0<=zbo 0 (zf4 c.by_ 255):=by unfold zbo;split<;>omega
 unfold doW;simp only;generalize zbo 0 (zf4 c.by_ 255)=m at *;obtain⟨n,rfl⟩:∃n:Nat,m=n:=⟨m.toNat,by omega⟩;rw[zabo hk];simp only[zab5] at *;have hl:=z43 (c:=c) hb hB (0,w) ⟨by simp,by simpa using h⟩;have hc:=z42 c n w;simp only[pkS,zacO,zabQ] at hl;clear h hb;obtain⟨k,pk,by_,iv,rf⟩:=c;simp only at *;subst hk
 rcases hc with ⟨v,hp,hr⟩|⟨e,he,hp,hr⟩
 ·rw[hp]
  rcases hr with hr|hr
  all_goals
   rw[hr] at hl;clear hp hr;simp only;have sz_w:=za6 w;generalize zF w=D_w at *;have sz_v:=za6 v;generalize zF v=D_v at *;simp only[zaW] at *;unfold zWr at *
  ·exact zW zfa
  ·exact zW zfa
 ·rw[hp];rw[hr] at hl;have hz:zF zbc= .agg [.int .i64 0,.int .i64 0,.int .i64 0,.int .i64 0,.int .i64 0,.int .i64 0,.int .i64 0,.int .i64 0,.sl [],.sl [],.int .i64 0,.int .i64 0,.sl [],.int .i64 0,.sl [],.sl [],.int .i64 0,.int .i64 0,.int .i64 0,.sl [],.sl [],.int .i64 0,.sl []]:=rfl;simp only[hz];clear hp hr hz;replace he:=zabt he;have sz_w:=za6 w;generalize zF w=D_w at *;simp only[zaW] at *;unfold zWr at *;exact zW zfa
theorem xor8:∀n:Fin 256,zjp .u8 (n.val:Int) 1=((UInt8.ofNat n.val ^^^ 1).toNat:Int):=by decide+kernel
theorem zaba(v:UInt8):zjp .u8 (v.toNat:Int) 1=((v ^^^ 1).toNat:Int):=by
 have:=xor8 ⟨v.toNat,v.toNat_lt⟩;simp only[UInt8.ofNat_toNat] at this;exact this
theorem zaaA(r:Ref)(hs:List (List UInt8))(hl:hs.length<=10000000)(hb:∀b∈hs,b.length<=16):zi G zqv [.d (zhE r),.d (.sl (hs.map zaA))] []=some (.d (zaA (zeZ zaB r hs)),[]):=by
 obtain⟨ri,rv,rr⟩:=r;have hmx:(if ri<0 then 0 else ri)=zbo ri 0:=by
  unfold zbo;rfl
 unfold zeZ;simp only[zhE]
 by_cases c7:rv=7
 ·subst c7;rw[zabo (by simp)];clear hb hmx;simp only[zaA];generalize byD rr=R;exact zW zf0
 by_cases c0:hs.length=0
 ·rw[zabo (.inr c0)];have:=zacc.1 c0;subst this;clear hb hmx;replace c7:=zabt c7;simp only[zaA,zabq];exact zW zf0
 rw[zabn (by simp only[not_or];exact⟨c7,c0⟩)];have hn0:0<=zbo ri 0:=by unfold zbo;split<;>omega
 generalize zbo ri 0=y at *;obtain⟨k,hk⟩:∃k:Nat,y.tmod hs.length=k:=⟨(y.tmod hs.length).toNat,by have:=zadS (hs.length:Int) hn0;omega⟩;have hkl:k<hs.length:=by have:=zadT y (b:=hs.length) zo;omega
 rw[hk,zab5];have hg:hs.getD k []=hs[k]:=zh hkl;have hg2:(hs.map zaA)[k]? = some (zaA hs[k]):=by rw[zabI,zabx hkl];rfl
 rw[hg];have hbl:=hb _ (zabC hkl);have hlen:(hs.map zaA).length=hs.length:=zabE _;generalize hs[k]=b at *;have hp:=zlh.pa b zo;have hq:=zaag b;have hq2:=zlh.ok.par b;generalize zaB.par b=p at *;obtain⟨h,e⟩:=p;simp only at hp hq hq2 ⊢;clear hg hb;generalize hs.map zaA=H at *;replace c7:=zabt c7;have hbd:(byD b).length=b.length:=by unfold byD;simp
 have en:=zlh.en;simp only[zat,zaA] at hp hg2 en ⊢
 by_cases ce:e=0
 ·subst ce;obtain⟨q1,q2,q3⟩:=hq rfl;obtain⟨⟨q4,q5⟩,_⟩:=hq2 rfl;rw[zabn (by simp)];rw[q1] at hbd;obtain⟨h1,h2,h3,h4⟩:=h;simp only at *;clear hq hq2;have fin:∀h':za1,∃x:List D,byD (if (zaB.enc h').2≠0 then b else (zaB.enc h').1)=x:=fun _=>⟨_,rfl⟩
  by_cases v5:rv=5
  ·subst v5;rw[zabo (rfl:(5:Int)=5)];clear en fin;have hb15:(byD b)[15]? = some (.int .u8 ((b.getD 15 0).toNat)):=by
    unfold byD;rw[zabI,zabx zo,zh zo];rfl
   have hset:byD (b.set (b.length - 1) (b.getD (b.length - 1) 0 ^^^ 1))=(byD b).set 15 (.int .u8 ((b.getD 15 0 ^^^ 1).toNat)):=by
    rw[q1];unfold byD;rw[zacw]
   rw[hset];have hx:=zaba (b.getD 15 0);have ha:zas 1 (byD b)=true:=by simp [zas,byD,D.size,D.cells]
   have hb16:∀h:15<(byD b).length,(byD b)[15]'h= .int .u8 ((b.getD 15 0).toNat):=fun h=>by
    have:=zabx h;rw[hb15] at this;exact (Option.some.inj this).symm
   generalize b.getD 15 0=v at *;generalize byD b=R at *;clear q1 hbl hset;rw[zI zf0 (by simp)];simp -implicitDefEqProofs (maxSteps:=4000000) (disch:=omega) only[zu0,zCw,zh,go_sem, *];(try simp only[zPr]);repeat' (first|done|rfl|((first|refine zad (fun hq=> ?_) (fun hq=> ?_)|refine zaj (fun hq=> ?_) (fun hq=> ?_))<;>(try (first|(exfalso;omega)|contradiction))<;>(try simp -implicitDefEqProofs (maxSteps:=4000000) (disch:=omega) only[zh,go_sem, *])<;>(try simp only[zPr])));(all_goals try rfl);(all_goals try (repeat' (first|done|rfl|(exfalso;omega)|contradiction|(refine zae (fun hq=> ?_) (fun hq=> ?_)))))
   all_goals rw[zada (by rw[zacb];omega)]
  rw[zabn v5]
  by_cases v2:rv=2
  ·subst v2;rw[zabo (.inl rfl),zabo (rfl:(2:Int)=2)];have e1:=en ⟨h1,h2+1,h3,h4⟩;generalize zaB.enc ⟨h1,h2+1,h3,h4⟩=z at *;obtain⟨zb,ze⟩:=z;simp only at *;clear en fin
   by_cases cz:ze=0
   ·subst cz;rw[zabn (by simp)];generalize byD b=R at *;generalize byD zb=Z at *;clear q1 hbl;exact zW zf0
   ·rw[zabo cz];replace cz:=zabt cz;generalize byD b=R at *;generalize byD zb=Z at *;clear q1 hbl;exact zW zf0
  by_cases v3:rv=3
  ·subst v3;rw[zabo (.inr (.inl rfl)),zabn (by decide:¬(3:Int)=2),zabo (rfl:(3:Int)=3)];have e1:=en ⟨h1,h2 - 1,h3,h4⟩;generalize zaB.enc ⟨h1,h2 - 1,h3,h4⟩=z at *;obtain⟨zb,ze⟩:=z;simp only at *;clear en fin
   by_cases cz:ze=0
   ·subst cz;rw[zabn (by simp)];generalize byD b=R at *;generalize byD zb=Z at *;clear q1 hbl;exact zW zf0
   ·rw[zabo cz];replace cz:=zabt cz;generalize byD b=R at *;generalize byD zb=Z at *;clear q1 hbl;exact zW zf0
  by_cases v4:rv=4
  ·subst v4;rw[zabo (.inr (.inr rfl)),zabn (by decide:¬(4:Int)=2),zabn (by decide:¬(4:Int)=3)];have e1:=en ⟨h1,h2,(h3+1).tmod 65536,h4⟩;generalize zaB.enc ⟨h1,h2,(h3+1).tmod 65536,h4⟩=z at *;obtain⟨zb,ze⟩:=z;simp only at *;clear en fin
   by_cases cz:ze=0
   ·subst cz;rw[zabn (by simp)];generalize byD b=R at *;generalize byD zb=Z at *;clear q1 hbl;exact zW zf0
   ·rw[zabo cz];replace cz:=zabt cz;generalize byD b=R at *;generalize byD zb=Z at *;clear q1 hbl;exact zW zf0
  rw[zabn (by simp only[not_or];exact⟨v2,v3,v4⟩)];replace v2:=zabt v2;replace v3:=zabt v3;replace v4:=zabt v4;replace v5:=zabt v5;clear en fin;generalize byD b=R at *;clear q1 hbl;exact zW zf0
 ·rw[zabo ce];replace ce:=zabt ce;clear hq hq2 en;obtain⟨h1,h2,h3,h4⟩:=h;simp only at *;generalize byD b=R at *;exact zW zf0
theorem zT7{u:Setup}{B:Int}{w:World}{c:Command}(h4:u.slots<=4)(h:QI u B w)(hB:B<=102000)(hk:c.kind=3)(h1:1<=c.refs.length)(h2:c.refs.length<=2)(hb:c.inv.bodies.length<=1000):zi G zfE [.d (zF w),.d (zaW c)] []=some (.d (.tup [zF (doW zaB w c).1,.int .i64 (doW zaB w c).2]),[]):=by
 have hh:=h.hl;have hst:=h.lb.st;have hi:=fun v:Invocation=>zLP w (i:=v) (by rw[h.wi.su];exact h4) h.wi.tl;have ht:=fun r=>zaaA r w.handles zo h.hb;have hhl:w.handles.length<=4294967296:=by omega
 unfold doW;simp only;have hp0:0<c.refs.length:=by omega
 rw[zabn zo,zabn zo,zabo hk];simp only[zabo hp0];clear hp0;clear h hh hst h4;obtain⟨k,pk,by_,⟨v1,v2,v3,v4,v5,v6,bs,ts⟩,rf⟩:=c;simp only at *;subst hk
 rcases rf with _|⟨r1,_|⟨r2,rf⟩⟩
 ·simp at h1
 ·have hv:=hi ⟨v1,v2,v3,v4,v5,v6,bs,[zeZ zaB r1 w.handles]⟩ (by simp) (by simp only;omega);have t1:=ht r1;clear hi ht h1 h2;simp only[zabs,zabq];generalize zeZ zaB r1 w.handles=x1 at *;generalize zcJ w ⟨v1,v2,v3,v4,v5,v6,bs,[x1]⟩=r at *;obtain⟨r,n,e⟩:=r;simp only at *;obtain⟨s,wa,tasks,log,steps,handles⟩:=w;simp only at hhl t1
  by_cases c:e=0
  ·subst c;rw[zabo rfl];have sz_r:=za6 r;generalize zF r=D_r at *;simp only[zF,zaW,zbg,zhE,zabs,zabq] at *;have ex1:zaA x1= .sl (byD x1):=rfl;rw[ex1] at t1 hv;clear ex1;generalize byD x1=y1 at *;have zk0:= @zaC;have zk1:=zg1.eq_1;exact zW zfa
  ·rw[zabn c];replace c:=zabt c;have sz_r:=za6 r;generalize zF r=D_r at *;simp only[zF,zaW,zbg,zhE,zabs,zabq] at *;have ex1:zaA x1= .sl (byD x1):=rfl;rw[ex1] at t1 hv;clear ex1;generalize byD x1=y1 at *;have zk0:= @zaC;have zk1:=zg1.eq_1;exact zW zfa
 ·have hv:=hi ⟨v1,v2,v3,v4,v5,v6,bs,[zeZ zaB r1 w.handles,zeZ zaB r2 w.handles]⟩ (by simp) (by simp only;omega);have:rf=[]:=by simp only[zabu] at h2;exact zacc.1 zo
  subst this;have t1:=ht r1;have t2:=ht r2;clear hi ht h1 h2;simp only[zabs,zabq];generalize zeZ zaB r1 w.handles=x1 at *;generalize zeZ zaB r2 w.handles=x2 at *;generalize zcJ w ⟨v1,v2,v3,v4,v5,v6,bs,[x1,x2]⟩=r at *;obtain⟨r,n,e⟩:=r;simp only at *;obtain⟨s,wa,tasks,log,steps,handles⟩:=w;simp only at hhl t1 t2
  by_cases c:e=0
  ·subst c;rw[zabo rfl];have sz_r:=za6 r;generalize zF r=D_r at *;simp only[zF,zaW,zbg,zhE,zabs,zabq] at *;have ex1:zaA x1= .sl (byD x1):=rfl;have ex2:zaA x2= .sl (byD x2):=rfl;rw[ex1] at t1 hv;rw[ex2] at t2 hv;clear ex1 ex2;generalize byD x1=y1 at *;generalize byD x2=y2 at *;have zk0:= @zaC;have zk1:=zg1.eq_1;exact zW zfa
  ·rw[zabn c];replace c:=zabt c;have sz_r:=za6 r;generalize zF r=D_r at *;simp only[zF,zaW,zbg,zhE,zabs,zabq] at *;have ex1:zaA x1= .sl (byD x1):=rfl;have ex2:zaA x2= .sl (byD x2):=rfl;rw[ex1] at t1 hv;rw[ex2] at t2 hv;clear ex1 ex2;generalize byD x1=y1 at *;generalize byD x2=y2 at *;have zk0:= @zaC;have zk1:=zg1.eq_1;exact zW zfa
def ziB(c:Command):Prop:=c.refs.length<=2/\(∀r∈c.refs,r.raw.length<=16)/\c.inv.tokens=[]/\c.inv.bodies.length<=1000
theorem zT4{u:Setup}{B:Int}{w:World}{c:Command}(h4:u.slots<=4)(h:QI u B w)(hB:B<=102000)(hc:ziB c):zi G zfE [.d (zF w),.d (zaW c)] []=some (.d (.tup [zF (doW zaB w c).1,.int .i64 (doW zaB w c).2]),[]):=by
 have h1:=h.lb.st;have h2:=h.lb.lg;obtain⟨c1,c2,c3,c4⟩:=hc
 by_cases k1:c.kind=1
 ·exact zT6 h hB k1
 by_cases k2:c.kind=2
 ·exact zT8 h.wi zo zo k2
 by_cases k3:c.kind=3
 ·by_cases hr:c.refs=[]
  ·exact zT3 (by rw[h.wi.su];exact h4) h.wi.tl (by rw[c3];simp) zo k3 hr
  ·exact zT7 h4 h hB k3 (zac0.2 hr) c1 c4
 ·exact zT5 k1 k2 k3
theorem z41{u:Setup}(k:Int):∀(n:Nat) (B:Int) (w:World),QI u B w->(zh6 zaB k n w).2=0->QI u (B+n) (zh6 zaB k n w).1:=by
 intro n
 induction n with
 | zero=>intro B w h _;exact h.mono zo
 | succ n ih=>
  intro B w h e;unfold zh6 at e ⊢
  by_cases c:(zbj w).length=0
  ·rw[zabo c];exact h.mono zo
  rw[zabn c] at e ⊢
  by_cases c2:(zc2 zaB w ((zbo k 0).tmod (zbj w).length)).2=0
  ·rw[zabn (fun q=>q c2)] at e ⊢;exact (ih _ _ (zMV zlh.ok ztM h c2) e).mono zo
  ·rw[zabo c2] at e;exact absurd e c2
theorem zGQ{u:Setup}{B:Int}{w:World}{c:Command}(h:QI u B w)(hc:ziB c)(e:(doW zaB w c).2=0):QI u (B+255) (doW zaB w c).1:=by
 obtain⟨g1,g2,g3,g4⟩:=hc;unfold doW at e ⊢;simp only at e ⊢
 by_cases c1:c.kind=1
 ·rw[zabo c1] at e ⊢;have:=zDQ c.by_;exact (z41 _ _ _ _ h e).mono zo
 rw[zabn c1] at e ⊢
 by_cases c2:c.kind=2
 ·rw[zabo c2]
  split
  ·rename_i q;exact (zaal h q).mono zo
  ·exact h.mono zo
 rw[zabn c2] at e ⊢
 by_cases c3:c.kind=3
 ·rw[zabo c3];have hv:∀b∈(if 0<c.refs.length then { c.inv with tokens:=c.refs.map fun r=>zeZ zaB r w.handles } else c.inv).tokens,b.length<=16:=by
   intro b hb
   split at hb
   ·obtain⟨r,hr,rfl⟩:=zaby.1 hb;exact zaaz ztM (g2 r hr) h.hb
   ·rw[g3] at hb;cases hb
  generalize (if 0<c.refs.length then { c.inv with tokens:=c.refs.map fun r=>zeZ zaB r w.handles } else c.inv)=v at *
  split
  ·rename_i q;exact (zYa h hv q).mono zo
  ·exact h.mono zo
 ·rw[zabn c3];exact h.mono zo
theorem zBr{u:Setup}(e:(zc1 u).2=0):QI u 0 (zc1 u).1:=by
 unfold zc1 at e ⊢
 by_cases c:(zbL u).2=0
 ·rw[zabn (fun q=>q c)];have hu:za3 u=true:=by
   cases q:za3 u with
   | true=>rfl
   | false=>unfold zbL at c;rw[zabo q] at c;exact absurd c (by simp)
  exact { wi:={ hu:=hu,su:=rfl,ar:=zR6 c,ts:=fun t h=>by simp [zbc] at h,tl:=by simp [zbc],st:=by simp [zbc] },lb:=⟨by simp [zbc],by simp [zbc]⟩,hl:=by simp [zbc],hb:=fun b h=>by simp [zbc] at h,tk:=fun t h=>by simp [zbc] at h }
 ·rw[zabo c] at e;exact absurd e c
theorem z7W{u:Setup}{l:List Command}(h4:u.slots<=4)(hL:l.length<=400)(hc:∀c∈l,ziB c):zi G zlW [.d (zaJ u),.d (.sl (l.map zaW))] []=some (.d (.tup [zF (zgw zaB u l).1,.int .i64 (zgw zaB u l).2]),[]):=
 z7V (fun k w=>QI u (255 * k) w) h4 hL (fun e=>(zBr e).mono zo) (fun k w c hm hk h=>zT4 h4 h zo (hc c hm)) (fun k w c hm hk h e=>(zGQ h (hc c hm) e).mono zo)
theorem z7Y{u:Setup}:∀(l:List Command) (B:Int) (w:World),(∀c∈l,ziB c)->QI u B w->(zer zaB l w).2=0->QI u (B+255 * l.length) (zer zaB l w).1:=by
 intro l
 induction l with
 | nil=>intro B w _ h _;exact h.mono (by simp)
 | cons c l ih=>
  intro B w hc h e;unfold zer at e ⊢
  by_cases c1:(doW zaB w c).2=0
  ·rw[zabn (fun q=>q c1)] at e ⊢;exact (ih _ _ (fun x hx=>hc x (.tail _ hx)) (zGQ h (hc c (.head _)) c1) e).mono (by simp only[zabu];omega)
  ·rw[zabo c1] at e;exact absurd e c1
theorem z7Z{u:Setup}{l:List Command}(hL:l.length<=400)(hc:∀c∈l,ziB c)(e:(zgw zaB u l).2=0):QI u 102000 (zgw zaB u l).1:=by
 have h0:=zBr (u:=u);unfold zc1 at h0;unfold zgw at e ⊢
 by_cases c1:(zbL u).2=0
 ·rw[zabn (fun q=>q c1)] at e h0 ⊢;rw[zabn zo] at e ⊢;exact (z7Y l 0 _ hc (h0 rfl) e).mono zo
 ·rw[zabo c1] at e;exact absurd e c1
theorem z4Y(l:List Int)(a:Nat)(xs:List Int)(hL:l.length<=4000)(h1:1<=xs.length)(h2:xs.length<=1000):zi G znX [.ref 1000000 0 0,.d (.sl (zC xs))] [(1000000,zB l a)]=some (.d (.int .i64 (xs.getD (nD l a xs.length).toNat 0)),[(1000000,zB l (za0 l a).2)]):=by
 have hn:=zgr l a xs.length hL zo zo;have hb:=zbE l a (n:=xs.length) zo;obtain⟨i,hi⟩:∃i:Nat,nD l a xs.length=i:=⟨(nD l a xs.length).toNat,by omega⟩;rw[hi] at hn hb ⊢;have hlt:i<xs.length:=by omega
 rw[show ((i:Int)).toNat=i by omega,zh hlt];clear hb hi;exact zW zWE
theorem zMW{l:List Int}{a:Nat}{xs:List Int}{lo hi:Int}(h:∀x∈xs,lo<=x/\x<=hi)(h1:1<=xs.length)(h2:xs.length<=1000):lo<=xs.getD (nD l a xs.length).toNat 0/\xs.getD (nD l a xs.length).toNat 0<=hi:=by
 have:=zbE l a (n:=xs.length) zo;rw[zh (show (nD l a xs.length).toNat<xs.length by omega)];exact h _ (zabC _)
def fz(k x:Int):Int:=if k=7\/k=6 then 0 else x
theorem zWd(k p b ik h m v f t:Int)(bs ts rs:List D):zi G zn2 [.d (.agg [.int .i64 k,.int .i64 p,.int .i64 b,.int .i64 ik,.int .i64 h,.int .i64 m,.int .i64 v,.int .i64 f,.int .i64 t,.sl bs,.sl ts,.sl rs])] []=
    some (.d (.agg [.int .i64 k,.int .i64 p,.int .i64 b,.int .i64 ik,.int .i64 (fz ik h),.int .i64 (fz ik m),.int .i64 v,.int .i64 f,.int .i64 t,.sl bs,.sl ts,.sl rs]),[]):=by
 unfold fz
 by_cases h1:ik=7
 ·simp only[h1,zadq,if_true];exact zW zy9
 ·by_cases h2:ik=6
  ·simp only[h1,h2,or_true,if_true];exact zW zy9
  ·simp only[h1,h2,zacP,if_false];exact zW zy9
def zX7(i:Invocation):Prop:=i.tokens=[]/\i.bodies.length<=2/\(∀b∈i.bodies,b.length<=3)/\0<=i.home/\i.home<=3/\0<=i.max/\i.max<=3/\0<=i.visibility/\i.visibility<=100/\0<=i.from_/\i.from_<=4/\0<=i.to/\i.to<=3
def zgL(c:Command):Prop:=c.refs.length<=2/\(∀r∈c.refs,0<=r.index/\r.index<=5/\r.raw.length=1)/\zX7 c.inv
def zq9(l:List Int)(r:Option (Go.Sim.AV×zd)):Prop:=∃c a',zgL c/\r=some (.d (zaW c),[(1000000,zB l a')])
theorem zjW{l:List Int}{k p b ik h m v f t:Int}{a':Nat}(h1:0<=h)(h2:h<=3)(h3:0<=m)(h4:m<=3)(h5:0<=v)(h6:v<=100)(h7:0<=f)(h8:f<=4)(h9:0<=t)(h10:t<=3):zfF (zq9 l) (some (.d (.agg [.int .i64 k,.int .i64 p,.int .i64 b,.int .i64 ik,.int .i64 h,.int .i64 m,.int .i64 v,.int .i64 f,.int .i64 t,.sl [],.sl [],.sl []]),[(1000000,zB l a')])):=
 ⟨⟨k,p,b,⟨ik,h,m,v,f,t,[],[]⟩,[]⟩,a',⟨by simp,by simp,rfl,by simp,by simp,h1,h2,h3,h4,h5,h6,h7,h8,h9,h10⟩,rfl⟩
theorem zGI{l:List Int}(bs:List (List UInt8)){k p b ik:Int}{a':Nat}(h1:bs.length<=2)(h2:∀b∈bs,b.length<=3):zfF (zq9 l) (some (.d (.agg [.int .i64 k,.int .i64 p,.int .i64 b,.int .i64 ik,.int .i64 (fz 1 0),.int .i64 (fz 1 0),.int .i64 0,.int .i64 0,.int .i64 0,.sl (bs.map D.str),.sl [],.sl []]),[(1000000,zB l a')])):=
 ⟨⟨k,p,b,⟨ik,0,0,0,0,0,bs,[]⟩,[]⟩,a',⟨by simp,by simp,rfl,h1,h2,by simp⟩,rfl⟩
theorem zra{l:List Int}(rs:List Ref){k p b ik x v:Int}{a':Nat}(h1:0<=v)(h2:v<=100)(h3:rs.length<=2)(h4:∀r∈rs,0<=r.index/\r.index<=5/\r.raw.length=1):zfF (zq9 l) (some (.d (.agg [.int .i64 k,.int .i64 p,.int .i64 b,.int .i64 ik,.int .i64 (fz x 0),.int .i64 (fz x 0),.int .i64 v,.int .i64 0,.int .i64 0,.sl [],.sl [],.sl (rs.map zhE)]),[(1000000,zB l a')])):=by
 have e:fz x 0=0:=by unfold fz;split<;>rfl
 rw[e];exact⟨⟨k,p,b,⟨ik,0,0,v,0,0,[],[]⟩,rs⟩,a',⟨h3,h4,rfl,by simp,by simp,by simp [h1,h2]⟩,rfl⟩
theorem zS3(l:List Int)(a:Nat)(hL:l.length<=4000):zfF (zq9 l) (zi G zio [.ref 1000000 0 0] [(1000000,zB l a)]):=by
 obtain⟨a1,q1⟩:∃a1,(za0 l a).2=a1:=⟨_,rfl⟩;obtain⟨a2,q2⟩:∃a2,(za0 l a1).2=a2:=⟨_,rfl⟩;obtain⟨a3,q3⟩:∃a3,(za0 l a2).2=a3:=⟨_,rfl⟩;have n1:=zbE l a (n:=20) zo;have n2:=zbE l a1 (n:=4) zo;have n3:=zbE l a2 (n:=2) zo;have hn:=fun at1 m=>zgr l at1 m hL;have hr:=fun at1 lo hi=>zng l at1 lo hi hL;have hb:=fun at1=>(zDL l at1 hL).2;have hf:=zWd;have hp:=fun at1 xs=>z4Y l at1 xs hL;have p1:=fun at1=>hp at1 [1,1,2,3,5,8,14,30] (by simp) (by simp);have p2:=fun at1=>hp at1 [0,1,3,10,40] (by simp) (by simp);have p3:=fun at1=>hp at1 [0,1,5,20,100] (by simp) (by simp);have p4:=fun at1=>hp at1 [0,1,10,50] (by simp) (by simp);have p5:=fun at1=>hp at1 [7,7,6,8] (by simp) (by simp);have p6:=fun at1=>hp at1 [0,0,0,0,2,3,4,5,7] (by simp) (by simp);simp only[zC,zabs,zabq] at p1 p2 p3 p4 p5 p6;clear hp;have b3:=fun at1=>(zDL l at1 hL).1;have v3:∀at1,0<=[0,1,5,20,100].getD (nD l at1 5).toNat (0:Int)/\[0,1,5,20,100].getD (nD l at1 5).toNat (0:Int)<=100:=fun at1=>zMW (xs:=[0,1,5,20,100]) (by decide) (by simp) (by simp);have v4:∀at1,0<=[0,1,10,50].getD (nD l at1 4).toNat (0:Int)/\[0,1,10,50].getD (nD l at1 4).toNat (0:Int)<=100:=fun at1=>by
  have:=zMW (l:=l) (a:=at1) (xs:=[0,1,10,50]) (lo:=0) (hi:=50) (by decide) (by simp) (by simp);exact⟨this.1,Int.le_trans this.2 (by decide)⟩
 have w3:=v3 a3;have w4:=v4 a3;have n4:=zbE l a2 (n:=3) zo;have n5:=zbE l a3 (n:=3) zo;have n6:=zbE l a3 (n:=4) zo;have n7:=zbE l a3 (n:=5) zo;have n8:=zbE l a3 (n:=2) zo;obtain⟨a4,q4⟩:∃a4,(za0 l a3).2=a4:=⟨_,rfl⟩;have n9:=zbE l a4 (n:=2) zo;have n10:∀at1,0<=nD l at1 6/\nD l at1 6<6:=fun at1=>zbE l at1 (n:=6) zo;clear v3 v4;have u8:∀at1,∃c:UInt8,nD l at1 256=c.toNat:=fun at1=>by
  have:=zbE l at1 (n:=256) zo;exact⟨UInt8.ofNat (nD l at1 256).toNat,by rw[UInt8.toNat_ofNat'];omega⟩
 rcases (show nD l a 20<9\/nD l a 20=9\/(nD l a 20=10\/nD l a 20=11\/nD l a 20=12)\/(nD l a 20=13\/nD l a 20=14)\/(nD l a 20=15\/nD l a 20=16)\/nD l a 20=17\/nD l a 20=18\/nD l a 20=19 by omega) with c|c|c|c|c|c|c|c
 ·rw[zI ze8 (by simp)];simp -implicitDefEqProofs (maxSteps:=4000000) (disch:=omega) only[zd5,zeq,zh,go_sem, *];(try simp only[zPr]);repeat' (first|done|rfl|((first|refine zad (fun hq=> ?_) (fun hq=> ?_)|refine zaj (fun hq=> ?_) (fun hq=> ?_))<;>(try (first|(exfalso;omega)|contradiction))<;>(try simp -implicitDefEqProofs (maxSteps:=4000000) (disch:=omega) only[zh,go_sem, *])<;>(try simp only[zPr])));(all_goals try rfl);(all_goals try (repeat' (first|done|rfl|(exfalso;omega)|contradiction|(refine zae (fun hq=> ?_) (fun hq=> ?_)))))
  all_goals (refine zjW ?_ ?_ ?_ ?_ ?_ ?_ ?_ ?_ ?_ ?_<;>omega)
 ·rw[zI ze8 (by simp)];simp -implicitDefEqProofs (maxSteps:=4000000) (disch:=omega) only[zd5,zeq,zh,go_sem, *];(try simp only[zPr]);repeat' (first|done|rfl|((first|refine zad (fun hq=> ?_) (fun hq=> ?_)|refine zaj (fun hq=> ?_) (fun hq=> ?_))<;>(try (first|(exfalso;omega)|contradiction))<;>(try simp -implicitDefEqProofs (maxSteps:=4000000) (disch:=omega) only[zh,go_sem, *])<;>(try simp only[zPr])));(all_goals try rfl);(all_goals try (repeat' (first|done|rfl|(exfalso;omega)|contradiction|(refine zae (fun hq=> ?_) (fun hq=> ?_)))))
  all_goals (refine zjW ?_ ?_ ?_ ?_ ?_ ?_ ?_ ?_ ?_ ?_<;>omega)
 ·rcases (show nD l a2 2=0\/nD l a2 2=1 by omega) with m0|m0
  ·rcases c with c|c|c
   all_goals (rw[zI ze8 (by simp)];simp -implicitDefEqProofs (maxSteps:=4000000) (disch:=omega) only[zd5,zeq,zaC,zmD,zh,go_sem, *];(try simp only[zPr]);repeat' (first|done|rfl|((first|refine zad (fun hq=> ?_) (fun hq=> ?_)|refine zaj (fun hq=> ?_) (fun hq=> ?_))<;>(try (first|(exfalso;omega)|contradiction))<;>(try simp -implicitDefEqProofs (maxSteps:=4000000) (disch:=omega) only[zaC,zmD,zh,go_sem, *])<;>(try simp only[zPr])));(all_goals try rfl);(all_goals try (repeat' (first|done|rfl|(exfalso;omega)|contradiction|(refine zae (fun hq=> ?_) (fun hq=> ?_))))))
   all_goals exact zGI [_] (by simp) (by intro b hb;simp only[zab1] at hb;subst hb;exact b3 _)
  ·rcases c with c|c|c
   all_goals (rw[zI ze8 (by simp)];simp -implicitDefEqProofs (maxSteps:=4000000) (disch:=omega) only[zd5,zeq,zaC,zmD,zh,go_sem, *];(try simp only[zPr]);repeat' (first|done|rfl|((first|refine zad (fun hq=> ?_) (fun hq=> ?_)|refine zaj (fun hq=> ?_) (fun hq=> ?_))<;>(try (first|(exfalso;omega)|contradiction))<;>(try simp -implicitDefEqProofs (maxSteps:=4000000) (disch:=omega) only[zaC,zmD,zh,go_sem, *])<;>(try simp only[zPr])));(all_goals try rfl);(all_goals try (repeat' (first|done|rfl|(exfalso;omega)|contradiction|(refine zae (fun hq=> ?_) (fun hq=> ?_))))))
   all_goals exact zGI [_,_] (by simp) (by intro b hb;simp only[zab4,zadi,zacP] at hb;rcases hb with rfl|rfl<;>exact b3 _)
 ·rcases c with c|c
  all_goals (rw[zI ze8 (by simp)];simp -implicitDefEqProofs (maxSteps:=4000000) (disch:=omega) only[zd5,zeq,zh,go_sem, *];(try simp only[zPr]);repeat' (first|done|rfl|((first|refine zad (fun hq=> ?_) (fun hq=> ?_)|refine zaj (fun hq=> ?_) (fun hq=> ?_))<;>(try (first|(exfalso;omega)|contradiction))<;>(try simp -implicitDefEqProofs (maxSteps:=4000000) (disch:=omega) only[zh,go_sem, *])<;>(try simp only[zPr])));(all_goals try rfl);(all_goals try (repeat' (first|done|rfl|(exfalso;omega)|contradiction|(refine zae (fun hq=> ?_) (fun hq=> ?_))))))
  all_goals (refine zjW ?_ ?_ ?_ ?_ ?_ ?_ ?_ ?_ ?_ ?_<;>(try simp only[fz])<;>(try split)<;>omega)
 ·rcases (show nD l a2 3=2\/¬nD l a2 3=2 by omega) with k5|k5
  ·obtain⟨s1,t1⟩:∃s1,(za0 l a4).2=s1:=⟨_,rfl⟩;obtain⟨s2,t2⟩:∃s2,(za0 l s1).2=s2:=⟨_,rfl⟩;obtain⟨s3,t3⟩:∃s3,(za0 l s2).2=s3:=⟨_,rfl⟩;obtain⟨s4,t4⟩:∃s4,(za0 l s3).2=s4:=⟨_,rfl⟩;obtain⟨s5,t5⟩:∃s5,(za0 l s4).2=s5:=⟨_,rfl⟩;obtain⟨s6,t6⟩:∃s6,(za0 l s5).2=s6:=⟨_,rfl⟩;obtain⟨c1,d1⟩:=u8 s3;obtain⟨c2,d2⟩:=u8 s6;have e1:=c1.toNat_lt;have e2:=c2.toNat_lt;have r1:=zbE l s1 (n:=6) zo;have r2:=zbE l s4 (n:=6) zo
   rcases (show nD l a4 2=0\/nD l a4 2=1 by omega) with m0|m0
   ·rcases c with c|c
    all_goals (rw[zI ze8 (by simp)];simp -implicitDefEqProofs (maxSteps:=4000000) (disch:=omega) only[zd5,zeq,zaC,zgZ,zh,go_sem, *];(try simp only[zPr]);repeat' (first|done|rfl|((first|refine zad (fun hq=> ?_) (fun hq=> ?_)|refine zaj (fun hq=> ?_) (fun hq=> ?_))<;>(try (first|(exfalso;omega)|contradiction))<;>(try simp -implicitDefEqProofs (maxSteps:=4000000) (disch:=omega) only[zaC,zgZ,zh,go_sem, *])<;>(try simp only[zPr])));(all_goals try rfl);(all_goals try (repeat' (first|done|rfl|(exfalso;omega)|contradiction|(refine zae (fun hq=> ?_) (fun hq=> ?_))))))
    all_goals (refine zra [⟨nD l s1 6,[0,0,0,0,2,3,4,5,7].getD (nD l s2 9).toNat 0,[c1]⟩] ?_ ?_ (by simp) ?_;(first|omega|exact zads _);(first|omega|decide);intro r hr;simp only[zab1] at hr;subst hr;exact⟨r1.1,by simp only;omega,rfl⟩)
   ·rcases c with c|c
    all_goals (rw[zI ze8 (by simp)];simp -implicitDefEqProofs (maxSteps:=4000000) (disch:=omega) only[zd5,zeq,zaC,zgZ,zh,go_sem, *];(try simp only[zPr]);repeat' (first|done|rfl|((first|refine zad (fun hq=> ?_) (fun hq=> ?_)|refine zaj (fun hq=> ?_) (fun hq=> ?_))<;>(try (first|(exfalso;omega)|contradiction))<;>(try simp -implicitDefEqProofs (maxSteps:=4000000) (disch:=omega) only[zaC,zgZ,zh,go_sem, *])<;>(try simp only[zPr])));(all_goals try rfl);(all_goals try (repeat' (first|done|rfl|(exfalso;omega)|contradiction|(refine zae (fun hq=> ?_) (fun hq=> ?_))))))
    all_goals (refine zra [⟨nD l s1 6,[0,0,0,0,2,3,4,5,7].getD (nD l s2 9).toNat 0,[c1]⟩,⟨nD l s4 6,[0,0,0,0,2,3,4,5,7].getD (nD l s5 9).toNat 0,[c2]⟩] ?_ ?_ (by simp) ?_;(first|omega|exact zads _);(first|omega|decide);intro r hr;simp only[zab4,zadi,zacP] at hr;rcases hr with rfl|rfl;exact⟨r1.1,by simp only;omega,rfl⟩;exact⟨r2.1,by simp only;omega,rfl⟩)
  ·obtain⟨s1,t1⟩:∃s1,(za0 l a3).2=s1:=⟨_,rfl⟩;obtain rfl:s1=a4:=t1.symm.trans q4;obtain⟨s2,t2⟩:∃s2,(za0 l s1).2=s2:=⟨_,rfl⟩;obtain⟨s3,t3⟩:∃s3,(za0 l s2).2=s3:=⟨_,rfl⟩;obtain⟨s4,t4⟩:∃s4,(za0 l s3).2=s4:=⟨_,rfl⟩;obtain⟨s5,t5⟩:∃s5,(za0 l s4).2=s5:=⟨_,rfl⟩;obtain⟨s6,t6⟩:∃s6,(za0 l s5).2=s6:=⟨_,rfl⟩;obtain⟨c1,d1⟩:=u8 s3;obtain⟨c2,d2⟩:=u8 s6;have e1:=c1.toNat_lt;have e2:=c2.toNat_lt;have r1:=zbE l s1 (n:=6) zo;have r2:=zbE l s4 (n:=6) zo
   rcases (show nD l a3 2=0\/nD l a3 2=1 by omega) with m0|m0
   ·rcases c with c|c
    all_goals (rw[zI ze8 (by simp)];simp -implicitDefEqProofs (maxSteps:=4000000) (disch:=omega) only[zd5,zeq,zaC,zgZ,zh,go_sem, *];(try simp only[zPr]);repeat' (first|done|rfl|((first|refine zad (fun hq=> ?_) (fun hq=> ?_)|refine zaj (fun hq=> ?_) (fun hq=> ?_))<;>(try (first|(exfalso;omega)|contradiction))<;>(try simp -implicitDefEqProofs (maxSteps:=4000000) (disch:=omega) only[zaC,zgZ,zh,go_sem, *])<;>(try simp only[zPr])));(all_goals try rfl);(all_goals try (repeat' (first|done|rfl|(exfalso;omega)|contradiction|(refine zae (fun hq=> ?_) (fun hq=> ?_))))))
    all_goals (refine zra [⟨nD l s1 6,[0,0,0,0,2,3,4,5,7].getD (nD l s2 9).toNat 0,[c1]⟩] ?_ ?_ (by simp) ?_;(first|omega|exact zads _);(first|omega|decide);intro r hr;simp only[zab1] at hr;subst hr;exact⟨r1.1,by simp only;omega,rfl⟩)
   ·rcases c with c|c
    all_goals (rw[zI ze8 (by simp)];simp -implicitDefEqProofs (maxSteps:=4000000) (disch:=omega) only[zd5,zeq,zaC,zgZ,zh,go_sem, *];(try simp only[zPr]);repeat' (first|done|rfl|((first|refine zad (fun hq=> ?_) (fun hq=> ?_)|refine zaj (fun hq=> ?_) (fun hq=> ?_))<;>(try (first|(exfalso;omega)|contradiction))<;>(try simp -implicitDefEqProofs (maxSteps:=4000000) (disch:=omega) only[zaC,zgZ,zh,go_sem, *])<;>(try simp only[zPr])));(all_goals try rfl);(all_goals try (repeat' (first|done|rfl|(exfalso;omega)|contradiction|(refine zae (fun hq=> ?_) (fun hq=> ?_))))))
    all_goals (refine zra [⟨nD l s1 6,[0,0,0,0,2,3,4,5,7].getD (nD l s2 9).toNat 0,[c1]⟩,⟨nD l s4 6,[0,0,0,0,2,3,4,5,7].getD (nD l s5 9).toNat 0,[c2]⟩] ?_ ?_ (by simp) ?_;(first|omega|exact zads _);(first|omega|decide);intro r hr;simp only[zab4,zadi,zacP] at hr;rcases hr with rfl|rfl;exact⟨r1.1,by simp only;omega,rfl⟩;exact⟨r2.1,by simp only;omega,rfl⟩)
 ·rw[zI ze8 (by simp)];simp -implicitDefEqProofs (maxSteps:=4000000) (disch:=omega) only[zd5,zeq,zh,go_sem, *];(try simp only[zPr]);repeat' (first|done|rfl|((first|refine zad (fun hq=> ?_) (fun hq=> ?_)|refine zaj (fun hq=> ?_) (fun hq=> ?_))<;>(try (first|(exfalso;omega)|contradiction))<;>(try simp -implicitDefEqProofs (maxSteps:=4000000) (disch:=omega) only[zh,go_sem, *])<;>(try simp only[zPr])));(all_goals try rfl);(all_goals try (repeat' (first|done|rfl|(exfalso;omega)|contradiction|(refine zae (fun hq=> ?_) (fun hq=> ?_)))))
  all_goals (refine zjW ?_ ?_ ?_ ?_ ?_ ?_ ?_ ?_ ?_ ?_<;>(try simp only[fz])<;>(try split)<;>omega)
 ·rw[zI ze8 (by simp)];simp -implicitDefEqProofs (maxSteps:=4000000) (disch:=omega) only[zd5,zeq,zh,go_sem, *];(try simp only[zPr]);repeat' (first|done|rfl|((first|refine zad (fun hq=> ?_) (fun hq=> ?_)|refine zaj (fun hq=> ?_) (fun hq=> ?_))<;>(try (first|(exfalso;omega)|contradiction))<;>(try simp -implicitDefEqProofs (maxSteps:=4000000) (disch:=omega) only[zh,go_sem, *])<;>(try simp only[zPr])));(all_goals try rfl);(all_goals try (repeat' (first|done|rfl|(exfalso;omega)|contradiction|(refine zae (fun hq=> ?_) (fun hq=> ?_)))))
  all_goals (refine zjW ?_ ?_ ?_ ?_ ?_ ?_ ?_ ?_ ?_ ?_<;>(try simp only[fz])<;>(try split)<;>omega)
 ·rw[zI ze8 (by simp)];simp -implicitDefEqProofs (maxSteps:=4000000) (disch:=omega) only[zd5,zeq,zh,go_sem, *];(try simp only[zPr]);repeat' (first|done|rfl|((first|refine zad (fun hq=> ?_) (fun hq=> ?_)|refine zaj (fun hq=> ?_) (fun hq=> ?_))<;>(try (first|(exfalso;omega)|contradiction))<;>(try simp -implicitDefEqProofs (maxSteps:=4000000) (disch:=omega) only[zh,go_sem, *])<;>(try simp only[zPr])));(all_goals try rfl);(all_goals try (repeat' (first|done|rfl|(exfalso;omega)|contradiction|(refine zae (fun hq=> ?_) (fun hq=> ?_)))))
  all_goals (refine zjW ?_ ?_ ?_ ?_ ?_ ?_ ?_ ?_ ?_ ?_<;>(try simp only[fz])<;>(try split)<;>omega)
theorem zGH:∃f:List Int->Nat->Command×Nat,∀l a,l.length<=4000->zgL (f l a).1/\zi G zio [.ref 1000000 0 0] [(1000000,zB l a)]=some (.d (zaW (f l a).1),[(1000000,zB l (f l a).2)]):=by
 have h:∀l a,∃p:Command×Nat,l.length<=4000->zgL p.1/\zi G zio [.ref 1000000 0 0] [(1000000,zB l a)]=some (.d (zaW p.1),[(1000000,zB l p.2)]):=fun l a=>by
  by_cases h:l.length<=4000
  ·obtain⟨c,a',h1,h2⟩:=zS3 l a h;exact⟨(c,a'),fun _=>⟨h1,h2⟩⟩
  ·exact⟨(zRp,0),fun h'=>absurd h' h⟩
 exact⟨fun l a=>Classical.choose (h l a),fun l a hl=>zaci (h l a) hl⟩
noncomputable def zjV:List Int->Nat->Command×Nat:=Classical.choose zGH
theorem zS2(l:List Int)(a:Nat)(hL:l.length<=4000):zgL (zjV l a).1/\zi G zio [.ref 1000000 0 0] [(1000000,zB l a)]=some (.d (zaW (zjV l a).1),[(1000000,zB l (zjV l a).2)]):=zaci zGH l a hL
def scS(l:List Int)(n:Int)(p:List Command×Nat×Nat):St:=⟨[(0,.ref 1000000 0 0),(1,.d (.int .i64 n)),(5,.acc 5 (p.1.map zaW)),(6,.d (.int .i64 p.2.2)),(1000000,.ref 1000000 1 0)],[(5,.acc p.1.length),(1000000,zB l p.2.1)]⟩
def zQw(l:List Int)(n:Nat)(r:Option (zX×St)):Prop:=∃(cs:List Command) (a':Nat),cs.length<=n/\(∀c∈cs,zgL c)/\r=some (.exit 0,⟨[(5,.acc 5 (cs.map zaW)),(1000000,.ref 1000000 1 0)],[(5,.acc cs.length),(1000000,zB l a')]⟩)
theorem z8A(l:List Int)(n:Nat)(hL:l.length<=4000)(hn:n<=400):∀p:List Command×Nat×Nat,(p.1.length=p.2.2/\p.2.2<=n/\∀c∈p.1,zgL c)->zQw l n (z6 G [] zmE (scS l n p)):=by
 refine zsO (fun p:List Command×Nat×Nat=>n - p.2.2) _ (scS l n) (fun _=>zfF (zQw l n)) fun⟨cs,a,k⟩ ⟨h1,h2,h3⟩ L ih=> ?_;simp only at h1 h2 h3;subst h1;have hm:=zZP l a hL
 by_cases h0:cs.length<n
 ·obtain⟨hc,hcmd⟩:=zS2 l a hL;have i1:=ih (cs++[(zjV l a).1],(zjV l a).2,cs.length+1) ⟨by simp only[zabv,zab3],by simp only;omega,fun c hh=>(zabS.1 hh).elim (fun h=>h3 c h) (fun h=>by rw[zab1.1 h];exact hc)⟩ (by simp only;omega);generalize zjV l a=cc at *;obtain⟨c,a2⟩:=cc;simp only at *
  by_cases hmo:(a:Int)<l.length
  ·rw[zabM hmo] at hm;clear ih hc hmo;simp only[scS,zmE,zB] at *;simp only[zNr,zB] at i1;have sz_c:=zUm c;generalize zaW c=D_c at *;exact zS
  ·rw[zabP hmo] at hm;clear ih hc i1 hmo;simp only[scS,zmE,zB] at *
   (try simp -implicitDefEqProofs (maxSteps:=4000000) (disch:=omega) only[zh,go_sem, *]);(try simp only[zPr]);repeat' (first|done|rfl|((first|refine zad (fun hq=> ?_) (fun hq=> ?_)|refine zaj (fun hq=> ?_) (fun hq=> ?_))<;>(try (first|(exfalso;omega)|contradiction))<;>(try simp -implicitDefEqProofs (maxSteps:=4000000) (disch:=omega) only[zh,go_sem, *])<;>(try simp only[zPr])));(all_goals try rfl);(all_goals try (repeat' (first|done|rfl|(exfalso;omega)|contradiction|(refine zae (fun hq=> ?_) (fun hq=> ?_)))))
   all_goals exact⟨cs,a,by omega,h3,rfl⟩
 ·clear ih;simp only[scS,zmE,zB] at *
  (try simp -implicitDefEqProofs (maxSteps:=4000000) (disch:=omega) only[zh,go_sem, *]);(try simp only[zPr]);repeat' (first|done|rfl|((first|refine zad (fun hq=> ?_) (fun hq=> ?_)|refine zaj (fun hq=> ?_) (fun hq=> ?_))<;>(try (first|(exfalso;omega)|contradiction))<;>(try simp -implicitDefEqProofs (maxSteps:=4000000) (disch:=omega) only[zh,go_sem, *])<;>(try simp only[zPr])));(all_goals try rfl);(all_goals try (repeat' (first|done|rfl|(exfalso;omega)|contradiction|(refine zae (fun hq=> ?_) (fun hq=> ?_)))))
  all_goals exact⟨cs,a,by omega,h3,rfl⟩
theorem z8B(l:List Int)(a n:Nat)(hL:l.length<=4000)(hn:n<=400):∃(cs:List Command) (a':Nat),cs.length<=n/\(∀c∈cs,zgL c)/\zi G zn0 [.ref 1000000 0 0,.d (.int .i64 n)] [(1000000,zB l a)]=some (.d (.sl (cs.map zaW)),[(1000000,zB l a')]):=by
 obtain⟨cs,a',h1,h2,h⟩:=z8A l n hL hn ([],a,0) ⟨rfl,by simp,fun c h=>by cases h⟩;refine⟨cs,a',h1,h2,?_⟩;simp only[scS,zabq,zabw,zabQ] at h;clear h2;exact zW zWG
theorem zXE{c:Command}(h:zgL c):ziB c:=⟨h.1,fun r hr=>by have:=(h.2.1 r hr).2.2;omega,h.2.2.1,by have:=h.2.2.2.1;omega⟩
theorem zIS{l:List Command}(h:∀c∈l,zgL c):∀c∈l,ziB c:=fun c hc=>zXE (h c hc)
def zjj:Setup:=⟨1,1,1,1,1,0,1,0⟩
theorem zaaX(l:List Int)(a n:Nat)(hL:l.length<=4000)(hn:n<=400):∃(w:World) (u:Setup) (a':Nat),u.slots<=4/\QI u 102000 w/\zi G zlm [.ref 1000000 0 0,.d (.int .i64 n)] [(1000000,zB l a)]=some (.d (zF w),[(1000000,zB l a')]):=by
 obtain⟨u,a1,hu4,hset⟩:=z9b l a hL;have h4:u.slots<=4:=hu4.2.1;clear hu4;obtain⟨cs,a2,h1,h2,hscr⟩:=z8B l a1 n hL hn;have hrun:=z7W (u:=u) (l:=cs) h4 zo (zIS h2);have hnew:=zMv zjj (by decide);have e0:(zc1 zjj).2=0:=by
  unfold zc1 zbL;simp [za3,inI,zjj]
 have hq0:=zBr (u:=zjj) e0;rw[e0] at hnew;have hq:=z7Z (u:=u) (l:=cs) zo (zIS h2);clear e0 h2;generalize zgw zaB u cs=r at *;generalize zc1 zjj=r0 at *;obtain⟨w,e⟩:=r;obtain⟨w0,e0⟩:=r0;simp only[zB] at *
 by_cases c:e=0
 ·subst c;refine⟨w,u,a2,h4,hq rfl,?_⟩;clear hq hq0 hnew;have sz_w:=za6 w;generalize zF w=D_w at *;have sz_u:=zHe u;generalize zaJ u=D_u at *;exact zW zH0
 ·refine⟨w0,zjj,a2,by decide,hq0.mono zo,?_⟩;replace c:=zabt c;clear hq hq0;simp only[zaJ,zjj] at hnew;have sz_w:=za6 w;generalize zF w=D_w at *;have sz_w0:=za6 w0;generalize zF w0=D_w0 at *;have sz_u:=zHe u;generalize zaJ u=D_u at *;exact zW zH0
end Go.Proofs.YtnmcgdpmikhohaaGreat
