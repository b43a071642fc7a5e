/-
  What happens beside a task, where no other task is.
-/
import Derived.Test.YtjalkkalhdnplaaGreatB907f86f
import Derived.Test.YtjalkkalhdnplaaGreatB4fa303d
import Derived.Test.YtjalkkalhdnplaaGreatBbac9897
import Derived.Test.YtjalkkalhdnplaaGreatB4cd137a
import Derived.Test.YtjalkkalhdnplaaGreatBf94735e
import Derived.Test.YtjalkkalhdnplaaGreatBae8e4d4
set_option linter.unusedSimpArgs false
set_option linter.unusedVariables false
set_option maxHeartbeats 10000000
set_option maxRecDepth 100000
namespace Go.Proofs.YtjalkkalhdnplaaGreat
open Go Go.Sim
theorem zG1{i:zaS}{s:Setup}(h:zb4 i s=0):zc3 i<=6:=by
 unfold zb4 at h;unfold zc3
 by_cases c1:i.kind=1
 ·rw[zWz c1] at h ⊢
  by_cases c:i.bodies.length=0\/6<i.bodies.length
  ·rw[zWz c] at h;cases h
  ·omega
 rw[zWy c1] at h ⊢
 by_cases c3:3<=i.kind/\i.kind<=5
 ·rw[zWy zo,zWz c3] at h;rw[zWz c3]
  by_cases c:i.tokens.length=0\/6<i.tokens.length
  ·rw[zWz c] at h;cases h
  ·omega
 ·rw[zWy c3];decide
structure QI(u:Setup)(B:Int)(w:World):Prop where
 wi:WI u w
 lb:LB B w
 hl:(w.handles.length:Int)<=12 * w.steps
 hb:∀b∈w.handles,b.length<=16
 tk:∀t∈w.tasks,t.results.length<=6/\∀b∈t.inv.tokens,b.length<=16
theorem QI.mono{u:Setup}{B C:Int}{w:World}(h:QI u B w)(hb:B<=C):QI u C w:={ h with lb:=h.lb.mono hb }
theorem zUQ{K:Tok}(hK:zdT K)(hE:∀h,(K.enc h).1.length<=16){u:Setup}{B:Int}{w:World}{i:Nat}(h:QI u B w)(hi:i<w.tasks.length)(e:(zcM K w i).2=0):QI u (B+1) (zcM K w i).1:=by
 refine { wi:=zCr hK h.wi hi e,lb:=zUP h.lb e,hl:= ?_,hb:= ?_,tk:= ?_ }
 all_goals
  have ht:=h.tk (w.tasks.getD i zC) (by rw[zq hi];exact zWH hi);have hT:=h.wi.ts (w.tasks.getD i zC) (by rw[zq hi];exact zWH hi);have h1:=h.hl;have h2:=h.hb;have h3:=h.tk;have hr:=zsZ hE w.arena (w.tasks.getD i zC) (w.steps+1);have hd:(zaQ K w.arena (w.tasks.getD i zC) (w.steps+1)).2.2.2=0->(w.tasks.getD i zC).done=false:=by
   intro q
   cases hq:(w.tasks.getD i zC).done with
   | false=>rfl
   | true=>unfold zaQ at q;rw[zWz hq] at q;exact absurd q (by decide)
  unfold zcM at e ⊢;simp only at e ⊢;generalize w.tasks.getD i zC=t at *;generalize zaQ K w.arena t (w.steps+1)=r at *
  by_cases c:r.2.2.2=0
  rotate_left
  ·rw[zWz c] at e;exact absurd e c
  rw[zWy (fun q=>q c)];obtain⟨q1,q2⟩:=hr c;have hent:=hT.e1 (hd c);have hres:=hT.e2;have hsix:=zG1 hT.iv;clear hr hd e c;simp only
 ·rcases q2 with q2|⟨x,hx,q2⟩
  ·rw[q2];simp only[zXp,zWA,zYT,zWZ];omega
  ·rw[q2];simp only[zZS,zWD,zWA,zZT,zYT,zWZ,zWJ];omega
 ·intro b hb
  rcases zW3.1 hb with hb|hb
  ·exact h2 b hb
  ·rcases q2 with q2|⟨x,hx,q2⟩
   ·rw[q2] at hb;simp only[zXp,zWA,zYT] at hb;cases hb
   ·rw[q2] at hb;simp only[zZS,zWD,zWA,zZT,zYT,zWZ] at hb;exact hx.2 b hb
 ·intro x hx
  rcases zjb hx with hx|hx
  ·rw[hx,q1];refine⟨?_,ht.2⟩
   rcases q2 with q2|⟨x,hx,q2⟩
   ·rw[q2];omega
   ·rw[q2,zWJ,zW6];omega
  ·exact h3 x hx
theorem zBp{K:Tok}(hK:zdT K)(hE:∀h,(K.enc h).1.length<=16){u:Setup}{B:Int}{w:World}{k:Int}(h:QI u B w)(e:(zcI K w k).2=0):QI u (B+1) (zcI K w k).1:=by
 unfold zcI at e ⊢
 by_cases c:k<0\/((za9 w).length:Int)<=k
 ·rw[zWz c] at e;cases e
 ·rw[zWy c] at e ⊢;exact zUQ hK hE h (zoE zo) e
theorem zVt{u:Setup}{B:Int}{w:World}{by_:Int}(h:QI u B w)(e:(zdy w by_).2=0):QI u (B+1) (zdy w by_).1:=by
 have h1:=zCD h.wi e;have h2:=zVs h.lb e;have h3:=h.hl;unfold zdy at e h1 h2 ⊢
 by_cases c:(zea w.arena by_).2=0
 ·rw[zWy (fun q=>q c)] at h1 h2 ⊢;exact { wi:=h1,lb:=h2,hl:=by simp only;omega,hb:=h.hb,tk:=h.tk }
 ·rw[zWz c] at e;exact absurd e c
theorem zNg{u:Setup}{B:Int}{w:World}{i:zaS}(h:QI u B w)(hi:∀b∈i.tokens,b.length<=16)(e:(zcH w i).2.2=0):QI u B (zcH w i).1:=by
 have h1:=zAc h.wi e;have h2:=zNf h.lb e;unfold zcH at e h1 h2 ⊢
 by_cases c:200<=w.tasks.length\/8<=(za9 w).length
 ·rw[zWz c] at e;cases e
 rw[zWy c] at e h1 h2 ⊢
 by_cases c2:(zcz (w.tasks.length+1) i w.setup w.steps).2=0
 ·rw[zWy (fun q=>q c2)] at h1 h2 ⊢;refine { wi:=h1,lb:=h2,hl:=h.hl,hb:=h.hb,tk:=fun t ht=> ?_ }
  rcases zW3.1 ht with ht|ht
  ·exact h.tk t ht
  ·rw[zW7.1 ht];unfold zcz
   split
   ·exact⟨by simp [zC],by simp [zC,ziu]⟩
   split
   ·exact⟨by simp [zC],by simp [zC,ziu]⟩
   split
   ·exact⟨by simp [zC],by simp [zC,ziu]⟩
   ·exact⟨by simp [zC],hi⟩
 ·rw[zWz c2] at e;exact absurd e c2
theorem zVI{K:Tok}(hE:∀h,(K.enc h).1.length<=16){r:Ref}{hs:List (List UInt8)}(h1:r.raw.length<=16)(h2:∀b∈hs,b.length<=16):(ze8 K r hs).length<=16:=by
 have hb:∀k,(hs.getD k []).length<=16:=fun k=>by
  rw[zWG]
  cases hq:hs[k]? with
  | none=>simp
  | some b=>exact h2 b (zWX hq)
 unfold ze8;simp only;generalize ((zbw r.index 0).tmod hs.length).toNat=k
 split
 ·exact h1
 split
 ·exact hb k
 split
 ·rw[zW8];exact hb k
 split
 ·generalize (if r.variant=2 then ({ (K.par (hs.getD k [])).1 with gen:=(K.par (hs.getD k [])).1.gen+1 }:zaW) else if r.variant=3 then { (K.par (hs.getD k [])).1 with gen:=(K.par (hs.getD k [])).1.gen - 1 } else { (K.par (hs.getD k [])).1 with route:=((K.par (hs.getD k [])).1.route+1).tmod 65536 })=h
  split
  ·exact hb k
  ·exact hE h
 ·exact hb k
theorem zUU{u:Setup}{B:Int}{w:World}{i:Nat}(h:QI u B w)(hB:B<=200000)(hi:i<w.tasks.length):zh G 186 [.d (zy w),.d (.int .i64 i)] []=some (.d (.tup [zy (zcM zag w i).1,.int .i64 (zcM zag w i).2]),[]):=by
 have h1:=h.lb.st;have h2:=h.lb.lg;have h3:=h.hl;have h4:=h.tk _ (zWH hi);have hr:=zsZ zmR w.arena w.tasks[i] (w.steps+1);refine zUN zgv h.wi hi zo zo ?_ (fun q=> ?_) zo zo (fun b hb=> ?_)
 ·have:=zCB zag w.arena w.tasks[i] (w.steps+1);omega
 ·rcases (hr q).2 with q2|⟨x,hx,q2⟩
  ·exact .inl q2
  ·exact .inr ⟨x,by omega,q2⟩
 ·have:=h4.2 b hb;omega
theorem zQx{u:Setup}{B:Int}{w:World}{k:Int}(h:QI u B w)(hB:B<=200000):zh G 142 [.d (zy w),.d (.int .i64 k)] []=some (.d (.tup [zy (zcI zag w k).1,.int .i64 (zcI zag w k).2]),[]):=
 zQu h.wi fun i hi=>zUU h hB hi
noncomputable def pkR(c:Command):Nat->World->Option (zT×St)
 | 0,w=>some (.exit 1,⟨[(2,.ref 2 0 0),(4,.ref 4 0 0)],[(2,.row [.d (zy w)]),(4,zWr)]⟩)
 | n+1,w=>if (za9 w).length=0 then some (.ret,⟨[(4,.ref 4 0 0),(5,.d (.int .i64 0))],[(4,.row [.d (zy w)])]⟩) else if (zcI zag w ((zbw c.pick 0).tmod (za9 w).length)).2≠0 then some (.ret,⟨[(4,.ref 4 0 0),(5,.d (.int .i64 (zcI zag w ((zbw c.pick 0).tmod (za9 w).length)).2))],[(4,zWr)]⟩) else pkR c n (zcI zag w ((zbw c.pick 0).tmod (za9 w).length)).1
theorem zQA(c:Command):∀(n:Nat) (w:World),(∃w',zgr zag c.pick n w=(w',0)/\(pkR c n w=some (.exit 1,⟨[(2,.ref 2 0 0),(4,.ref 4 0 0)],[(2,.row [.d (zy w')]),(4,zWr)]⟩)\/pkR c n w=some (.ret,⟨[(4,.ref 4 0 0),(5,.d (.int .i64 0))],[(4,.row [.d (zy w')])]⟩)))\/(∃e,e≠0/\zgr zag c.pick n w=(zaA,e)/\pkR c n w=some (.ret,⟨[(4,.ref 4 0 0),(5,.d (.int .i64 e))],[(4,zWr)]⟩)):=by
 intro n
 induction n with
 | zero=>intro w;exact .inl ⟨w,rfl,.inl rfl⟩
 | succ n ih=>
  intro w;unfold zgr pkR
  by_cases c1:(za9 w).length=0
  ·rw[zWz c1,zWz c1];exact .inl ⟨w,rfl,.inr rfl⟩
  rw[zWy c1,zWy c1]
  by_cases c2:(zcI zag w ((zbw c.pick 0).tmod (za9 w).length)).2=0
  ·rw[zWy (fun q=>q c2),zWy (fun q=>q c2)];exact ih _
  ·rw[zWz c2,zWz c2];exact .inr ⟨_,c2,rfl,rfl⟩
def pkS(c:Command)(m:Nat)(p:Nat×World):St:=⟨[(2,.ref 2 0 0),(3,.ref 3 0 0),(4,.ref 4 0 0),(6,.d (.int .i64 m)),(7,.d (.int .i64 p.1))],[(2,.row [.d (zy p.2)]),(3,.row [.d (zaZ c)]),(4,zWr)]⟩
theorem zQB{u:Setup}{c:Command}{m:Nat}(hm:m<=255){B:Int}(hB:B<=102000):∀p:Nat×World,(p.1<=m/\QI u (B+p.1) p.2)->zN G [] zru (pkS c m p)=pkR c (m - p.1) p.2:=by
 refine zaB (fun p:Nat×World=>m - p.1) _ _ _ fun⟨k,w⟩ ⟨h1,h2⟩ L ih=> ?_;simp only at h1 h2;simp only[pkS,zru] at ih ⊢
 by_cases h0:k<m
 ·have hk:=h2.wi.tl;have hn:=zmc w zo;have hc:=zoC w zo;have hol:=zoD w;have e1:m - k=(m - (k+1))+1:=by omega
  rw[e1];unfold pkR
  by_cases c1:(za9 w).length=0
  ·rw[zWz c1];rw[<- hol] at c1;have h:=hn (zXk.1 c1);clear hn hc ih h2 hol c1 e1 hk;have sz_w:=zbk w;generalize zy w=D_w at *;simp only[zaZ];unfold zWr;exact zS
  ·rw[zWy c1];have hp:=zQx (k:=(zbw c.pick 0).tmod (za9 w).length) h2 zo;have hq:=zBp zgv.ok zmR (k:=(zbw c.pick 0).tmod (za9 w).length) h2;have hmx:(if c.pick<0 then 0 else c.pick)=zbw c.pick 0:=by
    unfold zbw;rfl
   generalize zbw c.pick 0=y at *;rw[<- hol] at *;generalize hO:opL w.tasks w.tasks.length=o at *
   rcases o with _|⟨o1,o⟩
   ·exact absurd rfl c1
   have h:=hc o1 o rfl;generalize zcI zag w (y.tmod ((o1::o).length:Int))=r at *;obtain⟨w2,e⟩:=r;simp only[zWI] at hp hq c1
   by_cases c2:e=0
   ·subst c2;have i1:=ih (k+1,w2) ⟨by simp only;omega,by have:=hq rfl;rw[show B+((k+1:Nat):Int)=B+k+1 by omega];exact this⟩ (by simp only;omega);rw[zWy (by simp)];simp only at i1;clear hn hc ih h2 hol c1 e1 hk hq hO;generalize pkR c (m - (k+1)) w2=z at *;have sz_w:=zbk w;generalize zy w=D_w at *;have sz_w2:=zbk w2;generalize zy w2=D_w2 at *;obtain⟨ck,pk,by_,iv,rf⟩:=c;simp only[zaZ] at *;unfold zWr at *;simp only[zNr,zp] at i1 hp;exact zS
   ·rw[zWz c2];replace c2:=zWE c2;clear hn hc ih h2 hol c1 e1 hk hq hO;have sz_w:=zbk w;generalize zy w=D_w at *;have sz_w2:=zbk w2;generalize zy w2=D_w2 at *;obtain⟨ck,pk,by_,iv,rf⟩:=c;simp only[zaZ] at *;unfold zWr at *;simp only[zNr,zp] at hp;exact zS
 ·have e1:m - k=0:=by omega
  rw[e1];clear ih h2;unfold pkR;have sz_w:=zbk w;generalize zy w=D_w at *;simp only[zaZ];unfold zWr;exact zS
theorem zF1{u:Setup}{B:Int}{w:World}{c:Command}(h:QI u B w)(hB:B<=102000)(hk:c.kind=1):zh G 92 [.d (zy w),.d (zaZ c)] []=some (.d (.tup [zy (doW zag w c).1,.int .i64 (doW zag w c).2]),[]):=by
 have hm:(if 0<(if 255<c.by_ then 255 else c.by_) then (if 255<c.by_ then 255 else c.by_) else 0)=zbw 0 (zgm c.by_ 255):=by
  unfold zbw zgm
  by_cases q1:c.by_<255<;>by_cases q2:255<c.by_<;>simp only[q1,q2,if_true,if_false]<;>split<;>omega
 have hb:=ztT c.by_;have h0:0<=zbw 0 (zgm c.by_ 255):=by unfold zbw;split<;>omega
 unfold doW;simp only;generalize zbw 0 (zgm c.by_ 255)=m at *;obtain⟨n,rfl⟩:∃n:Nat,m=n:=⟨m.toNat,by omega⟩;rw[zWz hk];simp only[zXb] at *;have hl:=zQB (c:=c) hb hB (0,w) ⟨by simp,by simpa using h⟩;have hc:=zQA c n w;simp only[pkS,zX8,zWV] at hl;clear h hb;obtain⟨k,pk,by_,iv,rf⟩:=c;simp only at *;subst hk
 rcases hc with ⟨v,hp,hr⟩|⟨e,he,hp,hr⟩
 ·rw[hp]
  rcases hr with hr|hr
  all_goals
   rw[hr] at hl;clear hp hr;simp only;have sz_w:=zbk w;generalize zy w=D_w at *;have sz_v:=zbk v;generalize zy v=D_v at *;simp only[zaZ] at *;unfold zWr at *
  ·exact zW
  ·exact zW
 ·rw[hp];rw[hr] at hl;have hz:zy zaA= .agg [.int .i64 0,.int .i64 0,.int .i64 0,.int .i64 0,.int .i64 0,.int .i64 0,.int .i64 0,.int .i64 0,.sl [],.sl [],.int .i64 0,.int .i64 0,.sl [],.int .i64 0,.sl [],.sl [],.int .i64 0,.int .i64 0,.int .i64 0,.sl [],.sl [],.int .i64 0,.sl []]:=rfl;simp only[hz];clear hp hr hz;replace he:=zWE he;have sz_w:=zbk w;generalize zy w=D_w at *;simp only[zaZ] at *;unfold zWr at *;exact zW
theorem zWk:∀n:Fin 256,zjB .u8 (n.val:Int) 1=((UInt8.ofNat n.val ^^^ 1).toNat:Int):=by decide+kernel
theorem zWl(v:UInt8):zjB .u8 (v.toNat:Int) 1=((v ^^^ 1).toNat:Int):=by
 have:=zWk ⟨v.toNat,v.toNat_lt⟩;simp only[UInt8.ofNat_toNat] at this;exact this
theorem zVJ(r:Ref)(hs:List (List UInt8))(hl:hs.length<=10000000)(hb:∀b∈hs,b.length<=16):zh G 144 [.d (zhS r),.d (.sl (hs.map zax))] []=some (.d (zax (ze8 zag r hs)),[]):=by
 obtain⟨ri,rv,rr⟩:=r;have hmx:(if ri<0 then 0 else ri)=zbw ri 0:=by
  unfold zbw;rfl
 unfold ze8;simp only[zhS]
 by_cases c7:rv=7
 ·subst c7;rw[zWz (by simp)];clear hb hmx;simp only[zax];generalize byD rr=R;exact zW
 by_cases c0:hs.length=0
 ·rw[zWz (.inr c0)];have:=zXk.1 c0;subst this;clear hb hmx;replace c7:=zWE c7;simp only[zax,zWA];exact zW
 rw[zWy (by simp only[not_or];exact⟨c7,c0⟩)];have hn0:0<=zbw ri 0:=by unfold zbw;split<;>omega
 generalize zbw ri 0=y at *;obtain⟨k,hk⟩:∃k:Nat,y.tmod hs.length=k:=⟨(y.tmod hs.length).toNat,by have:=zZg (hs.length:Int) hn0;omega⟩;have hkl:k<hs.length:=by have:=zZl y (b:=hs.length) zo;omega
 rw[hk,zXb];have hg:hs.getD k []=hs[k]:=zq hkl;have hg2:(hs.map zax)[k]? = some (zax hs[k]):=by rw[zWT,zWF hkl];rfl
 rw[hg];have hbl:=hb _ (zWH hkl);have hlen:(hs.map zax).length=hs.length:=zWM _;generalize hs[k]=b at *;have hp:=zgv.pa b zo;have hq:=zVp b;have hq2:=zgv.ok.par b;generalize zag.par b=p at *;obtain⟨h,e⟩:=p;simp only at hp hq hq2 ⊢;clear hg hb;generalize hs.map zax=H at *;replace c7:=zWE c7;have hbd:(byD b).length=b.length:=by unfold byD;simp
 have en:=zgv.en;simp only[zaz,zax] at hp hg2 en ⊢
 by_cases ce:e=0
 ·subst ce;obtain⟨q1,q2,q3⟩:=hq rfl;obtain⟨⟨q4,q5⟩,_⟩:=hq2 rfl;rw[zWy (by simp)];rw[q1] at hbd;obtain⟨h1,h2,h3,h4⟩:=h;simp only at *;clear hq hq2;have fin:∀h':zaW,∃x:List D,byD (if (zag.enc h').2≠0 then b else (zag.enc h').1)=x:=fun _=>⟨_,rfl⟩
  by_cases v5:rv=5
  ·subst v5;rw[zWz (rfl:(5:Int)=5)];clear en fin;have hb15:(byD b)[15]? = some (.int .u8 ((b.getD 15 0).toNat)):=by
    unfold byD;rw[zWT,zWF zo,zq zo];rfl
   have hset:byD (b.set (b.length - 1) (b.getD (b.length - 1) 0 ^^^ 1))=(byD b).set 15 (.int .u8 ((b.getD 15 0 ^^^ 1).toNat)):=by
    rw[q1];unfold byD;rw[zXy]
   rw[hset];have hx:=zWl (b.getD 15 0);have ha:zas 1 (byD b)=true:=by simp [zas,byD,D.size,D.cells]
   have hb16:∀h:15<(byD b).length,(byD b)[15]'h= .int .u8 ((b.getD 15 0).toNat):=fun h=>by
    have:=zWF h;rw[hb15] at this;exact (Option.some.inj this).symm
   generalize b.getD 15 0=v at *;generalize byD b=R at *;clear q1 hbl hset;rw[zO zMA (by simp)];simp -implicitDefEqProofs (maxSteps:=4000000) (disch:=omega) only[zp0,zq,go_sem, *];(try simp only[zPr]);repeat' (first|done|rfl|((first|refine za5 (fun hq=> ?_) (fun hq=> ?_)|refine zbd (fun hq=> ?_) (fun hq=> ?_))<;>(try (first|(exfalso;omega)|contradiction))<;>(try simp -implicitDefEqProofs (maxSteps:=4000000) (disch:=omega) only[zq,go_sem, *])<;>(try simp only[zPr])));(all_goals try rfl);(all_goals try (repeat' (first|done|rfl|(exfalso;omega)|contradiction|(refine za6 (fun hq=> ?_) (fun hq=> ?_)))))
   all_goals rw[zYp (by rw[zW8];omega)]
  rw[zWy v5]
  by_cases v2:rv=2
  ·subst v2;rw[zWz (.inl rfl),zWz (rfl:(2:Int)=2)];have e1:=en ⟨h1,h2+1,h3,h4⟩;generalize zag.enc ⟨h1,h2+1,h3,h4⟩=z at *;obtain⟨zb,ze⟩:=z;simp only at *;clear en fin
   by_cases cz:ze=0
   ·subst cz;rw[zWy (by simp)];generalize byD b=R at *;generalize byD zb=Z at *;clear q1 hbl;exact zW
   ·rw[zWz cz];replace cz:=zWE cz;generalize byD b=R at *;generalize byD zb=Z at *;clear q1 hbl;exact zW
  by_cases v3:rv=3
  ·subst v3;rw[zWz (.inr (.inl rfl)),zWy (by decide:¬(3:Int)=2),zWz (rfl:(3:Int)=3)];have e1:=en ⟨h1,h2 - 1,h3,h4⟩;generalize zag.enc ⟨h1,h2 - 1,h3,h4⟩=z at *;obtain⟨zb,ze⟩:=z;simp only at *;clear en fin
   by_cases cz:ze=0
   ·subst cz;rw[zWy (by simp)];generalize byD b=R at *;generalize byD zb=Z at *;clear q1 hbl;exact zW
   ·rw[zWz cz];replace cz:=zWE cz;generalize byD b=R at *;generalize byD zb=Z at *;clear q1 hbl;exact zW
  by_cases v4:rv=4
  ·subst v4;rw[zWz (.inr (.inr rfl)),zWy (by decide:¬(4:Int)=2),zWy (by decide:¬(4:Int)=3)];have e1:=en ⟨h1,h2,(h3+1).tmod 65536,h4⟩;generalize zag.enc ⟨h1,h2,(h3+1).tmod 65536,h4⟩=z at *;obtain⟨zb,ze⟩:=z;simp only at *;clear en fin
   by_cases cz:ze=0
   ·subst cz;rw[zWy (by simp)];generalize byD b=R at *;generalize byD zb=Z at *;clear q1 hbl;exact zW
   ·rw[zWz cz];replace cz:=zWE cz;generalize byD b=R at *;generalize byD zb=Z at *;clear q1 hbl;exact zW
  rw[zWy (by simp only[not_or];exact⟨v2,v3,v4⟩)];replace v2:=zWE v2;replace v3:=zWE v3;replace v4:=zWE v4;replace v5:=zWE v5;clear en fin;generalize byD b=R at *;clear q1 hbl;exact zW
 ·rw[zWz ce];replace ce:=zWE ce;clear hq hq2 en;obtain⟨h1,h2,h3,h4⟩:=h;simp only at *;generalize byD b=R at *;exact zW
theorem zF2{u:Setup}{B:Int}{w:World}{c:Command}(h4:u.slots<=4)(h:QI u B w)(hB:B<=102000)(hk:c.kind=3)(h1:1<=c.refs.length)(h2:c.refs.length<=2)(hb:c.inv.bodies.length<=1000):zh G 92 [.d (zy w),.d (zaZ c)] []=some (.d (.tup [zy (doW zag w c).1,.int .i64 (doW zag w c).2]),[]):=by
 have hh:=h.hl;have hst:=h.lb.st;have hi:=fun v:zaS=>zAb w (i:=v) (by rw[h.wi.su];exact h4) h.wi.tl;have ht:=fun r=>zVJ r w.handles zo h.hb;have hhl:w.handles.length<=4294967296:=by omega
 unfold doW;simp only;have hp0:0<c.refs.length:=by omega
 rw[zWy zo,zWy zo,zWz hk];simp only[zWz hp0];clear hp0;clear h hh hst h4;obtain⟨k,pk,by_,⟨v1,v2,v3,v4,v5,v6,bs,ts⟩,rf⟩:=c;simp only at *;subst hk
 rcases rf with _|⟨r1,_|⟨r2,rf⟩⟩
 ·simp at h1
 ·have hv:=hi ⟨v1,v2,v3,v4,v5,v6,bs,[ze8 zag r1 w.handles]⟩ (by simp) (by simp only;omega);have t1:=ht r1;clear hi ht h1 h2;simp only[zWD,zWA];generalize ze8 zag r1 w.handles=x1 at *;generalize zcH w ⟨v1,v2,v3,v4,v5,v6,bs,[x1]⟩=r at *;obtain⟨r,n,e⟩:=r;simp only at *;obtain⟨s,wa,tasks,log,steps,handles⟩:=w;simp only at hhl t1
  by_cases c:e=0
  ·subst c;rw[zWz rfl];have sz_r:=zbk r;generalize zy r=D_r at *;simp only[zy,zaZ,zbK,zhS,zWD,zWA] at *;have ex1:zax x1= .sl (byD x1):=rfl;rw[ex1] at t1 hv;clear ex1;generalize byD x1=y1 at *;have zk0:= @za0;have zk1:=zlZ.eq_1;exact zW
  ·rw[zWy c];replace c:=zWE c;have sz_r:=zbk r;generalize zy r=D_r at *;simp only[zy,zaZ,zbK,zhS,zWD,zWA] at *;have ex1:zax x1= .sl (byD x1):=rfl;rw[ex1] at t1 hv;clear ex1;generalize byD x1=y1 at *;have zk0:= @za0;have zk1:=zlZ.eq_1;exact zW
 ·have hv:=hi ⟨v1,v2,v3,v4,v5,v6,bs,[ze8 zag r1 w.handles,ze8 zag r2 w.handles]⟩ (by simp) (by simp only;omega);have:rf=[]:=by simp only[zWI] at h2;exact zXk.1 zo
  subst this;have t1:=ht r1;have t2:=ht r2;clear hi ht h1 h2;simp only[zWD,zWA];generalize ze8 zag r1 w.handles=x1 at *;generalize ze8 zag r2 w.handles=x2 at *;generalize zcH w ⟨v1,v2,v3,v4,v5,v6,bs,[x1,x2]⟩=r at *;obtain⟨r,n,e⟩:=r;simp only at *;obtain⟨s,wa,tasks,log,steps,handles⟩:=w;simp only at hhl t1 t2
  by_cases c:e=0
  ·subst c;rw[zWz rfl];have sz_r:=zbk r;generalize zy r=D_r at *;simp only[zy,zaZ,zbK,zhS,zWD,zWA] at *;have ex1:zax x1= .sl (byD x1):=rfl;have ex2:zax x2= .sl (byD x2):=rfl;rw[ex1] at t1 hv;rw[ex2] at t2 hv;clear ex1 ex2;generalize byD x1=y1 at *;generalize byD x2=y2 at *;have zk0:= @za0;have zk1:=zlZ.eq_1;exact zW
  ·rw[zWy c];replace c:=zWE c;have sz_r:=zbk r;generalize zy r=D_r at *;simp only[zy,zaZ,zbK,zhS,zWD,zWA] at *;have ex1:zax x1= .sl (byD x1):=rfl;have ex2:zax x2= .sl (byD x2):=rfl;rw[ex1] at t1 hv;rw[ex2] at t2 hv;clear ex1 ex2;generalize byD x1=y1 at *;generalize byD x2=y2 at *;have zk0:= @za0;have zk1:=zlZ.eq_1;exact zW
def ziM(c:Command):Prop:=c.refs.length<=2/\(∀r∈c.refs,r.raw.length<=16)/\c.inv.tokens=[]/\c.inv.bodies.length<=1000
theorem zFZ{u:Setup}{B:Int}{w:World}{c:Command}(h4:u.slots<=4)(h:QI u B w)(hB:B<=102000)(hc:ziM c):zh G 92 [.d (zy w),.d (zaZ c)] []=some (.d (.tup [zy (doW zag w c).1,.int .i64 (doW zag w c).2]),[]):=by
 have h1:=h.lb.st;have h2:=h.lb.lg;obtain⟨c1,c2,c3,c4⟩:=hc
 by_cases k1:c.kind=1
 ·exact zF1 h hB k1
 by_cases k2:c.kind=2
 ·exact zF3 h.wi zo zo k2
 by_cases k3:c.kind=3
 ·by_cases hr:c.refs=[]
  ·exact zFY (by rw[h.wi.su];exact h4) h.wi.tl (by rw[c3];simp) zo k3 hr
  ·exact zF2 h4 h hB k3 (zX6.2 hr) c1 c4
 ·exact zF0 k1 k2 k3
theorem zQy{u:Setup}(k:Int):∀(n:Nat) (B:Int) (w:World),QI u B w->(zgr zag k n w).2=0->QI u (B+n) (zgr zag k n w).1:=by
 intro n
 induction n with
 | zero=>intro B w h _;exact h.mono zo
 | succ n ih=>
  intro B w h e;unfold zgr at e ⊢
  by_cases c:(za9 w).length=0
  ·rw[zWz c];exact h.mono zo
  rw[zWy c] at e ⊢
  by_cases c2:(zcI zag w ((zbw k 0).tmod (za9 w).length)).2=0
  ·rw[zWy (fun q=>q c2)] at e ⊢;exact (ih _ _ (zBp zgv.ok zmR h c2) e).mono zo
  ·rw[zWz c2] at e;exact absurd e c2
theorem zx1{u:Setup}{B:Int}{w:World}{c:Command}(h:QI u B w)(hc:ziM c)(e:(doW zag w c).2=0):QI u (B+255) (doW zag w c).1:=by
 obtain⟨g1,g2,g3,g4⟩:=hc;unfold doW at e ⊢;simp only at e ⊢
 by_cases c1:c.kind=1
 ·rw[zWz c1] at e ⊢;have:=ztT c.by_;exact (zQy _ _ _ _ h e).mono zo
 rw[zWy c1] at e ⊢
 by_cases c2:c.kind=2
 ·rw[zWz c2]
  split
  ·rename_i q;exact (zVt h q).mono zo
  ·exact h.mono zo
 rw[zWy c2] at e ⊢
 by_cases c3:c.kind=3
 ·rw[zWz c3];have hv:∀b∈(if 0<c.refs.length then { c.inv with tokens:=c.refs.map fun r=>ze8 zag r w.handles } else c.inv).tokens,b.length<=16:=by
   intro b hb
   split at hb
   ·obtain⟨r,hr,rfl⟩:=zWP.1 hb;exact zVI zmR (g2 r hr) h.hb
   ·rw[g3] at hb;cases hb
  generalize (if 0<c.refs.length then { c.inv with tokens:=c.refs.map fun r=>ze8 zag r w.handles } else c.inv)=v at *
  split
  ·rename_i q;exact (zNg h hv q).mono zo
  ·exact h.mono zo
 ·rw[zWy c3];exact h.mono zo
theorem zrZ{u:Setup}(e:(zcT u).2=0):QI u 0 (zcT u).1:=by
 unfold zcT at e ⊢
 by_cases c:(zbq u).2=0
 ·rw[zWy (fun q=>q c)];have hu:zav u=true:=by
   cases q:zav u with
   | true=>rfl
   | false=>unfold zbq at c;rw[zWz q] at c;exact absurd c (by simp)
  exact { wi:={ hu:=hu,su:=rfl,ar:=ztI c,ts:=fun t h=>by simp [zaA] at h,tl:=by simp [zaA],st:=by simp [zaA] },lb:=⟨by simp [zaA],by simp [zaA]⟩,hl:=by simp [zaA],hb:=fun b h=>by simp [zaA] at h,tk:=fun t h=>by simp [zaA] at h }
 ·rw[zWz c] at e;exact absurd e c
theorem zSB{u:Setup}{l:List Command}(h4:u.slots<=4)(hL:l.length<=400)(hc:∀c∈l,ziM c):zh G 41 [.d (zaH u),.d (.sl (l.map zaZ))] []=some (.d (.tup [zy (zew zag u l).1,.int .i64 (zew zag u l).2]),[]):=
 zSA (fun k w=>QI u (255 * k) w) h4 hL (fun e=>(zrZ e).mono zo) (fun k w c hm hk h=>zFZ h4 h zo (hc c hm)) (fun k w c hm hk h e=>(zx1 h (hc c hm) e).mono zo)
theorem zSD{u:Setup}:∀(l:List Command) (B:Int) (w:World),(∀c∈l,ziM c)->QI u B w->(zdo zag l w).2=0->QI u (B+255 * l.length) (zdo zag l w).1:=by
 intro l
 induction l with
 | nil=>intro B w _ h _;exact h.mono (by simp)
 | cons c l ih=>
  intro B w hc h e;unfold zdo at e ⊢
  by_cases c1:(doW zag w c).2=0
  ·rw[zWy (fun q=>q c1)] at e ⊢;exact (ih _ _ (fun x hx=>hc x (.tail _ hx)) (zx1 h (hc c (.head _)) c1) e).mono (by simp only[zWI];omega)
  ·rw[zWz c1] at e;exact absurd e c1
theorem zSF{u:Setup}{l:List Command}(hL:l.length<=400)(hc:∀c∈l,ziM c)(e:(zew zag u l).2=0):QI u 102000 (zew zag u l).1:=by
 have h0:=zrZ (u:=u);unfold zcT at h0;unfold zew at e ⊢
 by_cases c1:(zbq u).2=0
 ·rw[zWy (fun q=>q c1)] at e h0 ⊢;rw[zWy zo] at e ⊢;exact (zSD l 0 _ hc (h0 rfl) e).mono zo
 ·rw[zWz c1] at e;exact absurd e c1
theorem zQv(l:List Int)(a:Nat)(xs:List Int)(hL:l.length<=4000)(h1:1<=xs.length)(h2:xs.length<=1000):zh G 34 [.ref 1000000 0 0,.d (.sl (zt xs))] [(1000000,zp l a)]=some (.d (.int .i64 (xs.getD (nD l a xs.length).toNat 0)),[(1000000,zp l (zau l a).2)]):=by
 have hn:=ze0 l a xs.length hL zo zo;have hb:=zbp l a (n:=xs.length) zo;obtain⟨i,hi⟩:∃i:Nat,nD l a xs.length=i:=⟨(nD l a xs.length).toNat,by omega⟩;rw[hi] at hn hb ⊢;have hlt:i<xs.length:=by omega
 rw[show ((i:Int)).toNat=i by omega,zq hlt];clear hb hi;exact zW
theorem zBq{l:List Int}{a:Nat}{xs:List Int}{lo hi:Int}(h:∀x∈xs,lo<=x/\x<=hi)(h1:1<=xs.length)(h2:xs.length<=1000):lo<=xs.getD (nD l a xs.length).toNat 0/\xs.getD (nD l a xs.length).toNat 0<=hi:=by
 have:=zbp l a (n:=xs.length) zo;rw[zq (show (nD l a xs.length).toNat<xs.length by omega)];exact h _ (zWH _)
def fz(k x:Int):Int:=if k=7\/k=6 then 0 else x
theorem zIs(k p b ik h m v f t:Int)(bs ts rs:List D):zh G 146 [.d (.agg [.int .i64 k,.int .i64 p,.int .i64 b,.int .i64 ik,.int .i64 h,.int .i64 m,.int .i64 v,.int .i64 f,.int .i64 t,.sl bs,.sl ts,.sl rs])] []=
    some (.d (.agg [.int .i64 k,.int .i64 p,.int .i64 b,.int .i64 ik,.int .i64 (fz ik h),.int .i64 (fz ik m),.int .i64 v,.int .i64 f,.int .i64 t,.sl bs,.sl ts,.sl rs]),[]):=by
 unfold fz
 by_cases h1:ik=7
 ·simp only[h1,zYP,if_true];exact zW
 ·by_cases h2:ik=6
  ·simp only[h1,h2,or_true,if_true];exact zW
  ·simp only[h1,h2,zXZ,if_false];exact zW
def zNc(i:zaS):Prop:=i.tokens=[]/\i.bodies.length<=2/\(∀b∈i.bodies,b.length<=3)/\0<=i.home/\i.home<=3/\0<=i.max/\i.max<=3/\0<=i.visibility/\i.visibility<=100/\0<=i.from_/\i.from_<=4/\0<=i.to/\i.to<=3
def zhe(c:Command):Prop:=c.refs.length<=2/\(∀r∈c.refs,0<=r.index/\r.index<=5/\r.raw.length=1)/\zNc c.inv
def znh(l:List Int)(r:Option (Go.Sim.AV×zf)):Prop:=∃c a',zhe c/\r=some (.d (zaZ c),[(1000000,zp l a')])
theorem zjW{l:List Int}{k p b ik h m v f t:Int}{a':Nat}(h1:0<=h)(h2:h<=3)(h3:0<=m)(h4:m<=3)(h5:0<=v)(h6:v<=100)(h7:0<=f)(h8:f<=4)(h9:0<=t)(h10:t<=3):zbV (znh l) (some (.d (.agg [.int .i64 k,.int .i64 p,.int .i64 b,.int .i64 ik,.int .i64 h,.int .i64 m,.int .i64 v,.int .i64 f,.int .i64 t,.sl [],.sl [],.sl []]),[(1000000,zp l a')])):=
 ⟨⟨k,p,b,⟨ik,h,m,v,f,t,[],[]⟩,[]⟩,a',⟨by simp,by simp,rfl,by simp,by simp,h1,h2,h3,h4,h5,h6,h7,h8,h9,h10⟩,rfl⟩
theorem zxK{l:List Int}(bs:List (List UInt8)){k p b ik:Int}{a':Nat}(h1:bs.length<=2)(h2:∀b∈bs,b.length<=3):zbV (znh l) (some (.d (.agg [.int .i64 k,.int .i64 p,.int .i64 b,.int .i64 ik,.int .i64 (fz 1 0),.int .i64 (fz 1 0),.int .i64 0,.int .i64 0,.int .i64 0,.sl (bs.map D.str),.sl [],.sl []]),[(1000000,zp l a')])):=
 ⟨⟨k,p,b,⟨ik,0,0,0,0,0,bs,[]⟩,[]⟩,a',⟨by simp,by simp,rfl,h1,h2,by simp⟩,rfl⟩
theorem zni{l:List Int}(rs:List Ref){k p b ik x v:Int}{a':Nat}(h1:0<=v)(h2:v<=100)(h3:rs.length<=2)(h4:∀r∈rs,0<=r.index/\r.index<=5/\r.raw.length=1):zbV (znh l) (some (.d (.agg [.int .i64 k,.int .i64 p,.int .i64 b,.int .i64 ik,.int .i64 (fz x 0),.int .i64 (fz x 0),.int .i64 v,.int .i64 0,.int .i64 0,.sl [],.sl [],.sl (rs.map zhS)]),[(1000000,zp l a')])):=by
 have e:fz x 0=0:=by unfold fz;split<;>rfl
 rw[e];exact⟨⟨k,p,b,⟨ik,0,0,v,0,0,[],[]⟩,rs⟩,a',⟨h3,h4,rfl,by simp,by simp,by simp [h1,h2]⟩,rfl⟩
theorem zEQ(l:List Int)(a:Nat)(hL:l.length<=4000):zbV (znh l) (zh G 93 [.ref 1000000 0 0] [(1000000,zp l a)]):=by
 obtain⟨a1,q1⟩:∃a1,(zau l a).2=a1:=⟨_,rfl⟩;obtain⟨a2,q2⟩:∃a2,(zau l a1).2=a2:=⟨_,rfl⟩;obtain⟨a3,q3⟩:∃a3,(zau l a2).2=a3:=⟨_,rfl⟩;have n1:=zbp l a (n:=20) zo;have n2:=zbp l a1 (n:=4) zo;have n3:=zbp l a2 (n:=2) zo;have hn:=fun at1 m=>ze0 l at1 m hL;have hr:=fun at1 lo hi=>zmp l at1 lo hi hL;have hb:=fun at1=>(ztP l at1 hL).2;have hf:=zIs;have hp:=fun at1 xs=>zQv l at1 xs hL;have p1:=fun at1=>hp at1 [1,1,2,3,5,8,14,30] (by simp) (by simp);have p2:=fun at1=>hp at1 [0,1,3,10,40] (by simp) (by simp);have p3:=fun at1=>hp at1 [0,1,5,20,100] (by simp) (by simp);have p4:=fun at1=>hp at1 [0,1,10,50] (by simp) (by simp);have p5:=fun at1=>hp at1 [7,7,6,8] (by simp) (by simp);have p6:=fun at1=>hp at1 [0,0,0,0,2,3,4,5,7] (by simp) (by simp);simp only[zt,zWD,zWA] at p1 p2 p3 p4 p5 p6;clear hp;have b3:=fun at1=>(ztP l at1 hL).1;have v3:∀at1,0<=[0,1,5,20,100].getD (nD l at1 5).toNat (0:Int)/\[0,1,5,20,100].getD (nD l at1 5).toNat (0:Int)<=100:=fun at1=>zBq (xs:=[0,1,5,20,100]) (by decide) (by simp) (by simp);have v4:∀at1,0<=[0,1,10,50].getD (nD l at1 4).toNat (0:Int)/\[0,1,10,50].getD (nD l at1 4).toNat (0:Int)<=100:=fun at1=>by
  have:=zBq (l:=l) (a:=at1) (xs:=[0,1,10,50]) (lo:=0) (hi:=50) (by decide) (by simp) (by simp);exact⟨this.1,zYA this.2 (by decide)⟩
 have w3:=v3 a3;have w4:=v4 a3;have n4:=zbp l a2 (n:=3) zo;have n5:=zbp l a3 (n:=3) zo;have n6:=zbp l a3 (n:=4) zo;have n7:=zbp l a3 (n:=5) zo;have n8:=zbp l a3 (n:=2) zo;obtain⟨a4,q4⟩:∃a4,(zau l a3).2=a4:=⟨_,rfl⟩;have n9:=zbp l a4 (n:=2) zo;have n10:∀at1,0<=nD l at1 6/\nD l at1 6<6:=fun at1=>zbp l at1 (n:=6) zo;clear v3 v4;have u8:∀at1,∃c:UInt8,nD l at1 256=c.toNat:=fun at1=>by
  have:=zbp l at1 (n:=256) zo;exact⟨UInt8.ofNat (nD l at1 256).toNat,by rw[UInt8.toNat_ofNat'];omega⟩
 rcases (show nD l a 20<9\/nD l a 20=9\/(nD l a 20=10\/nD l a 20=11\/nD l a 20=12)\/(nD l a 20=13\/nD l a 20=14)\/(nD l a 20=15\/nD l a 20=16)\/nD l a 20=17\/nD l a 20=18\/nD l a 20=19 by omega) with c|c|c|c|c|c|c|c
 ·rw[zO zfE (by simp)];simp -implicitDefEqProofs (maxSteps:=4000000) (disch:=omega) only[zeK,zq,go_sem, *];(try simp only[zPr]);repeat' (first|done|rfl|((first|refine za5 (fun hq=> ?_) (fun hq=> ?_)|refine zbd (fun hq=> ?_) (fun hq=> ?_))<;>(try (first|(exfalso;omega)|contradiction))<;>(try simp -implicitDefEqProofs (maxSteps:=4000000) (disch:=omega) only[zq,go_sem, *])<;>(try simp only[zPr])));(all_goals try rfl);(all_goals try (repeat' (first|done|rfl|(exfalso;omega)|contradiction|(refine za6 (fun hq=> ?_) (fun hq=> ?_)))))
  all_goals (refine zjW ?_ ?_ ?_ ?_ ?_ ?_ ?_ ?_ ?_ ?_<;>omega)
 ·rw[zO zfE (by simp)];simp -implicitDefEqProofs (maxSteps:=4000000) (disch:=omega) only[zeK,zq,go_sem, *];(try simp only[zPr]);repeat' (first|done|rfl|((first|refine za5 (fun hq=> ?_) (fun hq=> ?_)|refine zbd (fun hq=> ?_) (fun hq=> ?_))<;>(try (first|(exfalso;omega)|contradiction))<;>(try simp -implicitDefEqProofs (maxSteps:=4000000) (disch:=omega) only[zq,go_sem, *])<;>(try simp only[zPr])));(all_goals try rfl);(all_goals try (repeat' (first|done|rfl|(exfalso;omega)|contradiction|(refine za6 (fun hq=> ?_) (fun hq=> ?_)))))
  all_goals (refine zjW ?_ ?_ ?_ ?_ ?_ ?_ ?_ ?_ ?_ ?_<;>omega)
 ·rcases (show nD l a2 2=0\/nD l a2 2=1 by omega) with m0|m0
  ·rcases c with c|c|c
   all_goals (rw[zO zfE (by simp)];simp -implicitDefEqProofs (maxSteps:=4000000) (disch:=omega) only[zeK,za0,zlP,zq,go_sem, *];(try simp only[zPr]);repeat' (first|done|rfl|((first|refine za5 (fun hq=> ?_) (fun hq=> ?_)|refine zbd (fun hq=> ?_) (fun hq=> ?_))<;>(try (first|(exfalso;omega)|contradiction))<;>(try simp -implicitDefEqProofs (maxSteps:=4000000) (disch:=omega) only[za0,zlP,zq,go_sem, *])<;>(try simp only[zPr])));(all_goals try rfl);(all_goals try (repeat' (first|done|rfl|(exfalso;omega)|contradiction|(refine za6 (fun hq=> ?_) (fun hq=> ?_))))))
   all_goals exact zxK [_] (by simp) (by intro b hb;simp only[zW7] at hb;subst hb;exact b3 _)
  ·rcases c with c|c|c
   all_goals (rw[zO zfE (by simp)];simp -implicitDefEqProofs (maxSteps:=4000000) (disch:=omega) only[zeK,za0,zlP,zq,go_sem, *];(try simp only[zPr]);repeat' (first|done|rfl|((first|refine za5 (fun hq=> ?_) (fun hq=> ?_)|refine zbd (fun hq=> ?_) (fun hq=> ?_))<;>(try (first|(exfalso;omega)|contradiction))<;>(try simp -implicitDefEqProofs (maxSteps:=4000000) (disch:=omega) only[za0,zlP,zq,go_sem, *])<;>(try simp only[zPr])));(all_goals try rfl);(all_goals try (repeat' (first|done|rfl|(exfalso;omega)|contradiction|(refine za6 (fun hq=> ?_) (fun hq=> ?_))))))
   all_goals exact zxK [_,_] (by simp) (by intro b hb;simp only[zXe,zYB,zXZ] at hb;rcases hb with rfl|rfl<;>exact b3 _)
 ·rcases c with c|c
  all_goals (rw[zO zfE (by simp)];simp -implicitDefEqProofs (maxSteps:=4000000) (disch:=omega) only[zeK,zq,go_sem, *];(try simp only[zPr]);repeat' (first|done|rfl|((first|refine za5 (fun hq=> ?_) (fun hq=> ?_)|refine zbd (fun hq=> ?_) (fun hq=> ?_))<;>(try (first|(exfalso;omega)|contradiction))<;>(try simp -implicitDefEqProofs (maxSteps:=4000000) (disch:=omega) only[zq,go_sem, *])<;>(try simp only[zPr])));(all_goals try rfl);(all_goals try (repeat' (first|done|rfl|(exfalso;omega)|contradiction|(refine za6 (fun hq=> ?_) (fun hq=> ?_))))))
  all_goals (refine zjW ?_ ?_ ?_ ?_ ?_ ?_ ?_ ?_ ?_ ?_<;>(try simp only[fz])<;>(try split)<;>omega)
 ·rcases (show nD l a2 3=2\/¬nD l a2 3=2 by omega) with k5|k5
  ·obtain⟨s1,t1⟩:∃s1,(zau l a4).2=s1:=⟨_,rfl⟩;obtain⟨s2,t2⟩:∃s2,(zau l s1).2=s2:=⟨_,rfl⟩;obtain⟨s3,t3⟩:∃s3,(zau l s2).2=s3:=⟨_,rfl⟩;obtain⟨s4,t4⟩:∃s4,(zau l s3).2=s4:=⟨_,rfl⟩;obtain⟨s5,t5⟩:∃s5,(zau l s4).2=s5:=⟨_,rfl⟩;obtain⟨s6,t6⟩:∃s6,(zau l s5).2=s6:=⟨_,rfl⟩;obtain⟨c1,d1⟩:=u8 s3;obtain⟨c2,d2⟩:=u8 s6;have e1:=c1.toNat_lt;have e2:=c2.toNat_lt;have r1:=zbp l s1 (n:=6) zo;have r2:=zbp l s4 (n:=6) zo
   rcases (show nD l a4 2=0\/nD l a4 2=1 by omega) with m0|m0
   ·rcases c with c|c
    all_goals (rw[zO zfE (by simp)];simp -implicitDefEqProofs (maxSteps:=4000000) (disch:=omega) only[zeK,za0,zhl,zq,go_sem, *];(try simp only[zPr]);repeat' (first|done|rfl|((first|refine za5 (fun hq=> ?_) (fun hq=> ?_)|refine zbd (fun hq=> ?_) (fun hq=> ?_))<;>(try (first|(exfalso;omega)|contradiction))<;>(try simp -implicitDefEqProofs (maxSteps:=4000000) (disch:=omega) only[za0,zhl,zq,go_sem, *])<;>(try simp only[zPr])));(all_goals try rfl);(all_goals try (repeat' (first|done|rfl|(exfalso;omega)|contradiction|(refine za6 (fun hq=> ?_) (fun hq=> ?_))))))
    all_goals (refine zni [⟨nD l s1 6,[0,0,0,0,2,3,4,5,7].getD (nD l s2 9).toNat 0,[c1]⟩] ?_ ?_ (by simp) ?_;(first|omega|exact zXh _);(first|omega|decide);intro r hr;simp only[zW7] at hr;subst hr;exact⟨r1.1,by simp only;omega,rfl⟩)
   ·rcases c with c|c
    all_goals (rw[zO zfE (by simp)];simp -implicitDefEqProofs (maxSteps:=4000000) (disch:=omega) only[zeK,za0,zhl,zq,go_sem, *];(try simp only[zPr]);repeat' (first|done|rfl|((first|refine za5 (fun hq=> ?_) (fun hq=> ?_)|refine zbd (fun hq=> ?_) (fun hq=> ?_))<;>(try (first|(exfalso;omega)|contradiction))<;>(try simp -implicitDefEqProofs (maxSteps:=4000000) (disch:=omega) only[za0,zhl,zq,go_sem, *])<;>(try simp only[zPr])));(all_goals try rfl);(all_goals try (repeat' (first|done|rfl|(exfalso;omega)|contradiction|(refine za6 (fun hq=> ?_) (fun hq=> ?_))))))
    all_goals (refine zni [⟨nD l s1 6,[0,0,0,0,2,3,4,5,7].getD (nD l s2 9).toNat 0,[c1]⟩,⟨nD l s4 6,[0,0,0,0,2,3,4,5,7].getD (nD l s5 9).toNat 0,[c2]⟩] ?_ ?_ (by simp) ?_;(first|omega|exact zXh _);(first|omega|decide);intro r hr;simp only[zXe,zYB,zXZ] at hr;rcases hr with rfl|rfl;exact⟨r1.1,by simp only;omega,rfl⟩;exact⟨r2.1,by simp only;omega,rfl⟩)
  ·obtain⟨s1,t1⟩:∃s1,(zau l a3).2=s1:=⟨_,rfl⟩;obtain rfl:s1=a4:=t1.symm.trans q4;obtain⟨s2,t2⟩:∃s2,(zau l s1).2=s2:=⟨_,rfl⟩;obtain⟨s3,t3⟩:∃s3,(zau l s2).2=s3:=⟨_,rfl⟩;obtain⟨s4,t4⟩:∃s4,(zau l s3).2=s4:=⟨_,rfl⟩;obtain⟨s5,t5⟩:∃s5,(zau l s4).2=s5:=⟨_,rfl⟩;obtain⟨s6,t6⟩:∃s6,(zau l s5).2=s6:=⟨_,rfl⟩;obtain⟨c1,d1⟩:=u8 s3;obtain⟨c2,d2⟩:=u8 s6;have e1:=c1.toNat_lt;have e2:=c2.toNat_lt;have r1:=zbp l s1 (n:=6) zo;have r2:=zbp l s4 (n:=6) zo
   rcases (show nD l a3 2=0\/nD l a3 2=1 by omega) with m0|m0
   ·rcases c with c|c
    all_goals (rw[zO zfE (by simp)];simp -implicitDefEqProofs (maxSteps:=4000000) (disch:=omega) only[zeK,za0,zhl,zq,go_sem, *];(try simp only[zPr]);repeat' (first|done|rfl|((first|refine za5 (fun hq=> ?_) (fun hq=> ?_)|refine zbd (fun hq=> ?_) (fun hq=> ?_))<;>(try (first|(exfalso;omega)|contradiction))<;>(try simp -implicitDefEqProofs (maxSteps:=4000000) (disch:=omega) only[za0,zhl,zq,go_sem, *])<;>(try simp only[zPr])));(all_goals try rfl);(all_goals try (repeat' (first|done|rfl|(exfalso;omega)|contradiction|(refine za6 (fun hq=> ?_) (fun hq=> ?_))))))
    all_goals (refine zni [⟨nD l s1 6,[0,0,0,0,2,3,4,5,7].getD (nD l s2 9).toNat 0,[c1]⟩] ?_ ?_ (by simp) ?_;(first|omega|exact zXh _);(first|omega|decide);intro r hr;simp only[zW7] at hr;subst hr;exact⟨r1.1,by simp only;omega,rfl⟩)
   ·rcases c with c|c
    all_goals (rw[zO zfE (by simp)];simp -implicitDefEqProofs (maxSteps:=4000000) (disch:=omega) only[zeK,za0,zhl,zq,go_sem, *];(try simp only[zPr]);repeat' (first|done|rfl|((first|refine za5 (fun hq=> ?_) (fun hq=> ?_)|refine zbd (fun hq=> ?_) (fun hq=> ?_))<;>(try (first|(exfalso;omega)|contradiction))<;>(try simp -implicitDefEqProofs (maxSteps:=4000000) (disch:=omega) only[za0,zhl,zq,go_sem, *])<;>(try simp only[zPr])));(all_goals try rfl);(all_goals try (repeat' (first|done|rfl|(exfalso;omega)|contradiction|(refine za6 (fun hq=> ?_) (fun hq=> ?_))))))
    all_goals (refine zni [⟨nD l s1 6,[0,0,0,0,2,3,4,5,7].getD (nD l s2 9).toNat 0,[c1]⟩,⟨nD l s4 6,[0,0,0,0,2,3,4,5,7].getD (nD l s5 9).toNat 0,[c2]⟩] ?_ ?_ (by simp) ?_;(first|omega|exact zXh _);(first|omega|decide);intro r hr;simp only[zXe,zYB,zXZ] at hr;rcases hr with rfl|rfl;exact⟨r1.1,by simp only;omega,rfl⟩;exact⟨r2.1,by simp only;omega,rfl⟩)
 ·rw[zO zfE (by simp)];simp -implicitDefEqProofs (maxSteps:=4000000) (disch:=omega) only[zeK,zq,go_sem, *];(try simp only[zPr]);repeat' (first|done|rfl|((first|refine za5 (fun hq=> ?_) (fun hq=> ?_)|refine zbd (fun hq=> ?_) (fun hq=> ?_))<;>(try (first|(exfalso;omega)|contradiction))<;>(try simp -implicitDefEqProofs (maxSteps:=4000000) (disch:=omega) only[zq,go_sem, *])<;>(try simp only[zPr])));(all_goals try rfl);(all_goals try (repeat' (first|done|rfl|(exfalso;omega)|contradiction|(refine za6 (fun hq=> ?_) (fun hq=> ?_)))))
  all_goals (refine zjW ?_ ?_ ?_ ?_ ?_ ?_ ?_ ?_ ?_ ?_<;>(try simp only[fz])<;>(try split)<;>omega)
 ·rw[zO zfE (by simp)];simp -implicitDefEqProofs (maxSteps:=4000000) (disch:=omega) only[zeK,zq,go_sem, *];(try simp only[zPr]);repeat' (first|done|rfl|((first|refine za5 (fun hq=> ?_) (fun hq=> ?_)|refine zbd (fun hq=> ?_) (fun hq=> ?_))<;>(try (first|(exfalso;omega)|contradiction))<;>(try simp -implicitDefEqProofs (maxSteps:=4000000) (disch:=omega) only[zq,go_sem, *])<;>(try simp only[zPr])));(all_goals try rfl);(all_goals try (repeat' (first|done|rfl|(exfalso;omega)|contradiction|(refine za6 (fun hq=> ?_) (fun hq=> ?_)))))
  all_goals (refine zjW ?_ ?_ ?_ ?_ ?_ ?_ ?_ ?_ ?_ ?_<;>(try simp only[fz])<;>(try split)<;>omega)
 ·rw[zO zfE (by simp)];simp -implicitDefEqProofs (maxSteps:=4000000) (disch:=omega) only[zeK,zq,go_sem, *];(try simp only[zPr]);repeat' (first|done|rfl|((first|refine za5 (fun hq=> ?_) (fun hq=> ?_)|refine zbd (fun hq=> ?_) (fun hq=> ?_))<;>(try (first|(exfalso;omega)|contradiction))<;>(try simp -implicitDefEqProofs (maxSteps:=4000000) (disch:=omega) only[zq,go_sem, *])<;>(try simp only[zPr])));(all_goals try rfl);(all_goals try (repeat' (first|done|rfl|(exfalso;omega)|contradiction|(refine za6 (fun hq=> ?_) (fun hq=> ?_)))))
  all_goals (refine zjW ?_ ?_ ?_ ?_ ?_ ?_ ?_ ?_ ?_ ?_<;>(try simp only[fz])<;>(try split)<;>omega)
theorem zxJ:∃f:List Int->Nat->Command×Nat,∀l a,l.length<=4000->zhe (f l a).1/\zh G 93 [.ref 1000000 0 0] [(1000000,zp l a)]=some (.d (zaZ (f l a).1),[(1000000,zp l (f l a).2)]):=by
 have h:∀l a,∃p:Command×Nat,l.length<=4000->zhe p.1/\zh G 93 [.ref 1000000 0 0] [(1000000,zp l a)]=some (.d (zaZ p.1),[(1000000,zp l p.2)]):=fun l a=>by
  by_cases h:l.length<=4000
  ·obtain⟨c,a',h1,h2⟩:=zEQ l a h;exact⟨(c,a'),fun _=>⟨h1,h2⟩⟩
  ·exact⟨(zC4,0),fun h'=>absurd h' h⟩
 exact⟨fun l a=>Classical.choose (h l a),fun l a hl=>zXC (h l a) hl⟩
noncomputable def zjV:List Int->Nat->Command×Nat:=Classical.choose zxJ
theorem zEP(l:List Int)(a:Nat)(hL:l.length<=4000):zhe (zjV l a).1/\zh G 93 [.ref 1000000 0 0] [(1000000,zp l a)]=some (.d (zaZ (zjV l a).1),[(1000000,zp l (zjV l a).2)]):=zXC zxJ l a hL
def scS(l:List Int)(n:Int)(p:List Command×Nat×Nat):St:=⟨[(0,.ref 1000000 0 0),(1,.d (.int .i64 n)),(5,.acc 5 (p.1.map zaZ)),(6,.d (.int .i64 p.2.2)),(1000000,.ref 1000000 1 0)],[(5,.acc p.1.length),(1000000,zp l p.2.1)]⟩
def zB4(l:List Int)(n:Nat)(r:Option (zT×St)):Prop:=∃(cs:List Command) (a':Nat),cs.length<=n/\(∀c∈cs,zhe c)/\r=some (.exit 0,⟨[(5,.acc 5 (cs.map zaZ)),(1000000,.ref 1000000 1 0)],[(5,.acc cs.length),(1000000,zp l a')]⟩)
theorem zTp(l:List Int)(n:Nat)(hL:l.length<=4000)(hn:n<=400):∀p:List Command×Nat×Nat,(p.1.length=p.2.2/\p.2.2<=n/\∀c∈p.1,zhe c)->zB4 l n (zN G [] zlQ (scS l n p)):=by
 refine zl0 (fun p:List Command×Nat×Nat=>n - p.2.2) _ (scS l n) (fun _=>zbV (zB4 l n)) fun⟨cs,a,k⟩ ⟨h1,h2,h3⟩ L ih=> ?_;simp only at h1 h2 h3;subst h1;have hm:=zrU l a hL
 by_cases h0:cs.length<n
 ·obtain⟨hc,hcmd⟩:=zEP l a hL;have i1:=ih (cs++[(zjV l a).1],(zjV l a).2,cs.length+1) ⟨by simp only[zWJ,zW6],by simp only;omega,fun c hh=>(zW3.1 hh).elim (fun h=>h3 c h) (fun h=>by rw[zW7.1 h];exact hc)⟩ (by simp only;omega);generalize zjV l a=cc at *;obtain⟨c,a2⟩:=cc;simp only at *
  by_cases hmo:(a:Int)<l.length
  ·rw[zWY hmo] at hm;clear ih hc hmo;simp only[scS,zlQ,zp] at *;simp only[zNr,zp] at i1;have sz_c:=zGi c;generalize zaZ c=D_c at *;exact zS
  ·rw[zW0 hmo] at hm;clear ih hc i1 hmo;simp only[scS,zlQ,zp] at *
   (try simp -implicitDefEqProofs (maxSteps:=4000000) (disch:=omega) only[zq,go_sem, *]);(try simp only[zPr]);repeat' (first|done|rfl|((first|refine za5 (fun hq=> ?_) (fun hq=> ?_)|refine zbd (fun hq=> ?_) (fun hq=> ?_))<;>(try (first|(exfalso;omega)|contradiction))<;>(try simp -implicitDefEqProofs (maxSteps:=4000000) (disch:=omega) only[zq,go_sem, *])<;>(try simp only[zPr])));(all_goals try rfl);(all_goals try (repeat' (first|done|rfl|(exfalso;omega)|contradiction|(refine za6 (fun hq=> ?_) (fun hq=> ?_)))))
   all_goals exact⟨cs,a,by omega,h3,rfl⟩
 ·clear ih;simp only[scS,zlQ,zp] at *
  (try simp -implicitDefEqProofs (maxSteps:=4000000) (disch:=omega) only[zq,go_sem, *]);(try simp only[zPr]);repeat' (first|done|rfl|((first|refine za5 (fun hq=> ?_) (fun hq=> ?_)|refine zbd (fun hq=> ?_) (fun hq=> ?_))<;>(try (first|(exfalso;omega)|contradiction))<;>(try simp -implicitDefEqProofs (maxSteps:=4000000) (disch:=omega) only[zq,go_sem, *])<;>(try simp only[zPr])));(all_goals try rfl);(all_goals try (repeat' (first|done|rfl|(exfalso;omega)|contradiction|(refine za6 (fun hq=> ?_) (fun hq=> ?_)))))
  all_goals exact⟨cs,a,by omega,h3,rfl⟩
theorem zTq(l:List Int)(a n:Nat)(hL:l.length<=4000)(hn:n<=400):∃(cs:List Command) (a':Nat),cs.length<=n/\(∀c∈cs,zhe c)/\zh G 43 [.ref 1000000 0 0,.d (.int .i64 n)] [(1000000,zp l a)]=some (.d (.sl (cs.map zaZ)),[(1000000,zp l a')]):=by
 obtain⟨cs,a',h1,h2,h⟩:=zTp l n hL hn ([],a,0) ⟨rfl,by simp,fun c h=>by cases h⟩;refine⟨cs,a',h1,h2,?_⟩;simp only[scS,zWA,zWK,zWV] at h;clear h2;exact zW
theorem zMI{c:Command}(h:zhe c):ziM c:=⟨h.1,fun r hr=>by have:=(h.2.1 r hr).2.2;omega,h.2.2.1,by have:=h.2.2.2.1;omega⟩
theorem zzF{l:List Command}(h:∀c∈l,zhe c):∀c∈l,ziM c:=fun c hc=>zMI (h c hc)
def zfu:Setup:=⟨1,1,1,1,1,0,1,0⟩
theorem zBr(a:zg):zh G 58 [.d (zn a),.d (.int .i64 1)] []=some (.d (.tup [.int .i64 a.epoch,.int .i64 0]),[]):=by
 simp only[zn];exact zW
theorem zQr(i:zaS):zh G 184 [.d (zbK i)] []=some (.d (.int .i64 (zc3 i)),[]):=by
 unfold zc3;obtain⟨kd,hm,mx,vs,fr,tt,bs,ts⟩:=i;simp only[zbK]
 by_cases k1:kd=1
 ·subst k1;exact zW
 rw[zWy k1]
 by_cases k2:3<=kd/\kd<=5
 ·rw[zWz k2];have k3:kd=3\/kd=4\/kd=5:=by omega
  rcases k3 with rfl|rfl|rfl
  ·exact zW
  ·exact zW
  ·exact zW
 ·rw[zWy k2];exact zW
theorem zQq(l:List Result)(hL:l.length<=4294967296):zh G 183 [.d (.sl (l.map zZ))] []=some (.xsl (l.map zZ),[]):=by
 have e:List.take l.length (l.map zZ)=l.map zZ:=zYp (by simp);exact zW
theorem zQM(t:zi)(r:Result)(n:Int)(he:0<=t.entry/\t.entry<=1000)(hl:t.results.length<=1000):zh G 115 [.d (zd t),.d (zZ r),.d (.int .i64 n)] []=some (.d (zd (zaY t r n)),[]):=by
 have hc:=zQq t.results zo;have hn:=zQr t.inv;have hcase:t.results.map zZ≠[]\/t.results=[]:=by cases t.results<;>simp
 unfold zaY;generalize zc3 t.inv=en at *;simp only[zd,zZ,zbK] at *
 by_cases c:t.entry+1=en
 ·rw[zWz c,zWz c];replace c:=zWN c;have zk0:=zC.eq_1;exact zW
 ·rw[zWy c,zWy c];have zk0:=zC.eq_1;exact zW
def zbf(a:zg)(T:Go.Sim.AV)(n:Int):Go.Sim.AV:= .agg [.d (.sl (a.slots.map zd0)),.d (.sl (a.stripes.map zG)),.d (.int .i64 a.dead.owner),.d (.int .i64 a.dead.dead.cap),.d (.sl (a.dead.dead.l.map zk)),.d (.int .i64 a.dir.version),.d (.sl (a.dir.l.map zbR)),.d (.sl (zt a.dir.forward)),.d (.int .i64 a.epoch),.d (.int .i64 a.clock),.d (.int .i64 a.nextID),T,.d (.int .i64 n)]
theorem zQC(w:World)(l:List Int)(a:Nat)(hl:w.tasks.length<=1000):zh G 8 [.ref 1000000 0 0,.d (zy w)] [(1000000,zp l a)]=some (.ref 0 0 0,[(1000000,zp l a),(0,.row [zbf w.arena (.acc 1 (w.tasks.map zd)) w.steps]),(1,.acc w.tasks.length)]):=by
 obtain⟨s,wa,tasks,log,steps,handles⟩:=w;simp only[zy,zn,zp,zbf] at *;exact zW
theorem zyT:∀o:List Int,AV.flatL ((o.map (D.int .i64)).map .d)=true
 | []=>rfl
 | x::o=>by
  show (AV.flat (.d (.int .i64 x))&&AV.flatL ((o.map (D.int .i64)).map .d))=true;rw[zyT o];rfl
structure PI(u:Setup)(N:Int)(a:zg)(ts:List zi):Prop where
 hu:zav u=true
 ar:AI u a
 ti:∀t∈ts,TI u N t
 tk:∀t∈ts,∀b∈t.inv.tokens,b.length<=16
 tl:ts.length<=200
 nn:0<=N/\N<=200000
def rvH(l:List Int)(x:Nat)(a:zg)(ts:List zi)(N:Int):zf:=[(1000000,zp l x),(1000001,.row [zbf a (.osl 1000002 0 ts.length) N]),(1000002,.row ((ts.map zd).map .d))]
theorem PI.step{u:Setup}{N:Int}{a:zg}{ts:List zi}(h:PI u N a ts)(hN:N<=199999){a':zg}(ha:AI u a'):PI u (N+1) a' ts:=
 { hu:=h.hu,ar:=ha,ti:=fun t ht=>(h.ti t ht).mono zo,tk:=h.tk,tl:=h.tl,nn:=by have:=h.nn;omega }
theorem PI.task{u:Setup}{N:Int}{a:zg}{ts:List zi}(h:PI u N a ts)(hN:N<=199999){i:Nat}(hi:i<ts.length)(e:(zaQ zag a ts[i] (N+1)).2.2.2=0):PI u (N+1) (zaQ zag a ts[i] (N+1)).1 (ts.set i (zaQ zag a ts[i] (N+1)).2.1):=by
 have hn:=h.nn;have hk:=zCA zgv.ok h.hu h.ar (h.ti _ (zWH hi)) (n:=N+1) zo e;have hr:=zsZ zmR a ts[i] (N+1) e;refine { hu:=h.hu,ar:=hk.1,ti:=fun t ht=> ?_,tk:=fun t ht=> ?_,tl:=by rw[zW8];exact h.tl,nn:=by omega }
 ·rcases zjb ht with ht|ht
  ·rw[ht];exact hk.2
  ·exact (h.ti t ht).mono zo
 ·rcases zjb ht with ht|ht
  ·rw[ht,hr.1];exact h.tk _ (zWH hi)
  ·exact h.tk t ht
def rv0(l:List Int)(x:Nat)(a:zg)(N:Int):zf:=[(1000000,zp l x),(1000001,.row [zbf a (.xsl []) N])]
theorem zFE{d:Dead}(h:zcm d=0):d.l.length<=24:=by
 unfold zcm at h
 split at h
 ·cases h
 ·rename_i c;omega
theorem zyR{u:Setup}{a:zg}(hu:zav u=true)(h:AI u a):zps a:=by
 have hs:=zeE hu;have h1:=h.sl;have h2:=h.st;have h3:=ziP h.dv;have h4:=zFE h.dd;exact { sl:=by omega,sh:=fun i hi=>zyS (zbv (h.sh _ (zWH hi)).1),st:=by omega,de:=by omega,dl:=by have:=zfB h.dv;omega,df:=by omega }
def okR(l:List Result):Prop:=l=[]\/∃r:Result,l=[r]/\r.tokens=[]/\r.bodies=[]
def okV(l:List Event):Prop:=l=[]\/∃v:Event,l=[v]/\v.l=[]
theorem zFf(t:zi):zh G 57 [.d (zd t)] []=some (.d (.int .i64 (zX t 7 7)),[]):=by
 unfold zX
 cases c:t.done
 ·rw[zWy (by simp)]
  by_cases k:t.inv.kind=7
  ·rw[zWy zo];simp only[zd];exact zW
  ·rw[zWz zo];simp only[zd];exact zW
 ·rw[zWz rfl];simp only[zd];exact zW
theorem zQL(a:zg)(i:Nat)(h1:a.stripes.length=a.slots.length)(h2:a.stripes.length<=1000):zh G 25 [.d (zn a),.d (.int .i64 i)] []=some (.d (.tup [zG (zaJ a i).1,.int .i64 (zaJ a i).2]),[]):=by
 unfold zaJ zcr
 by_cases c:i<a.stripes.length
 ·have hi:i<a.slots.length:=by omega
  rw[zWz (zWY ⟨by omega,by omega⟩)];rw[show ((i:Int)).toNat=i by omega,zq c];simp only[zn,zG] at *;exact zW
 ·have hi:¬i<a.slots.length:=by omega
  rw[zWy (by simp;omega)];simp only[zn,zG,zbh] at *;exact zW
theorem zxM(a:zg)(l:List Stripe)(h1:a.stripes.length=a.slots.length)(h2:a.stripes.length<=1000)(h3:l.length<=1000)(hz:(zaJ a l.length).2=0):zh G 111 [.d (zn a),.d (.sl (l.map zG))] []=some (.d (.tup [.sl ((l++[(zaJ a l.length).1]).map zG),.int .i64 0]),[]):=by
 have hl:=zQL a l.length h1 h2;rw[hz] at hl;generalize (zaJ a l.length).1=x at *;simp only[zn,zWQ,zWD,zWA] at *
 by_cases h4:l=[]
 ·subst h4;simp only[zWK,zWA,zWW,zWV] at *;exact zW
 ·exact zW
def c1T(a:zg)(t:zi):zi:={ t with first:=t.first++[(zaJ a t.first.length).1],pc:=if ((t.first++[(zaJ a t.first.length).1]).length:Int)=t.setup.slots then (if zco (t.first++[(zaJ a t.first.length).1])=true then 2 else 0) else t.pc }
theorem zED(a:zg)(t:zi)(h1:a.stripes.length=a.slots.length)(h2:a.stripes.length<=1000)(h3:t.first.length<=100)(hz:(zaJ a t.first.length).2=0):zh G 59 [.d (zn a),.d (zd t)] []=some (.d (.tup [zd (c1T a t),.int .i64 0]),[]):=by
 have hl:=zxM a t.first h1 h2 zo hz;unfold c1T;generalize (zaJ a t.first.length).1=x at *;have hq:=zQ8 (t.first++[x]) (by simp only[zWJ,zW6];omega);rw[zBw] at hq;generalize zco (t.first++[x])=q at *;clear h1 h2 hz;have sz_a:=zbj a;generalize zn a=D_a at *
 by_cases c4:((t.first++[x]).length:Int)=t.setup.slots
 ·simp only[c4,if_true];have c5:((t.first.length:Int)+1=t.setup.slots)=True:=zWN (by simpa using c4);clear c4
  cases q
  ·simp only[zWL,if_false,zd,zWQ,zWD,zWA] at *;exact zW
  ·simp only[if_true,zd,zWQ,zWD,zWA] at *;exact zW
 ·simp only[c4,if_false];have c5:((t.first.length:Int)+1=t.setup.slots)=False:=zWE (by simpa using c4);clear c4 hq;simp only[zd,zWQ,zWD,zWA] at *;exact zW
def c2T(a:zg)(t:zi)(n:Int):zi:={ t with id:=if t.second.length=0 then n else t.id,second:=t.second++[(zaJ a t.second.length).1],pc:=if ((t.second++[(zaJ a t.second.length).1]).length:Int)=t.setup.slots then (if t.first=t.second++[(zaJ a t.second.length).1] then 3 else 0) else t.pc }
theorem zFg(a:zg)(t:zi)(n:Int)(h1:a.stripes.length=a.slots.length)(h2:a.stripes.length<=1000)(h3:t.first.length<=100/\t.second.length<=100)(hz:(zaJ a t.second.length).2=0):zh G 60 [.d (zn a),.d (zd t),.d (.int .i64 n)] []=some (.d (.tup [zd (c2T a t n),.int .i64 0]),[]):=by
 have hl:=zxM a t.second h1 h2 zo hz;unfold c2T;generalize (zaJ a t.second.length).1=x at *;have hq:=zTo t.first (t.second++[x]) zo (by simp only[zWJ,zW6];omega);clear h1 h2 hz;have sz_a:=zbj a;generalize zn a=D_a at *;have d1:(t.second.length=0)=((t.second.length:Int)+1=1):=propext zo;simp only[d1];clear d1;have hid:∀v:Int,(v=if (t.second.length:Int)+1=1 then n else t.id)->((t.second.length:Int)+1=1/\v=n\/¬(t.second.length:Int)+1=1/\v=t.id):=fun v hv=>by split at hv<;>simp_all
 obtain⟨v,hv⟩:∃v:Int,v=if (t.second.length:Int)+1=1 then n else t.id:=⟨_,rfl⟩
 have hid:=hid v hv;rw[<- hv];clear hv
 by_cases c4:((t.second++[x]).length:Int)=t.setup.slots
 ·simp only[c4,if_true];have c5:((t.second.length:Int)+1=t.setup.slots)=True:=zWN (by simpa using c4);clear c4
  by_cases c6:t.first=t.second++[x]
  ·rw[zWY c6] at hq;rw[zWz c6];clear c6
   rcases hid with ⟨c7,rfl⟩|⟨c7,rfl⟩
   ·replace c7:=zWN c7;simp only[zd,zWQ,zWD,zWA] at *;exact zW
   ·replace c7:=zWE c7;simp only[zd,zWQ,zWD,zWA] at *;exact zW
  ·rw[zW0 c6] at hq;rw[zWy c6];clear c6
   rcases hid with ⟨c7,rfl⟩|⟨c7,rfl⟩
   ·replace c7:=zWN c7;simp only[zd,zWQ,zWD,zWA] at *;exact zW
   ·replace c7:=zWE c7;simp only[zd,zWQ,zWD,zWA] at *;exact zW
 ·simp only[c4,if_false];have c5:((t.second.length:Int)+1=t.setup.slots)=False:=zWE (by simpa using c4);clear c4 hq
  rcases hid with ⟨c7,rfl⟩|⟨c7,rfl⟩
  ·replace c7:=zWN c7;simp only[zd,zWQ,zWD,zWA] at *;exact zW
  ·replace c7:=zWE c7;simp only[zd,zWQ,zWD,zWA] at *;exact zW
theorem zFh(a:zg)(t:zi)(n:Int)(he:0<=t.entry/\t.entry<=1000)(hl:t.results.length<=1000)(hf:t.first.length<=100):zh G 61 [.d (zn a),.d (zd t),.d (.int .i64 n)] []=some (.d (if a.epoch=t.loaded then .tup [zd (zaY t { z5 with ready:=(zbb t.first a.epoch t.first.length).1,leased:=(zbb t.first a.epoch t.first.length).2 } n),.sl [zad { evT t 8 t.id with epoch:=a.epoch,ready:=(zbb t.first a.epoch t.first.length).1,leased:=(zbb t.first a.epoch t.first.length).2 }],.int .i64 0] else .tup [zd { t with pc:=0 },.sl [],.int .i64 0]),[]):=by
 have hw:=zBr a
 by_cases c:a.epoch=t.loaded
 ·rw[zWz c];have hs:=zU3 t.first t.loaded zo;rw[c] at hw ⊢;generalize zbb t.first t.loaded t.first.length=p at *;obtain⟨p1,p2⟩:=p;simp only at hs ⊢;have hnx:=zQM t { z5 with ready:=p1,leased:=p2 } n he hl;generalize zaY t { z5 with ready:=p1,leased:=p2 } n=t2 at *;have sz_t2:=zE t2;generalize zd t2=D_t2 at *;have sz_a:=zbj a;generalize zn a=D_a at *;clear he hl hf c;simp only[zd,zad,evT,zbT,zZ,z5,zWA,zWD] at *;exact zW
 ·rw[zWy c];replace c:=zWE c;clear he hl hf;simp only[zd] at *;exact zW
def CT(u:Setup)(N:Int)(t:zi):Prop:=t.inv=⟨7,0,0,0,0,0,[],[]⟩/\t.sec.carry=[]/\TI u N t/\(t.done=true\/(t.done=false/\t.entry=0/\t.results=[]/\(0<=t.pc/\t.pc<=3)/\(t.pc=1->(t.first.length:Int)<u.slots/\t.second.length=0)/\(t.pc=2->(t.second.length:Int)<u.slots)))
theorem zxV{u:Setup}{N:Int}{t:zi}(h:CT u N t):CT u (N+1) t:=⟨h.1,h.2.1,h.2.2.1.mono zo,h.2.2.2⟩
theorem zor{u:Setup}{a:zg}(ha:AI u a){i:Nat}(h:(i:Int)<u.slots):(zaJ a i).2=0:=by
 have:=ha.sl;unfold zaJ zcr;rw[zWz (zWY ⟨by omega,by omega⟩)]
theorem zxU{u:Setup}{a:zg}{t:zi}{N:Int}(hu:zav u=true)(ha:AI u a)(h:CT u N t)(hd:t.done=false):(zaj a t (N+1)).2.2.2=0/\AI u (zaj a t (N+1)).1/\CT u (N+1) (zaj a t (N+1)).2.1/\okR (zaj a t (N+1)).2.1.results/\okV (zaj a t (N+1)).2.2.1:=by
 obtain⟨h1,h2,h3,h4⟩:=h
 rcases h4 with h4|⟨_,h5,h6,h7,h8,h9⟩
 ·rw[h4] at hd;cases hd
 have hg:zX t 7 7=0:=by
  unfold zX;rw[hd,h1];simp
 have hnn:=h3.nn;have hfs:=h3.fs;have hsu:t.setup.slots=u.slots:=by rw[h3.su]
 have hus:=zeE hu;have hk:=zxT (n:=N+1) ha h3 ⟨by omega,by omega⟩;have hdn:∀(t2:zi) (r:Result) (n:Int),t2.inv=t.inv->t2.entry=0->(zaY t2 r n).done=true:=by
  intro t2 r n q1 q2;unfold zaY zc3;simp [q1,q2,h1]
 suffices key:(zaj a t (N+1)).2.2.2=0/\(zaj a t (N+1)).2.1.inv=t.inv/\(zaj a t (N+1)).2.1.sec.carry=[]/\((zaj a t (N+1)).2.1.done=true\/((zaj a t (N+1)).2.1.done=false/\(zaj a t (N+1)).2.1.entry=0/\(zaj a t (N+1)).2.1.results=[]/\(0<=(zaj a t (N+1)).2.1.pc/\(zaj a t (N+1)).2.1.pc<=3)/\((zaj a t (N+1)).2.1.pc=1->((zaj a t (N+1)).2.1.first.length:Int)<u.slots/\(zaj a t (N+1)).2.1.second.length=0)/\((zaj a t (N+1)).2.1.pc=2->((zaj a t (N+1)).2.1.second.length:Int)<u.slots)))/\okR (zaj a t (N+1)).2.1.results/\okV (zaj a t (N+1)).2.2.1 by
  obtain⟨k1,k2,k3,k4,k5,k6⟩:=key;obtain⟨k7,k8⟩:=hk k1;exact⟨k1,k7,⟨k2.trans h1,k3,k8,k4⟩,k5,k6⟩
 clear hk;unfold zaj;rw[zWy (by rw[hg];simp)]
 by_cases c0:t.pc=0
 ·rw[zWz c0];exact⟨rfl,rfl,h2,.inr ⟨hd,h5,h6,⟨by simp only;omega,by simp only;omega⟩,fun _=>⟨by simp only[zWK];omega,rfl⟩,fun q=>absurd q (by simp)⟩,.inl h6,.inl rfl⟩
 rw[zWy c0]
 by_cases c1:t.pc=1
 ·rw[zWz c1];obtain⟨f1,f2⟩:=h8 c1;have hz:=zor ha f1;simp only[hz,ne_eq,zWR,if_false];generalize (zaJ a t.first.length).1=s;refine⟨trivial,trivial,h2,.inr ⟨hd,h5,h6,?_,?_,?_⟩,.inl h6,.inl rfl⟩
  ·split
   ·split<;>omega
   ·omega
  ·intro q
   split at q
   ·split at q<;>omega
   ·rename_i w;simp only[zWJ,zW6] at w ⊢;omega
  ·intro q;omega
 rw[zWy c1]
 by_cases c2:t.pc=2
 ·rw[zWz c2];have f1:=h9 c2;have hz:=zor ha f1;simp only[hz,ne_eq,zWR,if_false];generalize (zaJ a t.second.length).1=s;refine⟨trivial,trivial,h2,.inr ⟨hd,h5,h6,?_,?_,?_⟩,.inl h6,.inl rfl⟩
  ·split
   ·split<;>omega
   ·omega
  ·intro q
   split at q
   ·split at q<;>omega
   ·omega
  ·intro q
   split at q
   ·split at q<;>omega
   ·rename_i w;simp only[zWJ,zW6] at w ⊢;omega
 rw[zWy c2]
 split
 ·exact⟨rfl,rfl,h2,.inr ⟨hd,h5,h6,⟨by simp only;omega,by simp only;omega⟩,fun q=>absurd q (by simp),fun q=>absurd q (by simp)⟩,.inl h6,.inl rfl⟩
 ·exact⟨rfl,rfl,rfl,.inl (hdn t _ _ rfl h5),.inr ⟨_,by simp [zaY,h6];rfl,rfl,rfl⟩,.inr ⟨_,rfl,rfl⟩⟩
theorem zBo{u:Setup}{a:zg}{t:zi}{n N:Int}(hu:zav u=true)(ha:AI u a)(h:CT u N t)(hd:t.done=false):zh G 15 [.d (zn a),.d (zd t),.d (.int .i64 n)] []=some (.d (.tup [zn (zaj a t n).1,zd (zaj a t n).2.1,.sl ((zaj a t n).2.2.1.map zad),.int .i64 (zaj a t n).2.2.2]),[]):=by
 obtain⟨h1,h2,h3,h4⟩:=h
 rcases h4 with h4|⟨h0,h5,h6,h7,h8,h9⟩
 ·rw[h4] at hd;cases hd
 have hg:zX t 7 7=0:=by
  unfold zX;rw[hd,h1];simp
 have hr:=zFf t;rw[hg] at hr;have hfs:=h3.fs;have hus:=zeE hu;have hsl:=ha.sl;have hst:=ha.st;unfold zaj;rw[zWy (by rw[hg];simp)]
 by_cases c0:t.pc=0
 ·rw[zWz c0];have hw:=zBr a;replace c0:=zWN c0;clear h0 h1 h2 h3 h5 h6 h7 h8 h9 hd hg ha hu;simp only[zd,zWA] at *;exact zW
 rw[zWy c0]
 by_cases c1:t.pc=1
 ·rw[zWz c1];have hz:=zor ha (h8 c1).1;have hf:=zED a t hst zo zo hz;simp only[hz,ne_eq,zWR,if_false];change zh G 15 _ _=some (.d (.tup [zn a,zd (c1T a t),_,_]),[]);generalize c1T a t=t2 at *;replace c1:=zWN c1;replace c0:=zWE c0;clear h0 h1 h2 h3 h5 h6 h7 h8 h9 hd hg ha hu hz hst hsl;have sz_t2:=zE t2;generalize zd t2=D_t2 at *;have sz_a:=zbj a;generalize zn a=D_a at *;simp only[zd,zWA] at *;exact zW
 rw[zWy c1]
 by_cases c2:t.pc=2
 ·rw[zWz c2];have hz:=zor ha (h9 c2);have hf:=zFg a t n hst zo zo hz;simp only[hz,ne_eq,zWR,if_false];change zh G 15 _ _=some (.d (.tup [zn a,zd (c2T a t n),_,_]),[]);generalize c2T a t n=t2 at *;replace c2:=zWN c2;replace c0:=zWE c0;replace c1:=zWE c1;clear h0 h1 h2 h3 h5 h6 h7 h8 h9 hd hg ha hu hz hst hsl;have sz_t2:=zE t2;generalize zd t2=D_t2 at *;have sz_a:=zbj a;generalize zn a=D_a at *;simp only[zd,zWA] at *;exact zW
 rw[zWy c2];have c3:t.pc=3:=by omega
 have hs:=zFh a t n zo (by rw[h6];simp) zo;replace c3:=zWN c3;replace c0:=zWE c0;replace c1:=zWE c1;replace c2:=zWE c2;clear h0 h1 h2 h3 h5 h6 h7 h8 h9 hd hg ha hu hst hsl
 by_cases c4:a.epoch=t.loaded
 ·rw[zWz c4] at hs;rw[zWy (fun q=>q c4)];simp only;generalize zbb t.first a.epoch t.first.length=p at *;generalize zaY t { z5 with ready:=p.1,leased:=p.2 } n=t2 at *;obtain⟨v,hv⟩:∃v:Event,v={ evT t 8 t.id with epoch:=a.epoch,ready:=p.1,leased:=p.2 }:=⟨_,rfl⟩;rw[<- hv] at hs ⊢;clear hv c4;simp only[zWD,zWA];have sz_t2:=zE t2;generalize zd t2=D_t2 at *;have sz_a:=zbj a;generalize zn a=D_a at *;have sz_v:=zGw v;generalize zad v=D_v at *;simp only[zd,zWA,zWD] at *;exact zW
 ·rw[zWy c4] at hs;rw[zWz c4];clear c4;obtain⟨t2,ht2⟩:∃t2:zi,t2={ t with pc:=0 }:=⟨_,rfl⟩;rw[<- ht2] at hs ⊢;clear ht2;have sz_t2:=zE t2;generalize zd t2=D_t2 at *;have sz_a:=zbj a;generalize zn a=D_a at *;simp only[zd,zWA] at *;exact zW
theorem zV7(l:List Int)(a n:Nat)(hL:l.length<=4000)(hn:n<=400):∃(w:World) (u:Setup) (a':Nat),u.slots<=4/\QI u 102000 w/\WG u w/\zh G 7 [.ref 1000000 0 0,.d (.int .i64 n)] [(1000000,zp l a)]=some (.d (zy w),[(1000000,zp l a')]):=by
 obtain⟨u,a1,hu4,hset⟩:=zUe l a hL;have h4:u.slots<=4:=hu4.2.1;clear hu4;obtain⟨cs,a2,h1,h2,hscr⟩:=zTq l a1 n hL hn;have hrun:=zSB (u:=u) (l:=cs) h4 zo (zzF h2);have hnew:=zAY zfu (by decide);have e0:(zcT zfu).2=0:=by
  unfold zcT zbq;simp [zav,inI,zfu]
 have hq0:=zrZ (u:=zfu) e0;have hg0:WG zfu (zcT zfu).1:=by
  have e1:zew zag zfu []=zcT zfu:=by
   unfold zew zcT;simp [zbq,zav,inI,zfu,zdo]
  have:=zBY zgv.ok (u:=zfu) (l:=[]) (by rw[e1];exact e0)
  rwa [e1] at this
 rw[e0] at hnew;have hq:=zSF (u:=u) (l:=cs) zo (zzF h2);have hg:=zBY zgv.ok (u:=u) (l:=cs);clear e0 h2;generalize zew zag u cs=r at *;generalize zcT zfu=r0 at *;obtain⟨w,e⟩:=r;obtain⟨w0,e0⟩:=r0;simp only[zp] at *
 by_cases c:e=0
 ·subst c;refine⟨w,u,a2,h4,hq rfl,hg rfl,?_⟩;clear hq hq0 hnew hg hg0;have sz_w:=zbk w;generalize zy w=D_w at *;have sz_u:=zyp u;generalize zaH u=D_u at *;exact zW
 ·refine⟨w0,zfu,a2,by decide,hq0.mono zo,hg0,?_⟩;replace c:=zWE c;clear hq hq0 hg hg0;simp only[zaH,zfu] at hnew;have sz_w:=zbk w;generalize zy w=D_w at *;have sz_w0:=zbk w0;generalize zy w0=D_w0 at *;have sz_u:=zyp u;generalize zaH u=D_u at *;exact zW
theorem CH.imp{u:Setup}{R R':Int->zg->Prop}{a:zg}{t:zi}(h:CH u R a t)(i:∀n x,R n x->R' n x):CH u R' a t:=
 ⟨h.1,h.2.1,fun p q=>let ⟨x,hx⟩:=h.2.2.1 p q;⟨x,{ hx with r:=i _ _ hx.r }⟩,fun p=>let ⟨e,x,hx⟩:=h.2.2.2 p;⟨e,x,{ hx with r:=i _ _ hx.r }⟩⟩
theorem zxS{u:Setup}{a:zg}{t:zi}{N n:Int}(h:CT u N t)(hd:t.done=false)(e:(zaj a t n).2.2.2=0):(zaj a t n).1=a/\(zaj a t n).2.1.number=t.number/\((zaj a t n).2.2.1=[]/\(zaj a t n).2.1.done=false\/(zaj a t n).2.2.1≠[]/\(zaj a t n).2.1.done=true):=by
 obtain⟨h1,h2,h3,h4⟩:=h
 rcases h4 with h4|⟨_,h5,h6,h7,h8,h9⟩
 ·rw[h4] at hd;cases hd
 have hg:zX t 7 7=0:=by
  unfold zX;rw[hd,h1];simp
 unfold zaj at e ⊢;rw[zWy (by rw[hg];simp)] at e ⊢
 by_cases c0:t.pc=0
 ·rw[zWz c0];exact⟨rfl,rfl,.inl ⟨rfl,hd⟩⟩
 rw[zWy c0] at e ⊢
 by_cases c1:t.pc=1
 ·rw[zWz c1] at e ⊢;simp only at e ⊢
  by_cases q:(zaJ a t.first.length).2=0
  ·rw[zWy (fun w=>w q)];exact⟨rfl,rfl,.inl ⟨rfl,hd⟩⟩
  ·rw[zWz q] at e;exact absurd e q
 rw[zWy c1] at e ⊢
 by_cases c2:t.pc=2
 ·rw[zWz c2] at e ⊢;simp only at e ⊢
  by_cases q:(zaJ a t.second.length).2=0
  ·rw[zWy (fun w=>w q)];exact⟨rfl,rfl,.inl ⟨rfl,hd⟩⟩
  ·rw[zWz q] at e;exact absurd e q
 rw[zWy c2]
 split
 ·exact⟨rfl,rfl,.inl ⟨rfl,hd⟩⟩
 ·exact⟨rfl,rfl,.inr ⟨by simp,by simp [zaY,zc3,h1,h5]⟩⟩
theorem zQg{E:List Bool}{k:Nat}{v:Bool}(h:k<E.length)(h1:E.length≠1):zc7 (.d (.agg (E.map D.bool))) k (.d (.bool v))=some (.d (.agg ((E.set k v).map D.bool))):=by
 unfold zc7;rw[zWy (by simp [AV.size,D.size,D.cells];omega),zWz (by simp [AV.size,D.size,D.cells];omega)];have:zd6 (AV.cells (.d (.agg (E.map D.bool)))) k (AV.cells (.d (.bool v)))=((E.map D.bool).set k (.bool v)).map .d:=by
  simp only[AV.cells,D.cells,zWD,zWA];rw[zd6,zXy,zZY,zWz (by simpa using h)];simp
 rw[this,AV.mkAgg,zlc];show some (AV.d (D.agg _))=_;rw[zXy]
attribute [go_sem high] zQg
def zby(a:zg)(lim:Int)(i:Nat):Int×Int:=zbm a.epoch lim (a.slots.take i)
theorem ztg{a:zg}{lim:Int}{i:Nat}(h:i<a.slots.length):zby a lim (i+1)=((zby a lim i).1+(zbP a.slots[i].shard a.epoch lim).1,(zby a lim i).2+(zbP a.slots[i].shard a.epoch lim).2):=by
 unfold zby zbm;rw[zYG,zWF h,zZi];rfl
theorem zp6(s:Shard)(ep lim:Int):(0<=(zbP s ep lim).1/\(zbP s ep lim).1<=24)/\0<=(zbP s ep lim).2/\(zbP s ep lim).2<=24:=by
 unfold zbP
 split
 ·rename_i c;obtain⟨e1,e2⟩:=zAz c.1;have hl:=zs2 e2;have hb:(zu s.ready).length<=12:=by
   rw[zgT];obtain⟨a1,a2,a3,a4,a5,a6⟩:=zcV e1;omega
  have k1:=zXJ (rdQ ep lim) ((zu s.ready).take (zu s.ready).length);have k2:=zXJ (lsQ ep) (s.leases.l.take s.leases.l.length);rw[zYq] at k1 k2;simp only[zbs,zYq];omega
 ·simp
theorem zo2{A:List Int}{k:Nat}(h:k<A.length)(h1:A.length≠1):(∀v:D,((A.map (D.int .i64)).set k v)[k]? = some v)/\∀(w:D) (v:Int),zc7 (.d (.agg ((A.map (D.int .i64)).set k w))) k (.d (.int .i64 v))=some (.d (.agg ((A.map (D.int .i64)).set k (.int .i64 v)))):=
 ⟨fun v=>zYz (by simpa using h),fun w v=>by rw[zQe (by simpa using h) (by simpa using h1),List.set_set]⟩
theorem zCK(a:zg)(lim:Int):∀i:Nat,i<=a.slots.length->(0<=(zby a lim i).1/\(zby a lim i).1<=24 * i)/\0<=(zby a lim i).2/\(zby a lim i).2<=24 * i:=by
 intro i
 induction i with
 | zero=>intro _;simp [zby,zbm]
 | succ i ih=>
  intro hi;rw[ztg zo];have:=ih zo;have:=zp6 a.slots[i].shard a.epoch lim;simp only;omega
def ziL(s:Setup)(Wr:List D)(l:List Int)(x:Nat)(a:zg)(ts:List zi)(N from_:Int)(t:zi)(k:Nat)(A B:List Int)(Q:List Bool)(i:Nat):St:=
 ⟨[(3,.ref 22 0 0),(4,.ref 4 0 0),(5,.ref 27 0 0),(6,.ref 6 0 0),(8,.ref 8 0 0),(9,.ref 9 0 0),(10,.ref 10 0 0),(11,.d (.int .i64 from_)),(12,.d (.int .i64 k)),(13,.d (.int .i64 i))],
  [(4,.row [.d (.agg (.int .i64 s.slots:: .int .i64 s.live:: .int .i64 s.capacity:: .int .i64 s.dead:: .int .i64 s.limit:: .int .i64 s.clock:: .int .i64 s.nextID:: .int .i64 s.epoch::Wr))]),(6,.row [.d (zd t)]),(8,.row [.d (.agg (A.map (D.int .i64)))]),(9,.row [.d (.agg (B.map (D.int .i64)))]),(10,.row [.d (.agg (Q.map D.bool))]),(22,zp l x),(27,.row [zbf a (.osl 10027 0 ts.length) N]),(10027,.row ((ts.map zd).map .d))]⟩
def zjR(s:Setup)(Wr:List D)(l:List Int)(x:Nat)(a:zg)(ts:List zi)(N from_:Int)(t:zi)(A B:List Int)(Q:List Bool):zT×St:=(.exit 2,⟨[(3,.ref 22 0 0),(4,.ref 4 0 0),(5,.ref 27 0 0),(6,.ref 6 0 0),(8,.ref 8 0 0),(9,.ref 9 0 0),(10,.ref 10 0 0),(11,.d (.int .i64 from_))],
    [(4,.row [.d (.agg (.int .i64 s.slots:: .int .i64 s.live:: .int .i64 s.capacity:: .int .i64 s.dead:: .int .i64 s.limit:: .int .i64 s.clock:: .int .i64 s.nextID:: .int .i64 s.epoch::Wr))]),(6,.row [.d (zd t)]),(8,.row [.d (.agg (A.map (D.int .i64)))]),(9,.row [.d (.agg (B.map (D.int .i64)))]),(10,.row [.d (.agg (Q.map D.bool))]),(22,zp l x),(27,.row [zbf a (.osl 10027 0 ts.length) N]),(10027,.row ((ts.map zd).map .d))]⟩)
theorem zEu(s:Setup)(Wr:List D)(l:List Int)(x:Nat)(a:zg)(ts:List zi)(N from_:Int)(t:zi)(k:Nat)(A B:List Int)(Q:List Bool)(hk:k<400)(hA:A.length=400)(hB:B.length=400)(hsl:a.slots.length<=6)(hsh:∀y∈a.slots,zV y.shard=0):
    ∀i:Nat,i<=a.slots.length->zN G [] zh4 (ziL s Wr l x a ts N from_ t k (A.set k (zby a s.limit i).1) (B.set k (zby a s.limit i).2) Q i)=some (zjR s Wr l x a ts N from_ t (A.set k (zby a s.limit a.slots.length).1) (B.set k (zby a s.limit a.slots.length).2) Q):=by
 refine zaB (fun i=>a.slots.length - i) (fun i=>i<=a.slots.length) (fun i=>ziL s Wr l x a ts N from_ t k (A.set k (zby a s.limit i).1) (B.set k (zby a s.limit i).2) Q i) (fun _=>_) fun i hi L ih=> ?_
 by_cases h0:i<a.slots.length
 ·have i1:=ih (i+1) zo zo;have hc:=zqa a.slots[i].shard a.epoch s.limit (by have:=(zbv (hsh _ (zWH h0))).1;omega) (by have:=(zbv (hsh _ (zWH h0))).2.1;omega) (by have:=(zbv (hsh _ (zWH h0))).2.2;omega);have b1:=zCK a s.limit i hi;have b2:=zp6 a.slots[i].shard a.epoch s.limit;rw[ztg h0] at i1;clear ih hsh;generalize zby a s.limit i=p at *;generalize zbP a.slots[i].shard a.epoch s.limit=q at *;obtain⟨p1,p2⟩:=p;obtain⟨q1,q2⟩:=q;simp only[zj] at hc;obtain⟨gA1,gA2⟩:=zo2 (A:=A) (k:=k) zo zo;obtain⟨gB1,gB2⟩:=zo2 (A:=B) (k:=k) zo zo;simp only[ziL,zh4,zbf,zp] at *;simp only[zNr,zp] at i1;generalize zjR s Wr l x a ts N from_ t (A.set k (zby a s.limit a.slots.length).1) (B.set k (zby a s.limit a.slots.length).2) Q=R at *;have sz_t:=zE t;generalize zd t=D_t at *;have zk0:=zd0.eq_1;exact zS
 ·obtain rfl:i=a.slots.length:=by omega
  clear ih hsh;simp only[ziL,zjR,zh4,zbf,zp];have sz_t:=zE t;generalize zd t=D_t at *;exact zS
def ziK(s:Setup)(Wr:List D)(l:List Int)(x:Nat)(a:zg)(N from_:Int)(t:zi)(k:Nat)(A B:List Int)(Q:List Bool)(i:Nat):St:=
 ⟨[(3,.ref 22 0 0),(4,.ref 4 0 0),(5,.ref 27 0 0),(6,.ref 6 0 0),(8,.ref 8 0 0),(9,.ref 9 0 0),(10,.ref 10 0 0),(11,.d (.int .i64 from_)),(12,.d (.int .i64 k)),(13,.d (.int .i64 i))],
  [(4,.row [.d (.agg (.int .i64 s.slots:: .int .i64 s.live:: .int .i64 s.capacity:: .int .i64 s.dead:: .int .i64 s.limit:: .int .i64 s.clock:: .int .i64 s.nextID:: .int .i64 s.epoch::Wr))]),(6,.row [.d (zd t)]),(8,.row [.d (.agg (A.map (D.int .i64)))]),(9,.row [.d (.agg (B.map (D.int .i64)))]),(10,.row [.d (.agg (Q.map D.bool))]),(22,zp l x),(27,.row [zbf a (.xsl []) N])]⟩
def zjQ(s:Setup)(Wr:List D)(l:List Int)(x:Nat)(a:zg)(N from_:Int)(t:zi)(A B:List Int)(Q:List Bool):zT×St:=(.exit 2,⟨[(3,.ref 22 0 0),(4,.ref 4 0 0),(5,.ref 27 0 0),(6,.ref 6 0 0),(8,.ref 8 0 0),(9,.ref 9 0 0),(10,.ref 10 0 0),(11,.d (.int .i64 from_))],
    [(4,.row [.d (.agg (.int .i64 s.slots:: .int .i64 s.live:: .int .i64 s.capacity:: .int .i64 s.dead:: .int .i64 s.limit:: .int .i64 s.clock:: .int .i64 s.nextID:: .int .i64 s.epoch::Wr))]),(6,.row [.d (zd t)]),(8,.row [.d (.agg (A.map (D.int .i64)))]),(9,.row [.d (.agg (B.map (D.int .i64)))]),(10,.row [.d (.agg (Q.map D.bool))]),(22,zp l x),(27,.row [zbf a (.xsl []) N])]⟩)
theorem zEt(s:Setup)(Wr:List D)(l:List Int)(x:Nat)(a:zg)(N from_:Int)(t:zi)(k:Nat)(A B:List Int)(Q:List Bool)(hk:k<400)(hA:A.length=400)(hB:B.length=400)(hsl:a.slots.length<=6)(hsh:∀y∈a.slots,zV y.shard=0):
    ∀i:Nat,i<=a.slots.length->zN G [] zh4 (ziK s Wr l x a N from_ t k (A.set k (zby a s.limit i).1) (B.set k (zby a s.limit i).2) Q i)=some (zjQ s Wr l x a N from_ t (A.set k (zby a s.limit a.slots.length).1) (B.set k (zby a s.limit a.slots.length).2) Q):=by
 refine zaB (fun i=>a.slots.length - i) (fun i=>i<=a.slots.length) (fun i=>ziK s Wr l x a N from_ t k (A.set k (zby a s.limit i).1) (B.set k (zby a s.limit i).2) Q i) (fun _=>_) fun i hi L ih=> ?_
 by_cases h0:i<a.slots.length
 ·have i1:=ih (i+1) zo zo;have hc:=zqa a.slots[i].shard a.epoch s.limit (by have:=(zbv (hsh _ (zWH h0))).1;omega) (by have:=(zbv (hsh _ (zWH h0))).2.1;omega) (by have:=(zbv (hsh _ (zWH h0))).2.2;omega);have b1:=zCK a s.limit i hi;have b2:=zp6 a.slots[i].shard a.epoch s.limit;rw[ztg h0] at i1;clear ih hsh;generalize zby a s.limit i=p at *;generalize zbP a.slots[i].shard a.epoch s.limit=q at *;obtain⟨p1,p2⟩:=p;obtain⟨q1,q2⟩:=q;simp only[zj] at hc;obtain⟨gA1,gA2⟩:=zo2 (A:=A) (k:=k) zo zo;obtain⟨gB1,gB2⟩:=zo2 (A:=B) (k:=k) zo zo;simp only[ziK,zh4,zbf,zp] at *;simp only[zNr,zp] at i1;generalize zjQ s Wr l x a N from_ t (A.set k (zby a s.limit a.slots.length).1) (B.set k (zby a s.limit a.slots.length).2) Q=R at *;have sz_t:=zE t;generalize zd t=D_t at *;have zk0:=zd0.eq_1;exact zS
 ·obtain rfl:i=a.slots.length:=by omega
  clear ih hsh;simp only[ziK,zjQ,zh4,zbf,zp];have sz_t:=zE t;generalize zd t=D_t at *;exact zS
structure PJ(u:Setup)(N:Int)(a:zg)(ts:List zi):Prop where
 i:PI u N a ts
 t:GT u a ts
theorem PJ.time{u:Setup}{N:Int}{a:zg}{ts:List zi}(h:PJ u N a ts)(hN:N<=199999){c:Int}(hc:0<=c/\c<=1073741824):PJ u (N+1) { a with clock:=c } ts/\Mo a { a with clock:=c }:=
 ⟨⟨h.i.step hN { h.i.ar with ck:=hc },(h.t.time h.i.ar h.i.ti c).1⟩,(h.t.time h.i.ar h.i.ti c).2⟩
theorem PJ.epoch{u:Setup}{N:Int}{a:zg}{ts:List zi}(h:PJ u N a ts)(hN:N<=199999){c:Int}(hc:a.epoch<=c/\c<=65536):PJ u (N+1) { a with epoch:=c } ts/\Mo a { a with epoch:=c }:=
 ⟨⟨h.i.step hN { h.i.ar with ep:=⟨by have:=h.i.ar.ep;simp only;omega,hc.2⟩ },(h.t.epoch h.i.ar h.i.ti hc.1).1⟩,(h.t.epoch h.i.ar h.i.ti hc.1).2⟩
theorem PJ.keep{u:Setup}{N:Int}{a:zg}{ts:List zi}(h:PJ u N a ts)(hN:N<=199999):PJ u (N+1) a ts/\Mo a a:=⟨⟨h.i.step hN h.i.ar,h.t⟩,Mo.refl a⟩
theorem PJ.task{u:Setup}{N:Int}{a:zg}{ts:List zi}(h:PJ u N a ts)(hN:N<=199999){i:Nat}(hi:i<ts.length)(e:(zaQ zag a ts[i] (N+1)).2.2.2=0):
    PJ u (N+1) (zaQ zag a ts[i] (N+1)).1 (ts.set i (zaQ zag a ts[i] (N+1)).2.1)/\Mo a (zaQ zag a ts[i] (N+1)).1:=by
 obtain⟨g1,g2⟩:=h.t.task zgv.ok h.i.hu h.i.ar h.i.ti hi e;exact⟨⟨h.i.task hN hi e,g1⟩,g2⟩
theorem PJ.world{u:Setup}{w:World}{N:Int}(h:PI u N w.arena w.tasks)(hw:WG u w):PJ u N w.arena w.tasks:=⟨h,hw.2⟩
def zhA(u:Setup)(l:List Int)(N:Int)(a:zg)(n:Nat)(r:Option (Go.Sim.AV×zf)):Prop:=∃(a':zg) (ts':List zi) (x':Nat),PJ u (N+1) a' ts'/\Mo a a'/\ts'.length=n/\r=some (.d (.tup []),rvH l x' a' ts' (N+1))
theorem zSn{u:Setup}{N:Int}{a:zg}{ts:List zi}(h:PJ u N a ts)(hN:N<=199999)(h0:ts≠[])(l:List Int)(x:Nat)(hL:l.length<=4000):zbV (zhA u l N a ts.length) (zh G 14 [.ref 1000000 0 0,.ref 1000001 0 0] (rvH l x a ts N)):=by
 have hn:=fun at1 m=>ze0 l at1 m hL;have n1:=zbp l x (n:=12) zo;have hnn:=h.i.nn;obtain⟨x2,q2⟩:∃x2,(zau l x).2=x2:=⟨_,rfl⟩;have hck:=h.i.ar.ck;have hep:=h.i.ar.ep;have hlen:ts.length<=200:=h.i.tl
 by_cases c10:nD l x 12=10
 ·by_cases ck:a.clock<1073741814
  ·have hi:=zbp l x2 (n:=6) zo;have hp:=h.time hN (c:=a.clock+nD l x2 6) zo;have fin:zbV (zhA u l N a ts.length) (some (.d (.tup []),rvH l (zau l x2).2 { a with clock:=a.clock+nD l x2 6 } ts (N+1))):=⟨_,ts,_,hp.1,hp.2,rfl,rfl⟩;clear hp h;simp only[rvH,zbf,zp] at *;rw[zO zeT (by simp)];exact zS
  ·have fin:zbV (zhA u l N a ts.length) (some (.d (.tup []),rvH l x2 a ts (N+1))):=⟨a,ts,x2,(h.keep hN).1,(h.keep hN).2,rfl,rfl⟩;clear h;simp only[rvH,zbf,zp] at *;rw[zO zeT (by simp)];exact zS
 by_cases c11:nD l x 12=11
 ·by_cases ce:a.epoch<65536
  ·by_cases c4:nD l x2 4=3
   ·have hp:=h.epoch hN (c:=a.epoch+1) zo;have fin:zbV (zhA u l N a ts.length) (some (.d (.tup []),rvH l (zau l x2).2 { a with epoch:=a.epoch+1 } ts (N+1))):=⟨_,ts,_,hp.1,hp.2,rfl,rfl⟩;clear hp h;simp only[rvH,zbf,zp] at *;rw[zO zeT (by simp)];exact zS
   ·have fin:zbV (zhA u l N a ts.length) (some (.d (.tup []),rvH l (zau l x2).2 a ts (N+1))):=⟨a,ts,_,(h.keep hN).1,(h.keep hN).2,rfl,rfl⟩;clear h;simp only[rvH,zbf,zp] at *;rw[zO zeT (by simp)];exact zS
  ·have fin:zbV (zhA u l N a ts.length) (some (.d (.tup []),rvH l x2 a ts (N+1))):=⟨a,ts,x2,(h.keep hN).1,(h.keep hN).2,rfl,rfl⟩;clear h;simp only[rvH,zbf,zp] at *;rw[zO zeT (by simp)];exact zS
 have hoN:=zmc { zaA with tasks:=ts } (by simp only;omega);have hoC:=zoC { zaA with tasks:=ts } (by simp only;omega);have hol:=zoD { zaA with tasks:=ts };have hoo:=zr7 { zaA with tasks:=ts };simp only at hoN hoC hol hoo;have hat:=fun k hk=>zoE (w:={ zaA with tasks:=ts }) (k:=k) hk;simp only at hat;have hOl:(za9 { zaA with tasks:=ts }).length<=ts.length:=by
  unfold za9;exact zXo (zXJ _ _) (by simp)
 generalize za9 { zaA with tasks:=ts }=O at *;generalize opL ts ts.length=o at *
 rcases o with _|⟨o1,o⟩
 ·have h2:=hoN rfl;have fin:zbV (zhA u l N a ts.length) (some (.d (.tup []),rvH l x2 a ts (N+1))):=⟨a,ts,x2,(h.keep hN).1,(h.keep hN).2,rfl,rfl⟩;clear h hoN hoC hat hol hoo;simp only[rvH,zbf,zp,zy,zaA,zeb,zB,zn,zaH,zgc,zP,zWA,zt] at *;rw[zO zeT (by simp)];exact zS
 ·have h2:=hoC o1 o rfl;simp only[zWI] at hol;have hob:o.length<=200:=by omega
  have nj:=zbp l x2 (n:=(o.length:Int)+1) zo;obtain⟨j,hj⟩:∃j:Nat,nD l x2 ((o.length:Int)+1)=j:=⟨(nD l x2 ((o.length:Int)+1)).toNat,by omega⟩;have hi:=hat j zo;have hj2:j<o.length+1:=by omega
  have hg2:(AV.d (D.int .i64 o1)::(zt o).map AV.d)[j]? = some (.d (.int .i64 (O.getD j 0:Nat))):=by
   show (((o1::o).map (D.int .i64)).map AV.d)[j]? = _;rw[hoo,zWT,zWT,zWT,zWG,zWF zo];rfl
  generalize O.getD j 0=i at *;have hst:=zCC (n:=N+1) zgv h.i.hu h.i.ar (h.i.ti _ (zWH hi)) zo (fun b hb=>by have:=h.i.tk _ (zWH hi) b hb;omega);have hpt:=h.task hN hi;have fin0:zbV (zhA u l N a ts.length) (some (.d (.tup []),rvH l (zau l x2).2 a ts (N+1))):=⟨a,ts,_,(h.keep hN).1,(h.keep hN).2,rfl,rfl⟩;have fin1:(zaQ zag a ts[i] (N+1)).2.2.2=0->zbV (zhA u l N a ts.length) (some (.d (.tup []),rvH l (zau l x2).2 (zaQ zag a ts[i] (N+1)).1 (ts.set i (zaQ zag a ts[i] (N+1)).2.1) (N+1))):=fun e=>⟨_,_,_,(hpt e).1,(hpt e).2,zW8,rfl⟩;have hf:=zyT o;clear h hoN hoC hat hpt nj hol hoo hOl;generalize hT:ts[i]=t at *;generalize zaQ zag a t (N+1)=r at *;obtain⟨a2,t2,ev,e⟩:=r;simp only at hst fin1
  by_cases ce:e=0
  ·subst ce;have fin:=fin1 rfl;clear fin1 fin0;have em:(ts.set i t2).map zd=(ts.map zd).set i (zd t2):=by rw[zXy]
   simp only[rvH,zW8,em] at fin;clear em;have sz_t2:=zE t2;generalize zd t2=D_t2 at *;simp only[rvH,zbf,zp,zy,zaA,zeb,zB,zn,zaH,zgc,zP,zWA,zt] at *;rw[zO zeT (by simp)];exact zS
  ·replace ce:=zWE ce;clear fin1;have sz_t2:=zE t2;generalize zd t2=D_t2 at *;simp only[rvH,zbf,zp,zy,zaA,zeb,zB,zn,zaH,zgc,zP,zWA,zt] at *;rw[zO zeT (by simp)];exact zS
def zjt(u:Setup)(l:List Int)(N:Int)(a:zg)(r:Option (Go.Sim.AV×zf)):Prop:=∃(a':zg) (x':Nat),PJ u (N+1) a' []/\Mo a a'/\r=some (.d (.tup []),rv0 l x' a' (N+1))
theorem zSm{u:Setup}{N:Int}{a:zg}(h:PJ u N a [])(hN:N<=199999)(l:List Int)(x:Nat)(hL:l.length<=4000):zbV (zjt u l N a) (zh G 14 [.ref 1000000 0 0,.ref 1000001 0 0] (rv0 l x a N)):=by
 have hn:=fun at1 m=>ze0 l at1 m hL;have n1:=zbp l x (n:=12) zo;have hnn:=h.i.nn;obtain⟨x2,q2⟩:∃x2,(zau l x).2=x2:=⟨_,rfl⟩;have hck:=h.i.ar.ck;have hep:=h.i.ar.ep
 by_cases c10:nD l x 12=10
 ·by_cases ck:a.clock<1073741814
  ·have hi:=zbp l x2 (n:=6) zo;have hp:=h.time hN (c:=a.clock+nD l x2 6) zo;have fin:zbV (zjt u l N a) (some (.d (.tup []),rv0 l (zau l x2).2 { a with clock:=a.clock+nD l x2 6 } (N+1))):=⟨_,_,hp.1,hp.2,rfl⟩;clear hp h;simp only[rv0,zbf,zp] at *;rw[zO zeT (by simp)];exact zS
  ·have fin:zbV (zjt u l N a) (some (.d (.tup []),rv0 l x2 a (N+1))):=⟨a,x2,(h.keep hN).1,(h.keep hN).2,rfl⟩;clear h;simp only[rv0,zbf,zp] at *;rw[zO zeT (by simp)];exact zS
 by_cases c11:nD l x 12=11
 ·by_cases ce:a.epoch<65536
  ·by_cases c4:nD l x2 4=3
   ·have hp:=h.epoch hN (c:=a.epoch+1) zo;have fin:zbV (zjt u l N a) (some (.d (.tup []),rv0 l (zau l x2).2 { a with epoch:=a.epoch+1 } (N+1))):=⟨_,_,hp.1,hp.2,rfl⟩;clear hp h;simp only[rv0,zbf,zp] at *;rw[zO zeT (by simp)];exact zS
   ·have fin:zbV (zjt u l N a) (some (.d (.tup []),rv0 l (zau l x2).2 a (N+1))):=⟨a,_,(h.keep hN).1,(h.keep hN).2,rfl⟩;clear h;simp only[rv0,zbf,zp] at *;rw[zO zeT (by simp)];exact zS
  ·have fin:zbV (zjt u l N a) (some (.d (.tup []),rv0 l x2 a (N+1))):=⟨a,x2,(h.keep hN).1,(h.keep hN).2,rfl⟩;clear h;simp only[rv0,zbf,zp] at *;rw[zO zeT (by simp)];exact zS
 have h2:=zmc zaA (by simp [zaA]) rfl;have fin:zbV (zjt u l N a) (some (.d (.tup []),rv0 l x2 a (N+1))):=⟨a,x2,(h.keep hN).1,(h.keep hN).2,rfl⟩;clear h;simp only[rv0,zbf,zp,zy,zaA,zeb,zB,zn,zaH,zgc,zP,zWA,zt] at *;rw[zO zeT (by simp)];exact zS
end Go.Proofs.YtjalkkalhdnplaaGreat
