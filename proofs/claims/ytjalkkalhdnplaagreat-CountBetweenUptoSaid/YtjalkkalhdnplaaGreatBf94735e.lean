/-
  Steps of sections.
-/
import Derived.Test.YtjalkkalhdnplaaGreatB907f86f
import Derived.Test.YtjalkkalhdnplaaGreatB6bf7f7c
import Derived.Test.YtjalkkalhdnplaaGreatB4cd137a
import Derived.Test.YtjalkkalhdnplaaGreatBbac9897
set_option linter.unusedSimpArgs false
set_option linter.unusedVariables false
set_option maxHeartbeats 10000000
set_option maxRecDepth 100000
namespace Go.Proofs.YtjalkkalhdnplaaGreat
open Go Go.Sim
def zcK(s:Shard)(m:Message):Shard×Int:=
 if zaa s≠0 then (zw,zaa s) else if zak m≠0 then (zw,zak m) else if ¬(s.low<=m.route/\m.route<=s.high) then (zw,12)
 else if s.ready.size+s.leases.l.length=s.ready.cells.length then (zw,3) else if ((zaO s).any fun x=>decide (x.id=m.id))=true then (zw,10) else ({ s with ready:=(pbD s.ready m).1 },0)
theorem zDK(l:List Message)(id:Int):(l.any fun m=>decide (m.id=id))=decide (0<=zaF l id):=by
 by_cases h:∃m∈l,m.id=id
 ·rw[zWY (zqz h)];obtain⟨m,hm,e⟩:=h;exact zXG.2 ⟨m,hm,by simp [e]⟩
 ·have:zaF l id<0:=by
     unfold zaF;rw[znQ];intro m hm;have:¬m.id=id:=fun e=>h ⟨m,hm,e⟩;simp [this]
  rw[zW0 zo];refine zY0.2 fun q=>h ?_;obtain⟨m,hm,e⟩:=zXG.1 q;exact⟨m,hm,of_decide_eq_true e⟩
theorem zOd{s:Shard}(h:zaa s=0):usE s true=0:=by unfold usE;rw[zWy (fun q=>q h)];rfl
theorem zBu(s:Shard)(m:Message)(q:zbc s):zh G 215 [.d (zj s),.d (zk m)] []=some (.d (.tup [zj (zcK s m).1,.int .i64 (zcK s m).2]),[]):=by
 have hlv:=(zfl s q.1 q.2.1 q.2.2);unfold zcK
 by_cases c0:zaa s=0
 ·rw[zWy (fun q=>q c0)];have hu:=zOd c0;obtain⟨d1,d2,d3,d4⟩:=zti hu;have hring:=ztj hu;have hz:=zcV hring;have hv2:=(zih m);have hst:=zhC s q;have hsv:zbl s=s.ready.size+s.leases.l.length:=by unfold zbl;rw[zWz (zfX hu).1]
  rw[hsv] at hst;have hall:=(zjH hring d3);have hlm:=zCb hring d3;have hix:=(ziZ (zaO s) m.id zo);have haf:=zDK (zaO s) m.id;have hpb:=(zoN s.ready m zo);have hsz:s.ready.size<=12/\0<=s.ready.size:=⟨by have:=hz.2.2.2.2.2;omega,hz.2.2.2.2.1⟩;rw[c0] at hlv;rw[haf];clear hu hring hz hsv haf c0 q
  by_cases c1:zak m=0
  ·rw[zWy (fun q=>q c1)];rw[c1] at hv2
   by_cases c2:s.low<=m.route/\m.route<=s.high
   ·rw[zWy (fun q=>q c2)];obtain⟨c21,c22⟩:=c2
    by_cases c3:s.ready.size+s.leases.l.length=s.ready.cells.length
    ·rw[zWz c3];rw[c3] at hst;clear hpb hix hall c1 c3;obtain⟨lv,lo,hi,⟨c,h,z⟩,⟨tl,th⟩⟩:=s;simp only[zj,zk,zw,zWA] at *;exact zW
    ·rw[zWy c3];generalize zaF (zaO s) m.id=fi at *;generalize zaO s=w at *;obtain⟨sz,esz⟩:∃sz,s.ready.size+s.leases.l.length=sz:=⟨_,rfl⟩;rw[esz] at hst c3;clear esz
     by_cases c5:0<=fi
     ·rw[zWY c5,zWz rfl];clear hpb c1;obtain⟨lv,lo,hi,⟨c,h,z⟩,⟨tl,th⟩⟩:=s;simp only[zj,zk,zw,zWA] at *;exact zW
     ·rw[zW0 c5,zWy (by simp)];clear c1;generalize pbD s.ready m=p at *;obtain⟨r2,e2⟩:=p;obtain⟨lv,lo,hi,⟨c,h,z⟩,⟨tl,th⟩⟩:=s;obtain⟨c2,h2,z2⟩:=r2;simp only[zj,zk,z6,zw,zWA] at *;exact zW
   ·rw[zWz c2];clear hpb hix hall hst c1;obtain⟨lv,lo,hi,⟨c,h,z⟩,⟨tl,th⟩⟩:=s;simp only[zj,zk,zw,zWA] at *
    by_cases c3:m.route<lo
    ·exact zW
    ·have c4:hi<m.route:=by omega
     clear c2;exact zW
  ·rw[zWz c1];clear hpb hix hall hst;generalize zak m=mv at *;obtain⟨lv,lo,hi,⟨c,h,z⟩,⟨tl,th⟩⟩:=s;simp only[zj,zk,zw,zWA] at *;exact zW
 ·rw[zWz c0];generalize zaa s=v at *;simp only[zj,zk,zw,zWA] at *;exact zW
def zka(r lo hi:Int):Int:=if r<0\/65536<=r\/lo<0\/65536<=hi\/hi<lo then 0 else zqX r lo hi
def zcf(m:Message)(lo hi:Int):Message:={ m with route:=zka m.route lo hi }
def zbN(m:Message):Message:={ m with count:=0 }
def zjd(id route ep now:Int)(body:List UInt8):Message×Int:=
 if zak ⟨id,route,ep,0,0,now,body⟩≠0 then (z9,zak ⟨id,route,ep,0,0,now,body⟩) else (⟨id,route,ep,0,0,now,body⟩,0)
def zbD(n:Int)(lo hi:Int):Shard×Int:=
 if n<1\/12<n then (zw,1) else if ¬(0<=lo/\lo<=hi/\hi<65536) then (zw,1) else (⟨true,lo,hi,⟨List.replicate n.toNat z9,0,0⟩,zac⟩,0)
def zc4(n:Int):Shard×Int:=if n<1\/12<n then (zw,1) else (⟨false,0,0,⟨List.replicate n.toNat z9,0,0⟩,zac⟩,0)
def rmP(ep:Int):List Message->zR->zR
 | [],r=>r
 | m::l,r=>if m.epoch<ep then rmP ep l (rmD r m.id).1 else rmP ep l r
def relP(ep:Int):List zx->Table->Table
 | [],t=>t
 | y::l,t=>if y.msg.epoch<ep then relP ep l (z8 t y.msg.id).1 else relP ep l t
def zgG(s:Shard)(ep:Int):Shard×Int×Int:=
 if zaa s≠0 then (zw,0,zaa s) else if epQ ep=false then (zw,0,1)
 else ({ s with ready:=rmP ep (zu s.ready) s.ready,leases:=relP ep s.leases.l s.leases },((zu s.ready).filter fun m=>decide (m.epoch<ep)).length+(s.leases.l.filter fun y=>decide (y.msg.epoch<ep)).length,0)
def zeN(r:zR)(k:Int):zR×List Message×Int:=
 if zaI r≠0 then (zar,[],zaI r) else if k<0\/r.size<k then (zar,[],1)
 else (rg r.cells.length r.head.toNat ((zu r).take ((zu r).length - k.toNat)),(zu r).drop ((zu r).length - k.toNat),0)
def zeO(s:Shard)(k:Int):Shard×List Message×Int:=
 if zaa s≠0 then (zw,[],zaa s) else if (zeN s.ready k).2.2≠0 then (zw,[],(zeN s.ready k).2.2) else ({ s with ready:=(zeN s.ready k).1 },(zeN s.ready k).2.1,0)
def zee(lo hi:Int):List Message->Shard->Shard×Int
 | [],s=>(s,0)
 | m::l,s=>if (zcK s (zcf m lo hi)).2≠0 then (zw,(zcK s (zcf m lo hi)).2) else zee lo hi l (zcK s (zcf m lo hi)).1
def zfx(s:Shard)(l:List Message):Shard×Int:=
 if zaa s≠0 then (zw,zaa s) else if (s.ready.cells.length:Int) - zbl s<l.length then (zw,3) else zee s.low s.high l s
def zdD(k ep lim:Int):List Message->zR->List Message->zR×List Message
 | [],r,out=>(r,out)
 | m::l,r,out=>if ¬(out.length:Int)<k then (r,out) else if lim<=m.count/\¬m.epoch<ep then zdD k ep lim l (rmD r m.id).1 (out++[m]) else zdD k ep lim l r out
def zeJ(s:Shard)(k ep lim:Int):Shard×List Message×Int:=
 if zaa s≠0 then (zw,[],zaa s) else if epQ ep=false\/liQ lim=false\/k<0 then (zw,[],1)
 else ({ s with ready:=(zdD k ep lim (zu s.ready) s.ready []).1 },(zdD k ep lim (zu s.ready) s.ready []).2,0)
def zbB(lo hi:Int):List Message->zR->zR
 | [],r=>r
 | m::l,r=>if lo<=m.route/\m.route<=hi then zbB lo hi l (pbD r m).1 else zbB lo hi l r
def zd1(lo hi:Int):List zx->Table->Table
 | [],t=>t
 | y::l,t=>if lo<=y.msg.route/\y.msg.route<=hi then zd1 lo hi l (zaG t y.msg y.deadline).1 else zd1 lo hi l t
def zgf(s:Shard)(l:List Message)(y:List zx):Shard:={ s with ready:=zbB s.low s.high l s.ready,leases:=zd1 s.low s.high y s.leases }
def zde(s:Shard)(mid:Int):Shard×Shard×Int:=
 if zaa s≠0 then (zw,zw,zaa s) else if mid<s.low\/s.high<=mid then (zw,zw,1)
 else (zgf (zbD s.ready.cells.length s.low mid).1 (zu s.ready) s.leases.l,zgf (zbD s.ready.cells.length (mid+1) s.high).1 (zu s.ready) s.leases.l,0)
def zg5(a b:Shard):Shard×Int:=
 if zV a≠0 then (zw,zV a) else if zV b≠0 then (zw,zV b)
 else if a.live=false\/b.live=false\/a.high+1≠b.low/\b.high+1≠a.low then (zw,7)
 else if (a.ready.cells.length:Int)<zbl a+zbl b then (zw,3)
 else if ((zaO b).any fun m=>decide (0<=zaF (zaO a) m.id))=true then (zw,10)
 else (zgf { a with low:=if a.low<b.low then a.low else b.low,high:=if a.high<b.high then b.high else a.high } (zu b.ready) b.leases.l,0)
def RM(B:Int)(r:zR):Prop:=∀m∈zu r,m.epoch<=B
def TM(B:Int)(t:Table):Prop:=∀y∈t.l,y.msg.epoch<=B
def LM(B:Int)(l:List Message):Prop:=∀m∈l,m.epoch<=B
def SM(B:Int)(s:Shard):Prop:=RM B s.ready/\TM B s.leases
theorem zoF{n h:Nat}{L:List Message}(hn:1<=n)(hl:L.length<=n):zu (rg n h L)=L:=by
 rw[rg,zie];exact zji hn hl
theorem zm0(B:Int):RM B zar:=by intro m hm;simp [zu,zar] at hm
theorem zjE(B:Int):TM B zac:=by intro m hm;cases hm
theorem zbn(B:Int):SM B zw:=⟨zm0 B,zjE B⟩
theorem zQk{r:zR}{m:Message}(h:zcJ r m=0):zu (pbD r m).1=zu r++[m]:=by
 obtain⟨h1,h2,h3,h4⟩:=zjl h;obtain⟨n,k,e,a1,a2,a3,a4,_⟩:=zhz h1;have hc:r.cells.length=n:=by rw[e];exact zfU _ _ _
 have hz:=congrArg zR.size e;simp only[rg] at hz;unfold pbD;rw[zWz h,hc];exact zoF a1 (by simp only[zWJ,zW6];omega)
theorem zQs{r:zR}{m:Message}(h:zcJ r m=0):zu (pfD r m).1=m::zu r:=by
 obtain⟨h1,h2,h3,h4⟩:=zjl h;obtain⟨n,k,e,a1,a2,a3,a4,_⟩:=zhz h1;have hc:r.cells.length=n:=by rw[e];exact zfU _ _ _
 have hz:=congrArg zR.size e;simp only[rg] at hz;unfold pfD;rw[zWz h,hc];exact zoF a1 (by simp only[zWI];omega)
theorem RM.pb{B:Int}{r:zR}{m:Message}(h:RM B r)(hm:m.epoch<=B):RM B (pbD r m).1:=by
 by_cases c:zcJ r m=0
 ·intro x hx;rw[zQk c] at hx
  rcases zW3.1 hx with hx|hx
  ·exact h x hx
  ·rw[zW7.1 hx];exact hm
 ·unfold pbD;rw[zWy c];exact zm0 B
theorem RM.pf{B:Int}{r:zR}{m:Message}(h:RM B r)(hm:m.epoch<=B):RM B (pfD r m).1:=by
 by_cases c:zcJ r m=0
 ·intro x hx;rw[zQs c] at hx
  rcases zXe.1 hx with rfl|hx
  ·exact hm
  ·exact h x hx
 ·unfold pfD;rw[zWy c];exact zm0 B
theorem RM.rm{B:Int}{r:zR}(h:RM B r)(hB:0<=B)(id:Int):RM B (rmD r id).1/\(rmD r id).2.1.epoch<=B:=by
 unfold rmD
 split
 ·rename_i c;unfold rmE at c
  split at c
  ·rename_i q;exact absurd c q
  rename_i q
  split at c
  ·cases c
  rename_i q2;obtain⟨n,k,e,a1,a2,a3,a4,_⟩:=zhz (zWO.1 q);have hc:r.cells.length=n:=by rw[e];exact zfU _ _ _
  have hk:=zqy (l:=zu r) (id:=id) zo;constructor
  ·intro x hx;rw[hc] at hx;simp only at hx;rw[zoF a1 (by rw[zZj];split<;>omega)] at hx;exact h x (zZk hx)
  ·simp only;rw[<- zzD hk];exact h _ (zWH hk)
 ·exact⟨zm0 B,hB⟩
theorem TM.gr{B:Int}{t:Table}{m:Message}{d:Int}(h:TM B t)(hm:m.epoch<=B):TM B (zaG t m d).1:=by
 unfold zaG
 split
 ·intro y hy
  rcases zXe.1 ((zhj t.l m d).mem_iff.1 hy) with rfl|hy
  ·exact hm
  ·exact h y hy
 ·exact zjE B
theorem TM.rel{B:Int}{t:Table}(h:TM B t)(hB:0<=B)(id:Int):TM B (z8 t id).1/\(z8 t id).2.1.epoch<=B:=by
 unfold z8
 split
 ·constructor
  ·intro y hy;simp only[zqh] at hy;exact h y (zZk hy)
  ·simp only;rw[zWG]
   cases q:t.l[(zab t.l id).toNat]? with
   | none=>exact hB
   | some y=>exact h y (zWX q)
 ·exact⟨zjE B,hB⟩
theorem TM.ext{B:Int}{t:Table}(h:TM B t)(hB:0<=B)(id d:Int):TM B (zbe t id d).1:=by
 unfold zbe
 split
 ·intro y hy;simp only[zkT] at hy
  rcases zX7 hy with hy|rfl
  ·exact h y hy
  ·simp only;rw[zWG]
   cases q:t.l[(zab t.l id).toNat]? with
   | none=>exact hB
   | some y=>exact h y (zWX q)
 ·exact zjE B
theorem SM.rel{B:Int}{s:Shard}(h:SM B s)(hB:0<=B)(id:Int):SM B (zaC s id).1/\(zaC s id).2.1.epoch<=B:=by
 unfold zaC
 split
 ·exact⟨⟨h.1,(h.2.rel hB id).1⟩,(h.2.rel hB id).2⟩
 ·exact⟨zbn B,hB⟩
theorem SM.exp{B:Int}(hB:0<=B):∀(l:List Int) (s:Shard),SM B s->SM B (zcF l s).1:=by
 intro l
 induction l with
 | nil=>intro s h;exact h
 | cons id l ih=>
  intro s h;rw[zcF]
  split
  ·exact zbn B
  split
  ·exact zbn B
  ·obtain⟨h1,h2⟩:=h.rel hB id;exact ih _ ⟨h1.1.pb h2,h1.2⟩
theorem SM.expi{B:Int}{s:Shard}(h:SM B s)(hB:0<=B)(now ep lim:Int):SM B (zcE s now ep lim).1:=by
 unfold zcE
 split
 ·exact zbn B
 split
 ·exact SM.exp hB _ _ h
 ·exact zbn B
theorem SM.dlv{B:Int}{s:Shard}(h:SM B s)(hB:0<=B)(m:Message)(d:Int):SM B (zfh s m d).1:=by
 unfold zfh
 split
 ·exact h
 split
 ·exact h
 split
 ·exact h
 rename_i c1 c2 c3;have hr:=h.1.rm hB m.id;refine⟨hr.1,h.2.gr ?_⟩;unfold zdY at c2 ⊢
 split
 ·exact hB
 split
 ·exact hB
 split
 ·exact hB
 ·exact hr.2
theorem SM.tk{B:Int}(hB:0<=B){mx d ep lim:Int}:∀(l:List Message) (s:Shard) (out:List zx),SM B s->SM B (tkF mx d ep lim l s out).1:=by
 intro l
 induction l with
 | nil=>intro s out h;exact h
 | cons m l ih=>
  intro s out h;rw[tkF]
  split
  ·exact ih _ _ h
  split
  ·exact zbn B
  ·exact ih _ _ (h.dlv hB m d)
theorem SM.take{B:Int}{s:Shard}(h:SM B s)(hB:0<=B)(mx now vis ep lim:Int):SM B (zcN s mx now vis ep lim).1:=by
 unfold zcN
 split
 ·exact zbn B
 split
 ·exact zbn B
 ·exact SM.tk hB _ _ _ h
theorem SM.ack{B:Int}{s:Shard}(h:SM B s)(hB:0<=B)(hd:zaW)(now ep:Int):SM B (zcY s hd now ep).1:=by
 unfold zcY
 split
 ·exact zbn B
 split
 ·exact (h.rel hB hd.id).1
 ·exact zbn B
theorem SM.nack{B:Int}{s:Shard}(h:SM B s)(hB:0<=B)(hd:zaW)(now ep lim:Int):SM B (zcS s hd now ep lim).1:=by
 unfold zcS
 split
 ·exact zbn B
 split
 ·split
  ·exact zbn B
  split
  ·exact zbn B
  ·obtain⟨h1,h2⟩:=h.rel hB hd.id;refine⟨?_,h1.2⟩;unfold zdV
   split
   ·exact h1.1.pb h2
   ·exact h1.1.pf h2
 ·exact zbn B
theorem SM.chg{B:Int}{s:Shard}(h:SM B s)(hB:0<=B)(hd:zaW)(now ep vis:Int):SM B (zeM s hd now ep vis).1:=by
 unfold zeM
 split
 ·exact zbn B
 split
 ·split
  ·exact zbn B
  split
  ·exact zbn B
  ·exact⟨h.1,h.2.ext hB _ _⟩
 ·exact zbn B
theorem SM.put{B:Int}{s:Shard}{m:Message}(h:SM B s)(hm:m.epoch<=B):SM B (zcK s m).1:=by
 unfold zcK
 repeat' split
 all_goals first|exact zbn B|exact h|exact⟨h.1.pb hm,h.2⟩
theorem SM.abs{B:Int}{lo hi:Int}:∀(l:List Message) (s:Shard),LM B l->SM B s->SM B (zee lo hi l s).1:=by
 intro l
 induction l with
 | nil=>intro s _ h;exact h
 | cons m l ih=>
  intro s hl h;rw[zee]
  split
  ·exact zbn B
  ·exact ih _ (fun x hx=>hl x (.tail _ hx)) (h.put (m:=zcf m lo hi) (hl m (.head _)))
theorem SM.absorb{B:Int}{s:Shard}{l:List Message}(h:SM B s)(hl:LM B l):SM B (zfx s l).1:=by
 unfold zfx
 split
 ·exact zbn B
 split
 ·exact zbn B
 ·exact SM.abs _ _ hl h
theorem SM.detach{B:Int}{s:Shard}(h:SM B s)(k:Int):SM B (zeO s k).1/\LM B (zeO s k).2.1:=by
 have hz:LM B []:=fun m hm=>by cases hm
 unfold zeO
 split
 ·exact⟨zbn B,hz⟩
 split
 ·exact⟨zbn B,hz⟩
 ·rename_i c;unfold zeN at c ⊢
  split at c
  ·rename_i q;exact absurd c (fun q2=>q2 q)
  rename_i q
  split at c
  ·exact absurd c (by simp)
  rename_i q2;rw[zWy q,zWy q2];obtain⟨n,k2,e,a1,a2,a3,a4,_⟩:=zhz (zWO.1 q);have hc:s.ready.cells.length=n:=by rw[e];exact zfU _ _ _
  refine⟨⟨fun x hx=> ?_,h.2⟩,fun x hx=>h.1 x (zYX hx)⟩;simp only[hc] at hx;rw[zoF a1 (by rw[zXY];omega)] at hx;exact h.1 x (zYm hx)
theorem RM.bury{B:Int}(hB:0<=B){k ep lim:Int}:∀(l:List Message) (r:zR) (out:List Message),LM B l->RM B r->LM B out->RM B (zdD k ep lim l r out).1/\LM B (zdD k ep lim l r out).2:=by
 intro l
 induction l with
 | nil=>intro r out _ h1 h2;exact⟨h1,h2⟩
 | cons m l ih=>
  intro r out hl h1 h2;have hl2:LM B l:=fun x hx=>hl x (.tail _ hx);rw[zdD]
  split
  ·exact⟨h1,h2⟩
  split
  ·refine ih _ _ hl2 (h1.rm hB _).1 fun x hx=> ?_
   rcases zW3.1 hx with hx|hx
   ·exact h2 x hx
   ·rw[zW7.1 hx];exact hl m (.head _)
  ·exact ih _ _ hl2 h1 h2
theorem SM.bury{B:Int}{s:Shard}(h:SM B s)(hB:0<=B)(k ep lim:Int):SM B (zeJ s k ep lim).1/\LM B (zeJ s k ep lim).2.1:=by
 have hz:LM B []:=fun m hm=>by cases hm
 unfold zeJ
 split
 ·exact⟨zbn B,hz⟩
 split
 ·exact⟨zbn B,hz⟩
 ·have:=RM.bury hB (k:=k) (ep:=ep) (lim:=lim) (zu s.ready) s.ready [] h.1 h.1 hz;exact⟨⟨this.1,h.2⟩,this.2⟩
theorem RM.fill{B lo hi:Int}:∀(l:List Message) (r:zR),LM B l->RM B r->RM B (zbB lo hi l r):=by
 intro l
 induction l with
 | nil=>intro r _ h;exact h
 | cons m l ih=>
  intro r hl h;have hl2:LM B l:=fun x hx=>hl x (.tail _ hx);rw[zbB]
  split
  ·exact ih _ hl2 (h.pb (hl m (.head _)))
  ·exact ih _ hl2 h
theorem TM.fill{B lo hi:Int}:∀(l:List zx) (t:Table),(∀y∈l,y.msg.epoch<=B)->TM B t->TM B (zd1 lo hi l t):=by
 intro l
 induction l with
 | nil=>intro t _ h;exact h
 | cons y l ih=>
  intro t hl h;have hl2:∀y∈l,y.msg.epoch<=B:=fun x hx=>hl x (.tail _ hx);rw[zd1]
  split
  ·exact ih _ hl2 (h.gr (hl y (.head _)))
  ·exact ih _ hl2 h
theorem SM.fill{B:Int}{s:Shard}{l:List Message}{y:List zx}(h:SM B s)(hl:LM B l)(hy:∀x∈y,x.msg.epoch<=B):SM B (zgf s l y):=⟨RM.fill _ _ hl h.1,TM.fill _ _ hy h.2⟩
theorem zm1(B:Int)(n lo hi:Int):SM B (zbD n lo hi).1:=by
 unfold zbD
 repeat' split
 all_goals first|exact zbn B|exact⟨fun m hm=>by simp [zu] at hm,zjE B⟩
theorem SM.divide{B:Int}{s:Shard}(h:SM B s)(mid:Int):SM B (zde s mid).1/\SM B (zde s mid).2.1:=by
 unfold zde
 repeat' split
 ·exact⟨zbn B,zbn B⟩
 ·exact⟨zbn B,zbn B⟩
 ·exact⟨(zm1 ..).fill h.1 h.2,(zm1 ..).fill h.1 h.2⟩
theorem SM.unite{B:Int}{a b:Shard}(ha:SM B a)(hb:SM B b):SM B (zg5 a b).1:=by
 unfold zg5
 repeat' split
 all_goals first|exact zbn B|(exact SM.fill (s:={ a with low:=_,high:=_ }) ha hb.1 hb.2)
theorem SM.mono{B C:Int}{s:Shard}(h:SM B s)(hb:B<=C):SM C s:=⟨fun m hm=>zYA (h.1 m hm) hb,fun y hy=>zYA (h.2 y hy) hb⟩
theorem LM.mono{B C:Int}{l:List Message}(h:LM B l)(hb:B<=C):LM C l:=fun m hm=>zYA (h m hm) hb
abbrev Stp:=zg×zi×List Event×Int
def zbM(e:Int):Stp:=(zB,zC,[],e)
structure Tok where
 route:Int->Int
 enc:zaW->List UInt8×Int
 par:List UInt8->zaW×Int
def sh0(t:zi):Shard:=t.sec.shards.getD 0 zw
def zc9(K:Tok)(t0:zi):zi×List Event:=
 let s:=sh0 t0
 let t:zi:={ t0 with loaded:=0 }
 let o:=zU t.sec
 if ze2 s t.walk.next=false then (za8 t o,[])
 else if zbl s=s.ready.cells.length then
  (let t2:zi:={ t with walk:=(ze9 t.walk s.low s.high).1 }
   if zg7 t2.walk=false then (za8 t2 o,[])
   else (za8 { t2 with loaded:=2 } o,[{ zck t 2 with err:=3,l:=[⟨t.id,0,0,0⟩] }]))
 else
  let m:=(zjd t.id (zka (K.route t.id) s.low s.high) t.sec.snap.epoch t.sec.snap.clock (t.inv.bodies.getD t.entry.toNat [])).1
  (za8 { t with loaded:=1 } { o with shards:=[(zcK s m).1],order:=[0] },[{ zck t 2 with l:=[⟨t.id,0,m.route,0⟩] }])
def zdp(K:Tok)(a:zg)(t:zi)(n:Int):Stp:=
 if zX t 1 1≠0 then zbM (zX t 1 1)
 else if t.pc=0 then (if a.nextID=1073741824 then (a,zaY { t with loaded:=a.nextID } (za2 6) n,[{ evT t 2 n with err:=6 }],0) else (a,{ t with loaded:=a.nextID,pc:=1 },[],0))
 else if t.pc=1 then
  (let c:=casWord a 3 t.loaded (t.loaded+1)
   if c.2.2≠0 then zbM c.2.2 else (c.1,if c.2.1=true then { t with id:=t.loaded,pc:=2,walk:=(zg6 (K.route t.loaded)).1 } else { t with pc:=0 },[],0))
 else if t.pc=2 then (a,zho a t t.walk.next 3,[],0)
 else
  let g:=goT a t n
  if g.2.2.2.2≠0 then zbM g.2.2.2.2
  else if g.2.2.1=true then (g.1,(zc9 K g.2.1).1,(zc9 K g.2.1).2,0)
  else if g.2.2.2.1=false then (g.1,g.2.1,[],0)
  else if g.2.1.loaded=1 then (g.1,zaY g.2.1 { z5 with id:=g.2.1.id } n,[],0)
  else if g.2.1.loaded=2 then (g.1,zaY g.2.1 (za2 3) n,[],0)
  else (g.1,{ g.2.1 with pc:=2 },[],0)
def zdf(d:zal)(h:Int):Int:=if 0<=zj9 d h then zj9 d h else zeu d 0
def zdx(t:zi):Shard×List Int×List zx:=
 let e:=zcE (sh0 t) t.sec.snap.clock t.sec.snap.epoch t.setup.limit
 let k:=zcN e.1 t.inv.max t.sec.snap.clock t.inv.visibility t.sec.snap.epoch t.setup.limit
 (k.1,e.2.1,k.2.1)
def zij(K:Tok)(t:zi):Result:=
 { z5 with tokens:=(zdx t).2.2.map fun y=>(K.enc ⟨y.msg.id,y.msg.gen,y.msg.route,t.slot⟩).1,bodies:=(zdx t).2.2.map fun y=>y.msg.body }
def zhi(y:zx):Grant:=⟨y.msg.id,y.msg.gen,y.msg.route,y.deadline⟩
def zc8(t0:zi):zi×List Event:=
 let s:=sh0 t0
 let t:zi:={ t0 with loaded:=0 }
 let o:=zU t.sec
 if ze2 s t.walk.next=false then (za8 t o,[])
 else if 1073741824<t.sec.snap.clock+t.inv.visibility then (za8 { t with loaded:=3 } o,[{ zck t 3 with err:=6 }])
 else
  let r:=zdx t
  let ev1:List Event:=if 0<r.2.1.length then [{ zck t 10 with l:=r.2.1.map fun i=>⟨i,0,0,0⟩ }] else []
  let o2:zb3:=if 0<r.2.1.length\/0<r.2.2.length then { o with shards:=[r.1],order:=[0] } else o
  let t2:zi:={ t with walk:=(ze9 t.walk s.low s.high).1 }
  if 0<r.2.2.length then (za8 { t2 with loaded:=1 } o2,ev1++[{ zck t 3 with l:=r.2.2.map zhi }])
  else if zg7 t2.walk=true then (za8 { t2 with loaded:=2 } o2,ev1++[zck t 3]) else (za8 t2 o2,ev1)
def zdl(K:Tok)(a:zg)(t:zi)(n:Int):Stp:=
 if zX t 2 2≠0 then zbM (zX t 2 2)
 else if t.pc=0 then (a,zcc { t with dir:=a.dir,slot:=zdf a.dir t.inv.home,walk:=(zg6 (zkY a.dir (zdf a.dir t.inv.home)).1.low).1 } [zdf a.dir t.inv.home] 1,[],0)
 else if t.pc=2 then (a,zho a t t.walk.next 1,[],0)
 else
  let g:=goT a t n
  if g.2.2.2.2≠0 then zbM g.2.2.2.2
  else if g.2.2.1=true then (g.1,(zc8 g.2.1).1,(zc8 g.2.1).2,0)
  else if g.2.2.2.1=false then (g.1,g.2.1,[],0)
  else if g.2.1.loaded=3 then (g.1,zaY g.2.1 (za2 6) n,[],0)
  else if g.2.1.loaded=2 then (g.1,zaY g.2.1 z5 n,[],0)
  else if g.2.1.loaded=1 then (g.1,zaY g.2.1 (zij K g.2.1) n,[],0)
  else (g.1,{ g.2.1 with pc:=2 },[],0)
def ziR(op:Int):Int:=if op=3 then 4 else if op=4 then 5 else 6
def zdq(t:zi):Shard×Int:=
 if t.inv.kind=3 then zcY (sh0 t) t.handle t.sec.snap.clock t.sec.snap.epoch
 else if t.inv.kind=4 then zcS (sh0 t) t.handle t.sec.snap.clock t.sec.snap.epoch t.setup.limit
 else zeM (sh0 t) t.handle t.sec.snap.clock t.sec.snap.epoch t.inv.visibility
def zda(t:zi):zi×List Event:=
 let o:=zU t.sec
 if ze2 (sh0 t) t.handle.route=false then (za8 t o,[])
 else
  let x:=zdq t
  let g:Grant:=⟨t.handle.id,t.handle.gen,t.handle.route,if x.2=0/\t.inv.kind=5 then t.sec.snap.clock+t.inv.visibility else 0⟩
  (za8 t (if x.2=0 then { o with shards:=[x.1],order:=[0] } else o),[{ zck t (ziR t.inv.kind) with err:=x.2,l:=[g] }])
def zdr(K:Tok)(a:zg)(t:zi)(n:Int):Stp:=
 if zX t 3 5≠0 then zbM (zX t 3 5)
 else if t.pc=0 then
  (let h:=K.par (t.inv.tokens.getD t.entry.toNat [])
   if h.2≠0 then (a,zaY t (za2 5) n,[{ evT t (ziR t.inv.kind) n with err:=5 }],0)
   else (a,if h.1.hint<t.setup.slots then zcc { t with handle:=h.1,pc:=1 } [h.1.hint] 2 else { t with handle:=h.1,pc:=1 },[],0))
 else if t.pc=1 then (a,zho a t t.handle.route 2,[],0)
 else
  let g:=goT a t n
  if g.2.2.2.2≠0 then zbM g.2.2.2.2
  else if g.2.2.1=true then (g.1,(zda g.2.1).1,(zda g.2.1).2,0)
  else if g.2.2.2.1=false then (g.1,g.2.1,[],0)
  else if ze2 (sh0 g.2.1) g.2.1.handle.route=false then (g.1,{ g.2.1 with pc:=1 },[],0)
  else (g.1,zaY g.2.1 { z5 with err:=(zdq g.2.1).2,id:=if (zdq g.2.1).2=0 then g.2.1.handle.id else 0 } n,[],0)
def zhs(a b:Int):Int:=if a<b then a else b
def zfr(t:zi):Int:=zhs t.inv.max ((sh0 t).ready.cells.length - zbl (sh0 t))
def zcU(t:zi):zi×List Event:=
 let s:=sh0 t
 let o:=zU t.sec
 if s.live=false then (za8 t o,[])
 else if zfr t=0 then (za8 t o,[{ zck t 9 with err:=3 }])
 else
  let d:=zfV t.sec.dead (zfr t) t.sec.snap.epoch
  if d.2.1.length=0 then (za8 t o,[zck t 9])
  else (za8 t { o with carry:=d.2.1.map zbN,shards:=[(zfx s (d.2.1.map zbN)).1],dead:=d.1,order:=[1,0] },[{ zck t 9 with l:=d.2.1.map fun m=>⟨m.id,m.gen,(zcf (zbN m) s.low s.high).route,0⟩ }])
def zdm(a:zg)(t:zi)(n:Int):Stp:=
 if zX t 8 8≠0 then zbM (zX t 8 8)
 else if t.pc=0 then (a,zcc { t with dir:=a.dir,slot:=zdf a.dir t.inv.home } [zdf a.dir t.inv.home,t.setup.slots] 1,[],0)
 else
  let g:=goT a t n
  if g.2.2.2.2≠0 then zbM g.2.2.2.2
  else if g.2.2.1=true then (g.1,(zcU g.2.1).1,(zcU g.2.1).2,0)
  else if g.2.2.2.1=false then (g.1,g.2.1,[],0)
  else if (sh0 g.2.1).live=false then (g.1,{ g.2.1 with pc:=0 },[],0)
  else (g.1,zaY g.2.1 { z5 with moved:=g.2.1.sec.out.carry.length,err:=if zfr g.2.1=0 then 3 else 0 } n,[],0)
abbrev Pln:=zb3×Result×List Event
def zaL(plan:zi->Pln)(lo hi:Int)(cells:zi->List Int)(a:zg)(t0:zi)(n:Int):Stp:=
 if zX t0 lo hi≠0 then zbM (zX t0 lo hi)
 else
  let t:=if t0.pc=0 then zcc t0 (cells t0) 1 else t0
  let g:=goT a t n
  if g.2.2.2.2≠0 then zbM g.2.2.2.2
  else if g.2.2.1=true then (g.1,za8 g.2.1 (plan g.2.1).1,(plan g.2.1).2.2,0)
  else if g.2.2.2.1=false then (g.1,g.2.1,[],0)
  else (g.1,zaY g.2.1 (plan g.2.1).2.1 n,[],0)
def zdj(t:zi):List Int:=if t.inv.from_<t.inv.to then [0,1] else [1,0]
def zQ(t:zi):Shard:=if t.inv.from_<t.inv.to then t.sec.shards.getD 0 zw else t.sec.shards.getD 1 zw
def zaD(t:zi):Shard:=if t.inv.from_<t.inv.to then t.sec.shards.getD 1 zw else t.sec.shards.getD 0 zw
def zdK(t:zi)(x y:Shard):List Shard:=if t.inv.from_<t.inv.to then [x,y] else [y,x]
def zdv(t:zi):Pln:=
 let o:=zU t.sec
 if (zQ t).live=false\/(zaD t).live=false then (o,za2 7,[])
 else
  let k:=zhs (((zQ t).ready.size+1).tdiv 2) ((zaD t).ready.cells.length - zbl (zaD t))
  if k=0 then (o,z5,[])
  else
   let d:=zeO (zQ t) k
   ({ o with shards:=zdK t d.1 (zfx (zaD t) d.2.1).1,order:=zdj t,carry:=d.2.1 },{ z5 with moved:=k },[])
def zdu(t:zi):Pln:=
 let o:=zU t.sec
 let s:=zQ t
 if s.live=false\/(zaD t).live=true\/s.high<=s.low then (o,za2 7,[])
 else
  let mid:=(s.low+s.high).tdiv 2
  let d:=zde s mid
  ({ o with shards:=zdK t d.1 d.2.1,order:=zdj t,carry:=zaO d.2.1,edits:=[⟨1,t.inv.from_,t.inv.to,mid⟩] },{ z5 with moved:=zbl d.2.1 },[])
def zdi(t:zi):Pln:=
 let o:=zU t.sec
 let y:=zg5 (zaD t) (zQ t)
 if y.2≠0 then (o,za2 y.2,[])
 else ({ o with shards:=zdK t (zc4 (zQ t).ready.cells.length).1 y.1,order:=zdj t,carry:=zaO (zQ t),edits:=[⟨2,t.inv.from_,t.inv.to,0⟩] },{ z5 with moved:=zbl (zQ t) },[])
def zdb(t:zi):Pln:=
 let o:=zU t.sec
 if t.sec.shards.length=0 then
  (let d:=zgF t.sec.dead t.sec.snap.epoch
   (if 0<d.2.1 then { o with dead:=d.1,order:=[0] } else o,{ z5 with moved:=d.2.1 },[]))
 else
  let s:=sh0 t
  if s.live=false then (o,za2 7,[])
  else if t.inv.kind=13 then
   (let x:=zgG s t.sec.snap.epoch
    (if 0<x.2.1 then { o with shards:=[x.1],order:=[0] } else o,{ z5 with moved:=x.2.1 },[]))
  else
   let x:=zcE s t.sec.snap.clock t.sec.snap.epoch t.setup.limit
   if x.2.1.length=0 then (o,z5,[])
   else ({ o with shards:=[x.1],order:=[0] },{ z5 with moved:=x.2.1.length },[{ zck t 10 with l:=x.2.1.map fun i=>⟨i,0,0,0⟩ }])
def zc0(t:zi):Pln:=
 let o:=zU t.sec
 let s:=sh0 t
 if s.live=false then (o,za2 7,[])
 else
  let x:=zeJ s (zgt t.sec.dead) t.sec.snap.epoch t.setup.limit
  if x.2.1.length=0 then (o,z5,[])
  else ({ o with shards:=[x.1],dead:=(zhw t.sec.dead x.2.1).1,order:=[0,1],carry:=x.2.1 },{ z5 with moved:=x.2.1.length },[])
def zbg(t:zi):List Int:=zdJ t.inv.from_ t.inv.to
def zaQ(K:Tok)(a:zg)(t:zi)(n:Int):Stp:=
 if t.done=true then zbM 7
 else if t.inv.kind=1 then zdp K a t n else if t.inv.kind=2 then zdl K a t n else if 3<=t.inv.kind/\t.inv.kind<=5 then zdr K a t n
 else if t.inv.kind=6 then zdk a t n else if t.inv.kind=7 then zaj a t n else if t.inv.kind=8 then zdm a t n
 else if t.inv.kind=9 then zaL zdv 9 9 zbg a t n else if t.inv.kind=10 then zaL zdu 10 10 zbg a t n else if t.inv.kind=11 then zaL zdi 11 11 zbg a t n
 else if t.inv.kind=12\/t.inv.kind=13 then zaL zdb 12 13 (fun t=>[t.inv.from_]) a t n else if t.inv.kind=14 then zaL zc0 14 14 (fun t=>[t.inv.from_,t.setup.slots]) a t n
 else zbM 9
def zbq(s:Setup):zg×Int:=
 if zav s=false then (zB,1)
 else
  let d:=(zet s.slots s.live).1
  ({ zB with dir:=d,epoch:=s.epoch,clock:=s.clock,nextID:=s.nextID,dead:=⟨0,⟨s.dead,[]⟩⟩,slots:=(List.range s.slots.toNat).map (fun i:Nat=>(⟨0,if (i:Int)<s.live then (zbD s.capacity (d.l.getD i zcX).low (d.l.getD i zcX).high).1 else (zc4 s.capacity).1⟩:Slot)),stripes:=List.replicate s.slots.toNat ⟨0,s.epoch,0,0⟩ },0)
def za9(w:World):List Nat:=(List.range w.tasks.length).filter fun i=> !(w.tasks.getD i zC).done
def zcH(w:World)(i:zaS):World×Int×Int:=
 if 200<=w.tasks.length\/8<=(za9 w).length then (zaA,0,3)
 else if (zcz (w.tasks.length+1) i w.setup w.steps).2≠0 then (zaA,0,(zcz (w.tasks.length+1) i w.setup w.steps).2)
 else ({ w with tasks:=w.tasks++[(zcz (w.tasks.length+1) i w.setup w.steps).1] },w.tasks.length+1,0)
def zcM(K:Tok)(w:World)(i:Nat):World×Int:=
 let t:=w.tasks.getD i zC
 let r:=zaQ K w.arena t (w.steps+1)
 if r.2.2.2≠0 then (zaA,r.2.2.2)
 else ({ w with steps:=w.steps+1,arena:=r.1,tasks:=w.tasks.set i r.2.1,log:=w.log++r.2.2.1,handles:=w.handles++((r.2.1.results.drop t.results.length).map fun x=>x.tokens).flatten },0)
def zcI(K:Tok)(w:World)(k:Int):World×Int:=
 if k<0\/((za9 w).length:Int)<=k then (zaA,4) else zcM K w ((za9 w).getD k.toNat 0)
def zdy(w:World)(by_:Int):World×Int:=
 if (zea w.arena by_).2≠0 then (zaA,(zea w.arena by_).2)
 else ({ w with steps:=w.steps+1,arena:=(zea w.arena by_).1,log:=w.log++[{ zbT with stamp:=w.steps+1,kind:=1,now:=(zea w.arena by_).1.clock }] },0)
def zgm(a b:Int):Int:=if a<b then a else b
def zbw(a b:Int):Int:=if a<b then b else a
def ze8(K:Tok)(r:Ref)(hs:List (List UInt8)):List UInt8:=
 if r.variant=7\/hs.length=0 then r.raw
 else
  let b:=hs.getD ((zbw r.index 0).tmod hs.length).toNat []
  let h:=K.par b
  if h.2≠0 then b
  else if r.variant=5 then b.set (b.length - 1) (b.getD (b.length - 1) 0 ^^^ 1)
  else if r.variant=2\/r.variant=3\/r.variant=4 then
   (let h2:zaW:=if r.variant=2 then { h.1 with gen:=h.1.gen+1 } else if r.variant=3 then { h.1 with gen:=h.1.gen - 1 } else { h.1 with route:=(h.1.route+1).tmod 65536 }
    if (K.enc h2).2≠0 then b else (K.enc h2).1)
  else b
def zgr(K:Tok)(k:Int):Nat->World->World×Int
 | 0,w=>(w,0)
 | n+1,w=>if (za9 w).length=0 then (w,0) else if (zcI K w ((zbw k 0).tmod (za9 w).length)).2≠0 then (zaA,(zcI K w ((zbw k 0).tmod (za9 w).length)).2) else zgr K k n (zcI K w ((zbw k 0).tmod (za9 w).length)).1
def doW(K:Tok)(w:World)(c:Command):World×Int:=
 let by_:=zbw 0 (zgm c.by_ 255)
 if c.kind=1 then zgr K c.pick by_.toNat w
 else if c.kind=2 then (if (zdy w by_).2=0 then ((zdy w by_).1,0) else (w,0))
 else if c.kind=3 then
  (let v:zaS:=if 0<c.refs.length then { c.inv with tokens:=c.refs.map fun r=>ze8 K r w.handles } else c.inv
   if (zcH w v).2.2=0 then ((zcH w v).1,0) else (w,0))
 else (w,0)
def zdo(K:Tok):List Command->World->World×Int
 | [],w=>(w,0)
 | c::l,w=>if (doW K w c).2≠0 then (zaA,(doW K w c).2) else zdo K l (doW K w c).1
def zew(K:Tok)(s:Setup)(l:List Command):World×Int:=
 if (zbq s).2≠0 then (zaA,(zbq s).2) else if 400<l.length then (zaA,2) else zdo K l { zaA with setup:=s,arena:=(zbq s).1 }
structure AI(u:Setup)(a:zg):Prop where
 sl:(a.slots.length:Int)=u.slots
 st:a.stripes.length=a.slots.length
 sh:∀x∈a.slots,zV x.shard=0/\(x.shard.ready.cells.length:Int)=u.capacity
 sp:∀x∈a.stripes,zjx x=true
 dv:zbz a.dir=0
 df:a.dir.forward.length=a.slots.length
 dd:zcm a.dead.dead=0
 dc:a.dead.dead.cap=u.dead
 ep:0<=a.epoch/\a.epoch<=65536
 ck:0<=a.clock/\a.clock<=1073741824
 ni:1<=a.nextID/\a.nextID<=1073741824
theorem zjb{α:Type}{l:List α}{i:Nat}{x y:α}(h:y∈l.set i x):y=x\/y∈l:=by
 rcases zX7 h with h|h
 ·exact .inr h
 ·exact .inl h
theorem zsJ{a:zg}{c:Int}(h0:0<=c)(h1:c<a.slots.length):a.slots.getD c.toNat zdS∈a.slots:=by
 rw[zWG,zWF zo];exact zWH _
theorem AI.owner{u:Setup}{a:zg}(h:AI u a){c k:Int}(h0:0<=c)(h1:c<=a.slots.length):AI u (zcq a c k):=by
 unfold zcq
 split
 ·exact { h with }
 ·rename_i hc;refine { h with sl:= ?_,st:= ?_,sh:=fun x hx=> ?_,df:= ?_ }
  ·simp only[zW8];exact h.sl
  ·simp only[zW8];exact h.st
  ·rcases zjb hx with rfl|hx
   ·exact h.sh (a.slots.getD c.toNat zdS) (zsJ (a:=a) h0 zo)
   ·exact h.sh x hx
  ·simp only[zW8];exact h.df
theorem AI.try_{u:Setup}{a:zg}(h:AI u a)(c k:Int)(e:(zcu a c k).2.2=0):AI u (zcu a c k).1:=by
 unfold zcu at e ⊢
 split at e
 ·cases e
 ·rename_i hc;rw[zWy hc];have q1:0<=c:=zYn.1 fun q=>hc (.inl q);have q2:c<=a.slots.length:=zYn.1 fun q=>hc (.inr (.inl q))
  split
  ·exact AI.owner (a:=a) (c:=c) (k:=k) h q1 q2
  ·exact h
theorem AI.unlock{u:Setup}{a:zg}(h:AI u a)(c k:Int)(e:(zdU a c k).2=0):AI u (zdU a c k).1:=by
 unfold zdU at e ⊢
 split at e
 ·cases e
 ·rename_i hc;rw[zWy hc]
  split at e
  ·rename_i h2;rw[zWz h2];have q1:0<=c:=zYn.1 fun q=>hc (.inl q);have q2:c<=a.slots.length:=zYn.1 fun q=>hc (.inr (.inl q));exact AI.owner (a:=a) (c:=c) (k:=0) h q1 q2
  ·cases e
theorem AI.lock{u:Setup}{a:zg}(h:AI u a)(l:zbF)(k:Int)(e:(zao a l k).2.2=0):AI u (zao a l k).1:=by
 unfold zao at e ⊢
 split at e
 ·rename_i h0;rw[zWz h0];unfold zkq at e ⊢
  split at e
  ·rename_i h1;rw[zWz h1]
   split
   ·exact h.try_ _ _ h1
   ·exact h.try_ _ _ h1
  ·rename_i h1;exact absurd e h1
 ·rename_i h0;rw[zWy h0]
  split at e
  ·rename_i h1;rw[zWz h1];unfold zi9 at e ⊢
   split at e
   ·rename_i h2;rw[zWz h2];exact h.unlock _ _ h2
   ·rename_i h2;exact absurd e h2
  ·rename_i h1;rw[zWy h1]
   split at e
   ·rename_i h2;rw[zWz h2];exact h
   ·cases e
theorem zo7{a:zg}{i:Int}:zcr a i=true↔0<=i/\i<a.slots.length:=by unfold zcr;rw[decide_eq_true_eq]
theorem zUV{a:zg}{i k:Int}(e:zd8 a i k=0):0<=i/\i<a.slots.length/\(a.slots.getD i.toNat zdS).owner=k:=by
 unfold zd8 at e
 split at e
 ·cases e
 ·rename_i hc
  split at e
  ·rename_i h1;have:zcr a i=true:=by
    cases hq:zcr a i with
    | true=>rfl
    | false=>exact absurd (.inl hq) hc
   exact⟨(zo7.1 this).1,(zo7.1 this).2,h1⟩
  ·cases e
theorem AI.stSlot{u:Setup}{a:zg}(h:AI u a)(i k:Int)(s:Shard)(e:(stSlot a i k s).2=0):AI u (stSlot a i k s).1:=by
 unfold Go.Proofs.YtjalkkalhdnplaaGreat.stSlot at e ⊢
 split at e
 ·rename_i h1;exact absurd e h1
 ·rename_i h1;rw[zWy h1]
  split at e
  ·rename_i h2;exact absurd e h2
  ·rename_i h2;rw[zWy h2]
   split at e
   ·cases e
   ·rename_i h3;rw[zWy h3];obtain⟨q1,q2,_⟩:=zUV (zWO.1 h1);refine { h with sl:= ?_,st:= ?_,sh:=fun x hx=> ?_,df:= ?_ }
    ·simp only[zW8];exact h.sl
    ·simp only[zW8];exact h.st
    ·rcases zjb hx with rfl|hx
     ·refine⟨zWO.1 h2,?_⟩;rw[zWO.1 h3];exact (h.sh _ (zsJ q1 q2)).2
     ·exact h.sh x hx
    ·simp only[zW8];exact h.df
theorem AI.stStripe{u:Setup}{a:zg}(h:AI u a)(i k:Int)(s:Stripe)(e:(stStripe a i k s).2=0):AI u (stStripe a i k s).1:=by
 unfold Go.Proofs.YtjalkkalhdnplaaGreat.stStripe at e ⊢
 split at e
 ·rename_i h1;exact absurd e h1
 ·rename_i h1;rw[zWy h1]
  split at e
  ·cases e
  ·rename_i h2;rw[zWy h2];refine { h with st:= ?_,sp:=fun x hx=> ?_ }
   ·simp only[zW8];exact h.st
   ·rcases zjb hx with rfl|hx
    ·simpa using h2
    ·exact h.sp x hx
theorem AI.stDead{u:Setup}{a:zg}(h:AI u a)(k:Int)(d:Dead)(e:(stDead a k d).2=0):AI u (stDead a k d).1:=by
 unfold Go.Proofs.YtjalkkalhdnplaaGreat.stDead at e ⊢
 split at e
 ·cases e
 ·rename_i h1;rw[zWy h1]
  split at e
  ·cases e
  ·rename_i h2;rw[zWy h2]
   split at e
   ·rename_i h3;exact absurd e h3
   ·rename_i h3;rw[zWy h3]
    split at e
    ·cases e
    ·rename_i h4;rw[zWy h4];exact { h with dd:=zWO.1 h3,dc:=(zWO.1 h4).trans h.dc }
theorem AI.casDir{u:Setup}{a:zg}(h:AI u a)(v:Int)(d:zal)(e:(casDir a v d).2.2=0):AI u (casDir a v d).1:=by
 unfold Go.Proofs.YtjalkkalhdnplaaGreat.casDir at e ⊢
 split at e
 ·rename_i h1;exact absurd e h1
 ·rename_i h1;rw[zWy h1]
  split at e
  ·cases e
  ·rename_i h2;rw[zWy h2]
   split
   ·exact h
   ·exact { h with dv:=zWO.1 h1,df:=zWO.1 h2 }
theorem AI.casWord{u:Setup}{a:zg}(h:AI u a)(w old next:Int)(e:(casWord a w old next).2.2=0):AI u (casWord a w old next).1:=by
 unfold Go.Proofs.YtjalkkalhdnplaaGreat.casWord at e ⊢
 split at e
 ·cases e
 ·rename_i h1;rw[zWy h1]
  split at e
  ·cases e
  ·rename_i h2;rw[zWy h2]
   split
   ·exact h
   ·split
    ·rename_i h3;refine { h with ep:= ?_ };refine Classical.byContradiction fun q=>h2 (.inl ⟨h3,q⟩)
    ·rename_i h3;refine { h with ni:= ?_ };refine Classical.byContradiction fun q=>h2 (.inr ⟨by omega,q⟩)
theorem AI.tick{u:Setup}{a:zg}(h:AI u a)(by_:Int)(e:(zea a by_).2=0):AI u (zea a by_).1:=by
 unfold zea at e ⊢
 split at e
 ·cases e
 ·rename_i h1;rw[zWy h1]
  split at e
  ·cases e
  ·rename_i h2;rw[zWy h2];have:=h.ck;refine { h with ck:= ?_ };simp only;omega
theorem zTh(a b:zR)(hL:a.cells.length<=4294967296):zh G 71 [.d (z6 a),.d (z6 b)] []=some (.d (.bool (decide (a=b))),[]):=by
 have h1:=zB3 a.cells b.cells hL;have e:decide (a=b)=(decide (a.head=b.head)&&(decide (a.size=b.size)&&decide (a.cells=b.cells))):=by
  cases a;cases b
  apply zXm.2;simp only[zR.mk.injEq,decide_eq_true_eq,zWS];exact⟨fun⟨p,q,r⟩=>⟨q,r,p⟩,fun⟨p,q,r⟩=>⟨r,p,q⟩⟩
 rw[e];exact zW
theorem zTj(a b:Table)(h1:a.l.length<=4294967296)(h2:a.heap.length<=4294967296):zh G 72 [.d (zan a),.d (zan b)] []=some (.d (.bool (decide (a=b))),[]):=by
 have h1:=zTm a.l b.l h1;have h2:=zTl a.heap b.heap h2;have e:decide (a=b)=(decide (a.l=b.l)&&decide (a.heap=b.heap)):=by
  cases a;cases b
  apply zXm.2;simp only[Table.mk.injEq,decide_eq_true_eq,zWS]
 rw[e];exact zW
structure zjD(s:Shard):Prop where
 a:s.ready.cells.length<=4294967296
 b:s.leases.l.length<=4294967296
 c:s.leases.heap.length<=4294967296
theorem zTi(a b:Shard)(h:zjD a):zh G 27 [.d (zj a),.d (zj b)] []=some (.d (.bool (decide (a=b))),[]):=by
 obtain⟨f1,f2,f3⟩:=h;have h1:=zTh a.ready b.ready f1;have h2:=zTj a.leases b.leases f2 f3;have e:decide (a=b)=(decide (a.live=b.live)&&(decide (a.low=b.low)&&(decide (a.high=b.high)&&(decide (a.ready=b.ready)&&decide (a.leases=b.leases))))):=by
  cases a;cases b
  apply zXm.2;simp only[Shard.mk.injEq,decide_eq_true_eq,zWS]
 rw[e];simp only[z6,zan] at h1 h2;exact zW
theorem zTf(a b:Dead)(h:a.l.length<=4294967296):zh G 28 [.d (zP a),.d (zP b)] []=some (.d (.bool (decide (a=b))),[]):=by
 have h1:=zB3 a.l b.l h;have e:decide (a=b)=(decide (a.cap=b.cap)&&decide (a.l=b.l)):=by
  cases a;cases b
  apply zXm.2;simp only[Dead.mk.injEq,decide_eq_true_eq,zWS]
 rw[e];exact zW
theorem zTr(a b:zal)(hL:a.l.length<=4294967296)(hab:a.l.length=b.l.length):zN G [] zoe ⟨[(2,.ref 2 0 0),(3,.ref 3 0 0),(5,.d (.int .i64 0))],[(2,.row [.d (zat a)]),(3,.row [.d (zat b)])]⟩=some (if a.l=b.l then (.exit 0,⟨[(2,.ref 2 0 0),(3,.ref 3 0 0)],[(2,.row [.d (zat a)]),(3,.row [.d (zat b)])]⟩) else (.ret,⟨[(4,.d (.bool false))],[]⟩)):=by
 have:=zd5 (G:=G) (x:=zoe) (ks:=[]) a.l.length (fun k=>decide (a.l[k]? = b.l[k]?)) (fun k=>⟨[(2,.ref 2 0 0),(3,.ref 3 0 0),(5,.d (.int .i64 k))],[(2,.row [.d (zat a)]),(3,.row [.d (zat b)])]⟩) (.ret,⟨[(4,.d (.bool false))],[]⟩) (.exit 0,⟨[(2,.ref 2 0 0),(3,.ref 3 0 0)],[(2,.row [.d (zat a)]),(3,.row [.d (zat b)])]⟩) (fun k hk L=>by
  simp only[zoe]
  by_cases h0:k<a.l.length
  ·have hk2:k<b.l.length:=by omega
   simp only[ziX h0 hk2,h0,if_true];exact zS
  ·exact zS)
 simp only[ziB hab,zWV,decide_eq_true_eq] at this;exact this
theorem zTs(a b:zal)(hL:a.forward.length<=4294967296)(hab:a.forward.length=b.forward.length):zN G [] zof ⟨[(2,.ref 2 0 0),(3,.ref 3 0 0),(6,.d (.int .i64 0))],[(2,.row [.d (zat a)]),(3,.row [.d (zat b)])]⟩=some (if a.forward=b.forward then (.exit 2,⟨[],[]⟩) else (.ret,⟨[(4,.d (.bool false))],[]⟩)):=by
 have:=zd5 (G:=G) (x:=zof) (ks:=[]) a.forward.length (fun k=>decide (a.forward[k]? = b.forward[k]?)) (fun k=>⟨[(2,.ref 2 0 0),(3,.ref 3 0 0),(6,.d (.int .i64 k))],[(2,.row [.d (zat a)]),(3,.row [.d (zat b)])]⟩) (.ret,⟨[(4,.d (.bool false))],[]⟩) (.exit 2,⟨[],[]⟩) (fun k hk L=>by
  simp only[zof]
  by_cases h0:k<a.forward.length
  ·have hk2:k<b.forward.length:=by omega
   simp only[ziX h0 hk2,h0,if_true];exact zS
  ·exact zS)
 simp only[ziB hab,zWV,decide_eq_true_eq] at this;exact this
theorem zTg(a b:zal)(hL:a.l.length<=4294967296)(hF:a.forward.length<=4294967296):zh G 63 [.d (zat a),.d (zat b)] []=some (.d (.bool (decide (a=b))),[]):=by
 by_cases c0:a.version=b.version/\a.l.length=b.l.length/\a.forward.length=b.forward.length
 ·obtain⟨c1,c2,c3⟩:=c0;have h0:=zTr a b hL c2;have h1:=zTs a b hF c3
  by_cases c4:a.l=b.l
  ·by_cases c5:a.forward=b.forward
   ·have e:a=b:=by cases a;cases b;simp_all
    subst e;simp only[if_true] at h0 h1;simp only[decide_true];clear c1 c2 c3 c4 c5;exact zW
   ·have e:¬a=b:=fun e=>c5 (by rw[e]);rw[zW0 e];rw[zWz c4] at h0;rw[zWy c5] at h1;clear c4;exact zW
  ·have e:¬a=b:=fun e=>c4 (by rw[e]);rw[zW0 e];rw[zWy c4] at h0;clear h1;exact zW
 ·have e:¬a=b:=fun e=>c0 (by rw[e];exact⟨rfl,rfl,rfl⟩);rw[zW0 e]
  by_cases c1:a.version=b.version
  ·by_cases c2:a.l.length=b.l.length
   ·have c3:¬a.forward.length=b.forward.length:=fun c3=>c0 ⟨c1,c2,c3⟩;exact zW
   ·exact zW
  ·exact zW
structure zps(a:zg):Prop where
 sl:a.slots.length<=1000
 sh:∀i (h:i<a.slots.length),zjD (a.slots[i]).shard
 st:a.stripes.length<=4294967296
 de:a.dead.dead.l.length<=4294967296
 dl:a.dir.l.length<=4294967296
 df:a.dir.forward.length<=4294967296
theorem zTd(a b:zg)(h:zps a)(hab:a.slots.length=b.slots.length):zN G [] zok ⟨[(2,.ref 2 0 0),(3,.ref 3 0 0),(5,.d (.int .i64 0))],[(2,.row [.d (zn a)]),(3,.row [.d (zn b)])]⟩=some (if a.slots=b.slots then (.exit 0,⟨[],[]⟩) else (.ret,⟨[(4,.d (.bool false))],[]⟩)):=by
 obtain⟨fa,fb,_,_,_,_⟩:=h;have:=zd5 (G:=G) (x:=zok) (ks:=[]) a.slots.length (fun k=>decide (a.slots[k]? = b.slots[k]?)) (fun k=>⟨[(2,.ref 2 0 0),(3,.ref 3 0 0),(5,.d (.int .i64 k))],[(2,.row [.d (zn a)]),(3,.row [.d (zn b)])]⟩) (.ret,⟨[(4,.d (.bool false))],[]⟩) (.exit 0,⟨[],[]⟩) (fun k hk L=>by
  simp only[zok]
  by_cases h0:k<a.slots.length
  ·have hk2:k<b.slots.length:=by omega
   have hs:=zTi (a.slots[k]).shard (b.slots[k]).shard (fb k h0);simp only[zj] at hs;have e:decide (a.slots[k]=b.slots[k])=(decide (a.slots[k].owner=b.slots[k].owner)&&decide (a.slots[k].shard=b.slots[k].shard)):=by
    generalize a.slots[k]=x;generalize b.slots[k]=y
    cases x;cases y
    apply zXm.2;simp
   simp only[ziX h0 hk2,h0,if_true,e];clear fb
   by_cases c1:a.slots[k].owner=b.slots[k].owner
   ·by_cases c2:a.slots[k].shard=b.slots[k].shard
    ·simp only[c1,c2,decide_true,zXV,if_true] at hs ⊢;exact zS
    ·simp only[c1,c2,decide_true,decide_false,zXW,zWL,if_false] at hs ⊢;exact zS
   ·simp only[c1,decide_false,zXr,zWL,if_false];exact zS
  ·exact zS)
 simp only[ziB hab,zWV,decide_eq_true_eq] at this;exact this
theorem zB2(a b:zg)(h:zps a):zh G 16 [.d (zn a),.d (zn b)] []=some (.d (.bool (decide (a=b))),[]):=by
 have hl:=zTd a b h;obtain⟨f1,f2,f3,f4,f5,f6⟩:=h;have h1:=zTn a.stripes b.stripes f3;have h2:=zTf a.dead.dead b.dead.dead f4;have h3:=zTg a.dir b.dir f5 f6;simp only[zP,zat] at h2 h3;have e:decide (a=b)=decide (a.slots.length=b.slots.length/\a.stripes=b.stripes/\a.dead.owner=b.dead.owner/\a.dead.dead=b.dead.dead/\a.dir=b.dir/\a.epoch=b.epoch/\a.clock=b.clock/\a.nextID=b.nextID/\a.slots=b.slots):=by
  apply zXm.2;simp only[decide_eq_true_eq];constructor
  ·intro h;subst h;simp
  ·rintro⟨_,e1,e2,e3,e4,e5,e6,e7,e8⟩;obtain⟨_,_,⟨_,_⟩,_,_,_,_⟩:=a;obtain⟨_,_,⟨_,_⟩,_,_,_,_⟩:=b
   simp_all
 rw[e];clear e f2
 by_cases c1:a.slots.length=b.slots.length
 ·have hl2:=hl c1;clear hl
  by_cases c2:a.slots=b.slots
  ·rw[zWz c2] at hl2;generalize hq9:decide (a.slots.length=b.slots.length/\a.stripes=b.stripes/\a.dead.owner=b.dead.owner/\a.dead.dead=b.dead.dead/\a.dir=b.dir/\a.epoch=b.epoch/\a.clock=b.clock/\a.nextID=b.nextID/\a.slots=b.slots)=z;simp only[c1,c2,zXS,zX2] at hq9;clear c2;rw[zO zMw (by simp)];simp -implicitDefEqProofs (maxSteps:=4000000) (disch:=omega) only[zpW,zq,go_sem, *]
   all_goals (clear h1 h2 h3 hl2;simp_all)
  ·rw[zWy c2] at hl2;rw[zW0 (fun h=>c2 h.2.2.2.2.2.2.2.2)];clear c2;exact zW
 ·clear hl;exact zW
def kOf(n:Int)(l:List Int):Nat:=(l.filter fun c=>decide (c<n)).length
theorem zi2(n:Int)(l:List Int):kOf n l<=l.length:=zXJ _ _
theorem zlN{n:Int}:∀ {l:List Int},l.Pairwise (· < ·)->∀(i:Nat) (hi:i<l.length),i<kOf n l↔l[i]<n:=by
 intro l
 induction l with
 | nil=>intro _ i hi;cases hi
 | cons c l ih=>
  intro h i hi;rw[zYC] at h
  by_cases hc:c<n
  ·have e:kOf n (c::l)=kOf n l+1:=by unfold kOf;rw[zX3,zWz (by simpa using hc)];rfl
   rw[e]
   cases i with
   | zero=>simp [hc]
   | succ i=>
    have:=ih h.2 i (by simpa using hi);simp only[zZp];omega
  ·have e:kOf n (c::l)=0:=by
      unfold kOf;rw[zX3,zWy (by simpa using hc)];have:(l.filter fun c=>decide (c<n))=[]:=by
       rw[zY2];intro x hx;have:=h.1 x hx;simp only[decide_eq_true_eq];omega
      rw[this];rfl
   rw[e]
   cases i with
   | zero=>simp [hc]
   | succ i=>
    have:=h.1 (l[i]'(by simpa using hi)) (zWH _);simp only[zZp];omega
theorem zo8{u:Setup}{a:zg}(h:AI u a)(s:Section):zds a s=kOf u.slots s.lock.cells:=by
 unfold zds kOf;rw[h.sl]
structure PhI(k n:Nat)(s:Section):Prop where
 p0:s.phase=0->s.lock.phase<=2/\s.stripes=[]/\s.shards=[]/\s.snap.phase=0
 p1:s.phase=1->s.lock.phase=3/\0<=s.at_/\s.at_<2 * k/\(s.stripes.length:Int)=(s.at_+1) / 2/\s.shards=[]/\s.snap.phase=0
 p2:s.phase=2->s.lock.phase=3/\0<=s.at_/\s.at_<n/\s.stripes.length=k/\s.shards.length=min s.at_.toNat k/\s.snap.phase=0
 p3:s.phase=3->s.lock.phase=3/\s.stripes.length=k/\s.shards.length=k/\0<=s.snap.phase/\s.snap.phase<=2
 p4:s.phase=4->s.lock.phase=3/\s.stripes.length=k/\s.shards.length=k
 p5:s.phase=5->s.lock.phase=3/\s.stripes.length=k/\s.shards.length=k/\s.out.shards.length=k/\0<=s.at_/\s.at_<s.out.order.length
 p6:s.phase=6->s.lock.phase=3/\s.stripes.length=k/\s.shards.length=k/\s.out.shards.length=k/\s.out.edits.length=1/\0<=s.at_/\s.at_<=1
 p7:s.phase=7->s.lock.phase=3/\s.stripes.length=k/\s.shards.length=k/\s.out.shards.length=k/\0<=s.at_/\s.at_<k
 p8:s.phase=8->s.lock.phase=4/\s.shards.length=k/\s.out.shards.length=k
 p9:s.phase=9->s.shards.length=k/\s.out.shards.length=k
structure SI(u:Setup)(N:Int)(s:Section):Prop where
 lw:LWF N s.lock
 cr:∀c∈s.lock.cells,0<=c/\c<=u.slots
 ca:s.lock.cells.Pairwise (· < ·)
 sv:∀x∈s.shards,zV x=0/\(x.ready.cells.length:Int)=u.capacity
 dv:s.dead.l.length<=24
 lm:1<=s.limit/\s.limit<=8
 sn:(0<=s.snap.epoch/\s.snap.epoch<=65536)/\0<=s.snap.clock/\s.snap.clock<=1073741824
 di:s.dir.l.length<=65536
 os:∀x∈s.out.shards,zjD x
 od:s.out.dead.l.length<=1000
 oo:(∀o∈s.out.order,0<=o/\o<s.lock.cells.length)/\s.out.order.length<=3
 oc:s.out.carry.length<=1000/\s.carry.length<=1000
 ph:PhI (kOf u.slots s.lock.cells) s.lock.cells.length s
theorem SI.mono{u:Setup}{N M:Int}{s:Section}(h:SI u N s)(hn:N<=M):SI u M s:={ h with lw:=LWF.mono h.lw hn }
theorem zOi{B:Int}{a:zg}{l:zbF}{k:Int}(hw:LWF B l)(hp:l.phase<=2)(h:(zao a l k).2.2=0):(zao a l k).2.1.phase<=3:=by
 unfold zao at h ⊢
 by_cases c0:l.phase=0
 ·rw[zWz c0] at h ⊢;unfold zkq at h ⊢
  split at h
  ·rename_i c1;rw[zWz c1]
   split
   ·simp only;split<;>omega
   ·simp only;split<;>omega
  ·rename_i c1;exact absurd h c1
 ·rw[zWy c0] at h ⊢
  by_cases c1:l.phase=1
  ·rw[zWz (.inl c1)] at h ⊢;unfold zi9 at h ⊢
   split at h
   ·rename_i c2;rw[zWz c2];unfold zhn;simp only
    split
    ·simp only;omega
    ·rw[zWy zo];simp only;omega
   ·rename_i c2;exact absurd h c2
  ·have c4:¬(l.phase=1\/l.phase=4):=by omega
   rw[zWy c4] at h ⊢
   split at h
   ·rename_i c2;rw[zWz c2];simp only;split<;>omega
   ·cases h
structure zed(s s':Section):Prop where
 cells:s'.lock.cells=s.lock.cells
 limit:s'.limit=s.limit
theorem zTz{u:Setup}{a:zg}{s:Section}{k N:Int}(ha:AI u a)(hs:SI u N s)(hp:s.phase=0)(e:(zft a s k).2.2=0):
    AI u (zft a s k).1/\SI u (N+1) (zft a s k).2.1/\zed s (zft a s k).2.1:=by
 obtain⟨q1,q2,q3,q9⟩:=hs.ph.p0 hp;have hk:=zo8 ha s;have he:(zao a s.lock k).2.2=0:=by
  unfold zft at e
  split at e
  ·rename_i c;exact c.1
  ·exact e
 have hal:=ha.lock s.lock k he;obtain⟨w1,w2,_⟩:=zou hs.lw he;have w3:=zOi hs.lw q1 he;have w4:=hs.lw.c1;unfold zft;generalize zao a s.lock k=r at *;obtain⟨a2,l2,e2⟩:=r;simp only at he w1 w2 w3 hal;subst he
 by_cases c:l2.phase=3
 ·rw[zWz ⟨rfl,c⟩];refine⟨hal,?_,?_⟩
  ·by_cases c0:zds a s=0
   ·rw[zWz c0];have k0:kOf u.slots s.lock.cells=0:=by rw[c0] at hk;omega
    refine { hs with lw:=w1,cr:=by simp only[zI];rw[w2];exact hs.cr,ca:=by simp only[zI];rw[w2];exact hs.ca,oo:=by simp only[zI];rw[w2];exact hs.oo,ph:= ?_ };simp only[zI];rw[w2,k0];constructor<;>simp only<;>intro h<;>first|omega|(refine⟨c,?_⟩;rw[q2,q3];simp;omega)
   ·rw[zWy c0];have k0:kOf u.slots s.lock.cells≠0:=fun q=>c0 (by rw[hk,q];rfl);refine { hs with lw:=w1,cr:=by simp only[zI];rw[w2];exact hs.cr,ca:=by simp only[zI];rw[w2];exact hs.ca,oo:=by simp only[zI];rw[w2];exact hs.oo,ph:= ?_ };simp only[zI];rw[w2];constructor<;>simp only<;>intro h<;>first|omega|(refine⟨c,?_⟩;rw[q2,q3];simp;omega)
  ·split<;>exact⟨w2,rfl⟩
 ·rw[zWy (fun q=>c q.2)];refine⟨hal,?_,⟨w2,rfl⟩⟩;refine { hs with lw:=w1,cr:=by simp only;rw[w2];exact hs.cr,ca:=by simp only;rw[w2];exact hs.ca,oo:=by simp only;rw[w2];exact hs.oo,ph:= ?_ };simp only;rw[w2];constructor<;>simp only<;>intro h<;>first|omega|exact⟨by omega,q2,q3,q9⟩
theorem zTG{u:Setup}{a:zg}{s:Section}{n N:Int}(ha:AI u a)(hs:SI u N s)(hp:s.phase=3)(e:(zgu a s n).2.2=0):
    AI u (zgu a s n).1/\SI u (N+1) (zgu a s n).2.1/\zed s (zgu a s n).2.1:=by
 obtain⟨q1,q2,q3,q4,q5⟩:=hs.ph.p3 hp;have hsn:=hs.sn;have h1:=ha.ep;have h2:=ha.ck;have hs:=hs.mono (show N<=N+1 by omega);unfold zgu at e ⊢;simp only at e ⊢;have key:(0<=(zcL a s.snap n).1.epoch/\(zcL a s.snap n).1.epoch<=65536)/\(0<=(zcL a s.snap n).1.clock/\(zcL a s.snap n).1.clock<=1073741824)/\0<=(zcL a s.snap n).1.phase/\(zcL a s.snap n).1.phase<=3:=by
  unfold zcL at e ⊢
  split
  ·simp only;omega
  ·split
   ·simp only;omega
   ·split
    ·split
     ·simp only;omega
     ·simp only;omega
    ·exfalso;omega
 generalize zcL a s.snap n=r at *;obtain⟨x,e2⟩:=r;simp only at e key ⊢;subst e;obtain⟨k1,k2,k3,k4⟩:=key;refine⟨ha,?_,?_⟩
 ·by_cases c:x.phase=3
  ·rw[zWz ⟨rfl,c⟩];refine { hs with sn:=⟨k1,k2⟩,ph:= ?_ };simp only[zI];constructor<;>simp only<;>intro h<;>first|omega|exact⟨q1,q2,q3⟩
  ·rw[zWy (fun q=>c q.2)];refine { hs with sn:=⟨k1,k2⟩,ph:= ?_ };simp only;constructor<;>simp only<;>intro h<;>first|omega|exact⟨q1,q2,q3,k3,by omega⟩
 ·split<;>exact⟨rfl,rfl⟩
theorem zTx{u:Setup}{a:zg}{s:Section}{N:Int}(ha:AI u a)(hs:SI u N s)(hp:s.phase=2)(e:(zey a s).2.2=0):
    AI u (zey a s).1/\SI u (N+1) (zey a s).2.1/\zed s (zey a s).2.1:=by
 obtain⟨q1,q2,q3,q4,q5,q9⟩:=hs.ph.p2 hp;have hsl:=ha.sl;have hlt:s.at_.toNat<s.lock.cells.length:=by omega
 have hc:zbO s s.at_=s.lock.cells[s.at_.toNat]:=by unfold zbO;rw[zq hlt]
 have hcr:=hs.cr _ (zWH hlt);have hka:=zlN (n:=u.slots) hs.ca s.at_.toNat hlt;have hkl:=zi2 u.slots s.lock.cells;rw[<- hc] at hcr hka;have hsv:=hs.sv;have hs:=hs.mono (show N<=N+1 by omega);unfold zey at e ⊢;simp only at e ⊢;generalize zbO s s.at_=c at *;refine⟨ha,?_,?_⟩
 ·by_cases c0:c=a.slots.length
  ·rw[zWz c0];have hk:kOf u.slots s.lock.cells<=s.at_.toNat:=by omega
   have hdl:a.dead.dead.l.length<=24:=by
    have hd:=ha.dd;unfold zcm at hd
    split at hd
    ·cases hd
    ·split at hd
     ·cases hd
     ·omega
   by_cases c1:s.at_+1=s.lock.cells.length
   ·simp only[c1,if_true];refine { hs with dv:=hdl,ph:= ?_ };simp only[zI];constructor<;>simp only<;>intro h<;>first|omega|exact⟨q1,q4,by omega,by omega,by omega⟩
   ·simp only[c1,if_false];refine { hs with dv:=hdl,ph:= ?_ };simp only;constructor<;>simp only<;>intro h<;>first|omega|exact⟨q1,by omega,by omega,q4,by omega,q9⟩
  ·rw[zWy c0];have hcl:c<a.slots.length:=by omega
   have hk:s.at_.toNat<kOf u.slots s.lock.cells:=hka.2 zo;have hld:(zfK a c).1=(a.slots.getD c.toNat zdS).shard:=by
    unfold zfK;rw[zWz (zo7.2 ⟨hcr.1,hcl⟩)]
   have hnew:∀x∈s.shards++[(zfK a c).1],zV x=0/\(x.ready.cells.length:Int)=u.capacity:=by
    intro x hx
    rcases zW3.1 hx with hx|hx
    ·exact hsv x hx
    ·rw[zW7.1 hx,hld];exact ha.sh _ (zsJ (a:=a) hcr.1 hcl)
   by_cases c1:s.at_+1=s.lock.cells.length
   ·simp only[c1,if_true];refine { hs with sv:=hnew,ph:= ?_ };simp only[zI];constructor<;>simp only<;>intro h<;>first|omega|exact⟨q1,q4,by simp only[zWJ,zW6];omega,by omega,by omega⟩
   ·simp only[c1,if_false];refine { hs with sv:=hnew,ph:= ?_ };simp only;constructor<;>simp only<;>intro h<;>first|omega|exact⟨q1,by omega,by omega,q4,by simp only[zWJ,zW6];omega,q9⟩
 ·constructor
  ·split<;>split<;>rfl
  ·split<;>split<;>rfl
theorem zTB{u:Setup}{a:zg}{s:Section}{k N:Int}(ha:AI u a)(hs:SI u N s)(hp:s.phase=1)(e:(zez a s k).2.2=0):
    AI u (zez a s k).1/\SI u (N+1) (zez a s k).2.1/\zed s (zez a s k).2.1:=by
 obtain⟨q1,q2,q3,q4,q5,q6⟩:=hs.ph.p1 hp;have hkl:=zi2 u.slots s.lock.cells;have hs:=hs.mono (show N<=N+1 by omega);have e1:s.at_.tmod 2=s.at_ % 2:=zYQ q2;have e2:s.at_.tdiv 2=s.at_ / 2:=zX9 q2;unfold zez at e ⊢;simp only[e1,e2] at e ⊢
 by_cases c:s.at_ % 2=0
 ·rw[zWz c];refine⟨ha,?_,⟨rfl,rfl⟩⟩;refine { hs with ph:= ?_ };simp only;constructor<;>simp only<;>intro h<;>first|omega|exact⟨q1,by omega,by omega,by simp only[zWJ,zW6];omega,q5,q6⟩
 ·rw[zWy c] at e ⊢
  split at e
  ·rename_i c1;exact absurd e c1
  ·rename_i c1;rw[zWy c1];simp only at e ⊢;have hst:=ha.stStripe _ _ _ e;have hkl2:=fun s2=>zo8 hst s2;refine⟨hst,?_,?_⟩
   ·have hlen:(List.take (s.at_ / 2).toNat s.stripes++[(zff (s.stripes.getD (s.at_ / 2).toNat zbh)).1]).length=(s.at_ / 2).toNat+1:=by
       rw[zWJ,zXY,zW6];omega
    by_cases c2:s.at_+1=2 * (kOf u.slots s.lock.cells:Int)
    ·rw[zWz ⟨e,by rw[hkl2];exact c2⟩];refine { hs with ph:= ?_ };simp only[zI];have c1':=hs.lw.c1;constructor<;>simp only<;>intro h<;>first|omega|exact⟨q1,by omega,by omega,by omega,by rw[q5];simp,q6⟩
    ·rw[zWy (fun q=>c2 (by have:=q.2;rw[hkl2] at this;exact this))];refine { hs with ph:= ?_ };simp only;constructor<;>simp only<;>intro h<;>first|omega|exact⟨q1,by omega,by omega,by omega,q5,q6⟩
   ·constructor
    ·split<;>rfl
    ·split<;>rfl
theorem zL7{u:Setup}{N:Int}{s:Section}(hs:SI u N s)(h3:s.lock.phase=3)(hk:s.shards.length=kOf u.slots s.lock.cells)(ho:s.out.shards.length=kOf u.slots s.lock.cells)(e:(zcG s).2=0):
    SI u N (zcG s).1/\zed s (zcG s).1:=by
 obtain⟨w1,w2⟩:=zot hs.lw h3;have hf:(zb5 s.lock).2=0/\(zb5 s.lock).1.phase=4:=by unfold zb5;rw[zWz h3];exact⟨rfl,rfl⟩
 unfold zcG;rw[zWy (fun q=>q hf.1)];refine⟨?_,⟨w2,rfl⟩⟩;refine { hs with lw:=w1,cr:=by simp only[zI];rw[w2];exact hs.cr,ca:=by simp only[zI];rw[w2];exact hs.ca,oo:=by simp only[zI];rw[w2];exact hs.oo,ph:= ?_ };simp only[zI];rw[w2];constructor<;>simp only<;>intro h<;>first|omega|exact⟨hf.2,hk,ho⟩
theorem zVX{u:Setup}{a:zg}{N:Int}{s:Section}(ha:AI u a)(hs:SI u N s)(h3:s.lock.phase=3)(hst:s.stripes.length=kOf u.slots s.lock.cells)(hk:s.shards.length=kOf u.slots s.lock.cells)(ho:s.out.shards.length=kOf u.slots s.lock.cells)(e:(zcl a s).2.2=0):
    AI u (zcl a s).1/\SI u N (zcl a s).2.1/\zed s (zcl a s).2.1:=by
 unfold zcl at e ⊢
 split
 ·rename_i c;refine⟨ha,?_,⟨rfl,rfl⟩⟩;refine { hs with ph:= ?_ };simp only[zI];constructor<;>simp only<;>intro h<;>first|omega|exact⟨h3,hst,hk,ho,by omega,by omega⟩
 ·rename_i c;rw[zWy c] at e;obtain⟨f1,f2⟩:=zL7 hs h3 hk ho e;exact⟨ha,f1,f2⟩
theorem zTL{u:Setup}{a:zg}{s:Section}{k N:Int}(ha:AI u a)(hs:SI u N s)(hp:s.phase=5)(e:(zeB a s k).2.2=0)(he:s.out.edits.length<=1):
    AI u (zeB a s k).1/\SI u (N+1) (zeB a s k).2.1/\zed s (zeB a s k).2.1:=by
 obtain⟨q1,q2,q3,q4,q5,q6⟩:=hs.ph.p5 hp;have hs:=hs.mono (show N<=N+1 by omega);unfold zeB at e ⊢;simp only at e ⊢;generalize hr:(if zbO s (s.out.order.getD s.at_.toNat 0)=(a.slots.length:Int) then stDead a k s.out.dead else stSlot a (zbO s (s.out.order.getD s.at_.toNat 0)) k (s.out.shards.getD (s.out.order.getD s.at_.toNat 0).toNat zw))=r at *
 by_cases c:r.2=0
 ·have har:AI u r.1:=by
     split at hr
     ·subst hr;exact ha.stDead _ _ c
     ·subst hr;exact ha.stSlot _ _ _ c
  rw[zWy (fun q=>q c)] at e ⊢
  by_cases c1:s.at_+1<(s.out.order.length:Int)
  ·rw[zWz c1];refine⟨har,?_,⟨rfl,rfl⟩⟩;refine { hs with oc:=⟨hs.oc.1,hs.oc.1⟩,ph:= ?_ };simp only;constructor<;>simp only<;>intro h<;>first|omega|exact⟨q1,q2,q3,q4,by omega,by omega⟩
  ·rw[zWy c1] at e ⊢;have hs2:SI u (N+1) { s with at_:=s.at_+1,carry:=[] }\/True:= .inr trivial
   by_cases c2:0<s.out.edits.length
   ·rw[zWz c2];refine⟨har,?_,⟨rfl,rfl⟩⟩;refine { hs with oc:=⟨hs.oc.1,by simp [zI]⟩,ph:= ?_ };simp only[zI];constructor<;>simp only<;>intro h<;>first|omega|exact⟨q1,q2,q3,q4,by omega,by omega,by omega⟩
   ·rw[zWy c2] at e ⊢;unfold zcl at e ⊢;simp only at e ⊢
    split
    ·rename_i c3;refine⟨har,?_,⟨rfl,rfl⟩⟩;refine { hs with oc:=⟨hs.oc.1,by simp [zI]⟩,ph:= ?_ };simp only[zI];constructor<;>simp only<;>intro h<;>first|omega|exact⟨q1,q2,q3,q4,by omega,by omega⟩
    ·rename_i c3;obtain⟨w1,w2⟩:=zot hs.lw q1;have hf:(zb5 s.lock).2=0/\(zb5 s.lock).1.phase=4:=by unfold zb5;rw[zWz q1];exact⟨rfl,rfl⟩
     unfold zcG;simp only;rw[zWy (fun q=>q hf.1)];refine⟨har,?_,⟨w2,rfl⟩⟩;refine { hs with lw:=w1,cr:=by simp only[zI];rw[w2];exact hs.cr,ca:=by simp only[zI];rw[w2];exact hs.ca,oo:=by simp only[zI];rw[w2];exact hs.oo,oc:=⟨hs.oc.1,by simp [zI]⟩,ph:= ?_ };simp only[zI];rw[w2];constructor<;>simp only<;>intro h<;>first|omega|exact⟨hf.2,q3,q4⟩
 ·rw[zWz c] at e;exact absurd e c
theorem zVw:∀(l:List Span) (n m:Int),zdR n l=some m->(l.length:Int)<=m - n:=by
 intro l
 induction l with
 | nil=>intro n m h;simp only[zdR,Option.some.injEq] at h;simp only[zWK];omega
 | cons x l ih=>
  intro n m h;unfold zdR at h
  split at h
  ·rename_i c;have:=ih _ _ h;simp only[zWI];omega
  ·cases h
theorem zfB{d:zal}(h:zbz d=0):d.l.length<=65536:=by
 unfold zbz at h
 split at h
 ·cases h
 ·split at h
  ·cases h
  ·rename_i c;have:=zVw _ _ _ (zWO.1 c);omega
theorem zTt{u:Setup}{a:zg}{s:Section}{N:Int}(ha:AI u a)(hs:SI u N s)(hp:s.phase=6)(e:(zex a s).2.2=0):
    AI u (zex a s).1/\SI u (N+1) (zex a s).2.1/\zed s (zex a s).2.1:=by
 obtain⟨q1,q2,q3,q4,q5,q6,q7⟩:=hs.ph.p6 hp;have hs:=hs.mono (show N<=N+1 by omega);unfold zex at e ⊢
 by_cases c:s.at_=0
 ·rw[zWz c];refine⟨ha,?_,⟨rfl,rfl⟩⟩;refine { hs with di:=zfB ha.dv,ph:= ?_ };simp only;constructor<;>simp only<;>intro h<;>first|omega|exact⟨q1,q2,q3,q4,q5,by omega,by omega⟩
 ·rw[zWy c] at e ⊢;simp only at e ⊢
  by_cases c1:(zcZ s.dir (s.out.edits.getD 0 zfa)).2≠0
  ·rw[zWz c1] at e;exact absurd e c1
  ·rw[zWy c1] at e ⊢;generalize zcZ s.dir (s.out.edits.getD 0 zfa)=d at *;have hcd:=ha.casDir s.dir.version d.1;have hdv:(casDir a s.dir.version d.1).2.2=0->zbz d.1=0:=by
    intro h;unfold Go.Proofs.YtjalkkalhdnplaaGreat.casDir at h
    split at h
    ·rename_i h1;exact absurd h h1
    ·rename_i h1;exact zWO.1 h1
   generalize casDir a s.dir.version d.1=r at *
   by_cases c2:r.2.2≠0
   ·rw[zWz c2] at e;exact absurd e c2
   ·rw[zWy c2] at e ⊢;have c2:=zWO.1 c2;have har:=hcd c2;have hd:=zfB (hdv c2)
    by_cases c3:r.2.1=false
    ·rw[zWz c3];refine⟨har,?_,⟨rfl,rfl⟩⟩;refine { hs with ph:= ?_ };simp only;constructor<;>simp only<;>intro h<;>first|omega|exact⟨q1,q2,q3,q4,q5,by omega,by omega⟩
    ·rw[zWy c3] at e ⊢;have hs2:SI u (N+1) { s with dir:=d.1 }:=by
      refine { hs with di:=hd,ph:= ?_ };have hph:=hs.ph;exact⟨hph.p0,hph.p1,hph.p2,hph.p3,hph.p4,hph.p5,hph.p6,hph.p7,hph.p8,hph.p9⟩
     obtain⟨f1,f2,f3⟩:=zVX (s:={ s with dir:=d.1 }) har hs2 q1 q2 q3 q4 e;exact⟨f1,f2,⟨f3.cells,f3.limit⟩⟩
theorem zTN{u:Setup}{a:zg}{s:Section}{k N:Int}(ha:AI u a)(hs:SI u N s)(hp:s.phase=7)(e:(zeC a s k).2.2=0):
    AI u (zeC a s k).1/\SI u (N+1) (zeC a s k).2.1/\zed s (zeC a s k).2.1:=by
 obtain⟨q1,q2,q3,q4,q5,q6⟩:=hs.ph.p7 hp;have hs:=hs.mono (show N<=N+1 by omega);unfold zeC at e ⊢;simp only at e ⊢;generalize zfi (s.stripes.getD s.at_.toNat zbh) (if zg3 s s.at_=true then s.out.shards.getD s.at_.toNat zw else s.shards.getD s.at_.toNat zw) s.snap.epoch s.limit=x at *
 by_cases c1:x.2≠0
 ·rw[zWz c1] at e;exact absurd e c1
 ·rw[zWy c1] at e ⊢;have hst:=ha.stStripe (zbO s s.at_) k x.1;generalize stStripe a (zbO s s.at_) k x.1=r at *
  by_cases c2:r.2≠0
  ·rw[zWz c2] at e;exact absurd e c2
  ·rw[zWy c2] at e ⊢;have har:=hst (zWO.1 c2)
   by_cases c3:s.at_+1=(s.stripes.length:Int)
   ·rw[zWz c3] at e ⊢;unfold zcG at e ⊢;simp only at e ⊢;obtain⟨w1,w2⟩:=zot hs.lw q1;have hf:(zb5 s.lock).2=0/\(zb5 s.lock).1.phase=4:=by unfold zb5;rw[zWz q1];exact⟨rfl,rfl⟩
    rw[zWy (fun q=>q hf.1)];refine⟨har,?_,⟨w2,rfl⟩⟩;refine { hs with lw:=w1,cr:=by simp only[zI];rw[w2];exact hs.cr,ca:=by simp only[zI];rw[w2];exact hs.ca,oo:=by simp only[zI];rw[w2];exact hs.oo,ph:= ?_ };simp only[zI];rw[w2];constructor<;>simp only<;>intro h<;>first|omega|exact⟨hf.2,q3,q4⟩
   ·rw[zWy c3];refine⟨har,?_,⟨rfl,rfl⟩⟩;refine { hs with ph:= ?_ };simp only;constructor<;>simp only<;>intro h<;>first|omega|exact⟨q1,q2,q3,q4,by omega,by omega⟩
theorem zOj{a:zg}{l:zbF}{k:Int}(hp:l.phase=4)(h:(zao a l k).2.2=0):(zao a l k).2.1.phase=4\/(zao a l k).2.1.phase=5:=by
 unfold zao at h ⊢;rw[zWy zo,zWz (.inr hp)] at h ⊢;unfold zi9 at h ⊢
 split at h
 ·rename_i c2;rw[zWz c2];unfold zhn;simp only
  split
  ·simp only;omega
  ·exact .inr rfl
 ·rename_i c2;exact absurd h c2
theorem zTv{u:Setup}{a:zg}{s:Section}{k N:Int}(ha:AI u a)(hs:SI u N s)(hp:s.phase=8)(e:(zfs a s k).2.2=0):
    AI u (zfs a s k).1/\SI u (N+1) (zfs a s k).2.1/\zed s (zfs a s k).2.1:=by
 obtain⟨q1,q2,q3⟩:=hs.ph.p8 hp;have he:(zao a s.lock k).2.2=0:=by
  unfold zfs at e
  split at e
  ·rename_i c;exact c.1
  ·exact e
 have hal:=ha.lock s.lock k he;obtain⟨w1,w2,_⟩:=zou hs.lw he;have w3:=zOj q1 he;unfold zfs;generalize zao a s.lock k=r at *;obtain⟨a2,l2,e2⟩:=r;simp only at he w1 w2 w3 hal;subst he
 by_cases c:l2.phase=5
 ·rw[zWz ⟨rfl,c⟩];refine⟨hal,?_,⟨w2,rfl⟩⟩;refine { hs with lw:=w1,cr:=by simp only[zI];rw[w2];exact hs.cr,ca:=by simp only[zI];rw[w2];exact hs.ca,oo:=by simp only[zI];rw[w2];exact hs.oo,ph:= ?_ };simp only[zI];rw[w2];constructor<;>simp only<;>intro h<;>first|omega|exact⟨q2,q3⟩
 ·rw[zWy (fun q=>c q.2)];refine⟨hal,?_,⟨w2,rfl⟩⟩;refine { hs with lw:=w1,cr:=by simp only;rw[w2];exact hs.cr,ca:=by simp only;rw[w2];exact hs.ca,oo:=by simp only;rw[w2];exact hs.oo,ph:= ?_ };simp only;rw[w2];constructor<;>simp only<;>intro h<;>first|omega|exact⟨by omega,q2,q3⟩
theorem zTI{u:Setup}{a:zg}{s:Section}{k n N:Int}(ha:AI u a)(hs:SI u N s)(hed:s.out.edits.length<=1)(e:(zcb a s k n).2.2=0):
    AI u (zcb a s k n).1/\SI u (N+1) (zcb a s k n).2.1/\zed s (zcb a s k n).2.1:=by
 unfold zcb at e ⊢
 by_cases c:(zeA a s k n).2.2≠0
 ·rw[zWz c] at e;exact absurd e c
 ·rw[zWy c] at e ⊢;clear c;unfold zeA at e ⊢
  by_cases c0:s.phase=0
  ·rw[zWz c0] at e ⊢; exact zTz ha hs c0 e
  rw[zWy c0] at e ⊢
  by_cases c1:s.phase=1
  ·rw[zWz c1] at e ⊢; exact zTB ha hs c1 e
  rw[zWy c1] at e ⊢
  by_cases c2:s.phase=2
  ·rw[zWz c2] at e ⊢; exact zTx ha hs c2 e
  rw[zWy c2] at e ⊢
  by_cases c3:s.phase=3
  ·rw[zWz c3] at e ⊢; exact zTG ha hs c3 e
  rw[zWy c3] at e ⊢
  by_cases c5:s.phase=5
  ·rw[zWz c5] at e ⊢; exact zTL ha hs c5 e hed
  rw[zWy c5] at e ⊢
  by_cases c6:s.phase=6
  ·rw[zWz c6] at e ⊢; exact zTt ha hs c6 e
  rw[zWy c6] at e ⊢
  by_cases c7:s.phase=7
  ·rw[zWz c7] at e ⊢; exact zTN ha hs c7 e
  rw[zWy c7] at e ⊢
  by_cases c8:s.phase=8
  ·rw[zWz c8] at e ⊢; exact zTv ha hs c8 e
  rw[zWy c8] at e
  cases e
structure OI(s:Section)(o:zb3):Prop where
 sh:o.shards.length=s.shards.length
 fit:∀x∈o.shards,zjD x
 dd:o.dead.l.length<=1000
 ord:∀i∈o.order,0<=i/\i<s.lock.cells.length
 nd:o.order.Nodup
 ol:o.order.length<=3
 ca:o.carry.length<=1000
 ed:o.edits.length<=1
theorem zFI{u:Setup}{N:Int}{s:Section}{o:zb3}(hs:SI u N s)(hp:s.phase=4)(ho:OI s o):
    (zeg s o).2=0/\SI u N (zeg s o).1/\zed s (zeg s o).1/\(zeg s o).1.out=o:=by
 obtain⟨q1,q2,q3⟩:=hs.ph.p4 hp;have hsl:=ho.sh;have hel:=ho.ed;have hkc:=hs.lw.c1;unfold zeg;rw[zWy (fun q=>q hp),zWy (show ¬(o.shards.length≠s.shards.length\/1<o.edits.length) by omega)];rw[zWy (show ¬zif s.lock.cells.length o.order=false by
  unfold zif;rw[zWY (show (∀i∈o.order,0<=i/\i<(s.lock.cells.length:Int))/\o.order.Nodup from ⟨ho.ord,ho.nd⟩)];simp)]
 have hs2:∀ph at_,PhI (kOf u.slots s.lock.cells) s.lock.cells.length { s with out:=o,phase:=ph,at_:=at_ }->SI u N { s with out:=o,phase:=ph,at_:=at_ }:=by
  intro ph at_ h;exact { hs with os:=ho.fit,od:=ho.dd,oo:=⟨ho.ord,ho.ol⟩,oc:=⟨ho.ca,hs.oc.2⟩,ph:=h }
 by_cases c1:0<o.order.length
 ·rw[zWz c1];refine⟨rfl,?_,⟨rfl,rfl⟩,rfl⟩;refine hs2 5 0 ?_;constructor<;>simp only<;>intro h<;>first|omega|exact⟨q1,q2,q3,by omega,by omega,by omega⟩
 rw[zWy c1]
 by_cases c2:0<o.edits.length
 ·rw[zWz c2];refine⟨rfl,?_,⟨rfl,rfl⟩,rfl⟩;refine hs2 6 0 ?_;constructor<;>simp only<;>intro h<;>first|omega|exact⟨q1,q2,q3,by omega,by omega,by omega,by omega⟩
 rw[zWy c2];unfold zcl
 by_cases c3:0<s.stripes.length
 ·rw[zWz c3];refine⟨rfl,?_,⟨rfl,rfl⟩,rfl⟩;refine hs2 7 0 ?_;constructor<;>simp only<;>intro h<;>first|omega|exact⟨q1,q2,q3,by omega,by omega,by omega⟩
 ·rw[zWy c3];obtain⟨w1,w2⟩:=zot hs.lw q1;have hf:(zb5 s.lock).2=0/\(zb5 s.lock).1.phase=4:=by unfold zb5;rw[zWz q1];exact⟨rfl,rfl⟩
  unfold zcG;simp only;rw[zWy (fun q=>q hf.1)];refine⟨rfl,?_,⟨w2,rfl⟩,rfl⟩;refine { hs with lw:=w1,cr:=by simp only[zI];rw[w2];exact hs.cr,ca:=by simp only[zI];rw[w2];exact hs.ca,os:=ho.fit,od:=ho.dd,oo:=by simp only[zI];rw[w2];exact⟨ho.ord,ho.ol⟩,oc:=⟨ho.ca,hs.oc.2⟩,ph:= ?_ };simp only[zI];rw[w2];constructor<;>simp only<;>intro h<;>first|omega|exact⟨hf.2,q3,by omega⟩
theorem zTD{u:Setup}{N:Int}{cells:List Int}{lim:Int}(hc:zfv cells u.slots)(hn:u.slots<=6)(h1:1<=cells.length)(hl:1<=lim/\lim<=8)(hN:0<=N):
    (zcp cells lim).2=0/\SI u N (zcp cells lim).1/\(zcp cells lim).1.lock.cells=cells/\(zcp cells lim).1.limit=lim/\(zcp cells lim).1.phase=0/\(zcp cells lim).1.out.edits=[]:=by
 unfold zcp;rw[zAC hc hn h1,zWy (fun q=>q rfl),zWy zo];have h3:=hc.l;refine⟨rfl,?_,rfl,rfl,rfl,rfl⟩;constructor
 ·constructor<;>simp only<;>omega
 ·exact hc.b
 ·exact hc.p
 ·intro x h;cases h
 ·simp [zbU,za3]
 ·exact hl
 ·simp [zbU,zhG]
 ·simp [zbU,zeH]
 ·intro x h;cases h
 ·simp [zbU,ziv,za3]
 ·exact⟨fun x h=>(by cases h),by simp [zbU,ziv]⟩
 ·exact⟨by simp [zbU,ziv],by simp [zbU]⟩
 ·constructor<;>intro h
  ·exact⟨by simp only;omega,rfl,rfl,rfl⟩
  all_goals exact absurd h (by simp [zbU])
theorem zzq(s:Section):(zcG s).1.out=s.out:=by
 unfold zcG zI
 split<;>rfl
theorem zCO(a:zg)(s:Section):(zcl a s).2.1.out=s.out:=by
 unfold zcl zI
 split
 ·rfl
 ·exact zzq s
theorem zTJ{a:zg}{s:Section}{k n:Int}(e:(zcb a s k n).2.2=0):(zcb a s k n).2.1.out=s.out:=by
 unfold zcb at e ⊢
 by_cases c:(zeA a s k n).2.2≠0
 ·rw[zWz c] at e;exact absurd e c
 rw[zWy c];clear c e;unfold zeA
 split
 ·unfold zft zI
  split
  ·simp only;split<;>rfl
  ·rfl
 split
 ·unfold zez zI
  split
  ·rfl
  split
  ·rfl
  simp only
  split<;>rfl
 split
 ·unfold zey zI;simp only
  split
  ·split<;>rfl
  ·split<;>rfl
 split
 ·unfold zgu zI;simp only
  split<;>rfl
 split
 ·unfold zeB zI;simp only;generalize (if zbO s (s.out.order.getD s.at_.toNat 0)=(a.slots.length:Int) then stDead a k s.out.dead else stSlot a (zbO s (s.out.order.getD s.at_.toNat 0)) k (s.out.shards.getD (s.out.order.getD s.at_.toNat 0).toNat zw))=r
  split
  ·rfl
  split
  ·rfl
  split
  ·rfl
  exact zCO _ _
 split
 ·unfold zex
  split
  ·rfl
  simp only
  split
  ·rfl
  split
  ·rfl
  split
  ·rfl
  exact zCO _ _
 split
 ·unfold zeC;simp only;generalize zfi (s.stripes.getD s.at_.toNat zbh) (if zg3 s s.at_=true then s.out.shards.getD s.at_.toNat zw else s.shards.getD s.at_.toNat zw) s.snap.epoch s.limit=x
  split
  ·rfl
  split
  ·rfl
  split
  ·exact zzq _
  ·rfl
 split
 ·unfold zfs zI
  split<;>rfl
 ·rfl
theorem zlC{u:Setup}{a:zg}{t:zi}{n N:Int}(ha:AI u a)(hs:SI u N t.sec)(hed:t.sec.out.edits.length<=1)(e:(goT a t n).2.2.2.2=0):
    AI u (goT a t n).1/\∃s,(goT a t n).2.1={ t with sec:=s }/\SI u (N+1) s/\zed t.sec s/\s.out=t.sec.out/\((goT a t n).2.2.1=true↔s.phase=4)/\((goT a t n).2.2.2.1=true↔s.phase=9):=by
 unfold goT at e ⊢
 by_cases c:(zcb a t.sec t.number n).2.2≠0
 ·rw[zWz c] at e;exact absurd e c
 rw[zWy c];have c:=zWO.1 c;obtain⟨h1,h2,h3⟩:=zTI ha hs hed c;exact⟨h1,_,rfl,h2,h3,zTJ c,decide_eq_true_iff,decide_eq_true_iff⟩
def zK(a:zg)(c:Int):Stripe:=a.stripes.getD c.toNat zbh
def zaw(a:zg)(c:Int):Shard:=(a.slots.getD c.toNat zdS).shard
structure Ef(k:Int)(a b:zg):Prop where
 n:b.slots.length=a.slots.length
 m:b.stripes.length=a.stripes.length
 ep:a.epoch<=b.epoch
 ow:∀c:Int,0<=c->c<=a.slots.length->za7 b c=za7 a c\/(za7 a c=0/\za7 b c=k)\/(za7 a c=k/\za7 b c=0)
 st:∀c:Int,0<=c->c<a.slots.length->za7 a c≠k->zK b c=zK a c
 sh:∀c:Int,0<=c->c<a.slots.length->za7 a c≠k->zaw b c=zaw a c
 dd:za7 a a.slots.length≠k->b.dead.dead=a.dead.dead
theorem Ef.refl(k:Int)(a:zg):Ef k a a:=⟨rfl,rfl,zXh _,fun _ _ _=> .inl rfl,fun _ _ _ _=>rfl,fun _ _ _ _=>rfl,fun _=>rfl⟩
theorem zoI{a:zg}{c o:Int}(h0:0<=c)(h1:c<=a.slots.length){x:Int}(h2:0<=x)(h3:x<=a.slots.length):za7 (zcq a c o) x=if x=c then o else za7 a x:=by
 unfold zcq za7
 by_cases e1:c=a.slots.length
 ·subst e1;simp only[if_true]
  split<;>rfl
 ·rw[zWy e1];simp only[zW8]
  by_cases e2:x=a.slots.length
  ·have:¬x=c:=by omega
   rw[zWz e2,zWy this,zWz e2]
  ·rw[zWy e2,zWy e2]
   by_cases e3:x=c
   ·subst e3;rw[zWz rfl,zWG,zYz zo];rfl
   ·rw[zWy e3,zWG,zYl zo, <- zWG]
theorem zsF(a:zg)(c o:Int)(x:Int):zaw (zcq a c o) x=zaw a x:=by
 unfold zcq zaw
 split
 ·rfl
 ·simp only
  by_cases e:x.toNat=c.toNat
  ·rw[e]
   by_cases h:c.toNat<a.slots.length
   ·rw[zWG,zYz h];rfl
   ·rw[List.set_eq_of_length_le zo]
  ·rw[zWG,zYl zo, <- zWG]
theorem zUZ(a:zg)(c o:Int)(x:Int):zK (zcq a c o) x=zK a x:=by
 unfold zcq zK
 split<;>rfl
theorem zsE(a:zg)(c o:Int):(zcq a c o).slots.length=a.slots.length/\(zcq a c o).stripes=a.stripes/\(zcq a c o).epoch=a.epoch/\(zcq a c o).dead.dead=a.dead.dead/\(zcq a c o).clock=a.clock/\(zcq a c o).dir=a.dir:=by
 unfold zcq
 split<;>simp
theorem Ef.set{a:zg}{c k:Int}{o:Int}(h0:0<=c)(h1:c<=a.slots.length)(h:(za7 a c=0/\o=k)\/(za7 a c=k/\o=0)):Ef k a (zcq a c o):=by
 obtain⟨f1,f2,f3,f4,_⟩:=zsE a c o;refine⟨f1,by rw[f2],by rw[f3];exact zXh _,fun x q1 q2=> ?_,fun x _ _ _=>zUZ ..,fun x _ _ _=>zsF ..,fun _=>f4⟩;rw[zoI h0 h1 q1 q2]
 by_cases e:x=c
 ·subst e;rw[zWz rfl]
  rcases h with ⟨h,rfl⟩|⟨h,rfl⟩
  ·exact .inr (.inl ⟨h,rfl⟩)
  ·exact .inr (.inr ⟨h,rfl⟩)
 ·rw[zWy e];exact .inl rfl
def LO(a:zg)(k:Int)(l:zbF):Prop:=∀j:Nat,(j:Int)<l.have_->za7 a (l.cells.getD j 0)=k
theorem zAD{B:Int}{a:zg}{l:zbF}{k:Int}(hw:LWF B l)(hc0:∀c∈l.cells,0<=c)(hp:l.cells.Pairwise (· < ·))(ho:LO a k l)(h:(zao a l k).2.2=0):
    Ef k a (zao a l k).1/\LO (zao a l k).1 k (zao a l k).2.1/\(zao a l k).1.stripes=a.stripes/\(zao a l k).1.epoch=a.epoch/\(∀c,zaw (zao a l k).1 c=zaw a c)/\(zao a l k).1.dead.dead=a.dead.dead:=by
 have hdist:∀i j:Nat,i<l.cells.length->j<l.cells.length->i≠j->l.cells.getD i 0≠l.cells.getD j 0:=by
  intro i j hi hj hne;rw[zWG,zWG,zWF hi,zWF hj];simp only[zXl];have:=zXu.1 hp
  rcases zZC hne with q|q
  ·have:=this i j hi hj q;omega
  ·have:=this j i hj hi q;omega
 unfold zao at h ⊢
 by_cases c0:l.phase=0
 ·have hh:=hw.t0 c0;have h0:=hw.h0;rw[zWz c0] at h ⊢;unfold zkq at h ⊢
  by_cases c1:(zcu a (l.cells.getD l.have_.toNat 0) k).2.2=0
  ·rw[zWz c1] at h ⊢;have hb:¬(l.cells.getD l.have_.toNat 0<0\/(a.slots.length:Int)<l.cells.getD l.have_.toNat 0\/zfW k=false):=by
    intro q;unfold zcu at c1;rw[zWz q] at c1;cases c1
   have b0:0<=l.cells.getD l.have_.toNat 0:=zYn.1 fun q=>hb (.inl q);have b1:l.cells.getD l.have_.toNat 0<=a.slots.length:=zYn.1 fun q=>hb (.inr (.inl q))
   rcases ztt _ _ _ c1 with ⟨e1,e2,_⟩|⟨e1,e2,e3⟩
   ·rw[zWy (by rw[e2];simp)];rw[e1];exact⟨Ef.refl k a,ho,rfl,rfl,fun _=>rfl,rfl⟩
   ·rw[zWz e2];rw[e1];obtain⟨f1,f2,f3,f4,_⟩:=zsE a (l.cells.getD l.have_.toNat 0) k;refine⟨Ef.set b0 b1 (.inl ⟨e3,rfl⟩),fun j hj=> ?_,f2,f3,fun c=>zsF ..,f4⟩;simp only at hj ⊢
    by_cases ej:j=l.have_.toNat
    ·subst ej;rw[zoI b0 b1 b0 b1,zWz rfl]
    ·have hoj:=ho j zo;have hne:=hdist j l.have_.toNat zo zo ej;have hz:0<=l.cells.getD j 0/\l.cells.getD j 0<=a.slots.length:=by
      have q1:=zXu.1 hp j l.have_.toNat zo zo zo;rw[zWG,zWF (show l.have_.toNat<l.cells.length by omega)] at b1;rw[zWG,zWF (show j<l.cells.length by omega)];simp only[zXl] at b1 ⊢;refine⟨?_,by omega⟩;exact hc0 _ (zWH _)
     rw[zoI b0 b1 hz.1 hz.2,zWy hne];exact hoj
  ·rw[zWy c1] at h;exact absurd h c1
 rw[zWy c0] at h ⊢
 by_cases c14:l.phase=1\/l.phase=4
 ·have hh:1<=l.have_:=by rcases c14 with h|h;exact hw.t1 h;exact hw.t4 h
  have hh1:=hw.h1;rw[zWz c14] at h ⊢;unfold zi9 at h ⊢
  by_cases c1:(zdU a (l.cells.getD (l.have_ - 1).toNat 0) k).2=0
  ·rw[zWz c1];have hb:¬(l.cells.getD (l.have_ - 1).toNat 0<0\/(a.slots.length:Int)<l.cells.getD (l.have_ - 1).toNat 0\/zfW k=false):=by
    intro q;unfold zdU at c1;rw[zWz q] at c1;cases c1
   have b0:0<=l.cells.getD (l.have_ - 1).toNat 0:=zYn.1 fun q=>hb (.inl q);have b1:l.cells.getD (l.have_ - 1).toNat 0<=a.slots.length:=zYn.1 fun q=>hb (.inr (.inl q));obtain⟨e1,e2⟩:=ztu _ _ _ c1;rw[e1];obtain⟨f1,f2,f3,f4,_⟩:=zsE a (l.cells.getD (l.have_ - 1).toNat 0) 0;have hlv:(zhn l).have_=l.have_ - 1/\(zhn l).cells=l.cells:=by
    unfold zhn
    repeat' split
    all_goals exact⟨rfl,rfl⟩
   refine⟨Ef.set b0 b1 (.inr ⟨e2,rfl⟩),fun j hj=> ?_,f2,f3,fun c=>zsF ..,f4⟩;rw[hlv.2];rw[hlv.1] at hj;have hoj:=ho j zo;have hne:=hdist j (l.have_ - 1).toNat zo zo zo;have hz:0<=l.cells.getD j 0/\l.cells.getD j 0<=a.slots.length:=by
    have q1:=zXu.1 hp j (l.have_ - 1).toNat zo zo zo;rw[zWG,zWF (show (l.have_ - 1).toNat<l.cells.length by omega)] at b1;rw[zWG,zWF (show j<l.cells.length by omega)];simp only[zXl] at b1 ⊢;exact⟨hc0 _ (zWH _),by omega⟩
   rw[zoI b0 b1 hz.1 hz.2,zWy hne];exact hoj
  ·rw[zWy c1] at h;exact absurd h c1
 rw[zWy c14] at h ⊢
 by_cases c2:l.phase=2
 ·rw[zWz c2];exact⟨Ef.refl k a,ho,rfl,rfl,fun _=>rfl,rfl⟩
 ·rw[zWy c2] at h
  cases h
theorem zsN{a:zg}{i k:Int}{s:Stripe}(h:(stStripe a i k s).2=0):0<=i/\i<a.slots.length/\(a.slots.getD i.toNat zdS).owner=k/\(stStripe a i k s).1={ a with stripes:=a.stripes.set i.toNat s }:=by
 unfold stStripe at h ⊢
 split at h
 ·rename_i c;exact absurd h c
 rename_i c
 split at h
 ·cases h
 rename_i c2;rw[zWy c,zWy c2];have c:=zWO.1 c;unfold zd8 at c
 split at c
 ·cases c
 rename_i c3
 split at c
 ·rename_i c4;have:zcr a i=true:=by
   cases q:zcr a i with
   | true=>rfl
   | false=>exact absurd (.inl q) c3
  unfold zcr at this;have:=of_decide_eq_true this;exact⟨this.1,this.2,c4,rfl⟩
 ·cases c
theorem zCm{a:zg}{i k:Int}{s:Shard}(h:(stSlot a i k s).2=0):0<=i/\i<a.slots.length/\(a.slots.getD i.toNat zdS).owner=k/\(stSlot a i k s).1={ a with slots:=a.slots.set i.toNat ⟨(a.slots.getD i.toNat zdS).owner,s⟩ }:=by
 unfold stSlot at h ⊢
 split at h
 ·rename_i c;exact absurd h c
 rename_i c
 split at h
 ·rename_i c2;exact absurd h c2
 rename_i c2
 split at h
 ·cases h
 rename_i c5;rw[zWy c,zWy c2,zWy c5];have c:=zWO.1 c;unfold zd8 at c
 split at c
 ·cases c
 rename_i c3
 split at c
 ·rename_i c4;have:zcr a i=true:=by
   cases q:zcr a i with
   | true=>rfl
   | false=>exact absurd (.inl q) c3
  unfold zcr at this;have:=of_decide_eq_true this;exact⟨this.1,this.2,c4,rfl⟩
 ·cases c
theorem zCl{a:zg}{k:Int}{d:Dead}(h:(stDead a k d).2=0):a.dead.owner=k/\(stDead a k d).1={ a with dead:=⟨a.dead.owner,d⟩ }:=by
 unfold stDead at h ⊢
 repeat' split at h
 all_goals first
  | (cases h;done)
  | (rename_i c;exact absurd h c)
  | skip
 rename_i c1 c2 c3 c4;rw[zWy c1,zWy c2,zWy c3,zWy c4];exact⟨zWO.1 c2,rfl⟩
theorem Ef.stripe{a:zg}{i k:Int}{s:Stripe}(h:(stStripe a i k s).2=0):Ef k a (stStripe a i k s).1:=by
 obtain⟨h0,h1,h2,e⟩:=zsN h;rw[e];refine⟨rfl,by simp,zXh _,fun _ _ _=> .inl rfl,fun c q1 q2 q3=> ?_,fun _ _ _ _=>rfl,fun _=>rfl⟩;unfold zK;have hne:c≠i:=by
  rintro rfl;refine q3 ?_;unfold za7;rw[zWy zo];exact h2
 simp only;rw[zWG,zYl zo, <- zWG]
theorem Ef.slot{a:zg}{i k:Int}{s:Shard}(h:(stSlot a i k s).2=0):Ef k a (stSlot a i k s).1:=by
 obtain⟨h0,h1,h2,e⟩:=zCm h;rw[e];have ho:∀c,za7 { a with slots:=a.slots.set i.toNat ⟨(a.slots.getD i.toNat zdS).owner,s⟩ } c=za7 a c:=by
  intro c;unfold za7;simp only[zW8]
  split
  ·rfl
  ·by_cases e:c.toNat=i.toNat
   ·rw[e,zWG,zYz zo];rfl
   ·rw[zWG,zYl zo, <- zWG]
 refine⟨by simp,rfl,zXh _,fun c _ _=> .inl (ho c),fun _ _ _ _=>rfl,fun c q1 q2 q3=> ?_,fun _=>rfl⟩;unfold zaw;have hne:c≠i:=by
  rintro rfl;refine q3 ?_;unfold za7;rw[zWy zo];exact h2
 simp only;rw[zWG,zYl zo, <- zWG]
theorem Ef.dead{a:zg}{k:Int}{d:Dead}(h:(stDead a k d).2=0):Ef k a (stDead a k d).1:=by
 obtain⟨h2,e⟩:=zCl h;rw[e];refine⟨rfl,rfl,zXh _,fun c _ _=> .inl ?_,fun _ _ _ _=>rfl,fun _ _ _ _=>rfl,fun q=> ?_⟩
 ·unfold za7
  split<;>rfl
 ·refine absurd ?_ q;unfold za7;rw[zWz rfl];exact h2
theorem Ef.dir{k:Int}(a:zg)(d:zal):Ef k a { a with dir:=d }:=⟨rfl,rfl,zXh _,fun _ _ _=> .inl rfl,fun _ _ _ _=>rfl,fun _ _ _ _=>rfl,fun _=>rfl⟩
theorem Ef.casDir{k:Int}{a:zg}{v:Int}{d:zal}(h:(casDir a v d).2.2=0):Ef k a (Go.Proofs.YtjalkkalhdnplaaGreat.casDir a v d).1:=by
 unfold Go.Proofs.YtjalkkalhdnplaaGreat.casDir at h ⊢
 repeat' split at h
 all_goals first
  | (cases h;done)
  | (rename_i c;exact absurd h c)
  | skip
 ·rename_i c1 c2 c3;rw[zWy c1,zWy c2,zWz c3];exact Ef.refl k a
 ·rename_i c1 c2 c3;rw[zWy c1,zWy c2,zWy c3];exact Ef.dir a d
def clS(s:Section)(j:Nat):Int:=s.lock.cells.getD j 0
def zcg(s:Section)(j:Nat):Stripe:=s.stripes.getD j zbh
def zdG(s:Section):List Int:=if s.phase=5 then s.out.order.take s.at_.toNat else s.out.order
structure LI(u:Setup)(a:zg)(k:Int)(s:Section):Prop where
 lo:LO a k s.lock
 lm:s.limit=u.limit
 d0:s.phase<=1->s.dead=za3
 m1:s.phase=1->∀j:Nat,(j:Int)<s.at_ / 2->zcg s j=zK a (clS s j)/\(zcg s j).seq % 2=1
 m2:s.phase=1->s.at_ % 2=1->zcg s (s.at_ / 2).toNat=zK a (clS s (s.at_ / 2).toNat)
 st:2<=s.phase->s.phase<=7->∀j:Nat,j<kOf u.slots s.lock.cells->(s.phase=7->s.at_<=j)->zcg s j=zK a (clS s j)/\(zcg s j).seq % 2=1
 ld:2<=s.phase->s.phase<=4->∀j:Nat,j<s.shards.length->s.shards.getD j zw=zaw a (clS s j)
 sd:5<=s.phase->s.phase<=7->∀j:Nat,j<kOf u.slots s.lock.cells->zaw a (clS s j)=if (j:Int)∈zdG s then s.out.shards.getD j zw else s.shards.getD j zw
 e2:2<=s.phase->s.phase<=3->(∀x∈s.shards,SM a.epoch x)/\LM a.epoch s.dead.l
 e4:4<=s.phase->s.phase<=7->s.snap.epoch<=a.epoch/\(∀x∈s.shards,SM s.snap.epoch x)/\LM s.snap.epoch s.dead.l
 e5:5<=s.phase->s.phase<=7->(∀x∈s.out.shards,SM s.snap.epoch x)/\LM s.snap.epoch s.out.dead.l
theorem zOh{k n:Nat}{s:Section}(h:PhI k n s)(h1:1<=s.phase)(h2:s.phase<=7):s.lock.phase=3:=by
 rcases (by omega:s.phase=1\/s.phase=2\/s.phase=3\/s.phase=4\/s.phase=5\/s.phase=6\/s.phase=7) with q|q|q|q|q|q|q
 ·exact (h.p1 q).1
 ·exact (h.p2 q).1
 ·exact (h.p3 q).1
 ·exact (h.p4 q).1
 ·exact (h.p5 q).1
 ·exact (h.p6 q).1
 ·exact (h.p7 q).1
theorem zln{u:Setup}{N:Int}{a:zg}{k:Int}{s:Section}(hs:SI u N s)(hl:LO a k s.lock)(h3:s.lock.phase=3){j:Nat}(hj:j<s.lock.cells.length):0<=clS s j/\clS s j<=u.slots/\za7 a (clS s j)=k:=by
 have hh:=hs.lw.t3 h3;have:=hs.cr (s.lock.cells[j]) (zWH hj);have e:clS s j=s.lock.cells[j]:=by unfold clS;rw[zWG,zWF hj];rfl
 exact⟨by omega,by omega,hl j zo⟩
theorem zjv{u:Setup}{N:Int}{s:Section}(hs:SI u N s){j:Nat}(hj:j<kOf u.slots s.lock.cells):j<s.lock.cells.length/\clS s j<u.slots:=by
 have h1:j<s.lock.cells.length:=zXH hj (zi2 _ _);have e:clS s j=s.lock.cells[j]:=by unfold clS;rw[zWG,zWF h1];rfl
 exact⟨h1,by rw[e];exact (zlN hs.ca j h1).1 hj⟩
theorem LI.other{u:Setup}{N:Int}{a b:zg}{k k':Int}{s:Section}(ha:AI u a)(hs:SI u N s)(h:LI u a k s)(hk:1<=k)(hne:k≠k')(he:Ef k' a b):LI u b k s:=by
 have hsl:=ha.sl;have hlo:LO b k s.lock:=by
  intro j hj;have h1:=h.lo j hj;have hjl:j<s.lock.cells.length:=by have:=hs.lw.h1;omega
  have hc:=hs.cr (s.lock.cells[j]) (zWH hjl);have e:s.lock.cells.getD j 0=s.lock.cells[j]:=by rw[zWG,zWF hjl];rfl
  rcases he.ow (s.lock.cells.getD j 0) zo zo with q|⟨q,_⟩|⟨q,_⟩
  ·rw[q];exact h1
  ·omega
  ·exact absurd (h1.symm.trans q) hne
 have key:1<=s.phase->s.phase<=7->∀j,j<kOf u.slots s.lock.cells->zK b (clS s j)=zK a (clS s j)/\zaw b (clS s j)=zaw a (clS s j):=by
  intro p1 p7 j hj;obtain⟨q1,q2⟩:=zjv hs hj;obtain⟨c1,c2,c3⟩:=zln hs h.lo (zOh hs.ph p1 p7) q1;exact⟨he.st _ c1 zo zo,he.sh _ c1 zo zo⟩
 have hep:=he.ep;refine { lo:=hlo,lm:=h.lm,d0:=h.d0,m1:=fun p j hj=> ?_,m2:=fun p hj=> ?_,st:=fun p1 p2 j hj q=> ?_,ld:=fun p1 p2 j hj=> ?_,sd:=fun p1 p2 j hj=> ?_,e2:=fun p1 p2=> ?_,e4:=fun p1 p2=> ?_,e5:=h.e5 }
 ·have:=hs.ph.p1 p;rw[(key zo zo j zo).1];exact h.m1 p j hj
 ·have:=hs.ph.p1 p;rw[(key zo zo _ zo).1];exact h.m2 p hj
 ·rw[(key zo zo j hj).1];exact h.st p1 p2 j hj q
 ·have hlen:s.shards.length<=kOf u.slots s.lock.cells:=by
     rcases (by omega:s.phase=2\/s.phase=3\/s.phase=4) with q|q|q
     ·have:=(hs.ph.p2 q).2.2.2.2.1;omega
     ·have:=(hs.ph.p3 q).2.2.1;omega
     ·have:=(hs.ph.p4 q).2.2;omega
  rw[(key zo zo j zo).2];exact h.ld p1 p2 j hj
 ·rw[(key zo zo j hj).2];exact h.sd p1 p2 j hj
 ·have:=h.e2 p1 p2;exact⟨fun x hx=>(this.1 x hx).mono hep,this.2.mono hep⟩
 ·have:=h.e4 p1 p2;exact⟨by omega,this.2⟩
structure GI(u:Setup)(a:zg):Prop where
 ev:∀c:Int,0<=c->c<a.slots.length->(zK a c).seq % 2=0->(zK a c).epoch<=a.epoch/\SM (zK a c).epoch (zaw a c)/\zbP (zaw a c) (zK a c).epoch u.limit=((zK a c).ready,(zK a c).leased)
 me:∀c:Int,0<=c->c<a.slots.length->SM a.epoch (zaw a c)
 md:LM a.epoch a.dead.dead.l
structure Mo(a b:zg):Prop where
 ep:a.epoch<=b.epoch
 sq:∀c:Int,0<=c->c<a.slots.length->(zK a c).seq<=(zK b c).seq/\((zK a c).seq=(zK b c).seq->zK a c=zK b c)
 n:b.slots.length=a.slots.length
theorem Mo.refl(a:zg):Mo a a:=⟨zXh _,fun _ _ _=>⟨zXh _,fun _=>rfl⟩,rfl⟩
theorem Mo.trans{a b c:zg}(h1:Mo a b)(h2:Mo b c):Mo a c:=by
 refine⟨zYA h1.ep h2.ep,fun x p q=> ?_,h2.n.trans h1.n⟩;obtain⟨r1,r2⟩:=h1.sq x p q;obtain⟨t1,t2⟩:=h2.sq x p (by rw[h1.n];exact q);exact⟨by omega,fun e=>(r2 zo).trans (t2 zo)⟩
theorem GI.same{u:Setup}{a b:zg}(h:GI u a)(hn:b.slots.length=a.slots.length)(hs:b.stripes=a.stripes)(hx:∀c,zaw b c=zaw a c)(he:b.epoch=a.epoch)(hd:b.dead.dead=a.dead.dead):GI u b:=by
 have e:∀c,zK b c=zK a c:=fun c=>by unfold zK;rw[hs]
 refine⟨fun c p q=> ?_,fun c p q=> ?_,?_⟩
 ·rw[e,hx,he];exact h.ev c p zo
 ·rw[hx,he];exact h.me c p zo
 ·rw[hd,he];exact h.md
theorem Mo.same{a b:zg}(hn:b.slots.length=a.slots.length)(hs:b.stripes=a.stripes)(he:b.epoch=a.epoch):Mo a b:=by
 have e:∀c,zK b c=zK a c:=fun c=>by unfold zK;rw[hs]
 exact⟨by omega,fun c p q=>by rw[e];exact⟨zXh _,fun _=>rfl⟩,hn⟩
structure SK(u:Setup)(a:zg)(k:Int)(r:zg×Section×Int):Prop where
 g:GI u r.1
 m:Mo a r.1
 f:Ef k a r.1
 l:LI u r.1 k r.2.1
theorem LI.at8{u:Setup}{a:zg}{k:Int}{s:Section}(lo:LO a k s.lock)(lm:s.limit=u.limit)(p:8<=s.phase):LI u a k s:=by
 refine { lo:=lo,lm:=lm,d0:=fun q=> ?_,m1:=fun q=> ?_,m2:=fun q=> ?_,st:=fun q1 q2=> ?_,ld:=fun q1 q2=> ?_,sd:=fun q1 q2=> ?_,e2:=fun q1 q2=> ?_,e4:=fun q1 q2=> ?_,e5:=fun q1 q2=> ?_ }<;>omega
theorem zTA{u:Setup}{a:zg}{s:Section}{k N:Int}(ha:AI u a)(hg:GI u a)(hs:SI u N s)(hl:LI u a k s)(hp:s.phase=0)(e:(zft a s k).2.2=0):SK u a k (zft a s k):=by
 obtain⟨q1,q2,q3,q9⟩:=hs.ph.p0 hp;have hk:=zo8 ha s;have hd:=hl.d0 zo;have hlm:=hl.lm;have he:(zao a s.lock k).2.2=0:=by
  unfold zft at e
  split at e
  ·rename_i c;exact c.1
  ·exact e
 obtain⟨w1,w2,_⟩:=zou hs.lw he;obtain⟨x1,x2,x3,x4,x5,x6⟩:=zAD hs.lw (fun c hc=>(hs.cr c hc).1) hs.ca hl.lo he;have hg':GI u (zao a s.lock k).1:=hg.same x1.n x3 x5 x4 x6;have hm':Mo a (zao a s.lock k).1:=Mo.same x1.n x3 x4;unfold zft;generalize zao a s.lock k=r at *;obtain⟨a2,l2,e2⟩:=r;simp only at he w1 w2 x1 x2 hg' hm';subst he
 by_cases c:l2.phase=3
 ·rw[zWz ⟨rfl,c⟩];refine⟨hg',hm',x1,?_⟩;simp only
  by_cases c0:zds a s=0
  ·rw[zWz c0];have k0:kOf u.slots s.lock.cells=0:=by rw[c0] at hk;omega
   refine { lo:=x2,lm:=hlm,d0:=fun q=> ?_,m1:=fun q=> ?_,m2:=fun q=> ?_,st:=fun p1 p2 j hj=> ?_,ld:=fun p1 p2 j hj=> ?_,sd:=fun p1 p2=> ?_,e2:=fun p1 p2=> ?_,e4:=fun p1 p2=> ?_,e5:=fun p1 p2=> ?_ }
   all_goals simp only[zI] at *
   ·omega
   ·omega
   ·omega
   ·rw[w2,k0] at hj;omega
   ·rw[q3] at hj;cases hj
   ·omega
   ·rw[q3,hd];exact⟨fun x hx=>(by cases hx),fun x hx=>(by cases hx)⟩
   ·omega
   ·omega
  ·rw[zWy c0];refine { lo:=x2,lm:=hlm,d0:=fun q=>hd,m1:=fun q j hj=> ?_,m2:=fun q hj=> ?_,st:=fun p1 p2=> ?_,ld:=fun p1 p2=> ?_,sd:=fun p1 p2=> ?_,e2:=fun p1 p2=> ?_,e4:=fun p1 p2=> ?_,e5:=fun p1 p2=> ?_ }
   all_goals simp only[zI] at *
   all_goals omega
 ·rw[zWy (fun q=>c q.2)];refine⟨hg',hm',x1,?_⟩;simp only;refine { lo:=x2,lm:=hlm,d0:=fun q=>hd,m1:=fun q j hj=> ?_,m2:=fun q hj=> ?_,st:=fun p1 p2=> ?_,ld:=fun p1 p2=> ?_,sd:=fun p1 p2=> ?_,e2:=fun p1 p2=> ?_,e4:=fun p1 p2=> ?_,e5:=fun p1 p2=> ?_ }
  all_goals simp only at *
  all_goals omega
theorem zTH{u:Setup}{a:zg}{s:Section}{k n N:Int}(hg:GI u a)(hs:SI u N s)(hl:LI u a k s)(hp:s.phase=3)(e:(zgu a s n).2.2=0):SK u a k (zgu a s n):=by
 obtain⟨q1,q2,q3,q4,q5⟩:=hs.ph.p3 hp;have hst:=hl.st zo zo;have hld:=hl.ld zo zo;have he2:=hl.e2 zo zo;unfold zgu at e ⊢;simp only at e ⊢;refine⟨hg,Mo.refl a,Ef.refl k a,?_⟩;simp only;have key:(zcL a s.snap n).1.phase=3->(zcL a s.snap n).1.epoch=a.epoch:=by
  intro q;unfold zcL at q ⊢
  split at q
  ·simp at q
  split at q
  ·simp at q
  split at q
  ·rename_i c1 c2 c3;rw[zWy c1,zWy c2,zWz c3]
   split at q
   ·rename_i c4;rw[zWz c4];exact c4.symm
   ·simp at q
  ·omega
 generalize zcL a s.snap n=r at *;obtain⟨x,e2⟩:=r;simp only at e key ⊢;subst e
 by_cases c:x.phase=3
 ·rw[zWz ⟨rfl,c⟩];have hx:=key c;refine { lo:=hl.lo,lm:=hl.lm,d0:=fun q=> ?_,m1:=fun q=> ?_,m2:=fun q=> ?_,st:=fun p1 p2 j hj _=>hst j hj zo,ld:=fun p1 p2 j hj=>hld j hj,sd:=fun p1 p2=> ?_,e2:=fun p1 p2=> ?_,e4:=fun p1 p2=> ?_,e5:=fun p1 p2=> ?_ }
  all_goals simp only[zI] at *
  ·omega
  ·omega
  ·omega
  ·omega
  ·omega
  ·rw[hx];exact⟨zXh _,he2⟩
  ·omega
 ·rw[zWy (fun q=>c q.2)];refine { lo:=hl.lo,lm:=hl.lm,d0:=fun q=> ?_,m1:=fun q=> ?_,m2:=fun q=> ?_,st:=fun p1 p2 j hj _=>hst j hj zo,ld:=fun p1 p2 j hj=>hld j hj,sd:=fun p1 p2=> ?_,e2:=fun p1 p2=>he2,e4:=fun p1 p2=> ?_,e5:=fun p1 p2=> ?_ }
  all_goals simp only at *
  all_goals omega
theorem zTy{u:Setup}{a:zg}{s:Section}{k N:Int}(ha:AI u a)(hg:GI u a)(hs:SI u N s)(hl:LI u a k s)(hp:s.phase=2)(e:(zey a s).2.2=0):SK u a k (zey a s):=by
 obtain⟨q1,q2,q3,q4,q5,q9⟩:=hs.ph.p2 hp;have hsl:=ha.sl;have hlt:s.at_.toNat<s.lock.cells.length:=by omega
 have hc:zbO s s.at_=s.lock.cells[s.at_.toNat]:=by unfold zbO;rw[zq hlt]
 have hcr:=hs.cr _ (zWH hlt);have hka:=zlN (n:=u.slots) hs.ca s.at_.toNat hlt;have hkl:=zi2 u.slots s.lock.cells;rw[<- hc] at hcr hka;have hst:=hl.st zo zo;have hld:=hl.ld zo zo;obtain⟨he2,he3⟩:=hl.e2 zo zo;unfold zey at e ⊢;simp only at e ⊢;refine⟨hg,Mo.refl a,Ef.refl k a,?_⟩;simp only;have main:∀s1:Section,s1.lock=s.lock->s1.limit=s.limit->s1.stripes=s.stripes->s1.phase=2->(∀j:Nat,j<s1.shards.length->s1.shards.getD j zw=zaw a (clS s j))->(∀x∈s1.shards,SM a.epoch x)->LM a.epoch s1.dead.l->LI u a k (if s1.at_=s.lock.cells.length then zI s1 3 else s1):=by
  intro s1 h1 h2 h3 h4 h5 h6 h7;have hcl:∀j,clS s1 j=clS s j:=fun j=>by unfold clS;rw[h1]
  have hstr:∀j,zcg s1 j=zcg s j:=fun j=>by unfold zcg;rw[h3]
  have hlo:LO a k s1.lock:=by rw[h1];exact hl.lo
  have hlm:s1.limit=u.limit:=by rw[h2];exact hl.lm
  split
  ·refine { lo:=hlo,lm:=hlm,d0:=fun q=> ?_,m1:=fun q=> ?_,m2:=fun q=> ?_,st:=fun p1 p2 j hj _=> ?_,ld:=fun p1 p2 j hj=> ?_,sd:=fun p1 p2=> ?_,e2:=fun p1 p2=>⟨h6,h7⟩,e4:=fun p1 p2=> ?_,e5:=fun p1 p2=> ?_ }
   all_goals simp only[zI] at *
   ·omega
   ·omega
   ·omega
   ·show zcg s1 j=zK a (clS s1 j)/\(zcg s1 j).seq % 2=1;rw[hstr,hcl];exact hst j (by rw[<- h1];exact hj) zo
   ·show s1.shards.getD j zw=zaw a (clS s1 j);rw[hcl];exact h5 j hj
   ·omega
   ·omega
   ·omega
  ·refine { lo:=hlo,lm:=hlm,d0:=fun q=> ?_,m1:=fun q=> ?_,m2:=fun q=> ?_,st:=fun p1 p2 j hj _=> ?_,ld:=fun p1 p2 j hj=> ?_,sd:=fun p1 p2=> ?_,e2:=fun p1 p2=>⟨h6,h7⟩,e4:=fun p1 p2=> ?_,e5:=fun p1 p2=> ?_ }
   ·omega
   ·omega
   ·omega
   ·rw[hstr,hcl];exact hst j (by rw[<- h1];exact hj) zo
   ·rw[hcl];exact h5 j hj
   ·omega
   ·omega
   ·omega
 by_cases c0:zbO s s.at_=a.slots.length
 ·rw[zWz c0];exact main { s with dead:=a.dead.dead,at_:=s.at_+1 } rfl rfl rfl hp hld he2 hg.md
 ·rw[zWy c0];have hcl:zbO s s.at_<a.slots.length:=by omega
  have hk:s.at_.toNat<kOf u.slots s.lock.cells:=hka.2 zo;have hshl:s.shards.length=s.at_.toNat:=by omega
  have hldv:(zfK a (zbO s s.at_)).1=zaw a (zbO s s.at_):=by
   unfold zfK zaw;rw[zWz (by unfold zcr;rw[decide_eq_true_eq];omega)]
  have hce:zbO s s.at_=clS s s.at_.toNat:=rfl;refine main { s with shards:=s.shards++[(zfK a (zbO s s.at_)).1],at_:=s.at_+1 } rfl rfl rfl hp (fun j hj=> ?_) (fun x hx=> ?_) he3
  ·simp only[zWJ,zW6] at hj ⊢
   by_cases ej:j<s.shards.length
   ·rw[zWG,zXE ej, <- zWG];exact hld j ej
   ·have:j=s.at_.toNat:=by omega
    subst this;rw[zWG,zXz zo,hshl,zYj];simp only[zXT,zXl];rw[hldv,hce]
  ·rcases zW3.1 hx with hx|hx
   ·exact he2 x hx
   ·rw[zW7.1 hx,hldv];exact hg.me _ hcr.1 hcl
end Go.Proofs.YtjalkkalhdnplaaGreat
