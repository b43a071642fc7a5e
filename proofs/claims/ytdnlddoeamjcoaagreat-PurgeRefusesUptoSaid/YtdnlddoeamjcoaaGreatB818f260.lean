/-
  Rings of the reference.
-/
import Derived.Test.YtdnlddoeamjcoaaGreatB842129c
import Derived.Test.YtdnlddoeamjcoaaGreatB95e251b
import Derived.Test.YtdnlddoeamjcoaaGreatB970ba0c
set_option linter.unusedSimpArgs false
set_option linter.unusedVariables false
set_option maxHeartbeats 10000000
set_option maxRecDepth 100000
namespace Go.Proofs.YtdnlddoeamjcoaaGreat
open Go Go.Sim
def zjG(l:List zl):Int:=if zcp l≠0 then zcp l else if zea (l.map (·.id))=true then 10 else 0
def zcI(d:zbw):Int:=if d.cap<1\/24<d.cap then 1 else if d.cap<d.l.length then 2 else zjG d.l
def zgU(d:zbw):Int:=if zcI d≠0 then 0 else d.cap - d.l.length
def zjx(d:zbw)(l:List zl):zbw×Int:=
 if zcI d≠0 then (zaW,zcI d) else if zgU d<l.length then (zaW,3) else if zjG (d.l++l)≠0 then (zaW,zjG (d.l++l)) else (⟨d.cap,d.l++l⟩,0)
def zen(k ep:Int):List zl->List zl->List zl->List zl×List zl
 | [],rest,out=>(rest,out)
 | m::l,rest,out=>if (out.length:Int)<k/\¬m.epoch<ep then zen k ep l rest (out++[m]) else zen k ep l (rest++[m]) out
def zhJ(d:zbw)(k ep:Int):zbw×List zl×Int:=
 if zcI d≠0 then (zaW,[],zcI d) else if k<0\/ep<0\/65536<ep then (zaW,[],1) else (⟨d.cap,(zen k ep d.l [] []).1⟩,(zen k ep d.l [] []).2,0)
def zhS(d:zbw)(ep:Int):zbw×Int×Int:=
 if zcI d≠0 then (zaW,0,zcI d) else if ep<0\/65536<ep then (zaW,0,1) else (⟨d.cap,d.l.filter fun m=> !decide (m.epoch<ep)⟩,d.l.length - (d.l.filter fun m=> !decide (m.epoch<ep)).length,0)
def zfn(a:zy)(i:Int):Bool:=decide (0<=i/\i<a.slots.length)
def zho(a:zy)(i:Int):zu×Int:=if zfn a i=true then ((a.slots.getD i.toNat zf3).shard,0) else (zP,1)
def zeJ(a:zy)(i:Int):zbl×Int:=if zfn a i=true then (a.stripes.getD i.toNat zco,0) else (zco,1)
def ze2(a:zy)(i k:Int):Int:=if zfn a i=false\/zgY k=false then 1 else if (a.slots.getD i.toNat zf3).owner=k then 0 else 13
def stSlot(a:zy)(i k:Int)(s:zu):zy×Int:=
 if ze2 a i k≠0 then (zF,ze2 a i k) else if zaf s≠0 then (zF,zaf s) else if s.ready.cells.length≠(a.slots.getD i.toNat zf3).shard.ready.cells.length then (zF,1)
 else ({ a with slots:=a.slots.set i.toNat ⟨(a.slots.getD i.toNat zf3).owner,s⟩ },0)
def znL(s:zbl):Bool:=decide (zck s.seq/\zck s.epoch/\zck s.ready/\zck s.leased)
def stStripe(a:zy)(i k:Int)(s:zbl):zy×Int:=
 if ze2 a i k≠0 then (zF,ze2 a i k) else if znL s=false then (zF,1) else ({ a with stripes:=a.stripes.set i.toNat s },0)
def stDead(a:zy)(k:Int)(d:zbw):zy×Int:=
 if zgY k=false then (zF,1) else if a.dead.owner≠k then (zF,13) else if zcI d≠0 then (zF,zcI d) else if d.cap≠a.dead.dead.cap then (zF,1) else ({ a with dead:=⟨a.dead.owner,d⟩ },0)
def casDir(a:zy)(v:Int)(d:zaM):zy×Bool×Int:=
 if zbC d≠0 then (zF,false,zbC d) else if d.forward.length≠a.slots.length then (zF,false,1) else if a.dir.version≠v then (a,false,0) else ({ a with dir:=d },true,0)
def zgL(a:zy)(w:Int):Int×Int:=if w=1 then (a.epoch,0) else if w=2 then (a.clock,0) else if w=3 then (a.nextID,0) else (0,9)
def casWord(a:zy)(w old next:Int):zy×Bool×Int:=
 if w≠1/\w≠3 then (zF,false,9) else if w=1/\¬(0<=next/\next<=65536)\/w=3/\¬(1<=next/\next<=1073741824) then (zF,false,1)
 else if (zgL a w).1≠old then (a,false,0) else if w=1 then ({ a with epoch:=next },true,0) else ({ a with nextID:=next },true,0)
def ze3(a:zy)(by_:Int):zy×Int:=if ¬(0<=by_/\by_<=1099511627776) then (zF,1) else if 1073741824<a.clock+by_ then (zF,6) else ({ a with clock:=a.clock+by_ },0)
def zdI(a:zy)(s:ziP)(n:Int):ziP×Int:=
 if s.phase=0 then ({ s with epoch:=a.epoch,phase:=1 },0) else if s.phase=1 then ({ s with clock:=a.clock,stamp:=n,phase:=2 },0)
 else if s.phase=2 then (if a.epoch=s.epoch then ({ s with phase:=3 },0) else ({ s with epoch:=a.epoch,phase:=1 },0)) else if s.phase=3 then (zd3,7) else (zd3,1)
def zdW(cells:List Int)(lim:Int):Section×Int:=
 if (zhp cells).2≠0 then (zbu,(zhp cells).2) else if lim<1\/8<lim then (zbu,1) else ({ zbu with lock:=(zhp cells).1,limit:=lim },0)
def zah(s:Section)(ph:Int):Section:={ s with phase:=ph,at_:=0 }
def zd0(a:zy)(s:Section):Int:=(s.lock.cells.filter fun c=>decide (c<(a.slots.length:Int))).length
def zhC(a:zy)(s:Section)(k:Int):zy×Section×Int:=
 if (zbi a s.lock k).2.2=0/\(zbi a s.lock k).2.1.phase=3
 then ((zbi a s.lock k).1,if zd0 a s=0 then zah { s with lock:=(zbi a s.lock k).2.1 } 2 else zah { s with lock:=(zbi a s.lock k).2.1 } 1,0)
 else ((zbi a s.lock k).1,{ s with lock:=(zbi a s.lock k).2.1 },(zbi a s.lock k).2.2)
def zc1(s:Section)(i:Int):Int:=s.lock.cells.getD i.toNat 0
def zfT(a:zy)(s:Section)(k:Int):zy×Section×Int:=
 if s.at_.tmod 2=0 then (a,{ s with stripes:=s.stripes++[(zeJ a (zc1 s (s.at_.tdiv 2))).1],at_:=s.at_+1 },(zeJ a (zc1 s (s.at_.tdiv 2))).2)
 else if (zhO (s.stripes.getD (s.at_.tdiv 2).toNat zco)).2≠0 then (a,s,(zhO (s.stripes.getD (s.at_.tdiv 2).toNat zco)).2)
 else
  let x:=(zhO (s.stripes.getD (s.at_.tdiv 2).toNat zco)).1
  let r:=stStripe a (zc1 s (s.at_.tdiv 2)) k x
  let s1:Section:={ s with stripes:=s.stripes.take (s.at_.tdiv 2).toNat++[x],at_:=s.at_+1 }
  (r.1,if r.2=0/\s1.at_=2 * zd0 r.1 s1 then zah s1 2 else s1,r.2)
def zfS(a:zy)(s:Section):zy×Section×Int:=
 let c:=zc1 s s.at_
 let s1:Section:=if c=a.slots.length then { s with dead:=a.dead.dead,at_:=s.at_+1 } else { s with shards:=s.shards++[(zho a c).1],at_:=s.at_+1 }
 (a,if s1.at_=s.lock.cells.length then zah s1 3 else s1,if c=a.slots.length then 0 else (zho a c).2)
def ziG(a:zy)(s:Section)(n:Int):zy×Section×Int:=
 (a,if (zdI a s.snap n).2=0/\(zdI a s.snap n).1.phase=3 then zah { s with snap:=(zdI a s.snap n).1 } 4 else { s with snap:=(zdI a s.snap n).1 },(zdI a s.snap n).2)
def zdd(s:Section):Section×Int:=if (zcv s.lock).2≠0 then (s,(zcv s.lock).2) else (zah { s with lock:=(zcv s.lock).1 } 8,0)
def zcM(a:zy)(s:Section):zy×Section×Int:=if 0<s.stripes.length then (a,zah s 7,0) else (a,(zdd s).1,(zdd s).2)
def zfV(a:zy)(s:Section)(k:Int):zy×Section×Int:=
 let o:=s.out.order.getD s.at_.toNat 0
 let c:=zc1 s o
 let r:=if c=a.slots.length then stDead a k s.out.dead else stSlot a c k (s.out.shards.getD o.toNat zP)
 if r.2≠0 then (r.1,s,r.2)
 else if s.at_+1<s.out.order.length then (r.1,{ s with at_:=s.at_+1,carry:=s.out.carry },0)
 else if 0<s.out.edits.length then (r.1,zah { s with at_:=s.at_+1,carry:=[] } 6,0)
 else zcM r.1 { s with at_:=s.at_+1,carry:=[] }
def zfR(a:zy)(s:Section):zy×Section×Int:=
 if s.at_=0 then (a,{ s with dir:=a.dir,at_:=1 },0)
 else
  let d:=zg4 s.dir (s.out.edits.getD 0 zt7)
  if d.2≠0 then (a,s,d.2)
  else
   let r:=casDir a s.dir.version d.1
   if r.2.2≠0 then (a,s,r.2.2) else if r.2.1=false then (r.1,{ s with at_:=0 },0) else zcM r.1 { s with dir:=d.1 }
def zjH(s:Section)(k:Int):Bool:=s.out.order.any fun o=>decide (o=k)
def zfW(a:zy)(s:Section)(k:Int):zy×Section×Int:=
 let now:=if zjH s s.at_=true then s.out.shards.getD s.at_.toNat zP else s.shards.getD s.at_.toNat zP
 let x:=zi4 (s.stripes.getD s.at_.toNat zco) now s.snap.epoch s.limit
 if x.2≠0 then (a,s,x.2)
 else
  let r:=stStripe a (zc1 s s.at_) k x.1
  if r.2≠0 then (r.1,s,r.2)
  else if s.at_+1=s.stripes.length then (r.1,(zdd { s with at_:=s.at_+1 }).1,(zdd { s with at_:=s.at_+1 }).2) else (r.1,{ s with at_:=s.at_+1 },0)
def zhB(a:zy)(s:Section)(k:Int):zy×Section×Int:=
 if (zbi a s.lock k).2.2=0/\(zbi a s.lock k).2.1.phase=5 then ((zbi a s.lock k).1,zah { s with lock:=(zbi a s.lock k).2.1 } 9,0)
 else ((zbi a s.lock k).1,{ s with lock:=(zbi a s.lock k).2.1 },(zbi a s.lock k).2.2)
def zfU(a:zy)(s:Section)(k n:Int):zy×Section×Int:=
 if s.phase=0 then zhC a s k else if s.phase=1 then zfT a s k else if s.phase=2 then zfS a s else if s.phase=3 then ziG a s n else if s.phase=5 then zfV a s k
 else if s.phase=6 then zfR a s else if s.phase=7 then zfW a s k else if s.phase=8 then zhB a s k else (a,s,7)
def zcX(a:zy)(s:Section)(k n:Int):zy×Section×Int:=if (zfU a s k n).2.2≠0 then (zF,zbu,(zfU a s k n).2.2) else zfU a s k n
def zaa(s:Section):zcz:=⟨s.shards,s.dead,[],[],[]⟩
def zk2(n:Int)(l:List Int):Bool:=decide ((∀o∈l,0<=o/\o<n)/\l.Nodup)
def zfd(s:Section)(o:zcz):Section×Int:=
 if s.phase≠4 then (zbu,7) else if o.shards.length≠s.shards.length\/1<o.edits.length then (zbu,1) else if zk2 s.lock.cells.length o.order=false then (zbu,1)
 else if 0<o.order.length then (zah { s with out:=o } 5,0) else if 0<o.edits.length then (zah { s with out:=o } 6,0)
 else ((zcM zF { s with out:=o }).2.1,(zcM zF { s with out:=o }).2.2)
def inI(n lo hi:Int):Bool:=decide (lo<=n/\n<=hi)
def zg0(r:Int):ze9×Int:=if r<0\/65536<=r then (zdc,1) else (⟨r,0⟩,0)
def zf2(w:ze9)(lo hi:Int):ze9×Int:=if lo<0\/w.next<lo\/hi<w.next\/65536<=hi\/w.covered<0\/65536<=w.covered then (zdc,1) else (⟨(hi+1).tmod 65536,w.covered+hi - w.next+1⟩,0)
def zg1(w:ze9):Bool:=decide (65536<=w.covered)
def zaK(i:Invocation)(s:Setup):Int:=
 if i.kind=1 then (if i.bodies.length=0\/6<i.bodies.length then 2 else if (i.bodies.any fun b=>decide (16<b.length))=true then 2 else 0)
 else if i.kind=2\/i.kind=8 then (if inI i.home 0 (s.slots - 1)=false\/inI i.max 1 6=false\/i.kind=2/\inI i.visibility 0 1000=false then 1 else 0)
 else if 3<=i.kind/\i.kind<=5 then (if i.tokens.length=0\/6<i.tokens.length then 2 else if i.kind=5/\inI i.visibility 0 1000=false then 1 else 0)
 else if 9<=i.kind/\i.kind<=11 then (if inI i.from_ 0 (s.slots - 1)=false\/inI i.to 0 (s.slots - 1)=false\/i.from_=i.to then 1 else 0)
 else if i.kind=12\/i.kind=14 then (if inI i.from_ 0 (s.slots - 1)=false then 1 else 0)
 else if i.kind=13 then (if i.from_<0\/s.slots<i.from_ then 1 else 0)
 else if i.kind=6\/i.kind=7 then 0 else 9
def zdw(i:Invocation):Int:=if i.kind=1 then i.bodies.length else if 3<=i.kind/\i.kind<=5 then i.tokens.length else 1
def zJ(s:Setup):Bool:=inI s.slots 1 6&&(inI s.live 1 s.slots&&(inI s.capacity 1 12&&(inI s.dead 1 24&&(inI s.limit 1 8&&(inI s.clock 0 1073741824&&(inI s.nextID 1 1073741824&&inI s.epoch 0 65536))))))
def ze1(number:Int)(i:Invocation)(s:Setup)(n:Int):zq×Int:=
 if number<1\/200<number\/n<0 then (zD,1) else if zJ s=false then (zD,1) else if zaK i s≠0 then (zD,zaK i s) else ({ zD with number:=number,inv:=i,setup:=s,invoked:=n },0)
def za4(t:zq)(r:Result)(n:Int):zq:=
 { zD with number:=t.number,inv:=t.inv,setup:=t.setup,invoked:=t.invoked,entry:=t.entry+1,done:=if t.entry+1=zdw t.inv then true else t.done,ended:=if t.entry+1=zdw t.inv then n else t.ended,results:=t.results++[r] }
def z8(t:zq)(lo hi:Int):Int:=if t.done=true then 7 else if t.inv.kind<lo\/hi<t.inv.kind then 9 else 0
def zaO(t:zq)(cells:List Int)(pc:Int):zq:={ t with sec:=(zdW cells t.setup.limit).1,pc:=pc }
def zaN(a b:Int):List Int:=if a<b then [a,b] else [b,a]
def goT(a:zy)(t:zq)(n:Int):zy×zq×Bool×Bool×Int:=
 if (zcX a t.sec t.number n).2.2≠0 then (zF,zD,false,false,(zcX a t.sec t.number n).2.2)
 else ((zcX a t.sec t.number n).1,{ t with sec:=(zcX a t.sec t.number n).2.1 },decide ((zcX a t.sec t.number n).2.1.phase=4),decide ((zcX a t.sec t.number n).2.1.phase=9),0)
def zaU(t:zq)(o:zcz):zq:={ t with sec:=(zfd t.sec o).1 }
def evT(t:zq)(kind n:Int):Event:={ zbt with stamp:=n,task:=t.number,entry:=t.entry,kind:=kind }
def zb0(t:zq)(kind:Int):Event:={ zbt with stamp:=t.sec.snap.stamp,task:=t.number,entry:=t.entry,kind:=kind,now:=t.sec.snap.clock,epoch:=t.sec.snap.epoch }
def zhq(a:zy)(t:zq)(route pc:Int):zq:=zaO { t with dir:=a.dir,slot:=zeR a.dir route } [zeR a.dir route] pc
def za8(e:Int):Result:={ zam with err:=e }
def zb9(a:zy)(t:zq)(n:Int):zy×zq×List Event×Int:=
 if z8 t 6 6≠0 then (zF,zD,[],z8 t 6 6)
 else if t.pc=0 then (if a.epoch=65536 then (a,za4 { t with loaded:=a.epoch } (za8 6) n,[{ evT t 7 n with err:=6 }],0) else (a,{ t with loaded:=a.epoch,pc:=1 },[],0))
 else
  let c:=casWord a 1 t.loaded (t.loaded+1)
  if c.2.2≠0 then (zF,zD,[],c.2.2) else if c.2.1=false then (c.1,{ t with pc:=0 },[],0) else (c.1,za4 t zam n,[{ evT t 7 n with epoch:=t.loaded+1 }],0)
def ztc(l:List zbl):Bool:=l.all fun s=> !zis s
def zcS(a:zy)(t:zq)(n:Int):zy×zq×List Event×Int:=
 if z8 t 7 7≠0 then (zF,zD,[],z8 t 7 7)
 else if t.pc=0 then (a,{ t with loaded:=a.epoch,first:=[],second:=[],pc:=1 },[],0)
 else if t.pc=1 then
  (let s:=zeJ a t.first.length
   if s.2≠0 then (zF,zD,[],s.2)
   else
    let l:=t.first++[s.1]
    (a,{ t with first:=l,pc:=if (l.length:Int)=t.setup.slots then (if ztc l=true then 2 else 0) else t.pc },[],0))
 else if t.pc=2 then
  (let s:=zeJ a t.second.length
   if s.2≠0 then (zF,zD,[],s.2)
   else
    let l:=t.second++[s.1]
    (a,{ t with id:=if t.second.length=0 then n else t.id,second:=l,pc:=if (l.length:Int)=t.setup.slots then (if t.first=l then 3 else 0) else t.pc },[],0))
 else if a.epoch≠t.loaded then (a,{ t with pc:=0 },[],0)
 else
  let p:=zeo t.first a.epoch t.first.length
  (a,za4 t { zam with ready:=p.1,leased:=p.2 } n,[{ evT t 8 t.id with epoch:=a.epoch,ready:=p.1,leased:=p.2 }],0)
theorem zDN(a:Int)(m:Int)(h0:0<=m)(h1:m<=4294967295):0<=zjZ .i64 a m/\zjZ .i64 a m<=m:=by
 unfold zjZ;have e:(BitVec.ofInt IntKind.i64.bits m).toNat=m.toNat:=by
  show (BitVec.ofInt 64 m).toNat=m.toNat;rw[BitVec.toNat_ofInt];omega
 have h2:(BitVec.ofInt IntKind.i64.bits a &&& BitVec.ofInt IntKind.i64.bits m).toNat<=m.toNat:=by
  rw[BitVec.toNat_and,e];exact Nat.and_le_right
 rw[wr zo];omega
theorem zacM(a b:Int)(ha:0<=a/\a<65536)(hb:0<=b/\b<65536):0<=zjL .i64 a b/\zjL .i64 a b<65536:=by
 unfold zjL;have e:∀m:Int,0<=m->m<65536->(BitVec.ofInt IntKind.i64.bits m).toNat=m.toNat:=fun m h0 h1=>by
  show (BitVec.ofInt 64 m).toNat=m.toNat;rw[BitVec.toNat_ofInt];omega
 have h2:(BitVec.ofInt IntKind.i64.bits a ^^^ BitVec.ofInt IntKind.i64.bits b).toNat<65536:=by
  rw[BitVec.toNat_xor,e a ha.1 ha.2,e b hb.1 hb.2];exact Nat.xor_lt_two_pow (n:=16) zo zo
 rw[wr zo];omega
def ztT(b:List UInt8)(p:Nat×Int):St:=⟨[(0,.d (.sl (byD b))),(3,.d (.int .i64 p.2)),(4,.d (.int .i64 p.1))],[]⟩
def zQZ(r:Option (zac×St)):Prop:=∃h:Int,0<=h/\h<=4294967295/\r=some (.exit 0,⟨[(3,.d (.int .i64 h))],[]⟩)
theorem zaby(b:List UInt8)(hL:b.length<=1000):∀p:Nat×Int,p.1<=b.length/\0<=p.2/\p.2<=4294967295->zQZ (zai G [] zAL (ztT b p)):=by
 refine zsV (fun p:Nat×Int=>b.length - p.1) _ (ztT b) (fun _=>zf6 zQZ) fun⟨i,h⟩ ⟨h1,h2,h3⟩ L ih=> ?_;simp only at h1 h2 h3;simp only[ztT,zAL] at ih ⊢
 by_cases h0:i<b.length
 ·have hlt:=b[i].toNat_lt;have hg:(byD b)[i]? = some (.int .u8 b[i].toNat):=by unfold byD;simp [zada h0]
  have hlen:(byD b).length=b.length:=by unfold byD;simp
  have ha:=fun a=>zDN a 4294967295 zo zo;simp -implicitDefEqProofs (maxSteps:=4000000) (disch:=omega) only[zj,go_sem, *];exact ih (i+1,_) ⟨by simp only;omega,(ha _).1,(ha _).2⟩ (by simp only;omega)
 ·have hlen:(byD b).length=b.length:=by unfold byD;simp
  clear ih;simp -implicitDefEqProofs (maxSteps:=4000000) (disch:=omega) only[zj,go_sem, *];exact⟨h,h2,h3,rfl⟩
theorem zQ0(b:List UInt8)(hL:b.length<=1000):∃h:Int,0<=h/\h<=4294967295/\zg G zoe [.d (.sl (byD b))] []=some (.d (.int .i64 h),[]):=by
 obtain⟨h,h1,h2,hl⟩:=zaby b hL (0,2166136261) ⟨by simp,by simp,by simp⟩;simp only[ztT] at hl;simp only[zNr,zE] at hl;refine⟨h,h1,h2,?_⟩;exact zW zXq
theorem zgZ(x:Int):∃c:UInt8,IntKind.u8.wrap x=c.toNat:=by
 have h:=zfB .u8 x;simp only[IntKind.has,IntKind.min,IntKind.max,IntKind.bits,IntKind.signed] at h;simp at h;exact⟨UInt8.ofNat (IntKind.u8.wrap x).toNat,by rw[UInt8.toNat_ofNat'];omega⟩
theorem byS(b:List UInt8):zaI 1 (byD b)=true:=by
 unfold byD
 induction b with
 | nil=>rfl
 | cons a l ih=>simp only[zac1,zaI,zad0];exact Bool.and_eq_true_iff.2 ⟨rfl,ih⟩
theorem zBV(b:List UInt8)(hb:b.length<=100)(n:Int)(h0:0<=n)(h1:n<=4294967295):∃c:List UInt8,c.length=4/\zg G zjO [.d (.sl (byD b)),.d (.int .i64 n),.d (.int .i64 4)] []=some (.tup [.acc 0 (byD b++byD c),.d (.int .i64 0)],[(0,.acc (b.length+4))]):=by
 have hlen:(byD b).length=b.length:=by unfold byD;simp
 have hS:=byS b;obtain⟨c1,e1⟩:=zgZ (n.fdiv (2 ^ (min 24 64:Nat)));obtain⟨c2,e2⟩:=zgZ (n.fdiv (2 ^ (min 16 64:Nat)));obtain⟨c3,e3⟩:=zgZ (n.fdiv (2 ^ (min 8 64:Nat)));obtain⟨c4,e4⟩:=zgZ (n.fdiv (2 ^ (min 0 64:Nat)));have hw:¬IntKind.i64.wrap (1 * 2 ^ (min 32 64:Nat))<=n:=by
  have:IntKind.i64.wrap (1 * 2 ^ (min 32 64:Nat))=4294967296:=by decide
  omega
 refine⟨[c1,c2,c3,c4],rfl,?_⟩;have hc:byD [c1,c2,c3,c4]=[.int .u8 c1.toNat,.int .u8 c2.toNat,.int .u8 c3.toNat,.int .u8 c4.toNat]:=rfl;rw[hc];generalize byD b=bb at *;rw[zO zzm (by simp)];simp -implicitDefEqProofs (maxSteps:=4000000) (disch:=omega) only[zmc,znl,za2,zmO,zj,go_sem, *];(try simp only[zPr]);repeat' (first|done|rfl|((first|refine zay (fun hq=> ?_) (fun hq=> ?_)|refine zaD (fun hq=> ?_) (fun hq=> ?_))<;>(try (first|(exfalso;omega)|contradiction))<;>(try simp -implicitDefEqProofs (maxSteps:=4000000) (disch:=omega) only[za2,zmO,zj,go_sem, *])<;>(try simp only[zPr])));(all_goals try rfl);(all_goals try (repeat' (first|done|rfl|(exfalso;omega)|contradiction|(refine zaz (fun hq=> ?_) (fun hq=> ?_)))))
 simp only[zadK,zadl,zadi]
theorem z63(b:List UInt8)(hb:b.length<=100)(n:Int)(h0:0<=n)(h1:n<=16777215):∃c:List UInt8,c.length=3/\zg G zjO [.d (.sl (byD b)),.d (.int .i64 n),.d (.int .i64 3)] []=some (.tup [.acc 0 (byD b++byD c),.d (.int .i64 0)],[(0,.acc (b.length+3))]):=by
 have hlen:(byD b).length=b.length:=by unfold byD;simp
 have hS:=byS b;obtain⟨c1,e1⟩:=zgZ (n.fdiv (2 ^ (min 16 64:Nat)));obtain⟨c2,e2⟩:=zgZ (n.fdiv (2 ^ (min 8 64:Nat)));obtain⟨c3,e3⟩:=zgZ (n.fdiv (2 ^ (min 0 64:Nat)));have hw:¬IntKind.i64.wrap (1 * 2 ^ (min 24 64:Nat))<=n:=by
  have:IntKind.i64.wrap (1 * 2 ^ (min 24 64:Nat))=16777216:=by decide
  omega
 refine⟨[c1,c2,c3],rfl,?_⟩;have hc:byD [c1,c2,c3]=[.int .u8 c1.toNat,.int .u8 c2.toNat,.int .u8 c3.toNat]:=rfl;rw[hc];generalize byD b=bb at *;rw[zO zzm (by simp)];simp -implicitDefEqProofs (maxSteps:=4000000) (disch:=omega) only[zmc,znl,za2,zmO,zj,go_sem, *];simp only[zadK,zadl,zadi]
theorem z62(b:List UInt8)(hb:b.length<=100)(n:Int)(h0:0<=n)(h1:n<=65535):∃c:List UInt8,c.length=2/\zg G zjO [.d (.sl (byD b)),.d (.int .i64 n),.d (.int .i64 2)] []=some (.tup [.acc 0 (byD b++byD c),.d (.int .i64 0)],[(0,.acc (b.length+2))]):=by
 have hlen:(byD b).length=b.length:=by unfold byD;simp
 have hS:=byS b;obtain⟨c1,e1⟩:=zgZ (n.fdiv (2 ^ (min 8 64:Nat)));obtain⟨c2,e2⟩:=zgZ (n.fdiv (2 ^ (min 0 64:Nat)));have hw:¬IntKind.i64.wrap (1 * 2 ^ (min 16 64:Nat))<=n:=by
  have:IntKind.i64.wrap (1 * 2 ^ (min 16 64:Nat))=65536:=by decide
  omega
 refine⟨[c1,c2],rfl,?_⟩;have hc:byD [c1,c2]=[.int .u8 c1.toNat,.int .u8 c2.toNat]:=rfl;rw[hc];generalize byD b=bb at *;rw[zO zzm (by simp)];simp -implicitDefEqProofs (maxSteps:=4000000) (disch:=omega) only[zmc,znl,za2,zmO,zj,go_sem, *];simp only[zadK,zadl,zadi]
theorem ztJ(id:Int):∃r:Int,0<=r/\r<65536/\zg G zlE [.d (.int .i64 id)] []=some (.d (.int .i64 r),[]):=by
 by_cases h0:id<0
 ·refine⟨0,by omega,by omega,?_⟩;exact zW zzn
 ·by_cases h1:1073741824<id
  ·refine⟨0,by omega,by omega,?_⟩;exact zW zzn
  ·obtain⟨b,hb,hp⟩:=zBV [] (by simp) id zo zo;have hn:byD []=[]:=rfl;rw[hn] at hp;simp only[zadi,zac5,zadv] at hp;obtain⟨h,g0,g1,hs⟩:=zQ0 b zo;have hf:Int.fdiv h (2 ^ (min 16 64:Nat))=h / 65536:=by
    show Int.fdiv h 65536=h / 65536;rw[zagc _ zo]
   have hx:=zacM (h / 65536) (zjZ .i64 h 65535) zo (by have:=zDN h 65535 zo zo;omega);refine⟨zjL .i64 (h / 65536) (zjZ .i64 h 65535),hx.1,hx.2,?_⟩;exact zW zzn
def zAE(r lo hi:Int):Int:=if lo<=r/\r<=hi then r else lo+r.tmod (hi - lo+1)
theorem zYN(r lo hi:Int)(h0:0<=r)(h1:r<65536)(h2:0<=lo)(h3:lo<=hi)(h4:hi<65536):zg G zlD [.d (.int .i64 r),.d (.int .i64 lo),.d (.int .i64 hi)] []=some (.d (.int .i64 (zAE r lo hi)),[]):=by
 unfold zAE;have hm:=zafv r (show 0<hi - lo+1 by omega);have hm2:=zafu (hi - lo+1) h0;have hne:¬hi - lo+1=0:=by omega
 by_cases c:lo<=r/\r<=hi
 ·rw[zacY c];obtain⟨c1,c2⟩:=c;exact zW zrK
 ·rw[zacX c]
  by_cases c1:lo<=r
  ·have c2:¬r<=hi:=fun h=>c ⟨c1,h⟩;clear c;exact zW zrK
  ·clear c;exact zW zrK
def zbB(l:List zN)(id:Int):Nat:=(l.filter fun x=>decide (x.msg.id<id)).length
theorem zM8(l:List zN)(id:Int):zbB l id<=l.length:=zaeh _ _
theorem zgQ{l:List zN}(h:l.Pairwise fun x y=>x.msg.id<y.msg.id){id:Int}:∀ {k:Nat} (hk:k<l.length),k<zbB l id↔l[k].msg.id<id:=by
 induction l with
 | nil=>intro k hk;exact absurd hk (by simp)
 | cons x l ih=>
  intro k hk;obtain⟨h1,h2⟩:=zaeO.1 h
  by_cases hx:x.msg.id<id
  ·have e:zbB (x::l) id=zbB l id+1:=by simp [zbB,hx]
   rw[e]
   cases k with
   | zero=>simp [hx]
   | succ k=>have:=ih h2 (k:=k) (by simpa using hk);simp only[zafB];rw[<- this];omega
  ·have e:zbB (x::l) id=0:=by
      unfold zbB;rw[zadN,zaf2];intro y hy;simp only[decide_eq_true_eq]
      rcases zadB.1 hy with rfl|hy
      ·exact hx
      ·have:=h1 y hy;omega
   rw[e];have hle:id<=((x::l)[k]).msg.id:=by
    cases k with
    | zero=>simp only[List.getElem_cons_zero];omega
    | succ k=>simp only[zafB];have:=h1 _ (zadf (l:=l) (n:=k) (by simpa using hk));omega
   omega
theorem zHQ{l:List zN}(h:l.Pairwise fun x y=>x.msg.id<y.msg.id)(id:Int):(0<=zar l id)↔∃hp:zbB l id<l.length,l[zbB l id].msg.id=id:=by
 constructor
 ·intro h0;obtain⟨k,hk,e1,e2⟩:=zmm h0;have a1:=zgQ h (id:=id) hk;have hle:zbB l id<=k:=by omega
  have hpl:zbB l id<l.length:=by omega
  have a2:=zgQ h (id:=id) hpl;refine⟨hpl,?_⟩;have:¬zbB l id<k:=fun hlt=>by
   have:=zad7.1 h (zbB l id) k hpl hk hlt;omega
  have:zbB l id=k:=by omega
  simp only[this,e2]
 ·rintro⟨hp,e⟩;have:=zvB h hp;rw[e] at this;omega
theorem zWF{l:List zN}(h:l.Pairwise fun x y=>x.msg.id<y.msg.id){id:Int}(h0:0<=zar l id):zar l id=zbB l id:=by
 obtain⟨hp,e⟩:=(zHQ h id).1 h0;have:=zvB h hp
 rwa [e] at this
theorem zhI{t:zT}(h:zaA t=0):t.l.length<=12/\zeK t.l=0/\zcy t.heap=0/\zkQ t=true:=by
 unfold zaA at h
 split at h
 ·cases h
 split at h
 ·omega
 split at h
 ·omega
 split at h
 ·rename_i h1 h2 h3 h4;exact⟨by omega,by simpa using h2,by simpa using h3,h4⟩
 ·cases h
theorem z81(h:List Due)(id:Int)(hL:h.length<=4294967296):(zcs h id).1.length<=4294967296:=by
 unfold zcs
 split
 ·simp
 ·rename_i h0;have o:=(zf0 h).1 (by simpa using h0)
  split
  ·simp
  ·rename_i h1;have hlt:=zHO h id;have:=(zmj o (zby h id).toNat zo).2.length_eq;simp only[zac4] at this;have hh:=o.len;show (zd9 h (zby h id).toNat).length<=_;omega
def zeh(l:List zN)(m:zl)(d:Int):List zN:=l.take (zbB l m.id)++[⟨m,d⟩]++l.drop (zbB l m.id)
def zeF(t:zT)(m:zl)(d:Int):Int:=
 if zaA t≠0 then zaA t else if zaC m≠0 then zaC m else if m.gen=0 then 7 else if ¬(0<=d/\d<=1073741824) then 1 else if t.l.length=12 then 3 else if 0<=zar t.l m.id then 10 else (zfJ t.heap (d,m.id)).2
def zaY(t:zT)(m:zl)(d:Int):zT×Int:=if zeF t m d=0 then (⟨zeh t.l m d,(zfJ t.heap (d,m.id)).1⟩,0) else (zax,zeF t m d)
def zee(t:zT)(id:Int):zN×Bool:=if zaA t=0/\0<=zar t.l id then (t.l.getD (zar t.l id).toNat zb3,true) else (zb3,false)
def zgi(l:List zN)(i:Nat):List zN:=l.take i++l.drop (i+1)
def zfm(t:zT)(id:Int):Int:=if zaA t≠0 then zaA t else if ¬0<=zar t.l id then 4 else (zcs t.heap id).2
def zap(t:zT)(id:Int):zT×zl×Int:=if zfm t id=0 then (⟨zgi t.l (zar t.l id).toNat,(zcs t.heap id).1⟩,(t.l.getD (zar t.l id).toNat zb3).msg,0) else (zax,zak,zfm t id)
def zed(t:zT)(id d:Int):Int:=if zaA t≠0 then zaA t else if ¬0<=zar t.l id then 4 else if ¬(0<=d/\d<=1073741824) then 1 else if (zcs t.heap id).2≠0 then (zcs t.heap id).2 else (zfJ (zcs t.heap id).1 (d,id)).2
def znB(l:List zN)(i:Nat)(d:Int):List zN:=l.set i { l.getD i zb3 with deadline:=d }
def zbr(t:zT)(id d:Int):zT×Int:=if zed t id d=0 then (⟨znB t.l (zar t.l id).toNat d,(zfJ (zcs t.heap id).1 (d,id)).1⟩,0) else (zax,zed t id d)
theorem zfF(l:List zN):zeK l=0↔(l.Pairwise fun x y=>x.msg.id<y.msg.id)/\∀x∈l,zaC x.msg=0/\x.msg.gen≠0/\0<=x.deadline/\x.deadline<=1073741824:=by
 have h0:zeK l=0↔∀i,i<l.length->zfE l i=0:=by
  rcases zBg l with ⟨k,h1,h2,h3⟩|⟨h1,h2⟩
  ·constructor
   ·intro h;omega
   ·intro h;have:=List.mem_of_find?_eq_some h1;exact absurd (h k (zadU.1 this)) h2
  ·refine⟨fun _ i hi=> ?_,fun _=>h2⟩;have:=List.find?_eq_none.1 h1 i (zadU.2 hi);unfold zgM at this;simpa using this
 constructor
 ·intro h;refine⟨zik h,fun x hx=> ?_⟩;obtain⟨i,hi,rfl⟩:=zaeN hx;have:=h0.1 h i hi;unfold zfE at this;rw[zj hi] at this
  split at this
  ·omega
  split at this
  ·omega
  split at this
  ·omega
  rename_i q1 q2 q3;exact⟨by simpa using q1,q2,by omega,by omega⟩
 ·rintro⟨ha,hx⟩;refine h0.2 fun i hi=> ?_;obtain⟨p1,p2,p3,p4⟩:=hx _ (zadf hi);unfold zfE;rw[zj hi,zacX (by simpa using p1),zacX p2,zacX zo,zacX];rintro⟨q1,q2⟩;rw[zj (show i - 1<l.length by omega)] at q2;have:=zad7.1 ha (i - 1) i zo hi zo;omega
theorem zd2(t:zT):zaA t=0↔t.l.length<=12/\zeK t.l=0/\Ok t.heap/\t.heap.Perm (t.l.map zbO):=by
 constructor
 ·intro h;obtain⟨h1,h2,h3,h4⟩:=zhI h;have o:=(zf0 _).1 h3;have ha:=zik h2;have hR:zkR t=true:=by rw[<- zMy h2 h3];exact h4
  obtain⟨e,q⟩:=(zMx ha).1 hR;obtain⟨_,q2⟩:=zBt.1 h4;refine⟨h1,h2,o,(List.perm_ext_iff_of_nodup ?_ (zDS ha)).2 fun d=>⟨q d,q2 d⟩⟩;exact List.Pairwise.of_map (fun d:Due=>d.2) (fun a b hab e=>hab (by rw[e])) o.ids
 ·rintro⟨h1,h2,o,hp⟩;have h3:=(zf0 _).2 o;have h4:zkQ t=true:=zBt.2 ⟨by rw[hp.length_eq];simp,fun d hd=>hp.mem_iff.2 hd⟩;unfold zaA;rw[zacX zo,zacX (by simpa using h2),zacX (by simpa using h3),zacY h4]
theorem zLU{t:zT}(h:t.heap.Perm (t.l.map zbO))(id:Int):id∈t.heap.map (·.2)↔∃x∈t.l,x.msg.id=id:=by
 constructor
 ·intro hm;obtain⟨d,hd,e⟩:=zadc.1 hm;obtain⟨x,hx,e2⟩:=zadc.1 (h.mem_iff.1 hd);exact⟨x,hx,by rw[<- e, <- e2];rfl⟩
 ·rintro⟨x,hx,e⟩;exact zadc.2 ⟨zbO x,h.mem_iff.2 (zadc.2 ⟨x,hx,rfl⟩),e⟩
theorem zh3{l:List zN}(id:Int):0<=zar l id↔∃x∈l,x.msg.id=id:=by
 constructor
 ·intro h;obtain⟨k,hk,_,e⟩:=zmm h;exact⟨l[k],zadf hk,e⟩
 ·rintro⟨x,hx,e⟩
  by_cases h:0<=zar l id
  ·exact h
  ·exact absurd e (zvC zo x hx)
theorem zDs{m:zl}{d:Int}(hm:zaC m=0)(h0:0<=d)(h1:d<=1073741824):zer (d,m.id)=true:=by
 unfold zaC at hm
 split at hm
 ·rename_i h;unfold zer;simp;omega
 ·cases hm
theorem zBU{t:zT}{m:zl}{d:Int}(h:zaA t=0)(hm:zaC m=0)(h0:0<=d)(h1:d<=1073741824)(hl:t.l.length≠12)(hf:zar t.l m.id<0):
    zfJ t.heap (d,m.id)=(zfK t.heap (d,m.id),0)/\Ok (zfK t.heap (d,m.id))/\(zfK t.heap (d,m.id)).Perm ((d,m.id)::t.heap):=by
 obtain⟨q1,q2,q3,q4⟩:=(zd2 t).1 h;refine zBT q3 (zDs hm h0 h1) (by have:=q4.length_eq;simp at this;omega) fun hc=> ?_;have:=(zh3 m.id).2 ((zLU q4 m.id).1 hc);omega
theorem zig(l:List zN)(m:zl)(d:Int):(zeh l m d).Perm (⟨m,d⟩::l):=by
 unfold zeh;have:=zaeP (a:=(⟨m,d⟩:zN)) (l₁:=l.take (zbB l m.id)) (l₂:=l.drop (zbB l m.id));rw[zaf5] at this;rw[zadK];exact this
theorem zYK{l:List zN}(h:l.Pairwise fun x y=>x.msg.id<y.msg.id){m:zl}{d:Int}(hn:∀x∈l,x.msg.id≠m.id):(zeh l m d).Pairwise fun x y=>x.msg.id<y.msg.id:=by
 unfold zeh;have hlt:∀x∈l.take (zbB l m.id),x.msg.id<m.id:=fun x hx=>by
  obtain⟨k,hk,rfl⟩:=zaeN hx;simp only[zaeJ] at hk;rw[List.getElem_take];exact (zgQ h zo).1 zo
 have hgt:∀x∈l.drop (zbB l m.id),m.id<x.msg.id:=fun x hx=>by
  obtain⟨k,hk,rfl⟩:=zaeN hx;simp only[zafc] at hk;rw[List.getElem_drop];have h1:=zgQ h (id:=m.id) (k:=zbB l m.id+k) zo;have h2:=hn _ (zadf (l:=l) (n:=zbB l m.id+k) zo);omega
 rw[zadK,List.pairwise_append];refine⟨h.sublist (List.take_sublist ..),?_,fun a ha b hb=> ?_⟩
 ·rw[zaeM,zaeO];exact⟨fun x hx=>hgt x hx,h.sublist (List.drop_sublist ..)⟩
 ·rw[zaeM,zadB] at hb;have h1:=hlt a ha
  rcases hb with rfl|hb
  ·exact h1
  ·have:=hgt b hb;omega
theorem zI5{t:zT}{m:zl}{d:Int}(h:(zaY t m d).2=0):zaA (zaY t m d).1=0/\zaA t=0/\(zaY t m d).1.l=zeh t.l m d/\zar t.l m.id<0:=by
 have hE:zeF t m d=0:=by
  unfold zaY at h
  split at h
  ·assumption
  ·rename_i hc;exact absurd h hc
 unfold zaY;rw[zacY hE];unfold zeF at hE
 split at hE
 ·omega
 split at hE
 ·omega
 split at hE
 ·cases hE
 split at hE
 ·cases hE
 split at hE
 ·cases hE
 split at hE
 ·cases hE
 rename_i h1 h2 h3 h4 h5 h6;have h1:zaA t=0:=by simpa using h1
 have h2:zaC m=0:=by simpa using h2
 obtain⟨p1,p2,p3⟩:=zBU h1 h2 zo (by omega:d<=1073741824) h5 zo;obtain⟨q1,q2,q3,q4⟩:=(zd2 t).1 h1;obtain⟨r1,r2⟩:=(zfF _).1 q2;have hn:∀x∈t.l,x.msg.id≠m.id:=zvC zo;refine⟨(zd2 _).2 ⟨?_,(zfF _).2 ⟨zYK r1 hn,fun x hx=> ?_⟩,?_,?_⟩,h1,rfl,by omega⟩
 ·have:=(zig t.l m d).length_eq;simp only[zac4] at this;show (zeh t.l m d).length<=12;omega
 ·rcases zadB.1 ((zig t.l m d).mem_iff.1 hx) with rfl|hx
  ·exact⟨h2,h3,by simp only;omega,by simp only;omega⟩
  ·exact r2 x hx
 ·rw[p1];exact p2
 ·rw[p1];show (zfK t.heap (d,m.id)).Perm ((zeh t.l m d).map zbO);exact p3.trans (((List.Perm.cons _ q4)).trans ((zig t.l m d).map zbO).symm)
theorem zYm{t:zT}{m:zl}{d:Int}(h:zaA t=0)(hm:zaC m=0)(hg:m.gen≠0)(h0:0<=d)(h1:d<=1073741824)(hl:t.l.length≠12)(hf:zar t.l m.id<0):(zaY t m d).2=0:=by
 have hp:=(zBU h hm h0 h1 hl hf).1;have:zeF t m d=0:=by
  unfold zeF;rw[zacX (by simpa using h),zacX (by simpa using hm),zacX hg,zacX zo,zacX hl,zacX zo,hp]
 unfold zaY;rw[zacY this]
theorem zG6(l:List zN)(i:Nat):zgi l i=l.eraseIdx i:=by rw[zgi,zaf4]
theorem zvq{l:List zN}{i:Nat}(hi:i<l.length):(l[i]::zgi l i).Perm l:=by
 have h1:=zaeP (a:=l[i]) (l₁:=l.take i) (l₂:=l.drop (i+1));rw[<- zady hi,zaf5] at h1;exact h1.symm
theorem zUY{t:zT}(h:zaA t=0){k:Nat}(hk:k<t.l.length){d:Due}(hd:d∈t.heap)(e:d.2=t.l[k].msg.id):d=zbO t.l[k]:=by
 obtain⟨q1,q2,q3,q4⟩:=(zd2 t).1 h;obtain⟨x,hx,e2⟩:=zadc.1 (q4.mem_iff.1 hd);obtain⟨j,hj,rfl⟩:=zaeN hx;have:j=k:=zDR (zik q2) hj hk (by rw[<- e, <- e2];rfl);subst this;exact e2.symm
theorem zlg{t:zT}{id:Int}(h:zaA t=0)(hf:0<=zar t.l id):∃k,∃hk:k<t.l.length,zar t.l id=k/\t.l[k].msg.id=id/\(zcs t.heap id).2=0/\Ok (zcs t.heap id).1/\(zbO t.l[k]::(zcs t.heap id).1).Perm t.heap:=by
 obtain⟨q1,q2,q3,q4⟩:=(zd2 t).1 h;obtain⟨k,hk,e1,e2⟩:=zmm hf;refine⟨k,hk,e1,e2,?_⟩;have hin:id∈t.heap.map (·.2):=(zLU q4 id).2 ⟨_,zadf hk,e2⟩;have h0:¬zby t.heap id<0:=fun hc=>(zHP _ _).1 hc hin;have hlt:=zHO t.heap id;obtain⟨d1,d2⟩:=zmj q3 (zby t.heap id).toNat zo;have hat:=zWE t.heap id zo;have hr:zcs t.heap id=(zd9 t.heap (zby t.heap id).toNat,0):=by
  unfold zcs;rw[zacX (by simpa using (zf0 _).2 q3),zacX h0]
 rw[hr];refine⟨rfl,d1,?_⟩;have:t.heap.getD (zby t.heap id).toNat dz=zbO t.l[k]:=by
  refine zUY h hk ?_ (by rw[hat,e2]);rw[zj (show (zby t.heap id).toNat<t.heap.length by omega)];exact zadf _
 rw[<- this];exact d2
theorem zCN{t:zT}{id:Int}(h:zaA t=0):(zap t id).2.2=0↔0<=zar t.l id:=by
 constructor
 ·intro h0
  by_cases hf:0<=zar t.l id
  ·exact hf
  ·have e:zfm t id=4:=by unfold zfm;rw[zacX (by simpa using h),zacY hf]
   unfold zap at h0;rw[e,zacX (by decide)] at h0
   cases h0
 ·intro hf;obtain⟨k,hk,e1,e2,e3,_⟩:=zlg h hf;have e:zfm t id=0:=by unfold zfm;rw[zacX (by simpa using h),zacX zo,e3]
  unfold zap;rw[zacY e]
theorem zCO{t:zT}{id:Int}(h:(zap t id).2.2=0):zaA (zap t id).1=0/\zaA t=0/\∃k,∃hk:k<t.l.length,zar t.l id=k/\t.l[k].msg.id=id/\(zap t id).1.l=zgi t.l k/\(zap t id).2.1=t.l[k].msg:=by
 have hE:zfm t id=0:=by
  unfold zap at h
  split at h
  ·assumption
  ·rename_i hc;exact absurd h hc
 have h1:zaA t=0:=by
  unfold zfm at hE
  split at hE
  ·omega
  ·rename_i hc;simpa using hc
 have hf:0<=zar t.l id:=(zCN h1).1 h;obtain⟨k,hk,e1,e2,e3,e4,e5⟩:=zlg h1 hf;obtain⟨q1,q2,q3,q4⟩:=(zd2 t).1 h1;obtain⟨r1,r2⟩:=(zfF _).1 q2;have hd:zap t id=(⟨zgi t.l k,(zcs t.heap id).1⟩,t.l[k].msg,0):=by
  unfold zap;rw[zacY hE,e1,zadG,zj hk]
 rw[hd];refine⟨(zd2 _).2 ⟨?_,(zfF _).2 ⟨?_,fun x hx=> ?_⟩,e4,?_⟩,h1,k,hk,e1,e2,rfl,rfl⟩
 ·have:=(zvq hk).length_eq;simp only[zac4] at this;show (zgi t.l k).length<=12;omega
 ·show (zgi t.l k).Pairwise _;rw[zG6];exact r1.sublist (List.eraseIdx_sublist ..)
 ·exact r2 x ((zvq hk).mem_iff.1 (zaf1 _ hx))
 ·show (zcs t.heap id).1.Perm ((zgi t.l k).map zbO);have h1:=e5.trans (q4.trans ((zvq hk).map zbO).symm);exact List.Perm.cons_inv h1
theorem zQJ{l:List zN}{k:Nat}(hk:k<l.length)(d:Int):znB l k d=l.set k ⟨l[k].msg,d⟩:=by
 unfold znB;rw[zj hk]
theorem zaaC{l:List Due}{k:Nat}(hk:k<l.length)(b:Due):(l[k]::l.set k b).Perm (b::l):=by
 have:=zQK l k b hk
 rwa [zj hk] at this
theorem zvz{t:zT}{id d:Int}(h:zaA t=0):(zbr t id d).2=0↔0<=zar t.l id/\0<=d/\d<=1073741824:=by
 constructor
 ·intro h0
  by_cases hf:0<=zar t.l id
  ·by_cases hd:0<=d/\d<=1073741824
   ·exact⟨hf,hd⟩
   ·have e:zed t id d=1:=by unfold zed;rw[zacX (by simpa using h),zacX (by simpa using hf),zacY hd]
    unfold zbr at h0;rw[e,zacX (by decide)] at h0
    cases h0
  ·have e:zed t id d=4:=by unfold zed;rw[zacX (by simpa using h),zacY hf]
   unfold zbr at h0;rw[e,zacX (by decide)] at h0
   cases h0
 ·rintro⟨hf,h0,h1⟩;obtain⟨k,hk,e1,e2,e3,e4,e5⟩:=zlg h hf;obtain⟨q1,q2,q3,q4⟩:=(zd2 t).1 h;obtain⟨r1,r2⟩:=(zfF _).1 q2;have hlen:=e5.length_eq;simp only[zac4] at hlen;have hnod:=(List.Perm.nodup_iff (e5.map (·.2))).2 q3.ids;simp only[zac1,zad8] at hnod;have hp:=zBT e4 (d:=(d,id)) (by have:=zDs (r2 _ (zadf hk)).1 h0 h1;rwa [e2] at this) (by have:=q4.length_eq;simp at this;omega) (by simpa [zbO,e2] using hnod.1);have e:zed t id d=0:=by unfold zed;rw[zacX (by simpa using h),zacX zo,zacX zo,zacX (by simpa using e3),hp.1]
  unfold zbr;rw[zacY e]
theorem zV6{t:zT}{id d:Int}(h:(zbr t id d).2=0):zaA (zbr t id d).1=0/\zaA t=0/\∃k,∃hk:k<t.l.length,zar t.l id=k/\t.l[k].msg.id=id/\(zbr t id d).1.l=t.l.set k ⟨t.l[k].msg,d⟩:=by
 have hE:zed t id d=0:=by
  unfold zbr at h
  split at h
  ·assumption
  ·rename_i hc;exact absurd h hc
 have h1:zaA t=0:=by
  unfold zed at hE
  split at hE
  ·omega
  ·rename_i hc;simpa using hc
 obtain⟨hf,h0,h2⟩:=(zvz h1).1 h;obtain⟨k,hk,e1,e2,e3,e4,e5⟩:=zlg h1 hf;obtain⟨q1,q2,q3,q4⟩:=(zd2 t).1 h1;obtain⟨r1,r2⟩:=(zfF _).1 q2;have hlen:=e5.length_eq;simp only[zac4] at hlen;have hnod:=(List.Perm.nodup_iff (e5.map (·.2))).2 q3.ids;simp only[zac1,zad8] at hnod;have hp:=zBT e4 (d:=(d,id)) (by have:=zDs (r2 _ (zadf hk)).1 h0 h2;rwa [e2] at this) (by have:=q4.length_eq;simp at this;omega) (by simpa [zbO,e2] using hnod.1);have hd:zbr t id d=(⟨t.l.set k ⟨t.l[k].msg,d⟩,zfK (zcs t.heap id).1 (d,id)⟩,0):=by
  unfold zbr;rw[zacY hE,e1,zadG,zQJ hk,hp.1]
 rw[hd];refine⟨(zd2 _).2 ⟨by simpa using q1,(zfF _).2 ⟨?_,fun x hx=> ?_⟩,hp.2.1,?_⟩,h1,k,hk,e1,e2,rfl⟩
 ·show (t.l.set k ⟨t.l[k].msg,d⟩).Pairwise _;have hm:(t.l.set k ⟨t.l[k].msg,d⟩).map (fun x=>x.msg.id)=t.l.map fun x=>x.msg.id:=by
   rw[zad9];have:(t.l[k].msg.id)=(t.l.map fun x=>x.msg.id)[k]'(by simpa using hk):=by simp
   rw[this,List.set_getElem_self]
  have:=zaf7 (f:=fun x:zN=>x.msg.id) (R:=fun a b=>a<b) (l:=t.l.set k ⟨t.l[k].msg,d⟩);rw[hm] at this;exact this.1 (zaf7.2 r1)
 ·rcases zaeB hx with hx|rfl
  ·exact r2 x hx
  ·obtain⟨a1,a2,_,_⟩:=r2 _ (zadf hk);exact⟨a1,a2,h0,h2⟩
 ·show (zfK (zcs t.heap id).1 (d,id)).Perm ((t.l.set k ⟨t.l[k].msg,d⟩).map zbO);refine hp.2.2.trans ?_;rw[zad9];have h3:=zaaC (l:=t.l.map zbO) (k:=k) (by simpa using hk) (zbO ⟨t.l[k].msg,d⟩);rw[zafg] at h3;have h4:(zbO t.l[k]::(d,id)::(zcs t.heap id).1).Perm (zbO t.l[k]::(t.l.map zbO).set k (zbO ⟨t.l[k].msg,d⟩)):=by
   refine (List.Perm.swap ..).trans ?_;refine (List.Perm.cons _ (e5.trans q4)).trans ?_;have:((d,id):Due)=zbO ⟨t.l[k].msg,d⟩:=by simp [zbO,e2]
   rw[this];exact h3.symm
  exact List.Perm.cons_inv h4
def gS(t:zT)(m:zl)(d:Int)(k:Nat):St:=⟨[(2,.d (.int .i64 d)),(3,.ref 3 0 0),(4,.ref 4 0 0),(6,.ref 6 0 0),(10,.d (.int .i64 k))],[(3,.row [.d (zaJ t)]),(4,.row [.d (zn m)]),(6,.row [.agg [.xsl [],.xsl []]])]⟩
theorem z8e(t:zT)(m:zl)(d:Int)(hL:t.l.length<=1000)(h:t.l.Pairwise fun x y=>x.msg.id<y.msg.id):∀k:Nat,k<=zbB t.l m.id->zai G [] zAS (gS t m d k)=some (.exit 1,gS t m d (zbB t.l m.id)):=by
 refine za3 (fun k=>zbB t.l m.id - k) (fun k=>k<=zbB t.l m.id) (gS t m d) _ fun k hk L ih=> ?_;have hpl:=zM8 t.l m.id;simp only[gS,zaJ,zn] at ih ⊢;simp only[zAS]
 by_cases h0:k<t.l.length
 ·have hp:=zgQ h (id:=m.id) h0
  by_cases h1:t.l[k].msg.id<m.id
  ·have i1:=ih (k+1) zo zo;clear ih;simp only[zNr,zE] at i1;simp -implicitDefEqProofs (maxSteps:=4000000) (disch:=omega) only[za0,zj,go_sem, *]
  ·have:k=zbB t.l m.id:=by omega
   subst this;clear ih hp;simp -implicitDefEqProofs (maxSteps:=4000000) (disch:=omega) only[za0,zj,go_sem, *]
 ·have:k=zbB t.l m.id:=by omega
  subst this;clear ih;simp -implicitDefEqProofs (maxSteps:=4000000) (disch:=omega) only[za0,zj,go_sem, *]
theorem zNB(t:zT)(m:zl)(d:Int)(hL:t.l.length<=4294967296)(hH:t.heap.length<=4294967296):zg G zoD [.d (zaJ t),.d (zn m),.d (.int .i64 d)] []=some (.d (.tup [zaJ (zaY t m d).1,.int .i64 (zaY t m d).2]),[]):=by
 have hv:=zk7 t hL hH;rw[zlt] at hv;have hm:=zix m;have hf:=znj t m.id hL;have hp:=zQo t.heap (d,m.id) hH;simp only[zaJ,zn,eD,eDE] at hv hm hf hp
 by_cases h1:zaA t=0
 ·obtain⟨h12,hE,hD,hM⟩:=zhI h1;have ha:=zik hE;have hl:=z8e t m d zo ha 0 zo;simp only[gS,zaJ,zn] at hl;simp only[zNr,zE] at hl;have hpl:=zM8 t.l m.id
  by_cases h2:zaC m=0
  ·by_cases h3:m.gen=0
   ·have e:zaY t m d=(zax,7):=by simp [zaY,zeF,h1,h2,h3]
    rw[e];simp only[zaJ,zn,zax];rw[h1] at hv;rw[h2] at hm;simp only[h3] at hm ⊢;clear hl;exact zW zh7
   ·by_cases h4:0<=d/\d<=1073741824
    ·by_cases h5:t.l.length=12
     ·have e:zaY t m d=(zax,3):=by simp [zaY,zeF,h1,h2,h3,h4,h5]
      rw[e];simp only[zaJ,zn,zax];clear hl;exact zW zh7
     ·by_cases h6:0<=zar t.l m.id
      ·have e:zaY t m d=(zax,10):=by simp [zaY,zeF,h1,h2,h3,h4,h5,h6]
       rw[e];simp only[zaJ,zn,zax];clear hl;exact zW zh7
      ·have hps:=(zBU h1 h2 h4.1 h4.2 h5 zo).1;have e:zaY t m d=(⟨zeh t.l m d,(zfJ t.heap (d,m.id)).1⟩,0):=by simp [zaY,zeF,h1,h2,h3,h4,h5,h6,hps]
       rw[e];simp only[hps] at hp;simp only[hps,zaJ,zn,zeh,zadg,zac1,zacZ];have hz1:=zjW (t.l.take (zbB t.l m.id));have hz2:=zjW (t.l.drop (zbB t.l m.id));clear hps e;rw[zO zh7 (by simp)];simp -implicitDefEqProofs (maxSteps:=4000000) (disch:=omega) only[zuP,zCl,za0,zj,go_sem, *]
    ·have e:zaY t m d=(zax,1):=by simp [zaY,zeF,h1,h2,h3,h4]
     rw[e];simp only[zaJ,zn,zax];clear hl
     by_cases h5:d<0
     ·exact zW zh7
     ·have h6:1073741824<d:=by omega
      exact zW zh7
  ·have e:zaY t m d=(zax,zaC m):=by simp [zaY,zeF,h1,h2]
   rw[e];simp only[zaJ,zn,zax];clear hl;exact zW zh7
 ·have e:zaY t m d=(zax,zaA t):=by simp [zaY,zeF,h1]
  rw[e];simp only[zaJ,zn,zax];exact zW zh7
theorem zNA(t:zT)(id:Int)(hL:t.l.length<=4294967296)(hH:t.heap.length<=4294967296):zg G zoC [.d (zaJ t),.d (.int .i64 id)] []=some (.d (.tup [za0 (zee t id).1,.bool (zee t id).2]),[]):=by
 have hv:=zk7 t hL hH;rw[zlt] at hv;have hf:=znj t id hL;have hlt:=zrB t.l id;unfold zee
 by_cases h1:zaA t=0
 ·by_cases h6:0<=zar t.l id
  ·obtain⟨k,hk⟩:∃k:Nat,zar t.l id=k:=⟨(zar t.l id).toNat,by omega⟩;have hkl:k<t.l.length:=by omega
   simp only[h1,h6,zaem,if_true];rw[hk,zadG,zj hkl];rw[hk] at hf;simp only[zaJ,za0] at hv hf ⊢;rw[h1] at hv;clear hk h6;rw[zO zzu (by simp)];simp -implicitDefEqProofs (maxSteps:=4000000) (disch:=omega) only[zuO,zCk,za0,zj,go_sem, *];(try simp only[zPr]);repeat' (first|done|rfl|((first|refine zay (fun hq=> ?_) (fun hq=> ?_)|refine zaD (fun hq=> ?_) (fun hq=> ?_))<;>(try (first|(exfalso;omega)|contradiction))<;>(try simp -implicitDefEqProofs (maxSteps:=4000000) (disch:=omega) only[za0,zj,go_sem, *])<;>(try simp only[zPr])));(all_goals try rfl);(all_goals try (repeat' (first|done|rfl|(exfalso;omega)|contradiction|(refine zaz (fun hq=> ?_) (fun hq=> ?_)))))
  ·simp only[h1,h6,zae2,if_false];simp only[zaJ,za0,zb3,zak] at hv hf ⊢;rw[h1] at hv;exact zW zzu
 ·simp only[h1,zadX,if_false];simp only[zaJ,za0,zb3,zak] at hv hf ⊢;exact zW zzu
theorem zte(t:zT)(id:Int)(hL:t.l.length<=4294967296)(hH:t.heap.length<=4294967296):zg G zoF [.d (zaJ t),.d (.int .i64 id)] []=some (.d (.tup [zaJ (zap t id).1,zn (zap t id).2.1,.int .i64 (zap t id).2.2]),[]):=by
 have hv:=zk7 t hL hH;rw[zlt] at hv;have hf:=znj t id hL;have hr:=zQp t.heap id hH;have hlt:=zrB t.l id;simp only[eDE] at hr
 by_cases h1:zaA t=0
 ·by_cases h6:0<=zar t.l id
  ·obtain⟨k,hk,e1,e2,e3,e4,e5⟩:=zlg h1 h6;have h12:=((zd2 t).1 h1).1;have e:zap t id=(⟨zgi t.l k,(zcs t.heap id).1⟩,t.l[k].msg,0):=by
    have:zfm t id=0:=by unfold zfm;rw[zacX (by simpa using h1),zacX zo,e3]
    unfold zap;rw[zacY this,e1,zadG,zj hk]
   rw[e];rw[e1] at hf;rw[e3] at hr;have hz1:=zjW (t.l.take k);have hz2:=zjW (t.l.drop (k+1));simp only[zaJ,zn,zgi,zadg] at hv hf ⊢;rw[h1] at hv;clear e e1 e2 e3 e5 h6;rw[zO zzv (by simp)];simp -implicitDefEqProofs (maxSteps:=4000000) (disch:=omega) only[zuQ,zCm,za0,zj,go_sem, *];(try simp only[zPr]);repeat' (first|done|rfl|((first|refine zay (fun hq=> ?_) (fun hq=> ?_)|refine zaD (fun hq=> ?_) (fun hq=> ?_))<;>(try (first|(exfalso;omega)|contradiction))<;>(try simp -implicitDefEqProofs (maxSteps:=4000000) (disch:=omega) only[za0,zj,go_sem, *])<;>(try simp only[zPr])));(all_goals try rfl);(all_goals try (repeat' (first|done|rfl|(exfalso;omega)|contradiction|(refine zaz (fun hq=> ?_) (fun hq=> ?_)))))
  ·have e:zap t id=(zax,zak,4):=by simp [zap,zfm,h1,h6]
   rw[e];simp only[zaJ,zn,zax,zak] at hv hf ⊢;rw[h1] at hv;exact zW zzv
 ·have e:zap t id=(zax,zak,zaA t):=by simp [zap,zfm,h1]
  rw[e];simp only[zaJ,zn,zax,zak] at hv hf ⊢;exact zW zzv
theorem z8d(t:zT)(id d:Int)(hL:t.l.length<=4294967296)(hH:t.heap.length<=4294967296):zg G zoB [.d (zaJ t),.d (.int .i64 id),.d (.int .i64 d)] []=some (.d (.tup [zaJ (zbr t id d).1,.int .i64 (zbr t id d).2]),[]):=by
 have hv:=zk7 t hL hH;rw[zlt] at hv;have hf:=znj t id hL;have hr:=zQp t.heap id hH;have hlt:=zrB t.l id;simp only[eDE] at hr
 by_cases h1:zaA t=0
 ·by_cases h6:0<=zar t.l id
  ·by_cases h4:0<=d/\d<=1073741824
   ·obtain⟨k,hk,e1,e2,e3,e4,e5⟩:=zlg h1 h6;have h12:=((zd2 t).1 h1).1;have hs:=(zvz (id:=id) (d:=d) h1).2 ⟨h6,h4.1,h4.2⟩;have hE:zed t id d=0:=by
     unfold zbr at hs
     split at hs
     ·assumption
     ·rename_i hc;exact absurd hs hc
    have hp0:(zfJ (zcs t.heap id).1 (d,id)).2=0:=by
     unfold zed at hE
     rwa [zacX (by simpa using h1),zacX zo,zacX zo,zacX (by simpa using e3)] at hE
    have e:zbr t id d=(⟨t.l.set k ⟨t.l[k].msg,d⟩,(zfJ (zcs t.heap id).1 (d,id)).1⟩,0):=by
     unfold zbr;rw[zacY hE,e1,zadG,zQJ hk]
    have hp:=zQo (zcs t.heap id).1 (d,id) (z81 _ _ hH);simp only[eDE,eD] at hp;rw[e];rw[e1] at hf;rw[e3] at hr;rw[hp0] at hp;have hz:=zjW t.l;simp only[zaJ,zad9] at hv hf ⊢;rw[h1] at hv;clear e e1 e2 e3 e5 h6 hs hE hp0;rw[zO zmv (by simp)];simp -implicitDefEqProofs (maxSteps:=4000000) (disch:=omega) only[zuN,zCj,za0,zj,go_sem, *];(try simp only[zPr]);repeat' (first|done|rfl|((first|refine zay (fun hq=> ?_) (fun hq=> ?_)|refine zaD (fun hq=> ?_) (fun hq=> ?_))<;>(try (first|(exfalso;omega)|contradiction))<;>(try simp -implicitDefEqProofs (maxSteps:=4000000) (disch:=omega) only[za0,zj,go_sem, *])<;>(try simp only[zPr])));(all_goals try rfl);(all_goals try (repeat' (first|done|rfl|(exfalso;omega)|contradiction|(refine zaz (fun hq=> ?_) (fun hq=> ?_)))))
   ·have e:zbr t id d=(zax,1):=by simp [zbr,zed,h1,h6,h4]
    rw[e];simp only[zaJ,zax] at hv hf ⊢;rw[h1] at hv
    by_cases h5:d<0
    ·exact zW zmv
    ·have h7:1073741824<d:=by omega
     exact zW zmv
  ·have e:zbr t id d=(zax,4):=by simp [zbr,zed,h1,h6]
   rw[e];simp only[zaJ,zax] at hv hf ⊢;rw[h1] at hv;exact zW zmv
 ·have e:zbr t id d=(zax,zaA t):=by simp [zbr,zed,h1]
  rw[e];simp only[zaJ,zax] at hv hf ⊢;exact zW zmv
def zBy(t:zT)(id:Int):zl:=(t.l.getD (zar t.l id).toNat zb3).msg
def zfD(t:zT)(ep:Int)(id:Int):Bool:= !decide ((zBy t id).epoch<ep)
def zdS(t:zT)(now ep:Int):List Int:=if zaA t=0 then (zdb t.heap now).filter (zfD t ep) else []
theorem zRj{t:zT}(h:zaA t=0)(now:Int)(id:Int):id∈zdb t.heap now↔∃x∈t.l,x.msg.id=id/\x.deadline<=now:=by
 obtain⟨q1,q2,q3,q4⟩:=(zd2 t).1 h;unfold zdb;rw[zacY ((zf0 _).2 q3)];have hp:=(zlq t.heap 1 (fun p q hp hq=>by omega)).2;unfold zkf;constructor
 ·intro hm;obtain⟨d,hd,e⟩:=zadc.1 hm;obtain⟨hd,hn⟩:=zaew.1 hd;obtain⟨x,hx,e2⟩:=zadc.1 (q4.mem_iff.1 (hp.mem_iff.1 hd));subst e2;exact⟨x,hx,e,of_decide_eq_true hn⟩
 ·rintro⟨x,hx,e,hn⟩;exact zadc.2 ⟨zbO x,zaew.2 ⟨hp.mem_iff.2 (q4.mem_iff.2 (zadc.2 ⟨x,hx,rfl⟩)),zadn hn⟩,e⟩
theorem zacq{t:zT}(h:zaA t=0){now id:Int}(hm:id∈zdb t.heap now):0<=zar t.l id:=
 let ⟨x,hx,e,_⟩:=(zRj h now id).1 hm
 (zh3 id).2 ⟨x,hx,e⟩
theorem zRi{t:zT}(h:zaA t=0)(now:Int):(zdb t.heap now).length<=12:=by
 obtain⟨q1,q2,q3,q4⟩:=(zd2 t).1 h;unfold zdb;rw[zacY ((zf0 _).2 q3)];have hp:=(zlq t.heap 1 (fun p q hp hq=>by omega)).2.length_eq;have:=q3.len;unfold zkf;rw[zadd];exact zadL (zaeh _ _) zo
def rlS(t:zT)(ep:Int)(u:List Int)(i:Nat):St:=⟨[(2,.d (.int .i64 ep)),(3,.ref 3 0 0),(7,.acc 7 (zB ((u.take i).filter (zfD t ep)))),(8,.d (.sl (zB u))),(9,.d (.int .i64 i))],[(3,.row [.d (zaJ t)]),(7,.acc ((u.take i).filter (zfD t ep)).length)]⟩
theorem z9l(t:zT)(ep now:Int)(u:List Int)(hu:u.length<=12)(h:zaA t=0)(hf:∀id∈u,0<=zar t.l id)(hL:t.l.length<=4294967296)(hH:t.heap.length<=4294967296):∀i:Nat,i<=u.length->zai G [] zAT (rlS t ep u i)=some (.exit 0,⟨[(7,.acc 7 (zB (u.filter (zfD t ep))))],[(7,.acc (u.filter (zfD t ep)).length)]⟩):=by
 refine za3 (fun i=>u.length - i) (fun i=>i<=u.length) (rlS t ep u) _ fun i hi L ih=> ?_;simp only[rlS,zaJ] at ih ⊢;simp only[zAT]
 by_cases h0:i<u.length
 ·have i1:=ih (i+1) zo zo;clear ih;have ht:u.take (i+1)=u.take i++[u[i]]:=by rw[zafw,zada h0];rfl
  rw[ht,zafW] at i1;have hF:=zNA t u[i] hL hH;have hfi:=hf u[i] (zadf h0);have e:zee t u[i]=(t.l.getD (zar t.l u[i]).toNat zb3,true):=by unfold zee;rw[zacY ⟨h,hfi⟩]
  rw[e] at hF;have hP:=zNz (t.l.getD (zar t.l u[i]).toNat zb3).msg ep;have hlen:((u.take i).filter (zfD t ep)).length<=12:=zadL (zaeh _ _) (by simp;omega)
  by_cases hk:(t.l.getD (zar t.l u[i]).toNat zb3).msg.epoch<ep
  ·have e2:[u[i]].filter (zfD t ep)=[]:=by
      have:zfD t ep u[i]=false:=by unfold zfD zBy;rw[zadn hk];rfl
      rw[zaen,this];rfl
   rw[e2,zadk] at i1;generalize (t.l.getD (zar t.l u[i]).toNat zb3)=x at *;simp only[hk,decide_true,zaJ,za0,zn] at hF hP;simp only[zNr,zE] at i1;clear e e2 hfi hf;exact zS
  ·have e2:[u[i]].filter (zfD t ep)=[u[i]]:=by
      have:zfD t ep u[i]=true:=by unfold zfD zBy;rw[zadq hk];rfl
      rw[zaen,this];rfl
   rw[e2] at i1;generalize (t.l.getD (zar t.l u[i]).toNat zb3)=x at *;simp only[hk,decide_false,zaJ,za0,zn] at hF hP;simp only[zB] at i1;simp only[zNr,zE] at i1;clear e e2 hfi hf;exact zS
 ·have:i=u.length:=by omega
  subst this;clear ih;rw[List.take_length];exact zS
theorem z8f(t:zT)(now ep:Int)(hL:t.l.length<=4294967296)(hH:t.heap.length<=4294967296):zg G zoE [.d (zaJ t),.d (.int .i64 now),.d (.int .i64 ep)] []=some (.d (.sl (zB (zdS t now ep))),[]):=by
 have hv:=zk7 t hL hH;rw[zlt] at hv;have hu:=z8R t.heap now hH;unfold zdS
 by_cases h1:zaA t=0
 ·have hl:=z9l t ep now (zdb t.heap now) (zRi h1 now) h1 (fun id hm=>zacq h1 hm) hL hH 0 zo;simp only[rlS,zadQ,zaeF,zB,zacZ,zac5] at hl;rw[zacY h1];simp only[zaJ] at hv hl ⊢;rw[h1] at hv;simp only[zNr,zE] at hl;exact zW zIn
 ·rw[zacX h1];simp only[zaJ] at hv ⊢;exact zW zIn
structure DF where
 i:Nat
 j:Nat
 R:List Int
def zdE(r:zat)(m:zl):Int:=if zaX r≠0 then zaX r else if zaC m≠0 then zaC m else if r.size=r.cells.length then 3 else if 0<=zaV (zI r) m.id then 10 else 0
theorem zta(r:zat)(m:zl)(hL:r.cells.length<=4294967296):zg G zop [.d (zau r),.d (zn m)] []=some (.d (.int .i64 (zdE r m)),[]):=by
 have hv:=zk6 r hL;have hm:=zix m;unfold zdE
 by_cases e1:zaX r=0
 ·rw[e1] at hv;obtain⟨c,h,z,rfl,h1,h2,h3,h4⟩:=znx (zc8 e1);have hl:=zjv c h z h2 h3 h4;have hi:=zjf (za5 c h z) m.id (by rw[zju];omega);simp only[e1,ne_eq,zac9,if_false];rw[zjt];clear e1;generalize zaV (za5 c h z) m.id=q at *;generalize za5 c h z=w at *
  by_cases e2:zaC m=0
  ·rw[e2] at hm;simp only[e2,ne_eq,zac9,if_false];simp only[zau,zn] at hv hm hl hi ⊢
   by_cases e3:(z:Int)=c.length
   ·rw[zacY e3];obtain rfl:z=c.length:=by omega
    clear e3;exact zW zmt
   ·simp only[e3,if_false]
    by_cases e4:0<=q
    ·simp only[e4,if_true];rw[zO zmt (by simp)];simp -implicitDefEqProofs (maxSteps:=4000000) (disch:=omega) only[zqW,zti,zn,zj,go_sem, *]
    ·simp only[e4,if_false];rw[zO zmt (by simp)];simp -implicitDefEqProofs (maxSteps:=4000000) (disch:=omega) only[zqW,zti,zn,zj,go_sem, *]
  ·simp only[e2,ne_eq,zadw,if_true];generalize zaC m=v at *;simp only[zau,zn] at hv hm ⊢;exact zW zmt
 ·simp only[e1,ne_eq,zadw,if_true];generalize zaX r=v at *;simp only[zau,zn] at hv ⊢;exact zW zmt
theorem z1A(k:Nat)(h1:1<=k)(h2:k<=12):zg G zlK [.d (.int .i64 k)] []=some (.d (.tup [zau ⟨List.replicate k zak,0,0⟩,.int .i64 0]),[]):=by
 have e:List.replicate k (Go.Sim.AV.d (zn zak))=(List.replicate k (zn zak)).map Go.Sim.AV.d:=by rw[zafD]
 simp only[zau,zafD];simp only[zn,zak] at e ⊢;rw[zO zIk (by simp)];simp -implicitDefEqProofs (maxSteps:=4000000) (disch:=omega) only[zuE,zCb,zad2,Nat.min_self,List.take_replicate,zj,go_sem, *]
def wN(n h:Nat)(l:List zl)(i:Nat):List zl:=(List.range i).foldl (fun cs j=>cs.set ((h+j) % n) (l.getD j zak)) (List.replicate n zak)
theorem zDv(n h:Nat)(l:List zl)(i:Nat):wN n h l (i+1)=(wN n h l i).set ((h+i) % n) (l.getD i zak):=by
 unfold wN;rw[zafV,List.foldl_append];rfl
theorem zcG(n h:Nat)(l:List zl)(i:Nat):(wN n h l i).length=n:=by
 induction i with
 | zero=>simp [wN]
 | succ i ih=>rw[zDv,zadM,ih]
def wiS(n h:Nat)(l:List zl)(i:Nat):St:=⟨[(1,.d (.int .i64 h)),(2,.d (.sl (l.map zn))),(6,.ref 6 0 0),(7,.ref 7 0 0),(8,.d (.int .i64 i))],[(6,.row [.agg [.xsl [],.d (.int .i64 0),.d (.int .i64 0)]]),(7,.row [.agg [.osl 12 0 n,.d (.int .i64 h),.d (.int .i64 l.length)]]),(12,.row (((wN n h l i).map zn).map .d))]⟩
theorem zacw(n h:Nat)(l:List zl)(h1:1<=n)(h2:n<=12)(h3:h<=12)(h4:l.length<=n):∀i,i<=l.length->zai G [] zsx (wiS n h l i)=some (.exit 0,⟨[(6,.ref 6 0 0),(7,.ref 7 0 0)],[(6,.row [.agg [.xsl [],.d (.int .i64 0),.d (.int .i64 0)]]),(7,.row [.agg [.osl 12 0 n,.d (.int .i64 h),.d (.int .i64 l.length)]]),(12,.row (((wN n h l l.length).map zn).map .d))]⟩):=by
 refine za3 (fun i=>l.length - i) (fun i=>i<=l.length) (wiS n h l) _ fun i hi L ih=> ?_
 by_cases h0:i<l.length
 ·have i1:=ih (i+1) zo zo;clear ih;have e:((h:Int)+i).tmod n=(((h+i) % n:Nat):Int):=by rw[<- zad5, <- zafx]
  have hj:(h+i) % n<n:=zad4 _ zo;have hl:=zcG n h l i;generalize wN n h l l.length=z at *;rw[wiS,zDv,zj h0] at i1;generalize (h+i) % n=j at *;rw[zad9] at i1;simp only[wiS,zsx];generalize wN n h l i=w at *;simp only[zNr,zE] at i1;exact zS
 ·clear ih;have:i=l.length:=by omega
  subst this;simp only[wiS,zsx];exact zS
theorem zt5(c:List zl)(h0 z h:Nat)(l:List zl)(h1:1<=c.length)(h2:c.length<=12)(h3:h<=12)(h4:l.length<=c.length):zg G zoq [.d (.agg [.sl (c.map zn),.int .i64 h0,.int .i64 z]),.d (.int .i64 h),.d (.sl (l.map zn))] []=some (.d (zau ⟨wN c.length h l l.length,h,l.length⟩),[]):=by
 have hl:=zacw c.length h l h1 h2 h3 h4 0 zo;have hn:=zcG c.length h l l.length;simp only[zau];generalize wN c.length h l l.length=w at *;have ez:(List.replicate c.length zak).map zn=List.replicate c.length (zn zak):=zafD;have e:List.replicate c.length (Go.Sim.AV.d (zn zak))=(List.replicate c.length (zn zak)).map Go.Sim.AV.d:=by rw[zafD]
 simp only[wiS,wN,List.range_zero,List.foldl_nil,ez,zado] at hl;clear ez;simp only[show zn zak= .agg [.int .i64 0,.int .i64 0,.int .i64 0,.int .i64 0,.int .i64 0,.int .i64 0,.str []] from rfl] at hl e;rw[zO zXw (by simp)];simp -implicitDefEqProofs (maxSteps:=4000000) (disch:=omega) only[zuI,zCe,zn,zj,go_sem, *]
end Go.Proofs.YtdnlddoeamjcoaaGreat
