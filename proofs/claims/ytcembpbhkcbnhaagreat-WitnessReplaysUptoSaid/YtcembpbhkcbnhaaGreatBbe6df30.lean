/-
  Valid live shards.
-/
import Derived.Test.YtcembpbhkcbnhaaGreatB3e4d643
import Derived.Test.YtcembpbhkcbnhaaGreatB6f49cc6
import Derived.Test.YtcembpbhkcbnhaaGreatB15a29b9
import Derived.Test.YtcembpbhkcbnhaaGreatB54fbfdf
set_option linter.unusedSimpArgs false
set_option linter.unusedVariables false
set_option maxHeartbeats 10000000
set_option maxRecDepth 100000
namespace Go.Proofs.YtcembpbhkcbnhaaGreat
open Go Go.Sim
theorem z9D{a b:zaeF}(h:¬(¬a.seq=b.seq\/¬a.epoch=b.epoch\/¬a.ready=b.ready\/¬a.leased=b.leased)):a=b:=by
 simp only[not_or,zabG] at h;obtain⟨h1,h2,h3,h4⟩:=h
 cases a;cases b
 simp only at h1 h2 h3 h4;subst h1 h2 h3 h4;rfl
def zig(a b:List zaeF)(i:Nat):Bool:=decide (a.drop i=b.drop i)
theorem z8y{a b:List zaeF}{i:Nat}(h0:i<a.length)(h3:i<b.length):zig a b i=(decide (a[i]=b[i])&&zig a b (i+1)):=by
 unfold zig;apply zacD.2;simp only[zabH,decide_eq_true_eq];rw[zabX h0,zabX h3,List.cons.injEq]
theorem z8x{a b:List zaeF}{i:Nat}(h0:a.length<=i)(h3:b.length<=i):zig a b i=true:=by
 unfold zig;rw[zaeg h0,zaeg h3];rfl
def eqR(a b:List zaeF)(i:Nat):zX×St:=if zig a b i=true then (.exit 0,⟨[],[]⟩) else (.ret,⟨[(4,.d (.bool false))],[]⟩)
def sqS(a b:List zaeF)(i:Nat):St:=⟨[(0,.d (.sl (a.map zax))),(1,.d (.sl (b.map zax))),(5,.d (.int .i64 i))],[]⟩
theorem z9w(a b:List zaeF)(h1:a.length<=4294967296)(h2:b.length=a.length):∀i,i<=a.length->z6 G [] zsG (sqS a b i)=some (eqR a b i):=by
 refine zaL (fun i=>a.length - i) (fun i=>i<=a.length) (sqS a b) (fun i=>some (eqR a b i)) fun i hi L ih=> ?_
 by_cases h0:i<a.length
 ·have i1:=ih (i+1) zo zo;clear ih;have h3:i<b.length:=by omega
  unfold eqR at i1 ⊢;rw[z8y h0 h3];generalize zig a b (i+1)=bd at *;simp only[sqS] at i1;simp only[zNr,srcO] at i1;simp only[sqS,zsG]
  by_cases hm:a[i]=b[i]
  ·simp only[hm,decide_true,zacA];have zk1:=zax.eq_1;exact zS
  ·simp only[hm,decide_false,zacd,zabz,if_false]
   (try simp -implicitDefEqProofs (maxSteps:=4000000) (disch:=omega) only[zax,zh,go_sem, *]);(try simp only[zPr]);repeat' (first|done|rfl|((first|refine zad (fun hq=> ?_) (fun hq=> ?_)|refine zaj (fun hq=> ?_) (fun hq=> ?_))<;>(try (first|(exfalso;omega)|contradiction))<;>(try simp -implicitDefEqProofs (maxSteps:=4000000) (disch:=omega) only[zax,zh,go_sem, *])<;>(try simp only[zPr])));(all_goals try rfl);(all_goals try (repeat' (first|done|rfl|(exfalso;omega)|contradiction|(refine zae (fun hq=> ?_) (fun hq=> ?_)))))
   exact absurd (z9D (by assumption)) hm
 ·clear ih;unfold eqR;rw[z8x zo zo];simp only[sqS,zsG,if_true];simp -implicitDefEqProofs (maxSteps:=4000000) (disch:=omega) only[zh,go_sem, *]
theorem z8w(a b:List zaeF)(h1:a.length<=4294967296)(h2:b.length<=4294967296):zi G 156 [.d (.sl (a.map zax)),.d (.sl (b.map zax))] []=some (.d (.bool (decide (a=b))),[]):=by
 by_cases h:b.length=a.length
 ·have hl:=z9w a b h1 h 0 zo;unfold eqR at hl;simp only[sqS,zabQ] at hl;simp only[zig,zabZ] at hl;generalize decide (a=b)=q at *
  cases q
  ·simp only[zabz,if_false] at hl;exact zW
  ·simp only[if_true] at hl;exact zW
 ·rw[zabP (fun e=>h (by rw[e]))];exact zW
def zjk(l:List zj):Int:=if zb3 l≠0 then zb3 l else if zdC (l.map (·.id))=true then 10 else 0
def zcm(d:za7):Int:=if d.cap<1\/24<d.cap then 1 else if d.cap<d.l.length then 2 else zjk d.l
def zgu(d:za7):Int:=if zcm d≠0 then 0 else d.cap - d.l.length
def zi9(d:za7)(l:List zj):za7×Int:=
 if zcm d≠0 then (zaH,zcm d) else if zgu d<l.length then (zaH,3) else if zjk (d.l++l)≠0 then (zaH,zjk (d.l++l)) else (⟨d.cap,d.l++l⟩,0)
def zdU(k ep:Int):List zj->List zj->List zj->List zj×List zj
 | [],rest,out=>(rest,out)
 | m::l,rest,out=>if (out.length:Int)<k/\¬m.epoch<ep then zdU k ep l rest (out++[m]) else zdU k ep l (rest++[m]) out
def zhm(d:za7)(k ep:Int):za7×List zj×Int:=
 if zcm d≠0 then (zaH,[],zcm d) else if k<0\/ep<0\/65536<ep then (zaH,[],1) else (⟨d.cap,(zdU k ep d.l [] []).1⟩,(zdU k ep d.l [] []).2,0)
def zhv(d:za7)(ep:Int):za7×Int×Int:=
 if zcm d≠0 then (zaH,0,zcm d) else if ep<0\/65536<ep then (zaH,0,1) else (⟨d.cap,d.l.filter fun m=> !decide (m.epoch<ep)⟩,d.l.length - (d.l.filter fun m=> !decide (m.epoch<ep)).length,0)
def zeY(a:zy)(i:Int):Bool:=decide (0<=i/\i<a.slots.length)
def zg2(a:zy)(i:Int):zt×Int:=if zeY a i=true then ((a.slots.getD i.toNat zfC).shard,0) else (zJ,1)
def zed(a:zy)(i:Int):zaeF×Int:=if zeY a i=true then (a.stripes.getD i.toNat zb0,0) else (zb0,1)
def zez(a:zy)(i k:Int):Int:=if zeY a i=false\/zgz k=false then 1 else if (a.slots.getD i.toNat zfC).owner=k then 0 else 13
def stSlot(a:zy)(i k:Int)(s:zt):zy×Int:=
 if zez a i k≠0 then (zM,zez a i k) else if zY s≠0 then (zM,zY s) else if s.ready.cells.length≠(a.slots.getD i.toNat zfC).shard.ready.cells.length then (zM,1)
 else ({ a with slots:=a.slots.set i.toNat ⟨(a.slots.getD i.toNat zfC).owner,s⟩ },0)
def znH(s:zaeF):Bool:=decide (zbV s.seq/\zbV s.epoch/\zbV s.ready/\zbV s.leased)
def stStripe(a:zy)(i k:Int)(s:zaeF):zy×Int:=
 if zez a i k≠0 then (zM,zez a i k) else if znH s=false then (zM,1) else ({ a with stripes:=a.stripes.set i.toNat s },0)
def stDead(a:zy)(k:Int)(d:za7):zy×Int:=
 if zgz k=false then (zM,1) else if a.dead.owner≠k then (zM,13) else if zcm d≠0 then (zM,zcm d) else if d.cap≠a.dead.dead.cap then (zM,1) else ({ a with dead:=⟨a.dead.owner,d⟩ },0)
def casDir(a:zy)(v:Int)(d:zabk):zy×Bool×Int:=
 if zbl d≠0 then (zM,false,zbl d) else if d.forward.length≠a.slots.length then (zM,false,1) else if a.dir.version≠v then (a,false,0) else ({ a with dir:=d },true,0)
def zgn(a:zy)(w:Int):Int×Int:=if w=1 then (a.epoch,0) else if w=2 then (a.clock,0) else if w=3 then (a.nextID,0) else (0,9)
def casWord(a:zy)(w old next:Int):zy×Bool×Int:=
 if w≠1/\w≠3 then (zM,false,9) else if w=1/\¬(0<=next/\next<=65536)\/w=3/\¬(1<=next/\next<=1073741824) then (zM,false,1)
 else if (zgn a w).1≠old then (a,false,0) else if w=1 then ({ a with epoch:=next },true,0) else ({ a with nextID:=next },true,0)
def zeA(a:zy)(by_:Int):zy×Int:=if ¬(0<=by_/\by_<=1099511627776) then (zM,1) else if 1073741824<a.clock+by_ then (zM,6) else ({ a with clock:=a.clock+by_ },0)
def zc7(a:zy)(s:zir)(n:Int):zir×Int:=
 if s.phase=0 then ({ s with epoch:=a.epoch,phase:=1 },0) else if s.phase=1 then ({ s with clock:=a.clock,stamp:=n,phase:=2 },0)
 else if s.phase=2 then (if a.epoch=s.epoch then ({ s with phase:=3 },0) else ({ s with epoch:=a.epoch,phase:=1 },0)) else if s.phase=3 then (zeB,7) else (zeB,1)
def zdl(cells:List Int)(lim:Int):Section×Int:=
 if (zg3 cells).2≠0 then (zbe,(zg3 cells).2) else if lim<1\/8<lim then (zbe,1) else ({ zbe with lock:=(zg3 cells).1,limit:=lim },0)
def z5(s:Section)(ph:Int):Section:={ s with phase:=ph,at_:=0 }
def zdp(a:zy)(s:Section):Int:=(s.lock.cells.filter fun c=>decide (c<(a.slots.length:Int))).length
def zhg(a:zy)(s:Section)(k:Int):zy×Section×Int:=
 if (zaZ a s.lock k).2.2=0/\(zaZ a s.lock k).2.1.phase=3
 then ((zaZ a s.lock k).1,if zdp a s=0 then z5 { s with lock:=(zaZ a s.lock k).2.1 } 2 else z5 { s with lock:=(zaZ a s.lock k).2.1 } 1,0)
 else ((zaZ a s.lock k).1,{ s with lock:=(zaZ a s.lock k).2.1 },(zaZ a s.lock k).2.2)
def zcv(s:Section)(i:Int):Int:=s.lock.cells.getD i.toNat 0
def zfr(a:zy)(s:Section)(k:Int):zy×Section×Int:=
 if s.at_.tmod 2=0 then (a,{ s with stripes:=s.stripes++[(zed a (zcv s (s.at_.tdiv 2))).1],at_:=s.at_+1 },(zed a (zcv s (s.at_.tdiv 2))).2)
 else if (zhr (s.stripes.getD (s.at_.tdiv 2).toNat zb0)).2≠0 then (a,s,(zhr (s.stripes.getD (s.at_.tdiv 2).toNat zb0)).2)
 else
  let x:=(zhr (s.stripes.getD (s.at_.tdiv 2).toNat zb0)).1
  let r:=stStripe a (zcv s (s.at_.tdiv 2)) k x
  let s1:Section:={ s with stripes:=s.stripes.take (s.at_.tdiv 2).toNat++[x],at_:=s.at_+1 }
  (r.1,if r.2=0/\s1.at_=2 * zdp r.1 s1 then z5 s1 2 else s1,r.2)
def zfq(a:zy)(s:Section):zy×Section×Int:=
 let c:=zcv s s.at_
 let s1:Section:=if c=a.slots.length then { s with dead:=a.dead.dead,at_:=s.at_+1 } else { s with shards:=s.shards++[(zg2 a c).1],at_:=s.at_+1 }
 (a,if s1.at_=s.lock.cells.length then z5 s1 3 else s1,if c=a.slots.length then 0 else (zg2 a c).2)
def zih(a:zy)(s:Section)(n:Int):zy×Section×Int:=
 (a,if (zc7 a s.snap n).2=0/\(zc7 a s.snap n).1.phase=3 then z5 { s with snap:=(zc7 a s.snap n).1 } 4 else { s with snap:=(zc7 a s.snap n).1 },(zc7 a s.snap n).2)
def zcG(s:Section):Section×Int:=if (zcb s.lock).2≠0 then (s,(zcb s.lock).2) else (z5 { s with lock:=(zcb s.lock).1 } 8,0)
def zcn(a:zy)(s:Section):zy×Section×Int:=if 0<s.stripes.length then (a,z5 s 7,0) else (a,(zcG s).1,(zcG s).2)
def zft(a:zy)(s:Section)(k:Int):zy×Section×Int:=
 let o:=s.out.order.getD s.at_.toNat 0
 let c:=zcv s o
 let r:=if c=a.slots.length then stDead a k s.out.dead else stSlot a c k (s.out.shards.getD o.toNat zJ)
 if r.2≠0 then (r.1,s,r.2)
 else if s.at_+1<s.out.order.length then (r.1,{ s with at_:=s.at_+1,carry:=s.out.carry },0)
 else if 0<s.out.edits.length then (r.1,z5 { s with at_:=s.at_+1,carry:=[] } 6,0)
 else zcn r.1 { s with at_:=s.at_+1,carry:=[] }
def zfp(a:zy)(s:Section):zy×Section×Int:=
 if s.at_=0 then (a,{ s with dir:=a.dir,at_:=1 },0)
 else
  let d:=zgG s.dir (s.out.edits.getD 0 ztX)
  if d.2≠0 then (a,s,d.2)
  else
   let r:=casDir a s.dir.version d.1
   if r.2.2≠0 then (a,s,r.2.2) else if r.2.1=false then (r.1,{ s with at_:=0 },0) else zcn r.1 { s with dir:=d.1 }
def zjl(s:Section)(k:Int):Bool:=s.out.order.any fun o=>decide (o=k)
def zfu(a:zy)(s:Section)(k:Int):zy×Section×Int:=
 let now:=if zjl s s.at_=true then s.out.shards.getD s.at_.toNat zJ else s.shards.getD s.at_.toNat zJ
 let x:=ziF (s.stripes.getD s.at_.toNat zb0) now s.snap.epoch s.limit
 if x.2≠0 then (a,s,x.2)
 else
  let r:=stStripe a (zcv s s.at_) k x.1
  if r.2≠0 then (r.1,s,r.2)
  else if s.at_+1=s.stripes.length then (r.1,(zcG { s with at_:=s.at_+1 }).1,(zcG { s with at_:=s.at_+1 }).2) else (r.1,{ s with at_:=s.at_+1 },0)
def zhf(a:zy)(s:Section)(k:Int):zy×Section×Int:=
 if (zaZ a s.lock k).2.2=0/\(zaZ a s.lock k).2.1.phase=5 then ((zaZ a s.lock k).1,z5 { s with lock:=(zaZ a s.lock k).2.1 } 9,0)
 else ((zaZ a s.lock k).1,{ s with lock:=(zaZ a s.lock k).2.1 },(zaZ a s.lock k).2.2)
def zfs(a:zy)(s:Section)(k n:Int):zy×Section×Int:=
 if s.phase=0 then zhg a s k else if s.phase=1 then zfr a s k else if s.phase=2 then zfq a s else if s.phase=3 then zih a s n else if s.phase=5 then zft a s k
 else if s.phase=6 then zfp a s else if s.phase=7 then zfu a s k else if s.phase=8 then zhf a s k else (a,s,7)
def zct(a:zy)(s:Section)(k n:Int):zy×Section×Int:=if (zfs a s k n).2.2≠0 then (zM,zbe,(zfs a s k n).2.2) else zfs a s k n
def z8(s:Section):zb1:=⟨s.shards,s.dead,[],[],[]⟩
def zkO(n:Int)(l:List Int):Bool:=decide ((∀o∈l,0<=o/\o<n)/\l.Nodup)
def zeK(s:Section)(o:zb1):Section×Int:=
 if s.phase≠4 then (zbe,7) else if o.shards.length≠s.shards.length\/1<o.edits.length then (zbe,1) else if zkO s.lock.cells.length o.order=false then (zbe,1)
 else if 0<o.order.length then (z5 { s with out:=o } 5,0) else if 0<o.edits.length then (z5 { s with out:=o } 6,0)
 else ((zcn zM { s with out:=o }).2.1,(zcn zM { s with out:=o }).2.2)
def inI(n lo hi:Int):Bool:=decide (lo<=n/\n<=hi)
def zgB(r:Int):Walk×Int:=if r<0\/65536<=r then (zdc,1) else (⟨r,0⟩,0)
def zfz(w:Walk)(lo hi:Int):Walk×Int:=if lo<0\/w.next<lo\/hi<w.next\/65536<=hi\/w.covered<0\/65536<=w.covered then (zdc,1) else (⟨(hi+1).tmod 65536,w.covered+hi - w.next+1⟩,0)
def zgC(w:Walk):Bool:=decide (65536<=w.covered)
def zbM(i:zaeE)(s:Setup):Int:=
 if i.kind=1 then (if i.bodies.length=0\/6<i.bodies.length then 2 else if (i.bodies.any fun b=>decide (16<b.length))=true then 2 else 0)
 else if i.kind=2\/i.kind=8 then (if inI i.home 0 (s.slots - 1)=false\/inI i.max 1 6=false\/i.kind=2/\inI i.visibility 0 1000=false then 1 else 0)
 else if 3<=i.kind/\i.kind<=5 then (if i.tokens.length=0\/6<i.tokens.length then 2 else if i.kind=5/\inI i.visibility 0 1000=false then 1 else 0)
 else if 9<=i.kind/\i.kind<=11 then (if inI i.from_ 0 (s.slots - 1)=false\/inI i.to 0 (s.slots - 1)=false\/i.from_=i.to then 1 else 0)
 else if i.kind=12\/i.kind=14 then (if inI i.from_ 0 (s.slots - 1)=false then 1 else 0)
 else if i.kind=13 then (if i.from_<0\/s.slots<i.from_ then 1 else 0)
 else if i.kind=6\/i.kind=7 then 0 else 9
def zcX(i:zaeE):Int:=if i.kind=1 then i.bodies.length else if 3<=i.kind/\i.kind<=5 then i.tokens.length else 1
def za3(s:Setup):Bool:=inI s.slots 1 6&&(inI s.live 1 s.slots&&(inI s.capacity 1 12&&(inI s.dead 1 24&&(inI s.limit 1 8&&(inI s.clock 0 1073741824&&(inI s.nextID 1 1073741824&&inI s.epoch 0 65536))))))
def zex(number:Int)(i:zaeE)(s:Setup)(n:Int):Task×Int:=
 if number<1\/200<number\/n<0 then (zE,1) else if za3 s=false then (zE,1) else if zbM i s≠0 then (zE,zbM i s) else ({ zE with number:=number,inv:=i,setup:=s,invoked:=n },0)
def zba(t:Task)(r:Result)(n:Int):Task:=
 { zE with number:=t.number,inv:=t.inv,setup:=t.setup,invoked:=t.invoked,entry:=t.entry+1,done:=if t.entry+1=zcX t.inv then true else t.done,ended:=if t.entry+1=zcX t.inv then n else t.ended,results:=t.results++[r] }
def zan(t:Task)(lo hi:Int):Int:=if t.done=true then 7 else if t.inv.kind<lo\/hi<t.inv.kind then 9 else 0
def zb8(t:Task)(cells:List Int)(pc:Int):Task:={ t with sec:=(zdl cells t.setup.limit).1,pc:=pc }
def zeo(a b:Int):List Int:=if a<b then [a,b] else [b,a]
def goT(a:zy)(t:Task)(n:Int):zy×Task×Bool×Bool×Int:=
 if (zct a t.sec t.number n).2.2≠0 then (zM,zE,false,false,(zct a t.sec t.number n).2.2)
 else ((zct a t.sec t.number n).1,{ t with sec:=(zct a t.sec t.number n).2.1 },decide ((zct a t.sec t.number n).2.1.phase=4),decide ((zct a t.sec t.number n).2.1.phase=9),0)
def za5(t:Task)(o:zb1):Task:={ t with sec:=(zeK t.sec o).1 }
def evT(t:Task)(kind n:Int):Event:={ zbw with stamp:=n,task:=t.number,entry:=t.entry,kind:=kind }
def zb9(t:Task)(kind:Int):Event:={ zbw with stamp:=t.sec.snap.stamp,task:=t.number,entry:=t.entry,kind:=kind,now:=t.sec.snap.clock,epoch:=t.sec.snap.epoch }
def zg4(a:zy)(t:Task)(route pc:Int):Task:=zb8 { t with dir:=a.dir,slot:=zem a.dir route } [zem a.dir route] pc
def zaO(e:Int):Result:={ zac with err:=e }
def zci(a:zy)(t:Task)(n:Int):zy×Task×List Event×Int:=
 if zan t 6 6≠0 then (zM,zE,[],zan t 6 6)
 else if t.pc=0 then (if a.epoch=65536 then (a,zba { t with loaded:=a.epoch } (zaO 6) n,[{ evT t 7 n with err:=6 }],0) else (a,{ t with loaded:=a.epoch,pc:=1 },[],0))
 else
  let c:=casWord a 1 t.loaded (t.loaded+1)
  if c.2.2≠0 then (zM,zE,[],c.2.2) else if c.2.1=false then (c.1,{ t with pc:=0 },[],0) else (c.1,zba t zac n,[{ evT t 7 n with epoch:=t.loaded+1 }],0)
def zs0(l:List zaeF):Bool:=l.all fun s=> !zh3 s
def zdy(a:zy)(t:Task)(n:Int):zy×Task×List Event×Int:=
 if zan t 7 7≠0 then (zM,zE,[],zan t 7 7)
 else if t.pc=0 then (a,{ t with loaded:=a.epoch,first:=[],second:=[],pc:=1 },[],0)
 else if t.pc=1 then
  (let s:=zed a t.first.length
   if s.2≠0 then (zM,zE,[],s.2)
   else
    let l:=t.first++[s.1]
    (a,{ t with first:=l,pc:=if (l.length:Int)=t.setup.slots then (if zs0 l=true then 2 else 0) else t.pc },[],0))
 else if t.pc=2 then
  (let s:=zed a t.second.length
   if s.2≠0 then (zM,zE,[],s.2)
   else
    let l:=t.second++[s.1]
    (a,{ t with id:=if t.second.length=0 then n else t.id,second:=l,pc:=if (l.length:Int)=t.setup.slots then (if t.first=l then 3 else 0) else t.pc },[],0))
 else if a.epoch≠t.loaded then (a,{ t with pc:=0 },[],0)
 else
  let p:=zdV t.first a.epoch t.first.length
  (a,zba t { zac with ready:=p.1,leased:=p.2 } n,[{ evT t 8 t.id with epoch:=a.epoch,ready:=p.1,leased:=p.2 }],0)
theorem zDy(a:Int)(m:Int)(h0:0<=m)(h1:m<=4294967295):0<=zjL .i64 a m/\zjL .i64 a m<=m:=by
 unfold zjL;have e:(BitVec.ofInt IntKind.i64.bits m).toNat=m.toNat:=by
  show (BitVec.ofInt 64 m).toNat=m.toNat;rw[BitVec.toNat_ofInt];omega
 have h2:(BitVec.ofInt IntKind.i64.bits a &&& BitVec.ofInt IntKind.i64.bits m).toNat<=m.toNat:=by
  rw[BitVec.toNat_and,e];exact Nat.and_le_right
 rw[wr zo];omega
theorem zabb(a b:Int)(ha:0<=a/\a<65536)(hb:0<=b/\b<65536):0<=zjp .i64 a b/\zjp .i64 a b<65536:=by
 unfold zjp;have e:∀m:Int,0<=m->m<65536->(BitVec.ofInt IntKind.i64.bits m).toNat=m.toNat:=fun m h0 h1=>by
  show (BitVec.ofInt 64 m).toNat=m.toNat;rw[BitVec.toNat_ofInt];omega
 have h2:(BitVec.ofInt IntKind.i64.bits a ^^^ BitVec.ofInt IntKind.i64.bits b).toNat<65536:=by
  rw[BitVec.toNat_xor,e a ha.1 ha.2,e b hb.1 hb.2];exact Nat.xor_lt_two_pow (n:=16) zo zo
 rw[wr zo];omega
def ztJ(b:List UInt8)(p:Nat×Int):St:=⟨[(0,.d (.sl (byD b))),(3,.d (.int .i64 p.2)),(4,.d (.int .i64 p.1))],[]⟩
def zQR(r:Option (zX×St)):Prop:=∃h:Int,0<=h/\h<=4294967295/\r=some (.exit 0,⟨[(3,.d (.int .i64 h))],[]⟩)
theorem z9X(b:List UInt8)(hL:b.length<=1000):∀p:Nat×Int,p.1<=b.length/\0<=p.2/\p.2<=4294967295->zQR (z6 G [] zAB (ztJ b p)):=by
 refine zsO (fun p:Nat×Int=>b.length - p.1) _ (ztJ b) (fun _=>zfF zQR) fun⟨i,h⟩ ⟨h1,h2,h3⟩ L ih=> ?_;simp only at h1 h2 h3;simp only[ztJ,zAB] at ih ⊢
 by_cases h0:i<b.length
 ·have hlt:=b[i].toNat_lt;have hg:(byD b)[i]? = some (.int .u8 b[i].toNat):=by unfold byD;simp [zabx h0]
  have hlen:(byD b).length=b.length:=by unfold byD;simp
  have ha:=fun a=>zDy a 4294967295 zo zo;simp -implicitDefEqProofs (maxSteps:=4000000) (disch:=omega) only[zh,go_sem, *];exact ih (i+1,_) ⟨by simp only;omega,(ha _).1,(ha _).2⟩ (by simp only;omega)
 ·have hlen:(byD b).length=b.length:=by unfold byD;simp
  clear ih;simp -implicitDefEqProofs (maxSteps:=4000000) (disch:=omega) only[zh,go_sem, *];exact⟨h,h2,h3,rfl⟩
theorem zQS(b:List UInt8)(hL:b.length<=1000):∃h:Int,0<=h/\h<=4294967295/\zi G 168 [.d (.sl (byD b))] []=some (.d (.int .i64 h),[]):=by
 obtain⟨h,h1,h2,hl⟩:=z9X b hL (0,2166136261) ⟨by simp,by simp,by simp⟩;simp only[ztJ] at hl;simp only[zNr,srcO] at hl;refine⟨h,h1,h2,?_⟩;exact zW
theorem zgA(x:Int):∃c:UInt8,IntKind.u8.wrap x=c.toNat:=by
 have h:=zfc .u8 x;simp only[IntKind.has,IntKind.min,IntKind.max,IntKind.bits,IntKind.signed] at h;simp at h;exact⟨UInt8.ofNat (IntKind.u8.wrap x).toNat,by rw[UInt8.toNat_ofNat'];omega⟩
theorem byS(b:List UInt8):zas 1 (byD b)=true:=by
 unfold byD
 induction b with
 | nil=>rfl
 | cons a l ih=>simp only[zabs,zas,zacn];exact Bool.and_eq_true_iff.2 ⟨rfl,ih⟩
theorem zBL(b:List UInt8)(hb:b.length<=100)(n:Int)(h0:0<=n)(h1:n<=4294967295):∃c:List UInt8,c.length=4/\zi G 127 [.d (.sl (byD b)),.d (.int .i64 n),.d (.int .i64 4)] []=some (.tup [.acc 0 (byD b++byD c),.d (.int .i64 0)],[(0,.acc (b.length+4))]):=by
 have hlen:(byD b).length=b.length:=by unfold byD;simp
 have hS:=byS b;obtain⟨c1,e1⟩:=zgA (n.fdiv (2 ^ (min 24 64:Nat)));obtain⟨c2,e2⟩:=zgA (n.fdiv (2 ^ (min 16 64:Nat)));obtain⟨c3,e3⟩:=zgA (n.fdiv (2 ^ (min 8 64:Nat)));obtain⟨c4,e4⟩:=zgA (n.fdiv (2 ^ (min 0 64:Nat)));have hw:¬IntKind.i64.wrap (1 * 2 ^ (min 32 64:Nat))<=n:=by
  have:IntKind.i64.wrap (1 * 2 ^ (min 32 64:Nat))=4294967296:=by decide
  omega
 refine⟨[c1,c2,c3,c4],rfl,?_⟩;have hc:byD [c1,c2,c3,c4]=[.int .u8 c1.toNat,.int .u8 c2.toNat,.int .u8 c3.toNat,.int .u8 c4.toNat]:=rfl;rw[hc];generalize byD b=bb at *;rw[zI zzb (by simp)];simp -implicitDefEqProofs (maxSteps:=4000000) (disch:=omega) only[zl0,zaC,zmG,zh,go_sem, *];(try simp only[zPr]);repeat' (first|done|rfl|((first|refine zad (fun hq=> ?_) (fun hq=> ?_)|refine zaj (fun hq=> ?_) (fun hq=> ?_))<;>(try (first|(exfalso;omega)|contradiction))<;>(try simp -implicitDefEqProofs (maxSteps:=4000000) (disch:=omega) only[zaC,zmG,zh,go_sem, *])<;>(try simp only[zPr])));(all_goals try rfl);(all_goals try (repeat' (first|done|rfl|(exfalso;omega)|contradiction|(refine zae (fun hq=> ?_) (fun hq=> ?_)))))
 simp only[zab9,zabN,zabJ]
theorem z5s(b:List UInt8)(hb:b.length<=100)(n:Int)(h0:0<=n)(h1:n<=16777215):∃c:List UInt8,c.length=3/\zi G 127 [.d (.sl (byD b)),.d (.int .i64 n),.d (.int .i64 3)] []=some (.tup [.acc 0 (byD b++byD c),.d (.int .i64 0)],[(0,.acc (b.length+3))]):=by
 have hlen:(byD b).length=b.length:=by unfold byD;simp
 have hS:=byS b;obtain⟨c1,e1⟩:=zgA (n.fdiv (2 ^ (min 16 64:Nat)));obtain⟨c2,e2⟩:=zgA (n.fdiv (2 ^ (min 8 64:Nat)));obtain⟨c3,e3⟩:=zgA (n.fdiv (2 ^ (min 0 64:Nat)));have hw:¬IntKind.i64.wrap (1 * 2 ^ (min 24 64:Nat))<=n:=by
  have:IntKind.i64.wrap (1 * 2 ^ (min 24 64:Nat))=16777216:=by decide
  omega
 refine⟨[c1,c2,c3],rfl,?_⟩;have hc:byD [c1,c2,c3]=[.int .u8 c1.toNat,.int .u8 c2.toNat,.int .u8 c3.toNat]:=rfl;rw[hc];generalize byD b=bb at *;rw[zI zzb (by simp)];simp -implicitDefEqProofs (maxSteps:=4000000) (disch:=omega) only[zl0,zaC,zmG,zh,go_sem, *];simp only[zab9,zabN,zabJ]
theorem z5r(b:List UInt8)(hb:b.length<=100)(n:Int)(h0:0<=n)(h1:n<=65535):∃c:List UInt8,c.length=2/\zi G 127 [.d (.sl (byD b)),.d (.int .i64 n),.d (.int .i64 2)] []=some (.tup [.acc 0 (byD b++byD c),.d (.int .i64 0)],[(0,.acc (b.length+2))]):=by
 have hlen:(byD b).length=b.length:=by unfold byD;simp
 have hS:=byS b;obtain⟨c1,e1⟩:=zgA (n.fdiv (2 ^ (min 8 64:Nat)));obtain⟨c2,e2⟩:=zgA (n.fdiv (2 ^ (min 0 64:Nat)));have hw:¬IntKind.i64.wrap (1 * 2 ^ (min 16 64:Nat))<=n:=by
  have:IntKind.i64.wrap (1 * 2 ^ (min 16 64:Nat))=65536:=by decide
  omega
 refine⟨[c1,c2],rfl,?_⟩;have hc:byD [c1,c2]=[.int .u8 c1.toNat,.int .u8 c2.toNat]:=rfl;rw[hc];generalize byD b=bb at *;rw[zI zzb (by simp)];simp -implicitDefEqProofs (maxSteps:=4000000) (disch:=omega) only[zl0,zaC,zmG,zh,go_sem, *];simp only[zab9,zabN,zabJ]
theorem ztx(id:Int):∃r:Int,0<=r/\r<65536/\zi G 140 [.d (.int .i64 id)] []=some (.d (.int .i64 r),[]):=by
 by_cases h0:id<0
 ·refine⟨0,by omega,by omega,?_⟩;exact zW
 ·by_cases h1:1073741824<id
  ·refine⟨0,by omega,by omega,?_⟩;exact zW
  ·obtain⟨b,hb,hp⟩:=zBL [] (by simp) id zo zo;have hn:byD []=[]:=rfl;rw[hn] at hp;simp only[zabJ,zabw,zabU] at hp;obtain⟨h,g0,g1,hs⟩:=zQS b zo;have hf:Int.fdiv h (2 ^ (min 16 64:Nat))=h / 65536:=by
    show Int.fdiv h 65536=h / 65536;rw[zaeA _ zo]
   have hx:=zabb (h / 65536) (zjL .i64 h 65535) zo (by have:=zDy h 65535 zo zo;omega);refine⟨zjp .i64 (h / 65536) (zjL .i64 h 65535),hx.1,hx.2,?_⟩;exact zW
def zAu(r lo hi:Int):Int:=if lo<=r/\r<=hi then r else lo+r.tmod (hi - lo+1)
theorem zX6(r lo hi:Int)(h0:0<=r)(h1:r<65536)(h2:0<=lo)(h3:lo<=hi)(h4:hi<65536):zi G 179 [.d (.int .i64 r),.d (.int .i64 lo),.d (.int .i64 hi)] []=some (.d (.int .i64 (zAu r lo hi)),[]):=by
 unfold zAu;have hm:=zadT r (show 0<hi - lo+1 by omega);have hm2:=zadS (hi - lo+1) h0;have hne:¬hi - lo+1=0:=by omega
 by_cases c:lo<=r/\r<=hi
 ·rw[zabo c];obtain⟨c1,c2⟩:=c;exact zW
 ·rw[zabn c]
  by_cases c1:lo<=r
  ·have c2:¬r<=hi:=fun h=>c ⟨c1,h⟩;clear c;exact zW
  ·clear c;exact zW
def zbk(l:List zG)(id:Int):Nat:=(l.filter fun x=>decide (x.msg.id<id)).length
theorem zMY(l:List zG)(id:Int):zbk l id<=l.length:=zacF _ _
theorem zgs{l:List zG}(h:l.Pairwise fun x y=>x.msg.id<y.msg.id){id:Int}:∀ {k:Nat} (hk:k<l.length),k<zbk l id↔l[k].msg.id<id:=by
 induction l with
 | nil=>intro k hk;exact absurd hk (by simp)
 | cons x l ih=>
  intro k hk;obtain⟨h1,h2⟩:=zadd.1 h
  by_cases hx:x.msg.id<id
  ·have e:zbk (x::l) id=zbk l id+1:=by simp [zbk,hx]
   rw[e]
   cases k with
   | zero=>simp [hx]
   | succ k=>have:=ih h2 (k:=k) (by simpa using hk);simp only[zadZ];rw[<- this];omega
  ·have e:zbk (x::l) id=0:=by
      unfold zbk;rw[zacc,zaeq];intro y hy;simp only[decide_eq_true_eq]
      rcases zab4.1 hy with rfl|hy
      ·exact hx
      ·have:=h1 y hy;omega
   rw[e];have hle:id<=((x::l)[k]).msg.id:=by
    cases k with
    | zero=>simp only[List.getElem_cons_zero];omega
    | succ k=>simp only[zadZ];have:=h1 _ (zabC (l:=l) (n:=k) (by simpa using hk));omega
   omega
theorem zHC{l:List zG}(h:l.Pairwise fun x y=>x.msg.id<y.msg.id)(id:Int):(0<=zag l id)↔∃hp:zbk l id<l.length,l[zbk l id].msg.id=id:=by
 constructor
 ·intro h0;obtain⟨k,hk,e1,e2⟩:=zmb h0;have a1:=zgs h (id:=id) hk;have hle:zbk l id<=k:=by omega
  have hpl:zbk l id<l.length:=by omega
  have a2:=zgs h (id:=id) hpl;refine⟨hpl,?_⟩;have:¬zbk l id<k:=fun hlt=>by
   have:=zacu.1 h (zbk l id) k hpl hk hlt;omega
  have:zbk l id=k:=by omega
  simp only[this,e2]
 ·rintro⟨hp,e⟩;have:=zvq h hp;rw[e] at this;omega
theorem zVX{l:List zG}(h:l.Pairwise fun x y=>x.msg.id<y.msg.id){id:Int}(h0:0<=zag l id):zag l id=zbk l id:=by
 obtain⟨hp,e⟩:=(zHC h id).1 h0;have:=zvq h hp
 rwa [e] at this
theorem zhl{t:zN}(h:zao t=0):t.l.length<=12/\zee t.l=0/\zce t.heap=0/\zkB t=true:=by
 unfold zao at h
 split at h
 ·cases h
 split at h
 ·omega
 split at h
 ·omega
 split at h
 ·rename_i h1 h2 h3 h4;exact⟨by omega,by simpa using h2,by simpa using h3,h4⟩
 ·cases h
theorem z7q(h:List Due)(id:Int)(hL:h.length<=4294967296):(zb6 h id).1.length<=4294967296:=by
 unfold zb6
 split
 ·simp
 ·rename_i h0;have o:=(zfx h).1 (by simpa using h0)
  split
  ·simp
  ·rename_i h1;have hlt:=zHA h id;have:=(zl7 o (zbh h id).toNat zo).2.length_eq;simp only[zabu] at this;have hh:=o.len;show (zdB h (zbh h id).toNat).length<=_;omega
def zdJ(l:List zG)(m:zj)(d:Int):List zG:=l.take (zbk l m.id)++[⟨m,d⟩]++l.drop (zbk l m.id)
def zea(t:zN)(m:zj)(d:Int):Int:=
 if zao t≠0 then zao t else if zap m≠0 then zap m else if m.gen=0 then 7 else if ¬(0<=d/\d<=1073741824) then 1 else if t.l.length=12 then 3 else if 0<=zag t.l m.id then 10 else (zfj t.heap (d,m.id)).2
def zaF(t:zN)(m:zj)(d:Int):zN×Int:=if zea t m d=0 then (⟨zdJ t.l m d,(zfj t.heap (d,m.id)).1⟩,0) else (zal,zea t m d)
def zdF(t:zN)(id:Int):zG×Bool:=if zao t=0/\0<=zag t.l id then (t.l.getD (zag t.l id).toNat zbH,true) else (zbH,false)
def zfR(l:List zG)(i:Nat):List zG:=l.take i++l.drop (i+1)
def zeX(t:zN)(id:Int):Int:=if zao t≠0 then zao t else if ¬0<=zag t.l id then 4 else (zb6 t.heap id).2
def zaf(t:zN)(id:Int):zN×zj×Int:=if zeX t id=0 then (⟨zfR t.l (zag t.l id).toNat,(zb6 t.heap id).1⟩,(t.l.getD (zag t.l id).toNat zbH).msg,0) else (zal,zaa,zeX t id)
def zdE(t:zN)(id d:Int):Int:=if zao t≠0 then zao t else if ¬0<=zag t.l id then 4 else if ¬(0<=d/\d<=1073741824) then 1 else if (zb6 t.heap id).2≠0 then (zb6 t.heap id).2 else (zfj (zb6 t.heap id).1 (d,id)).2
def znx(l:List zG)(i:Nat)(d:Int):List zG:=l.set i { l.getD i zbH with deadline:=d }
def za9(t:zN)(id d:Int):zN×Int:=if zdE t id d=0 then (⟨znx t.l (zag t.l id).toNat d,(zfj (zb6 t.heap id).1 (d,id)).1⟩,0) else (zal,zdE t id d)
theorem zfg(l:List zG):zee l=0↔(l.Pairwise fun x y=>x.msg.id<y.msg.id)/\∀x∈l,zap x.msg=0/\x.msg.gen≠0/\0<=x.deadline/\x.deadline<=1073741824:=by
 have h0:zee l=0↔∀i,i<l.length->zff l i=0:=by
  rcases zA6 l with ⟨k,h1,h2,h3⟩|⟨h1,h2⟩
  ·constructor
   ·intro h;omega
   ·intro h;have:=List.mem_of_find?_eq_some h1;exact absurd (h k (zack.1 this)) h2
  ·refine⟨fun _ i hi=> ?_,fun _=>h2⟩;have:=List.find?_eq_none.1 h1 i (zack.2 hi);unfold zgo at this;simpa using this
 constructor
 ·intro h;refine⟨zhW h,fun x hx=> ?_⟩;obtain⟨i,hi,rfl⟩:=zadc hx;have:=h0.1 h i hi;unfold zff at this;rw[zh hi] at this
  split at this
  ·omega
  split at this
  ·omega
  split at this
  ·omega
  rename_i q1 q2 q3;exact⟨by simpa using q1,q2,by omega,by omega⟩
 ·rintro⟨ha,hx⟩;refine h0.2 fun i hi=> ?_;obtain⟨p1,p2,p3,p4⟩:=hx _ (zabC hi);unfold zff;rw[zh hi,zabn (by simpa using p1),zabn p2,zabn zo,zabn];rintro⟨q1,q2⟩;rw[zh (show i - 1<l.length by omega)] at q2;have:=zacu.1 ha (i - 1) i zo hi zo;omega
theorem zdr(t:zN):zao t=0↔t.l.length<=12/\zee t.l=0/\Ok t.heap/\t.heap.Perm (t.l.map zbx):=by
 constructor
 ·intro h;obtain⟨h1,h2,h3,h4⟩:=zhl h;have o:=(zfx _).1 h3;have ha:=zhW h2;have hR:zkC t=true:=by rw[<- zMn h2 h3];exact h4
  obtain⟨e,q⟩:=(zMm ha).1 hR;obtain⟨_,q2⟩:=zBj.1 h4;refine⟨h1,h2,o,(List.perm_ext_iff_of_nodup ?_ (zDD ha)).2 fun d=>⟨q d,q2 d⟩⟩;exact List.Pairwise.of_map (fun d:Due=>d.2) (fun a b hab e=>hab (by rw[e])) o.ids
 ·rintro⟨h1,h2,o,hp⟩;have h3:=(zfx _).2 o;have h4:zkB t=true:=zBj.2 ⟨by rw[hp.length_eq];simp,fun d hd=>hp.mem_iff.2 hd⟩;unfold zao;rw[zabn zo,zabn (by simpa using h2),zabn (by simpa using h3),zabo h4]
theorem zLI{t:zN}(h:t.heap.Perm (t.l.map zbx))(id:Int):id∈t.heap.map (·.2)↔∃x∈t.l,x.msg.id=id:=by
 constructor
 ·intro hm;obtain⟨d,hd,e⟩:=zaby.1 hm;obtain⟨x,hx,e2⟩:=zaby.1 (h.mem_iff.1 hd);exact⟨x,hx,by rw[<- e, <- e2];rfl⟩
 ·rintro⟨x,hx,e⟩;exact zaby.2 ⟨zbx x,h.mem_iff.2 (zaby.2 ⟨x,hx,rfl⟩),e⟩
theorem zhH{l:List zG}(id:Int):0<=zag l id↔∃x∈l,x.msg.id=id:=by
 constructor
 ·intro h;obtain⟨k,hk,_,e⟩:=zmb h;exact⟨l[k],zabC hk,e⟩
 ·rintro⟨x,hx,e⟩
  by_cases h:0<=zag l id
  ·exact h
  ·exact absurd e (zvr zo x hx)
theorem zDd{m:zj}{d:Int}(hm:zap m=0)(h0:0<=d)(h1:d<=1073741824):zdZ (d,m.id)=true:=by
 unfold zap at hm
 split at hm
 ·rename_i h;unfold zdZ;simp;omega
 ·cases hm
theorem zBK{t:zN}{m:zj}{d:Int}(h:zao t=0)(hm:zap m=0)(h0:0<=d)(h1:d<=1073741824)(hl:t.l.length≠12)(hf:zag t.l m.id<0):
    zfj t.heap (d,m.id)=(zfk t.heap (d,m.id),0)/\Ok (zfk t.heap (d,m.id))/\(zfk t.heap (d,m.id)).Perm ((d,m.id)::t.heap):=by
 obtain⟨q1,q2,q3,q4⟩:=(zdr t).1 h;refine zBJ q3 (zDd hm h0 h1) (by have:=q4.length_eq;simp at this;omega) fun hc=> ?_;have:=(zhH m.id).2 ((zLI q4 m.id).1 hc);omega
theorem zhT(l:List zG)(m:zj)(d:Int):(zdJ l m d).Perm (⟨m,d⟩::l):=by
 unfold zdJ;have:=zade (a:=(⟨m,d⟩:zG)) (l₁:=l.take (zbk l m.id)) (l₂:=l.drop (zbk l m.id));rw[zaet] at this;rw[zab9];exact this
theorem zX3{l:List zG}(h:l.Pairwise fun x y=>x.msg.id<y.msg.id){m:zj}{d:Int}(hn:∀x∈l,x.msg.id≠m.id):(zdJ l m d).Pairwise fun x y=>x.msg.id<y.msg.id:=by
 unfold zdJ;have hlt:∀x∈l.take (zbk l m.id),x.msg.id<m.id:=fun x hx=>by
  obtain⟨k,hk,rfl⟩:=zadc hx;simp only[zac9] at hk;rw[List.getElem_take];exact (zgs h zo).1 zo
 have hgt:∀x∈l.drop (zbk l m.id),m.id<x.msg.id:=fun x hx=>by
  obtain⟨k,hk,rfl⟩:=zadc hx;simp only[zadA] at hk;rw[List.getElem_drop];have h1:=zgs h (id:=m.id) (k:=zbk l m.id+k) zo;have h2:=hn _ (zabC (l:=l) (n:=zbk l m.id+k) zo);omega
 rw[zab9,List.pairwise_append];refine⟨h.sublist (List.take_sublist ..),?_,fun a ha b hb=> ?_⟩
 ·rw[zadb,zadd];exact⟨fun x hx=>hgt x hx,h.sublist (List.drop_sublist ..)⟩
 ·rw[zadb,zab4] at hb;have h1:=hlt a ha
  rcases hb with rfl|hb
  ·exact h1
  ·have:=hgt b hb;omega
theorem zIT{t:zN}{m:zj}{d:Int}(h:(zaF t m d).2=0):zao (zaF t m d).1=0/\zao t=0/\(zaF t m d).1.l=zdJ t.l m d/\zag t.l m.id<0:=by
 have hE:zea t m d=0:=by
  unfold zaF at h
  split at h
  ·assumption
  ·rename_i hc;exact absurd h hc
 unfold zaF;rw[zabo hE];unfold zea at hE
 split at hE
 ·omega
 split at hE
 ·omega
 split at hE
 ·cases hE
 split at hE
 ·cases hE
 split at hE
 ·cases hE
 split at hE
 ·cases hE
 rename_i h1 h2 h3 h4 h5 h6;have h1:zao t=0:=by simpa using h1
 have h2:zap m=0:=by simpa using h2
 obtain⟨p1,p2,p3⟩:=zBK h1 h2 zo (by omega:d<=1073741824) h5 zo;obtain⟨q1,q2,q3,q4⟩:=(zdr t).1 h1;obtain⟨r1,r2⟩:=(zfg _).1 q2;have hn:∀x∈t.l,x.msg.id≠m.id:=zvr zo;refine⟨(zdr _).2 ⟨?_,(zfg _).2 ⟨zX3 r1 hn,fun x hx=> ?_⟩,?_,?_⟩,h1,rfl,by omega⟩
 ·have:=(zhT t.l m d).length_eq;simp only[zabu] at this;show (zdJ t.l m d).length<=12;omega
 ·rcases zab4.1 ((zhT t.l m d).mem_iff.1 hx) with rfl|hx
  ·exact⟨h2,h3,by simp only;omega,by simp only;omega⟩
  ·exact r2 x hx
 ·rw[p1];exact p2
 ·rw[p1];show (zfk t.heap (d,m.id)).Perm ((zdJ t.l m d).map zbx);exact p3.trans (((List.Perm.cons _ q4)).trans ((zhT t.l m d).map zbx).symm)
theorem zXF{t:zN}{m:zj}{d:Int}(h:zao t=0)(hm:zap m=0)(hg:m.gen≠0)(h0:0<=d)(h1:d<=1073741824)(hl:t.l.length≠12)(hf:zag t.l m.id<0):(zaF t m d).2=0:=by
 have hp:=(zBK h hm h0 h1 hl hf).1;have:zea t m d=0:=by
  unfold zea;rw[zabn (by simpa using h),zabn (by simpa using hm),zabn hg,zabn zo,zabn hl,zabn zo,hp]
 unfold zaF;rw[zabo this]
theorem zGS(l:List zG)(i:Nat):zfR l i=l.eraseIdx i:=by rw[zfR,zaes]
theorem zvf{l:List zG}{i:Nat}(hi:i<l.length):(l[i]::zfR l i).Perm l:=by
 have h1:=zade (a:=l[i]) (l₁:=l.take i) (l₂:=l.drop (i+1));rw[<- zabX hi,zaet] at h1;exact h1.symm
theorem zUg{t:zN}(h:zao t=0){k:Nat}(hk:k<t.l.length){d:Due}(hd:d∈t.heap)(e:d.2=t.l[k].msg.id):d=zbx t.l[k]:=by
 obtain⟨q1,q2,q3,q4⟩:=(zdr t).1 h;obtain⟨x,hx,e2⟩:=zaby.1 (q4.mem_iff.1 hd);obtain⟨j,hj,rfl⟩:=zadc hx;have:j=k:=zDC (zhW q2) hj hk (by rw[<- e, <- e2];rfl);subst this;exact e2.symm
theorem zafO{t:zN}{id:Int}(h:zao t=0)(hf:0<=zag t.l id):∃k,∃hk:k<t.l.length,zag t.l id=k/\t.l[k].msg.id=id/\(zb6 t.heap id).2=0/\Ok (zb6 t.heap id).1/\(zbx t.l[k]::(zb6 t.heap id).1).Perm t.heap:=by
 obtain⟨q1,q2,q3,q4⟩:=(zdr t).1 h;obtain⟨k,hk,e1,e2⟩:=zmb hf;refine⟨k,hk,e1,e2,?_⟩;have hin:id∈t.heap.map (·.2):=(zLI q4 id).2 ⟨_,zabC hk,e2⟩;have h0:¬zbh t.heap id<0:=fun hc=>(zHB _ _).1 hc hin;have hlt:=zHA t.heap id;obtain⟨d1,d2⟩:=zl7 q3 (zbh t.heap id).toNat zo;have hat:=zVW t.heap id zo;have hr:zb6 t.heap id=(zdB t.heap (zbh t.heap id).toNat,0):=by
  unfold zb6;rw[zabn (by simpa using (zfx _).2 q3),zabn h0]
 rw[hr];refine⟨rfl,d1,?_⟩;have:t.heap.getD (zbh t.heap id).toNat dz=zbx t.l[k]:=by
  refine zUg h hk ?_ (by rw[hat,e2]);rw[zh (show (zbh t.heap id).toNat<t.heap.length by omega)];exact zabC _
 rw[<- this];exact d2
theorem zCD{t:zN}{id:Int}(h:zao t=0):(zaf t id).2.2=0↔0<=zag t.l id:=by
 constructor
 ·intro h0
  by_cases hf:0<=zag t.l id
  ·exact hf
  ·have e:zeX t id=4:=by unfold zeX;rw[zabn (by simpa using h),zabo hf]
   unfold zaf at h0;rw[e,zabn (by decide)] at h0
   cases h0
 ·intro hf;obtain⟨k,hk,e1,e2,e3,_⟩:=zafO h hf;have e:zeX t id=0:=by unfold zeX;rw[zabn (by simpa using h),zabn zo,e3]
  unfold zaf;rw[zabo e]
theorem zCE{t:zN}{id:Int}(h:(zaf t id).2.2=0):zao (zaf t id).1=0/\zao t=0/\∃k,∃hk:k<t.l.length,zag t.l id=k/\t.l[k].msg.id=id/\(zaf t id).1.l=zfR t.l k/\(zaf t id).2.1=t.l[k].msg:=by
 have hE:zeX t id=0:=by
  unfold zaf at h
  split at h
  ·assumption
  ·rename_i hc;exact absurd h hc
 have h1:zao t=0:=by
  unfold zeX at hE
  split at hE
  ·omega
  ·rename_i hc;simpa using hc
 have hf:0<=zag t.l id:=(zCD h1).1 h;obtain⟨k,hk,e1,e2,e3,e4,e5⟩:=zafO h1 hf;obtain⟨q1,q2,q3,q4⟩:=(zdr t).1 h1;obtain⟨r1,r2⟩:=(zfg _).1 q2;have hd:zaf t id=(⟨zfR t.l k,(zb6 t.heap id).1⟩,t.l[k].msg,0):=by
  unfold zaf;rw[zabo hE,e1,zab5,zh hk]
 rw[hd];refine⟨(zdr _).2 ⟨?_,(zfg _).2 ⟨?_,fun x hx=> ?_⟩,e4,?_⟩,h1,k,hk,e1,e2,rfl,rfl⟩
 ·have:=(zvf hk).length_eq;simp only[zabu] at this;show (zfR t.l k).length<=12;omega
 ·show (zfR t.l k).Pairwise _;rw[zGS];exact r1.sublist (List.eraseIdx_sublist ..)
 ·exact r2 x ((zvf hk).mem_iff.1 (zaep _ hx))
 ·show (zb6 t.heap id).1.Perm ((zfR t.l k).map zbx);have h1:=e5.trans (q4.trans ((zvf hk).map zbx).symm);exact List.Perm.cons_inv h1
theorem zQy{l:List zG}{k:Nat}(hk:k<l.length)(d:Int):znx l k d=l.set k ⟨l[k].msg,d⟩:=by
 unfold znx;rw[zh hk]
theorem z81{l:List Due}{k:Nat}(hk:k<l.length)(b:Due):(l[k]::l.set k b).Perm (b::l):=by
 have:=zQz l k b hk
 rwa [zh hk] at this
theorem zvo{t:zN}{id d:Int}(h:zao t=0):(za9 t id d).2=0↔0<=zag t.l id/\0<=d/\d<=1073741824:=by
 constructor
 ·intro h0
  by_cases hf:0<=zag t.l id
  ·by_cases hd:0<=d/\d<=1073741824
   ·exact⟨hf,hd⟩
   ·have e:zdE t id d=1:=by unfold zdE;rw[zabn (by simpa using h),zabn (by simpa using hf),zabo hd]
    unfold za9 at h0;rw[e,zabn (by decide)] at h0
    cases h0
  ·have e:zdE t id d=4:=by unfold zdE;rw[zabn (by simpa using h),zabo hf]
   unfold za9 at h0;rw[e,zabn (by decide)] at h0
   cases h0
 ·rintro⟨hf,h0,h1⟩;obtain⟨k,hk,e1,e2,e3,e4,e5⟩:=zafO h hf;obtain⟨q1,q2,q3,q4⟩:=(zdr t).1 h;obtain⟨r1,r2⟩:=(zfg _).1 q2;have hlen:=e5.length_eq;simp only[zabu] at hlen;have hnod:=(List.Perm.nodup_iff (e5.map (·.2))).2 q3.ids;simp only[zabs,zacv] at hnod;have hp:=zBJ e4 (d:=(d,id)) (by have:=zDd (r2 _ (zabC hk)).1 h0 h1;rwa [e2] at this) (by have:=q4.length_eq;simp at this;omega) (by simpa [zbx,e2] using hnod.1);have e:zdE t id d=0:=by unfold zdE;rw[zabn (by simpa using h),zabn zo,zabn zo,zabn (by simpa using e3),hp.1]
  unfold za9;rw[zabo e]
theorem zVr{t:zN}{id d:Int}(h:(za9 t id d).2=0):zao (za9 t id d).1=0/\zao t=0/\∃k,∃hk:k<t.l.length,zag t.l id=k/\t.l[k].msg.id=id/\(za9 t id d).1.l=t.l.set k ⟨t.l[k].msg,d⟩:=by
 have hE:zdE t id d=0:=by
  unfold za9 at h
  split at h
  ·assumption
  ·rename_i hc;exact absurd h hc
 have h1:zao t=0:=by
  unfold zdE at hE
  split at hE
  ·omega
  ·rename_i hc;simpa using hc
 obtain⟨hf,h0,h2⟩:=(zvo h1).1 h;obtain⟨k,hk,e1,e2,e3,e4,e5⟩:=zafO h1 hf;obtain⟨q1,q2,q3,q4⟩:=(zdr t).1 h1;obtain⟨r1,r2⟩:=(zfg _).1 q2;have hlen:=e5.length_eq;simp only[zabu] at hlen;have hnod:=(List.Perm.nodup_iff (e5.map (·.2))).2 q3.ids;simp only[zabs,zacv] at hnod;have hp:=zBJ e4 (d:=(d,id)) (by have:=zDd (r2 _ (zabC hk)).1 h0 h2;rwa [e2] at this) (by have:=q4.length_eq;simp at this;omega) (by simpa [zbx,e2] using hnod.1);have hd:za9 t id d=(⟨t.l.set k ⟨t.l[k].msg,d⟩,zfk (zb6 t.heap id).1 (d,id)⟩,0):=by
  unfold za9;rw[zabo hE,e1,zab5,zQy hk,hp.1]
 rw[hd];refine⟨(zdr _).2 ⟨by simpa using q1,(zfg _).2 ⟨?_,fun x hx=> ?_⟩,hp.2.1,?_⟩,h1,k,hk,e1,e2,rfl⟩
 ·show (t.l.set k ⟨t.l[k].msg,d⟩).Pairwise _;have hm:(t.l.set k ⟨t.l[k].msg,d⟩).map (fun x=>x.msg.id)=t.l.map fun x=>x.msg.id:=by
   rw[zacw];have:(t.l[k].msg.id)=(t.l.map fun x=>x.msg.id)[k]'(by simpa using hk):=by simp
   rw[this,List.set_getElem_self]
  have:=zaev (f:=fun x:zG=>x.msg.id) (R:=fun a b=>a<b) (l:=t.l.set k ⟨t.l[k].msg,d⟩);rw[hm] at this;exact this.1 (zaev.2 r1)
 ·rcases zac1 hx with hx|rfl
  ·exact r2 x hx
  ·obtain⟨a1,a2,_,_⟩:=r2 _ (zabC hk);exact⟨a1,a2,h0,h2⟩
 ·show (zfk (zb6 t.heap id).1 (d,id)).Perm ((t.l.set k ⟨t.l[k].msg,d⟩).map zbx);refine hp.2.2.trans ?_;rw[zacw];have h3:=z81 (l:=t.l.map zbx) (k:=k) (by simpa using hk) (zbx ⟨t.l[k].msg,d⟩);rw[zadE] at h3;have h4:(zbx t.l[k]::(d,id)::(zb6 t.heap id).1).Perm (zbx t.l[k]::(t.l.map zbx).set k (zbx ⟨t.l[k].msg,d⟩)):=by
   refine (List.Perm.swap ..).trans ?_;refine (List.Perm.cons _ (e5.trans q4)).trans ?_;have:((d,id):Due)=zbx ⟨t.l[k].msg,d⟩:=by simp [zbx,e2]
   rw[this];exact h3.symm
  exact List.Perm.cons_inv h4
def gS(t:zN)(m:zj)(d:Int)(k:Nat):St:=⟨[(2,.d (.int .i64 d)),(3,.ref 3 0 0),(4,.ref 4 0 0),(6,.ref 6 0 0),(10,.d (.int .i64 k))],[(3,.row [.d (zau t)]),(4,.row [.d (zm m)]),(6,.row [.agg [.xsl [],.xsl []]])]⟩
theorem z6D(t:zN)(m:zj)(d:Int)(hL:t.l.length<=1000)(h:t.l.Pairwise fun x y=>x.msg.id<y.msg.id):∀k:Nat,k<=zbk t.l m.id->z6 G [] zAI (gS t m d k)=some (.exit 1,gS t m d (zbk t.l m.id)):=by
 refine zaL (fun k=>zbk t.l m.id - k) (fun k=>k<=zbk t.l m.id) (gS t m d) _ fun k hk L ih=> ?_;have hpl:=zMY t.l m.id;simp only[gS,zau,zm] at ih ⊢;simp only[zAI]
 by_cases h0:k<t.l.length
 ·have hp:=zgs h (id:=m.id) h0
  by_cases h1:t.l[k].msg.id<m.id
  ·have i1:=ih (k+1) zo zo;clear ih;simp only[zNr,srcO] at i1;have zk0:=zaI.eq_1;exact zS
  ·have:k=zbk t.l m.id:=by omega
   subst this;clear ih hp;have zk0:=zaI.eq_1;exact zS
 ·have:k=zbk t.l m.id:=by omega
  subst this;clear ih;have zk0:=zaI.eq_1;exact zS
theorem zNp(t:zN)(m:zj)(d:Int)(hL:t.l.length<=4294967296)(hH:t.heap.length<=4294967296):zi G 264 [.d (zau t),.d (zm m),.d (.int .i64 d)] []=some (.d (.tup [zau (zaF t m d).1,.int .i64 (zaF t m d).2]),[]):=by
 have hv:=zkT t hL hH;rw[zlf] at hv;have hm:=zh8 m;have hf:=znb t m.id hL;have hp:=zQd t.heap (d,m.id) hH;simp only[zau,zm,eD,eDE] at hv hm hf hp
 by_cases h1:zao t=0
 ·obtain⟨h12,hE,hD,hM⟩:=zhl h1;have ha:=zhW hE;have hl:=z6D t m d zo ha 0 zo;simp only[gS,zau,zm] at hl;simp only[zNr,srcO] at hl;have hpl:=zMY t.l m.id
  by_cases h2:zap m=0
  ·by_cases h3:m.gen=0
   ·have e:zaF t m d=(zal,7):=by simp [zaF,zea,h1,h2,h3]
    rw[e];simp only[zau,zm,zal];rw[h1] at hv;rw[h2] at hm;simp only[h3] at hm ⊢;clear hl;exact zW
   ·by_cases h4:0<=d/\d<=1073741824
    ·by_cases h5:t.l.length=12
     ·have e:zaF t m d=(zal,3):=by simp [zaF,zea,h1,h2,h3,h4,h5]
      rw[e];simp only[zau,zm,zal];clear hl;exact zW
     ·by_cases h6:0<=zag t.l m.id
      ·have e:zaF t m d=(zal,10):=by simp [zaF,zea,h1,h2,h3,h4,h5,h6]
       rw[e];simp only[zau,zm,zal];clear hl;exact zW
      ·have hps:=(zBK h1 h2 h4.1 h4.2 h5 zo).1;have e:zaF t m d=(⟨zdJ t.l m d,(zfj t.heap (d,m.id)).1⟩,0):=by simp [zaF,zea,h1,h2,h3,h4,h5,h6,hps]
       rw[e];simp only[hps] at hp;simp only[hps,zau,zm,zdJ,zabF,zabs,zabq];have hz1:=zjI (t.l.take (zbk t.l m.id));have hz2:=zjI (t.l.drop (zbk t.l m.id));clear hps e;have zk0:=zaI.eq_1;exact zW
    ·have e:zaF t m d=(zal,1):=by simp [zaF,zea,h1,h2,h3,h4]
     rw[e];simp only[zau,zm,zal];clear hl
     by_cases h5:d<0
     ·exact zW
     ·have h6:1073741824<d:=by omega
      exact zW
  ·have e:zaF t m d=(zal,zap m):=by simp [zaF,zea,h1,h2]
   rw[e];simp only[zau,zm,zal];clear hl;exact zW
 ·have e:zaF t m d=(zal,zao t):=by simp [zaF,zea,h1]
  rw[e];simp only[zau,zm,zal];exact zW
theorem zNo(t:zN)(id:Int)(hL:t.l.length<=4294967296)(hH:t.heap.length<=4294967296):zi G 275 [.d (zau t),.d (.int .i64 id)] []=some (.d (.tup [zaI (zdF t id).1,.bool (zdF t id).2]),[]):=by
 have hv:=zkT t hL hH;rw[zlf] at hv;have hf:=znb t id hL;have hlt:=zrt t.l id;unfold zdF
 by_cases h1:zao t=0
 ·by_cases h6:0<=zag t.l id
  ·obtain⟨k,hk⟩:∃k:Nat,zag t.l id=k:=⟨(zag t.l id).toNat,by omega⟩;have hkl:k<t.l.length:=by omega
   simp only[h1,h6,zacK,if_true];rw[hk,zab5,zh hkl];rw[hk] at hf;simp only[zau,zaI] at hv hf ⊢;rw[h1] at hv;clear hk h6;have zk0:=zaI.eq_1;exact zW
  ·simp only[h1,h6,zadr,if_false];simp only[zau,zaI,zbH,zaa] at hv hf ⊢;rw[h1] at hv;exact zW
 ·simp only[h1,zacz,if_false];simp only[zau,zaI,zbH,zaa] at hv hf ⊢;exact zW
theorem zs2(t:zN)(id:Int)(hL:t.l.length<=4294967296)(hH:t.heap.length<=4294967296):zi G 228 [.d (zau t),.d (.int .i64 id)] []=some (.d (.tup [zau (zaf t id).1,zm (zaf t id).2.1,.int .i64 (zaf t id).2.2]),[]):=by
 have hv:=zkT t hL hH;rw[zlf] at hv;have hf:=znb t id hL;have hr:=zQe t.heap id hH;have hlt:=zrt t.l id;simp only[eDE] at hr
 by_cases h1:zao t=0
 ·by_cases h6:0<=zag t.l id
  ·obtain⟨k,hk,e1,e2,e3,e4,e5⟩:=zafO h1 h6;have h12:=((zdr t).1 h1).1;have e:zaf t id=(⟨zfR t.l k,(zb6 t.heap id).1⟩,t.l[k].msg,0):=by
    have:zeX t id=0:=by unfold zeX;rw[zabn (by simpa using h1),zabn zo,e3]
    unfold zaf;rw[zabo this,e1,zab5,zh hk]
   rw[e];rw[e1] at hf;rw[e3] at hr;have hz1:=zjI (t.l.take k);have hz2:=zjI (t.l.drop (k+1));simp only[zau,zm,zfR,zabF] at hv hf ⊢;rw[h1] at hv;clear e e1 e2 e3 e5 h6;have zk0:=zaI.eq_1;exact zW
  ·have e:zaf t id=(zal,zaa,4):=by simp [zaf,zeX,h1,h6]
   rw[e];simp only[zau,zm,zal,zaa] at hv hf ⊢;rw[h1] at hv;exact zW
 ·have e:zaf t id=(zal,zaa,zao t):=by simp [zaf,zeX,h1]
  rw[e];simp only[zau,zm,zal,zaa] at hv hf ⊢;exact zW
theorem z6C(t:zN)(id d:Int)(hL:t.l.length<=4294967296)(hH:t.heap.length<=4294967296):zi G 233 [.d (zau t),.d (.int .i64 id),.d (.int .i64 d)] []=some (.d (.tup [zau (za9 t id d).1,.int .i64 (za9 t id d).2]),[]):=by
 have hv:=zkT t hL hH;rw[zlf] at hv;have hf:=znb t id hL;have hr:=zQe t.heap id hH;have hlt:=zrt t.l id;simp only[eDE] at hr
 by_cases h1:zao t=0
 ·by_cases h6:0<=zag t.l id
  ·by_cases h4:0<=d/\d<=1073741824
   ·obtain⟨k,hk,e1,e2,e3,e4,e5⟩:=zafO h1 h6;have h12:=((zdr t).1 h1).1;have hs:=(zvo (id:=id) (d:=d) h1).2 ⟨h6,h4.1,h4.2⟩;have hE:zdE t id d=0:=by
     unfold za9 at hs
     split at hs
     ·assumption
     ·rename_i hc;exact absurd hs hc
    have hp0:(zfj (zb6 t.heap id).1 (d,id)).2=0:=by
     unfold zdE at hE
     rwa [zabn (by simpa using h1),zabn zo,zabn zo,zabn (by simpa using e3)] at hE
    have e:za9 t id d=(⟨t.l.set k ⟨t.l[k].msg,d⟩,(zfj (zb6 t.heap id).1 (d,id)).1⟩,0):=by
     unfold za9;rw[zabo hE,e1,zab5,zQy hk]
    have hp:=zQd (zb6 t.heap id).1 (d,id) (z7q _ _ hH);simp only[eDE,eD] at hp;rw[e];rw[e1] at hf;rw[e3] at hr;rw[hp0] at hp;have hz:=zjI t.l;simp only[zau,zacw] at hv hf ⊢;rw[h1] at hv;clear e e1 e2 e3 e5 h6 hs hE hp0;have zk0:=zaI.eq_1;exact zW
   ·have e:za9 t id d=(zal,1):=by simp [za9,zdE,h1,h6,h4]
    rw[e];simp only[zau,zal] at hv hf ⊢;rw[h1] at hv
    by_cases h5:d<0
    ·exact zW
    ·have h7:1073741824<d:=by omega
     exact zW
  ·have e:za9 t id d=(zal,4):=by simp [za9,zdE,h1,h6]
   rw[e];simp only[zau,zal] at hv hf ⊢;rw[h1] at hv;exact zW
 ·have e:za9 t id d=(zal,zao t):=by simp [za9,zdE,h1]
  rw[e];simp only[zau,zal] at hv hf ⊢;exact zW
def zBn(t:zN)(id:Int):zj:=(t.l.getD (zag t.l id).toNat zbH).msg
def zfe(t:zN)(ep:Int)(id:Int):Bool:= !decide ((zBn t id).epoch<ep)
def zdh(t:zN)(now ep:Int):List Int:=if zao t=0 then (zcE t.heap now).filter (zfe t ep) else []
theorem zRc{t:zN}(h:zao t=0)(now:Int)(id:Int):id∈zcE t.heap now↔∃x∈t.l,x.msg.id=id/\x.deadline<=now:=by
 obtain⟨q1,q2,q3,q4⟩:=(zdr t).1 h;unfold zcE;rw[zabo ((zfx _).2 q3)];have hp:=(zlc t.heap 1 (fun p q hp hq=>by omega)).2;unfold zj0;constructor
 ·intro hm;obtain⟨d,hd,e⟩:=zaby.1 hm;obtain⟨hd,hn⟩:=zacW.1 hd;obtain⟨x,hx,e2⟩:=zaby.1 (q4.mem_iff.1 (hp.mem_iff.1 hd));subst e2;exact⟨x,hx,e,of_decide_eq_true hn⟩
 ·rintro⟨x,hx,e,hn⟩;exact zaby.2 ⟨zbx x,zacW.2 ⟨hp.mem_iff.2 (q4.mem_iff.2 (zaby.2 ⟨x,hx,rfl⟩)),zabM hn⟩,e⟩
theorem zaaP{t:zN}(h:zao t=0){now id:Int}(hm:id∈zcE t.heap now):0<=zag t.l id:=
 let ⟨x,hx,e,_⟩:=(zRc h now id).1 hm
 (zhH id).2 ⟨x,hx,e⟩
theorem zRb{t:zN}(h:zao t=0)(now:Int):(zcE t.heap now).length<=12:=by
 obtain⟨q1,q2,q3,q4⟩:=(zdr t).1 h;unfold zcE;rw[zabo ((zfx _).2 q3)];have hp:=(zlc t.heap 1 (fun p q hp hq=>by omega)).2.length_eq;have:=q3.len;unfold zj0;rw[zabE];exact zaca (zacF _ _) zo
def rlS(t:zN)(ep:Int)(u:List Int)(i:Nat):St:=⟨[(2,.d (.int .i64 ep)),(3,.ref 3 0 0),(7,.acc 7 (zC ((u.take i).filter (zfe t ep)))),(8,.d (.sl (zC u))),(9,.d (.int .i64 i))],[(3,.row [.d (zau t)]),(7,.acc ((u.take i).filter (zfe t ep)).length)]⟩
theorem z7K(t:zN)(ep now:Int)(u:List Int)(hu:u.length<=12)(h:zao t=0)(hf:∀id∈u,0<=zag t.l id)(hL:t.l.length<=4294967296)(hH:t.heap.length<=4294967296):∀i:Nat,i<=u.length->z6 G [] zAJ (rlS t ep u i)=some (.exit 0,⟨[(7,.acc 7 (zC (u.filter (zfe t ep))))],[(7,.acc (u.filter (zfe t ep)).length)]⟩):=by
 refine zaL (fun i=>u.length - i) (fun i=>i<=u.length) (rlS t ep u) _ fun i hi L ih=> ?_;simp only[rlS,zau] at ih ⊢;simp only[zAJ]
 by_cases h0:i<u.length
 ·have i1:=ih (i+1) zo zo;clear ih;have ht:u.take (i+1)=u.take i++[u[i]]:=by rw[zadU,zabx h0];rfl
  rw[ht,zaek] at i1;have hF:=zNo t u[i] hL hH;have hfi:=hf u[i] (zabC h0);have e:zdF t u[i]=(t.l.getD (zag t.l u[i]).toNat zbH,true):=by unfold zdF;rw[zabo ⟨h,hfi⟩]
  rw[e] at hF;have hP:=zNn (t.l.getD (zag t.l u[i]).toNat zbH).msg ep;have hlen:((u.take i).filter (zfe t ep)).length<=12:=zaca (zacF _ _) (by simp;omega)
  by_cases hk:(t.l.getD (zag t.l u[i]).toNat zbH).msg.epoch<ep
  ·have e2:[u[i]].filter (zfe t ep)=[]:=by
      have:zfe t ep u[i]=false:=by unfold zfe zBn;rw[zabM hk];rfl
      rw[zacL,this];rfl
   rw[e2,zabL] at i1;generalize (t.l.getD (zag t.l u[i]).toNat zbH)=x at *;simp only[hk,decide_true,zau,zaI,zm] at hF hP;simp only[zNr,srcO] at i1;clear e e2 hfi hf;exact zS
  ·have e2:[u[i]].filter (zfe t ep)=[u[i]]:=by
      have:zfe t ep u[i]=true:=by unfold zfe zBn;rw[zabP hk];rfl
      rw[zacL,this];rfl
   rw[e2] at i1;generalize (t.l.getD (zag t.l u[i]).toNat zbH)=x at *;simp only[hk,decide_false,zau,zaI,zm] at hF hP;simp only[zC] at i1;simp only[zNr,srcO] at i1;clear e e2 hfi hf;exact zS
 ·have:i=u.length:=by omega
  subst this;clear ih;rw[List.take_length];exact zS
theorem z6E(t:zN)(now ep:Int)(hL:t.l.length<=4294967296)(hH:t.heap.length<=4294967296):zi G 245 [.d (zau t),.d (.int .i64 now),.d (.int .i64 ep)] []=some (.d (.sl (zC (zdh t now ep))),[]):=by
 have hv:=zkT t hL hH;rw[zlf] at hv;have hu:=z7g t.heap now hH;unfold zdh
 by_cases h1:zao t=0
 ·have hl:=z7K t ep now (zcE t.heap now) (zRb h1 now) h1 (fun id hm=>zaaP h1 hm) hL hH 0 zo;simp only[rlS,zacg,zac5,zC,zabq,zabw] at hl;rw[zabo h1];simp only[zau] at hv hl ⊢;rw[h1] at hv;simp only[zNr,srcO] at hl;exact zW
 ·rw[zabn h1];simp only[zau] at hv ⊢;exact zW
structure DF where
 i:Nat
 j:Nat
 R:List Int
def zc3(r:zah)(m:zj):Int:=if zaE r≠0 then zaE r else if zap m≠0 then zap m else if r.size=r.cells.length then 3 else if 0<=zaD (zD r) m.id then 10 else 0
theorem zsY(r:zah)(m:zj)(hL:r.cells.length<=4294967296):zi G 259 [.d (zai r),.d (zm m)] []=some (.d (.int .i64 (zc3 r m)),[]):=by
 have hv:=zkS r hL;have hm:=zh8 m;unfold zc3
 by_cases e1:zaE r=0
 ·rw[e1] at hv;obtain⟨c,h,z,rfl,h1,h2,h3,h4⟩:=znr (zcC e1);have hl:=zi7 c h z h2 h3 h4;have hi:=ziQ (zaM c h z) m.id (by rw[zi6];omega);simp only[e1,ne_eq,zabD,if_false];rw[zi5];clear e1;generalize zaD (zaM c h z) m.id=q at *;generalize zaM c h z=w at *
  by_cases e2:zap m=0
  ·rw[e2] at hm;simp only[e2,ne_eq,zabD,if_false];simp only[zai,zm] at hv hm hl hi ⊢
   by_cases e3:(z:Int)=c.length
   ·rw[zabo e3];obtain rfl:z=c.length:=by omega
    clear e3;exact zW
   ·simp only[e3,if_false]
    by_cases e4:0<=q
    ·simp only[e4,if_true];have zk0:=zm.eq_1;exact zW
    ·simp only[e4,if_false];have zk0:=zm.eq_1;exact zW
  ·simp only[e2,ne_eq,zabV,if_true];generalize zap m=v at *;simp only[zai,zm] at hv hm ⊢;exact zW
 ·simp only[e1,ne_eq,zabV,if_true];generalize zaE r=v at *;simp only[zai,zm] at hv ⊢;exact zW
theorem zZY(k:Nat)(h1:1<=k)(h2:k<=12):zi G 108 [.d (.int .i64 k)] []=some (.d (.tup [zai ⟨List.replicate k zaa,0,0⟩,.int .i64 0]),[]):=by
 have e:List.replicate k (Go.Sim.AV.d (zm zaa))=(List.replicate k (zm zaa)).map Go.Sim.AV.d:=by rw[zad1]
 simp only[zai,zad1];simp only[zm,zaa] at e ⊢;rw[zI zH7 (by simp)];simp -implicitDefEqProofs (maxSteps:=4000000) (disch:=omega) only[zut,zacp,Nat.min_self,List.take_replicate,zh,go_sem, *]
def wN(n h:Nat)(l:List zj)(i:Nat):List zj:=(List.range i).foldl (fun cs j=>cs.set ((h+j) % n) (l.getD j zaa)) (List.replicate n zaa)
theorem zDg(n h:Nat)(l:List zj)(i:Nat):wN n h l (i+1)=(wN n h l i).set ((h+i) % n) (l.getD i zaa):=by
 unfold wN;rw[zaej,List.foldl_append];rfl
theorem zck(n h:Nat)(l:List zj)(i:Nat):(wN n h l i).length=n:=by
 induction i with
 | zero=>simp [wN]
 | succ i ih=>rw[zDg,zacb,ih]
def wiS(n h:Nat)(l:List zj)(i:Nat):St:=⟨[(1,.d (.int .i64 h)),(2,.d (.sl (l.map zm))),(6,.ref 6 0 0),(7,.ref 7 0 0),(8,.d (.int .i64 i))],[(6,.row [.agg [.xsl [],.d (.int .i64 0),.d (.int .i64 0)]]),(7,.row [.agg [.osl 12 0 n,.d (.int .i64 h),.d (.int .i64 l.length)]]),(12,.row (((wN n h l i).map zm).map .d))]⟩
theorem zaaV(n h:Nat)(l:List zj)(h1:1<=n)(h2:n<=12)(h3:h<=12)(h4:l.length<=n):∀i,i<=l.length->z6 G [] zsq (wiS n h l i)=some (.exit 0,⟨[(6,.ref 6 0 0),(7,.ref 7 0 0)],[(6,.row [.agg [.xsl [],.d (.int .i64 0),.d (.int .i64 0)]]),(7,.row [.agg [.osl 12 0 n,.d (.int .i64 h),.d (.int .i64 l.length)]]),(12,.row (((wN n h l l.length).map zm).map .d))]⟩):=by
 refine zaL (fun i=>l.length - i) (fun i=>i<=l.length) (wiS n h l) _ fun i hi L ih=> ?_
 by_cases h0:i<l.length
 ·have i1:=ih (i+1) zo zo;clear ih;have e:((h:Int)+i).tmod n=(((h+i) % n:Nat):Int):=by rw[<- zacs, <- zadV]
  have hj:(h+i) % n<n:=zacr _ zo;have hl:=zck n h l i;generalize wN n h l l.length=z at *;rw[wiS,zDg,zh h0] at i1;generalize (h+i) % n=j at *;rw[zacw] at i1;simp only[wiS,zsq];generalize wN n h l i=w at *;simp only[zNr,srcO] at i1;exact zS
 ·clear ih;have:i=l.length:=by omega
  subst this;simp only[wiS,zsq];exact zS
theorem ztV(c:List zj)(h0 z h:Nat)(l:List zj)(h1:1<=c.length)(h2:c.length<=12)(h3:h<=12)(h4:l.length<=c.length):zi G 260 [.d (.agg [.sl (c.map zm),.int .i64 h0,.int .i64 z]),.d (.int .i64 h),.d (.sl (l.map zm))] []=some (.d (zai ⟨wN c.length h l l.length,h,l.length⟩),[]):=by
 have hl:=zaaV c.length h l h1 h2 h3 h4 0 zo;have hn:=zck c.length h l l.length;simp only[zai];generalize wN c.length h l l.length=w at *;have ez:(List.replicate c.length zaa).map zm=List.replicate c.length (zm zaa):=zad1;have e:List.replicate c.length (Go.Sim.AV.d (zm zaa))=(List.replicate c.length (zm zaa)).map Go.Sim.AV.d:=by rw[zad1]
 simp only[wiS,wN,List.range_zero,List.foldl_nil,ez,zabQ] at hl;clear ez;simp only[show zm zaa= .agg [.int .i64 0,.int .i64 0,.int .i64 0,.int .i64 0,.int .i64 0,.int .i64 0,.str []] from rfl] at hl e;have zk0:=zm.eq_1;exact zW
theorem zna{r:zah}{m:zj}(h:zc3 r m=0):zaE r=0/\zap m=0/\r.size≠r.cells.length/\zaD (zD r) m.id<0:=by
 unfold zc3 at h
 by_cases e1:zaE r=0
 ·rw[zabn (fun hc=>hc e1)] at h
  by_cases e2:zap m=0
  ·rw[zabn (fun hc=>hc e2)] at h
   by_cases e3:r.size=r.cells.length
   ·rw[zabo e3] at h;exact absurd h (by decide)
   ·rw[zabn e3] at h
    by_cases e4:0<=zaD (zD r) m.id
    ·rw[zabo e4] at h;exact absurd h (by decide)
    ·exact⟨e1,e2,e3,by omega⟩
  ·rw[zabo e2] at h;exact absurd h e2
 ·rw[zabo e1] at h;exact absurd h e1
theorem z5p(c:List zj)(h z:Nat)(m:zj)(hp:zc3 ⟨c,h,z⟩ m=0):zi G 223 [.d (zai ⟨c,h,z⟩),.d (zm m)] []=some (.d (.tup [zai ⟨wN c.length h (zaM c h z++[m]) (z+1),h,(z+1:Nat)⟩,.int .i64 0]),[]):=by
 obtain⟨p1,p2,p3,p4⟩:=zna hp;obtain⟨a1,a2,a3,a4,a5,a6⟩:=zcC p1;simp only at a1 a2 a3 a4 a5 a6 p3;have hpu:=zsY ⟨c,h,z⟩ m (by simp only;omega);have hl:=zi7 c h z a2 zo zo;have hn:=zi6 c h z;have hw:=ztV c h z h (zaM c h z++[m]) a1 a2 zo (by rw[zabv,hn];simp;omega);rw[hp] at hpu;rw[zabv,hn,zab3,zabF] at hw;rw[hn] at hl;clear p1 p2 p4 hp;generalize wN c.length h (zaM c h z++[m]) (z+1)=q at *;generalize zaM c h z=w at *;simp only[zai,zm,zabs,zabq] at hpu hw hl ⊢;exact zW
theorem z5q(c:List zj)(h z:Nat)(m:zj)(hp:zc3 ⟨c,h,z⟩ m=0):zi G 231 [.d (zai ⟨c,h,z⟩),.d (zm m)] []=some (.d (.tup [zai ⟨wN c.length ((h+c.length - 1) % c.length) (m::zaM c h z) (z+1),((h+c.length - 1) % c.length:Nat),(z+1:Nat)⟩,.int .i64 0]),[]):=by
 obtain⟨p1,p2,p3,p4⟩:=zna hp;obtain⟨a1,a2,a3,a4,a5,a6⟩:=zcC p1;simp only at a1 a2 a3 a4 a5 a6 p3;have hpu:=zsY ⟨c,h,z⟩ m (by simp only;omega);have hl:=zi7 c h z a2 zo zo;have hn:=zi6 c h z;have hj:(h+c.length - 1) % c.length<c.length:=zacr _ zo;have e:((h:Int)+c.length - 1).tmod c.length=(((h+c.length - 1) % c.length:Nat):Int):=by
  rw[show (h:Int)+c.length - 1=((h+c.length - 1:Nat):Int) by omega, <- zadV]
 have hw:=ztV c h z ((h+c.length - 1) % c.length) (m::zaM c h z) a1 a2 zo (by rw[zabu,hn];omega);rw[hp] at hpu;rw[zabu,hn,zabs] at hw;rw[hn] at hl;clear p1 p2 p4 hp;generalize (h+c.length - 1) % c.length=j at *;generalize wN c.length j (m::zaM c h z) (z+1)=q at *;generalize zaM c h z=w at *
 by_cases h0:w=[]
 ·subst h0;simp only[zai,zm,zabq] at hpu hw hl ⊢;exact zW
 ·have he:(w.map zm).isEmpty=false:=by cases w with|nil=>exact absurd rfl h0|cons x w=>rfl
  simp only[zai,zm] at hpu hw hl he ⊢;exact zW
theorem zXz{α:Type}(l:List α)(i j:Nat)(x d:α)(hi:i<l.length):(l.set i x).getD j d=if i=j then x else l.getD j d:=by
 rw[zab0,zab0,zadh]
 split
 ·rename_i e;subst e;simp
 ·rfl
theorem zZN{n h i j:Nat}(hi:i<n)(hj:j<n)(e:(h+i) % n=(h+j) % n):i=j:=by
 have h1:=zacr h (show 0<n by omega);rw[Nat.add_mod h i,Nat.add_mod h j,zacx hi,zacx hj] at e;generalize h % n=a at *
 by_cases c1:a+i<n
 ·rw[zacx c1] at e
  by_cases c2:a+j<n
  ·rw[zacx c2] at e;omega
  ·rw[show a+j=(a+j - n)+n by omega,zad0,zacx zo] at e;omega
 ·rw[show a+i=(a+i - n)+n by omega,zad0,zacx zo] at e
  by_cases c2:a+j<n
  ·rw[zacx c2] at e;omega
  ·rw[show a+j=(a+j - n)+n by omega,zad0,zacx zo] at e;omega
theorem zDf{n h:Nat}{l:List zj}(hn:1<=n):∀ {i:Nat},i<=n->∀ {j:Nat},j<n->(wN n h l i).getD ((h+j) % n) zaa=if j<i then l.getD j zaa else zaa:=by
 intro i
 induction i with
 | zero=>
  intro _ j hj;rw[zabn zo];have:(h+j) % n<n:=zacr _ zo;simp [wN,zab0,zaez,this]
 | succ i ih=>
  intro hi j hj;have hm:(h+i) % n<n:=zacr _ zo;rw[zDg,zXz _ _ _ _ _ (by rw[zck];exact hm),ih zo hj]
  by_cases e:(h+i) % n=(h+j) % n
  ·obtain rfl:=zZN zo hj e;rw[zabo rfl,zabo zo]
  ·rw[zabn e]
   by_cases c:j<i
   ·rw[zabo c,zabo zo]
   ·rw[zabn c,zabn];intro h2;obtain rfl:j=i:=by omega
    exact e rfl
def rg(n h:Nat)(l:List zj):zah:=⟨wN n h l l.length,h,l.length⟩
theorem zkN{n h:Nat}{l:List zj}(hn:1<=n)(hl:l.length<=n):zaM (wN n h l l.length) h l.length=l:=by
 unfold zaM;rw[zck];refine zaer (by simp) fun j h1 h2=> ?_;simp only[zadE,List.getElem_range];rw[zDf hn hl zo,zabo h2,zh h2]
theorem zWb{l:List zj}(h:∀m∈l,zap m=0):zb3 l=0:=by
 induction l with
 | nil=>rfl
 | cons m l ih=>
  unfold zb3;rw[zabn (by simpa using h m (by simp))];exact ih fun x hx=>h x (by simp [hx])
theorem zCI{n h:Nat}{l:List zj}(hn:1<=n)(hn2:n<=12)(hh:h<n)(hl:l.length<=n)(hm:∀m∈l,zap m=0)(hd:(l.map (·.id)).Nodup):zaE (rg n h l)=0:=by
 have ho:zD (rg n h l)=l:=by rw[rg,zi5,zkN hn hl]
 unfold zaE;rw[ho];have hlen:(rg n h l).cells.length=n:=zck _ _ _ _;rw[zabn (by rw[zabG];exact⟨by rw[hlen];omega,by rw[hlen];omega,by simp [rg],by rw[hlen];simp [rg];omega,by simp [rg],by rw[hlen];simp [rg];omega⟩)];rw[zabn,zabn (by rw[zWb hm];simp),zabn (by unfold zdC;simpa using hd)];unfold zc5;rw[hlen];rw[zacm];rintro⟨j,h1,h2⟩;rw[zadj] at h1;have hz:(rg n h l).size.toNat=l.length:=by simp [rg]
 have e:=zDf (h:=h) (l:=l) hn hl (show j<n by omega);rw[zabn zo] at e;exact of_decide_eq_true h2 e
theorem zBI{n h:Nat}{l:List zj}{m:zj}(hn:1<=n)(hn2:n<=12)(hh:h<n)(hl:l.length<n)(hm:∀m∈l,zap m=0)(hd:(l.map (·.id)).Nodup)(hv:zap m=0)(hi:∀x∈l,x.id≠m.id):zc3 (rg n h l) m=0:=by
 unfold zc3;rw[zabn (by rw[zCI hn hn2 hh zo hm hd];simp),zabn (by rw[hv];simp),zabn (by simp [rg,zck];omega),zabn];rw[rg,zi5,zkN hn zo];have:zaD l m.id<0:=by
  unfold zaD;rw[zse];intro x hx;simpa using hi x hx
 omega
theorem z4O{n h:Nat}{l:List zj}{m:zj}(hn:1<=n)(hn2:n<=12)(hh:h<n)(hl:l.length<n)(hm:∀m∈l,zap m=0)(hd:(l.map (·.id)).Nodup)(hv:zap m=0)(hi:∀x∈l,x.id≠m.id):zi G 223 [.d (zai (rg n h l)),.d (zm m)] []=some (.d (.tup [zai (rg n h (l++[m])),.int .i64 0]),[]):=by
 have hp:=zBI hn hn2 hh hl hm hd hv hi;have:=z5p (wN n h l l.length) h l.length m hp;rw[zkN hn zo,zck] at this;rw[show rg n h l=⟨wN n h l l.length,h,l.length⟩ from rfl,this];unfold rg;rw[zabv,zab3]
theorem z4W{n h:Nat}{l:List zj}{m:zj}(hn:1<=n)(hn2:n<=12)(hh:h<n)(hl:l.length<n)(hm:∀m∈l,zap m=0)(hd:(l.map (·.id)).Nodup)(hv:zap m=0)(hi:∀x∈l,x.id≠m.id):zi G 231 [.d (zai (rg n h l)),.d (zm m)] []=some (.d (.tup [zai (rg n ((h+n - 1) % n) (m::l)),.int .i64 0]),[]):=by
 have hp:=zBI hn hn2 hh hl hm hd hv hi;have:=z5q (wN n h l l.length) h l.length m hp;rw[zkN hn zo,zck] at this;rw[show rg n h l=⟨wN n h l l.length,h,l.length⟩ from rfl,this];rfl
theorem z7N{n h p:Nat}(hn:1<=n)(hp:p<n):∃j,j<n/\(h+j) % n=p:=by
 have hh:h % n<n:=zacr _ zo
 by_cases c:h % n<=p
 ·refine⟨p - h % n,by omega,?_⟩;rw[<- Nat.mod_add_mod,show h % n+(p - h % n)=p by omega,zacx hp]
 ·refine⟨p+n - h % n,by omega,?_⟩;rw[<- Nat.mod_add_mod,show h % n+(p+n - h % n)=p+n by omega,zad0,zacx hp]
theorem zTs{n h:Nat}{a b:List zj}(hn:1<=n)(ha:a.length=n)(hb:b.length=n)(H:∀j,j<n->a.getD ((h+j) % n) zaa=b.getD ((h+j) % n) zaa):a=b:=by
 refine zaer zo fun p h1 h2=> ?_;obtain⟨j,hj,e⟩:=z7N (h:=h) hn (show p<n by omega);have:=H j hj;rw[e] at this;simpa [zab0,h1,h2] using this
theorem zZO{n i:Nat}(hn:1<=n):i % n<n:=zacr _ zo
theorem zXy{l:List zj}{j:Nat}(h:j<l.length):l[j]=l.getD j zaa:=by
 rw[zab0,zabx h];rfl
theorem zWa:∀ {l:List zj},zb3 l=0->∀m∈l,zap m=0:=by
 intro l
 induction l with
 | nil=>intro _ m hm;cases hm
 | cons x l ih=>
  intro h m hm;unfold zb3 at h
  split at h
  ·rename_i q;exact absurd h q
  ·rename_i q
   cases hm with
   | head=>simpa using q
   | tail _ hm=>exact ih h m hm
theorem znq{r:zah}(hr:zaE r=0):∃n h:Nat,r=rg n h (zD r)/\1<=n/\n<=12/\h<n/\(zD r).length<=n/\(∀m∈zD r,zap m=0)/\((zD r).map (·.id)).Nodup:=by
 have hok:=zcC hr;obtain⟨c,h,z,rfl,h1,h2,h3,h4⟩:=znr hok;rw[zQr hok] at hr;have ho:zD ⟨c,h,z⟩=zaM c h z:=zi5 c h z;rw[ho];have hl:(zaM c h z).length=z:=zi6 c h z
 split at hr
 ·cases hr
 rename_i hrest
 split at hr
 ·rename_i q;exact absurd hr q
 rename_i hfirst
 split at hr
 ·cases hr
 rename_i hdup;refine⟨c.length,h,?_,h1,h2,h3,by omega,?_,?_⟩
 ·unfold rg;rw[hl]
  congr 1
  refine zTs (n:=c.length) (h:=h) h1 rfl (zck _ _ _ _) fun j hj=> ?_;rw[zDf h1 h4 hj]
  by_cases cj:j<z
  ·rw[zabo cj];simp [zaM,zab0,cj]
  ·rw[zabn cj];have hr2:zc5 ⟨c,h,z⟩ z c.length=false:=by simpa using hrest
   unfold zc5 at hr2;rw[zacC] at hr2;have:=hr2 j (zadj.2 ⟨by omega,by omega⟩);simpa using this
 ·have hf:zb3 (zaM c h z)=0:=by simpa using hfirst
  generalize zaM c h z=w at *;clear hl ho hdup hrest;intro m hm;have:=zWa hf m hm;exact this
 ·have:zdC ((zaM c h z).map (·.id))=false:=by simpa using hdup
  unfold zdC at this;simpa using this
def pbD(r:zah)(m:zj):zah×Int:=if zc3 r m=0 then (rg r.cells.length r.head.toNat (zD r++[m]),0) else (zay,zc3 r m)
def rmE(r:zah)(id:Int):Int:=if zaE r≠0 then zaE r else if zaD (zD r) id<0 then 4 else 0
def rmD(r:zah)(id:Int):zah×zj×Int:=if rmE r id=0 then (rg r.cells.length r.head.toNat ((zD r).eraseIdx (zaD (zD r) id).toNat),(zD r).getD (zaD (zD r) id).toNat zaa,0) else (zay,zaa,rmE r id)
theorem zHT{l:List zj}{id:Int}(h:0<=zaD l id):(zaD l id).toNat<l.length:=by
 unfold zaD zbP at h ⊢
 cases hc:l.findIdx? (fun m:zj=>decide (m.id=id)) with
 | none=>rw[hc] at h;simp at h
 | some i=>
  obtain⟨hi,_⟩:=zact.1 hc;simpa using hi
def pfD(r:zah)(m:zj):zah×Int:=if zc3 r m=0 then (rg r.cells.length ((r.head.toNat+r.cells.length - 1) % r.cells.length) (m::zD r),0) else (zay,zc3 r m)
def usE(s:zt)(b:Bool):Int:=if zab s≠0 then zab s else if b=true then 0 else 1
structure RO where
 h:Nat
 L:List zj
 id:Int
 a:Nat
 i:Nat
theorem zjn{t:zN}(h:zao t=0):t.l.length<=12/\t.heap.length<=12:=by
 obtain⟨q1,q2,q3,q4⟩:=(zdr t).1 h;exact⟨q1,q3.len⟩
structure TB where
 t:zN
 id:Int
 a:Nat
 i:Nat
 b:Bool
def epQ(n:Int):Bool:=decide (0<=n/\n<=65536)
def liQ(n:Int):Bool:=decide (1<=n/\n<=8)
def tiQ(n:Int):Bool:=decide (0<=n/\n<=1073741824)
def viQ(n:Int):Bool:=decide (0<=n/\n<=1000)
def zaG(s:zt)(id:Int):zt×zj×Int:=if (zaf s.leases id).2.2=0 then ({ s with leases:=(zaf s.leases id).1 },(zaf s.leases id).2.1,0) else (zJ,zaa,(zaf s.leases id).2.2)
def zcy(s:zt)(h:za1)(now ep:Int):Bool:=(zdF s.leases h.id).2&&(decide ((zdF s.leases h.id).1.msg.gen=h.gen)&&(decide ((zdF s.leases h.id).1.msg.route=h.route)&&(!decide ((zdF s.leases h.id).1.msg.epoch<ep)&&decide (now<(zdF s.leases h.id).1.deadline))))
def zcS(s:zt)(h:za1)(now ep:Int):zt×Int:=if usE s (tiQ now&&epQ ep)≠0 then (zJ,usE s (tiQ now&&epQ ep)) else if zcy s h now ep=true then ((zaG s h.id).1,(zaG s h.id).2.2) else (zJ,5)
theorem zDb{s:zt}{b:Bool}(h:usE s b=0):1<=s.ready.cells.length/\s.ready.cells.length<=12/\s.leases.l.length<=12/\s.leases.heap.length<=12:=by
 have hl:zab s=0:=by
  unfold usE at h
  split at h
  ·rename_i q;exact absurd h q
  ·rename_i q;exact zabG.1 q
 have hv:zY s=0:=by
  unfold zab at hl
  split at hl
  ·rename_i q;exact absurd hl q
  ·rename_i q;exact zabG.1 q
 unfold zY at hv
 split at hv
 ·rename_i q;exact absurd hv q
 ·rename_i q1
  split at hv
  ·rename_i q;exact absurd hv q
  ·rename_i q2;obtain⟨a1,a2,_⟩:=zcC (zabG.1 q1);obtain⟨b1,b2⟩:=zjn (zabG.1 q2);exact⟨a1,a2,b1,b2⟩
def zdw(s:zt)(m:zj)(lim:Int):zah×Int:=if lim<=m.count then pbD s.ready m else pfD s.ready m
def zcK(s:zt)(h:za1)(now ep lim:Int):zt×Int:=
 if usE s (tiQ now&&(epQ ep&&liQ lim))≠0 then (zJ,usE s (tiQ now&&(epQ ep&&liQ lim)))
 else if zcy s h now ep=true then (if (zaG s h.id).2.2≠0 then (zJ,(zaG s h.id).2.2)
  else if (zdw (zaG s h.id).1 (zaG s h.id).2.1 lim).2≠0 then (zJ,(zdw (zaG s h.id).1 (zaG s h.id).2.1 lim).2)
  else ({ (zaG s h.id).1 with ready:=(zdw (zaG s h.id).1 (zaG s h.id).2.1 lim).1 },0)) else (zJ,5)
theorem ztU{s:zt}{b:Bool}(h:usE s b=0):b=true:=by
 unfold usE at h
 split at h
 ·rename_i q;exact absurd h q
 ·split at h
  ·assumption
  ·cases h
def ze1(s:zt)(h:za1)(now ep vis:Int):zt×Int:=
 if usE s (tiQ now&&(epQ ep&&viQ vis))≠0 then (zJ,usE s (tiQ now&&(epQ ep&&viQ vis)))
 else if zcy s h now ep=true then (if 1073741824<now+vis then (zJ,6) else if (za9 s.leases h.id (now+vis)).2≠0 then (zJ,(za9 s.leases h.id (now+vis)).2)
  else ({ s with leases:=(za9 s.leases h.id (now+vis)).1 },0)) else (zJ,5)
def zdz(m:zj):zj×Int:=if zap m≠0 then (zaa,zap m) else if m.gen=65536 then (zaa,6) else if m.count=8 then (zaa,7) else ({ m with count:=m.count+1,gen:=m.gen+1 },0)
def zf8(ep lim:Int)(m:zj):Bool:= !decide (m.epoch<ep)&&(!decide (lim<=m.count)&&decide (m.gen<65536))
def zfP(s:zt)(m:zj)(d:Int):zt×zG×Int:=
 if (rmD s.ready m.id).2.2≠0 then (s,zbH,(rmD s.ready m.id).2.2)
 else if (zdz (rmD s.ready m.id).2.1).2≠0 then (s,zbH,(zdz (rmD s.ready m.id).2.1).2)
 else if (zaF s.leases (zdz (rmD s.ready m.id).2.1).1 d).2≠0 then (s,zbH,(zaF s.leases (zdz (rmD s.ready m.id).2.1).1 d).2)
 else ({ s with ready:=(rmD s.ready m.id).1,leases:=(zaF s.leases (zdz (rmD s.ready m.id).2.1).1 d).1 },⟨(zdz (rmD s.ready m.id).2.1).1,d⟩,0)
def tkF(mx d ep lim:Int):List zj->zt->List zG->zt×List zG×Int
 | [],s,out=>(s,out,0)
 | m::l,s,out=>if (out.length:Int)=mx\/zf8 ep lim m=false then tkF mx d ep lim l s out else if (zfP s m d).2.2≠0 then (zJ,[],(zfP s m d).2.2) else tkF mx d ep lim l (zfP s m d).1 (out++[(zfP s m d).2.1])
theorem zXG(t:zN)(m:zj)(d:Int):(zaF t m d).1.l.length<=12/\(zaF t m d).1.heap.length<=12:=by
 by_cases h:(zaF t m d).2=0
 ·exact zjn (zIT h).1
 ·have:zaF t m d=(zal,zea t m d):=by
     unfold zaF at h ⊢
     split at h
     ·exact absurd rfl h
     ·rename_i hc;rw[zabn hc]
  rw[this];simp [zal]
structure TK where
 s:zt
 out:List zG
 i:Nat
def shZ:Go.Sim.AV:= .agg [.d (.bool false),.d (.int .i64 0),.d (.int .i64 0),.xsl [],.d (.int .i64 0),.d (.int .i64 0),.xsl [],.xsl []]
def zlg(s:zt)(mx now vis ep lim:Int):Int:=usE s (epQ ep&&(liQ lim&&(tiQ now&&(viQ vis&&decide (1<=mx/\mx<=6)))))
def zcD(s:zt)(mx now vis ep lim:Int):zt×List zG×Int:=if zlg s mx now vis ep lim≠0 then (zJ,[],zlg s mx now vis ep lim) else if 1073741824<now+vis then (zJ,[],6) else tkF mx (now+vis) ep lim (zD s.ready) s []
theorem zDc{s:zt}{b:Bool}(h:usE s b=0):zaE s.ready=0:=by
 have hl:zab s=0:=by
  unfold usE at h
  split at h
  ·rename_i q;exact absurd h q
  ·rename_i q;exact zabG.1 q
 have hv:zY s=0:=by
  unfold zab at hl
  split at hl
  ·rename_i q;exact absurd hl q
  ·rename_i q;exact zabG.1 q
 unfold zY at hv
 split at hv
 ·rename_i q;exact absurd hv q
 ·rename_i q1;exact zabG.1 q1
theorem zaao(mx d ep lim:Int):∀(l:List zj) (s:zt) (out:List zG),(tkF mx d ep lim l s out).2.2≠0->(tkF mx d ep lim l s out).1=zJ/\(tkF mx d ep lim l s out).2.1=[]:=by
 intro l
 induction l with
 | nil=>intro s out h;exact absurd rfl h
 | cons m l ih=>
  intro s out h;rw[tkF] at h ⊢
  split at h
  ·rename_i q;rw[zabo q];exact ih _ _ h
  ·rename_i q;rw[zabn q]
   split at h
   ·rename_i q2;rw[zabo q2];exact⟨rfl,rfl⟩
   ·rename_i q2;rw[zabn q2];exact ih _ _ h
def zcx:List Int->zt->zt×Int
 | [],s=>(s,0)
 | id::l,s=>if (zaG s id).2.2≠0 then (zJ,(zaG s id).2.2) else if (pbD (zaG s id).1.ready (zaG s id).2.1).2≠0 then (zJ,(pbD (zaG s id).1.ready (zaG s id).2.1).2) else zcx l { (zaG s id).1 with ready:=(pbD (zaG s id).1.ready (zaG s id).2.1).1 }
def zcw(s:zt)(now ep lim:Int):zt×List Int×Int:=
 if usE s (tiQ now&&(epQ ep&&liQ lim))≠0 then (zJ,[],usE s (tiQ now&&(epQ ep&&liQ lim)))
 else if (zcx (zdh s.leases now ep) s).2=0 then ((zcx (zdh s.leases now ep) s).1,zdh s.leases now ep,0) else (zJ,[],(zcx (zdh s.leases now ep) s).2)
theorem zLZ(t:zN)(now ep:Int):(zdh t now ep).length<=12:=by
 unfold zdh
 split
 ·rename_i h;exact zaca (zacF _ _) (zRb h now)
 ·simp
def zbb(s:zt):Int:=if zY s=0 then s.ready.size+s.leases.l.length else 0
def VS(n h:Nat)(L:List zj)(t:zN)(lo hi:Int):Prop:=1<=n/\n<=12/\h<n/\L.length+t.l.length<=n/\0<=lo/\lo<=hi/\hi<65536/\(∀m∈L,zap m=0/\lo<=m.route/\m.route<=hi)/\zao t=0/\(∀y∈t.l,lo<=y.msg.route/\y.msg.route<=hi)/\(L.map (·.id)++t.l.map (fun y=>y.msg.id)).Nodup
def mkS(n h:Nat)(L:List zj)(t:zN)(lo hi:Int):zt:=⟨true,lo,hi,rg n h L,t⟩
theorem VS.ring{n h:Nat}{L:List zj}{t:zN}{lo hi:Int}(v:VS n h L t lo hi):zaE (rg n h L)=0:=by
 obtain⟨a1,a2,a3,a4,_,_,_,b,_,_,c⟩:=v;exact zCI a1 a2 a3 zo (fun m hm=>(b m hm).1) (zac6.1 c).1
theorem VS.ord{n h:Nat}{L:List zj}{t:zN}{lo hi:Int}(v:VS n h L t lo hi):zD (rg n h L)=L:=by
 obtain⟨a1,a2,a3,a4,_⟩:=v;rw[rg,zi5];exact zkN a1 zo
theorem VS.val{n h:Nat}{L:List zj}{t:zN}{lo hi:Int}(v:VS n h L t lo hi):zY (mkS n h L t lo hi)=0:=by
 have hr:zaE (mkS n h L t lo hi).ready=0:=v.ring;have hm:zaP (mkS n h L t lo hi)=L++t.l.map (·.msg):=by unfold zaP mkS;rw[v.ord]
 obtain⟨a1,a2,a3,a4,a5,a6,a7,b1,b2,b3,c⟩:=v;rw[znA hr b2,hm];rw[zabn (by simp [mkS]),zabn (by simp only[mkS];omega),zabn,zabn,zabn]
 ·unfold zdC;simp only[decide_eq_true_eq,zabG,zabF,zacQ];exact c
 ·unfold zgq;simp only[zac3,zacC,decide_eq_true_eq,zabG,zabS,zaby];rintro m (hx|⟨y,hy,rfl⟩)
  ·exact (b1 m hx).2
  ·exact b3 y hy
 ·simp only[mkS,rg,zck];omega
theorem zfy{s:zt}(hv:zY s=0)(hl:s.live=true):∃n h:Nat,s=mkS n h (zD s.ready) s.leases s.low s.high/\VS n h (zD s.ready) s.leases s.low s.high:=by
 have h1:zaE s.ready=0:=by
  have q:=hv;unfold zY at q
  split at q
  ·rename_i c;exact absurd q c
  ·rename_i c;exact zabG.1 c
 have h2:zao s.leases=0:=by
  have q:=hv;unfold zY at q;rw[zabn (fun c=>c h1)] at q
  split at q
  ·rename_i c;exact absurd q c
  ·rename_i c;exact zabG.1 c
 rw[znA h1 h2,zabn (by rw[hl];simp)] at hv
 split at hv
 ·cases hv
 rename_i c1
 split at hv
 ·cases hv
 rename_i c2
 split at hv
 ·cases hv
 rename_i c3
 split at hv
 ·cases hv
 rename_i c4;obtain⟨n,h,hrg,d1,d2,d3,d4,d5,d6⟩:=znq h1;have hc:s.ready.cells.length=n:=by rw[hrg];exact zck _ _ _ _
 have hz:s.ready.size=((zD s.ready).length:Int):=by rw[zg9];have:=congrArg zah.size hrg;simp only[rg] at this;omega
 have c1:=zabG.1 c1;refine⟨n,h,?_,d1,d2,d3,by omega,c1.1,c1.2.1,c1.2.2,?_,h2,?_,?_⟩
 ·obtain⟨lv,lo,hi,r,t⟩:=s;simp only at hl hrg;subst hl;show _=zt.mk true lo hi _ t
  congr 1
 ·intro m hm;refine⟨d5 m hm,?_⟩;unfold zgq at c3;simp only[zac3,zacC,decide_eq_true_eq,zabG,zaP,zabS,zaby] at c3;exact c3 m (.inl hm)
 ·intro y hy;unfold zgq at c3;simp only[zac3,zacC,decide_eq_true_eq,zabG,zaP,zabS,zaby] at c3;exact c3 y.msg (.inr ⟨y,hy,rfl⟩)
 ·unfold zdC zaP at c4;simp only[decide_eq_true_eq,zabG,zabF,zacQ] at c4;exact c4
theorem zic(n h:Nat)(L:List zj):(rg n h L).cells.length=n:=zck _ _ _ _
theorem zy5{l:List zj}{id:Int}(h:∃m∈l,m.id=id):0<=zaD l id:=by
 unfold zaD zbP
 cases hc:l.findIdx? (fun m:zj=>decide (m.id=id)) with
 | some i=>simp
 | none=>
  obtain⟨m,hm,e⟩:=h;have:=(zadv.1 hc) m hm;simp [e] at this
theorem zWu{l:List zj}{id:Int}(h:0<=zaD l id):(l.getD (zaD l id).toNat zaa).id=id:=by
 unfold zaD zbP at h ⊢
 cases hc:l.findIdx? (fun m:zj=>decide (m.id=id)) with
 | none=>rw[hc] at h;simp at h
 | some i=>
  obtain⟨hi,hp,_⟩:=zact.1 hc;simp only[zab5];rw[zab0,zabx hi];exact of_decide_eq_true hp
theorem z0d{l:List zj}(h:(l.map (·.id)).Nodup){a b:zj}(ha:a∈l)(hb:b∈l)(e:a.id=b.id):a=b:=by
 induction l with
 | nil=>cases ha
 | cons x l ih=>
  simp only[zabs,zacv,zaby,not_exists,not_and] at h
  cases ha with
  | head=>
   cases hb with
   | head=>rfl
   | tail _ hb=>exact absurd e.symm (h.1 b hb)
  | tail _ ha=>
   cases hb with
   | head=>exact absurd e (h.1 a ha)
   | tail _ hb=>exact ih h.2 ha hb
theorem VS.rem{n h:Nat}{L:List zj}{t:zN}{lo hi:Int}(v:VS n h L t lo hi){m:zj}(hm:m∈L):∃k,∃hk:k<L.length,L[k]=m/\rmD (rg n h L) m.id=(rg n h (L.eraseIdx k),m,0):=by
 have h0:0<=zaD L m.id:=zy5 ⟨m,hm,rfl⟩;have hk:=zHT h0;have hid:=zWu h0;have e:L.getD (zaD L m.id).toNat zaa=m:=by
  refine z0d (zac6.1 v.2.2.2.2.2.2.2.2.2.2).1 ?_ hm hid;rw[zab0,zabx hk];exact zabC hk
 refine⟨_,hk,?_,?_⟩
 ·exact (zXy hk).trans e
 ·have hE:rmE (rg n h L) m.id=0:=by
     unfold rmE;rw[zabn (fun q=>q v.ring),v.ord,zabn zo]
  unfold rmD;rw[zabo hE,v.ord,zic,e];rfl
theorem zGO{m:zj}(h:zap m=0)(h1:m.gen<65536)(h2:m.count<8):zdz m=({ m with count:=m.count+1,gen:=m.gen+1 },0):=by
 unfold zdz;rw[zabn (fun q=>q h),zabn zo,zabn zo]
theorem zMr(m:zj):zap m=0↔(1<=m.id/\m.id<=1073741824/\0<=m.route/\m.route<=65535/\0<=m.epoch/\m.epoch<=65536/\0<=m.count/\m.count<=8/\m.count<=m.gen/\m.gen<=65536/\0<=m.sent/\m.sent<=1073741824)/\m.body.length<=16:=by
 unfold zap
 split
 ·rename_i c
  split
  ·rename_i c2;exact⟨(fun q=>by cases q),(fun q=>by omega)⟩
  ·rename_i c2;exact⟨fun _=>⟨c,by omega⟩,fun _=>rfl⟩
 ·rename_i c;exact⟨(fun q=>by cases q),(fun q=>absurd q.1 c)⟩
theorem zrm{α:Type}(l:List α)(k:Nat)(hk:k<l.length):(l[k]::l.eraseIdx k).Perm l:=by
 rw[zaes];have e:l=l.take k++l[k]::l.drop (k+1):=by
  rw[<- zabX hk,zaet]
 have:=(zade (a:=l[k]) (l₁:=l.take k) (l₂:=l.drop (k+1))).symm;rw[<- e] at this;exact this
def upM(m:zj):zj:={ m with count:=m.count+1,gen:=m.gen+1 }
theorem zQa(ep lim:Int)(m:zj):zf8 ep lim m=true↔ep<=m.epoch/\m.count<lim/\m.gen<65536:=by
 unfold zf8;simp only[zabH,zace,decide_eq_false_iff_not,decide_eq_true_eq];omega
theorem VS.dlv{n h:Nat}{L:List zj}{t:zN}{lo hi:Int}(v:VS n h L t lo hi){m:zj}(hm:m∈L){ep lim d:Int}(hq:zf8 ep lim m=true)(hlim:lim<=8)(hd0:0<=d)(hd1:d<=1073741824):
    ∃k,∃hk:k<L.length,L[k]=m/\zfP (mkS n h L t lo hi) m d=(mkS n h (L.eraseIdx k) (zaF t (upM m) d).1 lo hi,⟨upM m,d⟩,0)/\(zaF t (upM m) d).1.l=zdJ t.l (upM m) d/\VS n h (L.eraseIdx k) (zaF t (upM m) d).1 lo hi:=by
 obtain⟨k,hk,ek,hr⟩:=v.rem hm;obtain⟨q1,q2,q3⟩:=(zQa ep lim m).1 hq;obtain⟨a1,a2,a3,a4,a5,a6,a7,b1,b2,b3,c⟩:=v;obtain⟨mv,mr1,mr2⟩:=b1 m hm;have hdel:=zGO mv q3 zo;have mv2:=(zMr m).1 mv;have hu:zap (upM m)=0:=by
  rw[zMr];simp only[upM];omega
 have hnf:zag t.l (upM m).id<0:=by
  refine Classical.byContradiction fun hc=> ?_;obtain⟨x,hx,e⟩:=(zhH (l:=t.l) (upM m).id).1 zo;refine (zac6.1 c).2.2 m.id (zaby.2 ⟨m,hm,rfl⟩) x.msg.id (zaby.2 ⟨x,hx,rfl⟩) ?_;exact e.symm
 have hg:=zXF b2 hu (by simp only[upM];omega) hd0 hd1 zo hnf;obtain⟨g1,_,g2,_⟩:=zIT hg;refine⟨k,hk,ek,?_,g2,a1,a2,a3,?_,a5,a6,a7,fun x hx=>b1 x (zaeC hx),g1,?_,?_⟩
 ·unfold zfP;have r1:(rmD (mkS n h L t lo hi).ready m.id)=(rg n h (L.eraseIdx k),m,0):=hr;have d1:zdz m=(upM m,0):=hdel;have hg2:(zaF (mkS n h L t lo hi).leases (upM m) d).2=0:=hg;rw[r1];simp only[d1,hg2,ne_eq,zabD,if_false];rfl
 ·rw[g2,zaeu,zabo hk,(zhT t.l (upM m) d).length_eq,zabu];omega
 ·intro y hy;rw[g2] at hy
  rcases zab4.1 ((zhT t.l (upM m) d).mem_iff.1 hy) with rfl|hy
  ·exact⟨mr1,mr2⟩
  ·exact b3 y hy
 ·rw[g2];have p1:((zdJ t.l (upM m) d).map fun y=>y.msg.id).Perm (m.id::t.l.map fun y=>y.msg.id):=(zhT t.l (upM m) d).map _;have p2:(m.id::(L.eraseIdx k).map (·.id)).Perm (L.map (·.id)):=by
   have:=(zrm L k hk).map (·.id);rw[ek] at this;exact this
  have p3:((L.eraseIdx k).map (·.id)++(zdJ t.l (upM m) d).map fun y=>y.msg.id).Perm (L.map (·.id)++t.l.map fun y=>y.msg.id):=
   (p1.append_left _).trans (zade.trans (p2.append_right _))
  exact p3.nodup_iff.2 c
def zeb(L:List zj)(t:zN):List Int:=L.map (·.id)++t.l.map (fun y=>y.msg.id)
theorem zLL{l:List zG}{m:zj}{d:Int}{y:zG}:y∈zdJ l m d↔y=⟨m,d⟩\/y∈l:=by
 rw[(zhT l m d).mem_iff,zab4]
theorem VS.take{n h:Nat}{lo hi mx d ep lim:Int}(hlim:lim<=8)(hd0:0<=d)(hd1:d<=1073741824):∀(l L:List zj) (t:zN) (out:List zG),VS n h L t lo hi->(∀m∈l,m∈L)->(l.map (·.id)).Nodup->
    ∃L' t' out',tkF mx d ep lim l (mkS n h L t lo hi) out=(mkS n h L' t' lo hi,out++out',0)/\VS n h L' t' lo hi/\(zeb L' t').Perm (zeb L t)/\
     (∀y∈out',y.deadline=d/\y∈t'.l/\∃m∈L,y.msg=upM m/\zf8 ep lim m=true)/\(∀y∈t.l,y∈t'.l):=by
 intro l
 induction l with
 | nil=>intro L t out v _ _;exact⟨L,t,[],by simp [tkF],v,List.Perm.refl _,by simp,fun y hy=>hy⟩
 | cons m l ih=>
  intro L t out v hl hn;simp only[zabs,zacv] at hn;rw[tkF]
  by_cases c:(out.length:Int)=mx\/zf8 ep lim m=false
  ·rw[zabo c];exact ih L t out v (fun x hx=>hl x (.tail _ hx)) hn.2
  ·rw[zabn c];have hq:zf8 ep lim m=true:=by
    cases hq:zf8 ep lim m with
    | true=>rfl
    | false=>exact absurd (.inr hq) c
   have hm:=hl m (.head _);obtain⟨k,hk,ek,e1,e2,v2⟩:=v.dlv hm hq hlim hd0 hd1;have hp:=zrm L k hk;rw[ek] at hp;have hl2:∀x∈l,x∈L.eraseIdx k:=by
    intro x hx
    rcases zab4.1 (hp.mem_iff.2 (hl x (.tail _ hx))) with rfl|hx2
    ·exact absurd (zaby.2 ⟨x,hx,rfl⟩) hn.1
    ·exact hx2
   obtain⟨L',t',out',r1,r2,r3,r4,r5⟩:=ih (L.eraseIdx k) (zaF t (upM m) d).1 (out++[⟨upM m,d⟩]) v2 hl2 hn.2;rw[e1];simp only[ne_eq,zabD,if_false];refine⟨L',t',⟨upM m,d⟩::out',by rw[r1];simp,r2,?_,?_,?_⟩
   ·refine r3.trans ?_;unfold zeb;rw[e2];have p1:((zdJ t.l (upM m) d).map fun y=>y.msg.id).Perm (m.id::t.l.map fun y=>y.msg.id):=(zhT t.l (upM m) d).map _;have p2:(m.id::(L.eraseIdx k).map (·.id)).Perm (L.map (·.id)):=by have:=hp.map (fun x:zj=>x.id);exact this
    exact (p1.append_left _).trans (zade.trans (p2.append_right _))
   ·intro y hy
    rcases zab4.1 hy with rfl|hy
    ·exact⟨rfl,r5 _ (by rw[e2];exact zLL.2 (.inl rfl)),m,hm,rfl,hq⟩
    ·obtain⟨s1,s2,m2,s3,s4⟩:=r4 y hy;exact⟨s1,s2,m2,zaeC s3,s4⟩
   ·intro y hy;exact r5 y (by rw[e2];exact zLL.2 (.inr hy))
theorem zVY{t:zN}(h:zao t=0){y:zG}(hy:y∈t.l):zdF t y.msg.id=(y,true):=by
 have h0:0<=zag t.l y.msg.id:=(zhH (l:=t.l) y.msg.id).2 ⟨y,hy,rfl⟩;have ha:=zhW (zhl h).2.1;obtain⟨hp,e⟩:=(zHC ha y.msg.id).1 h0;have e2:=zVX ha h0;unfold zdF;rw[zabo ⟨h,h0⟩,e2,zab5];have e3:t.l[zbk t.l y.msg.id]=y:=by
  obtain⟨j,hj,rfl⟩:=zadu.1 hy;have hpw:=zacu.1 ha
  rcases zadR (zbk t.l t.l[j].msg.id) j with c|c|c
  ·have:=hpw _ _ hp hj c;omega
  ·congr 1
  ·have:=hpw _ _ hj hp c;omega
 rw[zab0,zabx hp];simp only[zacS,e3]
theorem zXJ{s:zt}(ht:zao s.leases=0){y:zG}(hy:y∈s.leases.l)(h:za1)(hid:h.id=y.msg.id)(now ep:Int):zcy s h now ep=(decide (y.msg.gen=h.gen)&&(decide (y.msg.route=h.route)&&(!decide (y.msg.epoch<ep)&&decide (now<y.deadline)))):=by
 unfold zcy;rw[hid,zVY ht hy,zacA]
theorem VS.rel{n h:Nat}{L:List zj}{t:zN}{lo hi:Int}(v:VS n h L t lo hi){y:zG}(hy:y∈t.l):∃t',zaG (mkS n h L t lo hi) y.msg.id=(mkS n h L t' lo hi,y.msg,0)/\VS n h L t' lo hi/\(y::t'.l).Perm t.l:=by
 obtain⟨a1,a2,a3,a4,a5,a6,a7,b1,b2,b3,c⟩:=v;have h0:0<=zag t.l y.msg.id:=(zhH (l:=t.l) y.msg.id).2 ⟨y,hy,rfl⟩;have hr:=(zCD (id:=y.msg.id) b2).2 h0;obtain⟨r1,_,k,hk,e1,e2,e3,e4⟩:=zCE hr;have ey:t.l[k]=y:=by
  have ha:=zhW (zhl b2).2.1;obtain⟨j,hj,rfl⟩:=zadu.1 hy;have hpw:=zacu.1 ha
  rcases zadR k j with c|c|c
  ·have:=hpw _ _ hk hj c;omega
  ·congr 1
  ·have:=hpw _ _ hj hk c;omega
 have hp:(y::(zaf t y.msg.id).1.l).Perm t.l:=by
  rw[e3,zGS, <- ey];exact zrm t.l k hk
 refine⟨(zaf t y.msg.id).1,?_,⟨a1,a2,a3,?_,a5,a6,a7,b1,r1,fun x hx=>b3 x (hp.mem_iff.1 (.tail _ hx)),?_⟩,hp⟩
 ·unfold zaG;rw[zabo (show (zaf (mkS n h L t lo hi).leases y.msg.id).2.2=0 from hr)];show (_,(zaf t y.msg.id).2.1,_)=_;rw[e4,ey];rfl
 ·have:=hp.length_eq;simp only[zabu] at this;omega
 ·have p:(L.map (·.id)++(y.msg.id::(zaf t y.msg.id).1.l.map fun x=>x.msg.id)).Perm (L.map (·.id)++t.l.map fun x=>x.msg.id):=(hp.map (fun x:zG=>x.msg.id)).append_left _;have q:=zade.nodup_iff.1 (p.nodup_iff.2 c);exact (zacv.1 q).2
theorem VS.back{n h:Nat}{L:List zj}{t:zN}{lo hi:Int}(v:VS n h L t lo hi){m:zj}(hm:zap m=0)(hr:lo<=m.route/\m.route<=hi)(hl:L.length+t.l.length<n)(hid:m.id∉zeb L t)(lim:Int):
    ∃h' L',zdw (mkS n h L t lo hi) m lim=(rg n h' L',0)/\VS n h' L' t lo hi/\L'.length=L.length+1/\(L'.map (·.id)).Perm (m.id::L.map (·.id)):=by
 have hord:=v.ord;obtain⟨a1,a2,a3,a4,a5,a6,a7,b1,b2,b3,c⟩:=v;have hni:∀x∈L,x.id≠m.id:=fun x hx e=>hid (zabS.2 (.inl (zaby.2 ⟨x,hx,e⟩)));have hp:zc3 (rg n h L) m=0:=zBI a1 a2 a3 zo (fun x hx=>(b1 x hx).1) (zac6.1 c).1 hm hni;have hnd:(m.id::(L.map (·.id)++t.l.map fun y=>y.msg.id)).Nodup:=zacv.2 ⟨hid,c⟩
 by_cases c1:lim<=m.count
 ·have p:((L++[m]).map (·.id)).Perm (m.id::L.map (·.id)):=by
     rw[zabF];exact zadX
  refine⟨h,L++[m],?_,⟨a1,a2,a3,by simp only[zabv,zab3];omega,a5,a6,a7,fun x hx=> ?_,b2,b3,?_⟩,by simp,p⟩
  ·unfold zdw;rw[zabo c1];show pbD (rg n h L) m=_;unfold pbD;rw[zabo hp,hord,zic];rfl
  ·rcases zabS.1 hx with hx|hx
   ·exact b1 x hx
   ·rw[zab1.1 hx];exact⟨hm,hr⟩
  ·exact (p.append_right _).nodup_iff.2 hnd
 ·refine⟨(h+n - 1) % n,m::L,?_,⟨a1,a2,zZO a1,by simp only[zabu];omega,a5,a6,a7,fun x hx=> ?_,b2,b3,hnd⟩,by simp,List.Perm.refl _⟩
  ·unfold zdw;rw[zabn c1];show pfD (rg n h L) m=_;unfold pfD;rw[zabo hp,hord,zic];rfl
  ·cases hx with
   | head=>exact⟨hm,hr⟩
   | tail _ hx=>exact b1 x hx
theorem VS.us{n h:Nat}{L:List zj}{t:zN}{lo hi:Int}(v:VS n h L t lo hi)(b:Bool):usE (mkS n h L t lo hi) b=if b=true then 0 else 1:=by
 have hl:zab (mkS n h L t lo hi)=0:=by
  unfold zab;rw[zabn (fun q=>q v.val)];rfl
 unfold usE;rw[zabn (fun q=>q hl)]
theorem VS.lens{n h:Nat}{L:List zj}{t:zN}{lo hi:Int}(v:VS n h L t lo hi):(mkS n h L t lo hi).ready.cells.length<=12/\(mkS n h L t lo hi).leases.l.length<=12/\(mkS n h L t lo hi).leases.heap.length<=12:=by
 obtain⟨b1,b2⟩:=zjn v.2.2.2.2.2.2.2.2.1;exact⟨by show (rg n h L).cells.length<=12;rw[zic];exact v.2.1,b1,b2⟩
def zdH(m:zj):za1:=⟨m.id,m.gen,m.route,0⟩
theorem VS.gone{n h:Nat}{L:List zj}{t t':zN}{lo hi:Int}(v:VS n h L t lo hi){y:zG}(hp:(y::t'.l).Perm t.l):y.msg.id∉zeb L t':=by
 have c:=v.2.2.2.2.2.2.2.2.2.2;have p:(L.map (·.id)++(y.msg.id::t'.l.map fun x=>x.msg.id)).Perm (L.map (·.id)++t.l.map fun x=>x.msg.id):=(hp.map (fun x:zG=>x.msg.id)).append_left _;exact (zacv.1 (zade.nodup_iff.1 (p.nodup_iff.2 c))).1
theorem VS.holds{n h:Nat}{L:List zj}{t:zN}{lo hi:Int}(v:VS n h L t lo hi){y:zG}(hy:y∈t.l){now ep:Int}(hd:now<y.deadline)(he:ep<=y.msg.epoch):zcy (mkS n h L t lo hi) (zdH y.msg) now ep=true:=by
 rw[zXJ (s:=mkS n h L t lo hi) v.2.2.2.2.2.2.2.2.1 hy (zdH y.msg) rfl];simp only[zdH,decide_true,zacA,zabH,zace,decide_eq_false_iff_not,decide_eq_true_eq];omega
theorem VS.ack{n h:Nat}{L:List zj}{t:zN}{lo hi:Int}(v:VS n h L t lo hi){y:zG}(hy:y∈t.l){now ep:Int}(hd:now<y.deadline)(he:ep<=y.msg.epoch)(hn:tiQ now=true)(hq:epQ ep=true):∃t',zcS (mkS n h L t lo hi) (zdH y.msg) now ep=(mkS n h L t' lo hi,0)/\VS n h L t' lo hi/\(y::t'.l).Perm t.l:=by
 obtain⟨t',r1,r2,r3⟩:=v.rel hy;refine⟨t',?_,r2,r3⟩;have hu:usE (mkS n h L t lo hi) (tiQ now&&epQ ep)=0:=by rw[v.us,hn,hq];rfl
 unfold zcS;rw[zabn (fun q=>q hu),zabo (v.holds hy hd he)];show ((zaG (mkS n h L t lo hi) y.msg.id).1,(zaG (mkS n h L t lo hi) y.msg.id).2.2)=_;rw[r1]
theorem VS.nack{n h:Nat}{L:List zj}{t:zN}{lo hi:Int}(v:VS n h L t lo hi){y:zG}(hy:y∈t.l){now ep lim:Int}(hd:now<y.deadline)(he:ep<=y.msg.epoch)(hn:tiQ now=true)(hq:epQ ep=true)(hl:liQ lim=true):∃h' L' t',zcK (mkS n h L t lo hi) (zdH y.msg) now ep lim=(mkS n h' L' t' lo hi,0)/\VS n h' L' t' lo hi/\L'.length+t'.l.length=L.length+t.l.length/\(y::t'.l).Perm t.l:=by
 obtain⟨t',r1,r2,r3⟩:=v.rel hy;have hlen:=r3.length_eq;simp only[zabu] at hlen;have hmv:zap y.msg=0:=((zfg t.l).1 (zhl v.2.2.2.2.2.2.2.2.1).2.1).2 y hy |>.1;obtain⟨h',L',q1,q2,q3,q4⟩:=r2.back hmv (v.2.2.2.2.2.2.2.2.2.1 y hy) (by have:=v.2.2.2.1;omega) (v.gone r3) lim;refine⟨h',L',t',?_,q2,by omega,r3⟩;have hu:usE (mkS n h L t lo hi) (tiQ now&&(epQ ep&&liQ lim))=0:=by rw[v.us,hn,hq,hl];rfl
 unfold zcK;rw[zabn (fun q=>q hu),zabo (v.holds hy hd he)];have e:zaG (mkS n h L t lo hi) (zdH y.msg).id=(mkS n h L t' lo hi,y.msg,0):=r1;rw[e];simp only[q1,ne_eq,zabD,if_false];rfl
end Go.Proofs.YtcembpbhkcbnhaaGreat
