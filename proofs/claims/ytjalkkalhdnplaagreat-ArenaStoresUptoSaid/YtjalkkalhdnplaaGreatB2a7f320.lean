/-
  A step of a section.
-/
import Derived.Test.YtjalkkalhdnplaaGreatB568fc85
import Derived.Test.YtjalkkalhdnplaaGreatB4d72af9
import Derived.Test.YtjalkkalhdnplaaGreatB6c2d26b
import Derived.Test.YtjalkkalhdnplaaGreatB93754df
import Derived.Test.YtjalkkalhdnplaaGreatBc22dd4b
import Derived.Test.YtjalkkalhdnplaaGreatB887f6d6
set_option linter.unusedSimpArgs false
set_option linter.unusedVariables false
set_option maxHeartbeats 10000000
set_option maxRecDepth 100000
namespace Go.Proofs.YtjalkkalhdnplaaGreat
open Go Go.Sim
theorem zte{n:Nat}(h1:1<=n)(h2:n<=12):zau ⟨List.replicate n zX,0,0⟩=0:=by
 have hr:zfu ⟨List.replicate n zX,0,0⟩:=by
  unfold zfu;simp only[zZU];omega
 have hf:zcI ⟨List.replicate n zX,0,0⟩ 0 n=false:=by
  unfold zcI;rw[zZ6];intro j _;rw[decide_eq_true_eq];intro q;apply q;simp only[zZU];rw[zZw]
  by_cases c:((0:Int).toNat+j) % n<n
  ·rw[List.getElem?_replicate_of_lt c];rfl
  ·exact absurd (zZO _ zo) c
 unfold zau;rw[zYP (fun q=>q hr)];simp only[zZU,Int.toNat_zero];rw[hf];rfl
theorem zRD{n lo hi:Int}(hn:1<=n/\n<=12)(hs:0<=lo/\lo<=hi/\hi<65536):zU (zbK n lo hi).1=0/\((zbK n lo hi).1.ready.cells.length:Int)=n:=by
 have hr:=zte (n:=n.toNat) zo zo;unfold zbK;rw[zYP zo,zYP (fun q=>q hs)];refine⟨?_,by simp only[zZU];omega⟩;unfold zU;simp only;rw[hr,zYP (fun q=>q rfl),zYP (show ¬zac zV≠0 by decide),zYP (by decide),zYP (fun q=>q hs),zYP (by simp only[zmH,zZU,zV,zYY];omega)];rfl
theorem zN9{n:Int}(hn:1<=n/\n<=12):zU (zfX n).1=0/\((zfX n).1.ready.cells.length:Int)=n:=by
 have hr:=zte (n:=n.toNat) zo zo;unfold zfX;rw[zYP zo];refine⟨?_,by simp only[zZU];omega⟩;unfold zU;simp only;rw[hr,zYP (fun q=>q rfl),zYP (show ¬zac zV≠0 by decide),zYQ trivial];rfl
theorem zWq{u:Setup}(h:zaX u=true):(1<=u.slots/\u.slots<=6)/\(1<=u.live/\u.live<=u.slots)/\(1<=u.capacity/\u.capacity<=12)/\(1<=u.dead/\u.dead<=24)/\(0<=u.clock/\u.clock<=1073741824)/\(1<=u.nextID/\u.nextID<=1073741824)/\0<=u.epoch/\u.epoch<=65536:=by
 unfold zaX inI at h;simp only[zY6,decide_eq_true_eq] at h;omega
theorem zFI{u:Setup}(e:(zbN u).2=0):AI u (zbN u).1:=by
 have hu:zaX u=true:=by
  unfold zbN at e
  split at e
  ·cases e
  ·rename_i c;exact Bool.of_not_eq_false c
 obtain⟨b1,b2,b3,b4,b5,b6,b7⟩:=zWq hu;have hd:(zkf u.slots u.live).1=zfb u.slots.toNat u.live.toNat:=by
  unfold zkf;rw[zYP zo]
 have hv:=(zHD u.slots.toNat u.live.toNat zo zo zo).1;have hl:(zfb u.slots.toNat u.live.toNat).l.length=u.live.toNat:=by simp only[zfb,zWR]
 have hf:(zfb u.slots.toNat u.live.toNat).forward.length=u.slots.toNat:=by simp only[zfb,zZU]
 have ht:=zty _ 0 65536 zo (zqH hv);unfold zbN;rw[zYP (by rw[hu];simp)];simp only[hd];constructor
 ·simp only[zY3,z19];omega
 ·simp only[zY3,z19,zZU]
 ·intro x hx;simp only[zY0,zZJ] at hx;obtain⟨i,hi,rfl⟩:=hx
  by_cases c:(i:Int)<u.live
  ·simp only[zYQ c];have hi2:i<(zfb u.slots.toNat u.live.toNat).l.length:=by omega
   rw[zg hi2];exact zRD b3 (ht _ (zY4 hi2))
  ·simp only[zYP c];exact zN9 b3
 ·intro x hx;rw[z1S hx];unfold zje;apply zZe;simp only[zbR];omega
 ·exact hv
 ·simp only[zY3,z19];exact hf
 ·unfold zbU;simp only;rw[zYP zo,zYP (by simp only[zYY];omega)];rfl
 ·rfl
 ·simp only;omega
 ·exact b5
 ·exact b6
theorem zmb{plan:zq->Pln}(h:∀t,(plan t).2.2.length<=2)(lo hi:Int)(cells:zq->List Int)(a:zm)(t:zq)(n:Int):(zbg plan lo hi cells a t n).2.2.1.length<=2:=by
 unfold zbg zbu;simp only
 split
 ·simp
 generalize (if t.pc=0 then zcc t (cells t) 1 else t)=t';generalize goT a t' n=g
 split
 ·simp
 split
 ·exact h _
 split<;>simp
theorem zTe(a:zm)(t:zq)(n:Int):(zdZ a t n).2.2.1.length<=2:=by
 unfold zdZ;simp only
 split
 ·simp
 split
 ·split<;>simp
 split
 ·simp
 split<;>simp
theorem zG0(a:zm)(t:zq)(n:Int):(zdH a t n).2.2.1.length<=2:=by
 unfold zdH;simp only
 split
 ·simp
 split
 ·simp
 split
 ·split<;>simp
 split
 ·split<;>simp
 split<;>simp
theorem zT2(a:zm)(t:zq)(n:Int):(zd1 a t n).2.2.1.length<=2:=by
 have h:∀t,(zdu t).2.length<=2:=by
  intro t;unfold zdu;simp only
  split
  ·simp
  split
  ·simp
  split<;>simp
 unfold zd1 zbu;simp only
 split
 ·simp
 split
 ·simp
 generalize goT a t n=g
 split
 ·simp
 split
 ·exact h _
 split
 ·simp
 split<;>simp
theorem zWk(K:Tok)(a:zm)(t:zq)(n:Int):(zd5 K a t n).2.2.1.length<=2:=by
 have h:∀t,(zdy t).2.length<=2:=by
  intro t;unfold zdy;simp only
  split<;>simp
 unfold zd5 zbu;simp only
 split
 ·simp
 split
 ·split<;>simp
 split
 ·simp
 generalize goT a t n=g
 split
 ·simp
 split
 ·exact h _
 split
 ·simp
 split<;>simp
theorem zV7(K:Tok)(a:zm)(t:zq)(n:Int):(zd3 K a t n).2.2.1.length<=2:=by
 have h:∀t,(zdx K t).2.length<=2:=by
  intro t;unfold zdx;simp only
  split
  ·simp
  split
  ·split<;>simp
  ·simp
 unfold zd3 zbu;simp only
 split
 ·simp
 split
 ·split<;>simp
 split
 ·split<;>simp
 split
 ·simp
 generalize goT a t n=g
 split
 ·simp
 split
 ·exact h _
 split
 ·simp
 split
 ·simp
 split<;>simp
theorem zTU(K:Tok)(a:zm)(t:zq)(n:Int):(zd0 K a t n).2.2.1.length<=2:=by
 have h:∀t,(zdt t).2.length<=2:=by
  intro t;have h1:∀(k:Nat) (e:Event),(if 0<k then [e] else []).length<=1:=by intro k e;split<;>simp
  unfold zdt;simp only
  split
  ·simp
  split
  ·simp
  split
  ·rw[zYZ];exact Nat.add_le_add (h1 _ _) (zZk 1)
  split
  ·rw[zYZ];exact Nat.add_le_add (h1 _ _) (zZk 1)
  ·exact zZG (h1 _ _) (by decide)
 unfold zd0 zbu;simp only
 split
 ·simp
 split
 ·simp
 split
 ·simp
 generalize goT a t n=g
 split
 ·simp
 split
 ·exact h _
 split
 ·simp
 split
 ·simp
 split
 ·simp
 split<;>simp
theorem zW4(t:zq):(zeG t).2.2.length<=2:=by
 unfold zeG;simp only
 split
 ·simp
 split<;>simp
theorem zWT(t:zq):(zeE t).2.2.length<=2:=by
 unfold zeE;simp only
 split<;>simp
theorem zRl(t:zq):(zeu t).2.2.length<=2:=by
 unfold zeu;simp only
 split<;>simp
theorem zXp(t:zq):(zd8 t).2.2.length<=2:=by
 unfold zd8;simp only
 split
 ·simp
 split
 ·simp
 split
 ·simp
 split<;>simp
theorem zF9(t:zq):(zdF t).2.2.length<=2:=by
 unfold zdF;simp only
 split
 ·simp
 split<;>simp
theorem zEe(K:Tok)(a:zm)(t:zq)(n:Int):(zbL K a t n).2.2.1.length<=2:=by
 unfold zbL
 by_cases c0:t.done=true
 ·rw[zYQ c0];simp [zbu]
 rw[zYP c0]
 by_cases c1:t.inv.kind=1
 ·rw[zYQ c1];exact zV7 _ _ _ _
 rw[zYP c1]
 by_cases c2:t.inv.kind=2
 ·rw[zYQ c2];exact zTU _ _ _ _
 rw[zYP c2]
 by_cases c3:3<=t.inv.kind/\t.inv.kind<=5
 ·rw[zYQ c3];exact zWk _ _ _ _
 rw[zYP c3]
 by_cases c6:t.inv.kind=6
 ·rw[zYQ c6];exact zTe _ _ _
 rw[zYP c6]
 by_cases c7:t.inv.kind=7
 ·rw[zYQ c7];exact zG0 _ _ _
 rw[zYP c7]
 by_cases c8:t.inv.kind=8
 ·rw[zYQ c8];exact zT2 _ _ _
 rw[zYP c8]
 by_cases c9:t.inv.kind=9
 ·rw[zYQ c9];exact zmb zW4 _ _ _ _ _ _
 rw[zYP c9]
 by_cases c10:t.inv.kind=10
 ·rw[zYQ c10];exact zmb zWT _ _ _ _ _ _
 rw[zYP c10]
 by_cases c11:t.inv.kind=11
 ·rw[zYQ c11];exact zmb zRl _ _ _ _ _ _
 rw[zYP c11]
 by_cases c12:t.inv.kind=12\/t.inv.kind=13
 ·rw[zYQ c12];exact zmb zXp _ _ _ _ _ _
 rw[zYP c12]
 by_cases c14:t.inv.kind=14
 ·rw[zYQ c14];exact zmb zF9 _ _ _ _ _ _
 rw[zYP c14];simp [zbu]
structure LB(B:Int)(w:World):Prop where
 lg:(w.log.length:Int)<=2 * w.steps
 st:w.steps<=B
theorem LB.mono{B C:Int}{w:World}(h:LB B w)(hb:B<=C):LB C w:=⟨h.lg,by have:=h.st;omega⟩
theorem zXb{K:Tok}{B:Int}{w:World}{i:Nat}(h:LB B w)(e:(zcV K w i).2=0):LB (B+1) (zcV K w i).1:=by
 have h1:=h.lg;have h2:=h.st;unfold zcV at e ⊢;simp only at e ⊢;have hv:=zEe K w.arena (w.tasks.getD i zJ) (w.steps+1);generalize zbL K w.arena (w.tasks.getD i zJ) (w.steps+1)=r at *
 by_cases c:r.2.2.2=0
 ·rw[zYP (fun q=>q c)];exact⟨by simp only[zYZ];omega,by simp only;omega⟩
 ·rw[zYQ c] at e;exact absurd e c
theorem zXL{B:Int}{w:World}{by_:Int}(h:LB B w)(e:(zd9 w by_).2=0):LB (B+1) (zd9 w by_).1:=by
 have h1:=h.lg;have h2:=h.st;unfold zd9 at e ⊢
 by_cases c:(zeI w.arena by_).2=0
 ·rw[zYP (fun q=>q c)];exact⟨by simp only[zYZ,zYW,zYY];omega,by simp only;omega⟩
 ·rw[zYQ c] at e;exact absurd e c
theorem zPA{B:Int}{w:World}{i:zaY}(h:LB B w)(e:(zcO w i).2.2=0):LB B (zcO w i).1:=by
 unfold zcO at e ⊢
 by_cases c:200<=w.tasks.length\/8<=(zbj w).length
 ·rw[zYQ c] at e;cases e
 rw[zYP c] at e ⊢
 by_cases c2:(zeF (w.tasks.length+1) i w.setup w.steps).2=0
 ·rw[zYP (fun q=>q c2)];exact⟨h.lg,h.st⟩
 ·rw[zYQ c2] at e;exact absurd e c2
theorem zuw(b:Int):(zbn 0 (zf1 b 255)).toNat<=255:=by
 unfold zbn zf1
 split<;>split<;>omega
theorem zHA(r:z8)(k:Int)(hL:r.cells.length<=4294967296):zd G 280 [.d (zQ r),.d (.int .i64 k)] []=some (.d (.tup [zQ (zeS r k).1,.sl ((zeS r k).2.1.map zj),.int .i64 (zeS r k).2.2]),[]):=by
 have hv:=zku r hL;unfold zeS
 by_cases c0:zau r=0
 ·rw[zYP (fun q=>q c0)];rw[c0] at hv;obtain⟨c,h,z,rfl,h1,h2,h3,h4⟩:=zja (zch c0)
  by_cases c1:k<0\/(z:Int)<k
  ·rw[zYQ c1];simp only[zQ,zaz,zYS] at *;exact zW
  ·rw[zYP c1];have ho:=zi1 c h z h2 h3 h4;have hz:(zak c h z).length=z:=zgx c h z;have hw:=zpD c h z h ((zak c h z).take (z - k.toNat)) h1 h2 zo (by rw[z0I];omega);rw[zg8];rw[hz];simp only[rg,zZz];generalize zak c h z=w at *;generalize hl:wN c.length h (w.take (z - k.toNat)) (w.take (z - k.toNat)).length=w2 at *;have hlen:(w.take (z - k.toNat)).length=z - k.toNat:=by rw[z0I];omega
   rw[hlen] at hw ⊢;have e2:((z - k.toNat:Nat):Int)=z - k:=by omega
   rw[e2] at hw ⊢;have e3:z - k.toNat=((z:Int) - k).toNat:=by omega
   rw[e3] at hw ⊢;clear c0 hl hlen e2 e3;simp only[zQ] at *;rw[hz] at ho
   try simp only[zNr,zp] at hw
   exact zW
 ·rw[zYQ c0];generalize zau r=v at *;simp only[zQ,zaz,zYS] at *;exact zW
theorem zHB(s:Shard)(k:Int)(q:za0 s):zd G 232 [.d (zi s),.d (.int .i64 k)] []=some (.d (.tup [zi (zfP s k).1,.sl ((zfP s k).2.1.map zj),.int .i64 (zfP s k).2.2]),[]):=by
 have hl:=zeZ s q.1 q.2.1 q.2.2;have hd:=zHA s.ready k q.1;unfold zfP;generalize zab s=v at *;generalize zeS s.ready k=d at *;obtain⟨r,l,e⟩:=d
 by_cases c0:v=0
 ·subst c0;simp only[ne_eq,zY2,if_false]
  by_cases c1:e=0
  ·subst c1;simp only[zi,zQ] at *;exact zW
  ·rw[zYQ c1];simp only[zi,zQ,zA,zaz,zV,zYS] at *;exact zW
 ·rw[zYQ c0];clear hd;simp only[zi,zQ,zA,zaz,zV,zYS] at *;exact zW
theorem zDx(m:Message)(lo hi:Int):zd G 229 [.d (zj m),.d (.int .i64 lo),.d (.int .i64 hi)] []=some (.d (zj (zcb m lo hi)),[]):=by
 have h:=zBH m.route lo hi;unfold zcb;simp only[zj] at *;exact zW
theorem zUB(m:Message):zd G 228 [.d (zj m)] []=some (.d (zj (zbA m)),[]):=by
 unfold zbA;simp only[zj] at *;exact zW
def zih(l:List Message)(s:Shard)(i:Nat):St:=⟨[(1,.d (.sl (l.map zj))),(2,.ref 2 0 0),(4,.ref 4 0 0),(7,.d (.int .i64 i))],[(2,.row [.d (zi s)]),(4,.row [shZ])]⟩
def zjk(x:Shard×Int):zR×St:=if x.2=0 then (.exit 0,⟨[(2,.ref 2 0 0),(4,.ref 4 0 0)],[(2,.row [.d (zi x.1)]),(4,.row [shZ])]⟩) else (.ret,⟨[(4,.ref 4 0 0),(5,.d (.int .i64 x.2))],[(4,.row [shZ])]⟩)
theorem zTq{s:Shard}{m:Message}(h:(zcH s m).2=0):(zcH s m).1.low=s.low/\(zcH s m).1.high=s.high:=by
 unfold zcH at h ⊢
 by_cases c1:zab s≠0
 ·rw[zYQ c1] at h;exact absurd h c1
 rw[zYP c1] at h ⊢
 by_cases c2:zZ m≠0
 ·rw[zYQ c2] at h;exact absurd h c2
 rw[zYP c2] at h ⊢
 by_cases c3:¬(s.low<=m.route/\m.route<=s.high)
 ·rw[zYQ c3] at h;cases h
 rw[zYP c3] at h ⊢
 by_cases c4:s.ready.size+s.leases.l.length=s.ready.cells.length
 ·rw[zYQ c4] at h;cases h
 rw[zYP c4] at h ⊢
 split at h
 ·cases h
 ·rename_i c5;rw[zYP c5];exact⟨rfl,rfl⟩
theorem zE8(l:List Message)(hl:l.length<=1000)(lo hi:Int):∀p:Shard×Nat,p.2<=l.length/\zaJ p.1/\p.1.low=lo/\p.1.high=hi->zP G [] zlO (zih l p.1 p.2)=some (zjk (zeN lo hi (l.drop p.2) p.1)):=by
 refine zaq (fun p=>l.length - p.2) (fun p:Shard×Nat=>p.2<=l.length/\zaJ p.1/\p.1.low=lo/\p.1.high=hi) (fun p=>zih l p.1 p.2) (fun p=>some (zjk (zeN lo hi (l.drop p.2) p.1))) fun⟨s,i⟩ ⟨hi1,hs,e1,e2⟩ L ih=> ?_;simp only at hi1 hs e1 e2
 by_cases h0:i<l.length
 ·simp only;rw[zZr h0,zeN];have hr:=zDx l[i] lo hi;have hp:=zDe s (zcb l[i] lo hi) (zfK hs)
  by_cases c:(zcH s (zcb l[i] lo hi)).2=0
  ·rw[zYP (fun q=>q c)];have hsp:=zTq c;have i1:=ih ⟨(zcH s (zcb l[i] lo hi)).1,i+1⟩ ⟨by simp only;omega,zn2 hs _,by rw[hsp.1];exact e1,by rw[hsp.2];exact e2⟩ (by simp only;omega);clear ih hsp;simp only at i1;generalize zeN lo hi (l.drop (i+1)) (zcH s (zcb l[i] lo hi)).1=R at *;generalize zcH s (zcb l[i] lo hi)=p at *;generalize zcb l[i] lo hi=m at *;obtain⟨s2,e⟩:=p;subst e1 e2;simp only[zih,zlO] at *;subst c;generalize zjk R=R2 at *;simp only[zi,shZ] at *;simp only[zNr,zp] at i1;exact zS
  ·rw[zYQ c];clear ih;generalize zcH s (zcb l[i] lo hi)=p at *;generalize zcb l[i] lo hi=m at *;obtain⟨s2,e⟩:=p;subst e1 e2;simp only[zih,zjk,zlO] at *;rw[zYP c];simp only[zi,shZ] at *;exact zS
 ·clear ih;obtain rfl:i=l.length:=by omega
  simp only[zZA,zeN,zjk,zih,zlO,if_true];simp only[zi,shZ] at *;exact zS
theorem zE9{lo hi:Int}:∀(l:List Message) (s:Shard),(zeN lo hi l s).2≠0->(zeN lo hi l s).1=zA:=by
 intro l
 induction l with
 | nil=>intro s h;exact absurd rfl h
 | cons m l ih=>
  intro s h;rw[zeN] at h ⊢
  split at h
  ·rename_i c;rw[zYQ c]
  ·rename_i c;rw[zYP c];exact ih _ h
theorem zmG{s:Shard}(h:zU s=0):0<=zbc s/\zbc s<=24:=by
 have h1:=zbJ h;unfold zbc;rw[zYQ h];unfold zU at h
 split at h
 ·rename_i c;exact absurd h c
 ·rename_i c;obtain⟨a1,a2,a3,a4,a5,a6⟩:=zch (zY9.1 c);have:=h1.1;have:=h1.2.1;omega
theorem zt0(s:Shard)(l:List Message)(q:za0 s)(hl:l.length<=1000):zd G 230 [.d (zi s),.d (.sl (l.map zj))] []=some (.d (.tup [zi (zge s l).1,.int .i64 (zge s l).2]),[]):=by
 have hv:=zeZ s q.1 q.2.1 q.2.2;have hst:=zhh s q;unfold zge
 by_cases c0:zab s=0
 ·rw[zYP (fun z=>z c0)];have hb:=zgv c0;have h12:=zbJ hb;have hb2:=zmG hb;have hlp:=zE8 l hl s.low s.high ⟨s,0⟩ ⟨by simp,h12,rfl,rfl⟩;have her:=zE9 (lo:=s.low) (hi:=s.high) l s;rw[c0] at hv;clear c0;simp only[zZq] at hlp;generalize zeN s.low s.high l s=R at *;generalize zbc s=sd at *;have h1:=h12.1;clear h12 hb;obtain⟨s2,e⟩:=R;unfold zjk at hlp;simp only at *
  by_cases c1:(s.ready.cells.length:Int) - sd<l.length
  ·rw[zYQ c1];clear hlp;simp only[zi,zA,zaz,zV,zYS] at *;exact zW
  ·rw[zYP c1]
   by_cases c2:e=0
   ·subst c2;simp only[zih,shZ,if_true] at *;simp only[zi,zZg] at *;exact zW
   ·rw[zYP c2] at hlp;have q1:=her c2;subst q1;clear her;simp only[zih,shZ] at *;simp only[zi,zZg,zA,zaz,zV,zYS] at *;exact zW
 ·rw[zYQ c0];clear hst;generalize zab s=v at *;simp only[zi,zA,zaz,zV,zYS] at *;exact zW
theorem zh0{s:Shard}(h:zU s=0):zau s.ready=0:=by
 unfold zU at h
 split at h
 ·rename_i c;exact absurd h c
 ·rename_i c;exact zY9.1 c
def zin(s:Shard)(l:List Message)(k ep lim:Int)(r:z8)(out:List Message)(i:Nat):St:=⟨[(1,.d (.int .i64 k)),(2,.d (.int .i64 ep)),(3,.d (.int .i64 lim)),(4,.ref 4 0 0),(8,.ref 8 0 0),(12,.acc 12 (out.map zj)),(13,.d (.sl (l.map zj))),(14,.d (.int .i64 i))],[(4,.row [.d (zi { s with ready:=r })]),(8,.row [shZ]),(12,.acc out.length)]⟩
def zim(s:Shard)(x:z8×List Message):zR×St:=(.exit 0,⟨[(4,.ref 4 0 0),(8,.ref 8 0 0),(12,.acc 12 (x.2.map zj))],[(4,.row [.d (zi { s with ready:=x.1 })]),(8,.row [shZ]),(12,.acc x.2.length)]⟩)
theorem zF6(s:Shard)(l:List Message)(k ep lim:Int)(hl:l.length<=12):∀p:z8×List Message×Nat,p.2.2<=l.length/\p.1.cells.length<=12/\p.2.1.length<=p.2.2->zP G [] zjY (zin s l k ep lim p.1 p.2.1 p.2.2)=some (zim s (zee k ep lim (l.drop p.2.2) p.1 p.2.1)):=by
 refine zaq (fun p=>l.length - p.2.2) (fun p:z8×List Message×Nat=>p.2.2<=l.length/\p.1.cells.length<=12/\p.2.1.length<=p.2.2) (fun p=>zin s l k ep lim p.1 p.2.1 p.2.2) (fun p=>some (zim s (zee k ep lim (l.drop p.2.2) p.1 p.2.1))) fun⟨r,out,i⟩ ⟨hi1,hr,ho⟩ L ih=> ?_;simp only at hi1 hr ho
 by_cases h0:i<l.length
 ·simp only;rw[zZr h0,zee]
  by_cases c0:¬(out.length:Int)<k
  ·rw[zYQ c0];clear ih;simp only[zin,zim,zjY,zi,shZ] at *;exact zS
  ·rw[zYP c0];have hp:=zhU l[i] ep;have hs:=zpm l[i] lim
   by_cases c1:lim<=l[i].count/\¬l[i].epoch<ep
   ·rw[zYQ c1];rw[zZe c1.1] at hs;rw[zZc c1.2] at hp;have hm:=zs1 r l[i].id zo;have hc:=zpc r l[i].id;have i1:=ih ⟨(rmD r l[i].id).1,out++[l[i]],i+1⟩ ⟨by simp only;omega,by simp only;omega,by simp only[zYZ,zZp];omega⟩ (by simp only;omega);clear ih c1;simp only at i1;generalize zee k ep lim (l.drop (i+1)) (rmD r l[i].id).1 (out++[l[i]])=R at *;generalize zim s R=R2 at *;generalize rmD r l[i].id=q at *;obtain⟨⟨qc,qh,qz⟩,qm,qe⟩:=q;obtain⟨rc,rh,rz⟩:=r;simp only[zin,zjY,zi,zQ,zj,shZ,zY5,zYU,zYS] at *;simp only[zNr,zp] at i1;have zk0:=zj.eq_1;exact zS
   ·rw[zYP c1];have i1:=ih ⟨r,out,i+1⟩ ⟨by simp only;omega,hr,by simp only;omega⟩ (by simp only;omega);clear ih;simp only at i1;generalize zee k ep lim (l.drop (i+1)) r out=R at *;generalize zim s R=R2 at *;simp only[zin,zjY,zi,zj,shZ] at *;simp only[zNr,zp] at i1
    by_cases c2:lim<=l[i].count
    ·rw[zZe c2] at hs;have c3:l[i].epoch<ep:=by omega
     rw[zZe c3] at hp;clear c1 c2 c3;have zk0:=zj.eq_1;exact zS
    ·rw[zZc c2] at hs;clear c1 c2;have zk0:=zj.eq_1;exact zS
 ·clear ih;obtain rfl:i=l.length:=by omega
  simp only[zZA,zee,zim,zin,zjY];simp only[zi,shZ] at *;exact zS
theorem zF8(s:Shard)(k ep lim:Int)(q:za0 s):zd G 247 [.d (zi s),.d (.int .i64 k),.d (.int .i64 ep),.d (.int .i64 lim)] []=some (.d (.tup [zi (zfL s k ep lim).1,.sl ((zfL s k ep lim).2.1.map zj),.int .i64 (zfL s k ep lim).2.2]),[]):=by
 have hv:=zeZ s q.1 q.2.1 q.2.2;have h1:=zjE ep;have h2:=zn3 lim;unfold zfL
 by_cases c0:zab s=0
 ·rw[zYP (fun z=>z c0)];have hb:=zgv c0;have hr:=zh0 hb;have h12:=zg9 hb;have hrd:=zi7 hr;have hlp:=zF6 s (zu s.ready) k ep lim h12 ⟨s.ready,[],0⟩ ⟨by simp,(zbJ hb).1,by simp⟩;rw[c0] at hv;clear c0 hb hr h12;simp only[zZq] at hlp;generalize zee k ep lim (zu s.ready) s.ready []=R at *;generalize zu s.ready=w at *;generalize epQ ep=b1 at *;generalize liQ lim=b2 at *;obtain⟨⟨rc,rh,rz⟩,out⟩:=R;simp only[zin,zim,zi,shZ,zA,zaz,zV,zYS,zYY,zZg] at *
  cases b1
  ·clear hlp;simp only[z0Y,if_true];exact zW
  cases b2
  ·clear hlp;simp only[z0Y,or_true,if_true];exact zW
  ·by_cases c2:k<0
   ·clear hlp;simp only[c2,or_true,if_true];exact zW
   ·simp only[c2,zZK,or_self,if_false];exact zW
 ·rw[zYQ c0];generalize zab s=v at *;simp only[zi,zA,zaz,zV,zYS] at *;exact zW
def zjw(s:Shard)(l x:List Message)(ep n:Int)(r:z8)(i:Nat):St:=⟨[(1,.d (.int .i64 ep)),(2,.ref 2 0 0),(4,.ref 4 0 0),(8,.d (.int .i64 n)),(9,.d (.sl (l.map zj))),(10,.d (.sl (x.map zj))),(11,.d (.int .i64 i))],[(2,.row [.d (zi { s with ready:=r })]),(4,.row [shZ])]⟩
def cnP(ep:Int)(l:List Message):Nat:=(l.filter fun m=>decide (m.epoch<ep)).length
theorem zGK(ep:Int)(m:Message)(l:List Message):cnP ep (m::l)=(if m.epoch<ep then 1 else 0)+cnP ep l:=by
 unfold cnP;rw[z0m]
 by_cases c:m.epoch<ep
 ·rw[zYQ (by simpa using c),zYQ c,zYW];omega
 ·rw[zYP (by simpa using c),zYP c];omega
theorem zGy(s:Shard)(l x:List Message)(ep:Int)(hl:l.length<=12):∀p:Int×z8×Nat,(p.2.2<=l.length/\p.2.1.cells.length<=12/\0<=p.1/\p.1<=p.2.2)->zP G [] zlP (zjw s l x ep p.1 p.2.1 p.2.2)=some (.exit 0,⟨[(1,.d (.int .i64 ep)),(2,.ref 2 0 0),(4,.ref 4 0 0),(8,.d (.int .i64 (p.1+cnP ep (l.drop p.2.2)))),(10,.d (.sl (x.map zj)))],[(2,.row [.d (zi { s with ready:=rmP ep (l.drop p.2.2) p.2.1 })]),(4,.row [shZ])]⟩):=by
 refine zaq (fun p=>l.length - p.2.2) (fun p:Int×z8×Nat=>(p.2.2<=l.length/\p.2.1.cells.length<=12/\0<=p.1/\p.1<=p.2.2)) (fun p=>zjw s l x ep p.1 p.2.1 p.2.2) (fun p=>_) fun⟨n,r,i⟩ ⟨hi1,hr,hn0,hn1⟩ L ih=> ?_;simp only at hi1 hr hn0 hn1
 by_cases h0:i<l.length
 ·have hp:=zhU l[i] ep;simp only;rw[zZr h0,rmP,zGK]
  by_cases c:l[i].epoch<ep
  ·rw[zYQ c,zYQ c];rw[zZe c] at hp;have hm:=zs1 r l[i].id zo;have hc:=zpc r l[i].id;have i1:=ih ⟨n+1,(rmD r l[i].id).1,i+1⟩ ⟨by simp only;omega,by simp only;omega,by simp only;omega,by simp only;omega⟩ (by simp only;omega);clear ih c;simp only at i1;rw[show n+((1+cnP ep (l.drop (i+1)):Nat):Int)=n+1+(cnP ep (l.drop (i+1)):Nat) by omega];generalize rmP ep (l.drop (i+1)) (rmD r l[i].id).1=R at *;generalize n+1+((cnP ep (l.drop (i+1)):Nat):Int)=N at *;generalize rmD r l[i].id=q at *;obtain⟨⟨qc,qh,qz⟩,qm,qe⟩:=q;obtain⟨rc,rh,rz⟩:=r;simp only[zjw,zlP,zi,zQ,zj,shZ] at *;simp only[zNr,zp] at i1;have zk0:=zj.eq_1;exact zS
  ·rw[zYP c,zYP c];rw[zZc c] at hp;have i1:=ih ⟨n,r,i+1⟩ ⟨by simp only;omega,hr,hn0,by simp only;omega⟩ (by simp only;omega);clear ih c;simp only at i1;rw[zZj];generalize rmP ep (l.drop (i+1)) r=R at *;generalize n+((cnP ep (l.drop (i+1)):Nat):Int)=N at *;simp only[zjw,zlP,zi,zj,shZ] at *;simp only[zNr,zp] at i1;have zk0:=zj.eq_1;exact zS
 ·clear ih;obtain rfl:i=l.length:=by omega
  simp only[zZA,rmP,cnP,z0E,zYY,zZg,Int.add_zero,zjw,zlP,zi,shZ];exact zS
def zjy(s:Shard)(x:List zy)(ep n:Int)(t:Table)(i:Nat):St:=⟨[(1,.d (.int .i64 ep)),(2,.ref 2 0 0),(4,.ref 4 0 0),(8,.d (.int .i64 n)),(10,.d (.sl ((x.map (·.msg)).map zj))),(12,.d (.int .i64 i))],[(2,.row [.d (zi { s with leases:=t })]),(4,.row [shZ])]⟩
def cnL(ep:Int)(l:List zy):Nat:=(l.filter fun y=>decide (y.msg.epoch<ep)).length
theorem zGJ(ep:Int)(m:zy)(l:List zy):cnL ep (m::l)=(if m.msg.epoch<ep then 1 else 0)+cnL ep l:=by
 unfold cnL;rw[z0m]
 by_cases c:m.msg.epoch<ep
 ·rw[zYQ (by simpa using c),zYQ c,zYW];omega
 ·rw[zYP (by simpa using c),zYP c];omega
theorem zGG(s:Shard)(x:List zy)(ep:Int)(hl:x.length<=12):∀p:Int×Table×Nat,(p.2.2<=x.length/\(p.2.1.l.length<=12/\p.2.1.heap.length<=12)/\0<=p.1/\p.1<=100+p.2.2)->zP G [] zlQ (zjy s x ep p.1 p.2.1 p.2.2)=some (.exit 2,⟨[(2,.ref 2 0 0),(4,.ref 4 0 0),(8,.d (.int .i64 (p.1+cnL ep (x.drop p.2.2))))],[(2,.row [.d (zi { s with leases:=zft ep (x.drop p.2.2) p.2.1 })]),(4,.row [shZ])]⟩):=by
 refine zaq (fun p=>x.length - p.2.2) (fun p:Int×Table×Nat=>(p.2.2<=x.length/\(p.2.1.l.length<=12/\p.2.1.heap.length<=12)/\0<=p.1/\p.1<=100+p.2.2)) (fun p=>zjy s x ep p.1 p.2.1 p.2.2) (fun p=>_) fun⟨n,t,i⟩ ⟨hi1,ht,hn0,hn1⟩ L ih=> ?_;simp only at hi1 ht hn0 hn1
 by_cases h0:i<x.length
 ·have hp:=zhU x[i].msg ep;have hg:(x.map (·.msg))[i]'(by simpa using h0)=x[i].msg:=by simp
  simp only;rw[zZr h0,zft,zGJ]
  by_cases c:x[i].msg.epoch<ep
  ·rw[zYQ c,zYQ c];rw[zZe c] at hp;have hm:=zo2 t x[i].msg.id zo zo;have hc:=zDu t x[i].msg.id;have i1:=ih ⟨n+1,(zaf t x[i].msg.id).1,i+1⟩ ⟨by simp only;omega,hc,by simp only;omega,by simp only;omega⟩ (by simp only;omega);clear ih c;simp only at i1;rw[show n+((1+cnL ep (x.drop (i+1)):Nat):Int)=n+1+(cnL ep (x.drop (i+1)):Nat) by omega];generalize zft ep (x.drop (i+1)) (zaf t x[i].msg.id).1=R at *;generalize n+1+((cnL ep (x.drop (i+1)):Nat):Int)=N at *;generalize zaf t x[i].msg.id=q at *;obtain⟨⟨qc,qh⟩,qm,qe⟩:=q;obtain⟨tc,th⟩:=t;simp only[zjy,zlQ,zi,z9,zj,shZ] at *;simp only[zNr,zp] at i1;have zk0:=zj.eq_1;exact zS
  ·rw[zYP c,zYP c];rw[zZc c] at hp;have i1:=ih ⟨n,t,i+1⟩ ⟨by simp only;omega,ht,hn0,by simp only;omega⟩ (by simp only;omega);clear ih c;simp only at i1;rw[zZj];generalize zft ep (x.drop (i+1)) t=R at *;generalize n+((cnL ep (x.drop (i+1)):Nat):Int)=N at *;simp only[zjy,zlQ,zi,zj,shZ] at *;simp only[zNr,zp] at i1;have zk0:=zj.eq_1;exact zS
 ·clear ih;obtain rfl:i=x.length:=by omega
  simp only[zZA,zft,cnL,z0E,zYY,zZg,Int.add_zero,zjy,zlQ,zi,shZ];exact zS
theorem zGB(s:Shard)(ep:Int)(q:za0 s):zd G 245 [.d (zi s),.d (.int .i64 ep)] []=some (.d (.tup [zi (zhx s ep).1,.int .i64 (zhx s ep).2.1,.int .i64 (zhx s ep).2.2]),[]):=by
 have hv:=zeZ s q.1 q.2.1 q.2.2;have h1:=zjE ep;unfold zhx
 by_cases c0:zab s=0
 ·rw[zYP (fun z=>z c0)];have hb:=zgv c0;have hr:=zh0 hb;have h12:=zg9 hb;have hle:=zbJ hb;have hrd:=zi7 hr;have hld:=zoD (s:=s) hle.2.1;have hl1:=zGy s (zu s.ready) (s.leases.l.map (·.msg)) ep h12 ⟨0,s.ready,0⟩ ⟨by simp,hle.1,by simp,by simp⟩;have hcb:cnP ep (zu s.ready)<=12:=zZG (z0h _ _) h12;have hl2:=zGG { s with ready:=rmP ep (zu s.ready) s.ready } s.leases.l ep hle.2.1 ⟨cnP ep (zu s.ready),s.leases,0⟩ ⟨by simp,hle.2,by simp,by simp only;omega⟩;rw[c0] at hv;clear c0 hb hr h12;have e1:((zu s.ready).filter fun m=>decide (m.epoch<ep)).length=cnP ep (zu s.ready):=rfl;have e2:(s.leases.l.filter fun y=>decide (y.msg.epoch<ep)).length=cnL ep s.leases.l:=rfl;rw[e1,e2];clear e1 e2;simp only[zZq,Int.zero_add] at hl1 hl2;generalize cnP ep (zu s.ready)=n1 at *;generalize cnL ep s.leases.l=n2 at *;generalize rmP ep (zu s.ready) s.ready=R at *;generalize zft ep s.leases.l s.leases=T at *;generalize zu s.ready=w at *;generalize epQ ep=b1 at *;obtain⟨rc,rh,rz⟩:=R;obtain⟨tl,th⟩:=T;simp only[zjw,zjy,zi,shZ,zA,zaz,zV,zYS,zZg] at *
  cases b1
  ·clear hl1 hl2;simp only[if_true];exact zW
  ·simp only[zZK,if_false];exact zW
 ·rw[zYQ c0];generalize zab s=v at *;simp only[zi,zA,zaz,zV,zYS] at *;exact zW
def zjI(s:Shard)(l:List Message)(y:List zy)(r:z8)(i:Nat):St:=⟨[(1,.d (.sl (l.map zj))),(2,.d (.sl (y.map zaw))),(3,.ref 3 0 0),(6,.ref 6 0 0),(7,.d (.int .i64 i))],[(3,.row [.d (zi { s with ready:=r })]),(6,.row [shZ])]⟩
theorem zJJ(s:Shard)(l:List Message)(y:List zy)(hl:l.length<=1000):∀p:z8×Nat,(p.2<=l.length/\p.1.cells.length<=12)->zP G [] zlR (zjI s l y p.1 p.2)=some (.exit 0,⟨[(2,.d (.sl (y.map zaw))),(3,.ref 3 0 0),(6,.ref 6 0 0)],[(3,.row [.d (zi { s with ready:=zbz s.low s.high (l.drop p.2) p.1 })]),(6,.row [shZ])]⟩):=by
 refine zaq (fun p=>l.length - p.2) (fun p:z8×Nat=>(p.2<=l.length/\p.1.cells.length<=12)) (fun p=>zjI s l y p.1 p.2) (fun p=>_) fun⟨r,i⟩ ⟨hi1,hr⟩ L ih=> ?_;simp only at hi1 hr
 by_cases h0:i<l.length
 ·simp only;rw[zZr h0,zbz]
  by_cases c:s.low<=l[i].route/\l[i].route<=s.high
  ·rw[zYQ c];have hm:=zo1 r l[i] zo;have hc:=zsT r l[i];have i1:=ih ⟨(pbD r l[i]).1,i+1⟩ ⟨by simp only;omega,by simp only;omega⟩ (by simp only;omega);clear ih;simp only at i1;generalize zbz s.low s.high (l.drop (i+1)) (pbD r l[i]).1=R at *;generalize pbD r l[i]=q at *;obtain⟨⟨qc,qh,qz⟩,qe⟩:=q;obtain⟨rc,rh,rz⟩:=r;simp only[zjI,zlR,zi,zQ,zj,shZ] at *;simp only[zNr,zp] at i1;have zk0:=zj.eq_1;exact zS
  ·rw[zYP c];have i1:=ih ⟨r,i+1⟩ ⟨by simp only;omega,hr⟩ (by simp only;omega);clear ih;simp only at i1;generalize zbz s.low s.high (l.drop (i+1)) r=R at *;simp only[zjI,zlR,zi,zj,shZ] at *;simp only[zNr,zp] at i1;have zk0:=zj.eq_1;exact zS
 ·clear ih;obtain rfl:i=l.length:=by omega
  simp only[zZA,zbz,zjI,zlR,zi,shZ];exact zS
def zjL(s:Shard)(y:List zy)(t:Table)(i:Nat):St:=⟨[(2,.d (.sl (y.map zaw))),(3,.ref 3 0 0),(6,.ref 6 0 0),(8,.d (.int .i64 i))],[(3,.row [.d (zi { s with leases:=t })]),(6,.row [shZ])]⟩
theorem zKb(s:Shard)(y:List zy)(hl:y.length<=1000):∀p:Table×Nat,(p.2<=y.length/\(p.1.l.length<=12/\p.1.heap.length<=12))->zP G [] zlS (zjL s y p.1 p.2)=some (.exit 2,⟨[(3,.ref 3 0 0),(6,.ref 6 0 0)],[(3,.row [.d (zi { s with leases:=zen s.low s.high (y.drop p.2) p.1 })]),(6,.row [shZ])]⟩):=by
 refine zaq (fun p=>y.length - p.2) (fun p:Table×Nat=>(p.2<=y.length/\(p.1.l.length<=12/\p.1.heap.length<=12))) (fun p=>zjL s y p.1 p.2) (fun p=>_) fun⟨t,i⟩ ⟨hi1,ht⟩ L ih=> ?_;simp only at hi1 ht
 by_cases h0:i<y.length
 ·simp only;rw[zZr h0,zen]
  by_cases c:s.low<=y[i].msg.route/\y[i].msg.route<=s.high
  ·rw[zYQ c];have hm:=zs2 t y[i].msg y[i].deadline zo zo;have hc:=zzF s.low s.high [y[i]] t ht;rw[zen,zYQ c,zen] at hc;have i1:=ih ⟨(zaH t y[i].msg y[i].deadline).1,i+1⟩ ⟨by simp only;omega,hc⟩ (by simp only;omega);clear ih;simp only at i1;generalize zen s.low s.high (y.drop (i+1)) (zaH t y[i].msg y[i].deadline).1=R at *;generalize zaH t y[i].msg y[i].deadline=q at *;obtain⟨⟨qc,qh⟩,qe⟩:=q;obtain⟨tc,th⟩:=t;simp only[zjL,zlS,zi,z9,zj,shZ] at *;simp only[zNr,zp] at i1;have zk0:=zaw.eq_1;exact zS
  ·rw[zYP c];have i1:=ih ⟨t,i+1⟩ ⟨by simp only;omega,ht⟩ (by simp only;omega);clear ih;simp only at i1;generalize zen s.low s.high (y.drop (i+1)) t=R at *;simp only[zjL,zlS,zi,zj,shZ] at *;simp only[zNr,zp] at i1;have zk0:=zaw.eq_1;exact zS
 ·clear ih;obtain rfl:i=y.length:=by omega
  simp only[zZA,zen,zjL,zlS,zi,shZ];exact zS
theorem zqY(s:Shard)(l:List Message)(y:List zy)(hs:zaJ s)(hl:l.length<=1000)(hy:y.length<=1000):zd G 283 [.d (zi s),.d (.sl (l.map zj)),.d (.sl (y.map zaw))] []=some (.d (zi (zgm s l y)),[]):=by
 have h1:=zJJ s l y hl ⟨s.ready,0⟩ ⟨by simp,hs.1⟩;have h2:=zKb { s with ready:=zbz s.low s.high l s.ready } y hy ⟨s.leases,0⟩ ⟨by simp,hs.2⟩;unfold zgm;simp only[zZq] at h1 h2;generalize zbz s.low s.high l s.ready=R at *;generalize zen s.low s.high y s.leases=T at *;simp only[zjI,zjL,zi,shZ,zZg] at *;exact zW
theorem zCF(n:Int):zd G 76 [.d (.int .i64 n)] []=some (.d (.tup [zQ (if n<1\/12<n then zaz else ⟨List.replicate n.toNat zX,0,0⟩),.int .i64 (if n<1\/12<n then 1 else 0)]),[]):=by
 by_cases c:n<1\/12<n
 ·rw[zYQ c,zYQ c];simp only[zQ,zaz,zYS];exact zW
 ·rw[zYP c,zYP c];have h:=zsE n.toNat zo zo;rw[z10 zo] at h;exact h
theorem zoO(n lo hi:Int):zd G 31 [.d (.int .i64 n),.d (.int .i64 lo),.d (.int .i64 hi)] []=some (.d (.tup [zi (zbK n lo hi).1,.int .i64 (zbK n lo hi).2]),[]):=by
 have h1:=zCF n;have h2:=zDV lo hi;unfold zbK
 by_cases c:n<1\/12<n
 ·rw[zYQ c] at h1 ⊢;rw[zYQ c] at h1;simp only[zi,zQ,zA,zaz,zV,zYS] at *;exact zW
 ·rw[zYP c] at h1 ⊢;rw[zYP c] at h1;generalize List.replicate n.toNat zX=w at *
  by_cases c2:0<=lo/\lo<=hi/\hi<65536
  ·rw[zYP (fun q=>q c2)];rw[zZe c2] at h2;simp only[zi,zQ,zA,zaz,zV,zYS] at *;exact zW
  ·rw[zYQ c2];rw[zZc c2] at h2;simp only[zi,zQ,zA,zaz,zV,zYS] at *;exact zW
theorem zAI(n:Int):zd G 95 [.d (.int .i64 n)] []=some (.d (.tup [zi (zfX n).1,.int .i64 (zfX n).2]),[]):=by
 have h1:=zCF n;unfold zfX
 by_cases c:n<1\/12<n
 ·rw[zYQ c] at h1 ⊢;rw[zYQ c] at h1;simp only[zi,zQ,zA,zaz,zV,zYS] at *;exact zW
 ·rw[zYP c] at h1 ⊢;rw[zYP c] at h1;generalize List.replicate n.toNat zX=w at *;simp only[zi,zQ,zA,zaz,zV,zYS] at *;exact zW
theorem zQE{s:Shard}(h:zab s=0):0<=s.low/\s.low<=s.high/\s.high<65536:=by
 have hv:=zgv h;have hl:s.live=true:=by
  unfold zab at h;rw[zYP (fun q=>q hv)] at h
  split at h
  ·assumption
  ·cases h
 obtain⟨n,h',e,v⟩:=zfE hv hl;exact⟨v.2.2.2.2.1,v.2.2.2.2.2.1,v.2.2.2.2.2.2.1⟩
theorem zHM(s:Shard)(mid:Int)(q:za0 s):zd G 237 [.d (zi s),.d (.int .i64 mid)] []=some (.d (.tup [zi (zdJ s mid).1,zi (zdJ s mid).2.1,.int .i64 (zdJ s mid).2.2]),[]):=by
 have hv:=zeZ s q.1 q.2.1 q.2.2;unfold zdJ
 by_cases c0:zab s=0
 ·rw[zYP (fun z=>z c0)];have hb:=zgv c0;have hr:=zh0 hb;have h12:=zg9 hb;have hle:=zbJ hb;have hrd:=zi7 hr;have hn1:=zoO s.ready.cells.length s.low mid;have hn2:=zoO s.ready.cells.length (mid+1) s.high;have hf1:=zqY (zbK s.ready.cells.length s.low mid).1 (zu s.ready) s.leases.l (zn1 _ _ _) zo (by have:=hle.2.1;omega);have hf2:=zqY (zbK s.ready.cells.length (mid+1) s.high).1 (zu s.ready) s.leases.l (zn1 _ _ _) zo (by have:=hle.2.1;omega);have hhi:=zQE c0;rw[c0] at hv;clear c0 hb hr h12;generalize zgm (zbK s.ready.cells.length s.low mid).1 (zu s.ready) s.leases.l=F1 at *;generalize zgm (zbK s.ready.cells.length (mid+1) s.high).1 (zu s.ready) s.leases.l=F2 at *;generalize zbK s.ready.cells.length s.low mid=N1 at *;generalize zbK s.ready.cells.length (mid+1) s.high=N2 at *;generalize zu s.ready=w at *;obtain⟨N1,e1⟩:=N1;obtain⟨N2,e2⟩:=N2;simp only at *
  by_cases c1:mid<s.low\/s.high<=mid
  ·rw[zYQ c1];clear hf1 hf2 hn1 hn2;simp only[zi,zA,zaz,zV,zYS] at *;exact zW
  ·rw[zYP c1];have sz_F1:=za1 F1;generalize zi F1=D_F1 at *;have sz_F2:=za1 F2;generalize zi F2=D_F2 at *;have sz_N1:=za1 N1;generalize zi N1=D_N1 at *;have sz_N2:=za1 N2;generalize zi N2=D_N2 at *;simp only[zi] at *;exact zW
 ·rw[zYQ c0];generalize zab s=v at *;simp only[zi,zA,zaz,zV,zYS] at *;exact zW
def zyP:List Nat:=[6,20,21,13,22,23,24,25,26,27,28,29,30,31,32,33,16,34,35,36,38,39,40,131]
def zAs:=af Tryz.prog false Tryz.f96 znc
namespace LA
noncomputable def G:FuncId->Option AFn:=zlV Go.Proofs.YtjalkkalhdnplaaGreat.G zyP 96 zAs
theorem zAU:G 37=some zq5:=tk
theorem zrd:G 86=some zq6:=tk
theorem zAZ:G 5=some zq7:=tk
theorem zA2:G 96=some zAs:=tk
variable {args:List Go.Sim.AV} {os:zf}
theorem zEA:zd G 6 args os=zd Go.Proofs.YtjalkkalhdnplaaGreat.G 6 args os:=zb8 (by kernel_rfl)
theorem zEG:zd G 20 args os=zd Go.Proofs.YtjalkkalhdnplaaGreat.G 20 args os:=zb8 (by kernel_rfl)
theorem zpy:zd G 21 args os=zd Go.Proofs.YtjalkkalhdnplaaGreat.G 21 args os:=zb8 (by kernel_rfl)
theorem zgJ:zd G 13 args os=zd Go.Proofs.YtjalkkalhdnplaaGreat.G 13 args os:=zb8 (by kernel_rfl)
theorem ztO:zd G 22 args os=zd Go.Proofs.YtjalkkalhdnplaaGreat.G 22 args os:=zb8 (by kernel_rfl)
theorem zEv:zd G 23 args os=zd Go.Proofs.YtjalkkalhdnplaaGreat.G 23 args os:=zb8 (by kernel_rfl)
theorem zEL:zd G 24 args os=zd Go.Proofs.YtjalkkalhdnplaaGreat.G 24 args os:=zb8 (by kernel_rfl)
theorem zEw:zd G 25 args os=zd Go.Proofs.YtjalkkalhdnplaaGreat.G 25 args os:=zb8 (by kernel_rfl)
theorem zEM:zd G 26 args os=zd Go.Proofs.YtjalkkalhdnplaaGreat.G 26 args os:=zb8 (by kernel_rfl)
theorem zEJ:zd G 27 args os=zd Go.Proofs.YtjalkkalhdnplaaGreat.G 27 args os:=zb8 (by kernel_rfl)
theorem zEK:zd G 28 args os=zd Go.Proofs.YtjalkkalhdnplaaGreat.G 28 args os:=zb8 (by kernel_rfl)
theorem zEu:zd G 29 args os=zd Go.Proofs.YtjalkkalhdnplaaGreat.G 29 args os:=zb8 (by kernel_rfl)
theorem zED:zd G 30 args os=zd Go.Proofs.YtjalkkalhdnplaaGreat.G 30 args os:=zb8 (by kernel_rfl)
theorem zEI:zd G 31 args os=zd Go.Proofs.YtjalkkalhdnplaaGreat.G 31 args os:=zb8 (by kernel_rfl)
theorem zEy:zd G 32 args os=zd Go.Proofs.YtjalkkalhdnplaaGreat.G 32 args os:=zb8 (by kernel_rfl)
theorem zEO:zd G 33 args os=zd Go.Proofs.YtjalkkalhdnplaaGreat.G 33 args os:=zb8 (by kernel_rfl)
theorem zpz:zd G 16 args os=zd Go.Proofs.YtjalkkalhdnplaaGreat.G 16 args os:=zb8 (by kernel_rfl)
theorem zEC:zd G 34 args os=zd Go.Proofs.YtjalkkalhdnplaaGreat.G 34 args os:=zb8 (by kernel_rfl)
theorem zEz:zd G 35 args os=zd Go.Proofs.YtjalkkalhdnplaaGreat.G 35 args os:=zb8 (by kernel_rfl)
theorem zEP:zd G 36 args os=zd Go.Proofs.YtjalkkalhdnplaaGreat.G 36 args os:=zb8 (by kernel_rfl)
theorem zEx:zd G 38 args os=zd Go.Proofs.YtjalkkalhdnplaaGreat.G 38 args os:=zb8 (by kernel_rfl)
theorem zEN:zd G 39 args os=zd Go.Proofs.YtjalkkalhdnplaaGreat.G 39 args os:=zb8 (by kernel_rfl)
theorem zEF:zd G 40 args os=zd Go.Proofs.YtjalkkalhdnplaaGreat.G 40 args os:=zb8 (by kernel_rfl)
theorem zEB:zd G 131 args os=zd Go.Proofs.YtjalkkalhdnplaaGreat.G 131 args os:=zb8 (by kernel_rfl)
attribute [go_sem] zEA zEG zpy zgJ ztO zEv zEL zEw zEM zEJ zEK zEu zED zEI zEy zEO zpz zEC zEz zEP zEx zEN zEF zEB
end LA
end Go.Proofs.YtjalkkalhdnplaaGreat

namespace Go.Proofs.YtjalkkalhdnplaaGreat.LA
open Go Go.Sim Go.Proofs.YtjalkkalhdnplaaGreat
theorem zRA(c:Int)(h:1<=c/\c<=24):zd G 96 [.d (.int .i64 c)] []=some (.tup [.agg [.d (.int .i64 c),.xsl []],.d (.int .i64 0)],[]):=by
 rw[zB zA2 (by simp)];simp -implicitDefEqProofs (maxSteps:=4000000) (disch:=omega) only[znc,zg,go_sem, *];(try simp only[zPr]);repeat' (first|done|rfl|((first|refine zG (fun hq=> ?_) (fun hq=> ?_)|refine zM (fun hq=> ?_) (fun hq=> ?_))<;>(try (first|(exfalso;omega)|contradiction))<;>(try simp -implicitDefEqProofs (maxSteps:=4000000) (disch:=omega) only[zg,go_sem, *])<;>(try simp only[zPr])));(all_goals try rfl);(all_goals try (repeat' (first|done|rfl|(exfalso;omega)|contradiction|(refine zI (fun hq=> ?_) (fun hq=> ?_)))))
def ddL(c:Int)(L:List Message):Go.Sim.AV:=match L with
 | []=> .agg [.d (.int .i64 c),.xsl []]
 | m::w=> .agg [.d (.int .i64 c),.acc 500029 ((m::w).map zj)]
def ddH(L:List Message):zf:=match L with
 | []=>[]
 | m::w=>[(500029,.acc (m::w).length)]
def ddS(l:List Int)(c:Int)(p:List Message×Nat×Nat):St:=⟨[(0,.ref 1000000 0 0),(4,.ref 4 0 0),(5,.ref 5 0 0),(7,.d (.int .i64 p.2.2)),(1000000,.ref 1000000 1 0)],[(4,.row [.agg [.d (.int .i64 0),.xsl []]]),(5,.row [ddL c p.1])]++ddH p.1++[(1000000,zp l p.2.1)]⟩
def zqG(l:List Int)(c:Int)(r:Option (zR×St)):Prop:=∃(L:List Message) (a:Nat),L.length<=9/\r=some (.exit 0,⟨[(4,.ref 4 0 0),(5,.ref 5 0 0),(1000000,.ref 1000000 1 0)],[(4,.row [.agg [.d (.int .i64 0),.xsl []]]),(5,.row [ddL c L])]++ddH L++[(1000000,zp l a)]⟩)
theorem zHr(l:List Int)(c:Int)(hL:l.length<=4000):∀p:List Message×Nat×Nat,p.1.length+p.2.2<=9->zdl (zqG l c) (zP G [] zjX (ddS l c p)):=by
 refine ziQ (fun p:List Message×Nat×Nat=>p.2.2) _ (ddS l c) (fun _=>zdl (zqG l c)) fun⟨w,a,k⟩ h1 L ih=> ?_;simp only at h1
 rcases k with _|k
 ·clear ih;have fin:zdl (zqG l c) (some (.exit 0,⟨[(4,.ref 4 0 0),(5,.ref 5 0 0),(1000000,.ref 1000000 1 0)],[(4,.row [.agg [.d (.int .i64 0),.xsl []]]),(5,.row [ddL c w])]++ddH w++[(1000000,zp l a)]⟩)):=⟨w,a,by omega,rfl⟩
  rcases w with _|⟨m,w⟩
  ·simp only[ddS,ddL,ddH,zjX,zp,zZd,zZb,zZh] at *
   (try simp -implicitDefEqProofs (maxSteps:=4000000) (disch:=omega) only[zg,go_sem, *]);(try simp only[zPr]);repeat' (first|done|rfl|((first|refine zG (fun hq=> ?_) (fun hq=> ?_)|refine zM (fun hq=> ?_) (fun hq=> ?_))<;>(try (first|(exfalso;omega)|contradiction))<;>(try simp -implicitDefEqProofs (maxSteps:=4000000) (disch:=omega) only[zg,go_sem, *])<;>(try simp only[zPr])));(all_goals try rfl);(all_goals try (repeat' (first|done|rfl|(exfalso;omega)|contradiction|(refine zI (fun hq=> ?_) (fun hq=> ?_)))))
  ·simp only[ddS,ddL,ddH,zjX,zp,zZd,zZb,zZh] at *;simp only[zNr,zp] at fin
   (try simp -implicitDefEqProofs (maxSteps:=4000000) (disch:=omega) only[zg,go_sem, *]);(try simp only[zPr]);repeat' (first|done|rfl|((first|refine zG (fun hq=> ?_) (fun hq=> ?_)|refine zM (fun hq=> ?_) (fun hq=> ?_))<;>(try (first|(exfalso;omega)|contradiction))<;>(try simp -implicitDefEqProofs (maxSteps:=4000000) (disch:=omega) only[zg,go_sem, *])<;>(try simp only[zPr])));(all_goals try rfl);(all_goals try (repeat' (first|done|rfl|(exfalso;omega)|contradiction|(refine zI (fun hq=> ?_) (fun hq=> ?_)))))
 ·obtain⟨m,a2,_,hm⟩:=zsw l a (50+((k+1:Nat):Int)) 0 65535 hL zo zo zo;replace hm:=zEB.trans hm;have i1:=ih (w++[m],a2,k) (by simp only[zYZ,zZp];omega) (by simp only;omega);clear ih;have ek:(k:Int)+1 - 1=k:=by omega
  rcases w with _|⟨m0,w⟩
  ·simp only[ddS,ddL,ddH,zjX,zp,zZd,zZb,zZh] at *;simp only[zNr,zp] at i1 hm;have sz_m:=zy8 m;generalize zj m=D_m at *
   (try simp -implicitDefEqProofs (maxSteps:=4000000) (disch:=omega) only[zg,go_sem, *]);(try simp only[zPr]);repeat' (first|done|rfl|((first|refine zG (fun hq=> ?_) (fun hq=> ?_)|refine zM (fun hq=> ?_) (fun hq=> ?_))<;>(try (first|(exfalso;omega)|contradiction))<;>(try simp -implicitDefEqProofs (maxSteps:=4000000) (disch:=omega) only[zg,go_sem, *])<;>(try simp only[zPr])));(all_goals try rfl);(all_goals try (repeat' (first|done|rfl|(exfalso;omega)|contradiction|(refine zI (fun hq=> ?_) (fun hq=> ?_)))))
  ·simp only[zYW] at h1;have hw:w.length<=9/\k<=9:=by omega
   clear h1;simp only[ddS,ddL,ddH,zjX,zp,zZd,zZb,zZh] at *;simp only[zNr,zp] at i1 hm;have sz_m:=zy8 m;generalize zj m=D_m at *
   (try simp -implicitDefEqProofs (maxSteps:=4000000) (disch:=omega) only[zg,go_sem, *]);(try simp only[zPr]);repeat' (first|done|rfl|((first|refine zG (fun hq=> ?_) (fun hq=> ?_)|refine zM (fun hq=> ?_) (fun hq=> ?_))<;>(try (first|(exfalso;omega)|contradiction))<;>(try simp -implicitDefEqProofs (maxSteps:=4000000) (disch:=omega) only[zg,go_sem, *])<;>(try simp only[zPr])));(all_goals try rfl);(all_goals try (repeat' (first|done|rfl|(exfalso;omega)|contradiction|(refine zI (fun hq=> ?_) (fun hq=> ?_)))))
theorem zHu(l:List Int)(a:Nat)(hL:l.length<=4000):∃(d:Dead) (a':Nat),d.l.length<=9/\zd G 37 [.ref 1000000 0 0] [(1000000,zp l a)]=some (.d (zF d),[(1000000,zp l a')]):=by
 have r1:=zpy.trans (zgz l a 1 8 hL zo zo zo zo);have b1:=zaG l a (n:=8) zo;obtain⟨x2,q2⟩:∃x2,(zae l a).2=x2:=⟨_,rfl⟩;rw[q2] at r1;clear q2;have e:(8:Int) - 1+1=8:=by omega
 rw[e] at r1;clear e;obtain⟨c,hc⟩:∃c,1+nD l a 8=c:=⟨_,rfl⟩;rw[hc] at r1;have hc2:1<=c/\c<=8:=by omega
 clear hc b1;have k1:=zRA c zo;have n1:=zgJ.trans (zbP l x2 (c+1) hL zo zo);have b2:=zaG l x2 (n:=c+1) zo;obtain⟨k,hk⟩:∃k:Nat,nD l x2 (c+1)=k:=⟨(nD l x2 (c+1)).toNat,by omega⟩;rw[hk] at n1 b2;clear hk;obtain⟨x3,q3⟩:∃x3,(zae l x2).2=x3:=⟨_,rfl⟩;rw[q3] at n1;clear q3;obtain⟨w,a',hw,hl⟩:=zHr l c hL ⟨[],x3,k⟩ (by simp only[zYY];omega);have hD:zd G 86 [.ref 1000000 0 0,.d (.int .i64 c)] [(1000000,zp l x2)]=some (.d (zF ⟨c,w⟩),[(1000000,zp l a')]):=by
  clear r1
  rcases w with _|⟨m,w⟩
  ·simp only[ddS,ddL,ddH,zp,zZd,zZb,zZh,zF,zYS] at *;rw[zB zrd (by simp)];simp -implicitDefEqProofs (maxSteps:=4000000) (disch:=omega) only[zm5,zg,go_sem, *];(try simp only[zPr]);repeat' (first|done|rfl|((first|refine zG (fun hq=> ?_) (fun hq=> ?_)|refine zM (fun hq=> ?_) (fun hq=> ?_))<;>(try (first|(exfalso;omega)|contradiction))<;>(try simp -implicitDefEqProofs (maxSteps:=4000000) (disch:=omega) only[zg,go_sem, *])<;>(try simp only[zPr])));(all_goals try rfl);(all_goals try (repeat' (first|done|rfl|(exfalso;omega)|contradiction|(refine zI (fun hq=> ?_) (fun hq=> ?_)))))
  ·simp only[zYW] at hw;simp only[ddS,ddL,ddH,zp,zZd,zZb,zZh,zF,zYU,zYW,zY3] at *;rw[zB zrd (by simp)];simp -implicitDefEqProofs (maxSteps:=4000000) (disch:=omega) only[zm5,zg,go_sem, *];(try simp only[zPr]);repeat' (first|done|rfl|((first|refine zG (fun hq=> ?_) (fun hq=> ?_)|refine zM (fun hq=> ?_) (fun hq=> ?_))<;>(try (first|(exfalso;omega)|contradiction))<;>(try simp -implicitDefEqProofs (maxSteps:=4000000) (disch:=omega) only[zg,go_sem, *])<;>(try simp only[zPr])));(all_goals try rfl);(all_goals try (repeat' (first|done|rfl|(exfalso;omega)|contradiction|(refine zI (fun hq=> ?_) (fun hq=> ?_)))))
 refine⟨⟨c,w⟩,a',hw,?_⟩;clear hl k1 n1 b2 hw;simp only[zp,zF] at *;rw[zB zAU (by simp)];simp -implicitDefEqProofs (maxSteps:=4000000) (disch:=omega) only[zp5,zg,go_sem, *];(try simp only[zPr]);repeat' (first|done|rfl|((first|refine zG (fun hq=> ?_) (fun hq=> ?_)|refine zM (fun hq=> ?_) (fun hq=> ?_))<;>(try (first|(exfalso;omega)|contradiction))<;>(try simp -implicitDefEqProofs (maxSteps:=4000000) (disch:=omega) only[zg,go_sem, *])<;>(try simp only[zPr])));(all_goals try rfl);(all_goals try (repeat' (first|done|rfl|(exfalso;omega)|contradiction|(refine zI (fun hq=> ?_) (fun hq=> ?_)))))
end Go.Proofs.YtjalkkalhdnplaaGreat.LA

namespace Go.Proofs.YtjalkkalhdnplaaGreat.LA
open Go Go.Sim Go.Proofs.YtjalkkalhdnplaaGreat
def sL:zw->zw
 | .seq a _=>a
 | c=>c
def sR:zw->zw
 | .seq _ b=>b
 | c=>c
def bB:zw->zw
 | .block _ b=>b
 | c=>c
structure GA(a:zm):Prop where
 f:zgc a
 n:a.slots.length<=6
 s:a.stripes.length=a.slots.length
 d:a.dead.dead.l.length<=24
theorem GA.own{a:zm}(h:GA a)(c k:Int):GA (ze5 a c k):=by
 refine⟨zJ9 h.f c k,?_,?_,?_⟩
 all_goals
  unfold ze5
  split
 ·exact h.n
 ·simp only[zZu];exact h.n
 ·exact h.s
 ·simp only[zZu];exact h.s
 ·exact h.d
 ·exact h.d
theorem GA.try_{a:zm}(h:GA a){c k:Int}(e:(zb2 a c k).2.2=0):GA (zb2 a c k).1:=by
 unfold zb2 at e ⊢
 split at e
 ·cases e
 ·rename_i q;rw[zYP q]
  split
  ·exact h.own c k
  ·exact h
theorem GA.ld{a:zm}(h:GA a)(c:Int):zcZ (zbv a c).1:=by
 unfold zbv
 split
 ·rename_i q;have:=zgG q;rw[zg zo];exact h.f.sh _ _
 ·exact zzM
theorem GA.stS{a:zm}(h:GA a)(c k:Int){s:Shard}(q:zcZ s):zgc (stSlot a c k s).1:=by
 unfold stSlot
 repeat' split
 all_goals first|exact zq1|skip
 refine { h.f with sl:=by simp only[zZu];exact h.f.sl,sh:=fun i hi=> ?_ };simp only[z1V];rw[zZu] at hi
 split
 ·exact q
 ·exact h.f.sh i hi
theorem GA.stP{a:zm}(h:GA a)(c k:Int)(s:Stripe):zgc (stStripe a c k s).1:=by
 unfold stStripe
 repeat' split
 all_goals first|exact zq1|skip
 exact { h.f with st:=by simp only[zZu];exact h.f.st }
theorem GA.stD{a:zm}(h:GA a)(k:Int){d:Dead}(q:d.l.length<=24):zgc (stDead a k d).1:=by
 unfold stDead
 repeat' split
 all_goals first|exact zq1|skip
 exact { h.f with de:=by simp only;omega }
theorem zzL{s:Shard}(h:zcZ s):za0 s:=⟨h.a,h.b,h.c⟩
theorem zRC(n lo hi:Int):zcZ (zbK n lo hi).1:=by
 unfold zbK
 repeat' split
 all_goals first|exact zzM|skip
 exact⟨by simp;omega,by simp [zV],by simp [zV]⟩
def X0:zw:=bB (sL (sR zb7))
def X1:zw:=sR X0
def X2:zw:=sR X1
def X3:zw:=sR X2
def Z3:zw:=sR (sR X3)
def X4:zw:=sR (sR (sR Z3))
def X5:zw:=sR X4
def X6:zw:=sR X5
def Z6:zw:=sR (sR X6)
def X7:zw:=sR Z6
def X8:zw:=sR X7
def Z8:zw:=sR (sR X8)
def X9:zw:=sR Z8
def X10:zw:=sR X9
def X11:zw:=sR X10
def X12:zw:=sR X11
def Z12:zw:=sR (sR X12)
def F0(sl tk i:Int)(l:List Int)(x:Nat)(z:Stripe)(a:zm):St:=⟨[(1,.d (.int .i64 sl)),(2,.d (.int .i64 tk)),(7,.ref 7 0 0),(9,.ref 34 0 0),(10,.ref 10 0 0),(11,.d (.int .i64 i))],[(7,.row [.d (zE z)]),(10,.row [.d (zl a)]),(34,zp l x)]⟩
def FA(sl tk i:Int)(l:List Int)(x:Nat)(z:Stripe)(a:zm):St:=⟨[(38,.d (.bool true)),(1,.d (.int .i64 sl)),(2,.d (.int .i64 tk)),(7,.ref 7 0 0),(9,.ref 34 0 0),(10,.ref 10 0 0),(11,.d (.int .i64 i))],[(7,.row [.d (zE z)]),(10,.row [.d (zl a)]),(34,zp l x)]⟩
def F1(sl tk i:Int)(l:List Int)(x:Nat)(z:Stripe)(a:zm)(c k:Int):St:=⟨[(20,.d (.int .i64 (zbv a c).2)),(19,.ref 19 0 0),(1,.d (.int .i64 sl)),(2,.d (.int .i64 tk)),(7,.ref 7 0 0),(9,.ref 34 0 0),(10,.ref 10 0 0),(11,.d (.int .i64 i)),(12,.d (.int .i64 c)),(13,.d (.int .i64 k)),(17,.ref 17 0 0),(18,.d (.int .i64 (zbv a c).2))],
 [(19,.row [.d (zi (zbv a c).1)]),(7,.row [.d (zE z)]),(10,.row [.d (zl a)]),(17,.row [.d (zi (zbv a c).1)]),(34,zp l x)]⟩
def F2(sl tk i:Int)(l:List Int)(x:Nat)(z:Stripe)(a:zm)(c k:Int)(t:Shard):St:=⟨[(25,.ref 25 0 0),(19,.ref 19 0 0),(1,.d (.int .i64 sl)),(2,.d (.int .i64 tk)),(7,.ref 7 0 0),(9,.ref 34 0 0),(10,.ref 10 0 0),(11,.d (.int .i64 i)),(12,.d (.int .i64 c)),(13,.d (.int .i64 k))],
 [(25,.row [.d (zi t)]),(34,zp l x),(23,.row [.d (zE (zcm a c).1)]),(21,.row [.d (zE (zcm a c).1)]),(19,.row [.d (zi (zbv a c).1)]),(7,.row [.d (zE z)]),(10,.row [.d (zl a)]),(17,.row [.d (zi (zbv a c).1)])]⟩
def F3(sl tk i:Int)(l:List Int)(x:Nat)(z:Stripe)(a:zm)(c k:Int)(t:Shard):St:=⟨[(20,.d (.int .i64 (stSlot a c k t).2)),(28,.ref 28 0 0),(1,.d (.int .i64 sl)),(2,.d (.int .i64 tk)),(7,.ref 7 0 0),(9,.ref 34 0 0),(10,.ref 10 0 0),(11,.d (.int .i64 i)),(12,.d (.int .i64 c)),(13,.d (.int .i64 k)),(18,.d (.int .i64 (stSlot a c k t).2)),(27,.ref 27 0 0)],
 [(28,.row [.d (zl (stSlot a c k t).1)]),(7,.row [.d (zE z)]),(10,.row [.d (zl a)]),(25,.row [.d (zi t)]),(27,.row [.d (zl (stSlot a c k t).1)]),(34,zp l x)]⟩
def F4(sl tk i:Int)(l:List Int)(x:Nat)(z:Stripe)(a:zm)(c k:Int):St:=⟨[(20,.d (.int .i64 (stStripe a c k z).2)),(1,.d (.int .i64 sl)),(2,.d (.int .i64 tk)),(7,.ref 7 0 0),(9,.ref 34 0 0),(10,.ref 10 0 0),(11,.d (.int .i64 i)),(13,.d (.int .i64 k)),(18,.d (.int .i64 (stStripe a c k z).2)),(27,.ref 27 0 0),(28,.ref 28 0 0)],
 [(28,.row [.d (zl (stStripe a c k z).1)]),(7,.row [.d (zE z)]),(10,.row [.d (zl a)]),(27,.row [.d (zl (stStripe a c k z).1)]),(34,zp l x)]⟩
def F5(sl tk i:Int)(l:List Int)(x:Nat)(z:Stripe)(a:zm)(k:Int)(d:Dead):St:=⟨[(20,.d (.int .i64 (stDead a k d).2)),(1,.d (.int .i64 sl)),(2,.d (.int .i64 tk)),(7,.ref 7 0 0),(9,.ref 34 0 0),(10,.ref 10 0 0),(11,.d (.int .i64 i)),(18,.d (.int .i64 (stDead a k d).2)),(27,.ref 27 0 0),(28,.ref 28 0 0)],
 [(28,.row [.d (zl (stDead a k d).1)]),(7,.row [.d (zE z)]),(10,.row [.d (zl a)]),(27,.row [.d (zl (stDead a k d).1)]),(29,.row [.d (zF d)]),(34,zp l x)]⟩
variable {sl tk i:Int} {l:List Int} {x:Nat} {z:Stripe} {a:zm}
theorem zV0(hL:l.length<=4000)(h:GA a):∃(c k:Int) (b:zm) (x2:Nat),GA b/\∀C:zw,exL G (.seq (sL X0) (.seq (sL X1) (.seq (sL X2) (.seq (sL X3) (.seq (sL (sR X3)) C))))) (FA sl tk i l x z a)=exL G C (F1 sl tk i l x2 z b c k):=by
 obtain⟨x2,q2⟩:∃x2,(zae l x).2=x2:=⟨_,rfl⟩;obtain⟨x3,q3⟩:∃x3,(zae l x2).2=x3:=⟨_,rfl⟩;obtain⟨x4,q4⟩:∃x4,(zae l x3).2=x4:=⟨_,rfl⟩;have r1:=zpy.trans (zgz l x (-1) 4 hL zo zo zo zo);have r2:=zpy.trans (zgz l x2 0 3 hL zo zo zo zo);have n1:=zgJ.trans (zbP l x3 4 hL zo zo);have b1:=zaG l x3 (n:=4) zo;rw[q2] at r1;rw[q3] at r2;rw[q4] at n1;generalize -1+nD l x (4 - -1+1)=c1 at *;generalize 0+nD l x2 (3 - 0+1)=k1 at *;generalize nD l x3 4=m at *;obtain⟨cc,kk,hc⟩:∃cc kk:Int,((i=0/\cc=sl/\kk=tk)\/(¬i=0/\cc=c1/\kk=k1)):=by
  by_cases q:i=0
  ·exact⟨sl,tk,.inl ⟨q,rfl,rfl⟩⟩
  ·exact⟨c1,k1,.inr ⟨q,rfl,rfl⟩⟩
 have t1:=ztO.trans (ztN a cc kk h.f.sl);have hf:=h.try_ (c:=cc) (k:=kk);have hp:=fun b (hb:GA b)=>zEv.trans (zS4 b cc hb.f.sl);have hp2:=fun b (hb:GA b)=>zEL.trans (zB1 b cc hb.f.sl);generalize zb2 a cc kk=r at *;obtain⟨b,ok,e⟩:=r;simp only at t1 hf;clear q2 q3 q4
 by_cases q:e=0/\0<m
 ·obtain⟨rfl,q⟩:=q;refine⟨cc,kk,b,x4,hf rfl,fun C=> ?_⟩;replace hp:=hp b (hf rfl);replace hp2:=hp2 b (hf rfl);clear hf h;simp only[FA,F1,zp,X0,X1,X2,X3,Z3,X4,X5,X6,Z6,X7,X8,Z8,X9,X10,X11,X12,Z12,sL,sR,bB,zb7] at *;generalize (zbv b cc).1=p1 at *;generalize (zbv b cc).2=p2 at *;have sz_z:=zei z;generalize zE z=D_z at *;have sz_a:=zay a;generalize zl a=D_a at *;have sz_b:=zay b;generalize zl b=D_b at *;have sz_p1:=za1 p1;generalize zi p1=D_p1 at *
  rcases hc with ⟨q5,rfl,rfl⟩|⟨q5,rfl,rfl⟩
  · (try simp -implicitDefEqProofs (maxSteps:=4000000) (disch:=omega) only[zg,go_sem, *]);(try simp only[zPr]);repeat' (first|done|rfl|((first|refine zG (fun hq=> ?_) (fun hq=> ?_)|refine zM (fun hq=> ?_) (fun hq=> ?_))<;>(try (first|(exfalso;omega)|contradiction))<;>(try simp -implicitDefEqProofs (maxSteps:=4000000) (disch:=omega) only[zg,go_sem, *])<;>(try simp only[zPr])));(all_goals try rfl);(all_goals try (repeat' (first|done|rfl|(exfalso;omega)|contradiction|(refine zI (fun hq=> ?_) (fun hq=> ?_)))))
  · (try simp -implicitDefEqProofs (maxSteps:=4000000) (disch:=omega) only[zg,go_sem, *]);(try simp only[zPr]);repeat' (first|done|rfl|((first|refine zG (fun hq=> ?_) (fun hq=> ?_)|refine zM (fun hq=> ?_) (fun hq=> ?_))<;>(try (first|(exfalso;omega)|contradiction))<;>(try simp -implicitDefEqProofs (maxSteps:=4000000) (disch:=omega) only[zg,go_sem, *])<;>(try simp only[zPr])));(all_goals try rfl);(all_goals try (repeat' (first|done|rfl|(exfalso;omega)|contradiction|(refine zI (fun hq=> ?_) (fun hq=> ?_)))))
 ·obtain⟨x5,hx5⟩:∃x5,x5=if e=0 then x4 else x3:=⟨_,rfl⟩
  refine⟨cc,kk,a,x5,h,fun C=> ?_⟩;replace hp:=hp a h;replace hp2:=hp2 a h;clear hf h;simp only[FA,F1,zp,X0,X1,X2,X3,Z3,X4,X5,X6,Z6,X7,X8,Z8,X9,X10,X11,X12,Z12,sL,sR,bB,zb7] at *;generalize (zbv a cc).1=p1 at *;generalize (zbv a cc).2=p2 at *;have sz_z:=zei z;generalize zE z=D_z at *;have sz_a:=zay a;generalize zl a=D_a at *;have sz_b:=zay b;generalize zl b=D_b at *;have sz_p1:=za1 p1;generalize zi p1=D_p1 at *
  by_cases q2:e=0
  ·subst q2;rw[zYQ rfl] at hx5;subst hx5;have q3:m=0:=by omega
   subst q3;clear q
   rcases hc with ⟨q5,rfl,rfl⟩|⟨q5,rfl,rfl⟩
   · (try simp -implicitDefEqProofs (maxSteps:=4000000) (disch:=omega) only[zg,go_sem, *]);(try simp only[zPr]);repeat' (first|done|rfl|((first|refine zG (fun hq=> ?_) (fun hq=> ?_)|refine zM (fun hq=> ?_) (fun hq=> ?_))<;>(try (first|(exfalso;omega)|contradiction))<;>(try simp -implicitDefEqProofs (maxSteps:=4000000) (disch:=omega) only[zg,go_sem, *])<;>(try simp only[zPr])));(all_goals try rfl);(all_goals try (repeat' (first|done|rfl|(exfalso;omega)|contradiction|(refine zI (fun hq=> ?_) (fun hq=> ?_)))))
   · (try simp -implicitDefEqProofs (maxSteps:=4000000) (disch:=omega) only[zg,go_sem, *]);(try simp only[zPr]);repeat' (first|done|rfl|((first|refine zG (fun hq=> ?_) (fun hq=> ?_)|refine zM (fun hq=> ?_) (fun hq=> ?_))<;>(try (first|(exfalso;omega)|contradiction))<;>(try simp -implicitDefEqProofs (maxSteps:=4000000) (disch:=omega) only[zg,go_sem, *])<;>(try simp only[zPr])));(all_goals try rfl);(all_goals try (repeat' (first|done|rfl|(exfalso;omega)|contradiction|(refine zI (fun hq=> ?_) (fun hq=> ?_)))))
  ·rw[zYP q2] at hx5;subst hx5;clear q;replace q2:=zYV q2
   rcases hc with ⟨q5,rfl,rfl⟩|⟨q5,rfl,rfl⟩
   · (try simp -implicitDefEqProofs (maxSteps:=4000000) (disch:=omega) only[zg,go_sem, *]);(try simp only[zPr]);repeat' (first|done|rfl|((first|refine zG (fun hq=> ?_) (fun hq=> ?_)|refine zM (fun hq=> ?_) (fun hq=> ?_))<;>(try (first|(exfalso;omega)|contradiction))<;>(try simp -implicitDefEqProofs (maxSteps:=4000000) (disch:=omega) only[zg,go_sem, *])<;>(try simp only[zPr])));(all_goals try rfl);(all_goals try (repeat' (first|done|rfl|(exfalso;omega)|contradiction|(refine zI (fun hq=> ?_) (fun hq=> ?_)))))
   · (try simp -implicitDefEqProofs (maxSteps:=4000000) (disch:=omega) only[zg,go_sem, *]);(try simp only[zPr]);repeat' (first|done|rfl|((first|refine zG (fun hq=> ?_) (fun hq=> ?_)|refine zM (fun hq=> ?_) (fun hq=> ?_))<;>(try (first|(exfalso;omega)|contradiction))<;>(try simp -implicitDefEqProofs (maxSteps:=4000000) (disch:=omega) only[zg,go_sem, *])<;>(try simp only[zPr])));(all_goals try rfl);(all_goals try (repeat' (first|done|rfl|(exfalso;omega)|contradiction|(refine zI (fun hq=> ?_) (fun hq=> ?_)))))
theorem zV1(c k:Int)(hL:l.length<=4000)(h:GA a):∃(t:Shard) (x2:Nat),zcZ t/\∀C:zw,exL G (.seq (sL Z3) (.seq (sL (sR Z3)) (.seq (sL (sR (sR Z3))) (.seq (sL X4) C)))) (F1 sl tk i l x z a c k)=exL G C (F2 sl tk i l x2 z a c k t):=by
 obtain⟨t,x2,ht,hs⟩:=zWu l x hL;replace hs:=zED.trans hs;refine⟨t,x2,zq2 (zbJ ht.1),fun C=> ?_⟩;clear ht;have s1:=zEw.trans (zS5 a c h.f.sl h.s);have s2:=zEM.trans (zoC a c h.f.sl h.s);have s3:=zEJ.trans (zDJ (zbv a c).1 (zbv a c).1 (h.ld c));have s4:=zEu.trans (zS3 a);have s5:=zEK.trans (zDI a.dead.dead a.dead.dead h.f.de);simp only[decide_true] at s3 s5;clear h;simp only[F1,F2,zp,X0,X1,X2,X3,Z3,X4,X5,X6,Z6,X7,X8,Z8,X9,X10,X11,X12,Z12,sL,sR,bB,zb7] at *;generalize (zbv a c).1=p1 at *;generalize (zbv a c).2=p2 at *;generalize (zcm a c).1=u1 at *;generalize (zcm a c).2=u2 at *;have sz_z:=zei z;generalize zE z=D_z at *;have sz_p1:=za1 p1;generalize zi p1=D_p1 at *;have sz_t:=za1 t;generalize zi t=D_t at *;simp only[zl,zF,zE] at *
 (try simp -implicitDefEqProofs (maxSteps:=4000000) (disch:=omega) only[zg,go_sem, *]);(try simp only[zPr]);repeat' (first|done|rfl|((first|refine zG (fun hq=> ?_) (fun hq=> ?_)|refine zM (fun hq=> ?_) (fun hq=> ?_))<;>(try (first|(exfalso;omega)|contradiction))<;>(try simp -implicitDefEqProofs (maxSteps:=4000000) (disch:=omega) only[zg,go_sem, *])<;>(try simp only[zPr])));(all_goals try rfl);(all_goals try (repeat' (first|done|rfl|(exfalso;omega)|contradiction|(refine zI (fun hq=> ?_) (fun hq=> ?_)))))
theorem zV2(c k:Int)(t:Shard)(hL:l.length<=4000)(h:GA a)(ht:zcZ t):∃(t2:Shard) (x2:Nat),zcZ t2/\∀C:zw,exL G (.seq (sL X5) (.seq (sL X6) (.seq (sL (sR X6)) C))) (F2 sl tk i l x z a c k t)=exL G C (F3 sl tk i l x2 z a c k t2):=by
 obtain⟨x2,q2⟩:∃x2,(zae l x).2=x2:=⟨_,rfl⟩;obtain⟨x3,q3⟩:∃x3,(zae l x2).2=x3:=⟨_,rfl⟩;have n1:=zgJ.trans (zbP l x 4 hL zo zo);have n2:=zgJ.trans (zbP l x2 100 hL zo zo);have b1:=zaG l x (n:=4) zo;rw[q2] at n1;rw[q3] at n2;have hp:=fun t2 (ht:zcZ t2)=>zEy.trans (zTb a c k t2 h.f.sl (zzL ht));have hq:=fun t2 (ht:zcZ t2)=>zEO.trans (zD2 a c k t2 h.f.sl (zzL ht));have hn:=zEI.trans (zoO (zbv a c).1.ready.cells.length (nD l x2 100) 200);have hnf:=zRC (zbv a c).1.ready.cells.length (nD l x2 100) 200;have hld:=(h.ld c).a;clear h q2 q3;simp only[F2,F3,zp,X0,X1,X2,X3,Z3,X4,X5,X6,Z6,X7,X8,Z8,X9,X10,X11,X12,Z12,sL,sR,bB,zb7] at *;generalize (zbv a c).1=p1 at *;generalize (zcm a c).1=u1 at *;generalize nD l x 4=m at *;generalize nD l x2 100=lo at *;obtain⟨pl,plo,phi,⟨pc,ph,pz⟩,⟨pt,ptt⟩⟩:=p1;simp only at hn hnf hld
 by_cases q:0<pc.length/\0<m
 ·refine⟨_,x3,hnf,fun C=> ?_⟩;replace hp:=hp _ hnf;replace hq:=hq _ hnf;clear hnf ht;generalize (zbK pc.length lo 200).1=t3 at *;generalize (zbK pc.length lo 200).2=e3 at *;generalize stSlot a c k t3=y at *;obtain⟨y1,y2⟩:=y;have sz_z:=zei z;generalize zE z=D_z at *;have sz_u1:=zei u1;generalize zE u1=D_u1 at *;have sz_a:=zay a;generalize zl a=D_a at *;have sz_y1:=zay y1;generalize zl y1=D_y1 at *;have sz_t:=za1 t;generalize zi t=D_t at *;have sz_t3:=za1 t3;generalize zi t3=D_t3 at *;simp only[zi] at *
  (try simp -implicitDefEqProofs (maxSteps:=4000000) (disch:=omega) only[zg,go_sem, *]);(try simp only[zPr]);repeat' (first|done|rfl|((first|refine zG (fun hq=> ?_) (fun hq=> ?_)|refine zM (fun hq=> ?_) (fun hq=> ?_))<;>(try (first|(exfalso;omega)|contradiction))<;>(try simp -implicitDefEqProofs (maxSteps:=4000000) (disch:=omega) only[zg,go_sem, *])<;>(try simp only[zPr])));(all_goals try rfl);(all_goals try (repeat' (first|done|rfl|(exfalso;omega)|contradiction|(refine zI (fun hq=> ?_) (fun hq=> ?_)))))
 ·obtain⟨x5,hx5⟩:∃x5,x5=if 0<pc.length then x2 else x:=⟨_,rfl⟩
  refine⟨t,x5,ht,fun C=> ?_⟩;replace hp:=hp _ ht;replace hq:=hq _ ht;clear hnf ht hn;generalize stSlot a c k t=y at *;obtain⟨y1,y2⟩:=y;have sz_z:=zei z;generalize zE z=D_z at *;have sz_u1:=zei u1;generalize zE u1=D_u1 at *;have sz_a:=zay a;generalize zl a=D_a at *;have sz_y1:=zay y1;generalize zl y1=D_y1 at *;have sz_t:=za1 t;generalize zi t=D_t at *;simp only[zi] at *
  by_cases q2:0<pc.length
  ·rw[zYQ q2] at hx5;subst hx5;have q3:m=0:=by omega
   subst q3
   (try simp -implicitDefEqProofs (maxSteps:=4000000) (disch:=omega) only[zg,go_sem, *]);(try simp only[zPr]);repeat' (first|done|rfl|((first|refine zG (fun hq=> ?_) (fun hq=> ?_)|refine zM (fun hq=> ?_) (fun hq=> ?_))<;>(try (first|(exfalso;omega)|contradiction))<;>(try simp -implicitDefEqProofs (maxSteps:=4000000) (disch:=omega) only[zg,go_sem, *])<;>(try simp only[zPr])));(all_goals try rfl);(all_goals try (repeat' (first|done|rfl|(exfalso;omega)|contradiction|(refine zI (fun hq=> ?_) (fun hq=> ?_)))))
  ·rw[zYP q2] at hx5;subst hx5;have q3:pc=[]:=zZC.1 zo;subst q3;clear q q2;simp only[zYS,zYY] at *
   (try simp -implicitDefEqProofs (maxSteps:=4000000) (disch:=omega) only[zg,go_sem, *]);(try simp only[zPr]);repeat' (first|done|rfl|((first|refine zG (fun hq=> ?_) (fun hq=> ?_)|refine zM (fun hq=> ?_) (fun hq=> ?_))<;>(try (first|(exfalso;omega)|contradiction))<;>(try simp -implicitDefEqProofs (maxSteps:=4000000) (disch:=omega) only[zg,go_sem, *])<;>(try simp only[zPr])));(all_goals try rfl);(all_goals try (repeat' (first|done|rfl|(exfalso;omega)|contradiction|(refine zI (fun hq=> ?_) (fun hq=> ?_)))))
theorem zV3(c k:Int)(t:Shard)(hL:l.length<=4000)(h:GA a)(ht:zcZ t):∃(z2:Stripe) (x2:Nat),∀C:zw,exL G (.seq (sL Z6) (.seq (sL X7) (.seq (sL X8) (.seq (sL (sR X8)) C)))) (F3 sl tk i l x z a c k t)=exL G C (F4 sl tk i l x2 z2 a c k):=by
 obtain⟨x2,q2⟩:∃x2,(zae l x).2=x2:=⟨_,rfl⟩;have n1:=zgJ.trans (zbP l x 2 hL zo zo);have b1:=zaG l x (n:=2) zo;rw[q2] at n1;obtain⟨p,x3,n2,_,_⟩:=zsV l x2 [-1,3,1099511627776,1099511627777] (-1) 1099511627777 hL (by simp) (by simp) (by simp);replace n2:=zEC.trans n2;obtain⟨x4,q4⟩:∃x4,(zae l x3).2=x4:=⟨_,rfl⟩;obtain⟨x5,q5⟩:∃x5,(zae l x4).2=x5:=⟨_,rfl⟩;have n3:=zgJ.trans (zbP l x3 3 hL zo zo);have n4:=zgJ.trans (zbP l x4 3 hL zo zo);rw[q4] at n3;rw[q5] at n4;have s1:=zpz.trans (ztg (stSlot a c k t).1 (stSlot a c k t).1 (h.stS c k ht));simp only[decide_true] at s1;have hp:=fun z2=>zEz.trans (zTc a c k z2 h.f.sl h.s);have hq:=fun z2=>zEP.trans (ztr a c k z2 h.f.sl h.s);clear h ht q2 q4 q5;simp only[F3,F4,zp,zt,zYU,zYS,X0,X1,X2,X3,Z3,X4,X5,X6,Z6,X7,X8,Z8,X9,X10,X11,X12,Z12,sL,sR,bB,zb7] at *;generalize stSlot a c k t=y at *;obtain⟨y1,y2⟩:=y;generalize nD l x 2=m at *;generalize nD l x3 3=m3 at *;generalize nD l x4 3=m4 at *
 by_cases q:m=0
 ·subst q;refine⟨⟨p,m3,m4,0⟩,x5,fun C=> ?_⟩;replace hp:=hp ⟨p,m3,m4,0⟩;replace hq:=hq ⟨p,m3,m4,0⟩;generalize stStripe a c k ⟨p,m3,m4,0⟩=w at *;obtain⟨w1,w2⟩:=w;have sz_a:=zay a;generalize zl a=D_a at *;have sz_y1:=zay y1;generalize zl y1=D_y1 at *;have sz_w1:=zay w1;generalize zl w1=D_w1 at *;have sz_t:=za1 t;generalize zi t=D_t at *;simp only[zE] at *
  (try simp -implicitDefEqProofs (maxSteps:=4000000) (disch:=omega) only[zg,go_sem, *]);(try simp only[zPr]);repeat' (first|done|rfl|((first|refine zG (fun hq=> ?_) (fun hq=> ?_)|refine zM (fun hq=> ?_) (fun hq=> ?_))<;>(try (first|(exfalso;omega)|contradiction))<;>(try simp -implicitDefEqProofs (maxSteps:=4000000) (disch:=omega) only[zg,go_sem, *])<;>(try simp only[zPr])));(all_goals try rfl);(all_goals try (repeat' (first|done|rfl|(exfalso;omega)|contradiction|(refine zI (fun hq=> ?_) (fun hq=> ?_)))))
 ·refine⟨z,x2,fun C=> ?_⟩;replace hp:=hp z;replace hq:=hq z;generalize stStripe a c k z=w at *;obtain⟨w1,w2⟩:=w;replace q:=zYV q;have sz_a:=zay a;generalize zl a=D_a at *;have sz_y1:=zay y1;generalize zl y1=D_y1 at *;have sz_w1:=zay w1;generalize zl w1=D_w1 at *;have sz_t:=za1 t;generalize zi t=D_t at *;have sz_z:=zei z;generalize zE z=D_z at *
  (try simp -implicitDefEqProofs (maxSteps:=4000000) (disch:=omega) only[zg,go_sem, *]);(try simp only[zPr]);repeat' (first|done|rfl|((first|refine zG (fun hq=> ?_) (fun hq=> ?_)|refine zM (fun hq=> ?_) (fun hq=> ?_))<;>(try (first|(exfalso;omega)|contradiction))<;>(try simp -implicitDefEqProofs (maxSteps:=4000000) (disch:=omega) only[zg,go_sem, *])<;>(try simp only[zPr])));(all_goals try rfl);(all_goals try (repeat' (first|done|rfl|(exfalso;omega)|contradiction|(refine zI (fun hq=> ?_) (fun hq=> ?_)))))
theorem zV4(c k:Int)(hL:l.length<=4000)(h:GA a):∃(b:zm) (d:Dead) (x2:Nat),GA b/\d.l.length<=24/\∀C:zw,exL G (.seq (sL Z8) (.seq (sL X9) (.seq (sL X10) (.seq (sL X11) (.seq (sL X12) (.seq (sL (sR X12)) C)))))) (F4 sl tk i l x z a c k)=exL G C (F5 sl tk i l x2 z b k d):=by
 obtain⟨d,x2,hd,n1⟩:=zHu l x hL;obtain⟨x3,q3⟩:∃x3,(zae l x2).2=x3:=⟨_,rfl⟩;obtain⟨x4,q4⟩:∃x4,(zae l x3).2=x4:=⟨_,rfl⟩;have n2:=zgJ.trans (zbP l x2 3 hL zo zo);have n3:=zgJ.trans (zbP l x3 2 hL zo zo);have u2:=zaG l x2 (n:=3) zo;have u3:=zaG l x3 (n:=2) zo;rw[q3] at n2;rw[q4] at n3;have s1:=zpz.trans (ztg (stStripe a c k z).1 (stStripe a c k z).1 (h.stP c k z));simp only[decide_true] at s1;have t1:=ztO.trans (ztN a a.slots.length k h.f.sl);have hf:=h.try_ (c:=a.slots.length) (k:=k);have hp:=fun (b:zm) (d:Dead) (q:d.l.length<=9)=>zEx.trans (zTa b k d zo);have hq:=fun (b:zm) (d:Dead) (q:d.l.length<=9)=>zEN.trans (zD1 b k d zo);have hsl:=h.n;obtain⟨d2,hd2,hdd⟩:∃d2:Dead,d2.l.length<=9/\(0<nD l x2 3/\d2=⟨a.dead.dead.cap,d.l⟩\/nD l x2 3=0/\d2=d):=by
  by_cases q:0<nD l x2 3
  ·exact⟨⟨a.dead.dead.cap,d.l⟩,hd,.inl ⟨q,rfl⟩⟩
  ·exact⟨d,hd,.inr ⟨by omega,rfl⟩⟩
 generalize zb2 a a.slots.length k=r at *;obtain⟨b,ok,e⟩:=r;simp only at t1 hf;obtain⟨b2,x5,hb2,hbb⟩:∃(b2:zm) (x5:Nat),GA b2/\(e=0/\nD l x3 2=0/\b2=b/\x5=x4\/e=0/\nD l x3 2=1/\b2=a/\x5=x4\/¬e=0/\b2=a/\x5=x3):=by
  by_cases q:e=0
  ·by_cases q2:nD l x3 2=0
   ·exact⟨b,x4,hf q,.inl ⟨q,q2,rfl,rfl⟩⟩
   ·exact⟨a,x4,h,.inr (.inl ⟨q,by omega,rfl,rfl⟩)⟩
  ·exact⟨a,x3,h,.inr (.inr ⟨q,rfl,rfl⟩)⟩
 refine⟨b2,d2,x5,hb2,by omega,fun C=> ?_⟩;replace hp:=hp b2 d2 hd2;replace hq:=hq b2 d2 hd2;clear h hf hb2 hd hd2 q3 q4 u2 u3;simp only[F4,F5,zp,X0,X1,X2,X3,Z3,X4,X5,X6,Z6,X7,X8,Z8,X9,X10,X11,X12,Z12,sL,sR,bB,zb7] at *;generalize stStripe a c k z=w at *;obtain⟨w1,w2⟩:=w;generalize stDead b2 k d2=y at *;obtain⟨y1,y2⟩:=y;generalize nD l x2 3=m2 at *;generalize nD l x3 2=m3 at *;have sz_z:=zei z;generalize zE z=D_z at *;have sz_w1:=zay w1;generalize zl w1=D_w1 at *;have sz_y1:=zay y1;generalize zl y1=D_y1 at *
 rcases hdd with ⟨r1,rfl⟩|⟨r1,rfl⟩
 ·rcases hbb with ⟨rfl,rfl,rfl,rfl⟩|⟨rfl,rfl,rfl,rfl⟩|⟨re,rfl,rfl⟩
  ·simp only[zl,zF] at *
   (try simp -implicitDefEqProofs (maxSteps:=4000000) (disch:=omega) only[zg,go_sem, *]);(try simp only[zPr]);repeat' (first|done|rfl|((first|refine zG (fun hq=> ?_) (fun hq=> ?_)|refine zM (fun hq=> ?_) (fun hq=> ?_))<;>(try (first|(exfalso;omega)|contradiction))<;>(try simp -implicitDefEqProofs (maxSteps:=4000000) (disch:=omega) only[zg,go_sem, *])<;>(try simp only[zPr])));(all_goals try rfl);(all_goals try (repeat' (first|done|rfl|(exfalso;omega)|contradiction|(refine zI (fun hq=> ?_) (fun hq=> ?_)))))
  ·simp only[zl,zF] at *
   (try simp -implicitDefEqProofs (maxSteps:=4000000) (disch:=omega) only[zg,go_sem, *]);(try simp only[zPr]);repeat' (first|done|rfl|((first|refine zG (fun hq=> ?_) (fun hq=> ?_)|refine zM (fun hq=> ?_) (fun hq=> ?_))<;>(try (first|(exfalso;omega)|contradiction))<;>(try simp -implicitDefEqProofs (maxSteps:=4000000) (disch:=omega) only[zg,go_sem, *])<;>(try simp only[zPr])));(all_goals try rfl);(all_goals try (repeat' (first|done|rfl|(exfalso;omega)|contradiction|(refine zI (fun hq=> ?_) (fun hq=> ?_)))))
  ·replace re:=zYV re;simp only[zl,zF] at *
   (try simp -implicitDefEqProofs (maxSteps:=4000000) (disch:=omega) only[zg,go_sem, *]);(try simp only[zPr]);repeat' (first|done|rfl|((first|refine zG (fun hq=> ?_) (fun hq=> ?_)|refine zM (fun hq=> ?_) (fun hq=> ?_))<;>(try (first|(exfalso;omega)|contradiction))<;>(try simp -implicitDefEqProofs (maxSteps:=4000000) (disch:=omega) only[zg,go_sem, *])<;>(try simp only[zPr])));(all_goals try rfl);(all_goals try (repeat' (first|done|rfl|(exfalso;omega)|contradiction|(refine zI (fun hq=> ?_) (fun hq=> ?_)))))
 ·subst r1
  rcases hbb with ⟨rfl,rfl,rfl,rfl⟩|⟨rfl,rfl,rfl,rfl⟩|⟨re,rfl,rfl⟩
  ·simp only[zl,zF] at *
   (try simp -implicitDefEqProofs (maxSteps:=4000000) (disch:=omega) only[zg,go_sem, *]);(try simp only[zPr]);repeat' (first|done|rfl|((first|refine zG (fun hq=> ?_) (fun hq=> ?_)|refine zM (fun hq=> ?_) (fun hq=> ?_))<;>(try (first|(exfalso;omega)|contradiction))<;>(try simp -implicitDefEqProofs (maxSteps:=4000000) (disch:=omega) only[zg,go_sem, *])<;>(try simp only[zPr])));(all_goals try rfl);(all_goals try (repeat' (first|done|rfl|(exfalso;omega)|contradiction|(refine zI (fun hq=> ?_) (fun hq=> ?_)))))
  ·simp only[zl,zF] at *
   (try simp -implicitDefEqProofs (maxSteps:=4000000) (disch:=omega) only[zg,go_sem, *]);(try simp only[zPr]);repeat' (first|done|rfl|((first|refine zG (fun hq=> ?_) (fun hq=> ?_)|refine zM (fun hq=> ?_) (fun hq=> ?_))<;>(try (first|(exfalso;omega)|contradiction))<;>(try simp -implicitDefEqProofs (maxSteps:=4000000) (disch:=omega) only[zg,go_sem, *])<;>(try simp only[zPr])));(all_goals try rfl);(all_goals try (repeat' (first|done|rfl|(exfalso;omega)|contradiction|(refine zI (fun hq=> ?_) (fun hq=> ?_)))))
  ·replace re:=zYV re;simp only[zl,zF] at *
   (try simp -implicitDefEqProofs (maxSteps:=4000000) (disch:=omega) only[zg,go_sem, *]);(try simp only[zPr]);repeat' (first|done|rfl|((first|refine zG (fun hq=> ?_) (fun hq=> ?_)|refine zM (fun hq=> ?_) (fun hq=> ?_))<;>(try (first|(exfalso;omega)|contradiction))<;>(try simp -implicitDefEqProofs (maxSteps:=4000000) (disch:=omega) only[zg,go_sem, *])<;>(try simp only[zPr])));(all_goals try rfl);(all_goals try (repeat' (first|done|rfl|(exfalso;omega)|contradiction|(refine zI (fun hq=> ?_) (fun hq=> ?_)))))
end Go.Proofs.YtjalkkalhdnplaaGreat.LA

namespace Go.Proofs.YtjalkkalhdnplaaGreat
open Go Go.Sim
theorem z2l:G 20=some zKL:=z2k
theorem zWN(a:zm)(s:zif)(n:Int):zd G 296 [.d (zl a),.d (zgT s),.d (.int .i64 n)] []=some (.d (.tup [zgT (zde a s n).1,.int .i64 (zde a s n).2]),[]):=by
 have h1:=zj6 a 1;have h2:=zj6 a 2;simp only[zgZ,if_true,Int.reduceEq,if_false] at h1 h2;unfold zde;generalize a.epoch=ep at *;generalize a.clock=ck at *;simp only[zgT] at *;have zk0:=zhm.eq_1;exact zW
theorem zVT(cells:List Int)(lim:Int)(hL:cells.length<=1000):zd G 219 [.d (.sl (zt cells)),.d (.int .i64 lim)] []=some (.d (.tup [zr (zdv cells lim).1,.int .i64 (zdv cells lim).2]),[]):=by
 have h:=zP6 cells zo;unfold zdv;generalize zg2 cells=r at *;obtain⟨l,e⟩:=r;simp only[zcv] at *
 by_cases c:e=0
 ·subst c;have zk0:=zr.eq_1;have zk1:=zbG.eq_1;exact zW
 ·rw[zYQ c];have zk0:=zr.eq_1;have zk1:=zbG.eq_1;exact zW
theorem zfe(s:Section)(ph:Int):zd G 281 [.d (zr s),.d (.int .i64 ph)] []=some (.d (zr (z5 s ph)),[]):=by
 simp only[zr,z5];exact zW
theorem zAH(s:Section):zd G 307 [.d (zr s)] []=some (.d (.tup [zr (zcL s).1,.int .i64 (zcL s).2]),[]):=by
 have h:=zP4 s.lock;have he:=zfe { s with lock:=(zcf s.lock).1 } 8;unfold zcL;generalize zcf s.lock=r at *;obtain⟨l,e⟩:=r;unfold z5 at *;simp only[zr,zcv] at *;exact zW
theorem zpx(a:zm)(s:Section):zd G 282 [.d (zl a),.d (zr s)] []=some (.d (.tup [zl (zcs a s).1,zr (zcs a s).2.1,.int .i64 (zcs a s).2.2]),[]):=by
 have h:=zAH s;have he:=zfe s 7;unfold zcs;generalize zcL s=r at *;obtain⟨s2,e⟩:=r;generalize z5 s 7=s3 at *
 by_cases c:0<s.stripes.length
 ·rw[zYQ c];have sz_s3:=zdL s3;generalize zr s3=D_s3 at *;simp only[zr] at *;exact zW
 ·rw[zYP c];simp only;have sz_s2:=zdL s2;generalize zr s2=D_s2 at *;simp only[zr] at *;exact zW
theorem zhk(s:Section):zd G 209 [.d (zr s)] []=some (.agg [.d (.sl (s.shards.map zi)),.d (.int .i64 s.dead.cap),.d (.sl (s.dead.l.map zj)),.xsl [],.xsl [],.xsl []],[]):=by
 simp only[zr];exact zW
def slP(n:Nat)(c:Int):Bool:=decide (c<(n:Int))
def zmD(a:zm)(s:Section)(i:Nat):St:=⟨[(2,.ref 2 0 0),(3,.ref 3 0 0),(5,.d (.int .i64 (zbB (slP a.slots.length) s.lock.cells i:Nat))),(6,.d (.int .i64 i))],[(2,.row [.d (zl a)]),(3,.row [.d (zr s)])]⟩
theorem zWL(a:zm)(s:Section)(hL:s.lock.cells.length<=1000):∀i,i<=s.lock.cells.length->zP G [] zov (zmD a s i)=some (.exit 0,⟨[(5,.d (.int .i64 (zbB (slP a.slots.length) s.lock.cells s.lock.cells.length:Nat)))],[]⟩):=by
 refine zaq (fun i=>s.lock.cells.length - i) (fun i=>i<=s.lock.cells.length) (zmD a s) (fun _=>_) fun i hi L ih=> ?_;have hle:=zqy (slP a.slots.length) s.lock.cells i
 by_cases h0:i<s.lock.cells.length
 ·have i1:=ih (i+1) zo zo;clear ih;unfold zmD at i1 ⊢;rw[zqz _ h0] at i1;generalize zbB (slP a.slots.length) s.lock.cells i=k at *;generalize zbB (slP a.slots.length) s.lock.cells s.lock.cells.length=kk at *;unfold slP at i1;simp only[zov,zl,zr] at i1 ⊢
  by_cases c:s.lock.cells[i]<(a.slots.length:Int)
  ·rw[zZe c] at i1;simp only[if_true] at i1;simp only[zNr,zp] at i1;exact zS
  ·rw[zZc c] at i1;simp only[zYX,if_false,z0j] at i1;simp only[zNr,zp] at i1;exact zS
 ·clear ih;have:i=s.lock.cells.length:=by omega
  subst this;simp only[zmD,zov,zl,zr];exact zS
theorem zDR(a:zm)(s:Section)(hL:s.lock.cells.length<=1000):zd G 293 [.d (zl a),.d (zr s)] []=some (.d (.int .i64 (zdA a s)),[]):=by
 have h:=zWL a s hL 0 zo;have e:(zdA a s)=(zbB (slP a.slots.length) s.lock.cells s.lock.cells.length:Nat):=by
  unfold zdA zbB slP;rw[z1f]
 rw[e];generalize zbB (slP a.slots.length) s.lock.cells s.lock.cells.length=kk at *;simp only[zmD,zbB,zZE,z0E,zYY] at h;simp only[zNr,zp] at h;exact zW
theorem zXh(s:Section)(k:Int)(hL:s.out.order.length<=3):zd G 318 [.d (zr s),.d (.int .i64 k)] []=some (.d (.bool (zjd s k)),[]):=by
 have hl:zP G [] zr6 ⟨[(1,.d (.int .i64 k)),(2,.ref 2 0 0),(5,.d (.int .i64 (0:Nat)))],[(2,.row [.d (zr s)])]⟩=some (if (List.range s.out.order.length).all (fun i=> !decide (s.out.order.getD i 0=k))=true then (.exit 0,⟨[],[]⟩) else (.ret,⟨[(4,.d (.bool true))],[]⟩)):=by
  refine zc7 (G:=G) s.out.order.length (fun i=> !decide (s.out.order.getD i 0=k)) (fun i=>⟨[(1,.d (.int .i64 k)),(2,.ref 2 0 0),(5,.d (.int .i64 i))],[(2,.row [.d (zr s)])]⟩) _ _ fun i hi L=> ?_;simp only[zr6,zr]
  by_cases h0:i<s.out.order.length
  ·rw[zYQ h0,zg h0]
   by_cases c:s.out.order[i]=k
   ·subst c;exact zS
   ·exact zS
  ·rw[zYP h0];exact zS
 have e:zjd s k= !((List.range s.out.order.length).all (fun i=> !decide (s.out.order.getD i 0=k))):=by
  unfold zjd;apply zZB.2;simp only[zZW,decide_eq_true_eq,zZL,List.all_eq_false,zZJ,Bool.not_eq_false',z0g,z1W];constructor
  ·rintro⟨x,hx,rfl⟩;obtain⟨i,hi,rfl⟩:=z00.1 hx;exact⟨i,hi,by rw[zg hi]⟩
  ·rintro⟨i,hi,h⟩;rw[zg hi] at h;exact⟨_,zY4 hi,by simpa using h⟩
 rw[e];generalize (List.range s.out.order.length).all (fun i=> !decide (s.out.order.getD i 0=k))=b at *;simp only[zr] at *;simp only[zNr,zp] at hl
 cases b
 ·simp only[zYX,if_false] at hl;exact zW
 ·simp only[if_true] at hl;exact zW
theorem zWK(a:zm)(s:Section):0<=zdA a s/\zdA a s<=s.lock.cells.length:=by
 unfold zdA;have:=z0h (fun c=>decide (c<(a.slots.length:Int))) s.lock.cells;omega
theorem zFH(d:zao)(e:zec):(zgP d e).1.l.length<=d.l.length+2:=by
 unfold zgP ztq zsv
 (repeat' split)
 all_goals (try (simp [zdk];done))
 all_goals (try (simp;omega))
theorem zli{s:Section}{i:Int}(h0:0<=i)(h1:i<s.lock.cells.length):zcA s i=s.lock.cells[i.toNat]'(by omega):=by
 unfold zcA;exact zg zo
theorem zQ8(a:zm)(s:Section)(k:Int)(hL:a.slots.length<=1000)(hs:a.stripes.length=a.slots.length)(h0:0<=s.at_)(h1:s.at_<2 * s.lock.cells.length)(hc:s.lock.cells.length<=3)(h2:(s.stripes.length:Int)=(s.at_+1) / 2):zd G 294 [.d (zl a),.d (zr s),.d (.int .i64 k)] []=some (.d (.tup [zl (zfx a s k).1,zr (zfx a s k).2.1,.int .i64 (zfx a s k).2.2]),[]):=by
 have e1:s.at_.tdiv 2=s.at_ / 2:=zZ9 h0;have e2:s.at_.tmod 2=s.at_ % 2:=z2a h0;unfold zfx;rw[e1,e2,zli zo zo]
 by_cases c:s.at_ % 2=0
 ·rw[zYQ c];have hl:=zoC a (s.lock.cells[(s.at_ / 2).toNat]'(by omega)) hL hs;generalize zcm a (s.lock.cells[(s.at_ / 2).toNat]'(by omega))=r at *;obtain⟨x,e⟩:=r;replace c:=zY8 c;simp only[zr] at *;exact zW
 ·rw[zYP c];have hi:(s.at_ / 2).toNat<s.stripes.length:=by omega
  rw[zg hi];have hb:=zF1 (s.stripes[(s.at_ / 2).toNat]);replace c:=zYV c;generalize zhr (s.stripes[(s.at_ / 2).toNat])=b at *;obtain⟨x,e⟩:=b
  by_cases c1:e=0
  ·subst c1;have hst:=ztr a (s.lock.cells[(s.at_ / 2).toNat]'(by omega)) k x hL hs;simp only[ne_eq,zY2,if_false];generalize stStripe a (s.lock.cells[(s.at_ / 2).toNat]'(by omega)) k x=r at *;obtain⟨a2,e⟩:=r;have hsl:=zDR a2 { s with stripes:=s.stripes.take (s.at_ / 2).toNat++[x],at_:=s.at_+1 } (by simpa using (by omega:s.lock.cells.length<=1000));have hen:=zfe { s with stripes:=s.stripes.take (s.at_ / 2).toNat++[x],at_:=s.at_+1 } 2;have hsn:=zWK a2 { s with stripes:=s.stripes.take (s.at_ / 2).toNat++[x],at_:=s.at_+1 };unfold z5 at *;simp only at *;generalize zdA a2 { s with stripes:=s.stripes.take (s.at_ / 2).toNat++[x],at_:=s.at_+1 }=sn at *
   by_cases c2:e=0/\s.at_+1=2 * sn
   ·rw[zYQ c2];obtain⟨rfl,c3⟩:=c2;replace c3:=zY8 c3;simp only[zr,zY5,zYU,zYS] at *;exact zW
   ·rw[zYP c2];simp only[zr,zY5,zYU,zYS] at *
    by_cases c4:e=0
    ·subst c4;have c5:(s.at_+1=2 * sn)=False:=zYV (fun q=>c2 ⟨rfl,q⟩);clear c2;exact zW
    ·clear c2;exact zW
  ·rw[zYQ c1];simp only[zr] at *;exact zW
theorem zQH(a:zm)(s:Section)(hL:a.slots.length<=1000)(h0:0<=s.at_)(h1:s.at_<s.lock.cells.length)(hc:s.lock.cells.length<=3)(h2:s.shards.length<=100):zd G 295 [.d (zl a),.d (zr s)] []=some (.d (.tup [zl (zfw a s).1,zr (zfw a s).2.1,.int .i64 (zfw a s).2.2]),[]):=by
 unfold zfw;rw[zli h0 h1];have hd:=zQl a
 by_cases c:(s.lock.cells[s.at_.toNat]'(by omega))=a.slots.length
 ·simp only[c,if_true]
  by_cases c2:s.at_+1=s.lock.cells.length
  ·have he:=zfe { s with dead:=a.dead.dead,at_:=s.at_+1 } 3;rw[zYQ c2];replace c2:=zY8 c2;unfold z5 at *;simp only[zr,zl,zF] at *;exact zW
  ·rw[zYP c2];simp only[zr,zl,zF] at *;exact zW
 ·have hl:=zB1 a (s.lock.cells[s.at_.toNat]'(by omega)) hL;simp only[c,if_false];generalize zbv a (s.lock.cells[s.at_.toNat]'(by omega))=r at *;obtain⟨x,e⟩:=r
  by_cases c2:s.at_+1=s.lock.cells.length
  ·have he:=zfe { s with shards:=s.shards++[x],at_:=s.at_+1 } 3;rw[zYQ c2];replace c2:=zY8 c2;unfold z5 at *;simp only[zr,zl,zY5,zYU,zYS] at *;exact zW
  ·rw[zYP c2];simp only[zr,zl,zY5,zYU,zYS] at *;exact zW
theorem zII(a:zm)(s:Section)(hd:s.dir.l.length<=65536)(h0:0<=s.at_)(h1:s.out.edits.length=1):zd G 298 [.d (zl a),.d (zr s)] []=some (.d (.tup [zl (zfv a s).1,zr (zfv a s).2.1,.int .i64 (zfv a s).2.2]),[]):=by
 have hld:=zoB a;unfold zfv
 by_cases c:s.at_=0
 ·rw[zYQ c];replace c:=zY8 c;simp only[zr,zat] at *;exact zW
 ·rw[zYP c];replace c:=zYV c;have hap:=zTB s.dir (s.out.edits[0]'(by omega)) zo;rw[zg (show 0<s.out.edits.length by omega)];have hlen:=zFH s.dir (s.out.edits[0]'(by omega));generalize zgP s.dir (s.out.edits[0]'(by omega))=r at *;obtain⟨d,e⟩:=r;simp only at *
  by_cases c1:e=0
  ·rw[zYP (fun q=>q c1)];subst c1;have hcd:=zGo a s.dir.version d zo;generalize casDir a s.dir.version d=r at *;obtain⟨a2,b,e⟩:=r;have hum:=zpx a2 { s with dir:=d };generalize zcs a2 { s with dir:=d }=r2 at *;obtain⟨a3,s3,e3⟩:=r2;simp only at *
   by_cases c4:e=0
   ·subst c4;simp only[ne_eq,zY2,if_false]
    cases b
    ·simp only[if_true];clear hum;simp only[zr,zat] at *;exact zW
    ·simp only[zZK,if_false];have sz_s3:=zdL s3;generalize zr s3=D_s3 at *;simp only[zr,zat] at *;exact zW
   ·rw[zYQ c4];clear hum;simp only[zr,zat] at *;exact zW
  ·rw[zYQ c1];simp only[zr,zat] at *;exact zW
theorem zXg(a:zm)(s:Section)(k:Int)(hL:a.slots.length<=1000)(h0:0<=s.at_)(h1:s.at_<s.out.order.length)(ho:∀o∈s.out.order,0<=o/\o<s.lock.cells.length)(hol:s.out.order.length<=3)(hsh:∀o∈s.out.order,zcA s o≠a.slots.length->o<s.out.shards.length)(hf:∀x∈s.out.shards,za0 x)(hd:s.out.dead.l.length<=1000):zd G 297 [.d (zl a),.d (zr s),.d (.int .i64 k)] []=some (.d (.tup [zl (zfz a s k).1,zr (zfz a s k).2.1,.int .i64 (zfz a s k).2.2]),[]):=by
 have hi:s.at_.toNat<s.out.order.length:=by omega
 have hm:=ho _ (zY4 hi);have hsh:=hsh _ (zY4 hi);unfold zfz;simp only;rw[zg hi];have hen:=zfe { s with at_:=s.at_+1,carry:=[] } 6;unfold z5 at *;rw[zli hm.1 hm.2] at *;generalize ho':s.out.order[s.at_.toNat]=o at *;have ho2:s.out.order[s.at_.toNat]? = some o:=by rw[zY1 hi,ho']
 by_cases c:(s.lock.cells[o.toNat]'(by omega))=a.slots.length
 ·have hst:=zD1 a k s.out.dead hd;simp only[c,if_true];generalize stDead a k s.out.dead=r at *;obtain⟨a2,e⟩:=r;simp only at *
  by_cases c1:e=0
  ·subst c1;simp only[ne_eq,zY2,if_false]
   by_cases c2:s.at_+1<s.out.order.length
   ·rw[zYQ c2];clear hen;simp only[zl,zr,zF] at *;exact zW
   ·rw[zYP c2]
    by_cases c3:0<s.out.edits.length
    ·rw[zYQ c3];simp only[zl,zr,zF,zYS] at *;exact zW
    ·rw[zYP c3];have hum:=zpx a2 { s with at_:=s.at_+1,carry:=[] };generalize zcs a2 { s with at_:=s.at_+1,carry:=[] }=u at *;obtain⟨u1,u2,u3⟩:=u;simp only at *;have sz_u2:=zdL u2;generalize zr u2=D_u2 at *;have sz_u1:=zay u1;generalize zl u1=D_u1 at *;clear hen;simp only[zl,zr,zF,zYS] at *;exact zW
  ·rw[zYQ c1];clear hen;simp only[zl,zr,zF] at *;exact zW
 ·have hs2:o.toNat<s.out.shards.length:=by have:=hsh c;omega
  have hst:=zD2 a (s.lock.cells[o.toNat]'(by omega)) k s.out.shards[o.toNat] hL (hf _ (zY4 hs2));simp only[c,if_false];rw[zg hs2];generalize stSlot a (s.lock.cells[o.toNat]'(by omega)) k s.out.shards[o.toNat]=r at *;obtain⟨a2,e⟩:=r;simp only at *
  by_cases c1:e=0
  ·subst c1;simp only[ne_eq,zY2,if_false]
   by_cases c2:s.at_+1<s.out.order.length
   ·rw[zYQ c2];clear hen;simp only[zl,zr,zF] at *;exact zW
   ·rw[zYP c2]
    by_cases c3:0<s.out.edits.length
    ·rw[zYQ c3];simp only[zl,zr,zF,zYS] at *;exact zW
    ·rw[zYP c3];have hum:=zpx a2 { s with at_:=s.at_+1,carry:=[] };generalize zcs a2 { s with at_:=s.at_+1,carry:=[] }=u at *;obtain⟨u1,u2,u3⟩:=u;simp only at *;have sz_u2:=zdL u2;generalize zr u2=D_u2 at *;have sz_u1:=zay u1;generalize zl u1=D_u1 at *;clear hen;simp only[zl,zr,zF,zYS] at *;exact zW
  ·rw[zYQ c1];clear hen;simp only[zl,zr,zF] at *;exact zW
theorem zYc(a:zm)(s:Section)(k:Int)(hL:a.slots.length<=1000)(hsl:a.stripes.length=a.slots.length)(h0:0<=s.at_)(h1:s.at_<s.stripes.length)(h2:s.at_<s.shards.length)(h3:s.at_<s.out.shards.length)(h4:s.at_<s.lock.cells.length)(h5:s.stripes.length<=100)(hol:s.out.order.length<=3)(hf:∀x∈s.out.shards,za0 x)(hg:∀x∈s.shards,za0 x):zd G 299 [.d (zl a),.d (zr s),.d (.int .i64 k)] []=some (.d (.tup [zl (zfA a s k).1,zr (zfA a s k).2.1,.int .i64 (zfA a s k).2.2]),[]):=by
 have hq:=zXh s s.at_ hol;have i1:s.at_.toNat<s.stripes.length:=by omega
 have i2:s.at_.toNat<s.shards.length:=by omega
 have i3:s.at_.toNat<s.out.shards.length:=by omega
 have hfr:=zAH { s with at_:=s.at_+1 };unfold zfA;simp only;rw[zli h0 h4,zg i1,zg i2,zg i3];generalize zcL { s with at_:=s.at_+1 }=f at *;obtain⟨f1,f2⟩:=f;generalize zjd s s.at_=q at *;have hen:∀x,za0 x->_:=fun x hx=>zIJ s.stripes[s.at_.toNat] x s.snap.epoch s.limit hx.1 hx.2.1 hx.2.2;have hen:zd G 319 [.d (zE s.stripes[s.at_.toNat]),.d (zi (if q=true then s.out.shards[s.at_.toNat] else s.shards[s.at_.toNat])),.d (.int .i64 s.snap.epoch),.d (.int .i64 s.limit)] []=_:=hen _ (by cases q;exact hg _ (zY4 i2);exact hf _ (zY4 i3));generalize zix s.stripes[s.at_.toNat] (if q=true then s.out.shards[s.at_.toNat] else s.shards[s.at_.toNat]) s.snap.epoch s.limit=x at *;obtain⟨x,e⟩:=x;have hst:=ztr a (s.lock.cells[s.at_.toNat]'(by omega)) k x hL hsl;generalize stStripe a (s.lock.cells[s.at_.toNat]'(by omega)) k x=r at *;obtain⟨a2,e2⟩:=r;simp only at *
 by_cases c:e=0
 ·subst c;simp only[ne_eq,zY2,if_false]
  by_cases c2:e2=0
  ·subst c2;simp only[ne_eq,zY2,if_false]
   by_cases c3:s.at_+1=s.stripes.length
   ·rw[zYQ c3];replace c3:=zY8 c3;have sz_f1:=zdL f1;generalize zr f1=D_f1 at *
    cases q
    ·simp only[zr,zYX,if_false] at *;exact zW
    ·simp only[zr,if_true] at *;exact zW
   ·rw[zYP c3];replace c3:=zYV c3;clear hfr
    cases q
    ·simp only[zr,zYX,if_false] at *;exact zW
    ·simp only[zr,if_true] at *;exact zW
  ·rw[zYQ c2]
   cases q
   ·simp only[zr,zYX,if_false] at *;exact zW
   ·simp only[zr,if_true] at *;exact zW
 ·rw[zYQ c]
  cases q
  ·simp only[zr,zYX,if_false] at *;exact zW
  ·simp only[zr,if_true] at *;exact zW
structure zmV(a:zm)(s:Section):Prop where
 sl:a.slots.length<=1000
 st:a.stripes.length=a.slots.length
 lw:LWF 1000000 s.lock
 p1:s.phase=1->0<=s.at_/\s.at_<2 * s.lock.cells.length/\(s.stripes.length:Int)=(s.at_+1) / 2
 p2:s.phase=2->0<=s.at_/\s.at_<s.lock.cells.length/\s.shards.length<=100
 p5:s.phase=5->0<=s.at_/\s.at_<s.out.order.length/\(∀o∈s.out.order,zcA s o≠a.slots.length->o<s.out.shards.length)
 p6:s.phase=6->0<=s.at_/\s.out.edits.length=1
 p7:s.phase=7->0<=s.at_/\s.at_<s.stripes.length/\s.at_<s.shards.length/\s.at_<s.out.shards.length/\s.at_<s.lock.cells.length/\s.stripes.length<=100
 od:(∀o∈s.out.order,0<=o/\o<s.lock.cells.length)/\s.out.order.length<=3
 f1:∀x∈s.out.shards,za0 x
 f2:∀x∈s.shards,za0 x
 dd:s.out.dead.l.length<=1000
 di:s.dir.l.length<=65536
theorem zW6(a:zm)(s:Section)(k n:Int)(h:zmV a s):zd G 271 [.d (zl a),.d (zr s),.d (.int .i64 k),.d (.int .i64 n)] []=some (.d (.tup [zl (zfy a s k n).1,zr (zfy a s k n).2.1,.int .i64 (zfy a s k n).2.2]),[]):=by
 unfold zfy
 by_cases c0:s.phase=0
 ·rw[zYQ c0];have hl:=zBU a s.lock k h.sl h.lw;have hke:=zsl (k:=k) (a:=a) h.lw;have hcl:=h.lw.c2;unfold zhf;generalize za2 a s.lock k=r at *;obtain⟨a2,l,e⟩:=r;replace c0:=zY8 c0;simp only at *
  by_cases c:e=0/\l.phase=3
  ·rw[zYQ c];obtain⟨rfl,c3⟩:=c;have hce:=(hke rfl).2.1;have hs:=zDR a (z5 { s with lock:=l } 1) (by show l.cells.length<=1000;rw[hce];omega);have hs2:zdA a (z5 { s with lock:=l } 1)=zdA a s:=by unfold zdA z5;simp only[hce]
   rw[hs2] at hs;have e1:=zfe { s with lock:=l } 1;have e2:=zfe (z5 { s with lock:=l } 1) 2;clear hke hs2 hce;replace c3:=zY8 c3;generalize zdA a s=sn at *;unfold z5 at *;simp only[zr,zcv] at *
   by_cases c4:sn=0
   ·rw[zYQ c4];exact zW
   ·rw[zYP c4];exact zW
  ·rw[zYP c];clear hke;simp only[zr,zcv] at *;exact zW
 rw[zYP c0]
 by_cases c1:s.phase=1
 ·rw[zYQ c1];obtain⟨q1,q2,q3⟩:=h.p1 c1;have hm:=zQ8 a s k h.sl h.st q1 q2 h.lw.c2 q3;generalize zfx a s k=r at *;obtain⟨a2,s2,e⟩:=r;have sz_s2:=zdL s2;generalize zr s2=D_s2 at *;clear h c0 q1 q2 q3;obtain⟨ph,at_,lk,sn,sh,dd,st,di,ou,lm,ca⟩:=s;simp only at c1;subst c1;simp only[zr] at *;exact zW
 rw[zYP c1]
 by_cases c2:s.phase=2
 ·rw[zYQ c2];obtain⟨q1,q2,q3⟩:=h.p2 c2;have hm:=zQH a s h.sl q1 q2 h.lw.c2 q3;generalize zfw a s=r at *;obtain⟨a2,s2,e⟩:=r;have sz_s2:=zdL s2;generalize zr s2=D_s2 at *;clear h c0 q1 q2 q3;obtain⟨ph,at_,lk,sn,sh,dd,st,di,ou,lm,ca⟩:=s;simp only at c2;subst c2;simp only[zr] at *;exact zW
 rw[zYP c2]
 by_cases c3:s.phase=3
 ·rw[zYQ c3];have hm:=zWN a s.snap n;unfold zh4;generalize zde a s.snap n=r at *;obtain⟨x,e⟩:=r;have e1:=zfe { s with snap:=x } 4;unfold z5 at *;clear h c0 c1 c2;obtain⟨ph,at_,lk,sn,sh,dd,st,di,ou,lm,ca⟩:=s;simp only at *;subst c3
  by_cases c:e=0/\x.phase=3
  ·rw[zYQ c];obtain⟨rfl,c5⟩:=c;replace c5:=zY8 c5;simp only[zr,zgT] at *;exact zW
  ·rw[zYP c];simp only[zr,zgT] at *;exact zW
 rw[zYP c3]
 by_cases c5:s.phase=5
 ·rw[zYQ c5];obtain⟨q1,q2,q3⟩:=h.p5 c5;have hm:=zXg a s k h.sl q1 q2 h.od.1 h.od.2 q3 h.f1 h.dd;generalize zfz a s k=r at *;obtain⟨a2,s2,e⟩:=r;have sz_s2:=zdL s2;generalize zr s2=D_s2 at *;clear h c0 c1 c2 c3 q1 q2 q3;obtain⟨ph,at_,lk,sn,sh,dd,st,di,ou,lm,ca⟩:=s;simp only at c5;subst c5;simp only[zr] at *;exact zW
 rw[zYP c5]
 by_cases c6:s.phase=6
 ·rw[zYQ c6];obtain⟨q1,q2⟩:=h.p6 c6;have hm:=zII a s h.di q1 q2;generalize zfv a s=r at *;obtain⟨a2,s2,e⟩:=r;have sz_s2:=zdL s2;generalize zr s2=D_s2 at *;clear h c0 c1 c2 c3 c5 q1 q2;obtain⟨ph,at_,lk,sn,sh,dd,st,di,ou,lm,ca⟩:=s;simp only at c6;subst c6;simp only[zr] at *;exact zW
 rw[zYP c6]
 by_cases c7:s.phase=7
 ·rw[zYQ c7];obtain⟨q1,q2,q3,q4,q5,q6⟩:=h.p7 c7;have hm:=zYc a s k h.sl h.st q1 q2 q3 q4 q5 q6 h.od.2 h.f1 h.f2;generalize zfA a s k=r at *;obtain⟨a2,s2,e⟩:=r;have sz_s2:=zdL s2;generalize zr s2=D_s2 at *;clear h c0 c1 c2 c3 c5 c6 q1 q2 q3 q4 q5 q6;obtain⟨ph,at_,lk,sn,sh,dd,st,di,ou,lm,ca⟩:=s;simp only at c7;subst c7;simp only[zr] at *;exact zW
 rw[zYP c7]
 by_cases c8:s.phase=8
 ·rw[zYQ c8];have hl:=zBU a s.lock k h.sl h.lw;unfold zhe;generalize za2 a s.lock k=r at *;obtain⟨a2,l,e⟩:=r;have e1:=zfe { s with lock:=l } 9;unfold z5 at *;clear h c0 c1 c2 c3 c5 c6 c7;obtain⟨ph,at_,lk,sn,sh,dd,st,di,ou,lm,ca⟩:=s;simp only at *;subst c8
  by_cases c:e=0/\l.phase=5
  ·rw[zYQ c];obtain⟨rfl,c5⟩:=c;replace c5:=zY8 c5;simp only[zr,zcv] at *;exact zW
  ·rw[zYP c];simp only[zr,zcv] at *;exact zW
 ·rw[zYP c8];clear h;simp only[zr] at *;exact zW
theorem zW7(a:zm)(s:Section)(k n:Int)(h:zmV a s):zd G 208 [.d (zl a),.d (zr s),.d (.int .i64 k),.d (.int .i64 n)] []=some (.d (.tup [zl (zcx a s k n).1,zr (zcx a s k n).2.1,.int .i64 (zcx a s k n).2.2]),[]):=by
 have hs:=zW6 a s k n h;unfold zcx;generalize zfy a s k n=r at *;obtain⟨a2,s2,e⟩:=r;clear h;simp only at *;have sz_s:=zdL s;generalize zr s=D_s at *
 by_cases c:e=0
 ·subst c;simp only[ne_eq,zY2,if_false];have sz_s2:=zdL s2;generalize zr s2=D_s2 at *;exact zW
 ·rw[zYQ c];have sz_s2:=zdL s2;generalize zr s2=D_s2 at *;have sz_a:=zay a;generalize zl a=D_a at *;have sz_a2:=zay a2;generalize zl a2=D_a2 at *;have zk0:=zl.eq_1;have zk1:=zr.eq_1;have zk2:=zx.eq_1;have zk3:=zbG.eq_1;exact zW
theorem zlw(a:zm)(t:zq)(n:Int)(h:zmV a t.sec):zd G 156 [.d (zl a),.d (zh t),.d (.int .i64 n)] []=some (.d (.tup [zl (goT a t n).1,zh (goT a t n).2.1,.bool (goT a t n).2.2.1,.bool (goT a t n).2.2.2.1,.int .i64 (goT a t n).2.2.2.2]),[]):=by
 have hs:=zW7 a t.sec t.number n h;unfold goT;generalize zcx a t.sec t.number n=r at *;obtain⟨a2,s2,e⟩:=r;clear h
 by_cases c:e=0
 ·subst c;simp only[ne_eq,zY2,if_false];simp only[zh,zr] at *;exact zW
 ·rw[zYQ c];have sz_a:=zay a;generalize zl a=D_a at *;have sz_a2:=zay a2;generalize zl a2=D_a2 at *;simp only[zh,zr] at *;have zk0:=zl.eq_1;have zk1:=zx.eq_1;have zk2:=zJ.eq_1;exact zW
end Go.Proofs.YtjalkkalhdnplaaGreat
