/-
  Worlds keep to what they keep to.
-/
import Derived.Test.YtjalkkalhdnplaaGreatB568fc85
import Derived.Test.YtjalkkalhdnplaaGreatBc22dd4b
import Derived.Test.YtjalkkalhdnplaaGreatB6c2d26b
set_option linter.unusedSimpArgs false
set_option linter.unusedVariables false
set_option maxHeartbeats 10000000
set_option maxRecDepth 100000
namespace Go.Proofs.YtjalkkalhdnplaaGreat
open Go Go.Sim
theorem zVC(a b:z8)(hL:a.cells.length<=4294967296):zd G 71 [.d (zQ a),.d (zQ b)] []=some (.d (.bool (decide (a=b))),[]):=by
 have h1:=zDK a.cells b.cells hL;have e:decide (a=b)=(decide (a.head=b.head)&&(decide (a.size=b.size)&&decide (a.cells=b.cells))):=by
  cases a;cases b
  apply zZB.2;simp only[z8.mk.injEq,decide_eq_true_eq,zY6];exact⟨fun⟨p,q,r⟩=>⟨q,r,p⟩,fun⟨p,q,r⟩=>⟨r,p,q⟩⟩
 rw[e];exact zW
theorem zVD(a b:Table)(h1:a.l.length<=4294967296)(h2:a.heap.length<=4294967296):zd G 72 [.d (z9 a),.d (z9 b)] []=some (.d (.bool (decide (a=b))),[]):=by
 have h1:=zVG a.l b.l h1;have h2:=zVF a.heap b.heap h2;have e:decide (a=b)=(decide (a.l=b.l)&&decide (a.heap=b.heap)):=by
  cases a;cases b
  apply zZB.2;simp only[Table.mk.injEq,decide_eq_true_eq,zY6]
 rw[e];exact zW
structure zcZ(s:Shard):Prop where
 a:s.ready.cells.length<=4294967296
 b:s.leases.l.length<=4294967296
 c:s.leases.heap.length<=4294967296
theorem zDJ(a b:Shard)(h:zcZ a):zd G 27 [.d (zi a),.d (zi b)] []=some (.d (.bool (decide (a=b))),[]):=by
 obtain⟨f1,f2,f3⟩:=h;have h1:=zVC a.ready b.ready f1;have h2:=zVD a.leases b.leases f2 f3;have e:decide (a=b)=(decide (a.live=b.live)&&(decide (a.low=b.low)&&(decide (a.high=b.high)&&(decide (a.ready=b.ready)&&decide (a.leases=b.leases))))):=by
  cases a;cases b
  apply zZB.2;simp only[Shard.mk.injEq,decide_eq_true_eq,zY6]
 rw[e];simp only[zQ,z9] at h1 h2;exact zW
theorem zDI(a b:Dead)(h:a.l.length<=4294967296):zd G 28 [.d (zF a),.d (zF b)] []=some (.d (.bool (decide (a=b))),[]):=by
 have h1:=zDK a.l b.l h;have e:decide (a=b)=(decide (a.cap=b.cap)&&decide (a.l=b.l)):=by
  cases a;cases b
  apply zZB.2;simp only[Dead.mk.injEq,decide_eq_true_eq,zY6]
 rw[e];exact zW
theorem zVL(a b:zao)(hL:a.l.length<=4294967296)(hab:a.l.length=b.l.length):zP G [] zom ⟨[(2,.ref 2 0 0),(3,.ref 3 0 0),(5,.d (.int .i64 0))],[(2,.row [.d (zat a)]),(3,.row [.d (zat b)])]⟩=some (if a.l=b.l then (.exit 0,⟨[(2,.ref 2 0 0),(3,.ref 3 0 0)],[(2,.row [.d (zat a)]),(3,.row [.d (zat b)])]⟩) else (.ret,⟨[(4,.d (.bool false))],[]⟩)):=by
 have:=zc7 (G:=G) (x:=zom) (ks:=[]) a.l.length (fun k=>decide (a.l[k]? = b.l[k]?)) (fun k=>⟨[(2,.ref 2 0 0),(3,.ref 3 0 0),(5,.d (.int .i64 k))],[(2,.row [.d (zat a)]),(3,.row [.d (zat b)])]⟩) (.ret,⟨[(4,.d (.bool false))],[]⟩) (.exit 0,⟨[(2,.ref 2 0 0),(3,.ref 3 0 0)],[(2,.row [.d (zat a)]),(3,.row [.d (zat b)])]⟩) (fun k hk L=>by
  simp only[zom]
  by_cases h0:k<a.l.length
  ·have hk2:k<b.l.length:=by omega
   simp only[ziE h0 hk2,h0,if_true];exact zS
  ·exact zS)
 simp only[zii hab,zZg,decide_eq_true_eq] at this;exact this
theorem zVM(a b:zao)(hL:a.forward.length<=4294967296)(hab:a.forward.length=b.forward.length):zP G [] zon ⟨[(2,.ref 2 0 0),(3,.ref 3 0 0),(6,.d (.int .i64 0))],[(2,.row [.d (zat a)]),(3,.row [.d (zat b)])]⟩=some (if a.forward=b.forward then (.exit 2,⟨[],[]⟩) else (.ret,⟨[(4,.d (.bool false))],[]⟩)):=by
 have:=zc7 (G:=G) (x:=zon) (ks:=[]) a.forward.length (fun k=>decide (a.forward[k]? = b.forward[k]?)) (fun k=>⟨[(2,.ref 2 0 0),(3,.ref 3 0 0),(6,.d (.int .i64 k))],[(2,.row [.d (zat a)]),(3,.row [.d (zat b)])]⟩) (.ret,⟨[(4,.d (.bool false))],[]⟩) (.exit 2,⟨[],[]⟩) (fun k hk L=>by
  simp only[zon]
  by_cases h0:k<a.forward.length
  ·have hk2:k<b.forward.length:=by omega
   simp only[ziE h0 hk2,h0,if_true];exact zS
  ·exact zS)
 simp only[zii hab,zZg,decide_eq_true_eq] at this;exact this
theorem zVB(a b:zao)(hL:a.l.length<=4294967296)(hF:a.forward.length<=4294967296):zd G 63 [.d (zat a),.d (zat b)] []=some (.d (.bool (decide (a=b))),[]):=by
 by_cases c0:a.version=b.version/\a.l.length=b.l.length/\a.forward.length=b.forward.length
 ·obtain⟨c1,c2,c3⟩:=c0;have h0:=zVL a b hL c2;have h1:=zVM a b hF c3
  by_cases c4:a.l=b.l
  ·by_cases c5:a.forward=b.forward
   ·have e:a=b:=by cases a;cases b;simp_all
    subst e;simp only[if_true] at h0 h1;simp only[decide_true];clear c1 c2 c3 c4 c5;exact zW
   ·have e:¬a=b:=fun e=>c5 (by rw[e]);rw[zZc e];rw[zYQ c4] at h0;rw[zYP c5] at h1;clear c4;exact zW
  ·have e:¬a=b:=fun e=>c4 (by rw[e]);rw[zZc e];rw[zYP c4] at h0;clear h1;exact zW
 ·have e:¬a=b:=fun e=>c0 (by rw[e];exact⟨rfl,rfl,rfl⟩);rw[zZc e]
  by_cases c1:a.version=b.version
  ·by_cases c2:a.l.length=b.l.length
   ·have c3:¬a.forward.length=b.forward.length:=fun c3=>c0 ⟨c1,c2,c3⟩;exact zW
   ·exact zW
  ·exact zW
structure zgc(a:zm):Prop where
 sl:a.slots.length<=1000
 sh:∀i (h:i<a.slots.length),zcZ (a.slots[i]).shard
 st:a.stripes.length<=4294967296
 de:a.dead.dead.l.length<=4294967296
 dl:a.dir.l.length<=4294967296
 df:a.dir.forward.length<=4294967296
theorem zVx(a b:zm)(h:zgc a)(hab:a.slots.length=b.slots.length):zP G [] zos ⟨[(2,.ref 2 0 0),(3,.ref 3 0 0),(5,.d (.int .i64 0))],[(2,.row [.d (zl a)]),(3,.row [.d (zl b)])]⟩=some (if a.slots=b.slots then (.exit 0,⟨[],[]⟩) else (.ret,⟨[(4,.d (.bool false))],[]⟩)):=by
 obtain⟨fa,fb,_,_,_,_⟩:=h;have:=zc7 (G:=G) (x:=zos) (ks:=[]) a.slots.length (fun k=>decide (a.slots[k]? = b.slots[k]?)) (fun k=>⟨[(2,.ref 2 0 0),(3,.ref 3 0 0),(5,.d (.int .i64 k))],[(2,.row [.d (zl a)]),(3,.row [.d (zl b)])]⟩) (.ret,⟨[(4,.d (.bool false))],[]⟩) (.exit 0,⟨[],[]⟩) (fun k hk L=>by
  simp only[zos]
  by_cases h0:k<a.slots.length
  ·have hk2:k<b.slots.length:=by omega
   have hs:=zDJ (a.slots[k]).shard (b.slots[k]).shard (fb k h0);simp only[zi] at hs;have e:decide (a.slots[k]=b.slots[k])=(decide (a.slots[k].owner=b.slots[k].owner)&&decide (a.slots[k].shard=b.slots[k].shard)):=by
    generalize a.slots[k]=x;generalize b.slots[k]=y
    cases x;cases y
    apply zZB.2;simp
   simp only[ziE h0 hk2,h0,if_true,e];clear fb
   by_cases c1:a.slots[k].owner=b.slots[k].owner
   ·by_cases c2:a.slots[k].shard=b.slots[k].shard
    ·simp only[c1,c2,decide_true,zZX,if_true] at hs ⊢;exact zS
    ·simp only[c1,c2,decide_true,decide_false,zZ5,zYX,if_false] at hs ⊢;exact zS
   ·simp only[c1,decide_false,zZH,zYX,if_false];exact zS
  ·exact zS)
 simp only[zii hab,zZg,decide_eq_true_eq] at this;exact this
theorem ztg(a b:zm)(h:zgc a):zd G 16 [.d (zl a),.d (zl b)] []=some (.d (.bool (decide (a=b))),[]):=by
 have hl:=zVx a b h;obtain⟨f1,f2,f3,f4,f5,f6⟩:=h;have h1:=zVH a.stripes b.stripes f3;have h2:=zDI a.dead.dead b.dead.dead f4;have h3:=zVB a.dir b.dir f5 f6;simp only[zF,zat] at h2 h3;have e:decide (a=b)=decide (a.slots.length=b.slots.length/\a.stripes=b.stripes/\a.dead.owner=b.dead.owner/\a.dead.dead=b.dead.dead/\a.dir=b.dir/\a.epoch=b.epoch/\a.clock=b.clock/\a.nextID=b.nextID/\a.slots=b.slots):=by
  apply zZB.2;simp only[decide_eq_true_eq];constructor
  ·intro h;subst h;simp
  ·rintro⟨_,e1,e2,e3,e4,e5,e6,e7,e8⟩;obtain⟨_,_,⟨_,_⟩,_,_,_,_⟩:=a;obtain⟨_,_,⟨_,_⟩,_,_,_,_⟩:=b
   simp_all
 rw[e];clear e f2
 by_cases c1:a.slots.length=b.slots.length
 ·have hl2:=hl c1;clear hl
  by_cases c2:a.slots=b.slots
  ·rw[zYQ c2] at hl2;generalize hq9:decide (a.slots.length=b.slots.length/\a.stripes=b.stripes/\a.dead.owner=b.dead.owner/\a.dead.dead=b.dead.dead/\a.dir=b.dir/\a.epoch=b.epoch/\a.clock=b.clock/\a.nextID=b.nextID/\a.slots=b.slots)=z;simp only[c1,c2,zZZ,z0k] at hq9;clear c2;rw[zB zON (by simp)];simp -implicitDefEqProofs (maxSteps:=4000000) (disch:=omega) only[zqp,zg,go_sem, *]
   all_goals (clear h1 h2 h3 hl2;simp_all)
  ·rw[zYP c2] at hl2;rw[zZc (fun h=>c2 h.2.2.2.2.2.2.2.2)];clear c2;exact zW
 ·clear hl;exact zW
theorem zJ9{a:zm}(h:zgc a)(c k:Int):zgc (ze5 a c k):=by
 unfold ze5
 split
 ·exact { h with }
 ·refine { h with sl:=by rw[zZu];exact h.sl,sh:=fun i hi=> ?_ };simp only[z1V];rw[zZu] at hi
  split
  ·rename_i e;rw[zZw,zY1 zo];exact h.sh _ _
  ·exact h.sh i hi
theorem zq1:zgc zx:=⟨by simp [zx],fun i h=>by simp [zx] at h,by simp [zx],by simp [zx,zaL],by simp [zx,zdk],by simp [zx,zdk]⟩
theorem zFY:zaQ G 60 40 [] []=some (.d (.bool true),[]):=by kernel_rfl
theorem zFZ:zd G 40 [] []=some (.d (.bool true),[]):=znf.2 ⟨60,zFY⟩
theorem zBH(r lo hi:Int):zd G 198 [.d (.int .i64 r),.d (.int .i64 lo),.d (.int .i64 hi)] []=some (.d (.int .i64 (zjT r lo hi)),[]):=by
 unfold zjT
 by_cases c:r<0\/65536<=r\/lo<0\/65536<=hi\/hi<lo
 ·rw[zYQ c];exact zW
 ·rw[zYP c];exact zBI r lo hi zo zo zo zo zo
theorem zRB(id route ep now:Int)(b:List UInt8):zd G 214 [.d (.int .i64 id),.d (.int .i64 route),.d (.int .i64 ep),.d (.int .i64 now),.d (.str b)] []=some (.d (.tup [zj (zl2 id route ep now b).1,.int .i64 (zl2 id route ep now b).2]),[]):=by
 have hv:=zhV ⟨id,route,ep,0,0,now,b⟩;unfold zl2;generalize zZ ⟨id,route,ep,0,0,now,b⟩=v at *;simp only[zj] at *
 by_cases c:v=0
 ·subst c;exact zW
 ·rw[zYQ c];have zk0:=zX.eq_1;exact zW
structure AI(u:Setup)(a:zm):Prop where
 sl:(a.slots.length:Int)=u.slots
 st:a.stripes.length=a.slots.length
 sh:∀x∈a.slots,zU x.shard=0/\(x.shard.ready.cells.length:Int)=u.capacity
 sp:∀x∈a.stripes,zje x=true
 dv:zbl a.dir=0
 df:a.dir.forward.length=a.slots.length
 dd:zbU a.dead.dead=0
 dc:a.dead.dead.cap=u.dead
 ep:0<=a.epoch/\a.epoch<=65536
 ck:0<=a.clock/\a.clock<=1073741824
 ni:1<=a.nextID/\a.nextID<=1073741824
theorem ziS{α:Type}{l:List α}{i:Nat}{x y:α}(h:y∈l.set i x):y=x\/y∈l:=by
 rcases z0B h with h|h
 ·exact .inr h
 ·exact .inl h
theorem ztp{a:zm}{c:Int}(h0:0<=c)(h1:c<a.slots.length):a.slots.getD c.toNat ze7∈a.slots:=by
 rw[zZw,zY1 zo];exact zY4 _
theorem AI.owner{u:Setup}{a:zm}(h:AI u a){c k:Int}(h0:0<=c)(h1:c<=a.slots.length):AI u (ze5 a c k):=by
 unfold ze5
 split
 ·exact { h with }
 ·rename_i hc;refine { h with sl:= ?_,st:= ?_,sh:=fun x hx=> ?_,df:= ?_ }
  ·simp only[zZu];exact h.sl
  ·simp only[zZu];exact h.st
  ·rcases ziS hx with rfl|hx
   ·exact h.sh (a.slots.getD c.toNat ze7) (ztp (a:=a) h0 zo)
   ·exact h.sh x hx
  ·simp only[zZu];exact h.df
theorem AI.try_{u:Setup}{a:zm}(h:AI u a)(c k:Int)(e:(zb2 a c k).2.2=0):AI u (zb2 a c k).1:=by
 unfold zb2 at e ⊢
 split at e
 ·cases e
 ·rename_i hc;rw[zYP hc];have q1:0<=c:=z1b.1 fun q=>hc (.inl q);have q2:c<=a.slots.length:=z1b.1 fun q=>hc (.inr (.inl q))
  split
  ·exact AI.owner (a:=a) (c:=c) (k:=k) h q1 q2
  ·exact h
theorem AI.unlock{u:Setup}{a:zm}(h:AI u a)(c k:Int)(e:(zed a c k).2=0):AI u (zed a c k).1:=by
 unfold zed at e ⊢
 split at e
 ·cases e
 ·rename_i hc;rw[zYP hc]
  split at e
  ·rename_i h2;rw[zYQ h2];have q1:0<=c:=z1b.1 fun q=>hc (.inl q);have q2:c<=a.slots.length:=z1b.1 fun q=>hc (.inr (.inl q));exact AI.owner (a:=a) (c:=c) (k:=0) h q1 q2
  ·cases e
theorem AI.lock{u:Setup}{a:zm}(h:AI u a)(l:zbH)(k:Int)(e:(za2 a l k).2.2=0):AI u (za2 a l k).1:=by
 unfold za2 at e ⊢
 split at e
 ·rename_i h0;rw[zYQ h0];unfold zlX at e ⊢
  split at e
  ·rename_i h1;rw[zYQ h1]
   split
   ·exact h.try_ _ _ h1
   ·exact h.try_ _ _ h1
  ·rename_i h1;exact absurd e h1
 ·rename_i h0;rw[zYP h0]
  split at e
  ·rename_i h1;rw[zYQ h1];unfold zkb at e ⊢
   split at e
   ·rename_i h2;rw[zYQ h2];exact h.unlock _ _ h2
   ·rename_i h2;exact absurd e h2
  ·rename_i h1;rw[zYP h1]
   split at e
   ·rename_i h2;rw[zYQ h2];exact h
   ·cases e
theorem zpj{a:zm}{i:Int}:zcU a i=true↔0<=i/\i<a.slots.length:=by unfold zcU;rw[decide_eq_true_eq]
theorem zXf{a:zm}{i k:Int}(e:zco a i k=0):0<=i/\i<a.slots.length/\(a.slots.getD i.toNat ze7).owner=k:=by
 unfold zco at e
 split at e
 ·cases e
 ·rename_i hc
  split at e
  ·rename_i h1;have:zcU a i=true:=by
    cases hq:zcU a i with
    | true=>rfl
    | false=>exact absurd (.inl hq) hc
   exact⟨(zpj.1 this).1,(zpj.1 this).2,h1⟩
  ·cases e
theorem AI.stSlot{u:Setup}{a:zm}(h:AI u a)(i k:Int)(s:Shard)(e:(stSlot a i k s).2=0):AI u (stSlot a i k s).1:=by
 unfold Go.Proofs.YtjalkkalhdnplaaGreat.stSlot at e ⊢
 split at e
 ·rename_i h1;exact absurd e h1
 ·rename_i h1;rw[zYP h1]
  split at e
  ·rename_i h2;exact absurd e h2
  ·rename_i h2;rw[zYP h2]
   split at e
   ·cases e
   ·rename_i h3;rw[zYP h3];obtain⟨q1,q2,_⟩:=zXf (zY9.1 h1);refine { h with sl:= ?_,st:= ?_,sh:=fun x hx=> ?_,df:= ?_ }
    ·simp only[zZu];exact h.sl
    ·simp only[zZu];exact h.st
    ·rcases ziS hx with rfl|hx
     ·refine⟨zY9.1 h2,?_⟩;rw[zY9.1 h3];exact (h.sh _ (ztp q1 q2)).2
     ·exact h.sh x hx
    ·simp only[zZu];exact h.df
theorem AI.stStripe{u:Setup}{a:zm}(h:AI u a)(i k:Int)(s:Stripe)(e:(stStripe a i k s).2=0):AI u (stStripe a i k s).1:=by
 unfold Go.Proofs.YtjalkkalhdnplaaGreat.stStripe at e ⊢
 split at e
 ·rename_i h1;exact absurd e h1
 ·rename_i h1;rw[zYP h1]
  split at e
  ·cases e
  ·rename_i h2;rw[zYP h2];refine { h with st:= ?_,sp:=fun x hx=> ?_ }
   ·simp only[zZu];exact h.st
   ·rcases ziS hx with rfl|hx
    ·simpa using h2
    ·exact h.sp x hx
theorem AI.stDead{u:Setup}{a:zm}(h:AI u a)(k:Int)(d:Dead)(e:(stDead a k d).2=0):AI u (stDead a k d).1:=by
 unfold Go.Proofs.YtjalkkalhdnplaaGreat.stDead at e ⊢
 split at e
 ·cases e
 ·rename_i h1;rw[zYP h1]
  split at e
  ·cases e
  ·rename_i h2;rw[zYP h2]
   split at e
   ·rename_i h3;exact absurd e h3
   ·rename_i h3;rw[zYP h3]
    split at e
    ·cases e
    ·rename_i h4;rw[zYP h4];exact { h with dd:=zY9.1 h3,dc:=(zY9.1 h4).trans h.dc }
theorem AI.casDir{u:Setup}{a:zm}(h:AI u a)(v:Int)(d:zao)(e:(casDir a v d).2.2=0):AI u (casDir a v d).1:=by
 unfold Go.Proofs.YtjalkkalhdnplaaGreat.casDir at e ⊢
 split at e
 ·rename_i h1;exact absurd e h1
 ·rename_i h1;rw[zYP h1]
  split at e
  ·cases e
  ·rename_i h2;rw[zYP h2]
   split
   ·exact h
   ·exact { h with dv:=zY9.1 h1,df:=zY9.1 h2 }
theorem AI.casWord{u:Setup}{a:zm}(h:AI u a)(w old next:Int)(e:(casWord a w old next).2.2=0):AI u (casWord a w old next).1:=by
 unfold Go.Proofs.YtjalkkalhdnplaaGreat.casWord at e ⊢
 split at e
 ·cases e
 ·rename_i h1;rw[zYP h1]
  split at e
  ·cases e
  ·rename_i h2;rw[zYP h2]
   split
   ·exact h
   ·split
    ·rename_i h3;refine { h with ep:= ?_ };refine Classical.byContradiction fun q=>h2 (.inl ⟨h3,q⟩)
    ·rename_i h3;refine { h with ni:= ?_ };refine Classical.byContradiction fun q=>h2 (.inr ⟨by omega,q⟩)
theorem AI.tick{u:Setup}{a:zm}(h:AI u a)(by_:Int)(e:(zeI a by_).2=0):AI u (zeI a by_).1:=by
 unfold zeI at e ⊢
 split at e
 ·cases e
 ·rename_i h1;rw[zYP h1]
  split at e
  ·cases e
  ·rename_i h2;rw[zYP h2];have:=h.ck;refine { h with ck:= ?_ };simp only;omega
def kOf(n:Int)(l:List Int):Nat:=(l.filter fun c=>decide (c<n)).length
theorem zlH(n:Int)(l:List Int):kOf n l<=l.length:=z0h _ _
theorem zBP{n:Int}:∀ {l:List Int},l.Pairwise (· < ·)->∀(i:Nat) (hi:i<l.length),i<kOf n l↔l[i]<n:=by
 intro l
 induction l with
 | nil=>intro _ i hi;cases hi
 | cons c l ih=>
  intro h i hi;rw[z0K] at h
  by_cases hc:c<n
  ·have e:kOf n (c::l)=kOf n l+1:=by unfold kOf;rw[z0m,zYQ (by simpa using hc)];rfl
   rw[e]
   cases i with
   | zero=>simp [hc]
   | succ i=>
    have:=ih h.2 i (by simpa using hi);simp only[z1D];omega
  ·have e:kOf n (c::l)=0:=by
      unfold kOf;rw[z0m,zYP (by simpa using hc)];have:(l.filter fun c=>decide (c<n))=[]:=by
       rw[z14];intro x hx;have:=h.1 x hx;simp only[decide_eq_true_eq];omega
      rw[this];rfl
   rw[e]
   cases i with
   | zero=>simp [hc]
   | succ i=>
    have:=h.1 (l[i]'(by simpa using hi)) (zY4 _);simp only[z1D];omega
theorem zDS{u:Setup}{a:zm}(h:AI u a)(s:Section):zdA a s=kOf u.slots s.lock.cells:=by
 unfold zdA kOf;rw[h.sl]
structure PhI(k n:Nat)(s:Section):Prop where
 p0:s.phase=0->s.lock.phase<=2/\s.stripes=[]/\s.shards=[]/\s.snap.phase=0
 p1:s.phase=1->s.lock.phase=3/\0<=s.at_/\s.at_<2 * k/\(s.stripes.length:Int)=(s.at_+1) / 2/\s.shards=[]/\s.snap.phase=0
 p2:s.phase=2->s.lock.phase=3/\0<=s.at_/\s.at_<n/\s.stripes.length=k/\s.shards.length=min s.at_.toNat k/\s.snap.phase=0
 p3:s.phase=3->s.lock.phase=3/\s.stripes.length=k/\s.shards.length=k/\0<=s.snap.phase/\s.snap.phase<=2
 p4:s.phase=4->s.lock.phase=3/\s.stripes.length=k/\s.shards.length=k
 p5:s.phase=5->s.lock.phase=3/\s.stripes.length=k/\s.shards.length=k/\s.out.shards.length=k/\0<=s.at_/\s.at_<s.out.order.length
 p6:s.phase=6->s.lock.phase=3/\s.stripes.length=k/\s.shards.length=k/\s.out.shards.length=k/\s.out.edits.length=1/\0<=s.at_/\s.at_<=1
 p7:s.phase=7->s.lock.phase=3/\s.stripes.length=k/\s.shards.length=k/\s.out.shards.length=k/\0<=s.at_/\s.at_<k
 p8:s.phase=8->s.lock.phase=4/\s.shards.length=k/\s.out.shards.length=k
 p9:s.phase=9->s.shards.length=k/\s.out.shards.length=k
structure SI(u:Setup)(N:Int)(s:Section):Prop where
 lw:LWF N s.lock
 cr:∀c∈s.lock.cells,0<=c/\c<=u.slots
 ca:s.lock.cells.Pairwise (· < ·)
 sv:∀x∈s.shards,zU x=0/\(x.ready.cells.length:Int)=u.capacity
 dv:s.dead.l.length<=24
 lm:1<=s.limit/\s.limit<=8
 sn:(0<=s.snap.epoch/\s.snap.epoch<=65536)/\0<=s.snap.clock/\s.snap.clock<=1073741824
 di:s.dir.l.length<=65536
 os:∀x∈s.out.shards,zcZ x
 od:s.out.dead.l.length<=1000
 oo:(∀o∈s.out.order,0<=o/\o<s.lock.cells.length)/\s.out.order.length<=3
 oc:s.out.carry.length<=1000/\s.carry.length<=1000
 ph:PhI (kOf u.slots s.lock.cells) s.lock.cells.length s
theorem SI.mono{u:Setup}{N M:Int}{s:Section}(h:SI u N s)(hn:N<=M):SI u M s:={ h with lw:=LWF.mono h.lw hn }
theorem zQJ{B:Int}{a:zm}{l:zbH}{k:Int}(hw:LWF B l)(hp:l.phase<=2)(h:(za2 a l k).2.2=0):(za2 a l k).2.1.phase<=3:=by
 unfold za2 at h ⊢
 by_cases c0:l.phase=0
 ·rw[zYQ c0] at h ⊢;unfold zlX at h ⊢
  split at h
  ·rename_i c1;rw[zYQ c1]
   split
   ·simp only;split<;>omega
   ·simp only;split<;>omega
  ·rename_i c1;exact absurd h c1
 ·rw[zYP c0] at h ⊢
  by_cases c1:l.phase=1
  ·rw[zYQ (.inl c1)] at h ⊢;unfold zkb at h ⊢
   split at h
   ·rename_i c2;rw[zYQ c2];unfold zj8;simp only
    split
    ·simp only;omega
    ·rw[zYP zo];simp only;omega
   ·rename_i c2;exact absurd h c2
  ·have c4:¬(l.phase=1\/l.phase=4):=by omega
   rw[zYP c4] at h ⊢
   split at h
   ·rename_i c2;rw[zYQ c2];simp only;split<;>omega
   ·cases h
structure zdD(s s':Section):Prop where
 cells:s'.lock.cells=s.lock.cells
 limit:s'.limit=s.limit
theorem zVQ{u:Setup}{a:zm}{s:Section}{k N:Int}(ha:AI u a)(hs:SI u N s)(hp:s.phase=0)(e:(zhf a s k).2.2=0):
    AI u (zhf a s k).1/\SI u (N+1) (zhf a s k).2.1/\zdD s (zhf a s k).2.1:=by
 obtain⟨q1,q2,q3,q9⟩:=hs.ph.p0 hp;have hk:=zDS ha s;have he:(za2 a s.lock k).2.2=0:=by
  unfold zhf at e
  split at e
  ·rename_i c;exact c.1
  ·exact e
 have hal:=ha.lock s.lock k he;obtain⟨w1,w2,_⟩:=zsl hs.lw he;have w3:=zQJ hs.lw q1 he;have w4:=hs.lw.c1;unfold zhf;generalize za2 a s.lock k=r at *;obtain⟨a2,l2,e2⟩:=r;simp only at he w1 w2 w3 hal;subst he
 by_cases c:l2.phase=3
 ·rw[zYQ ⟨rfl,c⟩];refine⟨hal,?_,?_⟩
  ·by_cases c0:zdA a s=0
   ·rw[zYQ c0];have k0:kOf u.slots s.lock.cells=0:=by rw[c0] at hk;omega
    refine { hs with lw:=w1,cr:=by simp only[z5];rw[w2];exact hs.cr,ca:=by simp only[z5];rw[w2];exact hs.ca,oo:=by simp only[z5];rw[w2];exact hs.oo,ph:= ?_ };simp only[z5];rw[w2,k0];constructor<;>simp only<;>intro h<;>first|omega|(refine⟨c,?_⟩;rw[q2,q3];simp;omega)
   ·rw[zYP c0];have k0:kOf u.slots s.lock.cells≠0:=fun q=>c0 (by rw[hk,q];rfl);refine { hs with lw:=w1,cr:=by simp only[z5];rw[w2];exact hs.cr,ca:=by simp only[z5];rw[w2];exact hs.ca,oo:=by simp only[z5];rw[w2];exact hs.oo,ph:= ?_ };simp only[z5];rw[w2];constructor<;>simp only<;>intro h<;>first|omega|(refine⟨c,?_⟩;rw[q2,q3];simp;omega)
  ·split<;>exact⟨w2,rfl⟩
 ·rw[zYP (fun q=>c q.2)];refine⟨hal,?_,⟨w2,rfl⟩⟩;refine { hs with lw:=w1,cr:=by simp only;rw[w2];exact hs.cr,ca:=by simp only;rw[w2];exact hs.ca,oo:=by simp only;rw[w2];exact hs.oo,ph:= ?_ };simp only;rw[w2];constructor<;>simp only<;>intro h<;>first|omega|exact⟨by omega,q2,q3,q9⟩
theorem zVU{u:Setup}{a:zm}{s:Section}{n N:Int}(ha:AI u a)(hs:SI u N s)(hp:s.phase=3)(e:(zh4 a s n).2.2=0):
    AI u (zh4 a s n).1/\SI u (N+1) (zh4 a s n).2.1/\zdD s (zh4 a s n).2.1:=by
 obtain⟨q1,q2,q3,q4,q5⟩:=hs.ph.p3 hp;have hsn:=hs.sn;have h1:=ha.ep;have h2:=ha.ck;have hs:=hs.mono (show N<=N+1 by omega);unfold zh4 at e ⊢;simp only at e ⊢;have key:(0<=(zde a s.snap n).1.epoch/\(zde a s.snap n).1.epoch<=65536)/\(0<=(zde a s.snap n).1.clock/\(zde a s.snap n).1.clock<=1073741824)/\0<=(zde a s.snap n).1.phase/\(zde a s.snap n).1.phase<=3:=by
  unfold zde at e ⊢
  split
  ·simp only;omega
  ·split
   ·simp only;omega
   ·split
    ·split
     ·simp only;omega
     ·simp only;omega
    ·exfalso;omega
 generalize zde a s.snap n=r at *;obtain⟨x,e2⟩:=r;simp only at e key ⊢;subst e;obtain⟨k1,k2,k3,k4⟩:=key;refine⟨ha,?_,?_⟩
 ·by_cases c:x.phase=3
  ·rw[zYQ ⟨rfl,c⟩];refine { hs with sn:=⟨k1,k2⟩,ph:= ?_ };simp only[z5];constructor<;>simp only<;>intro h<;>first|omega|exact⟨q1,q2,q3⟩
  ·rw[zYP (fun q=>c q.2)];refine { hs with sn:=⟨k1,k2⟩,ph:= ?_ };simp only;constructor<;>simp only<;>intro h<;>first|omega|exact⟨q1,q2,q3,k3,by omega⟩
 ·split<;>exact⟨rfl,rfl⟩
theorem zVP{u:Setup}{a:zm}{s:Section}{N:Int}(ha:AI u a)(hs:SI u N s)(hp:s.phase=2)(e:(zfw a s).2.2=0):
    AI u (zfw a s).1/\SI u (N+1) (zfw a s).2.1/\zdD s (zfw a s).2.1:=by
 obtain⟨q1,q2,q3,q4,q5,q9⟩:=hs.ph.p2 hp;have hsl:=ha.sl;have hlt:s.at_.toNat<s.lock.cells.length:=by omega
 have hc:zcA s s.at_=s.lock.cells[s.at_.toNat]:=by unfold zcA;rw[zg hlt]
 have hcr:=hs.cr _ (zY4 hlt);have hka:=zBP (n:=u.slots) hs.ca s.at_.toNat hlt;have hkl:=zlH u.slots s.lock.cells;rw[<- hc] at hcr hka;have hsv:=hs.sv;have hs:=hs.mono (show N<=N+1 by omega);unfold zfw at e ⊢;simp only at e ⊢;generalize zcA s s.at_=c at *;refine⟨ha,?_,?_⟩
 ·by_cases c0:c=a.slots.length
  ·rw[zYQ c0];have hk:kOf u.slots s.lock.cells<=s.at_.toNat:=by omega
   have hdl:a.dead.dead.l.length<=24:=by
    have hd:=ha.dd;unfold zbU at hd
    split at hd
    ·cases hd
    ·split at hd
     ·cases hd
     ·omega
   by_cases c1:s.at_+1=s.lock.cells.length
   ·simp only[c1,if_true];refine { hs with dv:=hdl,ph:= ?_ };simp only[z5];constructor<;>simp only<;>intro h<;>first|omega|exact⟨q1,q4,by omega,by omega,by omega⟩
   ·simp only[c1,if_false];refine { hs with dv:=hdl,ph:= ?_ };simp only;constructor<;>simp only<;>intro h<;>first|omega|exact⟨q1,by omega,by omega,q4,by omega,q9⟩
  ·rw[zYP c0];have hcl:c<a.slots.length:=by omega
   have hk:s.at_.toNat<kOf u.slots s.lock.cells:=hka.2 zo;have hld:(zbv a c).1=(a.slots.getD c.toNat ze7).shard:=by
    unfold zbv;rw[zYQ (zpj.2 ⟨hcr.1,hcl⟩)]
   have hnew:∀x∈s.shards++[(zbv a c).1],zU x=0/\(x.ready.cells.length:Int)=u.capacity:=by
    intro x hx
    rcases zZl.1 hx with hx|hx
    ·exact hsv x hx
    ·rw[zZt.1 hx,hld];exact ha.sh _ (ztp (a:=a) hcr.1 hcl)
   by_cases c1:s.at_+1=s.lock.cells.length
   ·simp only[c1,if_true];refine { hs with sv:=hnew,ph:= ?_ };simp only[z5];constructor<;>simp only<;>intro h<;>first|omega|exact⟨q1,q4,by simp only[zYZ,zZp];omega,by omega,by omega⟩
   ·simp only[c1,if_false];refine { hs with sv:=hnew,ph:= ?_ };simp only;constructor<;>simp only<;>intro h<;>first|omega|exact⟨q1,by omega,by omega,q4,by simp only[zYZ,zZp];omega,q9⟩
 ·constructor
  ·split<;>split<;>rfl
  ·split<;>split<;>rfl
theorem zVR{u:Setup}{a:zm}{s:Section}{k N:Int}(ha:AI u a)(hs:SI u N s)(hp:s.phase=1)(e:(zfx a s k).2.2=0):
    AI u (zfx a s k).1/\SI u (N+1) (zfx a s k).2.1/\zdD s (zfx a s k).2.1:=by
 obtain⟨q1,q2,q3,q4,q5,q6⟩:=hs.ph.p1 hp;have hkl:=zlH u.slots s.lock.cells;have hs:=hs.mono (show N<=N+1 by omega);have e1:s.at_.tmod 2=s.at_ % 2:=z2a q2;have e2:s.at_.tdiv 2=s.at_ / 2:=zZ9 q2;unfold zfx at e ⊢;simp only[e1,e2] at e ⊢
 by_cases c:s.at_ % 2=0
 ·rw[zYQ c];refine⟨ha,?_,⟨rfl,rfl⟩⟩;refine { hs with ph:= ?_ };simp only;constructor<;>simp only<;>intro h<;>first|omega|exact⟨q1,by omega,by omega,by simp only[zYZ,zZp];omega,q5,q6⟩
 ·rw[zYP c] at e ⊢
  split at e
  ·rename_i c1;exact absurd e c1
  ·rename_i c1;rw[zYP c1];simp only at e ⊢;have hst:=ha.stStripe _ _ _ e;have hkl2:=fun s2=>zDS hst s2;refine⟨hst,?_,?_⟩
   ·have hlen:(List.take (s.at_ / 2).toNat s.stripes++[(zhr (s.stripes.getD (s.at_ / 2).toNat zb1)).1]).length=(s.at_ / 2).toNat+1:=by
       rw[zYZ,z0I,zZp];omega
    by_cases c2:s.at_+1=2 * (kOf u.slots s.lock.cells:Int)
    ·rw[zYQ ⟨e,by rw[hkl2];exact c2⟩];refine { hs with ph:= ?_ };simp only[z5];have c1':=hs.lw.c1;constructor<;>simp only<;>intro h<;>first|omega|exact⟨q1,by omega,by omega,by omega,by rw[q5];simp,q6⟩
    ·rw[zYP (fun q=>c2 (by have:=q.2;rw[hkl2] at this;exact this))];refine { hs with ph:= ?_ };simp only;constructor<;>simp only<;>intro h<;>first|omega|exact⟨q1,by omega,by omega,by omega,q5,q6⟩
   ·constructor
    ·split<;>rfl
    ·split<;>rfl
theorem zOb{u:Setup}{N:Int}{s:Section}(hs:SI u N s)(h3:s.lock.phase=3)(hk:s.shards.length=kOf u.slots s.lock.cells)(ho:s.out.shards.length=kOf u.slots s.lock.cells)(e:(zcL s).2=0):
    SI u N (zcL s).1/\zdD s (zcL s).1:=by
 obtain⟨w1,w2⟩:=zoH hs.lw h3;have hf:(zcf s.lock).2=0/\(zcf s.lock).1.phase=4:=by unfold zcf;rw[zYQ h3];exact⟨rfl,rfl⟩
 unfold zcL;rw[zYP (fun q=>q hf.1)];refine⟨?_,⟨w2,rfl⟩⟩;refine { hs with lw:=w1,cr:=by simp only[z5];rw[w2];exact hs.cr,ca:=by simp only[z5];rw[w2];exact hs.ca,oo:=by simp only[z5];rw[w2];exact hs.oo,ph:= ?_ };simp only[z5];rw[w2];constructor<;>simp only<;>intro h<;>first|omega|exact⟨hf.2,hk,ho⟩
theorem zYd{u:Setup}{a:zm}{N:Int}{s:Section}(ha:AI u a)(hs:SI u N s)(h3:s.lock.phase=3)(hst:s.stripes.length=kOf u.slots s.lock.cells)(hk:s.shards.length=kOf u.slots s.lock.cells)(ho:s.out.shards.length=kOf u.slots s.lock.cells)(e:(zcs a s).2.2=0):
    AI u (zcs a s).1/\SI u N (zcs a s).2.1/\zdD s (zcs a s).2.1:=by
 unfold zcs at e ⊢
 split
 ·rename_i c;refine⟨ha,?_,⟨rfl,rfl⟩⟩;refine { hs with ph:= ?_ };simp only[z5];constructor<;>simp only<;>intro h<;>first|omega|exact⟨h3,hst,hk,ho,by omega,by omega⟩
 ·rename_i c;rw[zYP c] at e;obtain⟨f1,f2⟩:=zOb hs h3 hk ho e;exact⟨ha,f1,f2⟩
theorem zVX{u:Setup}{a:zm}{s:Section}{k N:Int}(ha:AI u a)(hs:SI u N s)(hp:s.phase=5)(e:(zfz a s k).2.2=0)(he:s.out.edits.length<=1):
    AI u (zfz a s k).1/\SI u (N+1) (zfz a s k).2.1/\zdD s (zfz a s k).2.1:=by
 obtain⟨q1,q2,q3,q4,q5,q6⟩:=hs.ph.p5 hp;have hs:=hs.mono (show N<=N+1 by omega);unfold zfz at e ⊢;simp only at e ⊢;generalize hr:(if zcA s (s.out.order.getD s.at_.toNat 0)=(a.slots.length:Int) then stDead a k s.out.dead else stSlot a (zcA s (s.out.order.getD s.at_.toNat 0)) k (s.out.shards.getD (s.out.order.getD s.at_.toNat 0).toNat zA))=r at *
 by_cases c:r.2=0
 ·have har:AI u r.1:=by
     split at hr
     ·subst hr;exact ha.stDead _ _ c
     ·subst hr;exact ha.stSlot _ _ _ c
  rw[zYP (fun q=>q c)] at e ⊢
  by_cases c1:s.at_+1<(s.out.order.length:Int)
  ·rw[zYQ c1];refine⟨har,?_,⟨rfl,rfl⟩⟩;refine { hs with oc:=⟨hs.oc.1,hs.oc.1⟩,ph:= ?_ };simp only;constructor<;>simp only<;>intro h<;>first|omega|exact⟨q1,q2,q3,q4,by omega,by omega⟩
  ·rw[zYP c1] at e ⊢;have hs2:SI u (N+1) { s with at_:=s.at_+1,carry:=[] }\/True:= .inr trivial
   by_cases c2:0<s.out.edits.length
   ·rw[zYQ c2];refine⟨har,?_,⟨rfl,rfl⟩⟩;refine { hs with oc:=⟨hs.oc.1,by simp [z5]⟩,ph:= ?_ };simp only[z5];constructor<;>simp only<;>intro h<;>first|omega|exact⟨q1,q2,q3,q4,by omega,by omega,by omega⟩
   ·rw[zYP c2] at e ⊢;unfold zcs at e ⊢;simp only at e ⊢
    split
    ·rename_i c3;refine⟨har,?_,⟨rfl,rfl⟩⟩;refine { hs with oc:=⟨hs.oc.1,by simp [z5]⟩,ph:= ?_ };simp only[z5];constructor<;>simp only<;>intro h<;>first|omega|exact⟨q1,q2,q3,q4,by omega,by omega⟩
    ·rename_i c3;obtain⟨w1,w2⟩:=zoH hs.lw q1;have hf:(zcf s.lock).2=0/\(zcf s.lock).1.phase=4:=by unfold zcf;rw[zYQ q1];exact⟨rfl,rfl⟩
     unfold zcL;simp only;rw[zYP (fun q=>q hf.1)];refine⟨har,?_,⟨w2,rfl⟩⟩;refine { hs with lw:=w1,cr:=by simp only[z5];rw[w2];exact hs.cr,ca:=by simp only[z5];rw[w2];exact hs.ca,oo:=by simp only[z5];rw[w2];exact hs.oo,oc:=⟨hs.oc.1,by simp [z5]⟩,ph:= ?_ };simp only[z5];rw[w2];constructor<;>simp only<;>intro h<;>first|omega|exact⟨hf.2,q3,q4⟩
 ·rw[zYQ c] at e;exact absurd e c
theorem zXO:∀(l:List Span) (n m:Int),zdj n l=some m->(l.length:Int)<=m - n:=by
 intro l
 induction l with
 | nil=>intro n m h;simp only[zdj,Option.some.injEq] at h;simp only[zYY];omega
 | cons x l ih=>
  intro n m h;unfold zdj at h
  split at h
  ·rename_i c;have:=ih _ _ h;simp only[zYW];omega
  ·cases h
theorem zfc{d:zao}(h:zbl d=0):d.l.length<=65536:=by
 unfold zbl at h
 split at h
 ·cases h
 ·split at h
  ·cases h
  ·rename_i c;have:=zXO _ _ _ (zY9.1 c);omega
theorem zVN{u:Setup}{a:zm}{s:Section}{N:Int}(ha:AI u a)(hs:SI u N s)(hp:s.phase=6)(e:(zfv a s).2.2=0):
    AI u (zfv a s).1/\SI u (N+1) (zfv a s).2.1/\zdD s (zfv a s).2.1:=by
 obtain⟨q1,q2,q3,q4,q5,q6,q7⟩:=hs.ph.p6 hp;have hs:=hs.mono (show N<=N+1 by omega);unfold zfv at e ⊢
 by_cases c:s.at_=0
 ·rw[zYQ c];refine⟨ha,?_,⟨rfl,rfl⟩⟩;refine { hs with di:=zfc ha.dv,ph:= ?_ };simp only;constructor<;>simp only<;>intro h<;>first|omega|exact⟨q1,q2,q3,q4,q5,by omega,by omega⟩
 ·rw[zYP c] at e ⊢;simp only at e ⊢
  by_cases c1:(zgP s.dir (s.out.edits.getD 0 zpF)).2≠0
  ·rw[zYQ c1] at e;exact absurd e c1
  ·rw[zYP c1] at e ⊢;generalize zgP s.dir (s.out.edits.getD 0 zpF)=d at *;have hcd:=ha.casDir s.dir.version d.1;have hdv:(casDir a s.dir.version d.1).2.2=0->zbl d.1=0:=by
    intro h;unfold Go.Proofs.YtjalkkalhdnplaaGreat.casDir at h
    split at h
    ·rename_i h1;exact absurd h h1
    ·rename_i h1;exact zY9.1 h1
   generalize casDir a s.dir.version d.1=r at *
   by_cases c2:r.2.2≠0
   ·rw[zYQ c2] at e;exact absurd e c2
   ·rw[zYP c2] at e ⊢;have c2:=zY9.1 c2;have har:=hcd c2;have hd:=zfc (hdv c2)
    by_cases c3:r.2.1=false
    ·rw[zYQ c3];refine⟨har,?_,⟨rfl,rfl⟩⟩;refine { hs with ph:= ?_ };simp only;constructor<;>simp only<;>intro h<;>first|omega|exact⟨q1,q2,q3,q4,q5,by omega,by omega⟩
    ·rw[zYP c3] at e ⊢;have hs2:SI u (N+1) { s with dir:=d.1 }:=by
      refine { hs with di:=hd,ph:= ?_ };have hph:=hs.ph;exact⟨hph.p0,hph.p1,hph.p2,hph.p3,hph.p4,hph.p5,hph.p6,hph.p7,hph.p8,hph.p9⟩
     obtain⟨f1,f2,f3⟩:=zYd (s:={ s with dir:=d.1 }) har hs2 q1 q2 q3 q4 e;exact⟨f1,f2,⟨f3.cells,f3.limit⟩⟩
theorem zVY{u:Setup}{a:zm}{s:Section}{k N:Int}(ha:AI u a)(hs:SI u N s)(hp:s.phase=7)(e:(zfA a s k).2.2=0):
    AI u (zfA a s k).1/\SI u (N+1) (zfA a s k).2.1/\zdD s (zfA a s k).2.1:=by
 obtain⟨q1,q2,q3,q4,q5,q6⟩:=hs.ph.p7 hp;have hs:=hs.mono (show N<=N+1 by omega);unfold zfA at e ⊢;simp only at e ⊢;generalize zix (s.stripes.getD s.at_.toNat zb1) (if zjd s s.at_=true then s.out.shards.getD s.at_.toNat zA else s.shards.getD s.at_.toNat zA) s.snap.epoch s.limit=x at *
 by_cases c1:x.2≠0
 ·rw[zYQ c1] at e;exact absurd e c1
 ·rw[zYP c1] at e ⊢;have hst:=ha.stStripe (zcA s s.at_) k x.1;generalize stStripe a (zcA s s.at_) k x.1=r at *
  by_cases c2:r.2≠0
  ·rw[zYQ c2] at e;exact absurd e c2
  ·rw[zYP c2] at e ⊢;have har:=hst (zY9.1 c2)
   by_cases c3:s.at_+1=(s.stripes.length:Int)
   ·rw[zYQ c3] at e ⊢;unfold zcL at e ⊢;simp only at e ⊢;obtain⟨w1,w2⟩:=zoH hs.lw q1;have hf:(zcf s.lock).2=0/\(zcf s.lock).1.phase=4:=by unfold zcf;rw[zYQ q1];exact⟨rfl,rfl⟩
    rw[zYP (fun q=>q hf.1)];refine⟨har,?_,⟨w2,rfl⟩⟩;refine { hs with lw:=w1,cr:=by simp only[z5];rw[w2];exact hs.cr,ca:=by simp only[z5];rw[w2];exact hs.ca,oo:=by simp only[z5];rw[w2];exact hs.oo,ph:= ?_ };simp only[z5];rw[w2];constructor<;>simp only<;>intro h<;>first|omega|exact⟨hf.2,q3,q4⟩
   ·rw[zYP c3];refine⟨har,?_,⟨rfl,rfl⟩⟩;refine { hs with ph:= ?_ };simp only;constructor<;>simp only<;>intro h<;>first|omega|exact⟨q1,q2,q3,q4,by omega,by omega⟩
theorem zQK{a:zm}{l:zbH}{k:Int}(hp:l.phase=4)(h:(za2 a l k).2.2=0):(za2 a l k).2.1.phase=4\/(za2 a l k).2.1.phase=5:=by
 unfold za2 at h ⊢;rw[zYP zo,zYQ (.inr hp)] at h ⊢;unfold zkb at h ⊢
 split at h
 ·rename_i c2;rw[zYQ c2];unfold zj8;simp only
  split
  ·simp only;omega
  ·exact .inr rfl
 ·rename_i c2;exact absurd h c2
theorem zVO{u:Setup}{a:zm}{s:Section}{k N:Int}(ha:AI u a)(hs:SI u N s)(hp:s.phase=8)(e:(zhe a s k).2.2=0):
    AI u (zhe a s k).1/\SI u (N+1) (zhe a s k).2.1/\zdD s (zhe a s k).2.1:=by
 obtain⟨q1,q2,q3⟩:=hs.ph.p8 hp;have he:(za2 a s.lock k).2.2=0:=by
  unfold zhe at e
  split at e
  ·rename_i c;exact c.1
  ·exact e
 have hal:=ha.lock s.lock k he;obtain⟨w1,w2,_⟩:=zsl hs.lw he;have w3:=zQK q1 he;unfold zhe;generalize za2 a s.lock k=r at *;obtain⟨a2,l2,e2⟩:=r;simp only at he w1 w2 w3 hal;subst he
 by_cases c:l2.phase=5
 ·rw[zYQ ⟨rfl,c⟩];refine⟨hal,?_,⟨w2,rfl⟩⟩;refine { hs with lw:=w1,cr:=by simp only[z5];rw[w2];exact hs.cr,ca:=by simp only[z5];rw[w2];exact hs.ca,oo:=by simp only[z5];rw[w2];exact hs.oo,ph:= ?_ };simp only[z5];rw[w2];constructor<;>simp only<;>intro h<;>first|omega|exact⟨q2,q3⟩
 ·rw[zYP (fun q=>c q.2)];refine⟨hal,?_,⟨w2,rfl⟩⟩;refine { hs with lw:=w1,cr:=by simp only;rw[w2];exact hs.cr,ca:=by simp only;rw[w2];exact hs.ca,oo:=by simp only;rw[w2];exact hs.oo,ph:= ?_ };simp only;rw[w2];constructor<;>simp only<;>intro h<;>first|omega|exact⟨by omega,q2,q3⟩
theorem zVV{u:Setup}{a:zm}{s:Section}{k n N:Int}(ha:AI u a)(hs:SI u N s)(hed:s.out.edits.length<=1)(e:(zcx a s k n).2.2=0):
    AI u (zcx a s k n).1/\SI u (N+1) (zcx a s k n).2.1/\zdD s (zcx a s k n).2.1:=by
 unfold zcx at e ⊢
 by_cases c:(zfy a s k n).2.2≠0
 ·rw[zYQ c] at e;exact absurd e c
 ·rw[zYP c] at e ⊢;clear c;unfold zfy at e ⊢
  by_cases c0:s.phase=0
  ·rw[zYQ c0] at e ⊢; exact zVQ ha hs c0 e
  rw[zYP c0] at e ⊢
  by_cases c1:s.phase=1
  ·rw[zYQ c1] at e ⊢; exact zVR ha hs c1 e
  rw[zYP c1] at e ⊢
  by_cases c2:s.phase=2
  ·rw[zYQ c2] at e ⊢; exact zVP ha hs c2 e
  rw[zYP c2] at e ⊢
  by_cases c3:s.phase=3
  ·rw[zYQ c3] at e ⊢; exact zVU ha hs c3 e
  rw[zYP c3] at e ⊢
  by_cases c5:s.phase=5
  ·rw[zYQ c5] at e ⊢; exact zVX ha hs c5 e hed
  rw[zYP c5] at e ⊢
  by_cases c6:s.phase=6
  ·rw[zYQ c6] at e ⊢; exact zVN ha hs c6 e
  rw[zYP c6] at e ⊢
  by_cases c7:s.phase=7
  ·rw[zYQ c7] at e ⊢; exact zVY ha hs c7 e
  rw[zYP c7] at e ⊢
  by_cases c8:s.phase=8
  ·rw[zYQ c8] at e ⊢; exact zVO ha hs c8 e
  rw[zYP c8] at e
  cases e
structure OI(s:Section)(o:zb5):Prop where
 sh:o.shards.length=s.shards.length
 fit:∀x∈o.shards,zcZ x
 dd:o.dead.l.length<=1000
 ord:∀i∈o.order,0<=i/\i<s.lock.cells.length
 nd:o.order.Nodup
 ol:o.order.length<=3
 ca:o.carry.length<=1000
 ed:o.edits.length<=1
theorem zHy{u:Setup}{N:Int}{s:Section}{o:zb5}(hs:SI u N s)(hp:s.phase=4)(ho:OI s o):
    (zeR s o).2=0/\SI u N (zeR s o).1/\zdD s (zeR s o).1/\(zeR s o).1.out=o:=by
 obtain⟨q1,q2,q3⟩:=hs.ph.p4 hp;have hsl:=ho.sh;have hel:=ho.ed;have hkc:=hs.lw.c1;unfold zeR;rw[zYP (fun q=>q hp),zYP (show ¬(o.shards.length≠s.shards.length\/1<o.edits.length) by omega)];rw[zYP (show ¬zkq s.lock.cells.length o.order=false by
  unfold zkq;rw[zZe (show (∀i∈o.order,0<=i/\i<(s.lock.cells.length:Int))/\o.order.Nodup from ⟨ho.ord,ho.nd⟩)];simp)]
 have hs2:∀ph at_,PhI (kOf u.slots s.lock.cells) s.lock.cells.length { s with out:=o,phase:=ph,at_:=at_ }->SI u N { s with out:=o,phase:=ph,at_:=at_ }:=by
  intro ph at_ h;exact { hs with os:=ho.fit,od:=ho.dd,oo:=⟨ho.ord,ho.ol⟩,oc:=⟨ho.ca,hs.oc.2⟩,ph:=h }
 by_cases c1:0<o.order.length
 ·rw[zYQ c1];refine⟨rfl,?_,⟨rfl,rfl⟩,rfl⟩;refine hs2 5 0 ?_;constructor<;>simp only<;>intro h<;>first|omega|exact⟨q1,q2,q3,by omega,by omega,by omega⟩
 rw[zYP c1]
 by_cases c2:0<o.edits.length
 ·rw[zYQ c2];refine⟨rfl,?_,⟨rfl,rfl⟩,rfl⟩;refine hs2 6 0 ?_;constructor<;>simp only<;>intro h<;>first|omega|exact⟨q1,q2,q3,by omega,by omega,by omega,by omega⟩
 rw[zYP c2];unfold zcs
 by_cases c3:0<s.stripes.length
 ·rw[zYQ c3];refine⟨rfl,?_,⟨rfl,rfl⟩,rfl⟩;refine hs2 7 0 ?_;constructor<;>simp only<;>intro h<;>first|omega|exact⟨q1,q2,q3,by omega,by omega,by omega⟩
 ·rw[zYP c3];obtain⟨w1,w2⟩:=zoH hs.lw q1;have hf:(zcf s.lock).2=0/\(zcf s.lock).1.phase=4:=by unfold zcf;rw[zYQ q1];exact⟨rfl,rfl⟩
  unfold zcL;simp only;rw[zYP (fun q=>q hf.1)];refine⟨rfl,?_,⟨w2,rfl⟩,rfl⟩;refine { hs with lw:=w1,cr:=by simp only[z5];rw[w2];exact hs.cr,ca:=by simp only[z5];rw[w2];exact hs.ca,os:=ho.fit,od:=ho.dd,oo:=by simp only[z5];rw[w2];exact⟨ho.ord,ho.ol⟩,oc:=⟨ho.ca,hs.oc.2⟩,ph:= ?_ };simp only[z5];rw[w2];constructor<;>simp only<;>intro h<;>first|omega|exact⟨hf.2,q3,by omega⟩
theorem zVS{u:Setup}{N:Int}{cells:List Int}{lim:Int}(hc:zgb cells u.slots)(hn:u.slots<=6)(h1:1<=cells.length)(hl:1<=lim/\lim<=8)(hN:0<=N):
    (zdv cells lim).2=0/\SI u N (zdv cells lim).1/\(zdv cells lim).1.lock.cells=cells/\(zdv cells lim).1.limit=lim/\(zdv cells lim).1.phase=0/\(zdv cells lim).1.out.edits=[]:=by
 unfold zdv;rw[zQI hc hn h1,zYP (fun q=>q rfl),zYP zo];have h3:=hc.l;refine⟨rfl,?_,rfl,rfl,rfl,rfl⟩;constructor
 ·constructor<;>simp only<;>omega
 ·exact hc.b
 ·exact hc.p
 ·intro x h;cases h
 ·simp [zbG,zaL]
 ·exact hl
 ·simp [zbG,zhm]
 ·simp [zbG,zdk]
 ·intro x h;cases h
 ·simp [zbG,zic,zaL]
 ·exact⟨fun x h=>(by cases h),by simp [zbG,zic]⟩
 ·exact⟨by simp [zbG,zic],by simp [zbG]⟩
 ·constructor<;>intro h
  ·exact⟨by simp only;omega,rfl,rfl,rfl⟩
  all_goals exact absurd h (by simp [zbG])
theorem zAJ(s:Section):(zcL s).1.out=s.out:=by
 unfold zcL z5
 split<;>rfl
theorem zEq(a:zm)(s:Section):(zcs a s).2.1.out=s.out:=by
 unfold zcs z5
 split
 ·rfl
 ·exact zAJ s
theorem zVW{a:zm}{s:Section}{k n:Int}(e:(zcx a s k n).2.2=0):(zcx a s k n).2.1.out=s.out:=by
 unfold zcx at e ⊢
 by_cases c:(zfy a s k n).2.2≠0
 ·rw[zYQ c] at e;exact absurd e c
 rw[zYP c];clear c e;unfold zfy
 split
 ·unfold zhf z5
  split
  ·simp only;split<;>rfl
  ·rfl
 split
 ·unfold zfx z5
  split
  ·rfl
  split
  ·rfl
  simp only
  split<;>rfl
 split
 ·unfold zfw z5;simp only
  split
  ·split<;>rfl
  ·split<;>rfl
 split
 ·unfold zh4 z5;simp only
  split<;>rfl
 split
 ·unfold zfz z5;simp only;generalize (if zcA s (s.out.order.getD s.at_.toNat 0)=(a.slots.length:Int) then stDead a k s.out.dead else stSlot a (zcA s (s.out.order.getD s.at_.toNat 0)) k (s.out.shards.getD (s.out.order.getD s.at_.toNat 0).toNat zA))=r
  split
  ·rfl
  split
  ·rfl
  split
  ·rfl
  exact zEq _ _
 split
 ·unfold zfv
  split
  ·rfl
  simp only
  split
  ·rfl
  split
  ·rfl
  split
  ·rfl
  exact zEq _ _
 split
 ·unfold zfA;simp only;generalize zix (s.stripes.getD s.at_.toNat zb1) (if zjd s s.at_=true then s.out.shards.getD s.at_.toNat zA else s.shards.getD s.at_.toNat zA) s.snap.epoch s.limit=x
  split
  ·rfl
  split
  ·rfl
  split
  ·exact zAJ _
  ·rfl
 split
 ·unfold zhe z5
  split<;>rfl
 ·rfl
theorem zlx{u:Setup}{a:zm}{t:zq}{n N:Int}(ha:AI u a)(hs:SI u N t.sec)(hed:t.sec.out.edits.length<=1)(e:(goT a t n).2.2.2.2=0):
    AI u (goT a t n).1/\∃s,(goT a t n).2.1={ t with sec:=s }/\SI u (N+1) s/\zdD t.sec s/\s.out=t.sec.out/\((goT a t n).2.2.1=true↔s.phase=4)/\((goT a t n).2.2.2.1=true↔s.phase=9):=by
 unfold goT at e ⊢
 by_cases c:(zcx a t.sec t.number n).2.2≠0
 ·rw[zYQ c] at e;exact absurd e c
 rw[zYP c];have c:=zY9.1 c;obtain⟨h1,h2,h3⟩:=zVV ha hs hed c;exact⟨h1,_,rfl,h2,h3,zVW c,decide_eq_true_iff,decide_eq_true_iff⟩
theorem zXN:∀(l:List Span) (n m r:Int),zdj n l=some m->n<=r->r<m->∃x∈l,inS r x=true:=by
 intro l
 induction l with
 | nil=>intro n m r h h1 h2;simp only[zdj,Option.some.injEq] at h;omega
 | cons x l ih=>
  intro n m r h h1 h2;unfold zdj at h
  split at h
  ·rename_i c
   by_cases hr:r<=x.high
   ·exact⟨x,.head _,by unfold inS;rw[zZe (show x.low<=r by omega),zZe hr];rfl⟩
   ·obtain⟨y,hy,hy2⟩:=ih _ _ r h zo h2;exact⟨y,.tail _ hy,hy2⟩
  ·cases h
theorem zHE{d:zao}(h:zbl d=0):∀x∈d.l,0<=x.shard/\x.shard<d.forward.length:=by
 unfold zbl at h
 split at h
 ·cases h
 split at h
 ·cases h
 split at h
 ·cases h
 rename_i c;intro x hx;have:=zZ6.1 (z1d.2 c) x hx;unfold zhO at this;rw[zZM,decide_eq_true_eq,decide_eq_true_eq] at this;omega
theorem zC4{d:zao}(h:zbl d=0){r:Int}(h0:0<=r)(h1:r<65536):0<=zew d r/\zew d r<d.forward.length:=by
 unfold zew;rw[zYQ h];obtain⟨x,hx,hx2⟩:=zXN d.l 0 65536 r (zqH h) h0 h1
 cases hf:d.l.findIdx? (inS r) with
 | none=>
  rw[z0Z] at hf;have:=hf x hx;rw[hx2] at this
  cases this
 | some i=>
  have hi:=(zZV.1 hf).1;simp only;rw[zg hi];exact zHE h _ (zY4 hi)
theorem zO8{d:zao}(hf:∀a∈d.forward, -1<=a/\a<d.forward.length):∀(m:Nat) (a:Int), -1<=a->a<d.forward.length-> -1<=zgr d m a/\zgr d m a<d.forward.length:=by
 intro m
 induction m with
 | zero=>intro a h0 h1;exact⟨h0,h1⟩
 | succ m ih=>
  intro a h0 h1;unfold zgr
  split
  ·rename_i c;have hi:a.toNat<d.forward.length:=by omega
   rw[zg hi];have:=hf _ (zY4 hi);exact ih _ this.1 this.2
  ·exact⟨h0,h1⟩
theorem zBB{d:zao}(h:zbl d=0)(a:Int):0<=zc6 d a/\zc6 d a<d.forward.length:=by
 have hl:=ziu h;have hw:=(zAQ h ⟨hl.2.1,by have:=zfc h;omega⟩).1;have ho:=zC4 h (r:=0) zo zo;unfold zc6
 split
 ·rename_i c;refine⟨c,?_⟩;unfold zjS at c ⊢
  split at c
  ·omega
  ·rename_i c2;rw[zYP c2];exact (zO8 hw _ a zo zo).2
 ·exact ho
theorem zzM:zcZ zA:=⟨by simp [zA],by simp [zA],by simp [zA]⟩
theorem zq2{s:Shard}(h:zaJ s):zcZ s:=⟨by have:=h.1;omega,by have:=h.2.1;omega,by have:=h.2.2;omega⟩
theorem zbJ{s:Shard}(h:zU s=0):zaJ s:=by
 have h1:zau s.ready=0:=by
  have q:=h;unfold zU at q
  split at q
  ·rename_i c;exact absurd q c
  ·rename_i c;exact zY9.1 c
 have h2:zac s.leases=0:=by
  have q:=h;unfold zU at q;rw[zYP (fun c=>c h1)] at q
  split at q
  ·rename_i c;exact absurd q c
  ·rename_i c;exact zY9.1 c
 exact⟨(zch h1).2.1,zh7 h2⟩
theorem zfK{s:Shard}(q:zaJ s):za0 s:=⟨by have:=q.1;omega,by have:=q.2.1;omega,by have:=q.2.2;omega⟩
theorem zbY:zaJ zA:=⟨by simp [zA],by simp [zA],by simp [zA]⟩
theorem zpc(r:z8)(id:Int):(rmD r id).1.cells.length<=r.cells.length:=by
 unfold rmD
 split
 ·simp only;rw[zhZ];exact zZk _
 ·simp [zaz]
theorem zsT(r:z8)(m:Message):(pbD r m).1.cells.length<=r.cells.length:=by
 unfold pbD
 split
 ·simp only;rw[zhZ];exact zZk _
 ·simp [zaz]
theorem zUF(ep:Int):∀(l:List Message) (r:z8),(rmP ep l r).cells.length<=r.cells.length:=by
 intro l
 induction l with
 | nil=>intro r;exact zZk _
 | cons m l ih=>
  intro r;unfold rmP
  split
  ·exact zZG (ih _) (zpc _ _)
  ·exact ih _
theorem zDu(t:Table)(id:Int):(zaf t id).1.l.length<=12/\(zaf t id).1.heap.length<=12:=by
 by_cases h:(zaf t id).2.2=0
 ·exact zh7 (zta h).1
 ·have:zaf t id=(zV,zX,ze4 t id):=by
     unfold zaf at h ⊢
     split at h
     ·exact absurd rfl h
     ·rename_i hc;rw[zYP hc]
  rw[this];exact⟨by simp [zV],by simp [zV]⟩
theorem zUj(ep:Int):∀(l:List zy) (t:Table),t.l.length<=12/\t.heap.length<=12->(zft ep l t).l.length<=12/\(zft ep l t).heap.length<=12:=by
 intro l
 induction l with
 | nil=>intro t h;exact h
 | cons y l ih=>
  intro t h;unfold zft
  split
  ·exact ih _ (zDu _ _)
  ·exact ih _ h
theorem zP0{s:Shard}(h:zaJ s)(ep:Int):zaJ (zhx s ep).1:=by
 unfold zhx
 split
 ·exact zbY
 split
 ·exact zbY
 obtain⟨h1,h2,h3⟩:=h;have:=zUj ep s.leases.l s.leases ⟨h2,h3⟩;exact⟨zZG (zUF _ _ _) h1,this.1,this.2⟩
theorem zP1{s:Shard}(h:zaJ s)(k:Int):zaJ (zfP s k).1:=by
 unfold zfP
 split
 ·exact zbY
 split
 ·exact zbY
 obtain⟨h1,h2,h3⟩:=h;refine⟨?_,h2,h3⟩;show (zeS s.ready k).1.cells.length<=12;unfold zeS
 split
 ·simp [zaz]
 split
 ·simp [zaz]
 simp only;rw[zhZ];exact h1
theorem zn2{s:Shard}(h:zaJ s)(m:Message):zaJ (zcH s m).1:=by
 obtain⟨h1,h2,h3⟩:=h;unfold zcH
 repeat' split
 all_goals first|exact zbY|exact⟨zZG (zsT _ _) h1,h2,h3⟩
theorem zPY(lo hi:Int):∀(l:List Message) (s:Shard),zaJ s->zaJ (zeN lo hi l s).1:=by
 intro l
 induction l with
 | nil=>intro s h;exact h
 | cons m l ih=>
  intro s h;unfold zeN
  split
  ·exact zbY
  ·exact ih _ (zn2 h _)
theorem zrC{s:Shard}(h:zaJ s)(l:List Message):zaJ (zge s l).1:=by
 unfold zge
 split
 ·exact zbY
 split
 ·exact zbY
 exact zPY _ _ _ _ h
theorem zut(k ep lim:Int):∀(l:List Message) (r:z8) (out:List Message),(zee k ep lim l r out).1.cells.length<=r.cells.length/\(zee k ep lim l r out).2.length<=out.length+l.length:=by
 intro l
 induction l with
 | nil=>intro r out;exact⟨zZk _,zZk _⟩
 | cons m l ih=>
  intro r out;unfold zee
  split
  ·exact⟨zZk _,by simp only;omega⟩
  split
  ·have:=ih (rmD r m.id).1 (out++[m]);have q:=zpc r m.id;simp only[zYZ,zYW,zYY] at this ⊢;omega
  ·have:=ih r out;simp only[zYW];omega
theorem zPZ{s:Shard}(h:zaJ s)(k ep lim:Int):zaJ (zfL s k ep lim).1:=by
 unfold zfL
 split
 ·exact zbY
 split
 ·exact zbY
 obtain⟨h1,h2,h3⟩:=h;exact⟨zZG (zut _ _ _ _ _ _).1 h1,h2,h3⟩
theorem zJL(lo hi:Int):∀(l:List Message) (r:z8),(zbz lo hi l r).cells.length<=r.cells.length:=by
 intro l
 induction l with
 | nil=>intro r;exact zZk _
 | cons m l ih=>
  intro r;unfold zbz
  split
  ·exact zZG (ih _) (zsT _ _)
  ·exact ih _
theorem zzF(lo hi:Int):∀(l:List zy) (t:Table),t.l.length<=12/\t.heap.length<=12->(zen lo hi l t).l.length<=12/\(zen lo hi l t).heap.length<=12:=by
 intro l
 induction l with
 | nil=>intro t h;exact h
 | cons y l ih=>
  intro t h;unfold zen
  split
  ·exact ih _ (zO4 _ _ _)
  ·exact ih _ h
theorem zrD{s:Shard}(h:zaJ s)(l:List Message)(y:List zy):zaJ (zgm s l y):=by
 obtain⟨h1,h2,h3⟩:=h;have:=zzF s.low s.high y s.leases ⟨h2,h3⟩;exact⟨zZG (zJL _ _ _ _) h1,this.1,this.2⟩
theorem zn1(n lo hi:Int):zaJ (zbK n lo hi).1:=by
 unfold zbK
 split
 ·exact zbY
 split
 ·exact zbY
 refine⟨?_,by simp [zV],by simp [zV]⟩;simp only[zZU];omega
theorem zP2(n:Int):zaJ (zfX n).1:=by
 unfold zfX
 split
 ·exact zbY
 refine⟨?_,by simp [zV],by simp [zV]⟩;simp only[zZU];omega
theorem zn0(s:Shard)(mid:Int):zaJ (zdJ s mid).1/\zaJ (zdJ s mid).2.1:=by
 unfold zdJ
 split
 ·exact⟨zbY,zbY⟩
 split
 ·exact⟨zbY,zbY⟩
 exact⟨zrD (zn1 _ _ _) _ _,zrD (zn1 _ _ _) _ _⟩
theorem zP3{a:Shard}(h:zaJ a)(b:Shard):zaJ (zia a b).1:=by
 unfold zia
 split
 ·exact zbY
 split
 ·exact zbY
 split
 ·exact zbY
 split
 ·exact zbY
 split
 ·exact zbY
 exact zrD (s:={ a with low:=if a.low<b.low then a.low else b.low,high:=if a.high<b.high then b.high else a.high }) h _ _
theorem zBR(s:Shard)(now ep lim:Int):zaJ (zcD s now ep lim).1:=by
 by_cases c:(zcD s now ep lim).2.2=0
 ·exact zbJ (zGU c).1
 ·have e:(zcD s now ep lim).1=zA:=by
     unfold zcD at c ⊢
     split
     ·rfl
     ·rename_i c1;rw[zYP c1] at c
      split
      ·rename_i c2;rw[zYQ c2] at c;exact absurd rfl c
      ·rfl
  rw[e];exact zbY
theorem zls{x:Shard}(h:zaJ x):zcZ x:=zq2 h
theorem zBO{n c:Int}(h:c<n):kOf n [c]=1:=by simp [kOf,h]
theorem znY{n a b:Int}(h1:a<n)(h2:b<n):kOf n [a,b]=2:=by simp [kOf,h1,h2]
theorem znZ{n c:Int}(h:c<n):kOf n [c,n]=1:=by simp [kOf,h]
theorem SI.un{u:Setup}{N:Int}{s:Section}(hs:SI u N s):OI s (z7 s):=by
 have hd:=hs.dv;constructor
 ·rfl
 ·intro x hx;exact zls (zbJ (hs.sv x hx).1)
 ·simp only[z7];omega
 ·intro i hi;cases hi
 ·exact z1v
 ·simp [z7]
 ·simp [z7]
 ·simp [z7]
theorem SI.one{u:Setup}{N:Int}{s:Section}(hs:SI u N s)(hk:s.shards.length=1){x:Shard}(hx:zaJ x):OI s { z7 s with shards:=[x],order:=[0] }:=by
 have hd:=hs.dv;have hc:=hs.lw.c1;constructor
 ·simp only[zYW,zYY];omega
 ·intro y hy;rw[zZt.1 hy];exact zls hx
 ·simp only[z7];omega
 ·intro i hi;rw[zZt.1 hi];omega
 ·simp
 ·simp
 ·simp [z7]
 ·simp [z7]
theorem SI.two {u:Setup} {N:Int} {s:Section} (hs:SI u N s) (hk:s.shards.length=2) (hn:s.lock.cells.length=2) {x y:Shard} (hx:zaJ x) (hy:zaJ y) {ord:List Int} (ho:ord=[0,1]\/ord=[1,0]) {l:List Shard} (hl:l=[x,y]\/l=[y,x])
    {ca:List Message} (hc:ca.length<=1000) {ed:List zec} (he:ed.length<=1):OI s ⟨l,s.dead,ord,ca,ed⟩:=by
 have hd:=hs.dv;constructor
 ·rcases hl with h|h<;>rw[h,hk]<;>rfl
 ·intro z hz
  rcases hl with h|h<;>rw[h] at hz<;>simp only[zZx,z0J,z0q] at hz<;>rcases hz with h|h<;>rw[h]<;>first|exact zls hx|exact zls hy
 ·simp only;omega
 ·intro i hi;rw[hn]
  rcases ho with h|h<;>rw[h] at hi<;>simp only[zZx,z0J,z0q] at hi<;>omega
 ·rcases ho with h|h<;>rw[h]<;>simp
 ·rcases ho with h|h<;>rw[h]<;>simp
 ·exact hc
 ·exact he
theorem SI.dead {u:Setup} {N:Int} {s:Section} (hs:SI u N s) (hk:s.shards.length=1) (hn:s.lock.cells.length=2) {x:Shard} (hx:zaJ x) {d:Dead} (hd:d.l.length<=1000) {ord:List Int} (ho:ord=[0,1]\/ord=[1,0])
    {ca:List Message} (hc:ca.length<=1000):OI s ⟨[x],d,ord,ca,[]⟩:=by
 constructor
 ·rw[hk];rfl
 ·intro z hz;rw[zZt.1 hz];exact zls hx
 ·exact hd
 ·intro i hi;rw[hn]
  rcases ho with h|h<;>rw[h] at hi<;>simp only[zZx,z0J,z0q] at hi<;>omega
 ·rcases ho with h|h<;>rw[h]<;>simp
 ·rcases ho with h|h<;>rw[h]<;>simp
 ·exact hc
 ·simp
theorem zkI{u:Setup}{N:Int}{t:zq}(hs:SI u N t.sec):zaJ (sh0 t):=by
 unfold sh0
 cases h:t.sec.shards with
 | nil=>exact zbY
 | cons x l=>exact zbJ (hs.sv x (by rw[h];exact .head _)).1
theorem zpg{u:Setup}{N:Int}{t:zq}(hs:SI u N t.sec)(i:Nat):zaJ (t.sec.shards.getD i zA):=by
 by_cases h:i<t.sec.shards.length
 ·rw[zg h];exact zbJ (hs.sv _ (zY4 h)).1
 ·rw[zZw,z0F zo];exact zbY
theorem zBT(s:Shard)(mx now vis ep lim:Int):zaJ (zcJ s mx now vis ep lim).1:=by
 by_cases c:(zcJ s mx now vis ep lim).2.2=0
 ·exact zbJ (zGW c).1
 ·have e:(zcJ s mx now vis ep lim).1=zA:=by
     unfold zcJ at c ⊢
     split
     ·rfl
     ·rename_i c1;rw[zYP c1] at c
      split
      ·rfl
      ·rename_i c2;rw[zYP c2] at c;exact (zXP mx (now+vis) ep lim (zu s.ready) s [] c).1
  rw[e];exact zbY
theorem zBS{t:zq}(h:(zdz t).2=0):zaJ (zdz t).1:=by
 unfold zdz at h ⊢
 split
 ·rename_i c;rw[zYQ c] at h;exact zbJ (zGS h).1
 ·rename_i c;rw[zYP c] at h
  split
  ·rename_i c2;rw[zYQ c2] at h;exact zbJ (zGV h).1
  ·rename_i c2;rw[zYP c2] at h;exact zbJ (zGT h).1
def zid(u:Setup)(N:Int)(s s':Section):Prop:=SI u N s'/\zdD s s'/\s'.out.edits.length<=1
theorem zc3{u:Setup}{N:Int}{t:zq}{o:zb5}(hs:SI u N t.sec)(hp:t.sec.phase=4)(ho:OI t.sec o):zid u N t.sec (za5 t o).sec:=by
 obtain⟨_,h2,h3,h4⟩:=zHy hs hp ho;exact⟨h2,h3,by show (zeR t.sec o).1.out.edits.length<=1;rw[h4];exact ho.ed⟩
theorem zV6(K:Tok){u:Setup}{N:Int}{t:zq}(hs:SI u N t.sec)(hp:t.sec.phase=4)(hk:t.sec.shards.length=1):zid u N t.sec (zdx K t).1.sec:=by
 have h0:=zkI hs;unfold zdx;simp only
 split
 ·exact zc3 (t:={ t with loaded:=0 }) hs hp hs.un
 split
 ·split
  ·exact zc3 (t:={ t with loaded:=0,walk:=(zfF t.walk (sh0 t).low (sh0 t).high).1 }) hs hp hs.un
  ·exact zc3 (t:={ t with loaded:=2,walk:=(zfF t.walk (sh0 t).low (sh0 t).high).1 }) hs hp hs.un
 ·exact zc3 (t:={ t with loaded:=1 }) hs hp (hs.one hk (zn2 h0 _))
theorem zTT{u:Setup}{N:Int}{t:zq}(hs:SI u N t.sec)(hp:t.sec.phase=4)(hk:t.sec.shards.length=1):zid u N t.sec (zdt t).1.sec:=by
 unfold zdt;simp only
 split
 ·exact zc3 (t:={ t with loaded:=0 }) hs hp hs.un
 split
 ·exact zc3 (t:={ t with loaded:=3 }) hs hp hs.un
 have hx:∀r:Shard×List Int×List zy,zaJ r.1->OI t.sec (if 0<r.2.1.length\/0<r.2.2.length then { z7 t.sec with shards:=[r.1],order:=[0] } else z7 t.sec):=by
  intro r hr
  split
  ·exact hs.one hk hr
  ·exact hs.un
 have ho:=hx (zdi { t with loaded:=0 }) (zBT _ _ _ _ _ _)
 split
 ·exact zc3 (t:={ t with loaded:=1,walk:=_ }) hs hp ho
 split
 ·exact zc3 (t:={ t with loaded:=2,walk:=_ }) hs hp ho
 ·exact zc3 (t:={ t with loaded:=0,walk:=_ }) hs hp ho
theorem zWj{u:Setup}{N:Int}{t:zq}(hs:SI u N t.sec)(hp:t.sec.phase=4)(hk:t.sec.shards.length=1):zid u N t.sec (zdy t).1.sec:=by
 unfold zdy;simp only
 split
 ·exact zc3 hs hp hs.un
 ·by_cases c:(zdz t).2=0
  ·simp only[c,if_true];exact zc3 hs hp (hs.one hk (zBS c))
  ·simp only[c,if_false];exact zc3 hs hp hs.un
theorem zgv{s:Shard}(h:zab s=0):zU s=0:=by
 unfold zab at h
 split at h
 ·rename_i c;exact absurd h c
 ·rename_i c;exact zY9.1 c
theorem zg9{s:Shard}(h:zU s=0):(zu s.ready).length<=12:=by
 have h1:zau s.ready=0:=by
  unfold zU at h
  split at h
  ·rename_i c;exact absurd h c
  ·rename_i c;exact zY9.1 c
 obtain⟨q1,q2,q3,q4,q5,q6⟩:=zch h1;rw[zgw];omega
theorem zsB{s:Shard}(h:zU s=0):(zav s).length<=24:=by
 have h1:=zg9 h;have h2:=(zbJ h).2.1;unfold zav;simp only[zYZ,zY3];omega
theorem zyN(s:Shard)(k:Int):(zfP s k).2.1.length<=12:=by
 unfold zfP
 split
 ·simp
 split
 ·simp
 rename_i c _;have:=zg9 (zgv (zY9.1 c));show (zeS s.ready k).2.1.length<=12;unfold zeS
 split
 ·simp
 split
 ·simp
 simp only[z09];omega
theorem zSJ(r:z8)(m:Message):(pbD r m).1.size.toNat<=r.size.toNat+1:=by
 unfold pbD
 split
 ·simp only[rg,zYZ,zgw,zYW,zYY];omega
 ·simp [zaz]
theorem zJM(lo hi:Int):∀(l:List Message) (r:z8),(zbz lo hi l r).size.toNat<=r.size.toNat+l.length:=by
 intro l
 induction l with
 | nil=>intro r;exact zZk _
 | cons m l ih=>
  intro r;unfold zbz;simp only[zYW]
  split
  ·have:=ih (pbD r m).1;have:=zSJ r m;omega
  ·have:=ih r;omega
theorem zHN(s:Shard)(mid:Int):(zav (zdJ s mid).2.1).length<=24:=by
 have hl:=(zn0 s mid).2.2.1;have:(zu (zdJ s mid).2.1.ready).length<=12:=by
  rw[zgw];unfold zdJ
  split
  ·simp [zA]
  split
  ·simp [zA]
  rename_i c _;have h1:=zg9 (zgv (zY9.1 c));have h2:=zJM (zbK s.ready.cells.length (mid+1) s.high).1.low (zbK s.ready.cells.length (mid+1) s.high).1.high (zu s.ready) (zbK s.ready.cells.length (mid+1) s.high).1.ready;have h3:(zbK s.ready.cells.length (mid+1) s.high).1.ready.size=0:=by
   unfold zbK
   split
   ·rfl
   split
   ·rfl
   rfl
  rw[h3] at h2;simp only[zgm];simp only[Int.toNat_zero] at h2;omega
 unfold zav;simp only[zYZ,zY3];omega
theorem zDZ(k ep:Int):∀(l rest out:List Message),(zd6 k ep l rest out).1.length+(zd6 k ep l rest out).2.length=l.length+rest.length+out.length:=by
 intro l
 induction l with
 | nil=>intro rest out;simp [zd6]
 | cons m l ih=>
  intro rest out;unfold zd6
  split
  ·rw[ih];simp only[zYZ,zYW,zYY];omega
  ·rw[ih];simp only[zYZ,zYW,zYY];omega
theorem zEb(d:Dead)(k ep:Int):(zhj d k ep).1.l.length<=d.l.length/\(zhj d k ep).2.1.length<=d.l.length:=by
 have:=zDZ k ep d.l [] [];simp only[zYY] at this;unfold zhj
 split
 ·simp [zaL]
 split
 ·simp [zaL]
 simp only;omega
theorem zGD(d:Dead)(ep:Int):(zhw d ep).1.l.length<=d.l.length:=by
 unfold zhw
 split
 ·simp [zaL]
 split
 ·simp [zaL]
 exact z0h _ _
theorem zTm(d:Dead)(l:List Message):(zi3 d l).1.l.length<=d.l.length+l.length:=by
 unfold zi3
 split
 ·simp [zaL]
 split
 ·simp [zaL]
 split
 ·simp [zaL]
 simp only[zYZ];omega
theorem zuu(s:Shard)(k ep lim:Int):(zfL s k ep lim).2.1.length<=12:=by
 unfold zfL
 split
 ·simp
 split
 ·simp
 rename_i c _;have h1:=zg9 (zgv (zY9.1 c));have h2:=(zut k ep lim (zu s.ready) s.ready []).2;simp only[zYY] at h2 ⊢;omega
theorem zT1{u:Setup}{N:Int}{t:zq}(hs:SI u N t.sec)(hp:t.sec.phase=4)(hk:t.sec.shards.length=1)(hn:t.sec.lock.cells.length=2):zid u N t.sec (zdu t).1.sec:=by
 have hd:=hs.dv;have h0:=zkI hs;unfold zdu;simp only
 split
 ·exact zc3 hs hp hs.un
 split
 ·exact zc3 hs hp hs.un
 split
 ·exact zc3 hs hp hs.un
 ·have:=zEb t.sec.dead (zf8 t) t.sec.snap.epoch;exact zc3 hs hp (hs.dead hk hn (zrC h0 _) zo (.inr rfl) (by rw[zY3];omega))
theorem zsW(t:zq)(x y:Shard):zdY t x y=[x,y]\/zdY t x y=[y,x]:=by
 unfold zdY
 split
 ·exact .inl rfl
 ·exact .inr rfl
theorem zsO(t:zq):zcS t=[0,1]\/zcS t=[1,0]:=by
 unfold zcS
 split
 ·exact .inl rfl
 ·exact .inr rfl
theorem zAM{u:Setup}{N:Int}{t:zq}(hs:SI u N t.sec):zaJ (zY t):=by
 unfold zY
 split
 ·exact zpg hs 0
 ·exact zpg hs 1
theorem ztL{u:Setup}{N:Int}{t:zq}(hs:SI u N t.sec):zaJ (zaK t):=by
 unfold zaK
 split
 ·exact zpg hs 1
 ·exact zpg hs 0
theorem zD3{u:Setup}{N:Int}{t:zq}(hs:SI u N t.sec)(hk:t.sec.shards.length=2)(hn:t.sec.lock.cells.length=2):OI t.sec (zeG t).1:=by
 unfold zeG;simp only
 split
 ·exact hs.un
 split
 ·exact hs.un
 ·exact hs.two hk hn (zP1 (zAM hs) _) (zrC (ztL hs) _) (zsO t) (zsW _ _ _) (by have:=zyN (zY t) (zhN (((zY t).ready.size+1).tdiv 2) ((zaK t).ready.cells.length - zbc (zaK t)));omega) (by simp [z7])
theorem zD0{u:Setup}{N:Int}{t:zq}(hs:SI u N t.sec)(hk:t.sec.shards.length=2)(hn:t.sec.lock.cells.length=2):OI t.sec (zeE t).1:=by
 unfold zeE;simp only
 split
 ·exact hs.un
 ·have h:=zn0 (zY t) (((zY t).low+(zY t).high).tdiv 2);have h2:=zHN (zY t) (((zY t).low+(zY t).high).tdiv 2);exact hs.two hk hn h.1 h.2 (zsO t) (zsW _ _ _) zo (by simp)
theorem zCs{u:Setup}{N:Int}{t:zq}(hs:SI u N t.sec)(hk:t.sec.shards.length=2)(hn:t.sec.lock.cells.length=2):OI t.sec (zeu t).1:=by
 unfold zeu;simp only
 split
 ·exact hs.un
 ·rename_i c;have hv:zU (zY t)=0:=by
   have c:=zY9.1 c;unfold zia at c
   split at c
   ·rename_i c1;exact absurd c c1
   split at c
   ·rename_i c2;exact absurd c c2
   ·rename_i c2;exact zY9.1 c2
  have:=zsB hv;exact hs.two hk hn (zP2 _) (zP3 (ztL hs) _) (zsO t) (zsW _ _ _) zo (by simp)
theorem zD8{u:Setup}{N:Int}{t:zq}(hs:SI u N t.sec)(hk:t.sec.shards.length<=1):OI t.sec (zd8 t).1:=by
 have hd:=hs.dv;have hc:=hs.lw.c1;unfold zd8;simp only
 split
 ·rename_i c
  split
  ·have:=zGD t.sec.dead t.sec.snap.epoch;have hu:=hs.un;refine { hu with dd:=by simp only;omega,ord:= ?_,nd:=by simp,ol:=by simp };intro i hi;rw[zZt.1 hi];omega
  ·exact hs.un
 rename_i c;have hk1:t.sec.shards.length=1:=by omega
 split
 ·exact hs.un
 split
 ·split
  ·exact hs.one hk1 (zP0 (zkI hs) _)
  ·exact hs.un
 ·split
  ·exact hs.un
  ·exact hs.one hk1 (zBR _ _ _ _)
theorem zuv{u:Setup}{N:Int}{t:zq}(hs:SI u N t.sec)(hk:t.sec.shards.length=1)(hn:t.sec.lock.cells.length=2):OI t.sec (zdF t).1:=by
 have hd:=hs.dv;unfold zdF;simp only
 split
 ·exact hs.un
 split
 ·exact hs.un
 ·have h1:=zuu (sh0 t) (zgB t.sec.dead) t.sec.snap.epoch t.setup.limit;have h2:=zTm t.sec.dead (zfL (sh0 t) (zgB t.sec.dead) t.sec.snap.epoch t.setup.limit).2.1;exact hs.dead hk hn (zPZ (zkI hs) _ _ _) zo (.inl rfl) zo
def onP(k pc:Int):Prop:=pc≠0/\(k=1/\pc≠1/\pc≠2\/k=2/\pc≠2\/3<=k/\k<=5/\pc≠1\/8<=k)
structure zbe(u:Setup)(N:Int)(i:zaY)(s:Section):Prop where
 si:SI u N s
 ed:s.out.edits.length<=1
 c1:1<=i.kind/\i.kind<=5->∃c,0<=c/\c<u.slots/\s.lock.cells=[c]
 c8:i.kind=8->∃c,0<=c/\c<u.slots/\s.lock.cells=[c,u.slots]
 c9:9<=i.kind/\i.kind<=11->s.lock.cells=zey i.from_ i.to
 c12:12<=i.kind/\i.kind<=13->s.lock.cells=[i.from_]
 c14:i.kind=14->s.lock.cells=[i.from_,u.slots]
theorem zbe.keep{u:Setup}{N M:Int}{i:zaY}{s s':Section}(h:zbe u N i s)(h1:SI u M s')(h2:zdD s s')(h3:s'.out.edits.length<=1):zbe u M i s':=by
 have e:=h2.cells;exact⟨h1,h3,by rw[e];exact h.c1,by rw[e];exact h.c8,by rw[e];exact h.c9,by rw[e];exact h.c12,by rw[e];exact h.c14⟩
theorem zbe.mono{u:Setup}{N M:Int}{i:zaY}{s:Section}(h:zbe u N i s)(hn:N<=M):zbe u M i s:=h.keep (h.si.mono hn) ⟨rfl,rfl⟩ h.ed
theorem zbe.dec{u:Setup}{N:Int}{i:zaY}{s s':Section}(h:zbe u N i s)(d:zid u N s s'):zbe u N i s':=h.keep d.1 d.2.1 d.2.2
structure TI(u:Setup)(N:Int)(t:zq):Prop where
 nm:1<=t.number/\t.number<=200
 iv:zbO t.inv u=0
 su:t.setup=u
 e0:0<=t.entry
 e1:t.done=false->t.entry<zej t.inv
 e2:(t.results.length:Int)=t.entry
 wk:0<=t.walk.next/\t.walk.next<65536/\0<=t.walk.covered/\t.walk.covered<=131072
 ld:0<=t.loaded/\t.loaded<=1073741824
 id:0<=t.id/\t.id<=1073741824+N
 hd:0<=t.handle.route/\t.handle.route<65536
 fs:(t.first.length:Int)<=u.slots/\(t.second.length:Int)<=u.slots
 di:t.dir.l.length<=65536/\t.dir.forward.length<=6
 nn:0<=N
 se:onP t.inv.kind t.pc->zbe u N t.inv t.sec
theorem TI.mono{u:Setup}{N M:Int}{t:zq}(h:TI u N t)(hn:N<=M):TI u M t:={ h with id:=⟨h.id.1,by have:=h.id.2;omega⟩,nn:=by have:=h.nn;omega,se:=fun q=>(h.se q).mono hn }
theorem zkH{u:Setup}(h:zaX u=true):(1<=u.slots/\u.slots<=6)/\1<=u.limit/\u.limit<=8:=by
 unfold zaX inI at h;simp only[zY6,decide_eq_true_eq] at h;omega
theorem zjV{i:zaY}{s:Setup}(h:zbO i s=0)(hk:9<=i.kind/\i.kind<=11):(0<=i.from_/\i.from_<s.slots)/\(0<=i.to/\i.to<s.slots)/\i.from_≠i.to:=by
 unfold zbO at h;rw[zYP zo,zYP zo,zYP zo,zYQ hk] at h
 split at h
 ·cases h
 ·rename_i c;unfold inI at c;simp only[decide_eq_false_iff_not] at c;omega
theorem zjU{i:zaY}{s:Setup}(h:zbO i s=0)(hk:i.kind=12\/i.kind=14):0<=i.from_/\i.from_<s.slots:=by
 unfold zbO at h;rw[zYP zo,zYP zo,zYP zo,zYP zo,zYQ hk] at h
 split at h
 ·cases h
 ·rename_i c;unfold inI at c;simp only[decide_eq_false_iff_not] at c;omega
theorem zBJ{i:zaY}{s:Setup}(h:zbO i s=0)(hk:i.kind=13):0<=i.from_/\i.from_<=s.slots:=by
 unfold zbO at h;rw[zYP zo,zYP zo,zYP zo,zYP zo,zYP zo,zYQ hk] at h
 split at h
 ·cases h
 ·omega
theorem zBK{i:zaY}{s:Setup}(h:zbO i s=0):1<=i.kind/\i.kind<=14:=by
 unfold zbO at h
 by_cases c:1<=i.kind/\i.kind<=14
 ·exact c
 ·rw[zYP zo,zYP zo,zYP zo,zYP zo,zYP zo,zYP zo,zYP zo] at h
  cases h
theorem ze2{u:Setup}{N:Int}{t:zq}(h:TI u N t)(hd:t.done=false)(r:Result)(n:Int):TI u N (zbo t r n):=by
 have h1:=h.e1 hd;have h0:=h.e0;have hf:=h.fs;have hn:=h.nn;unfold zbo;refine { nm:=h.nm,iv:=h.iv,su:=h.su,e0:=by simp only;omega,e1:= ?_,e2:= ?_,wk:=by simp [zJ],ld:=by simp [zJ],id:=⟨by simp [zJ],by simp only[zJ];omega⟩,hd:=by simp [zJ],fs:=⟨by simp only[zJ,zYY];omega,by simp only[zJ,zYY];omega⟩,di:=by simp [zJ],nn:=hn,se:=fun q=>absurd rfl q.1 }
 ·simp only;intro q
  split at q
  ·cases q
  ·omega
 ·simp only[zYZ,zYW,zYY];have:=h.e2;omega
theorem zpS{c n:Int}(h:0<=c/\c<=n):zgb [c] n:=⟨List.pairwise_singleton _ _,fun x hx=>by rw[zZt.1 hx];exact h,by simp⟩
theorem zk5{c d n:Int}(h0:0<=c)(h1:c<d)(h2:d<=n):zgb [c,d] n:=
 ⟨by simpa using h1,fun x hx=>by simp only[zZx,z0J,z0q] at hx;rcases hx with h|h<;>omega,by simp⟩
theorem zmY{a b n:Int}(h0:0<=a/\a<n)(h1:0<=b/\b<n)(h2:a≠b):zgb (zey a b) n:=by
 unfold zey
 split
 ·exact zk5 zo zo zo
 ·exact zk5 zo zo zo
theorem zpf{u:Setup}{N lim:Int}{cells:List Int}(hq:zaX u=true)(hl:lim=u.limit)(hN:0<=N)(hc:zgb cells u.slots)(h1:1<=cells.length):SI u N (zdv cells lim).1/\(zdv cells lim).1.out.edits.length<=1/\(zdv cells lim).1.lock.cells=cells:=by
 have hb:=zkH hq;subst hl;obtain⟨_,q2,q3,_,_,q4⟩:=zVS (N:=N) hc hb.1.2 h1 hb.2 hN;exact⟨q2,by rw[q4];simp,q3⟩
theorem zeW{t:zq}{lo hi:Int}(h:zan t lo hi=0):t.done=false/\lo<=t.inv.kind/\t.inv.kind<=hi:=by
 unfold zan at h
 split at h
 ·cases h
 ·rename_i c
  split at h
  ·cases h
  ·exact⟨z1d.2 c,by omega,by omega⟩
theorem zkk{k pc:Int}(h:6<=k/\k<=7):¬onP k pc:=by
 intro q;unfold onP at q;omega
theorem zTf{u:Setup}{a:zm}{t:zq}{n N:Int}(ha:AI u a)(ht:TI u N t)(e:(zdZ a t n).2.2.2=0):AI u (zdZ a t n).1/\TI u (N+1) (zdZ a t n).2.1:=by
 have ht:=ht.mono (show N<=N+1 by omega);have hep:=ha.ep;unfold zdZ at e ⊢
 by_cases c:zan t 6 6=0
 ·rw[zYP (fun q=>q c)] at e ⊢;obtain⟨g1,g2⟩:=zeW c
  by_cases c1:t.pc=0
  ·rw[zYQ c1];have hl:TI u (N+1) { t with loaded:=a.epoch }:={ ht with ld:=⟨hep.1,by simp only;omega⟩ }
   split
   ·exact⟨ha,ze2 hl g1 _ _⟩
   ·exact⟨ha,{ hl with se:=fun q=>absurd q (zkk (by simp only;omega)) }⟩
  ·rw[zYP c1] at e ⊢;simp only at e ⊢;have hc:=ha.casWord 1 t.loaded (t.loaded+1);generalize casWord a 1 t.loaded (t.loaded+1)=r at *
   by_cases c2:r.2.2=0
   ·rw[zYP (fun q=>q c2)] at e ⊢
    split
    ·exact⟨hc c2,{ ht with se:=fun q=>absurd q (zkk (by simp only;omega)) }⟩
    ·exact⟨hc c2,ze2 ht g1 _ _⟩
   ·rw[zYQ c2] at e;exact absurd e c2
 ·rw[zYQ c] at e;exact absurd e c
theorem zB2{u:Setup}{a:zm}(ha:AI u a){i:Int}(h:(zcm a i).2=0):0<=i/\i<u.slots:=by
 unfold zcm at h
 split at h
 ·rename_i c;have:=zpj.1 c;have:=ha.sl;omega
 ·cases h
theorem zG2{u:Setup}{a:zm}{t:zq}{n N:Int}(ha:AI u a)(ht:TI u N t)(hn:0<=n/\n<=N+1)(e:(zdH a t n).2.2.2=0):AI u (zdH a t n).1/\TI u (N+1) (zdH a t n).2.1:=by
 have ht:=ht.mono (show N<=N+1 by omega);have hep:=ha.ep;have hfs:=ht.fs;have hid:=ht.id;unfold zdH at e ⊢
 by_cases c:zan t 7 7=0
 ·rw[zYP (fun q=>q c)] at e ⊢;obtain⟨g1,g2⟩:=zeW c
  by_cases c1:t.pc=0
  ·rw[zYQ c1];exact⟨ha,{ ht with ld:=⟨hep.1,by simp only;omega⟩,fs:=⟨by simp only[zYY];omega,by simp only[zYY];omega⟩,se:=fun q=>absurd q (zkk (by simp only;omega)) }⟩
  rw[zYP c1] at e ⊢
  by_cases c2:t.pc=1
  ·rw[zYQ c2] at e ⊢;simp only at e ⊢;have hl:=zB2 ha (i:=t.first.length);generalize zcm a t.first.length=r at *
   by_cases c3:r.2=0
   ·rw[zYP (fun q=>q c3)];have:=hl c3;exact⟨ha,{ ht with fs:=⟨by simp only[zYZ,zYW,zYY];omega,hfs.2⟩,se:=fun q=>absurd q (zkk (by simp only;omega)) }⟩
   ·rw[zYQ c3] at e;exact absurd e c3
  rw[zYP c2] at e ⊢
  by_cases c4:t.pc=2
  ·rw[zYQ c4] at e ⊢;simp only at e ⊢;have hl:=zB2 ha (i:=t.second.length);generalize zcm a t.second.length=r at *
   by_cases c3:r.2=0
   ·rw[zYP (fun q=>q c3)];have:=hl c3;exact⟨ha,{ ht with id:=by simp only;split<;>omega,fs:=⟨hfs.1,by simp only[zYZ,zYW,zYY];omega⟩,se:=fun q=>absurd q (zkk (by simp only;omega)) }⟩
   ·rw[zYQ c3] at e;exact absurd e c3
  rw[zYP c4] at e ⊢
  split
  ·exact⟨ha,{ ht with se:=fun q=>absurd q (zkk (by simp only;omega)) }⟩
  ·exact⟨ha,ze2 ht g1 _ _⟩
 ·rw[zYQ c] at e;exact absurd e c
theorem zjR{u:Setup}{a:zm}{t:zq}{n N:Int}(ha:AI u a)(hs:zbe u N t.inv t.sec)(e:(goT a t n).2.2.2.2=0):
    AI u (goT a t n).1/\∃s,(goT a t n).2.1={ t with sec:=s }/\zbe u (N+1) t.inv s/\((goT a t n).2.2.1=true↔s.phase=4):=by
 obtain⟨h1,s,h2,h3,h4,h5,h6,_⟩:=zlx ha hs.si hs.ed e;exact⟨h1,s,h2,hs.keep h3 h4 (by rw[h5];exact hs.ed),h6⟩
theorem TI.sec{u:Setup}{N:Int}{t:zq}{s:Section}(ht:TI u N t)(hs:zbe u N t.inv s):TI u N { t with sec:=s }:={ ht with se:=fun _=>hs }
theorem zrA{u:Setup}{N:Int}{i:zaY}{s:Section}(h:zbe u N i s)(hk:1<=i.kind/\i.kind<=5)(hp:s.phase=4):s.shards.length=1:=by
 obtain⟨c,c0,c1,c2⟩:=h.c1 hk;have:=(h.si.ph.p4 hp).2.2;rw[this,c2,zBO c1]
theorem zrB{u:Setup}{N:Int}{i:zaY}{s:Section}(h:zbe u N i s)(hk:9<=i.kind/\i.kind<=11)(hv:zbO i u=0)(hp:s.phase=4):s.shards.length=2/\s.lock.cells.length=2:=by
 have c:=h.c9 hk;have:=(h.si.ph.p4 hp).2.2;obtain⟨v1,v2,v3⟩:=zjV hv hk;rw[this,c];unfold zey
 split
 ·exact⟨znY v1.2 v2.2,rfl⟩
 ·exact⟨znY v2.2 v1.2,rfl⟩
theorem zPU{u:Setup}{N:Int}{i:zaY}{s:Section}(h:zbe u N i s)(hk:i.kind=8)(hp:s.phase=4):s.shards.length=1/\s.lock.cells.length=2:=by
 obtain⟨c,c0,c1,c2⟩:=h.c8 hk;have:=(h.si.ph.p4 hp).2.2;rw[this,c2];exact⟨znZ c1,rfl⟩
theorem zPS{u:Setup}{N:Int}{i:zaY}{s:Section}(h:zbe u N i s)(hk:i.kind=14)(hv:zbO i u=0)(hp:s.phase=4):s.shards.length=1/\s.lock.cells.length=2:=by
 have c:=h.c14 hk;have:=(h.si.ph.p4 hp).2.2;have v:=zjU hv (.inr hk);rw[this,c];exact⟨znZ v.2,rfl⟩
theorem zPR{u:Setup}{N:Int}{i:zaY}{s:Section}(h:zbe u N i s)(hk:12<=i.kind/\i.kind<=13)(hp:s.phase=4):s.shards.length<=1:=by
 have c:=h.c12 hk;have:=(h.si.ph.p4 hp).2.2;have q:=zlH u.slots s.lock.cells;rw[c] at q this;simp only[zYW,zYY] at q;omega
theorem zmc {u:Setup} {a:zm} {t:zq} {n N lo hi:Int} {plan:zq->Pln} {cells:zq->List Int} (hu:zaX u=true) (ha:AI u a) (ht:TI u N t) (hlo:9<=lo)
    (hc:∀t,TI u N t->lo<=t.inv.kind/\t.inv.kind<=hi->zgb (cells t) u.slots/\1<=(cells t).length/\∀s,SI u N s->s.out.edits.length<=1->s.lock.cells=cells t->zbe u N t.inv s)
    (ho:∀t,TI u (N+1) t->lo<=t.inv.kind/\t.inv.kind<=hi->zbe u (N+1) t.inv t.sec->t.sec.phase=4->OI t.sec (plan t).1)
    (e:(zbg plan lo hi cells a t n).2.2.2=0):AI u (zbg plan lo hi cells a t n).1/\TI u (N+1) (zbg plan lo hi cells a t n).2.1:=by
 unfold zbg at e ⊢
 by_cases c:zan t lo hi=0
 ·rw[zYP (fun q=>q c)] at e ⊢;obtain⟨g1,g2⟩:=zeW c;simp only at e ⊢;have key:∀t':zq,t'=(if t.pc=0 then zcc t (cells t) 1 else t)->t'.done=false/\t'.inv=t.inv/\TI u N t'/\zbe u N t'.inv t'.sec:=by
   intro t' h
   by_cases c1:t.pc=0
   ·rw[zYQ c1] at h;subst h;obtain⟨a1,a2,a3⟩:=hc t ht g2;obtain⟨s1,s2,s3⟩:=zpf (N:=N) hu (show t.setup.limit=u.limit by rw[ht.su]) ht.nn a1 a2;have hS:=a3 _ s1 s2 s3;exact⟨g1,rfl,{ ht with se:=fun _=>hS },hS⟩
   ·rw[zYP c1] at h;subst h;exact⟨g1,rfl,ht,ht.se ⟨c1,by omega⟩⟩
  generalize (if t.pc=0 then zcc t (cells t) 1 else t)=t' at *;obtain⟨k1,k2,k3,k4⟩:=key t' rfl;have hg:=zjR (n:=n) ha k4;generalize goT a t' n=g at *
  by_cases c2:g.2.2.2.2=0
  ·rw[zYP (fun q=>q c2)];obtain⟨h1,s,h2,h3,h4⟩:=hg c2;have k5:=(k3.mono (show N<=N+1 by omega)).sec h3;rw[<- h2] at k5;have hd:g.2.1.done=false:=by rw[h2];exact k1
   have hi2:g.2.1.inv=t'.inv:=by rw[h2]
   have hsc:g.2.1.sec=s:=by rw[h2]
   split
   ·rename_i c3;refine⟨h1,?_⟩;have hS:zbe u (N+1) g.2.1.inv g.2.1.sec:=by rw[hi2,hsc];exact h3
    have h4':g.2.1.sec.phase=4:=by rw[hsc];exact h4.1 c3
    have hdec:=zc3 (t:=g.2.1) hS.si h4' (ho g.2.1 k5 (by rw[hi2,k2];exact g2) hS h4');exact k5.sec (hS.dec hdec)
   ·split
    ·exact⟨h1,k5⟩
    ·exact⟨h1,ze2 k5 hd _ _⟩
  ·rw[zYQ c2] at e;exact absurd e c2
 ·rw[zYQ c] at e;exact absurd e c
structure zig(K:Tok):Prop where
 route:∀i,0<=K.route i/\K.route i<65536
 par:∀b,(K.par b).2=0->(0<=(K.par b).1.route/\(K.par b).1.route<65536)/\0<=(K.par b).1.hint
theorem zW5{u:Setup}{a:zm}{t:zq}{n N:Int}(hu:zaX u=true)(ha:AI u a)(ht:TI u N t)(e:(zbg zeG 9 9 zbE a t n).2.2.2=0):
    AI u (zbg zeG 9 9 zbE a t n).1/\TI u (N+1) (zbg zeG 9 9 zbE a t n).2.1:=by
 refine zmc hu ha ht zo (fun t ht hk=> ?_) (fun t ht hk hS hp=> ?_) e
 ·obtain⟨v1,v2,v3⟩:=zjV ht.iv zo;exact⟨zmY v1 v2 v3,by unfold zbE zey;split<;>simp,fun s s1 s2 s3=>⟨s1,s2,fun q=>by omega,fun q=>by omega,fun _=>s3,fun q=>by omega,fun q=>by omega⟩⟩
 ·obtain⟨k1,k2⟩:=zrB hS zo ht.iv hp;exact zD3 hS.si k1 k2
theorem zWU{u:Setup}{a:zm}{t:zq}{n N:Int}(hu:zaX u=true)(ha:AI u a)(ht:TI u N t)(e:(zbg zeE 10 10 zbE a t n).2.2.2=0):
    AI u (zbg zeE 10 10 zbE a t n).1/\TI u (N+1) (zbg zeE 10 10 zbE a t n).2.1:=by
 refine zmc hu ha ht zo (fun t ht hk=> ?_) (fun t ht hk hS hp=> ?_) e
 ·obtain⟨v1,v2,v3⟩:=zjV ht.iv zo;exact⟨zmY v1 v2 v3,by unfold zbE zey;split<;>simp,fun s s1 s2 s3=>⟨s1,s2,fun q=>by omega,fun q=>by omega,fun _=>s3,fun q=>by omega,fun q=>by omega⟩⟩
 ·obtain⟨k1,k2⟩:=zrB hS zo ht.iv hp;exact zD0 hS.si k1 k2
theorem zRm{u:Setup}{a:zm}{t:zq}{n N:Int}(hu:zaX u=true)(ha:AI u a)(ht:TI u N t)(e:(zbg zeu 11 11 zbE a t n).2.2.2=0):
    AI u (zbg zeu 11 11 zbE a t n).1/\TI u (N+1) (zbg zeu 11 11 zbE a t n).2.1:=by
 refine zmc hu ha ht zo (fun t ht hk=> ?_) (fun t ht hk hS hp=> ?_) e
 ·obtain⟨v1,v2,v3⟩:=zjV ht.iv zo;exact⟨zmY v1 v2 v3,by unfold zbE zey;split<;>simp,fun s s1 s2 s3=>⟨s1,s2,fun q=>by omega,fun q=>by omega,fun _=>s3,fun q=>by omega,fun q=>by omega⟩⟩
 ·obtain⟨k1,k2⟩:=zrB hS zo ht.iv hp;exact zCs hS.si k1 k2
theorem zXq{u:Setup}{a:zm}{t:zq}{n N:Int}(hu:zaX u=true)(ha:AI u a)(ht:TI u N t)(e:(zbg zd8 12 13 (fun t=>[t.inv.from_]) a t n).2.2.2=0):
    AI u (zbg zd8 12 13 (fun t=>[t.inv.from_]) a t n).1/\TI u (N+1) (zbg zd8 12 13 (fun t=>[t.inv.from_]) a t n).2.1:=by
 refine zmc hu ha ht zo (fun t ht hk=> ?_) (fun t ht hk hS hp=> ?_) e
 ·have v:0<=t.inv.from_/\t.inv.from_<=u.slots:=by
     by_cases h:t.inv.kind=12
     ·have:=zjU ht.iv (.inl h);omega
     ·exact zBJ ht.iv zo
  exact⟨zpS v,by simp,fun s s1 s2 s3=>⟨s1,s2,fun q=>by omega,fun q=>by omega,fun q=>by omega,fun _=>s3,fun q=>by omega⟩⟩
 ·exact zD8 hS.si (zPR hS zo hp)
theorem zGa{u:Setup}{a:zm}{t:zq}{n N:Int}(hu:zaX u=true)(ha:AI u a)(ht:TI u N t)(e:(zbg zdF 14 14 (fun t=>[t.inv.from_,t.setup.slots]) a t n).2.2.2=0):
    AI u (zbg zdF 14 14 (fun t=>[t.inv.from_,t.setup.slots]) a t n).1/\TI u (N+1) (zbg zdF 14 14 (fun t=>[t.inv.from_,t.setup.slots]) a t n).2.1:=by
 refine zmc hu ha ht zo (fun t ht hk=> ?_) (fun t ht hk hS hp=> ?_) e
 ·have v:=zjU ht.iv (.inr zo);rw[ht.su];exact⟨zk5 v.1 v.2 zo,by simp,fun s s1 s2 s3=>⟨s1,s2,fun q=>by omega,fun q=>by omega,fun q=>by omega,fun q=>by omega,fun _=>s3⟩⟩
 ·obtain⟨k1,k2⟩:=zPS hS zo ht.iv hp;exact zuv hS.si k1 k2
theorem zT4{u:Setup}{a:zm}{t:zq}{n N:Int}(hu:zaX u=true)(ha:AI u a)(ht:TI u N t)(e:(zd1 a t n).2.2.2=0):AI u (zd1 a t n).1/\TI u (N+1) (zd1 a t n).2.1:=by
 unfold zd1 at e ⊢
 by_cases c:zan t 8 8=0
 ·rw[zYP (fun q=>q c)] at e ⊢;obtain⟨g1,g2⟩:=zeW c
  by_cases c1:t.pc=0
  ·rw[zYQ c1];have hh:=zBB ha.dv t.inv.home;rw[ha.df] at hh;have hsl:=ha.sl;have ht:=ht.mono (show N<=N+1 by omega);obtain⟨s1,s2,s3⟩:=zpf (N:=N+1) (lim:=t.setup.limit) (cells:=[zc6 a.dir t.inv.home,t.setup.slots]) hu (by rw[ht.su]) ht.nn (by rw[ht.su];exact zk5 hh.1 zo zo) (by simp);refine⟨ha,{ ht with di:=⟨zfc ha.dv,(ziu ha.dv).2.1⟩,se:=fun _=>⟨s1,s2,fun q=> ?_,fun _=>⟨zc6 a.dir t.inv.home,hh.1,by omega,?_⟩,fun q=> ?_,fun q=> ?_,fun q=> ?_⟩ }⟩
   ·simp only[zcc] at q;omega
   ·show (zdv _ _).1.lock.cells=_;rw[s3,ht.su]
   ·simp only[zcc] at q;omega
   ·simp only[zcc] at q;omega
   ·simp only[zcc] at q;omega
  rw[zYP c1] at e ⊢;simp only at e ⊢;have k4:=ht.se ⟨c1,by omega⟩;have hg:=zjR (n:=n) ha k4;generalize goT a t n=g at *
  by_cases c2:g.2.2.2.2=0
  ·rw[zYP (fun q=>q c2)];obtain⟨h1,s,h2,h3,h4⟩:=hg c2;have k5:=(ht.mono (show N<=N+1 by omega)).sec h3;rw[<- h2] at k5;have hd:g.2.1.done=false:=by rw[h2];exact g1
   have hi2:g.2.1.inv=t.inv:=by rw[h2]
   have hsc:g.2.1.sec=s:=by rw[h2]
   split
   ·rename_i c3;refine⟨h1,?_⟩;have hS:zbe u (N+1) g.2.1.inv g.2.1.sec:=by rw[hi2,hsc];exact h3
    have h4':g.2.1.sec.phase=4:=by rw[hsc];exact h4.1 c3
    obtain⟨l1,l2⟩:=zPU hS (by rw[hi2];omega) h4';have hdec:=zT1 (t:=g.2.1) hS.si h4' l1 l2;have e1:(zdu g.2.1).1={ g.2.1 with sec:=(zdu g.2.1).1.sec }:=by
     unfold zdu;simp only
     split
     ·rfl
     split
     ·rfl
     split<;>rfl
    rw[e1];exact k5.sec (hS.dec hdec)
   ·split
    ·exact⟨h1,k5⟩
    split
    ·exact⟨h1,{ k5 with se:=fun q=>absurd rfl q.1 }⟩
    ·exact⟨h1,ze2 k5 hd _ _⟩
  ·rw[zYQ c2] at e;exact absurd e c2
 ·rw[zYQ c] at e;exact absurd e c
def zgM(w:zeM):Prop:=0<=w.next/\w.next<65536/\0<=w.covered/\w.covered<=131072
theorem zEW(r:Int):zgM (zgK r).1:=by
 unfold zgK zgM
 split
 ·simp [zga]
 ·simp only;omega
theorem zmQ(w:zeM)(lo hi:Int):zgM (zfF w lo hi).1:=by
 unfold zfF zgM
 split
 ·simp [zga]
 ·rename_i c;have e:(hi+1).tmod 65536=(hi+1) % 65536:=z2a zo;simp only[e];omega
theorem TI.one{u:Setup}{N:Int}{t:zq}(hu:zaX u=true)(ht:TI u N t)(hk:1<=t.inv.kind/\t.inv.kind<=5){c:Int}(h0:0<=c)(h1:c<u.slots)(pc:Int):TI u N (zcc t [c] pc):=by
 obtain⟨s1,s2,s3⟩:=zpf (N:=N) (lim:=t.setup.limit) (cells:=[c]) hu (by rw[ht.su]) ht.nn (zpS zo) (by simp);refine { ht with se:=fun _=>⟨s1,s2,fun _=>⟨c,h0,h1,s3⟩,fun q=> ?_,fun q=> ?_,fun q=> ?_,fun q=> ?_⟩ }<;>(simp only[zcc] at q;omega)
theorem TI.look {u:Setup} {N:Int} {a:zm} {t:zq} (hu:zaX u=true) (ha:AI u a) (ht:TI u N t) (hk:1<=t.inv.kind/\t.inv.kind<=5) {r:Int} (h0:0<=r) (h1:r<65536) (pc:Int)
    (hoff:¬onP t.inv.kind t.pc):TI u N (zg3 a t r pc):=by
 have hh:=zC4 ha.dv h0 h1;rw[ha.df] at hh;have hsl:=ha.sl;have h2:TI u N { t with dir:=a.dir,slot:=zew a.dir r }:={ ht with di:=⟨zfc ha.dv,(ziu ha.dv).2.1⟩,se:=fun q=>absurd q hoff };exact h2.one hu hk hh.1 zo pc
theorem TI.dec{u:Setup}{N:Int}{t:zq}{s:Section}{w:zeM}{l:Int}(ht:TI u N t)(hS:zbe u N t.inv t.sec)(hd:zid u N t.sec s)(hw:zgM w)(hl:0<=l/\l<=1073741824):TI u N { t with sec:=s,walk:=w,loaded:=l }:=
 { ht with wk:=hw,ld:=hl,se:=fun _=>hS.dec hd }
theorem zWb(K:Tok)(t:zq)(hw:zgM t.walk):∃w l,(zdx K t).1={ t with sec:=(zdx K t).1.sec,walk:=w,loaded:=l }/\zgM w/\0<=l/\l<=1073741824:=by
 unfold zdx;simp only
 split
 ·exact⟨_,_,rfl,hw,by simp⟩
 split
 ·split
  ·exact⟨_,_,rfl,zmQ _ _ _,by simp⟩
  ·exact⟨_,_,rfl,zmQ _ _ _,by simp⟩
 ·exact⟨_,_,rfl,hw,by simp⟩
theorem zTY(t:zq)(hw:zgM t.walk):∃w l,(zdt t).1={ t with sec:=(zdt t).1.sec,walk:=w,loaded:=l }/\zgM w/\0<=l/\l<=1073741824:=by
 unfold zdt;simp only
 split
 ·exact⟨_,_,rfl,hw,by simp⟩
 split
 ·exact⟨_,_,rfl,hw,by simp⟩
 split
 ·exact⟨_,_,rfl,zmQ _ _ _,by simp⟩
 split
 ·exact⟨_,_,rfl,zmQ _ _ _,by simp⟩
 ·exact⟨_,_,rfl,zmQ _ _ _,by simp⟩
theorem zWo(t:zq):(zdy t).1={ t with sec:=(zdy t).1.sec }:=by
 unfold zdy;simp only
 split<;>rfl
theorem zV9{K:Tok}(hK:zig K){u:Setup}{a:zm}{t:zq}{n N:Int}(hu:zaX u=true)(ha:AI u a)(ht:TI u N t)(e:(zd3 K a t n).2.2.2=0):AI u (zd3 K a t n).1/\TI u (N+1) (zd3 K a t n).2.1:=by
 have hni:=ha.ni;unfold zd3 at e ⊢
 by_cases c:zan t 1 1=0
 ·rw[zYP (fun q=>q c)] at e ⊢;obtain⟨g1,g2⟩:=zeW c;have hM:=ht.mono (show N<=N+1 by omega)
  by_cases c1:t.pc=0
  ·rw[zYQ c1];have hl:TI u (N+1) { t with loaded:=a.nextID }:={ hM with ld:=⟨by simp only;omega,by simp only;omega⟩ }
   split
   ·exact⟨ha,ze2 hl g1 _ _⟩
   ·exact⟨ha,{ hl with se:=fun q=>by simp only[onP] at q;omega }⟩
  rw[zYP c1] at e ⊢
  by_cases c2:t.pc=1
  ·rw[zYQ c2] at e ⊢;simp only at e ⊢;have hc:=ha.casWord 3 t.loaded (t.loaded+1);generalize casWord a 3 t.loaded (t.loaded+1)=r at *
   by_cases c3:r.2.2=0
   ·rw[zYP (fun q=>q c3)];refine⟨hc c3,?_⟩;have hld:=hM.ld;have hnn:=hM.nn;show TI u (N+1) (if r.2.1=true then _ else _)
    split
    ·exact { hM with id:=⟨hld.1,by simp only;omega⟩,wk:=zEW _,se:=fun q=>by simp only[onP] at q;omega }
    ·exact { hM with se:=fun q=>absurd rfl q.1 }
   ·rw[zYQ c3] at e;exact absurd e c3
  rw[zYP c2] at e ⊢
  by_cases c3:t.pc=2
  ·rw[zYQ c3];exact⟨ha,hM.look hu ha zo hM.wk.1 hM.wk.2.1 3 (fun q=>by unfold onP at q;omega)⟩
  rw[zYP c3] at e ⊢;simp only at e ⊢;have k4:=ht.se ⟨c1,by omega⟩;have hg:=zjR (n:=n) ha k4;generalize goT a t n=g at *
  by_cases c4:g.2.2.2.2=0
  ·rw[zYP (fun q=>q c4)];obtain⟨h1,s,h2,h3,h4⟩:=hg c4;have k5:=hM.sec h3;rw[<- h2] at k5;have hd:g.2.1.done=false:=by rw[h2];exact g1
   have hi2:g.2.1.inv=t.inv:=by rw[h2]
   have hsc:g.2.1.sec=s:=by rw[h2]
   split
   ·rename_i c5;refine⟨h1,?_⟩;have hS:zbe u (N+1) g.2.1.inv g.2.1.sec:=by rw[hi2,hsc];exact h3
    have h4':g.2.1.sec.phase=4:=by rw[hsc];exact h4.1 c5
    have hdec:=zV6 K (t:=g.2.1) hS.si h4' (zrA hS (by rw[hi2];omega) h4');obtain⟨w,l,e1,e2,e3⟩:=zWb K g.2.1 k5.wk;rw[e1];exact k5.dec hS hdec e2 e3
   ·split
    ·exact⟨h1,k5⟩
    split
    ·exact⟨h1,ze2 k5 hd _ _⟩
    split
    ·exact⟨h1,ze2 k5 hd _ _⟩
    ·exact⟨h1,{ k5 with se:=fun q=>by simp only[onP] at q;rw[hi2] at q;omega }⟩
  ·rw[zYQ c4] at e;exact absurd e c4
 ·rw[zYQ c] at e;exact absurd e c
theorem zTW{K:Tok}{u:Setup}{a:zm}{t:zq}{n N:Int}(hu:zaX u=true)(ha:AI u a)(ht:TI u N t)(e:(zd0 K a t n).2.2.2=0):AI u (zd0 K a t n).1/\TI u (N+1) (zd0 K a t n).2.1:=by
 unfold zd0 at e ⊢
 by_cases c:zan t 2 2=0
 ·rw[zYP (fun q=>q c)] at e ⊢;obtain⟨g1,g2⟩:=zeW c;have hM:=ht.mono (show N<=N+1 by omega)
  by_cases c1:t.pc=0
  ·rw[zYQ c1];have hh:=zBB ha.dv t.inv.home;rw[ha.df] at hh;have hsl:=ha.sl;have h2:TI u (N+1) { t with dir:=a.dir,slot:=zc6 a.dir t.inv.home,walk:=(zgK (zkO a.dir (zc6 a.dir t.inv.home)).1.low).1 }:=
    { hM with di:=⟨zfc ha.dv,(ziu ha.dv).2.1⟩,wk:=zEW _,se:=fun q=>absurd c1 q.1 }
   exact⟨ha,h2.one hu (by simp only;omega) hh.1 zo 1⟩
  rw[zYP c1] at e ⊢
  by_cases c3:t.pc=2
  ·rw[zYQ c3];exact⟨ha,hM.look hu ha zo hM.wk.1 hM.wk.2.1 1 (fun q=>by unfold onP at q;omega)⟩
  rw[zYP c3] at e ⊢;simp only at e ⊢;have k4:=ht.se ⟨c1,by omega⟩;have hg:=zjR (n:=n) ha k4;generalize goT a t n=g at *
  by_cases c4:g.2.2.2.2=0
  ·rw[zYP (fun q=>q c4)];obtain⟨h1,s,h2,h3,h4⟩:=hg c4;have k5:=hM.sec h3;rw[<- h2] at k5;have hd:g.2.1.done=false:=by rw[h2];exact g1
   have hi2:g.2.1.inv=t.inv:=by rw[h2]
   have hsc:g.2.1.sec=s:=by rw[h2]
   split
   ·rename_i c5;refine⟨h1,?_⟩;have hS:zbe u (N+1) g.2.1.inv g.2.1.sec:=by rw[hi2,hsc];exact h3
    have h4':g.2.1.sec.phase=4:=by rw[hsc];exact h4.1 c5
    have hdec:=zTT (t:=g.2.1) hS.si h4' (zrA hS (by rw[hi2];omega) h4');obtain⟨w,l,e1,e2,e3⟩:=zTY g.2.1 k5.wk;rw[e1];exact k5.dec hS hdec e2 e3
   ·split
    ·exact⟨h1,k5⟩
    split
    ·exact⟨h1,ze2 k5 hd _ _⟩
    split
    ·exact⟨h1,ze2 k5 hd _ _⟩
    split
    ·exact⟨h1,ze2 k5 hd _ _⟩
    ·exact⟨h1,{ k5 with se:=fun q=>by simp only[onP] at q;rw[hi2] at q;omega }⟩
  ·rw[zYQ c4] at e;exact absurd e c4
 ·rw[zYQ c] at e;exact absurd e c
theorem zWm{K:Tok}(hK:zig K){u:Setup}{a:zm}{t:zq}{n N:Int}(hu:zaX u=true)(ha:AI u a)(ht:TI u N t)(e:(zd5 K a t n).2.2.2=0):AI u (zd5 K a t n).1/\TI u (N+1) (zd5 K a t n).2.1:=by
 unfold zd5 at e ⊢
 by_cases c:zan t 3 5=0
 ·rw[zYP (fun q=>q c)] at e ⊢;obtain⟨g1,g2⟩:=zeW c;have hM:=ht.mono (show N<=N+1 by omega)
  by_cases c1:t.pc=0
  ·rw[zYQ c1];simp only;have hp:=hK.par (t.inv.tokens.getD t.entry.toNat []);generalize K.par (t.inv.tokens.getD t.entry.toNat [])=h at *
   by_cases c2:h.2=0
   ·rw[zYP (fun q=>q c2)];obtain⟨p1,p2⟩:=hp c2;have h2:TI u (N+1) { t with handle:=h.1,pc:=1 }:={ hM with hd:=p1,se:=fun q=>by simp only[onP] at q;omega };refine⟨ha,?_⟩;show TI u (N+1) (if h.1.hint<t.setup.slots then _ else _)
    split
    ·rename_i c3;rw[ht.su] at c3;exact h2.one hu (by simp only;omega) p2 c3 2
    ·exact h2
   ·rw[zYQ c2];exact⟨ha,ze2 hM g1 _ _⟩
  rw[zYP c1] at e ⊢
  by_cases c3:t.pc=1
  ·rw[zYQ c3];exact⟨ha,hM.look hu ha zo hM.hd.1 hM.hd.2 2 (fun q=>by unfold onP at q;omega)⟩
  rw[zYP c3] at e ⊢;simp only at e ⊢;have k4:=ht.se ⟨c1,by omega⟩;have hg:=zjR (n:=n) ha k4;generalize goT a t n=g at *
  by_cases c4:g.2.2.2.2=0
  ·rw[zYP (fun q=>q c4)];obtain⟨h1,s,h2,h3,h4⟩:=hg c4;have k5:=hM.sec h3;rw[<- h2] at k5;have hd:g.2.1.done=false:=by rw[h2];exact g1
   have hi2:g.2.1.inv=t.inv:=by rw[h2]
   have hsc:g.2.1.sec=s:=by rw[h2]
   split
   ·rename_i c5;refine⟨h1,?_⟩;have hS:zbe u (N+1) g.2.1.inv g.2.1.sec:=by rw[hi2,hsc];exact h3
    have h4':g.2.1.sec.phase=4:=by rw[hsc];exact h4.1 c5
    have hdec:=zWj (t:=g.2.1) hS.si h4' (zrA hS (by rw[hi2];omega) h4');have e1:=zWo g.2.1;rw[e1];exact k5.sec (hS.dec hdec)
   ·split
    ·exact⟨h1,k5⟩
    split
    ·exact⟨h1,{ k5 with se:=fun q=>by simp only[onP] at q;rw[hi2] at q;omega }⟩
    ·exact⟨h1,ze2 k5 hd _ _⟩
  ·rw[zYQ c4] at e;exact absurd e c4
 ·rw[zYQ c] at e;exact absurd e c
theorem zEd{K:Tok}(hK:zig K){u:Setup}{a:zm}{t:zq}{n N:Int}(hu:zaX u=true)(ha:AI u a)(ht:TI u N t)(hn:0<=n/\n<=N+1)(e:(zbL K a t n).2.2.2=0):AI u (zbL K a t n).1/\TI u (N+1) (zbL K a t n).2.1:=by
 unfold zbL at e ⊢
 by_cases c0:t.done=true
 ·rw[zYQ c0] at e;cases e
 rw[zYP c0] at e ⊢
 by_cases c1:t.inv.kind=1
 ·rw[zYQ c1] at e ⊢; exact zV9 hK hu ha ht e
 rw[zYP c1] at e ⊢
 by_cases c2:t.inv.kind=2
 ·rw[zYQ c2] at e ⊢; exact zTW hu ha ht e
 rw[zYP c2] at e ⊢
 by_cases c3:3<=t.inv.kind/\t.inv.kind<=5
 ·rw[zYQ c3] at e ⊢; exact zWm hK hu ha ht e
 rw[zYP c3] at e ⊢
 by_cases c6:t.inv.kind=6
 ·rw[zYQ c6] at e ⊢; exact zTf ha ht e
 rw[zYP c6] at e ⊢
 by_cases c7:t.inv.kind=7
 ·rw[zYQ c7] at e ⊢; exact zG2 ha ht hn e
 rw[zYP c7] at e ⊢
 by_cases c8:t.inv.kind=8
 ·rw[zYQ c8] at e ⊢; exact zT4 hu ha ht e
 rw[zYP c8] at e ⊢
 by_cases c9:t.inv.kind=9
 ·rw[zYQ c9] at e ⊢; exact zW5 hu ha ht e
 rw[zYP c9] at e ⊢
 by_cases c10:t.inv.kind=10
 ·rw[zYQ c10] at e ⊢; exact zWU hu ha ht e
 rw[zYP c10] at e ⊢
 by_cases c11:t.inv.kind=11
 ·rw[zYQ c11] at e ⊢; exact zRm hu ha ht e
 rw[zYP c11] at e ⊢
 by_cases c12:t.inv.kind=12\/t.inv.kind=13
 ·rw[zYQ c12] at e ⊢; exact zXq hu ha ht e
 rw[zYP c12] at e ⊢
 by_cases c14:t.inv.kind=14
 ·rw[zYQ c14] at e ⊢; exact zGa hu ha ht e
 rw[zYP c14] at e
 cases e
theorem zW3{u:Setup}{number:Int}{i:zaY}{n N:Int}(hN:0<=N)(e:(zeF number i u n).2=0):TI u N (zeF number i u n).1:=by
 unfold zeF at e ⊢
 by_cases c1:number<1\/200<number\/n<0
 ·rw[zYQ c1] at e;cases e
 rw[zYP c1] at e ⊢
 by_cases c2:zaX u=false
 ·rw[zYQ c2] at e;cases e
 rw[zYP c2] at e ⊢
 by_cases c3:zbO i u≠0
 ·rw[zYQ c3] at e;exact absurd e c3
 rw[zYP c3];have c3:=zY9.1 c3;have hk:=zBK c3;have hb:=zkH (Bool.of_not_eq_false c2);refine { nm:=by simp only;omega,iv:=c3,su:=rfl,e0:=by simp [zJ],e1:=fun _=> ?_,e2:=by simp [zJ],wk:=by simp [zJ],ld:=by simp [zJ],id:=⟨by simp [zJ],by simp only[zJ];omega⟩,hd:=by simp [zJ],fs:=⟨by simp only[zJ,zYY];omega,by simp only[zJ,zYY];omega⟩,di:=by simp [zJ],nn:=hN,se:=fun q=>absurd rfl q.1 };simp only[zJ];unfold zej;unfold zbO at c3
 by_cases d1:i.kind=1
 ·rw[zYQ d1] at c3 ⊢
  split at c3
  ·cases c3
  ·omega
 rw[zYP d1] at c3 ⊢
 by_cases d3:3<=i.kind/\i.kind<=5
 ·rw[zYQ d3];rw[zYP zo,zYQ d3] at c3
  split at c3
  ·cases c3
  ·omega
 ·rw[zYP d3];omega
structure WI(u:Setup)(w:World):Prop where
 hu:zaX u=true
 su:w.setup=u
 ar:AI u w.arena
 ts:∀t∈w.tasks,TI u w.steps t
 tl:w.tasks.length<=200
 st:0<=w.steps
theorem zSy{w:World}{i:Nat}(h:i∈zbj w):i<w.tasks.length:=by
 unfold zbj at h;exact zZJ.1 (z0y.1 h).1
theorem zCV{w:World}{k:Nat}(h:k<(zbj w).length):(zbj w).getD k 0<w.tasks.length:=by
 rw[zZw,zY1 h];exact zSy (zY4 h)
theorem zXa{K:Tok}(hK:zig K){u:Setup}{w:World}{i:Nat}(hw:WI u w)(hi:i<w.tasks.length)(e:(zcV K w i).2=0):WI u (zcV K w i).1:=by
 unfold zcV at e ⊢;simp only at e ⊢;have ht:=hw.ts (w.tasks.getD i zJ) (by rw[zg hi];exact zY4 hi);have hst:=hw.st;have hk:=zEd hK (n:=w.steps+1) (N:=w.steps) hw.hu hw.ar ht zo
 by_cases c:(zbL K w.arena (w.tasks.getD i zJ) (w.steps+1)).2.2.2=0
 ·rw[zYP (fun q=>q c)];obtain⟨k1,k2⟩:=hk c;refine { hu:=hw.hu,su:=hw.su,ar:=k1,ts:=fun t h=> ?_,tl:=by simp only[zZu];exact hw.tl,st:=by simp only;omega }
  rcases ziS h with h|h
  ·rw[h];exact k2
  ·exact (hw.ts t h).mono (by simp only;omega)
 ·rw[zYQ c] at e;exact absurd e c
theorem zXK{u:Setup}{w:World}{by_:Int}(hw:WI u w)(e:(zd9 w by_).2=0):WI u (zd9 w by_).1:=by
 unfold zd9 at e ⊢;have hst:=hw.st;have ht:=hw.ar.tick by_
 by_cases c:(zeI w.arena by_).2=0
 ·rw[zYP (fun q=>q c)];exact { hu:=hw.hu,su:=hw.su,ar:=ht c,ts:=fun t h=>(hw.ts t h).mono (by simp only;omega),tl:=hw.tl,st:=by simp only;omega }
 ·rw[zYQ c] at e;exact absurd e c
theorem zPz{u:Setup}{w:World}{i:zaY}(hw:WI u w)(e:(zcO w i).2.2=0):WI u (zcO w i).1:=by
 unfold zcO at e ⊢
 by_cases c:200<=w.tasks.length\/8<=(zbj w).length
 ·rw[zYQ c] at e;cases e
 rw[zYP c] at e ⊢;have hs:=fun h=>zW3 (u:=u) (number:=w.tasks.length+1) (i:=i) (n:=w.steps) (N:=w.steps) hw.st h;rw[hw.su] at e ⊢
 by_cases c2:(zeF (w.tasks.length+1) i u w.steps).2=0
 ·rw[zYP (fun q=>q c2)];refine { hu:=hw.hu,su:=rfl,ar:=hw.ar,ts:=fun t h=> ?_,tl:=by simp only[zYZ,zYW,zYY];omega,st:=hw.st }
  rcases zZl.1 h with h|h
  ·exact hw.ts t h
  ·rw[zZt.1 h];exact hs c2
 ·rw[zYQ c2] at e;exact absurd e c2
end Go.Proofs.YtjalkkalhdnplaaGreat
