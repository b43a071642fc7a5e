/-
  A send decides.
-/
import Derived.Test.YtjalkkalhdnplaaGreatB907f86f
import Derived.Test.YtjalkkalhdnplaaGreatB2c1e682
import Derived.Test.YtjalkkalhdnplaaGreatBf94735e
set_option linter.unusedSimpArgs false
set_option linter.unusedVariables false
set_option maxHeartbeats 10000000
set_option maxRecDepth 100000
namespace Go.Proofs.YtjalkkalhdnplaaGreat
open Go Go.Sim
theorem zxD{u:Setup}{a:zg}{k w old nx:Int}(hg:GI u a)(hw:w=1->old<=nx)(e:(casWord a w old nx).2.2=0):
    GI u (casWord a w old nx).1/\Mo a (casWord a w old nx).1/\Ef k a (casWord a w old nx).1:=by
 unfold casWord at e ⊢
 split at e
 ·cases e
 rename_i h1;rw[zWy h1]
 split at e
 ·cases e
 rename_i h2;rw[zWy h2]
 split
 ·exact⟨hg,Mo.refl a,Ef.refl k a⟩
 rename_i h3;have h3:=zWO.1 h3
 split
 ·rename_i h4;have:=hw h4;have he:a.epoch=old:=by unfold zgP at h3;rw[zWz h4] at h3;exact h3
  have hle:a.epoch<=nx:=by omega
  refine⟨⟨fun c p q r=> ?_,fun c p q=>(hg.me c p q).mono hle,hg.md.mono hle⟩,⟨hle,fun _ _ _=>⟨zXh _,fun _=>rfl⟩,rfl⟩,⟨rfl,rfl,hle,fun _ _ _=> .inl rfl,fun _ _ _ _=>rfl,fun _ _ _ _=>rfl,fun _=>rfl⟩⟩;obtain⟨r1,r2⟩:=hg.ev c p q r;exact⟨zYA r1 hle,r2⟩
 ·exact⟨⟨hg.ev,hg.me,hg.md⟩,Mo.same rfl rfl rfl,⟨rfl,rfl,zXh _,fun _ _ _=> .inl rfl,fun _ _ _ _=>rfl,fun _ _ _ _=>rfl,fun _=>rfl⟩⟩
theorem zA6{k:Int}(h:1<=k/\k<=2):¬onP k 2:=by unfold onP;omega
theorem zPx{k:Int}(h:3<=k/\k<=5):¬onP k 1:=by unfold onP;omega
section
variable {u:Setup} {a:zg} {t:zi} {n N:Int} (hu:zav u=true) (ha:AI u a) (hg:GI u a) (ht:TI u N t) (htl:TL u a t)
include ht in
theorem zr5(hu:zav u=true){c:Int}(h0:0<=c)(h1:c<u.slots)(k:Int):LI u a k (zcp [c] t.setup.limit).1:=zsB hu (by rw[ht.su]) (zle ⟨h0,by omega⟩) (by simp)
include ha ht in
theorem zrH(hu:zav u=true){r:Int}(h0:0<=r)(h1:r<65536)(k:Int):LI u a k (zcp [zeu a.dir r] t.setup.limit).1:=by
 have h:=zsd ha.dv h0 h1;rw[ha.df,ha.sl] at h;exact zr5 ht hu h.1 h.2 k
include hg in
theorem zQV(e:(zdk a t n).2.2.2=0):zbG u a t (zdk a t n):=by
 unfold zdk at e ⊢
 by_cases c:zX t 6 6=0
 ·rw[zWy (fun q=>q c)] at e ⊢;obtain⟨g1,g2⟩:=zcR c
  by_cases c1:t.pc=0
  ·rw[zWz c1]
   split
   ·exact zbG.still hg (TL.next _ _).1 rfl
   ·exact zbG.still hg (TL.off (zht (by simp only;omega))) rfl
  ·rw[zWy c1] at e ⊢;simp only at e ⊢;have hc:=zxD (k:=t.number) (w:=1) (old:=t.loaded) (nx:=t.loaded+1) hg (fun _=>by omega);generalize casWord a 1 t.loaded (t.loaded+1)=r at *
   by_cases c2:r.2.2=0
   ·rw[zWy (fun q=>q c2)] at e ⊢;obtain⟨x1,x2,x3⟩:=hc c2
    split
    ·exact⟨x1,x2,x3,TL.off (zht (by simp only;omega)),rfl⟩
    ·exact⟨x1,x2,x3,(TL.next _ _).1,rfl⟩
   ·rw[zWz c2] at e;exact absurd e c2
 ·rw[zWz c] at e;exact absurd e c
include hg in
theorem zFe(e:(zaj a t n).2.2.2=0):zbG u a t (zaj a t n)/\(zaj a t n).1=a:=by
 unfold zaj at e ⊢
 by_cases c:zX t 7 7=0
 ·rw[zWy (fun q=>q c)] at e ⊢;obtain⟨g1,g2⟩:=zcR c;have off:∀t':zi,t'.inv=t.inv->TL u a t':=fun t' h=>TL.off (zht (by rw[h];omega))
  split
  ·exact⟨zbG.still hg (off _ rfl) rfl,rfl⟩
  rename_i c1;rw[zWy c1] at e
  split
  ·rename_i c2;rw[zWz c2] at e;simp only at e ⊢
   split at e
   ·rename_i q;exact absurd e q
   rename_i q;rw[zWy q];exact⟨zbG.still hg (off _ rfl) rfl,rfl⟩
  rename_i c2;rw[zWy c2] at e
  split
  ·rename_i c3;rw[zWz c3] at e;simp only at e ⊢
   split at e
   ·rename_i q;exact absurd e q
   rename_i q;rw[zWy q];exact⟨zbG.still hg (off _ rfl) rfl,rfl⟩
  split
  ·exact⟨zbG.still hg (off _ rfl) rfl,rfl⟩
  ·exact⟨zbG.still hg (TL.next _ _).1 rfl,rfl⟩
 ·rw[zWz c] at e;exact absurd e c
include hu ha hg ht htl
theorem zTX(K:Tok)(e:(zdp K a t n).2.2.2=0):zbG u a t (zdp K a t n):=by
 unfold zdp at e ⊢
 by_cases c:zX t 1 1=0
 ·rw[zWy (fun q=>q c)] at e ⊢;obtain⟨g1,g2⟩:=zcR c;have hk15:1<=t.inv.kind/\t.inv.kind<=5:=by omega
  have hM:=ht.mono (show N<=N+1 by omega)
  by_cases c1:t.pc=0
  ·rw[zWz c1]
   split
   ·exact zbG.still hg (TL.next _ _).1 rfl
   ·exact zbG.still hg (TL.off (fun q=>by simp only[onP] at q;clear e;omega)) rfl
  rw[zWy c1] at e ⊢
  by_cases c2:t.pc=1
  ·rw[zWz c2] at e ⊢;simp only at e ⊢;have hc:=zxD (k:=t.number) (w:=3) (old:=t.loaded) (nx:=t.loaded+1) hg (fun _=>by omega);generalize casWord a 3 t.loaded (t.loaded+1)=r at *
   by_cases c3:r.2.2=0
   ·rw[zWy (fun q=>q c3)];obtain⟨x1,x2,x3⟩:=hc c3;refine⟨x1,x2,x3,?_,?_⟩
    ·show TL u r.1 (if r.2.1=true then _ else _)
     split
     ·exact TL.off (fun q=>by simp only[onP] at q;omega)
     ·exact TL.off (fun q=>absurd rfl q.1)
    ·show (if r.2.1=true then _ else _:zi).number=t.number
     split<;>rfl
   ·rw[zWz c3] at e;exact absurd e c3
  rw[zWy c2] at e ⊢
  by_cases c3:t.pc=2
  ·rw[zWz c3];exact zbG.still hg (fun _=>zrH ha ht hu hM.wk.1 hM.wk.2.1 _) rfl
  rw[zWy c3] at e ⊢;simp only at e ⊢;have hon:onP t.inv.kind t.pc:=by clear e;exact⟨c1,by omega⟩
  have k4:=ht.se hon;have hg0:=zgi (n:=n) ha k4;have hgt:=zlE (n:=n) ha hg k4 (htl hon);generalize goT a t n=g at *
  by_cases c4:g.2.2.2.2=0
  ·rw[zWy (fun q=>q c4)];obtain⟨h1,s,h2,h3,h4⟩:=hg0 c4;obtain⟨x1,x2,x3,x4⟩:=hgt c4;have k5:=hM.sec h3;rw[<- h2] at k5;have hnum:g.2.1.number=t.number:=by rw[h2]
   have hi2:g.2.1.inv=t.inv:=by rw[h2]
   have hsc:g.2.1.sec=s:=by rw[h2]
   rw[<- hnum] at x4
   split
   ·rename_i c5;have hS:zaT u (N+1) g.2.1.inv g.2.1.sec:=by rw[hi2,hsc];exact h3
    have h4':g.2.1.sec.phase=4:=by rw[hsc];exact h4.1 c5
    have hdec:=zTU hS.si x4 h4' K (zkc hS (by rw[hi2];exact hk15) h4');obtain⟨w,l,e1,_⟩:=zB5 K g.2.1 k5.wk;have hn2:(zc9 K g.2.1).1.number=g.2.1.number:=by rw[e1]
    exact⟨x1,x2,x3,fun _=>by rw[hn2];exact hdec,hn2.trans hnum⟩
   ·split
    ·exact⟨x1,x2,x3,fun _=>x4,hnum⟩
    split
    ·exact⟨x1,x2,x3,(TL.next _ _).1,hnum⟩
    split
    ·exact⟨x1,x2,x3,(TL.next _ _).1,hnum⟩
    ·exact⟨x1,x2,x3,TL.off (by show ¬onP g.2.1.inv.kind 2;rw[hi2];exact zA6 zo),hnum⟩
  ·rw[zWz c4] at e;exact absurd e c4
 ·rw[zWz c] at e;exact absurd e c
theorem zRF(K:Tok)(e:(zdl K a t n).2.2.2=0):zbG u a t (zdl K a t n):=by
 unfold zdl at e ⊢
 by_cases c:zX t 2 2=0
 ·rw[zWy (fun q=>q c)] at e ⊢;obtain⟨g1,g2⟩:=zcR c;have hk15:1<=t.inv.kind/\t.inv.kind<=5:=by omega
  have hM:=ht.mono (show N<=N+1 by omega)
  by_cases c1:t.pc=0
  ·rw[zWz c1];have hh:=znO ha.dv t.inv.home;rw[ha.df,ha.sl] at hh;exact zbG.still hg (fun _=>zr5 ht hu hh.1 hh.2 _) rfl
  rw[zWy c1] at e ⊢
  by_cases c3:t.pc=2
  ·rw[zWz c3];exact zbG.still hg (fun _=>zrH ha ht hu hM.wk.1 hM.wk.2.1 _) rfl
  rw[zWy c3] at e ⊢;simp only at e ⊢;have hon:onP t.inv.kind t.pc:=by clear e;exact⟨c1,by omega⟩
  have k4:=ht.se hon;have hg0:=zgi (n:=n) ha k4;have hgt:=zlE (n:=n) ha hg k4 (htl hon);generalize goT a t n=g at *
  by_cases c4:g.2.2.2.2=0
  ·rw[zWy (fun q=>q c4)];obtain⟨h1,s,h2,h3,h4⟩:=hg0 c4;obtain⟨x1,x2,x3,x4⟩:=hgt c4;have k5:=hM.sec h3;rw[<- h2] at k5;have hnum:g.2.1.number=t.number:=by rw[h2]
   have hi2:g.2.1.inv=t.inv:=by rw[h2]
   have hsc:g.2.1.sec=s:=by rw[h2]
   rw[<- hnum] at x4
   split
   ·rename_i c5;have hS:zaT u (N+1) g.2.1.inv g.2.1.sec:=by rw[hi2,hsc];exact h3
    have h4':g.2.1.sec.phase=4:=by rw[hsc];exact h4.1 c5
    have hdec:=zRC hS.si x4 h4' (zkc hS (by rw[hi2];exact hk15) h4');obtain⟨w,l,e1,_⟩:=zBE g.2.1 k5.wk;have hn2:(zc8 g.2.1).1.number=g.2.1.number:=by rw[e1]
    exact⟨x1,x2,x3,fun _=>by rw[hn2];exact hdec,hn2.trans hnum⟩
   ·split
    ·exact⟨x1,x2,x3,fun _=>x4,hnum⟩
    split
    ·exact⟨x1,x2,x3,(TL.next _ _).1,hnum⟩
    split
    ·exact⟨x1,x2,x3,(TL.next _ _).1,hnum⟩
    split
    ·exact⟨x1,x2,x3,(TL.next _ _).1,hnum⟩
    ·exact⟨x1,x2,x3,TL.off (by show ¬onP g.2.1.inv.kind 2;rw[hi2];exact zA6 zo),hnum⟩
  ·rw[zWz c4] at e;exact absurd e c4
 ·rw[zWz c] at e;exact absurd e c
theorem zUc{K:Tok}(hK:zdT K)(e:(zdr K a t n).2.2.2=0):zbG u a t (zdr K a t n):=by
 unfold zdr at e ⊢
 by_cases c:zX t 3 5=0
 ·rw[zWy (fun q=>q c)] at e ⊢;obtain⟨g1,g2⟩:=zcR c;have hk15:1<=t.inv.kind/\t.inv.kind<=5:=by omega
  have hM:=ht.mono (show N<=N+1 by omega)
  by_cases c1:t.pc=0
  ·rw[zWz c1];simp only;have hp:=hK.par (t.inv.tokens.getD t.entry.toNat []);generalize K.par (t.inv.tokens.getD t.entry.toNat [])=h at *
   by_cases c2:h.2=0
   ·rw[zWy (fun q=>q c2)];obtain⟨p1,p2⟩:=hp c2;refine zbG.still hg ?_ ?_
    ·show TL u a (if h.1.hint<t.setup.slots then _ else _)
     split
     ·rename_i c3;rw[ht.su] at c3;exact fun _=>zr5 ht hu p2 c3 _
     ·exact TL.off (fun q=>by simp only[onP] at q;omega)
    ·show (if h.1.hint<t.setup.slots then _ else _:zi).number=t.number
     split<;>rfl
   ·rw[zWz c2];exact zbG.still hg (TL.next _ _).1 rfl
  rw[zWy c1] at e ⊢
  by_cases c3:t.pc=1
  ·rw[zWz c3];exact zbG.still hg (fun _=>zrH ha ht hu hM.hd.1 hM.hd.2 _) rfl
  rw[zWy c3] at e ⊢;simp only at e ⊢;have hon:onP t.inv.kind t.pc:=by clear e;exact⟨c1,by omega⟩
  have k4:=ht.se hon;have hg0:=zgi (n:=n) ha k4;have hgt:=zlE (n:=n) ha hg k4 (htl hon);generalize goT a t n=g at *
  by_cases c4:g.2.2.2.2=0
  ·rw[zWy (fun q=>q c4)];obtain⟨h1,s,h2,h3,h4⟩:=hg0 c4;obtain⟨x1,x2,x3,x4⟩:=hgt c4;have hnum:g.2.1.number=t.number:=by rw[h2]
   have hi2:g.2.1.inv=t.inv:=by rw[h2]
   have hsc:g.2.1.sec=s:=by rw[h2]
   rw[<- hnum] at x4
   split
   ·rename_i c5;have hS:zaT u (N+1) g.2.1.inv g.2.1.sec:=by rw[hi2,hsc];exact h3
    have h4':g.2.1.sec.phase=4:=by rw[hsc];exact h4.1 c5
    have hdec:=zT9 hS.si x4 h4' (zkc hS (by rw[hi2];exact hk15) h4');have e1:=zCa g.2.1;have hn2:(zda g.2.1).1.number=g.2.1.number:=by rw[e1]
    exact⟨x1,x2,x3,fun _=>by rw[hn2];exact hdec,hn2.trans hnum⟩
   ·split
    ·exact⟨x1,x2,x3,fun _=>x4,hnum⟩
    split
    ·exact⟨x1,x2,x3,TL.off (by show ¬onP g.2.1.inv.kind 1;rw[hi2];exact zPx zo),hnum⟩
    ·exact⟨x1,x2,x3,(TL.next _ _).1,hnum⟩
  ·rw[zWz c4] at e;exact absurd e c4
 ·rw[zWz c] at e;exact absurd e c
theorem zVj{K:Tok}(hK:zdT K)(e:(zaQ K a t n).2.2.2=0):zbG u a t (zaQ K a t n):=by
 unfold zaQ at e ⊢
 by_cases c0:t.done=true
 ·rw[zWz c0] at e;cases e
 rw[zWy c0] at e ⊢
 by_cases c1:t.inv.kind=1
 ·rw[zWz c1] at e ⊢; exact zTX hu ha hg ht htl K e
 rw[zWy c1] at e ⊢
 by_cases c2:t.inv.kind=2
 ·rw[zWz c2] at e ⊢; exact zRF hu ha hg ht htl K e
 rw[zWy c2] at e ⊢
 by_cases c3:3<=t.inv.kind/\t.inv.kind<=5
 ·rw[zWz c3] at e ⊢; exact zUc hu ha hg ht htl hK e
 rw[zWy c3] at e ⊢
 by_cases c6:t.inv.kind=6
 ·rw[zWz c6] at e ⊢; exact zQV hg e
 rw[zWy c6] at e ⊢
 by_cases c7:t.inv.kind=7
 ·rw[zWz c7] at e ⊢; exact (zFe hg e).1
 rw[zWy c7] at e ⊢
 by_cases c8:t.inv.kind=8
 ·rw[zWz c8] at e ⊢; exact zRO hu ha hg ht htl e
 rw[zWy c8] at e ⊢
 by_cases c9:t.inv.kind=9
 ·rw[zWz c9] at e ⊢; exact zsP hu ha hg ht htl e
 rw[zWy c9] at e ⊢
 by_cases c10:t.inv.kind=10
 ·rw[zWz c10] at e ⊢; exact zsM hu ha hg ht htl e
 rw[zWy c10] at e ⊢
 by_cases c11:t.inv.kind=11
 ·rw[zWz c11] at e ⊢; exact zrS hu ha hg ht htl e
 rw[zWy c11] at e ⊢
 by_cases c12:t.inv.kind=12\/t.inv.kind=13
 ·rw[zWz c12] at e ⊢; exact zsV hu ha hg ht htl e
 rw[zWy c12] at e ⊢
 by_cases c14:t.inv.kind=14
 ·rw[zWz c14] at e ⊢; exact zpO hu ha hg ht htl e
 rw[zWy c14] at e
 cases e
end
end Go.Proofs.YtjalkkalhdnplaaGreat

namespace Go.Proofs.YtjalkkalhdnplaaGreat
open Go Go.Sim
theorem zsy{n:Nat}(h1:1<=n)(h2:n<=12):zaI ⟨List.replicate n z9,0,0⟩=0:=by
 have hr:zgW ⟨List.replicate n z9,0,0⟩:=by
  unfold zgW;simp only[zXw];omega
 have hf:zdM ⟨List.replicate n z9,0,0⟩ 0 n=false:=by
  unfold zdM;rw[zXX];intro j _;rw[decide_eq_true_eq];intro q;apply q;simp only[zXw];rw[zWG]
  by_cases c:((0:Int).toNat+j) % n<n
  ·rw[List.getElem?_replicate_of_lt c];rfl
  ·exact absurd (zXN _ zo) c
 unfold zaI;rw[zWy (fun q=>q hr)];simp only[zXw,Int.toNat_zero];rw[hf];rfl
theorem zO7{n lo hi:Int}(hn:1<=n/\n<=12)(hs:0<=lo/\lo<=hi/\hi<65536):zV (zbD n lo hi).1=0/\((zbD n lo hi).1.ready.cells.length:Int)=n:=by
 have hr:=zsy (n:=n.toNat) zo zo;unfold zbD;rw[zWy zo,zWy (fun q=>q hs)];refine⟨?_,by simp only[zXw];omega⟩;unfold zV;simp only;rw[hr,zWy (fun q=>q rfl),zWy (show ¬zah zac≠0 by decide),zWy (by decide),zWy (fun q=>q hs),zWy (by simp only[zsR,zXw,zac,zWK];omega)];rfl
theorem zL6{n:Int}(hn:1<=n/\n<=12):zV (zc4 n).1=0/\((zc4 n).1.ready.cells.length:Int)=n:=by
 have hr:=zsy (n:=n.toNat) zo zo;unfold zc4;rw[zWy zo];refine⟨?_,by simp only[zXw];omega⟩;unfold zV;simp only;rw[hr,zWy (fun q=>q rfl),zWy (show ¬zah zac≠0 by decide),zWz trivial];rfl
theorem zUd{u:Setup}(h:zav u=true):(1<=u.slots/\u.slots<=6)/\(1<=u.live/\u.live<=u.slots)/\(1<=u.capacity/\u.capacity<=12)/\(1<=u.dead/\u.dead<=24)/\(0<=u.clock/\u.clock<=1073741824)/\(1<=u.nextID/\u.nextID<=1073741824)/\0<=u.epoch/\u.epoch<=65536:=by
 unfold zav inI at h;simp only[zWS,decide_eq_true_eq] at h;omega
theorem ztI{u:Setup}(e:(zbq u).2=0):AI u (zbq u).1:=by
 have hu:zav u=true:=by
  unfold zbq at e
  split at e
  ·cases e
  ·rename_i c;exact zZH c
 obtain⟨b1,b2,b3,b4,b5,b6,b7⟩:=zUd hu;have hd:(zet u.slots u.live).1=zfA u.slots.toNat u.live.toNat:=by
  unfold zet;rw[zWy zo]
 have hv:=(zFN u.slots.toNat u.live.toNat zo zo zo).1;have hl:(zfA u.slots.toNat u.live.toNat).l.length=u.live.toNat:=by simp only[zfA,zUw]
 have hf:(zfA u.slots.toNat u.live.toNat).forward.length=u.slots.toNat:=by simp only[zfA,zXw]
 have ht:=zs1 _ 0 65536 zo (zqd hv);unfold zbq;rw[zWy (by rw[hu];simp)];simp only[hd];constructor
 ·simp only[zWM,zY3];omega
 ·simp only[zWM,zY3,zXw]
 ·intro x hx;simp only[zWP,zXx] at hx;obtain⟨i,hi,rfl⟩:=hx
  by_cases c:(i:Int)<u.live
  ·simp only[zWz c];have hi2:i<(zfA u.slots.toNat u.live.toNat).l.length:=by omega
   rw[zq hi2];exact zO7 b3 (ht _ (zWH hi2))
  ·simp only[zWy c];exact zL6 b3
 ·intro x hx;rw[zZF hx];unfold zjx;apply zWY;simp only[zbo];omega
 ·exact hv
 ·simp only[zWM,zY3];exact hf
 ·unfold zcm;simp only;rw[zWy zo,zWy (by simp only[zWK];omega)];rfl
 ·rfl
 ·simp only;omega
 ·exact b5
 ·exact b6
structure GT(u:Setup)(a:zg)(ts:List zi):Prop where
 g:GI u a
 n:∀(i:Nat) (h:i<ts.length),ts[i].number=i+1
 l:∀t∈ts,TL u a t
theorem TL.other{u:Setup}{N:Int}{a b:zg}{k':Int}{t:zi}(ha:AI u a)(ht:TI u N t)(h:TL u a t)(hne:t.number≠k')(he:Ef k' a b):TL u b t:=
 fun q=>(h q).other ha (ht.se q).si ht.nm.1 hne he
theorem GT.task{u:Setup}{N n:Int}{a:zg}{ts:List zi}{K:Tok}(hK:zdT K)(hu:zav u=true)(ha:AI u a)(hti:∀t∈ts,TI u N t)(h:GT u a ts){i:Nat}(hi:i<ts.length)(e:(zaQ K a ts[i] n).2.2.2=0):
    GT u (zaQ K a ts[i] n).1 (ts.set i (zaQ K a ts[i] n).2.1)/\Mo a (zaQ K a ts[i] n).1:=by
 have hm:=zWH hi;obtain⟨x1,x2,x3,x4,x5⟩:=zVj (n:=n) hu ha h.g (hti _ hm) (h.l _ hm) hK e;generalize zaQ K a ts[i] n=r at *;refine⟨⟨x1,fun j hj=> ?_,fun t ht=> ?_⟩,x2⟩
 ·rw[zW8] at hj;rw[zZh]
  split
  ·rename_i q;subst q;rw[x5];exact h.n i hi
  ·exact h.n j hj
 ·obtain⟨j,hj,rfl⟩:=zYr ht;rw[zW8] at hj;rw[zZh]
  split
  ·exact x4
  ·rename_i q;have hmj:=zWH hj;refine TL.other ha (hti _ hmj) (h.l _ hmj) ?_ x3;rw[h.n j hj,h.n i hi];omega
theorem TL.same{u:Setup}{a b:zg}{t:zi}(h:TL u a t)(he:Ef 0 a b){N:Int}(ha:AI u a)(ht:TI u N t):TL u b t:=h.other ha ht (by have:=ht.nm.1;omega) he
theorem Ef.time(k:Int)(a:zg)(c:Int):Ef k a { a with clock:=c }:=⟨rfl,rfl,zXh _,fun _ _ _=> .inl rfl,fun _ _ _ _=>rfl,fun _ _ _ _=>rfl,fun _=>rfl⟩
theorem Ef.epoch(k:Int)(a:zg){c:Int}(h:a.epoch<=c):Ef k a { a with epoch:=c }:=⟨rfl,rfl,h,fun _ _ _=> .inl rfl,fun _ _ _ _=>rfl,fun _ _ _ _=>rfl,fun _=>rfl⟩
theorem GI.time{u:Setup}{a:zg}(h:GI u a)(c:Int):GI u { a with clock:=c }:=⟨h.ev,h.me,h.md⟩
theorem GI.epoch{u:Setup}{a:zg}(h:GI u a){c:Int}(hc:a.epoch<=c):GI u { a with epoch:=c }:=
 ⟨fun x p q r=>⟨zYA (h.ev x p q r).1 hc,(h.ev x p q r).2⟩,fun x p q=>(h.me x p q).mono hc,h.md.mono hc⟩
theorem GT.time{u:Setup}{N:Int}{a:zg}{ts:List zi}(ha:AI u a)(hti:∀t∈ts,TI u N t)(h:GT u a ts)(c:Int):GT u { a with clock:=c } ts/\Mo a { a with clock:=c }:=
 ⟨⟨h.g.time c,h.n,fun t ht=>(h.l t ht).same (Ef.time 0 a c) ha (hti t ht)⟩,Mo.same rfl rfl rfl⟩
theorem GT.epoch{u:Setup}{N:Int}{a:zg}{ts:List zi}(ha:AI u a)(hti:∀t∈ts,TI u N t)(h:GT u a ts){c:Int}(hc:a.epoch<=c):GT u { a with epoch:=c } ts/\Mo a { a with epoch:=c }:=
 ⟨⟨h.g.epoch hc,h.n,fun t ht=>(h.l t ht).same (Ef.epoch 0 a hc) ha (hti t ht)⟩,⟨hc,fun _ _ _=>⟨zXh _,fun _=>rfl⟩,rfl⟩⟩
def WG(u:Setup)(w:World):Prop:=WI u w/\GT u w.arena w.tasks
theorem zUR{K:Tok}(hK:zdT K){u:Setup}{w:World}{i:Nat}(hw:WG u w)(hi:i<w.tasks.length)(e:(zcM K w i).2=0):WG u (zcM K w i).1:=by
 refine⟨zCr hK hw.1 hi e,?_⟩;unfold zcM at e ⊢;simp only[zq hi] at e ⊢
 by_cases c:(zaQ K w.arena w.tasks[i] (w.steps+1)).2.2.2=0
 ·rw[zWy (fun q=>q c)];exact (hw.2.task hK hw.1.hu hw.1.ar hw.1.ts hi c).1
 ·rw[zWz c] at e;exact absurd e c
theorem zQw{K:Tok}(hK:zdT K){u:Setup}{w:World}{k:Int}(hw:WG u w)(e:(zcI K w k).2=0):WG u (zcI K w k).1:=by
 unfold zcI at e ⊢
 by_cases c:k<0\/((za9 w).length:Int)<=k
 ·rw[zWz c] at e;cases e
 ·rw[zWy c] at e ⊢;exact zUR hK hw (zoE zo) e
theorem zVu{u:Setup}{w:World}{by_:Int}(hw:WG u w)(e:(zdy w by_).2=0):WG u (zdy w by_).1:=by
 refine⟨zCD hw.1 e,?_⟩;unfold zdy at e ⊢
 by_cases c:(zea w.arena by_).2=0
 ·rw[zWy (fun q=>q c)];simp only;unfold zea at c ⊢
  repeat' split at c
  all_goals first
   | (cases c;done)
   | skip
  rename_i c1 c2;rw[zWy c1,zWy c2];exact (hw.2.time hw.1.ar hw.1.ts _).1
 ·rw[zWz c] at e;exact absurd e c
theorem zUH{n:Int}{i:zaS}{s:Setup}{k:Int}(e:(zcz n i s k).2=0):(zcz n i s k).1.pc=0/\(zcz n i s k).1.number=n:=by
 unfold zcz at e ⊢
 repeat' split at e
 all_goals first
  | (cases e;done)
  | (rename_i c;exact absurd e c)
  | skip
 repeat' split
 all_goals first
  | exact⟨rfl,rfl⟩
  | contradiction
theorem zNh{u:Setup}{w:World}{i:zaS}(hw:WG u w)(e:(zcH w i).2.2=0):WG u (zcH w i).1:=by
 refine⟨zAc hw.1 e,?_⟩;unfold zcH at e ⊢
 by_cases c:200<=w.tasks.length\/8<=(za9 w).length
 ·rw[zWz c] at e;cases e
 rw[zWy c] at e ⊢
 by_cases c2:(zcz (w.tasks.length+1) i w.setup w.steps).2=0
 ·rw[zWy (fun q=>q c2)];obtain⟨s1,s2⟩:=zUH c2;simp only;refine⟨hw.2.g,fun j hj=> ?_,fun t h=> ?_⟩
  ·rw[List.getElem_append]
   split
   ·rename_i q;exact hw.2.n j q
   ·rename_i q;simp only[zWJ,zW6] at hj;have:j=w.tasks.length:=by omega
    subst this;simp only[zYj,List.getElem_cons_zero];exact s2
  ·rcases zW3.1 h with h|h
   ·exact hw.2.l t h
   ·rw[zW7.1 h];exact fun q=>absurd s1 q.1
 ·rw[zWz c2] at e;exact absurd e c2
theorem zQz{K:Tok}(hK:zdT K){u:Setup}(k:Int):∀(n:Nat) (w:World),WG u w->(zgr K k n w).2=0->WG u (zgr K k n w).1:=by
 intro n
 induction n with
 | zero=>intro w hw _;exact hw
 | succ n ih=>
  intro w hw e;unfold zgr at e ⊢
  by_cases c:(za9 w).length=0
  ·rw[zWz c];exact hw
  rw[zWy c] at e ⊢
  by_cases c2:(zcI K w ((zbw k 0).tmod (za9 w).length)).2=0
  ·rw[zWy (fun q=>q c2)] at e ⊢;exact ih _ (zQw hK hw c2) e
  ·rw[zWz c2] at e;exact absurd e c2
theorem zF4{K:Tok}(hK:zdT K){u:Setup}{w:World}{c:Command}(hw:WG u w)(e:(doW K w c).2=0):WG u (doW K w c).1:=by
 unfold doW at e ⊢;simp only at e ⊢
 by_cases c1:c.kind=1
 ·rw[zWz c1] at e ⊢; exact zQz hK _ _ _ hw e
 rw[zWy c1] at e ⊢
 by_cases c2:c.kind=2
 ·rw[zWz c2]
  split
  ·rename_i h;exact zVu hw h
  ·exact hw
 rw[zWy c2] at e ⊢
 by_cases c3:c.kind=3
 ·rw[zWz c3];generalize (if 0<c.refs.length then { c.inv with tokens:=c.refs.map fun r=>ze8 K r w.handles } else c.inv)=v
  split
  ·rename_i h;exact zNh hw h
  ·exact hw
 ·rw[zWy c3];exact hw
theorem zSE{K:Tok}(hK:zdT K){u:Setup}:∀(l:List Command) (w:World),WG u w->(zdo K l w).2=0->WG u (zdo K l w).1:=by
 intro l
 induction l with
 | nil=>intro w hw _;exact hw
 | cons c l ih=>
  intro w hw e;unfold zdo at e ⊢
  by_cases c1:(doW K w c).2=0
  ·rw[zWy (fun q=>q c1)] at e ⊢;exact ih _ (zF4 hK hw c1) e
  ·rw[zWz c1] at e;exact absurd e c1
theorem zPa{u:Setup}(e:(zbq u).2=0):GI u (zbq u).1:=by
 unfold zbq at e ⊢
 split at e
 ·cases e
 rename_i c;rw[zWy c];simp only;have key:∀x:Int,0<=x->x<u.slots.toNat->∃s:Shard,zaw { zB with dir:=(zet u.slots u.live).1,epoch:=u.epoch,clock:=u.clock,nextID:=u.nextID,dead:=⟨0,⟨u.dead,[]⟩⟩,slots:=(List.range u.slots.toNat).map (fun i:Nat=>(⟨0,if (i:Int)<u.live then (zbD u.capacity ((zet u.slots u.live).1.l.getD i zcX).low ((zet u.slots u.live).1.l.getD i zcX).high).1 else (zc4 u.capacity).1⟩:Slot)),stripes:=List.replicate u.slots.toNat ⟨0,u.epoch,0,0⟩ } x=s/\(∃lo hi,s=(zbD u.capacity lo hi).1)\/zaw { zB with dir:=(zet u.slots u.live).1,epoch:=u.epoch,clock:=u.clock,nextID:=u.nextID,dead:=⟨0,⟨u.dead,[]⟩⟩,slots:=(List.range u.slots.toNat).map (fun i:Nat=>(⟨0,if (i:Int)<u.live then (zbD u.capacity ((zet u.slots u.live).1.l.getD i zcX).low ((zet u.slots u.live).1.l.getD i zcX).high).1 else (zc4 u.capacity).1⟩:Slot)),stripes:=List.replicate u.slots.toNat ⟨0,u.epoch,0,0⟩ } x=(zc4 u.capacity).1:=by
  intro x h0 h1;unfold zaw;simp only;rw[zWG,zWT,zZE zo];simp only[zXi,zXl]
  split
  ·exact⟨_,.inl ⟨rfl,_,_,rfl⟩⟩
  ·exact⟨zw,.inr rfl⟩
 have cz:∀(n lo hi ep:Int),zbP (zbD n lo hi).1 ep u.limit=(0,0):=by
  intro n lo hi ep;unfold zbD
  repeat' split
  all_goals (unfold zbP;split<;>simp [zu,zbs,zw,zar,zac])
 have cf:∀(n ep:Int),zbP (zc4 n).1 ep u.limit=(0,0):=by
  intro n ep;unfold zc4
  repeat' split
  all_goals (unfold zbP;split<;>simp [zu,zbs,zw,zar,zac])
 refine⟨fun x h0 h1 _=> ?_,fun x h0 h1=> ?_,fun m hm=>by cases hm⟩
 ·simp only[zWM,zY3] at h1;have hst:zK { zB with dir:=(zet u.slots u.live).1,epoch:=u.epoch,clock:=u.clock,nextID:=u.nextID,dead:=⟨0,⟨u.dead,[]⟩⟩,slots:=(List.range u.slots.toNat).map (fun i:Nat=>(⟨0,if (i:Int)<u.live then (zbD u.capacity ((zet u.slots u.live).1.l.getD i zcX).low ((zet u.slots u.live).1.l.getD i zcX).high).1 else (zc4 u.capacity).1⟩:Slot)),stripes:=List.replicate u.slots.toNat ⟨0,u.epoch,0,0⟩ } x=⟨0,u.epoch,0,0⟩:=by
   unfold zK;simp only;rw[zWG,zY5,zWz zo];rfl
  rw[hst];obtain⟨s,⟨q,lo,hi,e2⟩|q⟩:=key x h0 zo
  ·rw[q,e2];exact⟨zXh _,zm1 _ _ _ _,cz _ _ _ _⟩
  ·rw[q];exact⟨zXh _,zpu _ _,cf _ _⟩
 ·simp only[zWM,zY3] at h1;obtain⟨s,⟨q,lo,hi,e2⟩|q⟩:=key x h0 zo
  ·rw[q,e2];exact zm1 _ _ _ _
  ·rw[q];exact zpu _ _
theorem zBY{K:Tok}(hK:zdT K){u:Setup}{l:List Command}(e:(zew K u l).2=0):WG u (zew K u l).1:=by
 unfold zew at e ⊢
 by_cases c1:(zbq u).2=0
 ·rw[zWy (fun q=>q c1)] at e ⊢
  by_cases c2:400<l.length
  ·rw[zWz c2] at e;cases e
  rw[zWy c2] at e ⊢;refine zSE hK l _ ?_ e;have hu:zav u=true:=by
   unfold zbq at c1
   split at c1
   ·cases c1
   ·rename_i c;exact zZH c
  exact⟨{ hu:=hu,su:=rfl,ar:=ztI c1,ts:=fun t h=>(by cases h),tl:=by simp [zaA],st:=by simp [zaA] },⟨zPa c1,fun i h=>(by cases h),fun t h=>(by cases h)⟩⟩
 ·rw[zWz c1] at e;exact absurd e c1
def zbm(ep lim:Int)(l:List Slot):Int×Int:=l.foldl (fun p x=>(p.1+(zbP x.shard ep lim).1,p.2+(zbP x.shard ep lim).2)) (0,0)
theorem zEU{B ep lim:Int}{s:Shard}(h:SM B s)(hb:B<ep):zbP s ep lim=(0,0):=by
 unfold zbP
 split
 ·have e1:(zu s.ready).filter (rdQ ep lim)=[]:=by
     rw[zY2];intro m hm;have:=h.1 m hm;unfold rdQ;simp only[zWS,decide_eq_true_eq];omega
  have e2:s.leases.l.filter (lsQ ep)=[]:=by
   rw[zY2];intro y hy;have:=h.2 y hy;unfold lsQ;simp only[decide_eq_true_eq];omega
  unfold zbs;rw[zYq,zYq,e1,e2];rfl
 ·rfl
theorem zUS{u:Setup}{a:zg}(hu:1<=u.slots/\u.slots<=6)(hA:AI u a)(hG:GI u a){c:Nat}(hc:c<a.slots.length)(hq:(zK a c).seq % 2=0)(p:Int×Int)(hp:(0<=p.1/\p.1<=1099511627776 * c)/\0<=p.2/\p.2<=1099511627776 * c):
    zg2 a.epoch p (zK a c)=(p.1+(zbP (zaw a c) a.epoch u.limit).1,p.2+(zbP (zaw a c) a.epoch u.limit).2)/\((0<=(zg2 a.epoch p (zK a c)).1/\(zg2 a.epoch p (zK a c)).1<=1099511627776 * (c+1:Nat))/\0<=(zg2 a.epoch p (zK a c)).2/\(zg2 a.epoch p (zK a c)).2<=1099511627776 * (c+1:Nat)):=by
 have hst:=hA.st;have hm:zK a c∈a.stripes:=by
  unfold zK;rw[zWG,zXb,zWF zo];exact zWH _
 have hs:=hA.sp _ hm;unfold zjx at hs;have hs:=of_decide_eq_true hs;obtain⟨h1,h2,h3⟩:=hG.ev c zo zo hq;have hu6:=hu.2;have hsl:=hA.sl;have n1:=hs.2.2.1;have n2:=hs.2.2.2;unfold zbo at n1 n2;unfold zg2
 by_cases c1:(zK a c).epoch=a.epoch
 ·rw[zWz ⟨c1,hs.1,hs.2.2.1,hs.2.2.2⟩, <- c1,h3,wr zo,wr zo];refine⟨rfl,⟨?_,?_⟩,?_,?_⟩<;>simp only<;>omega
 ·rw[zWy (fun q=>c1 q.1),zEU h2 zo];refine⟨by simp,⟨?_,?_⟩,?_,?_⟩<;>omega
theorem zU4{u:Setup}{a:zg}(hu:1<=u.slots/\u.slots<=6)(hA:AI u a)(hG:GI u a)(hq:∀c:Nat,c<a.slots.length->(zK a c).seq % 2=0):zbb a.stripes a.epoch a.stripes.length=zbm a.epoch u.limit a.slots:=by
 have hst:=hA.st;have key:∀i:Nat,i<=a.slots.length->zbb a.stripes a.epoch i=zbm a.epoch u.limit (a.slots.take i)/\((0<=(zbb a.stripes a.epoch i).1/\(zbb a.stripes a.epoch i).1<=1099511627776 * i)/\0<=(zbb a.stripes a.epoch i).2/\(zbb a.stripes a.epoch i).2<=1099511627776 * i):=by
  intro i
  induction i with
  | zero=>intro _;exact⟨rfl,by simp [zbb]⟩
  | succ i ih=>
   intro hi;have h1:i<a.stripes.length:=by omega
   obtain⟨ih1,ih2⟩:=ih zo;have hs:=zUS hu hA hG (c:=i) zo (hq i zo) (zbb a.stripes a.epoch i) ih2;rw[zsT a.epoch h1];have e1:zK a i=a.stripes[i]:=by unfold zK;rw[zWG,zXb,zWF h1];rfl
   have e2:zaw a i=a.slots[i].shard:=by unfold zaw;rw[zWG,zXb,zWF (by omega:i<a.slots.length)];rfl
   rw[e1,e2] at hs;refine⟨?_,hs.2⟩;rw[hs.1,ih1];unfold zbm;rw[zYG,zWF (by omega:i<a.slots.length),zZi];rfl
 have:=(key a.slots.length (zW5 _)).1;rw[zYq] at this;rw[hst];exact this
def BE(l:List Stripe)(a:zg):Prop:=∀j:Nat,j<l.length->(l.getD j zbh).seq<=(zK a j).seq/\((l.getD j zbh).seq=(zK a j).seq->l.getD j zbh=zK a j)
theorem BE.mono{l:List Stripe}{a b:zg}(h:BE l a)(hl:l.length<=a.slots.length)(hm:Mo a b):BE l b:=by
 intro j hj;obtain⟨h1,h2⟩:=h j hj;obtain⟨m1,m2⟩:=hm.sq j zo zo;exact⟨by omega,fun e=>(h2 zo).trans (m2 zo)⟩
structure C1(u:Setup)(a:zg)(t:zi):Prop where
 e:t.loaded<=a.epoch
 l:(t.first.length:Int)<=u.slots
 b:BE t.first a
structure C2(u:Setup)(R:Int->zg->Prop)(a:zg)(t:zi)(x:zg):Prop where
 r:R t.id x
 ai:AI u x
 gi:GI u x
 m:Mo x a
 e:t.loaded<=x.epoch
 l:(t.first.length:Int)=u.slots
 b:BE t.first x
 q:zco t.first=true
 s:∀j:Nat,j<t.second.length->(zK x j).seq<=(t.second.getD j zbh).seq
def CH(u:Setup)(R:Int->zg->Prop)(a:zg)(t:zi):Prop:=
 (t.pc=1->C1 u a t)/\(t.pc=2->t.second=[]->C1 u a t/\(t.first.length:Int)=u.slots/\zco t.first=true)/\
  (t.pc=2->t.second≠[]->∃x,C2 u R a t x)/\(t.pc=3->t.first=t.second/\∃x,C2 u R a t x)
theorem C1.mono{u:Setup}{a b:zg}{t:zi}(hA:AI u a)(h:C1 u a t)(hm:Mo a b):C1 u b t:=⟨zYA h.e hm.ep,h.l,h.b.mono (by have:=hA.sl;have:=h.l;omega) hm⟩
theorem C2.mono{u:Setup}{R:Int->zg->Prop}{a b x:zg}{t:zi}(h:C2 u R a t x)(hm:Mo a b):C2 u R b t x:={ h with m:=h.m.trans hm }
theorem CH.mono{u:Setup}{R:Int->zg->Prop}{a b:zg}{t:zi}(hA:AI u a)(h:CH u R a t)(hm:Mo a b):CH u R b t:=
 ⟨fun p=>(h.1 p).mono hA hm,fun p q=>⟨(h.2.1 p q).1.mono hA hm,(h.2.1 p q).2⟩,fun p q=>let ⟨x,hx⟩:=h.2.2.1 p q;⟨x,hx.mono hm⟩,fun p=>let ⟨e,x,hx⟩:=h.2.2.2 p;⟨e,x,hx.mono hm⟩⟩
theorem C2.eq{u:Setup}(hu:1<=u.slots/\u.slots<=6){R:Int->zg->Prop}{a x:zg}{t:zi}(h:C2 u R a t x)(he:t.first=t.second)(hp:a.epoch=t.loaded):
    x.epoch=a.epoch/\t.first=x.stripes/\zbb t.first a.epoch t.first.length=zbm a.epoch u.limit x.slots/\zco x.stripes=true:=by
 have hep:x.epoch=a.epoch:=by have:=h.e;have:=h.m.ep;omega
 have hsl:=h.ai.sl;have hst:=h.ai.st;have hl:=h.l;have hf:t.first=x.stripes:=by
  refine zY1 zo fun j h1 h2=> ?_;obtain⟨b1,b2⟩:=h.b j h1;have b3:=h.s j (by rw[<- he];exact h1);rw[<- he] at b3;have:=b2 zo;rw[zWG,zWF h1] at this;unfold zK at this;rw[zWG,zXb,zWF h2] at this;exact this
 have hq:zco x.stripes=true:=by rw[<- hf];exact h.q
 refine⟨hep,hf,?_,hq⟩;rw[hf, <- hep];refine zU4 hu h.ai h.gi fun c hc=> ?_;have hm:zK x c∈x.stripes:=by
  unfold zK;rw[zWG,zXb,zWF zo];exact zWH _
 unfold zco at hq;have hq:=zW2.1 hq _ hm;have hs:=h.ai.sp _ hm;unfold zjx at hs;have hs:=(of_decide_eq_true hs).1;unfold zbo at hs;unfold ze1 at hq;simp only[zXt,decide_eq_false_iff_not] at hq;rw[zYQ hs.1] at hq;omega
theorem zAu{a:zg}{i:Nat}(h:(zaJ a i).2=0):(zaJ a i).1=zK a i/\(i:Int)<a.slots.length:=by
 unfold zaJ at h ⊢
 split at h
 ·rename_i c;rw[zWz c];unfold zcr at c;exact⟨rfl,(of_decide_eq_true c).2⟩
 ·cases h
theorem BE.snoc{l:List Stripe}{a:zg}{x:Stripe}(h:BE l a)(hx:x=zK a l.length):BE (l++[x]) a:=by
 intro j hj;simp only[zWJ,zW6] at hj
 by_cases c:j<l.length
 ·rw[zWG,zXE c, <- zWG];exact h j c
 ·have:j=l.length:=by omega
  subst this;rw[zWG,zXz zo,zYj];simp only[zXT,zXl];rw[hx];exact⟨zXh _,fun _=>rfl⟩
def CE(u:Setup)(R:Int->zg->Prop)(v:List Event)(t t':zi):Prop:=
 (v=[]/\t'.done=t.done)\/∃x,R t.id x/\zco x.stripes=true/\v=[{ evT t 8 t.id with epoch:=x.epoch,ready:=(zbm x.epoch u.limit x.slots).1,leased:=(zbm x.epoch u.limit x.slots).2 }]/\t'.results=t.results++[{ z5 with ready:=(zbm x.epoch u.limit x.slots).1,leased:=(zbm x.epoch u.limit x.slots).2 }]
theorem zxR {u:Setup} {R:Int->zg->Prop} {a:zg} {t:zi} {n:Int} (hu:1<=u.slots/\u.slots<=6) (hA:AI u a) (hG:GI u a) (hs:t.setup=u) (hR:R n a) (h:CH u R a t) (hp:0<=t.pc/\t.pc<=3) (h1:t.pc=1->t.second=[])
    (e:(zaj a t n).2.2.2=0):CH u R a (zaj a t n).2.1/\CE u R (zaj a t n).2.2.1 t (zaj a t n).2.1:=by
 obtain⟨k1,k2,k3,k4⟩:=h;have hsl:=hA.sl;unfold zaj at e ⊢
 by_cases c:zX t 7 7=0
 ·rw[zWy (fun q=>q c)] at e ⊢
  by_cases p0:t.pc=0
  ·rw[zWz p0];refine⟨⟨fun _=>⟨zXh _,by simp only[zWK];omega,fun j hj=>by cases hj⟩,fun q=> ?_,fun q=> ?_,fun q=> ?_⟩,.inl ⟨rfl,rfl⟩⟩
   all_goals (simp only at q;omega)
  rw[zWy p0] at e ⊢
  by_cases p1:t.pc=1
  ·rw[zWz p1] at e ⊢;simp only at e ⊢;obtain⟨d1,d2,d3⟩:=k1 p1
   by_cases c1:(zaJ a t.first.length).2=0
   ·rw[zWy (fun q=>q c1)] at e ⊢;obtain⟨l1,l2⟩:=zAu c1;have hb:BE (t.first++[(zaJ a t.first.length).1]) a:=d3.snoc l1;have hC:∀pc,C1 u a { t with first:=t.first++[(zaJ a t.first.length).1],pc:=pc }:=fun pc=>⟨d1,by simp only[zWJ,zW6];omega,hb⟩;refine⟨⟨fun _=>hC _,fun q _=>⟨hC _,?_⟩,fun q q2=>absurd (h1 p1) q2,fun q=> ?_⟩,.inl ⟨rfl,rfl⟩⟩
    ·simp only at q ⊢;rw[hs] at q
     split at q
     ·rename_i g1
      split at q
      ·rename_i g2;exact⟨g1,g2⟩
      ·omega
     ·omega
    ·simp only at q
     split at q
     ·split at q<;>omega
     ·omega
   ·rw[zWz c1] at e;exact absurd e c1
  rw[zWy p1] at e ⊢
  by_cases p2:t.pc=2
  ·rw[zWz p2] at e ⊢;simp only at e ⊢
   by_cases c1:(zaJ a t.second.length).2=0
   ·rw[zWy (fun q=>q c1)] at e ⊢;obtain⟨l1,l2⟩:=zAu c1;have key:∀pc,∃x,C2 u R a { t with id:=if t.second.length=0 then n else t.id,second:=t.second++[(zaJ a t.second.length).1],pc:=pc } x:=by
     intro pc
     by_cases c2:t.second=[]
     ·obtain⟨⟨d1,d2,d3⟩,d4,d5⟩:=k2 p2 c2;refine⟨a,?_,hA,hG,Mo.refl a,d1,d4,d3,d5,fun j hj=> ?_⟩
      ·simp only[c2,zWK,if_true];exact hR
      ·simp only[c2,zWW,zW6,zWK] at hj l1 ⊢;have:j=0:=by omega
       subst this;simp only[List.getD_cons_zero];have l1':(zaJ a ((0:Nat):Int)).1=zK a ((0:Nat):Int):=l1;rw[l1'];exact zXh _
     ·obtain⟨x,hx⟩:=k3 p2 c2;have hne:¬t.second.length=0:=fun q=>c2 (zXk.1 q);refine⟨x,{ r:= ?_,ai:=hx.ai,gi:=hx.gi,m:=hx.m,e:=hx.e,l:=hx.l,b:=hx.b,q:=hx.q,s:=fun j hj=> ?_ }⟩
      ·simp only[hne,if_false];exact hx.r
      ·simp only[zWJ,zW6] at hj ⊢
       by_cases cj:j<t.second.length
       ·rw[zWG,zXE cj, <- zWG];exact hx.s j cj
       ·have:j=t.second.length:=by omega
        subst this;rw[zWG,zXz zo,zYj];simp only[zXT,zXl];rw[l1];exact (hx.m.sq _ zo (by have:=hx.m.n;omega)).1
    refine⟨⟨fun q=> ?_,fun q q2=> ?_,fun q q2=>key _,fun q=>⟨?_,key _⟩⟩,.inl ⟨rfl,rfl⟩⟩
    ·simp only at q
     split at q
     ·split at q<;>omega
     ·omega
    ·simp at q2
    ·simp only at q ⊢
     split at q
     ·split at q
      ·rename_i g;exact g
      ·omega
     ·omega
   ·rw[zWz c1] at e;exact absurd e c1
  rw[zWy p2] at e ⊢;obtain⟨e3,x,hx⟩:=k4 zo
  by_cases c1:a.epoch≠t.loaded
  ·rw[zWz c1];refine⟨⟨fun q=> ?_,fun q=> ?_,fun q=> ?_,fun q=> ?_⟩,.inl ⟨rfl,rfl⟩⟩
   all_goals (simp only at q;omega)
  ·rw[zWy c1];have c1:=zWO.1 c1;obtain⟨f1,f2,f3,f4⟩:=hx.eq hu e3 c1;simp only;rw[f3, <- f1];refine⟨⟨fun q=> ?_,fun q=> ?_,fun q=> ?_,fun q=> ?_⟩,.inr ⟨x,hx.r,f4,rfl,rfl⟩⟩
   all_goals exact absurd q (by show ¬(0:Int)=_;omega)
 ·rw[zWz c] at e;exact absurd e c
theorem zen(n lo hi:Int):zh G 85 [.d (.int .i64 n),.d (.int .i64 lo),.d (.int .i64 hi)] []=some (.d (.bool (inI n lo hi)),[]):=by
 unfold inI;rw[zO zMx (by simp)];simp -implicitDefEqProofs (maxSteps:=4000000) (disch:=omega) only[zpX,zq,go_sem, *];(try simp only[zPr]);repeat' (first|done|rfl|((first|refine za5 (fun hq=> ?_) (fun hq=> ?_)|refine zbd (fun hq=> ?_) (fun hq=> ?_))<;>(try (first|(exfalso;omega)|contradiction))<;>(try simp -implicitDefEqProofs (maxSteps:=4000000) (disch:=omega) only[zq,go_sem, *])<;>(try simp only[zPr])));(all_goals try rfl);(all_goals try (repeat' (first|done|rfl|(exfalso;omega)|contradiction|(refine za6 (fun hq=> ?_) (fun hq=> ?_)))))
 simp only[zZr]
theorem zsI(a:zg)(i:Int)(hL:a.slots.length<=1000):zh G 70 [.d (zn a),.d (.int .i64 i)] []=some (.d (.bool (zcr a i)),[]):=by
 unfold zcr;simp only[zn];rw[zO zMy (by simp)];simp -implicitDefEqProofs (maxSteps:=4000000) (disch:=omega) only[zpY,zq,go_sem, *];(try simp only[zPr]);repeat' (first|done|rfl|((first|refine za5 (fun hq=> ?_) (fun hq=> ?_)|refine zbd (fun hq=> ?_) (fun hq=> ?_))<;>(try (first|(exfalso;omega)|contradiction))<;>(try simp -implicitDefEqProofs (maxSteps:=4000000) (disch:=omega) only[zq,go_sem, *])<;>(try simp only[zPr])));(all_goals try rfl);(all_goals try (repeat' (first|done|rfl|(exfalso;omega)|contradiction|(refine za6 (fun hq=> ?_) (fun hq=> ?_)))))
 simp only[zZr]
theorem zmJ{a:zg}{i:Int}(h:zcr a i=true):0<=i/\i<a.slots.length:=of_decide_eq_true h
theorem zNU(a:zg)(i:Int)(hL:a.slots.length<=1000):zh G 24 [.d (zn a),.d (.int .i64 i)] []=some (.d (.tup [zj (zfK a i).1,.int .i64 (zfK a i).2]),[]):=by
 have h:=zsI a i hL;unfold zfK
 cases c:zcr a i with
 | true=>
  have hq:=zmJ c;rw[c] at h;simp only[zn,zj,if_true] at *;have zk0:=zd0.eq_1;exact zW
 | false=>
  rw[c] at h;simp only[zn,zj,zw,zar,zac,zWA,zWL,if_false] at *;exact zW
theorem zrA(a:zg)(i:Int)(hL:a.slots.length<=1000)(hs:a.stripes.length=a.slots.length):zh G 26 [.d (zn a),.d (.int .i64 i)] []=some (.d (.tup [zG (zaJ a i).1,.int .i64 (zaJ a i).2]),[]):=by
 have h:=zsI a i hL;unfold zaJ
 cases c:zcr a i with
 | true=>
  have hq:=zmJ c;rw[c] at h;simp only[zn,if_true] at *;exact zW
 | false=>
  rw[c] at h;simp only[zn,zG,zbh,zWA,zWL,if_false] at *;exact zW
theorem zCt(a:zg)(i k:Int)(hL:a.slots.length<=1000):zh G 81 [.d (zn a),.d (.int .i64 i),.d (.int .i64 k)] []=some (.d (.int .i64 (zd8 a i k)),[]):=by
 have h:=zsI a i hL;have ht:=zpf k;unfold zd8
 cases c:zcr a i with
 | true=>
  have hq:=zmJ c;rw[c] at h;generalize zfW k=tb at *
  cases tb
  ·simp only[zn,or_true,if_true] at *;exact zW
  ·simp only[zn,zXB,zXZ,if_false] at *;have zk0:=zd0.eq_1;exact zW
 | false=>
  rw[c] at h;simp only[zn,zYP,if_true] at *;exact zW
theorem zNT(a:zg):zh G 315 [.d (zn a)] []=some (.d (zP a.dead.dead),[]):=by
 simp only[zn,zP];exact zW
theorem zoq(a:zg):zh G 158 [.d (zn a)] []=some (.d (zat a.dir),[]):=by
 simp only[zn,zat];exact zW
theorem zkm(a:zg)(w:Int):zh G 149 [.d (zn a),.d (.int .i64 w)] []=some (.d (.tup [.int .i64 (zgP a w).1,.int .i64 (zgP a w).2]),[]):=by
 unfold zgP;simp only[zn];exact zW
theorem zxC(a:zg)(w old next:Int):zh G 152 [.d (zn a),.d (.int .i64 w),.d (.int .i64 old),.d (.int .i64 next)] []=some (.d (.tup [zn (casWord a w old next).1,.bool (casWord a w old next).2.1,.int .i64 (casWord a w old next).2.2]),[]):=by
 have hl:=zkm a w;have h1:=zen next 0 65536
 have h2:=zen next 1 1073741824
 unfold casWord;unfold inI at h1 h2;generalize zgP a w=v at *;obtain⟨v1,v2⟩:=v
 by_cases c1:w≠1/\w≠3
 ·rw[zWz c1];simp only[zn,zB,zWA] at *;exact zW
 rw[zWy c1]
 by_cases c2:w=1/\¬(0<=next/\next<=65536)\/w=3/\¬(1<=next/\next<=1073741824)
 ·rw[zWz c2];simp only[zn,zB,zWA] at *
  rcases c2 with ⟨d1,d2⟩|⟨d1,d2⟩
  ·subst d1;rw[zW0 d2] at h1;clear c1;exact zW
  ·subst d1;rw[zW0 d2] at h2;clear c1;exact zW
 rw[zWy c2]
 by_cases c3:v1≠old
 ·rw[zWz c3];simp only[zn] at *
  by_cases d1:w=1
  ·subst d1;rw[zWY zo] at h1;clear c1 c2;exact zW
  ·have d2:w=3:=by omega
   subst d2;rw[zWY zo] at h2;clear c1 c2;exact zW
 rw[zWy c3];have c3:v1=old:=by omega
 subst c3;simp only[zn] at *
 by_cases d1:w=1
 ·subst d1;rw[zWY zo] at h1;clear c1 c2;exact zW
 ·have d2:w=3:=by omega
  subst d2;rw[zWY zo] at h2;clear c1 c2;exact zW
theorem zVq(a:zg)(b:Int)(hc:0<=a.clock/\a.clock<=1073741824):zh G 202 [.d (zn a),.d (.int .i64 b)] []=some (.d (.tup [zn (zea a b).1,.int .i64 (zea a b).2]),[]):=by
 have h1:=zen b 0 1099511627776;unfold zea;unfold inI at h1;simp only[zn] at *;have zk0:=zB.eq_1;have zk1:=za3.eq_1;exact zW
theorem zCn(a:zg)(i k:Int)(s:Stripe)(hL:a.slots.length<=1000)(hs:a.stripes.length=a.slots.length):zh G 36 [.d (zn a),.d (.int .i64 i),.d (.int .i64 k),.d (zG s)] []=some (.d (.tup [zn (stStripe a i k s).1,.int .i64 (stStripe a i k s).2]),[]):=by
 have h:=zCt a i k hL;have e1:=zen s.seq 0 1099511627776;have e2:=zen s.epoch 0 1099511627776;have e3:=zen s.ready 0 1099511627776;have e4:=zen s.leased 0 1099511627776;unfold stStripe
 by_cases c:zd8 a i k=0
 ·have hq:0<=i/\i<a.slots.length:=by
     unfold zd8 at c
     split at c
     ·cases c
     ·rename_i q;exact zmJ (by simpa using fun z=>q (.inl z))
  rw[c] at h;rw[zWy (fun z=>z c)];have hne:¬a.stripes.length=0:=by omega
  have hsq:zjx s=(inI s.seq 0 1099511627776&&(inI s.epoch 0 1099511627776&&(inI s.ready 0 1099511627776&&inI s.leased 0 1099511627776))):=by
   unfold zjx zbo inI;simp only[zZr]
  rw[hsq];clear hsq c;generalize inI s.seq 0 1099511627776=b1 at *;generalize inI s.epoch 0 1099511627776=b2 at *;generalize inI s.ready 0 1099511627776=b3 at *;generalize inI s.leased 0 1099511627776=b4 at *
  cases b1
  ·simp only[zXr,if_true,zn,zG,zB,zWA] at *;exact zW
  cases b2
  ·simp only[zXr,zXW,if_true,zn,zG,zB,zWA] at *;exact zW
  cases b3
  ·simp only[zXr,zXW,if_true,zn,zG,zB,zWA] at *;exact zW
  cases b4
  ·simp only[zXW,if_true,zn,zG,zB,zWA] at *;exact zW
  ·simp only[zXV,zXB,if_false,zn,zG] at *;exact zW
 ·rw[zWz c];generalize zd8 a i k=v at *;simp only[zn,zB,zG] at *;exact zW
theorem zUt(a:zg)(s:ziz)(n:Int):zh G 296 [.d (zn a),.d (zhf s),.d (.int .i64 n)] []=some (.d (.tup [zhf (zcL a s n).1,.int .i64 (zcL a s n).2]),[]):=by
 have h1:=zkm a 1;have h2:=zkm a 2;simp only[zgP,if_true,Int.reduceEq,if_false] at h1 h2;unfold zcL;generalize a.epoch=ep at *;generalize a.clock=ck at *;simp only[zhf] at *;have zk0:=zhG.eq_1;exact zW
theorem zTF(cells:List Int)(lim:Int)(hL:cells.length<=1000):zh G 219 [.d (.sl (zt cells)),.d (.int .i64 lim)] []=some (.d (.tup [zr (zcp cells lim).1,.int .i64 (zcp cells lim).2]),[]):=by
 have h:=zNJ cells zo;unfold zcp;generalize zgk cells=r at *;obtain⟨l,e⟩:=r;simp only[zcQ] at *
 by_cases c:e=0
 ·subst c;have zk0:=zr.eq_1;have zk1:=zbU.eq_1;exact zW
 ·rw[zWz c];have zk0:=zr.eq_1;have zk1:=zbU.eq_1;exact zW
theorem zfD(s:Section)(ph:Int):zh G 281 [.d (zr s),.d (.int .i64 ph)] []=some (.d (zr (zI s ph)),[]):=by
 simp only[zr,zI];exact zW
theorem zzo(s:Section):zh G 307 [.d (zr s)] []=some (.d (.tup [zr (zcG s).1,.int .i64 (zcG s).2]),[]):=by
 have h:=zNH s.lock;have he:=zfD { s with lock:=(zb5 s.lock).1 } 8;unfold zcG;generalize zb5 s.lock=r at *;obtain⟨l,e⟩:=r;unfold zI at *;simp only[zr,zcQ] at *;exact zW
theorem zpm(a:zg)(s:Section):zh G 282 [.d (zn a),.d (zr s)] []=some (.d (.tup [zn (zcl a s).1,zr (zcl a s).2.1,.int .i64 (zcl a s).2.2]),[]):=by
 have h:=zzo s;have he:=zfD s 7;unfold zcl;generalize zcG s=r at *;obtain⟨s2,e⟩:=r;generalize zI s 7=s3 at *
 by_cases c:0<s.stripes.length
 ·rw[zWz c];have sz_s3:=zej s3;generalize zr s3=D_s3 at *;simp only[zr] at *;exact zW
 ·rw[zWy c];simp only;have sz_s2:=zej s2;generalize zr s2=D_s2 at *;simp only[zr] at *;exact zW
theorem zhE(s:Section):zh G 209 [.d (zr s)] []=some (.agg [.d (.sl (s.shards.map zj)),.d (.int .i64 s.dead.cap),.d (.sl (s.dead.l.map zk)),.xsl [],.xsl [],.xsl []],[]):=by
 simp only[zr];exact zW
def slP(n:Nat)(c:Int):Bool:=decide (c<(n:Int))
def zmI(a:zg)(s:Section)(i:Nat):St:=⟨[(2,.ref 2 0 0),(3,.ref 3 0 0),(5,.d (.int .i64 (zbs (slP a.slots.length) s.lock.cells i:Nat))),(6,.d (.int .i64 i))],[(2,.row [.d (zn a)]),(3,.row [.d (zr s)])]⟩
theorem zUs(a:zg)(s:Section)(hL:s.lock.cells.length<=1000):∀i,i<=s.lock.cells.length->zN G [] zon (zmI a s i)=some (.exit 0,⟨[(5,.d (.int .i64 (zbs (slP a.slots.length) s.lock.cells s.lock.cells.length:Nat)))],[]⟩):=by
 refine zaB (fun i=>s.lock.cells.length - i) (fun i=>i<=s.lock.cells.length) (zmI a s) (fun _=>_) fun i hi L ih=> ?_;have hle:=zp4 (slP a.slots.length) s.lock.cells i
 by_cases h0:i<s.lock.cells.length
 ·have i1:=ih (i+1) zo zo;clear ih;unfold zmI at i1 ⊢;rw[zp5 _ h0] at i1;generalize zbs (slP a.slots.length) s.lock.cells i=k at *;generalize zbs (slP a.slots.length) s.lock.cells s.lock.cells.length=kk at *;unfold slP at i1;simp only[zon,zn,zr] at i1 ⊢
  by_cases c:s.lock.cells[i]<(a.slots.length:Int)
  ·rw[zWY c] at i1;simp only[if_true] at i1;simp only[zNr,zp] at i1;exact zS
  ·rw[zW0 c] at i1;simp only[zWL,if_false,zX1] at i1;simp only[zNr,zp] at i1;exact zS
 ·clear ih;have:i=s.lock.cells.length:=by omega
  subst this;simp only[zmI,zon,zn,zr];exact zS
theorem zCd(a:zg)(s:Section)(hL:s.lock.cells.length<=1000):zh G 293 [.d (zn a),.d (zr s)] []=some (.d (.int .i64 (zds a s)),[]):=by
 have h:=zUs a s hL 0 zo;have e:(zds a s)=(zbs (slP a.slots.length) s.lock.cells s.lock.cells.length:Nat):=by
  unfold zds zbs slP;rw[zYq]
 rw[e];generalize zbs (slP a.slots.length) s.lock.cells s.lock.cells.length=kk at *;simp only[zmI,zbs,zXv,zYv,zWK] at h;simp only[zNr,zp] at h;exact zW
theorem zUX(s:Section)(k:Int)(hL:s.out.order.length<=3):zh G 318 [.d (zr s),.d (.int .i64 k)] []=some (.d (.bool (zg3 s k)),[]):=by
 have hl:zN G [] zrq ⟨[(1,.d (.int .i64 k)),(2,.ref 2 0 0),(5,.d (.int .i64 (0:Nat)))],[(2,.row [.d (zr s)])]⟩=some (if (List.range s.out.order.length).all (fun i=> !decide (s.out.order.getD i 0=k))=true then (.exit 0,⟨[],[]⟩) else (.ret,⟨[(4,.d (.bool true))],[]⟩)):=by
  refine zd5 (G:=G) s.out.order.length (fun i=> !decide (s.out.order.getD i 0=k)) (fun i=>⟨[(1,.d (.int .i64 k)),(2,.ref 2 0 0),(5,.d (.int .i64 i))],[(2,.row [.d (zr s)])]⟩) _ _ fun i hi L=> ?_;simp only[zrq,zr]
  by_cases h0:i<s.out.order.length
  ·rw[zWz h0,zq h0]
   by_cases c:s.out.order[i]=k
   ·subst c;exact zS
   ·exact zS
  ·rw[zWy h0];exact zS
 have e:zg3 s k= !((List.range s.out.order.length).all (fun i=> !decide (s.out.order.getD i 0=k))):=by
  unfold zg3;apply zXm.2;simp only[zXG,decide_eq_true_eq,zXt,List.all_eq_false,zXx,Bool.not_eq_false',zYs,zZI];constructor
  ·rintro⟨x,hx,rfl⟩;obtain⟨i,hi,rfl⟩:=zYS.1 hx;exact⟨i,hi,by rw[zq hi]⟩
  ·rintro⟨i,hi,h⟩;rw[zq hi] at h;exact⟨_,zWH hi,by simpa using h⟩
 rw[e];generalize (List.range s.out.order.length).all (fun i=> !decide (s.out.order.getD i 0=k))=b at *;simp only[zr] at *;simp only[zNr,zp] at hl
 cases b
 ·simp only[zWL,if_false] at hl;exact zW
 ·simp only[if_true] at hl;exact zW
theorem zO5(c:Int):zh G 96 [.d (.int .i64 c)] []=some (.d (.tup [zP (if c<1\/24<c then za3 else ⟨c,[]⟩),.int .i64 (if c<1\/24<c then 1 else 0)]),[]):=by
 by_cases h:c<1\/24<c
 ·rw[zWz h,zWz h];simp only[zP,za3,zWA];exact zW
 ·rw[zWy h,zWy h];simp only[zP,za3,zWA];exact zW
def zkW(l:List Message)(i:Nat):St:=⟨[(0,.d (.sl (l.map zk))),(3,.d (.int .i64 i))],[]⟩
def zmK(l:List Message)(i:Nat):zT×St:=if zch (l.drop i)≠0 then (.ret,⟨[(2,.d (.int .i64 (zch (l.drop i))))],[]⟩) else (.exit 0,⟨[(0,.d (.sl (l.map zk)))],[]⟩)
theorem zUu(l:List Message)(h1:l.length<=1000):∀i,i<=l.length->zN G [] zoc (zkW l i)=some (zmK l i):=by
 refine zaB (fun i=>l.length - i) (fun i=>i<=l.length) (zkW l) (fun i=>some (zmK l i)) fun i hi L ih=> ?_
 by_cases h0:i<l.length
 ·have i1:=ih (i+1) zo zo;clear ih;have hv:=zih l[i];unfold zmK at i1 ⊢;rw[zyQ h0];unfold zkW at i1;generalize zch (l.drop (i+1))=fe at *;simp only[zkW,zoc];simp only[zNr,zp] at i1;generalize zak l[i]=v at *
  by_cases c:v=0
  ·subst c;simp only[ne_eq,zWR,if_false];exact zS
  ·rw[zWz c,zWz c];clear i1;exact zS
 ·clear ih;have:i=l.length:=by omega
  subst this;unfold zmK;rw[zXp];simp only[zkW,zch,ne_eq,zWR,if_false,zoc];exact zS
def d8S(l:List Message)(i:Nat):St:=⟨[(0,.d (.sl (l.map zk))),(5,.d (.int .i64 i))],[]⟩
def d8R(l:List Message)(i:Nat):zT×St:=if zfk l i=true then (.ret,⟨[(2,.d (.int .i64 10))],[]⟩) else (.exit 2,⟨[],[]⟩)
theorem zGf(l:List Message)(h1:l.length<=1000):∀i,i<=l.length->zN G [] zod (d8S l i)=some (d8R l i):=by
 refine zaB (fun i=>l.length - i) (fun i=>i<=l.length) (d8S l) (fun i=>some (d8R l i)) fun i hi L ih=> ?_
 by_cases h0:i<l.length
 ·have i1:=ih (i+1) zo zo;clear ih;have hx:=ziZ l l[i].id zo;unfold d8R at i1 ⊢;rw[zrz _ h0];unfold d8S at i1;generalize zfk l (i+1)=fe at *;simp only[d8S,zod];simp only[zNr,zp] at i1;generalize zaF l l[i].id=q at *
  by_cases hv:q=i
  ·subst hv;simp only[ne_eq,zWR,decide_false,zX0];have zk0:=zk.eq_1;exact zS
  ·simp only[ne_eq,hv,zXd,decide_true,zYJ,if_true];clear i1;have zk0:=zk.eq_1;exact zS
 ·clear ih;unfold d8R;rw[zry _ h0];simp only[d8S,zod,zWL,if_false];exact zS
theorem zCf(l:List Message)(h:l.length<=1000):zh G 134 [.d (.sl (l.map zk))] []=some (.d (.int .i64 (zjw l)),[]):=by
 have h1:=zUu l h 0 zo;have h2:=zGf l h 0 zo;unfold zmK at h1;unfold d8R at h2;rw[zrx] at h2;simp only[zkW,zXg] at h1;simp only[d8S] at h2;unfold zjw;generalize zch l=fe at *;generalize zei (l.map (·.id))=du at *;simp only[zNr,zp] at h1 h2
 by_cases c:fe=0
 ·subst c;simp only[ne_eq,zWR,if_false] at *
  cases du
  ·simp only[zWL,if_false] at *;exact zW
  ·simp only[if_true] at *;exact zW
 ·rw[zWz c] at h1 ⊢;clear h2;exact zW
theorem zmV(d:Dead)(hL:d.l.length<=1000):zh G 89 [.d (zP d)] []=some (.d (.int .i64 (zcm d)),[]):=by
 have hs:=zCf d.l hL;unfold zcm;obtain⟨c,l⟩:=d;simp only[zP] at *;generalize zjw l=v at *;exact zW
theorem zBW(d:Dead)(hL:d.l.length<=1000):zh G 248 [.d (zP d)] []=some (.d (.int .i64 (zgt d)),[]):=by
 have hs:=zmV d hL;have hc:zcm d=0->1<=d.cap/\d.cap<=24:=by
  intro h;unfold zcm at h
  split at h
  ·cases h
  ·omega
 unfold zgt;generalize zcm d=v at *;obtain⟨c,l⟩:=d;simp only[zP] at *
 by_cases h:v=0
 ·have:=hc h;subst h;exact zW
 ·rw[zWz h];exact zW
theorem zQ0(d:Dead)(l:List Message)(hL:d.l.length<=1000)(h2:l.length<=1000)(h3:d.l.length+l.length<=1000):zh G 249 [.d (zP d),.d (.sl (l.map zk))] []=some (.d (.tup [zP (zhw d l).1,.int .i64 (zhw d l).2]),[]):=by
 have hv:=zmV d hL;have hr:=zBW d hL;have hs:=zCf (d.l++l) (by simpa using h3);unfold zhw;generalize zcm d=v at *;generalize zgt d=r at *;generalize zjw (d.l++l)=s at *;obtain⟨c,dl⟩:=d;simp only[zP] at *
 by_cases h:v=0
 ·subst h;simp only[ne_eq,zWR,if_false]
  by_cases c1:r<l.length
  ·rw[zWz c1];simp only[za3,zWA];exact zW
  ·rw[zWy c1]
   by_cases c2:s=0
   ·subst c2;simp only[ne_eq,zWR,if_false];simp only[zNr,zp] at hs;exact zW
   ·rw[zWz c2];simp only[za3,zWA];simp only[zNr,zp] at hs;exact zW
 ·rw[zWz h];simp only[za3,zWA];exact zW
theorem zUF(a:zg)(i k:Int)(s:Shard)(hL:a.slots.length<=1000)(q:zbc s):zh G 33 [.d (zn a),.d (.int .i64 i),.d (.int .i64 k),.d (zj s)] []=some (.d (.tup [zn (stSlot a i k s).1,.int .i64 (stSlot a i k s).2]),[]):=by
 have h:=zCt a i k hL;have hv:=zmo s q.1 q.2.1 q.2.2;unfold stSlot
 by_cases c:zd8 a i k=0
 ·have hq:0<=i/\i<a.slots.length:=by
     unfold zd8 at c
     split at c
     ·cases c
     ·rename_i q;exact zmJ (by simpa using fun z=>q (.inl z))
  rw[c] at h;rw[zWy (fun z=>z c)];have hne:¬a.slots.length=0:=by omega
  by_cases c1:zV s=0
  ·rw[c1] at hv;rw[zWy (fun z=>z c1)];clear c c1
   by_cases c2:s.ready.cells.length=(a.slots.getD i.toNat zdS).shard.ready.cells.length
   ·rw[zWy (fun z=>z c2)];rw[zq zo] at c2 ⊢;simp only[zn,zj] at *;have zk0:=zd0.eq_1;exact zW
   ·rw[zWz c2];rw[zq zo] at c2;simp only[zn,zj,zB] at *;have zk0:=zd0.eq_1;exact zW
  ·rw[zWz c1];generalize zV s=v at *;simp only[zn,zB,zj] at *;exact zW
 ·rw[zWz c];generalize zd8 a i k=v at *;simp only[zn,zB,zj] at *;exact zW
theorem zUE(a:zg)(k:Int)(d:Dead)(hL:d.l.length<=1000):zh G 39 [.d (zn a),.d (.int .i64 k),.d (zP d)] []=some (.d (.tup [zn (stDead a k d).1,.int .i64 (stDead a k d).2]),[]):=by
 have ht:=zpf k;have hv:=zmV d hL;unfold stDead;generalize zfW k=tb at *;generalize zcm d=v at *;simp only[zn,zP] at *
 cases tb
 ·have zk0:=zB.eq_1;have zk1:=za3.eq_1;exact zW
 ·simp only[zXB,if_false];have zk0:=zB.eq_1;have zk1:=za3.eq_1;exact zW
theorem zEs(a:zg)(v:Int)(d:zal)(hL:d.l.length<=4294967296):zh G 317 [.d (zn a),.d (.int .i64 v),.d (zat d)] []=some (.d (.tup [zn (casDir a v d).1,.bool (casDir a v d).2.1,.int .i64 (casDir a v d).2.2]),[]):=by
 have hv:=zkJ d hL;unfold casDir;generalize zbz d=w at *;simp only[zn,zat] at *
 by_cases c0:w=0
 ·subst c0;simp only[ne_eq,zWR,if_false]
  by_cases c:d.forward.length=a.slots.length
  ·rw[zWy (fun q=>q c)];exact zW
  ·rw[zWz c];have zk0:=zB.eq_1;have zk1:=za3.eq_1;exact zW
 ·rw[zWz c0];have zk0:=zB.eq_1;have zk1:=za3.eq_1;exact zW
theorem zUr(a:zg)(s:Section):0<=zds a s/\zds a s<=s.lock.cells.length:=by
 unfold zds;have:=zXJ (fun c=>decide (c<(a.slots.length:Int))) s.lock.cells;omega
theorem zDO(d:zal)(e:zeI):(zcZ d e).1.l.length<=d.l.length+2:=by
 unfold zcZ zsK zrQ
 (repeat' split)
 all_goals (try (simp [zeH];done))
 all_goals (try (simp;omega))
theorem zlm{s:Section}{i:Int}(h0:0<=i)(h1:i<s.lock.cells.length):zbO s i=s.lock.cells[i.toNat]'(by omega):=by
 unfold zbO;exact zq zo
theorem zOD(a:zg)(s:Section)(k:Int)(hL:a.slots.length<=1000)(hs:a.stripes.length=a.slots.length)(h0:0<=s.at_)(h1:s.at_<2 * s.lock.cells.length)(hc:s.lock.cells.length<=3)(h2:(s.stripes.length:Int)=(s.at_+1) / 2):zh G 294 [.d (zn a),.d (zr s),.d (.int .i64 k)] []=some (.d (.tup [zn (zez a s k).1,zr (zez a s k).2.1,.int .i64 (zez a s k).2.2]),[]):=by
 have e1:s.at_.tdiv 2=s.at_ / 2:=zX9 h0;have e2:s.at_.tmod 2=s.at_ % 2:=zYQ h0;unfold zez;rw[e1,e2,zlm zo zo]
 by_cases c:s.at_ % 2=0
 ·rw[zWz c];have hl:=zrA a (s.lock.cells[(s.at_ / 2).toNat]'(by omega)) hL hs;generalize zaJ a (s.lock.cells[(s.at_ / 2).toNat]'(by omega))=r at *;obtain⟨x,e⟩:=r;replace c:=zWN c;simp only[zr] at *;exact zW
 ·rw[zWy c];have hi:(s.at_ / 2).toNat<s.stripes.length:=by omega
  rw[zq hi];have hb:=zD2 (s.stripes[(s.at_ / 2).toNat]);replace c:=zWE c;generalize zff (s.stripes[(s.at_ / 2).toNat])=b at *;obtain⟨x,e⟩:=b
  by_cases c1:e=0
  ·subst c1;have hst:=zCn a (s.lock.cells[(s.at_ / 2).toNat]'(by omega)) k x hL hs;simp only[ne_eq,zWR,if_false];generalize stStripe a (s.lock.cells[(s.at_ / 2).toNat]'(by omega)) k x=r at *;obtain⟨a2,e⟩:=r;have hsl:=zCd a2 { s with stripes:=s.stripes.take (s.at_ / 2).toNat++[x],at_:=s.at_+1 } (by simpa using (by omega:s.lock.cells.length<=1000));have hen:=zfD { s with stripes:=s.stripes.take (s.at_ / 2).toNat++[x],at_:=s.at_+1 } 2;have hsn:=zUr a2 { s with stripes:=s.stripes.take (s.at_ / 2).toNat++[x],at_:=s.at_+1 };unfold zI at *;simp only at *;generalize zds a2 { s with stripes:=s.stripes.take (s.at_ / 2).toNat++[x],at_:=s.at_+1 }=sn at *
   by_cases c2:e=0/\s.at_+1=2 * sn
   ·rw[zWz c2];obtain⟨rfl,c3⟩:=c2;replace c3:=zWN c3;simp only[zr,zWQ,zWD,zWA] at *;exact zW
   ·rw[zWy c2];simp only[zr,zWQ,zWD,zWA] at *
    by_cases c4:e=0
    ·subst c4;have c5:(s.at_+1=2 * sn)=False:=zWE (fun q=>c2 ⟨rfl,q⟩);clear c2;exact zW
    ·clear c2;exact zW
  ·rw[zWz c1];simp only[zr] at *;exact zW
theorem zOf(a:zg)(s:Section)(hL:a.slots.length<=1000)(h0:0<=s.at_)(h1:s.at_<s.lock.cells.length)(hc:s.lock.cells.length<=3)(h2:s.shards.length<=100):zh G 295 [.d (zn a),.d (zr s)] []=some (.d (.tup [zn (zey a s).1,zr (zey a s).2.1,.int .i64 (zey a s).2.2]),[]):=by
 unfold zey;rw[zlm h0 h1];have hd:=zNT a
 by_cases c:(s.lock.cells[s.at_.toNat]'(by omega))=a.slots.length
 ·simp only[c,if_true]
  by_cases c2:s.at_+1=s.lock.cells.length
  ·have he:=zfD { s with dead:=a.dead.dead,at_:=s.at_+1 } 3;rw[zWz c2];replace c2:=zWN c2;unfold zI at *;simp only[zr,zn,zP] at *;exact zW
  ·rw[zWy c2];simp only[zr,zn,zP] at *;exact zW
 ·have hl:=zNU a (s.lock.cells[s.at_.toNat]'(by omega)) hL;simp only[c,if_false];generalize zfK a (s.lock.cells[s.at_.toNat]'(by omega))=r at *;obtain⟨x,e⟩:=r
  by_cases c2:s.at_+1=s.lock.cells.length
  ·have he:=zfD { s with shards:=s.shards++[x],at_:=s.at_+1 } 3;rw[zWz c2];replace c2:=zWN c2;unfold zI at *;simp only[zr,zn,zWQ,zWD,zWA] at *;exact zW
  ·rw[zWy c2];simp only[zr,zn,zWQ,zWD,zWA] at *;exact zW
theorem zGW(a:zg)(s:Section)(hd:s.dir.l.length<=65536)(h0:0<=s.at_)(h1:s.out.edits.length=1):zh G 298 [.d (zn a),.d (zr s)] []=some (.d (.tup [zn (zex a s).1,zr (zex a s).2.1,.int .i64 (zex a s).2.2]),[]):=by
 have hld:=zoq a;unfold zex
 by_cases c:s.at_=0
 ·rw[zWz c];replace c:=zWN c;simp only[zr,zat] at *;exact zW
 ·rw[zWy c];replace c:=zWE c;have hap:=zRg s.dir (s.out.edits[0]'(by omega)) zo;rw[zq (show 0<s.out.edits.length by omega)];have hlen:=zDO s.dir (s.out.edits[0]'(by omega));generalize zcZ s.dir (s.out.edits[0]'(by omega))=r at *;obtain⟨d,e⟩:=r;simp only at *
  by_cases c1:e=0
  ·rw[zWy (fun q=>q c1)];subst c1;have hcd:=zEs a s.dir.version d zo;generalize casDir a s.dir.version d=r at *;obtain⟨a2,b,e⟩:=r;have hum:=zpm a2 { s with dir:=d };generalize zcl a2 { s with dir:=d }=r2 at *;obtain⟨a3,s3,e3⟩:=r2;simp only at *
   by_cases c4:e=0
   ·subst c4;simp only[ne_eq,zWR,if_false]
    cases b
    ·simp only[if_true];clear hum;simp only[zr,zat] at *;exact zW
    ·simp only[zXB,if_false];have sz_s3:=zej s3;generalize zr s3=D_s3 at *;simp only[zr,zat] at *;exact zW
   ·rw[zWz c4];clear hum;simp only[zr,zat] at *;exact zW
  ·rw[zWz c1];simp only[zr,zat] at *;exact zW
theorem zUW(a:zg)(s:Section)(k:Int)(hL:a.slots.length<=1000)(h0:0<=s.at_)(h1:s.at_<s.out.order.length)(ho:∀o∈s.out.order,0<=o/\o<s.lock.cells.length)(hol:s.out.order.length<=3)(hsh:∀o∈s.out.order,zbO s o≠a.slots.length->o<s.out.shards.length)(hf:∀x∈s.out.shards,zbc x)(hd:s.out.dead.l.length<=1000):zh G 297 [.d (zn a),.d (zr s),.d (.int .i64 k)] []=some (.d (.tup [zn (zeB a s k).1,zr (zeB a s k).2.1,.int .i64 (zeB a s k).2.2]),[]):=by
 have hi:s.at_.toNat<s.out.order.length:=by omega
 have hm:=ho _ (zWH hi);have hsh:=hsh _ (zWH hi);unfold zeB;simp only;rw[zq hi];have hen:=zfD { s with at_:=s.at_+1,carry:=[] } 6;unfold zI at *;rw[zlm hm.1 hm.2] at *;generalize ho':s.out.order[s.at_.toNat]=o at *;have ho2:s.out.order[s.at_.toNat]? = some o:=by rw[zWF hi,ho']
 by_cases c:(s.lock.cells[o.toNat]'(by omega))=a.slots.length
 ·have hst:=zUE a k s.out.dead hd;simp only[c,if_true];generalize stDead a k s.out.dead=r at *;obtain⟨a2,e⟩:=r;simp only at *
  by_cases c1:e=0
  ·subst c1;simp only[ne_eq,zWR,if_false]
   by_cases c2:s.at_+1<s.out.order.length
   ·rw[zWz c2];clear hen;simp only[zn,zr,zP] at *;exact zW
   ·rw[zWy c2]
    by_cases c3:0<s.out.edits.length
    ·rw[zWz c3];simp only[zn,zr,zP,zWA] at *;exact zW
    ·rw[zWy c3];have hum:=zpm a2 { s with at_:=s.at_+1,carry:=[] };generalize zcl a2 { s with at_:=s.at_+1,carry:=[] }=u at *;obtain⟨u1,u2,u3⟩:=u;simp only at *;have sz_u2:=zej u2;generalize zr u2=D_u2 at *;have sz_u1:=zbj u1;generalize zn u1=D_u1 at *;clear hen;simp only[zn,zr,zP,zWA] at *;exact zW
  ·rw[zWz c1];clear hen;simp only[zn,zr,zP] at *;exact zW
 ·have hs2:o.toNat<s.out.shards.length:=by have:=hsh c;omega
  have hst:=zUF a (s.lock.cells[o.toNat]'(by omega)) k s.out.shards[o.toNat] hL (hf _ (zWH hs2));simp only[c,if_false];rw[zq hs2];generalize stSlot a (s.lock.cells[o.toNat]'(by omega)) k s.out.shards[o.toNat]=r at *;obtain⟨a2,e⟩:=r;simp only at *
  by_cases c1:e=0
  ·subst c1;simp only[ne_eq,zWR,if_false]
   by_cases c2:s.at_+1<s.out.order.length
   ·rw[zWz c2];clear hen;simp only[zn,zr,zP] at *;exact zW
   ·rw[zWy c2]
    by_cases c3:0<s.out.edits.length
    ·rw[zWz c3];simp only[zn,zr,zP,zWA] at *;exact zW
    ·rw[zWy c3];have hum:=zpm a2 { s with at_:=s.at_+1,carry:=[] };generalize zcl a2 { s with at_:=s.at_+1,carry:=[] }=u at *;obtain⟨u1,u2,u3⟩:=u;simp only at *;have sz_u2:=zej u2;generalize zr u2=D_u2 at *;have sz_u1:=zbj u1;generalize zn u1=D_u1 at *;clear hen;simp only[zn,zr,zP,zWA] at *;exact zW
  ·rw[zWz c1];clear hen;simp only[zn,zr,zP] at *;exact zW
theorem zVW(a:zg)(s:Section)(k:Int)(hL:a.slots.length<=1000)(hsl:a.stripes.length=a.slots.length)(h0:0<=s.at_)(h1:s.at_<s.stripes.length)(h2:s.at_<s.shards.length)(h3:s.at_<s.out.shards.length)(h4:s.at_<s.lock.cells.length)(h5:s.stripes.length<=100)(hol:s.out.order.length<=3)(hf:∀x∈s.out.shards,zbc x)(hg:∀x∈s.shards,zbc x):zh G 299 [.d (zn a),.d (zr s),.d (.int .i64 k)] []=some (.d (.tup [zn (zeC a s k).1,zr (zeC a s k).2.1,.int .i64 (zeC a s k).2.2]),[]):=by
 have hq:=zUX s s.at_ hol;have i1:s.at_.toNat<s.stripes.length:=by omega
 have i2:s.at_.toNat<s.shards.length:=by omega
 have i3:s.at_.toNat<s.out.shards.length:=by omega
 have hfr:=zzo { s with at_:=s.at_+1 };unfold zeC;simp only;rw[zlm h0 h4,zq i1,zq i2,zq i3];generalize zcG { s with at_:=s.at_+1 }=f at *;obtain⟨f1,f2⟩:=f;generalize zg3 s s.at_=q at *;have hen:∀x,zbc x->_:=fun x hx=>zGX s.stripes[s.at_.toNat] x s.snap.epoch s.limit hx.1 hx.2.1 hx.2.2;have hen:zh G 319 [.d (zG s.stripes[s.at_.toNat]),.d (zj (if q=true then s.out.shards[s.at_.toNat] else s.shards[s.at_.toNat])),.d (.int .i64 s.snap.epoch),.d (.int .i64 s.limit)] []=_:=hen _ (by cases q;exact hg _ (zWH i2);exact hf _ (zWH i3));generalize zfi s.stripes[s.at_.toNat] (if q=true then s.out.shards[s.at_.toNat] else s.shards[s.at_.toNat]) s.snap.epoch s.limit=x at *;obtain⟨x,e⟩:=x;have hst:=zCn a (s.lock.cells[s.at_.toNat]'(by omega)) k x hL hsl;generalize stStripe a (s.lock.cells[s.at_.toNat]'(by omega)) k x=r at *;obtain⟨a2,e2⟩:=r;simp only at *
 by_cases c:e=0
 ·subst c;simp only[ne_eq,zWR,if_false]
  by_cases c2:e2=0
  ·subst c2;simp only[ne_eq,zWR,if_false]
   by_cases c3:s.at_+1=s.stripes.length
   ·rw[zWz c3];replace c3:=zWN c3;have sz_f1:=zej f1;generalize zr f1=D_f1 at *
    cases q
    ·simp only[zr,zWL,if_false] at *;exact zW
    ·simp only[zr,if_true] at *;exact zW
   ·rw[zWy c3];replace c3:=zWE c3;clear hfr
    cases q
    ·simp only[zr,zWL,if_false] at *;exact zW
    ·simp only[zr,if_true] at *;exact zW
  ·rw[zWz c2]
   cases q
   ·simp only[zr,zWL,if_false] at *;exact zW
   ·simp only[zr,if_true] at *;exact zW
 ·rw[zWz c]
  cases q
  ·simp only[zr,zWL,if_false] at *;exact zW
  ·simp only[zr,if_true] at *;exact zW
structure zm2(a:zg)(s:Section):Prop where
 sl:a.slots.length<=1000
 st:a.stripes.length=a.slots.length
 lw:LWF 1000000 s.lock
 p1:s.phase=1->0<=s.at_/\s.at_<2 * s.lock.cells.length/\(s.stripes.length:Int)=(s.at_+1) / 2
 p2:s.phase=2->0<=s.at_/\s.at_<s.lock.cells.length/\s.shards.length<=100
 p5:s.phase=5->0<=s.at_/\s.at_<s.out.order.length/\(∀o∈s.out.order,zbO s o≠a.slots.length->o<s.out.shards.length)
 p6:s.phase=6->0<=s.at_/\s.out.edits.length=1
 p7:s.phase=7->0<=s.at_/\s.at_<s.stripes.length/\s.at_<s.shards.length/\s.at_<s.out.shards.length/\s.at_<s.lock.cells.length/\s.stripes.length<=100
 od:(∀o∈s.out.order,0<=o/\o<s.lock.cells.length)/\s.out.order.length<=3
 f1:∀x∈s.out.shards,zbc x
 f2:∀x∈s.shards,zbc x
 dd:s.out.dead.l.length<=1000
 di:s.dir.l.length<=65536
theorem zUL(a:zg)(s:Section)(k n:Int)(h:zm2 a s):zh G 271 [.d (zn a),.d (zr s),.d (.int .i64 k),.d (.int .i64 n)] []=some (.d (.tup [zn (zeA a s k n).1,zr (zeA a s k n).2.1,.int .i64 (zeA a s k n).2.2]),[]):=by
 unfold zeA
 by_cases c0:s.phase=0
 ·rw[zWz c0];have hl:=zAk a s.lock k h.sl h.lw;have hke:=zou (k:=k) (a:=a) h.lw;have hcl:=h.lw.c2;unfold zft;generalize zao a s.lock k=r at *;obtain⟨a2,l,e⟩:=r;replace c0:=zWN c0;simp only at *
  by_cases c:e=0/\l.phase=3
  ·rw[zWz c];obtain⟨rfl,c3⟩:=c;have hce:=(hke rfl).2.1;have hs:=zCd a (zI { s with lock:=l } 1) (by show l.cells.length<=1000;rw[hce];omega);have hs2:zds a (zI { s with lock:=l } 1)=zds a s:=by unfold zds zI;simp only[hce]
   rw[hs2] at hs;have e1:=zfD { s with lock:=l } 1;have e2:=zfD (zI { s with lock:=l } 1) 2;clear hke hs2 hce;replace c3:=zWN c3;generalize zds a s=sn at *;unfold zI at *;simp only[zr,zcQ] at *
   by_cases c4:sn=0
   ·rw[zWz c4];exact zW
   ·rw[zWy c4];exact zW
  ·rw[zWy c];clear hke;simp only[zr,zcQ] at *;exact zW
 rw[zWy c0]
 by_cases c1:s.phase=1
 ·rw[zWz c1];obtain⟨q1,q2,q3⟩:=h.p1 c1;have hm:=zOD a s k h.sl h.st q1 q2 h.lw.c2 q3;generalize zez a s k=r at *;obtain⟨a2,s2,e⟩:=r;have sz_s2:=zej s2;generalize zr s2=D_s2 at *;clear h c0 q1 q2 q3;obtain⟨ph,at_,lk,sn,sh,dd,st,di,ou,lm,ca⟩:=s;simp only at c1;subst c1;simp only[zr] at *;exact zW
 rw[zWy c1]
 by_cases c2:s.phase=2
 ·rw[zWz c2];obtain⟨q1,q2,q3⟩:=h.p2 c2;have hm:=zOf a s h.sl q1 q2 h.lw.c2 q3;generalize zey a s=r at *;obtain⟨a2,s2,e⟩:=r;have sz_s2:=zej s2;generalize zr s2=D_s2 at *;clear h c0 q1 q2 q3;obtain⟨ph,at_,lk,sn,sh,dd,st,di,ou,lm,ca⟩:=s;simp only at c2;subst c2;simp only[zr] at *;exact zW
 rw[zWy c2]
 by_cases c3:s.phase=3
 ·rw[zWz c3];have hm:=zUt a s.snap n;unfold zgu;generalize zcL a s.snap n=r at *;obtain⟨x,e⟩:=r;have e1:=zfD { s with snap:=x } 4;unfold zI at *;clear h c0 c1 c2;obtain⟨ph,at_,lk,sn,sh,dd,st,di,ou,lm,ca⟩:=s;simp only at *;subst c3
  by_cases c:e=0/\x.phase=3
  ·rw[zWz c];obtain⟨rfl,c5⟩:=c;replace c5:=zWN c5;simp only[zr,zhf] at *;exact zW
  ·rw[zWy c];simp only[zr,zhf] at *;exact zW
 rw[zWy c3]
 by_cases c5:s.phase=5
 ·rw[zWz c5];obtain⟨q1,q2,q3⟩:=h.p5 c5;have hm:=zUW a s k h.sl q1 q2 h.od.1 h.od.2 q3 h.f1 h.dd;generalize zeB a s k=r at *;obtain⟨a2,s2,e⟩:=r;have sz_s2:=zej s2;generalize zr s2=D_s2 at *;clear h c0 c1 c2 c3 q1 q2 q3;obtain⟨ph,at_,lk,sn,sh,dd,st,di,ou,lm,ca⟩:=s;simp only at c5;subst c5;simp only[zr] at *;exact zW
 rw[zWy c5]
 by_cases c6:s.phase=6
 ·rw[zWz c6];obtain⟨q1,q2⟩:=h.p6 c6;have hm:=zGW a s h.di q1 q2;generalize zex a s=r at *;obtain⟨a2,s2,e⟩:=r;have sz_s2:=zej s2;generalize zr s2=D_s2 at *;clear h c0 c1 c2 c3 c5 q1 q2;obtain⟨ph,at_,lk,sn,sh,dd,st,di,ou,lm,ca⟩:=s;simp only at c6;subst c6;simp only[zr] at *;exact zW
 rw[zWy c6]
 by_cases c7:s.phase=7
 ·rw[zWz c7];obtain⟨q1,q2,q3,q4,q5,q6⟩:=h.p7 c7;have hm:=zVW a s k h.sl h.st q1 q2 q3 q4 q5 q6 h.od.2 h.f1 h.f2;generalize zeC a s k=r at *;obtain⟨a2,s2,e⟩:=r;have sz_s2:=zej s2;generalize zr s2=D_s2 at *;clear h c0 c1 c2 c3 c5 c6 q1 q2 q3 q4 q5 q6;obtain⟨ph,at_,lk,sn,sh,dd,st,di,ou,lm,ca⟩:=s;simp only at c7;subst c7;simp only[zr] at *;exact zW
 rw[zWy c7]
 by_cases c8:s.phase=8
 ·rw[zWz c8];have hl:=zAk a s.lock k h.sl h.lw;unfold zfs;generalize zao a s.lock k=r at *;obtain⟨a2,l,e⟩:=r;have e1:=zfD { s with lock:=l } 9;unfold zI at *;clear h c0 c1 c2 c3 c5 c6 c7;obtain⟨ph,at_,lk,sn,sh,dd,st,di,ou,lm,ca⟩:=s;simp only at *;subst c8
  by_cases c:e=0/\l.phase=5
  ·rw[zWz c];obtain⟨rfl,c5⟩:=c;replace c5:=zWN c5;simp only[zr,zcQ] at *;exact zW
  ·rw[zWy c];simp only[zr,zcQ] at *;exact zW
 ·rw[zWy c8];clear h;simp only[zr] at *;exact zW
theorem zUM(a:zg)(s:Section)(k n:Int)(h:zm2 a s):zh G 208 [.d (zn a),.d (zr s),.d (.int .i64 k),.d (.int .i64 n)] []=some (.d (.tup [zn (zcb a s k n).1,zr (zcb a s k n).2.1,.int .i64 (zcb a s k n).2.2]),[]):=by
 have hs:=zUL a s k n h;unfold zcb;generalize zeA a s k n=r at *;obtain⟨a2,s2,e⟩:=r;clear h;simp only at *;have sz_s:=zej s;generalize zr s=D_s at *
 by_cases c:e=0
 ·subst c;simp only[ne_eq,zWR,if_false];have sz_s2:=zej s2;generalize zr s2=D_s2 at *;exact zW
 ·rw[zWz c];have sz_s2:=zej s2;generalize zr s2=D_s2 at *;have sz_a:=zbj a;generalize zn a=D_a at *;have sz_a2:=zbj a2;generalize zn a2=D_a2 at *;have zk0:=zn.eq_1;have zk1:=zr.eq_1;have zk2:=zB.eq_1;have zk3:=zbU.eq_1;exact zW
theorem zlB(a:zg)(t:zi)(n:Int)(h:zm2 a t.sec):zh G 156 [.d (zn a),.d (zd t),.d (.int .i64 n)] []=some (.d (.tup [zn (goT a t n).1,zd (goT a t n).2.1,.bool (goT a t n).2.2.1,.bool (goT a t n).2.2.2.1,.int .i64 (goT a t n).2.2.2.2]),[]):=by
 have hs:=zUM a t.sec t.number n h;unfold goT;generalize zcb a t.sec t.number n=r at *;obtain⟨a2,s2,e⟩:=r;clear h
 by_cases c:e=0
 ·subst c;simp only[ne_eq,zWR,if_false];simp only[zd,zr] at *;exact zW
 ·rw[zWz c];have sz_a:=zbj a;generalize zn a=D_a at *;have sz_a2:=zbj a2;generalize zn a2=D_a2 at *;simp only[zd,zr] at *;have zk0:=zn.eq_1;have zk1:=zB.eq_1;have zk2:=zC.eq_1;exact zW
def zsA:AV:= .agg [.d (.int .i64 0),.d (.int .i64 0),.xsl [],.d (.int .i64 0),.d (.int .i64 0),.d (.int .i64 0),.d (.int .i64 0),.d (.int .i64 0),.d (.int .i64 0),.d (.int .i64 0),.d (.int .i64 0),.xsl [],.d (.int .i64 0),.xsl [],.xsl [],.d (.int .i64 0),.xsl [],.xsl [],.xsl [],.d (.int .i64 0),.xsl [],.xsl [],.xsl [],.xsl [],.d (.int .i64 0),.xsl []]
def zmf(n:Int)(l:List Int)(i:Nat):Bool:=decide (0<=l.getD i 0/\l.getD i 0<n)&&(List.range i).all fun k=> !decide (l.getD k 0=l.getD i 0)
theorem zQa(n:Int)(l:List Int):zif n l=(List.range l.length).all (zmf n l):=by
 unfold zif;apply zXm.2;simp only[decide_eq_true_eq,zW2,zXx,zmf,zWS,zXt,decide_eq_false_iff_not];constructor
 ·rintro⟨h1,h2⟩ i hi;refine⟨by rw[zq hi];exact h1 _ (zWH hi),fun k hk=> ?_⟩;rw[zq hi,zq (show k<l.length by omega)];intro e;have:=(zZn.1 h2);rw[zXu] at this;exact this k i zo hi hk e
 ·intro h;refine⟨fun o ho=> ?_,?_⟩
  ·obtain⟨i,hi,rfl⟩:=zYS.1 ho;have:=(h i hi).1
   rwa [zq hi] at this
  ·rw[zZn,zXu];intro k i hk hi hki e;have:=(h i hi).2 k hki;rw[zq hi,zq hk] at this;exact this e
def dcH(s:Section)(o:zb3):zf:=[(2,.row [.d (zr s)]),(3,.row [.d (zY o)]),(4,.row [zsA])]
def dcR:zT×St:=(.ret,⟨[(4,.ref 4 0 0),(5,.d (.int .i64 1))],[(4,.row [zsA])]⟩)
theorem zFB(s:Section)(o:zb3)(i:Nat)(hi:i<o.order.length)(hl:o.order.length<=3):zN G [] zol ⟨[(2,.ref 2 0 0),(3,.ref 3 0 0),(4,.ref 4 0 0),(6,.d (.int .i64 i)),(7,.d (.int .i64 (0:Nat)))],dcH s o⟩=some (if (List.range i).all (fun k=> !decide (o.order.getD k 0=o.order.getD i 0))=true then (.exit 2,⟨[(2,.ref 2 0 0),(3,.ref 3 0 0),(4,.ref 4 0 0),(6,.d (.int .i64 i))],dcH s o⟩) else dcR):=by
 refine zd5 (G:=G) i (fun k=> !decide (o.order.getD k 0=o.order.getD i 0)) (fun k=>⟨[(2,.ref 2 0 0),(3,.ref 3 0 0),(4,.ref 4 0 0),(6,.d (.int .i64 i)),(7,.d (.int .i64 k))],dcH s o⟩) _ _ fun k hk L=> ?_;simp only[zol,dcH,dcR,zsA,zr,zY,zbU];rw[zq hi]
 by_cases h0:k<i
 ·rw[zWz h0,zq (show k<o.order.length by omega)]
  by_cases c:o.order[k]=o.order[i]
  ·rw[zWY c];replace c:=zWN c;exact zS
  ·rw[zW0 c];replace c:=zWE c;exact zS
 ·rw[zWy h0];exact zS
theorem zFC(s:Section)(o:zb3)(hl:o.order.length<=3)(hc:s.lock.cells.length<=3):zN G [] zom ⟨[(2,.ref 2 0 0),(3,.ref 3 0 0),(4,.ref 4 0 0),(6,.d (.int .i64 (0:Nat)))],dcH s o⟩=some (if (List.range o.order.length).all (zmf s.lock.cells.length o.order)=true then (.exit 0,⟨[(2,.ref 2 0 0),(3,.ref 3 0 0),(4,.ref 4 0 0)],dcH s o⟩) else dcR):=by
 refine zd5 (G:=G) o.order.length (zmf s.lock.cells.length o.order) (fun k=>⟨[(2,.ref 2 0 0),(3,.ref 3 0 0),(4,.ref 4 0 0),(6,.d (.int .i64 k))],dcH s o⟩) _ _ fun k hk L=> ?_
 by_cases h0:k<o.order.length
 ·have hi:=zFB s o k h0 hl;unfold zmf;rw[zWz h0];generalize (List.range k).all (fun j=> !decide (o.order.getD j 0=o.order.getD k 0))=b at *;rw[zq h0];simp only[zom,dcH,dcR,zsA,zr,zY] at *;simp only[zNr,zp] at hi
  by_cases c:0<=o.order[k]/\o.order[k]<(s.lock.cells.length:Int)
  ·rw[zWY c]
   cases b
   ·simp only[zXW,zWL,if_false] at *;exact zS
   ·simp only[zXV,if_true] at *;exact zS
  ·rw[zW0 c];clear hi;simp only[zXr,zWL,if_false];exact zS
 ·rw[zWy h0];simp only[zom,dcH,dcR,zsA,zr,zY];exact zS
theorem zFH(s:Section)(o:zb3)(hl:o.order.length<=3)(hc:s.lock.cells.length<=3):zh G 235 [.d (zr s),.d (zY o)] []=some (.d (.tup [zr (zeg s o).1,.int .i64 (zeg s o).2]),[]):=by
 have hlp:=zFC s o hl hc;rw[<- zQa] at hlp;unfold zeg
 by_cases c0:s.phase≠4
 ·rw[zWz c0];clear hlp;have c0:(s.phase=4)=False:=zWE c0;simp only[zr,zY,zbU] at *;exact zW
 rw[zWy c0];replace c0:(s.phase=4)=True:=zWN (zWO.1 c0)
 by_cases c1:o.shards.length≠s.shards.length\/1<o.edits.length
 ·rw[zWz c1];clear hlp;simp only[zr,zY,zbU] at *
  by_cases c2:o.shards.length=s.shards.length
  ·have c3:1<o.edits.length:=by omega
   clear c1;replace c2:((o.shards.length:Int)=s.shards.length)=True:=zWN zo;exact zW
  ·clear c1;exact zW
 rw[zWy c1];have c2:((o.shards.length:Int)=s.shards.length)=True:=zWN zo;have c3:¬1<o.edits.length:=by omega
 clear c1
 cases c4:zif s.lock.cells.length o.order
 ·simp only[c4,if_true,zWL,if_false] at hlp ⊢;clear c4;simp only[dcH,dcR,zsA,zr,zY,zbU] at *;simp only[zNr,zp] at hlp;exact zW
 ·simp only[c4,if_true,zXB,if_false] at hlp ⊢;clear c4
  by_cases c5:0<o.order.length
  ·rw[zWz c5];have he:=zfD { s with out:=o } 5;unfold zI at *;simp only[dcH,dcR,zsA,zr,zY,zbU] at *;simp only[zNr,zp] at hlp;exact zW
  rw[zWy c5]
  by_cases c6:0<o.edits.length
  ·rw[zWz c6];have he:=zfD { s with out:=o } 6;unfold zI at *;simp only[dcH,dcR,zsA,zr,zY,zbU] at *;simp only[zNr,zp] at hlp;exact zW
  ·rw[zWy c6];have hu:=zpm zB { s with out:=o };generalize zcl zB { s with out:=o }=u at *;obtain⟨u1,u2,u3⟩:=u;simp only at *;have sz_u2:=zej u2;generalize zr u2=D_u2 at *;have sz_u1:=zbj u1;generalize zn u1=D_u1 at *;simp only[dcH,dcR,zsA,zr,zY,zn,zB,za3,zWA] at *;simp only[zNr,zp] at hlp;exact zW
theorem zCY(r:Int):zh G 153 [.d (.int .i64 r)] []=some (.d (.tup [zc2 (zg6 r).1,.int .i64 (zg6 r).2]),[]):=by
 unfold zg6;have zk0:=zc2.eq_1;have zk1:=zgx.eq_1;exact zW
theorem zCX(w:zfd)(lo hi:Int):zh G 212 [.d (zc2 w),.d (.int .i64 lo),.d (.int .i64 hi)] []=some (.d (.tup [zc2 (ze9 w lo hi).1,.int .i64 (ze9 w lo hi).2]),[]):=by
 unfold ze9;simp only[zc2];have zk0:=zc2.eq_1;have zk1:=zgx.eq_1;exact zW
theorem zCZ(w:zfd):zh G 213 [.d (zc2 w)] []=some (.d (.bool (zg7 w)),[]):=by
 unfold zg7;simp only[zc2];exact zW
theorem zlJ(n lo hi:Int):zh G 97 [.d (.int .i64 n),.d (.int .i64 lo),.d (.int .i64 hi)] []=some (.d (.bool (inI n lo hi)),[]):=by
 unfold inI;rw[zO zMz (by simp)];simp -implicitDefEqProofs (maxSteps:=4000000) (disch:=omega) only[zpZ,zq,go_sem, *];(try simp only[zPr]);repeat' (first|done|rfl|((first|refine za5 (fun hq=> ?_) (fun hq=> ?_)|refine zbd (fun hq=> ?_) (fun hq=> ?_))<;>(try (first|(exfalso;omega)|contradiction))<;>(try simp -implicitDefEqProofs (maxSteps:=4000000) (disch:=omega) only[zq,go_sem, *])<;>(try simp only[zPr])));(all_goals try rfl);(all_goals try (repeat' (first|done|rfl|(exfalso;omega)|contradiction|(refine za6 (fun hq=> ?_) (fun hq=> ?_)))))
 simp only[zZr]
theorem zG0(i:zaS):zh G 204 [.d (zbK i)] []=some (.d (.int .i64 (zc3 i)),[]):=by
 unfold zc3;obtain⟨kd,hm,mx,vs,fr,tt,bs,ts⟩:=i;simp only[zbK]
 by_cases k1:kd=1
 ·subst k1;exact zW
 rw[zWy k1]
 by_cases k2:3<=kd/\kd<=5
 ·rw[zWz k2];have k3:kd=3\/kd=4\/kd=5:=by omega
  rcases k3 with rfl|rfl|rfl
  ·exact zW
  ·exact zW
  ·exact zW
 ·rw[zWy k2];exact zW
theorem zfn(t:zi)(r:Result)(n:Int)(he:0<=t.entry/\t.entry<=1000)(hl:t.results.length<=1000):zh G 151 [.d (zd t),.d (zZ r),.d (.int .i64 n)] []=some (.d (zd (zaY t r n)),[]):=by
 have hn:=zG0 t.inv;unfold zaY;generalize zc3 t.inv=en at *;simp only[zd,zZ,zbK] at *
 by_cases c:t.entry+1=en
 ·rw[zWz c,zWz c];replace c:=zWN c;have zk0:=zC.eq_1;exact zW
 ·rw[zWy c,zWy c];have zk0:=zC.eq_1;exact zW
theorem zfj(t:zi)(lo hi:Int):zh G 148 [.d (zd t),.d (.int .i64 lo),.d (.int .i64 hi)] []=some (.d (.int .i64 (zX t lo hi)),[]):=by
 unfold zX;generalize ht:zd t=et at *;simp only[zd] at ht;subst ht
 cases c:t.done
 ·exact zW
 ·exact zW
theorem zdH(e:Int):zh G 99 [.d (.int .i64 e)] []=some (.d (.tup [zn zB,zd zC,.sl [],.int .i64 e]),[]):=by
 have zk0:=zn.eq_1;have zk1:=zd.eq_1;have zk2:=zB.eq_1;have zk3:=zC.eq_1;exact zW
theorem zmE(t:zi)(cells:List Int)(pc:Int)(hL:cells.length<=1000):zh G 161 [.d (zd t),.d (.sl (zt cells)),.d (.int .i64 pc)] []=some (.d (zd (zcc t cells pc)),[]):=by
 have h:=zTF cells t.setup.limit hL;unfold zcc;generalize zcp cells t.setup.limit=r at *;obtain⟨s,e⟩:=r;simp only[zd,zr] at *;exact zW
theorem zQh(a b:Int):zh G 172 [.d (.int .i64 a),.d (.int .i64 b)] []=some (.d (.sl (zt (zdJ a b))),[]):=by
 unfold zdJ
 by_cases c:a<b
 ·rw[zWz c];have zk0:=zt.eq_1;exact zW
 ·rw[zWy c]
  by_cases c2:b<a
  ·have zk0:=zt.eq_1;exact zW
  ·have c3:a=b:=by omega
   subst c3;have zk0:=zt.eq_1;exact zW
theorem znu(t:zi)(kind n:Int):zh G 150 [.d (zd t),.d (.int .i64 kind),.d (.int .i64 n)] []=some (.d (zad (evT t kind n)),[]):=by
 simp only[zd,evT];have zk0:=zad.eq_1;have zk1:=zbT.eq_1;exact zW
def ze7(t:zi)(kind:Int):AV:= .agg [.d (.int .i64 t.sec.snap.stamp),.d (.int .i64 t.number),.d (.int .i64 t.entry),.d (.int .i64 kind),.d (.int .i64 t.sec.snap.clock),.d (.int .i64 t.sec.snap.epoch),.d (.int .i64 0),.xsl [],.d (.int .i64 0),.d (.int .i64 0)]
theorem zkV(t:zi)(kind:Int):zh G 210 [.d (zd t),.d (.int .i64 kind)] []=some (ze7 t kind,[]):=by
 simp only[zd,ze7];exact zW
theorem zFG(t:zi)(o:zb3)(hd:zh G 235 [.d (zr t.sec),.d (zY o)] []=some (.d (.tup [zr (zeg t.sec o).1,.int .i64 (zeg t.sec o).2]),[])):zh G 174 [.d (zd t),.d (zY o)] []=some (.d (zd (za8 t o)),[]):=by
 unfold za8;generalize zeg t.sec o=r at *;obtain⟨s,e⟩:=r;simp only[zd,zr,zY] at *;exact zW
theorem zrG(a:zg)(t:zi)(r pc:Int)(hL:a.dir.l.length<=4294967296):zh G 155 [.d (zn a),.d (zd t),.d (.int .i64 r),.d (.int .i64 pc)] []=some (.d (zd (zho a t r pc)),[]):=by
 have h1:=zoq a;have h2:=zBA a.dir r hL;have h3:=zmE { t with dir:=a.dir,slot:=zeu a.dir r } [zeu a.dir r] pc (by simp);unfold zho;generalize zcc { t with dir:=a.dir,slot:=zeu a.dir r } [zeu a.dir r] pc=t2 at *;generalize zeu a.dir r=o at *;have sz_t2:=zE t2;generalize zd t2=D_t2 at *;simp only[zd,zat,zt,zWD,zWA] at *;exact zW
theorem zmg{plan:zi->Pln}(h:∀t,(plan t).2.2.length<=2)(lo hi:Int)(cells:zi->List Int)(a:zg)(t:zi)(n:Int):(zaL plan lo hi cells a t n).2.2.1.length<=2:=by
 unfold zaL zbM;simp only
 split
 ·simp
 generalize (if t.pc=0 then zcc t (cells t) 1 else t)=t';generalize goT a t' n=g
 split
 ·simp
 split
 ·exact h _
 split<;>simp
theorem zQS(a:zg)(t:zi)(n:Int):(zdk a t n).2.2.1.length<=2:=by
 unfold zdk;simp only
 split
 ·simp
 split
 ·split<;>simp
 split
 ·simp
 split<;>simp
theorem zFa(a:zg)(t:zi)(n:Int):(zaj a t n).2.2.1.length<=2:=by
 unfold zaj;simp only
 split
 ·simp
 split
 ·simp
 split
 ·split<;>simp
 split
 ·split<;>simp
 split<;>simp
theorem zRI(a:zg)(t:zi)(n:Int):(zdm a t n).2.2.1.length<=2:=by
 have h:∀t,(zcU t).2.length<=2:=by
  intro t;unfold zcU;simp only
  split
  ·simp
  split
  ·simp
  split<;>simp
 unfold zdm zbM;simp only
 split
 ·simp
 split
 ·simp
 generalize goT a t n=g
 split
 ·simp
 split
 ·exact h _
 split
 ·simp
 split<;>simp
theorem zT6(K:Tok)(a:zg)(t:zi)(n:Int):(zdr K a t n).2.2.1.length<=2:=by
 have h:∀t,(zda t).2.length<=2:=by
  intro t;unfold zda;simp only
  split<;>simp
 unfold zdr zbM;simp only
 split
 ·simp
 split
 ·split<;>simp
 split
 ·simp
 generalize goT a t n=g
 split
 ·simp
 split
 ·exact h _
 split
 ·simp
 split<;>simp
theorem zTR(K:Tok)(a:zg)(t:zi)(n:Int):(zdp K a t n).2.2.1.length<=2:=by
 have h:∀t,(zc9 K t).2.length<=2:=by
  intro t;unfold zc9;simp only
  split
  ·simp
  split
  ·split<;>simp
  ·simp
 unfold zdp zbM;simp only
 split
 ·simp
 split
 ·split<;>simp
 split
 ·split<;>simp
 split
 ·simp
 generalize goT a t n=g
 split
 ·simp
 split
 ·exact h _
 split
 ·simp
 split
 ·simp
 split<;>simp
theorem zRz(K:Tok)(a:zg)(t:zi)(n:Int):(zdl K a t n).2.2.1.length<=2:=by
 have h:∀t,(zc8 t).2.length<=2:=by
  intro t;have h1:∀(k:Nat) (e:Event),(if 0<k then [e] else []).length<=1:=by intro k e;split<;>simp
  unfold zc8;simp only
  split
  ·simp
  split
  ·simp
  split
  ·rw[zWJ];exact Nat.add_le_add (h1 _ _) (zW5 1)
  split
  ·rw[zWJ];exact Nat.add_le_add (h1 _ _) (zW5 1)
  ·exact zXo (h1 _ _) (by decide)
 unfold zdl zbM;simp only
 split
 ·simp
 split
 ·simp
 split
 ·simp
 generalize goT a t n=g
 split
 ·simp
 split
 ·exact h _
 split
 ·simp
 split
 ·simp
 split
 ·simp
 split<;>simp
theorem zUI(t:zi):(zdv t).2.2.length<=2:=by
 unfold zdv;simp only
 split
 ·simp
 split<;>simp
theorem zUx(t:zi):(zdu t).2.2.length<=2:=by
 unfold zdu;simp only
 split<;>simp
theorem zOP(t:zi):(zdi t).2.2.length<=2:=by
 unfold zdi;simp only
 split<;>simp
theorem zU6(t:zi):(zdb t).2.2.length<=2:=by
 unfold zdb;simp only
 split
 ·simp
 split
 ·simp
 split
 ·simp
 split<;>simp
theorem zEc(t:zi):(zc0 t).2.2.length<=2:=by
 unfold zc0;simp only
 split
 ·simp
 split<;>simp
theorem zCB(K:Tok)(a:zg)(t:zi)(n:Int):(zaQ K a t n).2.2.1.length<=2:=by
 unfold zaQ
 by_cases c0:t.done=true
 ·rw[zWz c0];simp [zbM]
 rw[zWy c0]
 by_cases c1:t.inv.kind=1
 ·rw[zWz c1];exact zTR _ _ _ _
 rw[zWy c1]
 by_cases c2:t.inv.kind=2
 ·rw[zWz c2];exact zRz _ _ _ _
 rw[zWy c2]
 by_cases c3:3<=t.inv.kind/\t.inv.kind<=5
 ·rw[zWz c3];exact zT6 _ _ _ _
 rw[zWy c3]
 by_cases c6:t.inv.kind=6
 ·rw[zWz c6];exact zQS _ _ _
 rw[zWy c6]
 by_cases c7:t.inv.kind=7
 ·rw[zWz c7];exact zFa _ _ _
 rw[zWy c7]
 by_cases c8:t.inv.kind=8
 ·rw[zWz c8];exact zRI _ _ _
 rw[zWy c8]
 by_cases c9:t.inv.kind=9
 ·rw[zWz c9];exact zmg zUI _ _ _ _ _ _
 rw[zWy c9]
 by_cases c10:t.inv.kind=10
 ·rw[zWz c10];exact zmg zUx _ _ _ _ _ _
 rw[zWy c10]
 by_cases c11:t.inv.kind=11
 ·rw[zWz c11];exact zmg zOP _ _ _ _ _ _
 rw[zWy c11]
 by_cases c12:t.inv.kind=12\/t.inv.kind=13
 ·rw[zWz c12];exact zmg zU6 _ _ _ _ _ _
 rw[zWy c12]
 by_cases c14:t.inv.kind=14
 ·rw[zWz c14];exact zmg zEc _ _ _ _ _ _
 rw[zWy c14];simp [zbM]
structure LB(B:Int)(w:World):Prop where
 lg:(w.log.length:Int)<=2 * w.steps
 st:w.steps<=B
theorem LB.mono{B C:Int}{w:World}(h:LB B w)(hb:B<=C):LB C w:=⟨h.lg,by have:=h.st;omega⟩
theorem zUP{K:Tok}{B:Int}{w:World}{i:Nat}(h:LB B w)(e:(zcM K w i).2=0):LB (B+1) (zcM K w i).1:=by
 have h1:=h.lg;have h2:=h.st;unfold zcM at e ⊢;simp only at e ⊢;have hv:=zCB K w.arena (w.tasks.getD i zC) (w.steps+1);generalize zaQ K w.arena (w.tasks.getD i zC) (w.steps+1)=r at *
 by_cases c:r.2.2.2=0
 ·rw[zWy (fun q=>q c)];exact⟨by simp only[zWJ];omega,by simp only;omega⟩
 ·rw[zWz c] at e;exact absurd e c
theorem zVs{B:Int}{w:World}{by_:Int}(h:LB B w)(e:(zdy w by_).2=0):LB (B+1) (zdy w by_).1:=by
 have h1:=h.lg;have h2:=h.st;unfold zdy at e ⊢
 by_cases c:(zea w.arena by_).2=0
 ·rw[zWy (fun q=>q c)];exact⟨by simp only[zWJ,zWI,zWK];omega,by simp only;omega⟩
 ·rw[zWz c] at e;exact absurd e c
theorem zNf{B:Int}{w:World}{i:zaS}(h:LB B w)(e:(zcH w i).2.2=0):LB B (zcH w i).1:=by
 unfold zcH at e ⊢
 by_cases c:200<=w.tasks.length\/8<=(za9 w).length
 ·rw[zWz c] at e;cases e
 rw[zWy c] at e ⊢
 by_cases c2:(zcz (w.tasks.length+1) i w.setup w.steps).2=0
 ·rw[zWy (fun q=>q c2)];exact⟨h.lg,h.st⟩
 ·rw[zWz c2] at e;exact absurd e c2
theorem ztT(b:Int):(zbw 0 (zgm b 255)).toNat<=255:=by
 unfold zbw zgm
 split<;>split<;>omega
theorem zmD{u:Setup}{N:Int}{a:zg}{s:Section}(hu:zav u=true)(ha:AI u a)(hs:SI u N s)(hN:N<=1000000):zm2 a s:=by
 have hb:=zeE hu;have hsl:=ha.sl;have c1:=hs.lw.c1;have c2:=hs.lw.c2;have hk:=zi2 u.slots s.lock.cells;have hin:=zlN (n:=u.slots) hs.ca;refine { sl:=by omega,st:=ha.st,lw:=hs.lw.mono hN,p1:=fun q=> ?_,p2:=fun q=> ?_,p5:=fun q=> ?_,p6:=fun q=> ?_,p7:=fun q=> ?_,od:=hs.oo,f1:=fun x hx=> ?_,f2:=fun x hx=> ?_,dd:=hs.od,di:=hs.di }
 ·obtain⟨_,h1,h2,h3,_⟩:=hs.ph.p1 q;exact⟨h1,by omega,h3⟩
 ·obtain⟨_,h1,h2,h3,h4,_⟩:=hs.ph.p2 q;exact⟨h1,by omega,by omega⟩
 ·obtain⟨_,h1,h2,h3,h4,h5⟩:=hs.ph.p5 q;refine⟨h4,h5,fun o ho hne=> ?_⟩;obtain⟨o1,o2⟩:=hs.oo.1 o ho;rw[zlm o1 o2] at hne;have hc:=hs.cr _ (zWH (show o.toNat<s.lock.cells.length by omega));have hi:=(hin o.toNat zo).2 zo;omega
 ·obtain⟨_,h1,h2,h3,h4,h5,_⟩:=hs.ph.p6 q;exact⟨h5,h4⟩
 ·obtain⟨_,h1,h2,h3,h4,h5⟩:=hs.ph.p7 q;exact⟨h4,by omega,by omega,by omega,by omega,by omega⟩
 ·have h:=hs.os x hx;exact⟨by have:=h.1;omega,by have:=h.2;omega,by have:=h.3;omega⟩
 ·obtain⟨h1,h2⟩:=hs.sv x hx;exact zf4 (zbv h1)
theorem zmG{u:Setup}{N:Int}{t:zi}(hs:SI u N t.sec):zbc (sh0 t):=zf4 (ziq hs)
theorem zcP{u:Setup}{N:Int}{t:zi}{o:zb3}(hs:SI u N t.sec)(ho:OI t.sec o):zh G 174 [.d (zd t),.d (zY o)] []=some (.d (zd (za8 t o)),[]):=
 zFG t o (zFH t.sec o ho.ol hs.lw.c2)
theorem zNA{u:Setup}{N:Int}{s:Section}(h:SI u N s)(hp:s.phase=4\/s.phase=9):s.shards.length=kOf u.slots s.lock.cells:=by
 rcases hp with q|q
 ·exact (h.ph.p4 q).2.2
 ·exact (h.ph.p9 q).1
theorem zgZ{u:Setup}{N:Int}{i:zaS}{s:Section}(h:zaT u N i s)(hv:zb4 i u=0)(hp:s.phase=4\/s.phase=9):
    (1<=i.kind/\i.kind<=5->s.shards.length=1)/\(i.kind=8->s.shards.length=1)/\(9<=i.kind/\i.kind<=11->s.shards.length=2)/\(12<=i.kind/\i.kind<=13->s.shards.length<=1)/\(i.kind=14->s.shards.length=1):=by
 have hk:=zNA h.si hp;refine⟨fun q=> ?_,fun q=> ?_,fun q=> ?_,fun q=> ?_,fun q=> ?_⟩
 ·obtain⟨c,c0,c1,c2⟩:=h.c1 q;rw[hk,c2,zAh c1]
 ·obtain⟨c,c0,c1,c2⟩:=h.c8 q;rw[hk,c2,znT c1]
 ·obtain⟨v1,v2,v3⟩:=zhk hv q;rw[hk,h.c9 q];unfold zdJ
  split
  ·exact znS v1.2 v2.2
  ·exact znS v2.2 v1.2
 ·have q2:=zi2 u.slots s.lock.cells;rw[h.c12 q] at q2 hk;simp only[zWI,zWK] at q2;omega
 ·have v:=zh2 hv (.inr q);rw[hk,h.c14 q,znT v.2]
theorem zz8(r lo hi:Int):zh G 198 [.d (.int .i64 r),.d (.int .i64 lo),.d (.int .i64 hi)] []=some (.d (.int .i64 (zka r lo hi)),[]):=by
 unfold zka
 by_cases c:r<0\/65536<=r\/lo<0\/65536<=hi\/hi<lo
 ·rw[zWz c];exact zW
 ·rw[zWy c];exact zNb r lo hi zo zo zo zo zo
theorem zO6(id route ep now:Int)(b:List UInt8):zh G 214 [.d (.int .i64 id),.d (.int .i64 route),.d (.int .i64 ep),.d (.int .i64 now),.d (.str b)] []=some (.d (.tup [zk (zjd id route ep now b).1,.int .i64 (zjd id route ep now b).2]),[]):=by
 have hv:=zih ⟨id,route,ep,0,0,now,b⟩;unfold zjd;generalize zak ⟨id,route,ep,0,0,now,b⟩=v at *;simp only[zk] at *
 by_cases c:v=0
 ·subst c;exact zW
 ·rw[zWz c];have zk0:=z9.eq_1;exact zW
structure zha(K:Tok):Prop where
 ok:zdT K
 rt:∀i,zh G 154 [.d (.int .i64 i)] []=some (.d (.int .i64 (K.route i)),[])
 en:∀h,zh G 203 [.d (zaz h)] []=some (.d (.tup [zax (K.enc h).1,.int .i64 (K.enc h).2]),[])
 pa:∀b:List UInt8,b.length<=4294967296->zh G 164 [.d (zax b)] []=some (.d (.tup [zaz (K.par b).1,.int .i64 (K.par b).2]),[])
theorem zdN{t:zi}(hk:t.sec.shards.length=1):sh0 t=t.sec.shards[0]:=by
 unfold sh0;exact zq zo
theorem zTP{K:Tok}(hK:zha K){u:Setup}{N:Int}{t:zi}(hs:SI u N t.sec)(hk:t.sec.shards.length=1)(hw:zg8 t.walk)(he:0<=t.entry/\t.entry<t.inv.bodies.length):zh G 157 [.d (zd t)] []=some (.d (.tup [zd (zc9 K t).1,.sl ((zc9 K t).2.map zad)]),[]):=by
 have hb:zbc t.sec.shards[0]:=zdN hk ▸ zmG hs;have hl12:zaK t.sec.shards[0]:=zdN hk ▸ ziq hs;have hu:=zhE t.sec;have ho:=zoJ t.sec.shards[0] t.walk.next hb;unfold zc9;simp only;rw[zdN hk];have hun:=hs.un
 by_cases c0:ze2 t.sec.shards[0] t.walk.next=false
 ·rw[zWz c0];rw[c0] at ho;have hd:=zcP (t:={ t with loaded:=0 }) hs hun;generalize za8 { t with loaded:=0 } (zU t.sec)=t2 at *;have sz_t2:=zE t2;generalize zd t2=D_t2 at *;clear hun hs hl12 hb c0;simp only[zd,zr,zY,zU,zWA,zt] at *;exact zW
 rw[zWy c0];replace c0:ze2 t.sec.shards[0] t.walk.next=true:=by simpa using c0
 rw[c0] at ho;have hst:=zhC t.sec.shards[0] hb;have hsn:=zkV { t with loaded:=0 } 2
 by_cases c1:zbl t.sec.shards[0]=t.sec.shards[0].ready.cells.length
 ·rw[zWz c1];have ha:=zCX t.walk t.sec.shards[0].low t.sec.shards[0].high;have hv:=zCZ (ze9 t.walk t.sec.shards[0].low t.sec.shards[0].high).1;generalize ze9 t.walk t.sec.shards[0].low t.sec.shards[0].high=wk at *;obtain⟨wk,we⟩:=wk;simp only at *;rw[c1] at hst
  by_cases c2:zg7 wk=false
  ·rw[zWz c2];rw[c2] at hv;have hd:=zcP (t:={ t with loaded:=0,walk:=wk }) hs hun;generalize za8 { t with loaded:=0,walk:=wk } (zU t.sec)=t2 at *;have sz_t2:=zE t2;generalize zd t2=D_t2 at *;clear hun hs hl12 hb c0 c1 c2;simp only[zd,zr,zY,zU,zc2,zck,ze7,zad,zbT,zWA,zt] at *;exact zW
  ·rw[zWy c2];replace c2:zg7 wk=true:=by simpa using c2
   rw[c2] at hv;have hd:=zcP (t:={ t with loaded:=2,walk:=wk }) hs hun;generalize za8 { t with loaded:=2,walk:=wk } (zU t.sec)=t2 at *;have sz_t2:=zE t2;generalize zd t2=D_t2 at *;clear hun hs hl12 hb c0 c1 c2;simp only[zd,zr,zY,zU,zc2,zck,ze7,zad,zbT,zWA,zWD,zt] at *;have zk0:=zbJ.eq_1;exact zW
 ·rw[zWy c1];have hrt:=hK.rt t.id;have hin:=zz8 (K.route t.id) t.sec.shards[0].low t.sec.shards[0].high;have hnm:=zO6 t.id (zka (K.route t.id) t.sec.shards[0].low t.sec.shards[0].high) t.sec.snap.epoch t.sec.snap.clock (t.inv.bodies.getD t.entry.toNat []);rw[zq (show t.entry.toNat<t.inv.bodies.length by omega)] at hnm ⊢;generalize K.route t.id=rt at *;generalize zka rt t.sec.shards[0].low t.sec.shards[0].high=r2 at *;generalize zjd t.id r2 t.sec.snap.epoch t.sec.snap.clock (t.inv.bodies[t.entry.toNat]'(by omega))=m at *;obtain⟨m,me⟩:=m;simp only at *;have hpt:=zBu t.sec.shards[0] m hb;have hl2:=zlO hl12 m;generalize zcK t.sec.shards[0] m=x at *;obtain⟨x,xe⟩:=x;simp only at *;have hd:=zcP (t:={ t with loaded:=1 }) hs (hs.one hk hl2);generalize za8 { t with loaded:=1 } { zU t.sec with shards:=[x],order:=[0] }=t2 at *;have sz_t2:=zE t2;generalize zd t2=D_t2 at *;clear hun hs hl12 hb c0 hl2;simp only[zd,zr,zY,zU,zck,ze7,zad,zbT,zk,zWA,zWD,zt] at *;have zk0:=zbJ.eq_1;exact zW
end Go.Proofs.YtjalkkalhdnplaaGreat
