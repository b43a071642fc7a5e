/-
  Rings of the reference.
-/
import Derived.Test.YtdnlddoeamjcoaaGreatB842129c
import Derived.Test.YtdnlddoeamjcoaaGreatB818f260
import Derived.Test.YtdnlddoeamjcoaaGreatB95e251b
set_option linter.unusedSimpArgs false
set_option linter.unusedVariables false
set_option maxHeartbeats 10000000
set_option maxRecDepth 100000
namespace Go.Proofs.YtdnlddoeamjcoaaGreat
open Go Go.Sim
theorem zni{r:zat}{m:zl}(h:zdE r m=0):zaX r=0/\zaC m=0/\r.size≠r.cells.length/\zaV (zI r) m.id<0:=by
 unfold zdE at h
 by_cases e1:zaX r=0
 ·rw[zacX (fun hc=>hc e1)] at h
  by_cases e2:zaC m=0
  ·rw[zacX (fun hc=>hc e2)] at h
   by_cases e3:r.size=r.cells.length
   ·rw[zacY e3] at h;exact absurd h (by decide)
   ·rw[zacX e3] at h
    by_cases e4:0<=zaV (zI r) m.id
    ·rw[zacY e4] at h;exact absurd h (by decide)
    ·exact⟨e1,e2,e3,by omega⟩
  ·rw[zacY e2] at h;exact absurd h e2
 ·rw[zacY e1] at h;exact absurd h e1
theorem z60(c:List zl)(h z:Nat)(m:zl)(hp:zdE ⟨c,h,z⟩ m=0):zg G zjP [.d (zau ⟨c,h,z⟩),.d (zn m)] []=some (.d (.tup [zau ⟨wN c.length h (za5 c h z++[m]) (z+1),h,(z+1:Nat)⟩,.int .i64 0]),[]):=by
 obtain⟨p1,p2,p3,p4⟩:=zni hp;obtain⟨a1,a2,a3,a4,a5,a6⟩:=zc8 p1;simp only at a1 a2 a3 a4 a5 a6 p3;have hpu:=zta ⟨c,h,z⟩ m (by simp only;omega);have hl:=zjv c h z a2 zo zo;have hn:=zju c h z;have hw:=zt5 c h z h (za5 c h z++[m]) a1 a2 zo (by rw[zac6,hn];simp;omega);rw[hp] at hpu;rw[zac6,hn,zadF,zadg] at hw;rw[hn] at hl;clear p1 p2 p4 hp;generalize wN c.length h (za5 c h z++[m]) (z+1)=q at *;generalize za5 c h z=w at *;simp only[zau,zn,zac1,zacZ] at hpu hw hl ⊢;exact zW zIl
theorem z61(c:List zl)(h z:Nat)(m:zl)(hp:zdE ⟨c,h,z⟩ m=0):zg G zjQ [.d (zau ⟨c,h,z⟩),.d (zn m)] []=some (.d (.tup [zau ⟨wN c.length ((h+c.length - 1) % c.length) (m::za5 c h z) (z+1),((h+c.length - 1) % c.length:Nat),(z+1:Nat)⟩,.int .i64 0]),[]):=by
 obtain⟨p1,p2,p3,p4⟩:=zni hp;obtain⟨a1,a2,a3,a4,a5,a6⟩:=zc8 p1;simp only at a1 a2 a3 a4 a5 a6 p3;have hpu:=zta ⟨c,h,z⟩ m (by simp only;omega);have hl:=zjv c h z a2 zo zo;have hn:=zju c h z;have hj:(h+c.length - 1) % c.length<c.length:=zad4 _ zo;have e:((h:Int)+c.length - 1).tmod c.length=(((h+c.length - 1) % c.length:Nat):Int):=by
  rw[show (h:Int)+c.length - 1=((h+c.length - 1:Nat):Int) by omega, <- zafx]
 have hw:=zt5 c h z ((h+c.length - 1) % c.length) (m::za5 c h z) a1 a2 zo (by rw[zac4,hn];omega);rw[hp] at hpu;rw[zac4,hn,zac1] at hw;rw[hn] at hl;clear p1 p2 p4 hp;generalize (h+c.length - 1) % c.length=j at *;generalize wN c.length j (m::za5 c h z) (z+1)=q at *;generalize za5 c h z=w at *
 by_cases h0:w=[]
 ·subst h0;simp only[zau,zn,zacZ] at hpu hw hl ⊢;exact zW zzr
 ·have he:(w.map zn).isEmpty=false:=by cases w with|nil=>exact absurd rfl h0|cons x w=>rfl
  simp only[zau,zn] at hpu hw hl he ⊢;exact zW zzr
theorem zYg{α:Type}(l:List α)(i j:Nat)(x d:α)(hi:i<l.length):(l.set i x).getD j d=if i=j then x else l.getD j d:=by
 rw[zadC,zadC,zaeS]
 split
 ·rename_i e;subst e;simp
 ·rfl
theorem z0K{n h i j:Nat}(hi:i<n)(hj:j<n)(e:(h+i) % n=(h+j) % n):i=j:=by
 have h1:=zad4 h (show 0<n by omega);rw[Nat.add_mod h i,Nat.add_mod h j,zaea hi,zaea hj] at e;generalize h % n=a at *
 by_cases c1:a+i<n
 ·rw[zaea c1] at e
  by_cases c2:a+j<n
  ·rw[zaea c2] at e;omega
  ·rw[show a+j=(a+j - n)+n by omega,zafC,zaea zo] at e;omega
 ·rw[show a+i=(a+i - n)+n by omega,zafC,zaea zo] at e
  by_cases c2:a+j<n
  ·rw[zaea c2] at e;omega
  ·rw[show a+j=(a+j - n)+n by omega,zafC,zaea zo] at e;omega
theorem zDu{n h:Nat}{l:List zl}(hn:1<=n):∀ {i:Nat},i<=n->∀ {j:Nat},j<n->(wN n h l i).getD ((h+j) % n) zak=if j<i then l.getD j zak else zak:=by
 intro i
 induction i with
 | zero=>
  intro _ j hj;rw[zacX zo];have:(h+j) % n<n:=zad4 _ zo;simp [wN,zadC,zagb,this]
 | succ i ih=>
  intro hi j hj;have hm:(h+i) % n<n:=zad4 _ zo;rw[zDv,zYg _ _ _ _ _ (by rw[zcG];exact hm),ih zo hj]
  by_cases e:(h+i) % n=(h+j) % n
  ·obtain rfl:=z0K zo hj e;rw[zacY rfl,zacY zo]
  ·rw[zacX e]
   by_cases c:j<i
   ·rw[zacY c,zacY zo]
   ·rw[zacX c,zacX];intro h2;obtain rfl:j=i:=by omega
    exact e rfl
def rg(n h:Nat)(l:List zl):zat:=⟨wN n h l l.length,h,l.length⟩
theorem zk1{n h:Nat}{l:List zl}(hn:1<=n)(hl:l.length<=n):za5 (wN n h l l.length) h l.length=l:=by
 unfold za5;rw[zcG];refine zaf3 (by simp) fun j h1 h2=> ?_;simp only[zafg,List.getElem_range];rw[zDu hn hl zo,zacY h2,zj h2]
theorem zWT{l:List zl}(h:∀m∈l,zaC m=0):zcp l=0:=by
 induction l with
 | nil=>rfl
 | cons m l ih=>
  unfold zcp;rw[zacX (by simpa using h m (by simp))];exact ih fun x hx=>h x (by simp [hx])
theorem zCS{n h:Nat}{l:List zl}(hn:1<=n)(hn2:n<=12)(hh:h<n)(hl:l.length<=n)(hm:∀m∈l,zaC m=0)(hd:(l.map (·.id)).Nodup):zaX (rg n h l)=0:=by
 have ho:zI (rg n h l)=l:=by rw[rg,zjt,zk1 hn hl]
 unfold zaX;rw[ho];have hlen:(rg n h l).cells.length=n:=zcG _ _ _ _;rw[zacX (by rw[zadh];exact⟨by rw[hlen];omega,by rw[hlen];omega,by simp [rg],by rw[hlen];simp [rg];omega,by simp [rg],by rw[hlen];simp [rg];omega⟩)];rw[zacX,zacX (by rw[zWT hm];simp),zacX (by unfold zea;simpa using hd)];unfold zdG;rw[hlen];rw[zadY];rintro⟨j,h1,h2⟩;rw[zaeV] at h1;have hz:(rg n h l).size.toNat=l.length:=by simp [rg]
 have e:=zDu (h:=h) (l:=l) hn hl (show j<n by omega);rw[zacX zo] at e;exact of_decide_eq_true h2 e
theorem zBS{n h:Nat}{l:List zl}{m:zl}(hn:1<=n)(hn2:n<=12)(hh:h<n)(hl:l.length<n)(hm:∀m∈l,zaC m=0)(hd:(l.map (·.id)).Nodup)(hv:zaC m=0)(hi:∀x∈l,x.id≠m.id):zdE (rg n h l) m=0:=by
 unfold zdE;rw[zacX (by rw[zCS hn hn2 hh zo hm hd];simp),zacX (by rw[hv];simp),zacX (by simp [rg,zcG];omega),zacX];rw[rg,zjt,zk1 hn zo];have:zaV l m.id<0:=by
  unfold zaV;rw[zsl];intro x hx;simpa using hi x hx
 omega
theorem z6o{n h:Nat}{l:List zl}{m:zl}(hn:1<=n)(hn2:n<=12)(hh:h<n)(hl:l.length<n)(hm:∀m∈l,zaC m=0)(hd:(l.map (·.id)).Nodup)(hv:zaC m=0)(hi:∀x∈l,x.id≠m.id):zg G zjP [.d (zau (rg n h l)),.d (zn m)] []=some (.d (.tup [zau (rg n h (l++[m])),.int .i64 0]),[]):=by
 have hp:=zBS hn hn2 hh hl hm hd hv hi;have:=z60 (wN n h l l.length) h l.length m hp;rw[zk1 hn zo,zcG] at this;rw[show rg n h l=⟨wN n h l l.length,h,l.length⟩ from rfl,this];unfold rg;rw[zac6,zadF]
theorem z6u{n h:Nat}{l:List zl}{m:zl}(hn:1<=n)(hn2:n<=12)(hh:h<n)(hl:l.length<n)(hm:∀m∈l,zaC m=0)(hd:(l.map (·.id)).Nodup)(hv:zaC m=0)(hi:∀x∈l,x.id≠m.id):zg G zjQ [.d (zau (rg n h l)),.d (zn m)] []=some (.d (.tup [zau (rg n ((h+n - 1) % n) (m::l)),.int .i64 0]),[]):=by
 have hp:=zBS hn hn2 hh hl hm hd hv hi;have:=z61 (wN n h l l.length) h l.length m hp;rw[zk1 hn zo,zcG] at this;rw[show rg n h l=⟨wN n h l l.length,h,l.length⟩ from rfl,this];rfl
theorem z9o{n h p:Nat}(hn:1<=n)(hp:p<n):∃j,j<n/\(h+j) % n=p:=by
 have hh:h % n<n:=zad4 _ zo
 by_cases c:h % n<=p
 ·refine⟨p - h % n,by omega,?_⟩;rw[<- Nat.mod_add_mod,show h % n+(p - h % n)=p by omega,zaea hp]
 ·refine⟨p+n - h % n,by omega,?_⟩;rw[<- Nat.mod_add_mod,show h % n+(p+n - h % n)=p+n by omega,zafC,zaea hp]
theorem zTU{n h:Nat}{a b:List zl}(hn:1<=n)(ha:a.length=n)(hb:b.length=n)(H:∀j,j<n->a.getD ((h+j) % n) zak=b.getD ((h+j) % n) zak):a=b:=by
 refine zaf3 zo fun p h1 h2=> ?_;obtain⟨j,hj,e⟩:=z9o (h:=h) hn (show p<n by omega);have:=H j hj;rw[e] at this;simpa [zadC,h1,h2] using this
theorem z0L{n i:Nat}(hn:1<=n):i % n<n:=zad4 _ zo
theorem zYf{l:List zl}{j:Nat}(h:j<l.length):l[j]=l.getD j zak:=by
 rw[zadC,zada h];rfl
theorem zWS:∀ {l:List zl},zcp l=0->∀m∈l,zaC m=0:=by
 intro l
 induction l with
 | nil=>intro _ m hm;cases hm
 | cons x l ih=>
  intro h m hm;unfold zcp at h
  split at h
  ·rename_i q;exact absurd h q
  ·rename_i q
   cases hm with
   | head=>simpa using q
   | tail _ hm=>exact ih h m hm
theorem znw{r:zat}(hr:zaX r=0):∃n h:Nat,r=rg n h (zI r)/\1<=n/\n<=12/\h<n/\(zI r).length<=n/\(∀m∈zI r,zaC m=0)/\((zI r).map (·.id)).Nodup:=by
 have hok:=zc8 hr;obtain⟨c,h,z,rfl,h1,h2,h3,h4⟩:=znx hok;rw[zQC hok] at hr;have ho:zI ⟨c,h,z⟩=za5 c h z:=zjt c h z;rw[ho];have hl:(za5 c h z).length=z:=zju c h z
 split at hr
 ·cases hr
 rename_i hrest
 split at hr
 ·rename_i q;exact absurd hr q
 rename_i hfirst
 split at hr
 ·cases hr
 rename_i hdup;refine⟨c.length,h,?_,h1,h2,h3,by omega,?_,?_⟩
 ·unfold rg;rw[hl]
  congr 1
  refine zTU (n:=c.length) (h:=h) h1 rfl (zcG _ _ _ _) fun j hj=> ?_;rw[zDu h1 h4 hj]
  by_cases cj:j<z
  ·rw[zacY cj];simp [za5,zadC,cj]
  ·rw[zacX cj];have hr2:zdG ⟨c,h,z⟩ z c.length=false:=by simpa using hrest
   unfold zdG at hr2;rw[zaee] at hr2;have:=hr2 j (zaeV.2 ⟨by omega,by omega⟩);simpa using this
 ·have hf:zcp (za5 c h z)=0:=by simpa using hfirst
  generalize za5 c h z=w at *;clear hl ho hdup hrest;intro m hm;have:=zWS hf m hm;exact this
 ·have:zea ((za5 c h z).map (·.id))=false:=by simpa using hdup
  unfold zea at this;simpa using this
def pbD(r:zat)(m:zl):zat×Int:=if zdE r m=0 then (rg r.cells.length r.head.toNat (zI r++[m]),0) else (zaP,zdE r m)
def rmE(r:zat)(id:Int):Int:=if zaX r≠0 then zaX r else if zaV (zI r) id<0 then 4 else 0
def rmD(r:zat)(id:Int):zat×zl×Int:=if rmE r id=0 then (rg r.cells.length r.head.toNat ((zI r).eraseIdx (zaV (zI r) id).toNat),(zI r).getD (zaV (zI r) id).toNat zak,0) else (zaP,zak,rmE r id)
theorem zH6{l:List zl}{id:Int}(h:0<=zaV l id):(zaV l id).toNat<l.length:=by
 unfold zaV zce at h ⊢
 cases hc:l.findIdx? (fun m:zl=>decide (m.id=id)) with
 | none=>rw[hc] at h;simp at h
 | some i=>
  obtain⟨hi,_⟩:=zad6.1 hc;simpa using hi
def pfD(r:zat)(m:zl):zat×Int:=if zdE r m=0 then (rg r.cells.length ((r.head.toNat+r.cells.length - 1) % r.cells.length) (m::zI r),0) else (zaP,zdE r m)
def usE(s:zu)(b:Bool):Int:=if zal s≠0 then zal s else if b=true then 0 else 1
structure RO where
 h:Nat
 L:List zl
 id:Int
 a:Nat
 i:Nat
theorem zjJ{t:zT}(h:zaA t=0):t.l.length<=12/\t.heap.length<=12:=by
 obtain⟨q1,q2,q3,q4⟩:=(zd2 t).1 h;exact⟨q1,q3.len⟩
structure TB where
 t:zT
 id:Int
 a:Nat
 i:Nat
 b:Bool
def epQ(n:Int):Bool:=decide (0<=n/\n<=65536)
def liQ(n:Int):Bool:=decide (1<=n/\n<=8)
def tiQ(n:Int):Bool:=decide (0<=n/\n<=1073741824)
def viQ(n:Int):Bool:=decide (0<=n/\n<=1000)
def zaZ(s:zu)(id:Int):zu×zl×Int:=if (zap s.leases id).2.2=0 then ({ s with leases:=(zap s.leases id).1 },(zap s.leases id).2.1,0) else (zP,zak,(zap s.leases id).2.2)
def zc4(s:zu)(h:zbk)(now ep:Int):Bool:=(zee s.leases h.id).2&&(decide ((zee s.leases h.id).1.msg.gen=h.gen)&&(decide ((zee s.leases h.id).1.msg.route=h.route)&&(!decide ((zee s.leases h.id).1.msg.epoch<ep)&&decide (now<(zee s.leases h.id).1.deadline))))
def zdr(s:zu)(h:zbk)(now ep:Int):zu×Int:=if usE s (tiQ now&&epQ ep)≠0 then (zP,usE s (tiQ now&&epQ ep)) else if zc4 s h now ep=true then ((zaZ s h.id).1,(zaZ s h.id).2.2) else (zP,5)
theorem zDq{s:zu}{b:Bool}(h:usE s b=0):1<=s.ready.cells.length/\s.ready.cells.length<=12/\s.leases.l.length<=12/\s.leases.heap.length<=12:=by
 have hl:zal s=0:=by
  unfold usE at h
  split at h
  ·rename_i q;exact absurd h q
  ·rename_i q;exact zadh.1 q
 have hv:zaf s=0:=by
  unfold zal at hl
  split at hl
  ·rename_i q;exact absurd hl q
  ·rename_i q;exact zadh.1 q
 unfold zaf at hv
 split at hv
 ·rename_i q;exact absurd hv q
 ·rename_i q1
  split at hv
  ·rename_i q;exact absurd hv q
  ·rename_i q2;obtain⟨a1,a2,_⟩:=zc8 (zadh.1 q1);obtain⟨b1,b2⟩:=zjJ (zadh.1 q2);exact⟨a1,a2,b1,b2⟩
def zd6(s:zu)(m:zl)(lim:Int):zat×Int:=if lim<=m.count then pbD s.ready m else pfD s.ready m
def zdh(s:zu)(h:zbk)(now ep lim:Int):zu×Int:=
 if usE s (tiQ now&&(epQ ep&&liQ lim))≠0 then (zP,usE s (tiQ now&&(epQ ep&&liQ lim)))
 else if zc4 s h now ep=true then (if (zaZ s h.id).2.2≠0 then (zP,(zaZ s h.id).2.2)
  else if (zd6 (zaZ s h.id).1 (zaZ s h.id).2.1 lim).2≠0 then (zP,(zd6 (zaZ s h.id).1 (zaZ s h.id).2.1 lim).2)
  else ({ (zaZ s h.id).1 with ready:=(zd6 (zaZ s h.id).1 (zaZ s h.id).2.1 lim).1 },0)) else (zP,5)
theorem zt4{s:zu}{b:Bool}(h:usE s b=0):b=true:=by
 unfold usE at h
 split at h
 ·rename_i q;exact absurd h q
 ·split at h
  ·assumption
  ·cases h
def zfr(s:zu)(h:zbk)(now ep vis:Int):zu×Int:=
 if usE s (tiQ now&&(epQ ep&&viQ vis))≠0 then (zP,usE s (tiQ now&&(epQ ep&&viQ vis)))
 else if zc4 s h now ep=true then (if 1073741824<now+vis then (zP,6) else if (zbr s.leases h.id (now+vis)).2≠0 then (zP,(zbr s.leases h.id (now+vis)).2)
  else ({ s with leases:=(zbr s.leases h.id (now+vis)).1 },0)) else (zP,5)
def zd7(m:zl):zl×Int:=if zaC m≠0 then (zak,zaC m) else if m.gen=65536 then (zak,6) else if m.count=8 then (zak,7) else ({ m with count:=m.count+1,gen:=m.gen+1 },0)
def zgx(ep lim:Int)(m:zl):Bool:= !decide (m.epoch<ep)&&(!decide (lim<=m.count)&&decide (m.gen<65536))
def zgg(s:zu)(m:zl)(d:Int):zu×zN×Int:=
 if (rmD s.ready m.id).2.2≠0 then (s,zb3,(rmD s.ready m.id).2.2)
 else if (zd7 (rmD s.ready m.id).2.1).2≠0 then (s,zb3,(zd7 (rmD s.ready m.id).2.1).2)
 else if (zaY s.leases (zd7 (rmD s.ready m.id).2.1).1 d).2≠0 then (s,zb3,(zaY s.leases (zd7 (rmD s.ready m.id).2.1).1 d).2)
 else ({ s with ready:=(rmD s.ready m.id).1,leases:=(zaY s.leases (zd7 (rmD s.ready m.id).2.1).1 d).1 },⟨(zd7 (rmD s.ready m.id).2.1).1,d⟩,0)
def tkF(mx d ep lim:Int):List zl->zu->List zN->zu×List zN×Int
 | [],s,out=>(s,out,0)
 | m::l,s,out=>if (out.length:Int)=mx\/zgx ep lim m=false then tkF mx d ep lim l s out else if (zgg s m d).2.2≠0 then (zP,[],(zgg s m d).2.2) else tkF mx d ep lim l (zgg s m d).1 (out++[(zgg s m d).2.1])
theorem zYn(t:zT)(m:zl)(d:Int):(zaY t m d).1.l.length<=12/\(zaY t m d).1.heap.length<=12:=by
 by_cases h:(zaY t m d).2=0
 ·exact zjJ (zI5 h).1
 ·have:zaY t m d=(zax,zeF t m d):=by
     unfold zaY at h ⊢
     split at h
     ·exact absurd rfl h
     ·rename_i hc;rw[zacX hc]
  rw[this];simp [zax]
structure TK where
 s:zu
 out:List zN
 i:Nat
def shZ:Go.Sim.AV:= .agg [.d (.bool false),.d (.int .i64 0),.d (.int .i64 0),.xsl [],.d (.int .i64 0),.d (.int .i64 0),.xsl [],.xsl []]
def zlu(s:zu)(mx now vis ep lim:Int):Int:=usE s (epQ ep&&(liQ lim&&(tiQ now&&(viQ vis&&decide (1<=mx/\mx<=6)))))
def zda(s:zu)(mx now vis ep lim:Int):zu×List zN×Int:=if zlu s mx now vis ep lim≠0 then (zP,[],zlu s mx now vis ep lim) else if 1073741824<now+vis then (zP,[],6) else tkF mx (now+vis) ep lim (zI s.ready) s []
theorem zDr{s:zu}{b:Bool}(h:usE s b=0):zaX s.ready=0:=by
 have hl:zal s=0:=by
  unfold usE at h
  split at h
  ·rename_i q;exact absurd h q
  ·rename_i q;exact zadh.1 q
 have hv:zaf s=0:=by
  unfold zal at hl
  split at hl
  ·rename_i q;exact absurd hl q
  ·rename_i q;exact zadh.1 q
 unfold zaf at hv
 split at hv
 ·rename_i q;exact absurd hv q
 ·rename_i q1;exact zadh.1 q1
theorem zabZ(mx d ep lim:Int):∀(l:List zl) (s:zu) (out:List zN),(tkF mx d ep lim l s out).2.2≠0->(tkF mx d ep lim l s out).1=zP/\(tkF mx d ep lim l s out).2.1=[]:=by
 intro l
 induction l with
 | nil=>intro s out h;exact absurd rfl h
 | cons m l ih=>
  intro s out h;rw[tkF] at h ⊢
  split at h
  ·rename_i q;rw[zacY q];exact ih _ _ h
  ·rename_i q;rw[zacX q]
   split at h
   ·rename_i q2;rw[zacY q2];exact⟨rfl,rfl⟩
   ·rename_i q2;rw[zacX q2];exact ih _ _ h
def zc3:List Int->zu->zu×Int
 | [],s=>(s,0)
 | id::l,s=>if (zaZ s id).2.2≠0 then (zP,(zaZ s id).2.2) else if (pbD (zaZ s id).1.ready (zaZ s id).2.1).2≠0 then (zP,(pbD (zaZ s id).1.ready (zaZ s id).2.1).2) else zc3 l { (zaZ s id).1 with ready:=(pbD (zaZ s id).1.ready (zaZ s id).2.1).1 }
def zc2(s:zu)(now ep lim:Int):zu×List Int×Int:=
 if usE s (tiQ now&&(epQ ep&&liQ lim))≠0 then (zP,[],usE s (tiQ now&&(epQ ep&&liQ lim)))
 else if (zc3 (zdS s.leases now ep) s).2=0 then ((zc3 (zdS s.leases now ep) s).1,zdS s.leases now ep,0) else (zP,[],(zc3 (zdS s.leases now ep) s).2)
theorem zMa(t:zT)(now ep:Int):(zdS t now ep).length<=12:=by
 unfold zdS
 split
 ·rename_i h;exact zadL (zaeh _ _) (zRi h now)
 ·simp
def zbs(s:zu):Int:=if zaf s=0 then s.ready.size+s.leases.l.length else 0
def VS(n h:Nat)(L:List zl)(t:zT)(lo hi:Int):Prop:=1<=n/\n<=12/\h<n/\L.length+t.l.length<=n/\0<=lo/\lo<=hi/\hi<65536/\(∀m∈L,zaC m=0/\lo<=m.route/\m.route<=hi)/\zaA t=0/\(∀y∈t.l,lo<=y.msg.route/\y.msg.route<=hi)/\(L.map (·.id)++t.l.map (fun y=>y.msg.id)).Nodup
def mkS(n h:Nat)(L:List zl)(t:zT)(lo hi:Int):zu:=⟨true,lo,hi,rg n h L,t⟩
theorem VS.ring{n h:Nat}{L:List zl}{t:zT}{lo hi:Int}(v:VS n h L t lo hi):zaX (rg n h L)=0:=by
 obtain⟨a1,a2,a3,a4,_,_,_,b,_,_,c⟩:=v;exact zCS a1 a2 a3 zo (fun m hm=>(b m hm).1) (zaeG.1 c).1
theorem VS.ord{n h:Nat}{L:List zl}{t:zT}{lo hi:Int}(v:VS n h L t lo hi):zI (rg n h L)=L:=by
 obtain⟨a1,a2,a3,a4,_⟩:=v;rw[rg,zjt];exact zk1 a1 zo
theorem VS.val{n h:Nat}{L:List zl}{t:zT}{lo hi:Int}(v:VS n h L t lo hi):zaf (mkS n h L t lo hi)=0:=by
 have hr:zaX (mkS n h L t lo hi).ready=0:=v.ring;have hm:za9 (mkS n h L t lo hi)=L++t.l.map (·.msg):=by unfold za9 mkS;rw[v.ord]
 obtain⟨a1,a2,a3,a4,a5,a6,a7,b1,b2,b3,c⟩:=v;rw[znE hr b2,hm];rw[zacX (by simp [mkS]),zacX (by simp only[mkS];omega),zacX,zacX,zacX]
 ·unfold zea;simp only[decide_eq_true_eq,zadh,zadg,zadV];exact c
 ·unfold zgO;simp only[zaeD,zaee,decide_eq_true_eq,zadh,zads,zadc];rintro m (hx|⟨y,hy,rfl⟩)
  ·exact (b1 m hx).2
  ·exact b3 y hy
 ·simp only[mkS,rg,zcG];omega
theorem zf1{s:zu}(hv:zaf s=0)(hl:s.live=true):∃n h:Nat,s=mkS n h (zI s.ready) s.leases s.low s.high/\VS n h (zI s.ready) s.leases s.low s.high:=by
 have h1:zaX s.ready=0:=by
  have q:=hv;unfold zaf at q
  split at q
  ·rename_i c;exact absurd q c
  ·rename_i c;exact zadh.1 c
 have h2:zaA s.leases=0:=by
  have q:=hv;unfold zaf at q;rw[zacX (fun c=>c h1)] at q
  split at q
  ·rename_i c;exact absurd q c
  ·rename_i c;exact zadh.1 c
 rw[znE h1 h2,zacX (by rw[hl];simp)] at hv
 split at hv
 ·cases hv
 rename_i c1
 split at hv
 ·cases hv
 rename_i c2
 split at hv
 ·cases hv
 rename_i c3
 split at hv
 ·cases hv
 rename_i c4;obtain⟨n,h,hrg,d1,d2,d3,d4,d5,d6⟩:=znw h1;have hc:s.ready.cells.length=n:=by rw[hrg];exact zcG _ _ _ _
 have hz:s.ready.size=((zI s.ready).length:Int):=by rw[zhv];have:=congrArg zat.size hrg;simp only[rg] at this;omega
 have c1:=zadh.1 c1;refine⟨n,h,?_,d1,d2,d3,by omega,c1.1,c1.2.1,c1.2.2,?_,h2,?_,?_⟩
 ·obtain⟨lv,lo,hi,r,t⟩:=s;simp only at hl hrg;subst hl;show _=zu.mk true lo hi _ t
  congr 1
 ·intro m hm;refine⟨d5 m hm,?_⟩;unfold zgO at c3;simp only[zaeD,zaee,decide_eq_true_eq,zadh,za9,zads,zadc] at c3;exact c3 m (.inl hm)
 ·intro y hy;unfold zgO at c3;simp only[zaeD,zaee,decide_eq_true_eq,zadh,za9,zads,zadc] at c3;exact c3 y.msg (.inr ⟨y,hy,rfl⟩)
 ·unfold zea za9 at c4;simp only[decide_eq_true_eq,zadh,zadg,zadV] at c4;exact c4
theorem ziB(n h:Nat)(L:List zl):(rg n h L).cells.length=n:=zcG _ _ _ _
theorem zzg{l:List zl}{id:Int}(h:∃m∈l,m.id=id):0<=zaV l id:=by
 unfold zaV zce
 cases hc:l.findIdx? (fun m:zl=>decide (m.id=id)) with
 | some i=>simp
 | none=>
  obtain⟨m,hm,e⟩:=h;have:=(zae6.1 hc) m hm;simp [e] at this
theorem zXb{l:List zl}{id:Int}(h:0<=zaV l id):(l.getD (zaV l id).toNat zak).id=id:=by
 unfold zaV zce at h ⊢
 cases hc:l.findIdx? (fun m:zl=>decide (m.id=id)) with
 | none=>rw[hc] at h;simp at h
 | some i=>
  obtain⟨hi,hp,_⟩:=zad6.1 hc;simp only[zadG];rw[zadC,zada hi];exact of_decide_eq_true hp
theorem z1O{l:List zl}(h:(l.map (·.id)).Nodup){a b:zl}(ha:a∈l)(hb:b∈l)(e:a.id=b.id):a=b:=by
 induction l with
 | nil=>cases ha
 | cons x l ih=>
  simp only[zac1,zad8,zadc,not_exists,not_and] at h
  cases ha with
  | head=>
   cases hb with
   | head=>rfl
   | tail _ hb=>exact absurd e.symm (h.1 b hb)
  | tail _ ha=>
   cases hb with
   | head=>exact absurd e (h.1 a ha)
   | tail _ hb=>exact ih h.2 ha hb
theorem VS.rem{n h:Nat}{L:List zl}{t:zT}{lo hi:Int}(v:VS n h L t lo hi){m:zl}(hm:m∈L):∃k,∃hk:k<L.length,L[k]=m/\rmD (rg n h L) m.id=(rg n h (L.eraseIdx k),m,0):=by
 have h0:0<=zaV L m.id:=zzg ⟨m,hm,rfl⟩;have hk:=zH6 h0;have hid:=zXb h0;have e:L.getD (zaV L m.id).toNat zak=m:=by
  refine z1O (zaeG.1 v.2.2.2.2.2.2.2.2.2.2).1 ?_ hm hid;rw[zadC,zada hk];exact zadf hk
 refine⟨_,hk,?_,?_⟩
 ·exact (zYf hk).trans e
 ·have hE:rmE (rg n h L) m.id=0:=by
     unfold rmE;rw[zacX (fun q=>q v.ring),v.ord,zacX zo]
  unfold rmD;rw[zacY hE,v.ord,ziB,e];rfl
theorem zG2{m:zl}(h:zaC m=0)(h1:m.gen<65536)(h2:m.count<8):zd7 m=({ m with count:=m.count+1,gen:=m.gen+1 },0):=by
 unfold zd7;rw[zacX (fun q=>q h),zacX zo,zacX zo]
theorem zMB(m:zl):zaC m=0↔(1<=m.id/\m.id<=1073741824/\0<=m.route/\m.route<=65535/\0<=m.epoch/\m.epoch<=65536/\0<=m.count/\m.count<=8/\m.count<=m.gen/\m.gen<=65536/\0<=m.sent/\m.sent<=1073741824)/\m.body.length<=16:=by
 unfold zaC
 split
 ·rename_i c
  split
  ·rename_i c2;exact⟨(fun q=>by cases q),(fun q=>by omega)⟩
  ·rename_i c2;exact⟨fun _=>⟨c,by omega⟩,fun _=>rfl⟩
 ·rename_i c;exact⟨(fun q=>by cases q),(fun q=>absurd q.1 c)⟩
theorem zru{α:Type}(l:List α)(k:Nat)(hk:k<l.length):(l[k]::l.eraseIdx k).Perm l:=by
 rw[zaf4];have e:l=l.take k++l[k]::l.drop (k+1):=by
  rw[<- zady hk,zaf5]
 have:=(zaeP (a:=l[k]) (l₁:=l.take k) (l₂:=l.drop (k+1))).symm;rw[<- e] at this;exact this
def upM(m:zl):zl:={ m with count:=m.count+1,gen:=m.gen+1 }
theorem zQl(ep lim:Int)(m:zl):zgx ep lim m=true↔ep<=m.epoch/\m.count<lim/\m.gen<65536:=by
 unfold zgx;simp only[zac7,zadP,decide_eq_false_iff_not,decide_eq_true_eq];omega
theorem VS.dlv{n h:Nat}{L:List zl}{t:zT}{lo hi:Int}(v:VS n h L t lo hi){m:zl}(hm:m∈L){ep lim d:Int}(hq:zgx ep lim m=true)(hlim:lim<=8)(hd0:0<=d)(hd1:d<=1073741824):
    ∃k,∃hk:k<L.length,L[k]=m/\zgg (mkS n h L t lo hi) m d=(mkS n h (L.eraseIdx k) (zaY t (upM m) d).1 lo hi,⟨upM m,d⟩,0)/\(zaY t (upM m) d).1.l=zeh t.l (upM m) d/\VS n h (L.eraseIdx k) (zaY t (upM m) d).1 lo hi:=by
 obtain⟨k,hk,ek,hr⟩:=v.rem hm;obtain⟨q1,q2,q3⟩:=(zQl ep lim m).1 hq;obtain⟨a1,a2,a3,a4,a5,a6,a7,b1,b2,b3,c⟩:=v;obtain⟨mv,mr1,mr2⟩:=b1 m hm;have hdel:=zG2 mv q3 zo;have mv2:=(zMB m).1 mv;have hu:zaC (upM m)=0:=by
  rw[zMB];simp only[upM];omega
 have hnf:zar t.l (upM m).id<0:=by
  refine Classical.byContradiction fun hc=> ?_;obtain⟨x,hx,e⟩:=(zh3 (l:=t.l) (upM m).id).1 zo;refine (zaeG.1 c).2.2 m.id (zadc.2 ⟨m,hm,rfl⟩) x.msg.id (zadc.2 ⟨x,hx,rfl⟩) ?_;exact e.symm
 have hg:=zYm b2 hu (by simp only[upM];omega) hd0 hd1 zo hnf;obtain⟨g1,_,g2,_⟩:=zI5 hg;refine⟨k,hk,ek,?_,g2,a1,a2,a3,?_,a5,a6,a7,fun x hx=>b1 x (zage hx),g1,?_,?_⟩
 ·unfold zgg;have r1:(rmD (mkS n h L t lo hi).ready m.id)=(rg n h (L.eraseIdx k),m,0):=hr;have d1:zd7 m=(upM m,0):=hdel;have hg2:(zaY (mkS n h L t lo hi).leases (upM m) d).2=0:=hg;rw[r1];simp only[d1,hg2,ne_eq,zac9,if_false];rfl
 ·rw[g2,zaf6,zacY hk,(zig t.l (upM m) d).length_eq,zac4];omega
 ·intro y hy;rw[g2] at hy
  rcases zadB.1 ((zig t.l (upM m) d).mem_iff.1 hy) with rfl|hy
  ·exact⟨mr1,mr2⟩
  ·exact b3 y hy
 ·rw[g2];have p1:((zeh t.l (upM m) d).map fun y=>y.msg.id).Perm (m.id::t.l.map fun y=>y.msg.id):=(zig t.l (upM m) d).map _;have p2:(m.id::(L.eraseIdx k).map (·.id)).Perm (L.map (·.id)):=by
   have:=(zru L k hk).map (·.id);rw[ek] at this;exact this
  have p3:((L.eraseIdx k).map (·.id)++(zeh t.l (upM m) d).map fun y=>y.msg.id).Perm (L.map (·.id)++t.l.map fun y=>y.msg.id):=
   (p1.append_left _).trans (zaeP.trans (p2.append_right _))
  exact p3.nodup_iff.2 c
def zeH(L:List zl)(t:zT):List Int:=L.map (·.id)++t.l.map (fun y=>y.msg.id)
theorem zLX{l:List zN}{m:zl}{d:Int}{y:zN}:y∈zeh l m d↔y=⟨m,d⟩\/y∈l:=by
 rw[(zig l m d).mem_iff,zadB]
theorem VS.take{n h:Nat}{lo hi mx d ep lim:Int}(hlim:lim<=8)(hd0:0<=d)(hd1:d<=1073741824):∀(l L:List zl) (t:zT) (out:List zN),VS n h L t lo hi->(∀m∈l,m∈L)->(l.map (·.id)).Nodup->
    ∃L' t' out',tkF mx d ep lim l (mkS n h L t lo hi) out=(mkS n h L' t' lo hi,out++out',0)/\VS n h L' t' lo hi/\(zeH L' t').Perm (zeH L t)/\
     (∀y∈out',y.deadline=d/\y∈t'.l/\∃m∈L,y.msg=upM m/\zgx ep lim m=true)/\(∀y∈t.l,y∈t'.l):=by
 intro l
 induction l with
 | nil=>intro L t out v _ _;exact⟨L,t,[],by simp [tkF],v,List.Perm.refl _,by simp,fun y hy=>hy⟩
 | cons m l ih=>
  intro L t out v hl hn;simp only[zac1,zad8] at hn;rw[tkF]
  by_cases c:(out.length:Int)=mx\/zgx ep lim m=false
  ·rw[zacY c];exact ih L t out v (fun x hx=>hl x (.tail _ hx)) hn.2
  ·rw[zacX c];have hq:zgx ep lim m=true:=by
    cases hq:zgx ep lim m with
    | true=>rfl
    | false=>exact absurd (.inr hq) c
   have hm:=hl m (.head _);obtain⟨k,hk,ek,e1,e2,v2⟩:=v.dlv hm hq hlim hd0 hd1;have hp:=zru L k hk;rw[ek] at hp;have hl2:∀x∈l,x∈L.eraseIdx k:=by
    intro x hx
    rcases zadB.1 (hp.mem_iff.2 (hl x (.tail _ hx))) with rfl|hx2
    ·exact absurd (zadc.2 ⟨x,hx,rfl⟩) hn.1
    ·exact hx2
   obtain⟨L',t',out',r1,r2,r3,r4,r5⟩:=ih (L.eraseIdx k) (zaY t (upM m) d).1 (out++[⟨upM m,d⟩]) v2 hl2 hn.2;rw[e1];simp only[ne_eq,zac9,if_false];refine⟨L',t',⟨upM m,d⟩::out',by rw[r1];simp,r2,?_,?_,?_⟩
   ·refine r3.trans ?_;unfold zeH;rw[e2];have p1:((zeh t.l (upM m) d).map fun y=>y.msg.id).Perm (m.id::t.l.map fun y=>y.msg.id):=(zig t.l (upM m) d).map _;have p2:(m.id::(L.eraseIdx k).map (·.id)).Perm (L.map (·.id)):=by have:=hp.map (fun x:zl=>x.id);exact this
    exact (p1.append_left _).trans (zaeP.trans (p2.append_right _))
   ·intro y hy
    rcases zadB.1 hy with rfl|hy
    ·exact⟨rfl,r5 _ (by rw[e2];exact zLX.2 (.inl rfl)),m,hm,rfl,hq⟩
    ·obtain⟨s1,s2,m2,s3,s4⟩:=r4 y hy;exact⟨s1,s2,m2,zage s3,s4⟩
   ·intro y hy;exact r5 y (by rw[e2];exact zLX.2 (.inr hy))
theorem zWG{t:zT}(h:zaA t=0){y:zN}(hy:y∈t.l):zee t y.msg.id=(y,true):=by
 have h0:0<=zar t.l y.msg.id:=(zh3 (l:=t.l) y.msg.id).2 ⟨y,hy,rfl⟩;have ha:=zik (zhI h).2.1;obtain⟨hp,e⟩:=(zHQ ha y.msg.id).1 h0;have e2:=zWF ha h0;unfold zee;rw[zacY ⟨h,h0⟩,e2,zadG];have e3:t.l[zbB t.l y.msg.id]=y:=by
  obtain⟨j,hj,rfl⟩:=zae5.1 hy;have hpw:=zad7.1 ha
  rcases zaft (zbB t.l t.l[j].msg.id) j with c|c|c
  ·have:=hpw _ _ hp hj c;omega
  ·congr 1
  ·have:=hpw _ _ hj hp c;omega
 rw[zadC,zada hp];simp only[zaes,e3]
theorem zYq{s:zu}(ht:zaA s.leases=0){y:zN}(hy:y∈s.leases.l)(h:zbk)(hid:h.id=y.msg.id)(now ep:Int):zc4 s h now ep=(decide (y.msg.gen=h.gen)&&(decide (y.msg.route=h.route)&&(!decide (y.msg.epoch<ep)&&decide (now<y.deadline)))):=by
 unfold zc4;rw[hid,zWG ht hy,zaed]
theorem VS.rel{n h:Nat}{L:List zl}{t:zT}{lo hi:Int}(v:VS n h L t lo hi){y:zN}(hy:y∈t.l):∃t',zaZ (mkS n h L t lo hi) y.msg.id=(mkS n h L t' lo hi,y.msg,0)/\VS n h L t' lo hi/\(y::t'.l).Perm t.l:=by
 obtain⟨a1,a2,a3,a4,a5,a6,a7,b1,b2,b3,c⟩:=v;have h0:0<=zar t.l y.msg.id:=(zh3 (l:=t.l) y.msg.id).2 ⟨y,hy,rfl⟩;have hr:=(zCN (id:=y.msg.id) b2).2 h0;obtain⟨r1,_,k,hk,e1,e2,e3,e4⟩:=zCO hr;have ey:t.l[k]=y:=by
  have ha:=zik (zhI b2).2.1;obtain⟨j,hj,rfl⟩:=zae5.1 hy;have hpw:=zad7.1 ha
  rcases zaft k j with c|c|c
  ·have:=hpw _ _ hk hj c;omega
  ·congr 1
  ·have:=hpw _ _ hj hk c;omega
 have hp:(y::(zap t y.msg.id).1.l).Perm t.l:=by
  rw[e3,zG6, <- ey];exact zru t.l k hk
 refine⟨(zap t y.msg.id).1,?_,⟨a1,a2,a3,?_,a5,a6,a7,b1,r1,fun x hx=>b3 x (hp.mem_iff.1 (.tail _ hx)),?_⟩,hp⟩
 ·unfold zaZ;rw[zacY (show (zap (mkS n h L t lo hi).leases y.msg.id).2.2=0 from hr)];show (_,(zap t y.msg.id).2.1,_)=_;rw[e4,ey];rfl
 ·have:=hp.length_eq;simp only[zac4] at this;omega
 ·have p:(L.map (·.id)++(y.msg.id::(zap t y.msg.id).1.l.map fun x=>x.msg.id)).Perm (L.map (·.id)++t.l.map fun x=>x.msg.id):=(hp.map (fun x:zN=>x.msg.id)).append_left _;have q:=zaeP.nodup_iff.1 (p.nodup_iff.2 c);exact (zad8.1 q).2
theorem VS.back{n h:Nat}{L:List zl}{t:zT}{lo hi:Int}(v:VS n h L t lo hi){m:zl}(hm:zaC m=0)(hr:lo<=m.route/\m.route<=hi)(hl:L.length+t.l.length<n)(hid:m.id∉zeH L t)(lim:Int):
    ∃h' L',zd6 (mkS n h L t lo hi) m lim=(rg n h' L',0)/\VS n h' L' t lo hi/\L'.length=L.length+1/\(L'.map (·.id)).Perm (m.id::L.map (·.id)):=by
 have hord:=v.ord;obtain⟨a1,a2,a3,a4,a5,a6,a7,b1,b2,b3,c⟩:=v;have hni:∀x∈L,x.id≠m.id:=fun x hx e=>hid (zads.2 (.inl (zadc.2 ⟨x,hx,e⟩)));have hp:zdE (rg n h L) m=0:=zBS a1 a2 a3 zo (fun x hx=>(b1 x hx).1) (zaeG.1 c).1 hm hni;have hnd:(m.id::(L.map (·.id)++t.l.map fun y=>y.msg.id)).Nodup:=zad8.2 ⟨hid,c⟩
 by_cases c1:lim<=m.count
 ·have p:((L++[m]).map (·.id)).Perm (m.id::L.map (·.id)):=by
     rw[zadg];exact zafz
  refine⟨h,L++[m],?_,⟨a1,a2,a3,by simp only[zac6,zadF];omega,a5,a6,a7,fun x hx=> ?_,b2,b3,?_⟩,by simp,p⟩
  ·unfold zd6;rw[zacY c1];show pbD (rg n h L) m=_;unfold pbD;rw[zacY hp,hord,ziB];rfl
  ·rcases zads.1 hx with hx|hx
   ·exact b1 x hx
   ·rw[zadD.1 hx];exact⟨hm,hr⟩
  ·exact (p.append_right _).nodup_iff.2 hnd
 ·refine⟨(h+n - 1) % n,m::L,?_,⟨a1,a2,z0L a1,by simp only[zac4];omega,a5,a6,a7,fun x hx=> ?_,b2,b3,hnd⟩,by simp,List.Perm.refl _⟩
  ·unfold zd6;rw[zacX c1];show pfD (rg n h L) m=_;unfold pfD;rw[zacY hp,hord,ziB];rfl
  ·cases hx with
   | head=>exact⟨hm,hr⟩
   | tail _ hx=>exact b1 x hx
theorem VS.us{n h:Nat}{L:List zl}{t:zT}{lo hi:Int}(v:VS n h L t lo hi)(b:Bool):usE (mkS n h L t lo hi) b=if b=true then 0 else 1:=by
 have hl:zal (mkS n h L t lo hi)=0:=by
  unfold zal;rw[zacX (fun q=>q v.val)];rfl
 unfold usE;rw[zacX (fun q=>q hl)]
theorem VS.lens{n h:Nat}{L:List zl}{t:zT}{lo hi:Int}(v:VS n h L t lo hi):(mkS n h L t lo hi).ready.cells.length<=12/\(mkS n h L t lo hi).leases.l.length<=12/\(mkS n h L t lo hi).leases.heap.length<=12:=by
 obtain⟨b1,b2⟩:=zjJ v.2.2.2.2.2.2.2.2.1;exact⟨by show (rg n h L).cells.length<=12;rw[ziB];exact v.2.1,b1,b2⟩
def zeg(m:zl):zbk:=⟨m.id,m.gen,m.route,0⟩
theorem VS.gone{n h:Nat}{L:List zl}{t t':zT}{lo hi:Int}(v:VS n h L t lo hi){y:zN}(hp:(y::t'.l).Perm t.l):y.msg.id∉zeH L t':=by
 have c:=v.2.2.2.2.2.2.2.2.2.2;have p:(L.map (·.id)++(y.msg.id::t'.l.map fun x=>x.msg.id)).Perm (L.map (·.id)++t.l.map fun x=>x.msg.id):=(hp.map (fun x:zN=>x.msg.id)).append_left _;exact (zad8.1 (zaeP.nodup_iff.1 (p.nodup_iff.2 c))).1
theorem VS.holds{n h:Nat}{L:List zl}{t:zT}{lo hi:Int}(v:VS n h L t lo hi){y:zN}(hy:y∈t.l){now ep:Int}(hd:now<y.deadline)(he:ep<=y.msg.epoch):zc4 (mkS n h L t lo hi) (zeg y.msg) now ep=true:=by
 rw[zYq (s:=mkS n h L t lo hi) v.2.2.2.2.2.2.2.2.1 hy (zeg y.msg) rfl];simp only[zeg,decide_true,zaed,zac7,zadP,decide_eq_false_iff_not,decide_eq_true_eq];omega
theorem VS.ack{n h:Nat}{L:List zl}{t:zT}{lo hi:Int}(v:VS n h L t lo hi){y:zN}(hy:y∈t.l){now ep:Int}(hd:now<y.deadline)(he:ep<=y.msg.epoch)(hn:tiQ now=true)(hq:epQ ep=true):∃t',zdr (mkS n h L t lo hi) (zeg y.msg) now ep=(mkS n h L t' lo hi,0)/\VS n h L t' lo hi/\(y::t'.l).Perm t.l:=by
 obtain⟨t',r1,r2,r3⟩:=v.rel hy;refine⟨t',?_,r2,r3⟩;have hu:usE (mkS n h L t lo hi) (tiQ now&&epQ ep)=0:=by rw[v.us,hn,hq];rfl
 unfold zdr;rw[zacX (fun q=>q hu),zacY (v.holds hy hd he)];show ((zaZ (mkS n h L t lo hi) y.msg.id).1,(zaZ (mkS n h L t lo hi) y.msg.id).2.2)=_;rw[r1]
theorem VS.nack{n h:Nat}{L:List zl}{t:zT}{lo hi:Int}(v:VS n h L t lo hi){y:zN}(hy:y∈t.l){now ep lim:Int}(hd:now<y.deadline)(he:ep<=y.msg.epoch)(hn:tiQ now=true)(hq:epQ ep=true)(hl:liQ lim=true):∃h' L' t',zdh (mkS n h L t lo hi) (zeg y.msg) now ep lim=(mkS n h' L' t' lo hi,0)/\VS n h' L' t' lo hi/\L'.length+t'.l.length=L.length+t.l.length/\(y::t'.l).Perm t.l:=by
 obtain⟨t',r1,r2,r3⟩:=v.rel hy;have hlen:=r3.length_eq;simp only[zac4] at hlen;have hmv:zaC y.msg=0:=((zfF t.l).1 (zhI v.2.2.2.2.2.2.2.2.1).2.1).2 y hy |>.1;obtain⟨h',L',q1,q2,q3,q4⟩:=r2.back hmv (v.2.2.2.2.2.2.2.2.2.1 y hy) (by have:=v.2.2.2.1;omega) (v.gone r3) lim;refine⟨h',L',t',?_,q2,by omega,r3⟩;have hu:usE (mkS n h L t lo hi) (tiQ now&&(epQ ep&&liQ lim))=0:=by rw[v.us,hn,hq,hl];rfl
 unfold zdh;rw[zacX (fun q=>q hu),zacY (v.holds hy hd he)];have e:zaZ (mkS n h L t lo hi) (zeg y.msg).id=(mkS n h L t' lo hi,y.msg,0):=r1;rw[e];simp only[q1,ne_eq,zac9,if_false];rfl
def allI(s:zu):List Int:=(za9 s).map (·.id)
theorem VS.allI{n h:Nat}{L:List zl}{t:zT}{lo hi:Int}(v:VS n h L t lo hi):allI (mkS n h L t lo hi)=zeH L t:=by
 unfold _root_.Go.Proofs.YtdnlddoeamjcoaaGreat.allI za9 zeH mkS;rw[v.ord,zadg,zadV];rfl
theorem zfZ{s:zu}{b:Bool}(h:usE s b=0):zaf s=0/\s.live=true:=by
 have hl:zal s=0:=by
  unfold usE at h
  split at h
  ·rename_i q;exact absurd h q
  ·rename_i q;exact zadh.1 q
 unfold zal at hl
 split at hl
 ·rename_i q;exact absurd hl q
 ·rename_i q
  split at hl
  ·rename_i q2;exact⟨zadh.1 q,q2⟩
  ·cases hl
theorem zmF{s:zu}{h:zbk}{now ep:Int}(q:zc4 s h now ep=true):∃y∈s.leases.l,y.msg.id=h.id:=by
 unfold zc4 at q;rw[zac7] at q;have q:=q.1;unfold zee at q
 split at q
 ·rename_i c;exact (zh3 (l:=s.leases.l) h.id).1 c.2
 ·cases q
theorem zTI{x:zu}{mx now vis ep lim:Int}(h:(zda x mx now vis ep lim).2.2=0):zaf (zda x mx now vis ep lim).1=0/\(allI (zda x mx now vis ep lim).1).Perm (allI x):=by
 by_cases c:zlu x mx now vis ep lim=0
 ·obtain⟨hv,hl⟩:=zfZ (s:=x) c;have hn:=zt4 (s:=x) c;simp only[zac7,liQ,tiQ,viQ,decide_eq_true_eq] at hn
  by_cases c2:1073741824<now+vis
  ·unfold zda at h;rw[zacX (fun q=>q c),zacY c2] at h
   cases h
  ·obtain⟨n,h',e,v⟩:=zf1 hv hl;have et:zda x mx now vis ep lim=tkF mx (now+vis) ep lim (zI x.ready) x []:=by
    unfold zda;rw[zacX (fun q=>q c),zacX c2]
   rw[et];generalize zI x.ready=L at *;generalize x.leases=t at *;generalize x.low=lo at *;generalize x.high=hi at *;subst e;obtain⟨L',t',o',r1,r2,r3,_,_⟩:=VS.take (mx:=mx) (d:=now+vis) (ep:=ep) (lim:=lim) zo zo zo L L t [] v (fun m hm=>hm) (zaeG.1 v.2.2.2.2.2.2.2.2.2.2).1;rw[r1];refine⟨r2.val,?_⟩;rw[r2.allI,v.allI];exact r3
 ·unfold zda at h;rw[zacY c] at h;exact absurd h c
theorem VS.perm{L:List zl}{t t':zT}{y:zN}(hp:(y::t'.l).Perm t.l):(y.msg.id::zeH L t').Perm (zeH L t):=
 zaeP.symm.trans ((hp.map (fun x:zN=>x.msg.id)).append_left _)
theorem zTH{x:zu}{hd:zbk}{now ep lim:Int}(h:(zdh x hd now ep lim).2=0):zaf (zdh x hd now ep lim).1=0/\(allI (zdh x hd now ep lim).1).Perm (allI x):=by
 by_cases c:usE x (tiQ now&&(epQ ep&&liQ lim))=0
 ·by_cases c2:zc4 x hd now ep=true
  ·obtain⟨hv,hl⟩:=zfZ c;obtain⟨y,hy,ey⟩:=zmF c2;obtain⟨n,h',e,v⟩:=zf1 hv hl;have en:zdh x hd now ep lim=if (zaZ x y.msg.id).2.2≠0 then (zP,(zaZ x y.msg.id).2.2) else if (zd6 (zaZ x y.msg.id).1 (zaZ x y.msg.id).2.1 lim).2≠0 then (zP,(zd6 (zaZ x y.msg.id).1 (zaZ x y.msg.id).2.1 lim).2) else ({ (zaZ x y.msg.id).1 with ready:=(zd6 (zaZ x y.msg.id).1 (zaZ x y.msg.id).2.1 lim).1 },0):=by
    unfold zdh;rw[zacX (fun q=>q c),zacY c2,ey]
   rw[en];clear en h c c2;generalize zI x.ready=L at *;generalize x.leases=t at *;generalize x.low=lo at *;generalize x.high=hi at *;subst e;obtain⟨t',r1,r2,r3⟩:=v.rel hy;have hlen:=r3.length_eq;simp only[zac4] at hlen;have hmv:zaC y.msg=0:=((zfF t.l).1 (zhI v.2.2.2.2.2.2.2.2.1).2.1).2 y hy |>.1;obtain⟨h2,L',q1,q2,q3,q4⟩:=r2.back hmv (v.2.2.2.2.2.2.2.2.2.1 y hy) (by have:=v.2.2.2.1;omega) (v.gone r3) lim;rw[r1];simp only[q1,ne_eq,zac9,if_false];have e2:({ mkS n h' L t' lo hi with ready:=rg n h2 L' }:zu)=mkS n h2 L' t' lo hi:=rfl;rw[e2];refine⟨q2.val,?_⟩;rw[q2.allI,v.allI];exact (q4.append_right _).trans (VS.perm r3)
  ·unfold zdh at h;rw[zacX (fun q=>q c),zacX c2] at h
   cases h
 ·unfold zdh at h;rw[zacY c] at h;exact absurd h c
theorem zTE{x:zu}{hd:zbk}{now ep:Int}(h:(zdr x hd now ep).2=0):zaf (zdr x hd now ep).1=0/\(hd.id::allI (zdr x hd now ep).1).Perm (allI x):=by
 by_cases c:usE x (tiQ now&&epQ ep)=0
 ·by_cases c2:zc4 x hd now ep=true
  ·obtain⟨hv,hl⟩:=zfZ c;obtain⟨y,hy,ey⟩:=zmF c2;obtain⟨n,h',e,v⟩:=zf1 hv hl;have en:zdr x hd now ep=((zaZ x y.msg.id).1,(zaZ x y.msg.id).2.2):=by
    unfold zdr;rw[zacX (fun q=>q c),zacY c2,ey]
   rw[en, <- ey];clear en h c c2;generalize zI x.ready=L at *;generalize x.leases=t at *;generalize x.low=lo at *;generalize x.high=hi at *;subst e;obtain⟨t',r1,r2,r3⟩:=v.rel hy;rw[r1];refine⟨r2.val,?_⟩;show (y.msg.id::_root_.Go.Proofs.YtdnlddoeamjcoaaGreat.allI (mkS n h' L t' lo hi)).Perm _;rw[r2.allI,v.allI];exact VS.perm r3
  ·unfold zdr at h;rw[zacX (fun q=>q c),zacX c2] at h
   cases h
 ·unfold zdr at h;rw[zacY c] at h;exact absurd h c
theorem zaaB{l:List zN}{k:Nat}(hk:k<l.length)(d:Int):((l.set k ⟨l[k].msg,d⟩).map fun y=>y.msg.id)=l.map fun y=>y.msg.id:=by
 refine zaf3 (by simp) fun i h1 h2=> ?_;simp only[zafg,List.getElem_set]
 split
 ·rename_i e;subst e;rfl
 ·rfl
theorem VS.ext{n h:Nat}{L:List zl}{t:zT}{lo hi:Int}(v:VS n h L t lo hi){id d:Int}(he:(zbr t id d).2=0):VS n h L (zbr t id d).1 lo hi/\zeH L (zbr t id d).1=zeH L t:=by
 obtain⟨x1,_,k,hk,_,x4,x5⟩:=zV6 he;have hids:((zbr t id d).1.l.map fun y=>y.msg.id)=t.l.map fun y=>y.msg.id:=by rw[x5];exact zaaB hk d
 have hlen:(zbr t id d).1.l.length=t.l.length:=by rw[x5,zadM]
 obtain⟨a1,a2,a3,a4,a5,a6,a7,b1,b2,b3,c⟩:=v;refine⟨⟨a1,a2,a3,by omega,a5,a6,a7,b1,x1,fun y hy=> ?_,by rw[hids];exact c⟩,by unfold zeH;rw[hids]⟩;rw[x5] at hy
 rcases zaeB hy with hy|rfl
 ·exact b3 y hy
 ·exact b3 t.l[k] (zadf hk)
theorem zTF{x:zu}{hd:zbk}{now ep vis:Int}(h:(zfr x hd now ep vis).2=0):zaf (zfr x hd now ep vis).1=0/\(allI (zfr x hd now ep vis).1).Perm (allI x):=by
 unfold zfr at h ⊢
 split at h
 ·rename_i c;exact absurd h c
 ·rename_i c;rw[zacX c];have c:=zadh.1 c
  split at h
  ·rename_i c2;rw[zacY c2]
   split at h
   ·cases h
   ·rename_i c3;rw[zacX c3]
    split at h
    ·rename_i c4;exact absurd h c4
    ·rename_i c4;rw[zacX c4];have c4:=zadh.1 c4;obtain⟨hv,hl⟩:=zfZ c;obtain⟨n,h',e,v⟩:=zf1 hv hl;clear h c c2 c3;generalize zI x.ready=L at *;generalize x.leases=t at *;generalize x.low=lo at *;generalize x.high=hi at *;subst e;obtain⟨v2,e2⟩:=v.ext c4;have e3:({ mkS n h' L t lo hi with leases:=(zbr t hd.id (now+vis)).1 }:zu)=mkS n h' L (zbr t hd.id (now+vis)).1 lo hi:=rfl;show zaf ({ mkS n h' L t lo hi with leases:=(zbr t hd.id (now+vis)).1 }:zu)=0/\(_root_.Go.Proofs.YtdnlddoeamjcoaaGreat.allI ({ mkS n h' L t lo hi with leases:=(zbr t hd.id (now+vis)).1 }:zu)).Perm _;rw[e3];refine⟨v2.val,?_⟩;rw[v2.allI,v.allI,e2]
  ·cases h
theorem zM4(n h:Nat)(L:List zl)(t:zT)(lo hi:Int)(m:zl):pbD (mkS n h L t lo hi).ready m=zd6 (mkS n h L t lo hi) m m.count:=by
 unfold zd6;rw[zacY (zae3 _)]
theorem VS.exp{n:Nat}{lo hi:Int}:∀(l:List Int) (h:Nat) (L:List zl) (t:zT),VS n h L t lo hi->(zc3 l (mkS n h L t lo hi)).2=0->
    ∃h' L' t',(zc3 l (mkS n h L t lo hi)).1=mkS n h' L' t' lo hi/\VS n h' L' t' lo hi/\(zeH L' t').Perm (zeH L t):=by
 intro l
 induction l with
 | nil=>intro h L t v _;exact⟨h,L,t,rfl,v,List.Perm.refl _⟩
 | cons id l ih=>
  intro h L t v hz;rw[zc3] at hz ⊢
  split at hz
  ·rename_i c;exact absurd hz c
  ·rename_i c;rw[zacX c];have c:=zadh.1 c;have hr:(zap t id).2.2=0:=by
    unfold zaZ at c
    split at c
    ·rename_i q;exact q
    ·exact c
   obtain⟨_,_,k,hk,_,ek,_,_⟩:=zCO hr;obtain⟨t',r1,r2,r3⟩:=v.rel (zadf hk);rw[ek] at r1;rw[r1] at hz ⊢;simp only at hz ⊢;have hmv:zaC t.l[k].msg=0:=((zfF t.l).1 (zhI v.2.2.2.2.2.2.2.2.1).2.1).2 _ (zadf hk) |>.1;have hlen:=r3.length_eq;simp only[zac4] at hlen;obtain⟨h2,L',q1,q2,q3,q4⟩:=r2.back hmv (v.2.2.2.2.2.2.2.2.2.1 _ (zadf hk)) (by have:=v.2.2.2.1;omega) (v.gone r3) t.l[k].msg.count;rw[<- zM4] at q1;rw[q1] at hz ⊢;simp only[ne_eq,zac9,if_false] at hz ⊢;have e2:({ mkS n h L t' lo hi with ready:=rg n h2 L' }:zu)=mkS n h2 L' t' lo hi:=rfl;rw[e2] at hz ⊢;obtain⟨h3,L3,t3,s1,s2,s3⟩:=ih h2 L' t' q2 hz;exact⟨h3,L3,t3,s1,s2,s3.trans ((q4.append_right _).trans (VS.perm r3))⟩
theorem zTG{x:zu}{now ep lim:Int}(h:(zc2 x now ep lim).2.2=0):zaf (zc2 x now ep lim).1=0/\(allI (zc2 x now ep lim).1).Perm (allI x):=by
 unfold zc2 at h ⊢
 split at h
 ·rename_i c;exact absurd h c
 ·rename_i c;rw[zacX c];have c:=zadh.1 c
  split at h
  ·rename_i c2;rw[zacY c2];obtain⟨hv,hl⟩:=zfZ c;obtain⟨n,h',e,v⟩:=zf1 hv hl;clear h c;generalize zdS x.leases now ep=l at *;generalize zI x.ready=L at *;generalize x.leases=t at *;generalize x.low=lo at *;generalize x.high=hi at *;subst e;obtain⟨h3,L3,t3,s1,s2,s3⟩:=VS.exp l h' L t v c2;show zaf (zc3 l (mkS n h' L t lo hi)).1=0/\(_root_.Go.Proofs.YtdnlddoeamjcoaaGreat.allI (zc3 l (mkS n h' L t lo hi)).1).Perm _;rw[s1];refine⟨s2.val,?_⟩;rw[s2.allI,v.allI];exact s3
  ·rename_i c2;exact absurd h c2
def hB(s:zu)(h:zbk)(now ep:Int):Bool:=decide (usE s (tiQ now&&epQ ep)=0)&&zc4 s h now ep
def za1(s:zu):Prop:=s.ready.cells.length<=12/\s.leases.l.length<=12/\s.leases.heap.length<=12
structure LP(x y:zu)(now vis ep lim:Int)(v:zN):Prop where
 dl:v.deadline=now+vis
 late:hB y (zeg v.msg) (now+vis) ep=false
 held:0<vis->hB y (zeg v.msg) (now+vis - 1) ep=true
 old:hB y { zeg v.msg with gen:=v.msg.gen - 1 } now ep=false
 oth:hB y { zeg v.msg with route:=(v.msg.route+1).tmod 65536 } now ep=false
 pre:hB x (zeg v.msg) now ep=false
 gen:1<=v.msg.gen/\v.msg.gen<=65536
 rt:0<=v.msg.route/\v.msg.route<=65535
 ack:0<vis->∃z,zdr y (zeg v.msg) now ep=(z,0)/\za1 z/\hB z (zeg v.msg) now ep=false/\zbs z=zbs y - 1
 nack:0<vis->∃w,zdh y (zeg v.msg) now ep lim=(w,0)/\za1 w/\hB w (zeg v.msg) now ep=false/\zbs w=zbs y
theorem ztd(r:zat)(m:zl)(hL:r.cells.length<=4294967296):zg G zjP [.d (zau r),.d (zn m)] []=some (.d (.tup [zau (pbD r m).1,.int .i64 (pbD r m).2]),[]):=by
 unfold pbD
 by_cases e1:zdE r m=0
 ·rw[zacY e1];have e2:=zni e1;obtain⟨n,h,hrg,h1,h2,h3,h4,h5,h6⟩:=znw e2.1;have hc:r.cells.length=n:=by rw[hrg];exact zcG _ _ _ _
  have hh:r.head.toNat=h:=by rw[hrg];rfl
  have hz:r.size=((zI r).length:Int):=by rw[zhv];have:=congrArg zat.size hrg;simp only[rg] at this;omega
  have hl:(zI r).length<n:=by have:=e2.2.2.1;omega
  have hi:∀x∈zI r,x.id≠m.id:=by
   intro x hx e;have h7:=e2.2.2.2;unfold zaV at h7;rw[zsl] at h7;have:=h7 x hx;simp [e] at this
  have hp:=z6o h1 h2 h3 hl h5 h6 e2.2.1 hi;rw[<- hrg] at hp;rw[hc,hh];exact hp
 ·rw[zacX e1];have hpu:=zta r m hL;generalize zdE r m=v at *;simp only[zau,zn,zaP,zacZ] at *;exact zW zIl
theorem z8b(r:zat)(m:zl)(hL:r.cells.length<=4294967296):zg G zjQ [.d (zau r),.d (zn m)] []=some (.d (.tup [zau (pfD r m).1,.int .i64 (pfD r m).2]),[]):=by
 unfold pfD
 by_cases e1:zdE r m=0
 ·rw[zacY e1];have e2:=zni e1;obtain⟨n,h,hrg,h1,h2,h3,h4,h5,h6⟩:=znw e2.1;have hc:r.cells.length=n:=by rw[hrg];exact zcG _ _ _ _
  have hh:r.head.toNat=h:=by rw[hrg];rfl
  have hz:r.size=((zI r).length:Int):=by rw[zhv];have:=congrArg zat.size hrg;simp only[rg] at this;omega
  have hl:(zI r).length<n:=by have:=e2.2.2.1;omega
  have hi:∀x∈zI r,x.id≠m.id:=by
   intro x hx e;have h7:=e2.2.2.2;unfold zaV at h7;rw[zsl] at h7;have:=h7 x hx;simp [e] at this
  have hp:=z6u h1 h2 h3 hl h5 h6 e2.2.1 hi;rw[<- hrg] at hp;rw[hc,hh];exact hp
 ·rw[zacX e1];have hpu:=zta r m hL;generalize zdE r m=v at *;simp only[zau,zn,zaP,zacZ] at *;exact zW zzr
theorem zacx(l:List zl)(i:Nat)(hi:i<l.length)(hL:l.length<=24):zg G zok [.d (.sl (l.map zn)),.d (.int .i64 i)] []=some (.d (.sl ((l.eraseIdx i).map zn)),[]):=by
 have e:(l.eraseIdx i).map zn=(l.map zn).take i++(l.map zn).drop (i+1):=by rw[zaf4,zadg,zaeH,zafq]
 rw[e];have z1:=zuf (l.take i);have z2:=zuf (l.drop (i+1));have hb:l.length - 1<=4294967296:=by omega
 by_cases c0:i=0
 ·subst c0
  by_cases c1:l.length=1
  ·rw[zO zrM (by simp)];simp -implicitDefEqProofs (maxSteps:=4000000) (disch:=omega) only[zqV,zth,zadQ,zadi,zj,go_sem, *]
  ·rw[zO zrM (by simp)];simp -implicitDefEqProofs (maxSteps:=4000000) (disch:=omega) only[zqV,zth,zadQ,zadi,zj,go_sem, *]
 ·by_cases c1:i+1=l.length
  ·exact zW zrM
  ·exact zW zrM
theorem zB7(r:zat)(id:Int)(hL:r.cells.length<=4294967296):zg G zon [.d (zau r),.d (.int .i64 id)] []=some (.d (.tup [zau (rmD r id).1,zn (rmD r id).2.1,.int .i64 (rmD r id).2.2]),[]):=by
 have hv:=zk6 r hL
 by_cases e1:zaX r=0
 ·obtain⟨n,h,hrg,h1,h2,h3,h4,h5,h6⟩:=znw e1;have hc:r.cells.length=n:=by rw[hrg];exact zcG _ _ _ _
  have hh:r.head.toNat=h:=by rw[hrg];rfl
  have ho:=zjv (wN n h (zI r) (zI r).length) h (zI r).length (by rw[zcG];exact h2) (by rw[zcG];exact h3) (by rw[zcG];exact h4);rw[zk1 h1 h4] at ho;have hix:=zjf (zI r) id zo;rw[e1] at hv
  by_cases e2:zaV (zI r) id<0
  ·have he:rmE r id=4:=by unfold rmE;rw[zacX (fun hc=>hc e1),zacY e2]
   have hd:rmD r id=(zaP,zak,4):=by unfold rmD;rw[he,zacX (by decide)]
   rw[hd];clear he hd h5 h6 e1 hc hh;generalize zaV (zI r) id=q at *;generalize zI r=L at *;subst hrg;simp only[zau,rg,zaP,zak,zn,zacZ] at *;exact zW zzs
  ·have he:rmE r id=0:=by unfold rmE;rw[zacX (fun hc=>hc e1),zacX e2]
   have hd:rmD r id=(rg n h ((zI r).eraseIdx (zaV (zI r) id).toNat),(zI r).getD (zaV (zI r) id).toNat zak,0):=by unfold rmD;rw[zacY he,hc,hh]
   have hk:=zH6 (show 0<=zaV (zI r) id by omega);obtain⟨k,hkk⟩:∃k:Nat,zaV (zI r) id=k:=⟨(zaV (zI r) id).toNat,by omega⟩;rw[hd];rw[hkk] at hix hk e2 ⊢;rw[zadG] at hk ⊢;have hw:=zacx (zI r) k hk zo;have hwi:=zt5 (wN n h (zI r) (zI r).length) h (zI r).length h ((zI r).eraseIdx k) (by rw[zcG];omega) (by rw[zcG];omega) zo (by rw[zcG,zaf6,zacY hk];omega);rw[zcG] at hwi;rw[zj hk];have e3:rg n h ((zI r).eraseIdx k)=⟨wN n h ((zI r).eraseIdx k) ((zI r).eraseIdx k).length,h,((zI r).eraseIdx k).length⟩:=rfl;rw[e3];clear he hd h5 h6 e1 hc hh hkk e2 e3;have hlen:((zI r).eraseIdx k).length<=12:=by rw[zaf6,zacY hk];omega
   generalize wN n h ((zI r).eraseIdx k) ((zI r).eraseIdx k).length=w2 at *;generalize (zI r).eraseIdx k=l2 at *;generalize zI r=L at *;subst hrg;simp only[zau,rg,zn] at *;generalize wN n h L L.length=w at *;rw[zO zzs (by simp)];simp -implicitDefEqProofs (maxSteps:=4000000) (disch:=omega) only[zuF,zCc,zn,zj,go_sem, *]
 ·have he:rmE r id=zaX r:=by unfold rmE;rw[zacY e1]
  have hd:rmD r id=(zaP,zak,zaX r):=by unfold rmD;rw[he,zacX e1]
  rw[hd];clear he hd;generalize zaX r=v at *;simp only[zau,zaP,zak,zn,zacZ] at *;exact zW zzs
end Go.Proofs.YtdnlddoeamjcoaaGreat
