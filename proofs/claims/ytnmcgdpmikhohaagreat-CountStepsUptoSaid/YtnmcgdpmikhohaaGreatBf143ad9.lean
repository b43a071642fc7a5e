/-
  Rings of the reference.
-/
import Derived.Test.YtnmcgdpmikhohaaGreatBc8d43d5
import Derived.Test.YtnmcgdpmikhohaaGreatBde55126
import Derived.Test.YtnmcgdpmikhohaaGreatB643d10c
set_option linter.unusedSimpArgs false
set_option linter.unusedVariables false
set_option maxHeartbeats 10000000
set_option maxRecDepth 100000
namespace Go.Proofs.YtnmcgdpmikhohaaGreat
open Go Go.Sim
theorem zna{r:zah}{m:zj}(h:zc3 r m=0):zaE r=0/\zap m=0/\r.size≠r.cells.length/\zaD (zD r) m.id<0:=by
 unfold zc3 at h
 by_cases e1:zaE r=0
 ·rw[zabn (fun hc=>hc e1)] at h
  by_cases e2:zap m=0
  ·rw[zabn (fun hc=>hc e2)] at h
   by_cases e3:r.size=r.cells.length
   ·rw[zabo e3] at h;exact absurd h (by decide)
   ·rw[zabn e3] at h
    by_cases e4:0<=zaD (zD r) m.id
    ·rw[zabo e4] at h;exact absurd h (by decide)
    ·exact⟨e1,e2,e3,by omega⟩
  ·rw[zabo e2] at h;exact absurd h e2
 ·rw[zabo e1] at h;exact absurd h e1
theorem z5p(c:List zj)(h z:Nat)(m:zj)(hp:zc3 ⟨c,h,z⟩ m=0):zi G zjt [.d (zai ⟨c,h,z⟩),.d (zm m)] []=some (.d (.tup [zai ⟨wN c.length h (zaM c h z++[m]) (z+1),h,(z+1:Nat)⟩,.int .i64 0]),[]):=by
 obtain⟨p1,p2,p3,p4⟩:=zna hp;obtain⟨a1,a2,a3,a4,a5,a6⟩:=zcC p1;simp only at a1 a2 a3 a4 a5 a6 p3;have hpu:=zsY ⟨c,h,z⟩ m (by simp only;omega);have hl:=zi7 c h z a2 zo zo;have hn:=zi6 c h z;have hw:=ztV c h z h (zaM c h z++[m]) a1 a2 zo (by rw[zabv,hn];simp;omega);rw[hp] at hpu;rw[zabv,hn,zab3,zabF] at hw;rw[hn] at hl;clear p1 p2 p4 hp;generalize wN c.length h (zaM c h z++[m]) (z+1)=q at *;generalize zaM c h z=w at *;simp only[zai,zm,zabs,zabq] at hpu hw hl ⊢;exact zW zH8
theorem z5q(c:List zj)(h z:Nat)(m:zj)(hp:zc3 ⟨c,h,z⟩ m=0):zi G zju [.d (zai ⟨c,h,z⟩),.d (zm m)] []=some (.d (.tup [zai ⟨wN c.length ((h+c.length - 1) % c.length) (m::zaM c h z) (z+1),((h+c.length - 1) % c.length:Nat),(z+1:Nat)⟩,.int .i64 0]),[]):=by
 obtain⟨p1,p2,p3,p4⟩:=zna hp;obtain⟨a1,a2,a3,a4,a5,a6⟩:=zcC p1;simp only at a1 a2 a3 a4 a5 a6 p3;have hpu:=zsY ⟨c,h,z⟩ m (by simp only;omega);have hl:=zi7 c h z a2 zo zo;have hn:=zi6 c h z;have hj:(h+c.length - 1) % c.length<c.length:=zacr _ zo;have e:((h:Int)+c.length - 1).tmod c.length=(((h+c.length - 1) % c.length:Nat):Int):=by
  rw[show (h:Int)+c.length - 1=((h+c.length - 1:Nat):Int) by omega, <- zadV]
 have hw:=ztV c h z ((h+c.length - 1) % c.length) (m::zaM c h z) a1 a2 zo (by rw[zabu,hn];omega);rw[hp] at hpu;rw[zabu,hn,zabs] at hw;rw[hn] at hl;clear p1 p2 p4 hp;generalize (h+c.length - 1) % c.length=j at *;generalize wN c.length j (m::zaM c h z) (z+1)=q at *;generalize zaM c h z=w at *
 by_cases h0:w=[]
 ·subst h0;simp only[zai,zm,zabq] at hpu hw hl ⊢;exact zW zzg
 ·have he:(w.map zm).isEmpty=false:=by cases w with|nil=>exact absurd rfl h0|cons x w=>rfl
  simp only[zai,zm] at hpu hw hl he ⊢;exact zW zzg
theorem zXz{α:Type}(l:List α)(i j:Nat)(x d:α)(hi:i<l.length):(l.set i x).getD j d=if i=j then x else l.getD j d:=by
 rw[zab0,zab0,zadh]
 split
 ·rename_i e;subst e;simp
 ·rfl
theorem zZN{n h i j:Nat}(hi:i<n)(hj:j<n)(e:(h+i) % n=(h+j) % n):i=j:=by
 have h1:=zacr h (show 0<n by omega);rw[Nat.add_mod h i,Nat.add_mod h j,zacx hi,zacx hj] at e;generalize h % n=a at *
 by_cases c1:a+i<n
 ·rw[zacx c1] at e
  by_cases c2:a+j<n
  ·rw[zacx c2] at e;omega
  ·rw[show a+j=(a+j - n)+n by omega,zad0,zacx zo] at e;omega
 ·rw[show a+i=(a+i - n)+n by omega,zad0,zacx zo] at e
  by_cases c2:a+j<n
  ·rw[zacx c2] at e;omega
  ·rw[show a+j=(a+j - n)+n by omega,zad0,zacx zo] at e;omega
theorem zDf{n h:Nat}{l:List zj}(hn:1<=n):∀ {i:Nat},i<=n->∀ {j:Nat},j<n->(wN n h l i).getD ((h+j) % n) zaa=if j<i then l.getD j zaa else zaa:=by
 intro i
 induction i with
 | zero=>
  intro _ j hj;rw[zabn zo];have:(h+j) % n<n:=zacr _ zo;simp [wN,zab0,zaez,this]
 | succ i ih=>
  intro hi j hj;have hm:(h+i) % n<n:=zacr _ zo;rw[zDg,zXz _ _ _ _ _ (by rw[zck];exact hm),ih zo hj]
  by_cases e:(h+i) % n=(h+j) % n
  ·obtain rfl:=zZN zo hj e;rw[zabo rfl,zabo zo]
  ·rw[zabn e]
   by_cases c:j<i
   ·rw[zabo c,zabo zo]
   ·rw[zabn c,zabn];intro h2;obtain rfl:j=i:=by omega
    exact e rfl
def rg(n h:Nat)(l:List zj):zah:=⟨wN n h l l.length,h,l.length⟩
theorem zkN{n h:Nat}{l:List zj}(hn:1<=n)(hl:l.length<=n):zaM (wN n h l l.length) h l.length=l:=by
 unfold zaM;rw[zck];refine zaer (by simp) fun j h1 h2=> ?_;simp only[zadE,List.getElem_range];rw[zDf hn hl zo,zabo h2,zh h2]
theorem zWb{l:List zj}(h:∀m∈l,zap m=0):zb3 l=0:=by
 induction l with
 | nil=>rfl
 | cons m l ih=>
  unfold zb3;rw[zabn (by simpa using h m (by simp))];exact ih fun x hx=>h x (by simp [hx])
theorem zCI{n h:Nat}{l:List zj}(hn:1<=n)(hn2:n<=12)(hh:h<n)(hl:l.length<=n)(hm:∀m∈l,zap m=0)(hd:(l.map (·.id)).Nodup):zaE (rg n h l)=0:=by
 have ho:zD (rg n h l)=l:=by rw[rg,zi5,zkN hn hl]
 unfold zaE;rw[ho];have hlen:(rg n h l).cells.length=n:=zck _ _ _ _;rw[zabn (by rw[zabG];exact⟨by rw[hlen];omega,by rw[hlen];omega,by simp [rg],by rw[hlen];simp [rg];omega,by simp [rg],by rw[hlen];simp [rg];omega⟩)];rw[zabn,zabn (by rw[zWb hm];simp),zabn (by unfold zdC;simpa using hd)];unfold zc5;rw[hlen];rw[zacm];rintro⟨j,h1,h2⟩;rw[zadj] at h1;have hz:(rg n h l).size.toNat=l.length:=by simp [rg]
 have e:=zDf (h:=h) (l:=l) hn hl (show j<n by omega);rw[zabn zo] at e;exact of_decide_eq_true h2 e
theorem zBI{n h:Nat}{l:List zj}{m:zj}(hn:1<=n)(hn2:n<=12)(hh:h<n)(hl:l.length<n)(hm:∀m∈l,zap m=0)(hd:(l.map (·.id)).Nodup)(hv:zap m=0)(hi:∀x∈l,x.id≠m.id):zc3 (rg n h l) m=0:=by
 unfold zc3;rw[zabn (by rw[zCI hn hn2 hh zo hm hd];simp),zabn (by rw[hv];simp),zabn (by simp [rg,zck];omega),zabn];rw[rg,zi5,zkN hn zo];have:zaD l m.id<0:=by
  unfold zaD;rw[zse];intro x hx;simpa using hi x hx
 omega
theorem z4O{n h:Nat}{l:List zj}{m:zj}(hn:1<=n)(hn2:n<=12)(hh:h<n)(hl:l.length<n)(hm:∀m∈l,zap m=0)(hd:(l.map (·.id)).Nodup)(hv:zap m=0)(hi:∀x∈l,x.id≠m.id):zi G zjt [.d (zai (rg n h l)),.d (zm m)] []=some (.d (.tup [zai (rg n h (l++[m])),.int .i64 0]),[]):=by
 have hp:=zBI hn hn2 hh hl hm hd hv hi;have:=z5p (wN n h l l.length) h l.length m hp;rw[zkN hn zo,zck] at this;rw[show rg n h l=⟨wN n h l l.length,h,l.length⟩ from rfl,this];unfold rg;rw[zabv,zab3]
theorem z4W{n h:Nat}{l:List zj}{m:zj}(hn:1<=n)(hn2:n<=12)(hh:h<n)(hl:l.length<n)(hm:∀m∈l,zap m=0)(hd:(l.map (·.id)).Nodup)(hv:zap m=0)(hi:∀x∈l,x.id≠m.id):zi G zju [.d (zai (rg n h l)),.d (zm m)] []=some (.d (.tup [zai (rg n ((h+n - 1) % n) (m::l)),.int .i64 0]),[]):=by
 have hp:=zBI hn hn2 hh hl hm hd hv hi;have:=z5q (wN n h l l.length) h l.length m hp;rw[zkN hn zo,zck] at this;rw[show rg n h l=⟨wN n h l l.length,h,l.length⟩ from rfl,this];rfl
theorem z7N{n h p:Nat}(hn:1<=n)(hp:p<n):∃j,j<n/\(h+j) % n=p:=by
 have hh:h % n<n:=zacr _ zo
 by_cases c:h % n<=p
 ·refine⟨p - h % n,by omega,?_⟩;rw[<- Nat.mod_add_mod,show h % n+(p - h % n)=p by omega,zacx hp]
 ·refine⟨p+n - h % n,by omega,?_⟩;rw[<- Nat.mod_add_mod,show h % n+(p+n - h % n)=p+n by omega,zad0,zacx hp]
theorem zTs{n h:Nat}{a b:List zj}(hn:1<=n)(ha:a.length=n)(hb:b.length=n)(H:∀j,j<n->a.getD ((h+j) % n) zaa=b.getD ((h+j) % n) zaa):a=b:=by
 refine zaer zo fun p h1 h2=> ?_;obtain⟨j,hj,e⟩:=z7N (h:=h) hn (show p<n by omega);have:=H j hj;rw[e] at this;simpa [zab0,h1,h2] using this
theorem zZO{n i:Nat}(hn:1<=n):i % n<n:=zacr _ zo
theorem zXy{l:List zj}{j:Nat}(h:j<l.length):l[j]=l.getD j zaa:=by
 rw[zab0,zabx h];rfl
theorem zWa:∀ {l:List zj},zb3 l=0->∀m∈l,zap m=0:=by
 intro l
 induction l with
 | nil=>intro _ m hm;cases hm
 | cons x l ih=>
  intro h m hm;unfold zb3 at h
  split at h
  ·rename_i q;exact absurd h q
  ·rename_i q
   cases hm with
   | head=>simpa using q
   | tail _ hm=>exact ih h m hm
theorem znq{r:zah}(hr:zaE r=0):∃n h:Nat,r=rg n h (zD r)/\1<=n/\n<=12/\h<n/\(zD r).length<=n/\(∀m∈zD r,zap m=0)/\((zD r).map (·.id)).Nodup:=by
 have hok:=zcC hr;obtain⟨c,h,z,rfl,h1,h2,h3,h4⟩:=znr hok;rw[zQr hok] at hr;have ho:zD ⟨c,h,z⟩=zaM c h z:=zi5 c h z;rw[ho];have hl:(zaM c h z).length=z:=zi6 c h z
 split at hr
 ·cases hr
 rename_i hrest
 split at hr
 ·rename_i q;exact absurd hr q
 rename_i hfirst
 split at hr
 ·cases hr
 rename_i hdup;refine⟨c.length,h,?_,h1,h2,h3,by omega,?_,?_⟩
 ·unfold rg;rw[hl]
  congr 1
  refine zTs (n:=c.length) (h:=h) h1 rfl (zck _ _ _ _) fun j hj=> ?_;rw[zDf h1 h4 hj]
  by_cases cj:j<z
  ·rw[zabo cj];simp [zaM,zab0,cj]
  ·rw[zabn cj];have hr2:zc5 ⟨c,h,z⟩ z c.length=false:=by simpa using hrest
   unfold zc5 at hr2;rw[zacC] at hr2;have:=hr2 j (zadj.2 ⟨by omega,by omega⟩);simpa using this
 ·have hf:zb3 (zaM c h z)=0:=by simpa using hfirst
  generalize zaM c h z=w at *;clear hl ho hdup hrest;intro m hm;have:=zWa hf m hm;exact this
 ·have:zdC ((zaM c h z).map (·.id))=false:=by simpa using hdup
  unfold zdC at this;simpa using this
def pbD(r:zah)(m:zj):zah×Int:=if zc3 r m=0 then (rg r.cells.length r.head.toNat (zD r++[m]),0) else (zay,zc3 r m)
def rmE(r:zah)(id:Int):Int:=if zaE r≠0 then zaE r else if zaD (zD r) id<0 then 4 else 0
def rmD(r:zah)(id:Int):zah×zj×Int:=if rmE r id=0 then (rg r.cells.length r.head.toNat ((zD r).eraseIdx (zaD (zD r) id).toNat),(zD r).getD (zaD (zD r) id).toNat zaa,0) else (zay,zaa,rmE r id)
theorem zHT{l:List zj}{id:Int}(h:0<=zaD l id):(zaD l id).toNat<l.length:=by
 unfold zaD zbP at h ⊢
 cases hc:l.findIdx? (fun m:zj=>decide (m.id=id)) with
 | none=>rw[hc] at h;simp at h
 | some i=>
  obtain⟨hi,_⟩:=zact.1 hc;simpa using hi
def pfD(r:zah)(m:zj):zah×Int:=if zc3 r m=0 then (rg r.cells.length ((r.head.toNat+r.cells.length - 1) % r.cells.length) (m::zD r),0) else (zay,zc3 r m)
def usE(s:zt)(b:Bool):Int:=if zab s≠0 then zab s else if b=true then 0 else 1
structure RO where
 h:Nat
 L:List zj
 id:Int
 a:Nat
 i:Nat
theorem zjn{t:zN}(h:zao t=0):t.l.length<=12/\t.heap.length<=12:=by
 obtain⟨q1,q2,q3,q4⟩:=(zdr t).1 h;exact⟨q1,q3.len⟩
structure TB where
 t:zN
 id:Int
 a:Nat
 i:Nat
 b:Bool
def epQ(n:Int):Bool:=decide (0<=n/\n<=65536)
def liQ(n:Int):Bool:=decide (1<=n/\n<=8)
def tiQ(n:Int):Bool:=decide (0<=n/\n<=1073741824)
def viQ(n:Int):Bool:=decide (0<=n/\n<=1000)
def zaG(s:zt)(id:Int):zt×zj×Int:=if (zaf s.leases id).2.2=0 then ({ s with leases:=(zaf s.leases id).1 },(zaf s.leases id).2.1,0) else (zJ,zaa,(zaf s.leases id).2.2)
def zcy(s:zt)(h:za1)(now ep:Int):Bool:=(zdF s.leases h.id).2&&(decide ((zdF s.leases h.id).1.msg.gen=h.gen)&&(decide ((zdF s.leases h.id).1.msg.route=h.route)&&(!decide ((zdF s.leases h.id).1.msg.epoch<ep)&&decide (now<(zdF s.leases h.id).1.deadline))))
def zcS(s:zt)(h:za1)(now ep:Int):zt×Int:=if usE s (tiQ now&&epQ ep)≠0 then (zJ,usE s (tiQ now&&epQ ep)) else if zcy s h now ep=true then ((zaG s h.id).1,(zaG s h.id).2.2) else (zJ,5)
theorem zDb{s:zt}{b:Bool}(h:usE s b=0):1<=s.ready.cells.length/\s.ready.cells.length<=12/\s.leases.l.length<=12/\s.leases.heap.length<=12:=by
 have hl:zab s=0:=by
  unfold usE at h
  split at h
  ·rename_i q;exact absurd h q
  ·rename_i q;exact zabG.1 q
 have hv:zY s=0:=by
  unfold zab at hl
  split at hl
  ·rename_i q;exact absurd hl q
  ·rename_i q;exact zabG.1 q
 unfold zY at hv
 split at hv
 ·rename_i q;exact absurd hv q
 ·rename_i q1
  split at hv
  ·rename_i q;exact absurd hv q
  ·rename_i q2;obtain⟨a1,a2,_⟩:=zcC (zabG.1 q1);obtain⟨b1,b2⟩:=zjn (zabG.1 q2);exact⟨a1,a2,b1,b2⟩
def zdw(s:zt)(m:zj)(lim:Int):zah×Int:=if lim<=m.count then pbD s.ready m else pfD s.ready m
def zcK(s:zt)(h:za1)(now ep lim:Int):zt×Int:=
 if usE s (tiQ now&&(epQ ep&&liQ lim))≠0 then (zJ,usE s (tiQ now&&(epQ ep&&liQ lim)))
 else if zcy s h now ep=true then (if (zaG s h.id).2.2≠0 then (zJ,(zaG s h.id).2.2)
  else if (zdw (zaG s h.id).1 (zaG s h.id).2.1 lim).2≠0 then (zJ,(zdw (zaG s h.id).1 (zaG s h.id).2.1 lim).2)
  else ({ (zaG s h.id).1 with ready:=(zdw (zaG s h.id).1 (zaG s h.id).2.1 lim).1 },0)) else (zJ,5)
theorem ztU{s:zt}{b:Bool}(h:usE s b=0):b=true:=by
 unfold usE at h
 split at h
 ·rename_i q;exact absurd h q
 ·split at h
  ·assumption
  ·cases h
def ze1(s:zt)(h:za1)(now ep vis:Int):zt×Int:=
 if usE s (tiQ now&&(epQ ep&&viQ vis))≠0 then (zJ,usE s (tiQ now&&(epQ ep&&viQ vis)))
 else if zcy s h now ep=true then (if 1073741824<now+vis then (zJ,6) else if (za9 s.leases h.id (now+vis)).2≠0 then (zJ,(za9 s.leases h.id (now+vis)).2)
  else ({ s with leases:=(za9 s.leases h.id (now+vis)).1 },0)) else (zJ,5)
def zdz(m:zj):zj×Int:=if zap m≠0 then (zaa,zap m) else if m.gen=65536 then (zaa,6) else if m.count=8 then (zaa,7) else ({ m with count:=m.count+1,gen:=m.gen+1 },0)
def zf8(ep lim:Int)(m:zj):Bool:= !decide (m.epoch<ep)&&(!decide (lim<=m.count)&&decide (m.gen<65536))
def zfP(s:zt)(m:zj)(d:Int):zt×zG×Int:=
 if (rmD s.ready m.id).2.2≠0 then (s,zbH,(rmD s.ready m.id).2.2)
 else if (zdz (rmD s.ready m.id).2.1).2≠0 then (s,zbH,(zdz (rmD s.ready m.id).2.1).2)
 else if (zaF s.leases (zdz (rmD s.ready m.id).2.1).1 d).2≠0 then (s,zbH,(zaF s.leases (zdz (rmD s.ready m.id).2.1).1 d).2)
 else ({ s with ready:=(rmD s.ready m.id).1,leases:=(zaF s.leases (zdz (rmD s.ready m.id).2.1).1 d).1 },⟨(zdz (rmD s.ready m.id).2.1).1,d⟩,0)
def tkF(mx d ep lim:Int):List zj->zt->List zG->zt×List zG×Int
 | [],s,out=>(s,out,0)
 | m::l,s,out=>if (out.length:Int)=mx\/zf8 ep lim m=false then tkF mx d ep lim l s out else if (zfP s m d).2.2≠0 then (zJ,[],(zfP s m d).2.2) else tkF mx d ep lim l (zfP s m d).1 (out++[(zfP s m d).2.1])
theorem zXG(t:zN)(m:zj)(d:Int):(zaF t m d).1.l.length<=12/\(zaF t m d).1.heap.length<=12:=by
 by_cases h:(zaF t m d).2=0
 ·exact zjn (zIT h).1
 ·have:zaF t m d=(zal,zea t m d):=by
     unfold zaF at h ⊢
     split at h
     ·exact absurd rfl h
     ·rename_i hc;rw[zabn hc]
  rw[this];simp [zal]
structure TK where
 s:zt
 out:List zG
 i:Nat
def shZ:Go.Sim.AV:= .agg [.d (.bool false),.d (.int .i64 0),.d (.int .i64 0),.xsl [],.d (.int .i64 0),.d (.int .i64 0),.xsl [],.xsl []]
def zlg(s:zt)(mx now vis ep lim:Int):Int:=usE s (epQ ep&&(liQ lim&&(tiQ now&&(viQ vis&&decide (1<=mx/\mx<=6)))))
def zcD(s:zt)(mx now vis ep lim:Int):zt×List zG×Int:=if zlg s mx now vis ep lim≠0 then (zJ,[],zlg s mx now vis ep lim) else if 1073741824<now+vis then (zJ,[],6) else tkF mx (now+vis) ep lim (zD s.ready) s []
theorem zDc{s:zt}{b:Bool}(h:usE s b=0):zaE s.ready=0:=by
 have hl:zab s=0:=by
  unfold usE at h
  split at h
  ·rename_i q;exact absurd h q
  ·rename_i q;exact zabG.1 q
 have hv:zY s=0:=by
  unfold zab at hl
  split at hl
  ·rename_i q;exact absurd hl q
  ·rename_i q;exact zabG.1 q
 unfold zY at hv
 split at hv
 ·rename_i q;exact absurd hv q
 ·rename_i q1;exact zabG.1 q1
theorem zaao(mx d ep lim:Int):∀(l:List zj) (s:zt) (out:List zG),(tkF mx d ep lim l s out).2.2≠0->(tkF mx d ep lim l s out).1=zJ/\(tkF mx d ep lim l s out).2.1=[]:=by
 intro l
 induction l with
 | nil=>intro s out h;exact absurd rfl h
 | cons m l ih=>
  intro s out h;rw[tkF] at h ⊢
  split at h
  ·rename_i q;rw[zabo q];exact ih _ _ h
  ·rename_i q;rw[zabn q]
   split at h
   ·rename_i q2;rw[zabo q2];exact⟨rfl,rfl⟩
   ·rename_i q2;rw[zabn q2];exact ih _ _ h
def zcx:List Int->zt->zt×Int
 | [],s=>(s,0)
 | id::l,s=>if (zaG s id).2.2≠0 then (zJ,(zaG s id).2.2) else if (pbD (zaG s id).1.ready (zaG s id).2.1).2≠0 then (zJ,(pbD (zaG s id).1.ready (zaG s id).2.1).2) else zcx l { (zaG s id).1 with ready:=(pbD (zaG s id).1.ready (zaG s id).2.1).1 }
def zcw(s:zt)(now ep lim:Int):zt×List Int×Int:=
 if usE s (tiQ now&&(epQ ep&&liQ lim))≠0 then (zJ,[],usE s (tiQ now&&(epQ ep&&liQ lim)))
 else if (zcx (zdh s.leases now ep) s).2=0 then ((zcx (zdh s.leases now ep) s).1,zdh s.leases now ep,0) else (zJ,[],(zcx (zdh s.leases now ep) s).2)
theorem zLZ(t:zN)(now ep:Int):(zdh t now ep).length<=12:=by
 unfold zdh
 split
 ·rename_i h;exact zaca (zacF _ _) (zRb h now)
 ·simp
def zbb(s:zt):Int:=if zY s=0 then s.ready.size+s.leases.l.length else 0
def VS(n h:Nat)(L:List zj)(t:zN)(lo hi:Int):Prop:=1<=n/\n<=12/\h<n/\L.length+t.l.length<=n/\0<=lo/\lo<=hi/\hi<65536/\(∀m∈L,zap m=0/\lo<=m.route/\m.route<=hi)/\zao t=0/\(∀y∈t.l,lo<=y.msg.route/\y.msg.route<=hi)/\(L.map (·.id)++t.l.map (fun y=>y.msg.id)).Nodup
def mkS(n h:Nat)(L:List zj)(t:zN)(lo hi:Int):zt:=⟨true,lo,hi,rg n h L,t⟩
theorem VS.ring{n h:Nat}{L:List zj}{t:zN}{lo hi:Int}(v:VS n h L t lo hi):zaE (rg n h L)=0:=by
 obtain⟨a1,a2,a3,a4,_,_,_,b,_,_,c⟩:=v;exact zCI a1 a2 a3 zo (fun m hm=>(b m hm).1) (zac6.1 c).1
theorem VS.ord{n h:Nat}{L:List zj}{t:zN}{lo hi:Int}(v:VS n h L t lo hi):zD (rg n h L)=L:=by
 obtain⟨a1,a2,a3,a4,_⟩:=v;rw[rg,zi5];exact zkN a1 zo
theorem VS.val{n h:Nat}{L:List zj}{t:zN}{lo hi:Int}(v:VS n h L t lo hi):zY (mkS n h L t lo hi)=0:=by
 have hr:zaE (mkS n h L t lo hi).ready=0:=v.ring;have hm:zaP (mkS n h L t lo hi)=L++t.l.map (·.msg):=by unfold zaP mkS;rw[v.ord]
 obtain⟨a1,a2,a3,a4,a5,a6,a7,b1,b2,b3,c⟩:=v;rw[znA hr b2,hm];rw[zabn (by simp [mkS]),zabn (by simp only[mkS];omega),zabn,zabn,zabn]
 ·unfold zdC;simp only[decide_eq_true_eq,zabG,zabF,zacQ];exact c
 ·unfold zgq;simp only[zac3,zacC,decide_eq_true_eq,zabG,zabS,zaby];rintro m (hx|⟨y,hy,rfl⟩)
  ·exact (b1 m hx).2
  ·exact b3 y hy
 ·simp only[mkS,rg,zck];omega
theorem zfy{s:zt}(hv:zY s=0)(hl:s.live=true):∃n h:Nat,s=mkS n h (zD s.ready) s.leases s.low s.high/\VS n h (zD s.ready) s.leases s.low s.high:=by
 have h1:zaE s.ready=0:=by
  have q:=hv;unfold zY at q
  split at q
  ·rename_i c;exact absurd q c
  ·rename_i c;exact zabG.1 c
 have h2:zao s.leases=0:=by
  have q:=hv;unfold zY at q;rw[zabn (fun c=>c h1)] at q
  split at q
  ·rename_i c;exact absurd q c
  ·rename_i c;exact zabG.1 c
 rw[znA h1 h2,zabn (by rw[hl];simp)] at hv
 split at hv
 ·cases hv
 rename_i c1
 split at hv
 ·cases hv
 rename_i c2
 split at hv
 ·cases hv
 rename_i c3
 split at hv
 ·cases hv
 rename_i c4;obtain⟨n,h,hrg,d1,d2,d3,d4,d5,d6⟩:=znq h1;have hc:s.ready.cells.length=n:=by rw[hrg];exact zck _ _ _ _
 have hz:s.ready.size=((zD s.ready).length:Int):=by rw[zg9];have:=congrArg zah.size hrg;simp only[rg] at this;omega
 have c1:=zabG.1 c1;refine⟨n,h,?_,d1,d2,d3,by omega,c1.1,c1.2.1,c1.2.2,?_,h2,?_,?_⟩
 ·obtain⟨lv,lo,hi,r,t⟩:=s;simp only at hl hrg;subst hl;show _=zt.mk true lo hi _ t
  congr 1
 ·intro m hm;refine⟨d5 m hm,?_⟩;unfold zgq at c3;simp only[zac3,zacC,decide_eq_true_eq,zabG,zaP,zabS,zaby] at c3;exact c3 m (.inl hm)
 ·intro y hy;unfold zgq at c3;simp only[zac3,zacC,decide_eq_true_eq,zabG,zaP,zabS,zaby] at c3;exact c3 y.msg (.inr ⟨y,hy,rfl⟩)
 ·unfold zdC zaP at c4;simp only[decide_eq_true_eq,zabG,zabF,zacQ] at c4;exact c4
theorem zic(n h:Nat)(L:List zj):(rg n h L).cells.length=n:=zck _ _ _ _
theorem zy5{l:List zj}{id:Int}(h:∃m∈l,m.id=id):0<=zaD l id:=by
 unfold zaD zbP
 cases hc:l.findIdx? (fun m:zj=>decide (m.id=id)) with
 | some i=>simp
 | none=>
  obtain⟨m,hm,e⟩:=h;have:=(zadv.1 hc) m hm;simp [e] at this
theorem zWu{l:List zj}{id:Int}(h:0<=zaD l id):(l.getD (zaD l id).toNat zaa).id=id:=by
 unfold zaD zbP at h ⊢
 cases hc:l.findIdx? (fun m:zj=>decide (m.id=id)) with
 | none=>rw[hc] at h;simp at h
 | some i=>
  obtain⟨hi,hp,_⟩:=zact.1 hc;simp only[zab5];rw[zab0,zabx hi];exact of_decide_eq_true hp
theorem z0d{l:List zj}(h:(l.map (·.id)).Nodup){a b:zj}(ha:a∈l)(hb:b∈l)(e:a.id=b.id):a=b:=by
 induction l with
 | nil=>cases ha
 | cons x l ih=>
  simp only[zabs,zacv,zaby,not_exists,not_and] at h
  cases ha with
  | head=>
   cases hb with
   | head=>rfl
   | tail _ hb=>exact absurd e.symm (h.1 b hb)
  | tail _ ha=>
   cases hb with
   | head=>exact absurd e (h.1 a ha)
   | tail _ hb=>exact ih h.2 ha hb
theorem VS.rem{n h:Nat}{L:List zj}{t:zN}{lo hi:Int}(v:VS n h L t lo hi){m:zj}(hm:m∈L):∃k,∃hk:k<L.length,L[k]=m/\rmD (rg n h L) m.id=(rg n h (L.eraseIdx k),m,0):=by
 have h0:0<=zaD L m.id:=zy5 ⟨m,hm,rfl⟩;have hk:=zHT h0;have hid:=zWu h0;have e:L.getD (zaD L m.id).toNat zaa=m:=by
  refine z0d (zac6.1 v.2.2.2.2.2.2.2.2.2.2).1 ?_ hm hid;rw[zab0,zabx hk];exact zabC hk
 refine⟨_,hk,?_,?_⟩
 ·exact (zXy hk).trans e
 ·have hE:rmE (rg n h L) m.id=0:=by
     unfold rmE;rw[zabn (fun q=>q v.ring),v.ord,zabn zo]
  unfold rmD;rw[zabo hE,v.ord,zic,e];rfl
theorem zGO{m:zj}(h:zap m=0)(h1:m.gen<65536)(h2:m.count<8):zdz m=({ m with count:=m.count+1,gen:=m.gen+1 },0):=by
 unfold zdz;rw[zabn (fun q=>q h),zabn zo,zabn zo]
theorem zMr(m:zj):zap m=0↔(1<=m.id/\m.id<=1073741824/\0<=m.route/\m.route<=65535/\0<=m.epoch/\m.epoch<=65536/\0<=m.count/\m.count<=8/\m.count<=m.gen/\m.gen<=65536/\0<=m.sent/\m.sent<=1073741824)/\m.body.length<=16:=by
 unfold zap
 split
 ·rename_i c
  split
  ·rename_i c2;exact⟨(fun q=>by cases q),(fun q=>by omega)⟩
  ·rename_i c2;exact⟨fun _=>⟨c,by omega⟩,fun _=>rfl⟩
 ·rename_i c;exact⟨(fun q=>by cases q),(fun q=>absurd q.1 c)⟩
theorem zrm{α:Type}(l:List α)(k:Nat)(hk:k<l.length):(l[k]::l.eraseIdx k).Perm l:=by
 rw[zaes];have e:l=l.take k++l[k]::l.drop (k+1):=by
  rw[<- zabX hk,zaet]
 have:=(zade (a:=l[k]) (l₁:=l.take k) (l₂:=l.drop (k+1))).symm;rw[<- e] at this;exact this
def upM(m:zj):zj:={ m with count:=m.count+1,gen:=m.gen+1 }
theorem zQa(ep lim:Int)(m:zj):zf8 ep lim m=true↔ep<=m.epoch/\m.count<lim/\m.gen<65536:=by
 unfold zf8;simp only[zabH,zace,decide_eq_false_iff_not,decide_eq_true_eq];omega
theorem VS.dlv{n h:Nat}{L:List zj}{t:zN}{lo hi:Int}(v:VS n h L t lo hi){m:zj}(hm:m∈L){ep lim d:Int}(hq:zf8 ep lim m=true)(hlim:lim<=8)(hd0:0<=d)(hd1:d<=1073741824):
    ∃k,∃hk:k<L.length,L[k]=m/\zfP (mkS n h L t lo hi) m d=(mkS n h (L.eraseIdx k) (zaF t (upM m) d).1 lo hi,⟨upM m,d⟩,0)/\(zaF t (upM m) d).1.l=zdJ t.l (upM m) d/\VS n h (L.eraseIdx k) (zaF t (upM m) d).1 lo hi:=by
 obtain⟨k,hk,ek,hr⟩:=v.rem hm;obtain⟨q1,q2,q3⟩:=(zQa ep lim m).1 hq;obtain⟨a1,a2,a3,a4,a5,a6,a7,b1,b2,b3,c⟩:=v;obtain⟨mv,mr1,mr2⟩:=b1 m hm;have hdel:=zGO mv q3 zo;have mv2:=(zMr m).1 mv;have hu:zap (upM m)=0:=by
  rw[zMr];simp only[upM];omega
 have hnf:zag t.l (upM m).id<0:=by
  refine Classical.byContradiction fun hc=> ?_;obtain⟨x,hx,e⟩:=(zhH (l:=t.l) (upM m).id).1 zo;refine (zac6.1 c).2.2 m.id (zaby.2 ⟨m,hm,rfl⟩) x.msg.id (zaby.2 ⟨x,hx,rfl⟩) ?_;exact e.symm
 have hg:=zXF b2 hu (by simp only[upM];omega) hd0 hd1 zo hnf;obtain⟨g1,_,g2,_⟩:=zIT hg;refine⟨k,hk,ek,?_,g2,a1,a2,a3,?_,a5,a6,a7,fun x hx=>b1 x (zaeC hx),g1,?_,?_⟩
 ·unfold zfP;have r1:(rmD (mkS n h L t lo hi).ready m.id)=(rg n h (L.eraseIdx k),m,0):=hr;have d1:zdz m=(upM m,0):=hdel;have hg2:(zaF (mkS n h L t lo hi).leases (upM m) d).2=0:=hg;rw[r1];simp only[d1,hg2,ne_eq,zabD,if_false];rfl
 ·rw[g2,zaeu,zabo hk,(zhT t.l (upM m) d).length_eq,zabu];omega
 ·intro y hy;rw[g2] at hy
  rcases zab4.1 ((zhT t.l (upM m) d).mem_iff.1 hy) with rfl|hy
  ·exact⟨mr1,mr2⟩
  ·exact b3 y hy
 ·rw[g2];have p1:((zdJ t.l (upM m) d).map fun y=>y.msg.id).Perm (m.id::t.l.map fun y=>y.msg.id):=(zhT t.l (upM m) d).map _;have p2:(m.id::(L.eraseIdx k).map (·.id)).Perm (L.map (·.id)):=by
   have:=(zrm L k hk).map (·.id);rw[ek] at this;exact this
  have p3:((L.eraseIdx k).map (·.id)++(zdJ t.l (upM m) d).map fun y=>y.msg.id).Perm (L.map (·.id)++t.l.map fun y=>y.msg.id):=
   (p1.append_left _).trans (zade.trans (p2.append_right _))
  exact p3.nodup_iff.2 c
def zeb(L:List zj)(t:zN):List Int:=L.map (·.id)++t.l.map (fun y=>y.msg.id)
theorem zLL{l:List zG}{m:zj}{d:Int}{y:zG}:y∈zdJ l m d↔y=⟨m,d⟩\/y∈l:=by
 rw[(zhT l m d).mem_iff,zab4]
theorem VS.take{n h:Nat}{lo hi mx d ep lim:Int}(hlim:lim<=8)(hd0:0<=d)(hd1:d<=1073741824):∀(l L:List zj) (t:zN) (out:List zG),VS n h L t lo hi->(∀m∈l,m∈L)->(l.map (·.id)).Nodup->
    ∃L' t' out',tkF mx d ep lim l (mkS n h L t lo hi) out=(mkS n h L' t' lo hi,out++out',0)/\VS n h L' t' lo hi/\(zeb L' t').Perm (zeb L t)/\
     (∀y∈out',y.deadline=d/\y∈t'.l/\∃m∈L,y.msg=upM m/\zf8 ep lim m=true)/\(∀y∈t.l,y∈t'.l):=by
 intro l
 induction l with
 | nil=>intro L t out v _ _;exact⟨L,t,[],by simp [tkF],v,List.Perm.refl _,by simp,fun y hy=>hy⟩
 | cons m l ih=>
  intro L t out v hl hn;simp only[zabs,zacv] at hn;rw[tkF]
  by_cases c:(out.length:Int)=mx\/zf8 ep lim m=false
  ·rw[zabo c];exact ih L t out v (fun x hx=>hl x (.tail _ hx)) hn.2
  ·rw[zabn c];have hq:zf8 ep lim m=true:=by
    cases hq:zf8 ep lim m with
    | true=>rfl
    | false=>exact absurd (.inr hq) c
   have hm:=hl m (.head _);obtain⟨k,hk,ek,e1,e2,v2⟩:=v.dlv hm hq hlim hd0 hd1;have hp:=zrm L k hk;rw[ek] at hp;have hl2:∀x∈l,x∈L.eraseIdx k:=by
    intro x hx
    rcases zab4.1 (hp.mem_iff.2 (hl x (.tail _ hx))) with rfl|hx2
    ·exact absurd (zaby.2 ⟨x,hx,rfl⟩) hn.1
    ·exact hx2
   obtain⟨L',t',out',r1,r2,r3,r4,r5⟩:=ih (L.eraseIdx k) (zaF t (upM m) d).1 (out++[⟨upM m,d⟩]) v2 hl2 hn.2;rw[e1];simp only[ne_eq,zabD,if_false];refine⟨L',t',⟨upM m,d⟩::out',by rw[r1];simp,r2,?_,?_,?_⟩
   ·refine r3.trans ?_;unfold zeb;rw[e2];have p1:((zdJ t.l (upM m) d).map fun y=>y.msg.id).Perm (m.id::t.l.map fun y=>y.msg.id):=(zhT t.l (upM m) d).map _;have p2:(m.id::(L.eraseIdx k).map (·.id)).Perm (L.map (·.id)):=by have:=hp.map (fun x:zj=>x.id);exact this
    exact (p1.append_left _).trans (zade.trans (p2.append_right _))
   ·intro y hy
    rcases zab4.1 hy with rfl|hy
    ·exact⟨rfl,r5 _ (by rw[e2];exact zLL.2 (.inl rfl)),m,hm,rfl,hq⟩
    ·obtain⟨s1,s2,m2,s3,s4⟩:=r4 y hy;exact⟨s1,s2,m2,zaeC s3,s4⟩
   ·intro y hy;exact r5 y (by rw[e2];exact zLL.2 (.inr hy))
theorem zVY{t:zN}(h:zao t=0){y:zG}(hy:y∈t.l):zdF t y.msg.id=(y,true):=by
 have h0:0<=zag t.l y.msg.id:=(zhH (l:=t.l) y.msg.id).2 ⟨y,hy,rfl⟩;have ha:=zhW (zhl h).2.1;obtain⟨hp,e⟩:=(zHC ha y.msg.id).1 h0;have e2:=zVX ha h0;unfold zdF;rw[zabo ⟨h,h0⟩,e2,zab5];have e3:t.l[zbk t.l y.msg.id]=y:=by
  obtain⟨j,hj,rfl⟩:=zadu.1 hy;have hpw:=zacu.1 ha
  rcases zadR (zbk t.l t.l[j].msg.id) j with c|c|c
  ·have:=hpw _ _ hp hj c;omega
  ·congr 1
  ·have:=hpw _ _ hj hp c;omega
 rw[zab0,zabx hp];simp only[zacS,e3]
theorem zXJ{s:zt}(ht:zao s.leases=0){y:zG}(hy:y∈s.leases.l)(h:za1)(hid:h.id=y.msg.id)(now ep:Int):zcy s h now ep=(decide (y.msg.gen=h.gen)&&(decide (y.msg.route=h.route)&&(!decide (y.msg.epoch<ep)&&decide (now<y.deadline)))):=by
 unfold zcy;rw[hid,zVY ht hy,zacA]
theorem VS.rel{n h:Nat}{L:List zj}{t:zN}{lo hi:Int}(v:VS n h L t lo hi){y:zG}(hy:y∈t.l):∃t',zaG (mkS n h L t lo hi) y.msg.id=(mkS n h L t' lo hi,y.msg,0)/\VS n h L t' lo hi/\(y::t'.l).Perm t.l:=by
 obtain⟨a1,a2,a3,a4,a5,a6,a7,b1,b2,b3,c⟩:=v;have h0:0<=zag t.l y.msg.id:=(zhH (l:=t.l) y.msg.id).2 ⟨y,hy,rfl⟩;have hr:=(zCD (id:=y.msg.id) b2).2 h0;obtain⟨r1,_,k,hk,e1,e2,e3,e4⟩:=zCE hr;have ey:t.l[k]=y:=by
  have ha:=zhW (zhl b2).2.1;obtain⟨j,hj,rfl⟩:=zadu.1 hy;have hpw:=zacu.1 ha
  rcases zadR k j with c|c|c
  ·have:=hpw _ _ hk hj c;omega
  ·congr 1
  ·have:=hpw _ _ hj hk c;omega
 have hp:(y::(zaf t y.msg.id).1.l).Perm t.l:=by
  rw[e3,zGS, <- ey];exact zrm t.l k hk
 refine⟨(zaf t y.msg.id).1,?_,⟨a1,a2,a3,?_,a5,a6,a7,b1,r1,fun x hx=>b3 x (hp.mem_iff.1 (.tail _ hx)),?_⟩,hp⟩
 ·unfold zaG;rw[zabo (show (zaf (mkS n h L t lo hi).leases y.msg.id).2.2=0 from hr)];show (_,(zaf t y.msg.id).2.1,_)=_;rw[e4,ey];rfl
 ·have:=hp.length_eq;simp only[zabu] at this;omega
 ·have p:(L.map (·.id)++(y.msg.id::(zaf t y.msg.id).1.l.map fun x=>x.msg.id)).Perm (L.map (·.id)++t.l.map fun x=>x.msg.id):=(hp.map (fun x:zG=>x.msg.id)).append_left _;have q:=zade.nodup_iff.1 (p.nodup_iff.2 c);exact (zacv.1 q).2
theorem VS.back{n h:Nat}{L:List zj}{t:zN}{lo hi:Int}(v:VS n h L t lo hi){m:zj}(hm:zap m=0)(hr:lo<=m.route/\m.route<=hi)(hl:L.length+t.l.length<n)(hid:m.id∉zeb L t)(lim:Int):
    ∃h' L',zdw (mkS n h L t lo hi) m lim=(rg n h' L',0)/\VS n h' L' t lo hi/\L'.length=L.length+1/\(L'.map (·.id)).Perm (m.id::L.map (·.id)):=by
 have hord:=v.ord;obtain⟨a1,a2,a3,a4,a5,a6,a7,b1,b2,b3,c⟩:=v;have hni:∀x∈L,x.id≠m.id:=fun x hx e=>hid (zabS.2 (.inl (zaby.2 ⟨x,hx,e⟩)));have hp:zc3 (rg n h L) m=0:=zBI a1 a2 a3 zo (fun x hx=>(b1 x hx).1) (zac6.1 c).1 hm hni;have hnd:(m.id::(L.map (·.id)++t.l.map fun y=>y.msg.id)).Nodup:=zacv.2 ⟨hid,c⟩
 by_cases c1:lim<=m.count
 ·have p:((L++[m]).map (·.id)).Perm (m.id::L.map (·.id)):=by
     rw[zabF];exact zadX
  refine⟨h,L++[m],?_,⟨a1,a2,a3,by simp only[zabv,zab3];omega,a5,a6,a7,fun x hx=> ?_,b2,b3,?_⟩,by simp,p⟩
  ·unfold zdw;rw[zabo c1];show pbD (rg n h L) m=_;unfold pbD;rw[zabo hp,hord,zic];rfl
  ·rcases zabS.1 hx with hx|hx
   ·exact b1 x hx
   ·rw[zab1.1 hx];exact⟨hm,hr⟩
  ·exact (p.append_right _).nodup_iff.2 hnd
 ·refine⟨(h+n - 1) % n,m::L,?_,⟨a1,a2,zZO a1,by simp only[zabu];omega,a5,a6,a7,fun x hx=> ?_,b2,b3,hnd⟩,by simp,List.Perm.refl _⟩
  ·unfold zdw;rw[zabn c1];show pfD (rg n h L) m=_;unfold pfD;rw[zabo hp,hord,zic];rfl
  ·cases hx with
   | head=>exact⟨hm,hr⟩
   | tail _ hx=>exact b1 x hx
theorem VS.us{n h:Nat}{L:List zj}{t:zN}{lo hi:Int}(v:VS n h L t lo hi)(b:Bool):usE (mkS n h L t lo hi) b=if b=true then 0 else 1:=by
 have hl:zab (mkS n h L t lo hi)=0:=by
  unfold zab;rw[zabn (fun q=>q v.val)];rfl
 unfold usE;rw[zabn (fun q=>q hl)]
theorem VS.lens{n h:Nat}{L:List zj}{t:zN}{lo hi:Int}(v:VS n h L t lo hi):(mkS n h L t lo hi).ready.cells.length<=12/\(mkS n h L t lo hi).leases.l.length<=12/\(mkS n h L t lo hi).leases.heap.length<=12:=by
 obtain⟨b1,b2⟩:=zjn v.2.2.2.2.2.2.2.2.1;exact⟨by show (rg n h L).cells.length<=12;rw[zic];exact v.2.1,b1,b2⟩
def zdH(m:zj):za1:=⟨m.id,m.gen,m.route,0⟩
theorem VS.gone{n h:Nat}{L:List zj}{t t':zN}{lo hi:Int}(v:VS n h L t lo hi){y:zG}(hp:(y::t'.l).Perm t.l):y.msg.id∉zeb L t':=by
 have c:=v.2.2.2.2.2.2.2.2.2.2;have p:(L.map (·.id)++(y.msg.id::t'.l.map fun x=>x.msg.id)).Perm (L.map (·.id)++t.l.map fun x=>x.msg.id):=(hp.map (fun x:zG=>x.msg.id)).append_left _;exact (zacv.1 (zade.nodup_iff.1 (p.nodup_iff.2 c))).1
theorem VS.holds{n h:Nat}{L:List zj}{t:zN}{lo hi:Int}(v:VS n h L t lo hi){y:zG}(hy:y∈t.l){now ep:Int}(hd:now<y.deadline)(he:ep<=y.msg.epoch):zcy (mkS n h L t lo hi) (zdH y.msg) now ep=true:=by
 rw[zXJ (s:=mkS n h L t lo hi) v.2.2.2.2.2.2.2.2.1 hy (zdH y.msg) rfl];simp only[zdH,decide_true,zacA,zabH,zace,decide_eq_false_iff_not,decide_eq_true_eq];omega
theorem VS.ack{n h:Nat}{L:List zj}{t:zN}{lo hi:Int}(v:VS n h L t lo hi){y:zG}(hy:y∈t.l){now ep:Int}(hd:now<y.deadline)(he:ep<=y.msg.epoch)(hn:tiQ now=true)(hq:epQ ep=true):∃t',zcS (mkS n h L t lo hi) (zdH y.msg) now ep=(mkS n h L t' lo hi,0)/\VS n h L t' lo hi/\(y::t'.l).Perm t.l:=by
 obtain⟨t',r1,r2,r3⟩:=v.rel hy;refine⟨t',?_,r2,r3⟩;have hu:usE (mkS n h L t lo hi) (tiQ now&&epQ ep)=0:=by rw[v.us,hn,hq];rfl
 unfold zcS;rw[zabn (fun q=>q hu),zabo (v.holds hy hd he)];show ((zaG (mkS n h L t lo hi) y.msg.id).1,(zaG (mkS n h L t lo hi) y.msg.id).2.2)=_;rw[r1]
theorem VS.nack{n h:Nat}{L:List zj}{t:zN}{lo hi:Int}(v:VS n h L t lo hi){y:zG}(hy:y∈t.l){now ep lim:Int}(hd:now<y.deadline)(he:ep<=y.msg.epoch)(hn:tiQ now=true)(hq:epQ ep=true)(hl:liQ lim=true):∃h' L' t',zcK (mkS n h L t lo hi) (zdH y.msg) now ep lim=(mkS n h' L' t' lo hi,0)/\VS n h' L' t' lo hi/\L'.length+t'.l.length=L.length+t.l.length/\(y::t'.l).Perm t.l:=by
 obtain⟨t',r1,r2,r3⟩:=v.rel hy;have hlen:=r3.length_eq;simp only[zabu] at hlen;have hmv:zap y.msg=0:=((zfg t.l).1 (zhl v.2.2.2.2.2.2.2.2.1).2.1).2 y hy |>.1;obtain⟨h',L',q1,q2,q3,q4⟩:=r2.back hmv (v.2.2.2.2.2.2.2.2.2.1 y hy) (by have:=v.2.2.2.1;omega) (v.gone r3) lim;refine⟨h',L',t',?_,q2,by omega,r3⟩;have hu:usE (mkS n h L t lo hi) (tiQ now&&(epQ ep&&liQ lim))=0:=by rw[v.us,hn,hq,hl];rfl
 unfold zcK;rw[zabn (fun q=>q hu),zabo (v.holds hy hd he)];have e:zaG (mkS n h L t lo hi) (zdH y.msg).id=(mkS n h L t' lo hi,y.msg,0):=r1;rw[e];simp only[q1,ne_eq,zabD,if_false];rfl
def allI(s:zt):List Int:=(zaP s).map (·.id)
theorem VS.allI{n h:Nat}{L:List zj}{t:zN}{lo hi:Int}(v:VS n h L t lo hi):allI (mkS n h L t lo hi)=zeb L t:=by
 unfold _root_.Go.Proofs.YtnmcgdpmikhohaaGreat.allI zaP zeb mkS;rw[v.ord,zabF,zacQ];rfl
theorem zfw{s:zt}{b:Bool}(h:usE s b=0):zY s=0/\s.live=true:=by
 have hl:zab s=0:=by
  unfold usE at h
  split at h
  ·rename_i q;exact absurd h q
  ·rename_i q;exact zabG.1 q
 unfold zab at hl
 split at hl
 ·rename_i q;exact absurd hl q
 ·rename_i q
  split at hl
  ·rename_i q2;exact⟨zabG.1 q,q2⟩
  ·cases hl
theorem zmw{s:zt}{h:za1}{now ep:Int}(q:zcy s h now ep=true):∃y∈s.leases.l,y.msg.id=h.id:=by
 unfold zcy at q;rw[zabH] at q;have q:=q.1;unfold zdF at q
 split at q
 ·rename_i c;exact (zhH (l:=s.leases.l) h.id).1 c.2
 ·cases q
theorem zTg{x:zt}{mx now vis ep lim:Int}(h:(zcD x mx now vis ep lim).2.2=0):zY (zcD x mx now vis ep lim).1=0/\(allI (zcD x mx now vis ep lim).1).Perm (allI x):=by
 by_cases c:zlg x mx now vis ep lim=0
 ·obtain⟨hv,hl⟩:=zfw (s:=x) c;have hn:=ztU (s:=x) c;simp only[zabH,liQ,tiQ,viQ,decide_eq_true_eq] at hn
  by_cases c2:1073741824<now+vis
  ·unfold zcD at h;rw[zabn (fun q=>q c),zabo c2] at h
   cases h
  ·obtain⟨n,h',e,v⟩:=zfy hv hl;have et:zcD x mx now vis ep lim=tkF mx (now+vis) ep lim (zD x.ready) x []:=by
    unfold zcD;rw[zabn (fun q=>q c),zabn c2]
   rw[et];generalize zD x.ready=L at *;generalize x.leases=t at *;generalize x.low=lo at *;generalize x.high=hi at *;subst e;obtain⟨L',t',o',r1,r2,r3,_,_⟩:=VS.take (mx:=mx) (d:=now+vis) (ep:=ep) (lim:=lim) zo zo zo L L t [] v (fun m hm=>hm) (zac6.1 v.2.2.2.2.2.2.2.2.2.2).1;rw[r1];refine⟨r2.val,?_⟩;rw[r2.allI,v.allI];exact r3
 ·unfold zcD at h;rw[zabo c] at h;exact absurd h c
theorem VS.perm{L:List zj}{t t':zN}{y:zG}(hp:(y::t'.l).Perm t.l):(y.msg.id::zeb L t').Perm (zeb L t):=
 zade.symm.trans ((hp.map (fun x:zG=>x.msg.id)).append_left _)
theorem zTf{x:zt}{hd:za1}{now ep lim:Int}(h:(zcK x hd now ep lim).2=0):zY (zcK x hd now ep lim).1=0/\(allI (zcK x hd now ep lim).1).Perm (allI x):=by
 by_cases c:usE x (tiQ now&&(epQ ep&&liQ lim))=0
 ·by_cases c2:zcy x hd now ep=true
  ·obtain⟨hv,hl⟩:=zfw c;obtain⟨y,hy,ey⟩:=zmw c2;obtain⟨n,h',e,v⟩:=zfy hv hl;have en:zcK x hd now ep lim=if (zaG x y.msg.id).2.2≠0 then (zJ,(zaG x y.msg.id).2.2) else if (zdw (zaG x y.msg.id).1 (zaG x y.msg.id).2.1 lim).2≠0 then (zJ,(zdw (zaG x y.msg.id).1 (zaG x y.msg.id).2.1 lim).2) else ({ (zaG x y.msg.id).1 with ready:=(zdw (zaG x y.msg.id).1 (zaG x y.msg.id).2.1 lim).1 },0):=by
    unfold zcK;rw[zabn (fun q=>q c),zabo c2,ey]
   rw[en];clear en h c c2;generalize zD x.ready=L at *;generalize x.leases=t at *;generalize x.low=lo at *;generalize x.high=hi at *;subst e;obtain⟨t',r1,r2,r3⟩:=v.rel hy;have hlen:=r3.length_eq;simp only[zabu] at hlen;have hmv:zap y.msg=0:=((zfg t.l).1 (zhl v.2.2.2.2.2.2.2.2.1).2.1).2 y hy |>.1;obtain⟨h2,L',q1,q2,q3,q4⟩:=r2.back hmv (v.2.2.2.2.2.2.2.2.2.1 y hy) (by have:=v.2.2.2.1;omega) (v.gone r3) lim;rw[r1];simp only[q1,ne_eq,zabD,if_false];have e2:({ mkS n h' L t' lo hi with ready:=rg n h2 L' }:zt)=mkS n h2 L' t' lo hi:=rfl;rw[e2];refine⟨q2.val,?_⟩;rw[q2.allI,v.allI];exact (q4.append_right _).trans (VS.perm r3)
  ·unfold zcK at h;rw[zabn (fun q=>q c),zabn c2] at h
   cases h
 ·unfold zcK at h;rw[zabo c] at h;exact absurd h c
theorem zTc{x:zt}{hd:za1}{now ep:Int}(h:(zcS x hd now ep).2=0):zY (zcS x hd now ep).1=0/\(hd.id::allI (zcS x hd now ep).1).Perm (allI x):=by
 by_cases c:usE x (tiQ now&&epQ ep)=0
 ·by_cases c2:zcy x hd now ep=true
  ·obtain⟨hv,hl⟩:=zfw c;obtain⟨y,hy,ey⟩:=zmw c2;obtain⟨n,h',e,v⟩:=zfy hv hl;have en:zcS x hd now ep=((zaG x y.msg.id).1,(zaG x y.msg.id).2.2):=by
    unfold zcS;rw[zabn (fun q=>q c),zabo c2,ey]
   rw[en, <- ey];clear en h c c2;generalize zD x.ready=L at *;generalize x.leases=t at *;generalize x.low=lo at *;generalize x.high=hi at *;subst e;obtain⟨t',r1,r2,r3⟩:=v.rel hy;rw[r1];refine⟨r2.val,?_⟩;show (y.msg.id::_root_.Go.Proofs.YtnmcgdpmikhohaaGreat.allI (mkS n h' L t' lo hi)).Perm _;rw[r2.allI,v.allI];exact VS.perm r3
  ·unfold zcS at h;rw[zabn (fun q=>q c),zabn c2] at h
   cases h
 ·unfold zcS at h;rw[zabo c] at h;exact absurd h c
theorem z80{l:List zG}{k:Nat}(hk:k<l.length)(d:Int):((l.set k ⟨l[k].msg,d⟩).map fun y=>y.msg.id)=l.map fun y=>y.msg.id:=by
 refine zaer (by simp) fun i h1 h2=> ?_;simp only[zadE,List.getElem_set]
 split
 ·rename_i e;subst e;rfl
 ·rfl
theorem VS.ext{n h:Nat}{L:List zj}{t:zN}{lo hi:Int}(v:VS n h L t lo hi){id d:Int}(he:(za9 t id d).2=0):VS n h L (za9 t id d).1 lo hi/\zeb L (za9 t id d).1=zeb L t:=by
 obtain⟨x1,_,k,hk,_,x4,x5⟩:=zVr he;have hids:((za9 t id d).1.l.map fun y=>y.msg.id)=t.l.map fun y=>y.msg.id:=by rw[x5];exact z80 hk d
 have hlen:(za9 t id d).1.l.length=t.l.length:=by rw[x5,zacb]
 obtain⟨a1,a2,a3,a4,a5,a6,a7,b1,b2,b3,c⟩:=v;refine⟨⟨a1,a2,a3,by omega,a5,a6,a7,b1,x1,fun y hy=> ?_,by rw[hids];exact c⟩,by unfold zeb;rw[hids]⟩;rw[x5] at hy
 rcases zac1 hy with hy|rfl
 ·exact b3 y hy
 ·exact b3 t.l[k] (zabC hk)
theorem zTd{x:zt}{hd:za1}{now ep vis:Int}(h:(ze1 x hd now ep vis).2=0):zY (ze1 x hd now ep vis).1=0/\(allI (ze1 x hd now ep vis).1).Perm (allI x):=by
 unfold ze1 at h ⊢
 split at h
 ·rename_i c;exact absurd h c
 ·rename_i c;rw[zabn c];have c:=zabG.1 c
  split at h
  ·rename_i c2;rw[zabo c2]
   split at h
   ·cases h
   ·rename_i c3;rw[zabn c3]
    split at h
    ·rename_i c4;exact absurd h c4
    ·rename_i c4;rw[zabn c4];have c4:=zabG.1 c4;obtain⟨hv,hl⟩:=zfw c;obtain⟨n,h',e,v⟩:=zfy hv hl;clear h c c2 c3;generalize zD x.ready=L at *;generalize x.leases=t at *;generalize x.low=lo at *;generalize x.high=hi at *;subst e;obtain⟨v2,e2⟩:=v.ext c4;have e3:({ mkS n h' L t lo hi with leases:=(za9 t hd.id (now+vis)).1 }:zt)=mkS n h' L (za9 t hd.id (now+vis)).1 lo hi:=rfl;show zY ({ mkS n h' L t lo hi with leases:=(za9 t hd.id (now+vis)).1 }:zt)=0/\(_root_.Go.Proofs.YtnmcgdpmikhohaaGreat.allI ({ mkS n h' L t lo hi with leases:=(za9 t hd.id (now+vis)).1 }:zt)).Perm _;rw[e3];refine⟨v2.val,?_⟩;rw[v2.allI,v.allI,e2]
  ·cases h
theorem zMU(n h:Nat)(L:List zj)(t:zN)(lo hi:Int)(m:zj):pbD (mkS n h L t lo hi).ready m=zdw (mkS n h L t lo hi) m m.count:=by
 unfold zdw;rw[zabo (zads _)]
theorem VS.exp{n:Nat}{lo hi:Int}:∀(l:List Int) (h:Nat) (L:List zj) (t:zN),VS n h L t lo hi->(zcx l (mkS n h L t lo hi)).2=0->
    ∃h' L' t',(zcx l (mkS n h L t lo hi)).1=mkS n h' L' t' lo hi/\VS n h' L' t' lo hi/\(zeb L' t').Perm (zeb L t):=by
 intro l
 induction l with
 | nil=>intro h L t v _;exact⟨h,L,t,rfl,v,List.Perm.refl _⟩
 | cons id l ih=>
  intro h L t v hz;rw[zcx] at hz ⊢
  split at hz
  ·rename_i c;exact absurd hz c
  ·rename_i c;rw[zabn c];have c:=zabG.1 c;have hr:(zaf t id).2.2=0:=by
    unfold zaG at c
    split at c
    ·rename_i q;exact q
    ·exact c
   obtain⟨_,_,k,hk,_,ek,_,_⟩:=zCE hr;obtain⟨t',r1,r2,r3⟩:=v.rel (zabC hk);rw[ek] at r1;rw[r1] at hz ⊢;simp only at hz ⊢;have hmv:zap t.l[k].msg=0:=((zfg t.l).1 (zhl v.2.2.2.2.2.2.2.2.1).2.1).2 _ (zabC hk) |>.1;have hlen:=r3.length_eq;simp only[zabu] at hlen;obtain⟨h2,L',q1,q2,q3,q4⟩:=r2.back hmv (v.2.2.2.2.2.2.2.2.2.1 _ (zabC hk)) (by have:=v.2.2.2.1;omega) (v.gone r3) t.l[k].msg.count;rw[<- zMU] at q1;rw[q1] at hz ⊢;simp only[ne_eq,zabD,if_false] at hz ⊢;have e2:({ mkS n h L t' lo hi with ready:=rg n h2 L' }:zt)=mkS n h2 L' t' lo hi:=rfl;rw[e2] at hz ⊢;obtain⟨h3,L3,t3,s1,s2,s3⟩:=ih h2 L' t' q2 hz;exact⟨h3,L3,t3,s1,s2,s3.trans ((q4.append_right _).trans (VS.perm r3))⟩
theorem zTe{x:zt}{now ep lim:Int}(h:(zcw x now ep lim).2.2=0):zY (zcw x now ep lim).1=0/\(allI (zcw x now ep lim).1).Perm (allI x):=by
 unfold zcw at h ⊢
 split at h
 ·rename_i c;exact absurd h c
 ·rename_i c;rw[zabn c];have c:=zabG.1 c
  split at h
  ·rename_i c2;rw[zabo c2];obtain⟨hv,hl⟩:=zfw c;obtain⟨n,h',e,v⟩:=zfy hv hl;clear h c;generalize zdh x.leases now ep=l at *;generalize zD x.ready=L at *;generalize x.leases=t at *;generalize x.low=lo at *;generalize x.high=hi at *;subst e;obtain⟨h3,L3,t3,s1,s2,s3⟩:=VS.exp l h' L t v c2;show zY (zcx l (mkS n h' L t lo hi)).1=0/\(_root_.Go.Proofs.YtnmcgdpmikhohaaGreat.allI (zcx l (mkS n h' L t lo hi)).1).Perm _;rw[s1];refine⟨s2.val,?_⟩;rw[s2.allI,v.allI];exact s3
  ·rename_i c2;exact absurd h c2
def hB(s:zt)(h:za1)(now ep:Int):Bool:=decide (usE s (tiQ now&&epQ ep)=0)&&zcy s h now ep
def zaK(s:zt):Prop:=s.ready.cells.length<=12/\s.leases.l.length<=12/\s.leases.heap.length<=12
structure LP(x y:zt)(now vis ep lim:Int)(v:zG):Prop where
 dl:v.deadline=now+vis
 late:hB y (zdH v.msg) (now+vis) ep=false
 held:0<vis->hB y (zdH v.msg) (now+vis - 1) ep=true
 old:hB y { zdH v.msg with gen:=v.msg.gen - 1 } now ep=false
 oth:hB y { zdH v.msg with route:=(v.msg.route+1).tmod 65536 } now ep=false
 pre:hB x (zdH v.msg) now ep=false
 gen:1<=v.msg.gen/\v.msg.gen<=65536
 rt:0<=v.msg.route/\v.msg.route<=65535
 ack:0<vis->∃z,zcS y (zdH v.msg) now ep=(z,0)/\zaK z/\hB z (zdH v.msg) now ep=false/\zbb z=zbb y - 1
 nack:0<vis->∃w,zcK y (zdH v.msg) now ep lim=(w,0)/\zaK w/\hB w (zdH v.msg) now ep=false/\zbb w=zbb y
theorem zs1(r:zah)(m:zj)(hL:r.cells.length<=4294967296):zi G zjt [.d (zai r),.d (zm m)] []=some (.d (.tup [zai (pbD r m).1,.int .i64 (pbD r m).2]),[]):=by
 unfold pbD
 by_cases e1:zc3 r m=0
 ·rw[zabo e1];have e2:=zna e1;obtain⟨n,h,hrg,h1,h2,h3,h4,h5,h6⟩:=znq e2.1;have hc:r.cells.length=n:=by rw[hrg];exact zck _ _ _ _
  have hh:r.head.toNat=h:=by rw[hrg];rfl
  have hz:r.size=((zD r).length:Int):=by rw[zg9];have:=congrArg zah.size hrg;simp only[rg] at this;omega
  have hl:(zD r).length<n:=by have:=e2.2.2.1;omega
  have hi:∀x∈zD r,x.id≠m.id:=by
   intro x hx e;have h7:=e2.2.2.2;unfold zaD at h7;rw[zse] at h7;have:=h7 x hx;simp [e] at this
  have hp:=z4O h1 h2 h3 hl h5 h6 e2.2.1 hi;rw[<- hrg] at hp;rw[hc,hh];exact hp
 ·rw[zabn e1];have hpu:=zsY r m hL;generalize zc3 r m=v at *;simp only[zai,zm,zay,zabq] at *;exact zW zH8
theorem z6A(r:zah)(m:zj)(hL:r.cells.length<=4294967296):zi G zju [.d (zai r),.d (zm m)] []=some (.d (.tup [zai (pfD r m).1,.int .i64 (pfD r m).2]),[]):=by
 unfold pfD
 by_cases e1:zc3 r m=0
 ·rw[zabo e1];have e2:=zna e1;obtain⟨n,h,hrg,h1,h2,h3,h4,h5,h6⟩:=znq e2.1;have hc:r.cells.length=n:=by rw[hrg];exact zck _ _ _ _
  have hh:r.head.toNat=h:=by rw[hrg];rfl
  have hz:r.size=((zD r).length:Int):=by rw[zg9];have:=congrArg zah.size hrg;simp only[rg] at this;omega
  have hl:(zD r).length<n:=by have:=e2.2.2.1;omega
  have hi:∀x∈zD r,x.id≠m.id:=by
   intro x hx e;have h7:=e2.2.2.2;unfold zaD at h7;rw[zse] at h7;have:=h7 x hx;simp [e] at this
  have hp:=z4W h1 h2 h3 hl h5 h6 e2.2.1 hi;rw[<- hrg] at hp;rw[hc,hh];exact hp
 ·rw[zabn e1];have hpu:=zsY r m hL;generalize zc3 r m=v at *;simp only[zai,zm,zay,zabq] at *;exact zW zzg
theorem zaaW(l:List zj)(i:Nat)(hi:i<l.length)(hL:l.length<=24):zi G zog [.d (.sl (l.map zm)),.d (.int .i64 i)] []=some (.d (.sl ((l.eraseIdx i).map zm)),[]):=by
 have e:(l.eraseIdx i).map zm=(l.map zm).take i++(l.map zm).drop (i+1):=by rw[zaes,zabF,zac7,zadO]
 rw[e];have z1:=zt5 (l.take i);have z2:=zt5 (l.drop (i+1));have hb:l.length - 1<=4294967296:=by omega
 by_cases c0:i=0
 ·subst c0
  by_cases c1:l.length=1
  ·rw[zI zrE (by simp)];simp -implicitDefEqProofs (maxSteps:=4000000) (disch:=omega) only[zqM,zs5,zacg,zabJ,zh,go_sem, *]
  ·rw[zI zrE (by simp)];simp -implicitDefEqProofs (maxSteps:=4000000) (disch:=omega) only[zqM,zs5,zacg,zabJ,zh,go_sem, *]
 ·by_cases c1:i+1=l.length
  ·exact zW zrE
  ·exact zW zrE
theorem zBX(r:zah)(id:Int)(hL:r.cells.length<=4294967296):zi G zoj [.d (zai r),.d (.int .i64 id)] []=some (.d (.tup [zai (rmD r id).1,zm (rmD r id).2.1,.int .i64 (rmD r id).2.2]),[]):=by
 have hv:=zkS r hL
 by_cases e1:zaE r=0
 ·obtain⟨n,h,hrg,h1,h2,h3,h4,h5,h6⟩:=znq e1;have hc:r.cells.length=n:=by rw[hrg];exact zck _ _ _ _
  have hh:r.head.toNat=h:=by rw[hrg];rfl
  have ho:=zi7 (wN n h (zD r) (zD r).length) h (zD r).length (by rw[zck];exact h2) (by rw[zck];exact h3) (by rw[zck];exact h4);rw[zkN h1 h4] at ho;have hix:=ziQ (zD r) id zo;rw[e1] at hv
  by_cases e2:zaD (zD r) id<0
  ·have he:rmE r id=4:=by unfold rmE;rw[zabn (fun hc=>hc e1),zabo e2]
   have hd:rmD r id=(zay,zaa,4):=by unfold rmD;rw[he,zabn (by decide)]
   rw[hd];clear he hd h5 h6 e1 hc hh;generalize zaD (zD r) id=q at *;generalize zD r=L at *;subst hrg;simp only[zai,rg,zay,zaa,zm,zabq] at *;exact zW zzh
  ·have he:rmE r id=0:=by unfold rmE;rw[zabn (fun hc=>hc e1),zabn e2]
   have hd:rmD r id=(rg n h ((zD r).eraseIdx (zaD (zD r) id).toNat),(zD r).getD (zaD (zD r) id).toNat zaa,0):=by unfold rmD;rw[zabo he,hc,hh]
   have hk:=zHT (show 0<=zaD (zD r) id by omega);obtain⟨k,hkk⟩:∃k:Nat,zaD (zD r) id=k:=⟨(zaD (zD r) id).toNat,by omega⟩;rw[hd];rw[hkk] at hix hk e2 ⊢;rw[zab5] at hk ⊢;have hw:=zaaW (zD r) k hk zo;have hwi:=ztV (wN n h (zD r) (zD r).length) h (zD r).length h ((zD r).eraseIdx k) (by rw[zck];omega) (by rw[zck];omega) zo (by rw[zck,zaeu,zabo hk];omega);rw[zck] at hwi;rw[zh hk];have e3:rg n h ((zD r).eraseIdx k)=⟨wN n h ((zD r).eraseIdx k) ((zD r).eraseIdx k).length,h,((zD r).eraseIdx k).length⟩:=rfl;rw[e3];clear he hd h5 h6 e1 hc hh hkk e2 e3;have hlen:((zD r).eraseIdx k).length<=12:=by rw[zaeu,zabo hk];omega
   generalize wN n h ((zD r).eraseIdx k) ((zD r).eraseIdx k).length=w2 at *;generalize (zD r).eraseIdx k=l2 at *;generalize zD r=L at *;subst hrg;simp only[zai,rg,zm] at *;generalize wN n h L L.length=w at *;rw[zI zzh (by simp)];simp -implicitDefEqProofs (maxSteps:=4000000) (disch:=omega) only[zuu,zB2,zm,zh,go_sem, *]
 ·have he:rmE r id=zaE r:=by unfold rmE;rw[zabo e1]
  have hd:rmD r id=(zay,zaa,zaE r):=by unfold rmD;rw[he,zabn e1]
  rw[hd];clear he hd;generalize zaE r=v at *;simp only[zai,zay,zaa,zm,zabq] at *;exact zW zzh
end Go.Proofs.YtnmcgdpmikhohaaGreat
