/-
  Valid shards.
-/
import Derived.Test.YtjalkkalhdnplaaGreatB568fc85
import Derived.Test.YtjalkkalhdnplaaGreatBc22dd4b
set_option linter.unusedSimpArgs false
set_option linter.unusedVariables false
set_option maxHeartbeats 10000000
set_option maxRecDepth 100000
namespace Go.Proofs.YtjalkkalhdnplaaGreat
open Go Go.Sim
theorem zfl(l:List zy):zer l=0↔(l.Pairwise fun x y=>x.msg.id<y.msg.id)/\∀x∈l,zZ x.msg=0/\x.msg.gen≠0/\0<=x.deadline/\x.deadline<=1073741824:=by
 have h0:zer l=0↔∀i,i<l.length->zdR l i=0:=by
  rcases zoE l with ⟨k,h1,h2,h3⟩|⟨h1,h2⟩
  ·constructor
   ·intro h;omega
   ·intro h;have:=List.mem_of_find?_eq_some h1;exact absurd (h k (zZJ.1 this)) h2
  ·refine⟨fun _ i hi=> ?_,fun _=>h2⟩;have:=List.find?_eq_none.1 h1 i (zZJ.2 hi);unfold zeY at this;simpa using this
 constructor
 ·intro h;refine⟨zg0 h,fun x hx=> ?_⟩;obtain⟨i,hi,rfl⟩:=z0C hx;have:=h0.1 h i hi;unfold zdR at this;rw[zg hi] at this
  split at this
  ·omega
  split at this
  ·omega
  split at this
  ·omega
  rename_i q1 q2 q3;exact⟨by simpa using q1,q2,by omega,by omega⟩
 ·rintro⟨ha,hx⟩;refine h0.2 fun i hi=> ?_;obtain⟨p1,p2,p3,p4⟩:=hx _ (zY4 hi);unfold zdR;rw[zg hi,zYP (by simpa using p1),zYP p2,zYP zo,zYP];rintro⟨q1,q2⟩;rw[zg (show i - 1<l.length by omega)] at q2;have:=zZ4.1 ha (i - 1) i zo hi zo;omega
theorem zdh(t:Table):zac t=0↔t.l.length<=12/\zer t.l=0/\Ok t.heap/\t.heap.Perm (t.l.map zbx):=by
 constructor
 ·intro h;obtain⟨h1,h2,h3,h4⟩:=zhi h;have o:=(zfD _).1 h3;have ha:=zg0 h2;have hR:zkd t=true:=by rw[<- zCr h2 h3];exact h4
  obtain⟨e,q⟩:=(zCq ha).1 hR;obtain⟨_,q2⟩:=zst.1 h4;refine⟨h1,h2,o,(List.perm_ext_iff_of_nodup ?_ (zuf ha)).2 fun d=>⟨q d,q2 d⟩⟩;exact List.Pairwise.of_map (fun d:Due=>d.2) (fun a b hab e=>hab (by rw[e])) o.ids
 ·rintro⟨h1,h2,o,hp⟩;have h3:=(zfD _).2 o;have h4:zg7 t=true:=zst.2 ⟨by rw[hp.length_eq];simp,fun d hd=>hp.mem_iff.2 hd⟩;unfold zac;rw[zYP zo,zYP (by simpa using h2),zYP (by simpa using h3),zYQ h4]
theorem zBD{t:Table}(h:t.heap.Perm (t.l.map zbx))(id:Int):id∈t.heap.map (·.2)↔∃x∈t.l,x.msg.id=id:=by
 constructor
 ·intro hm;obtain⟨d,hd,e⟩:=zY0.1 hm;obtain⟨x,hx,e2⟩:=zY0.1 (h.mem_iff.1 hd);exact⟨x,hx,by rw[<- e, <- e2];rfl⟩
 ·rintro⟨x,hx,e⟩;exact zY0.2 ⟨zbx x,h.mem_iff.2 (zY0.2 ⟨x,hx,rfl⟩),e⟩
theorem zhG{l:List zy}(id:Int):0<=zad l id↔∃x∈l,x.msg.id=id:=by
 constructor
 ·intro h;obtain⟨k,hk,_,e⟩:=zlr h;exact⟨l[k],zY4 hk,e⟩
 ·rintro⟨x,hx,e⟩
  by_cases h:0<=zad l id
  ·exact h
  ·exact absurd e (zq0 zo x hx)
theorem ztR{m:Message}{d:Int}(hm:zZ m=0)(h0:0<=d)(h1:d<=1073741824):zcy (d,m.id)=true:=by
 unfold zZ at hm
 split at hm
 ·rename_i h;unfold zcy;simp;omega
 ·cases hm
theorem zsZ{t:Table}{m:Message}{d:Int}(h:zac t=0)(hm:zZ m=0)(h0:0<=d)(h1:d<=1073741824)(hl:t.l.length≠12)(hf:zad t.l m.id<0):
    zfp t.heap (d,m.id)=(zfq t.heap (d,m.id),0)/\Ok (zfq t.heap (d,m.id))/\(zfq t.heap (d,m.id)).Perm ((d,m.id)::t.heap):=by
 obtain⟨q1,q2,q3,q4⟩:=(zdh t).1 h;refine zsY q3 (ztR hm h0 h1) (by have:=q4.length_eq;simp at this;omega) fun hc=> ?_;have:=(zhG m.id).2 ((zBD q4 m.id).1 hc);omega
theorem zgs(l:List zy)(m:Message)(d:Int):(zdQ l m d).Perm (⟨m,d⟩::l):=by
 unfold zdQ;have:=z0L (a:=(⟨m,d⟩:zy)) (l₁:=l.take (zbk l m.id)) (l₂:=l.drop (zbk l m.id));rw[z17] at this;rw[zZF];exact this
theorem zPu{l:List zy}(h:l.Pairwise fun x y=>x.msg.id<y.msg.id){m:Message}{d:Int}(hn:∀x∈l,x.msg.id≠m.id):(zdQ l m d).Pairwise fun x y=>x.msg.id<y.msg.id:=by
 unfold zdQ;have hlt:∀x∈l.take (zbk l m.id),x.msg.id<m.id:=fun x hx=>by
  obtain⟨k,hk,rfl⟩:=z0C hx;simp only[z0I] at hk;rw[List.getElem_take];exact (zgy h zo).1 zo
 have hgt:∀x∈l.drop (zbk l m.id),m.id<x.msg.id:=fun x hx=>by
  obtain⟨k,hk,rfl⟩:=z0C hx;simp only[z09] at hk;rw[List.getElem_drop];have h1:=zgy h (id:=m.id) (k:=zbk l m.id+k) zo;have h2:=hn _ (zY4 (l:=l) (n:=zbk l m.id+k) zo);omega
 rw[zZF,List.pairwise_append];refine⟨h.sublist (List.take_sublist ..),?_,fun a ha b hb=> ?_⟩
 ·rw[z0M,z0K];exact⟨fun x hx=>hgt x hx,h.sublist (List.drop_sublist ..)⟩
 ·rw[z0M,zZx] at hb;have h1:=hlt a ha
  rcases hb with rfl|hb
  ·exact h1
  ·have:=hgt b hb;omega
theorem zrk{t:Table}{m:Message}{d:Int}(h:(zaH t m d).2=0):zac (zaH t m d).1=0/\zac t=0/\(zaH t m d).1.l=zdQ t.l m d/\zad t.l m.id<0:=by
 have hE:zep t m d=0:=by
  unfold zaH at h
  split at h
  ·assumption
  ·rename_i hc;exact absurd h hc
 unfold zaH;rw[zYQ hE];unfold zep at hE
 split at hE
 ·omega
 split at hE
 ·omega
 split at hE
 ·cases hE
 split at hE
 ·cases hE
 split at hE
 ·cases hE
 split at hE
 ·cases hE
 rename_i h1 h2 h3 h4 h5 h6;have h1:zac t=0:=by simpa using h1
 have h2:zZ m=0:=by simpa using h2
 obtain⟨p1,p2,p3⟩:=zsZ h1 h2 zo (by omega:d<=1073741824) h5 zo;obtain⟨q1,q2,q3,q4⟩:=(zdh t).1 h1;obtain⟨r1,r2⟩:=(zfl _).1 q2;have hn:∀x∈t.l,x.msg.id≠m.id:=zq0 zo;refine⟨(zdh _).2 ⟨?_,(zfl _).2 ⟨zPu r1 hn,fun x hx=> ?_⟩,?_,?_⟩,h1,rfl,by omega⟩
 ·have:=(zgs t.l m d).length_eq;simp only[zYW] at this;show (zdQ t.l m d).length<=12;omega
 ·rcases zZx.1 ((zgs t.l m d).mem_iff.1 hx) with rfl|hx
  ·exact⟨h2,h3,by simp only;omega,by simp only;omega⟩
  ·exact r2 x hx
 ·rw[p1];exact p2
 ·rw[p1];show (zfq t.heap (d,m.id)).Perm ((zdQ t.l m d).map zbx);exact p3.trans (((List.Perm.cons _ q4)).trans ((zgs t.l m d).map zbx).symm)
theorem zA9{t:Table}{m:Message}{d:Int}(h:zac t=0)(hm:zZ m=0)(hg:m.gen≠0)(h0:0<=d)(h1:d<=1073741824)(hl:t.l.length≠12)(hf:zad t.l m.id<0):(zaH t m d).2=0:=by
 have hp:=(zsZ h hm h0 h1 hl hf).1;have:zep t m d=0:=by
  unfold zep;rw[zYP (by simpa using h),zYP (by simpa using hm),zYP hg,zYP zo,zYP hl,zYP zo,hp]
 unfold zaH;rw[zYQ this]
theorem zyR(l:List zy)(i:Nat):zfT l i=l.eraseIdx i:=by rw[zfT,z16]
theorem zqL{l:List zy}{i:Nat}(hi:i<l.length):(l[i]::zfT l i).Perm l:=by
 have h1:=z0L (a:=l[i]) (l₁:=l.take i) (l₂:=l.drop (i+1));rw[<- zZr hi,z17] at h1;exact h1.symm
theorem zH3{t:Table}(h:zac t=0){k:Nat}(hk:k<t.l.length){d:Due}(hd:d∈t.heap)(e:d.2=t.l[k].msg.id):d=zbx t.l[k]:=by
 obtain⟨q1,q2,q3,q4⟩:=(zdh t).1 h;obtain⟨x,hx,e2⟩:=zY0.1 (q4.mem_iff.1 hd);obtain⟨j,hj,rfl⟩:=z0C hx;have:j=k:=zue (zg0 q2) hj hk (by rw[<- e, <- e2];rfl);subst this;exact e2.symm
theorem zkB{t:Table}{id:Int}(h:zac t=0)(hf:0<=zad t.l id):∃k,∃hk:k<t.l.length,zad t.l id=k/\t.l[k].msg.id=id/\(zca t.heap id).2=0/\Ok (zca t.heap id).1/\(zbx t.l[k]::(zca t.heap id).1).Perm t.heap:=by
 obtain⟨q1,q2,q3,q4⟩:=(zdh t).1 h;obtain⟨k,hk,e1,e2⟩:=zlr hf;refine⟨k,hk,e1,e2,?_⟩;have hin:id∈t.heap.map (·.2):=(zBD q4 id).2 ⟨_,zY4 hk,e2⟩;have h0:¬zba t.heap id<0:=fun hc=>(zzI _ _).1 hc hin;have hlt:=zzH t.heap id;obtain⟨d1,d2⟩:=zln q3 (zba t.heap id).toNat zo;have hat:=zJS t.heap id zo;have hr:zca t.heap id=(zdK t.heap (zba t.heap id).toNat,0):=by
  unfold zca;rw[zYP (by simpa using (zfD _).2 q3),zYP h0]
 rw[hr];refine⟨rfl,d1,?_⟩;have:t.heap.getD (zba t.heap id).toNat dz=zbx t.l[k]:=by
  refine zH3 h hk ?_ (by rw[hat,e2]);rw[zg (show (zba t.heap id).toNat<t.heap.length by omega)];exact zY4 _
 rw[<- this];exact d2
theorem zs9{t:Table}{id:Int}(h:zac t=0):(zaf t id).2.2=0↔0<=zad t.l id:=by
 constructor
 ·intro h0
  by_cases hf:0<=zad t.l id
  ·exact hf
  ·have e:ze4 t id=4:=by unfold ze4;rw[zYP (by simpa using h),zYQ hf]
   unfold zaf at h0;rw[e,zYP (by decide)] at h0
   cases h0
 ·intro hf;obtain⟨k,hk,e1,e2,e3,_⟩:=zkB h hf;have e:ze4 t id=0:=by unfold ze4;rw[zYP (by simpa using h),zYP zo,e3]
  unfold zaf;rw[zYQ e]
theorem zta{t:Table}{id:Int}(h:(zaf t id).2.2=0):zac (zaf t id).1=0/\zac t=0/\∃k,∃hk:k<t.l.length,zad t.l id=k/\t.l[k].msg.id=id/\(zaf t id).1.l=zfT t.l k/\(zaf t id).2.1=t.l[k].msg:=by
 have hE:ze4 t id=0:=by
  unfold zaf at h
  split at h
  ·assumption
  ·rename_i hc;exact absurd h hc
 have h1:zac t=0:=by
  unfold ze4 at hE
  split at hE
  ·omega
  ·rename_i hc;simpa using hc
 have hf:0<=zad t.l id:=(zs9 h1).1 h;obtain⟨k,hk,e1,e2,e3,e4,e5⟩:=zkB h1 hf;obtain⟨q1,q2,q3,q4⟩:=(zdh t).1 h1;obtain⟨r1,r2⟩:=(zfl _).1 q2;have hd:zaf t id=(⟨zfT t.l k,(zca t.heap id).1⟩,t.l[k].msg,0):=by
  unfold zaf;rw[zYQ hE,e1,zZz,zg hk]
 rw[hd];refine⟨(zdh _).2 ⟨?_,(zfl _).2 ⟨?_,fun x hx=> ?_⟩,e4,?_⟩,h1,k,hk,e1,e2,rfl,rfl⟩
 ·have:=(zqL hk).length_eq;simp only[zYW] at this;show (zfT t.l k).length<=12;omega
 ·show (zfT t.l k).Pairwise _;rw[zyR];exact r1.sublist (List.eraseIdx_sublist ..)
 ·exact r2 x ((zqL hk).mem_iff.1 (z13 _ hx))
 ·show (zca t.heap id).1.Perm ((zfT t.l k).map zbx);have h1:=e5.trans (q4.trans ((zqL hk).map zbx).symm);exact List.Perm.cons_inv h1
theorem zDN{l:List zy}{k:Nat}(hk:k<l.length)(d:Int):zmB l k d=l.set k ⟨l[k].msg,d⟩:=by
 unfold zmB;rw[zg hk]
theorem zWh{l:List Due}{k:Nat}(hk:k<l.length)(b:Due):(l[k]::l.set k b).Perm (b::l):=by
 have:=zDO l k b hk
 rwa [zg hk] at this
theorem zqX{t:Table}{id d:Int}(h:zac t=0):(za9 t id d).2=0↔0<=zad t.l id/\0<=d/\d<=1073741824:=by
 constructor
 ·intro h0
  by_cases hf:0<=zad t.l id
  ·by_cases hd:0<=d/\d<=1073741824
   ·exact⟨hf,hd⟩
   ·have e:zdM t id d=1:=by unfold zdM;rw[zYP (by simpa using h),zYP (by simpa using hf),zYQ hd]
    unfold za9 at h0;rw[e,zYP (by decide)] at h0
    cases h0
  ·have e:zdM t id d=4:=by unfold zdM;rw[zYP (by simpa using h),zYQ hf]
   unfold za9 at h0;rw[e,zYP (by decide)] at h0
   cases h0
 ·rintro⟨hf,h0,h1⟩;obtain⟨k,hk,e1,e2,e3,e4,e5⟩:=zkB h hf;obtain⟨q1,q2,q3,q4⟩:=(zdh t).1 h;obtain⟨r1,r2⟩:=(zfl _).1 q2;have hlen:=e5.length_eq;simp only[zYW] at hlen;have hnod:=(List.Perm.nodup_iff (e5.map (·.2))).2 q3.ids;simp only[zYU,zZS] at hnod;have hp:=zsY e4 (d:=(d,id)) (by have:=ztR (r2 _ (zY4 hk)).1 h0 h1;rwa [e2] at this) (by have:=q4.length_eq;simp at this;omega) (by simpa [zbx,e2] using hnod.1);have e:zdM t id d=0:=by unfold zdM;rw[zYP (by simpa using h),zYP zo,zYP zo,zYP (by simpa using e3),hp.1]
  unfold za9;rw[zYQ e]
theorem zJm{t:Table}{id d:Int}(h:(za9 t id d).2=0):zac (za9 t id d).1=0/\zac t=0/\∃k,∃hk:k<t.l.length,zad t.l id=k/\t.l[k].msg.id=id/\(za9 t id d).1.l=t.l.set k ⟨t.l[k].msg,d⟩:=by
 have hE:zdM t id d=0:=by
  unfold za9 at h
  split at h
  ·assumption
  ·rename_i hc;exact absurd h hc
 have h1:zac t=0:=by
  unfold zdM at hE
  split at hE
  ·omega
  ·rename_i hc;simpa using hc
 obtain⟨hf,h0,h2⟩:=(zqX h1).1 h;obtain⟨k,hk,e1,e2,e3,e4,e5⟩:=zkB h1 hf;obtain⟨q1,q2,q3,q4⟩:=(zdh t).1 h1;obtain⟨r1,r2⟩:=(zfl _).1 q2;have hlen:=e5.length_eq;simp only[zYW] at hlen;have hnod:=(List.Perm.nodup_iff (e5.map (·.2))).2 q3.ids;simp only[zYU,zZS] at hnod;have hp:=zsY e4 (d:=(d,id)) (by have:=ztR (r2 _ (zY4 hk)).1 h0 h2;rwa [e2] at this) (by have:=q4.length_eq;simp at this;omega) (by simpa [zbx,e2] using hnod.1);have hd:za9 t id d=(⟨t.l.set k ⟨t.l[k].msg,d⟩,zfq (zca t.heap id).1 (d,id)⟩,0):=by
  unfold za9;rw[zYQ hE,e1,zZz,zDN hk,hp.1]
 rw[hd];refine⟨(zdh _).2 ⟨by simpa using q1,(zfl _).2 ⟨?_,fun x hx=> ?_⟩,hp.2.1,?_⟩,h1,k,hk,e1,e2,rfl⟩
 ·show (t.l.set k ⟨t.l[k].msg,d⟩).Pairwise _;have hm:(t.l.set k ⟨t.l[k].msg,d⟩).map (fun x=>x.msg.id)=t.l.map fun x=>x.msg.id:=by
   rw[zZ7];have:(t.l[k].msg.id)=(t.l.map fun x=>x.msg.id)[k]'(by simpa using hk):=by simp
   rw[this,List.set_getElem_self]
  have:=z1C (f:=fun x:zy=>x.msg.id) (R:=fun a b=>a<b) (l:=t.l.set k ⟨t.l[k].msg,d⟩);rw[hm] at this;exact this.1 (z1C.2 r1)
 ·rcases z0B hx with hx|rfl
  ·exact r2 x hx
  ·obtain⟨a1,a2,_,_⟩:=r2 _ (zY4 hk);exact⟨a1,a2,h0,h2⟩
 ·show (zfq (zca t.heap id).1 (d,id)).Perm ((t.l.set k ⟨t.l[k].msg,d⟩).map zbx);refine hp.2.2.trans ?_;rw[zZ7];have h3:=zWh (l:=t.l.map zbx) (k:=k) (by simpa using hk) (zbx ⟨t.l[k].msg,d⟩);rw[z1k] at h3;have h4:(zbx t.l[k]::(d,id)::(zca t.heap id).1).Perm (zbx t.l[k]::(t.l.map zbx).set k (zbx ⟨t.l[k].msg,d⟩)):=by
   refine (List.Perm.swap ..).trans ?_;refine (List.Perm.cons _ (e5.trans q4)).trans ?_;have:((d,id):Due)=zbx ⟨t.l[k].msg,d⟩:=by simp [zbx,e2]
   rw[this];exact h3.symm
  exact List.Perm.cons_inv h4
def gS(t:Table)(m:Message)(d:Int)(k:Nat):St:=⟨[(2,.d (.int .i64 d)),(3,.ref 3 0 0),(4,.ref 4 0 0),(6,.ref 6 0 0),(10,.d (.int .i64 k))],[(3,.row [.d (z9 t)]),(4,.row [.d (zj m)]),(6,.row [.agg [.xsl [],.xsl []]])]⟩
theorem zTy(t:Table)(m:Message)(d:Int)(hL:t.l.length<=1000)(h:t.l.Pairwise fun x y=>x.msg.id<y.msg.id):∀k:Nat,k<=zbk t.l m.id->zP G [] zrT (gS t m d k)=some (.exit 1,gS t m d (zbk t.l m.id)):=by
 refine zaq (fun k=>zbk t.l m.id - k) (fun k=>k<=zbk t.l m.id) (gS t m d) _ fun k hk L ih=> ?_;have hpl:=zDc t.l m.id;simp only[gS,z9,zj] at ih ⊢;simp only[zrT]
 by_cases h0:k<t.l.length
 ·have hp:=zgy h (id:=m.id) h0
  by_cases h1:t.l[k].msg.id<m.id
  ·have i1:=ih (k+1) zo zo;clear ih;simp only[zNr,zp] at i1;have zk0:=zaw.eq_1;exact zS
  ·have:k=zbk t.l m.id:=by omega
   subst this;clear ih hp;have zk0:=zaw.eq_1;exact zS
 ·have:k=zbk t.l m.id:=by omega
  subst this;clear ih;have zk0:=zaw.eq_1;exact zS
theorem zs2(t:Table)(m:Message)(d:Int)(hL:t.l.length<=4294967296)(hH:t.heap.length<=4294967296):zd G 287 [.d (z9 t),.d (zj m),.d (.int .i64 d)] []=some (.d (.tup [z9 (zaH t m d).1,.int .i64 (zaH t m d).2]),[]):=by
 have hv:=zkv t hL hH;rw[zkR] at hv;have hm:=zhV m;have hf:=zmi t m.id hL;have hp:=zDm t.heap (d,m.id) hH;simp only[z9,zj,eD,eDE] at hv hm hf hp
 by_cases h1:zac t=0
 ·obtain⟨h12,hE,hD,hM⟩:=zhi h1;have ha:=zg0 hE;have hl:=zTy t m d zo ha 0 zo;simp only[gS,z9,zj] at hl;simp only[zNr,zp] at hl;have hpl:=zDc t.l m.id
  by_cases h2:zZ m=0
  ·by_cases h3:m.gen=0
   ·have e:zaH t m d=(zV,7):=by simp [zaH,zep,h1,h2,h3]
    rw[e];simp only[z9,zj,zV];rw[h1] at hv;rw[h2] at hm;simp only[h3] at hm ⊢;clear hl;exact zW
   ·by_cases h4:0<=d/\d<=1073741824
    ·by_cases h5:t.l.length=12
     ·have e:zaH t m d=(zV,3):=by simp [zaH,zep,h1,h2,h3,h4,h5]
      rw[e];simp only[z9,zj,zV];clear hl;exact zW
     ·by_cases h6:0<=zad t.l m.id
      ·have e:zaH t m d=(zV,10):=by simp [zaH,zep,h1,h2,h3,h4,h5,h6]
       rw[e];simp only[z9,zj,zV];clear hl;exact zW
      ·have hps:=(zsZ h1 h2 h4.1 h4.2 h5 zo).1;have e:zaH t m d=(⟨zdQ t.l m d,(zfp t.heap (d,m.id)).1⟩,0):=by simp [zaH,zep,h1,h2,h3,h4,h5,h6,hps]
       rw[e];simp only[hps] at hp;simp only[hps,z9,zj,zdQ,zY5,zYU,zYS];have hz1:=zjn (t.l.take (zbk t.l m.id));have hz2:=zjn (t.l.drop (zbk t.l m.id));clear hps e;have zk0:=zaw.eq_1;exact zW
    ·have e:zaH t m d=(zV,1):=by simp [zaH,zep,h1,h2,h3,h4]
     rw[e];simp only[z9,zj,zV];clear hl
     by_cases h5:d<0
     ·exact zW
     ·have h6:1073741824<d:=by omega
      exact zW
  ·have e:zaH t m d=(zV,zZ m):=by simp [zaH,zep,h1,h2]
   rw[e];simp only[z9,zj,zV];clear hl;exact zW
 ·have e:zaH t m d=(zV,zac t):=by simp [zaH,zep,h1]
  rw[e];simp only[z9,zj,zV];exact zW
theorem zDg(t:Table)(id:Int)(hL:t.l.length<=4294967296)(hH:t.heap.length<=4294967296):zd G 310 [.d (z9 t),.d (.int .i64 id)] []=some (.d (.tup [zaw (zdN t id).1,.bool (zdN t id).2]),[]):=by
 have hv:=zkv t hL hH;rw[zkR] at hv;have hf:=zmi t id hL;have hlt:=znE t.l id;unfold zdN
 by_cases h1:zac t=0
 ·by_cases h6:0<=zad t.l id
  ·obtain⟨k,hk⟩:∃k:Nat,zad t.l id=k:=⟨(zad t.l id).toNat,by omega⟩;have hkl:k<t.l.length:=by omega
   simp only[h1,h6,zZI,if_true];rw[hk,zZz,zg hkl];rw[hk] at hf;simp only[z9,zaw] at hv hf ⊢;rw[h1] at hv;clear hk h6;have zk0:=zaw.eq_1;exact zW
  ·simp only[h1,h6,z0P,if_false];simp only[z9,zaw,zbF,zX] at hv hf ⊢;rw[h1] at hv;exact zW
 ·simp only[h1,zZ3,if_false];simp only[z9,zaw,zbF,zX] at hv hf ⊢;exact zW
theorem zo2(t:Table)(id:Int)(hL:t.l.length<=4294967296)(hH:t.heap.length<=4294967296):zd G 276 [.d (z9 t),.d (.int .i64 id)] []=some (.d (.tup [z9 (zaf t id).1,zj (zaf t id).2.1,.int .i64 (zaf t id).2.2]),[]):=by
 have hv:=zkv t hL hH;rw[zkR] at hv;have hf:=zmi t id hL;have hr:=zDn t.heap id hH;have hlt:=znE t.l id;simp only[eDE] at hr
 by_cases h1:zac t=0
 ·by_cases h6:0<=zad t.l id
  ·obtain⟨k,hk,e1,e2,e3,e4,e5⟩:=zkB h1 h6;have h12:=((zdh t).1 h1).1;have e:zaf t id=(⟨zfT t.l k,(zca t.heap id).1⟩,t.l[k].msg,0):=by
    have:ze4 t id=0:=by unfold ze4;rw[zYP (by simpa using h1),zYP zo,e3]
    unfold zaf;rw[zYQ this,e1,zZz,zg hk]
   rw[e];rw[e1] at hf;rw[e3] at hr;have hz1:=zjn (t.l.take k);have hz2:=zjn (t.l.drop (k+1));simp only[z9,zj,zfT,zY5] at hv hf ⊢;rw[h1] at hv;clear e e1 e2 e3 e5 h6;have zk0:=zaw.eq_1;exact zW
  ·have e:zaf t id=(zV,zX,4):=by simp [zaf,ze4,h1,h6]
   rw[e];simp only[z9,zj,zV,zX] at hv hf ⊢;rw[h1] at hv;exact zW
 ·have e:zaf t id=(zV,zX,zac t):=by simp [zaf,ze4,h1]
  rw[e];simp only[z9,zj,zV,zX] at hv hf ⊢;exact zW
theorem zTx(t:Table)(id d:Int)(hL:t.l.length<=4294967296)(hH:t.heap.length<=4294967296):zd G 279 [.d (z9 t),.d (.int .i64 id),.d (.int .i64 d)] []=some (.d (.tup [z9 (za9 t id d).1,.int .i64 (za9 t id d).2]),[]):=by
 have hv:=zkv t hL hH;rw[zkR] at hv;have hf:=zmi t id hL;have hr:=zDn t.heap id hH;have hlt:=znE t.l id;simp only[eDE] at hr
 by_cases h1:zac t=0
 ·by_cases h6:0<=zad t.l id
  ·by_cases h4:0<=d/\d<=1073741824
   ·obtain⟨k,hk,e1,e2,e3,e4,e5⟩:=zkB h1 h6;have h12:=((zdh t).1 h1).1;have hs:=(zqX (id:=id) (d:=d) h1).2 ⟨h6,h4.1,h4.2⟩;have hE:zdM t id d=0:=by
     unfold za9 at hs
     split at hs
     ·assumption
     ·rename_i hc;exact absurd hs hc
    have hp0:(zfp (zca t.heap id).1 (d,id)).2=0:=by
     unfold zdM at hE
     rwa [zYP (by simpa using h1),zYP zo,zYP zo,zYP (by simpa using e3)] at hE
    have e:za9 t id d=(⟨t.l.set k ⟨t.l[k].msg,d⟩,(zfp (zca t.heap id).1 (d,id)).1⟩,0):=by
     unfold za9;rw[zYQ hE,e1,zZz,zDN hk]
    have hp:=zDm (zca t.heap id).1 (d,id) (zUk _ _ hH);simp only[eDE,eD] at hp;rw[e];rw[e1] at hf;rw[e3] at hr;rw[hp0] at hp;have hz:=zjn t.l;simp only[z9,zZ7] at hv hf ⊢;rw[h1] at hv;clear e e1 e2 e3 e5 h6 hs hE hp0;have zk0:=zaw.eq_1;exact zW
   ·have e:za9 t id d=(zV,1):=by simp [za9,zdM,h1,h6,h4]
    rw[e];simp only[z9,zV] at hv hf ⊢;rw[h1] at hv
    by_cases h5:d<0
    ·exact zW
    ·have h7:1073741824<d:=by omega
     exact zW
  ·have e:za9 t id d=(zV,4):=by simp [za9,zdM,h1,h6]
   rw[e];simp only[z9,zV] at hv hf ⊢;rw[h1] at hv;exact zW
 ·have e:za9 t id d=(zV,zac t):=by simp [za9,zdM,h1]
  rw[e];simp only[z9,zV] at hv hf ⊢;exact zW
def zsz(t:Table)(id:Int):Message:=(t.l.getD (zad t.l id).toNat zbF).msg
def zfk(t:Table)(ep:Int)(id:Int):Bool:= !decide ((zsz t id).epoch<ep)
def zdp(t:Table)(now ep:Int):List Int:=if zac t=0 then (zcK t.heap now).filter (zfk t ep) else []
theorem zEs{t:Table}(h:zac t=0)(now:Int)(id:Int):id∈zcK t.heap now↔∃x∈t.l,x.msg.id=id/\x.deadline<=now:=by
 obtain⟨q1,q2,q3,q4⟩:=(zdh t).1 h;unfold zcK;rw[zYQ ((zfD _).2 q3)];have hp:=(zkN t.heap 1 (fun p q hp hq=>by omega)).2;unfold zjD;constructor
 ·intro hm;obtain⟨d,hd,e⟩:=zY0.1 hm;obtain⟨hd,hn⟩:=z0y.1 hd;obtain⟨x,hx,e2⟩:=zY0.1 (q4.mem_iff.1 (hp.mem_iff.1 hd));subst e2;exact⟨x,hx,e,of_decide_eq_true hn⟩
 ·rintro⟨x,hx,e,hn⟩;exact zY0.2 ⟨zbx x,z0y.2 ⟨hp.mem_iff.2 (q4.mem_iff.2 (zY0.2 ⟨x,hx,rfl⟩)),zZe hn⟩,e⟩
theorem zYf{t:Table}(h:zac t=0){now id:Int}(hm:id∈zcK t.heap now):0<=zad t.l id:=
 let ⟨x,hx,e,_⟩:=(zEs h now id).1 hm
 (zhG id).2 ⟨x,hx,e⟩
theorem zEr{t:Table}(h:zac t=0)(now:Int):(zcK t.heap now).length<=12:=by
 obtain⟨q1,q2,q3,q4⟩:=(zdh t).1 h;unfold zcK;rw[zYQ ((zfD _).2 q3)];have hp:=(zkN t.heap 1 (fun p q hp hq=>by omega)).2.length_eq;have:=q3.len;unfold zjD;rw[zY3];exact zZG (z0h _ _) zo
def rlS(t:Table)(ep:Int)(u:List Int)(i:Nat):St:=⟨[(2,.d (.int .i64 ep)),(3,.ref 3 0 0),(7,.acc 7 (zt ((u.take i).filter (zfk t ep)))),(8,.d (.sl (zt u))),(9,.d (.int .i64 i))],[(3,.row [.d (z9 t)]),(7,.acc ((u.take i).filter (zfk t ep)).length)]⟩
theorem zUE(t:Table)(ep now:Int)(u:List Int)(hu:u.length<=12)(h:zac t=0)(hf:∀id∈u,0<=zad t.l id)(hL:t.l.length<=4294967296)(hH:t.heap.length<=4294967296):∀i:Nat,i<=u.length->zP G [] zrU (rlS t ep u i)=some (.exit 0,⟨[(7,.acc 7 (zt (u.filter (zfk t ep))))],[(7,.acc (u.filter (zfk t ep)).length)]⟩):=by
 refine zaq (fun i=>u.length - i) (fun i=>i<=u.length) (rlS t ep u) _ fun i hi L ih=> ?_;simp only[rlS,z9] at ih ⊢;simp only[zrU]
 by_cases h0:i<u.length
 ·have i1:=ih (i+1) zo zo;clear ih;have ht:u.take (i+1)=u.take i++[u[i]]:=by rw[z1i,zY1 h0];rfl
  rw[ht,z1Z] at i1;have hF:=zDg t u[i] hL hH;have hfi:=hf u[i] (zY4 h0);have e:zdN t u[i]=(t.l.getD (zad t.l u[i]).toNat zbF,true):=by unfold zdN;rw[zYQ ⟨h,hfi⟩]
  rw[e] at hF;have hP:=zDf (t.l.getD (zad t.l u[i]).toNat zbF).msg ep;have hlen:((u.take i).filter (zfk t ep)).length<=12:=zZG (z0h _ _) (by simp;omega)
  by_cases hk:(t.l.getD (zad t.l u[i]).toNat zbF).msg.epoch<ep
  ·have e2:[u[i]].filter (zfk t ep)=[]:=by
      have:zfk t ep u[i]=false:=by unfold zfk zsz;rw[zZe hk];rfl
      rw[z0m,this];rfl
   rw[e2,zZd] at i1;generalize (t.l.getD (zad t.l u[i]).toNat zbF)=x at *;simp only[hk,decide_true,z9,zaw,zj] at hF hP;simp only[zNr,zp] at i1;clear e e2 hfi hf;exact zS
  ·have e2:[u[i]].filter (zfk t ep)=[u[i]]:=by
      have:zfk t ep u[i]=true:=by unfold zfk zsz;rw[zZc hk];rfl
      rw[z0m,this];rfl
   rw[e2] at i1;generalize (t.l.getD (zad t.l u[i]).toNat zbF)=x at *;simp only[hk,decide_false,z9,zaw,zj] at hF hP;simp only[zt] at i1;simp only[zNr,zp] at i1;clear e e2 hfi hf;exact zS
 ·have:i=u.length:=by omega
  subst this;clear ih;rw[z1f];exact zS
theorem zTz(t:Table)(now ep:Int)(hL:t.l.length<=4294967296)(hH:t.heap.length<=4294967296):zd G 286 [.d (z9 t),.d (.int .i64 now),.d (.int .i64 ep)] []=some (.d (.sl (zt (zdp t now ep))),[]):=by
 have hv:=zkv t hL hH;rw[zkR] at hv;have hu:=zUb t.heap now hH;unfold zdp
 by_cases h1:zac t=0
 ·have hl:=zUE t ep now (zcK t.heap now) (zEr h1 now) h1 (fun id hm=>zYf h1 hm) hL hH 0 zo;simp only[rlS,zZE,z0E,zt,zYS,zYY] at hl;rw[zYQ h1];simp only[z9] at hv hl ⊢;rw[h1] at hv;simp only[zNr,zp] at hl;exact zW
 ·rw[zYP h1];simp only[z9] at hv ⊢;exact zW
structure DF where
 i:Nat
 j:Nat
 R:List Int
def zda(r:z8)(m:Message):Int:=if zau r≠0 then zau r else if zZ m≠0 then zZ m else if r.size=r.cells.length then 3 else if 0<=zaF (zu r) m.id then 10 else 0
theorem zoZ(r:z8)(m:Message)(hL:r.cells.length<=4294967296):zd G 300 [.d (zQ r),.d (zj m)] []=some (.d (.int .i64 (zda r m)),[]):=by
 have hv:=zku r hL;have hm:=zhV m;unfold zda
 by_cases e1:zau r=0
 ·rw[e1] at hv;obtain⟨c,h,z,rfl,h1,h2,h3,h4⟩:=zja (zch e1);have hl:=zi1 c h z h2 h3 h4;have hi:=ziG (zak c h z) m.id (by rw[zgx];omega);simp only[e1,ne_eq,zY2,if_false];rw[zg8];clear e1;generalize zaF (zak c h z) m.id=q at *;generalize zak c h z=w at *
  by_cases e2:zZ m=0
  ·rw[e2] at hm;simp only[e2,ne_eq,zY2,if_false];simp only[zQ,zj] at hv hm hl hi ⊢
   by_cases e3:(z:Int)=c.length
   ·rw[zYQ e3];obtain rfl:z=c.length:=by omega
    clear e3;exact zW
   ·simp only[e3,if_false]
    by_cases e4:0<=q
    ·simp only[e4,if_true];have zk0:=zj.eq_1;exact zW
    ·simp only[e4,if_false];have zk0:=zj.eq_1;exact zW
  ·simp only[e2,ne_eq,zZm,if_true];generalize zZ m=v at *;simp only[zQ,zj] at hv hm ⊢;exact zW
 ·simp only[e1,ne_eq,zZm,if_true];generalize zau r=v at *;simp only[zQ,zj] at hv ⊢;exact zW
theorem zsE(k:Nat)(h1:1<=k)(h2:k<=12):zd G 76 [.d (.int .i64 k)] []=some (.d (.tup [zQ ⟨List.replicate k zX,0,0⟩,.int .i64 0]),[]):=by
 have e:List.replicate k (Go.Sim.AV.d (zj zX))=(List.replicate k (zj zX)).map Go.Sim.AV.d:=by rw[z1F]
 simp only[zQ,z1F];simp only[zj,zX] at e ⊢;rw[zB zOH (by simp)];simp -implicitDefEqProofs (maxSteps:=4000000) (disch:=omega) only[zqj,zZU,Nat.min_self,List.take_replicate,zg,go_sem, *]
def wN(n h:Nat)(l:List Message)(i:Nat):List Message:=(List.range i).foldl (fun cs j=>cs.set ((h+j) % n) (l.getD j zX)) (List.replicate n zX)
theorem ztU(n h:Nat)(l:List Message)(i:Nat):wN n h l (i+1)=(wN n h l i).set ((h+i) % n) (l.getD i zX):=by
 unfold wN;rw[z11,z1Y];rfl
theorem zce(n h:Nat)(l:List Message)(i:Nat):(wN n h l i).length=n:=by
 induction i with
 | zero=>simp [wN]
 | succ i ih=>rw[ztU,zZu,ih]
def wiS(n h:Nat)(l:List Message)(i:Nat):St:=⟨[(1,.d (.int .i64 h)),(2,.d (.sl (l.map zj))),(6,.ref 6 0 0),(7,.ref 7 0 0),(8,.d (.int .i64 i))],[(6,.row [.agg [.xsl [],.d (.int .i64 0),.d (.int .i64 0)]]),(7,.row [.agg [.osl 12 0 n,.d (.int .i64 h),.d (.int .i64 l.length)]]),(12,.row (((wN n h l i).map zj).map .d))]⟩
theorem zYo(n h:Nat)(l:List Message)(h1:1<=n)(h2:n<=12)(h3:h<=12)(h4:l.length<=n):∀i,i<=l.length->zP G [] zoa (wiS n h l i)=some (.exit 0,⟨[(6,.ref 6 0 0),(7,.ref 7 0 0)],[(6,.row [.agg [.xsl [],.d (.int .i64 0),.d (.int .i64 0)]]),(7,.row [.agg [.osl 12 0 n,.d (.int .i64 h),.d (.int .i64 l.length)]]),(12,.row (((wN n h l l.length).map zj).map .d))]⟩):=by
 refine zaq (fun i=>l.length - i) (fun i=>i<=l.length) (wiS n h l) _ fun i hi L ih=> ?_
 by_cases h0:i<l.length
 ·have i1:=ih (i+1) zo zo;clear ih;have e:((h:Int)+i).tmod n=(((h+i) % n:Nat):Int):=by rw[<- zZR, <- z1j]
  have hj:(h+i) % n<n:=zZO _ zo;have hl:=zce n h l i;generalize wN n h l l.length=z at *;rw[wiS,ztU,zg h0] at i1;generalize (h+i) % n=j at *;rw[zZ7] at i1;simp only[wiS,zoa];generalize wN n h l i=w at *;simp only[zNr,zp] at i1;exact zS
 ·clear ih;have:i=l.length:=by omega
  subst this;simp only[wiS,zoa];exact zS
theorem zpD(c:List Message)(h0 z h:Nat)(l:List Message)(h1:1<=c.length)(h2:c.length<=12)(h3:h<=12)(h4:l.length<=c.length):zd G 301 [.d (.agg [.sl (c.map zj),.int .i64 h0,.int .i64 z]),.d (.int .i64 h),.d (.sl (l.map zj))] []=some (.d (zQ ⟨wN c.length h l l.length,h,l.length⟩),[]):=by
 have hl:=zYo c.length h l h1 h2 h3 h4 0 zo;have hn:=zce c.length h l l.length;simp only[zQ];generalize wN c.length h l l.length=w at *;have ez:(List.replicate c.length zX).map zj=List.replicate c.length (zj zX):=z1F;have e:List.replicate c.length (Go.Sim.AV.d (zj zX))=(List.replicate c.length (zj zX)).map Go.Sim.AV.d:=by rw[z1F]
 simp only[wiS,wN,z12,z1g,ez,zZg] at hl;clear ez;simp only[show zj zX= .agg [.int .i64 0,.int .i64 0,.int .i64 0,.int .i64 0,.int .i64 0,.int .i64 0,.str []] from rfl] at hl e;have zk0:=zj.eq_1;exact zW
theorem zmh{r:z8}{m:Message}(h:zda r m=0):zau r=0/\zZ m=0/\r.size≠r.cells.length/\zaF (zu r) m.id<0:=by
 unfold zda at h
 by_cases e1:zau r=0
 ·rw[zYP (fun hc=>hc e1)] at h
  by_cases e2:zZ m=0
  ·rw[zYP (fun hc=>hc e2)] at h
   by_cases e3:r.size=r.cells.length
   ·rw[zYQ e3] at h;exact absurd h (by decide)
   ·rw[zYP e3] at h
    by_cases e4:0<=zaF (zu r) m.id
    ·rw[zYQ e4] at h;exact absurd h (by decide)
    ·exact⟨e1,e2,e3,by omega⟩
  ·rw[zYQ e2] at h;exact absurd h e2
 ·rw[zYQ e1] at h;exact absurd h e1
theorem zTh(c:List Message)(h z:Nat)(m:Message)(hp:zda ⟨c,h,z⟩ m=0):zd G 272 [.d (zQ ⟨c,h,z⟩),.d (zj m)] []=some (.d (.tup [zQ ⟨wN c.length h (zak c h z++[m]) (z+1),h,(z+1:Nat)⟩,.int .i64 0]),[]):=by
 obtain⟨p1,p2,p3,p4⟩:=zmh hp;obtain⟨a1,a2,a3,a4,a5,a6⟩:=zch p1;simp only at a1 a2 a3 a4 a5 a6 p3;have hpu:=zoZ ⟨c,h,z⟩ m (by simp only;omega);have hl:=zi1 c h z a2 zo zo;have hn:=zgx c h z;have hw:=zpD c h z h (zak c h z++[m]) a1 a2 zo (by rw[zYZ,hn];simp;omega);rw[hp] at hpu;rw[zYZ,hn,zZp,zY5] at hw;rw[hn] at hl;clear p1 p2 p4 hp;generalize wN c.length h (zak c h z++[m]) (z+1)=q at *;generalize zak c h z=w at *;simp only[zQ,zj,zYU,zYS] at hpu hw hl ⊢;exact zW
theorem zTi(c:List Message)(h z:Nat)(m:Message)(hp:zda ⟨c,h,z⟩ m=0):zd G 277 [.d (zQ ⟨c,h,z⟩),.d (zj m)] []=some (.d (.tup [zQ ⟨wN c.length ((h+c.length - 1) % c.length) (m::zak c h z) (z+1),((h+c.length - 1) % c.length:Nat),(z+1:Nat)⟩,.int .i64 0]),[]):=by
 obtain⟨p1,p2,p3,p4⟩:=zmh hp;obtain⟨a1,a2,a3,a4,a5,a6⟩:=zch p1;simp only at a1 a2 a3 a4 a5 a6 p3;have hpu:=zoZ ⟨c,h,z⟩ m (by simp only;omega);have hl:=zi1 c h z a2 zo zo;have hn:=zgx c h z;have hj:(h+c.length - 1) % c.length<c.length:=zZO _ zo;have e:((h:Int)+c.length - 1).tmod c.length=(((h+c.length - 1) % c.length:Nat):Int):=by
  rw[show (h:Int)+c.length - 1=((h+c.length - 1:Nat):Int) by omega, <- z1j]
 have hw:=zpD c h z ((h+c.length - 1) % c.length) (m::zak c h z) a1 a2 zo (by rw[zYW,hn];omega);rw[hp] at hpu;rw[zYW,hn,zYU] at hw;rw[hn] at hl;clear p1 p2 p4 hp;generalize (h+c.length - 1) % c.length=j at *;generalize wN c.length j (m::zak c h z) (z+1)=q at *;generalize zak c h z=w at *
 by_cases h0:w=[]
 ·subst h0;simp only[zQ,zj,zYS] at hpu hw hl ⊢;exact zW
 ·have he:(w.map zj).isEmpty=false:=by cases w with|nil=>exact absurd rfl h0|cons x w=>rfl
  simp only[zQ,zj] at hpu hw hl he ⊢;exact zW
theorem zOX{α:Type}(l:List α)(i j:Nat)(x d:α)(hi:i<l.length):(l.set i x).getD j d=if i=j then x else l.getD j d:=by
 rw[zZw,zZw,z0O]
 split
 ·rename_i e;subst e;simp
 ·rfl
theorem zRs{n h i j:Nat}(hi:i<n)(hj:j<n)(e:(h+i) % n=(h+j) % n):i=j:=by
 have h1:=zZO h (show 0<n by omega);rw[Nat.add_mod h i,Nat.add_mod h j,zZ8 hi,zZ8 hj] at e;generalize h % n=a at *
 by_cases c1:a+i<n
 ·rw[zZ8 c1] at e
  by_cases c2:a+j<n
  ·rw[zZ8 c2] at e;omega
  ·rw[show a+j=(a+j - n)+n by omega,z1E,zZ8 zo] at e;omega
 ·rw[show a+i=(a+i - n)+n by omega,z1E,zZ8 zo] at e
  by_cases c2:a+j<n
  ·rw[zZ8 c2] at e;omega
  ·rw[show a+j=(a+j - n)+n by omega,z1E,zZ8 zo] at e;omega
theorem ztT{n h:Nat}{l:List Message}(hn:1<=n):∀ {i:Nat},i<=n->∀ {j:Nat},j<n->(wN n h l i).getD ((h+j) % n) zX=if j<i then l.getD j zX else zX:=by
 intro i
 induction i with
 | zero=>
  intro _ j hj;rw[zYP zo];have:(h+j) % n<n:=zZO _ zo;simp [wN,zZw,z2g,this]
 | succ i ih=>
  intro hi j hj;have hm:(h+i) % n<n:=zZO _ zo;rw[ztU,zOX _ _ _ _ _ (by rw[zce];exact hm),ih zo hj]
  by_cases e:(h+i) % n=(h+j) % n
  ·obtain rfl:=zRs zo hj e;rw[zYQ rfl,zYQ zo]
  ·rw[zYP e]
   by_cases c:j<i
   ·rw[zYQ c,zYQ zo]
   ·rw[zYP c,zYP];intro h2;obtain rfl:j=i:=by omega
    exact e rfl
def rg(n h:Nat)(l:List Message):z8:=⟨wN n h l l.length,h,l.length⟩
theorem zi0{n h:Nat}{l:List Message}(hn:1<=n)(hl:l.length<=n):zak (wN n h l l.length) h l.length=l:=by
 unfold zak;rw[zce];refine z15 (by simp) fun j h1 h2=> ?_;simp only[z1k,List.getElem_range];rw[ztT hn hl zo,zYQ h2,zg h2]
theorem zJ7{l:List Message}(h:∀m∈l,zZ m=0):zbb l=0:=by
 induction l with
 | nil=>rfl
 | cons m l ih=>
  unfold zbb;rw[zYP (by simpa using h m (by simp))];exact ih fun x hx=>h x (by simp [hx])
theorem zmu{n h:Nat}{l:List Message}(hn:1<=n)(hn2:n<=12)(hh:h<n)(hl:l.length<=n)(hm:∀m∈l,zZ m=0)(hd:(l.map (·.id)).Nodup):zau (rg n h l)=0:=by
 have ho:zu (rg n h l)=l:=by rw[rg,zg8,zi0 hn hl]
 unfold zau;rw[ho];have hlen:(rg n h l).cells.length=n:=zce _ _ _ _;rw[zYP (by rw[zY9];exact⟨by rw[hlen];omega,by rw[hlen];omega,by simp [rg],by rw[hlen];simp [rg];omega,by simp [rg],by rw[hlen];simp [rg];omega⟩)];rw[zYP,zYP (by rw[zJ7 hm];simp),zYP (by unfold zaS;simpa using hd)];unfold zcI;rw[hlen];rw[zZW];rintro⟨j,h1,h2⟩;rw[z0S] at h1;have hz:(rg n h l).size.toNat=l.length:=by simp [rg]
 have e:=ztT (h:=h) (l:=l) hn hl (show j<n by omega);rw[zYP zo] at e;exact of_decide_eq_true h2 e
theorem zsX{n h:Nat}{l:List Message}{m:Message}(hn:1<=n)(hn2:n<=12)(hh:h<n)(hl:l.length<n)(hm:∀m∈l,zZ m=0)(hd:(l.map (·.id)).Nodup)(hv:zZ m=0)(hi:∀x∈l,x.id≠m.id):zda (rg n h l) m=0:=by
 unfold zda;rw[zYP (by rw[zmu hn hn2 hh zo hm hd];simp),zYP (by rw[hv];simp),zYP (by simp [rg,zce];omega),zYP];rw[rg,zg8,zi0 hn zo];have:zaF l m.id<0:=by
  unfold zaF;rw[zlC];intro x hx;simpa using hi x hx
 omega
theorem zA7{m:Message}{id lo hi:Int}(h:zoJ m id lo hi)(h1:1<=id)(h2:id<=1000)(h3:0<=lo)(h4:hi<65536):zZ m=0:=by
 obtain⟨g1,g2,g3,g4,g5,g6,g7,g8,g9,g10,g11,g12⟩:=h;unfold zZ;rw[zYQ ⟨by omega,by omega,by omega,by omega,by omega,by omega,by omega,by omega,by omega,by omega,by omega,by omega⟩,zYP zo]
theorem zC7{n h:Nat}{l:List Message}{m:Message}(hn:1<=n)(hn2:n<=12)(hh:h<n)(hl:l.length<n)(hm:∀m∈l,zZ m=0)(hd:(l.map (·.id)).Nodup)(hv:zZ m=0)(hi:∀x∈l,x.id≠m.id):zd G 272 [.d (zQ (rg n h l)),.d (zj m)] []=some (.d (.tup [zQ (rg n h (l++[m])),.int .i64 0]),[]):=by
 have hp:=zsX hn hn2 hh hl hm hd hv hi;have:=zTh (wN n h l l.length) h l.length m hp;rw[zi0 hn zo,zce] at this;rw[show rg n h l=⟨wN n h l l.length,h,l.length⟩ from rfl,this];unfold rg;rw[zYZ,zZp]
theorem zC8{n h:Nat}{l:List Message}{m:Message}(hn:1<=n)(hn2:n<=12)(hh:h<n)(hl:l.length<n)(hm:∀m∈l,zZ m=0)(hd:(l.map (·.id)).Nodup)(hv:zZ m=0)(hi:∀x∈l,x.id≠m.id):zd G 277 [.d (zQ (rg n h l)),.d (zj m)] []=some (.d (.tup [zQ (rg n ((h+n - 1) % n) (m::l)),.int .i64 0]),[]):=by
 have hp:=zsX hn hn2 hh hl hm hd hv hi;have:=zTi (wN n h l l.length) h l.length m hp;rw[zi0 hn zo,zce] at this;rw[show rg n h l=⟨wN n h l l.length,h,l.length⟩ from rfl,this];rfl
theorem zUI{n h p:Nat}(hn:1<=n)(hp:p<n):∃j,j<n/\(h+j) % n=p:=by
 have hh:h % n<n:=zZO _ zo
 by_cases c:h % n<=p
 ·refine⟨p - h % n,by omega,?_⟩;rw[<- Nat.mod_add_mod,show h % n+(p - h % n)=p by omega,zZ8 hp]
 ·refine⟨p+n - h % n,by omega,?_⟩;rw[<- Nat.mod_add_mod,show h % n+(p+n - h % n)=p+n by omega,z1E,zZ8 hp]
theorem zG9{n h:Nat}{a b:List Message}(hn:1<=n)(ha:a.length=n)(hb:b.length=n)(H:∀j,j<n->a.getD ((h+j) % n) zX=b.getD ((h+j) % n) zX):a=b:=by
 refine z15 zo fun p h1 h2=> ?_;obtain⟨j,hj,e⟩:=zUI (h:=h) hn (show p<n by omega);have:=H j hj;rw[e] at this;simpa [zZw,h1,h2] using this
theorem zRt{n i:Nat}(hn:1<=n):i % n<n:=zZO _ zo
theorem zOW{l:List Message}{j:Nat}(h:j<l.length):l[j]=l.getD j zX:=by
 rw[zZw,zY1 h];rfl
theorem zJ6:∀ {l:List Message},zbb l=0->∀m∈l,zZ m=0:=by
 intro l
 induction l with
 | nil=>intro _ m hm;cases hm
 | cons x l ih=>
  intro h m hm;unfold zbb at h
  split at h
  ·rename_i q;exact absurd h q
  ·rename_i q
   cases hm with
   | head=>simpa using q
   | tail _ hm=>exact ih h m hm
theorem zmt{r:z8}(hr:zau r=0):∃n h:Nat,r=rg n h (zu r)/\1<=n/\n<=12/\h<n/\(zu r).length<=n/\(∀m∈zu r,zZ m=0)/\((zu r).map (·.id)).Nodup:=by
 have hok:=zch hr;obtain⟨c,h,z,rfl,h1,h2,h3,h4⟩:=zja hok;rw[ztd hok] at hr;have ho:zu ⟨c,h,z⟩=zak c h z:=zg8 c h z;rw[ho];have hl:(zak c h z).length=z:=zgx c h z
 split at hr
 ·cases hr
 rename_i hrest
 split at hr
 ·rename_i q;exact absurd hr q
 rename_i hfirst
 split at hr
 ·cases hr
 rename_i hdup;refine⟨c.length,h,?_,h1,h2,h3,by omega,?_,?_⟩
 ·unfold rg;rw[hl]
  congr 1
  refine zG9 (n:=c.length) (h:=h) h1 rfl (zce _ _ _ _) fun j hj=> ?_;rw[ztT h1 h4 hj]
  by_cases cj:j<z
  ·rw[zYQ cj];simp [zak,zZw,cj]
  ·rw[zYP cj];have hr2:zcI ⟨c,h,z⟩ z c.length=false:=by simpa using hrest
   unfold zcI at hr2;rw[zZ6] at hr2;have:=hr2 j (z0S.2 ⟨by omega,by omega⟩);simpa using this
 ·have hf:zbb (zak c h z)=0:=by simpa using hfirst
  generalize zak c h z=w at *;clear hl ho hdup hrest;intro m hm;have:=zJ6 hf m hm;exact this
 ·have:zaS ((zak c h z).map (·.id))=false:=by simpa using hdup
  unfold zaS at this;simpa using this
def pbD(r:z8)(m:Message):z8×Int:=if zda r m=0 then (rg r.cells.length r.head.toNat (zu r++[m]),0) else (zaz,zda r m)
def rmE(r:z8)(id:Int):Int:=if zau r≠0 then zau r else if zaF (zu r) id<0 then 4 else 0
def rmD(r:z8)(id:Int):z8×Message×Int:=if rmE r id=0 then (rg r.cells.length r.head.toNat ((zu r).eraseIdx (zaF (zu r) id).toNat),(zu r).getD (zaF (zu r) id).toNat zX,0) else (zaz,zX,rmE r id)
theorem zAO{l:List Message}{id:Int}(h:0<=zaF l id):(zaF l id).toNat<l.length:=by
 unfold zaF zbf at h ⊢
 cases hc:l.findIdx? (fun m:Message=>decide (m.id=id)) with
 | none=>rw[hc] at h;simp at h
 | some i=>
  obtain⟨hi,_⟩:=zZV.1 hc;simpa using hi
def pfD(r:z8)(m:Message):z8×Int:=if zda r m=0 then (rg r.cells.length ((r.head.toNat+r.cells.length - 1) % r.cells.length) (m::zu r),0) else (zaz,zda r m)
def usE(s:Shard)(b:Bool):Int:=if zab s≠0 then zab s else if b=true then 0 else 1
structure RO where
 h:Nat
 L:List Message
 id:Int
 a:Nat
 i:Nat
def roS(l:List Int)(lo hi:Int)(n:Nat)(s:RO):St:=⟨[(0,.ref 1000000 0 0),(3,.d (.int .i64 s.id)),(4,.d (.int .i64 lo)),(5,.d (.int .i64 hi)),(12,.ref 12 0 0),(13,.ref 13 0 0),(15,.d (.int .i64 s.i)),(1000000,.ref 1000000 1 0)],[(12,.row [.agg [.xsl [],.d (.int .i64 0),.d (.int .i64 0)]]),(13,.row [.d (zQ (rg n s.h s.L))]),(1000000,zp l s.a)]⟩
def mOK(lo hi id0:Int)(L:List Message)(id:Int):Prop:=(∀m∈L,zZ m=0/\lo<=m.route/\m.route<=hi/\id0<=m.id/\m.id<id/\m.count<=3)/\(L.map (·.id)).Nodup
def zDC(lo hi id0:Int)(n:Nat)(s:RO):Prop:=s.h<n/\s.L.length+s.i<=n/\s.L.length+s.i<=6/\id0+s.L.length=s.id/\mOK lo hi id0 s.L s.id
theorem zQ0{lo hi id0 id:Int}{L:List Message}{m:Message}(h:mOK lo hi id0 L id)(hg:zoJ m id lo hi)(hv:zZ m=0)(h0:id0<=id):mOK lo hi id0 (L++[m]) (id+1)/\mOK lo hi id0 (m::L) (id+1):=by
 obtain⟨h1,h2⟩:=h;have hne:∀x∈L,x.id≠m.id:=fun x hx=>by have:=h1 x hx;have:=hg.1;omega
 have hm:zZ m=0/\lo<=m.route/\m.route<=hi/\id0<=m.id/\m.id<id+1/\m.count<=3:=⟨hv,hg.2.1,hg.2.2.1,by have:=hg.1;omega,by have:=hg.1;omega,hg.2.2.2.2.2.2.1⟩;have hall:∀x∈L,zZ x=0/\lo<=x.route/\x.route<=hi/\id0<=x.id/\x.id<id+1/\x.count<=3:=fun x hx=>by
  obtain⟨k1,k2,k3,k4,k5,k6⟩:=h1 x hx;exact⟨k1,k2,k3,k4,by omega,k6⟩
 refine⟨⟨fun x hx=> ?_,?_⟩,⟨fun x hx=> ?_,?_⟩⟩
 ·rcases zZl.1 hx with hx|hx
  ·exact hall x hx
  ·rw[zZt] at hx;subst hx;exact hm
 ·rw[zY5,z0e];refine⟨h2,by simp,fun a ha b hb=> ?_⟩;obtain⟨x,hx,rfl⟩:=zY0.1 ha;simp at hb;subst hb;exact hne x hx
 ·rcases zZx.1 hx with rfl|hx
  ·exact hm
  ·exact hall x hx
 ·rw[zYU,zZS];refine⟨fun hc=> ?_,h2⟩;obtain⟨x,hx,e⟩:=zY0.1 hc;exact hne x hx e
def zDD(l:List Int)(lo hi id0:Int)(n:Nat)(r:Option (zR×St)):Prop:=∃h L a' id,h<n/\L.length<=n/\L.length<=6/\id<=id0+6/\mOK lo hi id0 L id/\r=some (.exit 0,⟨[(12,.ref 12 0 0),(13,.ref 13 0 0),(1000000,.ref 1000000 1 0)],[(12,.row [.agg [.xsl [],.d (.int .i64 0),.d (.int .i64 0)]]),(13,.row [.d (zQ (rg n h L))]),(1000000,zp l a')]⟩)
theorem zUH(l:List Int)(lo hi id0:Int)(n:Nat)(hL:l.length<=4000)(h2:0<=lo)(h3:lo<=hi)(h4:hi<65536)(hid:1<=id0)(hid2:id0<=900)(hn:1<=n)(hn2:n<=12):∀s:RO,zDC lo hi id0 n s->zDD l lo hi id0 n (zP G [] zn4 (roS l lo hi n s)):=by
 refine ziQ (fun s:RO=>s.i) (zDC lo hi id0 n) (roS l lo hi n) (fun _=>zdl (zDD l lo hi id0 n)) fun⟨h,L,id,a,i⟩ ⟨i1,i2,i3,i4,i5⟩ LL ih=> ?_;simp only at i1 i2 i3 i4 i5
 by_cases h0:0<i
 ·obtain⟨c,a1,q1,c1,c2⟩:=((⟨_,_,zbP l a 2 hL zo zo,zaG l a zo⟩:∃y a',zd G 13 [.ref 1000000 0 0,.d (.int .i64 2)] [(1000000,zp l a)]=some (.d (.int .i64 y),[(1000000,zp l a')])/\0<=y/\y<2));obtain⟨m,a2,hg,hmc⟩:=zsw l a1 id lo hi hL h2 h3 h4;have hv:=zA7 hg zo zo h2 h4;have hall:∀m∈L,zZ m=0:=fun m hm=>(i5.1 m hm).1;have hne:∀x∈L,x.id≠m.id:=fun x hx=>by have:=i5.1 x hx;have:=hg.1;omega
  have p1:=zC7 hn hn2 i1 zo hall i5.2 hv hne;have p2:=zC8 hn hn2 i1 zo hall i5.2 hv hne;have hp:=zQ0 i5 hg hv zo;have e:((i - 1:Nat):Int)=(i:Int) - 1:=by omega
  have j1:=ih ⟨h,L++[m],id+1,a2,i - 1⟩ ⟨i1,by simp only[zYZ,zZp];omega,by simp only[zYZ,zZp];omega,by simp only[zYZ,zZp];omega,hp.1⟩ (by simp only;omega);have j2:=ih ⟨(h+n - 1) % n,m::L,id+1,a2,i - 1⟩ ⟨zZO _ zo,by simp only[zYW];omega,by simp only[zYW];omega,by simp only[zYW];omega,hp.2⟩ (by simp only;omega);clear ih hp hv hall hne hg i5;simp only[roS,e] at j1 j2;simp only[roS,zn4];generalize rg n h (L++[m])=r1 at *;generalize rg n ((h+n - 1) % n) (m::L)=r2 at *;generalize rg n h L=r0 at *
  by_cases hc:c=0
  ·subst hc;clear j2 p2;simp only[zQ,zj] at p1 j1 hmc ⊢;simp -implicitDefEqProofs (maxSteps:=4000000) (disch:=omega) only[zg,go_sem, *]
  ·obtain rfl:c=1:=by omega
   clear j1 p1;simp only[zQ,zj] at p2 j2 hmc ⊢;simp -implicitDefEqProofs (maxSteps:=4000000) (disch:=omega) only[zg,go_sem, *]
 ·clear ih;obtain rfl:i=0:=by omega
  simp only[roS,zn4];generalize hr:rg n h L=r0;simp only[zQ];simp -implicitDefEqProofs (maxSteps:=4000000) (disch:=omega) only[zg,go_sem, *];subst hr;exact⟨h,L,a,id,i1,by omega,by omega,by omega,i5,rfl⟩
theorem zUD(l:List Int)(a:Nat)(n:Nat)(id lo hi:Int)(hL:l.length<=4000)(h2:0<=lo)(h3:lo<=hi)(h4:hi<65536)(hid:1<=id)(hid2:id<=900)(hn:1<=n)(hn2:n<=12):∃h L a' idn,h<n/\L.length<=n/\L.length<=6/\idn<=id+6/\mOK lo hi id L idn/\
    zd G 251 [.ref 1000000 0 0,.d (.int .i64 n),.d (.int .i64 6),.d (.int .i64 id),.d (.int .i64 lo),.d (.int .i64 hi)] [(1000000,zp l a)]=some (.d (zQ (rg n h L)),[(1000000,zp l a')]):=by
 have hw:=zsE n hn hn2;have q1:=zbP l a n hL zo zo;have b1:=zaG l a (n:=n) zo;obtain⟨h0,hh⟩:∃h0:Nat,nD l a n=h0:=⟨(nD l a n).toNat,by omega⟩;rw[hh] at q1 b1;clear hh;generalize (zae l a).2=a1 at *;obtain⟨k,hk,hk2⟩:∃k:Nat,(n<6/\k=n+1\/¬n<6/\k=7)/\1<=k:=by
  by_cases hc:n<6
  ·exact⟨n+1,.inl ⟨hc,rfl⟩,by omega⟩
  ·exact⟨7,.inr ⟨hc,rfl⟩,by omega⟩
 have q2:=zbP l a1 k hL zo zo;have b2:=zaG l a1 (n:=k) zo;obtain⟨i,hi0⟩:∃i:Nat,nD l a1 k=i:=⟨(nD l a1 k).toNat,by omega⟩;rw[hi0] at q2 b2;clear hi0;generalize (zae l a1).2=a2 at *;obtain⟨h,L,a',idn,g1,g2,g3,g4,g5,hl⟩:=zUH l lo hi id n hL h2 h3 h4 hid hid2 hn hn2 ⟨h0,[],id,a2,i⟩ ⟨by simp only;omega,by simp only[zYY];omega,by simp only[zYY];omega,by simp,by simp [mOK]⟩;refine⟨h,L,a',idn,g1,g2,g3,g4,g5,?_⟩;clear g5;have ez:(List.replicate n zX).length=n:=zZU;have e0:rg n h0 []=⟨List.replicate n zX,h0,0⟩:=rfl;simp only[roS,e0] at hl;generalize hz:rg n h L=z at *;clear hz e0;generalize List.replicate n zX=c at *;simp only[zQ] at hw hl ⊢
 rcases hk with ⟨hc,rfl⟩|⟨hc,rfl⟩
 ·have hc2:(n:Int)<6:=by omega
  simp only[zNr,zp] at q2;rw[zB zAV (by simp)];simp -implicitDefEqProofs (maxSteps:=4000000) (disch:=omega) only[zm6,zg,go_sem, *]
 ·have hc2:¬(n:Int)<6:=by omega
  simp only[zNr,zp] at q2;rw[zB zAV (by simp)];simp -implicitDefEqProofs (maxSteps:=4000000) (disch:=omega) only[zm6,zg,go_sem, *]
theorem zh7{t:Table}(h:zac t=0):t.l.length<=12/\t.heap.length<=12:=by
 obtain⟨q1,q2,q3,q4⟩:=(zdh t).1 h;exact⟨q1,q3.len⟩
def zkQ(t:Table)(b:Bool):Go.Sim.AV:=if b then .agg [.xsl [],.xsl []] else .d (z9 t)
structure TB where
 t:Table
 id:Int
 a:Nat
 i:Nat
 b:Bool
def tbS(l:List Int)(lo hi:Int)(s:TB):St:=⟨[(0,.ref 1000000 0 0),(2,.d (.int .i64 s.id)),(3,.d (.int .i64 lo)),(4,.d (.int .i64 hi)),(10,.ref 10 0 0),(11,.ref 11 0 0),(12,.d (.int .i64 s.i)),(1000000,.ref 1000000 1 0)],[(10,.row [.agg [.xsl [],.xsl []]]),(11,.row [zkQ s.t s.b]),(1000000,zp l s.a)]⟩
def tOK(lo hi id0:Int)(t:Table)(id:Int):Prop:=zac t=0/\∀x∈t.l,lo<=x.msg.route/\x.msg.route<=hi/\id0<=x.msg.id/\x.msg.id<id/\0<=x.msg.epoch
def zEf(lo hi id0:Int)(n:Nat)(s:TB):Prop:=tOK lo hi id0 s.t s.id/\id0<=s.id/\s.id<=id0+3 * ((n:Int) - (s.i:Int))/\s.t.l.length+s.i<=n/\(s.b=true->s.t=zV)
def zEg(l:List Int)(lo hi id0:Int)(n:Nat)(r:Option (zR×St)):Prop:=∃t a' b id,tOK lo hi id0 t id/\t.l.length<=n/\(b=true->t=zV)/\r=some (.exit 0,⟨[(10,.ref 10 0 0),(11,.ref 11 0 0),(1000000,.ref 1000000 1 0)],[(10,.row [.agg [.xsl [],.xsl []]]),(11,.row [zkQ t b]),(1000000,zp l a')]⟩)
theorem zXD(l:List Int)(lo hi id0:Int)(n:Nat)(hL:l.length<=4000)(h2:0<=lo)(h3:lo<=hi)(h4:hi<65536)(hid:1<=id0)(hid2:id0<=900)(hn:n<=12):∀s:TB,zEf lo hi id0 n s->zEg l lo hi id0 n (zP G [] zlK (tbS l lo hi s)):=by
 refine ziQ (fun s:TB=>s.i) (zEf lo hi id0 n) (tbS l lo hi) (fun _=>zdl (zEg l lo hi id0 n)) fun⟨t,id,a,i,b⟩ ⟨h1,hi1,hi2,hi3,hb⟩ L ih=> ?_;simp only at h1 hi1 hi2 hi3 hb;have hn0:=fun at1 m=>zbP l at1 m hL;have hr:=fun at1 lo hi=>zgz l at1 lo hi hL
 by_cases h0:0<i
 ·obtain⟨m,a1,hm,hmc⟩:=zsw l a id lo hi hL h2 h3 h4;obtain⟨m2,hm2⟩:∃m2,m2={ m with gen:=if m.gen<1 then 1 else m.gen }:=⟨_,rfl⟩;obtain⟨t1,t2⟩:=zh7 h1.1;have hg:=zs2 t m2 (nD l a1 30) zo zo;have hd30:=zaG l a1 (n:=30) zo;have hmv:zZ m2=0:=by
   have hg2:zoJ m2 id lo hi:=by
    obtain⟨g1,g2,g3,g4,g5,g6,g7,g8,g9,g10,g11,g12⟩:=hm;subst hm2;exact⟨g1,g2,g3,g4,g5,g6,g7,g8,g9,g10,by simp only;split<;>omega,by simp only;split<;>omega⟩
   exact zA7 hg2 zo zo h2 h4
  have hfind:zad t.l m2.id<0:=by
   unfold zad;rw[zlC];intro x hx;have:=(h1.2 x hx);have:x.msg.id≠m2.id:=by rw[hm2];simp only;rw[hm.1];omega
   simpa using this
  have hok:=zA9 (t:=t) (m:=m2) (d:=nD l a1 30) h1.1 hmv (by rw[hm2];simp only;split<;>omega) zo zo zo hfind;obtain⟨v1,_,v3,_⟩:=zrk hok;obtain⟨t',ht'⟩:∃t',t'=(zaH t m2 (nD l a1 30)).1:=⟨_,rfl⟩;rw[hok] at hg;rw[<- ht'] at v1 v3 hg;have hd:=zaG l (zae l a1).2 (n:=3) zo;have hlen:t'.l.length=t.l.length+1:=by rw[v3];have:=(zgs t.l m2 (nD l a1 30)).length_eq;simpa using this
  have i1:=ih ⟨t',id+(1+nD l (zae l a1).2 3),(zae l (zae l a1).2).2,i - 1,false⟩ ⟨⟨v1,fun x hx=>by
   simp only at hx ⊢;rw[v3] at hx
   rcases zZx.1 ((zgs t.l m2 (nD l a1 30)).mem_iff.1 hx) with rfl|hx
   ·rw[hm2];exact⟨hm.2.1,hm.2.2.1,by simp only;rw[hm.1];omega,by simp only;rw[hm.1];omega,hm.2.2.2.1⟩
   ·obtain⟨k1,k2,k3,k4,k5⟩:=h1.2 x hx;exact⟨k1,k2,k3,by omega,k5⟩⟩,by simp only;omega,by simp only;omega,by simp only;omega,fun h=>by cases h⟩ (by simp only;omega)
  clear ih hm ht' v1 v3 hlen hok hfind hmv h1;have e:((i - 1:Nat):Int)=(i:Int) - 1:=by omega
  simp only[tbS,zkQ,zYX,if_false,e] at i1;subst hm2
  cases b with
  | true=>
   obtain rfl:=hb rfl;simp only[zV,z9,zj,zYS] at hg i1 hmc;simp only[tbS,zkQ,if_true,zlK]
   by_cases hgen:m.gen<1
   ·simp only[hgen,if_true] at hg;simp -implicitDefEqProofs (maxSteps:=4000000) (disch:=omega) only[zg,go_sem, *]
   ·simp only[hgen,if_false] at hg;simp -implicitDefEqProofs (maxSteps:=4000000) (disch:=omega) only[zg,go_sem, *]
  | false=>
   simp only[z9,zj] at hg i1 hmc;simp only[tbS,zkQ,z9,zYX,if_false,zlK]
   by_cases hgen:m.gen<1
   ·simp only[hgen,if_true] at hg;simp -implicitDefEqProofs (maxSteps:=4000000) (disch:=omega) only[zg,go_sem, *]
   ·simp only[hgen,if_false] at hg;simp -implicitDefEqProofs (maxSteps:=4000000) (disch:=omega) only[zg,go_sem, *]
 ·clear ih;simp only[tbS,zlK];simp -implicitDefEqProofs (maxSteps:=4000000) (disch:=omega) only[zg,go_sem, *];exact⟨t,a,b,id,h1,by omega,hb,rfl⟩
theorem zXt(l:List Int)(a n:Nat)(id lo hi:Int)(hL:l.length<=4000)(h1:n<=12)(hid:1<=id)(hid2:id<=900)(h2:0<=lo)(h3:lo<=hi)(h4:hi<65536):∃t a' idn,tOK lo hi id t idn/\t.l.length<=n/\
    zd G 252 [.ref 1000000 0 0,.d (.int .i64 n),.d (.int .i64 id),.d (.int .i64 lo),.d (.int .i64 hi)] [(1000000,zp l a)]=some (.d (z9 t),[(1000000,zp l a')]):=by
 have hn:=zbP l a (n+1) hL zo zo;have hd:=zaG l a (n:=(n:Int)+1) zo;obtain⟨k,hk⟩:∃k:Nat,nD l a ((n:Int)+1)=k:=⟨(nD l a ((n:Int)+1)).toNat,by omega⟩;rw[hk] at hn hd;clear hk;generalize (zae l a).2=a1 at *;obtain⟨t,a',b,idn,g1,g2,g3,hl⟩:=zXD l lo hi id n hL h2 h3 h4 hid hid2 h1 ⟨zV,id,a1,k,true⟩ ⟨⟨by show zac zV=0;decide,by simp [zV]⟩,by simp only;omega,by simp only;omega,by simp only[zV,zYY];omega,fun _=>rfl⟩;refine⟨t,a',idn,g1,g2,?_⟩;clear g1;simp only[tbS,zkQ,if_true] at hl
 cases b with
 | true=>
  obtain rfl:=g3 rfl;simp only[if_true] at hl;simp only[zV,z9,zYS];rw[zB zAW (by simp)];simp -implicitDefEqProofs (maxSteps:=4000000) (disch:=omega) only[zm7,zg,go_sem, *]
 | false=>
  clear g3;simp only[zYX,if_false,z9] at hl;simp only[z9];rw[zB zAW (by simp)];simp -implicitDefEqProofs (maxSteps:=4000000) (disch:=omega) only[zm7,zg,go_sem, *]
theorem zSQ(l:List Int)(a:Nat)(xs:List Int)(hL:l.length<=4000)(h1:1<=xs.length)(h2:xs.length<=1000):∃i:Nat,∃hi:i<xs.length,∃a',zd G 34 [.ref 1000000 0 0,.d (.sl (zt xs))] [(1000000,zp l a)]=some (.d (.int .i64 xs[i]),[(1000000,zp l a')]):=by
 have hn:=zbP l a xs.length hL zo zo;have hb:=zaG l a (n:=xs.length) zo;obtain⟨i,hi⟩:∃i:Nat,nD l a xs.length=i:=⟨(nD l a xs.length).toNat,by omega⟩;rw[hi] at hn hb;have hlt:i<xs.length:=by omega
 refine⟨i,hlt,(zae l a).2,?_⟩;clear hb hi;exact zW
theorem zsV(l:List Int)(a:Nat)(xs:List Int)(lo hi:Int)(hL:l.length<=4000)(h1:1<=xs.length)(h2:xs.length<=1000)(hx:∀x∈xs,lo<=x/\x<=hi):∃y a',zd G 34 [.ref 1000000 0 0,.d (.sl (zt xs))] [(1000000,zp l a)]=some (.d (.int .i64 y),[(1000000,zp l a')])/\lo<=y/\y<=hi:=by
 obtain⟨i,hi,a',h⟩:=zSQ l a xs hL h1 h2;exact⟨_,a',h,hx _ (zY4 hi)⟩
theorem zWQ(l:List Int)(a:Nat)(hL:l.length<=4000):∃lo hi a',0<=lo/\lo<=hi/\hi<65536/\zd G 74 [.ref 1000000 0 0] [(1000000,zp l a)]=some (.d (.tup [.int .i64 lo,.int .i64 hi]),[(1000000,zp l a')]):=by
 obtain⟨y,a1,q1,y1,y2⟩:=zsV l a [0,0,100,32768,65535] 0 65535 hL (by simp) (by simp) (by simp);obtain⟨z,a2,q2,z1,z2⟩:=zsV l a1 [65535,65535,40000,101,32768] 0 65535 hL (by simp) (by simp) (by simp);simp only[zt,zYU,zYS] at q1 q2
 rcases (show z<y\/y<z\/y=z by omega) with h|h|h
 ·refine⟨z,y,a2,by omega,by omega,by omega,?_⟩;exact zW
 ·refine⟨y,z,a2,by omega,by omega,by omega,?_⟩;exact zW
 ·subst h;refine⟨y,y,a2,by omega,by omega,by omega,?_⟩;exact zW
def SG(x:Shard):Prop:=zU x=0/\(∀m∈zu x.ready,0<=m.epoch/\m.count<=3)/\(∀y∈x.leases.l,0<=y.msg.epoch)/\(x.live=false->x.ready.size=0/\x.leases.l=[])
theorem zOa(n:Nat)(h1:1<=n)(h2:n<=12):SG ⟨false,0,0,⟨List.replicate n zX,0,0⟩,zV⟩:=by
 have hr:zau ⟨List.replicate n zX,0,0⟩=0:=zmu (n:=n) (h:=0) (l:=[]) h1 h2 zo (by simp) (by simp) (by simp);refine⟨?_,by simp [zu],by simp [zV],fun _=>⟨rfl,rfl⟩⟩;unfold zU;rw[zYP (by simpa using hr),zYP (by show ¬zac zV≠0;decide),zYQ rfl,zYP (by simp [zmH,zV])]
theorem zQD{n h:Nat}{L:List Message}{t:Table}{lo hi i1 i2:Int}(hn:1<=n)(hn2:n<=12)(hh:h<n)(h2:0<=lo)(h3:lo<=hi)(h4:hi<65536)(hm:mOK lo hi 1 L i1)(hi1:i1<=7)(ht:tOK lo hi 11 t i2)(hl:L.length+t.l.length<=n):SG ⟨true,lo,hi,rg n h L,t⟩:=by
 have ho:zu (rg n h L)=L:=by rw[rg,zg8,zi0 hn zo]
 have hr:=zmu hn hn2 hh zo (fun m hx=>(hm.1 m hx).1) hm.2;have htv:=(zdh t).1 ht.1;refine⟨?_,fun m hx=> ?_,fun y hy=>(ht.2 y hy).2.2.2.2,fun h=>by cases h⟩
 ·unfold zU;rw[zYP (by simpa using hr),zYP (by simpa using ht.1),zYP (by simp),zYP (by simp only;omega),zYP (by simp [zmH,rg,zce];omega),zYP,zYP]
  ·unfold zaS zav;simp only[ho,decide_eq_true_eq,zY9,zY5,z0i];rw[z0e];refine⟨hm.2,?_,fun a ha b hb=> ?_⟩
   ·have:(t.l.map ((fun m:Message=>m.id)∘fun x=>x.msg)).Pairwise (· ≠ ·):=by
       rw[z1C];exact (zg0 htv.2.1).imp fun {x y} hxy=>by simp only[Function.comp];omega
    exact this
   ·obtain⟨x,hx,rfl⟩:=zY0.1 ha;obtain⟨y,hy,rfl⟩:=zY0.1 hb;have k1:=hm.1 x hx;have k2:=ht.2 y hy;simp only[Function.comp];omega
  ·unfold zCw zav;simp only[ho,z0g,zZ6,zZl,zY0,decide_eq_true_eq,zY9];rintro m (hx|⟨y,hy,rfl⟩)
   ·have k1:=hm.1 m hx;exact⟨k1.2.1,k1.2.2.1⟩
   ·have k1:=ht.2 y hy;exact⟨k1.1,k1.2.1⟩
 ·simp only[ho] at hx;have k1:=hm.1 m hx;refine⟨?_,k1.2.2.2.2.2⟩;have:=k1.1;unfold zZ at this
  split at this
  ·rename_i hc;exact hc.2.2.2.2.1
  ·cases this
theorem zOc(n:Nat)(h1:1<=n)(h2:n<=12):zd G 95 [.d (.int .i64 n)] []=some (.d (.tup [zi ⟨false,0,0,⟨List.replicate n zX,0,0⟩,zV⟩,.int .i64 0]),[]):=by
 have hw:=zsE n h1 h2;generalize List.replicate n zX=c at *;simp only[zQ,zi,zV,zYS] at hw ⊢;exact zW
theorem zOh(l:List Int)(a n:Nat)(lo hi:Int)(hL:l.length<=4000)(h2:0<=lo)(h3:lo<=hi)(h4:hi<65536)(hn:1<=n)(hn2:n<=12):∃x a',SG x/\zd G 187 [.ref 1000000 0 0,.d (.int .i64 n),.d (.int .i64 1),.d (.int .i64 lo),.d (.int .i64 hi)] [(1000000,zp l a)]=some (.d (zi x),[(1000000,zp l a')]):=by
 have q1:=zbP l a 12 hL zo zo;have b1:=zaG l a (n:=12) zo;generalize nD l a 12=c at *;generalize (zae l a).2=a1 at *
 by_cases hc:c=11
 ·subst hc;have hf:=zOc n hn hn2;refine⟨_,a1,zOa n hn hn2,?_⟩;generalize List.replicate n zX=cs at *;simp only[zi,zV,zYS] at hf ⊢;exact zW
 ·obtain⟨h,L,a2,idn,g1,g2,g3,g4,g5,hr⟩:=zUD l a1 n 1 lo hi hL h2 h3 h4 zo zo hn hn2;obtain⟨k,hk⟩:∃k:Nat,(n - L.length<4/\k=n - L.length\/¬n - L.length<4/\k=4):=by
   by_cases hc:n - L.length<4
   ·exact⟨_,.inl ⟨hc,rfl⟩⟩
   ·exact⟨4,.inr ⟨hc,rfl⟩⟩
  obtain⟨t,a3,idt,t1,t2,ht⟩:=zXt l a2 k 11 lo hi hL zo zo zo h2 h3 h4;refine⟨⟨true,lo,hi,rg n h L,t⟩,a3,zQD hn hn2 g1 h2 h3 h4 g5 g4 t1 zo,?_⟩;have hlen:(rg n h L).cells.length=n:=zce _ _ _ _;have hsz:(rg n h L).size=(L.length:Int):=rfl;clear t1 g5;generalize rg n h L=r at *;simp only[zQ,hsz] at hr;simp only[zi,z9,hsz] at ht ⊢
  rcases hk with ⟨hk,rfl⟩|⟨hk,rfl⟩
  ·have e:((n - L.length:Nat):Int)=(n:Int) - L.length:=by omega
   rw[e] at ht;have hlt:(n:Int) - L.length<4:=by omega
   exact zW
  ·by_cases e4:(n:Int) - L.length=4
   ·have e4':=e4;simp only[z0a] at ht;exact zW
   ·have hlt:(4:Int)<(n:Int) - L.length:=by omega
    simp only[z0a] at ht;exact zW
theorem zWu(l:List Int)(a:Nat)(hL:l.length<=4000):∃x a',SG x/\zd G 30 [.ref 1000000 0 0] [(1000000,zp l a)]=some (.d (zi x),[(1000000,zp l a')]):=by
 obtain⟨lo,hi,a1,h2,h3,h4,hs⟩:=zWQ l a hL;have q1:=zgz l a1 1 12 hL zo zo zo zo;have b1:=zaG l a1 (n:=12 - 1+1) zo;obtain⟨n,hn⟩:∃n:Nat,1+nD l a1 (12 - 1+1)=n:=⟨(1+nD l a1 (12 - 1+1)).toNat,by omega⟩;rw[hn] at q1;have hn1:1<=n/\n<=12:=by omega
 clear b1 hn;generalize (zae l a1).2=a2 at *;obtain⟨x,a3,hx,hf⟩:=zOh l a2 n lo hi hL h2 h3 h4 hn1.1 hn1.2;refine⟨x,a3,hx,?_⟩;clear hx;simp only[zi] at hf ⊢;have hfrom:zd G 120 [.ref 1000000 0 0,.d (.int .i64 1),.d (.int .i64 lo),.d (.int .i64 hi)] [(1000000,zp l a1)]=some (.d (zi x),[(1000000,zp l a3)]):=by
  simp only[zi];exact zW
 clear hf q1;have hbet:zd G 75 [.ref 1000000 0 0,.d (.int .i64 lo),.d (.int .i64 hi)] [(1000000,zp l a1)]=some (.d (zi x),[(1000000,zp l a3)]):=by
  simp only[zi] at hfrom ⊢;exact zW
 clear hfrom;simp only[zi] at hbet;exact zW
def epQ(n:Int):Bool:=decide (0<=n/\n<=65536)
def liQ(n:Int):Bool:=decide (1<=n/\n<=8)
def tiQ(n:Int):Bool:=decide (0<=n/\n<=1073741824)
def viQ(n:Int):Bool:=decide (0<=n/\n<=1000)
def zaI(s:Shard)(id:Int):Shard×Message×Int:=if (zaf s.leases id).2.2=0 then ({ s with leases:=(zaf s.leases id).1 },(zaf s.leases id).2.1,0) else (zA,zX,(zaf s.leases id).2.2)
def zcF(s:Shard)(h:za3)(now ep:Int):Bool:=(zdN s.leases h.id).2&&(decide ((zdN s.leases h.id).1.msg.gen=h.gen)&&(decide ((zdN s.leases h.id).1.msg.route=h.route)&&(!decide ((zdN s.leases h.id).1.msg.epoch<ep)&&decide (now<(zdN s.leases h.id).1.deadline))))
def zc0(s:Shard)(h:za3)(now ep:Int):Shard×Int:=if usE s (tiQ now&&epQ ep)≠0 then (zA,usE s (tiQ now&&epQ ep)) else if zcF s h now ep=true then ((zaI s h.id).1,(zaI s h.id).2.2) else (zA,5)
theorem ztP{s:Shard}{b:Bool}(h:usE s b=0):1<=s.ready.cells.length/\s.ready.cells.length<=12/\s.leases.l.length<=12/\s.leases.heap.length<=12:=by
 have hl:zab s=0:=by
  unfold usE at h
  split at h
  ·rename_i q;exact absurd h q
  ·rename_i q;exact zY9.1 q
 have hv:zU s=0:=by
  unfold zab at hl
  split at hl
  ·rename_i q;exact absurd hl q
  ·rename_i q;exact zY9.1 q
 unfold zU at hv
 split at hv
 ·rename_i q;exact absurd hv q
 ·rename_i q1
  split at hv
  ·rename_i q;exact absurd hv q
  ·rename_i q2;obtain⟨a1,a2,_⟩:=zch (zY9.1 q1);obtain⟨b1,b2⟩:=zh7 (zY9.1 q2);exact⟨a1,a2,b1,b2⟩
def zdE(s:Shard)(m:Message)(lim:Int):z8×Int:=if lim<=m.count then pbD s.ready m else pfD s.ready m
def zcR(s:Shard)(h:za3)(now ep lim:Int):Shard×Int:=
 if usE s (tiQ now&&(epQ ep&&liQ lim))≠0 then (zA,usE s (tiQ now&&(epQ ep&&liQ lim)))
 else if zcF s h now ep=true then (if (zaI s h.id).2.2≠0 then (zA,(zaI s h.id).2.2)
  else if (zdE (zaI s h.id).1 (zaI s h.id).2.1 lim).2≠0 then (zA,(zdE (zaI s h.id).1 (zaI s h.id).2.1 lim).2)
  else ({ (zaI s h.id).1 with ready:=(zdE (zaI s h.id).1 (zaI s h.id).2.1 lim).1 },0)) else (zA,5)
theorem zpA{s:Shard}{b:Bool}(h:usE s b=0):b=true:=by
 unfold usE at h
 split at h
 ·rename_i q;exact absurd h q
 ·split at h
  ·assumption
  ·cases h
def ze9(s:Shard)(h:za3)(now ep vis:Int):Shard×Int:=
 if usE s (tiQ now&&(epQ ep&&viQ vis))≠0 then (zA,usE s (tiQ now&&(epQ ep&&viQ vis)))
 else if zcF s h now ep=true then (if 1073741824<now+vis then (zA,6) else if (za9 s.leases h.id (now+vis)).2≠0 then (zA,(za9 s.leases h.id (now+vis)).2)
  else ({ s with leases:=(za9 s.leases h.id (now+vis)).1 },0)) else (zA,5)
def zdI(m:Message):Message×Int:=if zZ m≠0 then (zX,zZ m) else if m.gen=65536 then (zX,6) else if m.count=8 then (zX,7) else ({ m with count:=m.count+1,gen:=m.gen+1 },0)
def zf6(ep lim:Int)(m:Message):Bool:= !decide (m.epoch<ep)&&(!decide (lim<=m.count)&&decide (m.gen<65536))
def zfR(s:Shard)(m:Message)(d:Int):Shard×zy×Int:=
 if (rmD s.ready m.id).2.2≠0 then (s,zbF,(rmD s.ready m.id).2.2)
 else if (zdI (rmD s.ready m.id).2.1).2≠0 then (s,zbF,(zdI (rmD s.ready m.id).2.1).2)
 else if (zaH s.leases (zdI (rmD s.ready m.id).2.1).1 d).2≠0 then (s,zbF,(zaH s.leases (zdI (rmD s.ready m.id).2.1).1 d).2)
 else ({ s with ready:=(rmD s.ready m.id).1,leases:=(zaH s.leases (zdI (rmD s.ready m.id).2.1).1 d).1 },⟨(zdI (rmD s.ready m.id).2.1).1,d⟩,0)
def tkF(mx d ep lim:Int):List Message->Shard->List zy->Shard×List zy×Int
 | [],s,out=>(s,out,0)
 | m::l,s,out=>if (out.length:Int)=mx\/zf6 ep lim m=false then tkF mx d ep lim l s out else if (zfR s m d).2.2≠0 then (zA,[],(zfR s m d).2.2) else tkF mx d ep lim l (zfR s m d).1 (out++[(zfR s m d).2.1])
theorem zO4(t:Table)(m:Message)(d:Int):(zaH t m d).1.l.length<=12/\(zaH t m d).1.heap.length<=12:=by
 by_cases h:(zaH t m d).2=0
 ·exact zh7 (zrk h).1
 ·have:zaH t m d=(zV,zep t m d):=by
     unfold zaH at h ⊢
     split at h
     ·exact absurd rfl h
     ·rename_i hc;rw[zYP hc]
  rw[this];simp [zV]
structure TK where
 s:Shard
 out:List zy
 i:Nat
def shZ:Go.Sim.AV:= .agg [.d (.bool false),.d (.int .i64 0),.d (.int .i64 0),.xsl [],.d (.int .i64 0),.d (.int .i64 0),.xsl [],.xsl []]
def zkS(s:Shard)(mx now vis ep lim:Int):Int:=usE s (epQ ep&&(liQ lim&&(tiQ now&&(viQ vis&&decide (1<=mx/\mx<=6)))))
def zcJ(s:Shard)(mx now vis ep lim:Int):Shard×List zy×Int:=if zkS s mx now vis ep lim≠0 then (zA,[],zkS s mx now vis ep lim) else if 1073741824<now+vis then (zA,[],6) else tkF mx (now+vis) ep lim (zu s.ready) s []
theorem ztQ{s:Shard}{b:Bool}(h:usE s b=0):zau s.ready=0:=by
 have hl:zab s=0:=by
  unfold usE at h
  split at h
  ·rename_i q;exact absurd h q
  ·rename_i q;exact zY9.1 q
 have hv:zU s=0:=by
  unfold zab at hl
  split at hl
  ·rename_i q;exact absurd hl q
  ·rename_i q;exact zY9.1 q
 unfold zU at hv
 split at hv
 ·rename_i q;exact absurd hv q
 ·rename_i q1;exact zY9.1 q1
theorem zXP(mx d ep lim:Int):∀(l:List Message) (s:Shard) (out:List zy),(tkF mx d ep lim l s out).2.2≠0->(tkF mx d ep lim l s out).1=zA/\(tkF mx d ep lim l s out).2.1=[]:=by
 intro l
 induction l with
 | nil=>intro s out h;exact absurd rfl h
 | cons m l ih=>
  intro s out h;rw[tkF] at h ⊢
  split at h
  ·rename_i q;rw[zYQ q];exact ih _ _ h
  ·rename_i q;rw[zYP q]
   split at h
   ·rename_i q2;rw[zYQ q2];exact⟨rfl,rfl⟩
   ·rename_i q2;rw[zYP q2];exact ih _ _ h
def zcE:List Int->Shard->Shard×Int
 | [],s=>(s,0)
 | id::l,s=>if (zaI s id).2.2≠0 then (zA,(zaI s id).2.2) else if (pbD (zaI s id).1.ready (zaI s id).2.1).2≠0 then (zA,(pbD (zaI s id).1.ready (zaI s id).2.1).2) else zcE l { (zaI s id).1 with ready:=(pbD (zaI s id).1.ready (zaI s id).2.1).1 }
def zcD(s:Shard)(now ep lim:Int):Shard×List Int×Int:=
 if usE s (tiQ now&&(epQ ep&&liQ lim))≠0 then (zA,[],usE s (tiQ now&&(epQ ep&&liQ lim)))
 else if (zcE (zdp s.leases now ep) s).2=0 then ((zcE (zdp s.leases now ep) s).1,zdp s.leases now ep,0) else (zA,[],(zcE (zdp s.leases now ep) s).2)
theorem zBY(t:Table)(now ep:Int):(zdp t now ep).length<=12:=by
 unfold zdp
 split
 ·rename_i h;exact zZG (z0h _ _) (zEr h now)
 ·simp
def zbc(s:Shard):Int:=if zU s=0 then s.ready.size+s.leases.l.length else 0
def VS(n h:Nat)(L:List Message)(t:Table)(lo hi:Int):Prop:=1<=n/\n<=12/\h<n/\L.length+t.l.length<=n/\0<=lo/\lo<=hi/\hi<65536/\(∀m∈L,zZ m=0/\lo<=m.route/\m.route<=hi)/\zac t=0/\(∀y∈t.l,lo<=y.msg.route/\y.msg.route<=hi)/\(L.map (·.id)++t.l.map (fun y=>y.msg.id)).Nodup
def mkS(n h:Nat)(L:List Message)(t:Table)(lo hi:Int):Shard:=⟨true,lo,hi,rg n h L,t⟩
theorem VS.ring{n h:Nat}{L:List Message}{t:Table}{lo hi:Int}(v:VS n h L t lo hi):zau (rg n h L)=0:=by
 obtain⟨a1,a2,a3,a4,_,_,_,b,_,_,c⟩:=v;exact zmu a1 a2 a3 zo (fun m hm=>(b m hm).1) (z0e.1 c).1
theorem VS.ord{n h:Nat}{L:List Message}{t:Table}{lo hi:Int}(v:VS n h L t lo hi):zu (rg n h L)=L:=by
 obtain⟨a1,a2,a3,a4,_⟩:=v;rw[rg,zg8];exact zi0 a1 zo
theorem VS.val{n h:Nat}{L:List Message}{t:Table}{lo hi:Int}(v:VS n h L t lo hi):zU (mkS n h L t lo hi)=0:=by
 have hr:zau (mkS n h L t lo hi).ready=0:=v.ring;have hm:zav (mkS n h L t lo hi)=L++t.l.map (·.msg):=by unfold zav mkS;rw[v.ord]
 obtain⟨a1,a2,a3,a4,a5,a6,a7,b1,b2,b3,c⟩:=v;rw[zkJ hr b2,hm];rw[zYP (by simp [mkS]),zYP (by simp only[mkS];omega),zYP,zYP,zYP]
 ·unfold zaS;simp only[decide_eq_true_eq,zY9,zY5,z0i];exact c
 ·unfold zev;simp only[z0g,zZ6,decide_eq_true_eq,zY9,zZl,zY0];rintro m (hx|⟨y,hy,rfl⟩)
  ·exact (b1 m hx).2
  ·exact b3 y hy
 ·simp only[mkS,rg,zce];omega
theorem zfE{s:Shard}(hv:zU s=0)(hl:s.live=true):∃n h:Nat,s=mkS n h (zu s.ready) s.leases s.low s.high/\VS n h (zu s.ready) s.leases s.low s.high:=by
 have h1:zau s.ready=0:=by
  have q:=hv;unfold zU at q
  split at q
  ·rename_i c;exact absurd q c
  ·rename_i c;exact zY9.1 c
 have h2:zac s.leases=0:=by
  have q:=hv;unfold zU at q;rw[zYP (fun c=>c h1)] at q
  split at q
  ·rename_i c;exact absurd q c
  ·rename_i c;exact zY9.1 c
 rw[zkJ h1 h2,zYP (by rw[hl];simp)] at hv
 split at hv
 ·cases hv
 rename_i c1
 split at hv
 ·cases hv
 rename_i c2
 split at hv
 ·cases hv
 rename_i c3
 split at hv
 ·cases hv
 rename_i c4;obtain⟨n,h,hrg,d1,d2,d3,d4,d5,d6⟩:=zmt h1;have hc:s.ready.cells.length=n:=by rw[hrg];exact zce _ _ _ _
 have hz:s.ready.size=((zu s.ready).length:Int):=by rw[zgw];have:=congrArg z8.size hrg;simp only[rg] at this;omega
 have c1:=zY9.1 c1;refine⟨n,h,?_,d1,d2,d3,by omega,c1.1,c1.2.1,c1.2.2,?_,h2,?_,?_⟩
 ·obtain⟨lv,lo,hi,r,t⟩:=s;simp only at hl hrg;subst hl;show _=Shard.mk true lo hi _ t
  congr 1
 ·intro m hm;refine⟨d5 m hm,?_⟩;unfold zev at c3;simp only[z0g,zZ6,decide_eq_true_eq,zY9,zav,zZl,zY0] at c3;exact c3 m (.inl hm)
 ·intro y hy;unfold zev at c3;simp only[z0g,zZ6,decide_eq_true_eq,zY9,zav,zZl,zY0] at c3;exact c3 y.msg (.inr ⟨y,hy,rfl⟩)
 ·unfold zaS zav at c4;simp only[decide_eq_true_eq,zY9,zY5,z0i] at c4;exact c4
theorem zhZ(n h:Nat)(L:List Message):(rg n h L).cells.length=n:=zce _ _ _ _
theorem zq8{l:List Message}{id:Int}(h:∃m∈l,m.id=id):0<=zaF l id:=by
 unfold zaF zbf
 cases hc:l.findIdx? (fun m:Message=>decide (m.id=id)) with
 | some i=>simp
 | none=>
  obtain⟨m,hm,e⟩:=h;have:=(z0Z.1 hc) m hm;simp [e] at this
theorem zOn{l:List Message}{id:Int}(h:0<=zaF l id):(l.getD (zaF l id).toNat zX).id=id:=by
 unfold zaF zbf at h ⊢
 cases hc:l.findIdx? (fun m:Message=>decide (m.id=id)) with
 | none=>rw[hc] at h;simp at h
 | some i=>
  obtain⟨hi,hp,_⟩:=zZV.1 hc;simp only[zZz];rw[zZw,zY1 hi];exact of_decide_eq_true hp
theorem zRP{l:List Message}(h:(l.map (·.id)).Nodup){a b:Message}(ha:a∈l)(hb:b∈l)(e:a.id=b.id):a=b:=by
 induction l with
 | nil=>cases ha
 | cons x l ih=>
  simp only[zYU,zZS,zY0,not_exists,not_and] at h
  cases ha with
  | head=>
   cases hb with
   | head=>rfl
   | tail _ hb=>exact absurd e.symm (h.1 b hb)
  | tail _ ha=>
   cases hb with
   | head=>exact absurd e (h.1 a ha)
   | tail _ hb=>exact ih h.2 ha hb
theorem VS.rem{n h:Nat}{L:List Message}{t:Table}{lo hi:Int}(v:VS n h L t lo hi){m:Message}(hm:m∈L):∃k,∃hk:k<L.length,L[k]=m/\rmD (rg n h L) m.id=(rg n h (L.eraseIdx k),m,0):=by
 have h0:0<=zaF L m.id:=zq8 ⟨m,hm,rfl⟩;have hk:=zAO h0;have hid:=zOn h0;have e:L.getD (zaF L m.id).toNat zX=m:=by
  refine zRP (z0e.1 v.2.2.2.2.2.2.2.2.2.2).1 ?_ hm hid;rw[zZw,zY1 hk];exact zY4 hk
 refine⟨_,hk,?_,?_⟩
 ·exact (zOW hk).trans e
 ·have hE:rmE (rg n h L) m.id=0:=by
     unfold rmE;rw[zYP (fun q=>q v.ring),v.ord,zYP zo]
  unfold rmD;rw[zYQ hE,v.ord,zhZ,e];rfl
theorem zyM{m:Message}(h:zZ m=0)(h1:m.gen<65536)(h2:m.count<8):zdI m=({ m with count:=m.count+1,gen:=m.gen+1 },0):=by
 unfold zdI;rw[zYP (fun q=>q h),zYP zo,zYP zo]
theorem zCz(m:Message):zZ m=0↔(1<=m.id/\m.id<=1073741824/\0<=m.route/\m.route<=65535/\0<=m.epoch/\m.epoch<=65536/\0<=m.count/\m.count<=8/\m.count<=m.gen/\m.gen<=65536/\0<=m.sent/\m.sent<=1073741824)/\m.body.length<=16:=by
 unfold zZ
 split
 ·rename_i c
  split
  ·rename_i c2;exact⟨(fun q=>by cases q),(fun q=>by omega)⟩
  ·rename_i c2;exact⟨fun _=>⟨c,by omega⟩,fun _=>rfl⟩
 ·rename_i c;exact⟨(fun q=>by cases q),(fun q=>absurd q.1 c)⟩
theorem znv{α:Type}(l:List α)(k:Nat)(hk:k<l.length):(l[k]::l.eraseIdx k).Perm l:=by
 rw[z16];have e:l=l.take k++l[k]::l.drop (k+1):=by
  rw[<- zZr hk,z17]
 have:=(z0L (a:=l[k]) (l₁:=l.take k) (l₂:=l.drop (k+1))).symm;rw[<- e] at this;exact this
def upM(m:Message):Message:={ m with count:=m.count+1,gen:=m.gen+1 }
theorem zDj(ep lim:Int)(m:Message):zf6 ep lim m=true↔ep<=m.epoch/\m.count<lim/\m.gen<65536:=by
 unfold zf6;simp only[zY6,zZL,decide_eq_false_iff_not,decide_eq_true_eq];omega
theorem VS.dlv{n h:Nat}{L:List Message}{t:Table}{lo hi:Int}(v:VS n h L t lo hi){m:Message}(hm:m∈L){ep lim d:Int}(hq:zf6 ep lim m=true)(hlim:lim<=8)(hd0:0<=d)(hd1:d<=1073741824):
    ∃k,∃hk:k<L.length,L[k]=m/\zfR (mkS n h L t lo hi) m d=(mkS n h (L.eraseIdx k) (zaH t (upM m) d).1 lo hi,⟨upM m,d⟩,0)/\(zaH t (upM m) d).1.l=zdQ t.l (upM m) d/\VS n h (L.eraseIdx k) (zaH t (upM m) d).1 lo hi:=by
 obtain⟨k,hk,ek,hr⟩:=v.rem hm;obtain⟨q1,q2,q3⟩:=(zDj ep lim m).1 hq;obtain⟨a1,a2,a3,a4,a5,a6,a7,b1,b2,b3,c⟩:=v;obtain⟨mv,mr1,mr2⟩:=b1 m hm;have hdel:=zyM mv q3 zo;have mv2:=(zCz m).1 mv;have hu:zZ (upM m)=0:=by
  rw[zCz];simp only[upM];omega
 have hnf:zad t.l (upM m).id<0:=by
  refine Classical.byContradiction fun hc=> ?_;obtain⟨x,hx,e⟩:=(zhG (l:=t.l) (upM m).id).1 zo;refine (z0e.1 c).2.2 m.id (zY0.2 ⟨m,hm,rfl⟩) x.msg.id (zY0.2 ⟨x,hx,rfl⟩) ?_;exact e.symm
 have hg:=zA9 b2 hu (by simp only[upM];omega) hd0 hd1 zo hnf;obtain⟨g1,_,g2,_⟩:=zrk hg;refine⟨k,hk,ek,?_,g2,a1,a2,a3,?_,a5,a6,a7,fun x hx=>b1 x (z2j hx),g1,?_,?_⟩
 ·unfold zfR;have r1:(rmD (mkS n h L t lo hi).ready m.id)=(rg n h (L.eraseIdx k),m,0):=hr;have d1:zdI m=(upM m,0):=hdel;have hg2:(zaH (mkS n h L t lo hi).leases (upM m) d).2=0:=hg;rw[r1];simp only[d1,hg2,ne_eq,zY2,if_false];rfl
 ·rw[g2,z18,zYQ hk,(zgs t.l (upM m) d).length_eq,zYW];omega
 ·intro y hy;rw[g2] at hy
  rcases zZx.1 ((zgs t.l (upM m) d).mem_iff.1 hy) with rfl|hy
  ·exact⟨mr1,mr2⟩
  ·exact b3 y hy
 ·rw[g2];have p1:((zdQ t.l (upM m) d).map fun y=>y.msg.id).Perm (m.id::t.l.map fun y=>y.msg.id):=(zgs t.l (upM m) d).map _;have p2:(m.id::(L.eraseIdx k).map (·.id)).Perm (L.map (·.id)):=by
   have:=(znv L k hk).map (·.id);rw[ek] at this;exact this
  have p3:((L.eraseIdx k).map (·.id)++(zdQ t.l (upM m) d).map fun y=>y.msg.id).Perm (L.map (·.id)++t.l.map fun y=>y.msg.id):=
   (p1.append_left _).trans (z0L.trans (p2.append_right _))
  exact p3.nodup_iff.2 c
def zeq(L:List Message)(t:Table):List Int:=L.map (·.id)++t.l.map (fun y=>y.msg.id)
theorem zBG{l:List zy}{m:Message}{d:Int}{y:zy}:y∈zdQ l m d↔y=⟨m,d⟩\/y∈l:=by
 rw[(zgs l m d).mem_iff,zZx]
theorem VS.take{n h:Nat}{lo hi mx d ep lim:Int}(hlim:lim<=8)(hd0:0<=d)(hd1:d<=1073741824):∀(l L:List Message) (t:Table) (out:List zy),VS n h L t lo hi->(∀m∈l,m∈L)->(l.map (·.id)).Nodup->
    ∃L' t' out',tkF mx d ep lim l (mkS n h L t lo hi) out=(mkS n h L' t' lo hi,out++out',0)/\VS n h L' t' lo hi/\(zeq L' t').Perm (zeq L t)/\
     (∀y∈out',y.deadline=d/\y∈t'.l/\∃m∈L,y.msg=upM m/\zf6 ep lim m=true)/\(∀y∈t.l,y∈t'.l):=by
 intro l
 induction l with
 | nil=>intro L t out v _ _;exact⟨L,t,[],by simp [tkF],v,List.Perm.refl _,by simp,fun y hy=>hy⟩
 | cons m l ih=>
  intro L t out v hl hn;simp only[zYU,zZS] at hn;rw[tkF]
  by_cases c:(out.length:Int)=mx\/zf6 ep lim m=false
  ·rw[zYQ c];exact ih L t out v (fun x hx=>hl x (.tail _ hx)) hn.2
  ·rw[zYP c];have hq:zf6 ep lim m=true:=by
    cases hq:zf6 ep lim m with
    | true=>rfl
    | false=>exact absurd (.inr hq) c
   have hm:=hl m (.head _);obtain⟨k,hk,ek,e1,e2,v2⟩:=v.dlv hm hq hlim hd0 hd1;have hp:=znv L k hk;rw[ek] at hp;have hl2:∀x∈l,x∈L.eraseIdx k:=by
    intro x hx
    rcases zZx.1 (hp.mem_iff.2 (hl x (.tail _ hx))) with rfl|hx2
    ·exact absurd (zY0.2 ⟨x,hx,rfl⟩) hn.1
    ·exact hx2
   obtain⟨L',t',out',r1,r2,r3,r4,r5⟩:=ih (L.eraseIdx k) (zaH t (upM m) d).1 (out++[⟨upM m,d⟩]) v2 hl2 hn.2;rw[e1];simp only[ne_eq,zY2,if_false];refine⟨L',t',⟨upM m,d⟩::out',by rw[r1];simp,r2,?_,?_,?_⟩
   ·refine r3.trans ?_;unfold zeq;rw[e2];have p1:((zdQ t.l (upM m) d).map fun y=>y.msg.id).Perm (m.id::t.l.map fun y=>y.msg.id):=(zgs t.l (upM m) d).map _;have p2:(m.id::(L.eraseIdx k).map (·.id)).Perm (L.map (·.id)):=by have:=hp.map (fun x:Message=>x.id);exact this
    exact (p1.append_left _).trans (z0L.trans (p2.append_right _))
   ·intro y hy
    rcases zZx.1 hy with rfl|hy
    ·exact⟨rfl,r5 _ (by rw[e2];exact zBG.2 (.inl rfl)),m,hm,rfl,hq⟩
    ·obtain⟨s1,s2,m2,s3,s4⟩:=r4 y hy;exact⟨s1,s2,m2,z2j s3,s4⟩
   ·intro y hy;exact r5 y (by rw[e2];exact zBG.2 (.inr hy))
theorem zJU{t:Table}(h:zac t=0){y:zy}(hy:y∈t.l):zdN t y.msg.id=(y,true):=by
 have h0:0<=zad t.l y.msg.id:=(zhG (l:=t.l) y.msg.id).2 ⟨y,hy,rfl⟩;have ha:=zg0 (zhi h).2.1;obtain⟨hp,e⟩:=(zzJ ha y.msg.id).1 h0;have e2:=zJT ha h0;unfold zdN;rw[zYQ ⟨h,h0⟩,e2,zZz];have e3:t.l[zbk t.l y.msg.id]=y:=by
  obtain⟨j,hj,rfl⟩:=z00.1 hy;have hpw:=zZ4.1 ha
  rcases z1z (zbk t.l t.l[j].msg.id) j with c|c|c
  ·have:=hpw _ _ hp hj c;omega
  ·congr 1
  ·have:=hpw _ _ hj hp c;omega
 rw[zZw,zY1 hp];simp only[z0s,e3]
theorem zO7{s:Shard}(ht:zac s.leases=0){y:zy}(hy:y∈s.leases.l)(h:za3)(hid:h.id=y.msg.id)(now ep:Int):zcF s h now ep=(decide (y.msg.gen=h.gen)&&(decide (y.msg.route=h.route)&&(!decide (y.msg.epoch<ep)&&decide (now<y.deadline)))):=by
 unfold zcF;rw[hid,zJU ht hy,z0b]
theorem VS.rel{n h:Nat}{L:List Message}{t:Table}{lo hi:Int}(v:VS n h L t lo hi){y:zy}(hy:y∈t.l):∃t',zaI (mkS n h L t lo hi) y.msg.id=(mkS n h L t' lo hi,y.msg,0)/\VS n h L t' lo hi/\(y::t'.l).Perm t.l:=by
 obtain⟨a1,a2,a3,a4,a5,a6,a7,b1,b2,b3,c⟩:=v;have h0:0<=zad t.l y.msg.id:=(zhG (l:=t.l) y.msg.id).2 ⟨y,hy,rfl⟩;have hr:=(zs9 (id:=y.msg.id) b2).2 h0;obtain⟨r1,_,k,hk,e1,e2,e3,e4⟩:=zta hr;have ey:t.l[k]=y:=by
  have ha:=zg0 (zhi b2).2.1;obtain⟨j,hj,rfl⟩:=z00.1 hy;have hpw:=zZ4.1 ha
  rcases z1z k j with c|c|c
  ·have:=hpw _ _ hk hj c;omega
  ·congr 1
  ·have:=hpw _ _ hj hk c;omega
 have hp:(y::(zaf t y.msg.id).1.l).Perm t.l:=by
  rw[e3,zyR, <- ey];exact znv t.l k hk
 refine⟨(zaf t y.msg.id).1,?_,⟨a1,a2,a3,?_,a5,a6,a7,b1,r1,fun x hx=>b3 x (hp.mem_iff.1 (.tail _ hx)),?_⟩,hp⟩
 ·unfold zaI;rw[zYQ (show (zaf (mkS n h L t lo hi).leases y.msg.id).2.2=0 from hr)];show (_,(zaf t y.msg.id).2.1,_)=_;rw[e4,ey];rfl
 ·have:=hp.length_eq;simp only[zYW] at this;omega
 ·have p:(L.map (·.id)++(y.msg.id::(zaf t y.msg.id).1.l.map fun x=>x.msg.id)).Perm (L.map (·.id)++t.l.map fun x=>x.msg.id):=(hp.map (fun x:zy=>x.msg.id)).append_left _;have q:=z0L.nodup_iff.1 (p.nodup_iff.2 c);exact (zZS.1 q).2
theorem VS.back{n h:Nat}{L:List Message}{t:Table}{lo hi:Int}(v:VS n h L t lo hi){m:Message}(hm:zZ m=0)(hr:lo<=m.route/\m.route<=hi)(hl:L.length+t.l.length<n)(hid:m.id∉zeq L t)(lim:Int):
    ∃h' L',zdE (mkS n h L t lo hi) m lim=(rg n h' L',0)/\VS n h' L' t lo hi/\L'.length=L.length+1/\(L'.map (·.id)).Perm (m.id::L.map (·.id)):=by
 have hord:=v.ord;obtain⟨a1,a2,a3,a4,a5,a6,a7,b1,b2,b3,c⟩:=v;have hni:∀x∈L,x.id≠m.id:=fun x hx e=>hid (zZl.2 (.inl (zY0.2 ⟨x,hx,e⟩)));have hp:zda (rg n h L) m=0:=zsX a1 a2 a3 zo (fun x hx=>(b1 x hx).1) (z0e.1 c).1 hm hni;have hnd:(m.id::(L.map (·.id)++t.l.map fun y=>y.msg.id)).Nodup:=zZS.2 ⟨hid,c⟩
 by_cases c1:lim<=m.count
 ·have p:((L++[m]).map (·.id)).Perm (m.id::L.map (·.id)):=by
     rw[zY5];exact z1B
  refine⟨h,L++[m],?_,⟨a1,a2,a3,by simp only[zYZ,zZp];omega,a5,a6,a7,fun x hx=> ?_,b2,b3,?_⟩,by simp,p⟩
  ·unfold zdE;rw[zYQ c1];show pbD (rg n h L) m=_;unfold pbD;rw[zYQ hp,hord,zhZ];rfl
  ·rcases zZl.1 hx with hx|hx
   ·exact b1 x hx
   ·rw[zZt.1 hx];exact⟨hm,hr⟩
  ·exact (p.append_right _).nodup_iff.2 hnd
 ·refine⟨(h+n - 1) % n,m::L,?_,⟨a1,a2,zRt a1,by simp only[zYW];omega,a5,a6,a7,fun x hx=> ?_,b2,b3,hnd⟩,by simp,List.Perm.refl _⟩
  ·unfold zdE;rw[zYP c1];show pfD (rg n h L) m=_;unfold pfD;rw[zYQ hp,hord,zhZ];rfl
  ·cases hx with
   | head=>exact⟨hm,hr⟩
   | tail _ hx=>exact b1 x hx
theorem VS.us{n h:Nat}{L:List Message}{t:Table}{lo hi:Int}(v:VS n h L t lo hi)(b:Bool):usE (mkS n h L t lo hi) b=if b=true then 0 else 1:=by
 have hl:zab (mkS n h L t lo hi)=0:=by
  unfold zab;rw[zYP (fun q=>q v.val)];rfl
 unfold usE;rw[zYP (fun q=>q hl)]
theorem VS.lens{n h:Nat}{L:List Message}{t:Table}{lo hi:Int}(v:VS n h L t lo hi):(mkS n h L t lo hi).ready.cells.length<=12/\(mkS n h L t lo hi).leases.l.length<=12/\(mkS n h L t lo hi).leases.heap.length<=12:=by
 obtain⟨b1,b2⟩:=zh7 v.2.2.2.2.2.2.2.2.1;exact⟨by show (rg n h L).cells.length<=12;rw[zhZ];exact v.2.1,b1,b2⟩
def zdO(m:Message):za3:=⟨m.id,m.gen,m.route,0⟩
theorem VS.gone{n h:Nat}{L:List Message}{t t':Table}{lo hi:Int}(v:VS n h L t lo hi){y:zy}(hp:(y::t'.l).Perm t.l):y.msg.id∉zeq L t':=by
 have c:=v.2.2.2.2.2.2.2.2.2.2;have p:(L.map (·.id)++(y.msg.id::t'.l.map fun x=>x.msg.id)).Perm (L.map (·.id)++t.l.map fun x=>x.msg.id):=(hp.map (fun x:zy=>x.msg.id)).append_left _;exact (zZS.1 (z0L.nodup_iff.1 (p.nodup_iff.2 c))).1
theorem VS.holds{n h:Nat}{L:List Message}{t:Table}{lo hi:Int}(v:VS n h L t lo hi){y:zy}(hy:y∈t.l){now ep:Int}(hd:now<y.deadline)(he:ep<=y.msg.epoch):zcF (mkS n h L t lo hi) (zdO y.msg) now ep=true:=by
 rw[zO7 (s:=mkS n h L t lo hi) v.2.2.2.2.2.2.2.2.1 hy (zdO y.msg) rfl];simp only[zdO,decide_true,z0b,zY6,zZL,decide_eq_false_iff_not,decide_eq_true_eq];omega
theorem VS.ack{n h:Nat}{L:List Message}{t:Table}{lo hi:Int}(v:VS n h L t lo hi){y:zy}(hy:y∈t.l){now ep:Int}(hd:now<y.deadline)(he:ep<=y.msg.epoch)(hn:tiQ now=true)(hq:epQ ep=true):∃t',zc0 (mkS n h L t lo hi) (zdO y.msg) now ep=(mkS n h L t' lo hi,0)/\VS n h L t' lo hi/\(y::t'.l).Perm t.l:=by
 obtain⟨t',r1,r2,r3⟩:=v.rel hy;refine⟨t',?_,r2,r3⟩;have hu:usE (mkS n h L t lo hi) (tiQ now&&epQ ep)=0:=by rw[v.us,hn,hq];rfl
 unfold zc0;rw[zYP (fun q=>q hu),zYQ (v.holds hy hd he)];show ((zaI (mkS n h L t lo hi) y.msg.id).1,(zaI (mkS n h L t lo hi) y.msg.id).2.2)=_;rw[r1]
theorem VS.nack{n h:Nat}{L:List Message}{t:Table}{lo hi:Int}(v:VS n h L t lo hi){y:zy}(hy:y∈t.l){now ep lim:Int}(hd:now<y.deadline)(he:ep<=y.msg.epoch)(hn:tiQ now=true)(hq:epQ ep=true)(hl:liQ lim=true):∃h' L' t',zcR (mkS n h L t lo hi) (zdO y.msg) now ep lim=(mkS n h' L' t' lo hi,0)/\VS n h' L' t' lo hi/\L'.length+t'.l.length=L.length+t.l.length/\(y::t'.l).Perm t.l:=by
 obtain⟨t',r1,r2,r3⟩:=v.rel hy;have hlen:=r3.length_eq;simp only[zYW] at hlen;have hmv:zZ y.msg=0:=((zfl t.l).1 (zhi v.2.2.2.2.2.2.2.2.1).2.1).2 y hy |>.1;obtain⟨h',L',q1,q2,q3,q4⟩:=r2.back hmv (v.2.2.2.2.2.2.2.2.2.1 y hy) (by have:=v.2.2.2.1;omega) (v.gone r3) lim;refine⟨h',L',t',?_,q2,by omega,r3⟩;have hu:usE (mkS n h L t lo hi) (tiQ now&&(epQ ep&&liQ lim))=0:=by rw[v.us,hn,hq,hl];rfl
 unfold zcR;rw[zYP (fun q=>q hu),zYQ (v.holds hy hd he)];have e:zaI (mkS n h L t lo hi) (zdO y.msg).id=(mkS n h L t' lo hi,y.msg,0):=r1;rw[e];simp only[q1,ne_eq,zY2,if_false];rfl
def allI(s:Shard):List Int:=(zav s).map (·.id)
theorem VS.allI{n h:Nat}{L:List Message}{t:Table}{lo hi:Int}(v:VS n h L t lo hi):allI (mkS n h L t lo hi)=zeq L t:=by
 unfold _root_.Go.Proofs.YtjalkkalhdnplaaGreat.allI zav zeq mkS;rw[v.ord,zY5,z0i];rfl
theorem zfC{s:Shard}{b:Bool}(h:usE s b=0):zU s=0/\s.live=true:=by
 have hl:zab s=0:=by
  unfold usE at h
  split at h
  ·rename_i q;exact absurd h q
  ·rename_i q;exact zY9.1 q
 unfold zab at hl
 split at hl
 ·rename_i q;exact absurd hl q
 ·rename_i q
  split at hl
  ·rename_i q2;exact⟨zY9.1 q,q2⟩
  ·cases hl
theorem zlA{s:Shard}{h:za3}{now ep:Int}(q:zcF s h now ep=true):∃y∈s.leases.l,y.msg.id=h.id:=by
 unfold zcF at q;rw[zY6] at q;have q:=q.1;unfold zdN at q
 split at q
 ·rename_i c;exact (zhG (l:=s.leases.l) h.id).1 c.2
 ·cases q
theorem zGW{x:Shard}{mx now vis ep lim:Int}(h:(zcJ x mx now vis ep lim).2.2=0):zU (zcJ x mx now vis ep lim).1=0/\(allI (zcJ x mx now vis ep lim).1).Perm (allI x):=by
 by_cases c:zkS x mx now vis ep lim=0
 ·obtain⟨hv,hl⟩:=zfC (s:=x) c;have hn:=zpA (s:=x) c;simp only[zY6,liQ,tiQ,viQ,decide_eq_true_eq] at hn
  by_cases c2:1073741824<now+vis
  ·unfold zcJ at h;rw[zYP (fun q=>q c),zYQ c2] at h
   cases h
  ·obtain⟨n,h',e,v⟩:=zfE hv hl;have et:zcJ x mx now vis ep lim=tkF mx (now+vis) ep lim (zu x.ready) x []:=by
    unfold zcJ;rw[zYP (fun q=>q c),zYP c2]
   rw[et];generalize zu x.ready=L at *;generalize x.leases=t at *;generalize x.low=lo at *;generalize x.high=hi at *;subst e;obtain⟨L',t',o',r1,r2,r3,_,_⟩:=VS.take (mx:=mx) (d:=now+vis) (ep:=ep) (lim:=lim) zo zo zo L L t [] v (fun m hm=>hm) (z0e.1 v.2.2.2.2.2.2.2.2.2.2).1;rw[r1];refine⟨r2.val,?_⟩;rw[r2.allI,v.allI];exact r3
 ·unfold zcJ at h;rw[zYQ c] at h;exact absurd h c
theorem VS.perm{L:List Message}{t t':Table}{y:zy}(hp:(y::t'.l).Perm t.l):(y.msg.id::zeq L t').Perm (zeq L t):=
 z0L.symm.trans ((hp.map (fun x:zy=>x.msg.id)).append_left _)
theorem zGV{x:Shard}{hd:za3}{now ep lim:Int}(h:(zcR x hd now ep lim).2=0):zU (zcR x hd now ep lim).1=0/\(allI (zcR x hd now ep lim).1).Perm (allI x):=by
 by_cases c:usE x (tiQ now&&(epQ ep&&liQ lim))=0
 ·by_cases c2:zcF x hd now ep=true
  ·obtain⟨hv,hl⟩:=zfC c;obtain⟨y,hy,ey⟩:=zlA c2;obtain⟨n,h',e,v⟩:=zfE hv hl;have en:zcR x hd now ep lim=if (zaI x y.msg.id).2.2≠0 then (zA,(zaI x y.msg.id).2.2) else if (zdE (zaI x y.msg.id).1 (zaI x y.msg.id).2.1 lim).2≠0 then (zA,(zdE (zaI x y.msg.id).1 (zaI x y.msg.id).2.1 lim).2) else ({ (zaI x y.msg.id).1 with ready:=(zdE (zaI x y.msg.id).1 (zaI x y.msg.id).2.1 lim).1 },0):=by
    unfold zcR;rw[zYP (fun q=>q c),zYQ c2,ey]
   rw[en];clear en h c c2;generalize zu x.ready=L at *;generalize x.leases=t at *;generalize x.low=lo at *;generalize x.high=hi at *;subst e;obtain⟨t',r1,r2,r3⟩:=v.rel hy;have hlen:=r3.length_eq;simp only[zYW] at hlen;have hmv:zZ y.msg=0:=((zfl t.l).1 (zhi v.2.2.2.2.2.2.2.2.1).2.1).2 y hy |>.1;obtain⟨h2,L',q1,q2,q3,q4⟩:=r2.back hmv (v.2.2.2.2.2.2.2.2.2.1 y hy) (by have:=v.2.2.2.1;omega) (v.gone r3) lim;rw[r1];simp only[q1,ne_eq,zY2,if_false];have e2:({ mkS n h' L t' lo hi with ready:=rg n h2 L' }:Shard)=mkS n h2 L' t' lo hi:=rfl;rw[e2];refine⟨q2.val,?_⟩;rw[q2.allI,v.allI];exact (q4.append_right _).trans (VS.perm r3)
  ·unfold zcR at h;rw[zYP (fun q=>q c),zYP c2] at h
   cases h
 ·unfold zcR at h;rw[zYQ c] at h;exact absurd h c
theorem zGS{x:Shard}{hd:za3}{now ep:Int}(h:(zc0 x hd now ep).2=0):zU (zc0 x hd now ep).1=0/\(hd.id::allI (zc0 x hd now ep).1).Perm (allI x):=by
 by_cases c:usE x (tiQ now&&epQ ep)=0
 ·by_cases c2:zcF x hd now ep=true
  ·obtain⟨hv,hl⟩:=zfC c;obtain⟨y,hy,ey⟩:=zlA c2;obtain⟨n,h',e,v⟩:=zfE hv hl;have en:zc0 x hd now ep=((zaI x y.msg.id).1,(zaI x y.msg.id).2.2):=by
    unfold zc0;rw[zYP (fun q=>q c),zYQ c2,ey]
   rw[en, <- ey];clear en h c c2;generalize zu x.ready=L at *;generalize x.leases=t at *;generalize x.low=lo at *;generalize x.high=hi at *;subst e;obtain⟨t',r1,r2,r3⟩:=v.rel hy;rw[r1];refine⟨r2.val,?_⟩;show (y.msg.id::_root_.Go.Proofs.YtjalkkalhdnplaaGreat.allI (mkS n h' L t' lo hi)).Perm _;rw[r2.allI,v.allI];exact VS.perm r3
  ·unfold zc0 at h;rw[zYP (fun q=>q c),zYP c2] at h
   cases h
 ·unfold zc0 at h;rw[zYQ c] at h;exact absurd h c
theorem zWg{l:List zy}{k:Nat}(hk:k<l.length)(d:Int):((l.set k ⟨l[k].msg,d⟩).map fun y=>y.msg.id)=l.map fun y=>y.msg.id:=by
 refine z15 (by simp) fun i h1 h2=> ?_;simp only[z1k,z1V]
 split
 ·rename_i e;subst e;rfl
 ·rfl
theorem VS.ext{n h:Nat}{L:List Message}{t:Table}{lo hi:Int}(v:VS n h L t lo hi){id d:Int}(he:(za9 t id d).2=0):VS n h L (za9 t id d).1 lo hi/\zeq L (za9 t id d).1=zeq L t:=by
 obtain⟨x1,_,k,hk,_,x4,x5⟩:=zJm he;have hids:((za9 t id d).1.l.map fun y=>y.msg.id)=t.l.map fun y=>y.msg.id:=by rw[x5];exact zWg hk d
 have hlen:(za9 t id d).1.l.length=t.l.length:=by rw[x5,zZu]
 obtain⟨a1,a2,a3,a4,a5,a6,a7,b1,b2,b3,c⟩:=v;refine⟨⟨a1,a2,a3,by omega,a5,a6,a7,b1,x1,fun y hy=> ?_,by rw[hids];exact c⟩,by unfold zeq;rw[hids]⟩;rw[x5] at hy
 rcases z0B hy with hy|rfl
 ·exact b3 y hy
 ·exact b3 t.l[k] (zY4 hk)
theorem zGT{x:Shard}{hd:za3}{now ep vis:Int}(h:(ze9 x hd now ep vis).2=0):zU (ze9 x hd now ep vis).1=0/\(allI (ze9 x hd now ep vis).1).Perm (allI x):=by
 unfold ze9 at h ⊢
 split at h
 ·rename_i c;exact absurd h c
 ·rename_i c;rw[zYP c];have c:=zY9.1 c
  split at h
  ·rename_i c2;rw[zYQ c2]
   split at h
   ·cases h
   ·rename_i c3;rw[zYP c3]
    split at h
    ·rename_i c4;exact absurd h c4
    ·rename_i c4;rw[zYP c4];have c4:=zY9.1 c4;obtain⟨hv,hl⟩:=zfC c;obtain⟨n,h',e,v⟩:=zfE hv hl;clear h c c2 c3;generalize zu x.ready=L at *;generalize x.leases=t at *;generalize x.low=lo at *;generalize x.high=hi at *;subst e;obtain⟨v2,e2⟩:=v.ext c4;have e3:({ mkS n h' L t lo hi with leases:=(za9 t hd.id (now+vis)).1 }:Shard)=mkS n h' L (za9 t hd.id (now+vis)).1 lo hi:=rfl;show zU ({ mkS n h' L t lo hi with leases:=(za9 t hd.id (now+vis)).1 }:Shard)=0/\(_root_.Go.Proofs.YtjalkkalhdnplaaGreat.allI ({ mkS n h' L t lo hi with leases:=(za9 t hd.id (now+vis)).1 }:Shard)).Perm _;rw[e3];refine⟨v2.val,?_⟩;rw[v2.allI,v.allI,e2]
  ·cases h
theorem zC6(n h:Nat)(L:List Message)(t:Table)(lo hi:Int)(m:Message):pbD (mkS n h L t lo hi).ready m=zdE (mkS n h L t lo hi) m m.count:=by
 unfold zdE;rw[zYQ (z01 _)]
theorem VS.exp{n:Nat}{lo hi:Int}:∀(l:List Int) (h:Nat) (L:List Message) (t:Table),VS n h L t lo hi->(zcE l (mkS n h L t lo hi)).2=0->
    ∃h' L' t',(zcE l (mkS n h L t lo hi)).1=mkS n h' L' t' lo hi/\VS n h' L' t' lo hi/\(zeq L' t').Perm (zeq L t):=by
 intro l
 induction l with
 | nil=>intro h L t v _;exact⟨h,L,t,rfl,v,List.Perm.refl _⟩
 | cons id l ih=>
  intro h L t v hz;rw[zcE] at hz ⊢
  split at hz
  ·rename_i c;exact absurd hz c
  ·rename_i c;rw[zYP c];have c:=zY9.1 c;have hr:(zaf t id).2.2=0:=by
    unfold zaI at c
    split at c
    ·rename_i q;exact q
    ·exact c
   obtain⟨_,_,k,hk,_,ek,_,_⟩:=zta hr;obtain⟨t',r1,r2,r3⟩:=v.rel (zY4 hk);rw[ek] at r1;rw[r1] at hz ⊢;simp only at hz ⊢;have hmv:zZ t.l[k].msg=0:=((zfl t.l).1 (zhi v.2.2.2.2.2.2.2.2.1).2.1).2 _ (zY4 hk) |>.1;have hlen:=r3.length_eq;simp only[zYW] at hlen;obtain⟨h2,L',q1,q2,q3,q4⟩:=r2.back hmv (v.2.2.2.2.2.2.2.2.2.1 _ (zY4 hk)) (by have:=v.2.2.2.1;omega) (v.gone r3) t.l[k].msg.count;rw[<- zC6] at q1;rw[q1] at hz ⊢;simp only[ne_eq,zY2,if_false] at hz ⊢;have e2:({ mkS n h L t' lo hi with ready:=rg n h2 L' }:Shard)=mkS n h2 L' t' lo hi:=rfl;rw[e2] at hz ⊢;obtain⟨h3,L3,t3,s1,s2,s3⟩:=ih h2 L' t' q2 hz;exact⟨h3,L3,t3,s1,s2,s3.trans ((q4.append_right _).trans (VS.perm r3))⟩
theorem zGU{x:Shard}{now ep lim:Int}(h:(zcD x now ep lim).2.2=0):zU (zcD x now ep lim).1=0/\(allI (zcD x now ep lim).1).Perm (allI x):=by
 unfold zcD at h ⊢
 split at h
 ·rename_i c;exact absurd h c
 ·rename_i c;rw[zYP c];have c:=zY9.1 c
  split at h
  ·rename_i c2;rw[zYQ c2];obtain⟨hv,hl⟩:=zfC c;obtain⟨n,h',e,v⟩:=zfE hv hl;clear h c;generalize zdp x.leases now ep=l at *;generalize zu x.ready=L at *;generalize x.leases=t at *;generalize x.low=lo at *;generalize x.high=hi at *;subst e;obtain⟨h3,L3,t3,s1,s2,s3⟩:=VS.exp l h' L t v c2;show zU (zcE l (mkS n h' L t lo hi)).1=0/\(_root_.Go.Proofs.YtjalkkalhdnplaaGreat.allI (zcE l (mkS n h' L t lo hi)).1).Perm _;rw[s1];refine⟨s2.val,?_⟩;rw[s2.allI,v.allI];exact s3
  ·rename_i c2;exact absurd h c2
end Go.Proofs.YtjalkkalhdnplaaGreat
