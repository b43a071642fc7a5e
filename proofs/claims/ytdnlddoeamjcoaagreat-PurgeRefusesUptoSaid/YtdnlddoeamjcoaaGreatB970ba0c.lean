/-
  A purge in a small world, by reckoning.
-/
import Derived.Test.YtdnlddoeamjcoaaGreatB842129c
import Derived.Test.YtdnlddoeamjcoaaGreatB18bd45f
set_option linter.unusedSimpArgs false
set_option linter.unusedVariables false
set_option maxHeartbeats 10000000
set_option maxRecDepth 100000
namespace Go.Proofs.YtdnlddoeamjcoaaGreat
open Go Go.Sim
theorem zSB:∀(a b:List Due),a.Perm b->a.Pairwise (fun x y=>lt y x=false)->b.Pairwise (fun x y=>lt y x=false)->a.Nodup->a=b:=by
 intro a
 induction a with
 | nil=>intro b hp _ _ _;exact (List.Perm.nil_eq hp)
 | cons x a ih=>
  intro b hp ha hb hn
  cases b with
  | nil=>exact absurd hp.symm.nil_eq (by simp)
  | cons y b=>
   have hxy:x=y:=by
    by_cases e:x=y
    ·exact e
    ·have h1:y∈a:=by
        have:=hp.symm.subset (List.mem_cons_self (a:=y) (l:=b))
        rcases zadB.1 this with h|h
        ·exact absurd h.symm e
        ·exact h
     have h2:x∈b:=by
      have:=hp.subset (List.mem_cons_self (a:=x) (l:=a))
      rcases zadB.1 this with h|h
      ·exact absurd h e
      ·exact h
     have h3:=(zaeO.1 ha).1 y h1;have h4:=(zaeO.1 hb).1 x h2;rw[zhs] at h3 h4;exact Prod.ext zo zo
   subst hxy;rw[ih b ((List.perm_cons _).1 hp) (zaeO.1 ha).2 (zaeO.1 hb).2 (zad8.1 hn).2]
theorem zDT{l:List Due}(h:Asc l l.length):l.Pairwise (fun x y=>lt y x=false):=by
 rw[zad7];intro i j hi hj hij;have:=h i j hij hj;simpa [hi,hj] using this
theorem zaa2{h:List Due}(o:Ok h)(hne:h≠[]):zgX h 1=h.getD 0 dz::zgX (zd9 h 0) 1:=by
 have hd:=zmj o 0 (zaeA.2 hne);have s1:=zlq h 1 (fun p q hp hq=>by omega);have s2:=zlq (zd9 h 0) 1 (fun p q hp hq=>by omega);have hl1:=s1.2.length_eq;have hl2:=s2.2.length_eq;rw[<- hl1] at s1;rw[<- hl2] at s2;have hnd:h.Nodup:=List.Pairwise.of_map (fun d:Due=>d.2) (fun a b hh e=>hh (by rw[e])) o.ids;refine zSB _ _ (s1.2.trans (hd.2.symm.trans (s2.2.symm.cons _))) (zDT s1.1) (zaeO.2 ⟨fun d hm=> ?_,zDT s2.1⟩) (s1.2.nodup_iff.2 hnd);exact zRd o.ord d (hd.2.subset (zaf1 _ (s2.2.subset hm)))
theorem zacp{h:List Due}{now:Int}(o:Ok h)(hne:h≠[]):zdb h now=if (h.getD 0 dz).1<=now then (h.getD 0 dz).2::zdb (zd9 h 0) now else []:=by
 have hd:=zmj o 0 (zaeA.2 hne);unfold zdb;rw[zacY ((zf0 h).2 o),zacY ((zf0 _).2 hd.1),zaa2 o hne];unfold zkf
 by_cases hc:(h.getD 0 dz).1<=now
 ·rw[zacY hc,List.filter_cons_of_pos (by simpa using hc),zac1]
 ·rw[zacX hc,List.filter_cons_of_neg (by simpa using hc)];have:∀d∈zgX (zd9 h 0) 1,¬d.1<=now:=by
   intro d hm;have s2:=zlq (zd9 h 0) 1 (fun p q hp hq=>by omega);have:=zRd o.ord d (hd.2.subset (zaf1 _ (s2.2.subset hm)));rw[zhs] at this;omega
  rw[zaf2.2 (by simpa using this)];rfl
def rUS(now:Int)(p:List Due×List Int):St:=⟨[(0,.d (.sl (p.1.map eD))),(1,.d (.int .i64 now)),(5,.acc 5 (zB p.2))],[(5,.acc p.2.length)]⟩
theorem z8Q(now:Int):∀p:List Due×List Int,p.1.length<=LIM/\(zcy p.1=0->p.1.length+p.2.length<=1000)->zai G [] zmP (rUS now p)=some (.exit 0,⟨[(5,.acc 5 (zB (p.2++zdb p.1 now)))],[(5,.acc (p.2++zdb p.1 now).length)]⟩):=by
 refine za3 (fun p:List Due×List Int=>p.1.length) _ (rUS now) _ fun⟨h,out⟩ ⟨hL,hL2⟩ L ih=> ?_;simp only[rUS] at ih hL hL2 ⊢;have hv:=ztC h hL
 by_cases h0:zcy h=0
 ·have hl3:=hL2 h0;have o:=(zf0 h).1 h0
  by_cases he:h=[]
  ·subst he;have e:zdb [] now=[]:=by unfold zdb;rw[zacY h0];unfold zgX;simp [zkf]
   rw[e,zadk];simp only[zmP,zacZ] at hv ⊢;simp -implicitDefEqProofs (maxSteps:=4000000) (disch:=omega) only[go_sem,hv,h0]
  ·have hpos:=zaeA.2 he;have hd:=zmj o 0 hpos;have hl1:(zd9 h 0).length+1=h.length:=by simpa using hd.2.length_eq
   have hg:(h.map eD)[0]? = some (eD (h.getD 0 dz)):=by simp [zadj,zada hpos,hpos]
   have hc:=zQn h 0 hpos zo;simp only[zado] at hc;rw[zacp o he];have:=ih (zd9 h 0,out++[(h.getD 0 dz).2]) ⟨by simp only;omega,fun _=>by simp only[zac6,zadF];omega⟩ (by simp only;omega);simp only[zmP]
   by_cases hcc:(h.getD 0 dz).1<=now
   ·rw[zacY hcc];simp only[zadK,zadl,zadi] at this;simp only[zB,zadg,zac1,zacZ,zac6,zac4,zac5,zad5,zaeb,zadv] at this;simp -implicitDefEqProofs (maxSteps:=4000000) (disch:=omega) only[go_sem,hv,h0,hg,eD,hcc,hc,zug];exact this
   ·rw[zacX hcc,zadk];simp -implicitDefEqProofs (maxSteps:=4000000) (disch:=omega) only[go_sem,hv,h0,hg,eD,hcc]
 ·have e:zdb h now=[]:=by unfold zdb;rw[zacX h0]
  rw[e,zadk];simp only[zmP];simp -implicitDefEqProofs (maxSteps:=4000000) (disch:=omega) only[go_sem,hv,h0]
theorem z8R(h:List Due)(now:Int)(hL:h.length<=LIM):zg G zot [.d (.sl (h.map eD)),.d (.int .i64 now)] []=some (.d (.sl (zB (zdb h now))),[]):=by
 have hl:=z8Q now (h,[]) ⟨hL,fun h0=>by have:=zDt h0;simp only[zac5] at this ⊢; omega⟩;simp only[rUS,zacZ,zac5,zadi,zB] at hl;rw[zO zXx (by simp)];simp -implicitDefEqProofs (maxSteps:=4000000) (disch:=omega) only[zuJ,zCf,go_sem,hl]
theorem zk5(n lo hi:Int):zg G zol [.d (.int .i64 n),.d (.int .i64 lo),.d (.int .i64 hi)] []=some (.d (.bool (decide (lo<=n/\n<=hi))),[]):=by
 by_cases h:lo<=n
 ·by_cases h2:n<=hi
  ·rw[zadn ⟨h,h2⟩];exact zW zzp
  ·rw[zadq zo];exact zW zzp
 ·rw[zadq zo];exact zW zzp
theorem zNz(m:zl)(e:Int):zg G zlG [.d (zn m),.d (.int .i64 e)] []=some (.d (.bool (decide (m.epoch<e))),[]):=by
 exact zW zIi
def zaC(m:zl):Int:=
 if 1<=m.id/\m.id<=1073741824/\0<=m.route/\m.route<=65535/\0<=m.epoch/\m.epoch<=65536/\0<=m.count/\m.count<=8/\m.count<=m.gen/\m.gen<=65536/\0<=m.sent/\m.sent<=1073741824 then (if 16<m.body.length then 2 else 0) else 1
theorem zix(m:zl):zg G zlI [.d (zn m)] []=some (.d (.int .i64 (zaC m)),[]):=by
 have i1:=zk5 m.id 1 1073741824;have i2:=zk5 m.route 0 65535;have i3:=zk5 m.epoch 0 65536;have i4:=zk5 m.count 0 8;have i5:=zk5 m.gen m.count 65536;have i6:=zk5 m.sent 0 1073741824;unfold zaC
 split
 ·split
  ·exact zW zzo
  ·exact zW zzo
 ·exact zW zzo
def zfE(l:List zN)(i:Nat):Int:=
 if zaC (l.getD i zb3).msg≠0 then zaC (l.getD i zb3).msg
 else if (l.getD i zb3).msg.gen=0 then 7
 else if (l.getD i zb3).deadline<0\/1073741824<(l.getD i zb3).deadline then 1
 else if 0<i/\(l.getD i zb3).msg.id<=(l.getD (i - 1) zb3).msg.id then 11 else 0
def zgM(l:List zN)(i:Nat):Bool:=decide (zfE l i≠0)
def obT(o:Nat)(t:zT):Nat×Go.Sim.Obj:=(o,.row [.d (zaJ t)])
theorem z8g(t:zT)(hL:t.l.length<=12):zai G [] zAU ⟨[(1,.ref 1 0 0),(3,.d (.int .i64 0))],[obT 1 t]⟩=some (zh4 t.l.length (zgM t.l) (fun k=>(.ret,⟨[(2,.d (.int .i64 (zfE t.l k)))],[]⟩)) (.exit 0,⟨[(1,.ref 1 0 0)],[obT 1 t]⟩)):=by
 refine zjo (G:=G) t.l.length (zgM t.l) (fun k=>⟨[(1,.ref 1 0 0),(3,.d (.int .i64 k))],[obT 1 t]⟩) _ _ fun k hk L=> ?_;simp only[zAU,obT]
 by_cases h0:k<t.l.length
 ·rw[zacY h0];have hm:=zix t.l[k].msg;simp only[zn] at hm;unfold zgM zfE;rw[zj h0]
  by_cases c1:zaC t.l[k].msg=0
  ·rw[c1] at hm;simp only[c1,ne_eq,zac9,if_false]
   by_cases c2:t.l[k].msg.gen=0
   ·simp only[c2,if_true,show ((7:Int)=0)=False by simp,zadw,decide_true];rw[c2] at hm;exact zS
   ·simp only[c2,if_false]
    by_cases c3:t.l[k].deadline<0\/1073741824<t.l[k].deadline
    ·skip;simp only[c3,if_true,show ((1:Int)=0)=False by simp,zadw,decide_true];exact zS
    ·skip;simp only[c3,if_false]
     by_cases c4:0<k
     ·have hk1:k - 1<t.l.length:=by omega
      have e1:(k:Int) - 1=((k - 1:Nat):Int):=by omega
      rw[zj hk1]
      by_cases c5:t.l[k].msg.id<=t.l[k - 1].msg.id
      ·simp only[c4,c5,zaem,if_true,show ((11:Int)=0)=False by simp,zadw,decide_true];exact zS
      ·simp only[c4,c5,zae2,if_false,zac9,decide_false,zac8];exact zS
     ·simp only[c4,zadX,if_false,zac9,decide_false,zac8];exact zS
  ·simp only[c1,ne_eq,zadw,if_true,decide_true];exact zS
 ·rw[zacX h0];exact zS
def zar(l:List zN)(id:Int):Int:=zce (fun x=>decide (x.msg.id=id)) l
theorem znj(t:zT)(id:Int)(hL:t.l.length<=4294967296):zg G zoH [.d (zaJ t),.d (.int .i64 id)] []=some (.d (.int .i64 (zar t.l id)),[]):=by
 have hl:=zjo (G:=G) (x:=zAV) (ks:=[]) t.l.length (atB t.l fun x=>decide (x.msg.id=id)) (fun k=>⟨[(1,.d (.int .i64 id)),(2,.ref 2 0 0),(5,.d (.int .i64 k))],[obT 2 t]⟩) (fun k=>(.ret,⟨[(4,.d (.int .i64 k))],[]⟩)) (.exit 0,⟨[],[]⟩) (fun k hk L=>by
  simp only[zAV,obT]
  by_cases h0:k<t.l.length
  ·simp only[h0,if_true,zg5 h0];exact zS
  ·exact zS)
 rw[zkl] at hl;simp only[obT] at hl;simp only[zNr,zE] at hl;unfold zar zce
 cases hf:t.l.findIdx? (fun x=>decide (x.msg.id=id)) with
 | none=>rw[hf] at hl;clear hf;exact zW zIo
 | some i=>rw[hf] at hl;clear hf;exact zW zIo
def zkQ(t:zT):Bool:=decide (t.heap.length=t.l.length)&&t.l.all fun x=>t.heap.any fun d=>decide (d=(x.deadline,x.msg.id))
def zeK(l:List zN):Int:=zh4 l.length (zgM l) (zfE l) 0
def zaA(t:zT):Int:=
 if 12<t.l.length then 2 else if zeK t.l≠0 then zeK t.l else if zcy t.heap≠0 then zcy t.heap else if zkQ t=true then 0 else 7
theorem zBg(l:List zN):(∃k,(List.range l.length).find? (zgM l)=some k/\zfE l k≠0/\zeK l=zfE l k)\/((List.range l.length).find? (zgM l)=none/\zeK l=0):=by
 unfold zeK zh4
 cases h:(List.range l.length).find? (zgM l) with
 | none=>exact .inr ⟨rfl,rfl⟩
 | some k=>
  refine .inl ⟨k,rfl,?_,rfl⟩;have:=List.find?_some h;unfold zgM at this;simpa using this
def zkR(t:zT):Bool:=decide (t.heap.length=t.l.length)&&t.heap.all fun d=>decide (0<=zar t.l d.2)&&decide ((t.l.getD (zar t.l d.2).toNat zb3).deadline=d.1)
def ztU(t:zT):Int:=
 if 12<t.l.length then 2 else if zeK t.l≠0 then zeK t.l else if zcy t.heap≠0 then zcy t.heap else if zkR t=true then 0 else 7
theorem zrB(l:List zN)(id:Int): -1<=zar l id/\zar l id<l.length:=zsk _ _
theorem z8c(t:zT)(hL:t.l.length<=4294967296)(hH:t.heap.length<=4294967296):zai G [] zsz ⟨[(1,.ref 1 0 0),(7,.d (.int .i64 0))],[obT 1 t]⟩=some (if (t.heap.all fun d=>decide (0<=zar t.l d.2)&&decide ((t.l.getD (zar t.l d.2).toNat zb3).deadline=d.1))=true then (.exit 3,⟨[],[]⟩) else (.ret,⟨[(2,.d (.int .i64 7))],[]⟩)):=by
 have hl:=zhr (G:=G) (x:=zsz) (ks:=[]) t.heap.length (atB t.heap fun d=>decide (0<=zar t.l d.2)&&decide ((t.l.getD (zar t.l d.2).toNat zb3).deadline=d.1)) (fun k=>⟨[(1,.ref 1 0 0),(7,.d (.int .i64 k))],[obT 1 t]⟩) (.ret,⟨[(2,.d (.int .i64 7))],[]⟩) (.exit 3,⟨[],[]⟩) (fun k hk L=>by
  simp only[zsz,obT]
  by_cases h0:k<t.heap.length
  ·simp only[h0,if_true,zg5 h0];have hf:=znj t t.heap[k].2 hL;have hb:=zrB t.l t.heap[k].2;generalize zar t.l t.heap[k].2=i at *
   by_cases c1:0<=i
   ·obtain⟨n,rfl⟩:∃n:Nat,i=n:=⟨i.toNat,by omega⟩;have hn:n<t.l.length:=by omega
    rw[zadG,zj hn,zadn c1,zaed]
    by_cases c2:t.l[n].deadline=t.heap[k].1
    ·rw[zadn c2];simp only[if_true];exact zS
    ·rw[zadq c2];simp only[zac8,if_false];exact zS
   ·rw[zadq c1];simp only[zadO,zac8,if_false];exact zS
  ·exact zS)
 have e:(List.range t.heap.length).all (atB t.heap fun d=>decide (0<=zar t.l d.2)&&decide ((t.l.getD (zar t.l d.2).toNat zb3).deadline=d.1))=t.heap.all fun d=>decide (0<=zar t.l d.2)&&decide ((t.l.getD (zar t.l d.2).toNat zb3).deadline=d.1):=by
  rw[zaef,zadp,zadp];constructor
  ·intro h x hx;obtain⟨i,hi,rfl⟩:=zaeN hx;have:=h i (zadU.2 hi)
   rwa [zg5 hi] at this
  ·intro h i hi;rw[zg5 (zadU.1 hi)];exact h _ (zadf _)
 rw[e] at hl;exact hl
theorem zk7(t:zT)(hL:t.l.length<=4294967296)(hH:t.heap.length<=4294967296):zg G zoG [.d (zaJ t)] []=some (.d (.int .i64 (ztU t)),[]):=by
 unfold ztU
 by_cases c0:12<t.l.length
 ·rw[zacY c0];exact zW zkq
 ·rw[zacX c0];have hl:=z8g t zo;have hv:=ztC t.heap hH;have hm:=z8c t hL hH;simp only[obT] at hl hm;unfold zh4 at hl
  rcases zBg t.l with ⟨k,h1,h2,h3⟩|⟨h1,h3⟩
  ·rw[h1] at hl;simp only at hl;rw[h3,zacY h2];generalize zfE t.l k=z at *;clear h1 h3 hv hm;exact zW zkq
  ·rw[h1] at hl;rw[h3,zacX (by simp)];clear h1 h3;generalize zcy t.heap=z at *
   by_cases c1:z=0
   ·subst c1;rw[zacX (by simp)];unfold zkR
    by_cases c2:t.heap.length=t.l.length
    ·rw[zadn c2,zaed];generalize (t.heap.all fun d=>decide (0<=zar t.l d.2)&&decide ((t.l.getD (zar t.l d.2).toNat zb3).deadline=d.1))=q at *
     cases q
     ·simp only[zac8,if_false] at hm ⊢;exact zW zkq
     ·simp only[if_true] at hm ⊢;exact zW zkq
    ·rw[zadq c2,zadO];simp only[zac8,if_false];clear hm;exact zW zkq
   ·rw[zacY c1];clear hm;exact zW zkq
theorem zMM{α:Type}[DecidableEq α]:∀(A B:List α),A.Nodup->(∀a∈A,a∈B)->A.length<=B.length
 | [],_,_,_=>Nat.zero_le _
 | a::A,B,h,hs=>by
  have ha:=hs a (by simp);rw[zad8] at h;have:=zMM A (B.erase a) h.2 fun x hx=>(List.mem_erase_of_ne (by rintro rfl;exact h.1 hx)).2 (hs x (by simp [hx]));rw[zagd ha] at this;have hp:=List.length_pos_of_mem ha;simp only[zac4];omega
theorem zML{α:Type}[DecidableEq α]{A B:List α}(h:A.Nodup)(hs:∀a∈A,a∈B)(hl:B.length<=A.length):∀b∈B,b∈A:=by
 intro b hb
 by_cases c:b∈A
 ·exact c
 ·have:=zMM A (B.erase b) h fun x hx=>(List.mem_erase_of_ne (by rintro rfl;exact c hx)).2 (hs x hx);rw[zagd hb] at this;have hp:=List.length_pos_of_mem hb;omega
theorem zik{l:List zN}(h:zeK l=0):l.Pairwise fun x y=>x.msg.id<y.msg.id:=by
 have h0:∀i,i<l.length->zfE l i=0:=by
  rcases zBg l with ⟨k,_,h2,h3⟩|⟨h1,_⟩
  ·omega
  ·intro i hi;have:=List.find?_eq_none.1 h1 i (zadU.2 hi);unfold zgM at this;simpa using this
 have step:∀i (hi:i+1<l.length),l[i].msg.id<l[i+1].msg.id:=fun i hi=>by
  have:=h0 (i+1) hi;unfold zfE at this;rw[zj hi,Nat.add_sub_cancel,zj (show i<l.length by omega)] at this
  split at this
  ·omega
  split at this
  ·omega
  split at this
  ·omega
  split at this
  ·cases this
  ·omega
 refine zad7.2 fun i j hi hj hij=> ?_;obtain⟨m,rfl⟩:∃m,j=i+1+m:=⟨j - (i+1),by omega⟩
 induction m with
 | zero=>exact step i hj
 | succ m ih=>exact Int.lt_trans (ih zo zo) (step (i+1+m) zo)
def zbO(x:zN):Due:=(x.deadline,x.msg.id)
theorem zmm{l:List zN}{id:Int}(h:0<=zar l id):∃k,∃hk:k<l.length,zar l id=k/\l[k].msg.id=id:=by
 unfold zar zce at h ⊢
 cases hf:l.findIdx? (fun x=>decide (x.msg.id=id)) with
 | none=>rw[hf] at h;exact absurd h (by simp)
 | some i=>
  obtain⟨hi,hp,_⟩:=zad6.1 hf;exact⟨i,hi,rfl,by simpa using hp⟩
theorem zvC{l:List zN}{id:Int}(h:zar l id<0):∀x∈l,x.msg.id≠id:=by
 unfold zar zce at h
 cases hf:l.findIdx? (fun x=>decide (x.msg.id=id)) with
 | none=>intro x hx;have:=zae6.1 hf x hx;simpa using this
 | some i=>rw[hf] at h;simp only at h;omega
theorem zDR{l:List zN}(h:l.Pairwise fun x y=>x.msg.id<y.msg.id){i j:Nat}(hi:i<l.length)(hj:j<l.length)(e:l[i].msg.id=l[j].msg.id):i=j:=by
 rw[zad7] at h
 rcases zaft i j with q|q|q
 ·have:=h i j hi hj q;omega
 ·exact q
 ·have:=h j i hj hi q;omega
theorem zvB{l:List zN}(h:l.Pairwise fun x y=>x.msg.id<y.msg.id){k:Nat}(hk:k<l.length):zar l l[k].msg.id=k:=by
 by_cases c:0<=zar l l[k].msg.id
 ·obtain⟨j,hj,e,q⟩:=zmm c;rw[e,zDR h hj hk q]
 ·exact absurd rfl (zvC zo l[k] (zadf _))
theorem zDS{l:List zN}(h:l.Pairwise fun x y=>x.msg.id<y.msg.id):(l.map zbO).Nodup:=by
 refine List.Pairwise.map _ ?_ h;intro a b hab e;have:=congrArg Prod.snd e;simp only[zbO] at this;omega
theorem zMx{t:zT}(h:t.l.Pairwise fun x y=>x.msg.id<y.msg.id):zkR t=true↔t.heap.length=t.l.length/\∀d∈t.heap,d∈t.l.map zbO:=by
 unfold zkR;rw[zac7,decide_eq_true_eq,zadp];refine and_congr_right fun _=>forall_congr' fun d=>forall_congr' fun hd=> ?_;rw[zac7,decide_eq_true_eq,decide_eq_true_eq,zadc];constructor
 ·rintro⟨h0,h1⟩;obtain⟨k,hk,e,q⟩:=zmm h0;rw[e,zadG,zj hk] at h1;exact⟨t.l[k],zadf _,Prod.ext h1 q⟩
 ·rintro⟨x,hx,rfl⟩;obtain⟨k,hk,rfl⟩:=zaeN hx;simp only[zbO,zvB h hk];rw[zadG,zj hk];exact⟨by omega,rfl⟩
theorem zBt{t:zT}:zkQ t=true↔t.heap.length=t.l.length/\∀d∈t.l.map zbO,d∈t.heap:=by
 unfold zkQ;rw[zac7,decide_eq_true_eq,zadp];refine and_congr_right fun _=> ?_;constructor
 ·intro h d hd;obtain⟨x,hx,rfl⟩:=zadc.1 hd;obtain⟨y,hy,e⟩:=zadY.1 (h x hx);rw[decide_eq_true_eq] at e;rw[show zbO x=y from e.symm];exact hy
 ·intro h x hx;exact zadY.2 ⟨_,h _ (zadc.2 ⟨x,hx,rfl⟩),by simp [zbO]⟩
theorem zMy{t:zT}(h:zeK t.l=0)(hv:zcy t.heap=0):zkQ t=zkR t:=by
 have ha:=zik h;have hn:=((zf0 _).1 hv).ids;have hh:t.heap.Nodup:=List.Pairwise.of_map (fun d:Due=>d.2) (fun a b h e=>h (by rw[e])) hn;rw[zaef,zMx ha,zBt];refine and_congr_right fun e=>⟨fun q=> ?_,fun q=> ?_⟩
 ·exact zML (zDS ha) q (by simp [e])
 ·exact zML hh q (by simp [e])
theorem zlt(t:zT):ztU t=zaA t:=by
 unfold ztU zaA
 by_cases h:zeK t.l=0
 ·by_cases hv:zcy t.heap=0
  ·rw[zMy h hv]
  ·simp only[hv,ne_eq,zadw,if_true]
 ·simp only[h,ne_eq,zadw,if_true]
theorem bytesD_ok(s:List UInt8):zgC (byD s)=some s:=by
 unfold byD
 induction s with
 | nil=>rfl
 | cons b s ih=>
  simp only[zac1,zgC,ih,zadJ,zadG];simp
theorem zSV(l:List Int)(hL:l.length<=4000)(n:Nat)(hn:n<=3):∀p:Nat×Nat×List UInt8,p.1<=n/\p.2.2.length=n->∃a' bs,bs.length=n/\zai G [] zAK ⟨[(0,.ref 1000000 0 0),(3,.osl 7 0 n),(4,.d (.int .i64 p.1)),(1000000,.ref 1000000 1 0)],[(7,.row ((byD p.2.2).map .d)),(1000000,zE l p.2.1)]⟩=some (.exit 0,⟨[(3,.osl 7 0 n),(1000000,.ref 1000000 1 0)],[(7,.row ((byD bs).map .d)),(1000000,zE l a')]⟩):=by
 refine zsV (fun p:Nat×Nat×List UInt8=>n - p.1) (fun p:Nat×Nat×List UInt8=>p.1<=n/\p.2.2.length=n) (fun p:Nat×Nat×List UInt8=>⟨[(0,.ref 1000000 0 0),(3,.osl 7 0 n),(4,.d (.int .i64 p.1)),(1000000,.ref 1000000 1 0)],[(7,.row ((byD p.2.2).map .d)),(1000000,zE l p.2.1)]⟩) (fun p r=>∃a' bs,bs.length=n/\r=some (.exit 0,⟨[(3,.osl 7 0 n),(1000000,.ref 1000000 1 0)],[(7,.row ((byD bs).map .d)),(1000000,zE l a')]⟩)) fun⟨k,a,bs⟩ ⟨hk,hb⟩ L ih=> ?_;simp only at ih hk hb;simp only[zAK]
 by_cases h0:k<n
 ·have n1:=zbY l a (n:=3) zo;obtain⟨c,hc⟩:∃c:UInt8,(c.toNat:Int)=97+nD l a 3:=⟨UInt8.ofNat (97+nD l a 3).toNat,by rw[UInt8.toNat_ofNat'];omega⟩;have hg:((byD bs).map AV.d)[k]? = some (.d (.int .u8 (bs.getD k 0).toNat)):=by
   unfold byD;simp [zada (show k<bs.length by omega),show k<bs.length by omega]
  have hs:((byD bs).map AV.d).set k (.d (.int .u8 (97+nD l a 3)))=(byD (bs.set k c)).map AV.d:=by
   unfold byD;rw[<- hc,zad9,zad9]
  obtain⟨a',bs',h1,h2⟩:=ih (k+1,(zbj l a).2,bs.set k c) ⟨by simp only;omega,by simp only[zadM];exact hb⟩ (by simp only;omega);refine⟨a',bs',h1,?_⟩;simp only[zNr,zE] at h2;simp -implicitDefEqProofs (maxSteps:=4000000) (disch:=omega) only[go_sem,zgP,hg,hs,h0];exact h2
 ·refine⟨a,bs,hb,?_⟩;simp -implicitDefEqProofs (maxSteps:=4000000) (disch:=omega) only[go_sem,h0]
theorem zuu(l:List Int)(a:Nat)(hL:l.length<=4000):∃s a',s.length<=3/\zg G zjN [.ref 1000000 0 0] [(1000000,zE l a)]=some (.d (.str s),[(1000000,zE l a')]):=by
 have n1:=zbY l a (n:=4) zo;obtain⟨n,hn⟩:∃n,n=(nD l a 4).toNat:=⟨_,rfl⟩;have e:nD l a 4=(n:Int):=by omega
 obtain⟨a',bs,h1,h2⟩:=zSV l hL n zo (0,(zbj l a).2,List.replicate n 0) ⟨by omega,by simp⟩;have hz:List.replicate n (AV.d (.int .u8 0))=(byD (List.replicate n 0)).map AV.d:=by unfold byD;simp
 refine⟨bs,a',by omega,?_⟩;have hl:(byD bs).length=n:=by unfold byD;simpa using h1
 have ht:List.take n ((byD bs).map AV.d)=(byD bs).map AV.d:=zaeL (by simp [hl]);simp only[zNr,zE] at h2
 by_cases h0:n=0
 ·subst h0;have:bs=[]:=zadN.1 h1;subst this;simp only[List.replicate_zero,show byD []=[] from rfl,zacZ] at h2;rw[zO zIa (by simp)];simp -implicitDefEqProofs (maxSteps:=4000000) (disch:=omega) only[zqT,ztf,go_sem,zgP,e,List.replicate_zero,h2]
 ·have hne:¬(List.map AV.d (byD bs)=[]):=by
     intro e2;have:=congrArg List.length e2;simp [hl] at this;exact h0 this
  rw[zO zIa (by simp)];simp -implicitDefEqProofs (maxSteps:=4000000) (disch:=omega) only[zqT,ztf,go_sem,zgP,e,hz,h2,hl,ht,bytesD_ok,hne]
theorem zD1:∃f:List Int->Nat->List UInt8×Nat,∀l a,l.length<=4000->(f l a).1.length<=3/\zg G zjN [.ref 1000000 0 0] [(1000000,zE l a)]=some (.d (.str (f l a).1),[(1000000,zE l (f l a).2)]):=by
 refine⟨fun l a=>if h:l.length<=4000 then (Classical.choose (zuu l a h),Classical.choose (zadS (zuu l a h))) else ([],0),fun l a h=> ?_⟩;simp only[h,dif_pos];exact zadS (zadS (zuu l a h))
noncomputable def zut:List Int->Nat->List UInt8×Nat:=Classical.choose zD1
theorem zD0(l:List Int)(a:Nat)(hL:l.length<=4000):(zut l a).1.length<=3/\zg G zjN [.ref 1000000 0 0] [(1000000,zE l a)]=some (.d (.str (zut l a).1),[(1000000,zE l (zut l a).2)]):=zadS zD1 l a hL
def zaa3(live:Int)(i:Nat):Span:=⟨(i:Int) * 65536 / live,((i:Int)+1) * 65536 / live - 1,i⟩
def zC2(live:Int)(k:Nat):List Span:=(List.range k).map (zaa3 live)
theorem zaa4(live:Int)(k:Nat):(zC2 live k).length=k:=by simp [zC2]
def zge(slots live:Nat):zaM:=⟨1,zC2 live live,List.replicate slots (-1)⟩
def zcr(slots live:Int):zaM×Int:=if live<1\/slots<live\/6<slots then (zcN,1) else (zge slots.toNat live.toNat,0)
theorem zUk:∀s l:Nat,1<=l->l<=s->s<=6->zbC (zge s l)=0/\(∀i,i<s->zbe (zge s l).l i=if i<l then (i:Int) else -1):=by
 have key:∀s,s<7->∀l,l<7->1<=l->l<=s->zbC (zge s l)=0/\(∀i,i<s->zbe (zge s l).l i=if i<l then (i:Int) else -1):=by decide
 intro s l h1 h2 h3;exact key s zo l zo h1 h2
theorem z0M(l:List Int)(a:Nat)(hL:l.length<=4000):zg G znZ [.d (.pd (.agg [.sl (zB l),.int .i64 a]))] []=some (.d (.bool (decide ((a:Int)<l.length))),[]):=by
 exact zW zXk
theorem zaaL(l:List Int)(a:Nat)(hL:l.length<=4000):∃x a',(1<=x.slots/\x.slots<=4/\1<=x.live/\x.live<=x.slots/\1<=x.capacity/\x.capacity<=5/\1<=x.dead/\x.dead<=4/\1<=x.limit/\x.limit<=3/\0<=x.clock/\x.clock<=1073741824/\1<=x.nextID/\x.nextID<=1073741824/\0<=x.epoch/\x.epoch<=65536)/\zg G zn5 [.ref 1000000 0 0] [(1000000,zE l a)]=some (.d (zK x),[(1000000,zE l a')]):=by
 obtain⟨a1,q1⟩:∃a1,a1=(zbj l a).2:=⟨_,rfl⟩;obtain⟨a2,q2⟩:∃a2,a2=(zbj l a1).2:=⟨_,rfl⟩;obtain⟨a3,q3⟩:∃a3,a3=(zbj l a2).2:=⟨_,rfl⟩;obtain⟨a4,q4⟩:∃a4,a4=(zbj l a3).2:=⟨_,rfl⟩;obtain⟨a5,q5⟩:∃a5,a5=(zbj l a4).2:=⟨_,rfl⟩;obtain⟨a6,q6⟩:∃a6,a6=(zbj l a5).2:=⟨_,rfl⟩;have n1:=zbY l a (n:=4) zo;have n2:=zbY l a1 (n:=5) zo;have n3:=zbY l a2 (n:=4) zo;have n4:=zbY l a3 (n:=3) zo;have n5:=zbY l a4 (n:=1+nD l a 4 - 1+1) zo;have n6:=zbY l a5 (n:=12) zo;have n7:=zbY l a6 (n:=200) zo;have n8:=zbY l a6 (n:=4) zo;have n9:=zbY l a6 (n:=3) zo
 by_cases c1:nD l a5 12=9
 ·refine⟨⟨1+nD l a 4,1+nD l a4 (1+nD l a 4 - 1+1),1+nD l a1 5,1+nD l a2 4,1+nD l a3 3,1073741824 - nD l a6 200,1,0⟩,(zbj l a6).2,by simp only;omega,?_⟩;simp only[zK];rw[zO zrI (by simp)];simp -implicitDefEqProofs (maxSteps:=4000000) (disch:=omega) only[zj2,zla,go_sem,zgP,zno, <- q1, <- q2, <- q3, <- q4, <- q5, <- q6,c1]
 by_cases c2:nD l a5 12=10
 ·refine⟨⟨1+nD l a 4,1+nD l a4 (1+nD l a 4 - 1+1),1+nD l a1 5,1+nD l a2 4,1+nD l a3 3,0,1073741824 - nD l a6 4,0⟩,(zbj l a6).2,by simp only;omega,?_⟩;simp only[zK];rw[zO zrI (by simp)];simp -implicitDefEqProofs (maxSteps:=4000000) (disch:=omega) only[zj2,zla,go_sem,zgP,zno, <- q1, <- q2, <- q3, <- q4, <- q5, <- q6,c1,c2]
 by_cases c3:nD l a5 12=11
 ·refine⟨⟨1+nD l a 4,1+nD l a4 (1+nD l a 4 - 1+1),1+nD l a1 5,1+nD l a2 4,1+nD l a3 3,0,1,65536 - nD l a6 3⟩,(zbj l a6).2,by simp only;omega,?_⟩;simp only[zK];rw[zO zrI (by simp)];simp -implicitDefEqProofs (maxSteps:=4000000) (disch:=omega) only[zj2,zla,go_sem,zgP,zno, <- q1, <- q2, <- q3, <- q4, <- q5, <- q6,c1,c2,c3]
 ·refine⟨⟨1+nD l a 4,1+nD l a4 (1+nD l a 4 - 1+1),1+nD l a1 5,1+nD l a2 4,1+nD l a3 3,0,1,0⟩,a6,by simp only;omega,?_⟩;simp only[zK];rw[zO zrI (by simp)];simp -implicitDefEqProofs (maxSteps:=4000000) (disch:=omega) only[zj2,zla,go_sem,zgP,zno, <- q1, <- q2, <- q3, <- q4, <- q5, <- q6,c1,c2,c3]
theorem zSO:zbp G 60 zlB [] []=some (.d (.bool true),[]):=by kernel_rfl
theorem zSP:zg G zlB [] []=some (.d (.bool true),[]):=zGP.2 ⟨60,zSO⟩
end Go.Proofs.YtdnlddoeamjcoaaGreat
