/-
  Tables of leases.
-/
import Derived.Test.YtcembpbhkcbnhaaGreatBb0869f1
import Derived.KernelRfl
import Derived.Test.YtcembpbhkcbnhaaGreatBe288a21
import Derived.IntWalk
set_option linter.unusedSimpArgs false
set_option linter.unusedVariables false
set_option maxHeartbeats 10000000
set_option maxRecDepth 100000
namespace Go.Proofs.YtcembpbhkcbnhaaGreat
open Go Go.Sim
def tab:List (Nat×AFn):=[(3,zain),(5,zakZ),(17,zaj4),(36,zakb),(18,zaj5),(37,zakk),(38,zaiq),(39,zaj7),(61,zakj),(62,zakh),(95,zakc),(130,zakd),(96,zair),(97,zaki),(98,zagJ),(63,zake),(100,zakf),(101,zaka),(99,zaij),(64,zaim),(102,zaj6),(133,zaj3),(103,zaii),(65,zaik),(66,zaj2),(67,zakg),(104,zail),(68,zaj8),(105,zaj9),(6,zakI),(19,zakw),(20,zaky),(40,zakG),(41,zaip),(69,zakD),(106,zakA),(70,zakB),(73,zakv),(74,zakE),(71,zakF),(107,zakz),(75,zakC),(72,zaku),(7,zakx),(8,zvx),(9,zvH),(14,zvG),(30,zvD),(11,zvB),(23,zvE),(21,zvF),(42,zvA),(43,zvz),(76,zvC),(77,zvy),(78,zvI),(13,zyZ),(22,zyT),(44,zxv),(79,zxD),(80,zxd),(81,zwI),(108,zv8),(82,zwN),(109,zwZ),(83,zw3),(29,zyY),(45,zyU),(55,zyV),(48,zyX),(86,zyR),(111,zyb),(112,zyi),(134,zyd),(135,zxq),(136,zya),(137,zx5),(85,zx4),(138,zxo),(140,zvT),(127,zvP),(168,zvU),(139,zx2),(141,zye),(144,zxs),(171,zxe),(183,zxg),(182,zxh),(147,zyg),(184,zxN),(224,zxJ),(142,zyc),(172,zxO),(220,zxX),(250,zxK),(277,zxB),(295,zxH),(296,zxw),(297,zxE),(278,zxC),(237,zxS),(251,zxW),(252,zxV),(154,zxu),(190,zxF),(279,zxi),(280,zxz),(298,zxG),(253,zxU),(281,zxr),(282,zxt),(254,zxL),(255,zxY),(283,zxx),(234,zw7),(246,zw8),(221,zv3),(258,zv5),(222,zvW),(284,zxy),(226,zwU),(265,zwc),(261,zwd),(266,zww),(289,zwj),(292,zwo),(290,zwn),(300,zwk),(268,zwx),(205,zwA),(240,zwQ),(272,zv7),(241,zwK),(238,zx0),(271,zxT),(294,zxI),(256,zxR),(285,zxb),(286,zxp),(257,zxZ),(287,zxP),(288,zxj),(299,zwE),(186,zwL),(242,zwV),(229,zwY),(235,zvY),(230,zv2),(143,zyj),(173,zxQ),(152,zwO),(162,zx9),(200,zxM),(174,zyh),(175,zwR),(176,zx1),(177,zx3),(179,zvS),(178,zvX),(180,zwP),(223,zv9),(259,zwe),(260,zwf),(113,zyl),(145,zyk),(181,zxc),(146,zxf),(148,zym),(185,zyo),(212,zwH),(244,zw0),(245,zwu),(274,zwi),(291,zwl),(293,zwq),(302,zwp),(301,zwm),(275,zws),(228,zwv),(269,zwh),(225,zwS),(232,zw1),(262,zvZ),(263,zvV),(243,zwb),(273,zv4),(264,zwt),(270,zwg),(149,zyn),(92,zw9),(128,zvR),(114,zyp),(91,zxa),(125,zvO),(126,zvQ),(150,zyr),(151,zyq),(153,zys),(187,zwz),(227,zwX),(267,zwJ),(188,zwM),(231,zwa),(189,zwC),(233,zwr),(115,zyt),(116,zyu),(155,zxk),(156,zxl),(157,zxm),(191,zxn),(117,zyv),(158,zyw),(159,zyx),(192,zw6),(193,zv1),(194,zv0),(195,zwy),(118,zyy),(160,zyf),(161,zyB),(196,zyC),(199,zyz),(197,zwF),(236,zv6),(198,zyA),(119,zyD),(163,zyG),(201,zyH),(204,zyE),(202,zwG),(239,zwW),(203,zyF),(120,zyI),(164,zyL),(206,zyM),(209,zyJ),(207,zwT),(208,zyK),(121,zyN),(165,zyO),(210,zw2),(211,zwD),(122,zyP),(166,zyQ),(214,zw5),(213,zwB),(215,zw4),(56,zyW),(90,zxA),(57,zy0),(25,zyS),(46,zx6),(84,zx7),(110,zx8),(10,zakH),(12,zaio),(24,zHG),(26,zHK),(47,zHJ),(16,zakW),(32,zakJ),(33,zakO),(59,zakR),(93,zakP),(94,zakT),(129,zakQ),(169,zakS),(34,zakX),(35,zakl),(60,zakm),(27,zakU),(49,zak1),(51,zakV),(52,zak2),(53,zak3),(88,zvJ),(50,zakK),(87,zakN),(54,zak5),(89,zak0),(123,zakL),(124,zak4),(167,zakq),(216,zaks),(217,zakp),(247,zakr),(248,zakt),(249,zakn),(276,zako),(218,zakM),(28,zakY)]
def G:FuncId->Option AFn:=fun f=>Go.Sim.look f tab
theorem zafX:G 3=some zain:=tk
theorem zaiu:G 38=some zaiq:=tk
theorem zaiv:G 96=some zair:=tk
theorem zaiw:G 98=some zagJ:=tk
theorem zagh:G 99=some zaij:=tk
theorem zala:G 64=some zaim:=tk
theorem zait:G 103=some zaii:=tk
theorem zak8:G 65=some zaik:=tk
theorem zak9:G 104=some zail:=tk
theorem zagi:G 41=some zaip:=tk
theorem zH0:G 9=some zvH:=tk
theorem zrA:G 14=some zvG:=tk
theorem ze8:G 43=some zvz:=tk
theorem zHX:G 77=some zvy:=tk
theorem zgS:G 44=some zxv:=tk
theorem zW7:G 79=some zxD:=tk
theorem zH7:G 108=some zv8:=tk
theorem zzb:G 127=some zvP:=tk
theorem zW8:G 190=some zxF:=tk
theorem zWR:G 289=some zwj:=tk
theorem zWT:G 290=some zwn:=tk
theorem zd9:G 285=some zxb:=tk
theorem zWQ:G 274=some zwi:=tk
theorem zWW:G 293=some zwq:=tk
theorem zH9:G 301=some zwm:=tk
theorem zzi:G 269=some zwh:=tk
theorem zrE:G 273=some zv4:=tk
theorem zrB:G 125=some zvO:=tk
theorem zWI:G 126=some zvQ:=tk
theorem zf0:G 57=some zy0:=tk
theorem zXj:G 110=some zx8:=tk
theorem zalb:G 12=some zaio:=tk
end Go.Proofs.YtcembpbhkcbnhaaGreat

namespace Go.Sim
variable {G:FuncId->Option AFn}
theorem zsO {T:Type} {ks:List Nat} {x:zg} (μ:T->Nat) (inv:T->Prop) (st:T->St) (Q:T->Option (zX×St)->Prop)
    (h:∀t,inv t->∀L:St->Option (zX×St),(∀t',inv t'->μ t'<μ t->Q t' (L (st t')))->Q t ((exL G x (st t)).bind (zc0 ks L))):∀t,inv t->Q t (z6 G ks x (st t)):=by
 intro t;generalize hk:μ t=k
 induction k using Nat.strongRecOn generalizing t with
 | ind k ih=>
  intro hi;rw[zaC];exact h t hi _ fun t' hi' hlt=>ih (μ t') (by omega) t' rfl hi'
end Go.Sim

namespace Go.Sim
variable {G:FuncId->Option AFn}
theorem wr{x:Int}(h: -9223372036854775808<=x/\x<9223372036854775808):IntKind.i64.wrap x=x:=by
 rw[Go.IntWalk.i64_in _ (by omega)]
theorem wu64{x:Int}(h:0<=x/\x<18446744073709551616):IntKind.u64.wrap x=x:=by rw[Go.IntWalk.u64_in _ (by omega)]
theorem wu8{x:Int}(h:0<=x/\x<256):IntKind.u8.wrap x=x:=by rw[Go.IntWalk.u8_in _ (by omega)]
theorem ltT{a b:Int}(h:a<b):(a<b)=True:=zabA h
theorem ltF{a b:Int}(h:b<=a):(a<b)=False:=zabt (by omega)
theorem leT{a b:Int}(h:a<=b):(a<=b)=True:=zabA h
theorem leF{a b:Int}(h:b<a):(a<=b)=False:=zabt (by omega)
theorem eqT{a b:Int}(h:a=b):(a=b)=True:=zabA h
theorem eqF{a b:Int}(h:¬a=b):(a=b)=False:=zabt h
theorem zalQ{α:Type}{l:List α}{a:Nat}(h:a<l.length):(a<l.length)=True:=zabA h
theorem zYU{α:Type}{l:List α}{a:Nat}(h:l.length<=a):(a<l.length)=False:=zabt (by omega)
theorem zYT{α:Type}{l:List α}{c:Nat}(h:l.length<=c):(l.length<=c)=True:=zabA h
theorem zRI{a b c:Nat}(h:a+b<=c):(a+b<=c)=True:=zabA h
theorem zY0:LIM=4294967296:=rfl
theorem zZs{α β:Type}{f:α->β}{l:List α}{k:Nat}(h:k<l.length):(l.map f)[k]? = some (f (l[k]'h)):=by
 rw[zabI,zabx h];rfl
theorem zaaw{k:Nat}:((k:Int)+1).toNat=k+1:=by omega
theorem zg5 {ks:List Nat} {x:zg} (n:Nat) (p:Nat->Bool) (st:Nat->St) (R fin:zX×St)
    (h:∀k,k<=n->∀L:St->Option (zX×St),(exL G x (st k)).bind (zc0 ks L)=if k<n then (if p k=true then L (st (k+1)) else some R) else some fin):
    z6 G ks x (st 0)=some (if (List.range n).all p=true then fin else R):=by
 have key:∀m k,k+m=n->z6 G ks x (st k)=some (if ((List.range' k m).all p)=true then fin else R):=by
  intro m
  induction m with
  | zero=>
   intro k hk;rw[zaC,h k (by omega),zabn (by omega)];rfl
  | succ m ih=>
   intro k hk;rw[zaC,h k (by omega),zabo (by omega),zacX,zacn,ih (k+1) (by omega)]
   cases p k<;>rfl
 have:=key n 0 (by omega)
 rwa [<- zadK] at this
def zhI{α:Type}(n:Nat)(p:Nat->Bool)(R:Nat->α)(fin:α):α:=match (List.range n).find? p with|some k=>R k|none=>fin
theorem ziZ {ks:List Nat} {x:zg} (n:Nat) (p:Nat->Bool) (st:Nat->St) (R:Nat->zX×St) (fin:zX×St)
    (h:∀k,k<=n->∀L:St->Option (zX×St),(exL G x (st k)).bind (zc0 ks L)=if k<n then (if p k=true then some (R k) else L (st (k+1))) else some fin):
    z6 G ks x (st 0)=some (zhI n p R fin):=by
 have key:∀m k,k+m=n->z6 G ks x (st k)=some (match (List.range' k m).find? p with|some k=>R k|none=>fin):=by
  intro m
  induction m with
  | zero=>
   intro k hk;rw[zaC,h k (by omega),zabn (by omega)];rfl
  | succ m ih=>
   intro k hk;rw[zaC,h k (by omega),zabo (by omega),zacX,List.find?_cons,ih (k+1) (by omega)]
   cases p k<;>rfl
 have:=key n 0 (by omega)
 rwa [<- zadK] at this
def zbP{α:Type}(p:α->Bool)(es:List α):Int:=match es.findIdx? p with|some i=>i|none=> -1
def atB{α:Type}(l:List α)(p:α->Bool)(k:Nat):Bool:=match l[k]? with|some a=>p a|none=>false
theorem zV2{α:Type}(l:List α)(p:α->Bool):(List.range l.length).find? (atB l p)=l.findIdx? p:=by
 have key:∀(m k:Nat),k+m=l.length->(List.range' k m).find? (atB l p)=((l.drop k).findIdx? p).map (k+ ·):=by
  intro m
  induction m with
  | zero=>intro k hk;rw[zaef (by omega)];rfl
  | succ m ih=>
   intro k hk;rw[zacX,List.find?_cons,zabX (show k<l.length by omega),List.findIdx?_cons,ih (k+1) (by omega)];have:atB l p k=p (l[k]'(by omega)):=by unfold atB;rw[zabx (by omega)]
   rw[this]
   cases p (l[k]'(by omega)) with
   | true=>simp
   | false=>
    cases (l.drop (k+1)).findIdx? p with
    | none=>rfl
    | some i=>simp;omega
 have:=key l.length 0 (by omega);rw[<- zadK] at this;rw[this,zabZ]
 cases l.findIdx? p<;>simp only[Option.map_none,zab8,zabU]
theorem zgH{α:Type}{l:List α}{p:α->Bool}{k:Nat}(h:k<l.length):atB l p k=p l[k]:=by
 unfold atB;rw[zabx h]
theorem zj6{α β:Type}(l:List α)(p:α->Bool)(R:Nat->β)(fin:β):zhI l.length (atB l p) R fin=match l.findIdx? p with|some k=>R k|none=>fin:=by
 unfold zhI;rw[zV2]
theorem zLJ{α:Type}(l:List α)(p:α->Bool):decide (0<=zbP p l)=l.any p:=by
 unfold zbP
 cases h:l.findIdx? p with
 | none=>simp at h;simpa using h
 | some i=>
  have:=zact.1 h;simp;exact⟨_,zabC this.1,this.2.1⟩
theorem zsd{α:Type}(l:List α)(p:α->Bool): -1<=zbP p l/\zbP p l<l.length:=by
 unfold zbP
 cases e:l.findIdx? p with
 | none=>simp only;omega
 | some i=>have:=(zact.1 e).1;simp only;omega
theorem zagO{α:Type}{l:List α}{p:α->Bool}{i:Nat}(h:zbP p l=i):∃hi:i<l.length,p (l[i])=true/\∀j (hj:j<i),p (l[j]'(by omega))=false:=by
 unfold zbP at h
 cases e:l.findIdx? p with
 | none=>rw[e] at h;simp only at h;omega
 | some k=>
  rw[e] at h;simp only at h;obtain rfl:k=i:=by omega
  obtain⟨h1,h2,h3⟩:=zact.1 e;exact⟨h1,h2,fun j hj=>by have:=h3 j hj;simpa using this⟩
theorem zse{α:Type}(l:List α)(p:α->Bool):zbP p l<0↔∀a∈l,p a=false:=by
 have:=zLJ l p;have h2:l.any p=false↔∀a∈l,p a=false:=by simp
 rw[<- h2, <- this];simp
theorem zagN{α:Type}(l:List α)(p:α->Bool):zbP p l<0↔zbP p l= -1:=by have:=zsd l p;omega
end Go.Sim

namespace Go.Sim
theorem zh{α:Type}{l:List α}{k:Nat}{d:α}(h:k<l.length):l.getD k d=l[k]'h:=by
 rw[zab0,zabx h];rfl
theorem setMap{α β:Type}{f:α->β}{l:List α}{k:Nat}{x:α}:(l.map f).set k (f x)=(l.set k x).map f:=by rw[zacw]
theorem zZt{α β γ:Type}{f:α->β}{g:β->γ}{l:List α}{k:Nat}(h:k<l.length):((l.map f).map g)[k]? = some (g (f (l[k]'h))):=by
 rw[zacQ,zabI,zabx h];rfl
theorem zYV{α:Type}{l:List α}{k:Nat}{x:α}:(l.set k x).length=l.length:=zacb
theorem zg7{α:Type}{f:α->D}{l:List α}{k:Nat}{x:α}:(l.set k x).map f=(l.map f).set k (f x):=by rw[zacw]
theorem znx{ds:List D}{k:Nat}{x:D}:(ds.map AV.d).set k (.d x)=(ds.set k x).map AV.d:=by rw[zacw]
theorem zad{α:Type}{c:Prop}[Decidable c]{A B r:α}(h1:c->A=r)(h2:¬c->B=r):(if c then A else B)=r:=by split<;>simp_all
theorem z97{ds:List D}{n:Nat}:(ds.map AV.d).take n=(ds.take n).map AV.d:=by rw[zac7]
theorem zajx{ds:List D}{n:Nat}:(ds.map AV.d).drop n=(ds.drop n).map AV.d:=by rw[zadO]
theorem z99{α:Type}{f:α->D}{l:List α}{n k:Nat}{x:D}(h:l.length<=n):((l.map f).set k x).take n=(l.map f).set k x:=zada (by simpa using h)
theorem z96{α:Type}{f:α->D}{l:List α}{n:Nat}(h:l.length<=n):(l.map f).take n=l.map f:=zada (by simpa using h)
theorem zae{α:Type}{c:Prop}[Decidable c]{A B r:α}(h1:c->r=A)(h2:¬c->r=B):r=if c then A else B:=by split<;>simp_all
attribute [go_sem ↓] reduceIte
attribute [go_sem] reduceCtorEq Nat.reduceEqDiff Nat.reduceAdd Nat.reduceBEq Nat.reduceMul Nat.reduceLeDiff Nat.reduceSub Nat.reduceLT Nat.reduceDiv Nat.reduceMod List.reduceReplicate Int.reduceEq Int.reduceLT Int.reduceLE Int.reduceAdd Int.reduceSub Int.reduceMul Int.reduceNeg Int.reduceToNat
attribute [go_sem] zaaw z97 zajx z99 z96 zYV zg7 znx zZt wr or_self zacP false_or zadq or_true zacz zadr zadC zadf zabQ zabv zY0 wu64 wu8 Bool.true_beq Bool.false_beq zacs zacy ltT ltF leT leF eqT eqF zalQ zYU zYT zRI zZs zab5 Int.natCast_nonneg zabE
theorem pA{a b:Bool}:((a||b)=true)=(a=true\/b=true):=zacj a b
theorem pB{a b:Bool}:((a&&b)=true)=(a=true/\b=true):=zabH a b
theorem pC{p:Prop}[Decidable p]:(decide p=true)=p:=decide_eq_true_eq
theorem pD{a:Bool}:((!a)=true)=(a=false):=zace a
theorem pE{p:Prop}[Decidable p]:(decide p=false)=¬p:=by simp
theorem pF{p q:Prop}:(¬(p\/q))=(¬p/\¬q):=by simp
theorem pG{a b:Int}:(¬a<b)=(b<=a):=by simp
theorem pH{a b:Int}:(¬a<=b)=(b<a):=by simp
theorem pI{a b:Nat}:(¬a<b)=(b<=a):=by simp
theorem pJ{a b:Nat}:(¬a<=b)=(b<a):=by simp
theorem pK{a b:Bool}:((a||b)=false)=(a=false/\b=false):=by simp
theorem pL{a b:Bool}:((a&&b)=false)=(a=false\/b=false):=by cases a<;>cases b<;>simp
theorem pM{a:Bool}:((!a)=false)=(a=true):=by simp
theorem pN:(true=false)=False:=by simp
theorem pO:(false=true)=False:=by simp
theorem pP{p:Prop}:(¬ ¬p)=p:=by simp
end Go.Sim

namespace Go.Sim
open Go
theorem zW {G:FuncId->Option AFn} {f:FuncId} {c:zg} {rs:List zl} {nt:Nat} {sl:Bool} (h:G f=some (.code c rs nt sl):=by exact rfl) {args:List AV} {os:zd} {R:Option (AV×zd)} (hl:args.length<=nt:=by simp)
    (e:(exL G c ⟨enter args++zf1 os,os⟩).bind (zgh sl rs os)=R:=by simp -implicitDefEqProofs (maxSteps:=4000000) (disch:=omega) only[zh,go_sem, *];(try simp only[pA,pB,pC,pD,pE,pF,pG,pH,pI,pJ,pK,pL,pM,pN,pO,pP,if_true,if_false]);repeat' (first|done|rfl|(refine zad (fun hq=> ?_) (fun hq=> ?_)<;>(try (first|(exfalso;omega)|contradiction))<;>(try simp -implicitDefEqProofs (maxSteps:=4000000) (disch:=omega) only[zh,go_sem, *])<;>(try simp only[pA,pB,pC,pD,pE,pF,pG,pH,pI,pJ,pK,pL,pM,pN,pO,pP,if_true,if_false])));(all_goals try rfl);(all_goals try (repeat' (first|done|rfl|(exfalso;omega)|contradiction|(refine zae (fun hq=> ?_) (fun hq=> ?_)))))):zi G f args os=R:=(zI h hl).trans e
theorem zS{p:Prop}(e:p:=by (try simp -implicitDefEqProofs (maxSteps:=4000000) (disch:=omega) only[zh,go_sem, *]);(try simp only[pA,pB,pC,pD,pE,pF,pG,pH,pI,pJ,pK,pL,pM,pN,pO,pP,if_true,if_false]);repeat' (first|done|rfl|(refine zad (fun hq=> ?_) (fun hq=> ?_)<;>(try (first|(exfalso;omega)|contradiction))<;>(try simp -implicitDefEqProofs (maxSteps:=4000000) (disch:=omega) only[zh,go_sem, *])<;>(try simp only[pA,pB,pC,pD,pE,pF,pG,pH,pI,pJ,pK,pL,pM,pN,pO,pP,if_true,if_false])));(all_goals try rfl);(all_goals try (repeat' (first|done|rfl|(exfalso;omega)|contradiction|(refine zae (fun hq=> ?_) (fun hq=> ?_)))))):p:=e
theorem zNr:type_of% @zacs/\type_of% @zacy/\type_of% @zabQ/\type_of% @zadC/\type_of% @zadf/\type_of% @zabv.{0}/\type_of% @zabE.{0,0}/\type_of% @zabq.{0,0}/\type_of% @zabw.{0}/\type_of% @zabF.{0,0}/\type_of% @zabs.{0,0}/\type_of% @zabu.{0}/\type_of% @zabU/\type_of% @zg7:=
 ⟨@zacs, @zacy, @zabQ, @zadC, @zadf, @zabv, @zabE, @zabq, @zabw, @zabF, @zabs, @zabu, @zabU, @zg7⟩
theorem zPr:type_of% @pA/\type_of% @pB/\type_of% @pC/\type_of% @pD/\type_of% @pE/\type_of% @pF/\type_of% @pG/\type_of% @pH/\type_of% @pI/\type_of% @pJ/\type_of% @pK/\type_of% @pL/\type_of% @pM/\type_of% @pN/\type_of% @pO/\type_of% @pP/\type_of% @if_true.{1}/\type_of% @if_false.{1}:=
 ⟨@pA, @pB, @pC, @pD, @pE, @pF, @pG, @pH, @pI, @pJ, @pK, @pL, @pM, @pN, @pO, @pP, @if_true, @if_false⟩
theorem zo{p:Prop}(h:p:=by omega):p:=h
end Go.Sim

namespace Go.Proofs.YtcembpbhkcbnhaaGreat
open Go Go.Sim
attribute [go_sem] zafC zah1 zag6 zahd zag7 zahm zafU zag9 zahl zahj zahe zahf zagc zahk zahg zahh zahc zafB zagD zag8 zag5 zagb zagB zag4 zahi zagC zaha zahb zahK zahy zahA zahI zqN zux zFQ zFP zE7 zE8 zFR zFT zEG zEW zEu zuy zEr zuB zEt zqO zuD zuF zl1 zER zEX zEf zEc zuu zqM zuE zEp zFS zE5 zD8 zFU zE6 zjO zur zFW zFV zFX zEy zEV zEI zEL zEo zEB zuC zFY zFZ zFd zuK zFe zuL zF0 zF1 zF2 zE2 zEh zEg zEx zF3 zl2 zF5 zqY zqX zEE zEl zF4 zF6 zF8 zq0 zqZ zEF zEU zF7 zF9 zGb zq2 zq1 zES zGa zGc zGd zEY zEC zGe zGf zE1 zEA zE0 zGn zuO zu0 zGj zFH zFI zuW zahJ zagE zD1 zGi zGh zahY zahL zahQ zahT zahR zahV zahS zahU zahZ zahn zaho zahW zah3 zahX zah4 zah5 zD3 zahM zahP zah7 zah2 zahN zah6 zahs zahu zahr zaht zahv zahp zahq zahO zah0 zafT zahF zahC zahD zahx zahG zahH zahB zahE zahw zahz zDU zD0 zjN zDY zDW zup zDZ zDV zd5 zDX zqK zD2 zGo zGk zuN zuP zuJ zEH zut zEM zuI zEZ zjP zGl zGm zq3 zGg zuY zFO zFK zFg zuX zqV zFG zFf zEa zl0 zEb zuV zFL zFi zqP zE9 zFa zFM zqU zqT zuZ zuT zFB zFr zFm zFp zFk zFo zFn zFw zFA zFz zFj zuQ zFb zFl zuR zFy zFh zuM zuS zFC zqR zE3 zE4 zEj zEk zEd zqS zET zuv zuw zEv zuz zEs zuA zEq zEw zEz zEP zEm zEJ zFE zFx zFq zFv zhs zqQ zFD zFt zFc zED zEK zuG zuH zEe zEi zqW zFu zEN zFJ zFs zFN zEQ zuU zFF zD9 zus zEO zEn
end Go.Proofs.YtcembpbhkcbnhaaGreat

namespace Go.Sim
theorem zF{p:Prop}(e:p:=by (repeat' split at *)<;>(try simp_all)<;>(try omega)):p:=e
end Go.Sim

namespace Go.Proofs.YtcembpbhkcbnhaaGreat
open Go Go.Sim
abbrev zC(l:List Int):List D:=l.map (.int .i64)
theorem zt6(l:List Int):zas 1 (zC l)=true:=by simp [zas,D.size,D.cells]
def zaA(b:List UInt8):D:= .sl (byD b)
theorem zRX(l:List (List UInt8)):zas 1 (l.map zaA)=true:=by simp [zas,D.size,D.cells,zaA]
theorem zRZ(l:List (List UInt8)):zas 1 (l.map D.str)=true:=by simp [zas,D.size,D.cells]
abbrev Due:=Int×Int
def eD(d:Due):D:= .agg [.int .i64 d.1,.int .i64 d.2]
theorem zUn(d:Due):(eD d).cells=[.int .i64 d.1,.int .i64 d.2]:=rfl
theorem ze5(d:Due):(eD d).size=2:=rfl
theorem zfS(d:Due):(eD d).asAgg=eD d:=rfl
theorem zUo(d:Due):(eD d).isT=false:=rfl
theorem zjJ(h:List Due):zas 2 (h.map eD)=true:=by simp [zas,ze5]
structure Span where
 low:Int
 high:Int
 shard:Int
 deriving DecidableEq
def zeC:Span:=⟨0,0,0⟩
instance:Inhabited Span:=⟨zeC⟩
def zca(x:Span):D:= .agg [.int .i64 x.low,.int .i64 x.high,.int .i64 x.shard]
theorem zUP(x:Span):(zca x).cells=[.int .i64 x.low,.int .i64 x.high,.int .i64 x.shard]:=rfl
theorem zHk(x:Span):(zca x).size=3:=rfl
theorem zUO(x:Span):(zca x).asAgg=zca x:=rfl
theorem zUQ(x:Span):(zca x).isT=false:=rfl
theorem zRT(l:List Span):zas 3 (l.map zca)=true:=by simp [zas,zHk]
structure zabk where
 version:Int
 l:List Span
 forward:List Int
 deriving DecidableEq
def zcF:zabk:=⟨0,[],[]⟩
instance:Inhabited zabk:=⟨zcF⟩
def zaT(x:zabk):D:= .agg [.int .i64 x.version,.sl (x.l.map zca),.sl (zC x.forward)]
theorem zUt(x:zabk):(zaT x).cells=[.int .i64 x.version,.sl (x.l.map zca),.sl (zC x.forward)]:=rfl
theorem zUv(x:zabk):(zaT x).size=3:=rfl
theorem zUs(x:zabk):(zaT x).asAgg=zaT x:=rfl
theorem zUu(x:zabk):(zaT x).isT=false:=rfl
structure Edit where
 kind:Int
 from_:Int
 to:Int
 mid:Int
 deriving DecidableEq
def ztX:Edit:=⟨0,0,0,0⟩
instance:Inhabited Edit:=⟨ztX⟩
def zfT(x:Edit):D:= .agg [.int .i64 x.kind,.int .i64 x.from_,.int .i64 x.to,.int .i64 x.mid]
theorem zUx(x:Edit):(zfT x).cells=[.int .i64 x.kind,.int .i64 x.from_,.int .i64 x.to,.int .i64 x.mid]:=rfl
theorem zUz(x:Edit):(zfT x).size=4:=rfl
theorem zUw(x:Edit):(zfT x).asAgg=zfT x:=rfl
theorem zUy(x:Edit):(zfT x).isT=false:=rfl
structure Setup where
 slots:Int
 live:Int
 capacity:Int
 dead:Int
 limit:Int
 clock:Int
 nextID:Int
 epoch:Int
 deriving DecidableEq
def zdt:Setup:=⟨0,0,0,0,0,0,0,0⟩
instance:Inhabited Setup:=⟨zdt⟩
def zaJ(x:Setup):D:= .agg [.int .i64 x.slots,.int .i64 x.live,.int .i64 x.capacity,.int .i64 x.dead,.int .i64 x.limit,.int .i64 x.clock,.int .i64 x.nextID,.int .i64 x.epoch]
theorem zHg(x:Setup):(zaJ x).size=8:=rfl
theorem zHd(x:Setup):(zaJ x).asAgg=zaJ x:=rfl
theorem zHf(x:Setup):(zaJ x).isT=false:=rfl
theorem zHe(x:Setup):(zaJ x).size=8/\(zaJ x).isT=false/\(zaJ x).asAgg=zaJ x:=⟨zHg x,zHf x,zHd x⟩
structure zj where
 id:Int
 route:Int
 epoch:Int
 count:Int
 gen:Int
 sent:Int
 body:List UInt8
 deriving DecidableEq
def zaa:zj:=⟨0,0,0,0,0,0,[]⟩
instance:Inhabited zj:=⟨zaa⟩
def zm(x:zj):D:= .agg [.int .i64 x.id,.int .i64 x.route,.int .i64 x.epoch,.int .i64 x.count,.int .i64 x.gen,.int .i64 x.sent,.str x.body]
theorem zUK(x:zj):(zm x).cells=[.int .i64 x.id,.int .i64 x.route,.int .i64 x.epoch,.int .i64 x.count,.int .i64 x.gen,.int .i64 x.sent,.str x.body]:=rfl
theorem zG4(x:zj):(zm x).size=7:=rfl
theorem zUJ(x:zj):(zm x).asAgg=zm x:=rfl
theorem zUL(x:zj):(zm x).isT=false:=rfl
theorem zt5(l:List zj):zas 7 (l.map zm)=true:=by simp [zas,zG4]
structure zah where
 cells:List zj
 head:Int
 size:Int
 deriving DecidableEq
def zay:zah:=⟨[],0,0⟩
instance:Inhabited zah:=⟨zay⟩
def zai(x:zah):D:= .agg [.sl (x.cells.map zm),.int .i64 x.head,.int .i64 x.size]
structure zG where
 msg:zj
 deadline:Int
 deriving DecidableEq
def zbH:zG:=⟨⟨0,0,0,0,0,0,[]⟩,0⟩
instance:Inhabited zG:=⟨zbH⟩
def zaI(x:zG):D:= .agg [.int .i64 x.msg.id,.int .i64 x.msg.route,.int .i64 x.msg.epoch,.int .i64 x.msg.count,.int .i64 x.msg.gen,.int .i64 x.msg.sent,.str x.msg.body,.int .i64 x.deadline]
theorem zUD(x:zG):(zaI x).cells=[.int .i64 x.msg.id,.int .i64 x.msg.route,.int .i64 x.msg.epoch,.int .i64 x.msg.count,.int .i64 x.msg.gen,.int .i64 x.msg.sent,.str x.msg.body,.int .i64 x.deadline]:=rfl
theorem zG3(x:zG):(zaI x).size=8:=rfl
theorem zUC(x:zG):(zaI x).asAgg=zaI x:=rfl
theorem zUE(x:zG):(zaI x).isT=false:=rfl
theorem zjI(l:List zG):zas 8 (l.map zaI)=true:=by simp [zas,zG3]
structure zN where
 l:List zG
 heap:List Due
 deriving DecidableEq
def zal:zN:=⟨[],[]⟩
instance:Inhabited zN:=⟨zal⟩
def zau(x:zN):D:= .agg [.sl (x.l.map zaI),.sl (x.heap.map eD)]
theorem zUU(x:zN):(zau x).cells=[.sl (x.l.map zaI),.sl (x.heap.map eD)]:=rfl
theorem zUW(x:zN):(zau x).size=2:=rfl
theorem zUT(x:zN):(zau x).asAgg=zau x:=rfl
theorem zUV(x:zN):(zau x).isT=false:=rfl
structure zt where
 live:Bool
 low:Int
 high:Int
 ready:zah
 leases:zN
 deriving DecidableEq
def zJ:zt:=⟨false,0,0,⟨[],0,0⟩,⟨[],[]⟩⟩
instance:Inhabited zt:=⟨zJ⟩
def zk(x:zt):D:= .agg [.bool x.live,.int .i64 x.low,.int .i64 x.high,.sl (x.ready.cells.map zm),.int .i64 x.ready.head,.int .i64 x.ready.size,.sl (x.leases.l.map zaI),.sl (x.leases.heap.map eD)]
theorem zUM(x:zt):(zk x).cells=[.bool x.live,.int .i64 x.low,.int .i64 x.high,.sl (x.ready.cells.map zm),.int .i64 x.ready.head,.int .i64 x.ready.size,.sl (x.leases.l.map zaI),.sl (x.leases.heap.map eD)]:=rfl
theorem zvi(x:zt):(zk x).size=8:=rfl
theorem zHh(x:zt):(zk x).asAgg=zk x:=rfl
theorem zHi(x:zt):(zk x).isT=false:=rfl
theorem zbm(x:zt):(zk x).size=8/\(zk x).isT=false/\(zk x).asAgg=zk x:=⟨zvi x,zHi x,zHh x⟩
theorem zRR(l:List zt):zas 8 (l.map zk)=true:=by simp [zas,zvi]
structure Slot where
 owner:Int
 shard:zt
 deriving DecidableEq
def zfC:Slot:=⟨0,⟨false,0,0,⟨[],0,0⟩,⟨[],[]⟩⟩⟩
instance:Inhabited Slot:=⟨zfC⟩
def zfU(x:Slot):D:= .agg [.int .i64 x.owner,.bool x.shard.live,.int .i64 x.shard.low,.int .i64 x.shard.high,.sl (x.shard.ready.cells.map zm),.int .i64 x.shard.ready.head,.int .i64 x.shard.ready.size,.sl (x.shard.leases.l.map zaI),.sl (x.shard.leases.heap.map eD)]
theorem zUN(x:Slot):(zfU x).cells=[.int .i64 x.owner,.bool x.shard.live,.int .i64 x.shard.low,.int .i64 x.shard.high,.sl (x.shard.ready.cells.map zm),.int .i64 x.shard.ready.head,.int .i64 x.shard.ready.size,.sl (x.shard.leases.l.map zaI),.sl (x.shard.leases.heap.map eD)]:=rfl
theorem zHj(x:Slot):(zfU x).size=9:=rfl
theorem zRS(l:List Slot):zas 9 (l.map zfU)=true:=by simp [zas,zHj]
structure zaeF where
 seq:Int
 epoch:Int
 ready:Int
 leased:Int
 deriving DecidableEq
def zb0:zaeF:=⟨0,0,0,0⟩
instance:Inhabited zaeF:=⟨zb0⟩
def zax(x:zaeF):D:= .agg [.int .i64 x.seq,.int .i64 x.epoch,.int .i64 x.ready,.int .i64 x.leased]
theorem zHl(x:zaeF):(zax x).size=4:=rfl
theorem zUR(x:zaeF):(zax x).asAgg=zax x:=rfl
theorem zUS(x:zaeF):(zax x).isT=false:=rfl
theorem zRU(l:List zaeF):zas 4 (l.map zax)=true:=by simp [zas,zHl]
structure za7 where
 cap:Int
 l:List zj
 deriving DecidableEq
def zaH:za7:=⟨0,[]⟩
instance:Inhabited za7:=⟨zaH⟩
def zT(x:za7):D:= .agg [.int .i64 x.cap,.sl (x.l.map zm)]
theorem zUp(x:za7):(zT x).cells=[.int .i64 x.cap,.sl (x.l.map zm)]:=rfl
theorem zUr(x:za7):(zT x).size=2:=rfl
theorem zUq(x:za7):(zT x).isT=false:=rfl
structure znR where
 owner:Int
 dead:za7
 deriving DecidableEq
def zabd:znR:=⟨0,⟨0,[]⟩⟩
instance:Inhabited znR:=⟨zabd⟩
def ze6(x:znR):D:= .agg [.int .i64 x.owner,.int .i64 x.dead.cap,.sl (x.dead.l.map zm)]
structure zy where
 slots:List Slot
 stripes:List zaeF
 dead:znR
 dir:zabk
 epoch:Int
 clock:Int
 nextID:Int
 deriving DecidableEq
def zM:zy:=⟨[],[],⟨0,⟨0,[]⟩⟩,⟨0,[],[]⟩,0,0,0⟩
instance:Inhabited zy:=⟨zM⟩
def zx(x:zy):D:= .agg [.sl (x.slots.map zfU),.sl (x.stripes.map zax),.int .i64 x.dead.owner,.int .i64 x.dead.dead.cap,.sl (x.dead.dead.l.map zm),.int .i64 x.dir.version,.sl (x.dir.l.map zca),.sl (zC x.dir.forward),.int .i64 x.epoch,.int .i64 x.clock,.int .i64 x.nextID]
theorem zUl(x:zy):(zx x).cells=[.sl (x.slots.map zfU),.sl (x.stripes.map zax),.int .i64 x.dead.owner,.int .i64 x.dead.dead.cap,.sl (x.dead.dead.l.map zm),.int .i64 x.dir.version,.sl (x.dir.l.map zca),.sl (zC x.dir.forward),.int .i64 x.epoch,.int .i64 x.clock,.int .i64 x.nextID]:=rfl
theorem zGV(x:zy):(zx x).size=11:=rfl
theorem zGT(x:zy):(zx x).asAgg=zx x:=rfl
theorem zGU(x:zy):(zx x).isT=false:=rfl
theorem zby(x:zy):(zx x).size=11/\(zx x).isT=false/\(zx x).asAgg=zx x:=⟨zGV x,zGU x,zGT x⟩
structure zir where
 phase:Int
 epoch:Int
 clock:Int
 stamp:Int
 deriving DecidableEq
def zeB:zir:=⟨0,0,0,0⟩
instance:Inhabited zir:=⟨zeB⟩
def zeM(x:zir):D:= .agg [.int .i64 x.phase,.int .i64 x.epoch,.int .i64 x.clock,.int .i64 x.stamp]
structure zaeE where
 kind:Int
 home:Int
 max:Int
 visibility:Int
 from_:Int
 to:Int
 bodies:List (List UInt8)
 tokens:List (List UInt8)
 deriving DecidableEq
def zfA:zaeE:=⟨0,0,0,0,0,0,[],[]⟩
instance:Inhabited zaeE:=⟨zfA⟩
def zbg(x:zaeE):D:= .agg [.int .i64 x.kind,.int .i64 x.home,.int .i64 x.max,.int .i64 x.visibility,.int .i64 x.from_,.int .i64 x.to,.sl (x.bodies.map .str),.sl (x.tokens.map zaA)]
theorem zG2(x:zaeE):(zbg x).size=8:=rfl
theorem zG0(x:zaeE):(zbg x).asAgg=zbg x:=rfl
theorem zG1(x:zaeE):(zbg x).isT=false:=rfl
theorem zUB(x:zaeE):(zbg x).size=8/\(zbg x).isT=false/\(zbg x).asAgg=zbg x:=⟨zG2 x,zG1 x,zG0 x⟩
structure Result where
 err:Int
 id:Int
 tokens:List (List UInt8)
 bodies:List (List UInt8)
 ready:Int
 leased:Int
 moved:Int
 deriving DecidableEq
def zac:Result:=⟨0,0,[],[],0,0,0⟩
instance:Inhabited Result:=⟨zac⟩
def z7(x:Result):D:= .agg [.int .i64 x.err,.int .i64 x.id,.sl (x.tokens.map zaA),.sl (x.bodies.map .str),.int .i64 x.ready,.int .i64 x.leased,.int .i64 x.moved]
theorem zvh(x:Result):(z7 x).size=7:=rfl
theorem zG8(x:Result):(z7 x).asAgg=z7 x:=rfl
theorem zG9(x:Result):(z7 x).isT=false:=rfl
theorem zl9(x:Result):(z7 x).size=7/\(z7 x).isT=false/\(z7 x).asAgg=z7 x:=⟨zvh x,zG9 x,zG8 x⟩
theorem zRQ(l:List Result):zas 7 (l.map z7)=true:=by simp [zas,zvh]
structure zbI where
 cells:List Int
 phase:Int
 have_:Int
 tries:Int
 wait:Int
 deriving DecidableEq
def zd1:zbI:=⟨[],0,0,0,0⟩
instance:Inhabited zbI:=⟨zd1⟩
def zb2(x:zbI):D:= .agg [.sl (zC x.cells),.int .i64 x.phase,.int .i64 x.have_,.int .i64 x.tries,.int .i64 x.wait]
theorem zUG(x:zbI):(zb2 x).cells=[.sl (zC x.cells),.int .i64 x.phase,.int .i64 x.have_,.int .i64 x.tries,.int .i64 x.wait]:=rfl
theorem zUI(x:zbI):(zb2 x).size=5:=rfl
theorem zUF(x:zbI):(zb2 x).asAgg=zb2 x:=rfl
theorem zUH(x:zbI):(zb2 x).isT=false:=rfl
structure zb1 where
 shards:List zt
 dead:za7
 order:List Int
 carry:List zj
 edits:List Edit
 deriving DecidableEq
def zfB:zb1:=⟨[],⟨0,[]⟩,[],[],[]⟩
instance:Inhabited zb1:=⟨zfB⟩
def zU(x:zb1):D:= .agg [.sl (x.shards.map zk),.int .i64 x.dead.cap,.sl (x.dead.l.map zm),.sl (zC x.order),.sl (x.carry.map zm),.sl (x.edits.map zfT)]
theorem zG7(x:zb1):(zU x).size=6:=rfl
theorem zG5(x:zb1):(zU x).asAgg=zU x:=rfl
theorem zG6(x:zb1):(zU x).isT=false:=rfl
theorem zri(x:zb1):(zU x).size=6/\(zU x).isT=false/\(zU x).asAgg=zU x:=⟨zG7 x,zG6 x,zG5 x⟩
structure Section where
 phase:Int
 at_:Int
 lock:zbI
 snap:zir
 shards:List zt
 dead:za7
 stripes:List zaeF
 dir:zabk
 out:zb1
 limit:Int
 carry:List zj
 deriving DecidableEq
def zbe:Section:=⟨0,0,⟨[],0,0,0,0⟩,⟨0,0,0,0⟩,[],⟨0,[]⟩,[],⟨0,[],[]⟩,⟨[],⟨0,[]⟩,[],[],[]⟩,0,[]⟩
instance:Inhabited Section:=⟨zbe⟩
def zA(x:Section):D:= .agg [.int .i64 x.phase,.int .i64 x.at_,.sl (zC x.lock.cells),.int .i64 x.lock.phase,.int .i64 x.lock.have_,.int .i64 x.lock.tries,.int .i64 x.lock.wait,.int .i64 x.snap.phase,.int .i64 x.snap.epoch,.int .i64 x.snap.clock,.int .i64 x.snap.stamp,.sl (x.shards.map zk),.int .i64 x.dead.cap,.sl (x.dead.l.map zm),.sl (x.stripes.map zax),.int .i64 x.dir.version,.sl (x.dir.l.map zca),.sl (zC x.dir.forward),.sl (x.out.shards.map zk),.int .i64 x.out.dead.cap,.sl (x.out.dead.l.map zm),.sl (zC x.out.order),.sl (x.out.carry.map zm),.sl (x.out.edits.map zfT),.int .i64 x.limit,.sl (x.carry.map zm)]
theorem zHc(x:Section):(zA x).size=26:=rfl
theorem zHa(x:Section):(zA x).asAgg=zA x:=rfl
theorem zHb(x:Section):(zA x).isT=false:=rfl
theorem zdD(x:Section):(zA x).size=26/\(zA x).isT=false/\(zA x).asAgg=zA x:=⟨zHc x,zHb x,zHa x⟩
structure Walk where
 next:Int
 covered:Int
 deriving DecidableEq
def zdc:Walk:=⟨0,0⟩
instance:Inhabited Walk:=⟨zdc⟩
def zbW(x:Walk):D:= .agg [.int .i64 x.next,.int .i64 x.covered]
structure za1 where
 id:Int
 gen:Int
 route:Int
 hint:Int
 deriving DecidableEq
def zds:za1:=⟨0,0,0,0⟩
instance:Inhabited za1:=⟨zds⟩
def zat(x:za1):D:= .agg [.int .i64 x.id,.int .i64 x.gen,.int .i64 x.route,.int .i64 x.hint]
structure Task where
 number:Int
 inv:zaeE
 invoked:Int
 done:Bool
 ended:Int
 pc:Int
 entry:Int
 results:List Result
 setup:Setup
 sec:Section
 dir:zabk
 walk:Walk
 slot:Int
 id:Int
 handle:za1
 loaded:Int
 first:List zaeF
 second:List zaeF
 deriving DecidableEq
def zE:Task:=⟨0,⟨0,0,0,0,0,0,[],[]⟩,0,false,0,0,0,[],⟨0,0,0,0,0,0,0,0⟩,⟨0,0,⟨[],0,0,0,0⟩,⟨0,0,0,0⟩,[],⟨0,[]⟩,[],⟨0,[],[]⟩,⟨[],⟨0,[]⟩,[],[],[]⟩,0,[]⟩,⟨0,[],[]⟩,⟨0,0⟩,0,0,⟨0,0,0,0⟩,0,[],[]⟩
instance:Inhabited Task:=⟨zE⟩
def zf(x:Task):D:= .agg [.int .i64 x.number,.int .i64 x.inv.kind,.int .i64 x.inv.home,.int .i64 x.inv.max,.int .i64 x.inv.visibility,.int .i64 x.inv.from_,.int .i64 x.inv.to,.sl (x.inv.bodies.map .str),.sl (x.inv.tokens.map zaA),.int .i64 x.invoked,.bool x.done,.int .i64 x.ended,.int .i64 x.pc,.int .i64 x.entry,.sl (x.results.map z7),.int .i64 x.setup.slots,.int .i64 x.setup.live,.int .i64 x.setup.capacity,.int .i64 x.setup.dead,.int .i64 x.setup.limit,.int .i64 x.setup.clock,.int .i64 x.setup.nextID,.int .i64 x.setup.epoch,.int .i64 x.sec.phase,.int .i64 x.sec.at_,.sl (zC x.sec.lock.cells),.int .i64 x.sec.lock.phase,.int .i64 x.sec.lock.have_,.int .i64 x.sec.lock.tries,.int .i64 x.sec.lock.wait,.int .i64 x.sec.snap.phase,.int .i64 x.sec.snap.epoch,.int .i64 x.sec.snap.clock,.int .i64 x.sec.snap.stamp,.sl (x.sec.shards.map zk),.int .i64 x.sec.dead.cap,.sl (x.sec.dead.l.map zm),.sl (x.sec.stripes.map zax),.int .i64 x.sec.dir.version,.sl (x.sec.dir.l.map zca),.sl (zC x.sec.dir.forward),.sl (x.sec.out.shards.map zk),.int .i64 x.sec.out.dead.cap,.sl (x.sec.out.dead.l.map zm),.sl (zC x.sec.out.order),.sl (x.sec.out.carry.map zm),.sl (x.sec.out.edits.map zfT),.int .i64 x.sec.limit,.sl (x.sec.carry.map zm),.int .i64 x.dir.version,.sl (x.dir.l.map zca),.sl (zC x.dir.forward),.int .i64 x.walk.next,.int .i64 x.walk.covered,.int .i64 x.slot,.int .i64 x.id,.int .i64 x.handle.id,.int .i64 x.handle.gen,.int .i64 x.handle.route,.int .i64 x.handle.hint,.int .i64 x.loaded,.sl (x.first.map zax),.sl (x.second.map zax)]
theorem zvj(x:Task):(zf x).size=63:=rfl
theorem zHm(x:Task):(zf x).asAgg=zf x:=rfl
theorem zHn(x:Task):(zf x).isT=false:=rfl
theorem zQ(x:Task):(zf x).size=63/\(zf x).isT=false/\(zf x).asAgg=zf x:=⟨zvj x,zHn x,zHm x⟩
theorem zRV(l:List Task):zas 63 (l.map zf)=true:=by simp [zas,zvj]
structure Item where
 id:Int
 state:Int
 count:Int
 gen:Int
 route:Int
 deadline:Int
 deriving DecidableEq
def zabf:Item:=⟨0,0,0,0,0,0⟩
instance:Inhabited Item:=⟨zabf⟩
def zabg(x:Item):D:= .agg [.int .i64 x.id,.int .i64 x.state,.int .i64 x.count,.int .i64 x.gen,.int .i64 x.route,.int .i64 x.deadline]
theorem zajH(x:Item):(zabg x).cells=[.int .i64 x.id,.int .i64 x.state,.int .i64 x.count,.int .i64 x.gen,.int .i64 x.route,.int .i64 x.deadline]:=rfl
theorem zaic(x:Item):(zabg x).size=6:=rfl
theorem zafV(x:Item):(zabg x).asAgg=zabg x:=rfl
theorem zajI(x:Item):(zabg x).isT=false:=rfl
theorem zafc(l:List Item):zas 6 (l.map zabg)=true:=by simp [zas,zaic]
structure Bag where
 limit:Int
 now:Int
 epoch:Int
 l:List Item
 deriving DecidableEq
def zBag:Bag:=⟨0,0,0,[]⟩
instance:Inhabited Bag:=⟨zBag⟩
def eBag(x:Bag):D:= .agg [.int .i64 x.limit,.int .i64 x.now,.int .i64 x.epoch,.sl (x.l.map zabg)]
theorem zajz(x:Bag):(eBag x).cells=[.int .i64 x.limit,.int .i64 x.now,.int .i64 x.epoch,.sl (x.l.map zabg)]:=rfl
theorem zajB(x:Bag):(eBag x).size=4:=rfl
theorem zajy(x:Bag):(eBag x).asAgg=eBag x:=rfl
theorem zajA(x:Bag):(eBag x).isT=false:=rfl
structure Grant where
 id:Int
 gen:Int
 route:Int
 deadline:Int
 deriving DecidableEq
def zabe:Grant:=⟨0,0,0,0⟩
instance:Inhabited Grant:=⟨zabe⟩
def zbt(x:Grant):D:= .agg [.int .i64 x.id,.int .i64 x.gen,.int .i64 x.route,.int .i64 x.deadline]
theorem zajG(x:Grant):(zbt x).cells=[.int .i64 x.id,.int .i64 x.gen,.int .i64 x.route,.int .i64 x.deadline]:=rfl
theorem zGZ(x:Grant):(zbt x).size=4:=rfl
theorem zajF(x:Grant):(zbt x).asAgg=zbt x:=rfl
theorem zUA(x:Grant):(zbt x).isT=false:=rfl
theorem zRP(l:List Grant):zas 4 (l.map zbt)=true:=by simp [zas,zGZ]
structure Event where
 stamp:Int
 task:Int
 entry:Int
 kind:Int
 now:Int
 epoch:Int
 err:Int
 l:List Grant
 ready:Int
 leased:Int
 deriving DecidableEq
def zbw:Event:=⟨0,0,0,0,0,0,0,[],0,0⟩
instance:Inhabited Event:=⟨zbw⟩
def zaw(x:Event):D:= .agg [.int .i64 x.stamp,.int .i64 x.task,.int .i64 x.entry,.int .i64 x.kind,.int .i64 x.now,.int .i64 x.epoch,.int .i64 x.err,.sl (x.l.map zbt),.int .i64 x.ready,.int .i64 x.leased]
theorem zajD(x:Event):(zaw x).cells=[.int .i64 x.stamp,.int .i64 x.task,.int .i64 x.entry,.int .i64 x.kind,.int .i64 x.now,.int .i64 x.epoch,.int .i64 x.err,.sl (x.l.map zbt),.int .i64 x.ready,.int .i64 x.leased]:=rfl
theorem zGY(x:Event):(zaw x).size=10:=rfl
theorem zajC(x:Event):(zaw x).asAgg=zaw x:=rfl
theorem zajE(x:Event):(zaw x).isT=false:=rfl
theorem zRO(l:List Event):zas 10 (l.map zaw)=true:=by simp [zas,zGY]
structure World where
 setup:Setup
 arena:zy
 tasks:List Task
 log:List Event
 steps:Int
 handles:List (List UInt8)
 deriving DecidableEq
def zbc:World:=⟨⟨0,0,0,0,0,0,0,0⟩,⟨[],[],⟨0,⟨0,[]⟩⟩,⟨0,[],[]⟩,0,0,0⟩,[],[],0,[]⟩
instance:Inhabited World:=⟨zbc⟩
def zabc(x:World):D:= .agg [.int .i64 x.setup.slots,.int .i64 x.setup.live,.int .i64 x.setup.capacity,.int .i64 x.setup.dead,.int .i64 x.setup.limit,.int .i64 x.setup.clock,.int .i64 x.setup.nextID,.int .i64 x.setup.epoch,.sl (x.arena.slots.map zfU),.sl (x.arena.stripes.map zax),.int .i64 x.arena.dead.owner,.int .i64 x.arena.dead.dead.cap,.sl (x.arena.dead.dead.l.map zm),.int .i64 x.arena.dir.version,.sl (x.arena.dir.l.map zca),.sl (zC x.arena.dir.forward),.int .i64 x.arena.epoch,.int .i64 x.arena.clock,.int .i64 x.arena.nextID,.sl (x.tasks.map zf),.sl (x.log.map zaw),.int .i64 x.steps,.sl (x.handles.map zaA)]
theorem zHq(x:World):(zabc x).size=23:=rfl
theorem zHo(x:World):(zabc x).asAgg=zabc x:=rfl
theorem zHp(x:World):(zabc x).isT=false:=rfl
theorem za6(x:World):(zabc x).size=23/\(zabc x).isT=false/\(zabc x).asAgg=zabc x:=⟨zHq x,zHp x,zHo x⟩
structure Ref where
 index:Int
 variant:Int
 raw:List UInt8
 deriving DecidableEq
def zRef:Ref:=⟨0,0,[]⟩
instance:Inhabited Ref:=⟨zRef⟩
def zhE(x:Ref):D:= .agg [.int .i64 x.index,.int .i64 x.variant,.sl (byD x.raw)]
structure Command where
 kind:Int
 pick:Int
 by_:Int
 inv:zaeE
 refs:List Ref
 deriving DecidableEq
def zRp:Command:=⟨0,0,0,⟨0,0,0,0,0,0,[],[]⟩,[]⟩
instance:Inhabited Command:=⟨zRp⟩
def zaW(x:Command):D:= .agg [.int .i64 x.kind,.int .i64 x.pick,.int .i64 x.by_,.int .i64 x.inv.kind,.int .i64 x.inv.home,.int .i64 x.inv.max,.int .i64 x.inv.visibility,.int .i64 x.inv.from_,.int .i64 x.inv.to,.sl (x.inv.bodies.map .str),.sl (x.inv.tokens.map zaA),.sl (x.refs.map zhE)]
theorem zvg(x:Command):(zaW x).size=12:=rfl
theorem zGW(x:Command):(zaW x).asAgg=zaW x:=rfl
theorem zGX(x:Command):(zaW x).isT=false:=rfl
theorem zUm(x:Command):(zaW x).size=12/\(zaW x).isT=false/\(zaW x).asAgg=zaW x:=⟨zvg x,zGX x,zGW x⟩
theorem zRN(l:List Command):zas 12 (l.map zaW)=true:=by simp [zas,zvg]
attribute [go_sem] zt6 zRX zRZ zUn ze5 zfS zUo zjJ zUP zHk zUO zUQ zRT zUt zUv zUs zUu zUx zUz zUw zUy zHg zHd zHf zUK zG4 zUJ zUL zt5 zUD zG3 zUC zUE zjI zUU zUW zUT zUV zUM zvi zHh zHi zRR zUN zHj zRS zHl zUR zUS zRU zUp zUr zUq zUl zGV zGT zGU zG2 zG0 zG1 zvh zG8 zG9 zRQ zUG zUI zUF zUH zG7 zG5 zG6 zHc zHa zHb zvj zHm zHn zRV zajH zaic zafV zajI zafc zajz zajB zajy zajA zajG zGZ zajF zUA zRP zajD zGY zajC zajE zRO zHq zHo zHp zvg zGW zGX zRN
theorem ztW{k n:Nat}(h:k<n)(hn:n<=LIM):IntKind.i64.wrap ((k:Int)+1)=((k+1:Nat):Int):=by
 unfold LIM at hn;rw[Go.IntWalk.i64_in _ zo];simp
def zrb(a b:Int):Int:=if a<b then -1 else if b<a then 1 else 0
def zGJ(a b:Due):Int:=if zrb a.1 b.1=0 then zrb a.2 b.2 else zrb a.1 b.1
def lt(a b:Due):Bool:=decide (zGJ a b<0)
def zdZ(d:Due):Bool:=decide (0<=d.1)&&(decide (d.1<=1073741824)&&(decide (1<=d.2)&&decide (d.2<=1073741824)))
def zbh(h:List Due)(j:Int):Int:=zbP (fun d=>decide (d.2=j)) h
theorem zRn{x:Int}(h0: -4294967296<=x)(h1:x<=4294967296):IntKind.i64.wrap x=x:=wr zo
abbrev srcO(l:List Int)(a:Nat):Go.Sim.Obj:= .row [.d (.agg [.sl (zC l),.int .i64 a])]
theorem zZ2(l:List Int)(hL:l.length<=LIM):zi G 8 [.d (.sl (zC l))] []=some (.ref 0 0 0,[(0,srcO (l.take 4000) 0)]):=by
 have hs:=zt6 l
 by_cases h:4000<l.length
 ·have e:zC (l.take 4000)=(zC l).take 4000:=by simp [zC,zac7]
  simp only[srcO,e];exact zW
 ·have e:l.take 4000=l:=zada zo;simp only[srcO,e];exact zW
def za0(l:List Int)(a:Nat):Int×Nat:=if a<l.length then (l.getD a 0,a+1) else (0,a)
theorem z6R(l:List Int)(a:Nat)(hL:l.length<=4000):zi G 23 [.ref 1000000 0 0] [(1000000,srcO l a)]=some (.d (.int .i64 (za0 l a).1),[(1000000,srcO l (za0 l a).2)]):=by
 unfold za0;have e:((a:Int)+1 - 1).toNat=a:=by omega
 by_cases h:a<l.length
 ·simp only[h,if_true];exact zW
 ·simp only[h,if_false];exact zW
def nD(l:List Int)(a:Nat)(n:Int):Int:=if (za0 l a).1.tmod n<0 then (za0 l a).1.tmod n+n else (za0 l a).1.tmod n
theorem zbE(l:List Int)(a:Nat){n:Int}(h:1<=n):0<=nD l a n/\nD l a n<n:=by
 unfold nD;have h1:=zadT (za0 l a).1 (show 0<n by omega);have h2:=Int.lt_tmod_of_pos (za0 l a).1 (show 0<n by omega)
 split<;>omega
theorem zgr(l:List Int)(a:Nat)(n:Int)(hL:l.length<=4000)(h1:1<=n)(h2:n<=4294967296):zi G 11 [.ref 1000000 0 0,.d (.int .i64 n)] [(1000000,srcO l a)]=some (.d (.int .i64 (nD l a n)),[(1000000,srcO l (za0 l a).2)]):=by
 have hr:=z6R l a hL;have h3:=zadT (za0 l a).1 (show 0<n by omega);have h4:=Int.lt_tmod_of_pos (za0 l a).1 (show 0<n by omega);unfold nD
 by_cases h:(za0 l a).1.tmod n<0
 ·simp only[h,if_true];exact zW
 ·simp only[h,if_false];exact zW
theorem zng(l:List Int)(a:Nat)(lo hi:Int)(hL:l.length<=4000)(h0: -4294967296<=lo)(h1:lo<=hi)(h2:hi<=4294967296)(h3:hi - lo<4294967296):zi G 30 [.ref 1000000 0 0,.d (.int .i64 lo),.d (.int .i64 hi)] [(1000000,srcO l a)]=some (.d (.int .i64 (lo+nD l a (hi - lo+1))),[(1000000,srcO l (za0 l a).2)]):=by
 have hr:=zgr l a (hi - lo+1) hL zo zo;have hn:=zbE l a (show 1<=hi - lo+1 by omega);exact zW
def zhD(h:List Due)(i:Nat):Bool:=decide (zbh h (h.getD i (0,0)).2≠i)
def zh4(h:List Due)(i:Nat):Bool:=lt (h.getD i (0,0)) (h.getD ((i - 1) / 2) (0,0))
def zce(h:List Due):Int:=if 12<h.length then 2 else if h.any (fun d=> !zdZ d) then 1 else if (List.range' 0 h.length).any (zhD h) then 10 else if (List.range' 1 (h.length - 1)).any (zh4 h) then 11 else 0
def swp(l:List Due)(i j:Nat):List Due:=(l.set i (l.getD j (0,0))).set j (l.getD i (0,0))
theorem zcP(l:List Due)(i j:Nat):(swp l i j).length=l.length:=by simp [swp]
def upL(l:List Due)(i:Nat):List Due×Nat:=
 if 0<i then
  if lt (l.getD i (0,0)) (l.getD ((i - 1) / 2) (0,0)) then upL (swp l i ((i - 1) / 2)) ((i - 1) / 2) else (l,i)
 else (l,i)
termination_by i
decreasing_by omega
theorem zaaR(l:List Due)(i:Nat):(upL l i).1.length=l.length:=by
 fun_induction upL l i with
 | case1 l i h0 h1 ih=>rw[ih,zcP]
 | case2=>rfl
 | case3=>rfl
def zbs(l:List Due)(i:Nat):List Due:=
 if _h:2 * i+1<l.length then
  let k:=if 2 * i+1+1<l.length/\lt (l.getD (2 * i+1+1) (0,0)) (l.getD (2 * i+1) (0,0)) then 2 * i+1+1 else 2 * i+1
  if lt (l.getD k (0,0)) (l.getD i (0,0)) then zbs (swp l i k) k else l
 else l
termination_by l.length - i
decreasing_by simp only[zcP];split<;>omega
def zfk(h:List Due)(d:Due):List Due:=(upL (h++[d]) h.length).1
def zm9(h:List Due)(d:Due):Int:=if zce h≠0 then zce h else if zdZ d=false then 1 else if h.length=12 then 3 else if 0<=zbh h d.2 then 10 else 0
def zfj(h:List Due)(d:Due):List Due×Int:=(if zm9 h d=0 then zfk h d else [],zm9 h d)
def eDE(r:List Due×Int):D:= .tup [.sl (r.1.map eD),.int .i64 r.2]
theorem zDe{h:List Due}(h0:zce h=0):h.length<=12:=by
 unfold zce at h0
 split at h0
 ·cases h0
 ·omega
def zdB(h:List Due)(i:Nat):List Due:=
 if i=h.length - 1 then h.take (h.length - 1) else
 let l:=(h.take (h.length - 1)).set i (h.getD (h.length - 1) (0,0))
 if (upL l i).2=i then zbs (upL l i).1 i else (upL l i).1
def zb6(h:List Due)(id:Int):List Due×Int:=
 if zce h≠0 then ([],zce h) else if zbh h id<0 then ([],4) else (zdB h (zbh h id).toNat,0)
theorem zV1(h:List Due)(id:Int):zbh h id<h.length:=by
 unfold zbh zbP
 cases e:List.findIdx? (fun d:Due=>decide (d.2=id)) h with
 | none=>simp only;omega
 | some i=>have:=(zact.1 e).1;simp only;omega
abbrev dz:Due:=(0,0)
theorem zBe(a b:Due):lt a b=true↔a.1<b.1\/(a.1=b.1/\a.2<b.2):=by
 unfold lt zGJ zrb;rw[decide_eq_true_iff]
 repeat' split
 all_goals omega
theorem zg6(a b:Due):lt a b=false↔b.1<a.1\/(b.1=a.1/\b.2<=a.2):=by
 rw[<- zac3,zBe];omega
theorem zi0{a b:Due}(h:lt a b=true):lt b a=false:=by rw[zBe] at h;rw[zg6];omega
theorem ziV{a b c:Due}(h1:lt b a=false)(h2:lt c b=false):lt c a=false:=by rw[zg6] at *; omega
def zin(l:List Due):Prop:=∀k,1<=k->k<l.length->lt (l.getD k dz) (l.getD ((k - 1) / 2) dz)=false
theorem zCW(l:List Due)(i j k:Nat)(hi:i<l.length)(hj:j<l.length):(swp l i j).getD k dz=if k=j then l.getD i dz else if k=i then l.getD j dz else l.getD k dz:=by
 unfold swp;simp only[zab0,zadh,zacb]
 by_cases h1:j=k
 ·subst h1;simp [hj]
 ·rw[zabn h1,zabn (Ne.symm h1)]
  by_cases h2:i=k
  ·subst h2;simp [hi]
  ·rw[zabn h2,zabn (Ne.symm h2)]
theorem zCX(l:List Due)(i j:Nat)(hi:i<l.length)(hj:j<l.length):(swp l i j).Perm l:=by
 unfold swp;have:=List.set_set_perm hi hj;simpa [hi,hj] using this
theorem zRf(l:List Due)(i:Nat)(hi:i<l.length):(upL l i).1.Perm l:=by
 fun_induction upL l i with
 | case1 l i h0 h1 ih=>exact (ih (by rw[zcP];omega)).trans (zCX l _ _ hi zo)
 | case2=>exact .refl _
 | case3=>exact .refl _
theorem zRe (l:List Due) (i:Nat) (hi:i<l.length) (h1:∀k,1<=k->k<l.length->k≠i->lt (l.getD k dz) (l.getD ((k - 1) / 2) dz)=false)
    (h2:∀k,1<=k->k<l.length->(k - 1) / 2=i->1<=i->lt (l.getD k dz) (l.getD ((i - 1) / 2) dz)=false):zin (upL l i).1:=by
 fun_induction upL l i with
 | case1 l i h0 hlt ih=>
  have hp:(i - 1) / 2<l.length:=by omega
  have e:=fun k=>zCW l i ((i - 1) / 2) k hi hp;refine ih (by rw[zcP];omega) (fun k ha hb hc=> ?_) (fun k ha hb hc hd=> ?_)
  ·rw[zcP] at hb;rw[e,e]
   by_cases hk:k=i
   ·subst hk;rw[zabn zo,zabo rfl,zabo rfl];exact zi0 hlt
   ·rw[zabn hc,zabn hk]
    by_cases hq:(k - 1) / 2=(i - 1) / 2
    ·rw[zabo hq];have:=h1 k ha hb hk;rw[hq] at this;exact ziV (zi0 hlt) this
    ·rw[zabn hq]
     by_cases hr:(k - 1) / 2=i
     ·rw[zabo hr];exact h2 k ha hb hr zo
     ·rw[zabn hr];exact h1 k ha hb hk
  ·rw[zcP] at hb;rw[e,e,zabn (show k≠(i - 1) / 2 by omega),zabn (show ((i - 1) / 2 - 1) / 2≠(i - 1) / 2 by omega),zabn (show ((i - 1) / 2 - 1) / 2≠i by omega)];have hpp:=h1 ((i - 1) / 2) hd hp zo
   by_cases hk:k=i
   ·rw[zabo hk];exact hpp
   ·rw[zabn hk];have:=h1 k ha hb hk;rw[hc] at this;exact ziV hpp this
 | case2 l i h0 hlt=>
  intro k ha hb
  by_cases hk:k=i
  ·subst hk;simpa using hlt
  ·exact h1 k ha hb hk
 | case3 l i h0=>
  intro k ha hb;exact h1 k ha hb zo
theorem zUa(l:List Due)(i:Nat)(hi:i<l.length):(zbs l i).Perm l:=by
 fun_induction zbs l i with
 | case1 l i h k h1 ih=>
  have hk:k<l.length:=by simp only[k];split<;>omega
  exact (ih (by rw[zcP];exact hk)).trans (zCX l _ _ hi hk)
 | case2=>exact .refl _
 | case3=>exact .refl _
theorem zT9 (l:List Due) (i:Nat) (hi:i<l.length) (h1:∀k,1<=k->k<l.length->(k - 1) / 2≠i->lt (l.getD k dz) (l.getD ((k - 1) / 2) dz)=false)
    (h2:∀k,1<=k->k<l.length->(k - 1) / 2=i->1<=i->lt (l.getD k dz) (l.getD ((i - 1) / 2) dz)=false):zin (zbs l i):=by
 fun_induction zbs l i with
 | case1 l i h k hlt ih=>
  have hk:k<l.length/\i<k/\(k - 1) / 2=i/\∀q,1<=q->q<l.length->(q - 1) / 2=i->lt (l.getD q dz) (l.getD k dz)=false:=by
   simp only[k]
   split
   ·rename_i hc;refine⟨by omega,by omega,by omega,fun q ha hb hq=> ?_⟩;have:q=2 * i+1\/q=2 * i+1+1:=by omega
    rcases this with rfl|rfl
    ·exact zi0 hc.2
    ·rw[zg6];omega
   ·rename_i hc;refine⟨by omega,by omega,by omega,fun q ha hb hq=> ?_⟩;have:q=2 * i+1\/q=2 * i+1+1:=by omega
    rcases this with rfl|rfl
    ·rw[zg6];omega
    ·simp only[hb,zacB,zac3] at hc;exact hc
  obtain⟨hk1,hk2,hk3,hk4⟩:=hk
  clear_value k
  have e:=fun q=>zCW l i k q hi hk1;refine ih (by rw[zcP];exact hk1) (fun q ha hb hc=> ?_) (fun q ha hb hc hd=> ?_)
  ·rw[zcP] at hb;rw[e,e]
   by_cases hq:q=k
   ·subst hq;rw[zabo rfl,hk3,zabn zo,zabo rfl];exact zi0 hlt
   ·rw[zabn hq,zabn hc]
    by_cases hr:q=i
    ·subst hr;rw[zabo rfl,zabn zo];exact h2 k zo hk1 hk3 ha
    ·rw[zabn hr]
     by_cases hs:(q - 1) / 2=i
     ·rw[zabo hs];exact hk4 q ha hb hs
     ·rw[zabn hs];exact h1 q ha hb hs
  ·rw[zcP] at hb;rw[e,e,zabn (show q≠k by omega),zabn (show q≠i by omega),hk3,zabn zo,zabo rfl];have:=h1 q ha hb zo;rw[hc] at this;exact this
 | case2 l i h k hlt=>
  intro q ha hb
  by_cases hq:(q - 1) / 2=i
  ·have hlt:lt (l.getD k dz) (l.getD i dz)=false:=by simpa using hlt
   rw[hq];refine ziV hlt ?_;simp only[k];have:q=2 * i+1\/q=2 * i+1+1:=by omega
   split
   ·rename_i hc
    rcases this with rfl|rfl
    ·exact zi0 hc.2
    ·rw[zg6];omega
   ·rename_i hc
    rcases this with rfl|rfl
    ·rw[zg6];omega
    ·simp only[hb,zacB,zac3] at hc;exact hc
  ·exact h1 q ha hb hq
 | case3 l i h=>
  intro q ha hb;exact h1 q ha hb zo
theorem zHA(h:List Due)(j:Int):zbh h j<h.length:=by
 unfold zbh zbP
 cases e:List.findIdx? (fun d:Due=>decide (d.2=j)) h with
 | none=>simp only;omega
 | some i=>have:=(zact.1 e).1;simp only;omega
theorem zVW(h:List Due)(j:Int)(h0:0<=zbh h j):(h.getD (zbh h j).toNat dz).2=j:=by
 revert h0;unfold zbh zbP
 cases e:List.findIdx? (fun d:Due=>decide (d.2=j)) h with
 | none=>simp
 | some i=>
  obtain⟨h1,h2,_⟩:=zact.1 e
  simp_all
theorem zHB(h:List Due)(j:Int):zbh h j<0↔j∉h.map (·.2):=by
 unfold zbh zbP
 grind
theorem zHz(h:List Due)(i:Nat)(hi:i<h.length)(hd:(h.map (·.2)).Nodup):zbh h (h.getD i dz).2=i:=by
 unfold zbh zbP;have:List.findIdx? (fun d:Due=>decide (d.2=(h.getD i dz).2)) h=some i:=by
  refine zact.2 ⟨hi,by simp [hi],fun j hj=> ?_⟩;have:=(zacu.1 hd) j i (by simp;omega) (by simpa using hi) hj;simpa [hi] using this
 rw[this]
theorem z0e(h:List Due)(hf:∀i,i<h.length->zbh h (h.getD i dz).2=i):(h.map (·.2)).Nodup:=by
 refine zacu.2 fun i j hi hj hij=> ?_
 grind
structure Ok(h:List Due):Prop where
 len:h.length<=12
 val:∀d∈h,zdZ d=true
 ids:(h.map (·.2)).Nodup
 ord:zin h
theorem zfx(h:List Due):zce h=0↔Ok h:=by
 unfold zce
 by_cases h1:12<h.length
 ·rw[zabo h1];exact⟨fun h=>by omega,fun o=>absurd o.len zo⟩
 rw[zabn h1]
 by_cases h2:h.any (fun d=> !zdZ d)=true
 ·rw[zabo h2];refine⟨fun h=>by omega,fun o=> ?_⟩;obtain⟨d,hd,h3⟩:=zacm.1 h2;simp [o.val d hd] at h3
 rw[zabn h2];have h2:∀d∈h,zdZ d=true:=by simpa using h2
 by_cases h3:(List.range' 0 h.length).any (zhD h)=true
 ·rw[zabo h3];refine⟨fun h=>by omega,fun o=> ?_⟩;obtain⟨i,hi,h4⟩:=zacm.1 h3;simp only[zadj,zabU] at hi;simp [zhD,zHz h i hi.2 o.ids] at h4;exact absurd (zHz h i hi.2 o.ids) (by simpa [dz] using h4)
 rw[zabn h3];have h3:∀i,i<h.length->zbh h (h.getD i dz).2=i:=by
  intro i hi;simp only[zacm,not_exists,not_and,zadj] at h3;have:=h3 i ⟨by omega,by omega⟩;simpa [zhD] using this
 by_cases h4:(List.range' 1 (h.length - 1)).any (zh4 h)=true
 ·rw[zabo h4];refine⟨fun h=>by omega,fun o=> ?_⟩;obtain⟨i,hi,h5⟩:=zacm.1 h4;simp only[zadj] at hi;have:=o.ord i hi.1 zo;unfold zh4 at *; exact zF
 rw[zabn h4];refine⟨fun _=>⟨by omega,h2,z0e h h3,fun k ha hb=> ?_⟩,fun _=>rfl⟩;simp only[zacm,not_exists,not_and,zadj] at h4;have:=h4 k ⟨by omega,by omega⟩;simpa [zh4] using this
theorem Ok.of_perm{h l:List Due}(hp:l.Perm h)(hl:h.length<=12)(hv:∀d∈h,zdZ d=true)(hi:(h.map (·.2)).Nodup)(ho:zin l):Ok l:=
 ⟨by rw[hp.length_eq];exact hl,fun d hd=>hv d (hp.mem_iff.1 hd),(hp.map _).nodup_iff.2 hi,ho⟩
theorem zIQ(h:List Due)(d:Due)(k:Nat):(h++[d]).getD k dz=if k<h.length then h.getD k dz else if k=h.length then d else dz:=by grind
theorem zBJ{h:List Due}{d:Due}(o:Ok h)(hd:zdZ d=true)(hl:h.length<12)(hn:d.2∉h.map (·.2)):zfj h d=(zfk h d,0)/\Ok (zfk h d)/\(zfk h d).Perm (d::h):=by
 have hp:(zfk h d).Perm (d::h):=(zRf (h++[d]) h.length (by simp)).trans (zadX (l₂:=[d]));have he:zm9 h d=0:=by
  unfold zm9;rw[(zfx h).2 o,hd,zabn (by simp),zabn (by simp),zabn zo,zabn];have:=(zHB h d.2).2 hn;omega
 refine⟨by unfold zfj;rw[he,zabo rfl],.of_perm hp (by simp;omega) (fun x hx=>by rcases zab4.1 hx with rfl|hx;exact hd;exact o.val x hx) (by simpa using ⟨by simpa using hn,o.ids⟩) ?_,hp⟩;refine zRe _ _ (by simp) (fun k ha hb hc=> ?_) (fun k ha hb hc=> ?_)
 ·simp only[zabv,zabu,zabw] at hb;rw[zIQ,zIQ,zabo zo,zabo zo];exact o.ord k ha zo
 grind
theorem zQz:∀(l:List Due) (i:Nat) (b:Due),i<l.length->(l.getD i dz::l.set i b).Perm (b::l):=by grind
theorem zaaa(h:List Due)(h0:0<h.length):h=h.take (h.length - 1)++[h.getD (h.length - 1) dz]:=by
 have:=List.take_append_getLast h (by intro hn;simp [hn] at h0)
 grind
theorem zRd{l:List Due}{i:Nat}:(upL l i).2<=i/\((0<i/\lt (l.getD i dz) (l.getD ((i - 1) / 2) dz)=true/\(upL l i).2<i)\/(¬(0<i/\lt (l.getD i dz) (l.getD ((i - 1) / 2) dz)=true)/\upL l i=(l,i))):=by
 fun_induction upL l i with
 | case1 l i h0 hlt ih=>exact⟨by omega,.inl ⟨h0,hlt,by omega⟩⟩
 | case2 l i h0 hlt=>exact⟨by simp,.inr ⟨fun h=>hlt h.2,rfl⟩⟩
 | case3 l i h0=>exact⟨by simp,.inr ⟨fun h=>h0 h.1,rfl⟩⟩
theorem zl7{h:List Due}(o:Ok h)(i:Nat)(hi:i<h.length):Ok (zdB h i)/\(h.getD i dz::zdB h i).Perm h:=by
 have hlast:=zaaa h zo;obtain⟨m,hm⟩:∃m,m=h.length - 1:=⟨_,rfl⟩;obtain⟨t,ht⟩:∃t,t=h.take m:=⟨_,rfl⟩;have htl:t.length=m:=by simp [ht];omega
 have hg:∀k,k<m->t.getD k dz=h.getD k dz:=fun k hk=>by simp [ht,zaed,hk]
 rw[<- hm, <- ht] at hlast;unfold zdB;rw[<- hm, <- ht];have key:∀l:List Due,(h.getD i dz::l).Perm h->zin l->Ok l/\(h.getD i dz::l).Perm h:=fun l hp ho=>by
  refine⟨⟨?_,fun d hd=>o.val d (hp.mem_iff.1 (by simp [hd])),?_,ho⟩,hp⟩
  ·have:=hp.length_eq;simp at this;have:=o.len;omega
  ·have:=((hp.map (·.2)).nodup_iff).2 o.ids
   grind
 by_cases h1:i=m
 ·rw[zabo h1];refine key t ?_ fun k ha hb=> ?_
  ·grind
  ·rw[htl] at hb;rw[hg _ hb,hg _ zo];exact o.ord k ha zo
 ·rw[zabn h1];have him:i<m:=by omega
  simp only;obtain⟨x,hx⟩:∃x,x=h.getD m dz:=⟨_,rfl⟩;obtain⟨l,hl⟩:∃l,l=t.set i x:=⟨_,rfl⟩;have hll:l.length=m:=by rw[hl,zacb,htl]
  have hlg:∀k,k<m->l.getD k dz=if k=i then x else h.getD k dz:=fun k hk=>by
   grind
  have hp:(h.getD i dz::l).Perm h:=by
   grind
  rw[<- hx, <- hl];have ord:=o.ord;have hch:∀k,1<=k->k<l.length->(k - 1) / 2=i->1<=i->lt (l.getD k dz) (l.getD ((i - 1) / 2) dz)=false:=fun k ha hb hc hd=>by
   rw[hlg k zo,hlg _ zo,zabn zo,zabn zo];have a:=ord k ha zo;have b:=ord i hd zo;rw[hc] at a;exact ziV b a
  rcases (zRd (l:=l) (i:=i)).2 with ⟨h0,hlt,hmv⟩|⟨hno,heq⟩
  ·rw[zabn zo];refine key _ (((zRf l i zo).cons _).trans hp) (zRe l i zo (fun k ha hb hc=> ?_) hch)
   by_cases hq:(k - 1) / 2=i
   ·have a:=hch k ha hb hq zo;rw[hq];exact ziV (zi0 hlt) a
   ·rw[hlg k zo,hlg _ zo,zabn hc,zabn hq];exact ord k ha zo
  ·rw[heq,zabo rfl];refine key _ (((zUa l i zo).cons _).trans hp) (zT9 l i zo (fun k ha hb hc=> ?_) hch)
   by_cases hk:k=i
   ·grind
   ·rw[hlg k zo,hlg _ zo,zabn hk,zabn hc];exact ord k ha zo
theorem zaaC{h:List Due}(o:zin h):∀k,k<h.length->lt (h.getD k dz) (h.getD 0 dz)=false:=by
 intro k
 induction k using Nat.strongRecOn with
 | ind k ih=>
  intro hk
  by_cases h0:k=0
  ·subst h0;rw[zg6];omega
  ·exact ziV (ih ((k - 1) / 2) zo zo) (o k zo hk)
theorem zQ6{h:List Due}(o:zin h)(d:Due)(hd:d∈h):lt d (h.getD 0 dz)=false:=by
 obtain⟨k,hk,rfl⟩:=zadu.1 hd;have:=zaaC o k hk;simpa [hk] using this
theorem zhc(a b:Due):zi G 300 [.d (eD a),.d (eD b)] []=some (.d (.bool (lt a b)),[]):=by
 have key:lt a b=(decide (a.1<b.1)||(decide (a.1=b.1)&&decide (a.2<b.2))):=by
  have:=zBe a b
  grind
 rw[key];simp only[eD];clear key;exact zW
theorem zQf(d:Due):zi G 292 [.d (eD d)] []=some (.d (.bool (zdZ d)),[]):=by
 unfold zdZ;simp only[eD];exact zW
def znk(h:List Due)(j:Int)(k:Nat):zX×St:=match (h.drop k).findIdx? (fun d=>decide (d.2=j)) with|some i=>(.ret,⟨[(4,.d (.int .i64 ((k+i:Nat):Int)))],[]⟩)|none=>(.exit 0,⟨[],[]⟩)
theorem z7e(h:List Due)(j:Int)(hL:h.length<=LIM):∀k,k<=h.length->z6 G [] zAG ⟨[(0,.d (.sl (h.map eD))),(1,.d (.int .i64 j)),(5,.d (.int .i64 k))],[]⟩=some (znk h j k):=by
 refine zaL (fun k=>h.length - k) (fun k=>k<=h.length) _ _ fun k hk L ih=> ?_;simp -implicitDefEqProofs (maxSteps:=4000000) (disch:=omega) only[zAG,go_sem]
 by_cases hlt:k<h.length
 ·simp -implicitDefEqProofs (maxSteps:=4000000) (disch:=omega) only[zabE,show ((k:Int)<(h.length:Int)) by omega,show (0:Int)<=(k:Int) by omega,zab5,zabI,zabx hlt,ze5,zfS,eD,ztW hlt hL,go_sem];unfold znk;rw[zabX hlt,List.findIdx?_cons]
  by_cases he:h[k].2=j
  ·simp [he]
  ·simp only[he,decide_false,zabz,if_false];have i1:=ih (k+1) zo zo;simp only[zacs,zacy] at i1;rw[i1];unfold znk
   cases (h.drop (k+1)).findIdx? (fun d=>decide (d.2=j)) with
   | none=>rfl
   | some i=>simp;omega
 ·have:k=h.length:=by omega
  subst this;simp -implicitDefEqProofs (maxSteps:=4000000) (disch:=omega) only[zabE,show ¬((h.length:Int)<(h.length:Int)) by omega,go_sem];simp [znk]
theorem zCx(h:List Due)(j:Int)(hL:h.length<=LIM):zi G 290 [.d (.sl (h.map eD)),.d (.int .i64 j)] []=some (.d (.int .i64 (zbh h j)),[]):=by
 have:=z7e h j hL 0 zo;simp only[zabQ] at this;rw[zI zWT (by simp)];simp -implicitDefEqProofs (maxSteps:=4000000) (disch:=omega) only[zuA,go_sem,zabU];simp only[this];unfold znk zbh zbP;simp only[zabZ,zabU]
 cases h.findIdx? (fun d=>decide (d.2=j))<;>simp -implicitDefEqProofs (maxSteps:=4000000) (disch:=omega) only[go_sem]
def zafM(h:List Due)(k:Nat):zX×St:=if (h.drop k).any (fun d=> !zdZ d) then (.ret,⟨[(2,.d (.int .i64 1))],[]⟩) else (.exit 0,⟨[(0,.d (.sl (h.map eD)))],[]⟩)
theorem z7i(h:List Due)(hL:h.length<=12):∀k,k<=h.length->z6 G [] zAD ⟨[(0,.d (.sl (h.map eD))),(3,.d (.int .i64 k))],[]⟩=some (zafM h k):=by
 refine zaL (fun k=>h.length - k) (fun k=>k<=h.length) _ _ fun k hk L ih=> ?_;simp -implicitDefEqProofs (maxSteps:=4000000) (disch:=omega) only[zAD,go_sem]
 by_cases hlt:k<h.length
 ·have hs:=zQf h[k];simp -implicitDefEqProofs (maxSteps:=4000000) (disch:=omega) only[zabE,show ((k:Int)<(h.length:Int)) by omega,show (0:Int)<=(k:Int) by omega,zab5,zabI,zabx hlt,ze5,zfS,hs,ztW hlt (show h.length<=LIM by simp [LIM];omega),go_sem];have i1:=ih (k+1) zo zo;simp only[zacs,zacy] at i1;rw[i1];unfold zafM;rw[zabX hlt,zac4]
  cases zdZ h[k]<;>rfl
 ·have:k=h.length:=by omega
  subst this;simp -implicitDefEqProofs (maxSteps:=4000000) (disch:=omega) only[zabE,show ¬((h.length:Int)<(h.length:Int)) by omega,go_sem];simp [zafM]
def znl(h:List Due)(k:Nat):zX×St:=if (List.range' k (h.length - k)).any (zhD h) then (.ret,⟨[(2,.d (.int .i64 10))],[]⟩) else (.exit 2,⟨[(0,.d (.sl (h.map eD)))],[]⟩)
theorem z7j(h:List Due)(hL:h.length<=12):∀k,k<=h.length->z6 G [] zAE ⟨[(0,.d (.sl (h.map eD))),(4,.d (.int .i64 k))],[]⟩=some (znl h k):=by
 refine zaL (fun k=>h.length - k) (fun k=>k<=h.length) _ _ fun k hk L ih=> ?_;simp -implicitDefEqProofs (maxSteps:=4000000) (disch:=omega) only[zAE,go_sem]
 by_cases hlt:k<h.length
 ·have hf:=zCx h h[k].2 (by simp [LIM];omega);simp -implicitDefEqProofs (maxSteps:=4000000) (disch:=omega) only[zabE,show ((k:Int)<(h.length:Int)) by omega,show (0:Int)<=(k:Int) by omega,zab5,zabI,zabx hlt,ze5,zfS,eD,hf,ztW hlt (show h.length<=LIM by simp [LIM];omega),go_sem];have i1:=ih (k+1) zo zo;simp only[zacs,zacy] at i1;rw[i1];unfold znl;rw[show h.length - k=(h.length - (k+1))+1 by omega,zacX,zac4];have hd:zhD h k= !decide (zbh h h[k].2=k):=by simp [zhD,hlt]
  grind
 ·have:k=h.length:=by omega
  subst this;simp -implicitDefEqProofs (maxSteps:=4000000) (disch:=omega) only[zabE,show ¬((h.length:Int)<(h.length:Int)) by omega,go_sem];simp [znl]
def ztp(h:List Due)(k:Nat):zX×St:=if (List.range' k (h.length - k)).any (zh4 h) then (.ret,⟨[(2,.d (.int .i64 11))],[]⟩) else (.exit 4,⟨[],[]⟩)
theorem z7k(h:List Due)(hL:h.length<=12):∀k:Nat,1<=k->z6 G [] zAF ⟨[(0,.d (.sl (h.map eD))),(5,.d (.int .i64 k))],[]⟩=some (ztp h k):=by
 refine zaL (fun k=>h.length - k) (fun k=>1<=k) _ _ fun k hk L ih=> ?_;simp -implicitDefEqProofs (maxSteps:=4000000) (disch:=omega) only[zAF,go_sem]
 by_cases hlt:k<h.length
 ·have hq:IntKind.i64.wrap (((k:Int) - 1).tdiv 2)=(((k - 1) / 2:Nat):Int):=by
     rw[zRn (by rw[zac2 zo];omega) (by rw[zac2 zo];omega),zac2 zo];omega
  have hlt2:(k - 1) / 2<h.length:=by omega
  have hb:=zhc h[k] h[(k - 1) / 2];simp -implicitDefEqProofs (maxSteps:=4000000) (disch:=omega) only[zabE,show ((k:Int)<(h.length:Int)) by omega,show (((k - 1) / 2:Nat):Int)<(h.length:Int) by omega,zRn (show -4294967296<=(k:Int) - 1 by omega) zo,hq,hb,Int.natCast_nonneg,zab5,zabI,zabx hlt,zabx hlt2,ze5,zfS,ztW hlt (show h.length<=LIM by simp [LIM];omega),go_sem];have i1:=ih (k+1) zo zo;simp only[zacs,zacy] at i1;rw[i1];unfold ztp;rw[show h.length - k=(h.length - (k+1))+1 by omega,zacX,zac4];have hd:zh4 h k=lt h[k] h[(k - 1) / 2]:=by simp [zh4,hlt,hlt2]
  rw[hd]
  cases lt h[k] h[(k - 1) / 2]<;>rfl
 ·simp -implicitDefEqProofs (maxSteps:=4000000) (disch:=omega) only[zabE,show ¬((k:Int)<(h.length:Int)) by omega,go_sem];simp [ztp,show h.length - k=0 by omega]
theorem ztq(h:List Due)(hL:h.length<=LIM):zi G 289 [.d (.sl (h.map eD))] []=some (.d (.int .i64 (zce h)),[]):=by
 rw[zI zWR (by simp)];simp -implicitDefEqProofs (maxSteps:=4000000) (disch:=omega) only[zuz,go_sem,zabU];unfold zce
 by_cases h12:12<h.length
 ·simp -implicitDefEqProofs (maxSteps:=4000000) (disch:=omega) only[h12,zabE,show (12<(h.length:Int)) by omega,go_sem]
 ·have e0:=z7i h zo 0 zo;have e1:=z7j h zo 0 zo;have e2:=z7k h zo 1 zo;simp only[zabQ] at e0 e1;simp only[zacy] at e2;have hlen:¬(12<(h.length:Int)):=by omega
  cases hA:h.any (fun d=> !zdZ d)
  ·cases hB:(List.range' 0 h.length).any (zhD h)
   ·cases hC:(List.range' 1 (h.length - 1)).any (zh4 h)<;>
       simp -implicitDefEqProofs (maxSteps:=4000000) (disch:=omega) only[h12,zabE,hlen,e0,e1,e2,zafM,znl,ztp,zabZ,zacO,hA,hB,hC,go_sem]
   ·simp -implicitDefEqProofs (maxSteps:=4000000) (disch:=omega) only[h12,zabE,hlen,e0,e1,zafM,znl,zabZ,zacO,hA,hB,go_sem]
  ·simp -implicitDefEqProofs (maxSteps:=4000000) (disch:=omega) only[h12,zabE,hlen,e0,zafM,zabZ,hA,go_sem]
theorem z8Z{h:List Due}{i j:Nat}(hi:i<h.length)(hj:j<h.length):(((h.map eD).set i (eD h[j])).map AV.d)[j]? = some (.d (eD h[j])):=by grind
theorem zCy(h:List Due)(i j:Nat)(hi:i<h.length)(hj:j<h.length)(hL:h.length<=1000):zi G 302 [.d (.sl (h.map eD)),.d (.int .i64 i),.d (.int .i64 j)] []=some (.d (.sl ((swp h i j).map eD)),[]):=by
 have hs:=zjJ h;have h2:=z8Z hi hj;have hz:¬h.length=0:=by omega
 unfold swp;rw[zh hi,zh hj];have hl:(((h.map eD).set i (eD h[j])).set j (eD h[i])).length=h.length:=by simp
 have ht:List.take h.length (((h.map eD).set i (eD h[j])).set j (eD h[i]))=((h.map eD).set i (eD h[j])).set j (eD h[i]):=zada (by rw[hl];exact zabR _);exact zW
def zto(p:List Due×Nat):St:=⟨[(0,.d (.sl (p.1.map eD))),(1,.d (.int .i64 p.2))],[]⟩
theorem z7h:∀p:List Due×Nat,p.2<p.1.length/\p.1.length<=1000->z6 G [] zAH (zto p)=some (.exit 0,⟨[(0,.d (.sl ((upL p.1 p.2).1.map eD)))],[]⟩):=by
 refine zaL (fun p:List Due×Nat=>p.2) (fun p:List Due×Nat=>p.2<p.1.length/\p.1.length<=1000) zto _ fun⟨l,i⟩ ⟨hi,hL⟩ L ih=> ?_;simp only[zto] at hi hL ih ⊢;simp only[zAH];rw[upL]
 by_cases h0:0<i
 ·have hq:((i:Int) - 1).tdiv 2=(((i - 1) / 2:Nat):Int):=by rw[zac2 zo];omega
  have hj:(i - 1) / 2<l.length:=by omega
  have hb:=zhc l[i] l[(i - 1) / 2];have hsw:=zCy l i ((i - 1) / 2) hi hj hL;have fin:=ih (swp l i ((i - 1) / 2),(i - 1) / 2) ⟨by simp only[zcP];omega,by simp only[zcP];omega⟩ (by simp only;omega);simp only at fin;rw[zabo h0,zh hi,zh hj];have hsl:=zcP l i ((i - 1) / 2);generalize upL (swp l i ((i - 1) / 2)) ((i - 1) / 2)=r at *;generalize swp l i ((i - 1) / 2)=sw at *;clear ih
  cases hlt:lt l[i] l[(i - 1) / 2]
  ·rw[hlt] at hb;simp only[if_false,zabz];clear hlt fin hsw;exact zS
  ·rw[hlt] at hb;simp only[if_true];clear hlt;exact zS
 ·rw[zabn h0];clear ih;exact zS
theorem zQg(h:List Due)(i:Nat)(hi:i<h.length)(hL:h.length<=1000):zi G 293 [.d (.sl (h.map eD)),.d (.int .i64 i)] []=some (.d (.sl ((upL h i).1.map eD)),[]):=by
 have:=z7h (h,i) ⟨hi,hL⟩;simp only[zto] at this;rw[zI zWW (by simp)];simp -implicitDefEqProofs (maxSteps:=4000000) (disch:=omega) only[zuB,go_sem,zabU];simp -implicitDefEqProofs (maxSteps:=4000000) (disch:=omega) only[this,go_sem]
theorem zQd(h:List Due)(d:Due)(hL:h.length<=LIM):zi G 270 [.d (.sl (h.map eD)),.d (eD d)] []=some (.d (eDE (zfj h d)),[]):=by
 have hv:=ztq h hL;have hf:=zCx h d.2 hL;have hd:=zQf d;have hs:=zjJ h;have hL2:h.length<=4294967296:=hL;unfold zfj zm9 eDE
 by_cases h0:zce h=0
 ·have h12:=zDe h0;rw[h0] at hv;simp only[h0,ne_eq,zabD,if_false];clear h0
  cases h1:zdZ d
  ·rw[h1] at hd;simp only[if_true,zabq,show ((1:Int)=0)=False by simp,if_false];clear h1 hf;exact zW
  ·rw[h1] at hd;simp only[zacf,if_false];clear h1
   by_cases h2:h.length=12
   ·simp only[h2,if_true,zabq,show ((3:Int)=0)=False by simp,if_false];clear hf;exact zW
   ·simp only[h2,if_false]
    by_cases h3:0<=zbh h d.2
    ·simp only[h3,if_true,zabq,show ((10:Int)=0)=False by simp,if_false];exact zW
    ·simp only[h3,if_false,if_true];obtain⟨l,hl⟩:∃l,l=h++[d]:=⟨_,rfl⟩;have e1:h.map eD++[D.agg [.int .i64 d.1,.int .i64 d.2]]=l.map eD:=by simp [eD,hl]
     have e2:l.length=h.length+1:=by simp [hl]
     have hu:=zQg l h.length zo zo;unfold zfk;rw[<- hl];have hul:=zaaR l h.length;have hsl:=zjJ l;generalize upL l h.length=r at *;simp only[eD] at hd ⊢;clear hl;exact zW
 ·simp only[h0,ne_eq,zabV,if_true,if_false,zabq];clear hf hd;exact zW
def zkZ(p:List Due×Nat):St:=⟨[(0,.d (.sl (p.1.map eD))),(1,.d (.int .i64 p.2))],[]⟩
theorem z7c:∀p:List Due×Nat,p.2<p.1.length/\p.1.length<=1000->∃e:zX,(e= .exit 0/\z6 G [] zsr (zkZ p)=some (.exit 0,⟨[(0,.d (.sl ((zbs p.1 p.2).map eD)))],[]⟩))\/(e= .ret/\z6 G [] zsr (zkZ p)=some (.ret,⟨[(4,.d (.sl ((zbs p.1 p.2).map eD)))],[]⟩)):=by
 refine zsO (fun p:List Due×Nat=>p.1.length - p.2) (fun p:List Due×Nat=>p.2<p.1.length/\p.1.length<=1000) zkZ (fun p r=>∃e:zX,(e= .exit 0/\r=some (.exit 0,⟨[(0,.d (.sl ((zbs p.1 p.2).map eD)))],[]⟩))\/(e= .ret/\r=some (.ret,⟨[(4,.d (.sl ((zbs p.1 p.2).map eD)))],[]⟩))) fun⟨l,i⟩ ⟨hi,hL⟩ L ih=> ?_;simp only[zkZ] at hi hL ih ⊢;simp only[zsr]
 by_cases h1:2 * i+1<l.length
 ·have fin:∀k:Nat,i<k->k<l.length->∃e:zX,(e= .exit 0/\L ⟨[(0,.d (.sl ((swp l i k).map eD))),(1,.d (.int .i64 k))],[]⟩=some (.exit 0,⟨[(0,.d (.sl ((zbs (swp l i k) k).map eD)))],[]⟩))\/(e= .ret/\L ⟨[(0,.d (.sl ((swp l i k).map eD))),(1,.d (.int .i64 k))],[]⟩=some (.ret,⟨[(4,.d (.sl ((zbs (swp l i k) k).map eD)))],[]⟩)):=fun k h1 h2=>
     ih (swp l i k,k) ⟨by simp only[zcP];omega,by simp only[zcP];omega⟩ (by simp only[zcP];omega)
  have hg:∀k:Nat,k<l.length->(List.map eD l)[k]? = some (eD (l.getD k (0,0))):=fun k hk=>by simp [zabI,zabx hk,hk]
  have g0:=hg i hi;have g1:=hg _ h1;have s1:=zCy l i (2 * i+1) hi h1 hL;have f1:=fin (2 * i+1) zo h1;simp only[zacs,zadC,zacy,zadf] at s1 f1;have t1:((2:Int) * (i:Int)+1).toNat=2 * i+1:=by omega
  have t2:((2:Int) * (i:Int)+1+1).toNat=2 * i+1+1:=by omega
  by_cases h2:2 * i+1+1<l.length
  ·have g2:=hg _ h2;have s2:=zCy l i (2 * i+1+1) hi h2 hL;have f2:=fin (2 * i+1+1) zo h2;simp only[zacs,zadC,zacy,zadf] at s2 f2
   cases hlt:lt (l.getD (2 * i+1+1) (0,0)) (l.getD (2 * i+1) (0,0))
   ·cases hlt2:lt (l.getD (2 * i+1) (0,0)) (l.getD i (0,0))
    ·simp -implicitDefEqProofs (maxSteps:=4000000) (disch:=omega) only[go_sem,g0,g1,g2,t1,t2,zhc,hlt,hlt2,ze5,zfS];have e:zbs l i=l:=by rw[zbs];simp only[h1,h2,hlt,hlt2,dite_true,dite_false,zacB,zacT,zacz,if_true,if_false,zabz,reduceCtorEq]
     exact⟨.ret,.inr ⟨rfl,by rw[e]⟩⟩
    ·simp -implicitDefEqProofs (maxSteps:=4000000) (disch:=omega) only[go_sem,g0,g1,g2,t1,t2,zhc,hlt,hlt2,s1,ze5,zfS];have e:zbs l i=zbs (swp l i (2 * i+1)) (2 * i+1):=by rw[zbs];simp only[h1,h2,hlt,hlt2,dite_true,dite_false,zacB,zacT,zacz,if_true,if_false,zabz,reduceCtorEq]
     rw[e];exact f1
   ·cases hlt2:lt (l.getD (2 * i+1+1) (0,0)) (l.getD i (0,0))
    ·simp -implicitDefEqProofs (maxSteps:=4000000) (disch:=omega) only[go_sem,g0,g1,g2,t1,t2,zhc,hlt,hlt2,ze5,zfS];have e:zbs l i=l:=by rw[zbs];simp only[h1,h2,hlt,hlt2,dite_true,dite_false,zacB,zacT,zacz,if_true,if_false,zabz,reduceCtorEq]
     exact⟨.ret,.inr ⟨rfl,by rw[e]⟩⟩
    ·simp -implicitDefEqProofs (maxSteps:=4000000) (disch:=omega) only[go_sem,g0,g1,g2,t1,t2,zhc,hlt,hlt2,s2,ze5,zfS];have e:zbs l i=zbs (swp l i (2 * i+1+1)) (2 * i+1+1):=by rw[zbs];simp only[h1,h2,hlt,hlt2,dite_true,dite_false,zacB,zacT,zacz,if_true,if_false,zabz,reduceCtorEq]
     rw[e];exact f2
  ·cases hlt2:lt (l.getD (2 * i+1) (0,0)) (l.getD i (0,0))
   ·simp -implicitDefEqProofs (maxSteps:=4000000) (disch:=omega) only[go_sem,g0,g1,t1,t2,zhc,hlt2,ze5,zfS];have e:zbs l i=l:=by rw[zbs];simp only[h1,h2,hlt2,dite_true,dite_false,zacB,zacT,zacz,if_true,if_false,zabz,reduceCtorEq]
    exact⟨.ret,.inr ⟨rfl,by rw[e]⟩⟩
   ·simp -implicitDefEqProofs (maxSteps:=4000000) (disch:=omega) only[go_sem,g0,g1,t1,t2,zhc,hlt2,s1,ze5,zfS];have e:zbs l i=zbs (swp l i (2 * i+1)) (2 * i+1):=by rw[zbs];simp only[h1,h2,hlt2,dite_true,dite_false,zacB,zacT,zacz,if_true,if_false,zabz,reduceCtorEq]
    rw[e];exact f1
 ·simp -implicitDefEqProofs (maxSteps:=4000000) (disch:=omega) only[go_sem,zabU];have e:zbs l i=l:=by rw[zbs];simp only[h1,dite_false]
  exact⟨.exit 0,.inl ⟨rfl,by rw[e]⟩⟩
theorem z7d(h:List Due)(i:Nat)(hi:i<h.length)(hL:h.length<=1000):zi G 301 [.d (.sl (h.map eD)),.d (.int .i64 i)] []=some (.d (.sl ((zbs h i).map eD)),[]):=by
 obtain⟨e,h1|h1⟩:=z7c (h,i) ⟨hi,hL⟩
 ·have:=h1.2;simp only[zkZ] at this;rw[zI zH9 (by simp)];simp -implicitDefEqProofs (maxSteps:=4000000) (disch:=omega) only[zqO,go_sem,this]
 ·have:=h1.2;simp only[zkZ] at this;rw[zI zH9 (by simp)];simp -implicitDefEqProofs (maxSteps:=4000000) (disch:=omega) only[zqO,go_sem,this]
theorem zQc(h:List Due)(i:Nat)(hi:i<h.length)(hL:h.length<=1000):zi G 291 [.d (.sl (h.map eD)),.d (.int .i64 i)] []=some (.d (.sl ((zdB h i).map eD)),[]):=by
 obtain⟨m,hm⟩:∃m,m=h.length - 1:=⟨_,rfl⟩;obtain⟨t,ht⟩:∃t,t=h.take m:=⟨_,rfl⟩;have htl:t.length=m:=by simp [ht];omega
 have e1:List.take m (h.map eD)=t.map eD:=by rw[ht,zac7]
 have w1:((h.length:Int) - 1)=(m:Int):=by omega
 have hmlt:m<h.length:=by omega
 have him:i<=m/\m<=1000:=by omega
 have him2:m<=4294967296:=by omega
 have hs:=zjJ h;have hs2:=zjJ t;unfold zdB;rw[<- hm, <- ht]
 by_cases hi2:i=m
 ·subst hi2;rw[zabo rfl];clear hm ht;exact zW
 ·have hi3:i<m:=by omega
  rw[zabn hi2];obtain⟨l,hl⟩:∃l,l=t.set i (h.getD m (0,0)):=⟨_,rfl⟩;have hll:l.length=m:=by rw[hl,zacb,htl]
  have e5:(t.map eD).set i (eD (h[m]'hmlt))=l.map eD:=by rw[hl,zh hmlt,zacw]
  have hu:=zQg l i zo zo;have hd:=z7d l i zo zo;rw[<- hl];show zi G 291 _ _=some (.d (.sl ((if (upL l i).2=i then zbs (upL l i).1 i else (upL l i).1).map eD)),[]);have hat:= @zRd l i;have hup:(¬0<i\/lt (l.getD i (0,0)) (l.getD ((i - 1) / 2) (0,0))=false)->upL l i=(l,i):=fun hc=>by
   rw[upL]
   rcases hc with hc|hc
   ·rw[zabn hc]
   ·split
    ·rw[zabn (by rw[hc];decide)]
    ·rfl
  have hm4:m<=1000:=by omega
  clear hl hm ht
  by_cases h0:0<i
  ·have hq:((i:Int) - 1).tdiv 2=(((i - 1) / 2:Nat):Int):=by rw[zac2 zo];omega
   have hj:(i - 1) / 2<l.length:=by omega
   have hil:i<l.length:=by omega
   have hbf:=zhc l[i] l[(i - 1) / 2]
   cases hlt:lt l[i] l[(i - 1) / 2]
   ·rw[hup (.inr (by rw[zh hil,zh hj];exact hlt))] at hu ⊢;rw[zabo rfl];rw[hlt] at hbf;clear hlt hup hat hu;exact zW
   ·have:¬(upL l i).2=i:=by
       rcases hat.2 with hc|hc
       ·omega
       ·exact absurd ⟨h0,by rw[zh hil,zh hj];exact hlt⟩ hc.1
    rw[zabn this];rw[hlt] at hbf;generalize upL l i=r at *;clear hlt hup hat hd this;exact zW
  ·rw[hup (.inl h0)];rw[zabo rfl];clear hup hat hu;exact zW
theorem zQe(h:List Due)(id:Int)(hL:h.length<=LIM):zi G 269 [.d (.sl (h.map eD)),.d (.int .i64 id)] []=some (.d (eDE (zb6 h id)),[]):=by
 have hv:=ztq h hL;have hf:=zCx h id hL;unfold zb6 eDE
 by_cases h0:zce h=0
 ·have h12:=zDe h0
  by_cases hn:zbh h id<0
  ·rw[zI zzi (by simp)];simp -implicitDefEqProofs (maxSteps:=4000000) (disch:=omega) only[zl1,go_sem,hv,h0,hf,hn,zabq]
  ·have hd:=zQc h (zbh h id).toNat (by have:=zV1 h id;omega) zo;rw[show (((zbh h id).toNat:Nat):Int)=zbh h id by omega] at hd;rw[zI zzi (by simp)];simp -implicitDefEqProofs (maxSteps:=4000000) (disch:=omega) only[zl1,go_sem,hv,h0,hf,hn,hd]
 ·rw[zI zzi (by simp)];simp -implicitDefEqProofs (maxSteps:=4000000) (disch:=omega) only[zl1,go_sem,hv,h0]
def Asc(l:List Due)(n:Nat):Prop:=∀p q,p<q->q<n->lt (l.getD q dz) (l.getD p dz)=false
def ziS(l:List Due)(j:Nat):List Due:=
 if 0<j then (if lt (l.getD j dz) (l.getD (j - 1) dz) then ziS (swp l j (j - 1)) (j - 1) else l) else l
termination_by j
theorem zLK(l:List Due)(j:Nat):(ziS l j).length=l.length:=by
 fun_induction ziS l j with
 | case1 l j h0 h1 ih=>rw[ih,zcP]
 | case2=>rfl
 | case3=>rfl
theorem zX4(l:List Due)(j i:Nat)(hi:i<l.length)(hj:j<=i)(h1:∀p q,p<q->q<=i->p≠j->q≠j->lt (l.getD q dz) (l.getD p dz)=false)(h2:∀q,j<q->q<=i->lt (l.getD q dz) (l.getD j dz)=false):Asc (ziS l j) (i+1)/\(ziS l j).Perm l:=by
 fun_induction ziS l j with
 | case1 l j h0 hlt ih=>
  have hs:∀k,(swp l j (j - 1)).getD k dz=if k=j - 1 then l.getD j dz else if k=j then l.getD (j - 1) dz else l.getD k dz:=fun k=>zCW l j (j - 1) k zo zo
  have ih':=ih (by rw[zcP];exact hi) zo (fun p q hpq hq hp hq2=>by
      rw[hs,hs]
      by_cases e1:q=j
      ·subst e1;rw[zabn zo,zabo rfl,zabn zo,zabn zo];exact h1 p (q - 1) zo zo zo zo
      ·by_cases e2:p=j
       ·subst e2;rw[zabn zo,zabn zo,zabn zo,zabo rfl];exact h1 (p - 1) q zo hq zo zo
       ·rw[zabn zo,zabn e1,zabn zo,zabn e2];exact h1 p q hpq hq e2 e1) (fun q hq1 hq2=>by
      rw[hs,hs,zabn zo,zabo rfl]
      by_cases e1:q=j
      ·rw[zabo e1];exact zi0 hlt
      ·rw[zabn e1];exact h2 q zo hq2)
  exact⟨ih'.1,ih'.2.trans (zCX l j (j - 1) zo zo)⟩
 | case2 l j h0 hlt=>
  refine⟨fun p q hpq hq=> ?_,.refl _⟩;have hjj:lt (l.getD j dz) (l.getD (j - 1) dz)=false:=by simpa using hlt
  by_cases e1:p=j
  ·subst e1;exact h2 q hpq zo
  ·by_cases e2:q=j
   ·subst e2
    by_cases e3:p=q - 1
    ·subst e3;exact hjj
    ·exact ziV (h1 p (q - 1) zo zo e1 zo) hjj
   ·exact h1 p q hpq zo e1 e2
 | case3 l j h0=>
  refine⟨fun p q hpq hq=> ?_,.refl _⟩
  by_cases e1:p=j
  ·subst e1;exact h2 q hpq zo
  ·exact h1 p q hpq zo e1 zo
def zgy(l:List Due)(i:Nat):List Due:=if i<l.length then zgy (ziS l i) (i+1) else l
termination_by l.length - i
decreasing_by rw[zLK];omega
theorem zlc(l:List Due)(i:Nat)(h:Asc l i):Asc (zgy l i) l.length/\(zgy l i).Perm l:=by
 fun_induction zgy l i with
 | case1 l i hi ih=>
  have:=zX4 l i i hi zo (fun p q hpq hq _ hq2=>h p q hpq zo) (fun q h1 h2=>by omega);have ih':=ih this.1;rw[zLK] at ih';exact⟨ih'.1,ih'.2.trans this.2⟩
 | case2 l i hi=>exact⟨fun p q hpq hq=>h p q hpq zo,.refl _⟩
def zj0(now:Int)(l:List Due):List Int:=(l.filter fun d=>decide (d.1<=now)).map (·.2)
def zcE(h:List Due)(now:Int):List Int:=if zce h=0 then zj0 now (zgy h 1) else []
theorem zR9:∀(a b:List Due),a.Perm b->a.Pairwise (fun x y=>lt y x=false)->b.Pairwise (fun x y=>lt y x=false)->a.Nodup->a=b:=by
 intro a
 induction a with
 | nil=>intro b hp _ _ _;exact (List.Perm.nil_eq hp)
 | cons x a ih=>
  intro b hp ha hb hn
  cases b with
  | nil=>exact absurd hp.symm.nil_eq (by simp)
  | cons y b=>
   have hxy:x=y:=by
    by_cases e:x=y
    ·exact e
    ·have h1:y∈a:=by
        have:=hp.symm.subset (List.mem_cons_self (a:=y) (l:=b))
        rcases zab4.1 this with h|h
        ·exact absurd h.symm e
        ·exact h
     have h2:x∈b:=by
      have:=hp.subset (List.mem_cons_self (a:=x) (l:=a))
      rcases zab4.1 this with h|h
      ·exact absurd h e
      ·exact h
     have h3:=(zadd.1 ha).1 y h1;have h4:=(zadd.1 hb).1 x h2;rw[zg6] at h3 h4;exact Prod.ext zo zo
   subst hxy;rw[ih b ((List.perm_cons _).1 hp) (zadd.1 ha).2 (zadd.1 hb).2 (zacv.1 hn).2]
theorem zDE{l:List Due}(h:Asc l l.length):l.Pairwise (fun x y=>lt y x=false):=by
 rw[zacu];intro i j hi hj hij;have:=h i j hij hj;simpa [hi,hj] using this
theorem z9s{h:List Due}(o:Ok h)(hne:h≠[]):zgy h 1=h.getD 0 dz::zgy (zdB h 0) 1:=by
 have hd:=zl7 o 0 (zac0.2 hne);have s1:=zlc h 1 (fun p q hp hq=>by omega);have s2:=zlc (zdB h 0) 1 (fun p q hp hq=>by omega);have hl1:=s1.2.length_eq;have hl2:=s2.2.length_eq;rw[<- hl1] at s1;rw[<- hl2] at s2;have hnd:h.Nodup:=List.Pairwise.of_map (fun d:Due=>d.2) (fun a b hh e=>hh (by rw[e])) o.ids;refine zR9 _ _ (s1.2.trans (hd.2.symm.trans (s2.2.symm.cons _))) (zDE s1.1) (zadd.2 ⟨fun d hm=> ?_,zDE s2.1⟩) (s1.2.nodup_iff.2 hnd);exact zQ6 o.ord d (hd.2.subset (zaep _ (s2.2.subset hm)))
theorem zaaO{h:List Due}{now:Int}(o:Ok h)(hne:h≠[]):zcE h now=if (h.getD 0 dz).1<=now then (h.getD 0 dz).2::zcE (zdB h 0) now else []:=by
 have hd:=zl7 o 0 (zac0.2 hne);unfold zcE;rw[zabo ((zfx h).2 o),zabo ((zfx _).2 hd.1),z9s o hne];unfold zj0
 by_cases hc:(h.getD 0 dz).1<=now
 ·rw[zabo hc,List.filter_cons_of_pos (by simpa using hc),zabs]
 ·rw[zabn hc,List.filter_cons_of_neg (by simpa using hc)];have:∀d∈zgy (zdB h 0) 1,¬d.1<=now:=by
   intro d hm;have s2:=zlc (zdB h 0) 1 (fun p q hp hq=>by omega);have:=zQ6 o.ord d (hd.2.subset (zaep _ (s2.2.subset hm)));rw[zg6] at this;omega
  rw[zaeq.2 (by simpa using this)];rfl
def rUS(now:Int)(p:List Due×List Int):St:=⟨[(0,.d (.sl (p.1.map eD))),(1,.d (.int .i64 now)),(5,.acc 5 (zC p.2))],[(5,.acc p.2.length)]⟩
theorem z7f(now:Int):∀p:List Due×List Int,p.1.length<=LIM/\(zce p.1=0->p.1.length+p.2.length<=1000)->z6 G [] zmH (rUS now p)=some (.exit 0,⟨[(5,.acc 5 (zC (p.2++zcE p.1 now)))],[(5,.acc (p.2++zcE p.1 now).length)]⟩):=by
 refine zaL (fun p:List Due×List Int=>p.1.length) _ (rUS now) _ fun⟨h,out⟩ ⟨hL,hL2⟩ L ih=> ?_;simp only[rUS] at ih hL hL2 ⊢;have hv:=ztq h hL
 by_cases h0:zce h=0
 ·have hl3:=hL2 h0;have o:=(zfx h).1 h0
  by_cases he:h=[]
  ·subst he;have e:zcE [] now=[]:=by unfold zcE;rw[zabo h0];unfold zgy;simp [zj0]
   rw[e,zabL];simp only[zmH,zabq] at hv ⊢;simp -implicitDefEqProofs (maxSteps:=4000000) (disch:=omega) only[go_sem,hv,h0]
  ·have hpos:=zac0.2 he;have hd:=zl7 o 0 hpos;have hl1:(zdB h 0).length+1=h.length:=by simpa using hd.2.length_eq
   have hg:(h.map eD)[0]? = some (eD (h.getD 0 dz)):=by simp [zabI,zabx hpos,hpos]
   have hc:=zQc h 0 hpos zo;simp only[zabQ] at hc;rw[zaaO o he];have:=ih (zdB h 0,out++[(h.getD 0 dz).2]) ⟨by simp only;omega,fun _=>by simp only[zabv,zab3];omega⟩ (by simp only;omega);simp only[zmH]
   by_cases hcc:(h.getD 0 dz).1<=now
   ·rw[zabo hcc];simp only[zab9,zabN,zabJ] at this;simp only[zC,zabF,zabs,zabq,zabv,zabu,zabw,zacs,zacy,zabU] at this;simp -implicitDefEqProofs (maxSteps:=4000000) (disch:=omega) only[go_sem,hv,h0,hg,eD,hcc,hc,zt6];exact this
   ·rw[zabn hcc,zabL];simp -implicitDefEqProofs (maxSteps:=4000000) (disch:=omega) only[go_sem,hv,h0,hg,eD,hcc]
 ·have e:zcE h now=[]:=by unfold zcE;rw[zabn h0]
  rw[e,zabL];simp only[zmH];simp -implicitDefEqProofs (maxSteps:=4000000) (disch:=omega) only[go_sem,hv,h0]
theorem z7g(h:List Due)(now:Int)(hL:h.length<=LIM):zi G 274 [.d (.sl (h.map eD)),.d (.int .i64 now)] []=some (.d (.sl (zC (zcE h now))),[]):=by
 have hl:=z7f now (h,[]) ⟨hL,fun h0=>by have:=zDe h0;simp only[zabw] at this ⊢; omega⟩;simp only[rUS,zabq,zabw,zabJ,zC] at hl;rw[zI zWQ (by simp)];simp -implicitDefEqProofs (maxSteps:=4000000) (disch:=omega) only[zuy,go_sem,hl]
theorem zkR(n lo hi:Int):zi G 258 [.d (.int .i64 n),.d (.int .i64 lo),.d (.int .i64 hi)] []=some (.d (.bool (decide (lo<=n/\n<=hi))),[]):=by
 by_cases h:lo<=n
 ·by_cases h2:n<=hi
  ·rw[zabM ⟨h,h2⟩];exact zW
  ·rw[zabP zo];exact zW
 ·rw[zabP zo];exact zW
theorem zNn(m:zj)(e:Int):zi G 235 [.d (zm m),.d (.int .i64 e)] []=some (.d (.bool (decide (m.epoch<e))),[]):=by
 exact zW
def zap(m:zj):Int:=
 if 1<=m.id/\m.id<=1073741824/\0<=m.route/\m.route<=65535/\0<=m.epoch/\m.epoch<=65536/\0<=m.count/\m.count<=8/\m.count<=m.gen/\m.gen<=65536/\0<=m.sent/\m.sent<=1073741824 then (if 16<m.body.length then 2 else 0) else 1
theorem zh8(m:zj):zi G 221 [.d (zm m)] []=some (.d (.int .i64 (zap m)),[]):=by
 have i1:=zkR m.id 1 1073741824;have i2:=zkR m.route 0 65535;have i3:=zkR m.epoch 0 65536;have i4:=zkR m.count 0 8;have i5:=zkR m.gen m.count 65536;have i6:=zkR m.sent 0 1073741824;unfold zap
 split
 ·split
  ·exact zW
  ·exact zW
 ·exact zW
def zff(l:List zG)(i:Nat):Int:=
 if zap (l.getD i zbH).msg≠0 then zap (l.getD i zbH).msg
 else if (l.getD i zbH).msg.gen=0 then 7
 else if (l.getD i zbH).deadline<0\/1073741824<(l.getD i zbH).deadline then 1
 else if 0<i/\(l.getD i zbH).msg.id<=(l.getD (i - 1) zbH).msg.id then 11 else 0
def zgo(l:List zG)(i:Nat):Bool:=decide (zff l i≠0)
def obT(o:Nat)(t:zN):Nat×Go.Sim.Obj:=(o,.row [.d (zau t)])
theorem z6F(t:zN)(hL:t.l.length<=12):z6 G [] zAK ⟨[(1,.ref 1 0 0),(3,.d (.int .i64 0))],[obT 1 t]⟩=some (zhI t.l.length (zgo t.l) (fun k=>(.ret,⟨[(2,.d (.int .i64 (zff t.l k)))],[]⟩)) (.exit 0,⟨[(1,.ref 1 0 0)],[obT 1 t]⟩)):=by
 refine ziZ (G:=G) t.l.length (zgo t.l) (fun k=>⟨[(1,.ref 1 0 0),(3,.d (.int .i64 k))],[obT 1 t]⟩) _ _ fun k hk L=> ?_;simp only[zAK,obT]
 by_cases h0:k<t.l.length
 ·rw[zabo h0];have hm:=zh8 t.l[k].msg;simp only[zm] at hm;unfold zgo zff;rw[zh h0]
  by_cases c1:zap t.l[k].msg=0
  ·rw[c1] at hm;simp only[c1,ne_eq,zabD,if_false]
   by_cases c2:t.l[k].msg.gen=0
   ·simp only[c2,if_true,show ((7:Int)=0)=False by simp,zabV,decide_true];rw[c2] at hm;exact zS
   ·simp only[c2,if_false]
    by_cases c3:t.l[k].deadline<0\/1073741824<t.l[k].deadline
    ·skip;simp only[c3,if_true,show ((1:Int)=0)=False by simp,zabV,decide_true];exact zS
    ·skip;simp only[c3,if_false]
     by_cases c4:0<k
     ·have hk1:k - 1<t.l.length:=by omega
      have e1:(k:Int) - 1=((k - 1:Nat):Int):=by omega
      rw[zh hk1]
      by_cases c5:t.l[k].msg.id<=t.l[k - 1].msg.id
      ·simp only[c4,c5,zacK,if_true,show ((11:Int)=0)=False by simp,zabV,decide_true];exact zS
      ·simp only[c4,c5,zadr,if_false,zabD,decide_false,zabz];exact zS
     ·simp only[c4,zacz,if_false,zabD,decide_false,zabz];exact zS
  ·simp only[c1,ne_eq,zabV,if_true,decide_true];exact zS
 ·rw[zabn h0];exact zS
def zag(l:List zG)(id:Int):Int:=zbP (fun x=>decide (x.msg.id=id)) l
theorem znb(t:zN)(id:Int)(hL:t.l.length<=4294967296):zi G 268 [.d (zau t),.d (.int .i64 id)] []=some (.d (.int .i64 (zag t.l id)),[]):=by
 have hl:=ziZ (G:=G) (x:=zAL) (ks:=[]) t.l.length (atB t.l fun x=>decide (x.msg.id=id)) (fun k=>⟨[(1,.d (.int .i64 id)),(2,.ref 2 0 0),(5,.d (.int .i64 k))],[obT 2 t]⟩) (fun k=>(.ret,⟨[(4,.d (.int .i64 k))],[]⟩)) (.exit 0,⟨[],[]⟩) (fun k hk L=>by
  simp only[zAL,obT]
  by_cases h0:k<t.l.length
  ·simp only[h0,if_true,zgH h0];exact zS
  ·exact zS)
 rw[zj6] at hl;simp only[obT] at hl;simp only[zNr,srcO] at hl;unfold zag zbP
 cases hf:t.l.findIdx? (fun x=>decide (x.msg.id=id)) with
 | none=>rw[hf] at hl;clear hf;exact zW
 | some i=>rw[hf] at hl;clear hf;exact zW
def zkB(t:zN):Bool:=decide (t.heap.length=t.l.length)&&t.l.all fun x=>t.heap.any fun d=>decide (d=(x.deadline,x.msg.id))
def zee(l:List zG):Int:=zhI l.length (zgo l) (zff l) 0
def zao(t:zN):Int:=
 if 12<t.l.length then 2 else if zee t.l≠0 then zee t.l else if zce t.heap≠0 then zce t.heap else if zkB t=true then 0 else 7
theorem zA6(l:List zG):(∃k,(List.range l.length).find? (zgo l)=some k/\zff l k≠0/\zee l=zff l k)\/((List.range l.length).find? (zgo l)=none/\zee l=0):=by
 unfold zee zhI
 cases h:(List.range l.length).find? (zgo l) with
 | none=>exact .inr ⟨rfl,rfl⟩
 | some k=>
  refine .inl ⟨k,rfl,?_,rfl⟩;have:=List.find?_some h;unfold zgo at this;simpa using this
def zkC(t:zN):Bool:=decide (t.heap.length=t.l.length)&&t.heap.all fun d=>decide (0<=zag t.l d.2)&&decide ((t.l.getD (zag t.l d.2).toNat zbH).deadline=d.1)
def ztK(t:zN):Int:=
 if 12<t.l.length then 2 else if zee t.l≠0 then zee t.l else if zce t.heap≠0 then zce t.heap else if zkC t=true then 0 else 7
theorem zrt(l:List zG)(id:Int): -1<=zag l id/\zag l id<l.length:=zsd _ _
theorem z6B(t:zN)(hL:t.l.length<=4294967296)(hH:t.heap.length<=4294967296):z6 G [] zss ⟨[(1,.ref 1 0 0),(7,.d (.int .i64 0))],[obT 1 t]⟩=some (if (t.heap.all fun d=>decide (0<=zag t.l d.2)&&decide ((t.l.getD (zag t.l d.2).toNat zbH).deadline=d.1))=true then (.exit 3,⟨[],[]⟩) else (.ret,⟨[(2,.d (.int .i64 7))],[]⟩)):=by
 have hl:=zg5 (G:=G) (x:=zss) (ks:=[]) t.heap.length (atB t.heap fun d=>decide (0<=zag t.l d.2)&&decide ((t.l.getD (zag t.l d.2).toNat zbH).deadline=d.1)) (fun k=>⟨[(1,.ref 1 0 0),(7,.d (.int .i64 k))],[obT 1 t]⟩) (.ret,⟨[(2,.d (.int .i64 7))],[]⟩) (.exit 3,⟨[],[]⟩) (fun k hk L=>by
  simp only[zss,obT]
  by_cases h0:k<t.heap.length
  ·simp only[h0,if_true,zgH h0];have hf:=znb t t.heap[k].2 hL;have hb:=zrt t.l t.heap[k].2;generalize zag t.l t.heap[k].2=i at *
   by_cases c1:0<=i
   ·obtain⟨n,rfl⟩:∃n:Nat,i=n:=⟨i.toNat,by omega⟩;have hn:n<t.l.length:=by omega
    rw[zab5,zh hn,zabM c1,zacA]
    by_cases c2:t.l[n].deadline=t.heap[k].1
    ·rw[zabM c2];simp only[if_true];exact zS
    ·rw[zabP c2];simp only[zabz,if_false];exact zS
   ·rw[zabP c1];simp only[zacd,zabz,if_false];exact zS
  ·exact zS)
 have e:(List.range t.heap.length).all (atB t.heap fun d=>decide (0<=zag t.l d.2)&&decide ((t.l.getD (zag t.l d.2).toNat zbH).deadline=d.1))=t.heap.all fun d=>decide (0<=zag t.l d.2)&&decide ((t.l.getD (zag t.l d.2).toNat zbH).deadline=d.1):=by
  rw[zacD,zabO,zabO];constructor
  ·intro h x hx;obtain⟨i,hi,rfl⟩:=zadc hx;have:=h i (zack.2 hi)
   rwa [zgH hi] at this
  ·intro h i hi;rw[zgH (zack.1 hi)];exact h _ (zabC _)
 rw[e] at hl;exact hl
theorem zkT(t:zN)(hL:t.l.length<=4294967296)(hH:t.heap.length<=4294967296):zi G 266 [.d (zau t)] []=some (.d (.int .i64 (ztK t)),[]):=by
 unfold ztK
 by_cases c0:12<t.l.length
 ·rw[zabo c0];exact zW
 ·rw[zabn c0];have hl:=z6F t zo;have hv:=ztq t.heap hH;have hm:=z6B t hL hH;simp only[obT] at hl hm;unfold zhI at hl
  rcases zA6 t.l with ⟨k,h1,h2,h3⟩|⟨h1,h3⟩
  ·rw[h1] at hl;simp only at hl;rw[h3,zabo h2];generalize zff t.l k=z at *;clear h1 h3 hv hm;exact zW
  ·rw[h1] at hl;rw[h3,zabn (by simp)];clear h1 h3;generalize zce t.heap=z at *
   by_cases c1:z=0
   ·subst c1;rw[zabn (by simp)];unfold zkC
    by_cases c2:t.heap.length=t.l.length
    ·rw[zabM c2,zacA];generalize (t.heap.all fun d=>decide (0<=zag t.l d.2)&&decide ((t.l.getD (zag t.l d.2).toNat zbH).deadline=d.1))=q at *
     cases q
     ·simp only[zabz,if_false] at hm ⊢;exact zW
     ·simp only[if_true] at hm ⊢;exact zW
    ·rw[zabP c2,zacd];simp only[zabz,if_false];clear hm;exact zW
   ·rw[zabo c1];clear hm;exact zW
theorem zMC{α:Type}[DecidableEq α]:∀(A B:List α),A.Nodup->(∀a∈A,a∈B)->A.length<=B.length
 | [],_,_,_=>Nat.zero_le _
 | a::A,B,h,hs=>by
  have ha:=hs a (by simp);rw[zacv] at h;have:=zMC A (B.erase a) h.2 fun x hx=>(List.mem_erase_of_ne (by rintro rfl;exact h.1 hx)).2 (hs x (by simp [hx]));rw[zaeB ha] at this;have hp:=List.length_pos_of_mem ha;simp only[zabu];omega
theorem zMB{α:Type}[DecidableEq α]{A B:List α}(h:A.Nodup)(hs:∀a∈A,a∈B)(hl:B.length<=A.length):∀b∈B,b∈A:=by
 intro b hb
 by_cases c:b∈A
 ·exact c
 ·have:=zMC A (B.erase b) h fun x hx=>(List.mem_erase_of_ne (by rintro rfl;exact c hx)).2 (hs x hx);rw[zaeB hb] at this;have hp:=List.length_pos_of_mem hb;omega
theorem zhW{l:List zG}(h:zee l=0):l.Pairwise fun x y=>x.msg.id<y.msg.id:=by
 have h0:∀i,i<l.length->zff l i=0:=by
  rcases zA6 l with ⟨k,_,h2,h3⟩|⟨h1,_⟩
  ·omega
  ·intro i hi;have:=List.find?_eq_none.1 h1 i (zack.2 hi);unfold zgo at this;simpa using this
 have step:∀i (hi:i+1<l.length),l[i].msg.id<l[i+1].msg.id:=fun i hi=>by
  have:=h0 (i+1) hi;unfold zff at this;rw[zh hi,Nat.add_sub_cancel,zh (show i<l.length by omega)] at this
  split at this
  ·omega
  split at this
  ·omega
  split at this
  ·omega
  split at this
  ·cases this
  ·omega
 refine zacu.2 fun i j hi hj hij=> ?_;obtain⟨m,rfl⟩:∃m,j=i+1+m:=⟨j - (i+1),by omega⟩
 induction m with
 | zero=>exact step i hj
 | succ m ih=>exact Int.lt_trans (ih zo zo) (step (i+1+m) zo)
def zbx(x:zG):Due:=(x.deadline,x.msg.id)
theorem zmb{l:List zG}{id:Int}(h:0<=zag l id):∃k,∃hk:k<l.length,zag l id=k/\l[k].msg.id=id:=by
 unfold zag zbP at h ⊢
 cases hf:l.findIdx? (fun x=>decide (x.msg.id=id)) with
 | none=>rw[hf] at h;exact absurd h (by simp)
 | some i=>
  obtain⟨hi,hp,_⟩:=zact.1 hf;exact⟨i,hi,rfl,by simpa using hp⟩
theorem zvr{l:List zG}{id:Int}(h:zag l id<0):∀x∈l,x.msg.id≠id:=by
 unfold zag zbP at h
 cases hf:l.findIdx? (fun x=>decide (x.msg.id=id)) with
 | none=>intro x hx;have:=zadv.1 hf x hx;simpa using this
 | some i=>rw[hf] at h;simp only at h;omega
theorem zDC{l:List zG}(h:l.Pairwise fun x y=>x.msg.id<y.msg.id){i j:Nat}(hi:i<l.length)(hj:j<l.length)(e:l[i].msg.id=l[j].msg.id):i=j:=by
 rw[zacu] at h
 rcases zadR i j with q|q|q
 ·have:=h i j hi hj q;omega
 ·exact q
 ·have:=h j i hj hi q;omega
theorem zvq{l:List zG}(h:l.Pairwise fun x y=>x.msg.id<y.msg.id){k:Nat}(hk:k<l.length):zag l l[k].msg.id=k:=by
 by_cases c:0<=zag l l[k].msg.id
 ·obtain⟨j,hj,e,q⟩:=zmb c;rw[e,zDC h hj hk q]
 ·exact absurd rfl (zvr zo l[k] (zabC _))
theorem zDD{l:List zG}(h:l.Pairwise fun x y=>x.msg.id<y.msg.id):(l.map zbx).Nodup:=by
 refine List.Pairwise.map _ ?_ h;intro a b hab e;have:=congrArg Prod.snd e;simp only[zbx] at this;omega
theorem zMm{t:zN}(h:t.l.Pairwise fun x y=>x.msg.id<y.msg.id):zkC t=true↔t.heap.length=t.l.length/\∀d∈t.heap,d∈t.l.map zbx:=by
 unfold zkC;rw[zabH,decide_eq_true_eq,zabO];refine and_congr_right fun _=>forall_congr' fun d=>forall_congr' fun hd=> ?_;rw[zabH,decide_eq_true_eq,decide_eq_true_eq,zaby];constructor
 ·rintro⟨h0,h1⟩;obtain⟨k,hk,e,q⟩:=zmb h0;rw[e,zab5,zh hk] at h1;exact⟨t.l[k],zabC _,Prod.ext h1 q⟩
 ·rintro⟨x,hx,rfl⟩;obtain⟨k,hk,rfl⟩:=zadc hx;simp only[zbx,zvq h hk];rw[zab5,zh hk];exact⟨by omega,rfl⟩
theorem zBj{t:zN}:zkB t=true↔t.heap.length=t.l.length/\∀d∈t.l.map zbx,d∈t.heap:=by
 unfold zkB;rw[zabH,decide_eq_true_eq,zabO];refine and_congr_right fun _=> ?_;constructor
 ·intro h d hd;obtain⟨x,hx,rfl⟩:=zaby.1 hd;obtain⟨y,hy,e⟩:=zacm.1 (h x hx);rw[decide_eq_true_eq] at e;rw[show zbx x=y from e.symm];exact hy
 ·intro h x hx;exact zacm.2 ⟨_,h _ (zaby.2 ⟨x,hx,rfl⟩),by simp [zbx]⟩
theorem zMn{t:zN}(h:zee t.l=0)(hv:zce t.heap=0):zkB t=zkC t:=by
 have ha:=zhW h;have hn:=((zfx _).1 hv).ids;have hh:t.heap.Nodup:=List.Pairwise.of_map (fun d:Due=>d.2) (fun a b h e=>h (by rw[e])) hn;rw[zacD,zMm ha,zBj];refine and_congr_right fun e=>⟨fun q=> ?_,fun q=> ?_⟩
 ·exact zMB (zDD ha) q (by simp [e])
 ·exact zMB hh q (by simp [e])
theorem zlf(t:zN):ztK t=zao t:=by
 unfold ztK zao
 by_cases h:zee t.l=0
 ·by_cases hv:zce t.heap=0
  ·rw[zMn h hv]
  ·simp only[hv,ne_eq,zabV,if_true]
 ·simp only[h,ne_eq,zabV,if_true]
end Go.Proofs.YtcembpbhkcbnhaaGreat
