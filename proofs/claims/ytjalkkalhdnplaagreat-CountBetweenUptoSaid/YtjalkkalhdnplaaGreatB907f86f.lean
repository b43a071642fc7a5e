/-
  Heaps of deadlines, in plain terms.
-/
import Derived.Test.YtjalkkalhdnplaaGreatBfa1a7b6
import Derived.KernelRfl
import Derived.Test.YtjalkkalhdnplaaGreatBd2d1618
import Derived.IntWalk
set_option linter.unusedSimpArgs false
set_option linter.unusedVariables false
set_option maxHeartbeats 10000000
set_option maxRecDepth 100000
namespace Go.Proofs.YtjalkkalhdnplaaGreat
open Go Go.Sim
def tab:List (Nat×AFn):=[(3,zyY),(6,zIA),(7,zII),(42,zyX),(21,zIF),(13,zIC),(54,zIG),(43,zIH),(10,zIB),(93,zyV),(34,zID),(145,zyU),(146,zIK),(41,zLW),(44,zLQ),(45,zzf),(85,zzh),(94,zKc),(95,zJG),(76,zy4),(31,zJL),(77,zJY),(96,zJ2),(92,zLV),(55,zLR),(142,zLS),(186,zLU),(56,zLM),(99,zK6),(100,zLd),(148,zK8),(149,zKp),(150,zK5),(151,zK1),(204,zK0),(152,zKn),(154,zIX),(205,zy0),(206,zIY),(153,zKY),(155,zK9),(158,zKr),(207,zKd),(218,zKg),(217,zKh),(161,zLb),(219,zKJ),(273,zKF),(156,zK7),(208,zKK),(271,zKT),(292,zKG),(22,zKz),(66,zKD),(67,zKu),(68,zKB),(313,zKA),(281,zKO),(293,zKS),(294,zKR),(26,zKt),(70,zzi),(314,zKi),(36,zKx),(81,zKC),(295,zKQ),(315,zKq),(24,zKs),(296,zKH),(297,zKU),(39,zKv),(89,zJ7),(134,zJ8),(195,zI7),(260,zI8),(130,zI0),(33,zKw),(82,zJT),(127,zJf),(147,zJg),(128,zJu),(196,zy8),(261,zJm),(262,zza),(263,zJk),(197,zJv),(129,zJy),(50,zJO),(98,zJa),(51,zJI),(282,zKW),(307,zKP),(322,zKE),(298,zKN),(316,zzd),(317,zKo),(299,zKV),(318,zKL),(319,zKj),(12,zJC),(47,zJJ),(48,zJU),(49,zJX),(52,zI2),(53,zI6),(157,zLe),(209,zKM),(167,zJM),(174,zK4),(235,zKI),(210,zLc),(211,zJQ),(212,zKX),(213,zKZ),(198,zIW),(214,zI1),(215,zJN),(272,zJb),(300,zJh),(301,zJi),(101,zLg),(159,zLf),(216,zKb),(160,zKf),(162,zLh),(220,zLj),(246,zJF),(285,zJZ),(286,zJr),(309,zy7),(320,zJl),(321,zzb),(325,zJn),(324,zy9),(310,zJp),(276,zJs),(305,zy5),(274,zJR),(278,zJ0),(302,zI3),(303,zIZ),(284,zJd),(308,zy3),(287,zJq),(306,zJj),(163,zLi),(203,zJ9),(270,zIV),(102,zLk),(164,zKa),(221,zyZ),(222,zy1),(165,zLm),(166,zLl),(168,zLn),(223,zJx),(275,zJW),(304,zJH),(224,zJK),(277,zJc),(225,zJA),(279,zJo),(103,zLo),(104,zLp),(11,zKk),(62,zze),(169,zKl),(226,zKm),(105,zLq),(170,zLr),(171,zLs),(227,zJ6),(228,zI5),(229,zI4),(230,zJw),(106,zLt),(172,zLa),(173,zLw),(231,zLx),(234,zLu),(232,zJD),(280,zI9),(233,zLv),(107,zLy),(175,zLB),(236,zLC),(239,zLz),(237,zJE),(283,zJV),(238,zLA),(108,zLD),(176,zLG),(240,zLH),(243,zLE),(241,zJS),(242,zLF),(109,zLI),(177,zLJ),(244,zJ1),(245,zJB),(110,zLK),(178,zLL),(248,zJ4),(247,zJz),(249,zJ3),(143,zLT),(202,zKy),(144,zzk),(116,zLP),(9,zK2),(46,zK3),(97,zzj),(8,zIE),(14,zyW),(15,zIN),(57,zIQ),(58,zIx),(59,zIO),(111,zIP),(25,zIy),(112,zLZ),(179,zzl),(250,zzm),(180,zL0),(60,zIR),(113,zL1),(181,zLY),(61,zIS),(114,zL2),(182,zL3),(115,zIM),(183,zLX),(184,zIL),(16,zzg),(28,zJ5),(73,zy2),(63,zKe),(27,zJP),(71,zJe),(72,zJt),(118,zzc),(119,zy6),(17,zIT),(64,zIJ),(65,zIz),(117,zLO),(185,zLN),(19,zIU), ]
def G:FuncId->Option AFn:=fun f=>Go.Sim.look f tab
theorem zzy:G 3=some zyY:=tk
theorem znH:G 42=some zyX:=tk
theorem zfE:G 93=some zyV:=tk
theorem zzx:G 145=some zyU:=tk
theorem zMv:G 45=some zzf:=tk
theorem zMx:G 85=some zzh:=tk
theorem zMq:G 76=some zy4:=tk
theorem zqC:G 205=some zy0:=tk
theorem zMy:G 70=some zzi:=tk
theorem zMs:G 196=some zy8:=tk
theorem zMt:G 262=some zza:=tk
theorem zj8:G 316=some zzd:=tk
theorem zMr:G 309=some zy7:=tk
theorem zMu:G 321=some zzb:=tk
theorem zzA:G 324=some zy9:=tk
theorem zqE:G 305=some zy5:=tk
theorem zzz:G 308=some zy3:=tk
theorem znI:G 221=some zyZ:=tk
theorem zMp:G 222=some zy1:=tk
theorem zqH:G 62=some zze:=tk
theorem zMA:G 144=some zzk:=tk
theorem zMz:G 97=some zzj:=tk
theorem zeT:G 14=some zyW:=tk
theorem zMB:G 179=some zzl:=tk
theorem zzB:G 250=some zzm:=tk
theorem zMw:G 16=some zzg:=tk
theorem zqD:G 73=some zy2:=tk
theorem zqG:G 118=some zzc:=tk
theorem zqF:G 119=some zy6:=tk
end Go.Proofs.YtjalkkalhdnplaaGreat

namespace Go.Sim
variable {G:FuncId->Option AFn}
theorem zl0 {T:Type} {ks:List Nat} {x:zJ} (μ:T->Nat) (inv:T->Prop) (st:T->St) (Q:T->Option (zT×St)->Prop)
    (h:∀t,inv t->∀L:St->Option (zT×St),(∀t',inv t'->μ t'<μ t->Q t' (L (st t')))->Q t ((exL G x (st t)).bind (zdI ks L))):∀t,inv t->Q t (zN G ks x (st t)):=by
 intro t;generalize hk:μ t=k
 induction k using Nat.strongRecOn generalizing t with
 | ind k ih=>
  intro hi;rw[za0];exact h t hi _ fun t' hi' hlt=>ih (μ t') (by omega) t' rfl hi'
end Go.Sim

namespace Go.Sim
variable {G:FuncId->Option AFn}
theorem wr{x:Int}(h: -9223372036854775808<=x/\x<9223372036854775808):IntKind.i64.wrap x=x:=by
 rw[Go.IntWalk.i64_in _ (by omega)]
theorem zV8{x:Int}(h:0<=x/\x<18446744073709551616):IntKind.u64.wrap x=x:=by rw[Go.IntWalk.u64_in _ (by omega)]
theorem wu8{x:Int}(h:0<=x/\x<256):IntKind.u8.wrap x=x:=by rw[Go.IntWalk.u8_in _ (by omega)]
theorem ltT{a b:Int}(h:a<b):(a<b)=True:=zWN h
theorem ltF{a b:Int}(h:b<=a):(a<b)=False:=zWE (by omega)
theorem leT{a b:Int}(h:a<=b):(a<=b)=True:=zWN h
theorem leF{a b:Int}(h:b<a):(a<=b)=False:=zWE (by omega)
theorem eqT{a b:Int}(h:a=b):(a=b)=True:=zWN h
theorem eqF{a b:Int}(h:¬a=b):(a=b)=False:=zWE h
theorem zN0{α:Type}{l:List α}{a:Nat}(h:a<l.length):(a<l.length)=True:=zWN h
theorem zNZ{α:Type}{l:List α}{a:Nat}(h:l.length<=a):(a<l.length)=False:=zWE (by omega)
theorem zNY{α:Type}{l:List α}{c:Nat}(h:l.length<=c):(l.length<=c)=True:=zWN h
theorem zDs{a b c:Nat}(h:a+b<=c):(a+b<=c)=True:=zWN h
theorem zN6:LIM=4294967296:=rfl
theorem zOy{α β:Type}{f:α->β}{l:List α}{k:Nat}(h:k<l.length):(l.map f)[k]? = some (f (l[k]'h)):=by
 rw[zWT,zWF h];rfl
theorem zVF{k:Nat}:((k:Int)+1).toNat=k+1:=by omega
theorem zd5 {ks:List Nat} {x:zJ} (n:Nat) (p:Nat->Bool) (st:Nat->St) (R fin:zT×St)
    (h:∀k,k<=n->∀L:St->Option (zT×St),(exL G x (st k)).bind (zdI ks L)=if k<n then (if p k=true then L (st (k+1)) else some R) else some fin):
    zN G ks x (st 0)=some (if (List.range n).all p=true then fin else R):=by
 have key:∀m k,k+m=n->zN G ks x (st k)=some (if ((List.range' k m).all p)=true then fin else R):=by
  intro m
  induction m with
  | zero=>
   intro k hk;rw[za0,h k (by omega),zWy (by omega)];rfl
  | succ m ih=>
   intro k hk;rw[za0,h k (by omega),zWz (by omega),zYg,zXL,ih (k+1) (by omega)]
   cases p k<;>rfl
 have:=key n 0 (by omega)
 rwa [<- zY9] at this
theorem ziB{α:Type}[DecidableEq α]{a b:List α}(h:a.length=b.length):((List.range a.length).all fun k=>decide (a[k]? = b[k]?))=decide (a=b):=by
 by_cases e:a=b
 ·subst e;simp
 ·rw[zW0 e];apply zY0.2;intro hh;apply e;rw[zW2] at hh;apply List.ext_getElem?;intro k
  by_cases hk:k<a.length
  ·simpa using hh k (zXx.2 hk)
  ·rw[zYk (by omega),zYk (by omega)]
theorem ziX{α:Type}[DecidableEq α]{a b:List α}{k:Nat}(ha:k<a.length)(hb:k<b.length):decide (a[k]? = b[k]?)=decide (a[k]=b[k]):=by
 rw[zWF ha,zWF hb];simp
def zhX{α:Type}(n:Nat)(p:Nat->Bool)(R:Nat->α)(fin:α):α:=match (List.range n).find? p with|some k=>R k|none=>fin
theorem zh8 {ks:List Nat} {x:zJ} (n:Nat) (p:Nat->Bool) (st:Nat->St) (R:Nat->zT×St) (fin:zT×St)
    (h:∀k,k<=n->∀L:St->Option (zT×St),(exL G x (st k)).bind (zdI ks L)=if k<n then (if p k=true then some (R k) else L (st (k+1))) else some fin):
    zN G ks x (st 0)=some (zhX n p R fin):=by
 have key:∀m k,k+m=n->zN G ks x (st k)=some (match (List.range' k m).find? p with|some k=>R k|none=>fin):=by
  intro m
  induction m with
  | zero=>
   intro k hk;rw[za0,h k (by omega),zWy (by omega)];rfl
  | succ m ih=>
   intro k hk;rw[za0,h k (by omega),zWz (by omega),zYg,List.find?_cons,ih (k+1) (by omega)]
   cases p k<;>rfl
 have:=key n 0 (by omega)
 rwa [<- zY9] at this
def zb1{α:Type}(p:α->Bool)(es:List α):Int:=match es.findIdx? p with|some i=>i|none=> -1
def atB{α:Type}(l:List α)(p:α->Bool)(k:Nat):Bool:=match l[k]? with|some a=>p a|none=>false
theorem zIi{α:Type}(l:List α)(p:α->Bool):(List.range l.length).find? (atB l p)=l.findIdx? p:=by
 have key:∀(m k:Nat),k+m=l.length->(List.range' k m).find? (atB l p)=((l.drop k).findIdx? p).map (k+ ·):=by
  intro m
  induction m with
  | zero=>intro k hk;rw[zZG (by omega)];rfl
  | succ m ih=>
   intro k hk;rw[zYg,List.find?_cons,zXf (show k<l.length by omega),List.findIdx?_cons,ih (k+1) (by omega)];have:atB l p k=p (l[k]'(by omega)):=by unfold atB;rw[zWF (by omega)]
   rw[this]
   cases p (l[k]'(by omega)) with
   | true=>simp
   | false=>
    cases (l.drop (k+1)).findIdx? p with
    | none=>rfl
    | some i=>simp;omega
 have:=key l.length 0 (by omega);rw[<- zY9] at this;rw[this,zXg]
 cases l.findIdx? p<;>simp only[Option.map_none,zXi,zW4]
theorem zgA{α:Type}{l:List α}{p:α->Bool}{k:Nat}(h:k<l.length):atB l p k=p l[k]:=by
 unfold atB;rw[zWF h]
theorem ziV{α β:Type}(l:List α)(p:α->Bool)(R:Nat->β)(fin:β):zhX l.length (atB l p) R fin=match l.findIdx? p with|some k=>R k|none=>fin:=by
 unfold zhX;rw[zIi]
theorem zqW{α:Type}(l:List α)(p:α->Bool):decide (0<=zb1 p l)=l.any p:=by
 unfold zb1
 cases h:l.findIdx? p with
 | none=>simp at h;simpa using h
 | some i=>
  have:=zXP.1 h;simp;exact⟨_,zWH this.1,this.2.1⟩
theorem znP{α:Type}(l:List α)(p:α->Bool): -1<=zb1 p l/\zb1 p l<l.length:=by
 unfold zb1
 cases e:l.findIdx? p with
 | none=>simp only;omega
 | some i=>have:=(zXP.1 e).1;simp only;omega
theorem znQ{α:Type}(l:List α)(p:α->Bool):zb1 p l<0↔∀a∈l,p a=false:=by
 have:=zqW l p;have h2:l.any p=false↔∀a∈l,p a=false:=by simp
 rw[<- h2, <- this];simp
end Go.Sim

namespace Go.Sim
theorem zq{α:Type}{l:List α}{k:Nat}{d:α}(h:k<l.length):l.getD k d=l[k]'h:=by
 rw[zWG,zWF h];rfl
theorem setMap{α β:Type}{f:α->β}{l:List α}{k:Nat}{x:α}:(l.map f).set k (f x)=(l.set k x).map f:=by rw[zXy]
theorem zOz{α β γ:Type}{f:α->β}{g:β->γ}{l:List α}{k:Nat}(h:k<l.length):((l.map f).map g)[k]? = some (g (f (l[k]'h))):=by
 rw[zYb,zWT,zWF h];rfl
theorem zN1{α:Type}{l:List α}{k:Nat}{x:α}:(l.set k x).length=l.length:=zW8
theorem zhq{α:Type}{f:α->D}{l:List α}{k:Nat}{x:α}:(l.set k x).map f=(l.map f).set k (f x):=by rw[zXy]
theorem zkT{ds:List D}{k:Nat}{x:D}:(ds.map AV.d).set k (.d x)=(ds.set k x).map AV.d:=by rw[zXy]
theorem za5{α:Type}{c:Prop}[Decidable c]{A B r:α}(h1:c->A=r)(h2:¬c->B=r):(if c then A else B)=r:=by split<;>simp_all
theorem zVf{ds:List D}{n:Nat}:(ds.map AV.d).take n=(ds.take n).map AV.d:=by rw[zYy]
theorem zVh{α:Type}{f:α->D}{l:List α}{n k:Nat}{x:D}(h:l.length<=n):((l.map f).set k x).take n=(l.map f).set k x:=zYp (by simpa using h)
theorem zVe{α:Type}{f:α->D}{l:List α}{n:Nat}(h:l.length<=n):(l.map f).take n=l.map f:=zYp (by simpa using h)
theorem za6{α:Type}{c:Prop}[Decidable c]{A B r:α}(h1:c->r=A)(h2:¬c->r=B):r=if c then A else B:=by split<;>simp_all
attribute [go_sem ↓] reduceIte
attribute [go_sem] reduceCtorEq Nat.reduceEqDiff Nat.reduceAdd Nat.reduceBEq Nat.reduceMul Nat.reduceLeDiff Nat.reduceSub Nat.reduceLT Nat.reduceDiv Nat.reduceMod List.reduceReplicate Int.reduceEq Int.reduceLT Int.reduceLE Int.reduceAdd Int.reduceSub Int.reduceMul Int.reduceNeg Int.reduceToNat
attribute [go_sem] zVF zVf zVh zVe zN1 zhq zkT zOz wr or_self zXZ false_or zYP or_true zXF zYo zYZ zYa zWV zWJ zN6 zV8 wu8 Bool.true_beq Bool.false_beq zXO zXK ltT ltF leT leF eqT eqF zN0 zNZ zNY zDs zOy zXb Int.natCast_nonneg zWM
theorem pA{a b:Bool}:((a||b)=true)=(a=true\/b=true):=zXD a b
theorem pB{a b:Bool}:((a&&b)=true)=(a=true/\b=true):=zWS a b
theorem pC{p:Prop}[Decidable p]:(decide p=true)=p:=decide_eq_true_eq
theorem pD{a:Bool}:((!a)=true)=(a=false):=zXt a
theorem pE{p:Prop}[Decidable p]:(decide p=false)=¬p:=by simp
theorem pF{p q:Prop}:(¬(p\/q))=(¬p/\¬q):=by simp
theorem pG{a b:Int}:(¬a<b)=(b<=a):=by simp
theorem pH{a b:Int}:(¬a<=b)=(b<a):=by simp
theorem pI{a b:Nat}:(¬a<b)=(b<=a):=by simp
theorem pJ{a b:Nat}:(¬a<=b)=(b<a):=by simp
theorem pK{a b:Bool}:((a||b)=false)=(a=false/\b=false):=by simp
theorem pL{a b:Bool}:((a&&b)=false)=(a=false\/b=false):=by cases a<;>cases b<;>simp
theorem pM{a:Bool}:((!a)=false)=(a=true):=by simp
theorem pN:(true=false)=False:=by simp
theorem pO:(false=true)=False:=by simp
theorem pP{p:Prop}:(¬ ¬p)=p:=by simp
end Go.Sim

namespace Go.Sim
open Go
theorem zW {G:FuncId->Option AFn} {f:FuncId} {c:zJ} {rs:List zbi} {nt:Nat} {sl:Bool} (h:G f=some (.code c rs nt sl):=by exact rfl) {args:List AV} {os:zf} {R:Option (AV×zf)} (hl:args.length<=nt:=by simp)
    (e:(exL G c ⟨enter args++zgh os,os⟩).bind (zgI sl rs os)=R:=by simp -implicitDefEqProofs (maxSteps:=4000000) (disch:=omega) only[zq,go_sem, *];(try simp only[pA,pB,pC,pD,pE,pF,pG,pH,pI,pJ,pK,pL,pM,pN,pO,pP,if_true,if_false]);repeat' (first|done|rfl|(refine za5 (fun hq=> ?_) (fun hq=> ?_)<;>(try (first|(exfalso;omega)|contradiction))<;>(try simp -implicitDefEqProofs (maxSteps:=4000000) (disch:=omega) only[zq,go_sem, *])<;>(try simp only[pA,pB,pC,pD,pE,pF,pG,pH,pI,pJ,pK,pL,pM,pN,pO,pP,if_true,if_false])));(all_goals try rfl);(all_goals try (repeat' (first|done|rfl|(exfalso;omega)|contradiction|(refine za6 (fun hq=> ?_) (fun hq=> ?_)))))):zh G f args os=R:=(zO h hl).trans e
theorem zS{p:Prop}(e:p:=by (try simp -implicitDefEqProofs (maxSteps:=4000000) (disch:=omega) only[zq,go_sem, *]);(try simp only[pA,pB,pC,pD,pE,pF,pG,pH,pI,pJ,pK,pL,pM,pN,pO,pP,if_true,if_false]);repeat' (first|done|rfl|(refine za5 (fun hq=> ?_) (fun hq=> ?_)<;>(try (first|(exfalso;omega)|contradiction))<;>(try simp -implicitDefEqProofs (maxSteps:=4000000) (disch:=omega) only[zq,go_sem, *])<;>(try simp only[pA,pB,pC,pD,pE,pF,pG,pH,pI,pJ,pK,pL,pM,pN,pO,pP,if_true,if_false])));(all_goals try rfl);(all_goals try (repeat' (first|done|rfl|(exfalso;omega)|contradiction|(refine za6 (fun hq=> ?_) (fun hq=> ?_)))))):p:=e
theorem zNr:type_of% @zXO/\type_of% @zXK/\type_of% @zWV/\type_of% @zYZ/\type_of% @zYa/\type_of% @zWJ.{0}/\type_of% @zWM.{0,0}/\type_of% @zWA.{0,0}/\type_of% @zWK.{0}/\type_of% @zWQ.{0,0}/\type_of% @zWD.{0,0}/\type_of% @zWI.{0}/\type_of% @zW4/\type_of% @zhq:=
 ⟨@zXO, @zXK, @zWV, @zYZ, @zYa, @zWJ, @zWM, @zWA, @zWK, @zWQ, @zWD, @zWI, @zW4, @zhq⟩
theorem zPr:type_of% @pA/\type_of% @pB/\type_of% @pC/\type_of% @pD/\type_of% @pE/\type_of% @pF/\type_of% @pG/\type_of% @pH/\type_of% @pI/\type_of% @pJ/\type_of% @pK/\type_of% @pL/\type_of% @pM/\type_of% @pN/\type_of% @pO/\type_of% @pP/\type_of% @if_true.{1}/\type_of% @if_false.{1}:=
 ⟨@pA, @pB, @pC, @pD, @pE, @pF, @pG, @pH, @pI, @pJ, @pK, @pL, @pM, @pN, @pO, @pP, @if_true, @if_false⟩
theorem zo{p:Prop}(h:p:=by omega):p:=h
end Go.Sim

namespace Go.Proofs.YtjalkkalhdnplaaGreat
open Go Go.Sim
attribute [go_sem] zm8 ztX zt6 zjN zt2 ztZ zt3 zt5 ztY zeK zt0 zm7 zt8 zxk zxe zpV zpX zvA zu4 zpQ zu9 zvm zvq zxj zxf zxg zxi zxa zwu zwB zww zvN zuY zuM zwM zwN zvI zll zvJ zvK zwO zwP zwQ zvu zut zus zuU zwR zwy zwU zwV zwS zu1 zux zwT zwW zwZ zw0 zwX zu2 zvj zwY zw1 zw4 zw5 zw2 zvg zw3 zw6 zw7 zvp zuZ zw8 zw9 zvs zuX zvr zxh zvW zp0 zxd zwq zwr zpZ zt1 zt4 zub zue ztU zuc zud ztV zxn zp1 znb zxo zuf zxp zxm zug zxq zxr zua zxl zt9 zpW zvt zlh zvC zvd zuC zuR zlk zlj zuh zt7 ztW zxc zxb zui zwt zwp zwo zvL zul zlg zum zwm zwx zvP zvB zvE zvF zwz zv7 zv3 zwv zv8 zwh zv4 zvX zv1 zvS zvZ zvY zwc zwg zwf zvR zpY zvG zvV zv0 zwe zvO zvQ zv5 zwi zvT zvv zvw zuv zuw zuo zvU zvh zuD zuE zuS zpS zuK zpT zuI zuT zuW zvc zuy zu6 zwk zwd zv2 zwb zhK zvM zwj zv9 zvH zu0 zu7 zvi zvl zuq zuu zwC zwa zva zws zv6 zwA zve zwl zwn zuk zup zvb zuz zuF zuG zwE zwD zvz zvD zwF zwH zu3 zvn zuP zpR zuJ zpU zuL zna zuN zuQ zli zvf zvo zur zun zuB zm9 zuO zuH zwG zvx zuj zwI zvy zjO zpP zwK zwJ zwL zuV zvk zu5 zu8 zuA
abbrev zt(l:List Int):List D:=l.map (.int .i64)
theorem zpz(l:List Int):zas 1 (zt l)=true:=by simp [zas,D.size,D.cells]
def zax(b:List UInt8):D:= .sl (byD b)
theorem zDG(l:List (List UInt8)):zas 1 (l.map zax)=true:=by simp [zas,D.size,D.cells,zax]
theorem zDI(l:List (List UInt8)):zas 1 (l.map D.str)=true:=by simp [zas,D.size,D.cells]
abbrev Due:=Int×Int
def eD(d:Due):D:= .agg [.int .i64 d.1,.int .i64 d.2]
theorem zGj(d:Due):(eD d).cells=[.int .i64 d.1,.int .i64 d.2]:=rfl
theorem zfC(d:Due):(eD d).size=2:=rfl
theorem zgb(d:Due):(eD d).asAgg=eD d:=rfl
theorem zGk(d:Due):(eD d).isT=false:=rfl
theorem zjJ(h:List Due):zas 2 (h.map eD)=true:=by simp [zas,zfC]
structure Span where
 low:Int
 high:Int
 shard:Int
 deriving DecidableEq
def zcX:Span:=⟨0,0,0⟩
instance:Inhabited Span:=⟨zcX⟩
def zbR(x:Span):D:= .agg [.int .i64 x.low,.int .i64 x.high,.int .i64 x.shard]
theorem zGP(x:Span):(zbR x).cells=[.int .i64 x.low,.int .i64 x.high,.int .i64 x.shard]:=rfl
theorem zyv(x:Span):(zbR x).size=3:=rfl
theorem zGO(x:Span):(zbR x).asAgg=zbR x:=rfl
theorem zGQ(x:Span):(zbR x).isT=false:=rfl
theorem zDC(l:List Span):zas 3 (l.map zbR)=true:=by simp [zas,zyv]
structure zal where
 version:Int
 l:List Span
 forward:List Int
 deriving DecidableEq
def zeH:zal:=⟨0,[],[]⟩
instance:Inhabited zal:=⟨zeH⟩
def zat(x:zal):D:= .agg [.int .i64 x.version,.sl (x.l.map zbR),.sl (zt x.forward)]
theorem zGp(x:zal):(zat x).cells=[.int .i64 x.version,.sl (x.l.map zbR),.sl (zt x.forward)]:=rfl
theorem zGr(x:zal):(zat x).size=3:=rfl
theorem zGo(x:zal):(zat x).asAgg=zat x:=rfl
theorem zGq(x:zal):(zat x).isT=false:=rfl
structure zeI where
 kind:Int
 from_:Int
 to:Int
 mid:Int
 deriving DecidableEq
def zfa:zeI:=⟨0,0,0,0⟩
instance:Inhabited zeI:=⟨zfa⟩
def zgd(x:zeI):D:= .agg [.int .i64 x.kind,.int .i64 x.from_,.int .i64 x.to,.int .i64 x.mid]
theorem zGt(x:zeI):(zgd x).cells=[.int .i64 x.kind,.int .i64 x.from_,.int .i64 x.to,.int .i64 x.mid]:=rfl
theorem zGv(x:zeI):(zgd x).size=4:=rfl
theorem zGs(x:zeI):(zgd x).asAgg=zgd x:=rfl
theorem zGu(x:zeI):(zgd x).isT=false:=rfl
structure Setup where
 slots:Int
 live:Int
 capacity:Int
 dead:Int
 limit:Int
 clock:Int
 nextID:Int
 epoch:Int
 deriving DecidableEq
def zeb:Setup:=⟨0,0,0,0,0,0,0,0⟩
instance:Inhabited Setup:=⟨zeb⟩
def zaH(x:Setup):D:= .agg [.int .i64 x.slots,.int .i64 x.live,.int .i64 x.capacity,.int .i64 x.dead,.int .i64 x.limit,.int .i64 x.clock,.int .i64 x.nextID,.int .i64 x.epoch]
theorem zyr(x:Setup):(zaH x).size=8:=rfl
theorem zyo(x:Setup):(zaH x).asAgg=zaH x:=rfl
theorem zyq(x:Setup):(zaH x).isT=false:=rfl
theorem zyp(x:Setup):(zaH x).size=8/\(zaH x).isT=false/\(zaH x).asAgg=zaH x:=⟨zyr x,zyq x,zyo x⟩
structure Message where
 id:Int
 route:Int
 epoch:Int
 count:Int
 gen:Int
 sent:Int
 body:List UInt8
 deriving DecidableEq
def z9:Message:=⟨0,0,0,0,0,0,[]⟩
instance:Inhabited Message:=⟨z9⟩
def zk(x:Message):D:= .agg [.int .i64 x.id,.int .i64 x.route,.int .i64 x.epoch,.int .i64 x.count,.int .i64 x.gen,.int .i64 x.sent,.str x.body]
theorem zGH(x:Message):(zk x).cells=[.int .i64 x.id,.int .i64 x.route,.int .i64 x.epoch,.int .i64 x.count,.int .i64 x.gen,.int .i64 x.sent,.str x.body]:=rfl
theorem zyf(x:Message):(zk x).size=7:=rfl
theorem zGG(x:Message):(zk x).asAgg=zk x:=rfl
theorem zGI(x:Message):(zk x).isT=false:=rfl
theorem zpy(l:List Message):zas 7 (l.map zk)=true:=by simp [zas,zyf]
structure zR where
 cells:List Message
 head:Int
 size:Int
 deriving DecidableEq
def zar:zR:=⟨[],0,0⟩
instance:Inhabited zR:=⟨zar⟩
def z6(x:zR):D:= .agg [.sl (x.cells.map zk),.int .i64 x.head,.int .i64 x.size]
theorem zGJ(x:zR):(z6 x).cells=[.sl (x.cells.map zk),.int .i64 x.head,.int .i64 x.size]:=rfl
theorem zGL(x:zR):(z6 x).size=3:=rfl
theorem zGK(x:zR):(z6 x).isT=false:=rfl
structure zx where
 msg:Message
 deadline:Int
 deriving DecidableEq
def zbZ:zx:=⟨⟨0,0,0,0,0,0,[]⟩,0⟩
instance:Inhabited zx:=⟨zbZ⟩
def zaE(x:zx):D:= .agg [.int .i64 x.msg.id,.int .i64 x.msg.route,.int .i64 x.msg.epoch,.int .i64 x.msg.count,.int .i64 x.msg.gen,.int .i64 x.msg.sent,.str x.msg.body,.int .i64 x.deadline]
theorem zGA(x:zx):(zaE x).cells=[.int .i64 x.msg.id,.int .i64 x.msg.route,.int .i64 x.msg.epoch,.int .i64 x.msg.count,.int .i64 x.msg.gen,.int .i64 x.msg.sent,.str x.msg.body,.int .i64 x.deadline]:=rfl
theorem zye(x:zx):(zaE x).size=8:=rfl
theorem zGz(x:zx):(zaE x).asAgg=zaE x:=rfl
theorem zGB(x:zx):(zaE x).isT=false:=rfl
theorem zjI(l:List zx):zas 8 (l.map zaE)=true:=by simp [zas,zye]
structure Table where
 l:List zx
 heap:List Due
 deriving DecidableEq
def zac:Table:=⟨[],[]⟩
instance:Inhabited Table:=⟨zac⟩
def zan(x:Table):D:= .agg [.sl (x.l.map zaE),.sl (x.heap.map eD)]
theorem zGT(x:Table):(zan x).cells=[.sl (x.l.map zaE),.sl (x.heap.map eD)]:=rfl
theorem zGV(x:Table):(zan x).size=2:=rfl
theorem zGS(x:Table):(zan x).asAgg=zan x:=rfl
theorem zGU(x:Table):(zan x).isT=false:=rfl
structure Shard where
 live:Bool
 low:Int
 high:Int
 ready:zR
 leases:Table
 deriving DecidableEq
def zw:Shard:=⟨false,0,0,⟨[],0,0⟩,⟨[],[]⟩⟩
instance:Inhabited Shard:=⟨zw⟩
def zj(x:Shard):D:= .agg [.bool x.live,.int .i64 x.low,.int .i64 x.high,.sl (x.ready.cells.map zk),.int .i64 x.ready.head,.int .i64 x.ready.size,.sl (x.leases.l.map zaE),.sl (x.leases.heap.map eD)]
theorem zGM(x:Shard):(zj x).cells=[.bool x.live,.int .i64 x.low,.int .i64 x.high,.sl (x.ready.cells.map zk),.int .i64 x.ready.head,.int .i64 x.ready.size,.sl (x.leases.l.map zaE),.sl (x.leases.heap.map eD)]:=rfl
theorem zqm(x:Shard):(zj x).size=8:=rfl
theorem zys(x:Shard):(zj x).asAgg=zj x:=rfl
theorem zyt(x:Shard):(zj x).isT=false:=rfl
theorem zbA(x:Shard):(zj x).size=8/\(zj x).isT=false/\(zj x).asAgg=zj x:=⟨zqm x,zyt x,zys x⟩
theorem zDA(l:List Shard):zas 8 (l.map zj)=true:=by simp [zas,zqm]
structure Slot where
 owner:Int
 shard:Shard
 deriving DecidableEq
def zdS:Slot:=⟨0,⟨false,0,0,⟨[],0,0⟩,⟨[],[]⟩⟩⟩
instance:Inhabited Slot:=⟨zdS⟩
def zd0(x:Slot):D:= .agg [.int .i64 x.owner,.bool x.shard.live,.int .i64 x.shard.low,.int .i64 x.shard.high,.sl (x.shard.ready.cells.map zk),.int .i64 x.shard.ready.head,.int .i64 x.shard.ready.size,.sl (x.shard.leases.l.map zaE),.sl (x.shard.leases.heap.map eD)]
theorem zGN(x:Slot):(zd0 x).cells=[.int .i64 x.owner,.bool x.shard.live,.int .i64 x.shard.low,.int .i64 x.shard.high,.sl (x.shard.ready.cells.map zk),.int .i64 x.shard.ready.head,.int .i64 x.shard.ready.size,.sl (x.shard.leases.l.map zaE),.sl (x.shard.leases.heap.map eD)]:=rfl
theorem zyu(x:Slot):(zd0 x).size=9:=rfl
theorem zDB(l:List Slot):zas 9 (l.map zd0)=true:=by simp [zas,zyu]
structure Stripe where
 seq:Int
 epoch:Int
 ready:Int
 leased:Int
 deriving DecidableEq
def zbh:Stripe:=⟨0,0,0,0⟩
instance:Inhabited Stripe:=⟨zbh⟩
def zG(x:Stripe):D:= .agg [.int .i64 x.seq,.int .i64 x.epoch,.int .i64 x.ready,.int .i64 x.leased]
theorem zyw(x:Stripe):(zG x).size=4:=rfl
theorem zqn(x:Stripe):(zG x).asAgg=zG x:=rfl
theorem zGR(x:Stripe):(zG x).isT=false:=rfl
theorem zDD(l:List Stripe):zas 4 (l.map zG)=true:=by simp [zas,zyw]
structure Dead where
 cap:Int
 l:List Message
 deriving DecidableEq
def za3:Dead:=⟨0,[]⟩
instance:Inhabited Dead:=⟨za3⟩
def zP(x:Dead):D:= .agg [.int .i64 x.cap,.sl (x.l.map zk)]
theorem zGl(x:Dead):(zP x).cells=[.int .i64 x.cap,.sl (x.l.map zk)]:=rfl
theorem zGn(x:Dead):(zP x).size=2:=rfl
theorem zGm(x:Dead):(zP x).isT=false:=rfl
structure zmY where
 owner:Int
 dead:Dead
 deriving DecidableEq
def zWo:zmY:=⟨0,⟨0,[]⟩⟩
instance:Inhabited zmY:=⟨zWo⟩
def zgc(x:zmY):D:= .agg [.int .i64 x.owner,.int .i64 x.dead.cap,.sl (x.dead.l.map zk)]
structure zg where
 slots:List Slot
 stripes:List Stripe
 dead:zmY
 dir:zal
 epoch:Int
 clock:Int
 nextID:Int
 deriving DecidableEq
def zB:zg:=⟨[],[],⟨0,⟨0,[]⟩⟩,⟨0,[],[]⟩,0,0,0⟩
instance:Inhabited zg:=⟨zB⟩
def zn(x:zg):D:= .agg [.sl (x.slots.map zd0),.sl (x.stripes.map zG),.int .i64 x.dead.owner,.int .i64 x.dead.dead.cap,.sl (x.dead.dead.l.map zk),.int .i64 x.dir.version,.sl (x.dir.l.map zbR),.sl (zt x.dir.forward),.int .i64 x.epoch,.int .i64 x.clock,.int .i64 x.nextID]
theorem zGh(x:zg):(zn x).cells=[.sl (x.slots.map zd0),.sl (x.stripes.map zG),.int .i64 x.dead.owner,.int .i64 x.dead.dead.cap,.sl (x.dead.dead.l.map zk),.int .i64 x.dir.version,.sl (x.dir.l.map zbR),.sl (zt x.dir.forward),.int .i64 x.epoch,.int .i64 x.clock,.int .i64 x.nextID]:=rfl
theorem zx5(x:zg):(zn x).size=11:=rfl
theorem zx3(x:zg):(zn x).asAgg=zn x:=rfl
theorem zx4(x:zg):(zn x).isT=false:=rfl
theorem zbj(x:zg):(zn x).size=11/\(zn x).isT=false/\(zn x).asAgg=zn x:=⟨zx5 x,zx4 x,zx3 x⟩
structure ziz where
 phase:Int
 epoch:Int
 clock:Int
 stamp:Int
 deriving DecidableEq
def zhG:ziz:=⟨0,0,0,0⟩
instance:Inhabited ziz:=⟨zhG⟩
def zhf(x:ziz):D:= .agg [.int .i64 x.phase,.int .i64 x.epoch,.int .i64 x.clock,.int .i64 x.stamp]
structure zaS where
 kind:Int
 home:Int
 max:Int
 visibility:Int
 from_:Int
 to:Int
 bodies:List (List UInt8)
 tokens:List (List UInt8)
 deriving DecidableEq
def ziu:zaS:=⟨0,0,0,0,0,0,[],[]⟩
instance:Inhabited zaS:=⟨ziu⟩
def zbK(x:zaS):D:= .agg [.int .i64 x.kind,.int .i64 x.home,.int .i64 x.max,.int .i64 x.visibility,.int .i64 x.from_,.int .i64 x.to,.sl (x.bodies.map .str),.sl (x.tokens.map zax)]
theorem zyd(x:zaS):(zbK x).size=8:=rfl
theorem zyb(x:zaS):(zbK x).asAgg=zbK x:=rfl
theorem zyc(x:zaS):(zbK x).isT=false:=rfl
theorem zGy(x:zaS):(zbK x).size=8/\(zbK x).isT=false/\(zbK x).asAgg=zbK x:=⟨zyd x,zyc x,zyb x⟩
structure Result where
 err:Int
 id:Int
 tokens:List (List UInt8)
 bodies:List (List UInt8)
 ready:Int
 leased:Int
 moved:Int
 deriving DecidableEq
def z5:Result:=⟨0,0,[],[],0,0,0⟩
instance:Inhabited Result:=⟨z5⟩
def zZ(x:Result):D:= .agg [.int .i64 x.err,.int .i64 x.id,.sl (x.tokens.map zax),.sl (x.bodies.map .str),.int .i64 x.ready,.int .i64 x.leased,.int .i64 x.moved]
theorem zql(x:Result):(zZ x).size=7:=rfl
theorem zyj(x:Result):(zZ x).asAgg=zZ x:=rfl
theorem zyk(x:Result):(zZ x).isT=false:=rfl
theorem zlu(x:Result):(zZ x).size=7/\(zZ x).isT=false/\(zZ x).asAgg=zZ x:=⟨zql x,zyk x,zyj x⟩
theorem zDz(l:List Result):zas 7 (l.map zZ)=true:=by simp [zas,zql]
structure zbF where
 cells:List Int
 phase:Int
 have_:Int
 tries:Int
 wait:Int
 deriving DecidableEq
def zgw:zbF:=⟨[],0,0,0,0⟩
instance:Inhabited zbF:=⟨zgw⟩
def zcQ(x:zbF):D:= .agg [.sl (zt x.cells),.int .i64 x.phase,.int .i64 x.have_,.int .i64 x.tries,.int .i64 x.wait]
theorem zGD(x:zbF):(zcQ x).cells=[.sl (zt x.cells),.int .i64 x.phase,.int .i64 x.have_,.int .i64 x.tries,.int .i64 x.wait]:=rfl
theorem zGF(x:zbF):(zcQ x).size=5:=rfl
theorem zGC(x:zbF):(zcQ x).asAgg=zcQ x:=rfl
theorem zGE(x:zbF):(zcQ x).isT=false:=rfl
structure zb3 where
 shards:List Shard
 dead:Dead
 order:List Int
 carry:List Message
 edits:List zeI
 deriving DecidableEq
def ziv:zb3:=⟨[],⟨0,[]⟩,[],[],[]⟩
instance:Inhabited zb3:=⟨ziv⟩
def zY(x:zb3):D:= .agg [.sl (x.shards.map zj),.int .i64 x.dead.cap,.sl (x.dead.l.map zk),.sl (zt x.order),.sl (x.carry.map zk),.sl (x.edits.map zgd)]
theorem zyi(x:zb3):(zY x).size=6:=rfl
theorem zyg(x:zb3):(zY x).asAgg=zY x:=rfl
theorem zyh(x:zb3):(zY x).isT=false:=rfl
theorem znq(x:zb3):(zY x).size=6/\(zY x).isT=false/\(zY x).asAgg=zY x:=⟨zyi x,zyh x,zyg x⟩
structure Section where
 phase:Int
 at_:Int
 lock:zbF
 snap:ziz
 shards:List Shard
 dead:Dead
 stripes:List Stripe
 dir:zal
 out:zb3
 limit:Int
 carry:List Message
 deriving DecidableEq
def zbU:Section:=⟨0,0,⟨[],0,0,0,0⟩,⟨0,0,0,0⟩,[],⟨0,[]⟩,[],⟨0,[],[]⟩,⟨[],⟨0,[]⟩,[],[],[]⟩,0,[]⟩
instance:Inhabited Section:=⟨zbU⟩
def zr(x:Section):D:= .agg [.int .i64 x.phase,.int .i64 x.at_,.sl (zt x.lock.cells),.int .i64 x.lock.phase,.int .i64 x.lock.have_,.int .i64 x.lock.tries,.int .i64 x.lock.wait,.int .i64 x.snap.phase,.int .i64 x.snap.epoch,.int .i64 x.snap.clock,.int .i64 x.snap.stamp,.sl (x.shards.map zj),.int .i64 x.dead.cap,.sl (x.dead.l.map zk),.sl (x.stripes.map zG),.int .i64 x.dir.version,.sl (x.dir.l.map zbR),.sl (zt x.dir.forward),.sl (x.out.shards.map zj),.int .i64 x.out.dead.cap,.sl (x.out.dead.l.map zk),.sl (zt x.out.order),.sl (x.out.carry.map zk),.sl (x.out.edits.map zgd),.int .i64 x.limit,.sl (x.carry.map zk)]
theorem zyn(x:Section):(zr x).size=26:=rfl
theorem zyl(x:Section):(zr x).asAgg=zr x:=rfl
theorem zym(x:Section):(zr x).isT=false:=rfl
theorem zej(x:Section):(zr x).size=26/\(zr x).isT=false/\(zr x).asAgg=zr x:=⟨zyn x,zym x,zyl x⟩
structure zfd where
 next:Int
 covered:Int
 deriving DecidableEq
def zgx:zfd:=⟨0,0⟩
instance:Inhabited zfd:=⟨zgx⟩
def zc2(x:zfd):D:= .agg [.int .i64 x.next,.int .i64 x.covered]
structure zaW where
 id:Int
 gen:Int
 route:Int
 hint:Int
 deriving DecidableEq
def zf0:zaW:=⟨0,0,0,0⟩
instance:Inhabited zaW:=⟨zf0⟩
def zaz(x:zaW):D:= .agg [.int .i64 x.id,.int .i64 x.gen,.int .i64 x.route,.int .i64 x.hint]
structure zi where
 number:Int
 inv:zaS
 invoked:Int
 done:Bool
 ended:Int
 pc:Int
 entry:Int
 results:List Result
 setup:Setup
 sec:Section
 dir:zal
 walk:zfd
 slot:Int
 id:Int
 handle:zaW
 loaded:Int
 first:List Stripe
 second:List Stripe
 deriving DecidableEq
def zC:zi:=⟨0,⟨0,0,0,0,0,0,[],[]⟩,0,false,0,0,0,[],⟨0,0,0,0,0,0,0,0⟩,⟨0,0,⟨[],0,0,0,0⟩,⟨0,0,0,0⟩,[],⟨0,[]⟩,[],⟨0,[],[]⟩,⟨[],⟨0,[]⟩,[],[],[]⟩,0,[]⟩,⟨0,[],[]⟩,⟨0,0⟩,0,0,⟨0,0,0,0⟩,0,[],[]⟩
instance:Inhabited zi:=⟨zC⟩
def zd(x:zi):D:= .agg [.int .i64 x.number,.int .i64 x.inv.kind,.int .i64 x.inv.home,.int .i64 x.inv.max,.int .i64 x.inv.visibility,.int .i64 x.inv.from_,.int .i64 x.inv.to,.sl (x.inv.bodies.map .str),.sl (x.inv.tokens.map zax),.int .i64 x.invoked,.bool x.done,.int .i64 x.ended,.int .i64 x.pc,.int .i64 x.entry,.sl (x.results.map zZ),.int .i64 x.setup.slots,.int .i64 x.setup.live,.int .i64 x.setup.capacity,.int .i64 x.setup.dead,.int .i64 x.setup.limit,.int .i64 x.setup.clock,.int .i64 x.setup.nextID,.int .i64 x.setup.epoch,.int .i64 x.sec.phase,.int .i64 x.sec.at_,.sl (zt x.sec.lock.cells),.int .i64 x.sec.lock.phase,.int .i64 x.sec.lock.have_,.int .i64 x.sec.lock.tries,.int .i64 x.sec.lock.wait,.int .i64 x.sec.snap.phase,.int .i64 x.sec.snap.epoch,.int .i64 x.sec.snap.clock,.int .i64 x.sec.snap.stamp,.sl (x.sec.shards.map zj),.int .i64 x.sec.dead.cap,.sl (x.sec.dead.l.map zk),.sl (x.sec.stripes.map zG),.int .i64 x.sec.dir.version,.sl (x.sec.dir.l.map zbR),.sl (zt x.sec.dir.forward),.sl (x.sec.out.shards.map zj),.int .i64 x.sec.out.dead.cap,.sl (x.sec.out.dead.l.map zk),.sl (zt x.sec.out.order),.sl (x.sec.out.carry.map zk),.sl (x.sec.out.edits.map zgd),.int .i64 x.sec.limit,.sl (x.sec.carry.map zk),.int .i64 x.dir.version,.sl (x.dir.l.map zbR),.sl (zt x.dir.forward),.int .i64 x.walk.next,.int .i64 x.walk.covered,.int .i64 x.slot,.int .i64 x.id,.int .i64 x.handle.id,.int .i64 x.handle.gen,.int .i64 x.handle.route,.int .i64 x.handle.hint,.int .i64 x.loaded,.sl (x.first.map zG),.sl (x.second.map zG)]
theorem zqo(x:zi):(zd x).size=63:=rfl
theorem zyx(x:zi):(zd x).asAgg=zd x:=rfl
theorem zyy(x:zi):(zd x).isT=false:=rfl
theorem zE(x:zi):(zd x).size=63/\(zd x).isT=false/\(zd x).asAgg=zd x:=⟨zqo x,zyy x,zyx x⟩
theorem zDE(l:List zi):zas 63 (l.map zd)=true:=by simp [zas,zqo]
structure zpt where
 id:Int
 state:Int
 count:Int
 gen:Int
 route:Int
 deadline:Int
 deriving DecidableEq
def zWq:zpt:=⟨0,0,0,0,0,0⟩
instance:Inhabited zpt:=⟨zWq⟩
structure Bag where
 limit:Int
 now:Int
 epoch:Int
 l:List zpt
 deriving DecidableEq
def zWn:Bag:=⟨0,0,0,[]⟩
instance:Inhabited Bag:=⟨zWn⟩
structure Grant where
 id:Int
 gen:Int
 route:Int
 deadline:Int
 deriving DecidableEq
def zWp:Grant:=⟨0,0,0,0⟩
instance:Inhabited Grant:=⟨zWp⟩
def zbJ(x:Grant):D:= .agg [.int .i64 x.id,.int .i64 x.gen,.int .i64 x.route,.int .i64 x.deadline]
theorem zya(x:Grant):(zbJ x).size=4:=rfl
theorem zGx(x:Grant):(zbJ x).isT=false:=rfl
theorem zDy(l:List Grant):zas 4 (l.map zbJ)=true:=by simp [zas,zya]
structure Event where
 stamp:Int
 task:Int
 entry:Int
 kind:Int
 now:Int
 epoch:Int
 err:Int
 l:List Grant
 ready:Int
 leased:Int
 deriving DecidableEq
def zbT:Event:=⟨0,0,0,0,0,0,0,[],0,0⟩
instance:Inhabited Event:=⟨zbT⟩
def zad(x:Event):D:= .agg [.int .i64 x.stamp,.int .i64 x.task,.int .i64 x.entry,.int .i64 x.kind,.int .i64 x.now,.int .i64 x.epoch,.int .i64 x.err,.sl (x.l.map zbJ),.int .i64 x.ready,.int .i64 x.leased]
theorem zqk(x:Event):(zad x).size=10:=rfl
theorem zx8(x:Event):(zad x).asAgg=zad x:=rfl
theorem zx9(x:Event):(zad x).isT=false:=rfl
theorem zGw(x:Event):(zad x).size=10/\(zad x).isT=false/\(zad x).asAgg=zad x:=⟨zqk x,zx9 x,zx8 x⟩
theorem zDx(l:List Event):zas 10 (l.map zad)=true:=by simp [zas,zqk]
structure World where
 setup:Setup
 arena:zg
 tasks:List zi
 log:List Event
 steps:Int
 handles:List (List UInt8)
 deriving DecidableEq
def zaA:World:=⟨⟨0,0,0,0,0,0,0,0⟩,⟨[],[],⟨0,⟨0,[]⟩⟩,⟨0,[],[]⟩,0,0,0⟩,[],[],0,[]⟩
instance:Inhabited World:=⟨zaA⟩
def zy(x:World):D:= .agg [.int .i64 x.setup.slots,.int .i64 x.setup.live,.int .i64 x.setup.capacity,.int .i64 x.setup.dead,.int .i64 x.setup.limit,.int .i64 x.setup.clock,.int .i64 x.setup.nextID,.int .i64 x.setup.epoch,.sl (x.arena.slots.map zd0),.sl (x.arena.stripes.map zG),.int .i64 x.arena.dead.owner,.int .i64 x.arena.dead.dead.cap,.sl (x.arena.dead.dead.l.map zk),.int .i64 x.arena.dir.version,.sl (x.arena.dir.l.map zbR),.sl (zt x.arena.dir.forward),.int .i64 x.arena.epoch,.int .i64 x.arena.clock,.int .i64 x.arena.nextID,.sl (x.tasks.map zd),.sl (x.log.map zad),.int .i64 x.steps,.sl (x.handles.map zax)]
theorem zyB(x:World):(zy x).size=23:=rfl
theorem zyz(x:World):(zy x).asAgg=zy x:=rfl
theorem zyA(x:World):(zy x).isT=false:=rfl
theorem zbk(x:World):(zy x).size=23/\(zy x).isT=false/\(zy x).asAgg=zy x:=⟨zyB x,zyA x,zyz x⟩
structure Ref where
 index:Int
 variant:Int
 raw:List UInt8
 deriving DecidableEq
def zWs:Ref:=⟨0,0,[]⟩
instance:Inhabited Ref:=⟨zWs⟩
def zhS(x:Ref):D:= .agg [.int .i64 x.index,.int .i64 x.variant,.sl (byD x.raw)]
structure Command where
 kind:Int
 pick:Int
 by_:Int
 inv:zaS
 refs:List Ref
 deriving DecidableEq
def zC4:Command:=⟨0,0,0,⟨0,0,0,0,0,0,[],[]⟩,[]⟩
instance:Inhabited Command:=⟨zC4⟩
def zaZ(x:Command):D:= .agg [.int .i64 x.kind,.int .i64 x.pick,.int .i64 x.by_,.int .i64 x.inv.kind,.int .i64 x.inv.home,.int .i64 x.inv.max,.int .i64 x.inv.visibility,.int .i64 x.inv.from_,.int .i64 x.inv.to,.sl (x.inv.bodies.map .str),.sl (x.inv.tokens.map zax),.sl (x.refs.map zhS)]
theorem zqj(x:Command):(zaZ x).size=12:=rfl
theorem zx6(x:Command):(zaZ x).asAgg=zaZ x:=rfl
theorem zx7(x:Command):(zaZ x).isT=false:=rfl
theorem zGi(x:Command):(zaZ x).size=12/\(zaZ x).isT=false/\(zaZ x).asAgg=zaZ x:=⟨zqj x,zx7 x,zx6 x⟩
theorem zDw(l:List Command):zas 12 (l.map zaZ)=true:=by simp [zas,zqj]
theorem zG9(x y:Due):(decide (x.1=y.1)&&decide (x.2=y.2))=decide (x=y):=by
 cases x;cases y
 apply zXm.2;simp
theorem zHf{H:zf}{ng:Bool}(x y:Due):zeQ H ng 2 [(0,0),(1,0)] (.d (eD x)) (.d (eD y))=zil H ng (some (decide (x=y))):=by
 rw[<- zG9];simp only[zeQ,eD,zeP,zhT,zWI,zWK,zXT,zYt,zW9,zXi,if_true,zXs,zW4,Nat.reduceAdd,zYd]
theorem zHb(x y:Message):(decide (x.id=y.id)&&(decide (x.route=y.route)&&(decide (x.epoch=y.epoch)&&(decide (x.count=y.count)&&(decide (x.gen=y.gen)&&(decide (x.sent=y.sent)&&decide (x.body=y.body)))))))=decide (x=y):=by
 cases x;cases y
 apply zXm.2;simp
theorem zHh{H:zf}{ng:Bool}(x y:Message):zeQ H ng 7 [(0,0),(1,0),(2,0),(3,0),(4,0),(5,0),(6,2)] (.d (zk x)) (.d (zk y))=zil H ng (some (decide (x=y))):=by
 rw[<- zHb];simp only[zeQ,zk,zeP,zhT,zWI,zWK,zXT,zYt,zW9,zXi,if_true,zXs,zW4,Nat.reduceAdd,zYd]
theorem zHd(x y:Stripe):(decide (x.seq=y.seq)&&(decide (x.epoch=y.epoch)&&(decide (x.ready=y.ready)&&decide (x.leased=y.leased))))=decide (x=y):=by
 cases x;cases y
 apply zXm.2;simp
theorem zHj{H:zf}{ng:Bool}(x y:Stripe):zeQ H ng 4 [(0,0),(1,0),(2,0),(3,0)] (.d (zG x)) (.d (zG y))=zil H ng (some (decide (x=y))):=by
 rw[<- zHd];simp only[zeQ,zG,zeP,zhT,zWI,zWK,zXT,zYt,zW9,zXi,if_true,zXs,zW4,Nat.reduceAdd,zYd]
theorem zHa(x y:zx):(decide (x.msg.id=y.msg.id)&&(decide (x.msg.route=y.msg.route)&&(decide (x.msg.epoch=y.msg.epoch)&&(decide (x.msg.count=y.msg.count)&&(decide (x.msg.gen=y.msg.gen)&&(decide (x.msg.sent=y.msg.sent)&&(decide (x.msg.body=y.msg.body)&&decide (x.deadline=y.deadline))))))))=decide (x=y):=by
 obtain⟨⟨x1,x2,x3,x4,x5,x6,x7⟩,x8⟩:=x;obtain⟨⟨y1,y2,y3,y4,y5,y6,y7⟩,y8⟩:=y;apply zXm.2;simp [and_assoc]
theorem zHg{H:zf}{ng:Bool}(x y:zx):zeQ H ng 8 [(0,0),(1,0),(2,0),(3,0),(4,0),(5,0),(6,2),(7,0)] (.d (zaE x)) (.d (zaE y))=zil H ng (some (decide (x=y))):=by
 rw[<- zHa];simp only[zeQ,zaE,zeP,zhT,zWI,zWK,zXT,zYt,zW9,zXi,if_true,zXs,zW4,Nat.reduceAdd,zYd]
theorem zHc(x y:Span):(decide (x.low=y.low)&&(decide (x.high=y.high)&&decide (x.shard=y.shard)))=decide (x=y):=by
 cases x;cases y
 apply zXm.2;simp
theorem zHi{H:zf}{ng:Bool}(x y:Span):zeQ H ng 3 [(0,0),(1,0),(2,0)] (.d (zbR x)) (.d (zbR y))=zil H ng (some (decide (x=y))):=by
 rw[<- zHc];simp only[zeQ,zbR,zeP,zhT,zWI,zWK,zXT,zYt,zW9,zXi,if_true,zXs,zW4,Nat.reduceAdd,zYd]
attribute [go_sem high] zHf zHh zHj zHg zHi
attribute [go_sem] zpz zDG zDI zGj zfC zgb zGk zjJ zGP zyv zGO zGQ zDC zGp zGr zGo zGq zGt zGv zGs zGu zyr zyo zyq zGH zyf zGG zGI zpy zGJ zGL zGK zGA zye zGz zGB zjI zGT zGV zGS zGU zGM zqm zys zyt zDA zGN zyu zDB zyw zqn zGR zDD zGl zGn zGm zGh zx5 zx3 zx4 zyd zyb zyc zql zyj zyk zDz zGD zGF zGC zGE zyi zyg zyh zyn zyl zym zqo zyx zyy zDE zya zGx zDy zqk zx8 zx9 zDx zyB zyz zyA zqj zx6 zx7 zDw
theorem zC2{x:Int}(h0: -4294967296<=x)(h1:x<=4294967296):IntKind.i64.wrap x=x:=wr zo
abbrev zp(l:List Int)(a:Nat):Go.Sim.Obj:= .row [.d (.agg [.sl (zt l),.int .i64 a])]
theorem zPb(l:List Int)(hL:l.length<=LIM):zh G 6 [.d (.sl (zt l))] []=some (.ref 0 0 0,[(0,zp (l.take 4000) 0)]):=by
 have hs:=zpz l
 by_cases h:4000<l.length
 ·have e:zt (l.take 4000)=(zt l).take 4000:=by simp [zt,zYy]
  simp only[zp,e];exact zW
 ·have e:l.take 4000=l:=zYp zo;simp only[zp,e];exact zW
def zau(l:List Int)(a:Nat):Int×Nat:=if a<l.length then (l.getD a 0,a+1) else (0,a)
theorem zRr(l:List Int)(a:Nat)(hL:l.length<=4000):zh G 54 [.ref 1000000 0 0] [(1000000,zp l a)]=some (.d (.int .i64 (zau l a).1),[(1000000,zp l (zau l a).2)]):=by
 unfold zau;have e:((a:Int)+1 - 1).toNat=a:=by omega
 by_cases h:a<l.length
 ·simp only[h,if_true];exact zW
 ·simp only[h,if_false];exact zW
def nD(l:List Int)(a:Nat)(n:Int):Int:=if (zau l a).1.tmod n<0 then (zau l a).1.tmod n+n else (zau l a).1.tmod n
theorem zbp(l:List Int)(a:Nat){n:Int}(h:1<=n):0<=nD l a n/\nD l a n<n:=by
 unfold nD;have h1:=zZl (zau l a).1 (show 0<n by omega);have h2:=Int.lt_tmod_of_pos (zau l a).1 (show 0<n by omega)
 split<;>omega
theorem ze0(l:List Int)(a:Nat)(n:Int)(hL:l.length<=4000)(h1:1<=n)(h2:n<=4294967296):zh G 13 [.ref 1000000 0 0,.d (.int .i64 n)] [(1000000,zp l a)]=some (.d (.int .i64 (nD l a n)),[(1000000,zp l (zau l a).2)]):=by
 have hr:=zRr l a hL;have h3:=zZl (zau l a).1 (show 0<n by omega);have h4:=Int.lt_tmod_of_pos (zau l a).1 (show 0<n by omega);unfold nD
 by_cases h:(zau l a).1.tmod n<0
 ·simp only[h,if_true];exact zW
 ·simp only[h,if_false];exact zW
theorem zmp(l:List Int)(a:Nat)(lo hi:Int)(hL:l.length<=4000)(h0: -4294967296<=lo)(h1:lo<=hi)(h2:hi<=4294967296)(h3:hi - lo<4294967296):zh G 21 [.ref 1000000 0 0,.d (.int .i64 lo),.d (.int .i64 hi)] [(1000000,zp l a)]=some (.d (.int .i64 (lo+nD l a (hi - lo+1))),[(1000000,zp l (zau l a).2)]):=by
 have hr:=ze0 l a (hi - lo+1) hL zo zo;have hn:=zbp l a (show 1<=hi - lo+1 by omega);exact zW
theorem zB3(a b:List Message)(hL:a.length<=4294967296):zh G 73 [.d (.sl (a.map zk)),.d (.sl (b.map zk))] []=some (.d (.bool (decide (a=b))),[]):=by
 by_cases hab:a.length=b.length
 ·have:=zd5 (G:=G) (x:=zq6) (ks:=[]) a.length (fun k=>decide (a[k]? = b[k]?)) (fun k=>⟨[(0,.d (.sl (a.map zk))),(1,.d (.sl (b.map zk))),(5,.d (.int .i64 k))],[]⟩) (.ret,⟨[(4,.d (.bool false))],[]⟩) (.exit 0,⟨[],[]⟩) (fun k hk L=>by
     simp only[zq6]
     by_cases h0:k<a.length
     ·have hk2:k<b.length:=by omega
      simp only[ziX h0 hk2]
      by_cases hc:a[k]=b[k]
      ·simp -implicitDefEqProofs (maxSteps:=4000000) (disch:=omega) only[go_sem,hc]
      ·simp -implicitDefEqProofs (maxSteps:=4000000) (disch:=omega) only[go_sem,hc]
     ·simp -implicitDefEqProofs (maxSteps:=4000000) (disch:=omega) only[go_sem,zW4])
  simp only[ziB hab,zWV] at this
  by_cases e:a=b
  ·subst e;simp only[decide_true,if_true] at this;rw[zO zqD (by simp)];simp -implicitDefEqProofs (maxSteps:=4000000) (disch:=omega) only[zlh,go_sem,this]
  ·simp only[e,decide_false,zWL,if_false] at this;rw[zO zqD (by simp)];simp -implicitDefEqProofs (maxSteps:=4000000) (disch:=omega) only[zlh,go_sem,hab,this,e]
 ·have e:a≠b:=fun e=>hab (by rw[e]);rw[zO zqD (by simp)];simp -implicitDefEqProofs (maxSteps:=4000000) (disch:=omega) only[zlh,go_sem,e]
theorem zTn(a b:List Stripe)(hL:a.length<=4294967296):zh G 62 [.d (.sl (a.map zG)),.d (.sl (b.map zG))] []=some (.d (.bool (decide (a=b))),[]):=by
 by_cases hab:a.length=b.length
 ·have:=zd5 (G:=G) (x:=zkg) (ks:=[]) a.length (fun k=>decide (a[k]? = b[k]?)) (fun k=>⟨[(0,.d (.sl (a.map zG))),(1,.d (.sl (b.map zG))),(5,.d (.int .i64 k))],[]⟩) (.ret,⟨[(4,.d (.bool false))],[]⟩) (.exit 0,⟨[],[]⟩) (fun k hk L=>by
     simp only[zkg]
     by_cases h0:k<a.length
     ·have hk2:k<b.length:=by omega
      simp only[ziX h0 hk2]
      by_cases hc:a[k]=b[k]
      ·simp -implicitDefEqProofs (maxSteps:=4000000) (disch:=omega) only[go_sem,hc]
      ·simp -implicitDefEqProofs (maxSteps:=4000000) (disch:=omega) only[go_sem,hc]
     ·simp -implicitDefEqProofs (maxSteps:=4000000) (disch:=omega) only[go_sem,zW4])
  simp only[ziB hab,zWV] at this
  by_cases e:a=b
  ·subst e;simp only[decide_true,if_true] at this;rw[zO zqH (by simp)];simp -implicitDefEqProofs (maxSteps:=4000000) (disch:=omega) only[zll,go_sem,this]
  ·simp only[e,decide_false,zWL,if_false] at this;rw[zO zqH (by simp)];simp -implicitDefEqProofs (maxSteps:=4000000) (disch:=omega) only[zll,go_sem,hab,this,e]
 ·have e:a≠b:=fun e=>hab (by rw[e]);rw[zO zqH (by simp)];simp -implicitDefEqProofs (maxSteps:=4000000) (disch:=omega) only[zll,go_sem,e]
theorem zTm(a b:List zx)(hL:a.length<=4294967296):zh G 118 [.d (.sl (a.map zaE)),.d (.sl (b.map zaE))] []=some (.d (.bool (decide (a=b))),[]):=by
 by_cases hab:a.length=b.length
 ·have:=zd5 (G:=G) (x:=zrf) (ks:=[]) a.length (fun k=>decide (a[k]? = b[k]?)) (fun k=>⟨[(0,.d (.sl (a.map zaE))),(1,.d (.sl (b.map zaE))),(5,.d (.int .i64 k))],[]⟩) (.ret,⟨[(4,.d (.bool false))],[]⟩) (.exit 0,⟨[],[]⟩) (fun k hk L=>by
     simp only[zrf]
     by_cases h0:k<a.length
     ·have hk2:k<b.length:=by omega
      simp only[ziX h0 hk2]
      by_cases hc:a[k]=b[k]
      ·simp -implicitDefEqProofs (maxSteps:=4000000) (disch:=omega) only[go_sem,hc]
      ·simp -implicitDefEqProofs (maxSteps:=4000000) (disch:=omega) only[go_sem,hc]
     ·simp -implicitDefEqProofs (maxSteps:=4000000) (disch:=omega) only[go_sem,zW4])
  simp only[ziB hab,zWV] at this
  by_cases e:a=b
  ·subst e;simp only[decide_true,if_true] at this;rw[zO zqG (by simp)];simp -implicitDefEqProofs (maxSteps:=4000000) (disch:=omega) only[zlk,go_sem,this]
  ·simp only[e,decide_false,zWL,if_false] at this;rw[zO zqG (by simp)];simp -implicitDefEqProofs (maxSteps:=4000000) (disch:=omega) only[zlk,go_sem,hab,this,e]
 ·have e:a≠b:=fun e=>hab (by rw[e]);rw[zO zqG (by simp)];simp -implicitDefEqProofs (maxSteps:=4000000) (disch:=omega) only[zlk,go_sem,e]
theorem zTl(a b:List Due)(hL:a.length<=4294967296):zh G 119 [.d (.sl (a.map eD)),.d (.sl (b.map eD))] []=some (.d (.bool (decide (a=b))),[]):=by
 by_cases hab:a.length=b.length
 ·have:=zd5 (G:=G) (x:=zq7) (ks:=[]) a.length (fun k=>decide (a[k]? = b[k]?)) (fun k=>⟨[(0,.d (.sl (a.map eD))),(1,.d (.sl (b.map eD))),(5,.d (.int .i64 k))],[]⟩) (.ret,⟨[(4,.d (.bool false))],[]⟩) (.exit 0,⟨[],[]⟩) (fun k hk L=>by
     simp only[zq7]
     by_cases h0:k<a.length
     ·have hk2:k<b.length:=by omega
      simp only[ziX h0 hk2]
      by_cases hc:a[k]=b[k]
      ·simp -implicitDefEqProofs (maxSteps:=4000000) (disch:=omega) only[go_sem,hc]
      ·simp -implicitDefEqProofs (maxSteps:=4000000) (disch:=omega) only[go_sem,hc]
     ·simp -implicitDefEqProofs (maxSteps:=4000000) (disch:=omega) only[go_sem,zW4])
  simp only[ziB hab,zWV] at this
  by_cases e:a=b
  ·subst e;simp only[decide_true,if_true] at this;rw[zO zqF (by simp)];simp -implicitDefEqProofs (maxSteps:=4000000) (disch:=omega) only[zlj,go_sem,this]
  ·simp only[e,decide_false,zWL,if_false] at this;rw[zO zqF (by simp)];simp -implicitDefEqProofs (maxSteps:=4000000) (disch:=omega) only[zlj,go_sem,hab,this,e]
 ·have e:a≠b:=fun e=>hab (by rw[e]);rw[zO zqF (by simp)];simp -implicitDefEqProofs (maxSteps:=4000000) (disch:=omega) only[zlj,go_sem,e]
def inB(n lo hi:Int):Bool:=decide (lo<=n)&&decide (n<=hi)
def za7(a:zg)(c:Int):Int:=if c=a.slots.length then a.dead.owner else (a.slots.getD c.toNat zdS).owner
def zfW(k:Int):Bool:=inB k 1 200
def zcq(a:zg)(c k:Int):zg:=if c=a.slots.length then { a with dead:={ a.dead with owner:=k } } else { a with slots:=a.slots.set c.toNat { a.slots.getD c.toNat zdS with owner:=k } }
def zcu(a:zg)(c k:Int):zg×Bool×Int:=if c<0\/(a.slots.length:Int)<c\/zfW k=false then (zB,false,1) else if za7 a c=0 then (zcq a c k,true,0) else (a,false,0)
def zdU(a:zg)(c k:Int):zg×Int:=if c<0\/(a.slots.length:Int)<c\/zfW k=false then (zB,1) else if za7 a c=k then (zcq a c 0,0) else (zB,13)
theorem zpf(k:Int):zh G 66 [.d (.int .i64 k)] []=some (.d (.bool (zfW k)),[]):=by
 unfold zfW inB;exact zW
theorem zBm(a:zg)(c:Int)(hL:a.slots.length<=1000)(h0:0<=c)(h1:c<=a.slots.length):zh G 67 [.d (zn a),.d (.int .i64 c)] []=some (.d (.int .i64 (za7 a c)),[]):=by
 unfold za7;exact zW
theorem zBl(a:zg)(c k:Int)(hL:a.slots.length<=1000)(h0:0<=c)(h1:c<=a.slots.length):zh G 68 [.d (zn a),.d (.int .i64 c),.d (.int .i64 k)] []=some (.d (zn (zcq a c k)),[]):=by
 unfold zcq
 by_cases h:c=a.slots.length
 ·simp only[zn,h,if_true];exact zW
 ·have hne:¬a.slots.length=0:=by omega
  simp only[zn,h,if_false];exact zW
theorem zVM(a:zg)(c k:Int)(hL:a.slots.length<=1000):zh G 22 [.d (zn a),.d (.int .i64 c),.d (.int .i64 k)] []=some (.d (.tup [zn (zcu a c k).1,.bool (zcu a c k).2.1,.int .i64 (zcu a c k).2.2]),[]):=by
 have h2:=zpf k;unfold zcu
 by_cases c1:c<0\/(a.slots.length:Int)<c
 ·rw[zWz zo];exact zW
 ·have h1:=zBm a c hL zo zo;have h3:=zBl a c k hL zo zo
  cases c2:zfW k
  ·rw[zWz (by simp)];exact zW
  ·rw[zWy (by simp;omega)];exact zW
theorem zVV(a:zg)(c k:Int)(hL:a.slots.length<=1000):zh G 313 [.d (zn a),.d (.int .i64 c),.d (.int .i64 k)] []=some (.d (.tup [zn (zdU a c k).1,.int .i64 (zdU a c k).2]),[]):=by
 have h2:=zpf k;unfold zdU
 by_cases c1:c<0\/(a.slots.length:Int)<c
 ·rw[zWz zo];exact zW
 ·have h1:=zBm a c hL zo zo;have h3:=zBl a c 0 hL zo zo
  cases c2:zfW k
  ·rw[zWz (by simp)];exact zW
  ·rw[zWy (by simp;omega)];exact zW
def zi8(cells:List Int)(k:Nat):Bool:=decide (0<=cells.getD k 0/\cells.getD k 0<=6/\(k=0\/cells.getD (k - 1) 0<cells.getD k 0))
def zgk(cells:List Int):zbF×Int:=
 if cells.length=0\/3<cells.length then (zgw,2) else if (List.range cells.length).all (zi8 cells)=true then (⟨cells,0,0,0,0⟩,0) else (zgw,1)
def zL:Nat×Go.Sim.Obj:=(2,.row [.agg [.xsl [],.d (.int .i64 0),.d (.int .i64 0),.d (.int .i64 0),.d (.int .i64 0)]])
theorem zQQ{k:Nat}(h:0<k):((k:Int) - 1).toNat=k - 1:=by omega
theorem zNI(cells:List Int)(hL:cells.length<=3):zN G [] zrp ⟨[(0,.d (.sl (zt cells))),(2,.ref 2 0 0),(4,.d (.int .i64 0))],[zL]⟩=some (if (List.range cells.length).all (zi8 cells)=true then (.exit 0,⟨[(0,.d (.sl (zt cells))),(2,.ref 2 0 0)],[zL]⟩) else (.ret,⟨[(2,.ref 2 0 0),(3,.d (.int .i64 1))],[zL]⟩)):=by
 refine zd5 (G:=G) cells.length (zi8 cells) (fun k=>⟨[(0,.d (.sl (zt cells))),(2,.ref 2 0 0),(4,.d (.int .i64 k))],[zL]⟩) _ _ fun k hk L=> ?_;simp only[zrp,zL,zi8]
 by_cases h0:k<cells.length
 ·simp only[h0,if_true];have zk0:= @zQQ;exact zS
 ·simp -implicitDefEqProofs (maxSteps:=4000000) (disch:=omega) only[go_sem,zW4]
theorem zNJ(cells:List Int)(hL:cells.length<=4294967296):zh G 273 [.d (.sl (zt cells))] []=some (.d (.tup [zcQ (zgk cells).1,.int .i64 (zgk cells).2]),[]):=by
 unfold zgk
 by_cases c1:cells.length=0\/3<cells.length
 ·rw[zWz c1];exact zW
 ·rw[zWy c1];have hl:=zNI cells zo;simp only[zL] at hl
  by_cases c2:(List.range cells.length).all (zi8 cells)=true
  ·simp only[c2,if_true] at hl ⊢;have zk0:=zt.eq_1;exact zW
  ·simp only[c2,if_false] at hl ⊢;have zk0:=zt.eq_1;exact zW
def zb5(l:zbF):zbF×Int:=if l.phase=3 then ({ l with phase:=4 },0) else (zgw,7)
theorem zNH(l:zbF):zh G 322 [.d (zcQ l)] []=some (.d (.tup [zcQ (zb5 l).1,.int .i64 (zb5 l).2]),[]):=by
 unfold zb5;exact zW
structure LWF(B:Int)(l:zbF):Prop where
 c1:1<=l.cells.length
 c2:l.cells.length<=3
 h0:0<=l.have_
 h1:l.have_<=l.cells.length
 t0:l.phase=0->l.have_<l.cells.length
 t1:l.phase=1->1<=l.have_
 t2:l.phase=2->l.have_=0/\1<=l.wait/\l.wait<=3
 t3:l.phase=3->l.have_=l.cells.length
 t4:l.phase=4->1<=l.have_
 t5:0<=l.phase/\l.phase<=5
 t6:l.phase=5->l.have_=0
 b0:0<=l.tries
 b1:l.tries<=B
def zkq(a:zg)(l:zbF)(k:Int):zg×zbF×Int:=
 if (zcu a (l.cells.getD l.have_.toNat 0) k).2.2=0 then
  (if (zcu a (l.cells.getD l.have_.toNat 0) k).2.1=true then ((zcu a (l.cells.getD l.have_.toNat 0) k).1,{ l with have_:=l.have_+1,phase:=if l.have_+1=l.cells.length then 3 else l.phase },0)
   else ((zcu a (l.cells.getD l.have_.toNat 0) k).1,{ l with phase:=if 0<l.have_ then 1 else l.phase },0))
 else (zB,zgw,(zcu a (l.cells.getD l.have_.toNat 0) k).2.2)
def zhn(l:zbF):zbF:=
 if 0<l.have_ - 1 then { l with have_:=l.have_ - 1 } else if l.phase=4 then { l with have_:=l.have_ - 1,phase:=5 } else { l with have_:=l.have_ - 1,tries:=l.tries+1,wait:=if 3<l.tries+1 then 3 else l.tries+1,phase:=2 }
def zi9(a:zg)(l:zbF)(k:Int):zg×zbF×Int:=
 if (zdU a (l.cells.getD (l.have_ - 1).toNat 0) k).2=0 then ((zdU a (l.cells.getD (l.have_ - 1).toNat 0) k).1,zhn l,0) else (zB,zgw,(zdU a (l.cells.getD (l.have_ - 1).toNat 0) k).2)
def zao(a:zg)(l:zbF)(k:Int):zg×zbF×Int:=
 if l.phase=0 then zkq a l k else if l.phase=1\/l.phase=4 then zi9 a l k else if l.phase=2 then (a,{ l with wait:=l.wait - 1,phase:=if l.wait - 1=0 then 0 else 2 },0) else (zB,zgw,7)
theorem zAk(a:zg)(l:zbF)(k:Int)(hL:a.slots.length<=1000)(hw:LWF 1000000 l):zh G 292 [.d (zn a),.d (zcQ l),.d (.int .i64 k)] []=some (.d (.tup [zn (zao a l k).1,zcQ (zao a l k).2.1,.int .i64 (zao a l k).2.2]),[]):=by
 obtain⟨w1,w2,w3,w4,w5,w6,w7,w8,w9,w10,w11,w12,w13⟩:=hw;unfold zao zkq zi9 zhn
 by_cases c0:l.phase=0
 ·have ht:=zVM a (l.cells.getD l.have_.toNat 0) k hL;have hh:=w5 c0;rw[zWz c0];generalize zcu a (l.cells.getD l.have_.toNat 0) k=r at ht ⊢;obtain⟨r1,r2,r3⟩:=r;obtain⟨l1,l2,l3,l4,l5⟩:=l;simp only at *;rw[zq zo] at ht
  by_cases c1:r3=0
  ·rw[zWz c1];subst c1
   cases r2
   ·simp only[zWL,if_false];exact zW
   ·simp only[if_true];exact zW
  ·rw[zWy c1];exact zW
 rw[zWy c0]
 by_cases c14:l.phase=1\/l.phase=4
 ·have ht:=zVV a (l.cells.getD (l.have_ - 1).toNat 0) k hL;have hh:1<=l.have_:=by rcases c14 with h|h;exact w6 h;exact w9 h
  rw[zWz c14];generalize zdU a (l.cells.getD (l.have_ - 1).toNat 0) k=r at ht ⊢;obtain⟨r1,r3⟩:=r;obtain⟨l1,l2,l3,l4,l5⟩:=l;simp only at *;rw[zq zo] at ht
  by_cases c1:r3=0
  ·rw[zWz c1];subst c1
   by_cases c2:3<l4+1
   ·simp only[c2,if_true]
    rcases c14 with c5|c5
    ·exact zW
    ·exact zW
   ·simp only[c2,if_false]
    rcases c14 with c5|c5
    ·exact zW
    ·exact zW
  ·rw[zWy c1]
   rcases c14 with c5|c5
   ·exact zW
   ·exact zW
 rw[zWy c14]
 by_cases c2:l.phase=2
 ·have:=w7 c2;rw[zWz c2];exact zW
 ·have q:¬l.phase=1/\¬l.phase=4:=by omega
  obtain⟨q1,q2⟩:=q;rw[zWy c2];exact zW
theorem ztt(a:zg)(c k:Int)(h:(zcu a c k).2.2=0):((zcu a c k).1=a/\(zcu a c k).2.1=false/\za7 a c≠0)\/((zcu a c k).1=zcq a c k/\(zcu a c k).2.1=true/\za7 a c=0):=by
 unfold zcu at *
 split at h
 ·cases h
 ·rename_i h1;rw[zWy h1]
  split
  ·rename_i h2;exact .inr ⟨rfl,rfl,h2⟩
  ·rename_i h2;exact .inl ⟨rfl,rfl,h2⟩
theorem ztu(a:zg)(c k:Int)(h:(zdU a c k).2=0):(zdU a c k).1=zcq a c 0/\za7 a c=k:=by
 unfold zdU at *
 split at h
 ·cases h
 ·rename_i h1;rw[zWy h1]
  split at h
  ·rename_i h2;rw[zWz h2];exact⟨rfl,h2⟩
  ·cases h
theorem zou{B:Int}{a:zg}{l:zbF}{k:Int}(hw:LWF B l)(h:(zao a l k).2.2=0):
    LWF (B+1) (zao a l k).2.1/\(zao a l k).2.1.cells=l.cells/\((zao a l k).1=a\/∃c o,(zao a l k).1=zcq a c o):=by
 obtain⟨w1,w2,w3,w4,w5,w6,w7,w8,w9,w10,w11,w12,w13⟩:=hw;unfold zao at *
 by_cases c0:l.phase=0
 ·have hh:=w5 c0;rw[zWz c0] at h ⊢;unfold zkq at *
  by_cases c1:(zcu a (l.cells.getD l.have_.toNat 0) k).2.2=0
  ·rw[zWz c1] at h ⊢
   rcases ztt _ _ _ c1 with ⟨e1,e2,_⟩|⟨e1,e2,_⟩
   ·rw[zWy (by rw[e2];simp)] at h ⊢;refine⟨?_,rfl,.inl e1⟩
    by_cases c2:0<l.have_
    ·simp only[c2,if_true];constructor<;>simp only<;>omega
    ·simp only[c2,if_false,c0];constructor<;>simp only<;>omega
   ·rw[zWz e2] at h ⊢;refine⟨?_,rfl,.inr ⟨_,_,e1⟩⟩
    by_cases c2:l.have_+1=l.cells.length
    ·simp only[c2,if_true];constructor<;>simp only<;>first|omega|exact fun _=>trivial
    ·simp only[c2,if_false,c0];constructor<;>simp only<;>omega
  ·rw[zWy c1] at h;exact absurd h c1
 rw[zWy c0] at h ⊢
 by_cases c14:l.phase=1\/l.phase=4
 ·have hh:1<=l.have_:=by rcases c14 with h|h;exact w6 h;exact w9 h
  rw[zWz c14] at h ⊢;unfold zi9 at *
  by_cases c1:(zdU a (l.cells.getD (l.have_ - 1).toNat 0) k).2=0
  ·rw[zWz c1] at h ⊢;have hk:=ztu _ _ _ c1;refine⟨?_,?_,.inr ⟨_,_,hk.1⟩⟩
   ·simp only[zhn]
    by_cases c2:0<l.have_ - 1
    ·rw[zWz c2];constructor<;>simp only<;>omega
    ·rw[zWy c2]
     by_cases c3:l.phase=4
     ·rw[zWz c3];constructor<;>simp only<;>omega
     ·rw[zWy c3]
      by_cases c4:3<l.tries+1
      ·rw[zWz c4];constructor<;>simp only<;>omega
      ·rw[zWy c4];constructor<;>simp only<;>omega
   ·simp only[zhn]
    by_cases c2:0<l.have_ - 1
    ·rw[zWz c2]
    ·rw[zWy c2]
     by_cases c3:l.phase=4
     ·rw[zWz c3]
     ·rw[zWy c3]
  ·rw[zWy c1] at h;exact absurd h c1
 rw[zWy c14] at h ⊢
 by_cases c2:l.phase=2
 ·have hh:=w7 c2;rw[zWz c2] at h ⊢;refine⟨?_,rfl,.inl rfl⟩
  by_cases c3:l.wait - 1=0
  ·simp only[c3,if_true];constructor<;>simp only<;>omega
  ·simp only[c3,if_false];constructor<;>simp only<;>omega
 ·rw[zWy c2] at h
  cases h
theorem LWF.mono{B B':Int}{l:zbF}(h:LWF B l)(hb:B<=B'):LWF B' l:=⟨h.c1,h.c2,h.h0,h.h1,h.t0,h.t1,h.t2,h.t3,h.t4,h.t5,h.t6,h.b0,by have:=h.b1;omega⟩
theorem zot{B:Int}{l:zbF}(h:LWF B l)(hp:l.phase=3):LWF B (zb5 l).1/\(zb5 l).1.cells=l.cells:=by
 have h3:=h.t3 hp;obtain⟨w1,w2,w3,w4,w5,w6,w7,w8,w9,w10,w11,w12,w13⟩:=h;unfold zb5;rw[zWz hp];exact⟨by constructor<;>simp only<;>omega,rfl⟩
structure zfv(cs:List Int)(n:Int):Prop where
 p:cs.Pairwise (· < ·)
 b:∀c∈cs,0<=c/\c<=n
 l:cs.length<=3
theorem zfv.at{cs:List Int}{n:Int}(h:zfv cs n)(hn:n<=6):(List.range cs.length).all (zi8 cs)=true:=by
 rw[zW2];intro k hk;have hk:=zXx.1 hk;unfold zi8;have h1:=h.b cs[k] (zWH hk);rw[zq hk];refine zWY ⟨h1.1,by omega,?_⟩
 by_cases h0:k=0
 ·exact .inl h0
 ·right;rw[zq zo];exact zXu.1 h.p (k - 1) k zo hk zo
theorem zAC{cs:List Int}{n:Int}(h:zfv cs n)(hn:n<=6)(h0:1<=cs.length):zgk cs=(⟨cs,0,0,0,0⟩,0):=by
 unfold zgk;have:=h.l;rw[zWy zo,zWz (h.at hn)]
def zaX(l:List Span)(slot:Int):Int:=zb1 (fun x=>decide (x.shard=slot)) l
def zdR:Int->List Span->Option Int
 | n,[]=>some n
 | n,x::l=>if x.low=n/\x.low<=x.high/\x.high<65536 then zdR (x.high+1) l else none
def zdX(F:List Int):Nat->Int->Int
 | 0,a=>a
 | m+1,a=>zdX F m (if 0<=a then F.getD a.toNat 0 else a)
def ziW(d:zal)(i:Nat):Bool:= !((decide (0<=zaX d.l i)&& !decide (d.forward.getD i 0= -1))||decide (d.forward.getD i 0< -1)||decide ((d.forward.length:Int)<=d.forward.getD i 0))
def zqB(d:zal):Bool:=((List.range d.forward.length).all (ziW d))&&(List.range d.forward.length).all fun i=>decide (zdX d.forward d.forward.length i<0)
def zh9(n:Nat)(x:Span):Bool:=decide (x.shard<0)||decide ((n:Int)<=x.shard)
def zlt(l:List Span)(i:Nat):Bool:=decide (zaX l (l.getD i zcX).shard=i)
def zbz(d:zal):Int:=
 if d.version<1\/1099511627776<d.version\/d.forward.length<1\/6<d.forward.length then 1
 else if zdR 0 d.l≠some 65536 then 7
 else if d.l.any (zh9 d.forward.length)=true then 4
 else if (List.range d.l.length).all (zlt d.l)=false then 10
 else if zqB d=false then 7 else 0
def zkY(d:zal)(slot:Int):Span×Bool:=if zbz d=0/\0<=zaX d.l slot then (d.l.getD (zaX d.l slot).toNat zcX,true) else (zcX,false)
def rD(d:zal)(o:Nat):Nat×Go.Sim.Obj:=(o,.row [.d (zat d)])
theorem zkI(d:zal)(j:Int)(hL:d.l.length<=4294967296):zh G 217 [.d (zat d),.d (.int .i64 j)] []=some (.d (.int .i64 (zaX d.l j)),[]):=by
 have:=zh8 (G:=G) (x:=zrm) (ks:=[]) d.l.length (atB d.l fun x=>decide (x.shard=j)) (fun k=>⟨[(1,.d (.int .i64 j)),(2,.ref 2 0 0),(5,.d (.int .i64 k))],[(2,.row [.d (zat d)])]⟩) (fun k=>(.ret,⟨[(4,.d (.int .i64 k))],[]⟩)) (.exit 0,⟨[],[]⟩) (fun k hk L=>by
  simp only[zrm]
  by_cases h0:k<d.l.length
  ·simp only[h0,if_true,zgA h0];exact zS
  ·exact zS)
 rw[ziV] at this;simp only[zNr,zp] at this;unfold zaX zb1
 cases h:d.l.findIdx? (fun x=>decide (x.shard=j)) with
 | none=>rw[h] at this;clear h;exact zW
 | some i=>rw[h] at this;clear h;exact zW
theorem zRl(d:zal)(n:Int)(hL:d.l.length<=4294967296):∀p:Nat×Int,p.1<=d.l.length/\0<=p.2/\p.2<=65536->zN G [] zrj ⟨[(1,.ref 1 0 0),(3,.d (.int .i64 n)),(4,.d (.int .i64 p.2)),(5,.d (.int .i64 p.1))],[rD d 1]⟩=some (match zdR p.2 (d.l.drop p.1) with|some m=>(.exit 0,⟨[(1,.ref 1 0 0),(3,.d (.int .i64 n)),(4,.d (.int .i64 m))],[rD d 1]⟩)|none=>(.ret,⟨[(2,.d (.int .i64 7))],[]⟩)):=by
 refine zaB (fun p:Nat×Int=>d.l.length - p.1) _ (fun p:Nat×Int=>⟨[(1,.ref 1 0 0),(3,.d (.int .i64 n)),(4,.d (.int .i64 p.2)),(5,.d (.int .i64 p.1))],[rD d 1]⟩) _ fun⟨k,m⟩ ⟨hk,h1,h2⟩ L ih=> ?_;simp only at ih hk h1 h2 ⊢;simp only[zrj,rD] at ih ⊢
 by_cases h0:k<d.l.length
 ·rw[zXf h0,zdR]
  by_cases c:d.l[k].low=m/\d.l[k].low<=d.l[k].high/\d.l[k].high<65536
  ·have i1:=ih (k+1,d.l[k].high+1) ⟨by simp only;omega,by simp only;omega,by simp only;omega⟩ (by simp only;omega);simp only at i1;rw[zWz c];clear ih;generalize zdR (d.l[k].high+1) (d.l.drop (k+1))=z at *;simp only[zNr,zp] at i1
   cases z with
   | none=>exact zS
   | some z=>exact zS
  ·rw[zWy c];clear ih;exact zS
 ·rw[zZG zo,zdR];clear ih;exact zS
theorem zRm(d:zal)(n:Nat)(hL:d.l.length<=4294967296)(hn:n<=6):zN G [] zog ⟨[(1,.ref 1 0 0),(3,.d (.int .i64 n)),(7,.d (.int .i64 0))],[rD d 1]⟩=some (if d.l.any (zh9 n)=true then (.ret,⟨[(2,.d (.int .i64 4))],[]⟩) else (.exit 2,⟨[(1,.ref 1 0 0),(3,.d (.int .i64 n))],[rD d 1]⟩)):=by
 have:=zh8 (G:=G) (x:=zog) (ks:=[]) d.l.length (atB d.l (zh9 n)) (fun k=>⟨[(1,.ref 1 0 0),(3,.d (.int .i64 n)),(7,.d (.int .i64 k))],[rD d 1]⟩) (fun k=>(.ret,⟨[(2,.d (.int .i64 4))],[]⟩)) (.exit 2,⟨[(1,.ref 1 0 0),(3,.d (.int .i64 n))],[rD d 1]⟩) (fun k hk L=>by
  simp only[zog,rD]
  by_cases h0:k<d.l.length
  ·simp only[h0,if_true,zgA h0];unfold zh9;exact zS
  ·exact zS)
 rw[ziV] at this;simp only[zNr,zp] at this;rw[this]
 congr 1
 have e:=zqW d.l (zh9 n);unfold zb1 at e
 cases h:d.l.findIdx? (zh9 n) with
 | none=>rw[h] at e;rw[<- e];rfl
 | some i=>rw[h] at e;rw[<- e];simp
theorem zRn(d:zal)(n:Nat)(hL:d.l.length<=4294967296):zN G [] zrk ⟨[(1,.ref 1 0 0),(3,.d (.int .i64 n)),(8,.d (.int .i64 0))],[rD d 1]⟩=some (if (List.range d.l.length).all (zlt d.l)=true then (.exit 4,⟨[(1,.ref 1 0 0),(3,.d (.int .i64 n))],[rD d 1]⟩) else (.ret,⟨[(2,.d (.int .i64 10))],[]⟩)):=by
 refine zd5 (G:=G) d.l.length (zlt d.l) (fun k=>⟨[(1,.ref 1 0 0),(3,.d (.int .i64 n)),(8,.d (.int .i64 k))],[rD d 1]⟩) _ _ fun k hk L=> ?_;simp only[zrk,rD]
 by_cases h0:k<d.l.length
 ·have hi:=zkI d (d.l[k]).shard hL;simp only[h0,if_true];unfold zlt;rw[zq h0];exact zS
 ·exact zS
theorem zRo(d:zal)(hL:d.l.length<=4294967296)(hF:d.forward.length<=6):zN G [] zrl ⟨[(1,.ref 1 0 0),(3,.d (.int .i64 d.forward.length)),(9,.d (.int .i64 0))],[rD d 1]⟩=some (if (List.range d.forward.length).all (ziW d)=true then (.exit 6,⟨[(1,.ref 1 0 0),(3,.d (.int .i64 d.forward.length))],[rD d 1]⟩) else (.ret,⟨[(2,.d (.int .i64 7))],[]⟩)):=by
 refine zd5 (G:=G) d.forward.length (ziW d) (fun k=>⟨[(1,.ref 1 0 0),(3,.d (.int .i64 d.forward.length)),(9,.d (.int .i64 k))],[rD d 1]⟩) _ _ fun k hk L=> ?_;simp only[zrl,rD]
 by_cases h0:k<d.forward.length
 ·have hi:=zkI d k hL;simp only[h0,if_true];unfold ziW;rw[zq h0];exact zS
 ·exact zS
theorem zxG(F:List Int):∀(m:Nat) (a:Int),a<0->zdX F m a=a
 | 0,a,_=>rfl
 | m+1,a,h=>by rw[zdX,zWy zo,zxG F m a h]
theorem zRp(d:zal)(i:Nat)(hF:d.forward.length<=6)(hv:∀a∈d.forward, -1<=a/\a<d.forward.length):∀p:Nat×Int,p.1<=d.forward.length/\ -1<=p.2/\p.2<d.forward.length->zN G [] zoh ⟨[(1,.ref 1 0 0),(3,.d (.int .i64 d.forward.length)),(10,.d (.int .i64 i)),(11,.d (.int .i64 p.2)),(12,.d (.int .i64 p.1))],[rD d 1]⟩=some (.exit 10,⟨[(1,.ref 1 0 0),(3,.d (.int .i64 d.forward.length)),(10,.d (.int .i64 i)),(11,.d (.int .i64 (zdX d.forward (d.forward.length - p.1) p.2)))],[rD d 1]⟩):=by
 refine zaB (fun p:Nat×Int=>d.forward.length - p.1) _ (fun p:Nat×Int=>⟨[(1,.ref 1 0 0),(3,.d (.int .i64 d.forward.length)),(10,.d (.int .i64 i)),(11,.d (.int .i64 p.2)),(12,.d (.int .i64 p.1))],[rD d 1]⟩) _ fun⟨k,a⟩ ⟨hk,h1,h2⟩ L ih=> ?_;simp only[rD] at ih hk h1 h2 ⊢;simp only[zoh]
 by_cases h0:k<d.forward.length
 ·by_cases c1:0<=a
  ·have hlt:a.toNat<d.forward.length:=by omega
   have hm:=hv (d.forward[a.toNat]) (zWH _);have i1:=ih (k+1,d.forward[a.toNat]) ⟨by simp only;omega,by simp only;omega,by simp only;omega⟩ (by simp only;omega);rw[show d.forward.length - k=(d.forward.length - (k+1))+1 by omega,zdX,zWz c1,zq hlt];simp only at i1;generalize zdX d.forward (d.forward.length - (k+1)) d.forward[a.toNat]=z at *;clear ih hv;simp only[zNr,zp] at i1;exact zS
  ·rw[zxG _ _ _ zo];clear ih hv;exact zS
 ·rw[show d.forward.length - k=0 by omega,zdX];clear ih hv;exact zS
theorem zRq(d:zal)(hF:d.forward.length<=6)(hv:∀a∈d.forward, -1<=a/\a<d.forward.length):zN G [] zoi ⟨[(1,.ref 1 0 0),(3,.d (.int .i64 d.forward.length)),(10,.d (.int .i64 0))],[rD d 1]⟩=some (if ((List.range d.forward.length).all fun i=>decide (zdX d.forward d.forward.length i<0))=true then (.exit 8,⟨[],[]⟩) else (.ret,⟨[(2,.d (.int .i64 7))],[]⟩)):=by
 refine zd5 (G:=G) d.forward.length (fun i=>decide (zdX d.forward d.forward.length i<0)) (fun k=>⟨[(1,.ref 1 0 0),(3,.d (.int .i64 d.forward.length)),(10,.d (.int .i64 k))],[rD d 1]⟩) _ _ fun k hk L=> ?_
 by_cases h0:k<d.forward.length
 ·have hl:=zRp d k hF hv (0,k) ⟨by omega,by omega,by omega⟩;simp only[zX8,rD] at hl;simp only[zoi,rD,h0,if_true];generalize zdX d.forward d.forward.length k=z at *;clear hv;simp only[zNr,zp] at hl;exact zS
 ·clear hv;simp only[zoi,rD];exact zS
theorem zkJ(d:zal)(hL:d.l.length<=4294967296):zh G 218 [.d (zat d)] []=some (.d (.int .i64 (zbz d)),[]):=by
 have l0:=fun n=>zRl d n hL (0,0) ⟨by omega,by omega,by omega⟩;simp only[zXg,rD,zWV] at l0;unfold zbz
 by_cases c1:d.version<1\/1099511627776<d.version\/d.forward.length<1\/6<d.forward.length
 ·rw[zWz c1];clear l0;exact zW
 rw[zWy c1];have l1:=zRm d d.forward.length hL zo;have l2:=zRn d d.forward.length hL;have l3:=zRo d hL zo;simp only[rD] at l1 l2 l3;replace l0:=l0 d.forward.length
 by_cases c2:zdR 0 d.l=some 65536
 ·rw[zWy (by simp [c2])];rw[c2] at l0;simp only at l0
  cases c3:d.l.any (zh9 d.forward.length)
  ·rw[c3,zWy (by simp)] at l1;rw[zWy (by simp)]
   cases c4:(List.range d.l.length).all (zlt d.l)
   ·rw[c4,zWy (by simp)] at l2;rw[zWz rfl];clear c2 c3 c4 l3;exact zW
   ·rw[c4,zWz rfl] at l2;rw[zWy (by simp)];unfold zqB
    cases c5:(List.range d.forward.length).all (ziW d)
    ·rw[c5,zWy (by simp)] at l3;rw[zXr,zWz rfl];clear c2 c3 c4 c5;exact zW
    ·rw[c5,zWz rfl] at l3;rw[zXR];have l5:=zRq d zo (by
      intro a ha;obtain⟨i,hi,e⟩:=zYr ha;have:=(zW2.1 c5) i (zXx.2 hi);unfold ziW at this;rw[zq hi,e] at this;simp only[zXt,zYh,decide_eq_false_iff_not] at this;omega)
     simp only[rD] at l5
     cases c6:(List.range d.forward.length).all fun i=>decide (zdX d.forward d.forward.length i<0)
     ·rw[c6,zWy (by simp)] at l5;rw[zWz rfl];clear c2 c3 c4 c5 c6;exact zW
     ·rw[c6,zWz rfl] at l5;rw[zWy (by simp)];clear c2 c3 c4 c5 c6;exact zW
  ·rw[c3,zWz rfl] at l1;rw[zWz rfl];clear c2 c3 l2 l3;exact zW
 ·rw[zWz c2]
  cases c3:zdR 0 d.l with
  | none=>
   rw[c3] at l0;simp only at l0;clear c2 c3 l1 l2 l3;exact zW
  | some m=>
   rw[c3] at l0;simp only at l0;have hm:¬m=65536:=fun e=>c2 (by rw[c3,e]);clear c2 c3 l1 l2 l3;exact zW
def inS(r:Int)(x:Span):Bool:=decide (x.low<=r)&&decide (r<=x.high)
def zeu(d:zal)(r:Int):Int:=if zbz d=0 then (match d.l.findIdx? (inS r) with|some i=>(d.l.getD i zcX).shard|none=> -1) else -1
theorem zRj(d:zal)(r:Int)(hL:d.l.length<=4294967296)(hv:zbz d=0):zN G [] zlY ⟨[(1,.d (.int .i64 r)),(2,.ref 2 0 0),(5,.d (.int .i64 0))],[rD d 2]⟩=some (zhX d.l.length (atB d.l (inS r)) (fun k=>(.ret,⟨[(4,.d (.int .i64 (d.l.getD k zcX).shard))],[]⟩)) (.exit 0,⟨[],[]⟩)):=by
 have hval:=zkJ d hL;rw[hv] at hval;refine zh8 (G:=G) d.l.length (atB d.l (inS r)) (fun k=>⟨[(1,.d (.int .i64 r)),(2,.ref 2 0 0),(5,.d (.int .i64 k))],[rD d 2]⟩) _ _ fun k hk L=> ?_;clear hv;simp only[zlY,rD]
 by_cases h0:k<d.l.length
 ·simp only[h0,if_true,zgA h0];unfold inS;exact zS
 ·exact zS
theorem zBA(d:zal)(r:Int)(hL:d.l.length<=4294967296):zh G 207 [.d (zat d),.d (.int .i64 r)] []=some (.d (.int .i64 (zeu d r)),[]):=by
 unfold zeu
 by_cases c:zbz d=0
 ·have hl:=zRj d r hL c;rw[ziV] at hl;rw[zWz c];simp only[rD] at hl
  cases h:d.l.findIdx? (inS r) with
  | none=>rw[h] at hl;clear h c;exact zW
  | some i=>rw[h] at hl;clear h c;exact zW
 ·rw[zWy c];have hval:=zkJ d hL
  by_cases h0:0<d.l.length
  ·have zk0:= @za0;have zk1:=zlY.eq_1;exact zW
  ·have zk0:= @za0;have zk1:=zlY.eq_1;exact zW
theorem zRk(d:zal)(j:Int)(hL:d.l.length<=4294967296):zh G 160 [.d (zat d),.d (.int .i64 j)] []=some (.d (.tup [zbR (zkY d j).1,.bool (zkY d j).2]),[]):=by
 have hval:=zkJ d hL;have hi:=zkI d j hL;have hb:=znP d.l (fun x=>decide (x.shard=j));change -1<=zaX d.l j/\zaX d.l j<d.l.length at hb;unfold zkY
 by_cases c:zbz d=0/\0<=zaX d.l j
 ·obtain⟨c1,c2⟩:=c;rw[c1] at hval;rw[zWz ⟨c1,c2⟩];clear c1;exact zW
 ·rw[zWy c]
  by_cases c1:zbz d=0
  ·have c2:¬0<=zaX d.l j:=fun h=>c ⟨c1,h⟩;rw[c1] at hval;clear c c1;exact zW
  ·clear c;exact zW
def zgM(d:zal):Nat->Int->Int
 | 0,a=>a
 | m+1,a=>if 0<=a/\zaX d.l a<0 then zgM d m (d.forward.getD a.toNat 0) else a
def zj9(d:zal)(a:Int):Int:=if zbz d≠0\/a<0\/(d.forward.length:Int)<=a then -1 else zgM d d.forward.length a
theorem zzw{d:zal}(h:zbz d=0):d.forward.length<=6/\d.l.length<=4294967296->(∀a∈d.forward, -1<=a/\a<d.forward.length)/\∀i:Nat,i<d.forward.length->zdX d.forward d.forward.length i<0:=by
 intro _;unfold zbz at h
 split at h
 ·cases h
 split at h
 ·cases h
 split at h
 ·cases h
 split at h
 ·cases h
 split at h
 ·cases h
 rename_i h5;simp only[zZI] at h5;unfold zqB at h5;rw[zWS] at h5;refine⟨fun a ha=> ?_,fun i hi=>by simpa using (zW2.1 h5.2) i (zXx.2 hi)⟩;obtain⟨i,hi,e⟩:=zYr ha;have:=(zW2.1 h5.1) i (zXx.2 hi);unfold ziW at this;rw[zq hi,e] at this;simp only[zXt,zYh,decide_eq_false_iff_not] at this;omega
theorem ziP{d:zal}(h:zbz d=0):1<=d.forward.length/\d.forward.length<=6/\1<=d.version/\d.version<=1099511627776:=by
 unfold zbz at h
 split at h
 ·cases h
 ·omega
theorem zRh(d:zal)(hL:d.l.length<=4294967296)(hv:∀a∈d.forward, -1<=a/\a<d.forward.length)(hF:d.forward.length<=6):∀p:Nat×Int,zdX d.forward p.1 p.2<0/\ -1<=p.2/\p.2<d.forward.length->zN G [18] zri ⟨[(1,.d (.int .i64 p.2)),(2,.ref 2 0 0)],[rD d 2]⟩=some (.exit 0,⟨[(1,.d (.int .i64 (zgM d p.1 p.2)))],[]⟩):=by
 refine zaB (fun p:Nat×Int=>p.1) _ (fun p:Nat×Int=>⟨[(1,.d (.int .i64 p.2)),(2,.ref 2 0 0)],[rD d 2]⟩) _ fun⟨m,a⟩ ⟨hc,h1,h2⟩ L ih=> ?_;simp only[rD] at ih hc h1 h2 ⊢;simp only[zri];have hi:=zkI d a hL
 by_cases c:0<=a/\zaX d.l a<0
 ·obtain⟨c1,c2⟩:=c
  rcases m with _|m
  ·simp only[zdX] at hc;omega
  have hlt:a.toNat<d.forward.length:=by omega
  have hm:=hv (d.forward[a.toNat]) (zWH _);rw[zdX,zWz c1,zq hlt] at hc;have i1:=ih (m,d.forward[a.toNat]) ⟨hc,hm.1,hm.2⟩ (by simp only;omega);rw[zgM,zWz ⟨c1,c2⟩,zq hlt];simp only at i1;generalize zgM d m d.forward[a.toNat]=z at *;clear ih hv hc;exact zS
 ·have e:zgM d m a=a:=by
     rcases m with _|m
     ·rfl
     ·rw[zgM,zWy c]
  rw[e];clear ih hv hc e
  by_cases c1:0<=a
  ·have c2:¬zaX d.l a<0:=fun h=>c ⟨c1,h⟩;clear c;exact zS
  ·clear c;exact zS
theorem zRi(d:zal)(a:Int)(hL:d.l.length<=4294967296):zh G 216 [.d (zat d),.d (.int .i64 a)] []=some (.d (.int .i64 (zj9 d a)),[]):=by
 have hval:=zkJ d hL;unfold zj9
 by_cases c0:zbz d=0
 ·have hl:=ziP c0;have hv:=zzw c0 ⟨hl.2.1,hL⟩;rw[c0] at hval
  by_cases c:a<0\/(d.forward.length:Int)<=a
  ·rw[zWz (.inr c)];clear hv c0;exact zW
  ·rw[zWy (by rw[c0];simp;omega)];have hc:=hv.2 a.toNat zo;rw[show ((a.toNat:Nat):Int)=a by omega] at hc;have hlp:=zRh d hL hv.1 hl.2.1 (d.forward.length,a) ⟨hc,by simp only;omega,by simp only;omega⟩;simp only[rD] at hlp;clear hv c0 hc;exact zW
 ·rw[zWz (.inl c0)];exact zW
theorem zpp{k n:Nat}(h:k<n)(hn:n<=LIM):IntKind.i64.wrap ((k:Int)+1)=((k+1:Nat):Int):=by
 unfold LIM at hn;rw[Go.IntWalk.i64_in _ zo];simp
def znj(a b:Int):Int:=if a<b then -1 else if b<a then 1 else 0
def zxL(a b:Due):Int:=if znj a.1 b.1=0 then znj a.2 b.2 else znj a.1 b.1
def lt(a b:Due):Bool:=decide (zxL a b<0)
def zeF(d:Due):Bool:=decide (0<=d.1)&&(decide (d.1<=1073741824)&&(decide (1<=d.2)&&decide (d.2<=1073741824)))
def zbt(h:List Due)(j:Int):Int:=zb1 (fun d=>decide (d.2=j)) h
def zhR(h:List Due)(i:Nat):Bool:=decide (zbt h (h.getD i (0,0)).2≠i)
def zid(h:List Due)(i:Nat):Bool:=lt (h.getD i (0,0)) (h.getD ((i - 1) / 2) (0,0))
def zct(h:List Due):Int:=if 12<h.length then 2 else if h.any (fun d=> !zeF d) then 1 else if (List.range' 0 h.length).any (zhR h) then 10 else if (List.range' 1 (h.length - 1)).any (zid h) then 11 else 0
def swp(l:List Due)(i j:Nat):List Due:=(l.set i (l.getD j (0,0))).set j (l.getD i (0,0))
theorem zdw(l:List Due)(i j:Nat):(swp l i j).length=l.length:=by simp [swp]
def upL(l:List Due)(i:Nat):List Due×Nat:=
 if 0<i then
  if lt (l.getD i (0,0)) (l.getD ((i - 1) / 2) (0,0)) then upL (swp l i ((i - 1) / 2)) ((i - 1) / 2) else (l,i)
 else (l,i)
termination_by i
decreasing_by omega
theorem zV1(l:List Due)(i:Nat):(upL l i).1.length=l.length:=by
 fun_induction upL l i with
 | case1 l i h0 h1 ih=>rw[ih,zdw]
 | case2=>rfl
 | case3=>rfl
def zbI(l:List Due)(i:Nat):List Due:=
 if _h:2 * i+1<l.length then
  let k:=if 2 * i+1+1<l.length/\lt (l.getD (2 * i+1+1) (0,0)) (l.getD (2 * i+1) (0,0)) then 2 * i+1+1 else 2 * i+1
  if lt (l.getD k (0,0)) (l.getD i (0,0)) then zbI (swp l i k) k else l
 else l
termination_by l.length - i
decreasing_by simp only[zdw];split<;>omega
def zfQ(h:List Due)(d:Due):List Due:=(upL (h++[d]) h.length).1
def zmm(h:List Due)(d:Due):Int:=if zct h≠0 then zct h else if zeF d=false then 1 else if h.length=12 then 3 else if 0<=zbt h d.2 then 10 else 0
def zfP(h:List Due)(d:Due):List Due×Int:=(if zmm h d=0 then zfQ h d else [],zmm h d)
def eDE(r:List Due×Int):D:= .tup [.sl (r.1.map eD),.int .i64 r.2]
theorem ztl{h:List Due}(h0:zct h=0):h.length<=12:=by
 unfold zct at h0
 split at h0
 ·cases h0
 ·omega
def zeh(h:List Due)(i:Nat):List Due:=
 if i=h.length - 1 then h.take (h.length - 1) else
 let l:=(h.take (h.length - 1)).set i (h.getD (h.length - 1) (0,0))
 if (upL l i).2=i then zbI (upL l i).1 i else (upL l i).1
def zcj(h:List Due)(id:Int):List Due×Int:=
 if zct h≠0 then ([],zct h) else if zbt h id<0 then ([],4) else (zeh h (zbt h id).toNat,0)
theorem zIh(h:List Due)(id:Int):zbt h id<h.length:=by
 unfold zbt zb1
 cases e:List.findIdx? (fun d:Due=>decide (d.2=id)) h with
 | none=>simp only;omega
 | some i=>have:=(zXP.1 e).1;simp only;omega
abbrev dz:Due:=(0,0)
theorem zrK(a b:Due):lt a b=true↔a.1<b.1\/(a.1=b.1/\a.2<b.2):=by
 unfold lt zxL znj;rw[decide_eq_true_iff]
 repeat' split
 all_goals omega
theorem zhp(a b:Due):lt a b=false↔b.1<a.1\/(b.1=a.1/\b.2<=a.2):=by
 rw[<- zYs,zrK];omega
theorem zja{a b:Due}(h:lt a b=true):lt b a=false:=by rw[zrK] at h;rw[zhp];omega
theorem zi5{a b c:Due}(h1:lt b a=false)(h2:lt c b=false):lt c a=false:=by rw[zhp] at *; omega
def ziy(l:List Due):Prop:=∀k,1<=k->k<l.length->lt (l.getD k dz) (l.getD ((k - 1) / 2) dz)=false
theorem zsW(l:List Due)(i j k:Nat)(hi:i<l.length)(hj:j<l.length):(swp l i j).getD k dz=if k=j then l.getD i dz else if k=i then l.getD j dz else l.getD k dz:=by
 unfold swp;simp only[zWG,zYF,zW8]
 by_cases h1:j=k
 ·subst h1;simp [hj]
 ·rw[zWy h1,zWy (Ne.symm h1)]
  by_cases h2:i=k
  ·subst h2;simp [hi]
  ·rw[zWy h2,zWy (Ne.symm h2)]
theorem zsX(l:List Due)(i j:Nat)(hi:i<l.length)(hj:j<l.length):(swp l i j).Perm l:=by
 unfold swp;have:=List.set_set_perm hi hj;simpa [hi,hj] using this
theorem zCT(l:List Due)(i:Nat)(hi:i<l.length):(upL l i).1.Perm l:=by
 fun_induction upL l i with
 | case1 l i h0 h1 ih=>exact (ih (by rw[zdw];omega)).trans (zsX l _ _ hi zo)
 | case2=>exact .refl _
 | case3=>exact .refl _
theorem zCS (l:List Due) (i:Nat) (hi:i<l.length) (h1:∀k,1<=k->k<l.length->k≠i->lt (l.getD k dz) (l.getD ((k - 1) / 2) dz)=false)
    (h2:∀k,1<=k->k<l.length->(k - 1) / 2=i->1<=i->lt (l.getD k dz) (l.getD ((i - 1) / 2) dz)=false):ziy (upL l i).1:=by
 fun_induction upL l i with
 | case1 l i h0 hlt ih=>
  have hp:(i - 1) / 2<l.length:=by omega
  have e:=fun k=>zsW l i ((i - 1) / 2) k hi hp;refine ih (by rw[zdw];omega) (fun k ha hb hc=> ?_) (fun k ha hb hc hd=> ?_)
  ·rw[zdw] at hb;rw[e,e]
   by_cases hk:k=i
   ·subst hk;rw[zWy zo,zWz rfl,zWz rfl];exact zja hlt
   ·rw[zWy hc,zWy hk]
    by_cases hq:(k - 1) / 2=(i - 1) / 2
    ·rw[zWz hq];have:=h1 k ha hb hk;rw[hq] at this;exact zi5 (zja hlt) this
    ·rw[zWy hq]
     by_cases hr:(k - 1) / 2=i
     ·rw[zWz hr];exact h2 k ha hb hr zo
     ·rw[zWy hr];exact h1 k ha hb hk
  ·rw[zdw] at hb;rw[e,e,zWy (show k≠(i - 1) / 2 by omega),zWy (show ((i - 1) / 2 - 1) / 2≠(i - 1) / 2 by omega),zWy (show ((i - 1) / 2 - 1) / 2≠i by omega)];have hpp:=h1 ((i - 1) / 2) hd hp zo
   by_cases hk:k=i
   ·rw[zWz hk];exact hpp
   ·rw[zWy hk];have:=h1 k ha hb hk;rw[hc] at this;exact zi5 hpp this
 | case2 l i h0 hlt=>
  intro k ha hb
  by_cases hk:k=i
  ·subst hk;simpa using hlt
  ·exact h1 k ha hb hk
 | case3 l i h0=>
  intro k ha hb;exact h1 k ha hb zo
theorem zF6(l:List Due)(i:Nat)(hi:i<l.length):(zbI l i).Perm l:=by
 fun_induction zbI l i with
 | case1 l i h k h1 ih=>
  have hk:k<l.length:=by simp only[k];split<;>omega
  exact (ih (by rw[zdw];exact hk)).trans (zsX l _ _ hi hk)
 | case2=>exact .refl _
 | case3=>exact .refl _
theorem zF5 (l:List Due) (i:Nat) (hi:i<l.length) (h1:∀k,1<=k->k<l.length->(k - 1) / 2≠i->lt (l.getD k dz) (l.getD ((k - 1) / 2) dz)=false)
    (h2:∀k,1<=k->k<l.length->(k - 1) / 2=i->1<=i->lt (l.getD k dz) (l.getD ((i - 1) / 2) dz)=false):ziy (zbI l i):=by
 fun_induction zbI l i with
 | case1 l i h k hlt ih=>
  have hk:k<l.length/\i<k/\(k - 1) / 2=i/\∀q,1<=q->q<l.length->(q - 1) / 2=i->lt (l.getD q dz) (l.getD k dz)=false:=by
   simp only[k]
   split
   ·rename_i hc;refine⟨by omega,by omega,by omega,fun q ha hb hq=> ?_⟩;have:q=2 * i+1\/q=2 * i+1+1:=by omega
    rcases this with rfl|rfl
    ·exact zja hc.2
    ·rw[zhp];omega
   ·rename_i hc;refine⟨by omega,by omega,by omega,fun q ha hb hq=> ?_⟩;have:q=2 * i+1\/q=2 * i+1+1:=by omega
    rcases this with rfl|rfl
    ·rw[zhp];omega
    ·simp only[hb,zXS,zYs] at hc;exact hc
  obtain⟨hk1,hk2,hk3,hk4⟩:=hk
  clear_value k
  have e:=fun q=>zsW l i k q hi hk1;refine ih (by rw[zdw];exact hk1) (fun q ha hb hc=> ?_) (fun q ha hb hc hd=> ?_)
  ·rw[zdw] at hb;rw[e,e]
   by_cases hq:q=k
   ·subst hq;rw[zWz rfl,hk3,zWy zo,zWz rfl];exact zja hlt
   ·rw[zWy hq,zWy hc]
    by_cases hr:q=i
    ·subst hr;rw[zWz rfl,zWy zo];exact h2 k zo hk1 hk3 ha
    ·rw[zWy hr]
     by_cases hs:(q - 1) / 2=i
     ·rw[zWz hs];exact hk4 q ha hb hs
     ·rw[zWy hs];exact h1 q ha hb hs
  ·rw[zdw] at hb;rw[e,e,zWy (show q≠k by omega),zWy (show q≠i by omega),hk3,zWy zo,zWz rfl];have:=h1 q ha hb zo;rw[hc] at this;exact this
 | case2 l i h k hlt=>
  intro q ha hb
  by_cases hq:(q - 1) / 2=i
  ·have hlt:lt (l.getD k dz) (l.getD i dz)=false:=by simpa using hlt
   rw[hq];refine zi5 hlt ?_;simp only[k];have:q=2 * i+1\/q=2 * i+1+1:=by omega
   split
   ·rename_i hc
    rcases this with rfl|rfl
    ·exact zja hc.2
    ·rw[zhp];omega
   ·rename_i hc
    rcases this with rfl|rfl
    ·rw[zhp];omega
    ·simp only[hb,zXS,zYs] at hc;exact hc
  ·exact h1 q ha hb hq
 | case3 l i h=>
  intro q ha hb;exact h1 q ha hb zo
theorem zyM(h:List Due)(j:Int):zbt h j<h.length:=by
 unfold zbt zb1
 cases e:List.findIdx? (fun d:Due=>decide (d.2=j)) h with
 | none=>simp only;omega
 | some i=>have:=(zXP.1 e).1;simp only;omega
theorem zIc(h:List Due)(j:Int)(h0:0<=zbt h j):(h.getD (zbt h j).toNat dz).2=j:=by
 revert h0;unfold zbt zb1
 cases e:List.findIdx? (fun d:Due=>decide (d.2=j)) h with
 | none=>simp
 | some i=>
  obtain⟨h1,h2,_⟩:=zXP.1 e;simp only[zXb];intro _;simpa [h1] using h2
theorem zyN(h:List Due)(j:Int):zbt h j<0↔j∉h.map (·.2):=by
 unfold zbt zb1
 cases e:List.findIdx? (fun d:Due=>decide (d.2=j)) h with
 | none=>
  simp only[zYR,decide_eq_false_iff_not] at e;simp only[show ((-1:Int)<0) by omega,true_iff,zWP,not_exists,not_and];exact fun d hd=>e d hd
 | some i=>
  obtain⟨h1,h2,_⟩:=zXP.1 e;simp only[decide_eq_true_eq] at h2;refine⟨fun h=>by simp only at h;omega,fun hn=>absurd (zWP.2 ⟨_,zWH h1,h2⟩) hn⟩
theorem zyL(h:List Due)(i:Nat)(hi:i<h.length)(hd:(h.map (·.2)).Nodup):zbt h (h.getD i dz).2=i:=by
 unfold zbt zb1;have:List.findIdx? (fun d:Due=>decide (d.2=(h.getD i dz).2)) h=some i:=by
  refine zXP.2 ⟨hi,by simp [hi],fun j hj=> ?_⟩;have:=(zXu.1 hd) j i (by simp;omega) (by simpa using hi) hj;simpa [hi] using this
 rw[this]
theorem zPn(h:List Due)(hf:∀i,i<h.length->zbt h (h.getD i dz).2=i):(h.map (·.2)).Nodup:=by
 refine zXu.2 fun i j hi hj hij=> ?_;simp only[zWM] at hi hj;simp only[zY4];intro he;have h1:=hf i hi;have h2:=hf j hj;simp only[zWG,zWF hi,zWF hj,zXl] at h1 h2;rw[he] at h1;omega
structure Ok(h:List Due):Prop where
 len:h.length<=12
 val:∀d∈h,zeF d=true
 ids:(h.map (·.2)).Nodup
 ord:ziy h
theorem zfY(h:List Due):zct h=0↔Ok h:=by
 unfold zct
 by_cases h1:12<h.length
 ·rw[zWz h1];exact⟨fun h=>by omega,fun o=>absurd o.len zo⟩
 rw[zWy h1]
 by_cases h2:h.any (fun d=> !zeF d)=true
 ·rw[zWz h2];refine⟨fun h=>by omega,fun o=> ?_⟩;obtain⟨d,hd,h3⟩:=zXG.1 h2;simp [o.val d hd] at h3
 rw[zWy h2];have h2:∀d∈h,zeF d=true:=by simpa using h2
 by_cases h3:(List.range' 0 h.length).any (zhR h)=true
 ·rw[zWz h3];refine⟨fun h=>by omega,fun o=> ?_⟩;obtain⟨i,hi,h4⟩:=zXG.1 h3;simp only[zYH,zW4] at hi;simp [zhR,zyL h i hi.2 o.ids] at h4;exact absurd (zyL h i hi.2 o.ids) (by simpa [dz] using h4)
 rw[zWy h3];have h3:∀i,i<h.length->zbt h (h.getD i dz).2=i:=by
  intro i hi;simp only[zXG,not_exists,not_and,zYH] at h3;have:=h3 i ⟨by omega,by omega⟩;simpa [zhR] using this
 by_cases h4:(List.range' 1 (h.length - 1)).any (zid h)=true
 ·rw[zWz h4];refine⟨fun h=>by omega,fun o=> ?_⟩;obtain⟨i,hi,h5⟩:=zXG.1 h4;simp only[zYH] at hi;have:=o.ord i hi.1 zo;unfold zid at h5;rw[h5] at this;cases this
 rw[zWy h4];refine⟨fun _=>⟨by omega,h2,zPn h h3,fun k ha hb=> ?_⟩,fun _=>rfl⟩;simp only[zXG,not_exists,not_and,zYH] at h4;have:=h4 k ⟨by omega,by omega⟩;simpa [zid] using this
theorem Ok.of_perm{h l:List Due}(hp:l.Perm h)(hl:h.length<=12)(hv:∀d∈h,zeF d=true)(hi:(h.map (·.2)).Nodup)(ho:ziy l):Ok l:=
 ⟨by rw[hp.length_eq];exact hl,fun d hd=>hv d (hp.mem_iff.1 hd),(hp.map _).nodup_iff.2 hi,ho⟩
theorem zzC(h:List Due)(d:Due)(k:Nat):(h++[d]).getD k dz=if k<h.length then h.getD k dz else if k=h.length then d else dz:=by
 simp only[zWG,List.getElem?_append]
 split
 ·rfl
 ·rename_i hk
  by_cases hk2:k=h.length
  ·subst hk2;simp
  ·rw[zWy hk2,zYk (by simp;omega)];rfl
theorem zsi{h:List Due}{d:Due}(o:Ok h)(hd:zeF d=true)(hl:h.length<12)(hn:d.2∉h.map (·.2)):zfP h d=(zfQ h d,0)/\Ok (zfQ h d)/\(zfQ h d).Perm (d::h):=by
 have hp:(zfQ h d).Perm (d::h):=(zCT (h++[d]) h.length (by simp)).trans (zZo (l₂:=[d]));have he:zmm h d=0:=by
  unfold zmm;rw[(zfY h).2 o,hd,zWy (by simp),zWy (by simp),zWy zo,zWy];have:=(zyN h d.2).2 hn;omega
 refine⟨by unfold zfP;rw[he,zWz rfl],.of_perm hp (by simp;omega) (fun x hx=>by rcases zXe.1 hx with rfl|hx;exact hd;exact o.val x hx) (by simpa using ⟨by simpa using hn,o.ids⟩) ?_,hp⟩;refine zCS _ _ (by simp) (fun k ha hb hc=> ?_) (fun k ha hb hc=> ?_)
 ·simp only[zWJ,zWI,zWK] at hb;rw[zzC,zzC,zWz zo,zWz zo];exact o.ord k ha zo
 ·simp only[zWJ,zWI,zWK] at hb;omega
theorem zB8:∀(l:List Due) (i:Nat) (b:Due),i<l.length->(l.getD i dz::l.set i b).Perm (b::l):=by
 intro l
 induction l with
 | nil=>intro i b h;simp at h
 | cons x xs ih=>
  intro i b h
  cases i with
  | zero=>exact .swap _ _ _
  | succ i=>
   simp only[zWI,Nat.add_lt_add_iff_right] at h;simp only[List.getD_cons_succ,List.set_cons_succ];exact (List.Perm.swap _ _ _).trans (((ih i b h).cons x).trans (.swap _ _ _))
theorem zVi(h:List Due)(h0:0<h.length):h=h.take (h.length - 1)++[h.getD (h.length - 1) dz]:=by
 have:=List.take_append_getLast h (by intro hn;simp [hn] at h0);rw[List.getLast_eq_getElem] at this;simpa [show h.length - 1<h.length by omega] using this.symm
theorem zCR{l:List Due}{i:Nat}:(upL l i).2<=i/\((0<i/\lt (l.getD i dz) (l.getD ((i - 1) / 2) dz)=true/\(upL l i).2<i)\/(¬(0<i/\lt (l.getD i dz) (l.getD ((i - 1) / 2) dz)=true)/\upL l i=(l,i))):=by
 fun_induction upL l i with
 | case1 l i h0 hlt ih=>exact⟨by omega,.inl ⟨h0,hlt,by omega⟩⟩
 | case2 l i h0 hlt=>exact⟨by simp,.inr ⟨fun h=>hlt h.2,rfl⟩⟩
 | case3 l i h0=>exact⟨by simp,.inr ⟨fun h=>h0 h.1,rfl⟩⟩
theorem zls{h:List Due}(o:Ok h)(i:Nat)(hi:i<h.length):Ok (zeh h i)/\(h.getD i dz::zeh h i).Perm h:=by
 have hlast:=zVi h zo;obtain⟨m,hm⟩:∃m,m=h.length - 1:=⟨_,rfl⟩;obtain⟨t,ht⟩:∃t,t=h.take m:=⟨_,rfl⟩;have htl:t.length=m:=by simp [ht];omega
 have hg:∀k,k<m->t.getD k dz=h.getD k dz:=fun k hk=>by simp [ht,zZD,hk]
 rw[<- hm, <- ht] at hlast;unfold zeh;rw[<- hm, <- ht];have key:∀l:List Due,(h.getD i dz::l).Perm h->ziy l->Ok l/\(h.getD i dz::l).Perm h:=fun l hp ho=>by
  refine⟨⟨?_,fun d hd=>o.val d (hp.mem_iff.1 (by simp [hd])),?_,ho⟩,hp⟩
  ·have:=hp.length_eq;simp at this;have:=o.len;omega
  ·have:=((hp.map (·.2)).nodup_iff).2 o.ids;rw[zWD,zXQ] at this;exact this.2
 by_cases h1:i=m
 ·rw[zWz h1];refine key t ?_ fun k ha hb=> ?_
  ·subst h1
   conv=>rhs;rw[hlast]
   exact (zZo (l₁:=[_]))
  ·rw[htl] at hb;rw[hg _ hb,hg _ zo];exact o.ord k ha zo
 ·rw[zWy h1];have him:i<m:=by omega
  simp only;obtain⟨x,hx⟩:∃x,x=h.getD m dz:=⟨_,rfl⟩;obtain⟨l,hl⟩:∃l,l=t.set i x:=⟨_,rfl⟩;have hll:l.length=m:=by rw[hl,zW8,htl]
  have hlg:∀k,k<m->l.getD k dz=if k=i then x else h.getD k dz:=fun k hk=>by
   rw[<- hg k hk,hl];simp only[zWG,zYF,htl]
   by_cases hki:k=i
   ·subst hki;simp [hk]
   ·rw[zWy (Ne.symm hki),zWy hki]
  have hp:(h.getD i dz::l).Perm h:=by
   rw[<- hg i him,hl];refine (zB8 t i x zo).trans ?_;rw[hlast,hx]
   conv=>rhs;rw[<- hlast]
   conv=>rhs;rw[hlast]
   exact zZo (l₁:=[_])
  rw[<- hx, <- hl];have ord:=o.ord;have hch:∀k,1<=k->k<l.length->(k - 1) / 2=i->1<=i->lt (l.getD k dz) (l.getD ((i - 1) / 2) dz)=false:=fun k ha hb hc hd=>by
   rw[hlg k zo,hlg _ zo,zWy zo,zWy zo];have a:=ord k ha zo;have b:=ord i hd zo;rw[hc] at a;exact zi5 b a
  rcases (zCR (l:=l) (i:=i)).2 with ⟨h0,hlt,hmv⟩|⟨hno,heq⟩
  ·rw[zWy zo];refine key _ (((zCT l i zo).cons _).trans hp) (zCS l i zo (fun k ha hb hc=> ?_) hch)
   by_cases hq:(k - 1) / 2=i
   ·have a:=hch k ha hb hq zo;rw[hq];exact zi5 (zja hlt) a
   ·rw[hlg k zo,hlg _ zo,zWy hc,zWy hq];exact ord k ha zo
  ·rw[heq,zWz rfl];refine key _ (((zF6 l i zo).cons _).trans hp) (zF5 l i zo (fun k ha hb hc=> ?_) hch)
   by_cases hk:k=i
   ·subst hk;rw[<- zYs];exact fun h=>hno ⟨by omega,h⟩
   ·rw[hlg k zo,hlg _ zo,zWy hk,zWy hc];exact ord k ha zo
theorem zVL{h:List Due}(o:ziy h):∀k,k<h.length->lt (h.getD k dz) (h.getD 0 dz)=false:=by
 intro k
 induction k using Nat.strongRecOn with
 | ind k ih=>
  intro hk
  by_cases h0:k=0
  ·subst h0;rw[zhp];omega
  ·exact zi5 (ih ((k - 1) / 2) zo zo) (o k zo hk)
theorem zCJ{h:List Due}(o:ziy h)(d:Due)(hd:d∈h):lt d (h.getD 0 dz)=false:=by
 obtain⟨k,hk,rfl⟩:=zYS.1 hd;have:=zVL o k hk;simpa [hk] using this
end Go.Proofs.YtjalkkalhdnplaaGreat
