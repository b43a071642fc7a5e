/-
  Heaps of deadlines, in plain terms.
-/
import Derived.Test.YtjalkkalhdnplaaGreatBfa1a7b6
import Derived.KernelRfl
import Derived.Test.YtjalkkalhdnplaaGreatBc66d388
import Derived.IntWalk
set_option linter.unusedSimpArgs false
set_option linter.unusedVariables false
set_option maxHeartbeats 10000000
set_option maxRecDepth 100000
namespace Go.Proofs.YtjalkkalhdnplaaGreat
open Go Go.Sim
def tab:List (Nat×AFn):=[(6,zKm),(7,zKz),(42,zzY),(21,zKu),(13,zKs),(54,zKv),(43,zKw),(10,zKr),(93,zzW),(34,zKt),(145,zzV),(146,zKA),(41,zNQ),(44,zNK),(45,zAv),(85,zAx),(94,zL7),(95,zLC),(76,zAi),(31,zLH),(77,zLU),(96,zAr),(92,zNP),(55,zNL),(142,zNM),(186,zNO),(56,zNI),(99,zM1),(100,zM8),(148,zM3),(149,zMk),(150,zM0),(151,zMW),(204,zMV),(152,zMi),(154,zKT),(205,zAe),(206,zKU),(153,zMT),(155,zM4),(158,zMm),(207,zL8),(218,zMb),(217,zMc),(161,zM6),(219,zME),(273,zMA),(156,zM2),(208,zMF),(271,zMO),(292,zMB),(22,zMu),(66,zMy),(67,zMp),(68,zMw),(313,zMv),(281,zMJ),(293,zMN),(294,zMM),(26,zMo),(70,zAy),(314,zMd),(36,zMs),(81,zMx),(295,zML),(315,zMl),(24,zMn),(296,zMC),(297,zMP),(39,zMq),(89,zL2),(134,zL3),(195,zK3),(260,zK4),(130,zKW),(33,zMr),(82,zLP),(127,zLb),(147,zLc),(128,zLq),(196,zAm),(261,zLi),(262,zAo),(263,zLg),(197,zLr),(129,zLu),(50,zLK),(98,zK6),(51,zLE),(282,zMR),(307,zMK),(322,zMz),(298,zMI),(316,zAt),(317,zMj),(299,zMQ),(318,zMG),(319,zMe),(12,zLy),(47,zLF),(48,zLQ),(49,zLT),(52,zKY),(53,zK2),(157,zM9),(209,zMH),(167,zLI),(174,zMZ),(235,zMD),(210,zM7),(211,zLM),(212,zMS),(213,zMU),(198,zKS),(214,zKX),(215,zLJ),(272,zK7),(300,zLd),(301,zLe),(101,zNb),(159,zNa),(216,zL6),(160,zMa),(162,zNc),(220,zNe),(246,zLB),(285,zLV),(286,zLn),(309,zAl),(320,zLh),(321,zAp),(325,zLj),(324,zAn),(310,zLl),(276,zLo),(305,zAj),(274,zLN),(278,zLW),(302,zKZ),(303,zKV),(284,zK9),(308,zAh),(287,zLm),(306,zLf),(163,zNd),(203,zL4),(270,zKR),(102,zNf),(164,zL5),(221,zAd),(222,zAf),(165,zNh),(166,zNg),(168,zNi),(223,zLt),(275,zLS),(304,zLD),(224,zLG),(277,zK8),(225,zLw),(279,zLk),(103,zNj),(104,zNk),(11,zMf),(62,zAu),(169,zMg),(226,zMh),(105,zNl),(170,zNm),(171,zNn),(227,zL1),(228,zK1),(229,zK0),(230,zLs),(106,zNo),(172,zM5),(173,zNs),(231,zNt),(234,zNp),(232,zLz),(280,zK5),(233,zNq),(107,zNu),(175,zNx),(236,zNy),(239,zNv),(237,zLA),(283,zLR),(238,zNw),(108,zNz),(176,zNC),(240,zND),(243,zNA),(241,zLO),(242,zNB),(109,zNE),(177,zNF),(244,zLX),(245,zLx),(110,zNG),(178,zNH),(248,zLZ),(247,zLv),(249,zLY),(143,zNN),(202,zMt),(144,zAA),(116,zNJ),(9,zMX),(46,zMY),(97,zAz),(25,zzP),(16,zAw),(28,zL0),(73,zAg),(63,zL9),(27,zLL),(71,zLa),(72,zLp),(118,zAq),(119,zAk),(5,zq7),(20,zKL),(23,zzO),(69,zzU),(29,zzN),(30,zKx),(74,zKy),(75,zKn),(120,zKo),(187,zKp),(251,zzX),(131,zKq),(252,zzZ),(32,zzR),(78,zzT),(87,zKk),(83,zKj),(79,zNY),(121,zNT),(188,zNU),(189,zNV),(190,zKP),(253,zKQ),(122,zKM),(191,zKO),(192,zz6),(254,zAD),(288,zAE),(255,zz7),(256,zAc),(257,zAa),(289,zAb),(258,zz8),(290,zz9),(312,zz0),(323,zz2),(311,zz1),(193,zKN),(259,zN4),(291,zN6),(123,zN2),(124,zN1),(125,zN0),(194,zNR),(126,zNZ),(80,zAB),(35,zzS),(84,zAC),(37,zq5),(86,zq6),(38,zzQ),(88,zz3),(132,zz4),(133,zz5),(40,zKK),(90,zKg),(135,zKC),(136,zKB),(137,zNW),(199,zNS),(138,zKD),(200,zKE),(264,zKJ),(266,zKF),(265,zN3),(268,zN5),(201,zKG),(269,zKH),(267,zKI),(139,zNX),(91,zKh),(140,zKl),(141,zKi)]
def G:FuncId->Option AFn:=fun f=>Go.Sim.look f tab
theorem znN:G 42=some zzY:=tk
theorem zfg:G 93=some zzW:=tk
theorem zAT:G 145=some zzV:=tk
theorem zOM:G 45=some zAv:=tk
theorem zOO:G 85=some zAx:=tk
theorem zOH:G 76=some zAi:=tk
theorem zA2:G 96=some zAr:=tk
theorem zre:G 205=some zAe:=tk
theorem zOP:G 70=some zAy:=tk
theorem zOJ:G 196=some zAm:=tk
theorem zOK:G 262=some zAo:=tk
theorem zjQ:G 316=some zAt:=tk
theorem zOI:G 309=some zAl:=tk
theorem zOL:G 321=some zAp:=tk
theorem zA1:G 324=some zAn:=tk
theorem zrg:G 305=some zAj:=tk
theorem zA0:G 308=some zAh:=tk
theorem znO:G 221=some zAd:=tk
theorem zOG:G 222=some zAf:=tk
theorem zrj:G 62=some zAu:=tk
theorem zOR:G 144=some zAA:=tk
theorem zOQ:G 97=some zAz:=tk
theorem zrb:G 25=some zzP:=tk
theorem zON:G 16=some zAw:=tk
theorem zrf:G 73=some zAg:=tk
theorem zri:G 118=some zAq:=tk
theorem zrh:G 119=some zAk:=tk
theorem zAZ:G 5=some zq7:=tk
theorem z2k:G 20=some zKL:=tk
theorem zAR:G 23=some zzO:=tk
theorem zOv:G 69=some zzU:=tk
theorem zOu:G 29=some zzN:=tk
theorem zAV:G 251=some zzX:=tk
theorem zAW:G 252=some zzZ:=tk
theorem znM:G 32=some zzR:=tk
theorem zrc:G 78=some zzT:=tk
theorem zOz:G 192=some zz6:=tk
theorem zOS:G 254=some zAD:=tk
theorem zOT:G 288=some zAE:=tk
theorem zOA:G 255=some zz7:=tk
theorem zOF:G 256=some zAc:=tk
theorem zOD:G 257=some zAa:=tk
theorem zOE:G 289=some zAb:=tk
theorem zOB:G 258=some zz8:=tk
theorem zOC:G 290=some zz9:=tk
theorem zOw:G 312=some zz0:=tk
theorem zOy:G 323=some zz2:=tk
theorem zOx:G 311=some zz1:=tk
theorem zA3:G 80=some zAB:=tk
theorem zjO:G 35=some zzS:=tk
theorem zA4:G 84=some zAC:=tk
theorem zAU:G 37=some zq5:=tk
theorem zrd:G 86=some zq6:=tk
theorem zAS:G 38=some zzQ:=tk
theorem zjP:G 88=some zz3:=tk
theorem zAX:G 132=some zz4:=tk
theorem zAY:G 133=some zz5:=tk
end Go.Proofs.YtjalkkalhdnplaaGreat

namespace Go.Sim
variable {G:FuncId->Option AFn}
theorem ziQ {T:Type} {ks:List Nat} {x:zw} (μ:T->Nat) (inv:T->Prop) (st:T->St) (Q:T->Option (zR×St)->Prop)
    (h:∀t,inv t->∀L:St->Option (zR×St),(∀t',inv t'->μ t'<μ t->Q t' (L (st t')))->Q t ((exL G x (st t)).bind (zcP ks L))):∀t,inv t->Q t (zP G ks x (st t)):=by
 intro t;generalize hk:μ t=k
 induction k using Nat.strongRecOn generalizing t with
 | ind k ih=>
  intro hi;rw[zaC];exact h t hi _ fun t' hi' hlt=>ih (μ t') (by omega) t' rfl hi'
end Go.Sim

namespace Go.Sim
variable {G:FuncId->Option AFn}
theorem wr{x:Int}(h: -9223372036854775808<=x/\x<9223372036854775808):IntKind.i64.wrap x=x:=by
 rw[Go.IntWalk.i64_in _ (by omega)]
theorem zYs{x:Int}(h:0<=x/\x<18446744073709551616):IntKind.u64.wrap x=x:=by rw[Go.IntWalk.u64_in _ (by omega)]
theorem wu8{x:Int}(h:0<=x/\x<256):IntKind.u8.wrap x=x:=by rw[Go.IntWalk.u8_in _ (by omega)]
theorem ltT{a b:Int}(h:a<b):(a<b)=True:=zY8 h
theorem ltF{a b:Int}(h:b<=a):(a<b)=False:=zYV (by omega)
theorem leT{a b:Int}(h:a<=b):(a<=b)=True:=zY8 h
theorem leF{a b:Int}(h:b<a):(a<=b)=False:=zYV (by omega)
theorem eqT{a b:Int}(h:a=b):(a=b)=True:=zY8 h
theorem eqF{a b:Int}(h:¬a=b):(a=b)=False:=zYV h
theorem zQr{α:Type}{l:List α}{a:Nat}(h:a<l.length):(a<l.length)=True:=zY8 h
theorem zQq{α:Type}{l:List α}{a:Nat}(h:l.length<=a):(a<l.length)=False:=zYV (by omega)
theorem zQp{α:Type}{l:List α}{c:Nat}(h:l.length<=c):(l.length<=c)=True:=zY8 h
theorem zFn{a b c:Nat}(h:a+b<=c):(a+b<=c)=True:=zY8 h
theorem zQw:LIM=4294967296:=rfl
theorem zQ3{α β:Type}{f:α->β}{l:List α}{k:Nat}(h:k<l.length):(l.map f)[k]? = some (f (l[k]'h)):=by
 rw[zZa,zY1 h];rfl
theorem zXX{k:Nat}:((k:Int)+1).toNat=k+1:=by omega
theorem zc7 {ks:List Nat} {x:zw} (n:Nat) (p:Nat->Bool) (st:Nat->St) (R fin:zR×St)
    (h:∀k,k<=n->∀L:St->Option (zR×St),(exL G x (st k)).bind (zcP ks L)=if k<n then (if p k=true then L (st (k+1)) else some R) else some fin):
    zP G ks x (st 0)=some (if (List.range n).all p=true then fin else R):=by
 have key:∀m k,k+m=n->zP G ks x (st k)=some (if ((List.range' k m).all p)=true then fin else R):=by
  intro m
  induction m with
  | zero=>
   intro k hk;rw[zaC,h k (by omega),zYP (by omega)];rfl
  | succ m ih=>
   intro k hk;rw[zaC,h k (by omega),zYQ (by omega),z0c,zZ0,ih (k+1) (by omega)]
   cases p k<;>rfl
 have:=key n 0 (by omega)
 rwa [<- z1r] at this
theorem zii{α:Type}[DecidableEq α]{a b:List α}(h:a.length=b.length):((List.range a.length).all fun k=>decide (a[k]? = b[k]?))=decide (a=b):=by
 by_cases e:a=b
 ·subst e;simp
 ·rw[zZc e];apply z1d.2;intro hh;apply e;rw[zZi] at hh;apply List.ext_getElem?;intro k
  by_cases hk:k<a.length
  ·simpa using hh k (zZJ.2 hk)
  ·rw[z0F (by omega),z0F (by omega)]
theorem ziE{α:Type}[DecidableEq α]{a b:List α}{k:Nat}(ha:k<a.length)(hb:k<b.length):decide (a[k]? = b[k]?)=decide (a[k]=b[k]):=by
 rw[zY1 ha,zY1 hb];simp
def zgn{α:Type}(n:Nat)(p:Nat->Bool)(R:Nat->α)(fin:α):α:=match (List.range n).find? p with|some k=>R k|none=>fin
theorem zg4 {ks:List Nat} {x:zw} (n:Nat) (p:Nat->Bool) (st:Nat->St) (R:Nat->zR×St) (fin:zR×St)
    (h:∀k,k<=n->∀L:St->Option (zR×St),(exL G x (st k)).bind (zcP ks L)=if k<n then (if p k=true then some (R k) else L (st (k+1))) else some fin):
    zP G ks x (st 0)=some (zgn n p R fin):=by
 have key:∀m k,k+m=n->zP G ks x (st k)=some (match (List.range' k m).find? p with|some k=>R k|none=>fin):=by
  intro m
  induction m with
  | zero=>
   intro k hk;rw[zaC,h k (by omega),zYP (by omega)];rfl
  | succ m ih=>
   intro k hk;rw[zaC,h k (by omega),zYQ (by omega),z0c,List.find?_cons,ih (k+1) (by omega)]
   cases p k<;>rfl
 have:=key n 0 (by omega)
 rwa [<- z1r] at this
def zbf{α:Type}(p:α->Bool)(es:List α):Int:=match es.findIdx? p with|some i=>i|none=> -1
def atB{α:Type}(l:List α)(p:α->Bool)(k:Nat):Bool:=match l[k]? with|some a=>p a|none=>false
theorem zJZ{α:Type}(l:List α)(p:α->Bool):(List.range l.length).find? (atB l p)=l.findIdx? p:=by
 have key:∀(m k:Nat),k+m=l.length->(List.range' k m).find? (atB l p)=((l.drop k).findIdx? p).map (k+ ·):=by
  intro m
  induction m with
  | zero=>intro k hk;rw[z1T (by omega)];rfl
  | succ m ih=>
   intro k hk;rw[z0c,List.find?_cons,zZr (show k<l.length by omega),z1U,ih (k+1) (by omega)];have:atB l p k=p (l[k]'(by omega)):=by unfold atB;rw[zY1 (by omega)]
   rw[this]
   cases p (l[k]'(by omega)) with
   | true=>simp
   | false=>
    cases (l.drop (k+1)).findIdx? p with
    | none=>rfl
    | some i=>simp;omega
 have:=key l.length 0 (by omega);rw[<- z1r] at this;rw[this,zZq]
 cases l.findIdx? p<;>simp only[z1G,zZv,zZj]
theorem zeO{α:Type}{l:List α}{p:α->Bool}{k:Nat}(h:k<l.length):atB l p k=p l[k]:=by
 unfold atB;rw[zY1 h]
theorem ziB{α β:Type}(l:List α)(p:α->Bool)(R:Nat->β)(fin:β):zgn l.length (atB l p) R fin=match l.findIdx? p with|some k=>R k|none=>fin:=by
 unfold zgn;rw[zJZ]
theorem zrx{α:Type}(l:List α)(p:α->Bool):decide (0<=zbf p l)=l.any p:=by
 unfold zbf
 cases h:l.findIdx? p with
 | none=>simp at h;simpa using h
 | some i=>
  have:=zZV.1 h;simp;exact⟨_,zY4 this.1,this.2.1⟩
theorem znU{α:Type}(l:List α)(p:α->Bool): -1<=zbf p l/\zbf p l<l.length:=by
 unfold zbf
 cases e:l.findIdx? p with
 | none=>simp only;omega
 | some i=>have:=(zZV.1 e).1;simp only;omega
theorem zlC{α:Type}(l:List α)(p:α->Bool):zbf p l<0↔∀a∈l,p a=false:=by
 have:=zrx l p;have h2:l.any p=false↔∀a∈l,p a=false:=by simp
 rw[<- h2, <- this];simp
end Go.Sim

namespace Go.Sim
theorem zg{α:Type}{l:List α}{k:Nat}{d:α}(h:k<l.length):l.getD k d=l[k]'h:=by
 rw[zZw,zY1 h];rfl
theorem setMap{α β:Type}{f:α->β}{l:List α}{k:Nat}{x:α}:(l.map f).set k (f x)=(l.set k x).map f:=by rw[zZ7]
theorem zQ4{α β γ:Type}{f:α->β}{g:β->γ}{l:List α}{k:Nat}(h:k<l.length):((l.map f).map g)[k]? = some (g (f (l[k]'h))):=by
 rw[z0i,zZa,zY1 h];rfl
theorem zQs{α:Type}{l:List α}{k:Nat}{x:α}:(l.set k x).length=l.length:=zZu
theorem zg6{α:Type}{f:α->D}{l:List α}{k:Nat}{x:α}:(l.set k x).map f=(l.map f).set k (f x):=by rw[zZ7]
theorem zmB{ds:List D}{k:Nat}{x:D}:(ds.map AV.d).set k (.d x)=(ds.set k x).map AV.d:=by rw[zZ7]
theorem zG{α:Type}{c:Prop}[Decidable c]{A B r:α}(h1:c->A=r)(h2:¬c->B=r):(if c then A else B)=r:=by split<;>simp_all
theorem zXy{ds:List D}{n:Nat}:(ds.map AV.d).take n=(ds.take n).map AV.d:=by rw[z0G]
theorem zXA{α:Type}{f:α->D}{l:List α}{n k:Nat}{x:D}(h:l.length<=n):((l.map f).set k x).take n=(l.map f).set k x:=z0Q (by simpa using h)
theorem zXx{α:Type}{f:α->D}{l:List α}{n:Nat}(h:l.length<=n):(l.map f).take n=l.map f:=z0Q (by simpa using h)
theorem zI{α:Type}{c:Prop}[Decidable c]{A B r:α}(h1:c->r=A)(h2:¬c->r=B):r=if c then A else B:=by split<;>simp_all
attribute [go_sem ↓] reduceIte
attribute [go_sem] reduceCtorEq Nat.reduceEqDiff Nat.reduceAdd Nat.reduceBEq Nat.reduceMul Nat.reduceLeDiff Nat.reduceSub Nat.reduceLT Nat.reduceDiv Nat.reduceMod List.reduceReplicate Int.reduceEq Int.reduceLT Int.reduceLE Int.reduceAdd Int.reduceSub Int.reduceMul Int.reduceNeg Int.reduceToNat
attribute [go_sem] zXX zXy zXA zXx zQs zg6 zmB zQ4 wr or_self z0q false_or z0Y or_true zZ3 z0P z1c z0a zZg zYZ zQw zYs wu8 Bool.true_beq Bool.false_beq zZR zZP ltT ltF leT leF eqT eqF zQr zQq zQp zFn zQ3 zZz Int.natCast_nonneg zY3
theorem pA{a b:Bool}:((a||b)=true)=(a=true\/b=true):=zZM a b
theorem pB{a b:Bool}:((a&&b)=true)=(a=true/\b=true):=zY6 a b
theorem pC{p:Prop}[Decidable p]:(decide p=true)=p:=decide_eq_true_eq
theorem pD{a:Bool}:((!a)=true)=(a=false):=zZL a
theorem pE{p:Prop}[Decidable p]:(decide p=false)=¬p:=by simp
theorem pF{p q:Prop}:(¬(p\/q))=(¬p/\¬q):=by simp
theorem pG{a b:Int}:(¬a<b)=(b<=a):=by simp
theorem pH{a b:Int}:(¬a<=b)=(b<a):=by simp
theorem pI{a b:Nat}:(¬a<b)=(b<=a):=by simp
theorem pJ{a b:Nat}:(¬a<=b)=(b<a):=by simp
theorem pK{a b:Bool}:((a||b)=false)=(a=false/\b=false):=by simp
theorem pL{a b:Bool}:((a&&b)=false)=(a=false\/b=false):=by cases a<;>cases b<;>simp
theorem pM{a:Bool}:((!a)=false)=(a=true):=by simp
theorem pN:(true=false)=False:=by simp
theorem pO:(false=true)=False:=by simp
theorem pP{p:Prop}:(¬ ¬p)=p:=by simp
end Go.Sim

namespace Go.Sim
open Go
theorem zW {G:FuncId->Option AFn} {f:FuncId} {c:zw} {rs:List za6} {nt:Nat} {sl:Bool} (h:G f=some (.code c rs nt sl):=by exact rfl) {args:List AV} {os:zf} {R:Option (AV×zf)} (hl:args.length<=nt:=by simp)
    (e:(exL G c ⟨enter args++zc5 os,os⟩).bind (zff sl rs os)=R:=by simp -implicitDefEqProofs (maxSteps:=4000000) (disch:=omega) only[zg,go_sem, *];(try simp only[pA,pB,pC,pD,pE,pF,pG,pH,pI,pJ,pK,pL,pM,pN,pO,pP,if_true,if_false]);repeat' (first|done|rfl|(refine zG (fun hq=> ?_) (fun hq=> ?_)<;>(try (first|(exfalso;omega)|contradiction))<;>(try simp -implicitDefEqProofs (maxSteps:=4000000) (disch:=omega) only[zg,go_sem, *])<;>(try simp only[pA,pB,pC,pD,pE,pF,pG,pH,pI,pJ,pK,pL,pM,pN,pO,pP,if_true,if_false])));(all_goals try rfl);(all_goals try (repeat' (first|done|rfl|(exfalso;omega)|contradiction|(refine zI (fun hq=> ?_) (fun hq=> ?_)))))):zd G f args os=R:=(zB h hl).trans e
theorem zS{p:Prop}(e:p:=by (try simp -implicitDefEqProofs (maxSteps:=4000000) (disch:=omega) only[zg,go_sem, *]);(try simp only[pA,pB,pC,pD,pE,pF,pG,pH,pI,pJ,pK,pL,pM,pN,pO,pP,if_true,if_false]);repeat' (first|done|rfl|(refine zG (fun hq=> ?_) (fun hq=> ?_)<;>(try (first|(exfalso;omega)|contradiction))<;>(try simp -implicitDefEqProofs (maxSteps:=4000000) (disch:=omega) only[zg,go_sem, *])<;>(try simp only[pA,pB,pC,pD,pE,pF,pG,pH,pI,pJ,pK,pL,pM,pN,pO,pP,if_true,if_false])));(all_goals try rfl);(all_goals try (repeat' (first|done|rfl|(exfalso;omega)|contradiction|(refine zI (fun hq=> ?_) (fun hq=> ?_)))))):p:=e
theorem zNr:type_of% @zZR/\type_of% @zZP/\type_of% @zZg/\type_of% @z1c/\type_of% @z0a/\type_of% @zYZ.{0}/\type_of% @zY3.{0,0}/\type_of% @zYS.{0,0}/\type_of% @zYY.{0}/\type_of% @zY5.{0,0}/\type_of% @zYU.{0,0}/\type_of% @zYW.{0}/\type_of% @zZj/\type_of% @zg6:=
 ⟨@zZR, @zZP, @zZg, @z1c, @z0a, @zYZ, @zY3, @zYS, @zYY, @zY5, @zYU, @zYW, @zZj, @zg6⟩
theorem zPr:type_of% @pA/\type_of% @pB/\type_of% @pC/\type_of% @pD/\type_of% @pE/\type_of% @pF/\type_of% @pG/\type_of% @pH/\type_of% @pI/\type_of% @pJ/\type_of% @pK/\type_of% @pL/\type_of% @pM/\type_of% @pN/\type_of% @pO/\type_of% @pP/\type_of% @if_true.{1}/\type_of% @if_false.{1}:=
 ⟨@pA, @pB, @pC, @pD, @pE, @pF, @pG, @pH, @pI, @pJ, @pK, @pL, @pM, @pN, @pO, @pP, @if_true, @if_false⟩
theorem zo{p:Prop}(h:p:=by omega):p:=h
end Go.Sim

namespace Go.Proofs.YtjalkkalhdnplaaGreat
open Go Go.Sim
attribute [go_sem] zuD zuQ zjt zuL zuJ zuM zuN zuI zef zuK zm4 zuR zx5 zxZ zqo zqq zwn zvS zqj zvX zwa znc zx4 zx0 zx1 zx3 zxX zxh zxo zxj zwA zvM zvA zxz zxA zwv zlf zww zwx zxB zxC zxD zwh zvh zvg zvI zxE zxl zxH zxI zxF zvP zvl zxG zxJ zxM zxN zxK zvQ zv7 zxL zxO zxR zxS zxP zv4 zxQ zxT zxU zwd zvN zxV zxW zwf zvL zwe zx2 zwJ zqt zxY zxd zxe zqs zk8 zqp zwg zlb zwp zv1 zvq zvF zle zld zqg zqh zm2 zp4 zp3 zuO zuP zuE zuF zuG zm6 zuH zm7 zjs zk9 zuB zuA zyd zx8 zx9 zya zu5 zu6 zu2 zu4 zp9 zqu zqv zqa zqf zqd zqe zqb zqc zp6 zp8 zp7 zu3 zyj zyl zyh zyg zyf zx6 zye zlg zhs zlh zp5 zm5 zm3 zht zm8 zm9 zu1 zux zuT zuS zyb zx7 zuU zuV zu0 zuW zyi zyk zuX zuY zuZ zyc zxg zxc zxb zwy zu9 zla zva zw9 zxk zwC zwo zwr zws zxm zwU zwQ zuy zuC zuz zxi zwV zw4 zwR zwK zwO zwF zwM zwL zwZ zw3 zw2 zwE zqr zwt zwI zwN zw1 zwB zwD zwS zw5 zwG zwi zwj zvj zvk zvc zwH zv5 zvr zvs zvG zql zvy zqm zvw zvH zvK zv0 zvm zvU zw7 zw0 zwP zwY zhu zwz zw6 zwW zwu zvO zvV zv6 zv9 zve zvi zxp zwX zvY zxf zwT zxn zv2 zw8 zxa zu8 zvd zvZ zvn zvt zvu zxr zxq zwm zwq zxs zxu zvR zwb zvD zqk zvx zqn zvz znb zvB zvE zlc zv3 zwc zvf zvb zvp zna zvC zvv zxt zwk zu7 zxv zwl zju zqi zxx zxw zxy zvJ zv8 zvT zvW zvo
abbrev zt(l:List Int):List D:=l.map (.int .i64)
theorem zpO(l:List Int):zap 1 (zt l)=true:=by simp [zap,D.size,D.cells]
def zaD(b:List UInt8):D:= .sl (byD b)
theorem zFz(l:List (List UInt8)):zap 1 (l.map zaD)=true:=by simp [zap,D.size,D.cells,zaD]
theorem zFB(l:List (List UInt8)):zap 1 (l.map D.str)=true:=by simp [zap,D.size,D.cells]
abbrev Due:=Int×Int
def eD(d:Due):D:= .agg [.int .i64 d.1,.int .i64 d.2]
theorem zIb(d:Due):(eD d).cells=[.int .i64 d.1,.int .i64 d.2]:=rfl
theorem zeU(d:Due):(eD d).size=2:=rfl
theorem zfd(d:Due):(eD d).asAgg=eD d:=rfl
theorem zIc(d:Due):(eD d).isT=false:=rfl
theorem zjo(h:List Due):zap 2 (h.map eD)=true:=by simp [zap,zeU]
structure Span where
 low:Int
 high:Int
 shard:Int
 deriving DecidableEq
def zeJ:Span:=⟨0,0,0⟩
instance:Inhabited Span:=⟨zeJ⟩
def zbW(x:Span):D:= .agg [.int .i64 x.low,.int .i64 x.high,.int .i64 x.shard]
theorem zIC(x:Span):(zbW x).cells=[.int .i64 x.low,.int .i64 x.high,.int .i64 x.shard]:=rfl
theorem zzp(x:Span):(zbW x).size=3:=rfl
theorem zIB(x:Span):(zbW x).asAgg=zbW x:=rfl
theorem zID(x:Span):(zbW x).isT=false:=rfl
theorem zFw(l:List Span):zap 3 (l.map zbW)=true:=by simp [zap,zzp]
structure zao where
 version:Int
 l:List Span
 forward:List Int
 deriving DecidableEq
def zdk:zao:=⟨0,[],[]⟩
instance:Inhabited zao:=⟨zdk⟩
def zat(x:zao):D:= .agg [.int .i64 x.version,.sl (x.l.map zbW),.sl (zt x.forward)]
theorem zIf(x:zao):(zat x).cells=[.int .i64 x.version,.sl (x.l.map zbW),.sl (zt x.forward)]:=rfl
theorem zIh(x:zao):(zat x).size=3:=rfl
theorem zIe(x:zao):(zat x).asAgg=zat x:=rfl
theorem zIg(x:zao):(zat x).isT=false:=rfl
structure zec where
 kind:Int
 from_:Int
 to:Int
 mid:Int
 deriving DecidableEq
def zpF:zec:=⟨0,0,0,0⟩
instance:Inhabited zec:=⟨zpF⟩
def zfU(x:zec):D:= .agg [.int .i64 x.kind,.int .i64 x.from_,.int .i64 x.to,.int .i64 x.mid]
theorem zIj(x:zec):(zfU x).cells=[.int .i64 x.kind,.int .i64 x.from_,.int .i64 x.to,.int .i64 x.mid]:=rfl
theorem zIl(x:zec):(zfU x).size=4:=rfl
theorem zIi(x:zec):(zfU x).asAgg=zfU x:=rfl
theorem zIk(x:zec):(zfU x).isT=false:=rfl
structure Setup where
 slots:Int
 live:Int
 capacity:Int
 dead:Int
 limit:Int
 clock:Int
 nextID:Int
 epoch:Int
 deriving DecidableEq
def zfH:Setup:=⟨0,0,0,0,0,0,0,0⟩
instance:Inhabited Setup:=⟨zfH⟩
def zaU(x:Setup):D:= .agg [.int .i64 x.slots,.int .i64 x.live,.int .i64 x.capacity,.int .i64 x.dead,.int .i64 x.limit,.int .i64 x.clock,.int .i64 x.nextID,.int .i64 x.epoch]
theorem zzl(x:Setup):(zaU x).size=8:=rfl
theorem zzi(x:Setup):(zaU x).asAgg=zaU x:=rfl
theorem zzk(x:Setup):(zaU x).isT=false:=rfl
theorem zzj(x:Setup):(zaU x).size=8/\(zaU x).isT=false/\(zaU x).asAgg=zaU x:=⟨zzl x,zzk x,zzi x⟩
structure Message where
 id:Int
 route:Int
 epoch:Int
 count:Int
 gen:Int
 sent:Int
 body:List UInt8
 deriving DecidableEq
def zX:Message:=⟨0,0,0,0,0,0,[]⟩
instance:Inhabited Message:=⟨zX⟩
def zj(x:Message):D:= .agg [.int .i64 x.id,.int .i64 x.route,.int .i64 x.epoch,.int .i64 x.count,.int .i64 x.gen,.int .i64 x.sent,.str x.body]
theorem zIv(x:Message):(zj x).cells=[.int .i64 x.id,.int .i64 x.route,.int .i64 x.epoch,.int .i64 x.count,.int .i64 x.gen,.int .i64 x.sent,.str x.body]:=rfl
theorem zqO(x:Message):(zj x).size=7:=rfl
theorem zy7(x:Message):(zj x).asAgg=zj x:=rfl
theorem zy9(x:Message):(zj x).isT=false:=rfl
theorem zy8(x:Message):(zj x).size=7/\(zj x).isT=false/\(zj x).asAgg=zj x:=⟨zqO x,zy9 x,zy7 x⟩
theorem zpN(l:List Message):zap 7 (l.map zj)=true:=by simp [zap,zqO]
structure z8 where
 cells:List Message
 head:Int
 size:Int
 deriving DecidableEq
def zaz:z8:=⟨[],0,0⟩
instance:Inhabited z8:=⟨zaz⟩
def zQ(x:z8):D:= .agg [.sl (x.cells.map zj),.int .i64 x.head,.int .i64 x.size]
theorem zIw(x:z8):(zQ x).cells=[.sl (x.cells.map zj),.int .i64 x.head,.int .i64 x.size]:=rfl
theorem zIy(x:z8):(zQ x).size=3:=rfl
theorem zIx(x:z8):(zQ x).isT=false:=rfl
structure zy where
 msg:Message
 deadline:Int
 deriving DecidableEq
def zbF:zy:=⟨⟨0,0,0,0,0,0,[]⟩,0⟩
instance:Inhabited zy:=⟨zbF⟩
def zaw(x:zy):D:= .agg [.int .i64 x.msg.id,.int .i64 x.msg.route,.int .i64 x.msg.epoch,.int .i64 x.msg.count,.int .i64 x.msg.gen,.int .i64 x.msg.sent,.str x.msg.body,.int .i64 x.deadline]
theorem zIp(x:zy):(zaw x).cells=[.int .i64 x.msg.id,.int .i64 x.msg.route,.int .i64 x.msg.epoch,.int .i64 x.msg.count,.int .i64 x.msg.gen,.int .i64 x.msg.sent,.str x.msg.body,.int .i64 x.deadline]:=rfl
theorem zy6(x:zy):(zaw x).size=8:=rfl
theorem zIo(x:zy):(zaw x).asAgg=zaw x:=rfl
theorem zIq(x:zy):(zaw x).isT=false:=rfl
theorem zjn(l:List zy):zap 8 (l.map zaw)=true:=by simp [zap,zy6]
structure Table where
 l:List zy
 heap:List Due
 deriving DecidableEq
def zV:Table:=⟨[],[]⟩
instance:Inhabited Table:=⟨zV⟩
def z9(x:Table):D:= .agg [.sl (x.l.map zaw),.sl (x.heap.map eD)]
theorem zIF(x:Table):(z9 x).cells=[.sl (x.l.map zaw),.sl (x.heap.map eD)]:=rfl
theorem zIH(x:Table):(z9 x).size=2:=rfl
theorem zIE(x:Table):(z9 x).asAgg=z9 x:=rfl
theorem zIG(x:Table):(z9 x).isT=false:=rfl
structure Shard where
 live:Bool
 low:Int
 high:Int
 ready:z8
 leases:Table
 deriving DecidableEq
def zA:Shard:=⟨false,0,0,⟨[],0,0⟩,⟨[],[]⟩⟩
instance:Inhabited Shard:=⟨zA⟩
def zi(x:Shard):D:= .agg [.bool x.live,.int .i64 x.low,.int .i64 x.high,.sl (x.ready.cells.map zj),.int .i64 x.ready.head,.int .i64 x.ready.size,.sl (x.leases.l.map zaw),.sl (x.leases.heap.map eD)]
theorem zIz(x:Shard):(zi x).cells=[.bool x.live,.int .i64 x.low,.int .i64 x.high,.sl (x.ready.cells.map zj),.int .i64 x.ready.head,.int .i64 x.ready.size,.sl (x.leases.l.map zaw),.sl (x.leases.heap.map eD)]:=rfl
theorem zqQ(x:Shard):(zi x).size=8:=rfl
theorem zzm(x:Shard):(zi x).asAgg=zi x:=rfl
theorem zzn(x:Shard):(zi x).isT=false:=rfl
theorem za1(x:Shard):(zi x).size=8/\(zi x).isT=false/\(zi x).asAgg=zi x:=⟨zqQ x,zzn x,zzm x⟩
theorem zFv(l:List Shard):zap 8 (l.map zi)=true:=by simp [zap,zqQ]
structure Slot where
 owner:Int
 shard:Shard
 deriving DecidableEq
def ze7:Slot:=⟨0,⟨false,0,0,⟨[],0,0⟩,⟨[],[]⟩⟩⟩
instance:Inhabited Slot:=⟨ze7⟩
def zcB(x:Slot):D:= .agg [.int .i64 x.owner,.bool x.shard.live,.int .i64 x.shard.low,.int .i64 x.shard.high,.sl (x.shard.ready.cells.map zj),.int .i64 x.shard.ready.head,.int .i64 x.shard.ready.size,.sl (x.shard.leases.l.map zaw),.sl (x.shard.leases.heap.map eD)]
theorem zIA(x:Slot):(zcB x).cells=[.int .i64 x.owner,.bool x.shard.live,.int .i64 x.shard.low,.int .i64 x.shard.high,.sl (x.shard.ready.cells.map zj),.int .i64 x.shard.ready.head,.int .i64 x.shard.ready.size,.sl (x.shard.leases.l.map zaw),.sl (x.shard.leases.heap.map eD)]:=rfl
theorem zzo(x:Slot):(zcB x).size=9:=rfl
theorem zt8(l:List Slot):zap 9 (l.map zcB)=true:=by simp [zap,zzo]
structure Stripe where
 seq:Int
 epoch:Int
 ready:Int
 leased:Int
 deriving DecidableEq
def zb1:Stripe:=⟨0,0,0,0⟩
instance:Inhabited Stripe:=⟨zb1⟩
def zE(x:Stripe):D:= .agg [.int .i64 x.seq,.int .i64 x.epoch,.int .i64 x.ready,.int .i64 x.leased]
theorem zqR(x:Stripe):(zE x).size=4:=rfl
theorem zzq(x:Stripe):(zE x).asAgg=zE x:=rfl
theorem zzr(x:Stripe):(zE x).isT=false:=rfl
theorem zei(x:Stripe):(zE x).size=4/\(zE x).isT=false/\(zE x).asAgg=zE x:=⟨zqR x,zzr x,zzq x⟩
theorem zt9(l:List Stripe):zap 4 (l.map zE)=true:=by simp [zap,zqR]
structure Dead where
 cap:Int
 l:List Message
 deriving DecidableEq
def zaL:Dead:=⟨0,[]⟩
instance:Inhabited Dead:=⟨zaL⟩
def zF(x:Dead):D:= .agg [.int .i64 x.cap,.sl (x.l.map zj)]
theorem zId(x:Dead):(zF x).cells=[.int .i64 x.cap,.sl (x.l.map zj)]:=rfl
theorem zy0(x:Dead):(zF x).size=2:=rfl
theorem zyX(x:Dead):(zF x).asAgg=zF x:=rfl
theorem zyZ(x:Dead):(zF x).isT=false:=rfl
theorem zyY(x:Dead):(zF x).size=2/\(zF x).isT=false/\(zF x).asAgg=zF x:=⟨zy0 x,zyZ x,zyX x⟩
structure zmT where
 owner:Int
 dead:Dead
 deriving DecidableEq
def zYI:zmT:=⟨0,⟨0,[]⟩⟩
instance:Inhabited zmT:=⟨zYI⟩
def ziw(x:zmT):D:= .agg [.int .i64 x.owner,.int .i64 x.dead.cap,.sl (x.dead.l.map zj)]
structure zm where
 slots:List Slot
 stripes:List Stripe
 dead:zmT
 dir:zao
 epoch:Int
 clock:Int
 nextID:Int
 deriving DecidableEq
def zx:zm:=⟨[],[],⟨0,⟨0,[]⟩⟩,⟨0,[],[]⟩,0,0,0⟩
instance:Inhabited zm:=⟨zx⟩
def zl(x:zm):D:= .agg [.sl (x.slots.map zcB),.sl (x.stripes.map zE),.int .i64 x.dead.owner,.int .i64 x.dead.dead.cap,.sl (x.dead.dead.l.map zj),.int .i64 x.dir.version,.sl (x.dir.l.map zbW),.sl (zt x.dir.forward),.int .i64 x.epoch,.int .i64 x.clock,.int .i64 x.nextID]
theorem zH9(x:zm):(zl x).cells=[.sl (x.slots.map zcB),.sl (x.stripes.map zE),.int .i64 x.dead.owner,.int .i64 x.dead.dead.cap,.sl (x.dead.dead.l.map zj),.int .i64 x.dir.version,.sl (x.dir.l.map zbW),.sl (zt x.dir.forward),.int .i64 x.epoch,.int .i64 x.clock,.int .i64 x.nextID]:=rfl
theorem zyU(x:zm):(zl x).size=11:=rfl
theorem zyS(x:zm):(zl x).asAgg=zl x:=rfl
theorem zyT(x:zm):(zl x).isT=false:=rfl
theorem zay(x:zm):(zl x).size=11/\(zl x).isT=false/\(zl x).asAgg=zl x:=⟨zyU x,zyT x,zyS x⟩
structure zif where
 phase:Int
 epoch:Int
 clock:Int
 stamp:Int
 deriving DecidableEq
def zhm:zif:=⟨0,0,0,0⟩
instance:Inhabited zif:=⟨zhm⟩
def zgT(x:zif):D:= .agg [.int .i64 x.phase,.int .i64 x.epoch,.int .i64 x.clock,.int .i64 x.stamp]
structure zaY where
 kind:Int
 home:Int
 max:Int
 visibility:Int
 from_:Int
 to:Int
 bodies:List (List UInt8)
 tokens:List (List UInt8)
 deriving DecidableEq
def zib:zaY:=⟨0,0,0,0,0,0,[],[]⟩
instance:Inhabited zaY:=⟨zib⟩
def zbV(x:zaY):D:= .agg [.int .i64 x.kind,.int .i64 x.home,.int .i64 x.max,.int .i64 x.visibility,.int .i64 x.from_,.int .i64 x.to,.sl (x.bodies.map .str),.sl (x.tokens.map zaD)]
theorem zy5(x:zaY):(zbV x).size=8:=rfl
theorem zy3(x:zaY):(zbV x).asAgg=zbV x:=rfl
theorem zy4(x:zaY):(zbV x).isT=false:=rfl
theorem zIn(x:zaY):(zbV x).size=8/\(zbV x).isT=false/\(zbV x).asAgg=zbV x:=⟨zy5 x,zy4 x,zy3 x⟩
structure Result where
 err:Int
 id:Int
 tokens:List (List UInt8)
 bodies:List (List UInt8)
 ready:Int
 leased:Int
 moved:Int
 deriving DecidableEq
def zah:Result:=⟨0,0,[],[],0,0,0⟩
instance:Inhabited Result:=⟨zah⟩
def zaj(x:Result):D:= .agg [.int .i64 x.err,.int .i64 x.id,.sl (x.tokens.map zaD),.sl (x.bodies.map .str),.int .i64 x.ready,.int .i64 x.leased,.int .i64 x.moved]
theorem zqP(x:Result):(zaj x).size=7:=rfl
theorem zzd(x:Result):(zaj x).asAgg=zaj x:=rfl
theorem zze(x:Result):(zaj x).isT=false:=rfl
theorem zlp(x:Result):(zaj x).size=7/\(zaj x).isT=false/\(zaj x).asAgg=zaj x:=⟨zqP x,zze x,zzd x⟩
theorem zFu(l:List Result):zap 7 (l.map zaj)=true:=by simp [zap,zqP]
structure zbH where
 cells:List Int
 phase:Int
 have_:Int
 tries:Int
 wait:Int
 deriving DecidableEq
def zf9:zbH:=⟨[],0,0,0,0⟩
instance:Inhabited zbH:=⟨zf9⟩
def zcv(x:zbH):D:= .agg [.sl (zt x.cells),.int .i64 x.phase,.int .i64 x.have_,.int .i64 x.tries,.int .i64 x.wait]
theorem zIs(x:zbH):(zcv x).cells=[.sl (zt x.cells),.int .i64 x.phase,.int .i64 x.have_,.int .i64 x.tries,.int .i64 x.wait]:=rfl
theorem zIu(x:zbH):(zcv x).size=5:=rfl
theorem zIr(x:zbH):(zcv x).asAgg=zcv x:=rfl
theorem zIt(x:zbH):(zcv x).isT=false:=rfl
structure zb5 where
 shards:List Shard
 dead:Dead
 order:List Int
 carry:List Message
 edits:List zec
 deriving DecidableEq
def zic:zb5:=⟨[],⟨0,[]⟩,[],[],[]⟩
instance:Inhabited zb5:=⟨zic⟩
def z6(x:zb5):D:= .agg [.sl (x.shards.map zi),.int .i64 x.dead.cap,.sl (x.dead.l.map zj),.sl (zt x.order),.sl (x.carry.map zj),.sl (x.edits.map zfU)]
theorem zzc(x:zb5):(z6 x).size=6:=rfl
theorem zza(x:zb5):(z6 x).asAgg=z6 x:=rfl
theorem zzb(x:zb5):(z6 x).isT=false:=rfl
theorem zns(x:zb5):(z6 x).size=6/\(z6 x).isT=false/\(z6 x).asAgg=z6 x:=⟨zzc x,zzb x,zza x⟩
structure Section where
 phase:Int
 at_:Int
 lock:zbH
 snap:zif
 shards:List Shard
 dead:Dead
 stripes:List Stripe
 dir:zao
 out:zb5
 limit:Int
 carry:List Message
 deriving DecidableEq
def zbG:Section:=⟨0,0,⟨[],0,0,0,0⟩,⟨0,0,0,0⟩,[],⟨0,[]⟩,[],⟨0,[],[]⟩,⟨[],⟨0,[]⟩,[],[],[]⟩,0,[]⟩
instance:Inhabited Section:=⟨zbG⟩
def zr(x:Section):D:= .agg [.int .i64 x.phase,.int .i64 x.at_,.sl (zt x.lock.cells),.int .i64 x.lock.phase,.int .i64 x.lock.have_,.int .i64 x.lock.tries,.int .i64 x.lock.wait,.int .i64 x.snap.phase,.int .i64 x.snap.epoch,.int .i64 x.snap.clock,.int .i64 x.snap.stamp,.sl (x.shards.map zi),.int .i64 x.dead.cap,.sl (x.dead.l.map zj),.sl (x.stripes.map zE),.int .i64 x.dir.version,.sl (x.dir.l.map zbW),.sl (zt x.dir.forward),.sl (x.out.shards.map zi),.int .i64 x.out.dead.cap,.sl (x.out.dead.l.map zj),.sl (zt x.out.order),.sl (x.out.carry.map zj),.sl (x.out.edits.map zfU),.int .i64 x.limit,.sl (x.carry.map zj)]
theorem zzh(x:Section):(zr x).size=26:=rfl
theorem zzf(x:Section):(zr x).asAgg=zr x:=rfl
theorem zzg(x:Section):(zr x).isT=false:=rfl
theorem zdL(x:Section):(zr x).size=26/\(zr x).isT=false/\(zr x).asAgg=zr x:=⟨zzh x,zzg x,zzf x⟩
structure zeM where
 next:Int
 covered:Int
 deriving DecidableEq
def zga:zeM:=⟨0,0⟩
instance:Inhabited zeM:=⟨zga⟩
def zcC(x:zeM):D:= .agg [.int .i64 x.next,.int .i64 x.covered]
structure za3 where
 id:Int
 gen:Int
 route:Int
 hint:Int
 deriving DecidableEq
def zfG:za3:=⟨0,0,0,0⟩
instance:Inhabited za3:=⟨zfG⟩
def zaB(x:za3):D:= .agg [.int .i64 x.id,.int .i64 x.gen,.int .i64 x.route,.int .i64 x.hint]
structure zq where
 number:Int
 inv:zaY
 invoked:Int
 done:Bool
 ended:Int
 pc:Int
 entry:Int
 results:List Result
 setup:Setup
 sec:Section
 dir:zao
 walk:zeM
 slot:Int
 id:Int
 handle:za3
 loaded:Int
 first:List Stripe
 second:List Stripe
 deriving DecidableEq
def zJ:zq:=⟨0,⟨0,0,0,0,0,0,[],[]⟩,0,false,0,0,0,[],⟨0,0,0,0,0,0,0,0⟩,⟨0,0,⟨[],0,0,0,0⟩,⟨0,0,0,0⟩,[],⟨0,[]⟩,[],⟨0,[],[]⟩,⟨[],⟨0,[]⟩,[],[],[]⟩,0,[]⟩,⟨0,[],[]⟩,⟨0,0⟩,0,0,⟨0,0,0,0⟩,0,[],[]⟩
instance:Inhabited zq:=⟨zJ⟩
def zh(x:zq):D:= .agg [.int .i64 x.number,.int .i64 x.inv.kind,.int .i64 x.inv.home,.int .i64 x.inv.max,.int .i64 x.inv.visibility,.int .i64 x.inv.from_,.int .i64 x.inv.to,.sl (x.inv.bodies.map .str),.sl (x.inv.tokens.map zaD),.int .i64 x.invoked,.bool x.done,.int .i64 x.ended,.int .i64 x.pc,.int .i64 x.entry,.sl (x.results.map zaj),.int .i64 x.setup.slots,.int .i64 x.setup.live,.int .i64 x.setup.capacity,.int .i64 x.setup.dead,.int .i64 x.setup.limit,.int .i64 x.setup.clock,.int .i64 x.setup.nextID,.int .i64 x.setup.epoch,.int .i64 x.sec.phase,.int .i64 x.sec.at_,.sl (zt x.sec.lock.cells),.int .i64 x.sec.lock.phase,.int .i64 x.sec.lock.have_,.int .i64 x.sec.lock.tries,.int .i64 x.sec.lock.wait,.int .i64 x.sec.snap.phase,.int .i64 x.sec.snap.epoch,.int .i64 x.sec.snap.clock,.int .i64 x.sec.snap.stamp,.sl (x.sec.shards.map zi),.int .i64 x.sec.dead.cap,.sl (x.sec.dead.l.map zj),.sl (x.sec.stripes.map zE),.int .i64 x.sec.dir.version,.sl (x.sec.dir.l.map zbW),.sl (zt x.sec.dir.forward),.sl (x.sec.out.shards.map zi),.int .i64 x.sec.out.dead.cap,.sl (x.sec.out.dead.l.map zj),.sl (zt x.sec.out.order),.sl (x.sec.out.carry.map zj),.sl (x.sec.out.edits.map zfU),.int .i64 x.sec.limit,.sl (x.sec.carry.map zj),.int .i64 x.dir.version,.sl (x.dir.l.map zbW),.sl (zt x.dir.forward),.int .i64 x.walk.next,.int .i64 x.walk.covered,.int .i64 x.slot,.int .i64 x.id,.int .i64 x.handle.id,.int .i64 x.handle.gen,.int .i64 x.handle.route,.int .i64 x.handle.hint,.int .i64 x.loaded,.sl (x.first.map zE),.sl (x.second.map zE)]
theorem zqS(x:zq):(zh x).size=63:=rfl
theorem zzs(x:zq):(zh x).asAgg=zh x:=rfl
theorem zzt(x:zq):(zh x).isT=false:=rfl
theorem zO(x:zq):(zh x).size=63/\(zh x).isT=false/\(zh x).asAgg=zh x:=⟨zqS x,zzt x,zzs x⟩
theorem zFx(l:List zq):zap 63 (l.map zh)=true:=by simp [zap,zqS]
structure zpI where
 id:Int
 state:Int
 count:Int
 gen:Int
 route:Int
 deadline:Int
 deriving DecidableEq
def zYK:zpI:=⟨0,0,0,0,0,0⟩
instance:Inhabited zpI:=⟨zYK⟩
structure Bag where
 limit:Int
 now:Int
 epoch:Int
 l:List zpI
 deriving DecidableEq
def zYH:Bag:=⟨0,0,0,[]⟩
instance:Inhabited Bag:=⟨zYH⟩
structure Grant where
 id:Int
 gen:Int
 route:Int
 deadline:Int
 deriving DecidableEq
def zYJ:Grant:=⟨0,0,0,0⟩
instance:Inhabited Grant:=⟨zYJ⟩
def zbs(x:Grant):D:= .agg [.int .i64 x.id,.int .i64 x.gen,.int .i64 x.route,.int .i64 x.deadline]
theorem zy2(x:Grant):(zbs x).size=4:=rfl
theorem zIm(x:Grant):(zbs x).isT=false:=rfl
theorem zFt(l:List Grant):zap 4 (l.map zbs)=true:=by simp [zap,zy2]
structure Event where
 stamp:Int
 task:Int
 entry:Int
 kind:Int
 now:Int
 epoch:Int
 err:Int
 l:List Grant
 ready:Int
 leased:Int
 deriving DecidableEq
def zbS:Event:=⟨0,0,0,0,0,0,0,[],0,0⟩
instance:Inhabited Event:=⟨zbS⟩
def zaE(x:Event):D:= .agg [.int .i64 x.stamp,.int .i64 x.task,.int .i64 x.entry,.int .i64 x.kind,.int .i64 x.now,.int .i64 x.epoch,.int .i64 x.err,.sl (x.l.map zbs),.int .i64 x.ready,.int .i64 x.leased]
theorem zy1(x:Event):(zaE x).size=10:=rfl
theorem zFs(l:List Event):zap 10 (l.map zaE)=true:=by simp [zap,zy1]
structure World where
 setup:Setup
 arena:zm
 tasks:List zq
 log:List Event
 steps:Int
 handles:List (List UInt8)
 deriving DecidableEq
def zbd:World:=⟨⟨0,0,0,0,0,0,0,0⟩,⟨[],[],⟨0,⟨0,[]⟩⟩,⟨0,[],[]⟩,0,0,0⟩,[],[],0,[]⟩
instance:Inhabited World:=⟨zbd⟩
def zD(x:World):D:= .agg [.int .i64 x.setup.slots,.int .i64 x.setup.live,.int .i64 x.setup.capacity,.int .i64 x.setup.dead,.int .i64 x.setup.limit,.int .i64 x.setup.clock,.int .i64 x.setup.nextID,.int .i64 x.setup.epoch,.sl (x.arena.slots.map zcB),.sl (x.arena.stripes.map zE),.int .i64 x.arena.dead.owner,.int .i64 x.arena.dead.dead.cap,.sl (x.arena.dead.dead.l.map zj),.int .i64 x.arena.dir.version,.sl (x.arena.dir.l.map zbW),.sl (zt x.arena.dir.forward),.int .i64 x.arena.epoch,.int .i64 x.arena.clock,.int .i64 x.arena.nextID,.sl (x.tasks.map zh),.sl (x.log.map zaE),.int .i64 x.steps,.sl (x.handles.map zaD)]
theorem zzw(x:World):(zD x).size=23:=rfl
theorem zzu(x:World):(zD x).asAgg=zD x:=rfl
theorem zzv(x:World):(zD x).isT=false:=rfl
theorem za8(x:World):(zD x).size=23/\(zD x).isT=false/\(zD x).asAgg=zD x:=⟨zzw x,zzv x,zzu x⟩
structure Ref where
 index:Int
 variant:Int
 raw:List UInt8
 deriving DecidableEq
def zYL:Ref:=⟨0,0,[]⟩
instance:Inhabited Ref:=⟨zYL⟩
def zhC(x:Ref):D:= .agg [.int .i64 x.index,.int .i64 x.variant,.sl (byD x.raw)]
structure Command where
 kind:Int
 pick:Int
 by_:Int
 inv:zaY
 refs:List Ref
 deriving DecidableEq
def zEY:Command:=⟨0,0,0,⟨0,0,0,0,0,0,[],[]⟩,[]⟩
instance:Inhabited Command:=⟨zEY⟩
def zaT(x:Command):D:= .agg [.int .i64 x.kind,.int .i64 x.pick,.int .i64 x.by_,.int .i64 x.inv.kind,.int .i64 x.inv.home,.int .i64 x.inv.max,.int .i64 x.inv.visibility,.int .i64 x.inv.from_,.int .i64 x.inv.to,.sl (x.inv.bodies.map .str),.sl (x.inv.tokens.map zaD),.sl (x.refs.map zhC)]
theorem zqN(x:Command):(zaT x).size=12:=rfl
theorem zyV(x:Command):(zaT x).asAgg=zaT x:=rfl
theorem zyW(x:Command):(zaT x).isT=false:=rfl
theorem zIa(x:Command):(zaT x).size=12/\(zaT x).isT=false/\(zaT x).asAgg=zaT x:=⟨zqN x,zyW x,zyV x⟩
theorem zFr(l:List Command):zap 12 (l.map zaT)=true:=by simp [zap,zqN]
theorem zIT(x y:Due):(decide (x.1=y.1)&&decide (x.2=y.2))=decide (x=y):=by
 cases x;cases y
 apply zZB.2;simp
theorem zIZ{H:zf}{ng:Bool}(x y:Due):zel H ng 2 [(0,0),(1,0)] (.d (eD x)) (.d (eD y))=zhY H ng (some (decide (x=y))):=by
 rw[<- zIT];simp only[zel,eD,zek,zhD,zYW,zYY,z0v,z0D,zZn,zZv,if_true,zZI,zZj,Nat.reduceAdd,z0u]
theorem zIV(x y:Message):(decide (x.id=y.id)&&(decide (x.route=y.route)&&(decide (x.epoch=y.epoch)&&(decide (x.count=y.count)&&(decide (x.gen=y.gen)&&(decide (x.sent=y.sent)&&decide (x.body=y.body)))))))=decide (x=y):=by
 cases x;cases y
 apply zZB.2;simp
theorem zI1{H:zf}{ng:Bool}(x y:Message):zel H ng 7 [(0,0),(1,0),(2,0),(3,0),(4,0),(5,0),(6,2)] (.d (zj x)) (.d (zj y))=zhY H ng (some (decide (x=y))):=by
 rw[<- zIV];simp only[zel,zj,zek,zhD,zYW,zYY,z0v,z0D,zZn,zZv,if_true,zZI,zZj,Nat.reduceAdd,z0u]
theorem zIX(x y:Stripe):(decide (x.seq=y.seq)&&(decide (x.epoch=y.epoch)&&(decide (x.ready=y.ready)&&decide (x.leased=y.leased))))=decide (x=y):=by
 cases x;cases y
 apply zZB.2;simp
theorem zI3{H:zf}{ng:Bool}(x y:Stripe):zel H ng 4 [(0,0),(1,0),(2,0),(3,0)] (.d (zE x)) (.d (zE y))=zhY H ng (some (decide (x=y))):=by
 rw[<- zIX];simp only[zel,zE,zek,zhD,zYW,zYY,z0v,z0D,zZn,zZv,if_true,zZI,zZj,Nat.reduceAdd,z0u]
theorem zIU(x y:zy):(decide (x.msg.id=y.msg.id)&&(decide (x.msg.route=y.msg.route)&&(decide (x.msg.epoch=y.msg.epoch)&&(decide (x.msg.count=y.msg.count)&&(decide (x.msg.gen=y.msg.gen)&&(decide (x.msg.sent=y.msg.sent)&&(decide (x.msg.body=y.msg.body)&&decide (x.deadline=y.deadline))))))))=decide (x=y):=by
 obtain⟨⟨x1,x2,x3,x4,x5,x6,x7⟩,x8⟩:=x;obtain⟨⟨y1,y2,y3,y4,y5,y6,y7⟩,y8⟩:=y;apply zZB.2;simp [and_assoc]
theorem zI0{H:zf}{ng:Bool}(x y:zy):zel H ng 8 [(0,0),(1,0),(2,0),(3,0),(4,0),(5,0),(6,2),(7,0)] (.d (zaw x)) (.d (zaw y))=zhY H ng (some (decide (x=y))):=by
 rw[<- zIU];simp only[zel,zaw,zek,zhD,zYW,zYY,z0v,z0D,zZn,zZv,if_true,zZI,zZj,Nat.reduceAdd,z0u]
theorem zIW(x y:Span):(decide (x.low=y.low)&&(decide (x.high=y.high)&&decide (x.shard=y.shard)))=decide (x=y):=by
 cases x;cases y
 apply zZB.2;simp
theorem zI2{H:zf}{ng:Bool}(x y:Span):zel H ng 3 [(0,0),(1,0),(2,0)] (.d (zbW x)) (.d (zbW y))=zhY H ng (some (decide (x=y))):=by
 rw[<- zIW];simp only[zel,zbW,zek,zhD,zYW,zYY,z0v,z0D,zZn,zZv,if_true,zZI,zZj,Nat.reduceAdd,z0u]
attribute [go_sem high] zIZ zI1 zI3 zI0 zI2
attribute [go_sem] zpO zFz zFB zIb zeU zfd zIc zjo zIC zzp zIB zID zFw zIf zIh zIe zIg zIj zIl zIi zIk zzl zzi zzk zIv zqO zy7 zy9 zpN zIw zIy zIx zIp zy6 zIo zIq zjn zIF zIH zIE zIG zIz zqQ zzm zzn zFv zIA zzo zt8 zqR zzq zzr zt9 zId zy0 zyX zyZ zH9 zyU zyS zyT zy5 zy3 zy4 zqP zzd zze zFu zIs zIu zIr zIt zzc zza zzb zzh zzf zzg zqS zzs zzt zFx zy2 zIm zFt zy1 zFs zzw zzu zzv zqN zyV zyW zFr
theorem zpE{x:Int}(h0: -4294967296<=x)(h1:x<=4294967296):IntKind.i64.wrap x=x:=wr zo
abbrev zp(l:List Int)(a:Nat):Go.Sim.Obj:= .row [.d (.agg [.sl (zt l),.int .i64 a])]
theorem zRE(l:List Int)(hL:l.length<=LIM):zd G 6 [.d (.sl (zt l))] []=some (.ref 0 0 0,[(0,zp (l.take 4000) 0)]):=by
 have hs:=zpO l
 by_cases h:4000<l.length
 ·have e:zt (l.take 4000)=(zt l).take 4000:=by simp [zt,z0G]
  simp only[zp,e];exact zW
 ·have e:l.take 4000=l:=z0Q zo;simp only[zp,e];exact zW
def zae(l:List Int)(a:Nat):Int×Nat:=if a<l.length then (l.getD a 0,a+1) else (0,a)
theorem zTM(l:List Int)(a:Nat)(hL:l.length<=4000):zd G 54 [.ref 1000000 0 0] [(1000000,zp l a)]=some (.d (.int .i64 (zae l a).1),[(1000000,zp l (zae l a).2)]):=by
 unfold zae;have e:((a:Int)+1 - 1).toNat=a:=by omega
 by_cases h:a<l.length
 ·simp only[h,if_true];exact zW
 ·simp only[h,if_false];exact zW
def nD(l:List Int)(a:Nat)(n:Int):Int:=if (zae l a).1.tmod n<0 then (zae l a).1.tmod n+n else (zae l a).1.tmod n
theorem zaG(l:List Int)(a:Nat){n:Int}(h:1<=n):0<=nD l a n/\nD l a n<n:=by
 unfold nD;have h1:=z1h (zae l a).1 (show 0<n by omega);have h2:=Int.lt_tmod_of_pos (zae l a).1 (show 0<n by omega)
 split<;>omega
theorem zbP(l:List Int)(a:Nat)(n:Int)(hL:l.length<=4000)(h1:1<=n)(h2:n<=4294967296):zd G 13 [.ref 1000000 0 0,.d (.int .i64 n)] [(1000000,zp l a)]=some (.d (.int .i64 (nD l a n)),[(1000000,zp l (zae l a).2)]):=by
 have hr:=zTM l a hL;have h3:=z1h (zae l a).1 (show 0<n by omega);have h4:=Int.lt_tmod_of_pos (zae l a).1 (show 0<n by omega);unfold nD
 by_cases h:(zae l a).1.tmod n<0
 ·simp only[h,if_true];exact zW
 ·simp only[h,if_false];exact zW
theorem zgz(l:List Int)(a:Nat)(lo hi:Int)(hL:l.length<=4000)(h0: -4294967296<=lo)(h1:lo<=hi)(h2:hi<=4294967296)(h3:hi - lo<4294967296):zd G 21 [.ref 1000000 0 0,.d (.int .i64 lo),.d (.int .i64 hi)] [(1000000,zp l a)]=some (.d (.int .i64 (lo+nD l a (hi - lo+1))),[(1000000,zp l (zae l a).2)]):=by
 have hr:=zbP l a (hi - lo+1) hL zo zo;have hn:=zaG l a (show 1<=hi - lo+1 by omega);exact zW
theorem zDK(a b:List Message)(hL:a.length<=4294967296):zd G 73 [.d (.sl (a.map zj)),.d (.sl (b.map zj))] []=some (.d (.bool (decide (a=b))),[]):=by
 by_cases hab:a.length=b.length
 ·have:=zc7 (G:=G) (x:=zrM) (ks:=[]) a.length (fun k=>decide (a[k]? = b[k]?)) (fun k=>⟨[(0,.d (.sl (a.map zj))),(1,.d (.sl (b.map zj))),(5,.d (.int .i64 k))],[]⟩) (.ret,⟨[(4,.d (.bool false))],[]⟩) (.exit 0,⟨[],[]⟩) (fun k hk L=>by
     simp only[zrM]
     by_cases h0:k<a.length
     ·have hk2:k<b.length:=by omega
      simp only[ziE h0 hk2]
      by_cases hc:a[k]=b[k]
      ·simp -implicitDefEqProofs (maxSteps:=4000000) (disch:=omega) only[go_sem,hc]
      ·simp -implicitDefEqProofs (maxSteps:=4000000) (disch:=omega) only[go_sem,hc]
     ·simp -implicitDefEqProofs (maxSteps:=4000000) (disch:=omega) only[go_sem,zZj])
  simp only[zii hab,zZg] at this
  by_cases e:a=b
  ·subst e;simp only[decide_true,if_true] at this;rw[zB zrf (by simp)];simp -implicitDefEqProofs (maxSteps:=4000000) (disch:=omega) only[zlb,go_sem,this]
  ·simp only[e,decide_false,zYX,if_false] at this;rw[zB zrf (by simp)];simp -implicitDefEqProofs (maxSteps:=4000000) (disch:=omega) only[zlb,go_sem,hab,this,e]
 ·have e:a≠b:=fun e=>hab (by rw[e]);rw[zB zrf (by simp)];simp -implicitDefEqProofs (maxSteps:=4000000) (disch:=omega) only[zlb,go_sem,e]
theorem zVH(a b:List Stripe)(hL:a.length<=4294967296):zd G 62 [.d (.sl (a.map zE)),.d (.sl (b.map zE))] []=some (.d (.bool (decide (a=b))),[]):=by
 by_cases hab:a.length=b.length
 ·have:=zc7 (G:=G) (x:=zj0) (ks:=[]) a.length (fun k=>decide (a[k]? = b[k]?)) (fun k=>⟨[(0,.d (.sl (a.map zE))),(1,.d (.sl (b.map zE))),(5,.d (.int .i64 k))],[]⟩) (.ret,⟨[(4,.d (.bool false))],[]⟩) (.exit 0,⟨[],[]⟩) (fun k hk L=>by
     simp only[zj0]
     by_cases h0:k<a.length
     ·have hk2:k<b.length:=by omega
      simp only[ziE h0 hk2]
      by_cases hc:a[k]=b[k]
      ·simp -implicitDefEqProofs (maxSteps:=4000000) (disch:=omega) only[go_sem,hc]
      ·simp -implicitDefEqProofs (maxSteps:=4000000) (disch:=omega) only[go_sem,hc]
     ·simp -implicitDefEqProofs (maxSteps:=4000000) (disch:=omega) only[go_sem,zZj])
  simp only[zii hab,zZg] at this
  by_cases e:a=b
  ·subst e;simp only[decide_true,if_true] at this;rw[zB zrj (by simp)];simp -implicitDefEqProofs (maxSteps:=4000000) (disch:=omega) only[zlf,go_sem,this]
  ·simp only[e,decide_false,zYX,if_false] at this;rw[zB zrj (by simp)];simp -implicitDefEqProofs (maxSteps:=4000000) (disch:=omega) only[zlf,go_sem,hab,this,e]
 ·have e:a≠b:=fun e=>hab (by rw[e]);rw[zB zrj (by simp)];simp -implicitDefEqProofs (maxSteps:=4000000) (disch:=omega) only[zlf,go_sem,e]
theorem zVG(a b:List zy)(hL:a.length<=4294967296):zd G 118 [.d (.sl (a.map zaw)),.d (.sl (b.map zaw))] []=some (.d (.bool (decide (a=b))),[]):=by
 by_cases hab:a.length=b.length
 ·have:=zc7 (G:=G) (x:=zrV) (ks:=[]) a.length (fun k=>decide (a[k]? = b[k]?)) (fun k=>⟨[(0,.d (.sl (a.map zaw))),(1,.d (.sl (b.map zaw))),(5,.d (.int .i64 k))],[]⟩) (.ret,⟨[(4,.d (.bool false))],[]⟩) (.exit 0,⟨[],[]⟩) (fun k hk L=>by
     simp only[zrV]
     by_cases h0:k<a.length
     ·have hk2:k<b.length:=by omega
      simp only[ziE h0 hk2]
      by_cases hc:a[k]=b[k]
      ·simp -implicitDefEqProofs (maxSteps:=4000000) (disch:=omega) only[go_sem,hc]
      ·simp -implicitDefEqProofs (maxSteps:=4000000) (disch:=omega) only[go_sem,hc]
     ·simp -implicitDefEqProofs (maxSteps:=4000000) (disch:=omega) only[go_sem,zZj])
  simp only[zii hab,zZg] at this
  by_cases e:a=b
  ·subst e;simp only[decide_true,if_true] at this;rw[zB zri (by simp)];simp -implicitDefEqProofs (maxSteps:=4000000) (disch:=omega) only[zle,go_sem,this]
  ·simp only[e,decide_false,zYX,if_false] at this;rw[zB zri (by simp)];simp -implicitDefEqProofs (maxSteps:=4000000) (disch:=omega) only[zle,go_sem,hab,this,e]
 ·have e:a≠b:=fun e=>hab (by rw[e]);rw[zB zri (by simp)];simp -implicitDefEqProofs (maxSteps:=4000000) (disch:=omega) only[zle,go_sem,e]
theorem zVF(a b:List Due)(hL:a.length<=4294967296):zd G 119 [.d (.sl (a.map eD)),.d (.sl (b.map eD))] []=some (.d (.bool (decide (a=b))),[]):=by
 by_cases hab:a.length=b.length
 ·have:=zc7 (G:=G) (x:=zrN) (ks:=[]) a.length (fun k=>decide (a[k]? = b[k]?)) (fun k=>⟨[(0,.d (.sl (a.map eD))),(1,.d (.sl (b.map eD))),(5,.d (.int .i64 k))],[]⟩) (.ret,⟨[(4,.d (.bool false))],[]⟩) (.exit 0,⟨[],[]⟩) (fun k hk L=>by
     simp only[zrN]
     by_cases h0:k<a.length
     ·have hk2:k<b.length:=by omega
      simp only[ziE h0 hk2]
      by_cases hc:a[k]=b[k]
      ·simp -implicitDefEqProofs (maxSteps:=4000000) (disch:=omega) only[go_sem,hc]
      ·simp -implicitDefEqProofs (maxSteps:=4000000) (disch:=omega) only[go_sem,hc]
     ·simp -implicitDefEqProofs (maxSteps:=4000000) (disch:=omega) only[go_sem,zZj])
  simp only[zii hab,zZg] at this
  by_cases e:a=b
  ·subst e;simp only[decide_true,if_true] at this;rw[zB zrh (by simp)];simp -implicitDefEqProofs (maxSteps:=4000000) (disch:=omega) only[zld,go_sem,this]
  ·simp only[e,decide_false,zYX,if_false] at this;rw[zB zrh (by simp)];simp -implicitDefEqProofs (maxSteps:=4000000) (disch:=omega) only[zld,go_sem,hab,this,e]
 ·have e:a≠b:=fun e=>hab (by rw[e]);rw[zB zrh (by simp)];simp -implicitDefEqProofs (maxSteps:=4000000) (disch:=omega) only[zld,go_sem,e]
def inB(n lo hi:Int):Bool:=decide (lo<=n)&&decide (n<=hi)
theorem zGE(es:List D)(hs:zap 9 es=true)(hL:es.length<=4294967296):zd G 80 [.d (.sl es)] []=some (.acc 0 es,[(0,.acc es.length)]):=by
 cases es with
 | nil=>
  refine zyv zA3 (by decide) ?_ ?_
  ·simp -implicitDefEqProofs only[zlg,go_sem]
  ·simp -implicitDefEqProofs only[zlg,z1e,go_sem]
 | cons e es=>
  rw[zyu zA3 (by simp) (by decide)];simp only[zmX] at hs;simp only[zYW] at hL;simp -implicitDefEqProofs (maxSteps:=4000000) (disch:=omega) only[zlg,go_sem, *]
def zhS(a:zm)(c:Int):Int:=if c=a.slots.length then a.dead.owner else (a.slots.getD c.toNat ze7).owner
def zeH(k:Int):Bool:=inB k 1 200
theorem zkZ(n lo hi:Int):zd G 83 [.d (.int .i64 n),.d (.int .i64 lo),.d (.int .i64 hi)] []=some (.d (.bool (decide (lo<=n)&&decide (n<=hi))),[]):=by
 exact zW
theorem zBN(k:Int):zd G 87 [.d (.int .i64 k)] []=some (.d (.bool (zeH k)),[]):=by
 have h:=zkZ k 1 200;unfold zeH inB;exact zW
def ze5(a:zm)(c k:Int):zm:=if c=a.slots.length then { a with dead:={ a.dead with owner:=k } } else { a with slots:=a.slots.set c.toNat { a.slots.getD c.toNat ze7 with owner:=k } }
def zb2(a:zm)(c k:Int):zm×Bool×Int:=if c<0\/(a.slots.length:Int)<c\/zeH k=false then (zx,false,1) else if zhS a c=0 then (ze5 a c k,true,0) else (a,false,0)
def zed(a:zm)(c k:Int):zm×Int:=if c<0\/(a.slots.length:Int)<c\/zeH k=false then (zx,1) else if zhS a c=k then (ze5 a c 0,0) else (zx,13)
theorem zpq(k:Int):zd G 66 [.d (.int .i64 k)] []=some (.d (.bool (zeH k)),[]):=by
 unfold zeH inB;exact zW
theorem zC5(a:zm)(c:Int)(hL:a.slots.length<=1000)(h0:0<=c)(h1:c<=a.slots.length):zd G 67 [.d (zl a),.d (.int .i64 c)] []=some (.d (.int .i64 (zhS a c)),[]):=by
 unfold zhS;exact zW
theorem zC3(a:zm)(c k:Int)(hL:a.slots.length<=1000)(h0:0<=c)(h1:c<=a.slots.length):zd G 68 [.d (zl a),.d (.int .i64 c),.d (.int .i64 k)] []=some (.d (zl (ze5 a c k)),[]):=by
 unfold ze5
 by_cases h:c=a.slots.length
 ·simp only[zl,h,if_true];exact zW
 ·have hne:¬a.slots.length=0:=by omega
  simp only[zl,h,if_false];exact zW
theorem ztN(a:zm)(c k:Int)(hL:a.slots.length<=1000):zd G 22 [.d (zl a),.d (.int .i64 c),.d (.int .i64 k)] []=some (.d (.tup [zl (zb2 a c k).1,.bool (zb2 a c k).2.1,.int .i64 (zb2 a c k).2.2]),[]):=by
 have h2:=zpq k;unfold zb2
 by_cases c1:c<0\/(a.slots.length:Int)<c
 ·rw[zYQ zo];exact zW
 ·have h1:=zC5 a c hL zo zo;have h3:=zC3 a c k hL zo zo
  cases c2:zeH k
  ·rw[zYQ (by simp)];exact zW
  ·rw[zYP (by simp;omega)];exact zW
theorem zYb(a:zm)(c k:Int)(hL:a.slots.length<=1000):zd G 313 [.d (zl a),.d (.int .i64 c),.d (.int .i64 k)] []=some (.d (.tup [zl (zed a c k).1,.int .i64 (zed a c k).2]),[]):=by
 have h2:=zpq k;unfold zed
 by_cases c1:c<0\/(a.slots.length:Int)<c
 ·rw[zYQ zo];exact zW
 ·have h1:=zC5 a c hL zo zo;have h3:=zC3 a c 0 hL zo zo
  cases c2:zeH k
  ·rw[zYQ (by simp)];exact zW
  ·rw[zYP (by simp;omega)];exact zW
def ziP(cells:List Int)(k:Nat):Bool:=decide (0<=cells.getD k 0/\cells.getD k 0<=6/\(k=0\/cells.getD (k - 1) 0<cells.getD k 0))
def zg2(cells:List Int):zbH×Int:=
 if cells.length=0\/3<cells.length then (zf9,2) else if (List.range cells.length).all (ziP cells)=true then (⟨cells,0,0,0,0⟩,0) else (zf9,1)
def zL:Nat×Go.Sim.Obj:=(2,.row [.agg [.xsl [],.d (.int .i64 0),.d (.int .i64 0),.d (.int .i64 0),.d (.int .i64 0)]])
theorem zS9{k:Nat}(h:0<k):((k:Int) - 1).toNat=k - 1:=by omega
theorem zP5(cells:List Int)(hL:cells.length<=3):zP G [] zr5 ⟨[(0,.d (.sl (zt cells))),(2,.ref 2 0 0),(4,.d (.int .i64 0))],[zL]⟩=some (if (List.range cells.length).all (ziP cells)=true then (.exit 0,⟨[(0,.d (.sl (zt cells))),(2,.ref 2 0 0)],[zL]⟩) else (.ret,⟨[(2,.ref 2 0 0),(3,.d (.int .i64 1))],[zL]⟩)):=by
 refine zc7 (G:=G) cells.length (ziP cells) (fun k=>⟨[(0,.d (.sl (zt cells))),(2,.ref 2 0 0),(4,.d (.int .i64 k))],[zL]⟩) _ _ fun k hk L=> ?_;simp only[zr5,zL,ziP]
 by_cases h0:k<cells.length
 ·simp only[h0,if_true];have zk0:= @zS9;exact zS
 ·simp -implicitDefEqProofs (maxSteps:=4000000) (disch:=omega) only[go_sem,zZj]
theorem zP6(cells:List Int)(hL:cells.length<=4294967296):zd G 273 [.d (.sl (zt cells))] []=some (.d (.tup [zcv (zg2 cells).1,.int .i64 (zg2 cells).2]),[]):=by
 unfold zg2
 by_cases c1:cells.length=0\/3<cells.length
 ·rw[zYQ c1];exact zW
 ·rw[zYP c1];have hl:=zP5 cells zo;simp only[zL] at hl
  by_cases c2:(List.range cells.length).all (ziP cells)=true
  ·simp only[c2,if_true] at hl ⊢;have zk0:=zt.eq_1;exact zW
  ·simp only[c2,if_false] at hl ⊢;have zk0:=zt.eq_1;exact zW
def zcf(l:zbH):zbH×Int:=if l.phase=3 then ({ l with phase:=4 },0) else (zf9,7)
theorem zP4(l:zbH):zd G 322 [.d (zcv l)] []=some (.d (.tup [zcv (zcf l).1,.int .i64 (zcf l).2]),[]):=by
 unfold zcf;exact zW
structure LWF(B:Int)(l:zbH):Prop where
 c1:1<=l.cells.length
 c2:l.cells.length<=3
 h0:0<=l.have_
 h1:l.have_<=l.cells.length
 t0:l.phase=0->l.have_<l.cells.length
 t1:l.phase=1->1<=l.have_
 t2:l.phase=2->l.have_=0/\1<=l.wait/\l.wait<=3
 t3:l.phase=3->l.have_=l.cells.length
 t4:l.phase=4->1<=l.have_
 t5:0<=l.phase/\l.phase<=5
 t6:l.phase=5->l.have_=0
 b0:0<=l.tries
 b1:l.tries<=B
def zlX(a:zm)(l:zbH)(k:Int):zm×zbH×Int:=
 if (zb2 a (l.cells.getD l.have_.toNat 0) k).2.2=0 then
  (if (zb2 a (l.cells.getD l.have_.toNat 0) k).2.1=true then ((zb2 a (l.cells.getD l.have_.toNat 0) k).1,{ l with have_:=l.have_+1,phase:=if l.have_+1=l.cells.length then 3 else l.phase },0)
   else ((zb2 a (l.cells.getD l.have_.toNat 0) k).1,{ l with phase:=if 0<l.have_ then 1 else l.phase },0))
 else (zx,zf9,(zb2 a (l.cells.getD l.have_.toNat 0) k).2.2)
def zj8(l:zbH):zbH:=
 if 0<l.have_ - 1 then { l with have_:=l.have_ - 1 } else if l.phase=4 then { l with have_:=l.have_ - 1,phase:=5 } else { l with have_:=l.have_ - 1,tries:=l.tries+1,wait:=if 3<l.tries+1 then 3 else l.tries+1,phase:=2 }
def zkb(a:zm)(l:zbH)(k:Int):zm×zbH×Int:=
 if (zed a (l.cells.getD (l.have_ - 1).toNat 0) k).2=0 then ((zed a (l.cells.getD (l.have_ - 1).toNat 0) k).1,zj8 l,0) else (zx,zf9,(zed a (l.cells.getD (l.have_ - 1).toNat 0) k).2)
def za2(a:zm)(l:zbH)(k:Int):zm×zbH×Int:=
 if l.phase=0 then zlX a l k else if l.phase=1\/l.phase=4 then zkb a l k else if l.phase=2 then (a,{ l with wait:=l.wait - 1,phase:=if l.wait - 1=0 then 0 else 2 },0) else (zx,zf9,7)
theorem zBU(a:zm)(l:zbH)(k:Int)(hL:a.slots.length<=1000)(hw:LWF 1000000 l):zd G 292 [.d (zl a),.d (zcv l),.d (.int .i64 k)] []=some (.d (.tup [zl (za2 a l k).1,zcv (za2 a l k).2.1,.int .i64 (za2 a l k).2.2]),[]):=by
 obtain⟨w1,w2,w3,w4,w5,w6,w7,w8,w9,w10,w11,w12,w13⟩:=hw;unfold za2 zlX zkb zj8
 by_cases c0:l.phase=0
 ·have ht:=ztN a (l.cells.getD l.have_.toNat 0) k hL;have hh:=w5 c0;rw[zYQ c0];generalize zb2 a (l.cells.getD l.have_.toNat 0) k=r at ht ⊢;obtain⟨r1,r2,r3⟩:=r;obtain⟨l1,l2,l3,l4,l5⟩:=l;simp only at *;rw[zg zo] at ht
  by_cases c1:r3=0
  ·rw[zYQ c1];subst c1
   cases r2
   ·simp only[zYX,if_false];exact zW
   ·simp only[if_true];exact zW
  ·rw[zYP c1];exact zW
 rw[zYP c0]
 by_cases c14:l.phase=1\/l.phase=4
 ·have ht:=zYb a (l.cells.getD (l.have_ - 1).toNat 0) k hL;have hh:1<=l.have_:=by rcases c14 with h|h;exact w6 h;exact w9 h
  rw[zYQ c14];generalize zed a (l.cells.getD (l.have_ - 1).toNat 0) k=r at ht ⊢;obtain⟨r1,r3⟩:=r;obtain⟨l1,l2,l3,l4,l5⟩:=l;simp only at *;rw[zg zo] at ht
  by_cases c1:r3=0
  ·rw[zYQ c1];subst c1
   by_cases c2:3<l4+1
   ·simp only[c2,if_true]
    rcases c14 with c5|c5
    ·exact zW
    ·exact zW
   ·simp only[c2,if_false]
    rcases c14 with c5|c5
    ·exact zW
    ·exact zW
  ·rw[zYP c1]
   rcases c14 with c5|c5
   ·exact zW
   ·exact zW
 rw[zYP c14]
 by_cases c2:l.phase=2
 ·have:=w7 c2;rw[zYQ c2];exact zW
 ·have q:¬l.phase=1/\¬l.phase=4:=by omega
  obtain⟨q1,q2⟩:=q;rw[zYP c2];exact zW
theorem zE6(a:zm)(c k:Int)(h:(zb2 a c k).2.2=0):((zb2 a c k).1=a/\(zb2 a c k).2.1=false/\zhS a c≠0)\/((zb2 a c k).1=ze5 a c k/\(zb2 a c k).2.1=true/\zhS a c=0):=by
 unfold zb2 at *
 split at h
 ·cases h
 ·rename_i h1;rw[zYP h1]
  split
  ·rename_i h2;exact .inr ⟨rfl,rfl,h2⟩
  ·rename_i h2;exact .inl ⟨rfl,rfl,h2⟩
theorem zE7(a:zm)(c k:Int)(h:(zed a c k).2=0):(zed a c k).1=ze5 a c 0/\zhS a c=k:=by
 unfold zed at *
 split at h
 ·cases h
 ·rename_i h1;rw[zYP h1]
  split at h
  ·rename_i h2;rw[zYQ h2];exact⟨rfl,h2⟩
  ·cases h
theorem zsl{B:Int}{a:zm}{l:zbH}{k:Int}(hw:LWF B l)(h:(za2 a l k).2.2=0):
    LWF (B+1) (za2 a l k).2.1/\(za2 a l k).2.1.cells=l.cells/\((za2 a l k).1=a\/∃c o,(za2 a l k).1=ze5 a c o):=by
 obtain⟨w1,w2,w3,w4,w5,w6,w7,w8,w9,w10,w11,w12,w13⟩:=hw;unfold za2 at *
 by_cases c0:l.phase=0
 ·have hh:=w5 c0;rw[zYQ c0] at h ⊢;unfold zlX at *
  by_cases c1:(zb2 a (l.cells.getD l.have_.toNat 0) k).2.2=0
  ·rw[zYQ c1] at h ⊢
   rcases zE6 _ _ _ c1 with ⟨e1,e2,_⟩|⟨e1,e2,_⟩
   ·rw[zYP (by rw[e2];simp)] at h ⊢;refine⟨?_,rfl,.inl e1⟩
    by_cases c2:0<l.have_
    ·simp only[c2,if_true];constructor<;>simp only<;>omega
    ·simp only[c2,if_false,c0];constructor<;>simp only<;>omega
   ·rw[zYQ e2] at h ⊢;refine⟨?_,rfl,.inr ⟨_,_,e1⟩⟩
    by_cases c2:l.have_+1=l.cells.length
    ·simp only[c2,if_true];constructor<;>simp only<;>first|omega|exact fun _=>trivial
    ·simp only[c2,if_false,c0];constructor<;>simp only<;>omega
  ·rw[zYP c1] at h;exact absurd h c1
 rw[zYP c0] at h ⊢
 by_cases c14:l.phase=1\/l.phase=4
 ·have hh:1<=l.have_:=by rcases c14 with h|h;exact w6 h;exact w9 h
  rw[zYQ c14] at h ⊢;unfold zkb at *
  by_cases c1:(zed a (l.cells.getD (l.have_ - 1).toNat 0) k).2=0
  ·rw[zYQ c1] at h ⊢;have hk:=zE7 _ _ _ c1;refine⟨?_,?_,.inr ⟨_,_,hk.1⟩⟩
   ·simp only[zj8]
    by_cases c2:0<l.have_ - 1
    ·rw[zYQ c2];constructor<;>simp only<;>omega
    ·rw[zYP c2]
     by_cases c3:l.phase=4
     ·rw[zYQ c3];constructor<;>simp only<;>omega
     ·rw[zYP c3]
      by_cases c4:3<l.tries+1
      ·rw[zYQ c4];constructor<;>simp only<;>omega
      ·rw[zYP c4];constructor<;>simp only<;>omega
   ·simp only[zj8]
    by_cases c2:0<l.have_ - 1
    ·rw[zYQ c2]
    ·rw[zYP c2]
     by_cases c3:l.phase=4
     ·rw[zYQ c3]
     ·rw[zYP c3]
  ·rw[zYP c1] at h;exact absurd h c1
 rw[zYP c14] at h ⊢
 by_cases c2:l.phase=2
 ·have hh:=w7 c2;rw[zYQ c2] at h ⊢;refine⟨?_,rfl,.inl rfl⟩
  by_cases c3:l.wait - 1=0
  ·simp only[c3,if_true];constructor<;>simp only<;>omega
  ·simp only[c3,if_false];constructor<;>simp only<;>omega
 ·rw[zYP c2] at h
  cases h
theorem LWF.mono{B B':Int}{l:zbH}(h:LWF B l)(hb:B<=B'):LWF B' l:=⟨h.c1,h.c2,h.h0,h.h1,h.t0,h.t1,h.t2,h.t3,h.t4,h.t5,h.t6,h.b0,by have:=h.b1;omega⟩
theorem zoH{B:Int}{l:zbH}(h:LWF B l)(hp:l.phase=3):LWF B (zcf l).1/\(zcf l).1.cells=l.cells:=by
 have h3:=h.t3 hp;obtain⟨w1,w2,w3,w4,w5,w6,w7,w8,w9,w10,w11,w12,w13⟩:=h;unfold zcf;rw[zYQ hp];exact⟨by constructor<;>simp only<;>omega,rfl⟩
structure zgb(cs:List Int)(n:Int):Prop where
 p:cs.Pairwise (· < ·)
 b:∀c∈cs,0<=c/\c<=n
 l:cs.length<=3
theorem zgb.at{cs:List Int}{n:Int}(h:zgb cs n)(hn:n<=6):(List.range cs.length).all (ziP cs)=true:=by
 rw[zZi];intro k hk;have hk:=zZJ.1 hk;unfold ziP;have h1:=h.b cs[k] (zY4 hk);rw[zg hk];refine zZe ⟨h1.1,by omega,?_⟩
 by_cases h0:k=0
 ·exact .inl h0
 ·right;rw[zg zo];exact zZ4.1 h.p (k - 1) k zo hk zo
theorem zQI{cs:List Int}{n:Int}(h:zgb cs n)(hn:n<=6)(h0:1<=cs.length):zg2 cs=(⟨cs,0,0,0,0⟩,0):=by
 unfold zg2;have:=h.l;rw[zYP zo,zYQ (h.at hn)]
def zaR(l:List Span)(slot:Int):Int:=zbf (fun x=>decide (x.shard=slot)) l
def zdj:Int->List Span->Option Int
 | n,[]=>some n
 | n,x::l=>if x.low=n/\x.low<=x.high/\x.high<65536 then zdj (x.high+1) l else none
def zdn(F:List Int):Nat->Int->Int
 | 0,a=>a
 | m+1,a=>zdn F m (if 0<=a then F.getD a.toNat 0 else a)
def ziD(d:zao)(i:Nat):Bool:= !((decide (0<=zaR d.l i)&& !decide (d.forward.getD i 0= -1))||decide (d.forward.getD i 0< -1)||decide ((d.forward.length:Int)<=d.forward.getD i 0))
def zra(d:zao):Bool:=((List.range d.forward.length).all (ziD d))&&(List.range d.forward.length).all fun i=>decide (zdn d.forward d.forward.length i<0)
def zhO(n:Nat)(x:Span):Bool:=decide (x.shard<0)||decide ((n:Int)<=x.shard)
def zlo(l:List Span)(i:Nat):Bool:=decide (zaR l (l.getD i zeJ).shard=i)
def zbl(d:zao):Int:=
 if d.version<1\/1099511627776<d.version\/d.forward.length<1\/6<d.forward.length then 1
 else if zdj 0 d.l≠some 65536 then 7
 else if d.l.any (zhO d.forward.length)=true then 4
 else if (List.range d.l.length).all (zlo d.l)=false then 10
 else if zra d=false then 7 else 0
def zkO(d:zao)(slot:Int):Span×Bool:=if zbl d=0/\0<=zaR d.l slot then (d.l.getD (zaR d.l slot).toNat zeJ,true) else (zeJ,false)
def rD(d:zao)(o:Nat):Nat×Go.Sim.Obj:=(o,.row [.d (zat d)])
theorem zkw(d:zao)(j:Int)(hL:d.l.length<=4294967296):zd G 217 [.d (zat d),.d (.int .i64 j)] []=some (.d (.int .i64 (zaR d.l j)),[]):=by
 have:=zg4 (G:=G) (x:=zr2) (ks:=[]) d.l.length (atB d.l fun x=>decide (x.shard=j)) (fun k=>⟨[(1,.d (.int .i64 j)),(2,.ref 2 0 0),(5,.d (.int .i64 k))],[(2,.row [.d (zat d)])]⟩) (fun k=>(.ret,⟨[(4,.d (.int .i64 k))],[]⟩)) (.exit 0,⟨[],[]⟩) (fun k hk L=>by
  simp only[zr2]
  by_cases h0:k<d.l.length
  ·simp only[h0,if_true,zeO h0];exact zS
  ·exact zS)
 rw[ziB] at this;simp only[zNr,zp] at this;unfold zaR zbf
 cases h:d.l.findIdx? (fun x=>decide (x.shard=j)) with
 | none=>rw[h] at this;clear h;exact zW
 | some i=>rw[h] at this;clear h;exact zW
theorem zTG(d:zao)(n:Int)(hL:d.l.length<=4294967296):∀p:Nat×Int,p.1<=d.l.length/\0<=p.2/\p.2<=65536->zP G [] zrZ ⟨[(1,.ref 1 0 0),(3,.d (.int .i64 n)),(4,.d (.int .i64 p.2)),(5,.d (.int .i64 p.1))],[rD d 1]⟩=some (match zdj p.2 (d.l.drop p.1) with|some m=>(.exit 0,⟨[(1,.ref 1 0 0),(3,.d (.int .i64 n)),(4,.d (.int .i64 m))],[rD d 1]⟩)|none=>(.ret,⟨[(2,.d (.int .i64 7))],[]⟩)):=by
 refine zaq (fun p:Nat×Int=>d.l.length - p.1) _ (fun p:Nat×Int=>⟨[(1,.ref 1 0 0),(3,.d (.int .i64 n)),(4,.d (.int .i64 p.2)),(5,.d (.int .i64 p.1))],[rD d 1]⟩) _ fun⟨k,m⟩ ⟨hk,h1,h2⟩ L ih=> ?_;simp only at ih hk h1 h2 ⊢;simp only[zrZ,rD] at ih ⊢
 by_cases h0:k<d.l.length
 ·rw[zZr h0,zdj]
  by_cases c:d.l[k].low=m/\d.l[k].low<=d.l[k].high/\d.l[k].high<65536
  ·have i1:=ih (k+1,d.l[k].high+1) ⟨by simp only;omega,by simp only;omega,by simp only;omega⟩ (by simp only;omega);simp only at i1;rw[zYQ c];clear ih;generalize zdj (d.l[k].high+1) (d.l.drop (k+1))=z at *;simp only[zNr,zp] at i1
   cases z with
   | none=>exact zS
   | some z=>exact zS
  ·rw[zYP c];clear ih;exact zS
 ·rw[z1T zo,zdj];clear ih;exact zS
theorem zTH(d:zao)(n:Nat)(hL:d.l.length<=4294967296)(hn:n<=6):zP G [] zoo ⟨[(1,.ref 1 0 0),(3,.d (.int .i64 n)),(7,.d (.int .i64 0))],[rD d 1]⟩=some (if d.l.any (zhO n)=true then (.ret,⟨[(2,.d (.int .i64 4))],[]⟩) else (.exit 2,⟨[(1,.ref 1 0 0),(3,.d (.int .i64 n))],[rD d 1]⟩)):=by
 have:=zg4 (G:=G) (x:=zoo) (ks:=[]) d.l.length (atB d.l (zhO n)) (fun k=>⟨[(1,.ref 1 0 0),(3,.d (.int .i64 n)),(7,.d (.int .i64 k))],[rD d 1]⟩) (fun k=>(.ret,⟨[(2,.d (.int .i64 4))],[]⟩)) (.exit 2,⟨[(1,.ref 1 0 0),(3,.d (.int .i64 n))],[rD d 1]⟩) (fun k hk L=>by
  simp only[zoo,rD]
  by_cases h0:k<d.l.length
  ·simp only[h0,if_true,zeO h0];unfold zhO;exact zS
  ·exact zS)
 rw[ziB] at this;simp only[zNr,zp] at this;rw[this]
 congr 1
 have e:=zrx d.l (zhO n);unfold zbf at e
 cases h:d.l.findIdx? (zhO n) with
 | none=>rw[h] at e;rw[<- e];rfl
 | some i=>rw[h] at e;rw[<- e];simp
theorem zTI(d:zao)(n:Nat)(hL:d.l.length<=4294967296):zP G [] zr0 ⟨[(1,.ref 1 0 0),(3,.d (.int .i64 n)),(8,.d (.int .i64 0))],[rD d 1]⟩=some (if (List.range d.l.length).all (zlo d.l)=true then (.exit 4,⟨[(1,.ref 1 0 0),(3,.d (.int .i64 n))],[rD d 1]⟩) else (.ret,⟨[(2,.d (.int .i64 10))],[]⟩)):=by
 refine zc7 (G:=G) d.l.length (zlo d.l) (fun k=>⟨[(1,.ref 1 0 0),(3,.d (.int .i64 n)),(8,.d (.int .i64 k))],[rD d 1]⟩) _ _ fun k hk L=> ?_;simp only[zr0,rD]
 by_cases h0:k<d.l.length
 ·have hi:=zkw d (d.l[k]).shard hL;simp only[h0,if_true];unfold zlo;rw[zg h0];exact zS
 ·exact zS
theorem zTJ(d:zao)(hL:d.l.length<=4294967296)(hF:d.forward.length<=6):zP G [] zr1 ⟨[(1,.ref 1 0 0),(3,.d (.int .i64 d.forward.length)),(9,.d (.int .i64 0))],[rD d 1]⟩=some (if (List.range d.forward.length).all (ziD d)=true then (.exit 6,⟨[(1,.ref 1 0 0),(3,.d (.int .i64 d.forward.length))],[rD d 1]⟩) else (.ret,⟨[(2,.d (.int .i64 7))],[]⟩)):=by
 refine zc7 (G:=G) d.forward.length (ziD d) (fun k=>⟨[(1,.ref 1 0 0),(3,.d (.int .i64 d.forward.length)),(9,.d (.int .i64 k))],[rD d 1]⟩) _ _ fun k hk L=> ?_;simp only[zr1,rD]
 by_cases h0:k<d.forward.length
 ·have hi:=zkw d k hL;simp only[h0,if_true];unfold ziD;rw[zg h0];exact zS
 ·exact zS
theorem zyB(F:List Int):∀(m:Nat) (a:Int),a<0->zdn F m a=a
 | 0,a,_=>rfl
 | m+1,a,h=>by rw[zdn,zYP zo,zyB F m a h]
theorem zTK(d:zao)(i:Nat)(hF:d.forward.length<=6)(hv:∀a∈d.forward, -1<=a/\a<d.forward.length):∀p:Nat×Int,p.1<=d.forward.length/\ -1<=p.2/\p.2<d.forward.length->zP G [] zop ⟨[(1,.ref 1 0 0),(3,.d (.int .i64 d.forward.length)),(10,.d (.int .i64 i)),(11,.d (.int .i64 p.2)),(12,.d (.int .i64 p.1))],[rD d 1]⟩=some (.exit 10,⟨[(1,.ref 1 0 0),(3,.d (.int .i64 d.forward.length)),(10,.d (.int .i64 i)),(11,.d (.int .i64 (zdn d.forward (d.forward.length - p.1) p.2)))],[rD d 1]⟩):=by
 refine zaq (fun p:Nat×Int=>d.forward.length - p.1) _ (fun p:Nat×Int=>⟨[(1,.ref 1 0 0),(3,.d (.int .i64 d.forward.length)),(10,.d (.int .i64 i)),(11,.d (.int .i64 p.2)),(12,.d (.int .i64 p.1))],[rD d 1]⟩) _ fun⟨k,a⟩ ⟨hk,h1,h2⟩ L ih=> ?_;simp only[rD] at ih hk h1 h2 ⊢;simp only[zop]
 by_cases h0:k<d.forward.length
 ·by_cases c1:0<=a
  ·have hlt:a.toNat<d.forward.length:=by omega
   have hm:=hv (d.forward[a.toNat]) (zY4 _);have i1:=ih (k+1,d.forward[a.toNat]) ⟨by simp only;omega,by simp only;omega,by simp only;omega⟩ (by simp only;omega);rw[show d.forward.length - k=(d.forward.length - (k+1))+1 by omega,zdn,zYQ c1,zg hlt];simp only at i1;generalize zdn d.forward (d.forward.length - (k+1)) d.forward[a.toNat]=z at *;clear ih hv;simp only[zNr,zp] at i1;exact zS
  ·rw[zyB _ _ _ zo];clear ih hv;exact zS
 ·rw[show d.forward.length - k=0 by omega,zdn];clear ih hv;exact zS
theorem zTL(d:zao)(hF:d.forward.length<=6)(hv:∀a∈d.forward, -1<=a/\a<d.forward.length):zP G [] zoq ⟨[(1,.ref 1 0 0),(3,.d (.int .i64 d.forward.length)),(10,.d (.int .i64 0))],[rD d 1]⟩=some (if ((List.range d.forward.length).all fun i=>decide (zdn d.forward d.forward.length i<0))=true then (.exit 8,⟨[],[]⟩) else (.ret,⟨[(2,.d (.int .i64 7))],[]⟩)):=by
 refine zc7 (G:=G) d.forward.length (fun i=>decide (zdn d.forward d.forward.length i<0)) (fun k=>⟨[(1,.ref 1 0 0),(3,.d (.int .i64 d.forward.length)),(10,.d (.int .i64 k))],[rD d 1]⟩) _ _ fun k hk L=> ?_
 by_cases h0:k<d.forward.length
 ·have hl:=zTK d k hF hv (0,k) ⟨by omega,by omega,by omega⟩;simp only[z0f,rD] at hl;simp only[zoq,rD,h0,if_true];generalize zdn d.forward d.forward.length k=z at *;clear hv;simp only[zNr,zp] at hl;exact zS
 ·clear hv;simp only[zoq,rD];exact zS
theorem zkx(d:zao)(hL:d.l.length<=4294967296):zd G 218 [.d (zat d)] []=some (.d (.int .i64 (zbl d)),[]):=by
 have l0:=fun n=>zTG d n hL (0,0) ⟨by omega,by omega,by omega⟩;simp only[zZq,rD,zZg] at l0;unfold zbl
 by_cases c1:d.version<1\/1099511627776<d.version\/d.forward.length<1\/6<d.forward.length
 ·rw[zYQ c1];clear l0;exact zW
 rw[zYP c1];have l1:=zTH d d.forward.length hL zo;have l2:=zTI d d.forward.length hL;have l3:=zTJ d hL zo;simp only[rD] at l1 l2 l3;replace l0:=l0 d.forward.length
 by_cases c2:zdj 0 d.l=some 65536
 ·rw[zYP (by simp [c2])];rw[c2] at l0;simp only at l0
  cases c3:d.l.any (zhO d.forward.length)
  ·rw[c3,zYP (by simp)] at l1;rw[zYP (by simp)]
   cases c4:(List.range d.l.length).all (zlo d.l)
   ·rw[c4,zYP (by simp)] at l2;rw[zYQ rfl];clear c2 c3 c4 l3;exact zW
   ·rw[c4,zYQ rfl] at l2;rw[zYP (by simp)];unfold zra
    cases c5:(List.range d.forward.length).all (ziD d)
    ·rw[c5,zYP (by simp)] at l3;rw[zZH,zYQ rfl];clear c2 c3 c4 c5;exact zW
    ·rw[c5,zYQ rfl] at l3;rw[z0b];have l5:=zTL d zo (by
      intro a ha;obtain⟨i,hi,e⟩:=z0C ha;have:=(zZi.1 c5) i (zZJ.2 hi);unfold ziD at this;rw[zg hi,e] at this;simp only[zZL,z0z,decide_eq_false_iff_not] at this;omega)
     simp only[rD] at l5
     cases c6:(List.range d.forward.length).all fun i=>decide (zdn d.forward d.forward.length i<0)
     ·rw[c6,zYP (by simp)] at l5;rw[zYQ rfl];clear c2 c3 c4 c5 c6;exact zW
     ·rw[c6,zYQ rfl] at l5;rw[zYP (by simp)];clear c2 c3 c4 c5 c6;exact zW
  ·rw[c3,zYQ rfl] at l1;rw[zYQ rfl];clear c2 c3 l2 l3;exact zW
 ·rw[zYQ c2]
  cases c3:zdj 0 d.l with
  | none=>
   rw[c3] at l0;simp only at l0;clear c2 c3 l1 l2 l3;exact zW
  | some m=>
   rw[c3] at l0;simp only at l0;have hm:¬m=65536:=fun e=>c2 (by rw[c3,e]);clear c2 c3 l1 l2 l3;exact zW
def inS(r:Int)(x:Span):Bool:=decide (x.low<=r)&&decide (r<=x.high)
def zew(d:zao)(r:Int):Int:=if zbl d=0 then (match d.l.findIdx? (inS r) with|some i=>(d.l.getD i zeJ).shard|none=> -1) else -1
theorem zTE(d:zao)(r:Int)(hL:d.l.length<=4294967296)(hv:zbl d=0):zP G [] zlT ⟨[(1,.d (.int .i64 r)),(2,.ref 2 0 0),(5,.d (.int .i64 0))],[rD d 2]⟩=some (zgn d.l.length (atB d.l (inS r)) (fun k=>(.ret,⟨[(4,.d (.int .i64 (d.l.getD k zeJ).shard))],[]⟩)) (.exit 0,⟨[],[]⟩)):=by
 have hval:=zkx d hL;rw[hv] at hval;refine zg4 (G:=G) d.l.length (atB d.l (inS r)) (fun k=>⟨[(1,.d (.int .i64 r)),(2,.ref 2 0 0),(5,.d (.int .i64 k))],[rD d 2]⟩) _ _ fun k hk L=> ?_;clear hv;simp only[zlT,rD]
 by_cases h0:k<d.l.length
 ·simp only[h0,if_true,zeO h0];unfold inS;exact zS
 ·exact zS
theorem zDh(d:zao)(r:Int)(hL:d.l.length<=4294967296):zd G 207 [.d (zat d),.d (.int .i64 r)] []=some (.d (.int .i64 (zew d r)),[]):=by
 unfold zew
 by_cases c:zbl d=0
 ·have hl:=zTE d r hL c;rw[ziB] at hl;rw[zYQ c];simp only[rD] at hl
  cases h:d.l.findIdx? (inS r) with
  | none=>rw[h] at hl;clear h c;exact zW
  | some i=>rw[h] at hl;clear h c;exact zW
 ·rw[zYP c];have hval:=zkx d hL
  by_cases h0:0<d.l.length
  ·have zk0:= @zaC;have zk1:=zlT.eq_1;exact zW
  ·have zk0:= @zaC;have zk1:=zlT.eq_1;exact zW
theorem zTF(d:zao)(j:Int)(hL:d.l.length<=4294967296):zd G 160 [.d (zat d),.d (.int .i64 j)] []=some (.d (.tup [zbW (zkO d j).1,.bool (zkO d j).2]),[]):=by
 have hval:=zkx d hL;have hi:=zkw d j hL;have hb:=znU d.l (fun x=>decide (x.shard=j));change -1<=zaR d.l j/\zaR d.l j<d.l.length at hb;unfold zkO
 by_cases c:zbl d=0/\0<=zaR d.l j
 ·obtain⟨c1,c2⟩:=c;rw[c1] at hval;rw[zYQ ⟨c1,c2⟩];clear c1;exact zW
 ·rw[zYP c]
  by_cases c1:zbl d=0
  ·have c2:¬0<=zaR d.l j:=fun h=>c ⟨c1,h⟩;rw[c1] at hval;clear c c1;exact zW
  ·clear c;exact zW
def zgr(d:zao):Nat->Int->Int
 | 0,a=>a
 | m+1,a=>if 0<=a/\zaR d.l a<0 then zgr d m (d.forward.getD a.toNat 0) else a
def zjS(d:zao)(a:Int):Int:=if zbl d≠0\/a<0\/(d.forward.length:Int)<=a then -1 else zgr d d.forward.length a
theorem zAQ{d:zao}(h:zbl d=0):d.forward.length<=6/\d.l.length<=4294967296->(∀a∈d.forward, -1<=a/\a<d.forward.length)/\∀i:Nat,i<d.forward.length->zdn d.forward d.forward.length i<0:=by
 intro _;unfold zbl at h
 split at h
 ·cases h
 split at h
 ·cases h
 split at h
 ·cases h
 split at h
 ·cases h
 split at h
 ·cases h
 rename_i h5;simp only[z1W] at h5;unfold zra at h5;rw[zY6] at h5;refine⟨fun a ha=> ?_,fun i hi=>by simpa using (zZi.1 h5.2) i (zZJ.2 hi)⟩;obtain⟨i,hi,e⟩:=z0C ha;have:=(zZi.1 h5.1) i (zZJ.2 hi);unfold ziD at this;rw[zg hi,e] at this;simp only[zZL,z0z,decide_eq_false_iff_not] at this;omega
theorem ziu{d:zao}(h:zbl d=0):1<=d.forward.length/\d.forward.length<=6/\1<=d.version/\d.version<=1099511627776:=by
 unfold zbl at h
 split at h
 ·cases h
 ·omega
theorem zTC(d:zao)(hL:d.l.length<=4294967296)(hv:∀a∈d.forward, -1<=a/\a<d.forward.length)(hF:d.forward.length<=6):∀p:Nat×Int,zdn d.forward p.1 p.2<0/\ -1<=p.2/\p.2<d.forward.length->zP G [18] zrY ⟨[(1,.d (.int .i64 p.2)),(2,.ref 2 0 0)],[rD d 2]⟩=some (.exit 0,⟨[(1,.d (.int .i64 (zgr d p.1 p.2)))],[]⟩):=by
 refine zaq (fun p:Nat×Int=>p.1) _ (fun p:Nat×Int=>⟨[(1,.d (.int .i64 p.2)),(2,.ref 2 0 0)],[rD d 2]⟩) _ fun⟨m,a⟩ ⟨hc,h1,h2⟩ L ih=> ?_;simp only[rD] at ih hc h1 h2 ⊢;simp only[zrY];have hi:=zkw d a hL
 by_cases c:0<=a/\zaR d.l a<0
 ·obtain⟨c1,c2⟩:=c
  rcases m with _|m
  ·simp only[zdn] at hc;omega
  have hlt:a.toNat<d.forward.length:=by omega
  have hm:=hv (d.forward[a.toNat]) (zY4 _);rw[zdn,zYQ c1,zg hlt] at hc;have i1:=ih (m,d.forward[a.toNat]) ⟨hc,hm.1,hm.2⟩ (by simp only;omega);rw[zgr,zYQ ⟨c1,c2⟩,zg hlt];simp only at i1;generalize zgr d m d.forward[a.toNat]=z at *;clear ih hv hc;exact zS
 ·have e:zgr d m a=a:=by
     rcases m with _|m
     ·rfl
     ·rw[zgr,zYP c]
  rw[e];clear ih hv hc e
  by_cases c1:0<=a
  ·have c2:¬zaR d.l a<0:=fun h=>c ⟨c1,h⟩;clear c;exact zS
  ·clear c;exact zS
theorem zTD(d:zao)(a:Int)(hL:d.l.length<=4294967296):zd G 216 [.d (zat d),.d (.int .i64 a)] []=some (.d (.int .i64 (zjS d a)),[]):=by
 have hval:=zkx d hL;unfold zjS
 by_cases c0:zbl d=0
 ·have hl:=ziu c0;have hv:=zAQ c0 ⟨hl.2.1,hL⟩;rw[c0] at hval
  by_cases c:a<0\/(d.forward.length:Int)<=a
  ·rw[zYQ (.inr c)];clear hv c0;exact zW
  ·rw[zYP (by rw[c0];simp;omega)];have hc:=hv.2 a.toNat zo;rw[show ((a.toNat:Nat):Int)=a by omega] at hc;have hlp:=zTC d hL hv.1 hl.2.1 (d.forward.length,a) ⟨hc,by simp only;omega,by simp only;omega⟩;simp only[rD] at hlp;clear hv c0 hc;exact zW
 ·rw[zYQ (.inl c0)];exact zW
theorem zmR{k n:Nat}(h:k<n)(hn:n<=LIM):IntKind.i64.wrap ((k:Int)+1)=((k+1:Nat):Int):=by
 unfold LIM at hn;rw[Go.IntWalk.i64_in _ zo];simp
theorem zPC(n:Int):zd G 323 [.d (.int .i64 n)] []=some (.d (.bool false),[]):=by
 rw[zB zOy (by simp)];simp -implicitDefEqProofs only[zp8,go_sem]
def zgk(a b:Int):Int:=if a<b then -1 else if b<a then 1 else 0
theorem zGQ(a b:Int):zd G 312 [.d (.int .i64 a),.d (.int .i64 b)] []=some (.d (.int .i64 (zgk a b)),[]):=by
 rw[zB zOw (by simp)];simp -implicitDefEqProofs only[zp6,go_sem];simp -implicitDefEqProofs only[zPC,zgk,go_sem]
 repeat' split
 all_goals simp_all
def zgV:List Int->Int
 | []=>0
 | x::l=>if x=0 then zgV l else x
def orR(l:List Int)(k:Nat):zR×St:=
 if zgV (l.drop k)=0 then (.exit 0,⟨[(3,.d (.int .i64 0))],[]⟩)
 else (.ret,⟨[(2,.d (.int .i64 (zgV (l.drop k))))],[]⟩)
theorem zSz(l:List Int)(hL:l.length<=LIM):∀k,k<=l.length->zP G [] zrF ⟨[(3,.d (.int .i64 0)),(6,.d (.sl (l.map (.int .i64)))),(7,.d (.int .i64 l.length)),(8,.d (.int .i64 k))],[]⟩=some (orR l k):=by
 refine zaq (fun k=>l.length - k) (fun k=>k<=l.length) _ _ fun k hk L ih=> ?_;simp only[zrF]
 by_cases hlt:k<l.length
 ·have i1:=ih (k+1) zo zo;unfold orR at i1 ⊢;rw[zZr hlt,zgV];clear ih;have hL2:l.length<=4294967296:=hL;simp only[zNr,zp] at i1;generalize zgV (l.drop (k+1))=z at *
  by_cases h:l[k]=0
  ·by_cases hz:z=0
   ·rw[zYQ hz] at i1;rw[zYQ (by rw[zYQ h];exact hz)];simp -implicitDefEqProofs (maxSteps:=4000000) (disch:=omega) only[zg,go_sem, *]
   ·rw[zYP hz] at i1;rw[zYP (by rw[zYQ h];exact hz),zYQ h];simp -implicitDefEqProofs (maxSteps:=4000000) (disch:=omega) only[zg,go_sem, *]
  ·rw[zYP (by rw[zYP h];exact h),zYP h];simp -implicitDefEqProofs (maxSteps:=4000000) (disch:=omega) only[zg,go_sem, *]
 ·have:k=l.length:=by omega
  subst this;clear ih;simp only[orR,zZA,zgV,if_true];simp -implicitDefEqProofs (maxSteps:=4000000) (disch:=omega) only[zg,go_sem, *]
theorem zSA(l:List Int)(hL:l.length<=LIM):zd G 311 [.d (.sl (l.map (.int .i64)))] []=some (.d (.int .i64 (zgV l)),[]):=by
 rw[zB zOx (by simp)];simp -implicitDefEqProofs only[zp7,go_sem]
 try rw[zY3]
 have:=zSz l hL 0 zo;simp only[zZg] at this;rw[this];unfold orR;simp only[zZq]
 by_cases h:zgV l=0<;>simp -implicitDefEqProofs only[h,go_sem]
def znl(a b:Due):Int:=if zgk a.1 b.1=0 then zgk a.2 b.2 else zgk a.1 b.1
def lt(a b:Due):Bool:=decide (znl a b<0)
theorem zH4(a b:Due):zd G 290 [.d (eD a),.d (eD b)] []=some (.d (.int .i64 (znl a b)),[]):=by
 have h:=zSA [zgk a.1 b.1,zgk a.2 b.2] (by simp [LIM]);simp only[zYU,zYS] at h;rw[zB zOC (by simp)];simp -implicitDefEqProofs only[zqc,go_sem];simp -implicitDefEqProofs only[eD,zGQ,h,go_sem];simp only[zgV,znl]
 by_cases h1:zgk a.1 b.1=0<;>by_cases h2:zgk a.2 b.2=0<;>simp [h1,h2]
theorem zF0(h:List Due)(i j:Nat)(hi:i<h.length)(hj:j<h.length):zd G 258 [.d (.sl (h.map eD)),.d (.int .i64 i),.d (.int .i64 j)] []=some (.d (.bool (lt h[i] h[j])),[]):=by
 rw[zB zOB (by simp)];simp -implicitDefEqProofs only[zqb,go_sem];simp -implicitDefEqProofs only[show (0:Int)<=(i:Int) by omega,show (0:Int)<=(j:Int) by omega,zZz,zZa,zY1 hi,zY1 hj,zeU,zfd,zH4,go_sem];rfl
def zcy(d:Due):Bool:=decide (0<=d.1)&&(decide (d.1<=1073741824)&&(decide (1<=d.2)&&decide (d.2<=1073741824)))
theorem zYm(d:Due):zd G 256 [.d (eD d)] []=some (.d (.bool (zcy d)),[]):=by
 simp only[eD];rw[zB zOF (by simp)];simp -implicitDefEqProofs only[zqf,go_sem];rfl
theorem zJQ(d:Due)(j:Int):zd G 289 [.d (eD d),.d (.pd (.int .i64 j))] []=some (.d (.bool (decide (d.2=j))),[]):=by
 simp only[eD];rw[zB zOE (by simp)];simp -implicitDefEqProofs only[zqe,go_sem]
theorem zPs{α β:Type}(p:β->Bool)(f:α->β)(es:List α):zbf p (es.map f)=zbf (fun x=>p (f x)) es:=by
 unfold zbf;rw[List.findIdx?_map];rfl
def znV(es:List D)(g:Nat)(cs:List D)(p:D->Bool)(k:Nat):zR×St:=match (es.drop k).findIdx? p with|some i=>(.ret,⟨[(4,.d (.int .i64 ((k+i:Nat):Int)))],[]⟩)|none=>(.exit 0,⟨[],[]⟩)
theorem zPt(es:List D)(g:Nat)(cs:List D)(p:D->Bool)(hL:es.length<=LIM)(hs:∀e∈es,e.size=2)(hp:∀e∈es,zd G g (.d e.asAgg::cs.map .d) []=some (.d (.bool (p e)),[])):∀k,k<=es.length->
    zP G [] zsc ⟨[(0,.d (.sl es)),(1,.d (.fn g cs)),(7,.d (.int .i64 es.length)),(8,.d (.int .i64 k))],[]⟩=some (znV es g cs p k):=by
 refine zaq (fun k=>es.length - k) (fun k=>k<=es.length) _ _ fun k hk L ih=> ?_;simp only[zsc]
 by_cases hlt:k<es.length
 ·have h1:=hp es[k] (by simp);have h2:=hs es[k] (by simp);have i1:=ih (k+1) zo zo;have hL2:es.length<=4294967296:=hL;have h3:es[k]? = some es[k]:=zY1 hlt;unfold znV at i1 ⊢;rw[zZr hlt,z1U];clear ih hp hs
  cases hpe:p es[k] with
  | true=>
   rw[hpe] at h1;simp only[if_true];clear i1;simp -implicitDefEqProofs (maxSteps:=4000000) (disch:=omega) only[zg,go_sem, *]
  | false=>
   rw[hpe] at h1
   cases hf:(es.drop (k+1)).findIdx? p with
   | none=>
    rw[hf] at i1;simp only[zNr,zp] at i1;simp only[z1G,if_false,zYX];simp -implicitDefEqProofs (maxSteps:=4000000) (disch:=omega) only[zg,go_sem, *]
   | some i=>
    rw[hf] at i1;simp only[zNr,zp] at i1;simp only[zZv,if_false,zYX];rw[show ((k+(i+1):Nat):Int)=(k:Int)+1+i by omega];simp -implicitDefEqProofs (maxSteps:=4000000) (disch:=omega) only[zg,go_sem, *]
 ·have:k=es.length:=by omega
  subst this;clear ih;simp only[znV,zZA,List.findIdx?_nil];simp -implicitDefEqProofs (maxSteps:=4000000) (disch:=omega) only[zg,go_sem, *]
theorem zBE(es:List D)(g:Nat)(cs:List D)(p:D->Bool)(hL:es.length<=LIM)(hs:∀e∈es,e.size=2)(hp:∀e∈es,zd G g (.d e.asAgg::cs.map .d) []=some (.d (.bool (p e)),[])):zd G 288 [.d (.sl es),.d (.fn g cs)] []=some (.d (.int .i64 (zbf p es)),[]):=by
 rw[zB zOT (by simp)];simp -implicitDefEqProofs only[zqv,go_sem];have:=zPt es g cs p hL hs hp 0 zo;simp only[zZg] at this;rw[this];unfold znV zbf;simp only[zZq,zZj]
 cases es.findIdx? p<;>simp -implicitDefEqProofs only[go_sem]
theorem zGZ(es:List D)(g:Nat)(cs:List D)(p:D->Bool)(hL:es.length<=LIM)(hs:∀e∈es,e.size=2)(hp:∀e∈es,zd G g (.d e.asAgg::cs.map .d) []=some (.d (.bool (p e)),[])):zd G 254 [.d (.sl es),.d (.fn g cs)] []=some (.d (.bool (es.any p)),[]):=by
 rw[zB zOS (by simp)];simp -implicitDefEqProofs only[zqu,go_sem];simp -implicitDefEqProofs only[zBE es g cs p hL hs hp,go_sem];unfold zbf
 cases h:es.findIdx? p with
 | none=>simp at h;simpa using h
 | some i=>
  have:=zZV.1 h;simp;exact⟨_,zY4 this.1,this.2.1⟩
def zVZ(j:Int):D->Bool
 | .agg [_,.int _ n]=>decide (n=j)
 | _=>false
def zba(h:List Due)(j:Int):Int:=zbf (fun d=>decide (d.2=j)) h
theorem zJY(h:List Due)(j:Int)(hL:h.length<=LIM):zd G 257 [.d (.sl (h.map eD)),.d (.int .i64 j)] []=some (.d (.int .i64 (zba h j)),[]):=by
 have hk:=zBE (h.map eD) 289 [.pd (.int .i64 j)] (zVZ j) (by simpa using hL) (fun e he=>by obtain⟨d,_,rfl⟩:=zY0.1 he;rfl) (fun e he=>by
  obtain⟨d,_,rfl⟩:=zY0.1 he;exact zJQ d j)
 rw[zPs] at hk;rw[zB zOD (by simp)];simp -implicitDefEqProofs only[zqd,go_sem];simp -implicitDefEqProofs only[hk,go_sem];rfl
theorem zE5(d:Due):zd G 255 [.d (eD d)] []=some (.d (.bool (!zcy d)),[]):=by
 have h:=zYm d;simp only[eD] at h ⊢;rw[zB zOA (by simp)];simp -implicitDefEqProofs only[zqa,go_sem];simp -implicitDefEqProofs only[h,go_sem]
def zBL:D->Bool
 | .agg [.int _ t,.int _ i]=> !zcy (t,i)
 | _=>false
def zeT(h:List Due)(i:Nat):Bool:=decide (zba h (h.getD i (0,0)).2≠i)
def zfo(h:List Due)(i:Nat):Bool:=lt (h.getD i (0,0)) (h.getD ((i - 1) / 2) (0,0))
def zb0(h:List Due):Int:=if 12<h.length then 2 else if h.any (fun d=> !zcy d) then 1 else if (List.range' 0 h.length).any (zeT h) then 10 else if (List.range' 1 (h.length - 1)).any (zfo h) then 11 else 0
def zpB(h:List Due)(k:Nat):zR×St:=
 if (List.range' k (h.length - k)).any (zeT h) then (.ret,⟨[(2,.d (.int .i64 10))],[]⟩)
 else (.exit 0,⟨[(0,.d (.sl (h.map eD)))],[]⟩)
theorem zYj(h:List Due)(hL:h.length<=12):∀k,k<=h.length->zP G [] zrG ⟨[(0,.d (.sl (h.map eD))),(11,.d (.sl (h.map eD))),(12,.d (.int .i64 h.length)),(13,.d (.int .i64 k))],[]⟩=some (zpB h k):=by
 refine zaq (fun k=>h.length - k) (fun k=>k<=h.length) _ _ fun k hk L ih=> ?_;simp only[zrG]
 by_cases hlt:k<h.length
 ·have hf:=zJY h h[k].2 (by simp [LIM];omega);have i1:=ih (k+1) zo zo;unfold zpB at i1 ⊢;rw[show h.length - k=(h.length - (k+1))+1 by omega,z0c,z0l];have hd:zeT h k= !decide (zba h h[k].2=k):=by simp [zeT,hlt]
  rw[hd];clear ih hd;simp only[zNr,zp] at i1;generalize (List.range' (k+1) (h.length - (k+1))).any (zeT h)=z at *
  by_cases hc:zba h h[k].2=k
  ·rw[zZe hc];rw[hc] at hf;simp only[z1l,zZY]
   cases z
   ·simp only[if_false,zYX] at i1 ⊢;simp -implicitDefEqProofs (maxSteps:=4000000) (disch:=omega) only[zg,go_sem, *]
   ·simp only[if_true] at i1 ⊢;simp -implicitDefEqProofs (maxSteps:=4000000) (disch:=omega) only[zg,go_sem, *]
  ·rw[zZc hc];simp only[z1m,z0t,if_true];clear i1;simp -implicitDefEqProofs (maxSteps:=4000000) (disch:=omega) only[zg,go_sem, *]
 ·have:k=h.length:=by omega
  subst this;clear ih;simp only[zpB,z05,List.range'_zero,z1n,if_false,zYX];simp -implicitDefEqProofs (maxSteps:=4000000) (disch:=omega) only[zg,go_sem, *]
def zpC(h:List Due)(k:Nat):zR×St:=
 if (List.range' k (h.length - k)).any (zfo h) then (.ret,⟨[(2,.d (.int .i64 11))],[]⟩)
 else (.exit 2,⟨[],[]⟩)
theorem zYl(h:List Due)(hL:h.length<=12):∀k:Nat,1<=k->zP G [] zrH ⟨[(0,.d (.sl (h.map eD))),(5,.d (.int .i64 k))],[]⟩=some (zpC h k):=by
 refine zaq (fun k=>h.length - k) (fun k=>1<=k) _ _ fun k hk L ih=> ?_;simp -implicitDefEqProofs only[zrH,zY3,go_sem]
 by_cases hlt:k<h.length
 ·have hb:=zF0 h k ((k - 1) / 2) hlt zo;have hq:IntKind.i64.wrap (((k:Int) - 1).tdiv 2)=(((k - 1) / 2:Nat):Int):=by
   rw[zpE (by rw[zZ9 zo];omega) (by rw[zZ9 zo];omega),zZ9 zo];omega
  simp -implicitDefEqProofs only[show ((k:Int)<(h.length:Int)) by omega,zpE (show -4294967296<=(k:Int) - 1 by omega) zo,hq,hb,zmR hlt (show h.length<=LIM by simp [LIM];omega),show ¬((2:Int)=0) by decide,go_sem];have i1:=ih (k+1) zo zo;simp only[zZR,zZP] at i1;rw[i1];unfold zpC;rw[show h.length - k=(h.length - (k+1))+1 by omega,z0c,z0l];have hd:zfo h k=lt h[k] h[(k - 1) / 2]:=by simp [zfo,hlt,show (k - 1) / 2<h.length by omega]
  rw[hd]
  cases lt h[k] h[(k - 1) / 2]
  ·simp -implicitDefEqProofs only[go_sem]
  ·simp -implicitDefEqProofs only[go_sem]
 ·simp -implicitDefEqProofs only[show ¬((k:Int)<(h.length:Int)) by omega,go_sem];simp [zpC,show h.length - k=0 by omega]
theorem zYn(h:List Due)(hL:h.length<=LIM):zd G 192 [.d (.sl (h.map eD))] []=some (.d (.int .i64 (zb0 h)),[]):=by
 have h1:=zGZ (h.map eD) 255 [] zBL (by simpa using hL) (fun e he=>by obtain⟨d,_,rfl⟩:=zY0.1 he;rfl) (fun e he=>by
  obtain⟨d,_,rfl⟩:=zY0.1 he;exact zE5 d)
 have h2:(h.map eD).any zBL=h.any (fun d=> !zcy d):=by rw[List.any_map];rfl
 rw[h2] at h1;rw[zB zOz (by simp)];simp -implicitDefEqProofs only[zp9,go_sem];simp -implicitDefEqProofs only[h1,zY3,go_sem];unfold zb0
 by_cases h12:12<h.length
 ·simp -implicitDefEqProofs only[h12,show (12<(h.length:Int)) by omega,go_sem]
 ·have e0:=zYj h zo 0 zo;have e1:=zYl h zo 1 zo;simp only[zZg] at e0;simp only[zZP] at e1
  cases hA:h.any (fun d=> !zcy d)
  ·simp -implicitDefEqProofs only[hA,h12,show ¬(12<(h.length:Int)) by omega,e0,zpB,z0f,go_sem]
   cases hB:(List.range' 0 h.length).any (zeT h)
   ·simp -implicitDefEqProofs only[hB,e1,zpC,go_sem]
    cases hC:(List.range' 1 (h.length - 1)).any (zfo h)<;>simp -implicitDefEqProofs only[hC,go_sem]
   ·simp -implicitDefEqProofs only[hB,go_sem]
  ·simp -implicitDefEqProofs only[hA,h12,show ¬(12<(h.length:Int)) by omega,go_sem]
def swp(l:List Due)(i j:Nat):List Due:=(l.set i (l.getD j (0,0))).set j (l.getD i (0,0))
theorem zcW(l:List Due)(i j:Nat):(swp l i j).length=l.length:=by simp [swp]
def upL(l:List Due)(i:Nat):List Due×Nat:=
 if 0<i then
  if lt (l.getD i (0,0)) (l.getD ((i - 1) / 2) (0,0)) then upL (swp l i ((i - 1) / 2)) ((i - 1) / 2) else (l,i)
 else (l,i)
termination_by i
decreasing_by omega
theorem zYh(l:List Due)(i:Nat):(upL l i).1.length=l.length:=by
 fun_induction upL l i with
 | case1 l i h0 h1 ih=>rw[ih,zcW]
 | case2=>rfl
 | case3=>rfl
def zbr(l:List Due)(i:Nat):List Due:=
 if _h:2 * i+1<l.length then
  let k:=if 2 * i+1+1<l.length/\lt (l.getD (2 * i+1+1) (0,0)) (l.getD (2 * i+1) (0,0)) then 2 * i+1+1 else 2 * i+1
  if lt (l.getD k (0,0)) (l.getD i (0,0)) then zbr (swp l i k) k else l
 else l
termination_by l.length - i
decreasing_by simp only[zcW];split<;>omega
def zfq(h:List Due)(d:Due):List Due:=(upL (h++[d]) h.length).1
def zmg(h:List Due)(d:Due):Int:=if zb0 h≠0 then zb0 h else if zcy d=false then 1 else if h.length=12 then 3 else if 0<=zba h d.2 then 10 else 0
def zfp(h:List Due)(d:Due):List Due×Int:=(if zmg h d=0 then zfq h d else [],zmg h d)
def eDE(r:List Due×Int):D:= .tup [.sl (r.1.map eD),.int .i64 r.2]
theorem ztS{h:List Due}(h0:zb0 h=0):h.length<=12:=by
 unfold zb0 at h0
 split at h0
 ·cases h0
 ·omega
def zdK(h:List Due)(i:Nat):List Due:=
 if i=h.length - 1 then h.take (h.length - 1) else
 let l:=(h.take (h.length - 1)).set i (h.getD (h.length - 1) (0,0))
 if (upL l i).2=i then zbr (upL l i).1 i else (upL l i).1
def zca(h:List Due)(id:Int):List Due×Int:=
 if zb0 h≠0 then ([],zb0 h) else if zba h id<0 then ([],4) else (zdK h (zba h id).toNat,0)
theorem zJX(h:List Due)(id:Int):zba h id<h.length:=by
 unfold zba zbf
 cases e:List.findIdx? (fun d:Due=>decide (d.2=id)) h with
 | none=>simp only;omega
 | some i=>have:=(zZV.1 e).1;simp only;omega
abbrev dz:Due:=(0,0)
theorem zsp(a b:Due):lt a b=true↔a.1<b.1\/(a.1=b.1/\a.2<b.2):=by
 unfold lt znl zgk;rw[decide_eq_true_iff]
 repeat' split
 all_goals omega
theorem zg5(a b:Due):lt a b=false↔b.1<a.1\/(b.1=a.1/\b.2<=a.2):=by
 rw[<- z0g,zsp];omega
theorem ziR{a b:Due}(h:lt a b=true):lt b a=false:=by rw[zsp] at h;rw[zg5];omega
theorem ziM{a b c:Due}(h1:lt b a=false)(h2:lt c b=false):lt c a=false:=by rw[zg5] at *; omega
def zie(l:List Due):Prop:=∀k,1<=k->k<l.length->lt (l.getD k dz) (l.getD ((k - 1) / 2) dz)=false
theorem ztv(l:List Due)(i j k:Nat)(hi:i<l.length)(hj:j<l.length):(swp l i j).getD k dz=if k=j then l.getD i dz else if k=i then l.getD j dz else l.getD k dz:=by
 unfold swp;simp only[zZw,z0O,zZu]
 by_cases h1:j=k
 ·subst h1;simp [hj]
 ·rw[zYP h1,zYP (Ne.symm h1)]
  by_cases h2:i=k
  ·subst h2;simp [hi]
  ·rw[zYP h2,zYP (Ne.symm h2)]
theorem ztw(l:List Due)(i j:Nat)(hi:i<l.length)(hj:j<l.length):(swp l i j).Perm l:=by
 unfold swp;have:=List.set_set_perm hi hj;simpa [hi,hj] using this
theorem zEH(l:List Due)(i:Nat)(hi:i<l.length):(upL l i).1.Perm l:=by
 fun_induction upL l i with
 | case1 l i h0 h1 ih=>exact (ih (by rw[zcW];omega)).trans (ztw l _ _ hi zo)
 | case2=>exact .refl _
 | case3=>exact .refl _
theorem zEE (l:List Due) (i:Nat) (hi:i<l.length) (h1:∀k,1<=k->k<l.length->k≠i->lt (l.getD k dz) (l.getD ((k - 1) / 2) dz)=false)
    (h2:∀k,1<=k->k<l.length->(k - 1) / 2=i->1<=i->lt (l.getD k dz) (l.getD ((i - 1) / 2) dz)=false):zie (upL l i).1:=by
 fun_induction upL l i with
 | case1 l i h0 hlt ih=>
  have hp:(i - 1) / 2<l.length:=by omega
  have e:=fun k=>ztv l i ((i - 1) / 2) k hi hp;refine ih (by rw[zcW];omega) (fun k ha hb hc=> ?_) (fun k ha hb hc hd=> ?_)
  ·rw[zcW] at hb;rw[e,e]
   by_cases hk:k=i
   ·subst hk;rw[zYP zo,zYQ rfl,zYQ rfl];exact ziR hlt
   ·rw[zYP hc,zYP hk]
    by_cases hq:(k - 1) / 2=(i - 1) / 2
    ·rw[zYQ hq];have:=h1 k ha hb hk;rw[hq] at this;exact ziM (ziR hlt) this
    ·rw[zYP hq]
     by_cases hr:(k - 1) / 2=i
     ·rw[zYQ hr];exact h2 k ha hb hr zo
     ·rw[zYP hr];exact h1 k ha hb hk
  ·rw[zcW] at hb;rw[e,e,zYP (show k≠(i - 1) / 2 by omega),zYP (show ((i - 1) / 2 - 1) / 2≠(i - 1) / 2 by omega),zYP (show ((i - 1) / 2 - 1) / 2≠i by omega)];have hpp:=h1 ((i - 1) / 2) hd hp zo
   by_cases hk:k=i
   ·rw[zYQ hk];exact hpp
   ·rw[zYP hk];have:=h1 k ha hb hk;rw[hc] at this;exact ziM hpp this
 | case2 l i h0 hlt=>
  intro k ha hb
  by_cases hk:k=i
  ·subst hk;simpa using hlt
  ·exact h1 k ha hb hk
 | case3 l i h0=>
  intro k ha hb;exact h1 k ha hb zo
theorem zHV(l:List Due)(i:Nat)(hi:i<l.length):(zbr l i).Perm l:=by
 fun_induction zbr l i with
 | case1 l i h k h1 ih=>
  have hk:k<l.length:=by simp only[k];split<;>omega
  exact (ih (by rw[zcW];exact hk)).trans (ztw l _ _ hi hk)
 | case2=>exact .refl _
 | case3=>exact .refl _
theorem zHU (l:List Due) (i:Nat) (hi:i<l.length) (h1:∀k,1<=k->k<l.length->(k - 1) / 2≠i->lt (l.getD k dz) (l.getD ((k - 1) / 2) dz)=false)
    (h2:∀k,1<=k->k<l.length->(k - 1) / 2=i->1<=i->lt (l.getD k dz) (l.getD ((i - 1) / 2) dz)=false):zie (zbr l i):=by
 fun_induction zbr l i with
 | case1 l i h k hlt ih=>
  have hk:k<l.length/\i<k/\(k - 1) / 2=i/\∀q,1<=q->q<l.length->(q - 1) / 2=i->lt (l.getD q dz) (l.getD k dz)=false:=by
   simp only[k]
   split
   ·rename_i hc;refine⟨by omega,by omega,by omega,fun q ha hb hq=> ?_⟩;have:q=2 * i+1\/q=2 * i+1+1:=by omega
    rcases this with rfl|rfl
    ·exact ziR hc.2
    ·rw[zg5];omega
   ·rename_i hc;refine⟨by omega,by omega,by omega,fun q ha hb hq=> ?_⟩;have:q=2 * i+1\/q=2 * i+1+1:=by omega
    rcases this with rfl|rfl
    ·rw[zg5];omega
    ·simp only[hb,zZZ,z0g] at hc;exact hc
  obtain⟨hk1,hk2,hk3,hk4⟩:=hk
  clear_value k
  have e:=fun q=>ztv l i k q hi hk1;refine ih (by rw[zcW];exact hk1) (fun q ha hb hc=> ?_) (fun q ha hb hc hd=> ?_)
  ·rw[zcW] at hb;rw[e,e]
   by_cases hq:q=k
   ·subst hq;rw[zYQ rfl,hk3,zYP zo,zYQ rfl];exact ziR hlt
   ·rw[zYP hq,zYP hc]
    by_cases hr:q=i
    ·subst hr;rw[zYQ rfl,zYP zo];exact h2 k zo hk1 hk3 ha
    ·rw[zYP hr]
     by_cases hs:(q - 1) / 2=i
     ·rw[zYQ hs];exact hk4 q ha hb hs
     ·rw[zYP hs];exact h1 q ha hb hs
  ·rw[zcW] at hb;rw[e,e,zYP (show q≠k by omega),zYP (show q≠i by omega),hk3,zYP zo,zYQ rfl];have:=h1 q ha hb zo;rw[hc] at this;exact this
 | case2 l i h k hlt=>
  intro q ha hb
  by_cases hq:(q - 1) / 2=i
  ·have hlt:lt (l.getD k dz) (l.getD i dz)=false:=by simpa using hlt
   rw[hq];refine ziM hlt ?_;simp only[k];have:q=2 * i+1\/q=2 * i+1+1:=by omega
   split
   ·rename_i hc
    rcases this with rfl|rfl
    ·exact ziR hc.2
    ·rw[zg5];omega
   ·rename_i hc
    rcases this with rfl|rfl
    ·rw[zg5];omega
    ·simp only[hb,zZZ,z0g] at hc;exact hc
  ·exact h1 q ha hb hq
 | case3 l i h=>
  intro q ha hb;exact h1 q ha hb zo
end Go.Proofs.YtjalkkalhdnplaaGreat
