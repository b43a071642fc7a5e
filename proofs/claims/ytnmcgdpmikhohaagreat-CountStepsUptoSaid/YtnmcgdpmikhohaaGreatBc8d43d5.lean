/-
  Heaps of deadlines, in plain terms.
-/
import Derived.Test.YtnmcgdpmikhohaaGreatBf83af25
import Derived.KernelRfl
import Derived.Test.YtnmcgdpmikhohaaGreatB7f1db76
import Derived.IntWalk
set_option linter.unusedSimpArgs false
set_option linter.unusedVariables false
set_option maxHeartbeats 10000000
set_option maxRecDepth 100000
namespace Go.Proofs.YtnmcgdpmikhohaaGreat
open Go Go.Sim
def tab:List (Nat×AFn):=[(zll,zvx),(zlm,zvH),(zn1,zvG),(znY,zvD),(znW,zvB),(znZ,zvE),(zn0,zvF),(znV,zvA),(zio,zvz),(znX,zvC),(zjr,zvy),(zn2,zvI),(zlW,zyZ),(zlT,zyT),(zpu,zxv),(zpC,zxD),(zpd,zxd),(zoN,zwI),(zlw,zv8),(zoS,zwN),(zo1,zwZ),(zo5,zw3),(zfE,zyY),(zlU,zyU),(zlV,zyV),(zjE,zyX),(zlR,zyR),(zp7,zyb),(zjx,zyi),(zlH,zyd),(zpp,zxq),(zp6,zya),(zlF,zx5),(zp2,zx4),(zpn,zxo),(zlq,zvT),(zjs,zvP),(zoa,zvU),(zp0,zx2),(zp8,zye),(zpr,zxs),(zpe,zxe),(zpg,zxg),(zph,zxh),(zlI,zyg),(zpL,zxN),(zpI,zxJ),(zlG,zyc),(zpM,zxO),(zpV,zxX),(zpJ,zxK),(zpA,zxB),(zpG,zxH),(zpv,zxw),(zpD,zxE),(zpB,zxC),(zpQ,zxS),(zpU,zxW),(zpT,zxV),(zpt,zxu),(zpE,zxF),(zpi,zxi),(zpy,zxz),(zpF,zxG),(zpS,zxU),(zpq,zxr),(zps,zxt),(zpK,zxL),(zpW,zxY),(zpw,zxx),(zo9,zw7),(zpa,zw8),(zlu,zv3),(zoh,zv5),(zlr,zvW),(zpx,zxy),(zoY,zwU),(zok,zwc),(zlx,zwd),(zoC,zww),(zoq,zwj),(zou,zwo),(zot,zwn),(zor,zwk),(zoD,zwx),(zlz,zwA),(zlA,zwQ),(zlv,zv7),(zoP,zwK),(zpY,zx0),(zpR,zxT),(zpH,zxI),(zpP,zxR),(zpb,zxb),(zpo,zxp),(zpX,zxZ),(zpN,zxP),(zlD,zxj),(zoJ,zwE),(zoQ,zwL),(zlB,zwV),(zlC,zwY),(zls,zvY),(zof,zv2),(zqb,zyj),(zpO,zxQ),(zoT,zwO),(zjw,zx9),(zlE,zxM),(zqa,zyh),(zoV,zwR),(zpZ,zx1),(zp1,zx3),(zlp,zvS),(zoc,zvX),(zoU,zwP),(zjt,zv9),(zol,zwe),(zom,zwf),(zjy,zyl),(zqc,zyk),(zpc,zxc),(zpf,zxf),(zqd,zym),(zqf,zyo),(zoM,zwH),(zo2,zw0),(zoA,zwu),(zop,zwi),(zly,zwl),(zow,zwq),(zov,zwp),(zos,zwm),(zoy,zws),(zoB,zwv),(zoo,zwh),(zoW,zwS),(zo3,zw1),(zod,zvZ),(zob,zvV),(zoj,zwb),(zog,zv4),(zoz,zwt),(zon,zwg),(zqe,zyn),(ziq,zw9),(zn9,zvR),(zhq,zyp),(zjv,zxa),(zn7,zvO),(zn8,zvQ),(zqh,zyr),(zqg,zyq),(zqi,zys),(zoF,zwz),(zo0,zwX),(zoO,zwJ),(zoR,zwM),(zju,zwa),(zoH,zwC),(zox,zwr),(zlJ,zyt),(zjz,zyu),(zpj,zxk),(zpk,zxl),(zpl,zxm),(zpm,zxn),(zjA,zyv),(zqj,zyw),(zqk,zyx),(zo8,zw6),(zoe,zv1),(zlt,zv0),(zoE,zwy),(zlK,zyy),(zp9,zyf),(zlL,zyB),(zqn,zyC),(zql,zyz),(zoK,zwF),(zoi,zv6),(zqm,zyA),(zlM,zyD),(zlN,zyG),(zqq,zyH),(zqo,zyE),(zoL,zwG),(zoZ,zwW),(zqp,zyF),(zlO,zyI),(zlP,zyL),(zqt,zyM),(zqr,zyJ),(zoX,zwT),(zqs,zyK),(zjB,zyN),(zjC,zyO),(zo4,zw2),(zoI,zwD),(zlQ,zyP),(zjD,zyQ),(zo7,zw5),(zoG,zwB),(zo6,zw4),(zqu,zyW),(zpz,zxA),(zqv,zy0),(zlS,zyS),(zp3,zx6),(zp4,zx7),(zp5,zx8),(zae3,zafT),(zagT,zaht),(zae4,zafU),(zaeS,zafV),(znT,zvv),(zn4,zvK),(zqw,zy1),(zn3,zvJ),(zafk,zagd),(zafi,zagb),(zaeH,zaf5),(zafj,zagc),(zafh,zaga),(zafd,zaf6),(zaff,zaf8),(zafg,zaf9),(zafe,zaf7),(zafo,zagk),(zaeT,zage),(zafl,zagg),(zafm,zagh),(zaeI,zagf),(zaeU,zagj),(zafn,zagi),(zDn,zHG),(zDm,zHF),(zt1,zHK),(zDp,zHJ),(zafa,zaf2),(zafc,zaf4),(zaeG,zafW),(zae7,zafZ),(zae5,zafX),(zae6,zafY),(zae2,zafS),(zafs,zago),(zafp,zagl),(zafr,zagn),(zaeV,zagp),(zae8,zaf0),(zaft,zagq),(zafq,zagm),(zae9,zaf1),(zafu,zagr),(zafv,zags),(zafb,zaf3),(zafI,zahu), ]
def G:FuncId->Option AFn:=fun f=>Go.Sim.look f tab
theorem zHW:G zll=some zvx:=tk
theorem zH0:G zlm=some zvH:=tk
theorem zrA:G zn1=some zvG:=tk
theorem zWF:G znY=some zvD:=tk
theorem zHY:G znW=some zvB:=tk
theorem zHZ:G znZ=some zvE:=tk
theorem zWG:G zn0=some zvF:=tk
theorem zWD:G znV=some zvA:=tk
theorem ze8:G zio=some zvz:=tk
theorem zWE:G znX=some zvC:=tk
theorem zHX:G zjr=some zvy:=tk
theorem zy9:G zn2=some zvI:=tk
theorem zzJ:G zlW=some zyZ:=tk
theorem zIM:G zlT=some zyT:=tk
theorem zgS:G zpu=some zxv:=tk
theorem zW7:G zpC=some zxD:=tk
theorem zW0:G zpd=some zxd:=tk
theorem zIe:G zoN=some zwI:=tk
theorem zH7:G zlw=some zv8:=tk
theorem zzr:G zoS=some zwN:=tk
theorem zIi:G zo1=some zwZ:=tk
theorem zIj:G zo5=some zw3:=tk
theorem zfa:G zfE=some zyY:=tk
theorem zIN:G zlU=some zyU:=tk
theorem zmq:G zlV=some zyV:=tk
theorem zzI:G zjE=some zyX:=tk
theorem zIL:G zlR=some zyR:=tk
theorem zXm:G zp7=some zyb:=tk
theorem zeO:G zjx=some zyi:=tk
theorem zIy:G zlH=some zyd:=tk
theorem zW2:G zpp=some zxq:=tk
theorem zXl:G zp6=some zya:=tk
theorem zIw:G zlF=some zx5:=tk
theorem zmp:G zp2=some zx4:=tk
theorem ziN:G zpn=some zxo:=tk
theorem zzc:G zlq=some zvT:=tk
theorem zzb:G zjs=some zvP:=tk
theorem zWJ:G zoa=some zvU:=tk
theorem zXh:G zp0=some zx2:=tk
theorem zXn:G zp8=some zye:=tk
theorem zW4:G zpr=some zxs:=tk
theorem zrN:G zpe=some zxe:=tk
theorem zhM:G zpg=some zxg:=tk
theorem zIl:G zph=some zxh:=tk
theorem zXo:G zlI=some zyg:=tk
theorem zIs:G zpL=some zxN:=tk
theorem zzD:G zpI=some zxJ:=tk
theorem zIx:G zlG=some zyc:=tk
theorem zIt:G zpM=some zxO:=tk
theorem zeN:G zpV=some zxX:=tk
theorem zfY:G zpJ=some zxK:=tk
theorem zzA:G zpA=some zxB:=tk
theorem zW9:G zpG=some zxH:=tk
theorem zW5:G zpv=some zxw:=tk
theorem zIr:G zpD=some zxE:=tk
theorem zzB:G zpB=some zxC:=tk
theorem zXd:G zpQ=some zxS:=tk
theorem zXf:G zpU=some zxW:=tk
theorem zmo:G zpT=some zxV:=tk
theorem zIp:G zpt=some zxu:=tk
theorem zW8:G zpE=some zxF:=tk
theorem zrO:G zpi=some zxi:=tk
theorem zke:G zpy=some zxz:=tk
theorem zzC:G zpF=some zxG:=tk
theorem zrQ:G zpS=some zxU:=tk
theorem zW3:G zpq=some zxr:=tk
theorem zIo:G zps=some zxt:=tk
theorem zXb:G zpK=some zxL:=tk
theorem zhN:G zpW=some zxY:=tk
theorem zIq:G zpw=some zxx:=tk
theorem zWZ:G zo9=some zw7:=tk
theorem zzv:G zpa=some zw8:=tk
theorem zzd:G zlu=some zv3:=tk
theorem zze:G zoh=some zv5:=tk
theorem zH3:G zlr=some zvW:=tk
theorem zrP:G zpx=some zxy:=tk
theorem zgQ:G zoY=some zwU:=tk
theorem zmh:G zok=some zwc:=tk
theorem zWO:G zlx=some zwd:=tk
theorem zkb:G zoC=some zww:=tk
theorem zWR:G zoq=some zwj:=tk
theorem zWU:G zou=some zwo:=tk
theorem zWT:G zot=some zwn:=tk
theorem zWS:G zor=some zwk:=tk
theorem zIb:G zoD=some zwx:=tk
theorem zId:G zlz=some zwA:=tk
theorem zIf:G zlA=some zwQ:=tk
theorem zH6:G zlv=some zv7:=tk
theorem zWX:G zoP=some zwK:=tk
theorem zIv:G zpY=some zx0:=tk
theorem zXe:G zpR=some zxT:=tk
theorem zXa:G zpH=some zxI:=tk
theorem zmn:G zpP=some zxR:=tk
theorem zd9:G zpb=some zxb:=tk
theorem zzz:G zpo=some zxp:=tk
theorem zhO:G zpX=some zxZ:=tk
theorem zIu:G zpN=some zxP:=tk
theorem zmm:G zlD=some zxj:=tk
theorem zrH:G zoJ=some zwE:=tk
theorem zzp:G zoQ=some zwL:=tk
theorem zIg:G zlB=some zwV:=tk
theorem zIh:G zlC=some zwY:=tk
theorem zH5:G zls=some zvY:=tk
theorem zWN:G zof=some zv2:=tk
theorem zrS:G zqb=some zyj:=tk
theorem zXc:G zpO=some zxQ:=tk
theorem zrI:G zoT=some zwO:=tk
theorem zXk:G zjw=some zx9:=tk
theorem ziO:G zlE=some zxM:=tk
theorem zXp:G zqa=some zyh:=tk
theorem zzs:G zoV=some zwR:=tk
theorem zXg:G zpZ=some zx1:=tk
theorem zXi:G zp1=some zx3:=tk
theorem zrC:G zlp=some zvS:=tk
theorem zH4:G zoc=some zvX:=tk
theorem ziM:G zoU=some zwP:=tk
theorem zH8:G zjt=some zv9:=tk
theorem zmi:G zol=some zwe:=tk
theorem zWP:G zom=some zwf:=tk
theorem zgk:G zjy=some zyl:=tk
theorem zIz:G zqc=some zyk:=tk
theorem zzw:G zpc=some zxc:=tk
theorem zzx:G zpf=some zxf:=tk
theorem zzF:G zqd=some zym:=tk
theorem zXq:G zqf=some zyo:=tk
theorem ziL:G zoM=some zwH:=tk
theorem zzt:G zo2=some zw0:=tk
theorem zIa:G zoA=some zwu:=tk
theorem zWQ:G zop=some zwi:=tk
theorem zrF:G zly=some zwl:=tk
theorem zWW:G zow=some zwq:=tk
theorem zWV:G zov=some zwp:=tk
theorem zH9:G zos=some zwm:=tk
theorem zzj:G zoy=some zws:=tk
theorem zzk:G zoB=some zwv:=tk
theorem zzi:G zoo=some zwh:=tk
theorem zgP:G zoW=some zwS:=tk
theorem zzu:G zo3=some zw1:=tk
theorem zWK:G zod=some zvZ:=tk
theorem zrD:G zob=some zvV:=tk
theorem zzh:G zoj=some zwb:=tk
theorem zrE:G zog=some zv4:=tk
theorem zhL:G zoz=some zwt:=tk
theorem zmj:G zon=some zwg:=tk
theorem zIA:G zqe=some zyn:=tk
theorem zgR:G ziq=some zw9:=tk
theorem zH2:G zn9=some zvR:=tk
theorem zfZ:G zhq=some zyp:=tk
theorem zrM:G zjv=some zxa:=tk
theorem zrB:G zn7=some zvO:=tk
theorem zWI:G zn8=some zvQ:=tk
theorem zXr:G zqh=some zyr:=tk
theorem zrT:G zqg=some zyq:=tk
theorem zzG:G zqi=some zys:=tk
theorem zIc:G zoF=some zwz:=tk
theorem zkd:G zo0=some zwX:=tk
theorem zkc:G zoO=some zwJ:=tk
theorem zzq:G zoR=some zwM:=tk
theorem zzg:G zju=some zwa:=tk
theorem zzl:G zoH=some zwC:=tk
theorem zmk:G zox=some zwr:=tk
theorem zkf:G zlJ=some zyt:=tk
theorem zdG:G zjz=some zyu:=tk
theorem zIm:G zpj=some zxk:=tk
theorem zzy:G zpk=some zxl:=tk
theorem zW1:G zpl=some zxm:=tk
theorem zIn:G zpm=some zxn:=tk
theorem zhP:G zjA=some zyv:=tk
theorem zrU:G zqj=some zyw:=tk
theorem zXs:G zqk=some zyx:=tk
theorem zrL:G zo8=some zw6:=tk
theorem zWM:G zoe=some zv1:=tk
theorem zWL:G zlt=some zv0:=tk
theorem zrG:G zoE=some zwy:=tk
theorem zgT:G zlK=some zyy:=tk
theorem zzE:G zp9=some zyf:=tk
theorem zrV:G zlL=some zyB:=tk
theorem zID:G zqn=some zyC:=tk
theorem zIB:G zql=some zyz:=tk
theorem zzn:G zoK=some zwF:=tk
theorem zzf:G zoi=some zv6:=tk
theorem zIC:G zqm=some zyA:=tk
theorem zgU:G zlM=some zyD:=tk
theorem zrW:G zlN=some zyG:=tk
theorem zIG:G zqq=some zyH:=tk
theorem zIE:G zqo=some zyE:=tk
theorem zzo:G zoL=some zwG:=tk
theorem zWY:G zoZ=some zwW:=tk
theorem zIF:G zqp=some zyF:=tk
theorem zgV:G zlO=some zyI:=tk
theorem zIJ:G zlP=some zyL:=tk
theorem zIK:G zqt=some zyM:=tk
theorem zIH:G zqr=some zyJ:=tk
theorem ze9:G zoX=some zwT:=tk
theorem zII:G zqs=some zyK:=tk
theorem zgW:G zjB=some zyN:=tk
theorem ziP:G zjC=some zyO:=tk
theorem zrJ:G zo4=some zw2:=tk
theorem zzm:G zoI=some zwD:=tk
theorem zgX:G zlQ=some zyP:=tk
theorem zzH:G zjD=some zyQ:=tk
theorem zIk:G zo7=some zw5:=tk
theorem zml:G zoG=some zwB:=tk
theorem zrK:G zo6=some zw4:=tk
theorem zIO:G zqu=some zyW:=tk
theorem zW6:G zpz=some zxA:=tk
theorem zf0:G zqv=some zy0:=tk
theorem zkg:G zlS=some zyS:=tk
theorem zrR:G zp3=some zx6:=tk
theorem zdg:G zp4=some zx7:=tk
theorem zXj:G zp5=some zx8:=tk
theorem zajo:G zae3=some zafT:=tk
theorem zajp:G zae4=some zafU:=tk
theorem zaaY:G zaeS=some zafV:=tk
theorem zWB:G znT=some zvv:=tk
theorem zH1:G zn4=some zvK:=tk
theorem zXt:G zqw=some zy1:=tk
theorem zmg:G zn3=some zvJ:=tk
theorem zagx:G zafk=some zagd:=tk
theorem zajv:G zafi=some zagb:=tk
theorem zafx:G zaeH=some zaf5:=tk
theorem zaeN:G zafj=some zagc:=tk
theorem zaju:G zafh=some zaga:=tk
theorem zajs:G zafd=some zaf6:=tk
theorem zajt:G zaff=some zaf8:=tk
theorem zagw:G zafg=some zaf9:=tk
theorem zagv:G zafe=some zaf7:=tk
theorem zahB:G zafo=some zagk:=tk
theorem zajw:G zaeT=some zage:=tk
theorem zajx:G zafl=some zagg:=tk
theorem zajy:G zafm=some zagh:=tk
theorem zahz:G zaeI=some zagf:=tk
theorem zahA:G zaeU=some zagj:=tk
theorem zajz:G zafn=some zagi:=tk
theorem zajn:G zDm=some zHF:=tk
theorem zajq:G zafa=some zaf2:=tk
theorem zahy:G zafc=some zaf4:=tk
theorem zaeW:G zaeG=some zafW:=tk
theorem zagu:G zae7=some zafZ:=tk
theorem zagt:G zae5=some zafX:=tk
theorem zahw:G zae6=some zafY:=tk
theorem zahv:G zae2=some zafS:=tk
theorem zajB:G zafs=some zago:=tk
theorem zajA:G zafp=some zagl:=tk
theorem zahC:G zafr=some zagn:=tk
theorem zahD:G zaeV=some zagp:=tk
theorem zaeM:G zae8=some zaf0:=tk
theorem zajC:G zaft=some zagq:=tk
theorem zagy:G zafq=some zagm:=tk
theorem zahx:G zae9=some zaf1:=tk
theorem zajD:G zafu=some zagr:=tk
theorem zahE:G zafv=some zags:=tk
theorem zajr:G zafb=some zaf3:=tk
end Go.Proofs.YtnmcgdpmikhohaaGreat

namespace Go.Sim
variable {G:FuncId->Option AFn}
theorem zsO {T:Type} {ks:List Nat} {x:zg} (μ:T->Nat) (inv:T->Prop) (st:T->St) (Q:T->Option (zX×St)->Prop)
    (h:∀t,inv t->∀L:St->Option (zX×St),(∀t',inv t'->μ t'<μ t->Q t' (L (st t')))->Q t ((exL G x (st t)).bind (zc0 ks L))):∀t,inv t->Q t (z6 G ks x (st t)):=by
 intro t;generalize hk:μ t=k
 induction k using Nat.strongRecOn generalizing t with
 | ind k ih=>
  intro hi;rw[zaC];exact h t hi _ fun t' hi' hlt=>ih (μ t') (by omega) t' rfl hi'
end Go.Sim

namespace Go.Sim
variable {G:FuncId->Option AFn}
theorem wr{x:Int}(h: -9223372036854775808<=x/\x<9223372036854775808):IntKind.i64.wrap x=x:=by
 rw[Go.IntWalk.i64_in _ (by omega)]
theorem wu64{x:Int}(h:0<=x/\x<18446744073709551616):IntKind.u64.wrap x=x:=by rw[Go.IntWalk.u64_in _ (by omega)]
theorem wu8{x:Int}(h:0<=x/\x<256):IntKind.u8.wrap x=x:=by rw[Go.IntWalk.u8_in _ (by omega)]
theorem ltT{a b:Int}(h:a<b):(a<b)=True:=zabA h
theorem ltF{a b:Int}(h:b<=a):(a<b)=False:=zabt (by omega)
theorem leT{a b:Int}(h:a<=b):(a<=b)=True:=zabA h
theorem leF{a b:Int}(h:b<a):(a<=b)=False:=zabt (by omega)
theorem eqT{a b:Int}(h:a=b):(a=b)=True:=zabA h
theorem eqF{a b:Int}(h:¬a=b):(a=b)=False:=zabt h
theorem zajM{α:Type}{l:List α}{a:Nat}(h:a<l.length):(a<l.length)=True:=zabA h
theorem zYU{α:Type}{l:List α}{a:Nat}(h:l.length<=a):(a<l.length)=False:=zabt (by omega)
theorem zYT{α:Type}{l:List α}{c:Nat}(h:l.length<=c):(l.length<=c)=True:=zabA h
theorem zRI{a b c:Nat}(h:a+b<=c):(a+b<=c)=True:=zabA h
theorem zY0:LIM=4294967296:=rfl
theorem zZs{α β:Type}{f:α->β}{l:List α}{k:Nat}(h:k<l.length):(l.map f)[k]? = some (f (l[k]'h)):=by
 rw[zabI,zabx h];rfl
theorem zaaw{k:Nat}:((k:Int)+1).toNat=k+1:=by omega
theorem zg5 {ks:List Nat} {x:zg} (n:Nat) (p:Nat->Bool) (st:Nat->St) (R fin:zX×St)
    (h:∀k,k<=n->∀L:St->Option (zX×St),(exL G x (st k)).bind (zc0 ks L)=if k<n then (if p k=true then L (st (k+1)) else some R) else some fin):
    z6 G ks x (st 0)=some (if (List.range n).all p=true then fin else R):=by
 have key:∀m k,k+m=n->z6 G ks x (st k)=some (if ((List.range' k m).all p)=true then fin else R):=by
  intro m
  induction m with
  | zero=>
   intro k hk;rw[zaC,h k (by omega),zabn (by omega)];rfl
  | succ m ih=>
   intro k hk;rw[zaC,h k (by omega),zabo (by omega),zacX,zacn,ih (k+1) (by omega)]
   cases p k<;>rfl
 have:=key n 0 (by omega)
 rwa [<- zadK] at this
theorem zabl{α:Type}[DecidableEq α]{a b:List α}(h:a.length=b.length):((List.range a.length).all fun k=>decide (a[k]? = b[k]?))=decide (a=b):=by
 by_cases e:a=b
 ·subst e;simp
 ·rw[zabP e];apply zadY.2;intro hh;apply e;rw[zabO] at hh;apply List.ext_getElem?;intro k
  by_cases hk:k<a.length
  ·simpa using hh k (zack.2 hk)
  ·rw[zadl (by omega),zadl (by omega)]
theorem zaeD{α:Type}[DecidableEq α]{a b:List α}{k:Nat}(ha:k<a.length)(hb:k<b.length):decide (a[k]? = b[k]?)=decide (a[k]=b[k]):=by
 rw[zabx ha,zabx hb];simp
def zhI{α:Type}(n:Nat)(p:Nat->Bool)(R:Nat->α)(fin:α):α:=match (List.range n).find? p with|some k=>R k|none=>fin
theorem ziZ {ks:List Nat} {x:zg} (n:Nat) (p:Nat->Bool) (st:Nat->St) (R:Nat->zX×St) (fin:zX×St)
    (h:∀k,k<=n->∀L:St->Option (zX×St),(exL G x (st k)).bind (zc0 ks L)=if k<n then (if p k=true then some (R k) else L (st (k+1))) else some fin):
    z6 G ks x (st 0)=some (zhI n p R fin):=by
 have key:∀m k,k+m=n->z6 G ks x (st k)=some (match (List.range' k m).find? p with|some k=>R k|none=>fin):=by
  intro m
  induction m with
  | zero=>
   intro k hk;rw[zaC,h k (by omega),zabn (by omega)];rfl
  | succ m ih=>
   intro k hk;rw[zaC,h k (by omega),zabo (by omega),zacX,List.find?_cons,ih (k+1) (by omega)]
   cases p k<;>rfl
 have:=key n 0 (by omega)
 rwa [<- zadK] at this
def zbP{α:Type}(p:α->Bool)(es:List α):Int:=match es.findIdx? p with|some i=>i|none=> -1
def atB{α:Type}(l:List α)(p:α->Bool)(k:Nat):Bool:=match l[k]? with|some a=>p a|none=>false
theorem zV2{α:Type}(l:List α)(p:α->Bool):(List.range l.length).find? (atB l p)=l.findIdx? p:=by
 have key:∀(m k:Nat),k+m=l.length->(List.range' k m).find? (atB l p)=((l.drop k).findIdx? p).map (k+ ·):=by
  intro m
  induction m with
  | zero=>intro k hk;rw[zaef (by omega)];rfl
  | succ m ih=>
   intro k hk;rw[zacX,List.find?_cons,zabX (show k<l.length by omega),List.findIdx?_cons,ih (k+1) (by omega)];have:atB l p k=p (l[k]'(by omega)):=by unfold atB;rw[zabx (by omega)]
   rw[this]
   cases p (l[k]'(by omega)) with
   | true=>simp
   | false=>
    cases (l.drop (k+1)).findIdx? p with
    | none=>rfl
    | some i=>simp;omega
 have:=key l.length 0 (by omega);rw[<- zadK] at this;rw[this,zabZ]
 cases l.findIdx? p<;>simp only[Option.map_none,zab8,zabU]
theorem zgH{α:Type}{l:List α}{p:α->Bool}{k:Nat}(h:k<l.length):atB l p k=p l[k]:=by
 unfold atB;rw[zabx h]
theorem zj6{α β:Type}(l:List α)(p:α->Bool)(R:Nat->β)(fin:β):zhI l.length (atB l p) R fin=match l.findIdx? p with|some k=>R k|none=>fin:=by
 unfold zhI;rw[zV2]
theorem zLJ{α:Type}(l:List α)(p:α->Bool):decide (0<=zbP p l)=l.any p:=by
 unfold zbP
 cases h:l.findIdx? p with
 | none=>simp at h;simpa using h
 | some i=>
  have:=zact.1 h;simp;exact⟨_,zabC this.1,this.2.1⟩
theorem zsd{α:Type}(l:List α)(p:α->Bool): -1<=zbP p l/\zbP p l<l.length:=by
 unfold zbP
 cases e:l.findIdx? p with
 | none=>simp only;omega
 | some i=>have:=(zact.1 e).1;simp only;omega
theorem zse{α:Type}(l:List α)(p:α->Bool):zbP p l<0↔∀a∈l,p a=false:=by
 have:=zLJ l p;have h2:l.any p=false↔∀a∈l,p a=false:=by simp
 rw[<- h2, <- this];simp
end Go.Sim

namespace Go.Sim
theorem zh{α:Type}{l:List α}{k:Nat}{d:α}(h:k<l.length):l.getD k d=l[k]'h:=by
 rw[zab0,zabx h];rfl
theorem setMap{α β:Type}{f:α->β}{l:List α}{k:Nat}{x:α}:(l.map f).set k (f x)=(l.set k x).map f:=by rw[zacw]
theorem zZt{α β γ:Type}{f:α->β}{g:β->γ}{l:List α}{k:Nat}(h:k<l.length):((l.map f).map g)[k]? = some (g (f (l[k]'h))):=by
 rw[zacQ,zabI,zabx h];rfl
theorem zYV{α:Type}{l:List α}{k:Nat}{x:α}:(l.set k x).length=l.length:=zacb
theorem zg7{α:Type}{f:α->D}{l:List α}{k:Nat}{x:α}:(l.set k x).map f=(l.map f).set k (f x):=by rw[zacw]
theorem znx{ds:List D}{k:Nat}{x:D}:(ds.map AV.d).set k (.d x)=(ds.set k x).map AV.d:=by rw[zacw]
theorem zad{α:Type}{c:Prop}[Decidable c]{A B r:α}(h1:c->A=r)(h2:¬c->B=r):(if c then A else B)=r:=by split<;>simp_all
theorem z97{ds:List D}{n:Nat}:(ds.map AV.d).take n=(ds.take n).map AV.d:=by rw[zac7]
theorem z99{α:Type}{f:α->D}{l:List α}{n k:Nat}{x:D}(h:l.length<=n):((l.map f).set k x).take n=(l.map f).set k x:=zada (by simpa using h)
theorem z96{α:Type}{f:α->D}{l:List α}{n:Nat}(h:l.length<=n):(l.map f).take n=l.map f:=zada (by simpa using h)
theorem zae{α:Type}{c:Prop}[Decidable c]{A B r:α}(h1:c->r=A)(h2:¬c->r=B):r=if c then A else B:=by split<;>simp_all
attribute [go_sem ↓] reduceIte
attribute [go_sem] reduceCtorEq Nat.reduceEqDiff Nat.reduceAdd Nat.reduceBEq Nat.reduceMul Nat.reduceLeDiff Nat.reduceSub Nat.reduceLT Nat.reduceDiv Nat.reduceMod List.reduceReplicate Int.reduceEq Int.reduceLT Int.reduceLE Int.reduceAdd Int.reduceSub Int.reduceMul Int.reduceNeg Int.reduceToNat
attribute [go_sem] zaaw z97 z99 z96 zYV zg7 znx zZt wr or_self zacP false_or zadq or_true zacz zadr zadC zadf zabQ zabv zY0 wu64 wu8 Bool.true_beq Bool.false_beq zacs zacy ltT ltF leT leF eqT eqF zajM zYU zYT zRI zZs zab5 Int.natCast_nonneg zabE
theorem pA{a b:Bool}:((a||b)=true)=(a=true\/b=true):=zacj a b
theorem pB{a b:Bool}:((a&&b)=true)=(a=true/\b=true):=zabH a b
theorem pC{p:Prop}[Decidable p]:(decide p=true)=p:=decide_eq_true_eq
theorem pD{a:Bool}:((!a)=true)=(a=false):=zace a
theorem pE{p:Prop}[Decidable p]:(decide p=false)=¬p:=by simp
theorem pF{p q:Prop}:(¬(p\/q))=(¬p/\¬q):=by simp
theorem pG{a b:Int}:(¬a<b)=(b<=a):=by simp
theorem pH{a b:Int}:(¬a<=b)=(b<a):=by simp
theorem pI{a b:Nat}:(¬a<b)=(b<=a):=by simp
theorem pJ{a b:Nat}:(¬a<=b)=(b<a):=by simp
theorem pK{a b:Bool}:((a||b)=false)=(a=false/\b=false):=by simp
theorem pL{a b:Bool}:((a&&b)=false)=(a=false\/b=false):=by cases a<;>cases b<;>simp
theorem pM{a:Bool}:((!a)=false)=(a=true):=by simp
theorem pN:(true=false)=False:=by simp
theorem pO:(false=true)=False:=by simp
theorem pP{p:Prop}:(¬ ¬p)=p:=by simp
end Go.Sim

namespace Go.Sim
open Go
theorem zW {G:FuncId->Option AFn} {f:FuncId} {c:zg} {rs:List zl} {nt:Nat} {sl:Bool} (h:G f=some (.code c rs nt sl)) {args:List AV} {os:zd} {R:Option (AV×zd)} (hl:args.length<=nt:=by simp)
    (e:(exL G c ⟨enter args++zf1 os,os⟩).bind (zgh sl rs os)=R:=by simp -implicitDefEqProofs (maxSteps:=4000000) (disch:=omega) only[zh,go_sem, *];(try simp only[pA,pB,pC,pD,pE,pF,pG,pH,pI,pJ,pK,pL,pM,pN,pO,pP,if_true,if_false]);repeat' (first|done|rfl|(refine zad (fun hq=> ?_) (fun hq=> ?_)<;>(try (first|(exfalso;omega)|contradiction))<;>(try simp -implicitDefEqProofs (maxSteps:=4000000) (disch:=omega) only[zh,go_sem, *])<;>(try simp only[pA,pB,pC,pD,pE,pF,pG,pH,pI,pJ,pK,pL,pM,pN,pO,pP,if_true,if_false])));(all_goals try rfl);(all_goals try (repeat' (first|done|rfl|(exfalso;omega)|contradiction|(refine zae (fun hq=> ?_) (fun hq=> ?_)))))):zi G f args os=R:=(zI h hl).trans e
theorem zS{p:Prop}(e:p:=by (try simp -implicitDefEqProofs (maxSteps:=4000000) (disch:=omega) only[zh,go_sem, *]);(try simp only[pA,pB,pC,pD,pE,pF,pG,pH,pI,pJ,pK,pL,pM,pN,pO,pP,if_true,if_false]);repeat' (first|done|rfl|(refine zad (fun hq=> ?_) (fun hq=> ?_)<;>(try (first|(exfalso;omega)|contradiction))<;>(try simp -implicitDefEqProofs (maxSteps:=4000000) (disch:=omega) only[zh,go_sem, *])<;>(try simp only[pA,pB,pC,pD,pE,pF,pG,pH,pI,pJ,pK,pL,pM,pN,pO,pP,if_true,if_false])));(all_goals try rfl);(all_goals try (repeat' (first|done|rfl|(exfalso;omega)|contradiction|(refine zae (fun hq=> ?_) (fun hq=> ?_)))))):p:=e
theorem zNr:type_of% @zacs/\type_of% @zacy/\type_of% @zabQ/\type_of% @zadC/\type_of% @zadf/\type_of% @zabv.{0}/\type_of% @zabE.{0,0}/\type_of% @zabq.{0,0}/\type_of% @zabw.{0}/\type_of% @zabF.{0,0}/\type_of% @zabs.{0,0}/\type_of% @zabu.{0}/\type_of% @zabU/\type_of% @zg7:=
 ⟨@zacs, @zacy, @zabQ, @zadC, @zadf, @zabv, @zabE, @zabq, @zabw, @zabF, @zabs, @zabu, @zabU, @zg7⟩
theorem zPr:type_of% @pA/\type_of% @pB/\type_of% @pC/\type_of% @pD/\type_of% @pE/\type_of% @pF/\type_of% @pG/\type_of% @pH/\type_of% @pI/\type_of% @pJ/\type_of% @pK/\type_of% @pL/\type_of% @pM/\type_of% @pN/\type_of% @pO/\type_of% @pP/\type_of% @if_true.{1}/\type_of% @if_false.{1}:=
 ⟨@pA, @pB, @pC, @pD, @pE, @pF, @pG, @pH, @pI, @pJ, @pK, @pL, @pM, @pN, @pO, @pP, @if_true, @if_false⟩
theorem zo{p:Prop}(h:p:=by omega):p:=h
end Go.Sim

namespace Go.Proofs.YtnmcgdpmikhohaaGreat
open Go Go.Sim
attribute [go_sem] zDU zD0 zjN zDY zDW zup zDZ zDV zd5 zDX zqK zD2 zGo zGk zafL zahb zaeJ zafK zaha zag8 zag9 zaeL zaeK zafN zahc zahe zahf zahd zahg zafM zD1 zuo zGi zGh zag5 zag6 zagZ zag2 zag0 zqQ zFD zFt zFc zED zEK zuG zuH zEe zEi zqW zFu zEN zFJ zFs zFN zuE zEp zFS zE5 zD8 zFU zE6 zjO zur zFW zFV zFX zEy zEV zEI zEL zEW zEu zuy zEr zuB zEt zqO zuD zuF zl1 zER zEX zEf zEc zuu zqM zEQ zuU zFF zD9 zus zEO zEn zqN zux zFQ zFP zE7 zE8 zFR zFT zEG zuw zEv zuz zEs zuA zEq zEw zEz zEP zEm zEJ zFE zFx zFq zFv zhs zFl zuR zFy zFh zuM zuS zFC zqR zE3 zE4 zEj zEk zEd zqS zET zuv zu0 zGj zFH zFI zuW zagV zagY zagW zagX zDS zqL zGp zD3 zag1 zagU zahh zafO zafw zahi zag3 zahj zafP zag4 zahk zafQ zafJ zag7 zEo zEB zuC zFY zFZ zFd zuK zFe zuL zF0 zF1 zF2 zE2 zEh zEg zEx zGb zq2 zq1 zES zGa zGc zGd zEY zEC zGe zGf zE1 zEA zE0 zGn zuO zqT zuZ zuT zFB zFr zFm zFp zFk zFo zFn zFw zFA zFz zFj zuQ zFb zFg zuX zqV zFG zFf zEa zl0 zEb zuV zFL zFi zqP zE9 zFa zFM zqU zuN zuP zuJ zEH zut zEM zuI zEZ zjP zGl zGm zq3 zGg zuY zFO zFK zF3 zl2 zF5 zqY zqX zEE zEl zF4 zF6 zF8 zq0 zqZ zEF zEU zF7 zF9 zNw zNC zkW zNA zNy zBY zNB zNx zeq zNz zs3 zNE zP4 zP0 zagQ zaiu zaeZ zaiv zait zair zais zae1 zae0 zaiC zaiw zaiy zaiz zaix zaiB zaiA zND zNv zPY zPX zaio zaip zaii zail zaij zs9 zPi zO8 zOQ zOh zOo zCd zCe zNR zNV ztf zO9 zOr zPo zO7 zPt zCb zN3 zPy zOJ zNL zPA zOK zkX zBZ zPC zPB zPD zOc zOz zOm zOp zOA zN8 zB5 zN5 zB8 zN7 zs7 zCa zCc zne zOv zOB zNS zNP zB2 zs5 zOu zCq zPk zNM zB0 zOs zN0 zs6 zB4 zPw zPv zOL zOM zPx zPz zOk zB3 zN9 zB6 zN6 zB7 zN4 zOa zOd zOt zNZ zOn zPj zPc zO5 zPa zh9 zO0 zCn zPd zOW zCi zCo zPh zta zOH zOI zNW zNX zNQ ztb zOx zN2 zCw zPZ zPm zPn zCs zaie zaih zaif zaig zNt zs4 zP5 zNF zaik zaid zaiE zagR zafG zaiF zaim zaiG zaiD zain zaiH zagS zagP zaiq zN1 zOf zB9 zPE zPF zOR zOS zOT zCh zPG zPH zPI zOG zNU zNT zOb zPR ztl ztk zOw zPQ zPS zPT zOC zOg zPU zPV zOF zOe zOE zP3 zCk ztc zCv zCp zPg zO6 zO1 zO4 zOZ zO3 zO2 zPb zPf zPe zOY zCm zOP zOV zCt zte zPl zOU zNN znd zNO zCr zPq zOX zs8 zON zOO zPs ztd zCj zCl zCg zOl zB1 zOq zCf zOD zkY zP1 zP2 ztm zPW zCu zPu zPp zPJ znf zPL zth ztg zOi zNY zPK zPM zPO ztj zti zOj zOy zPN zPP
abbrev zC(l:List Int):List D:=l.map (.int .i64)
theorem zt6(l:List Int):zas 1 (zC l)=true:=by simp [zas,D.size,D.cells]
def zaA(b:List UInt8):D:= .sl (byD b)
theorem zRX(l:List (List UInt8)):zas 1 (l.map zaA)=true:=by simp [zas,D.size,D.cells,zaA]
theorem zRZ(l:List (List UInt8)):zas 1 (l.map D.str)=true:=by simp [zas,D.size,D.cells]
abbrev Due:=Int×Int
def eD(d:Due):D:= .agg [.int .i64 d.1,.int .i64 d.2]
theorem zUn(d:Due):(eD d).cells=[.int .i64 d.1,.int .i64 d.2]:=rfl
theorem ze5(d:Due):(eD d).size=2:=rfl
theorem zfS(d:Due):(eD d).asAgg=eD d:=rfl
theorem zUo(d:Due):(eD d).isT=false:=rfl
theorem zjJ(h:List Due):zas 2 (h.map eD)=true:=by simp [zas,ze5]
structure Span where
 low:Int
 high:Int
 shard:Int
 deriving DecidableEq
def zeC:Span:=⟨0,0,0⟩
instance:Inhabited Span:=⟨zeC⟩
def zca(x:Span):D:= .agg [.int .i64 x.low,.int .i64 x.high,.int .i64 x.shard]
theorem zUP(x:Span):(zca x).cells=[.int .i64 x.low,.int .i64 x.high,.int .i64 x.shard]:=rfl
theorem zHk(x:Span):(zca x).size=3:=rfl
theorem zUO(x:Span):(zca x).asAgg=zca x:=rfl
theorem zUQ(x:Span):(zca x).isT=false:=rfl
theorem zRT(l:List Span):zas 3 (l.map zca)=true:=by simp [zas,zHk]
structure Directory where
 version:Int
 l:List Span
 forward:List Int
 deriving DecidableEq
def zcF:Directory:=⟨0,[],[]⟩
instance:Inhabited Directory:=⟨zcF⟩
def zaT(x:Directory):D:= .agg [.int .i64 x.version,.sl (x.l.map zca),.sl (zC x.forward)]
theorem zUt(x:Directory):(zaT x).cells=[.int .i64 x.version,.sl (x.l.map zca),.sl (zC x.forward)]:=rfl
theorem zUv(x:Directory):(zaT x).size=3:=rfl
theorem zUs(x:Directory):(zaT x).asAgg=zaT x:=rfl
theorem zUu(x:Directory):(zaT x).isT=false:=rfl
structure Edit where
 kind:Int
 from_:Int
 to:Int
 mid:Int
 deriving DecidableEq
def ztX:Edit:=⟨0,0,0,0⟩
instance:Inhabited Edit:=⟨ztX⟩
def zfT(x:Edit):D:= .agg [.int .i64 x.kind,.int .i64 x.from_,.int .i64 x.to,.int .i64 x.mid]
theorem zUx(x:Edit):(zfT x).cells=[.int .i64 x.kind,.int .i64 x.from_,.int .i64 x.to,.int .i64 x.mid]:=rfl
theorem zUz(x:Edit):(zfT x).size=4:=rfl
theorem zUw(x:Edit):(zfT x).asAgg=zfT x:=rfl
theorem zUy(x:Edit):(zfT x).isT=false:=rfl
structure Setup where
 slots:Int
 live:Int
 capacity:Int
 dead:Int
 limit:Int
 clock:Int
 nextID:Int
 epoch:Int
 deriving DecidableEq
def zdt:Setup:=⟨0,0,0,0,0,0,0,0⟩
instance:Inhabited Setup:=⟨zdt⟩
def zaJ(x:Setup):D:= .agg [.int .i64 x.slots,.int .i64 x.live,.int .i64 x.capacity,.int .i64 x.dead,.int .i64 x.limit,.int .i64 x.clock,.int .i64 x.nextID,.int .i64 x.epoch]
theorem zHg(x:Setup):(zaJ x).size=8:=rfl
theorem zHd(x:Setup):(zaJ x).asAgg=zaJ x:=rfl
theorem zHf(x:Setup):(zaJ x).isT=false:=rfl
theorem zHe(x:Setup):(zaJ x).size=8/\(zaJ x).isT=false/\(zaJ x).asAgg=zaJ x:=⟨zHg x,zHf x,zHd x⟩
structure zj where
 id:Int
 route:Int
 epoch:Int
 count:Int
 gen:Int
 sent:Int
 body:List UInt8
 deriving DecidableEq
def zaa:zj:=⟨0,0,0,0,0,0,[]⟩
instance:Inhabited zj:=⟨zaa⟩
def zm(x:zj):D:= .agg [.int .i64 x.id,.int .i64 x.route,.int .i64 x.epoch,.int .i64 x.count,.int .i64 x.gen,.int .i64 x.sent,.str x.body]
theorem zUK(x:zj):(zm x).cells=[.int .i64 x.id,.int .i64 x.route,.int .i64 x.epoch,.int .i64 x.count,.int .i64 x.gen,.int .i64 x.sent,.str x.body]:=rfl
theorem zG4(x:zj):(zm x).size=7:=rfl
theorem zUJ(x:zj):(zm x).asAgg=zm x:=rfl
theorem zUL(x:zj):(zm x).isT=false:=rfl
theorem zt5(l:List zj):zas 7 (l.map zm)=true:=by simp [zas,zG4]
structure zah where
 cells:List zj
 head:Int
 size:Int
 deriving DecidableEq
def zay:zah:=⟨[],0,0⟩
instance:Inhabited zah:=⟨zay⟩
def zai(x:zah):D:= .agg [.sl (x.cells.map zm),.int .i64 x.head,.int .i64 x.size]
theorem zai5(x:zah):(zai x).cells=[.sl (x.cells.map zm),.int .i64 x.head,.int .i64 x.size]:=rfl
theorem zai7(x:zah):(zai x).size=3:=rfl
theorem zai6(x:zah):(zai x).isT=false:=rfl
structure zG where
 msg:zj
 deadline:Int
 deriving DecidableEq
def zbH:zG:=⟨⟨0,0,0,0,0,0,[]⟩,0⟩
instance:Inhabited zG:=⟨zbH⟩
def zaI(x:zG):D:= .agg [.int .i64 x.msg.id,.int .i64 x.msg.route,.int .i64 x.msg.epoch,.int .i64 x.msg.count,.int .i64 x.msg.gen,.int .i64 x.msg.sent,.str x.msg.body,.int .i64 x.deadline]
theorem zUD(x:zG):(zaI x).cells=[.int .i64 x.msg.id,.int .i64 x.msg.route,.int .i64 x.msg.epoch,.int .i64 x.msg.count,.int .i64 x.msg.gen,.int .i64 x.msg.sent,.str x.msg.body,.int .i64 x.deadline]:=rfl
theorem zG3(x:zG):(zaI x).size=8:=rfl
theorem zUC(x:zG):(zaI x).asAgg=zaI x:=rfl
theorem zUE(x:zG):(zaI x).isT=false:=rfl
theorem zjI(l:List zG):zas 8 (l.map zaI)=true:=by simp [zas,zG3]
structure zN where
 l:List zG
 heap:List Due
 deriving DecidableEq
def zal:zN:=⟨[],[]⟩
instance:Inhabited zN:=⟨zal⟩
def zau(x:zN):D:= .agg [.sl (x.l.map zaI),.sl (x.heap.map eD)]
theorem zUU(x:zN):(zau x).cells=[.sl (x.l.map zaI),.sl (x.heap.map eD)]:=rfl
theorem zUW(x:zN):(zau x).size=2:=rfl
theorem zUT(x:zN):(zau x).asAgg=zau x:=rfl
theorem zUV(x:zN):(zau x).isT=false:=rfl
structure zt where
 live:Bool
 low:Int
 high:Int
 ready:zah
 leases:zN
 deriving DecidableEq
def zJ:zt:=⟨false,0,0,⟨[],0,0⟩,⟨[],[]⟩⟩
instance:Inhabited zt:=⟨zJ⟩
def zk(x:zt):D:= .agg [.bool x.live,.int .i64 x.low,.int .i64 x.high,.sl (x.ready.cells.map zm),.int .i64 x.ready.head,.int .i64 x.ready.size,.sl (x.leases.l.map zaI),.sl (x.leases.heap.map eD)]
theorem zUM(x:zt):(zk x).cells=[.bool x.live,.int .i64 x.low,.int .i64 x.high,.sl (x.ready.cells.map zm),.int .i64 x.ready.head,.int .i64 x.ready.size,.sl (x.leases.l.map zaI),.sl (x.leases.heap.map eD)]:=rfl
theorem zvi(x:zt):(zk x).size=8:=rfl
theorem zHh(x:zt):(zk x).asAgg=zk x:=rfl
theorem zHi(x:zt):(zk x).isT=false:=rfl
theorem zbm(x:zt):(zk x).size=8/\(zk x).isT=false/\(zk x).asAgg=zk x:=⟨zvi x,zHi x,zHh x⟩
theorem zRR(l:List zt):zas 8 (l.map zk)=true:=by simp [zas,zvi]
structure Slot where
 owner:Int
 shard:zt
 deriving DecidableEq
def zfC:Slot:=⟨0,⟨false,0,0,⟨[],0,0⟩,⟨[],[]⟩⟩⟩
instance:Inhabited Slot:=⟨zfC⟩
def zfU(x:Slot):D:= .agg [.int .i64 x.owner,.bool x.shard.live,.int .i64 x.shard.low,.int .i64 x.shard.high,.sl (x.shard.ready.cells.map zm),.int .i64 x.shard.ready.head,.int .i64 x.shard.ready.size,.sl (x.shard.leases.l.map zaI),.sl (x.shard.leases.heap.map eD)]
theorem zUN(x:Slot):(zfU x).cells=[.int .i64 x.owner,.bool x.shard.live,.int .i64 x.shard.low,.int .i64 x.shard.high,.sl (x.shard.ready.cells.map zm),.int .i64 x.shard.ready.head,.int .i64 x.shard.ready.size,.sl (x.shard.leases.l.map zaI),.sl (x.shard.leases.heap.map eD)]:=rfl
theorem zHj(x:Slot):(zfU x).size=9:=rfl
theorem zRS(l:List Slot):zas 9 (l.map zfU)=true:=by simp [zas,zHj]
structure Stripe where
 seq:Int
 epoch:Int
 ready:Int
 leased:Int
 deriving DecidableEq
def zb0:Stripe:=⟨0,0,0,0⟩
instance:Inhabited Stripe:=⟨zb0⟩
def zax(x:Stripe):D:= .agg [.int .i64 x.seq,.int .i64 x.epoch,.int .i64 x.ready,.int .i64 x.leased]
theorem zHl(x:Stripe):(zax x).size=4:=rfl
theorem zUR(x:Stripe):(zax x).asAgg=zax x:=rfl
theorem zUS(x:Stripe):(zax x).isT=false:=rfl
theorem zRU(l:List Stripe):zas 4 (l.map zax)=true:=by simp [zas,zHl]
structure za7 where
 cap:Int
 l:List zj
 deriving DecidableEq
def zaH:za7:=⟨0,[]⟩
instance:Inhabited za7:=⟨zaH⟩
def zT(x:za7):D:= .agg [.int .i64 x.cap,.sl (x.l.map zm)]
theorem zUp(x:za7):(zT x).cells=[.int .i64 x.cap,.sl (x.l.map zm)]:=rfl
theorem zUr(x:za7):(zT x).size=2:=rfl
theorem zUq(x:za7):(zT x).isT=false:=rfl
structure znR where
 owner:Int
 dead:za7
 deriving DecidableEq
def zabd:znR:=⟨0,⟨0,[]⟩⟩
instance:Inhabited znR:=⟨zabd⟩
def ze6(x:znR):D:= .agg [.int .i64 x.owner,.int .i64 x.dead.cap,.sl (x.dead.l.map zm)]
structure zy where
 slots:List Slot
 stripes:List Stripe
 dead:znR
 dir:Directory
 epoch:Int
 clock:Int
 nextID:Int
 deriving DecidableEq
def zM:zy:=⟨[],[],⟨0,⟨0,[]⟩⟩,⟨0,[],[]⟩,0,0,0⟩
instance:Inhabited zy:=⟨zM⟩
def zx(x:zy):D:= .agg [.sl (x.slots.map zfU),.sl (x.stripes.map zax),.int .i64 x.dead.owner,.int .i64 x.dead.dead.cap,.sl (x.dead.dead.l.map zm),.int .i64 x.dir.version,.sl (x.dir.l.map zca),.sl (zC x.dir.forward),.int .i64 x.epoch,.int .i64 x.clock,.int .i64 x.nextID]
theorem zUl(x:zy):(zx x).cells=[.sl (x.slots.map zfU),.sl (x.stripes.map zax),.int .i64 x.dead.owner,.int .i64 x.dead.dead.cap,.sl (x.dead.dead.l.map zm),.int .i64 x.dir.version,.sl (x.dir.l.map zca),.sl (zC x.dir.forward),.int .i64 x.epoch,.int .i64 x.clock,.int .i64 x.nextID]:=rfl
theorem zGV(x:zy):(zx x).size=11:=rfl
theorem zGT(x:zy):(zx x).asAgg=zx x:=rfl
theorem zGU(x:zy):(zx x).isT=false:=rfl
theorem zby(x:zy):(zx x).size=11/\(zx x).isT=false/\(zx x).asAgg=zx x:=⟨zGV x,zGU x,zGT x⟩
structure zir where
 phase:Int
 epoch:Int
 clock:Int
 stamp:Int
 deriving DecidableEq
def zeB:zir:=⟨0,0,0,0⟩
instance:Inhabited zir:=⟨zeB⟩
def zeM(x:zir):D:= .agg [.int .i64 x.phase,.int .i64 x.epoch,.int .i64 x.clock,.int .i64 x.stamp]
structure Invocation where
 kind:Int
 home:Int
 max:Int
 visibility:Int
 from_:Int
 to:Int
 bodies:List (List UInt8)
 tokens:List (List UInt8)
 deriving DecidableEq
def zfA:Invocation:=⟨0,0,0,0,0,0,[],[]⟩
instance:Inhabited Invocation:=⟨zfA⟩
def zbg(x:Invocation):D:= .agg [.int .i64 x.kind,.int .i64 x.home,.int .i64 x.max,.int .i64 x.visibility,.int .i64 x.from_,.int .i64 x.to,.sl (x.bodies.map .str),.sl (x.tokens.map zaA)]
theorem zG2(x:Invocation):(zbg x).size=8:=rfl
theorem zG0(x:Invocation):(zbg x).asAgg=zbg x:=rfl
theorem zG1(x:Invocation):(zbg x).isT=false:=rfl
theorem zUB(x:Invocation):(zbg x).size=8/\(zbg x).isT=false/\(zbg x).asAgg=zbg x:=⟨zG2 x,zG1 x,zG0 x⟩
structure Result where
 err:Int
 id:Int
 tokens:List (List UInt8)
 bodies:List (List UInt8)
 ready:Int
 leased:Int
 moved:Int
 deriving DecidableEq
def zac:Result:=⟨0,0,[],[],0,0,0⟩
instance:Inhabited Result:=⟨zac⟩
def z7(x:Result):D:= .agg [.int .i64 x.err,.int .i64 x.id,.sl (x.tokens.map zaA),.sl (x.bodies.map .str),.int .i64 x.ready,.int .i64 x.leased,.int .i64 x.moved]
theorem zvh(x:Result):(z7 x).size=7:=rfl
theorem zG8(x:Result):(z7 x).asAgg=z7 x:=rfl
theorem zG9(x:Result):(z7 x).isT=false:=rfl
theorem zl9(x:Result):(z7 x).size=7/\(z7 x).isT=false/\(z7 x).asAgg=z7 x:=⟨zvh x,zG9 x,zG8 x⟩
theorem zRQ(l:List Result):zas 7 (l.map z7)=true:=by simp [zas,zvh]
structure zbI where
 cells:List Int
 phase:Int
 have_:Int
 tries:Int
 wait:Int
 deriving DecidableEq
def zd1:zbI:=⟨[],0,0,0,0⟩
instance:Inhabited zbI:=⟨zd1⟩
def zb2(x:zbI):D:= .agg [.sl (zC x.cells),.int .i64 x.phase,.int .i64 x.have_,.int .i64 x.tries,.int .i64 x.wait]
theorem zUG(x:zbI):(zb2 x).cells=[.sl (zC x.cells),.int .i64 x.phase,.int .i64 x.have_,.int .i64 x.tries,.int .i64 x.wait]:=rfl
theorem zUI(x:zbI):(zb2 x).size=5:=rfl
theorem zUF(x:zbI):(zb2 x).asAgg=zb2 x:=rfl
theorem zUH(x:zbI):(zb2 x).isT=false:=rfl
structure zb1 where
 shards:List zt
 dead:za7
 order:List Int
 carry:List zj
 edits:List Edit
 deriving DecidableEq
def zfB:zb1:=⟨[],⟨0,[]⟩,[],[],[]⟩
instance:Inhabited zb1:=⟨zfB⟩
def zU(x:zb1):D:= .agg [.sl (x.shards.map zk),.int .i64 x.dead.cap,.sl (x.dead.l.map zm),.sl (zC x.order),.sl (x.carry.map zm),.sl (x.edits.map zfT)]
theorem zG7(x:zb1):(zU x).size=6:=rfl
theorem zG5(x:zb1):(zU x).asAgg=zU x:=rfl
theorem zG6(x:zb1):(zU x).isT=false:=rfl
theorem zri(x:zb1):(zU x).size=6/\(zU x).isT=false/\(zU x).asAgg=zU x:=⟨zG7 x,zG6 x,zG5 x⟩
structure Section where
 phase:Int
 at_:Int
 lock:zbI
 snap:zir
 shards:List zt
 dead:za7
 stripes:List Stripe
 dir:Directory
 out:zb1
 limit:Int
 carry:List zj
 deriving DecidableEq
def zbe:Section:=⟨0,0,⟨[],0,0,0,0⟩,⟨0,0,0,0⟩,[],⟨0,[]⟩,[],⟨0,[],[]⟩,⟨[],⟨0,[]⟩,[],[],[]⟩,0,[]⟩
instance:Inhabited Section:=⟨zbe⟩
def zA(x:Section):D:= .agg [.int .i64 x.phase,.int .i64 x.at_,.sl (zC x.lock.cells),.int .i64 x.lock.phase,.int .i64 x.lock.have_,.int .i64 x.lock.tries,.int .i64 x.lock.wait,.int .i64 x.snap.phase,.int .i64 x.snap.epoch,.int .i64 x.snap.clock,.int .i64 x.snap.stamp,.sl (x.shards.map zk),.int .i64 x.dead.cap,.sl (x.dead.l.map zm),.sl (x.stripes.map zax),.int .i64 x.dir.version,.sl (x.dir.l.map zca),.sl (zC x.dir.forward),.sl (x.out.shards.map zk),.int .i64 x.out.dead.cap,.sl (x.out.dead.l.map zm),.sl (zC x.out.order),.sl (x.out.carry.map zm),.sl (x.out.edits.map zfT),.int .i64 x.limit,.sl (x.carry.map zm)]
theorem zHc(x:Section):(zA x).size=26:=rfl
theorem zHa(x:Section):(zA x).asAgg=zA x:=rfl
theorem zHb(x:Section):(zA x).isT=false:=rfl
theorem zdD(x:Section):(zA x).size=26/\(zA x).isT=false/\(zA x).asAgg=zA x:=⟨zHc x,zHb x,zHa x⟩
structure zeF where
 next:Int
 covered:Int
 deriving DecidableEq
def zdc:zeF:=⟨0,0⟩
instance:Inhabited zeF:=⟨zdc⟩
def zbW(x:zeF):D:= .agg [.int .i64 x.next,.int .i64 x.covered]
structure za1 where
 id:Int
 gen:Int
 route:Int
 hint:Int
 deriving DecidableEq
def zds:za1:=⟨0,0,0,0⟩
instance:Inhabited za1:=⟨zds⟩
def zat(x:za1):D:= .agg [.int .i64 x.id,.int .i64 x.gen,.int .i64 x.route,.int .i64 x.hint]
structure zq where
 number:Int
 inv:Invocation
 invoked:Int
 done:Bool
 ended:Int
 pc:Int
 entry:Int
 results:List Result
 setup:Setup
 sec:Section
 dir:Directory
 walk:zeF
 slot:Int
 id:Int
 handle:za1
 loaded:Int
 first:List Stripe
 second:List Stripe
 deriving DecidableEq
def zE:zq:=⟨0,⟨0,0,0,0,0,0,[],[]⟩,0,false,0,0,0,[],⟨0,0,0,0,0,0,0,0⟩,⟨0,0,⟨[],0,0,0,0⟩,⟨0,0,0,0⟩,[],⟨0,[]⟩,[],⟨0,[],[]⟩,⟨[],⟨0,[]⟩,[],[],[]⟩,0,[]⟩,⟨0,[],[]⟩,⟨0,0⟩,0,0,⟨0,0,0,0⟩,0,[],[]⟩
instance:Inhabited zq:=⟨zE⟩
def zf(x:zq):D:= .agg [.int .i64 x.number,.int .i64 x.inv.kind,.int .i64 x.inv.home,.int .i64 x.inv.max,.int .i64 x.inv.visibility,.int .i64 x.inv.from_,.int .i64 x.inv.to,.sl (x.inv.bodies.map .str),.sl (x.inv.tokens.map zaA),.int .i64 x.invoked,.bool x.done,.int .i64 x.ended,.int .i64 x.pc,.int .i64 x.entry,.sl (x.results.map z7),.int .i64 x.setup.slots,.int .i64 x.setup.live,.int .i64 x.setup.capacity,.int .i64 x.setup.dead,.int .i64 x.setup.limit,.int .i64 x.setup.clock,.int .i64 x.setup.nextID,.int .i64 x.setup.epoch,.int .i64 x.sec.phase,.int .i64 x.sec.at_,.sl (zC x.sec.lock.cells),.int .i64 x.sec.lock.phase,.int .i64 x.sec.lock.have_,.int .i64 x.sec.lock.tries,.int .i64 x.sec.lock.wait,.int .i64 x.sec.snap.phase,.int .i64 x.sec.snap.epoch,.int .i64 x.sec.snap.clock,.int .i64 x.sec.snap.stamp,.sl (x.sec.shards.map zk),.int .i64 x.sec.dead.cap,.sl (x.sec.dead.l.map zm),.sl (x.sec.stripes.map zax),.int .i64 x.sec.dir.version,.sl (x.sec.dir.l.map zca),.sl (zC x.sec.dir.forward),.sl (x.sec.out.shards.map zk),.int .i64 x.sec.out.dead.cap,.sl (x.sec.out.dead.l.map zm),.sl (zC x.sec.out.order),.sl (x.sec.out.carry.map zm),.sl (x.sec.out.edits.map zfT),.int .i64 x.sec.limit,.sl (x.sec.carry.map zm),.int .i64 x.dir.version,.sl (x.dir.l.map zca),.sl (zC x.dir.forward),.int .i64 x.walk.next,.int .i64 x.walk.covered,.int .i64 x.slot,.int .i64 x.id,.int .i64 x.handle.id,.int .i64 x.handle.gen,.int .i64 x.handle.route,.int .i64 x.handle.hint,.int .i64 x.loaded,.sl (x.first.map zax),.sl (x.second.map zax)]
theorem zvj(x:zq):(zf x).size=63:=rfl
theorem zHm(x:zq):(zf x).asAgg=zf x:=rfl
theorem zHn(x:zq):(zf x).isT=false:=rfl
theorem zQ(x:zq):(zf x).size=63/\(zf x).isT=false/\(zf x).asAgg=zf x:=⟨zvj x,zHn x,zHm x⟩
theorem zRV(l:List zq):zas 63 (l.map zf)=true:=by simp [zas,zvj]
structure zt0 where
 id:Int
 state:Int
 count:Int
 gen:Int
 route:Int
 deadline:Int
 deriving DecidableEq
def zabf:zt0:=⟨0,0,0,0,0,0⟩
instance:Inhabited zt0:=⟨zabf⟩
structure Bag where
 limit:Int
 now:Int
 epoch:Int
 l:List zt0
 deriving DecidableEq
def zBag:Bag:=⟨0,0,0,[]⟩
instance:Inhabited Bag:=⟨zBag⟩
structure Grant where
 id:Int
 gen:Int
 route:Int
 deadline:Int
 deriving DecidableEq
def zabe:Grant:=⟨0,0,0,0⟩
instance:Inhabited Grant:=⟨zabe⟩
def zbt(x:Grant):D:= .agg [.int .i64 x.id,.int .i64 x.gen,.int .i64 x.route,.int .i64 x.deadline]
theorem zGZ(x:Grant):(zbt x).size=4:=rfl
theorem zUA(x:Grant):(zbt x).isT=false:=rfl
theorem zRP(l:List Grant):zas 4 (l.map zbt)=true:=by simp [zas,zGZ]
structure Event where
 stamp:Int
 task:Int
 entry:Int
 kind:Int
 now:Int
 epoch:Int
 err:Int
 l:List Grant
 ready:Int
 leased:Int
 deriving DecidableEq
def zbw:Event:=⟨0,0,0,0,0,0,0,[],0,0⟩
instance:Inhabited Event:=⟨zbw⟩
def zaw(x:Event):D:= .agg [.int .i64 x.stamp,.int .i64 x.task,.int .i64 x.entry,.int .i64 x.kind,.int .i64 x.now,.int .i64 x.epoch,.int .i64 x.err,.sl (x.l.map zbt),.int .i64 x.ready,.int .i64 x.leased]
theorem zGY(x:Event):(zaw x).size=10:=rfl
theorem zahp(x:Event):(zaw x).asAgg=zaw x:=rfl
theorem zahq(x:Event):(zaw x).isT=false:=rfl
theorem zafR(x:Event):(zaw x).size=10/\(zaw x).isT=false/\(zaw x).asAgg=zaw x:=⟨zGY x,zahq x,zahp x⟩
theorem zRO(l:List Event):zas 10 (l.map zaw)=true:=by simp [zas,zGY]
structure World where
 setup:Setup
 arena:zy
 tasks:List zq
 log:List Event
 steps:Int
 handles:List (List UInt8)
 deriving DecidableEq
def zbc:World:=⟨⟨0,0,0,0,0,0,0,0⟩,⟨[],[],⟨0,⟨0,[]⟩⟩,⟨0,[],[]⟩,0,0,0⟩,[],[],0,[]⟩
instance:Inhabited World:=⟨zbc⟩
def zF(x:World):D:= .agg [.int .i64 x.setup.slots,.int .i64 x.setup.live,.int .i64 x.setup.capacity,.int .i64 x.setup.dead,.int .i64 x.setup.limit,.int .i64 x.setup.clock,.int .i64 x.setup.nextID,.int .i64 x.setup.epoch,.sl (x.arena.slots.map zfU),.sl (x.arena.stripes.map zax),.int .i64 x.arena.dead.owner,.int .i64 x.arena.dead.dead.cap,.sl (x.arena.dead.dead.l.map zm),.int .i64 x.arena.dir.version,.sl (x.arena.dir.l.map zca),.sl (zC x.arena.dir.forward),.int .i64 x.arena.epoch,.int .i64 x.arena.clock,.int .i64 x.arena.nextID,.sl (x.tasks.map zf),.sl (x.log.map zaw),.int .i64 x.steps,.sl (x.handles.map zaA)]
theorem zHq(x:World):(zF x).size=23:=rfl
theorem zHo(x:World):(zF x).asAgg=zF x:=rfl
theorem zHp(x:World):(zF x).isT=false:=rfl
theorem za6(x:World):(zF x).size=23/\(zF x).isT=false/\(zF x).asAgg=zF x:=⟨zHq x,zHp x,zHo x⟩
structure Ref where
 index:Int
 variant:Int
 raw:List UInt8
 deriving DecidableEq
def zRef:Ref:=⟨0,0,[]⟩
instance:Inhabited Ref:=⟨zRef⟩
def zhE(x:Ref):D:= .agg [.int .i64 x.index,.int .i64 x.variant,.sl (byD x.raw)]
structure Command where
 kind:Int
 pick:Int
 by_:Int
 inv:Invocation
 refs:List Ref
 deriving DecidableEq
def zRp:Command:=⟨0,0,0,⟨0,0,0,0,0,0,[],[]⟩,[]⟩
instance:Inhabited Command:=⟨zRp⟩
def zaW(x:Command):D:= .agg [.int .i64 x.kind,.int .i64 x.pick,.int .i64 x.by_,.int .i64 x.inv.kind,.int .i64 x.inv.home,.int .i64 x.inv.max,.int .i64 x.inv.visibility,.int .i64 x.inv.from_,.int .i64 x.inv.to,.sl (x.inv.bodies.map .str),.sl (x.inv.tokens.map zaA),.sl (x.refs.map zhE)]
theorem zvg(x:Command):(zaW x).size=12:=rfl
theorem zGW(x:Command):(zaW x).asAgg=zaW x:=rfl
theorem zGX(x:Command):(zaW x).isT=false:=rfl
theorem zUm(x:Command):(zaW x).size=12/\(zaW x).isT=false/\(zaW x).asAgg=zaW x:=⟨zvg x,zGX x,zGW x⟩
theorem zRN(l:List Command):zas 12 (l.map zaW)=true:=by simp [zas,zvg]
theorem zai9(x y:Due):(decide (x.1=y.1)&&decide (x.2=y.2))=decide (x=y):=by
 cases x;cases y
 apply zacD.2;simp
theorem zaje{H:zd}{ng:Bool}(x y:Due):zrk H ng 2 [(0,0),(1,0)] (.d (eD x)) (.d (eD y))=zCG H ng (some (decide (x=y))):=by
 rw[<- zai9];simp only[zrk,eD,zgN,zvm,zabu,zabw,zadG,zad2,zabY,zab8,if_true,zacK,zabU,Nat.reduceAdd,zadF]
theorem zajb(x y:zj):(decide (x.id=y.id)&&(decide (x.route=y.route)&&(decide (x.epoch=y.epoch)&&(decide (x.count=y.count)&&(decide (x.gen=y.gen)&&(decide (x.sent=y.sent)&&decide (x.body=y.body)))))))=decide (x=y):=by
 cases x;cases y
 apply zacD.2;simp
theorem zajg{H:zd}{ng:Bool}(x y:zj):zrk H ng 7 [(0,0),(1,0),(2,0),(3,0),(4,0),(5,0),(6,2)] (.d (zm x)) (.d (zm y))=zCG H ng (some (decide (x=y))):=by
 rw[<- zajb];simp only[zrk,zm,zgN,zvm,zabu,zabw,zadG,zad2,zabY,zab8,if_true,zacK,zabU,Nat.reduceAdd,zadF]
theorem zajd(x y:Stripe):(decide (x.seq=y.seq)&&(decide (x.epoch=y.epoch)&&(decide (x.ready=y.ready)&&decide (x.leased=y.leased))))=decide (x=y):=by
 cases x;cases y
 apply zacD.2;simp
theorem zaji{H:zd}{ng:Bool}(x y:Stripe):zrk H ng 4 [(0,0),(1,0),(2,0),(3,0)] (.d (zax x)) (.d (zax y))=zCG H ng (some (decide (x=y))):=by
 rw[<- zajd];simp only[zrk,zax,zgN,zvm,zabu,zabw,zadG,zad2,zabY,zab8,if_true,zacK,zabU,Nat.reduceAdd,zadF]
theorem zaja(x y:zG):(decide (x.msg.id=y.msg.id)&&(decide (x.msg.route=y.msg.route)&&(decide (x.msg.epoch=y.msg.epoch)&&(decide (x.msg.count=y.msg.count)&&(decide (x.msg.gen=y.msg.gen)&&(decide (x.msg.sent=y.msg.sent)&&(decide (x.msg.body=y.msg.body)&&decide (x.deadline=y.deadline))))))))=decide (x=y):=by
 obtain⟨⟨x1,x2,x3,x4,x5,x6,x7⟩,x8⟩:=x;obtain⟨⟨y1,y2,y3,y4,y5,y6,y7⟩,y8⟩:=y;apply zacD.2;simp [and_assoc]
theorem zajf{H:zd}{ng:Bool}(x y:zG):zrk H ng 8 [(0,0),(1,0),(2,0),(3,0),(4,0),(5,0),(6,2),(7,0)] (.d (zaI x)) (.d (zaI y))=zCG H ng (some (decide (x=y))):=by
 rw[<- zaja];simp only[zrk,zaI,zgN,zvm,zabu,zabw,zadG,zad2,zabY,zab8,if_true,zacK,zabU,Nat.reduceAdd,zadF]
theorem zajc(x y:Span):(decide (x.low=y.low)&&(decide (x.high=y.high)&&decide (x.shard=y.shard)))=decide (x=y):=by
 cases x;cases y
 apply zacD.2;simp
theorem zajh{H:zd}{ng:Bool}(x y:Span):zrk H ng 3 [(0,0),(1,0),(2,0)] (.d (zca x)) (.d (zca y))=zCG H ng (some (decide (x=y))):=by
 rw[<- zajc];simp only[zrk,zca,zgN,zvm,zabu,zabw,zadG,zad2,zabY,zab8,if_true,zacK,zabU,Nat.reduceAdd,zadF]
attribute [go_sem high] zaje zajg zaji zajf zajh
attribute [go_sem] zt6 zRX zRZ zUn ze5 zfS zUo zjJ zUP zHk zUO zUQ zRT zUt zUv zUs zUu zUx zUz zUw zUy zHg zHd zHf zUK zG4 zUJ zUL zt5 zai5 zai7 zai6 zUD zG3 zUC zUE zjI zUU zUW zUT zUV zUM zvi zHh zHi zRR zUN zHj zRS zHl zUR zUS zRU zUp zUr zUq zUl zGV zGT zGU zG2 zG0 zG1 zvh zG8 zG9 zRQ zUG zUI zUF zUH zG7 zG5 zG6 zHc zHa zHb zvj zHm zHn zRV zGZ zUA zRP zGY zahp zahq zRO zHq zHo zHp zvg zGW zGX zRN
theorem ztW{k n:Nat}(h:k<n)(hn:n<=LIM):IntKind.i64.wrap ((k:Int)+1)=((k+1:Nat):Int):=by
 unfold LIM at hn;rw[Go.IntWalk.i64_in _ zo];simp
def zrb(a b:Int):Int:=if a<b then -1 else if b<a then 1 else 0
def zGJ(a b:Due):Int:=if zrb a.1 b.1=0 then zrb a.2 b.2 else zrb a.1 b.1
def lt(a b:Due):Bool:=decide (zGJ a b<0)
def zdZ(d:Due):Bool:=decide (0<=d.1)&&(decide (d.1<=1073741824)&&(decide (1<=d.2)&&decide (d.2<=1073741824)))
def zbh(h:List Due)(j:Int):Int:=zbP (fun d=>decide (d.2=j)) h
theorem zRn{x:Int}(h0: -4294967296<=x)(h1:x<=4294967296):IntKind.i64.wrap x=x:=wr zo
abbrev zB(l:List Int)(a:Nat):Go.Sim.Obj:= .row [.d (.agg [.sl (zC l),.int .i64 a])]
theorem zZ2(l:List Int)(hL:l.length<=LIM):zi G zll [.d (.sl (zC l))] []=some (.ref 0 0 0,[(0,zB (l.take 4000) 0)]):=by
 have hs:=zt6 l
 by_cases h:4000<l.length
 ·have e:zC (l.take 4000)=(zC l).take 4000:=by simp [zC,zac7]
  simp only[zB,e];exact zW zHW
 ·have e:l.take 4000=l:=zada zo;simp only[zB,e];exact zW zHW
def za0(l:List Int)(a:Nat):Int×Nat:=if a<l.length then (l.getD a 0,a+1) else (0,a)
theorem z6R(l:List Int)(a:Nat)(hL:l.length<=4000):zi G znZ [.ref 1000000 0 0] [(1000000,zB l a)]=some (.d (.int .i64 (za0 l a).1),[(1000000,zB l (za0 l a).2)]):=by
 unfold za0;have e:((a:Int)+1 - 1).toNat=a:=by omega
 by_cases h:a<l.length
 ·simp only[h,if_true];exact zW zHZ
 ·simp only[h,if_false];exact zW zHZ
def nD(l:List Int)(a:Nat)(n:Int):Int:=if (za0 l a).1.tmod n<0 then (za0 l a).1.tmod n+n else (za0 l a).1.tmod n
theorem zbE(l:List Int)(a:Nat){n:Int}(h:1<=n):0<=nD l a n/\nD l a n<n:=by
 unfold nD;have h1:=zadT (za0 l a).1 (show 0<n by omega);have h2:=Int.lt_tmod_of_pos (za0 l a).1 (show 0<n by omega)
 split<;>omega
theorem zgr(l:List Int)(a:Nat)(n:Int)(hL:l.length<=4000)(h1:1<=n)(h2:n<=4294967296):zi G znW [.ref 1000000 0 0,.d (.int .i64 n)] [(1000000,zB l a)]=some (.d (.int .i64 (nD l a n)),[(1000000,zB l (za0 l a).2)]):=by
 have hr:=z6R l a hL;have h3:=zadT (za0 l a).1 (show 0<n by omega);have h4:=Int.lt_tmod_of_pos (za0 l a).1 (show 0<n by omega);unfold nD
 by_cases h:(za0 l a).1.tmod n<0
 ·simp only[h,if_true];exact zW zHY
 ·simp only[h,if_false];exact zW zHY
theorem zng(l:List Int)(a:Nat)(lo hi:Int)(hL:l.length<=4000)(h0: -4294967296<=lo)(h1:lo<=hi)(h2:hi<=4294967296)(h3:hi - lo<4294967296):zi G znY [.ref 1000000 0 0,.d (.int .i64 lo),.d (.int .i64 hi)] [(1000000,zB l a)]=some (.d (.int .i64 (lo+nD l a (hi - lo+1))),[(1000000,zB l (za0 l a).2)]):=by
 have hr:=zgr l a (hi - lo+1) hL zo zo;have hn:=zbE l a (show 1<=hi - lo+1 by omega);exact zW zWF
def zhD(h:List Due)(i:Nat):Bool:=decide (zbh h (h.getD i (0,0)).2≠i)
def zh4(h:List Due)(i:Nat):Bool:=lt (h.getD i (0,0)) (h.getD ((i - 1) / 2) (0,0))
def zce(h:List Due):Int:=if 12<h.length then 2 else if h.any (fun d=> !zdZ d) then 1 else if (List.range' 0 h.length).any (zhD h) then 10 else if (List.range' 1 (h.length - 1)).any (zh4 h) then 11 else 0
def swp(l:List Due)(i j:Nat):List Due:=(l.set i (l.getD j (0,0))).set j (l.getD i (0,0))
theorem zcP(l:List Due)(i j:Nat):(swp l i j).length=l.length:=by simp [swp]
def upL(l:List Due)(i:Nat):List Due×Nat:=
 if 0<i then
  if lt (l.getD i (0,0)) (l.getD ((i - 1) / 2) (0,0)) then upL (swp l i ((i - 1) / 2)) ((i - 1) / 2) else (l,i)
 else (l,i)
termination_by i
decreasing_by omega
theorem zaaR(l:List Due)(i:Nat):(upL l i).1.length=l.length:=by
 fun_induction upL l i with
 | case1 l i h0 h1 ih=>rw[ih,zcP]
 | case2=>rfl
 | case3=>rfl
def zbs(l:List Due)(i:Nat):List Due:=
 if _h:2 * i+1<l.length then
  let k:=if 2 * i+1+1<l.length/\lt (l.getD (2 * i+1+1) (0,0)) (l.getD (2 * i+1) (0,0)) then 2 * i+1+1 else 2 * i+1
  if lt (l.getD k (0,0)) (l.getD i (0,0)) then zbs (swp l i k) k else l
 else l
termination_by l.length - i
decreasing_by simp only[zcP];split<;>omega
def zfk(h:List Due)(d:Due):List Due:=(upL (h++[d]) h.length).1
def zm9(h:List Due)(d:Due):Int:=if zce h≠0 then zce h else if zdZ d=false then 1 else if h.length=12 then 3 else if 0<=zbh h d.2 then 10 else 0
def zfj(h:List Due)(d:Due):List Due×Int:=(if zm9 h d=0 then zfk h d else [],zm9 h d)
def eDE(r:List Due×Int):D:= .tup [.sl (r.1.map eD),.int .i64 r.2]
theorem zDe{h:List Due}(h0:zce h=0):h.length<=12:=by
 unfold zce at h0
 split at h0
 ·cases h0
 ·omega
def zdB(h:List Due)(i:Nat):List Due:=
 if i=h.length - 1 then h.take (h.length - 1) else
 let l:=(h.take (h.length - 1)).set i (h.getD (h.length - 1) (0,0))
 if (upL l i).2=i then zbs (upL l i).1 i else (upL l i).1
def zb6(h:List Due)(id:Int):List Due×Int:=
 if zce h≠0 then ([],zce h) else if zbh h id<0 then ([],4) else (zdB h (zbh h id).toNat,0)
theorem zV1(h:List Due)(id:Int):zbh h id<h.length:=by
 unfold zbh zbP
 cases e:List.findIdx? (fun d:Due=>decide (d.2=id)) h with
 | none=>simp only;omega
 | some i=>have:=(zact.1 e).1;simp only;omega
abbrev dz:Due:=(0,0)
theorem zBe(a b:Due):lt a b=true↔a.1<b.1\/(a.1=b.1/\a.2<b.2):=by
 unfold lt zGJ zrb;rw[decide_eq_true_iff]
 repeat' split
 all_goals omega
theorem zg6(a b:Due):lt a b=false↔b.1<a.1\/(b.1=a.1/\b.2<=a.2):=by
 rw[<- zac3,zBe];omega
theorem zi0{a b:Due}(h:lt a b=true):lt b a=false:=by rw[zBe] at h;rw[zg6];omega
theorem ziV{a b c:Due}(h1:lt b a=false)(h2:lt c b=false):lt c a=false:=by rw[zg6] at *; omega
def zin(l:List Due):Prop:=∀k,1<=k->k<l.length->lt (l.getD k dz) (l.getD ((k - 1) / 2) dz)=false
theorem zCW(l:List Due)(i j k:Nat)(hi:i<l.length)(hj:j<l.length):(swp l i j).getD k dz=if k=j then l.getD i dz else if k=i then l.getD j dz else l.getD k dz:=by
 unfold swp;simp only[zab0,zadh,zacb]
 by_cases h1:j=k
 ·subst h1;simp [hj]
 ·rw[zabn h1,zabn (Ne.symm h1)]
  by_cases h2:i=k
  ·subst h2;simp [hi]
  ·rw[zabn h2,zabn (Ne.symm h2)]
theorem zCX(l:List Due)(i j:Nat)(hi:i<l.length)(hj:j<l.length):(swp l i j).Perm l:=by
 unfold swp;have:=List.set_set_perm hi hj;simpa [hi,hj] using this
theorem zRf(l:List Due)(i:Nat)(hi:i<l.length):(upL l i).1.Perm l:=by
 fun_induction upL l i with
 | case1 l i h0 h1 ih=>exact (ih (by rw[zcP];omega)).trans (zCX l _ _ hi zo)
 | case2=>exact .refl _
 | case3=>exact .refl _
theorem zRe (l:List Due) (i:Nat) (hi:i<l.length) (h1:∀k,1<=k->k<l.length->k≠i->lt (l.getD k dz) (l.getD ((k - 1) / 2) dz)=false)
    (h2:∀k,1<=k->k<l.length->(k - 1) / 2=i->1<=i->lt (l.getD k dz) (l.getD ((i - 1) / 2) dz)=false):zin (upL l i).1:=by
 fun_induction upL l i with
 | case1 l i h0 hlt ih=>
  have hp:(i - 1) / 2<l.length:=by omega
  have e:=fun k=>zCW l i ((i - 1) / 2) k hi hp;refine ih (by rw[zcP];omega) (fun k ha hb hc=> ?_) (fun k ha hb hc hd=> ?_)
  ·rw[zcP] at hb;rw[e,e]
   by_cases hk:k=i
   ·subst hk;rw[zabn zo,zabo rfl,zabo rfl];exact zi0 hlt
   ·rw[zabn hc,zabn hk]
    by_cases hq:(k - 1) / 2=(i - 1) / 2
    ·rw[zabo hq];have:=h1 k ha hb hk;rw[hq] at this;exact ziV (zi0 hlt) this
    ·rw[zabn hq]
     by_cases hr:(k - 1) / 2=i
     ·rw[zabo hr];exact h2 k ha hb hr zo
     ·rw[zabn hr];exact h1 k ha hb hk
  ·rw[zcP] at hb;rw[e,e,zabn (show k≠(i - 1) / 2 by omega),zabn (show ((i - 1) / 2 - 1) / 2≠(i - 1) / 2 by omega),zabn (show ((i - 1) / 2 - 1) / 2≠i by omega)];have hpp:=h1 ((i - 1) / 2) hd hp zo
   by_cases hk:k=i
   ·rw[zabo hk];exact hpp
   ·rw[zabn hk];have:=h1 k ha hb hk;rw[hc] at this;exact ziV hpp this
 | case2 l i h0 hlt=>
  intro k ha hb
  by_cases hk:k=i
  ·subst hk;simpa using hlt
  ·exact h1 k ha hb hk
 | case3 l i h0=>
  intro k ha hb;exact h1 k ha hb zo
theorem zUa(l:List Due)(i:Nat)(hi:i<l.length):(zbs l i).Perm l:=by
 fun_induction zbs l i with
 | case1 l i h k h1 ih=>
  have hk:k<l.length:=by simp only[k];split<;>omega
  exact (ih (by rw[zcP];exact hk)).trans (zCX l _ _ hi hk)
 | case2=>exact .refl _
 | case3=>exact .refl _
theorem zT9 (l:List Due) (i:Nat) (hi:i<l.length) (h1:∀k,1<=k->k<l.length->(k - 1) / 2≠i->lt (l.getD k dz) (l.getD ((k - 1) / 2) dz)=false)
    (h2:∀k,1<=k->k<l.length->(k - 1) / 2=i->1<=i->lt (l.getD k dz) (l.getD ((i - 1) / 2) dz)=false):zin (zbs l i):=by
 fun_induction zbs l i with
 | case1 l i h k hlt ih=>
  have hk:k<l.length/\i<k/\(k - 1) / 2=i/\∀q,1<=q->q<l.length->(q - 1) / 2=i->lt (l.getD q dz) (l.getD k dz)=false:=by
   simp only[k]
   split
   ·rename_i hc;refine⟨by omega,by omega,by omega,fun q ha hb hq=> ?_⟩;have:q=2 * i+1\/q=2 * i+1+1:=by omega
    rcases this with rfl|rfl
    ·exact zi0 hc.2
    ·rw[zg6];omega
   ·rename_i hc;refine⟨by omega,by omega,by omega,fun q ha hb hq=> ?_⟩;have:q=2 * i+1\/q=2 * i+1+1:=by omega
    rcases this with rfl|rfl
    ·rw[zg6];omega
    ·simp only[hb,zacB,zac3] at hc;exact hc
  obtain⟨hk1,hk2,hk3,hk4⟩:=hk
  clear_value k
  have e:=fun q=>zCW l i k q hi hk1;refine ih (by rw[zcP];exact hk1) (fun q ha hb hc=> ?_) (fun q ha hb hc hd=> ?_)
  ·rw[zcP] at hb;rw[e,e]
   by_cases hq:q=k
   ·subst hq;rw[zabo rfl,hk3,zabn zo,zabo rfl];exact zi0 hlt
   ·rw[zabn hq,zabn hc]
    by_cases hr:q=i
    ·subst hr;rw[zabo rfl,zabn zo];exact h2 k zo hk1 hk3 ha
    ·rw[zabn hr]
     by_cases hs:(q - 1) / 2=i
     ·rw[zabo hs];exact hk4 q ha hb hs
     ·rw[zabn hs];exact h1 q ha hb hs
  ·rw[zcP] at hb;rw[e,e,zabn (show q≠k by omega),zabn (show q≠i by omega),hk3,zabn zo,zabo rfl];have:=h1 q ha hb zo;rw[hc] at this;exact this
 | case2 l i h k hlt=>
  intro q ha hb
  by_cases hq:(q - 1) / 2=i
  ·have hlt:lt (l.getD k dz) (l.getD i dz)=false:=by simpa using hlt
   rw[hq];refine ziV hlt ?_;simp only[k];have:q=2 * i+1\/q=2 * i+1+1:=by omega
   split
   ·rename_i hc
    rcases this with rfl|rfl
    ·exact zi0 hc.2
    ·rw[zg6];omega
   ·rename_i hc
    rcases this with rfl|rfl
    ·rw[zg6];omega
    ·simp only[hb,zacB,zac3] at hc;exact hc
  ·exact h1 q ha hb hq
 | case3 l i h=>
  intro q ha hb;exact h1 q ha hb zo
end Go.Proofs.YtnmcgdpmikhohaaGreat
