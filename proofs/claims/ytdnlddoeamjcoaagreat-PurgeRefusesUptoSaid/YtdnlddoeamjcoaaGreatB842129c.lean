/-
  Directories.
-/
import Derived.Test.YtdnlddoeamjcoaaGreatB7ede0f0
import Derived.KernelRfl
import Derived.Test.YtdnlddoeamjcoaaGreatB22e9c78
import Derived.IntWalk
set_option linter.unusedSimpArgs false
set_option linter.unusedVariables false
set_option maxHeartbeats 10000000
set_option maxRecDepth 100000
namespace Go.Proofs.YtdnlddoeamjcoaaGreat
open Go Go.Sim
def tab:List (Nat×AFn):=[(zlz,zvI),(zlA,zvS),(zn5,zvR),(zn2,zvO),(zn0,zvM),(zn3,zvP),(zn4,zvQ),(znZ,zvL),(ziN,zvK),(zn1,zvN),(zjN,zvJ),(zn6,zvT),(zl8,zza),(zl5,zy4),(zb7,zxG),(zpE,zxO),(zcc,zxo),(zoR,zwT),(zlK,zwj),(zoW,zwY),(zo5,zxa),(zo9,zxe),(zf5,zy9),(zl6,zy5),(zl7,zy6),(zjS,zy8),(zcP,zy2),(zp9,zym),(zlU,zyt),(zqb,zyo),(zps,zxB),(zp8,zyl),(zp5,zyg),(zp4,zyf),(zpq,zxz),(zlE,zv4),(zjO,zv0),(zoe,zv5),(zp2,zyd),(zqc,zyp),(zpu,zxD),(zph,zxp),(zpj,zxr),(zpk,zxs),(zqe,zyr),(zpN,zxY),(zpK,zxU),(zqa,zyn),(zpO,zxZ),(zpX,zx8),(zpL,zxV),(zpC,zxM),(zpI,zxS),(zpx,zxH),(zpF,zxP),(zpD,zxN),(zpS,zx3),(zpW,zx7),(zpV,zx6),(zpw,zxF),(zpG,zxQ),(zpl,zxt),(zpA,zxK),(zpH,zxR),(zpU,zx5),(zpt,zxC),(zpv,zxE),(zpM,zxW),(zpY,zx9),(zpy,zxI),(zpd,zxi),(zpe,zxj),(zlI,zwe),(zol,zwg),(zlF,zv7),(zpz,zxJ),(zo2,zw5),(zoo,zwn),(zlL,zwo),(zoG,zwH),(zou,zwu),(zoy,zwz),(zox,zwy),(zov,zwv),(zoH,zwI),(zlN,zwL),(zlO,zw1),(zlJ,zwi),(zoT,zwV),(zp0,zyb),(zpT,zx4),(zpJ,zxT),(zpR,zx2),(zpf,zxm),(zpr,zxA),(zpZ,zya),(zpP,zx0),(zlR,zxu),(zoN,zwP),(zoU,zwW),(zlP,zw6),(zlQ,zw9),(zlG,zv9),(zoj,zwd),(zqg,zyu),(zpQ,zx1),(zoX,zwZ),(zlT,zyk),(zlS,zxX),(zqf,zys),(zoZ,zw2),(zp1,zyc),(zp3,zye),(zlD,zv3),(zog,zv8),(zoY,zw0),(zjP,zwk),(zop,zwp),(zoq,zwq),(zlV,zyw),(zqh,zyv),(zpg,zxn),(zpi,zxq),(zqi,zyx),(zqk,zyz),(zoQ,zwS),(zo6,zxb),(zoE,zwF),(zot,zwt),(zlM,zww),(zoA,zwB),(zoz,zwA),(zow,zwx),(zoC,zwD),(zoF,zwG),(zos,zws),(zo0,zw3),(zo7,zxc),(zoh,zwa),(zof,zv6),(zon,zwm),(zok,zwf),(zoD,zwE),(zor,zwr),(zqj,zyy),(ziO,zxk),(zod,zv2),(zlW,zyA),(zjR,zxl),(zob,zvZ),(zoc,zv1),(zqm,zyC),(zql,zyB),(zqn,zyD),(zoJ,zwK),(zo4,zw8),(zoS,zwU),(zoV,zwX),(zjQ,zwl),(zoL,zwN),(zoB,zwC),(zqo,zyE),(zlX,zyF),(zpm,zxv),(zpn,zxw),(zpo,zxx),(zpp,zxy),(zlY,zyG),(zqp,zyH),(zqq,zyI),(zpc,zxh),(zoi,zwc),(zlH,zwb),(zoI,zwJ),(zlZ,zyJ),(zqd,zyq),(zqt,zyM),(zqu,zyN),(zqr,zyK),(zoO,zwQ),(zom,zwh),(zqs,zyL),(zl0,zyO),(zqx,zyR),(zqy,zyS),(zqv,zyP),(zoP,zwR),(zo3,zw7),(zqw,zyQ),(zl1,zyT),(zqB,zyW),(zqC,zyX),(zqz,zyU),(zo1,zw4),(zqA,zyV),(zl2,zyY),(zqD,zyZ),(zo8,zxd),(zoM,zwO),(zl3,zy0),(zqE,zy1),(zpb,zxg),(zoK,zwM),(zpa,zxf),(zqF,zy7),(zpB,zxL),(zqG,zzb),(zl4,zy3),(zp6,zyh),(zcZ,zyi),(zp7,zyj),(zlC,zvX),(zoa,zvY),(znX,zvG),(zn8,zvV),(zqH,zzc),(zn7,zvU),(znW,zvF),(znY,zvH),(zqK,zzf),(zqI,zzd),(zqJ,zze),(zlB,zHV),(zDC,zHU),(zDB,zHT),(zub,zHY),(zDE,zHX),(zDD,zHW),(zn9,zvW)]
def G:FuncId->Option AFn:=fun f=>Go.Sim.look f tab
theorem zH9:G zlz=some zvI:=tk
theorem zId:G zlA=some zvS:=tk
theorem zrI:G zn5=some zvR:=tk
theorem zXm:G zn2=some zvO:=tk
theorem zIb:G zn0=some zvM:=tk
theorem zIc:G zn3=some zvP:=tk
theorem zXn:G zn4=some zvQ:=tk
theorem zXk:G znZ=some zvL:=tk
theorem zfx:G ziN=some zvK:=tk
theorem zXl:G zn1=some zvN:=tk
theorem zIa:G zjN=some zvJ:=tk
theorem zzk:G zn6=some zvT:=tk
theorem zzT:G zl8=some zza:=tk
theorem zIY:G zl5=some zy4:=tk
theorem zhg:G zb7=some zxG:=tk
theorem zXO:G zpE=some zxO:=tk
theorem zXH:G zcc=some zxo:=tk
theorem zIr:G zoR=some zwT:=tk
theorem zIk:G zlK=some zwj:=tk
theorem zzC:G zoW=some zwY:=tk
theorem zIv:G zo5=some zxa:=tk
theorem zIw:G zo9=some zxe:=tk
theorem zfz:G zf5=some zy9:=tk
theorem zIZ:G zl6=some zy5:=tk
theorem zmB:G zl7=some zy6:=tk
theorem zzS:G zjS=some zy8:=tk
theorem zdR:G zcP=some zy2:=tk
theorem zX3:G zp9=some zym:=tk
theorem zfg:G zlU=some zyt:=tk
theorem zIL:G zqb=some zyo:=tk
theorem zXJ:G zps=some zxB:=tk
theorem zX2:G zp8=some zyl:=tk
theorem zIJ:G zp5=some zyg:=tk
theorem zmA:G zp4=some zyf:=tk
theorem zjc:G zpq=some zxz:=tk
theorem zzn:G zlE=some zv4:=tk
theorem zzm:G zjO=some zv0:=tk
theorem zXq:G zoe=some zv5:=tk
theorem zXY:G zp2=some zyd:=tk
theorem zX4:G zqc=some zyp:=tk
theorem zXL:G zpu=some zxD:=tk
theorem zrV:G zph=some zxp:=tk
theorem zh8:G zpj=some zxr:=tk
theorem zIy:G zpk=some zxs:=tk
theorem zX5:G zqe=some zyr:=tk
theorem zIF:G zpN=some zxY:=tk
theorem zzO:G zpK=some zxU:=tk
theorem zIK:G zqa=some zyn:=tk
theorem zIG:G zpO=some zxZ:=tk
theorem zff:G zpX=some zx8:=tk
theorem zgn:G zpL=some zxV:=tk
theorem zzL:G zpC=some zxM:=tk
theorem zXQ:G zpI=some zxS:=tk
theorem zXM:G zpx=some zxH:=tk
theorem zIE:G zpF=some zxP:=tk
theorem zzM:G zpD=some zxN:=tk
theorem zXU:G zpS=some zx3:=tk
theorem zXW:G zpW=some zx7:=tk
theorem zmz:G zpV=some zx6:=tk
theorem zIC:G zpw=some zxF:=tk
theorem zXP:G zpG=some zxQ:=tk
theorem zrW:G zpl=some zxt:=tk
theorem zkt:G zpA=some zxK:=tk
theorem zzN:G zpH=some zxR:=tk
theorem zrY:G zpU=some zx5:=tk
theorem zXK:G zpt=some zxC:=tk
theorem zIB:G zpv=some zxE:=tk
theorem zXS:G zpM=some zxW:=tk
theorem zh9:G zpY=some zx9:=tk
theorem zID:G zpy=some zxI:=tk
theorem zXG:G zpd=some zxi:=tk
theorem zzG:G zpe=some zxj:=tk
theorem zzo:G zlI=some zwe:=tk
theorem zzp:G zol=some zwg:=tk
theorem zIg:G zlF=some zv7:=tk
theorem zrX:G zpz=some zxJ:=tk
theorem zhe:G zo2=some zw5:=tk
theorem zms:G zoo=some zwn:=tk
theorem zXv:G zlL=some zwo:=tk
theorem zkq:G zoG=some zwH:=tk
theorem zXy:G zou=some zwu:=tk
theorem zXB:G zoy=some zwz:=tk
theorem zXA:G zox=some zwy:=tk
theorem zXz:G zov=some zwv:=tk
theorem zIo:G zoH=some zwI:=tk
theorem zIq:G zlN=some zwL:=tk
theorem zIs:G zlO=some zw1:=tk
theorem zIj:G zlJ=some zwi:=tk
theorem zXE:G zoT=some zwV:=tk
theorem zII:G zp0=some zyb:=tk
theorem zXV:G zpT=some zx4:=tk
theorem zXR:G zpJ=some zxT:=tk
theorem zmy:G zpR=some zx2:=tk
theorem zeC:G zpf=some zxm:=tk
theorem zzK:G zpr=some zxA:=tk
theorem zia:G zpZ=some zya:=tk
theorem zIH:G zpP=some zx0:=tk
theorem zmx:G zlR=some zxu:=tk
theorem zrP:G zoN=some zwP:=tk
theorem zzA:G zoU=some zwW:=tk
theorem zIt:G zlP=some zw6:=tk
theorem zIu:G zlQ=some zw9:=tk
theorem zIi:G zlG=some zv9:=tk
theorem zXu:G zoj=some zwd:=tk
theorem zrZ:G zqg=some zyu:=tk
theorem zXT:G zpQ=some zx1:=tk
theorem zrQ:G zoX=some zwZ:=tk
theorem zX1:G zlT=some zyk:=tk
theorem zjd:G zlS=some zxX:=tk
theorem zX6:G zqf=some zys:=tk
theorem zzD:G zoZ=some zw2:=tk
theorem zXX:G zp1=some zyc:=tk
theorem zXZ:G zp3=some zye:=tk
theorem zrK:G zlD=some zv3:=tk
theorem zIh:G zog=some zv8:=tk
theorem zjb:G zoY=some zw0:=tk
theorem zIl:G zjP=some zwk:=tk
theorem zmt:G zop=some zwp:=tk
theorem zXw:G zoq=some zwq:=tk
theorem zgI:G zlV=some zyw:=tk
theorem zIM:G zqh=some zyv:=tk
theorem zzH:G zpg=some zxn:=tk
theorem zzI:G zpi=some zxq:=tk
theorem zib:G zqi=some zyx:=tk
theorem zX7:G zqk=some zyz:=tk
theorem zja:G zoQ=some zwS:=tk
theorem zzE:G zo6=some zxb:=tk
theorem zIn:G zoE=some zwF:=tk
theorem zXx:G zot=some zwt:=tk
theorem zrN:G zlM=some zww:=tk
theorem zXD:G zoA=some zwB:=tk
theorem zXC:G zoz=some zwA:=tk
theorem zIm:G zow=some zwx:=tk
theorem zzu:G zoC=some zwD:=tk
theorem zzv:G zoF=some zwG:=tk
theorem zzt:G zos=some zws:=tk
theorem zhd:G zo0=some zw3:=tk
theorem zzF:G zo7=some zxc:=tk
theorem zXr:G zoh=some zwa:=tk
theorem zrL:G zof=some zv6:=tk
theorem zzs:G zon=some zwm:=tk
theorem zrM:G zok=some zwf:=tk
theorem zh7:G zoD=some zwE:=tk
theorem zmu:G zor=some zwr:=tk
theorem zIN:G zqj=some zyy:=tk
theorem zhf:G ziO=some zxk:=tk
theorem zIf:G zod=some zv2:=tk
theorem zgo:G zlW=some zyA:=tk
theorem zrU:G zjR=some zxl:=tk
theorem zrJ:G zob=some zvZ:=tk
theorem zXp:G zoc=some zv1:=tk
theorem zX8:G zqm=some zyC:=tk
theorem zr0:G zql=some zyB:=tk
theorem zzQ:G zqn=some zyD:=tk
theorem zIp:G zoJ=some zwK:=tk
theorem zks:G zo4=some zw8:=tk
theorem zkr:G zoS=some zwU:=tk
theorem zzB:G zoV=some zwX:=tk
theorem zzr:G zjQ=some zwl:=tk
theorem zzw:G zoL=some zwN:=tk
theorem zmv:G zoB=some zwC:=tk
theorem zkv:G zqo=some zyE:=tk
theorem zef:G zlX=some zyF:=tk
theorem zIz:G zpm=some zxv:=tk
theorem zzJ:G zpn=some zxw:=tk
theorem zXI:G zpo=some zxx:=tk
theorem zIA:G zpp=some zxy:=tk
theorem zic:G zlY=some zyG:=tk
theorem zr1:G zqp=some zyH:=tk
theorem zX9:G zqq=some zyI:=tk
theorem zrT:G zpc=some zxh:=tk
theorem zXt:G zoi=some zwc:=tk
theorem zXs:G zlH=some zwb:=tk
theorem zrO:G zoI=some zwJ:=tk
theorem zhh:G zlZ=some zyJ:=tk
theorem zzP:G zqd=some zyq:=tk
theorem zr2:G zqt=some zyM:=tk
theorem zIQ:G zqu=some zyN:=tk
theorem zIO:G zqr=some zyK:=tk
theorem zzy:G zoO=some zwQ:=tk
theorem zzq:G zom=some zwh:=tk
theorem zIP:G zqs=some zyL:=tk
theorem zhi:G zl0=some zyO:=tk
theorem zr3:G zqx=some zyR:=tk
theorem zIT:G zqy=some zyS:=tk
theorem zIR:G zqv=some zyP:=tk
theorem zzz:G zoP=some zwR:=tk
theorem zXF:G zo3=some zw7:=tk
theorem zIS:G zqw=some zyQ:=tk
theorem zhj:G zl1=some zyT:=tk
theorem zIW:G zqB=some zyW:=tk
theorem zIX:G zqC=some zyX:=tk
theorem zIU:G zqz=some zyU:=tk
theorem zfy:G zo1=some zw4:=tk
theorem zIV:G zqA=some zyV:=tk
theorem zhk:G zl2=some zyY:=tk
theorem zje:G zqD=some zyZ:=tk
theorem zrR:G zo8=some zxd:=tk
theorem zzx:G zoM=some zwO:=tk
theorem zhl:G zl3=some zy0:=tk
theorem zzR:G zqE=some zy1:=tk
theorem zIx:G zpb=some zxg:=tk
theorem zmw:G zoK=some zwM:=tk
theorem zrS:G zpa=some zxf:=tk
theorem zI0:G zqF=some zy7:=tk
theorem zXN:G zpB=some zxL:=tk
theorem zgp:G zqG=some zzb:=tk
theorem zkw:G zl4=some zy3:=tk
theorem zku:G zp6=some zyh:=tk
theorem zas:G zcZ=some zyi:=tk
theorem zX0:G zp7=some zyj:=tk
theorem zkp:G zlC=some zvX:=tk
theorem zzl:G zoa=some zvY:=tk
theorem zXi:G znX=some zvG:=tk
theorem zIe:G zn8=some zvV:=tk
theorem zYa:G zqH=some zzc:=tk
theorem zmr:G zn7=some zvU:=tk
theorem zzj:G znW=some zvF:=tk
theorem zXj:G znY=some zvH:=tk
theorem zYc:G zqK=some zzf:=tk
theorem zI1:G zqI=some zzd:=tk
theorem zYb:G zqJ=some zze:=tk
theorem zXo:G zn9=some zvW:=tk
end Go.Proofs.YtdnlddoeamjcoaaGreat

namespace Go.Sim
variable {G:FuncId->Option AFn}
theorem zsV {T:Type} {ks:List Nat} {x:zh} (μ:T->Nat) (inv:T->Prop) (st:T->St) (Q:T->Option (zac×St)->Prop)
    (h:∀t,inv t->∀L:St->Option (zac×St),(∀t',inv t'->μ t'<μ t->Q t' (L (st t')))->Q t ((exL G x (st t)).bind (zdB ks L))):∀t,inv t->Q t (zai G ks x (st t)):=by
 intro t;generalize hk:μ t=k
 induction k using Nat.strongRecOn generalizing t with
 | ind k ih=>
  intro hi;rw[za2];exact h t hi _ fun t' hi' hlt=>ih (μ t') (by omega) t' rfl hi'
end Go.Sim

namespace Go.Sim
variable {G:FuncId->Option AFn}
theorem wr{x:Int}(h: -9223372036854775808<=x/\x<9223372036854775808):IntKind.i64.wrap x=x:=by
 rw[Go.IntWalk.i64_in _ (by omega)]
theorem wu64{x:Int}(h:0<=x/\x<18446744073709551616):IntKind.u64.wrap x=x:=by rw[Go.IntWalk.u64_in _ (by omega)]
theorem wu8{x:Int}(h:0<=x/\x<256):IntKind.u8.wrap x=x:=by rw[Go.IntWalk.u8_in _ (by omega)]
theorem ltT{a b:Int}(h:a<b):(a<b)=True:=zadb h
theorem ltF{a b:Int}(h:b<=a):(a<b)=False:=zac3 (by omega)
theorem leT{a b:Int}(h:a<=b):(a<=b)=True:=zadb h
theorem leF{a b:Int}(h:b<a):(a<=b)=False:=zac3 (by omega)
theorem eqT{a b:Int}(h:a=b):(a=b)=True:=zadb h
theorem eqF{a b:Int}(h:¬a=b):(a=b)=False:=zac3 h
theorem zZR{α:Type}{l:List α}{a:Nat}(h:l.length<=a):(a<l.length)=False:=zac3 (by omega)
theorem zZQ{α:Type}{l:List α}{c:Nat}(h:l.length<=c):(l.length<=c)=True:=zadb h
theorem zRP{a b c:Nat}(h:a+b<=c):(a+b<=c)=True:=zadb h
theorem zZX:LIM=4294967296:=rfl
theorem z0p{α β:Type}{f:α->β}{l:List α}{k:Nat}(h:k<l.length):(l.map f)[k]? = some (f (l[k]'h)):=by
 rw[zadj,zada h];rfl
theorem zab7{k:Nat}:((k:Int)+1).toNat=k+1:=by omega
theorem zhr {ks:List Nat} {x:zh} (n:Nat) (p:Nat->Bool) (st:Nat->St) (R fin:zac×St)
    (h:∀k,k<=n->∀L:St->Option (zac×St),(exL G x (st k)).bind (zdB ks L)=if k<n then (if p k=true then L (st (k+1)) else some R) else some fin):
    zai G ks x (st 0)=some (if (List.range n).all p=true then fin else R):=by
 have key:∀m k,k+m=n->zai G ks x (st k)=some (if ((List.range' k m).all p)=true then fin else R):=by
  intro m
  induction m with
  | zero=>
   intro k hk;rw[za2,h k (by omega),zacX (by omega)];rfl
  | succ m ih=>
   intro k hk;rw[za2,h k (by omega),zacY (by omega),zaex,zad0,ih (k+1) (by omega)]
   cases p k<;>rfl
 have:=key n 0 (by omega)
 rwa [<- zafm] at this
def zh4{α:Type}(n:Nat)(p:Nat->Bool)(R:Nat->α)(fin:α):α:=match (List.range n).find? p with|some k=>R k|none=>fin
theorem zjo {ks:List Nat} {x:zh} (n:Nat) (p:Nat->Bool) (st:Nat->St) (R:Nat->zac×St) (fin:zac×St)
    (h:∀k,k<=n->∀L:St->Option (zac×St),(exL G x (st k)).bind (zdB ks L)=if k<n then (if p k=true then some (R k) else L (st (k+1))) else some fin):
    zai G ks x (st 0)=some (zh4 n p R fin):=by
 have key:∀m k,k+m=n->zai G ks x (st k)=some (match (List.range' k m).find? p with|some k=>R k|none=>fin):=by
  intro m
  induction m with
  | zero=>
   intro k hk;rw[za2,h k (by omega),zacX (by omega)];rfl
  | succ m ih=>
   intro k hk;rw[za2,h k (by omega),zacY (by omega),zaex,List.find?_cons,ih (k+1) (by omega)]
   cases p k<;>rfl
 have:=key n 0 (by omega)
 rwa [<- zafm] at this
def zce{α:Type}(p:α->Bool)(es:List α):Int:=match es.findIdx? p with|some i=>i|none=> -1
def atB{α:Type}(l:List α)(p:α->Bool)(k:Nat):Bool:=match l[k]? with|some a=>p a|none=>false
theorem zWK{α:Type}(l:List α)(p:α->Bool):(List.range l.length).find? (atB l p)=l.findIdx? p:=by
 have key:∀(m k:Nat),k+m=l.length->(List.range' k m).find? (atB l p)=((l.drop k).findIdx? p).map (k+ ·):=by
  intro m
  induction m with
  | zero=>intro k hk;rw[zafR (by omega)];rfl
  | succ m ih=>
   intro k hk;rw[zaex,List.find?_cons,zady (show k<l.length by omega),List.findIdx?_cons,ih (k+1) (by omega)];have:atB l p k=p (l[k]'(by omega)):=by unfold atB;rw[zada (by omega)]
   rw[this]
   cases p (l[k]'(by omega)) with
   | true=>simp
   | false=>
    cases (l.drop (k+1)).findIdx? p with
    | none=>rfl
    | some i=>simp;omega
 have:=key l.length 0 (by omega);rw[<- zafm] at this;rw[this,zadu]
 cases l.findIdx? p<;>simp only[Option.map_none,zadJ,zadv]
theorem zg5{α:Type}{l:List α}{p:α->Bool}{k:Nat}(h:k<l.length):atB l p k=p l[k]:=by
 unfold atB;rw[zada h]
theorem zkl{α β:Type}(l:List α)(p:α->Bool)(R:Nat->β)(fin:β):zh4 l.length (atB l p) R fin=match l.findIdx? p with|some k=>R k|none=>fin:=by
 unfold zh4;rw[zWK]
theorem zLV{α:Type}(l:List α)(p:α->Bool):decide (0<=zce p l)=l.any p:=by
 unfold zce
 cases h:l.findIdx? p with
 | none=>simp at h;simpa using h
 | some i=>
  have:=zad6.1 h;simp;exact⟨_,zadf this.1,this.2.1⟩
theorem zsk{α:Type}(l:List α)(p:α->Bool): -1<=zce p l/\zce p l<l.length:=by
 unfold zce
 cases e:l.findIdx? p with
 | none=>simp only;omega
 | some i=>have:=(zad6.1 e).1;simp only;omega
theorem zsl{α:Type}(l:List α)(p:α->Bool):zce p l<0↔∀a∈l,p a=false:=by
 have:=zLV l p;have h2:l.any p=false↔∀a∈l,p a=false:=by simp
 rw[<- h2, <- this];simp
end Go.Sim

namespace Go.Sim
theorem zj{α:Type}{l:List α}{k:Nat}{d:α}(h:k<l.length):l.getD k d=l[k]'h:=by
 rw[zadC,zada h];rfl
theorem setMap{α β:Type}{f:α->β}{l:List α}{k:Nat}{x:α}:(l.map f).set k (f x)=(l.set k x).map f:=by rw[zad9]
theorem z0q{α β γ:Type}{f:α->β}{g:β->γ}{l:List α}{k:Nat}(h:k<l.length):((l.map f).map g)[k]? = some (g (f (l[k]'h))):=by
 rw[zadV,zadj,zada h];rfl
theorem zZS{α:Type}{l:List α}{k:Nat}{x:α}:(l.set k x).length=l.length:=zadM
theorem zht{α:Type}{f:α->D}{l:List α}{k:Nat}{x:α}:(l.set k x).map f=(l.map f).set k (f x):=by rw[zad9]
theorem znB{ds:List D}{k:Nat}{x:D}:(ds.map AV.d).set k (.d x)=(ds.set k x).map AV.d:=by rw[zad9]
theorem zay{α:Type}{c:Prop}[Decidable c]{A B r:α}(h1:c->A=r)(h2:¬c->B=r):(if c then A else B)=r:=by split<;>simp_all
theorem zabI{ds:List D}{n:Nat}:(ds.map AV.d).take n=(ds.take n).map AV.d:=by rw[zaeH]
theorem zabK{α:Type}{f:α->D}{l:List α}{n k:Nat}{x:D}(h:l.length<=n):((l.map f).set k x).take n=(l.map f).set k x:=zaeL (by simpa using h)
theorem zabH{α:Type}{f:α->D}{l:List α}{n:Nat}(h:l.length<=n):(l.map f).take n=l.map f:=zaeL (by simpa using h)
theorem zaz{α:Type}{c:Prop}[Decidable c]{A B r:α}(h1:c->r=A)(h2:¬c->r=B):r=if c then A else B:=by split<;>simp_all
attribute [go_sem ↓] reduceIte
attribute [go_sem] reduceCtorEq Nat.reduceEqDiff Nat.reduceAdd Nat.reduceBEq Nat.reduceMul Nat.reduceLeDiff Nat.reduceSub Nat.reduceLT Nat.reduceDiv Nat.reduceMod List.reduceReplicate Int.reduceEq Int.reduceLT Int.reduceLE Int.reduceAdd Int.reduceSub Int.reduceMul Int.reduceNeg Int.reduceToNat
attribute [go_sem] zab7 zabI zabK zabH zZS zht znB z0q wr or_self zaec zae8 zaeK zaeT zadX zae2 zafe zaeQ zado zac6 zZX wu64 wu8 Bool.true_beq Bool.false_beq zad5 zaeb ltT ltF leT leF eqT eqF zZR zZQ zRP z0p zadG Int.natCast_nonneg zadd
theorem pA{a b:Bool}:((a||b)=true)=(a=true\/b=true):=zadT a b
theorem pB{a b:Bool}:((a&&b)=true)=(a=true/\b=true):=zac7 a b
theorem pC{p:Prop}[Decidable p]:(decide p=true)=p:=decide_eq_true_eq
theorem pD{a:Bool}:((!a)=true)=(a=false):=zadP a
theorem pE{p:Prop}[Decidable p]:(decide p=false)=¬p:=by simp
theorem pF{p q:Prop}:(¬(p\/q))=(¬p/\¬q):=by simp
theorem pG{a b:Int}:(¬a<b)=(b<=a):=by simp
theorem pH{a b:Int}:(¬a<=b)=(b<a):=by simp
theorem pI{a b:Nat}:(¬a<b)=(b<=a):=by simp
theorem pJ{a b:Nat}:(¬a<=b)=(b<a):=by simp
theorem pK{a b:Bool}:((a||b)=false)=(a=false/\b=false):=by simp
theorem pL{a b:Bool}:((a&&b)=false)=(a=false\/b=false):=by cases a<;>cases b<;>simp
theorem pM{a:Bool}:((!a)=false)=(a=true):=by simp
theorem pN:(true=false)=False:=by simp
theorem pO:(false=true)=False:=by simp
theorem pP{p:Prop}:(¬ ¬p)=p:=by simp
end Go.Sim

namespace Go.Sim
open Go
theorem zW {G:FuncId->Option AFn} {f:FuncId} {c:zh} {rs:List zm} {nt:Nat} {sl:Bool} (h:G f=some (.code c rs nt sl)) {args:List AV} {os:zf} {R:Option (AV×zf)} (hl:args.length<=nt:=by simp)
    (e:(exL G c ⟨enter args++zgq os,os⟩).bind (zgF sl rs os)=R:=by simp -implicitDefEqProofs (maxSteps:=4000000) (disch:=omega) only[zj,go_sem, *];(try simp only[pA,pB,pC,pD,pE,pF,pG,pH,pI,pJ,pK,pL,pM,pN,pO,pP,if_true,if_false]);repeat' (first|done|rfl|(refine zay (fun hq=> ?_) (fun hq=> ?_)<;>(try (first|(exfalso;omega)|contradiction))<;>(try simp -implicitDefEqProofs (maxSteps:=4000000) (disch:=omega) only[zj,go_sem, *])<;>(try simp only[pA,pB,pC,pD,pE,pF,pG,pH,pI,pJ,pK,pL,pM,pN,pO,pP,if_true,if_false])));(all_goals try rfl);(all_goals try (repeat' (first|done|rfl|(exfalso;omega)|contradiction|(refine zaz (fun hq=> ?_) (fun hq=> ?_)))))):zg G f args os=R:=(zO h hl).trans e
theorem zS{p:Prop}(e:p:=by (try simp -implicitDefEqProofs (maxSteps:=4000000) (disch:=omega) only[zj,go_sem, *]);(try simp only[pA,pB,pC,pD,pE,pF,pG,pH,pI,pJ,pK,pL,pM,pN,pO,pP,if_true,if_false]);repeat' (first|done|rfl|(refine zay (fun hq=> ?_) (fun hq=> ?_)<;>(try (first|(exfalso;omega)|contradiction))<;>(try simp -implicitDefEqProofs (maxSteps:=4000000) (disch:=omega) only[zj,go_sem, *])<;>(try simp only[pA,pB,pC,pD,pE,pF,pG,pH,pI,pJ,pK,pL,pM,pN,pO,pP,if_true,if_false])));(all_goals try rfl);(all_goals try (repeat' (first|done|rfl|(exfalso;omega)|contradiction|(refine zaz (fun hq=> ?_) (fun hq=> ?_)))))):p:=e
theorem zNr:type_of% @zad5/\type_of% @zaeb/\type_of% @zado/\type_of% @zafe/\type_of% @zaeQ/\type_of% @zac6.{0}/\type_of% @zadd.{0,0}/\type_of% @zacZ.{0,0}/\type_of% @zac5.{0}/\type_of% @zadg.{0,0}/\type_of% @zac1.{0,0}/\type_of% @zac4.{0}/\type_of% @zadv/\type_of% @zht:=
 ⟨@zad5, @zaeb, @zado, @zafe, @zaeQ, @zac6, @zadd, @zacZ, @zac5, @zadg, @zac1, @zac4, @zadv, @zht⟩
theorem zPr:type_of% @pA/\type_of% @pB/\type_of% @pC/\type_of% @pD/\type_of% @pE/\type_of% @pF/\type_of% @pG/\type_of% @pH/\type_of% @pI/\type_of% @pJ/\type_of% @pK/\type_of% @pL/\type_of% @pM/\type_of% @pN/\type_of% @pO/\type_of% @pP/\type_of% @if_true.{1}/\type_of% @if_false.{1}:=
 ⟨@pA, @pB, @pC, @pD, @pE, @pF, @pG, @pH, @pI, @pJ, @pK, @pL, @pM, @pN, @pO, @pP, @if_true, @if_false⟩
theorem zo{p:Prop}(h:p:=by omega):p:=h
end Go.Sim

namespace Go.Proofs.YtdnlddoeamjcoaaGreat
open Go Go.Sim
attribute [go_sem] zD8 zEe zj2 zEc zEa zuA zEd zD9 zey zEb zqT zEg zGC zGy zuY zu0 zuU zEV zuE zE0 zuT zFd zj4 zGz zGA zrc zGu zu9 zF2 zFY zEC zEP zuN zGc zGd zFr zuV zFs zuW zGe zGf zGg zFg zEv zEu zEL zGh zme zGj zq7 zq6 zES zEz zGi zGk zGm zq9 zq8 zET zE8 zGl zGn zGp zrb zra zE6 zGo zGq zGr zFc zEQ zGs zGt zFf zEO zFe zGB zuZ zvb zGx zFV zFW zu7 zEk zEl zD6 zqU zGD zEh zD5 zD7 zGG zGE zGF zEi zEf zuz zGw zGv zEj zuB zFu zu8 zq4 zFU zFt zEo zmc zEp zu6 zFZ zFw zqY zFn zFo zF0 zq3 zq2 zva zu4 zFP zFF zFA zFD zFy zFC zFB zFK zFO zFN zFx zu1 zFp zFz zu2 zFM zFv zuX zu3 zFQ zq0 zFh zFi zEx zEy zEr zq1 zE7 zuG zuH zEJ zuK zEG zuL zEE zEK zEN zE3 zEA zEX zFS zFL zFE zFJ zhP zqZ zFR zFH zFq zER zEY zuR zuS zEs zEw zq5 zFI zE1 zFX zFG zF1 zE4 zu5 zFT zEn zuD zE2 zEB zqW zuI zF4 zF3 zFl zFm zF5 zF7 zEU zFa zEI zuJ zEF zuM zEH zqX zuO zuQ zmd zE5 zFb zEt zEq zuF zqV zuP zED zF6 zFj zEm zF8 zFk zj3 zuC zGa zF9 zGb zEM zE9 zEW zEZ zNH zNN zla zNL zNJ zB8 zNM zNI zeU zNK ztf zNP zQf zQb zCt zCv zCq zOw zCb zOB zCp zOO zlc zQc zQd zty zP7 zCE zPF zPB zOc zOq zCj zPP zPQ zO2 zO3 zO4 zCr zPR zPS zPT zOR zN5 zN4 zOm zPU znn zPW ztt zts zOt zN9 zPV zPX zPZ ztv ztu zOu zOJ zPY zP0 zP2 ztx ztw zOH zP1 zP3 zP4 zON zOr zP5 zP6 zOQ zOp zOP zQe zCu zCG zQa zPy zPz zCC zNU zNV zNE ztg zQg zNQ zND zNF zQj zQh zQi zNS zNO zNG zP9 zP8 zNT zNR zO6 zCD ztq zPx zO5 zNY znl zNZ zCB zPC zO8 ztk zOY zOZ zPD ztp zto zCF zCz zPs zPh zPc zPf zPa zPe zPd zPm zPq zPp zO9 zCw zO0 zPb zCx zPo zO7 zCs zCy zPt ztm zOS zOT zN7 zN8 zN1 ztn zOI zOd zCd zOk zCg zOh zCh zOf zOl zOo zOE zOa zOy zPv zPn zPg zPl ziy ztl zPu zPj zO1 zOs zOz zCn zCo zN2 zN6 ztr zPk zOC zPA zPi zPE zOF zCA zPw zNX zCa zOD zOb zti zCe zPH zPG zOW zOX zPI zPK zOv zOL zOj zCf zOg zCi zOi ztj zCk zCm znm zOG zOM zN3 zN0 zCc zth zCl zOe zPJ zOU zNW zPL zOV zlb zB9 zPN zPM zPO zOn zOK zOx zOA
abbrev zB(l:List Int):List D:=l.map (.int .i64)
theorem zug(l:List Int):zaI 1 (zB l)=true:=by simp [zaI,D.size,D.cells]
def zaR(b:List UInt8):D:= .sl (byD b)
theorem zR4(l:List (List UInt8)):zaI 1 (l.map zaR)=true:=by simp [zaI,D.size,D.cells,zaR]
theorem zR6(l:List (List UInt8)):zaI 1 (l.map D.str)=true:=by simp [zaI,D.size,D.cells]
abbrev Due:=Int×Int
def eD(d:Due):D:= .agg [.int .i64 d.1,.int .i64 d.2]
theorem zU5(d:Due):(eD d).cells=[.int .i64 d.1,.int .i64 d.2]:=rfl
theorem zfu(d:Due):(eD d).size=2:=rfl
theorem zgj(d:Due):(eD d).asAgg=eD d:=rfl
theorem zU6(d:Due):(eD d).isT=false:=rfl
theorem zjX(h:List Due):zaI 2 (h.map eD)=true:=by simp [zaI,zfu]
structure Span where
 low:Int
 high:Int
 shard:Int
 deriving DecidableEq
def ze6:Span:=⟨0,0,0⟩
instance:Inhabited Span:=⟨ze6⟩
def zaw(x:Span):D:= .agg [.int .i64 x.low,.int .i64 x.high,.int .i64 x.shard]
theorem zVu(x:Span):(zaw x).cells=[.int .i64 x.low,.int .i64 x.high,.int .i64 x.shard]:=rfl
theorem zHy(x:Span):(zaw x).size=3:=rfl
theorem zVt(x:Span):(zaw x).asAgg=zaw x:=rfl
theorem zVv(x:Span):(zaw x).isT=false:=rfl
theorem zR0(l:List Span):zaI 3 (l.map zaw)=true:=by simp [zaI,zHy]
structure zaM where
 version:Int
 l:List Span
 forward:List Int
 deriving DecidableEq
def zcN:zaM:=⟨0,[],[]⟩
instance:Inhabited zaM:=⟨zcN⟩
def zU(x:zaM):D:= .agg [.int .i64 x.version,.sl (x.l.map zaw),.sl (zB x.forward)]
theorem zU8(x:zaM):(zU x).cells=[.int .i64 x.version,.sl (x.l.map zaw),.sl (zB x.forward)]:=rfl
theorem zVa(x:zaM):(zU x).size=3:=rfl
theorem zU7(x:zaM):(zU x).asAgg=zU x:=rfl
theorem zU9(x:zaM):(zU x).isT=false:=rfl
structure zeu where
 kind:Int
 from_:Int
 to:Int
 mid:Int
 deriving DecidableEq
def zt7:zeu:=⟨0,0,0,0⟩
instance:Inhabited zeu:=⟨zt7⟩
def zgk(x:zeu):D:= .agg [.int .i64 x.kind,.int .i64 x.from_,.int .i64 x.to,.int .i64 x.mid]
theorem zVc(x:zeu):(zgk x).cells=[.int .i64 x.kind,.int .i64 x.from_,.int .i64 x.to,.int .i64 x.mid]:=rfl
theorem zVe(x:zeu):(zgk x).size=4:=rfl
theorem zVb(x:zeu):(zgk x).asAgg=zgk x:=rfl
theorem zVd(x:zeu):(zgk x).isT=false:=rfl
structure Setup where
 slots:Int
 live:Int
 capacity:Int
 dead:Int
 limit:Int
 clock:Int
 nextID:Int
 epoch:Int
 deriving DecidableEq
def zdp:Setup:=⟨0,0,0,0,0,0,0,0⟩
instance:Inhabited Setup:=⟨zdp⟩
def zK(x:Setup):D:= .agg [.int .i64 x.slots,.int .i64 x.live,.int .i64 x.capacity,.int .i64 x.dead,.int .i64 x.limit,.int .i64 x.clock,.int .i64 x.nextID,.int .i64 x.epoch]
theorem zHu(x:Setup):(zK x).size=8:=rfl
theorem zHr(x:Setup):(zK x).asAgg=zK x:=rfl
theorem zHt(x:Setup):(zK x).isT=false:=rfl
theorem zHs(x:Setup):(zK x).size=8/\(zK x).isT=false/\(zK x).asAgg=zK x:=⟨zHu x,zHt x,zHr x⟩
structure zl where
 id:Int
 route:Int
 epoch:Int
 count:Int
 gen:Int
 sent:Int
 body:List UInt8
 deriving DecidableEq
def zak:zl:=⟨0,0,0,0,0,0,[]⟩
instance:Inhabited zl:=⟨zak⟩
def zn(x:zl):D:= .agg [.int .i64 x.id,.int .i64 x.route,.int .i64 x.epoch,.int .i64 x.count,.int .i64 x.gen,.int .i64 x.sent,.str x.body]
theorem zVp(x:zl):(zn x).cells=[.int .i64 x.id,.int .i64 x.route,.int .i64 x.epoch,.int .i64 x.count,.int .i64 x.gen,.int .i64 x.sent,.str x.body]:=rfl
theorem zHi(x:zl):(zn x).size=7:=rfl
theorem zVo(x:zl):(zn x).asAgg=zn x:=rfl
theorem zVq(x:zl):(zn x).isT=false:=rfl
theorem zuf(l:List zl):zaI 7 (l.map zn)=true:=by simp [zaI,zHi]
structure zat where
 cells:List zl
 head:Int
 size:Int
 deriving DecidableEq
def zaP:zat:=⟨[],0,0⟩
instance:Inhabited zat:=⟨zaP⟩
def zau(x:zat):D:= .agg [.sl (x.cells.map zn),.int .i64 x.head,.int .i64 x.size]
structure zN where
 msg:zl
 deadline:Int
 deriving DecidableEq
def zb3:zN:=⟨⟨0,0,0,0,0,0,[]⟩,0⟩
instance:Inhabited zN:=⟨zb3⟩
def za0(x:zN):D:= .agg [.int .i64 x.msg.id,.int .i64 x.msg.route,.int .i64 x.msg.epoch,.int .i64 x.msg.count,.int .i64 x.msg.gen,.int .i64 x.msg.sent,.str x.msg.body,.int .i64 x.deadline]
theorem zVi(x:zN):(za0 x).cells=[.int .i64 x.msg.id,.int .i64 x.msg.route,.int .i64 x.msg.epoch,.int .i64 x.msg.count,.int .i64 x.msg.gen,.int .i64 x.msg.sent,.str x.msg.body,.int .i64 x.deadline]:=rfl
theorem zHh(x:zN):(za0 x).size=8:=rfl
theorem zVh(x:zN):(za0 x).asAgg=za0 x:=rfl
theorem zVj(x:zN):(za0 x).isT=false:=rfl
theorem zjW(l:List zN):zaI 8 (l.map za0)=true:=by simp [zaI,zHh]
structure zT where
 l:List zN
 heap:List Due
 deriving DecidableEq
def zax:zT:=⟨[],[]⟩
instance:Inhabited zT:=⟨zax⟩
def zaJ(x:zT):D:= .agg [.sl (x.l.map za0),.sl (x.heap.map eD)]
theorem zVz(x:zT):(zaJ x).cells=[.sl (x.l.map za0),.sl (x.heap.map eD)]:=rfl
theorem zVB(x:zT):(zaJ x).size=2:=rfl
theorem zVy(x:zT):(zaJ x).asAgg=zaJ x:=rfl
theorem zVA(x:zT):(zaJ x).isT=false:=rfl
structure zu where
 live:Bool
 low:Int
 high:Int
 ready:zat
 leases:zT
 deriving DecidableEq
def zP:zu:=⟨false,0,0,⟨[],0,0⟩,⟨[],[]⟩⟩
instance:Inhabited zu:=⟨zP⟩
def zk(x:zu):D:= .agg [.bool x.live,.int .i64 x.low,.int .i64 x.high,.sl (x.ready.cells.map zn),.int .i64 x.ready.head,.int .i64 x.ready.size,.sl (x.leases.l.map za0),.sl (x.leases.heap.map eD)]
theorem zVr(x:zu):(zk x).cells=[.bool x.live,.int .i64 x.low,.int .i64 x.high,.sl (x.ready.cells.map zn),.int .i64 x.ready.head,.int .i64 x.ready.size,.sl (x.leases.l.map za0),.sl (x.leases.heap.map eD)]:=rfl
theorem zvt(x:zu):(zk x).size=8:=rfl
theorem zHv(x:zu):(zk x).asAgg=zk x:=rfl
theorem zHw(x:zu):(zk x).isT=false:=rfl
theorem zbD(x:zu):(zk x).size=8/\(zk x).isT=false/\(zk x).asAgg=zk x:=⟨zvt x,zHw x,zHv x⟩
theorem zRY(l:List zu):zaI 8 (l.map zk)=true:=by simp [zaI,zvt]
structure zhN where
 owner:Int
 shard:zu
 deriving DecidableEq
def zf3:zhN:=⟨0,⟨false,0,0,⟨[],0,0⟩,⟨[],[]⟩⟩⟩
instance:Inhabited zhN:=⟨zf3⟩
def zbE(x:zhN):D:= .agg [.int .i64 x.owner,.bool x.shard.live,.int .i64 x.shard.low,.int .i64 x.shard.high,.sl (x.shard.ready.cells.map zn),.int .i64 x.shard.ready.head,.int .i64 x.shard.ready.size,.sl (x.shard.leases.l.map za0),.sl (x.shard.leases.heap.map eD)]
theorem zVs(x:zhN):(zbE x).cells=[.int .i64 x.owner,.bool x.shard.live,.int .i64 x.shard.low,.int .i64 x.shard.high,.sl (x.shard.ready.cells.map zn),.int .i64 x.shard.ready.head,.int .i64 x.shard.ready.size,.sl (x.shard.leases.l.map za0),.sl (x.shard.leases.heap.map eD)]:=rfl
theorem zHx(x:zhN):(zbE x).size=9:=rfl
theorem zRZ(l:List zhN):zaI 9 (l.map zbE)=true:=by simp [zaI,zHx]
structure zbl where
 seq:Int
 epoch:Int
 ready:Int
 leased:Int
 deriving DecidableEq
def zco:zbl:=⟨0,0,0,0⟩
instance:Inhabited zbl:=⟨zco⟩
def zae(x:zbl):D:= .agg [.int .i64 x.seq,.int .i64 x.epoch,.int .i64 x.ready,.int .i64 x.leased]
theorem zHz(x:zbl):(zae x).size=4:=rfl
theorem zVw(x:zbl):(zae x).asAgg=zae x:=rfl
theorem zVx(x:zbl):(zae x).isT=false:=rfl
theorem zR1(l:List zbl):zaI 4 (l.map zae)=true:=by simp [zaI,zHz]
structure zbw where
 cap:Int
 l:List zl
 deriving DecidableEq
def zaW:zbw:=⟨0,[]⟩
instance:Inhabited zbw:=⟨zaW⟩
def zX(x:zbw):D:= .agg [.int .i64 x.cap,.sl (x.l.map zn)]
structure znV where
 owner:Int
 dead:zbw
 deriving DecidableEq
def zacO:znV:=⟨0,⟨0,[]⟩⟩
instance:Inhabited znV:=⟨zacO⟩
def zfv(x:znV):D:= .agg [.int .i64 x.owner,.int .i64 x.dead.cap,.sl (x.dead.l.map zn)]
structure zy where
 slots:List zhN
 stripes:List zbl
 dead:znV
 dir:zaM
 epoch:Int
 clock:Int
 nextID:Int
 deriving DecidableEq
def zF:zy:=⟨[],[],⟨0,⟨0,[]⟩⟩,⟨0,[],[]⟩,0,0,0⟩
instance:Inhabited zy:=⟨zF⟩
def zi(x:zy):D:= .agg [.sl (x.slots.map zbE),.sl (x.stripes.map zae),.int .i64 x.dead.owner,.int .i64 x.dead.dead.cap,.sl (x.dead.dead.l.map zn),.int .i64 x.dir.version,.sl (x.dir.l.map zaw),.sl (zB x.dir.forward),.int .i64 x.epoch,.int .i64 x.clock,.int .i64 x.nextID]
theorem zU3(x:zy):(zi x).cells=[.sl (x.slots.map zbE),.sl (x.stripes.map zae),.int .i64 x.dead.owner,.int .i64 x.dead.dead.cap,.sl (x.dead.dead.l.map zn),.int .i64 x.dir.version,.sl (x.dir.l.map zaw),.sl (zB x.dir.forward),.int .i64 x.epoch,.int .i64 x.clock,.int .i64 x.nextID]:=rfl
theorem zG9(x:zy):(zi x).size=11:=rfl
theorem zG7(x:zy):(zi x).asAgg=zi x:=rfl
theorem zG8(x:zy):(zi x).isT=false:=rfl
theorem zaq(x:zy):(zi x).size=11/\(zi x).isT=false/\(zi x).asAgg=zi x:=⟨zG9 x,zG8 x,zG7 x⟩
structure ziP where
 phase:Int
 epoch:Int
 clock:Int
 stamp:Int
 deriving DecidableEq
def zd3:ziP:=⟨0,0,0,0⟩
instance:Inhabited ziP:=⟨zd3⟩
def zec(x:ziP):D:= .agg [.int .i64 x.phase,.int .i64 x.epoch,.int .i64 x.clock,.int .i64 x.stamp]
structure Invocation where
 kind:Int
 home:Int
 max:Int
 visibility:Int
 from_:Int
 to:Int
 bodies:List (List UInt8)
 tokens:List (List UInt8)
 deriving DecidableEq
def ze4:Invocation:=⟨0,0,0,0,0,0,[],[]⟩
instance:Inhabited Invocation:=⟨ze4⟩
def z9(x:Invocation):D:= .agg [.int .i64 x.kind,.int .i64 x.home,.int .i64 x.max,.int .i64 x.visibility,.int .i64 x.from_,.int .i64 x.to,.sl (x.bodies.map .str),.sl (x.tokens.map zaR)]
theorem zHg(x:Invocation):(z9 x).size=8:=rfl
theorem zHe(x:Invocation):(z9 x).asAgg=z9 x:=rfl
theorem zHf(x:Invocation):(z9 x).isT=false:=rfl
theorem zVg(x:Invocation):(z9 x).size=8/\(z9 x).isT=false/\(z9 x).asAgg=z9 x:=⟨zHg x,zHf x,zHe x⟩
structure Result where
 err:Int
 id:Int
 tokens:List (List UInt8)
 bodies:List (List UInt8)
 ready:Int
 leased:Int
 moved:Int
 deriving DecidableEq
def zam:Result:=⟨0,0,[],[],0,0,0⟩
instance:Inhabited Result:=⟨zam⟩
def z6(x:Result):D:= .agg [.int .i64 x.err,.int .i64 x.id,.sl (x.tokens.map zaR),.sl (x.bodies.map .str),.int .i64 x.ready,.int .i64 x.leased,.int .i64 x.moved]
theorem zvs(x:Result):(z6 x).size=7:=rfl
theorem zHm(x:Result):(z6 x).asAgg=z6 x:=rfl
theorem zHn(x:Result):(z6 x).isT=false:=rfl
theorem zcJ(x:Result):(z6 x).size=7/\(z6 x).isT=false/\(z6 x).asAgg=z6 x:=⟨zvs x,zHn x,zHm x⟩
theorem zRX(l:List Result):zaI 7 (l.map z6)=true:=by simp [zaI,zvs]
structure zb4 where
 cells:List Int
 phase:Int
 have_:Int
 tries:Int
 wait:Int
 deriving DecidableEq
def zdN:zb4:=⟨[],0,0,0,0⟩
instance:Inhabited zb4:=⟨zdN⟩
def zcd(x:zb4):D:= .agg [.sl (zB x.cells),.int .i64 x.phase,.int .i64 x.have_,.int .i64 x.tries,.int .i64 x.wait]
theorem zVl(x:zb4):(zcd x).cells=[.sl (zB x.cells),.int .i64 x.phase,.int .i64 x.have_,.int .i64 x.tries,.int .i64 x.wait]:=rfl
theorem zVn(x:zb4):(zcd x).size=5:=rfl
theorem zVk(x:zb4):(zcd x).asAgg=zcd x:=rfl
theorem zVm(x:zb4):(zcd x).isT=false:=rfl
structure zcz where
 shards:List zu
 dead:zbw
 order:List Int
 carry:List zl
 edits:List zeu
 deriving DecidableEq
def ze5:zcz:=⟨[],⟨0,[]⟩,[],[],[]⟩
instance:Inhabited zcz:=⟨ze5⟩
def zZ(x:zcz):D:= .agg [.sl (x.shards.map zk),.int .i64 x.dead.cap,.sl (x.dead.l.map zn),.sl (zB x.order),.sl (x.carry.map zn),.sl (x.edits.map zgk)]
theorem zHl(x:zcz):(zZ x).size=6:=rfl
theorem zHj(x:zcz):(zZ x).asAgg=zZ x:=rfl
theorem zHk(x:zcz):(zZ x).isT=false:=rfl
theorem zcT(x:zcz):(zZ x).size=6/\(zZ x).isT=false/\(zZ x).asAgg=zZ x:=⟨zHl x,zHk x,zHj x⟩
structure Section where
 phase:Int
 at_:Int
 lock:zb4
 snap:ziP
 shards:List zu
 dead:zbw
 stripes:List zbl
 dir:zaM
 out:zcz
 limit:Int
 carry:List zl
 deriving DecidableEq
def zbu:Section:=⟨0,0,⟨[],0,0,0,0⟩,⟨0,0,0,0⟩,[],⟨0,[]⟩,[],⟨0,[],[]⟩,⟨[],⟨0,[]⟩,[],[],[]⟩,0,[]⟩
instance:Inhabited Section:=⟨zbu⟩
def zC(x:Section):D:= .agg [.int .i64 x.phase,.int .i64 x.at_,.sl (zB x.lock.cells),.int .i64 x.lock.phase,.int .i64 x.lock.have_,.int .i64 x.lock.tries,.int .i64 x.lock.wait,.int .i64 x.snap.phase,.int .i64 x.snap.epoch,.int .i64 x.snap.clock,.int .i64 x.snap.stamp,.sl (x.shards.map zk),.int .i64 x.dead.cap,.sl (x.dead.l.map zn),.sl (x.stripes.map zae),.int .i64 x.dir.version,.sl (x.dir.l.map zaw),.sl (zB x.dir.forward),.sl (x.out.shards.map zk),.int .i64 x.out.dead.cap,.sl (x.out.dead.l.map zn),.sl (zB x.out.order),.sl (x.out.carry.map zn),.sl (x.out.edits.map zgk),.int .i64 x.limit,.sl (x.carry.map zn)]
theorem zHq(x:Section):(zC x).size=26:=rfl
theorem zHo(x:Section):(zC x).asAgg=zC x:=rfl
theorem zHp(x:Section):(zC x).isT=false:=rfl
theorem zeb(x:Section):(zC x).size=26/\(zC x).isT=false/\(zC x).asAgg=zC x:=⟨zHq x,zHp x,zHo x⟩
structure ze9 where
 next:Int
 covered:Int
 deriving DecidableEq
def zdc:ze9:=⟨0,0⟩
instance:Inhabited ze9:=⟨zdc⟩
def zbF(x:ze9):D:= .agg [.int .i64 x.next,.int .i64 x.covered]
structure zbk where
 id:Int
 gen:Int
 route:Int
 hint:Int
 deriving DecidableEq
def zdo:zbk:=⟨0,0,0,0⟩
instance:Inhabited zbk:=⟨zdo⟩
def zaH(x:zbk):D:= .agg [.int .i64 x.id,.int .i64 x.gen,.int .i64 x.route,.int .i64 x.hint]
structure zq where
 number:Int
 inv:Invocation
 invoked:Int
 done:Bool
 ended:Int
 pc:Int
 entry:Int
 results:List Result
 setup:Setup
 sec:Section
 dir:zaM
 walk:ze9
 slot:Int
 id:Int
 handle:zbk
 loaded:Int
 first:List zbl
 second:List zbl
 deriving DecidableEq
def zD:zq:=⟨0,⟨0,0,0,0,0,0,[],[]⟩,0,false,0,0,0,[],⟨0,0,0,0,0,0,0,0⟩,⟨0,0,⟨[],0,0,0,0⟩,⟨0,0,0,0⟩,[],⟨0,[]⟩,[],⟨0,[],[]⟩,⟨[],⟨0,[]⟩,[],[],[]⟩,0,[]⟩,⟨0,[],[]⟩,⟨0,0⟩,0,0,⟨0,0,0,0⟩,0,[],[]⟩
instance:Inhabited zq:=⟨zD⟩
def zd(x:zq):D:= .agg [.int .i64 x.number,.int .i64 x.inv.kind,.int .i64 x.inv.home,.int .i64 x.inv.max,.int .i64 x.inv.visibility,.int .i64 x.inv.from_,.int .i64 x.inv.to,.sl (x.inv.bodies.map .str),.sl (x.inv.tokens.map zaR),.int .i64 x.invoked,.bool x.done,.int .i64 x.ended,.int .i64 x.pc,.int .i64 x.entry,.sl (x.results.map z6),.int .i64 x.setup.slots,.int .i64 x.setup.live,.int .i64 x.setup.capacity,.int .i64 x.setup.dead,.int .i64 x.setup.limit,.int .i64 x.setup.clock,.int .i64 x.setup.nextID,.int .i64 x.setup.epoch,.int .i64 x.sec.phase,.int .i64 x.sec.at_,.sl (zB x.sec.lock.cells),.int .i64 x.sec.lock.phase,.int .i64 x.sec.lock.have_,.int .i64 x.sec.lock.tries,.int .i64 x.sec.lock.wait,.int .i64 x.sec.snap.phase,.int .i64 x.sec.snap.epoch,.int .i64 x.sec.snap.clock,.int .i64 x.sec.snap.stamp,.sl (x.sec.shards.map zk),.int .i64 x.sec.dead.cap,.sl (x.sec.dead.l.map zn),.sl (x.sec.stripes.map zae),.int .i64 x.sec.dir.version,.sl (x.sec.dir.l.map zaw),.sl (zB x.sec.dir.forward),.sl (x.sec.out.shards.map zk),.int .i64 x.sec.out.dead.cap,.sl (x.sec.out.dead.l.map zn),.sl (zB x.sec.out.order),.sl (x.sec.out.carry.map zn),.sl (x.sec.out.edits.map zgk),.int .i64 x.sec.limit,.sl (x.sec.carry.map zn),.int .i64 x.dir.version,.sl (x.dir.l.map zaw),.sl (zB x.dir.forward),.int .i64 x.walk.next,.int .i64 x.walk.covered,.int .i64 x.slot,.int .i64 x.id,.int .i64 x.handle.id,.int .i64 x.handle.gen,.int .i64 x.handle.route,.int .i64 x.handle.hint,.int .i64 x.loaded,.sl (x.first.map zae),.sl (x.second.map zae)]
theorem zvu(x:zq):(zd x).size=63:=rfl
theorem zHA(x:zq):(zd x).asAgg=zd x:=rfl
theorem zHB(x:zq):(zd x).isT=false:=rfl
theorem zA(x:zq):(zd x).size=63/\(zd x).isT=false/\(zd x).asAgg=zd x:=⟨zvu x,zHB x,zHA x⟩
theorem zR2(l:List zq):zaI 63 (l.map zd)=true:=by simp [zaI,zvu]
structure zua where
 id:Int
 state:Int
 count:Int
 gen:Int
 route:Int
 deadline:Int
 deriving DecidableEq
def zacQ:zua:=⟨0,0,0,0,0,0⟩
instance:Inhabited zua:=⟨zacQ⟩
structure Bag where
 limit:Int
 now:Int
 epoch:Int
 l:List zua
 deriving DecidableEq
def zBag:Bag:=⟨0,0,0,[]⟩
instance:Inhabited Bag:=⟨zBag⟩
structure Grant where
 id:Int
 gen:Int
 route:Int
 deadline:Int
 deriving DecidableEq
def zacP:Grant:=⟨0,0,0,0⟩
instance:Inhabited Grant:=⟨zacP⟩
def zbq(x:Grant):D:= .agg [.int .i64 x.id,.int .i64 x.gen,.int .i64 x.route,.int .i64 x.deadline]
theorem zHd(x:Grant):(zbq x).size=4:=rfl
theorem zVf(x:Grant):(zbq x).isT=false:=rfl
theorem zRW(l:List Grant):zaI 4 (l.map zbq)=true:=by simp [zaI,zHd]
structure Event where
 stamp:Int
 task:Int
 entry:Int
 kind:Int
 now:Int
 epoch:Int
 err:Int
 l:List Grant
 ready:Int
 leased:Int
 deriving DecidableEq
def zbt:Event:=⟨0,0,0,0,0,0,0,[],0,0⟩
instance:Inhabited Event:=⟨zbt⟩
def zad(x:Event):D:= .agg [.int .i64 x.stamp,.int .i64 x.task,.int .i64 x.entry,.int .i64 x.kind,.int .i64 x.now,.int .i64 x.epoch,.int .i64 x.err,.sl (x.l.map zbq),.int .i64 x.ready,.int .i64 x.leased]
theorem zHc(x:Event):(zad x).size=10:=rfl
theorem zRV(l:List Event):zaI 10 (l.map zad)=true:=by simp [zaI,zHc]
structure World where
 setup:Setup
 arena:zy
 tasks:List zq
 log:List Event
 steps:Int
 handles:List (List UInt8)
 deriving DecidableEq
def zbv:World:=⟨⟨0,0,0,0,0,0,0,0⟩,⟨[],[],⟨0,⟨0,[]⟩⟩,⟨0,[],[]⟩,0,0,0⟩,[],[],0,[]⟩
instance:Inhabited World:=⟨zbv⟩
def zM(x:World):D:= .agg [.int .i64 x.setup.slots,.int .i64 x.setup.live,.int .i64 x.setup.capacity,.int .i64 x.setup.dead,.int .i64 x.setup.limit,.int .i64 x.setup.clock,.int .i64 x.setup.nextID,.int .i64 x.setup.epoch,.sl (x.arena.slots.map zbE),.sl (x.arena.stripes.map zae),.int .i64 x.arena.dead.owner,.int .i64 x.arena.dead.dead.cap,.sl (x.arena.dead.dead.l.map zn),.int .i64 x.arena.dir.version,.sl (x.arena.dir.l.map zaw),.sl (zB x.arena.dir.forward),.int .i64 x.arena.epoch,.int .i64 x.arena.clock,.int .i64 x.arena.nextID,.sl (x.tasks.map zd),.sl (x.log.map zad),.int .i64 x.steps,.sl (x.handles.map zaR)]
theorem zHE(x:World):(zM x).size=23:=rfl
theorem zHC(x:World):(zM x).asAgg=zM x:=rfl
theorem zHD(x:World):(zM x).isT=false:=rfl
theorem zbo(x:World):(zM x).size=23/\(zM x).isT=false/\(zM x).asAgg=zM x:=⟨zHE x,zHD x,zHC x⟩
structure Ref where
 index:Int
 variant:Int
 raw:List UInt8
 deriving DecidableEq
def zRef:Ref:=⟨0,0,[]⟩
instance:Inhabited Ref:=⟨zRef⟩
def zh0(x:Ref):D:= .agg [.int .i64 x.index,.int .i64 x.variant,.sl (byD x.raw)]
structure Command where
 kind:Int
 pick:Int
 by_:Int
 inv:Invocation
 refs:List Ref
 deriving DecidableEq
def zRw:Command:=⟨0,0,0,⟨0,0,0,0,0,0,[],[]⟩,[]⟩
instance:Inhabited Command:=⟨zRw⟩
def zbf(x:Command):D:= .agg [.int .i64 x.kind,.int .i64 x.pick,.int .i64 x.by_,.int .i64 x.inv.kind,.int .i64 x.inv.home,.int .i64 x.inv.max,.int .i64 x.inv.visibility,.int .i64 x.inv.from_,.int .i64 x.inv.to,.sl (x.inv.bodies.map .str),.sl (x.inv.tokens.map zaR),.sl (x.refs.map zh0)]
theorem zvr(x:Command):(zbf x).size=12:=rfl
theorem zHa(x:Command):(zbf x).asAgg=zbf x:=rfl
theorem zHb(x:Command):(zbf x).isT=false:=rfl
theorem zU4(x:Command):(zbf x).size=12/\(zbf x).isT=false/\(zbf x).asAgg=zbf x:=⟨zvr x,zHb x,zHa x⟩
theorem zRU(l:List Command):zaI 12 (l.map zbf)=true:=by simp [zaI,zvr]
attribute [go_sem] zug zR4 zR6 zU5 zfu zgj zU6 zjX zVu zHy zVt zVv zR0 zU8 zVa zU7 zU9 zVc zVe zVb zVd zHu zHr zHt zVp zHi zVo zVq zuf zVi zHh zVh zVj zjW zVz zVB zVy zVA zVr zvt zHv zHw zRY zVs zHx zRZ zHz zVw zVx zR1 zU3 zG9 zG7 zG8 zHg zHe zHf zvs zHm zHn zRX zVl zVn zVk zVm zHl zHj zHk zHq zHo zHp zvu zHA zHB zR2 zHd zVf zRW zHc zRV zHE zHC zHD zvr zHa zHb zRU
theorem zRu{x:Int}(h0: -4294967296<=x)(h1:x<=4294967296):IntKind.i64.wrap x=x:=wr zo
abbrev zE(l:List Int)(a:Nat):Go.Sim.Obj:= .row [.d (.agg [.sl (zB l),.int .i64 a])]
theorem z1D(l:List Int)(hL:l.length<=LIM):zg G zlz [.d (.sl (zB l))] []=some (.ref 0 0 0,[(0,zE (l.take 4000) 0)]):=by
 have hs:=zug l
 by_cases h:4000<l.length
 ·have e:zB (l.take 4000)=(zB l).take 4000:=by simp [zB,zaeH]
  simp only[zE,e];exact zW zH9
 ·have e:l.take 4000=l:=zaeL zo;simp only[zE,e];exact zW zH9
def zbj(l:List Int)(a:Nat):Int×Nat:=if a<l.length then (l.getD a 0,a+1) else (0,a)
theorem z8s(l:List Int)(a:Nat)(hL:l.length<=4000):zg G zn3 [.ref 1000000 0 0] [(1000000,zE l a)]=some (.d (.int .i64 (zbj l a).1),[(1000000,zE l (zbj l a).2)]):=by
 unfold zbj;have e:((a:Int)+1 - 1).toNat=a:=by omega
 by_cases h:a<l.length
 ·simp only[h,if_true];rw[zO zIc (by simp)];simp -implicitDefEqProofs (maxSteps:=4000000) (disch:=omega) only[zuA,zB8,e,zj,go_sem, *];(try simp only[zPr]);repeat' (first|done|rfl|((first|refine zay (fun hq=> ?_) (fun hq=> ?_)|refine zaD (fun hq=> ?_) (fun hq=> ?_))<;>(try (first|(exfalso;omega)|contradiction))<;>(try simp -implicitDefEqProofs (maxSteps:=4000000) (disch:=omega) only[e,zj,go_sem, *])<;>(try simp only[zPr])));(all_goals try rfl);(all_goals try (repeat' (first|done|rfl|(exfalso;omega)|contradiction|(refine zaz (fun hq=> ?_) (fun hq=> ?_)))))
 ·simp only[h,if_false];exact zW zIc
def nD(l:List Int)(a:Nat)(n:Int):Int:=if (zbj l a).1.tmod n<0 then (zbj l a).1.tmod n+n else (zbj l a).1.tmod n
theorem zbY(l:List Int)(a:Nat){n:Int}(h:1<=n):0<=nD l a n/\nD l a n<n:=by
 unfold nD;have h1:=zafv (zbj l a).1 (show 0<n by omega);have h2:=Int.lt_tmod_of_pos (zbj l a).1 (show 0<n by omega)
 split<;>omega
theorem zgP(l:List Int)(a:Nat)(n:Int)(hL:l.length<=4000)(h1:1<=n)(h2:n<=4294967296):zg G zn0 [.ref 1000000 0 0,.d (.int .i64 n)] [(1000000,zE l a)]=some (.d (.int .i64 (nD l a n)),[(1000000,zE l (zbj l a).2)]):=by
 have hr:=z8s l a hL;have h3:=zafv (zbj l a).1 (show 0<n by omega);have h4:=Int.lt_tmod_of_pos (zbj l a).1 (show 0<n by omega);unfold nD
 by_cases h:(zbj l a).1.tmod n<0
 ·simp only[h,if_true];exact zW zIb
 ·simp only[h,if_false];exact zW zIb
theorem zno(l:List Int)(a:Nat)(lo hi:Int)(hL:l.length<=4000)(h0: -4294967296<=lo)(h1:lo<=hi)(h2:hi<=4294967296)(h3:hi - lo<4294967296):zg G zn2 [.ref 1000000 0 0,.d (.int .i64 lo),.d (.int .i64 hi)] [(1000000,zE l a)]=some (.d (.int .i64 (lo+nD l a (hi - lo+1))),[(1000000,zE l (zbj l a).2)]):=by
 have hr:=zgP l a (hi - lo+1) hL zo zo;have hn:=zbY l a (show 1<=hi - lo+1 by omega);exact zW zXm
def inB(n lo hi:Int):Bool:=decide (lo<=n)&&decide (n<=hi)
def ziu(a:zy)(c:Int):Int:=if c=a.slots.length then a.dead.owner else (a.slots.getD c.toNat zf3).owner
def zgY(k:Int):Bool:=inB k 1 200
def zhG(a:zy)(c k:Int):zy:=if c=a.slots.length then { a with dead:={ a.dead with owner:=k } } else { a with slots:=a.slots.set c.toNat { a.slots.getD c.toNat zf3 with owner:=k } }
def zcQ(a:zy)(c k:Int):zy×Bool×Int:=if c<0\/(a.slots.length:Int)<c\/zgY k=false then (zF,false,1) else if ziu a c=0 then (zhG a c k,true,0) else (a,false,0)
def zev(a:zy)(c k:Int):zy×Int:=if c<0\/(a.slots.length:Int)<c\/zgY k=false then (zF,1) else if ziu a c=k then (zhG a c 0,0) else (zF,13)
theorem ztV(k:Int):zg G zpI [.d (.int .i64 k)] []=some (.d (.bool (zgY k)),[]):=by
 unfold zgY inB;exact zW zXQ
theorem zM3(a:zy)(c:Int)(hL:a.slots.length<=1000)(h0:0<=c)(h1:c<=a.slots.length):zg G zpx [.d (zi a),.d (.int .i64 c)] []=some (.d (.int .i64 (ziu a c)),[]):=by
 unfold ziu;exact zW zXM
theorem zM1(a:zy)(c k:Int)(hL:a.slots.length<=1000)(h0:0<=c)(h1:c<=a.slots.length):zg G zpF [.d (zi a),.d (.int .i64 c),.d (.int .i64 k)] []=some (.d (zi (zhG a c k)),[]):=by
 unfold zhG
 by_cases h:c=a.slots.length
 ·simp only[zi,h,if_true];exact zW zIE
 ·have hne:¬a.slots.length=0:=by omega
  simp only[zi,h,if_false];exact zW zIE
theorem zace(a:zy)(c k:Int)(hL:a.slots.length<=1000):zg G zpC [.d (zi a),.d (.int .i64 c),.d (.int .i64 k)] []=some (.d (.tup [zi (zcQ a c k).1,.bool (zcQ a c k).2.1,.int .i64 (zcQ a c k).2.2]),[]):=by
 have h2:=ztV k;unfold zcQ
 by_cases c1:c<0\/(a.slots.length:Int)<c
 ·rw[zacY zo];exact zW zzL
 ·have h1:=zM3 a c hL zo zo;have h3:=zM1 a c k hL zo zo
  cases c2:zgY k
  ·rw[zacY (by simp)];exact zW zzL
  ·rw[zacX (by simp;omega)];exact zW zzL
theorem zacm(a:zy)(c k:Int)(hL:a.slots.length<=1000):zg G zpD [.d (zi a),.d (.int .i64 c),.d (.int .i64 k)] []=some (.d (.tup [zi (zev a c k).1,.int .i64 (zev a c k).2]),[]):=by
 have h2:=ztV k;unfold zev
 by_cases c1:c<0\/(a.slots.length:Int)<c
 ·rw[zacY zo];exact zW zzM
 ·have h1:=zM3 a c hL zo zo;have h3:=zM1 a c 0 hL zo zo
  cases c2:zgY k
  ·rw[zacY (by simp)];exact zW zzM
  ·rw[zacX (by simp;omega)];exact zW zzM
def zjn(cells:List Int)(k:Nat):Bool:=decide (0<=cells.getD k 0/\cells.getD k 0<=6/\(k=0\/cells.getD (k - 1) 0<cells.getD k 0))
def zhp(cells:List Int):zb4×Int:=
 if cells.length=0\/3<cells.length then (zdN,2) else if (List.range cells.length).all (zjn cells)=true then (⟨cells,0,0,0,0⟩,0) else (zdN,1)
def zL:Nat×Go.Sim.Obj:=(2,.row [.agg [.xsl [],.d (.int .i64 0),.d (.int .i64 0),.d (.int .i64 0),.d (.int .i64 0)]])
theorem zNa{k:Nat}(h:0<k):((k:Int) - 1).toNat=k - 1:=by omega
theorem zZA(cells:List Int)(hL:cells.length<=3):zai G [] zA5 ⟨[(0,.d (.sl (zB cells))),(2,.ref 2 0 0),(4,.d (.int .i64 0))],[zL]⟩=some (if (List.range cells.length).all (zjn cells)=true then (.exit 0,⟨[(0,.d (.sl (zB cells))),(2,.ref 2 0 0)],[zL]⟩) else (.ret,⟨[(2,.ref 2 0 0),(3,.d (.int .i64 1))],[zL]⟩)):=by
 refine zhr (G:=G) cells.length (zjn cells) (fun k=>⟨[(0,.d (.sl (zB cells))),(2,.ref 2 0 0),(4,.d (.int .i64 k))],[zL]⟩) _ _ fun k hk L=> ?_;simp only[zA5,zL,zjn]
 by_cases h0:k<cells.length
 ·simp only[h0,if_true]
  (try simp -implicitDefEqProofs (maxSteps:=4000000) (disch:=omega) only[zNa,zj,go_sem, *]);(try simp only[zPr]);repeat' (first|done|rfl|((first|refine zay (fun hq=> ?_) (fun hq=> ?_)|refine zaD (fun hq=> ?_) (fun hq=> ?_))<;>(try (first|(exfalso;omega)|contradiction))<;>(try simp -implicitDefEqProofs (maxSteps:=4000000) (disch:=omega) only[zNa,zj,go_sem, *])<;>(try simp only[zPr])));(all_goals try rfl);(all_goals try (repeat' (first|done|rfl|(exfalso;omega)|contradiction|(refine zaz (fun hq=> ?_) (fun hq=> ?_)))))
 ·simp -implicitDefEqProofs (maxSteps:=4000000) (disch:=omega) only[go_sem,zadv]
theorem zZB(cells:List Int)(hL:cells.length<=4294967296):zg G zpK [.d (.sl (zB cells))] []=some (.d (.tup [zcd (zhp cells).1,.int .i64 (zhp cells).2]),[]):=by
 unfold zhp
 by_cases c1:cells.length=0\/3<cells.length
 ·rw[zacY c1];exact zW zzO
 ·rw[zacX c1];have hl:=zZA cells zo;simp only[zL] at hl
  by_cases c2:(List.range cells.length).all (zjn cells)=true
  ·simp only[c2,if_true] at hl ⊢;rw[zO zzO (by simp)];simp -implicitDefEqProofs (maxSteps:=4000000) (disch:=omega) only[zq2,zto,zB,zj,go_sem, *];(try simp only[zPr]);repeat' (first|done|rfl|((first|refine zay (fun hq=> ?_) (fun hq=> ?_)|refine zaD (fun hq=> ?_) (fun hq=> ?_))<;>(try (first|(exfalso;omega)|contradiction))<;>(try simp -implicitDefEqProofs (maxSteps:=4000000) (disch:=omega) only[zB,zj,go_sem, *])<;>(try simp only[zPr])));(all_goals try rfl);(all_goals try (repeat' (first|done|rfl|(exfalso;omega)|contradiction|(refine zaz (fun hq=> ?_) (fun hq=> ?_)))))
  ·simp only[c2,if_false] at hl ⊢;rw[zO zzO (by simp)];simp -implicitDefEqProofs (maxSteps:=4000000) (disch:=omega) only[zq2,zto,zB,zj,go_sem, *];(try simp only[zPr]);repeat' (first|done|rfl|((first|refine zay (fun hq=> ?_) (fun hq=> ?_)|refine zaD (fun hq=> ?_) (fun hq=> ?_))<;>(try (first|(exfalso;omega)|contradiction))<;>(try simp -implicitDefEqProofs (maxSteps:=4000000) (disch:=omega) only[zB,zj,go_sem, *])<;>(try simp only[zPr])));(all_goals try rfl);(all_goals try (repeat' (first|done|rfl|(exfalso;omega)|contradiction|(refine zaz (fun hq=> ?_) (fun hq=> ?_)))))
def zcv(l:zb4):zb4×Int:=if l.phase=3 then ({ l with phase:=4 },0) else (zdN,7)
theorem zZz(l:zb4):zg G zpJ [.d (zcd l)] []=some (.d (.tup [zcd (zcv l).1,.int .i64 (zcv l).2]),[]):=by
 unfold zcv;exact zW zXR
structure LWF(B:Int)(l:zb4):Prop where
 c1:1<=l.cells.length
 c2:l.cells.length<=3
 h0:0<=l.have_
 h1:l.have_<=l.cells.length
 t0:l.phase=0->l.have_<l.cells.length
 t1:l.phase=1->1<=l.have_
 t2:l.phase=2->l.have_=0/\1<=l.wait/\l.wait<=3
 t3:l.phase=3->l.have_=l.cells.length
 t4:l.phase=4->1<=l.have_
 t5:0<=l.phase/\l.phase<=5
 t6:l.phase=5->l.have_=0
 b0:0<=l.tries
 b1:l.tries<=B
def zmX(a:zy)(l:zb4)(k:Int):zy×zb4×Int:=
 if (zcQ a (l.cells.getD l.have_.toNat 0) k).2.2=0 then
  (if (zcQ a (l.cells.getD l.have_.toNat 0) k).2.1=true then ((zcQ a (l.cells.getD l.have_.toNat 0) k).1,{ l with have_:=l.have_+1,phase:=if l.have_+1=l.cells.length then 3 else l.phase },0)
   else ((zcQ a (l.cells.getD l.have_.toNat 0) k).1,{ l with phase:=if 0<l.have_ then 1 else l.phase },0))
 else (zF,zdN,(zcQ a (l.cells.getD l.have_.toNat 0) k).2.2)
def zkL(l:zb4):zb4:=
 if 0<l.have_ - 1 then { l with have_:=l.have_ - 1 } else if l.phase=4 then { l with have_:=l.have_ - 1,phase:=5 } else { l with have_:=l.have_ - 1,tries:=l.tries+1,wait:=if 3<l.tries+1 then 3 else l.tries+1,phase:=2 }
def zkO(a:zy)(l:zb4)(k:Int):zy×zb4×Int:=
 if (zev a (l.cells.getD (l.have_ - 1).toNat 0) k).2=0 then ((zev a (l.cells.getD (l.have_ - 1).toNat 0) k).1,zkL l,0) else (zF,zdN,(zev a (l.cells.getD (l.have_ - 1).toNat 0) k).2)
def zbi(a:zy)(l:zb4)(k:Int):zy×zb4×Int:=
 if l.phase=0 then zmX a l k else if l.phase=1\/l.phase=4 then zkO a l k else if l.phase=2 then (a,{ l with wait:=l.wait - 1,phase:=if l.wait - 1=0 then 0 else 2 },0) else (zF,zdN,7)
theorem zL8(a:zy)(l:zb4)(k:Int)(hL:a.slots.length<=1000)(hw:LWF 1000000 l):zg G zpL [.d (zi a),.d (zcd l),.d (.int .i64 k)] []=some (.d (.tup [zi (zbi a l k).1,zcd (zbi a l k).2.1,.int .i64 (zbi a l k).2.2]),[]):=by
 obtain⟨w1,w2,w3,w4,w5,w6,w7,w8,w9,w10,w11,w12,w13⟩:=hw;unfold zbi zmX zkO zkL
 by_cases c0:l.phase=0
 ·have ht:=zace a (l.cells.getD l.have_.toNat 0) k hL;have hh:=w5 c0;rw[zacY c0];generalize zcQ a (l.cells.getD l.have_.toNat 0) k=r at ht ⊢;obtain⟨r1,r2,r3⟩:=r;obtain⟨l1,l2,l3,l4,l5⟩:=l;simp only at *;rw[zj zo] at ht
  by_cases c1:r3=0
  ·rw[zacY c1];subst c1
   cases r2
   ·simp only[zac8,if_false];exact zW zgn
   ·simp only[if_true];exact zW zgn
  ·rw[zacX c1];exact zW zgn
 rw[zacX c0]
 by_cases c14:l.phase=1\/l.phase=4
 ·have ht:=zacm a (l.cells.getD (l.have_ - 1).toNat 0) k hL;have hh:1<=l.have_:=by rcases c14 with h|h;exact w6 h;exact w9 h
  rw[zacY c14];generalize zev a (l.cells.getD (l.have_ - 1).toNat 0) k=r at ht ⊢;obtain⟨r1,r3⟩:=r;obtain⟨l1,l2,l3,l4,l5⟩:=l;simp only at *;rw[zj zo] at ht
  by_cases c1:r3=0
  ·rw[zacY c1];subst c1
   by_cases c2:3<l4+1
   ·simp only[c2,if_true]
    rcases c14 with c5|c5
    ·exact zW zgn
    ·exact zW zgn
   ·simp only[c2,if_false]
    rcases c14 with c5|c5
    ·exact zW zgn
    ·exact zW zgn
  ·rw[zacX c1]
   rcases c14 with c5|c5
   ·exact zW zgn
   ·exact zW zgn
 rw[zacX c14]
 by_cases c2:l.phase=2
 ·have:=w7 c2;rw[zacY c2];exact zW zgn
 ·have q:¬l.phase=1/\¬l.phase=4:=by omega
  obtain⟨q1,q2⟩:=q;rw[zacX c2];exact zW zgn
theorem zRC(a:zy)(c k:Int)(h:(zcQ a c k).2.2=0):((zcQ a c k).1=a/\(zcQ a c k).2.1=false/\ziu a c≠0)\/((zcQ a c k).1=zhG a c k/\(zcQ a c k).2.1=true/\ziu a c=0):=by
 unfold zcQ at *
 split at h
 ·cases h
 ·rename_i h1;rw[zacX h1]
  split
  ·rename_i h2;exact .inr ⟨rfl,rfl,h2⟩
  ·rename_i h2;exact .inl ⟨rfl,rfl,h2⟩
theorem zRD(a:zy)(c k:Int)(h:(zev a c k).2=0):(zev a c k).1=zhG a c 0/\ziu a c=k:=by
 unfold zev at *
 split at h
 ·cases h
 ·rename_i h1;rw[zacX h1]
  split at h
  ·rename_i h2;rw[zacY h2];exact⟨rfl,h2⟩
  ·cases h
theorem zBk{B:Int}{a:zy}{l:zb4}{k:Int}(hw:LWF B l)(h:(zbi a l k).2.2=0):
    LWF (B+1) (zbi a l k).2.1/\(zbi a l k).2.1.cells=l.cells/\((zbi a l k).1=a\/∃c o,(zbi a l k).1=zhG a c o):=by
 obtain⟨w1,w2,w3,w4,w5,w6,w7,w8,w9,w10,w11,w12,w13⟩:=hw;unfold zbi at *
 by_cases c0:l.phase=0
 ·have hh:=w5 c0;rw[zacY c0] at h ⊢;unfold zmX at *
  by_cases c1:(zcQ a (l.cells.getD l.have_.toNat 0) k).2.2=0
  ·rw[zacY c1] at h ⊢
   rcases zRC _ _ _ c1 with ⟨e1,e2,_⟩|⟨e1,e2,_⟩
   ·rw[zacX (by rw[e2];simp)] at h ⊢;refine⟨?_,rfl,.inl e1⟩
    by_cases c2:0<l.have_
    ·simp only[c2,if_true];constructor<;>simp only<;>omega
    ·simp only[c2,if_false,c0];constructor<;>simp only<;>omega
   ·rw[zacY e2] at h ⊢;refine⟨?_,rfl,.inr ⟨_,_,e1⟩⟩
    by_cases c2:l.have_+1=l.cells.length
    ·simp only[c2,if_true];constructor<;>simp only<;>first|omega|exact fun _=>trivial
    ·simp only[c2,if_false,c0];constructor<;>simp only<;>omega
  ·rw[zacX c1] at h;exact absurd h c1
 rw[zacX c0] at h ⊢
 by_cases c14:l.phase=1\/l.phase=4
 ·have hh:1<=l.have_:=by rcases c14 with h|h;exact w6 h;exact w9 h
  rw[zacY c14] at h ⊢;unfold zkO at *
  by_cases c1:(zev a (l.cells.getD (l.have_ - 1).toNat 0) k).2=0
  ·rw[zacY c1] at h ⊢;have hk:=zRD _ _ _ c1;refine⟨?_,?_,.inr ⟨_,_,hk.1⟩⟩
   ·simp only[zkL]
    by_cases c2:0<l.have_ - 1
    ·rw[zacY c2];constructor<;>simp only<;>omega
    ·rw[zacX c2]
     by_cases c3:l.phase=4
     ·rw[zacY c3];constructor<;>simp only<;>omega
     ·rw[zacX c3]
      by_cases c4:3<l.tries+1
      ·rw[zacY c4];constructor<;>simp only<;>omega
      ·rw[zacX c4];constructor<;>simp only<;>omega
   ·simp only[zkL]
    by_cases c2:0<l.have_ - 1
    ·rw[zacY c2]
    ·rw[zacX c2]
     by_cases c3:l.phase=4
     ·rw[zacY c3]
     ·rw[zacX c3]
  ·rw[zacX c1] at h;exact absurd h c1
 rw[zacX c14] at h ⊢
 by_cases c2:l.phase=2
 ·have hh:=w7 c2;rw[zacY c2] at h ⊢;refine⟨?_,rfl,.inl rfl⟩
  by_cases c3:l.wait - 1=0
  ·simp only[c3,if_true];constructor<;>simp only<;>omega
  ·simp only[c3,if_false];constructor<;>simp only<;>omega
 ·rw[zacX c2] at h
  cases h
theorem LWF.mono{B B':Int}{l:zb4}(h:LWF B l)(hb:B<=B'):LWF B' l:=⟨h.c1,h.c2,h.h0,h.h1,h.t0,h.t1,h.t2,h.t3,h.t4,h.t5,h.t6,h.b0,by have:=h.b1;omega⟩
theorem zsU{B:Int}{l:zb4}(h:LWF B l)(hp:l.phase=3):LWF B (zcv l).1/\(zcv l).1.cells=l.cells:=by
 have h3:=h.t3 hp;obtain⟨w1,w2,w3,w4,w5,w6,w7,w8,w9,w10,w11,w12,w13⟩:=h;unfold zcv;rw[zacY hp];exact⟨by constructor<;>simp only<;>omega,rfl⟩
structure zet(cs:List Int)(n:Int):Prop where
 p:cs.Pairwise (· < ·)
 b:∀c∈cs,0<=c/\c<=n
 l:cs.length<=3
theorem zet.at{cs:List Int}{n:Int}(h:zet cs n)(hn:n<=6):(List.range cs.length).all (zjn cs)=true:=by
 rw[zadp];intro k hk;have hk:=zadU.1 hk;unfold zjn;have h1:=h.b cs[k] (zadf hk);rw[zj hk];refine zadn ⟨h1.1,by omega,?_⟩
 by_cases h0:k=0
 ·exact .inl h0
 ·right;rw[zj zo];exact zad7.1 h.p (k - 1) k zo hk zo
theorem zZ8{cs:List Int}{n:Int}(h:zet cs n)(hn:n<=6)(h0:1<=cs.length):zhp cs=(⟨cs,0,0,0,0⟩,0):=by
 unfold zhp;have:=h.l;rw[zacX zo,zacY (h.at hn)]
def zbe(l:List Span)(slot:Int):Int:=zce (fun x=>decide (x.shard=slot)) l
def zdM:Int->List Span->Option Int
 | n,[]=>some n
 | n,x::l=>if x.low=n/\x.low<=x.high/\x.high<65536 then zdM (x.high+1) l else none
def zdP(F:List Int):Nat->Int->Int
 | 0,a=>a
 | m+1,a=>zdP F m (if 0<=a then F.getD a.toNat 0 else a)
def zi9(d:zaM)(i:Nat):Bool:= !((decide (0<=zbe d.l i)&& !decide (d.forward.getD i 0= -1))||decide (d.forward.getD i 0< -1)||decide ((d.forward.length:Int)<=d.forward.getD i 0))
def zzi(d:zaM):Bool:=((List.range d.forward.length).all (zi9 d))&&(List.range d.forward.length).all fun i=>decide (zdP d.forward d.forward.length i<0)
def zin(n:Nat)(x:Span):Bool:=decide (x.shard<0)||decide ((n:Int)<=x.shard)
def zmk(l:List Span)(i:Nat):Bool:=decide (zbe l (l.getD i ze6).shard=i)
def zbC(d:zaM):Int:=
 if d.version<1\/1099511627776<d.version\/d.forward.length<1\/6<d.forward.length then 1
 else if zdM 0 d.l≠some 65536 then 7
 else if d.l.any (zin d.forward.length)=true then 4
 else if (List.range d.l.length).all (zmk d.l)=false then 10
 else if zzi d=false then 7 else 0
def zlr(d:zaM)(slot:Int):Span×Bool:=if zbC d=0/\0<=zbe d.l slot then (d.l.getD (zbe d.l slot).toNat ze6,true) else (ze6,false)
end Go.Proofs.YtdnlddoeamjcoaaGreat
