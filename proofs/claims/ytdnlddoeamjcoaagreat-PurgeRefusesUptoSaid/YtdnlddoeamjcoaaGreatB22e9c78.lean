/-
  Functions of the program, as the calculus has them.
-/
import Derived.Test.YtdnlddoeamjcoaaGreatB59ceceb
import Derived.KernelRfl
import Derived.Test.YtdnlddoeamjcoaaGreatProg
set_option linter.unusedSimpArgs false
set_option linter.unusedVariables false
set_option maxHeartbeats 10000000
set_option maxRecDepth 100000
namespace Go.Sim
variable {G:FuncId->Option AFn} {F:zbd} {E:Env} {H:zf}
theorem zacJ:exL G .skip ⟨E,H⟩=some (.normal,⟨E,H⟩):=zVZ
theorem zVE{ks:List Nat}:endS ks ⟨E,H⟩=gcS ⟨zdJ (zii ks E),H⟩:=rfl
theorem zYd:gcS ⟨E,H⟩=⟨E,gc1 E H⟩:=rfl
theorem zacE{i:Nat}{ks:List Nat}:exL G (.exit i ks) ⟨E,H⟩=some (.exit i,endS ks ⟨E,H⟩):=zVV
theorem zacH{ks:List Nat}:exL G (.ret ks) ⟨E,H⟩=some (.ret,endS ks ⟨E,H⟩):=zVX
theorem zacG{gs:List Nat}{l:List zQ}{ks:List Nat}:exL G (.ops gs l ks) ⟨E,H⟩=((zfA gs ⟨E,H⟩).bind (zbM (zg G) l)).map (zji ks):=zVW
theorem zacD{gs:List Nat}{l:List zQ}{fr:List (List Nat)}{ks:List Nat}:exL G (.draw gs l fr ks) ⟨E,H⟩=((zfA gs ⟨E,H⟩).bind (zgh (zg G) l fr)).map (zji ks):=zVU
theorem zacI{x y:zh}:exL G (.seq x y) ⟨E,H⟩=(exL G x ⟨E,H⟩).bind (zhE (exL G y)):=zVY
theorem zacB{c:Opd}{x y:zh}:exL G (.cond c x y) ⟨E,H⟩=zhV (c.ev E) (exL G x ⟨E,H⟩) (exL G y ⟨E,H⟩):=zVT
noncomputable def zvg(G:FuncId->Option AFn)(x y:zh)(E:Env)(H:zf):AV->Option (zac×St)
 | .d (.bool b)=>if b=true then exL G x ⟨E,H⟩ else exL G y ⟨E,H⟩
 | _=>none
theorem zacC{c:Opd}{x y:zh}:exL G (.cond c x y) ⟨E,H⟩=zvg G x y E H (c.ev E):=by
 rw[zacB];unfold zhV zvg;generalize c.ev E=v
 split<;>simp_all
theorem zTD{b:Bool}{x y:zh}:zvg G x y E H (.d (.bool b))=if b=true then exL G x ⟨E,H⟩ else exL G y ⟨E,H⟩:=rfl
theorem zacA{id:Nat}{x:zh}:exL G (.block id x) ⟨E,H⟩=(exL G x ⟨E,H⟩).map (ziV id):=zVS
theorem zacF{ks:List Nat}{x:zh}:exL G (.loop ks x) ⟨E,H⟩=zai G ks x (norm ks ⟨E,H⟩):=rfl
theorem zYk{S:St}:zfA [] S=some S:=rfl
theorem zYj{g:Nat}{gs:List Nat}:zfA (g::gs) ⟨E,H⟩=(zr5 g ⟨E,H⟩).bind (zfA gs):=rfl
theorem zZr{ks:List Nat}:zji ks ⟨E,H⟩=(.normal,⟨zgr ks E,H⟩):=rfl
theorem z1R{ks:List Nat}:norm ks ⟨E,H⟩=norm1 ⟨zgr ks E,H⟩:=rfl
theorem z1Q:norm1 ⟨E,H⟩=⟨zdJ (deX E),ztQ (gc1 E (gc1 E H))⟩:=rfl
theorem zaay{g:St->Option (zac×St)}{S:St}:zhE g (.normal,S)=g S:=rfl
theorem zaax{g:St->Option (zac×St)}{i:Nat}{S:St}:zhE g (.exit i,S)=some (.exit i,S):=rfl
theorem zaaz{g:St->Option (zac×St)}{S:St}:zhE g (.ret,S)=some (.ret,S):=rfl
theorem z0k{ks:List Nat}{g:St->Option (zac×St)}{S:St}:zdB ks g (.normal,S)=g (norm ks S):=rfl
theorem z0j{ks:List Nat}{g:St->Option (zac×St)}{i:Nat}{S:St}:zdB ks g (.exit i,S)=some (.exit i,S):=rfl
theorem z0l{ks:List Nat}{g:St->Option (zac×St)}{S:St}:zdB ks g (.ret,S)=some (.ret,S):=rfl
theorem zST{id:Nat}{S:St}:ziV id (.normal,S)=(.normal,S):=rfl
theorem zSS{id i:Nat}{S:St}:ziV id (.exit i,S)=if i=id then (.normal,S) else (.exit i,S):=rfl
theorem zSU{id:Nat}{S:St}:ziV id (.ret,S)=(.ret,S):=rfl
def zfN(t:Nat)(v:AV):Env->Env
 | []=>[]
 | (j,x)::l=>if j=t then (j,v)::l else (j,x)::zfN t v l
theorem ztz{t:Nat}{v:AV}:∀ {E:Env},look t E=some v->zfN t v E=E:=by
 intro E
 induction E with
 | nil=>intro h;cases h
 | cons p l ih=>
  obtain⟨j,x⟩:=p;intro h;simp only[look] at h;simp only[zfN]
  split
  ·rename_i e;rw[zacY e] at h;cases h;rfl
  ·rename_i e;rw[zacX e] at h;rw[ih h]
def z8{α:Type}(v:Option AV)(k j:Bool->Option α):Option α:=
 match v with
 | some (.d (.bool true))=>k true
 | some (.d (.bool false))=>k false
 | _=>none
theorem z1T:zbM F [] ⟨E,H⟩=some ⟨E,H⟩:=rfl
theorem z1U{d:Option Nat}{op:AOp}{l:List zQ}:zbM F (⟨d,op,none⟩::l) ⟨E,H⟩=(zd1 F ⟨d,op,none⟩ ⟨E,H⟩).bind (zbM F l):=rfl
def zh6(F:zbd)(d:Option Nat)(op:AOp)(b:Bool)(l:List zQ)(E:Env)(H:zf)(c:Bool):Option St:=if c=b then (zd1 F ⟨d,op,none⟩ ⟨E,H⟩).bind (zbM F l) else zbM F l (St.put ⟨E,H⟩ d (.d (.tup [])))
theorem zXh{d:Option Nat}{op:AOp}{l:List zQ}:zh6 F d op true l E H true=(zd1 F ⟨d,op,none⟩ ⟨E,H⟩).bind (zbM F l):=rfl
theorem zXe{d:Option Nat}{op:AOp}{l:List zQ}:zh6 F d op false l E H false=(zd1 F ⟨d,op,none⟩ ⟨E,H⟩).bind (zbM F l):=rfl
theorem zXg{d:Option Nat}{op:AOp}{l:List zQ}:zh6 F d op true l E H false=zbM F l (St.put ⟨E,H⟩ d (.d (.tup []))):=rfl
theorem zXf{d:Option Nat}{op:AOp}{l:List zQ}:zh6 F d op false l E H true=zbM F l (St.put ⟨E,H⟩ d (.d (.tup []))):=rfl
def zrH(F:zbd)(d:Option Nat)(op:AOp)(t:Nat)(b:Bool)(l:List zQ)(E:Env)(H:zf)(v:Option AV):Option St:=
 match v with
 | some (.d (.bool c))=>if c=true then zh6 F d op b l (zfN t (.d (.bool true)) E) H true else zh6 F d op b l (zfN t (.d (.bool false)) E) H false
 | some (.d (.tup []))=>zbM F l (St.put ⟨E,H⟩ d (.d (.tup [])))
 | _=>none
theorem zXd{d:Option Nat}{op:AOp}{t:Nat}{b:Bool}{l:List zQ}:zrH F d op t b l E H (some (.d (.tup [])))=zbM F l (St.put ⟨E,H⟩ d (.d (.tup []))):=rfl
theorem zXc{d:Option Nat}{op:AOp}{t:Nat}{b c:Bool}{l:List zQ}:zrH F d op t b l E H (some (.d (.bool c)))=if c=true then zh6 F d op b l (zfN t (.d (.bool true)) E) H true else zh6 F d op b l (zfN t (.d (.bool false)) E) H false:=rfl
theorem z1S{d:Option Nat}{op:AOp}{l:List zQ}{t:Nat}{b:Bool}:zbM F (⟨d,op,some (t,b)⟩::l) ⟨E,H⟩=zrH F d op t b l E H (look t E):=by
 simp only[zbM,zrH];generalize hv:look t E=v
 split
 ·rename_i c
  cases c with
  | true=>simp only[ztz hv,if_true];rfl
  | false=>simp only[ztz hv,zac8,if_false];rfl
 ·rfl
 ·rename_i hno hno2
  split
  ·exact absurd rfl (hno _)
  ·exact absurd rfl hno2
  ·rfl
theorem zT1{l:List zQ}{fr:List (List Nat)}:zgh F l fr ⟨E,H⟩=if (zb8 E&&zb8 H&&zmo l ⟨E,H⟩)=true then zbP F l fr [] ⟨E,H⟩ else none:=rfl
theorem zT3{fr:List (List Nat)}{acc:List (List Nat×List Nat)}:zbP F [] fr acc ⟨E,H⟩=some ⟨E,H⟩:=rfl
theorem zT4{d:Option Nat}{op:AOp}{l:List zQ}{f:List Nat}{fr:List (List Nat)}{acc:List (List Nat×List Nat)}:zbP F (⟨d,op,none⟩::l) (f::fr) acc ⟨E,H⟩=(zdQ F ⟨d,op,none⟩ (f::fr) acc ⟨E,H⟩).bind (zbP F l fr (acc++[op.feet E H (d.getD 0)])):=rfl
def zhW(F:zbd)(d:Option Nat)(op:AOp)(t:Nat)(b:Bool)(l:List zQ)(f:List Nat)(fr:List (List Nat))(acc:List (List Nat×List Nat))(E:Env)(H:zf)(c:Bool):Option St:=
 if c=b then (zdQ F ⟨d,op,none⟩ (f::fr) acc ⟨E,H⟩).bind (zbP F l fr (acc++[op.feet E H (d.getD 0)])) else (zgD ⟨d,op,some (t,b)⟩ (f::fr) acc ⟨E,H⟩).bind (zbP F l fr (acc++[([],[])]))
theorem zT0{d:Option Nat}{op:AOp}{t:Nat}{l:List zQ}{f:List Nat}{fr:List (List Nat)}{acc:List (List Nat×List Nat)}:zhW F d op t true l f fr acc E H true=(zdQ F ⟨d,op,none⟩ (f::fr) acc ⟨E,H⟩).bind (zbP F l fr (acc++[op.feet E H (d.getD 0)])):=rfl
theorem zTX{d:Option Nat}{op:AOp}{t:Nat}{l:List zQ}{f:List Nat}{fr:List (List Nat)}{acc:List (List Nat×List Nat)}:zhW F d op t false l f fr acc E H false=(zdQ F ⟨d,op,none⟩ (f::fr) acc ⟨E,H⟩).bind (zbP F l fr (acc++[op.feet E H (d.getD 0)])):=rfl
theorem zTZ{d:Option Nat}{op:AOp}{t:Nat}{l:List zQ}{f:List Nat}{fr:List (List Nat)}{acc:List (List Nat×List Nat)}:zhW F d op t true l f fr acc E H false=(zgD ⟨d,op,some (t,true)⟩ (f::fr) acc ⟨E,H⟩).bind (zbP F l fr (acc++[([],[])])):=rfl
theorem zTY{d:Option Nat}{op:AOp}{t:Nat}{l:List zQ}{f:List Nat}{fr:List (List Nat)}{acc:List (List Nat×List Nat)}:zhW F d op t false l f fr acc E H true=(zgD ⟨d,op,some (t,false)⟩ (f::fr) acc ⟨E,H⟩).bind (zbP F l fr (acc++[([],[])])):=rfl
def zrm(F:zbd)(d:Option Nat)(op:AOp)(t:Nat)(b:Bool)(l:List zQ)(f:List Nat)(fr:List (List Nat))(acc:List (List Nat×List Nat))(E:Env)(H:zf)(v:Option AV):Option St:=
 match v with
 | some (.d (.bool c))=>if c=true then zhW F d op t b l f fr acc (zfN t (.d (.bool true)) E) H true else zhW F d op t b l f fr acc (zfN t (.d (.bool false)) E) H false
 | some (.d (.tup []))=>(zgD ⟨d,op,some (t,b)⟩ (f::fr) acc ⟨E,H⟩).bind (zbP F l fr (acc++[([],[])]))
 | _=>none
theorem zTW{d:Option Nat}{op:AOp}{t:Nat}{b:Bool}{l:List zQ}{f:List Nat}{fr:List (List Nat)}{acc:List (List Nat×List Nat)}:zrm F d op t b l f fr acc E H (some (.d (.tup [])))=(zgD ⟨d,op,some (t,b)⟩ (f::fr) acc ⟨E,H⟩).bind (zbP F l fr (acc++[([],[])])):=rfl
theorem zTV{d:Option Nat}{op:AOp}{t:Nat}{b c:Bool}{l:List zQ}{f:List Nat}{fr:List (List Nat)}{acc:List (List Nat×List Nat)}:zrm F d op t b l f fr acc E H (some (.d (.bool c)))=
    if c=true then zhW F d op t b l f fr acc (zfN t (.d (.bool true)) E) H true else zhW F d op t b l f fr acc (zfN t (.d (.bool false)) E) H false:=rfl
theorem zT2{d:Option Nat}{op:AOp}{l:List zQ}{f:List Nat}{fr:List (List Nat)}{acc:List (List Nat×List Nat)}{t:Nat}{b:Bool}:zbP F (⟨d,op,some (t,b)⟩::l) (f::fr) acc ⟨E,H⟩=zrm F d op t b l f fr acc E H (look t E):=by
 simp only[zbP,zrm];generalize hv:look t E=v
 split
 ·rename_i c
  cases c with
  | true=>simp only[ztz hv,if_true];rfl
  | false=>simp only[ztz hv,zac8,if_false];rfl
 ·rfl
 ·rename_i hno hno2
  split
  ·exact absurd rfl (hno _)
  ·exact absurd rfl hno2
  ·rfl
theorem zUX{d:Option Nat}{op:AOp}{f:List Nat}{fr:List (List Nat)}{acc:List (List Nat×List Nat)}:zdQ F ⟨d,op,none⟩ (f::fr) acc ⟨E,H⟩=if zg8 f acc (op.feet E H (d.getD 0))=true then zd1 F ⟨d,op,none⟩ ⟨E,H⟩ else none:=rfl
theorem zUW{x:zQ}{f:List Nat}{fr:List (List Nat)}{acc:List (List Nat×List Nat)}:zgD x (f::fr) acc ⟨E,H⟩=if zg8 f acc ([],[])=true then some (St.put ⟨E,H⟩ x.dst (.d (.tup []))) else none:=rfl
theorem z68{d:Nat}{v:AV}:St.put ⟨E,H⟩ (some d) v=⟨zY d v E,H⟩:=rfl
def putO(E:Env)(d:Option Nat)(r:Option (AV×zf)):Option St:=r.map fun p=>St.put ⟨E,p.2⟩ d p.1
theorem z66{v:AV}:putO E none (some (v,H))=some ⟨E,H⟩:=rfl
theorem z67{d:Nat}{v:AV}:putO E (some d) (some (v,H))=some ⟨zY d v E,H⟩:=rfl
theorem z9E{d:Option Nat}{op:AOp}{g:Option (Nat×Bool)}:zd1 F ⟨d,op,g⟩ ⟨E,H⟩=putO E d (step F E H (d.getD 0) op):=rfl
variable {dst:Nat}
theorem zTc{v:AV}{δ:zf}:zg7 H (some (v,δ))=some (v,zav δ H):=rfl
theorem zS4{ms:List Bool}{f:FuncId}{args:List AV}:zbK F E H dst ms f args=if zmq ms args.length=true then (zb5 H ms args).bind (zgG F E H dst ms f (zaQ ms args)) else zc0 F E H dst ms f args:=rfl
theorem zS2{ms:List Bool}{f:FuncId}{args:List AV}:zc0 F E H dst ms f args=(zb5 H ms args).bind (zga F E H dst (zbZ H ms args) (zaQ ms args) f):=rfl
theorem zW6{ms:List Bool}{f:FuncId}{dob:List Nat}{aS:List AV}:zgG F E H dst ms f dob aS=if zgH H dob=true then (zc0 F E (zav (zbG H dob) H) dst ms f aS).map fun p=>(p.1,p.2++zbG H dob) else none:=rfl
theorem zT8(ds:List D):zaQ [] (ds.map .d)=[]:=by
 induction ds with
 | nil=>rfl
 | cons d ds ih=>simp only[zac1,zaQ,ih,AV.objs,zadk]
theorem zj5{f:FuncId}{ds:List D}:zbK F E H dst [] f (ds.map .d)=(F f (ds.map .d) []).bind (zfc E H dst [] []):=by
 have h1:zb5 H [] (ds.map .d)=some (ds.map .d):=by
  induction ds with
  | nil=>rfl
  | cons d ds ih=>simp only[zac1,zb5,ih,toD,zadz,zadJ]
 have h2:zcD [] (ds.map .d)=[]:=by cases ds<;>rfl
 have h3:=zT8 ds;have h4:(ds.map AV.d).map (AV.ren (zbb []))=ds.map .d:=by
  rw[zadV];exact zaer fun _ _=>rfl
 unfold zbK;rw[zacX (by simp [zmq])];unfold zc0;rw[h1,h3];simp only[zadz,zbZ,h2,zds,zfO,List.flatMap_nil,zga,zk0,List.all_nil,zhY,zaei,if_true,h4,zcm,zacZ]
theorem ca0{f:FuncId}:zbK F E H dst [] f []=(F f [] []).bind (zfc E H dst [] []):=zj5 (ds:=[])
theorem ca1{f:FuncId}{a:D}:zbK F E H dst [] f [.d a]=(F f [.d a] []).bind (zfc E H dst [] []):=zj5 (ds:=[a])
theorem ca2{f:FuncId}{a b:D}:zbK F E H dst [] f [.d a,.d b]=(F f [.d a,.d b] []).bind (zfc E H dst [] []):=zj5 (ds:=[a,b])
theorem ca3{f:FuncId}{a b c:D}:zbK F E H dst [] f [.d a,.d b,.d c]=(F f [.d a,.d b,.d c] []).bind (zfc E H dst [] []):=zj5 (ds:=[a,b,c])
theorem ca4{f:FuncId}{a b c d:D}:zbK F E H dst [] f [.d a,.d b,.d c,.d d]=(F f [.d a,.d b,.d c,.d d] []).bind (zfc E H dst [] []):=zj5 (ds:=[a,b,c,d])
theorem ca5{f:FuncId}{a b c d e:D}:zbK F E H dst [] f [.d a,.d b,.d c,.d d,.d e]=(F f [.d a,.d b,.d c,.d d,.d e] []).bind (zfc E H dst [] []):=zj5 (ds:=[a,b,c,d,e])
theorem z0F{c:Prop}[Decidable c]{e:zac}{t:Nat}{x y:Bool}:(if c then some (e,(⟨(t,.d (.bool x))::E,H⟩:St)) else some (e,⟨(t,.d (.bool y))::E,H⟩))=some (e,⟨(t,.d (.bool (if c then x else y)))::E,H⟩):=by split<;>rfl
theorem zZj{c x:Bool}:(if c=true then x else false)=(c&&x):=by cases c<;>rfl
theorem zZk{c x:Bool}:(if c=true then true else x)=(c||x):=by cases c<;>rfl
theorem zSR{α β:Type}{c:Prop}[Decidable c]{x y:Option α}{k:α->Option β}:(if c then x else y).bind k=if c then x.bind k else y.bind k:=by split<;>rfl
theorem z0t{α β:Type}{c:Prop}[Decidable c]{x y:Option α}{k:α->β}:(if c then x else y).map k=if c then x.map k else y.map k:=by split<;>rfl
theorem zWO{sl:Bool}{rs:List zm}{os:zf}{S:St}:zgF sl rs os (.normal,S)=(zfQ S rs).bind (zh5 sl os S):=rfl
theorem zWP{sl:Bool}{rs:List zm}{os:zf}{S:St}:zgF sl rs os (.ret,S)=(zfQ S rs).bind (zh5 sl os S):=rfl
theorem zWN{os:zf}{S:St}{v:AV}:zh5 true os S v=(toD S.heap v).bind (ztL os S v):=rfl
theorem zWM{os:zf}{S:St}{v:AV}:zh5 false os S v=zkm os S v (zgw S.heap os v):=rfl
theorem z90{x:Opd}:step F E H dst (.mv x)=zt E H dst (.mv x):=rfl
theorem zWo{x:Opd}:AOp.feet E H dst (.mv x)=(zaG (AOp.foot E dst (.mv x)),zaG (AOp.wr E dst (.mv x))):=rfl
theorem z93{c a b:Opd}:step F E H dst (.pick c a b)=zt E H dst (.pick c a b):=rfl
theorem zWq{c a b:Opd}:AOp.feet E H dst (.pick c a b)=(zaG (AOp.foot E dst (.pick c a b)),zaG (AOp.wr E dst (.pick c a b))):=rfl
theorem z9D{z:AV}:step F E H dst (.alloc z)=zt E H dst (.alloc z):=rfl
theorem zV7{z:AV}:AOp.feet E H dst (.alloc z)=(zaG (AOp.foot E dst (.alloc z)),zaG (AOp.wr E dst (.alloc z))):=rfl
theorem z9L{x:Opd}:step F E H dst (.box x)=zt E H dst (.box x):=rfl
theorem zWc{z:List AV}{ps:List (Nat×Nat×Opd)}:AOp.feet E H dst (.build z ps)=(zaG (AOp.foot E dst (.build z ps)),zaG (AOp.wr E dst (.build z ps))):=rfl
theorem zWb{len n:Nat}{z:AV}{ps:List (Nat×Opd)}:AOp.feet E H dst (.bsl len n z ps)=(zaG (AOp.foot E dst (.bsl len n z ps)),zaG (AOp.wr E dst (.bsl len n z ps))):=rfl
theorem zWl{ag:Bool}{n:Nat}{p:Opd}:AOp.feet E H dst (.ld ag n p)=(zaG (AOp.foot E dst (.ld ag n p)),zaG (AOp.wr E dst (.ld ag n p))):=rfl
theorem zWt{n:Nat}{p x:Opd}:AOp.feet E H dst (.st n p x)=(zaG (AOp.foot E dst (.st n p x)),zki (AOp.wr E dst (.st n p x))):=rfl
theorem z92{x:Opd}:step F E H dst (.nilc x)=zt E H dst (.nilc x):=rfl
theorem zWp{x:Opd}:AOp.feet E H dst (.nilc x)=(zaG (AOp.foot E dst (.nilc x)),zaG (AOp.wr E dst (.nilc x))):=rfl
theorem zV9{op:BinOp}{x y:Opd}:AOp.feet E H dst (.bin op x y)=(zaG (AOp.foot E dst (.bin op x y)),zaG (AOp.wr E dst (.bin op x y))):=rfl
theorem zWg{ng:Bool}{n:Nat}{ls:List (Nat×Nat)}{x y:Opd}:AOp.feet E H dst (.eqs ng n ls x y)=(zaG (AOp.foot E dst (.eqs ng n ls x y)),zaG (AOp.wr E dst (.eqs ng n ls x y))):=rfl
theorem z91  : step F E H dst (.nacc)=zt E H dst (.nacc):=rfl
theorem z96{op:UnOp}{x:Opd}:step F E H dst (.un op x)=zt E H dst (.un op x):=rfl
theorem zWu{op:UnOp}{x:Opd}:AOp.feet E H dst (.un op x)=(zaG (AOp.foot E dst (.un op x)),zaG (AOp.wr E dst (.un op x))):=rfl
theorem z9P{k:IntKind}{x:Opd}:step F E H dst (.cvi k x)=zt E H dst (.cvi k x):=rfl
theorem zWf{k:IntKind}{x:Opd}:AOp.feet E H dst (.cvi k x)=(zaG (AOp.foot E dst (.cvi k x)),zaG (AOp.wr E dst (.cvi k x))):=rfl
theorem zWi{ag:Bool}{off n:Nat}{x:Opd}:AOp.feet E H dst (.fad ag off n x)=(zaG (AOp.foot E dst (.fad ag off n x)),zaG (AOp.wr E dst (.fad ag off n x))):=rfl
theorem zWj{ag:Bool}{off n:Nat}{x:Opd}:AOp.feet E H dst (.fld ag off n x)=(zaG (AOp.foot E dst (.fld ag off n x)),zaG (AOp.wr E dst (.fld ag off n x))):=rfl
theorem zWk{n:Nat}{x i:Opd}:AOp.feet E H dst (.iad n x i)=(zkW (AOp.foot E dst (.iad n x i)),[]):=rfl
theorem zWs{n:Nat}{x:Opd}{lo hi mx:Option Opd}:AOp.feet E H dst (.slc n x lo hi mx)=(zaG (AOp.foot E dst (.slc n x lo hi mx)),zaG (AOp.wr E dst (.slc n x lo hi mx))):=rfl
theorem zWh{x:Opd}{i:Nat}:AOp.feet E H dst (.ext x i)=(zaG (AOp.foot E dst (.ext x i)),zaG (AOp.wr E dst (.ext x i))):=rfl
theorem zWm{x:Opd}:AOp.feet E H dst (.len x)=(zaG (AOp.foot E dst (.len x)),zaG (AOp.wr E dst (.len x))):=rfl
theorem z9X{x:Opd}:step F E H dst (.lens x)=zt E H dst (.lens x):=rfl
theorem zV8{n:Nat}{x y:Opd}:AOp.feet E H dst (.app n x y)=(zaG (AOp.foot E dst (.app n x y)),zaG (AOp.wr E dst (.app n x y))):=rfl
theorem zWn{mx:Bool}{xs:List Opd}:AOp.feet E H dst (.mm mx xs)=(zaG (AOp.foot E dst (.mm mx xs)),zaG (AOp.wr E dst (.mm mx xs))):=rfl
theorem z9Y{n:Nat}{z:AV}{l c:Opd}:step F E H dst (.mks n z l c)=zt E H dst (.mks n z l c):=rfl
theorem zaaS{k:IntKind}{n:Int}:D.size (.int k n)=1:=rfl
theorem zTg{k:IntKind}{n:Int}:D.cells (.int k n)=[(.int k n)]:=rfl
theorem zaaR{b:Bool}:D.size (.bool b)=1:=rfl
theorem zTf{b:Bool}:D.cells (.bool b)=[(.bool b)]:=rfl
theorem zaaU{s:List UInt8}:D.size (.str s)=1:=rfl
theorem zTi{s:List UInt8}:D.cells (.str s)=[(.str s)]:=rfl
theorem zaaT{es:List D}:D.size (.sl es)=1:=rfl
theorem zTh{es:List D}:D.cells (.sl es)=[(.sl es)]:=rfl
theorem size_agg{cs:List D}:D.size (.agg cs)=cs.length:=rfl
theorem zTe{cs:List D}:D.cells (.agg cs)=cs:=rfl
theorem zSz{cs:List D}:D.asAgg (.agg cs)= .agg cs:=rfl
theorem zSE{x:D}:AV.size (.d x)=x.size:=rfl
theorem zRK{x:D}:AV.cells (.d x)=x.cells.map .d:=rfl
theorem zSF{o off len:Nat}:AV.size (.osl o off len)=1:=rfl
theorem zRL{o off len:Nat}:AV.cells (.osl o off len)=[(.osl o off len)]:=rfl
theorem zSC{o:Nat}{es:List D}:AV.size (.acc o es)=1:=rfl
theorem zRI{o:Nat}{es:List D}:AV.cells (.acc o es)=[(.acc o es)]:=rfl
theorem zSG{es:List D}:AV.size (.xsl es)=1:=rfl
theorem zRM{es:List D}:AV.cells (.xsl es)=[(.xsl es)]:=rfl
theorem zSD{cs:List AV}:AV.size (.agg cs)=cs.length:=rfl
theorem zRJ{cs:List AV}:AV.cells (.agg cs)=cs:=rfl
section
variable {k:IntKind} {a b:Int}
def zjZ(k:IntKind)(a b:Int):Int:=k.wrap (BitVec.ofInt k.bits a &&& BitVec.ofInt k.bits b).toNat
def orI(k:IntKind)(a b:Int):Int:=k.wrap (BitVec.ofInt k.bits a ||| BitVec.ofInt k.bits b).toNat
def zjL(k:IntKind)(a b:Int):Int:=k.wrap (BitVec.ofInt k.bits a ^^^ BitVec.ofInt k.bits b).toNat
theorem zYw:zdf .add k a b=some (.int k (k.wrap (a+b))):=rfl
theorem zYI:zdf .sub k a b=some (.int k (k.wrap (a - b))):=rfl
theorem zYD:zdf .mul k a b=some (.int k (k.wrap (a * b))):=rfl
theorem zYG:zdf .quo k a b=if b=0 then none else some (.int k (k.wrap (a.tdiv b))):=rfl
theorem zYH:zdf .rem k a b=if b=0 then none else some (.int k (a.tmod b)):=rfl
theorem zYy:zdf .eql k a b=some (.bool (decide (a=b))):=rfl
theorem zYE:zdf .neq k a b=some (.bool (!decide (a=b))):=rfl
theorem zYC:zdf .lss k a b=some (.bool (decide (a<b))):=rfl
theorem zYB:zdf .leq k a b=some (.bool (decide (a<=b))):=rfl
theorem zYA:zdf .gtr k a b=some (.bool (decide (b<a))):=rfl
theorem zYz:zdf .geq k a b=some (.bool (decide (b<=a))):=rfl
theorem zYx:zdf .and k a b=some (.int k (zjZ k a b)):=rfl
theorem zYF:zdf .or k a b=some (.int k (orI k a b)):=rfl
theorem zYJ:zdf .xor k a b=some (.int k (zjL k a b)):=rfl
end
theorem zVN{ng:Bool}{n:Nat}{ls:List (Nat×Nat)}{a b:List D}:zrs H ng n ls (.d (.agg a)) (.d (.agg b))=if a.length=n/\b.length=n then zCQ H ng (zhb a b ls) else none:=rfl
attribute [go_sem] z9H z9I z9G zgB zqP zDV zfb zQB ziU zqR zup zum zqO zun
theorem z6l{x:AV}{off:Nat}{v:AV}:zdj x off v=if off=0/\v.size=x.size then some v else if off+v.size<=x.size then some (AV.mkAgg (zfX x.cells off v.cells)) else none:=rfl
attribute [go_sem] zacJ zacE zacH zacG zacD zacI zacC zTD zacA zacF zYk zYj zZr z1R z1Q deX zrp zVE zYd zii zaay zaax zaaz z0k z0j z0l zST zSS zSU zXh zXe zXg zXf zXc zXd zTW zT0 zTX zTZ zTY zTV zfN z0F zZj zZk zSR z0t z1T z1U z1S zT1 zT3 zT4 zT2 zUX zUW z68 z66 z67 z9E zTc zWO zWP zWN zWM z90 z93 z9D z9L z92 z91 z96 z9P z9X z9Y zWo zWq zV7 zWc zWb zWl zWt zWp zV9 zWg zWu zWf zWi zWj zWk zWs zWh zWm zV8 zWn zaaS zTg zaaR zTf zaaU zTi zaaT zTh size_agg zTe zSz zSE zRK zSF zRL zSC zRI zSG zRM zSD zRJ zadg zt Opd.ev zac1 zacZ Go.Sim.look zY zes zaes Option.getD_none zg6 zYw zYI zYD zYG zYH zYy zYE zYC zYB zYA zYz zYx zYF zYJ zln znK zadJ Option.map_none zadz Option.bind_none zgr List.contains_cons List.contains_nil Bool.or_true zaeW Bool.or_false zaej Bool.or_self zac8 zadA zadv zaek beq_self_eq_true zbg zaE AV.refs AV.refsL Obj.refs zafh zaed zael zadO zaei zaem zaet zadZ zcw zeT zafi zafE List.getElem?_nil zac4 zac5 zadu List.drop_succ_cons List.take_succ_cons zadQ z6l zfX AV.mkAgg AV.mkTup AV.mkFn zbJ z9a z89 z9c ziz zvh zvh.consQ zRf z88 z9b zQA toD toD.toDs zcf slD ne_eq zac9 zadw Nat.succ_ne_self zafF zafG eq_self_iff_true zb8 AOp.foot AOp.wr AOp.looks AOp.news AOp.opds zir AV.objs AV.objsL zad0 List.all_nil zaeE List.any_nil List.headD_cons List.headD_nil List.tail_cons List.tail_nil zadi zadl zadk zeB unX zjK znQ zbQ List.set_cons_zero List.set_cons_succ Nat.lt_add_one Nat.zero_lt_one Nat.one_lt_two zafj zjg zQ.newNames fr4 zdO zcB zj6 zrf zaG zb5 zaQ zcD zbZ zfO zds zlj zbb pos AV.ren AV.renL Obj.ren zga zfc AV.flat AV.flatL Obj.flat D.flat D.flatL zav mmD zgC zkm ztL zgw zbm frs zr5 zt1 zDk zDl ziq zm6 ztY zDe zDf zkU zm5 zt0 zDj ztZ zDh zhX zmi zvk znt rnm Option.isNone_some Option.isNone_none zi6 zgV zjU zdJ zif ztQ gc1 gc zkV zhb zvx List.flatMap_nil List.flatMap_cons zaeF zaen List.getD_cons_zero List.getD_cons_succ decide_true decide_false if_true if_false List.isEmpty_nil List.isEmpty_cons z1Z okN zBE znM z6j osN zW5 zW4 zWY zrC zUp zUo z83 z82 z1X z1W zVR zVQ zUr zUq zGU zTp zTo zrF zW3 zW2 z9u z9t zRH zRG zrr zVI zYi zYh zBF okO z10 zMP okG z1Y zs1 z6k evs evO evB evF szF zhA znv zCQ dO pdO peO ldE ldO ldV z9V zkj z9S szR szP szD zLT zie zAD z9U stF stE stO stV z95 zvE z9T zus z9K zVN z9Q bdI bd slM zRv zDH slL slH zDx zDw zuc zan zBO zBM zBL zBN ziI z94 zvy z9R zBh zBi z9W mmV z9Z zux z9N zuv zuw z9M zuq zur z9J zE zE.srcL zls zui zl9 zuj z9F z9O zWe
theorem zR5{n:Nat}:zaI n []=true:=rfl
theorem zDM{n:Nat}{e:D}{es:List D}:zaI n (e::es)=(e.size==n&&zaI n es):=rfl
theorem zR3{n:Nat}{es fs:List D}:zaI n (es++fs)=(zaI n es&&zaI n fs):=by simp [zaI]
theorem zRS{ds:List D}:zbJ (ds.map .d)=some ds:=zue ds
theorem tc_0{ns:List Nat}:zeq ns dst 0=dst:=by simp [zeq]
theorem zabQ{ns:List Nat}{n:Nat}(h:¬n<1000000):zeq ns dst n=ns.getD (n - 1000000) 0:=by unfold zeq;rw[zacX h]
theorem zabP{ns:List Nat}{a:Nat}:zeq (a::ns) dst 1000000=a:=by rw[zabQ (by omega)];rfl
attribute [go_sem] tc_0 zabP
attribute [go_sem] zi2 zmh zkc zkd zrn zgc zvl
attribute [go_sem] zjr zm4 zkS zkT zsY zgu zBD
attribute [go_sem] okC zdk zm8 zny okE ziD zkY zli zgv zcW zh1 orE zh2 zgm zrz zDm
attribute [go_sem] zQt z1V zR5 zDM zR3 zRS
attribute [go_sem high] ca0 ca1 ca2 ca3 ca4 ca5
attribute [go_sem low] zS4 zS2
attribute [go_sem] zW6 zmq zW8 zW7 zXa zW9 mark List.drop_nil Option.isSome_some Option.isSome_none
def D.isT:D->Bool
 | .tup _=>true
 | _=>false
theorem zZg{x:D}:zcg (.d x)=x.isT:=by cases x<;>rfl
theorem zZb{k:IntKind}{n:Int}:D.isT (.int k n)=false:=rfl
theorem zZa{b:Bool}:D.isT (.bool b)=false:=rfl
theorem zZd{s:List UInt8}:D.isT (.str s)=false:=rfl
theorem zY9{cs:List D}:D.isT (.agg cs)=false:=rfl
theorem zZc{es:List D}:D.isT (.sl es)=false:=rfl
theorem zZh{o off len:Nat}:zcg (.osl o off len)=false:=rfl
theorem zZe{o:Nat}{es:List D}:zcg (.acc o es)=false:=rfl
theorem zZi{es:List D}:zcg (.xsl es)=false:=rfl
theorem zZf{cs:List AV}:zcg (.agg cs)=false:=rfl
attribute [go_sem] zZg zZb zZa zZd zY9 zZc zZh zZe zZi zZf
theorem z85{ρ:Nat->Nat}{ds:List D}:(ds.map AV.d).map (AV.ren ρ)=ds.map .d:=by rw[zadV];exact zaer fun _ _=>rfl
attribute [go_sem] z85
theorem GOK.of{P:Program}(tab:List (Nat×AFn))(h:∀p∈tab,zr P p.1 p.2):GOK P (fun f=>look f tab):=fun f fn hf=>h (f,fn) (zaL hf)
end Go.Sim

namespace Go.Sim
abbrev oM(d s:Nat):zQ:=⟨some d,.mv (.t s),none⟩
abbrev oP(d:Nat)(x:AOp):zQ:=⟨some d,x,none⟩
abbrev oQ(d:Nat)(x:AOp)(t:Nat)(b:Bool):zQ:=⟨some d,x,some (t,b)⟩
abbrev oN(x:AOp):zQ:=⟨none,x,none⟩
abbrev kI(n:Int):Opd:= .c (.d (.int .i64 n))
abbrev aI(n:Int):AV:= .d (.int .i64 n)
open Go (World Value Addr TypeId Act)
variable {G:FuncId->Option AFn}
end Go.Sim

namespace Go.Proofs.YtdnlddoeamjcoaaGreat
open Go Go.Sim
abbrev zn9:Nat:=4
abbrev zlB:Nat:=6
abbrev zlz:Nat:=7
abbrev zlA:Nat:=8
abbrev zlC:Nat:=9
abbrev zp6:Nat:=10
abbrev znZ:Nat:=13
abbrev zn0:Nat:=14
abbrev zqo:Nat:=16
abbrev zDC:Nat:=20
abbrev zDD:Nat:=21
abbrev zDB:Nat:=22
abbrev zl8:Nat:=23
abbrev zn5:Nat:=24
abbrev zn4:Nat:=25
abbrev zl5:Nat:=26
abbrev zoa:Nat:=27
abbrev znX:Nat:=28
abbrev zn8:Nat:=29
abbrev znW:Nat:=30
abbrev zb7:Nat:=31
abbrev zcZ:Nat:=32
abbrev zn2:Nat:=33
abbrev zjN:Nat:=34
abbrev zn1:Nat:=35
abbrev zqG:Nat:=36
abbrev zjR:Nat:=37
abbrev zn3:Nat:=39
abbrev zl6:Nat:=40
abbrev zcP:Nat:=41
abbrev zqb:Nat:=42
abbrev zp9:Nat:=43
abbrev zp8:Nat:=44
abbrev zps:Nat:=45
abbrev zp5:Nat:=46
abbrev zpq:Nat:=47
abbrev zpn:Nat:=48
abbrev zl4:Nat:=56
abbrev zub:Nat:=57
abbrev zf5:Nat:=58
abbrev ziN:Nat:=59
abbrev zqH:Nat:=60
abbrev zn7:Nat:=61
abbrev znY:Nat:=62
abbrev zqK:Nat:=63
abbrev zqI:Nat:=64
abbrev zqJ:Nat:=65
abbrev zpE:Nat:=66
abbrev zcc:Nat:=67
abbrev zoR:Nat:=68
abbrev zoW:Nat:=69
abbrev zo9:Nat:=70
abbrev zp7:Nat:=71
abbrev ziO:Nat:=72
abbrev zob:Nat:=73
abbrev zoc:Nat:=74
abbrev zlU:Nat:=75
abbrev zlV:Nat:=76
abbrev zlW:Nat:=77
abbrev zlX:Nat:=78
abbrev zlY:Nat:=79
abbrev zlZ:Nat:=80
abbrev zl0:Nat:=81
abbrev zl1:Nat:=82
abbrev zl2:Nat:=83
abbrev zl3:Nat:=84
abbrev zp4:Nat:=85
abbrev zDE:Nat:=90
abbrev zjS:Nat:=91
abbrev zl7:Nat:=92
abbrev zqF:Nat:=93
abbrev zn6:Nat:=94
abbrev zlK:Nat:=98
abbrev zo5:Nat:=99
abbrev zjO:Nat:=100
abbrev zod:Nat:=101
abbrev zp2:Nat:=102
abbrev zlE:Nat:=103
abbrev zqc:Nat:=104
abbrev zqa:Nat:=105
abbrev zqg:Nat:=106
abbrev zpu:Nat:=107
abbrev zqh:Nat:=108
abbrev zpi:Nat:=109
abbrev zqe:Nat:=110
abbrev zqi:Nat:=111
abbrev zqj:Nat:=112
abbrev zqm:Nat:=113
abbrev zql:Nat:=114
abbrev zoX:Nat:=115
abbrev zqn:Nat:=116
abbrev zpw:Nat:=117
abbrev zpm:Nat:=118
abbrev zpo:Nat:=119
abbrev zqp:Nat:=120
abbrev zqq:Nat:=121
abbrev zqd:Nat:=122
abbrev zqt:Nat:=123
abbrev zlT:Nat:=124
abbrev zqx:Nat:=125
abbrev zqB:Nat:=126
abbrev zqD:Nat:=127
abbrev zqE:Nat:=128
abbrev zpB:Nat:=131
abbrev zoe:Nat:=132
abbrev zph:Nat:=133
abbrev zpO:Nat:=134
abbrev zpQ:Nat:=135
abbrev zqf:Nat:=136
abbrev zoZ:Nat:=137
abbrev zp1:Nat:=138
abbrev zp3:Nat:=139
abbrev zog:Nat:=140
abbrev zlD:Nat:=141
abbrev zoY:Nat:=142
abbrev zpg:Nat:=143
abbrev zpk:Nat:=144
abbrev zpj:Nat:=145
abbrev zpN:Nat:=146
abbrev zqk:Nat:=147
abbrev zoU:Nat:=148
abbrev zoJ:Nat:=149
abbrev zoV:Nat:=150
abbrev zoL:Nat:=151
abbrev zpG:Nat:=152
abbrev zpp:Nat:=153
abbrev zpc:Nat:=154
abbrev zoi:Nat:=155
abbrev zlH:Nat:=156
abbrev zoI:Nat:=157
abbrev zqu:Nat:=158
abbrev zoO:Nat:=159
abbrev zqs:Nat:=160
abbrev zqr:Nat:=161
abbrev zlS:Nat:=162
abbrev zqy:Nat:=163
abbrev zoP:Nat:=164
abbrev zqw:Nat:=165
abbrev zqv:Nat:=166
abbrev zlN:Nat:=167
abbrev zqC:Nat:=168
abbrev zo1:Nat:=169
abbrev zqA:Nat:=170
abbrev zqz:Nat:=171
abbrev zo8:Nat:=172
abbrev zoM:Nat:=173
abbrev zoQ:Nat:=174
abbrev zoK:Nat:=175
abbrev zpb:Nat:=176
abbrev zpa:Nat:=177
abbrev zpX:Nat:=178
abbrev zlI:Nat:=179
abbrev zlF:Nat:=180
abbrev zjP:Nat:=181
abbrev zpK:Nat:=182
abbrev zo0:Nat:=183
abbrev zo2:Nat:=184
abbrev zo4:Nat:=185
abbrev zoF:Nat:=186
abbrev zlQ:Nat:=187
abbrev zoj:Nat:=188
abbrev zjQ:Nat:=189
abbrev zo7:Nat:=190
abbrev zoB:Nat:=191
abbrev zpd:Nat:=192
abbrev zlG:Nat:=193
abbrev zom:Nat:=194
abbrev zpS:Nat:=195
abbrev zp0:Nat:=196
abbrev zo3:Nat:=197
abbrev zlO:Nat:=198
abbrev zoT:Nat:=199
abbrev zlP:Nat:=200
abbrev zon:Nat:=201
abbrev zo6:Nat:=202
abbrev zoE:Nat:=203
abbrev zpe:Nat:=204
abbrev zpL:Nat:=205
abbrev zpW:Nat:=206
abbrev zpV:Nat:=207
abbrev zpU:Nat:=208
abbrev zpM:Nat:=209
abbrev zpY:Nat:=210
abbrev zpR:Nat:=211
abbrev zpZ:Nat:=212
abbrev zol:Nat:=213
abbrev zop:Nat:=214
abbrev zoq:Nat:=215
abbrev zlL:Nat:=216
abbrev zoh:Nat:=217
abbrev zof:Nat:=218
abbrev zoD:Nat:=219
abbrev zoo:Nat:=220
abbrev zoG:Nat:=221
abbrev zoS:Nat:=222
abbrev zoH:Nat:=223
abbrev zos:Nat:=224
abbrev zor:Nat:=225
abbrev zpT:Nat:=226
abbrev zlJ:Nat:=227
abbrev zok:Nat:=228
abbrev zot:Nat:=229
abbrev zoC:Nat:=230
abbrev zpC:Nat:=231
abbrev zpD:Nat:=232
abbrev zpl:Nat:=233
abbrev zpA:Nat:=234
abbrev zpt:Nat:=235
abbrev zpv:Nat:=236
abbrev zpy:Nat:=237
abbrev zpz:Nat:=238
abbrev zpf:Nat:=239
abbrev zpr:Nat:=240
abbrev zpP:Nat:=241
abbrev zlR:Nat:=242
abbrev zou:Nat:=243
abbrev zox:Nat:=244
abbrev zlM:Nat:=245
abbrev zoy:Nat:=246
abbrev zoA:Nat:=247
abbrev zpJ:Nat:=248
abbrev zpI:Nat:=249
abbrev zpx:Nat:=250
abbrev zpF:Nat:=251
abbrev zpH:Nat:=252
abbrev zoN:Nat:=253
abbrev zov:Nat:=254
abbrev zow:Nat:=255
abbrev zoz:Nat:=256
end Go.Proofs.YtdnlddoeamjcoaaGreat

namespace Go.Sim
open Go (Program Func)
def val{x:Option zh}(c:zh)(_:x=some c):zh:=c
theorem iP(n:Nat):Int.ofNat n=(n:Int):=rfl
theorem iN(n:Nat):Int.negSucc n= -((n:Int)+1):=rfl
def bodies:zh->List zh
 | .seq a b=>bodies a++bodies b
 | .cond _ a b=>bodies a++bodies b
 | .block _ a=>bodies a
 | .loop _ a=>bodies a++[a]
 | _=>[]
def zeX:zh->List zh->zh×List zh
 | .seq a b,ls=>(.seq (zeX a ls).1 (zeX b (zeX a ls).2).1,(zeX b (zeX a ls).2).2)
 | .cond z a b,ls=>(.cond z (zeX a ls).1 (zeX b (zeX a ls).2).1,(zeX b (zeX a ls).2).2)
 | .block i a,ls=>(.block i (zeX a ls).1,(zeX a ls).2)
 | .loop ks a,ls=>(match ls.drop (bodies a).length with|x::_=> .loop ks x|[]=> .loop ks a,ls.drop ((bodies a).length+1))
 | c,ls=>(c,ls)
def zhU(P:Program)(hs:zp)(F:List (Nat×List (List Nat))):Code->Option zh
 | .skip=>some .skip
 | .region id ops false=>(ops.toList.mapM (zft P hs ops)).map fun l=> .ops (zeI hs.ghost id) l (zeI hs.kill id)
 | .region id ops true=>(ops.toList.mapM (zft P hs ops)).map fun l=> .draw (zeI hs.ghost id) l ((look id F).getD []) (zeI hs.kill id)
 | .seq a b=>match zhU P hs F a,zhU P hs F b with|some x,some y=>some (.seq x y)|_,_=>none
 | .cond c t e=>match opd c,zhU P hs F t,zhU P hs F e with|some z,some x,some y=>some (.cond z x y)|_,_,_=>none
 | .block id b=>(zhU P hs F b).map (.block id)
 | .loop b=>(zhU P hs F b).map (.loop (zeI hs.loop (zi8 b)))
 | .exit id=>some (.exit id (zeI hs.exit id))
 | .ret=>some (.ret hs.ret)
 | _=>none
def zw(P:Program)(fn:Func)(hs:zp)(F:List (Nat×List (List Nat)))(ls:List zh):Option zh:=(fn.body.bind (zhU P hs F)).map fun c=>(zeX c ls).1
def zag(P:Program)(fn:Func)(hs:zp)(F:List (Nat×List (List Nat)))(j:Nat)(ls:List zh):Option zh:=(fn.body.bind (zhU P hs F)).bind fun c=>(bodies c)[j]?.map fun b=>(zeX b ls).1
def vl{x:Option zh}{c:zh}(_:x=some c:=by conv=>lhs;reduce;try simp only[iP,iN,zaeQ,zado,zaeb]):zh:=c
theorem zacv{x:Option zh}{c:zh}(h:x=some c):vl h=c:=rfl
attribute [go_sem ↓] zacv
def xp:List Nat->List Nat
 | []=>[]
 | n::l=>if n<1000 then n::xp l else List.range' (n / 1000) (n % 1000+1 - n / 1000)++xp l
def kx:List (Nat×List Nat)->List (Nat×List Nat)
 | []=>[]
 | (i,l)::r=>(i,xp l)::kx r
def xq:List Nat->List Nat
 | []=>[]
 | n::l=>if n<1000 then n::xq l else List.range' (n / 1000 - 1) (n % 1000+2 - n / 1000)++xq l
def qx:List (Nat×List (List Nat))->List (Nat×List (List Nat))
 | []=>[]
 | (i,l)::r=>(i,l.map xq)::qx r
theorem tk{α:Type}{a b:α}(h:a=b:=by kernel_rfl):a=b:=h
theorem zx{P:Program}{f i:Nat}{fn:Func}{c:zh}{rs:List zm}{nt:Nat}{sl:Bool}(hs:zp)(hf:P.funcs[i]? = some fn)(h0:f=i:=by kernel_rfl)(h1:zfq P f=true:=by kernel_rfl)(h2:fn.body.bind (comp P hs)=some c:=by kernel_rfl)(h3:fn.body.map (ze0 fn.ntmps)=some true:=by kernel_rfl)(h4:fn.results.toList.mapM (zi1 P)=some rs:=by kernel_rfl)(h5:fn.ntmps=nt:=by kernel_rfl)(h6:nt<=1000000:=by decide):zr P f (.code c rs nt sl):=⟨h1,fn,hs,h0 ▸ hf,h2,h3,h4,h5,h6⟩
end Go.Sim

namespace Go.Proofs.YtdnlddoeamjcoaaGreat
open Go Go.Sim
def zJa:zp:={ kill:=kx [(0,[2]),(1,[3,4]),(2,[5007]),(3,[0,5,8010])],ret:=[2] }
def zD8:zh:=vl (x:=zw Tryz.prog Tryz.f7 zJa [] [])
def zNH:List zm:=[.t 2]
def zvI:AFn:= .code zD8 zNH 11 false
def zJh:zp:={ kill:=kx [(1,[0,1,7015]),(2,[6,16]),(3,[17022]),(4,[5,17,23])],obj:=[(9,[true]),(12,[true,false,true]),(13,[false,false,true]),(20,[false,true])],ret:=[4] }
def zEe:zh:=vl (x:=zw Tryz.prog Tryz.f8 zJh [] [])
def zNN:List zm:=[.c 4 true 23]
def zvS:AFn:= .code zEe zNN 24 true
def zJg:zp:={ kill:=kx [(1,[4012]),(2,[13017]),(3,[18]),(4,[21]),(5,[0,19,20,22025]),(6,[20,27]),(7,[0,19,26,28031]),(8,[19,26,33]),(9,[0,32,34037]),(10,[0,3,32,38])],obj:=[(5,[true,false,false]),(7,[true,false,false]),(9,[true,false,false]),(11,[true,false,false]),(16,[true,false,false]),(19,[true,false]),(23,[true,false]),(29,[true,false]),(35,[true,false])],ret:=[2] }
def zj2:zh:=vl (x:=zw Tryz.prog Tryz.f24 zJg [] [])
def zla:List zm:=[.c 2 true 8]
def zvR:AFn:= .code zj2 zla 39 true
def zJe:zp:={ kill:=kx [(0,[6]),(1,[0,1,2,7014])],obj:=[(13,[true,false])],ret:=[6] }
def zEc:zh:=vl (x:=zw Tryz.prog Tryz.f33 zJe [] [])
def zNL:List zm:=[.t 6]
def zvO:AFn:= .code zEc zNL 15 true
def zJc:zp:={ kill:=kx [(0,[4]),(1,[6]),(2,[0,1,7]),(3,[0,7011]),(4,[12]),(5,[1,13016]),(6,[1,5,13,17])],obj:=[(9,[true])],ret:=[4] }
def zEa:zh:=vl (x:=zw Tryz.prog Tryz.f14 zJc [] [])
def zNJ:List zm:=[.t 4]
def zvM:AFn:= .code zEa zNJ 18 true
def zJf:zp:={ kill:=kx [(0,[2]),(1,[3011]),(2,[0,12]),(3,[12019]),(4,[0,20030])],ret:=[2] }
def z7c:List (Nat×List (List Nat)):=qx [(1,[[],[],[],[],[1003],[1003],[1003],[1003],[1003],[]]),(4,[[],[],[],[],[1003],[1003],[1003],[1003],[1003],[],[],[]])]
def zuA:zh:=vl (x:=zw Tryz.prog Tryz.f39 zJf z7c [])
def zB8:List zm:=[.t 2]
def zvP:AFn:= .code zuA zB8 31 true
def zzV:zp:={ kill:=kx [(0,[4]),(3,[7012]),(4,[14,15]),(5,[13,16020]),(6,[0,1,5,6,13,21])],obj:=[(18,[true,true])],acc:=[5],exit:=[(0,[5])],ret:=[4] }
@[irreducible] def zmM:zh:=vl (x:=zag Tryz.prog Tryz.f25 zzV [] 0 [])
def zEd:zh:=vl (x:=zw Tryz.prog Tryz.f25 zzV [] [zmM])
def zNM:List zm:=[.t 4]
def zvQ:AFn:= .code zEd zNM 22 true
def zJb:zp:={ kill:=kx [(0,[2]),(1,[0,3012])],ret:=[2] }
def z7b:List (Nat×List (List Nat)):=qx [(1,[[],[],[],[],[1003],[1003],[1003],[1003],[1003],[],[]])]
def zD9:zh:=vl (x:=zw Tryz.prog Tryz.f13 zJb z7b [])
def zNI:List zm:=[.t 2]
def zvL:AFn:= .code zD9 zNI 13 true
def zr6:zp:={ kill:=kx [(1,[8,9]),(2,[11,12]),(3,[0,3,10,13018]),(4,[10,20,21]),(5,[0,3,19,22025]),(6,[19,26]),(7,[27,28]),(8,[3]),(9,[0,5,30035,115]),(10,[37]),(11,[38]),(12,[39]),(13,[5,29,36,40,41]),(14,[42,43]),(15,[44]),(16,[46,47]),(17,[45,48056]),(18,[36,58]),(19,[59]),(20,[0,5,29,57,60067]),(21,[57,69]),(22,[70]),(23,[5,29,68,71074]),(24,[75077]),(25,[78083]),(26,[78,84,85]),(27,[86]),(28,[88,89]),(29,[87,90104]),(30,[68,106]),(31,[0,5,29,105,107114]),(32,[29,105,116]),(33,[0,5,115,117123]),(34,[0,4,6,7,45,87,124,125])],ghost:=[(16,[4000054]),(28,[4000103])],obj:=[(9,[true,false]),(14,[true,false]),(17,[true,false]),(24,[true,false]),(28,[true,false]),(31,[true,false,false]),(33,[true,false]),(43,[true,false,false]),(52,[true]),(62,[true,false,false]),(65,[true,false]),(72,[true,false,false]),(81,[true,false]),(85,[true,false,false]),(93,[true,false]),(96,[true,false]),(98,[true,false]),(109,[true,false]),(112,[true,false,false]),(118,[true,false,false]),(121,[true,false]),(125,[false,true])],exit:=[(2,[2,4]),(4,[2,4])],ret:=[2] }
def zBW:List (Nat×List (List Nat)):=qx [(17,[[],[],[],[1002],[1002],[1002],[],[],[],[]]),(29,[[],[],[0,1],[0,1],[1003],[1004],[0,1],[1006],[0,1],[0,1],[0,1],[0,1],[0,1],[],[],[]])]
@[irreducible] def zmL:zh:=vl (x:=zag Tryz.prog Tryz.f59 zr6 zBW 0 [])
@[irreducible] def zhm:zh:=vl (x:=zag Tryz.prog Tryz.f59 zr6 zBW 1 [])
def zey:zh:=vl (x:=zw Tryz.prog Tryz.f59 zr6 zBW [zmL,zhm])
def zeU:List zm:=[.c 2 true 12]
def zvK:AFn:= .code zey zeU 126 true
def zJd:zp:={ kill:=kx [(0,[4]),(1,[0,1,5011])],obj:=[(9,[true,false])],ret:=[4] }
def zEb:zh:=vl (x:=zw Tryz.prog Tryz.f35 zJd [] [])
def zNK:List zm:=[.t 4]
def zvN:AFn:= .code zEb zNK 12 true
def zzU:zp:={ kill:=kx [(0,[2]),(1,[5007]),(3,[8010]),(4,[12,13]),(5,[11,14020]),(6,[0,3,4,11,21,22])],ghost:=[(6,[15])],obj:=[(6,[true,false]),(17,[true,false])],exit:=[(0,[3])],ret:=[2] }
@[irreducible] def zAK:zh:=vl (x:=zag Tryz.prog Tryz.f34 zzU [] 0 [])
def zqT:zh:=vl (x:=zw Tryz.prog Tryz.f34 zzU [] [zAK])
def ztf:List zm:=[.t 2]
def zvJ:AFn:= .code zqT ztf 23 true
def zJj:zp:={ kill:=kx [(0,[0]),(1,[4006]),(2,[3,7011]),(3,[12016]),(4,[1,12,17])],ret:=[2] }
def zEg:zh:=vl (x:=zw Tryz.prog Tryz.f94 zJj [] [])
def zNP:List zm:=[.c 2 true 12]
def zvT:AFn:= .code zEg zNP 18 true
def zAy:zp:={ kill:=kx [(0,[0,5]),(1,[2,11015]),(2,[16]),(3,[1,6,7,17019]),(4,[7,17,20,21]),(5,[1,6,22,23]),(6,[22]),(7,[24026]),(8,[28,29]),(9,[27,30038]),(10,[39]),(11,[1,6,8010,40042]),(12,[9,10,40,43]),(13,[1,6,8,27,44])],obj:=[(13,[false,true]),(36,[false,false,true])],exit:=[(0,[4,6])],ret:=[4,5] }
def zNy:List (Nat×List (List Nat)):=qx [(9,[[],[0],[0,1],[0],[0],[],[],[],[7],[1008],[8],[]])]
@[irreducible] def zBa:zh:=vl (x:=zag Tryz.prog Tryz.f23 zAy zNy 0 [])
def zGC:zh:=vl (x:=zw Tryz.prog Tryz.f23 zAy zNy [zBa])
def zQf:List zm:=[.c 4 true 23,.t 5]
def zza:AFn:= .code zGC zQf 45 true
def zLJ:zp:={ kill:=kx [(0,[0,3]),(1,[6010]),(2,[11]),(3,[1,4,5,12014]),(4,[1,4,5,12,15017])],obj:=[(8,[false,true])],ret:=[2,3] }
def zGy:zh:=vl (x:=zw Tryz.prog Tryz.f26 zLJ [] [])
def zQb:List zm:=[.c 2 true 23,.t 3]
def zy4:AFn:= .code zGy zQb 18 true
def zAn:zp:={ kill:=kx [(0,[0,3]),(1,[10056]),(2,[1,57,58]),(3,[5,57,59066]),(4,[67074]),(6,[75077]),(7,[79,80]),(8,[9,78,81086]),(9,[87089]),(10,[90108]),(11,[8,90,109115]),(12,[116123]),(13,[1,4,7,78,124131]),(14,[6,132])],obj:=[(64,[false,false,true]),(84,[false,true]),(106,[false,false,false,true]),(127,[false,true])],exit:=[(0,[1,2,6])],ret:=[2,3] }
def zNq:List (Nat×List (List Nat)):=qx [(10,[[],[],[0,1],[0,1],[1003],[0,1],[0,1],[0,1],[1007],[1007],[1009],[1007],[1007],[1007],[],[],[],[16],[17]])]
@[irreducible] def zA4:zh:=vl (x:=zag Tryz.prog Tryz.f31 zAn zNq 0 [])
def zuY:zh:=vl (x:=zw Tryz.prog Tryz.f31 zAn zNq [zA4])
def zCt:List zm:=[.c 2 true 11,.t 3]
def zxG:AFn:= .code zuY zCt 133 true
def zKC:zp:={ kill:=kx [(0,[6]),(1,[0,1,2,7014])],ret:=[6] }
def zu0:zh:=vl (x:=zw Tryz.prog Tryz.f66 zKC [] [])
def zCv:List zm:=[.t 6]
def zxO:AFn:= .code zu0 zCv 15 true
def zsd:zp:={ kill:=kx [(0,[5]),(1,[9018]),(2,[0,1,19,20]),(3,[19,21]),(5,[22,23]),(6,[25,26]),(7,[24,27043]),(8,[1,7,24]),(9,[44,45]),(10,[47,48]),(11,[46,49053]),(12,[0,6,8,46,54])],ghost:=[(6,[4000042])],exit:=[(0,[0,4,6]),(2,[4,6])],ret:=[4,5] }
def zB2:List (Nat×List (List Nat)):=qx [(7,[[],[],[0,1],[0,1],[1003],[0,1],[1005],[1005],[1005],[1008],[1005],[1005],[1011],[0,1],[0,1],[],[],[]])]
@[irreducible] def zAX:zh:=vl (x:=zag Tryz.prog Tryz.f67 zsd zB2 0 [])
@[irreducible] def zAY:zh:=vl (x:=zag Tryz.prog Tryz.f67 zsd zB2 1 [])
def zuU:zh:=vl (x:=zw Tryz.prog Tryz.f67 zsd zB2 [zAX,zAY])
def zCq:List zm:=[.c 4 true 3,.t 5]
def zxo:AFn:= .code zuU zCq 55 true
def zJY:zp:={ kill:=kx [(0,[3]),(1,[0,6010]),(2,[11]),(3,[4,5,12014]),(4,[4,5,12,15,16])],ret:=[2,3] }
def zEV:zh:=vl (x:=zw Tryz.prog Tryz.f68 zJY [] [])
def zOw:List zm:=[.c 2 true 8,.t 3]
def zwT:AFn:= .code zEV zOw 17 true
def zJF:zp:={ kill:=kx [(0,[3]),(1,[4008]),(2,[0,9,10]),(3,[0,9,11013])],ret:=[2,3] }
def zuE:zh:=vl (x:=zw Tryz.prog Tryz.f98 zJF [] [])
def zCb:List zm:=[.c 2 true 3,.t 3]
def zwj:AFn:= .code zuE zCb 14 true
def zJ2:zp:={ kill:=kx [(0,[7]),(1,[0,10014]),(2,[15]),(3,[1,2,8,9,16018]),(4,[9,16,19021]),(5,[1,2,8,22,23]),(6,[1,2,8,22,24027])],ret:=[6,7] }
def zE0:zh:=vl (x:=zw Tryz.prog Tryz.f69 zJ2 [] [])
def zOB:List zm:=[.c 6 true 8,.t 7]
def zwY:AFn:= .code zE0 zOB 28 true
def zKa:zp:={ kill:=kx [(0,[4]),(1,[0,1,5015])],ret:=[4] }
def zuT:zh:=vl (x:=zw Tryz.prog Tryz.f99 zKa [] [])
def zCp:List zm:=[.t 4]
def zxa:AFn:= .code zuT zCp 16 true
def zKd:zp:={ kill:=kx [(0,[3]),(1,[4008]),(2,[0,9,10]),(3,[0,9,11,12])],ret:=[2,3] }
def zFd:zh:=vl (x:=zw Tryz.prog Tryz.f70 zKd [] [])
def zOO:List zm:=[.c 2 true 2,.t 3]
def zxe:AFn:= .code zFd zOO 13 true
def zsh:zp:={ kill:=kx [(0,[0,1,5]),(1,[18021]),(2,[22]),(3,[25]),(4,[23,24]),(5,[26,27]),(6,[29,30]),(7,[28,31033]),(8,[34]),(9,[2,3,6008,35,36]),(10,[8,35,37046]),(11,[47]),(12,[2,3,6,7,9,10,48050]),(13,[9,10,48,51]),(14,[24,53]),(15,[3,6,23,52,54059]),(16,[12,60]),(17,[2,11,61,62]),(18,[6,23,52,64]),(19,[63,65,66]),(20,[67069]),(21,[70,71]),(23,[72075]),(24,[77,78]),(25,[76,79091]),(26,[3,13,14,16,70,76,92098]),(27,[17,99]),(28,[2,15,100,101]),(29,[2,3,6,7,11,15,28,61,63,100,102])],ghost:=[(24,[4000090])],obj:=[(44,[false,false,true]),(57,[false,false,true]),(88,[false,false,true]),(95,[false,false,true])],exit:=[(1,[2,4]),(3,[2,4,13])],ret:=[4,5] }
def zB6:List (Nat×List (List Nat)):=qx [(10,[[],[0],[0],[0],[1003],[0],[],[],[],[8],[1009],[9],[]]),(25,[[],[],[0,1],[0,1],[1003],[0,1],[0,1],[1006],[1006],[0,1],[0,1],[],[],[]])]
@[irreducible] def zA9:zh:=vl (x:=zag Tryz.prog Tryz.f58 zsh zB6 0 [])
@[irreducible] def zmW:zh:=vl (x:=zag Tryz.prog Tryz.f58 zsh zB6 1 [])
def zj4:zh:=vl (x:=zw Tryz.prog Tryz.f58 zsh zB6 [zA9,zmW])
def zlc:List zm:=[.c 4 true 23,.t 5]
def zy9:AFn:= .code zj4 zlc 103 true
def zAw:zp:={ kill:=kx [(0,[0,2]),(3,[5008]),(4,[10,11,18]),(5,[9,12017]),(6,[18022]),(7,[1,3,4,9,23])],ghost:=[(7,[6])],acc:=[3],exit:=[(0,[3])],ret:=[2] }
@[irreducible] def zA8:zh:=vl (x:=zag Tryz.prog Tryz.f40 zAw [] 0 [])
def zGz:zh:=vl (x:=zw Tryz.prog Tryz.f40 zAw [] [zA8])
def zQc:List zm:=[.t 2]
def zy5:AFn:= .code zGz zQc 24 false
def zLK:zp:={ kill:=kx [(0,[0,5]),(1,[7,8]),(2,[9015]),(3,[1,2,6,16,17]),(4,[1,2,6,16,18025])],obj:=[(23,[false,false,true])],ret:=[4,5] }
def z76:List (Nat×List (List Nat)):=qx [(4,[[],[0],[0,1],[0],[0],[],[],[6],[],[]])]
def zGA:zh:=vl (x:=zw Tryz.prog Tryz.f92 zLK z76 [])
def zQd:List zm:=[.c 4 true 23,.t 5]
def zy6:AFn:= .code zGA zQd 26 true
def zAx:zp:={ kill:=kx [(0,[0,5]),(1,[12016]),(2,[17028]),(3,[29]),(4,[1,2,6010,30032]),(5,[10,30,33036]),(6,[7,37,38]),(7,[39042]),(8,[1,43047]),(9,[9,48053]),(10,[6,54056]),(11,[57060]),(12,[62,63]),(13,[61,64074]),(14,[2,8,11,61,75])],ghost:=[(8,[82])],obj:=[(24,[false,false,false,true])],exit:=[(0,[2,4])],ret:=[4,5] }
def zNx:List (Nat×List (List Nat)):=qx [(13,[[],[],[],[1002],[1002],[1004],[1002],[1002],[1002],[],[],[]])]
@[irreducible] def zmV:zh:=vl (x:=zag Tryz.prog Tryz.f91 zAx zNx 0 [])
def zrc:zh:=vl (x:=zw Tryz.prog Tryz.f91 zAx zNx [zmV])
def zty:List zm:=[.c 4 true 23,.t 5]
def zy8:AFn:= .code zrc zty 76 true
def zLH:zp:={ kill:=kx [(0,[0,1,8,9]),(1,[10]),(2,[2004,11016]),(3,[11,17,18]),(4,[21]),(5,[2004,19,20,22029]),(6,[20,31]),(7,[2004,19,30,32039]),(8,[30,41]),(9,[42]),(10,[43]),(11,[2004,19,40,44051]),(12,[40,53]),(13,[2004,19,52,54061]),(14,[52,63]),(15,[2004,19,62,64071]),(16,[62,73]),(17,[2004,19,72,74081]),(18,[72,83]),(19,[2004,19,82,84091]),(20,[82,93]),(21,[2004,19,92,94101]),(22,[92,103]),(23,[2004,19,102,104111]),(24,[102,113]),(25,[114]),(26,[2004,19,112,115122]),(27,[19,112,124]),(28,[2004,123,125132]),(29,[2004,123,133137])],obj:=[(12,[false,true]),(25,[false,false,false,true]),(35,[false,false,false,true]),(47,[false,false,false,true]),(57,[false,false,false,true]),(67,[false,false,false,true]),(77,[false,false,false,true]),(87,[false,false,false,true]),(97,[false,false,false,true]),(107,[false,false,false,true]),(118,[false,false,false,true]),(128,[false,false,false,true]),(133,[false,true])],ret:=[6,7,8,9] }
def zGu:zh:=vl (x:=zw Tryz.prog Tryz.f41 zLH [] [])
def zP7:List zm:=[.c 6 true 11,.c 7 true 63,.t 8,.t 9]
def zy2:AFn:= .code zGu zP7 138 true
def zK5:zp:={ kill:=kx [(0,[4,5]),(1,[0,6008])],ret:=[2,3,4,5] }
def zu9:zh:=vl (x:=zw Tryz.prog Tryz.f43 zK5 [] [])
def zCE:List zm:=[.c 2 true 11,.c 3 true 63,.t 4,.t 5]
def zym:AFn:= .code zu9 zCE 9 true
def zLc:zp:={ kill:=kx [(0,[0,1,8,9]),(1,[21,22]),(2,[23]),(3,[2004,10,24030]),(4,[10,24,31]),(5,[34]),(6,[32,33,35040]),(7,[41,42]),(8,[43046]),(9,[47]),(10,[2004,11,48054]),(11,[2,43,55]),(12,[3,4,56,57]),(13,[33,59]),(14,[2,3,32,58,60070]),(15,[71]),(16,[4,12014,72078]),(17,[14,72,79]),(18,[13]),(19,[80084]),(20,[85092]),(21,[4,12,80,93,94]),(22,[32,58,96]),(23,[2004,95,97103]),(24,[3,95,104113]),(25,[114]),(26,[2,4,15018,115121]),(27,[16,18,115]),(28,[2,4,17,122127]),(29,[15,19,20,128130]),(30,[17,122,131]),(31,[2,4,15,132134]),(32,[132,135]),(33,[138]),(34,[2,4,15,136,137,139145]),(35,[136,137,147]),(36,[2,4,15,146,148152]),(37,[2,146,153]),(38,[4,15,154,155])],obj:=[(26,[false,true]),(46,[false,false,false,true]),(52,[false,false,false,true]),(67,[false,false,false,false,true]),(74,[false,true]),(103,[false,false,false,false,true]),(108,[false,false,false,true]),(117,[false,true]),(125,[false,true]),(145,[false,false,false,true]),(152,[false,false,false,true])],ret:=[6,7,8,9] }
def z7I:List (Nat×List (List Nat)):=qx [(10,[[],[0],[0,1],[1002],[0],[1004],[1004],[5,6],[5,6],[],[]]),(12,[[],[0],[1],[],[],[]]),(21,[[],[0],[1],[],[],[]]),(23,[[],[0],[0,1],[1002],[1002],[1002],[0],[],[],[],[]]),(29,[[],[0],[0,1],[1,2],[2],[],[]]),(31,[[],[0],[1],[],[],[]]),(34,[[],[0],[0,1],[0,1],[0,1],[1004],[0],[],[],[],[]]),(36,[[],[0],[0,1],[1002],[0],[],[],[],[]]),(38,[[],[0],[1],[],[],[]])]
def zF2:zh:=vl (x:=zw Tryz.prog Tryz.f75 zLc z7I [])
def zPF:List zm:=[.c 6 true 11,.c 7 true 63,.t 8,.t 9]
def zyt:AFn:= .code zF2 zPF 156 true
def zK7:zp:={ kill:=kx [(0,[0,6]),(1,[7]),(2,[1003,8]),(3,[1003,8019]),(4,[20]),(5,[20])],ret:=[6] }
def zFY:zh:=vl (x:=zw Tryz.prog Tryz.f42 zK7 [] [])
def zPB:List zm:=[.t 6]
def zyo:AFn:= .code zFY zPB 21 true
def zKq:zp:={ kill:=kx [(0,[0,4,5]),(1,[1]),(2,[8]),(3,[2,6,7,9,10]),(4,[7,12]),(5,[2,6,11,13,14]),(6,[6,11,16]),(7,[2,15,17,18]),(8,[2,15])],ret:=[4,5] }
def zFu:zh:=vl (x:=zw Tryz.prog Tryz.f45 zKq [] [])
def zO6:List zm:=[.t 4,.t 5]
def zxB:AFn:= .code zFu zO6 19 true
def zK4:zp:={ kill:=kx [(0,[0]),(1,[1003,7013])],ret:=[6] }
def zu8:zh:=vl (x:=zw Tryz.prog Tryz.f44 zK4 [] [])
def zCD:List zm:=[.c 6 true 10]
def zyl:AFn:= .code zu8 zCD 14 true
def zK0:zp:={ kill:=kx [(0,[0,1]),(1,[8023]),(2,[4,24030]),(3,[3,31035]),(4,[2,36039]),(5,[2,7,36,40])],ret:=[6] }
def z7G:List (Nat×List (List Nat)):=qx [(2,[[],[],[],[1002],[1002],[],[],[]]),(3,[[],[],[0,1],[0,1],[0,1],[]])]
def zq4:zh:=vl (x:=zw Tryz.prog Tryz.f46 zK0 z7G [])
def ztq:List zm:=[.c 6 true 63]
def zyg:AFn:= .code zq4 ztq 41 true
def zKZ:zp:={ kill:=kx [(0,[0,2]),(1,[3]),(2,[6]),(3,[1,4,5,7009]),(4,[5,11]),(5,[12]),(6,[4,13]),(7,[1,4,10,14016]),(8,[1,4,10])],ret:=[2] }
def zFU:zh:=vl (x:=zw Tryz.prog Tryz.f85 zKZ [] [])
def zPx:List zm:=[.t 2]
def zyf:AFn:= .code zFU zPx 17 true
def zKo:zp:={ kill:=kx [(0,[0,9,10]),(1,[13017]),(2,[1004,18,19]),(3,[18,20034]),(4,[1004,35,36]),(5,[12,35,37042]),(6,[2,11,43,44]),(7,[1,3,4,45,46]),(8,[1,45,47]),(9,[3,48050]),(10,[3,48,51,52]),(11,[4,53])],ret:=[8,9,10] }
def zFt:zh:=vl (x:=zw Tryz.prog Tryz.f47 zKo [] [])
def zO5:List zm:=[.c 8 true 11,.t 9,.t 10]
def zxz:AFn:= .code zFt zO5 54 true
def zJs:zp:={ kill:=kx [(0,[2]),(1,[6010]),(2,[0,11]),(3,[0,4,11016]),(4,[3,17,18]),(5,[5,19023])],ret:=[2] }
def zEo:zh:=vl (x:=zw Tryz.prog Tryz.f103 zJs [] [])
def zNY:List zm:=[.t 2]
def zv4:AFn:= .code zEo zNY 24 true
def zzY:zp:={ kill:=kx [(0,[6,7]),(1,[10026]),(2,[0,1,2,27]),(3,[0,27029]),(4,[2,30,31]),(5,[32]),(6,[34,35]),(7,[33,36044]),(8,[1,8,9,33,45])],exit:=[(0,[8])],ret:=[6,7] }
@[irreducible] def zmO:zh:=vl (x:=zag Tryz.prog Tryz.f100 zzY [] 0 [])
def zmc:zh:=vl (x:=zw Tryz.prog Tryz.f100 zzY [] [zmO])
def znl:List zm:=[.t 6,.t 7]
def zv0:AFn:= .code zmc znl 46 false
def zzZ:zp:={ kill:=kx [(0,[2]),(3,[5007]),(4,[9,10]),(5,[8,11019]),(6,[0,3,4,8,20])],exit:=[(0,[3])],ret:=[2] }
@[irreducible] def zAL:zh:=vl (x:=zag Tryz.prog Tryz.f132 zzZ [] 0 [])
def zEp:zh:=vl (x:=zw Tryz.prog Tryz.f132 zzZ [] [zAL])
def zNZ:List zm:=[.t 2]
def zv5:AFn:= .code zEp zNZ 21 true
def zKX:zp:={ kill:=kx [(0,[3]),(1,[4008]),(2,[0,9,10]),(3,[0,9,11,12])],ret:=[2,3] }
def zu6:zh:=vl (x:=zw Tryz.prog Tryz.f102 zKX [] [])
def zCB:List zm:=[.c 2 true 2,.t 3]
def zyd:AFn:= .code zu6 zCB 13 true
def zK8:zp:={ kill:=kx [(0,[0,1]),(1,[4,9011]),(2,[2,12016]),(3,[3,5,17022])],obj:=[(10,[false,true]),(22,[false,false,false,true])],ret:=[8] }
def zFZ:zh:=vl (x:=zw Tryz.prog Tryz.f104 zK8 [] [])
def zPC:List zm:=[.c 8 true 63]
def zyp:AFn:= .code zFZ zPC 23 true
def zKs:zp:={ kill:=kx [(0,[0]),(1,[1,3,4])],ret:=[2] }
def zFw:zh:=vl (x:=zw Tryz.prog Tryz.f107 zKs [] [])
def zO8:List zm:=[.c 2 true 3]
def zxD:AFn:= .code zFw zO8 5 true
def zAj:zp:={ kill:=kx [(0,[0,4]),(2,[6014]),(3,[16,17,35]),(4,[15,18034]),(5,[1,2,5,35041]),(6,[1,2,5,15])],ret:=[4] }
@[irreducible] def zjj:zh:=vl (x:=zag Tryz.prog Tryz.f133 zAj [] 0 [])
def zqY:zh:=vl (x:=zw Tryz.prog Tryz.f133 zAj [] [zjj])
def ztk:List zm:=[.t 4]
def zxp:AFn:= .code zqY ztk 42 true
def zid:zp:={ kill:=kx [(0,[0,2]),(1,[13015]),(2,[16030]),(3,[1,3,31]),(4,[31]),(6,[32035]),(7,[37,38]),(8,[36,39043]),(9,[4,44058]),(10,[1,3,5,6,59]),(11,[6,59062]),(12,[4,5,36,63]),(13,[1,3,64]),(14,[64]),(15,[65068]),(16,[70,71,88]),(17,[69,72087]),(18,[1,3,7,88]),(19,[7,69]),(20,[89092]),(21,[94,95,105]),(22,[93,96104]),(23,[1,3,8,105]),(24,[8,93]),(25,[106,107]),(26,[109,110,139]),(27,[108,111138]),(28,[1,3,9,139]),(29,[9,108]),(30,[140,141]),(31,[143,144,161]),(32,[142,145]),(34,[146151]),(35,[153,154]),(36,[152,155159]),(37,[11,12,152,160]),(38,[1,3,10,161]),(39,[1,3,10,142])],exit:=[(0,[1,3,4]),(2,[1,3]),(4,[1,3]),(6,[1,3]),(10,[1,3,10,11])],ret:=[2] }
def zjy:List (Nat×List (List Nat)):=qx [(22,[[],[0],[0],[1002],[0],[0],[0],[],[1007],[]])]
@[irreducible] def zAZ:zh:=vl (x:=zag Tryz.prog Tryz.f145 zid zjy 0 [])
@[irreducible] def zsK:zh:=vl (x:=zag Tryz.prog Tryz.f145 zid zjy 1 [])
@[irreducible] def zA0:zh:=vl (x:=zag Tryz.prog Tryz.f145 zid zjy 2 [])
@[irreducible] def zA1:zh:=vl (x:=zag Tryz.prog Tryz.f145 zid zjy 3 [])
@[irreducible] def zsL:zh:=vl (x:=zag Tryz.prog Tryz.f145 zid zjy 4 [])
@[irreducible] def zsM:zh:=vl (x:=zag Tryz.prog Tryz.f145 zid zjy 5 [zsL])
def zFn:zh:=vl (x:=zw Tryz.prog Tryz.f145 zid zjy [zAZ,zsK,zA0,zA1,zsL,zsM])
def zOY:List zm:=[.t 2]
def zxr:AFn:= .code zFn zOY 162 true
def zAk:zp:={ kill:=kx [(0,[0,4]),(2,[6009]),(3,[11,12,20]),(4,[10,13019]),(5,[1,2,5,20,21]),(6,[1,2,5,10])],ret:=[4] }
@[irreducible] def zA2:zh:=vl (x:=zag Tryz.prog Tryz.f144 zAk [] 0 [])
def zFo:zh:=vl (x:=zw Tryz.prog Tryz.f144 zAk [] [zA2])
def zOZ:List zm:=[.t 4]
def zxs:AFn:= .code zFo zOZ 22 true
def zLa:zp:={ kill:=kx [(0,[0]),(1,[1,7015]),(2,[2,16,17]),(3,[3,18])],obj:=[(12,[false,false,true])],ret:=[6] }
def zF0:zh:=vl (x:=zw Tryz.prog Tryz.f110 zLa [] [])
def zPD:List zm:=[.c 6 true 63]
def zyr:AFn:= .code zF0 zPD 19 true
def zKK:zp:={ kill:=kx [(0,[5]),(1,[0,8012]),(2,[13]),(3,[1,6,7,14016]),(4,[7,14,17021]),(5,[1,6,22,23]),(6,[1,6,22,24026])],obj:=[(10,[false,true])],ret:=[4,5] }
def zq3:zh:=vl (x:=zw Tryz.prog Tryz.f146 zKK [] [])
def ztp:List zm:=[.c 4 true 26,.t 5]
def zxY:AFn:= .code zq3 ztp 27 true
end Go.Proofs.YtdnlddoeamjcoaaGreat
