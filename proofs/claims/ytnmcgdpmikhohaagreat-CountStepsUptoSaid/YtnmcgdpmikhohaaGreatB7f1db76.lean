/-
  Functions of the program, as the calculus has them.
-/
import Derived.Test.YtnmcgdpmikhohaaGreatBd64bfca
import Derived.KernelRfl
import Derived.Test.YtnmcgdpmikhohaaGreatProg
set_option linter.unusedSimpArgs false
set_option linter.unusedVariables false
set_option maxHeartbeats 10000000
set_option maxRecDepth 100000
namespace Go.Sim
variable {G:FuncId->Option AFn} {F:zaU} {E:Env} {H:zd}
theorem zaa8:exL G .skip ⟨E,H⟩=some (.normal,⟨E,H⟩):=zVk
theorem zUZ{ks:List Nat}:endS ks ⟨E,H⟩=gcS ⟨zc8 (zhU ks E),H⟩:=rfl
theorem zXw:gcS ⟨E,H⟩=⟨E,gc1 E H⟩:=rfl
theorem zaa3{i:Nat}{ks:List Nat}:exL G (.exit i ks) ⟨E,H⟩=some (.exit i,endS ks ⟨E,H⟩):=zVg
theorem zaa6{ks:List Nat}:exL G (.ret ks) ⟨E,H⟩=some (.ret,endS ks ⟨E,H⟩):=zVi
theorem zaa5{gs:List Nat}{l:List zK}{ks:List Nat}:exL G (.ops gs l ks) ⟨E,H⟩=((zfb gs ⟨E,H⟩).bind (zbu (zi G) l)).map (ziT ks):=zVh
theorem zaa2{gs:List Nat}{l:List zK}{fr:List (List Nat)}{ks:List Nat}:exL G (.draw gs l fr ks) ⟨E,H⟩=((zfb gs ⟨E,H⟩).bind (zfQ (zi G) l fr)).map (ziT ks):=zVf
theorem zaa7{x y:zg}:exL G (.seq x y) ⟨E,H⟩=(exL G x ⟨E,H⟩).bind (zhh (exL G y)):=zVj
theorem zaa0{c:Opd}{x y:zg}:exL G (.cond c x y) ⟨E,H⟩=zhz (c.ev E) (exL G x ⟨E,H⟩) (exL G y ⟨E,H⟩):=zVe
noncomputable def zu5(G:FuncId->Option AFn)(x y:zg)(E:Env)(H:zd):AV->Option (zX×St)
 | .d (.bool b)=>if b=true then exL G x ⟨E,H⟩ else exL G y ⟨E,H⟩
 | _=>none
theorem zaa1{c:Opd}{x y:zg}:exL G (.cond c x y) ⟨E,H⟩=zu5 G x y E H (c.ev E):=by
 rw[zaa0];unfold zhz zu5;generalize c.ev E=v
 split<;>simp_all
theorem zTb{b:Bool}{x y:zg}:zu5 G x y E H (.d (.bool b))=if b=true then exL G x ⟨E,H⟩ else exL G y ⟨E,H⟩:=rfl
theorem zaaZ{id:Nat}{x:zg}:exL G (.block id x) ⟨E,H⟩=(exL G x ⟨E,H⟩).map (zix id):=zVd
theorem zaa4{ks:List Nat}{x:zg}:exL G (.loop ks x) ⟨E,H⟩=z6 G ks x (norm ks ⟨E,H⟩):=rfl
theorem zXD{S:St}:zfb [] S=some S:=rfl
theorem zXC{g:Nat}{gs:List Nat}:zfb (g::gs) ⟨E,H⟩=(zrY g ⟨E,H⟩).bind (zfb gs):=rfl
theorem zYu{ks:List Nat}:ziT ks ⟨E,H⟩=(.normal,⟨zf2 ks E,H⟩):=rfl
theorem z0g{ks:List Nat}:norm ks ⟨E,H⟩=norm1 ⟨zf2 ks E,H⟩:=rfl
theorem z0f:norm1 ⟨E,H⟩=⟨zc8 (deX E),ztF (gc1 E (gc1 E H))⟩:=rfl
theorem z8X{g:St->Option (zX×St)}{S:St}:zhh g (.normal,S)=g S:=rfl
theorem z8W{g:St->Option (zX×St)}{i:Nat}{S:St}:zhh g (.exit i,S)=some (.exit i,S):=rfl
theorem z8Y{g:St->Option (zX×St)}{S:St}:zhh g (.ret,S)=some (.ret,S):=rfl
theorem zZn{ks:List Nat}{g:St->Option (zX×St)}{S:St}:zc0 ks g (.normal,S)=g (norm ks S):=rfl
theorem zZm{ks:List Nat}{g:St->Option (zX×St)}{i:Nat}{S:St}:zc0 ks g (.exit i,S)=some (.exit i,S):=rfl
theorem zZo{ks:List Nat}{g:St->Option (zX×St)}{S:St}:zc0 ks g (.ret,S)=some (.ret,S):=rfl
theorem zSr{id:Nat}{S:St}:zix id (.normal,S)=(.normal,S):=rfl
theorem zSq{id i:Nat}{S:St}:zix id (.exit i,S)=if i=id then (.normal,S) else (.exit i,S):=rfl
theorem zSs{id:Nat}{S:St}:zix id (.ret,S)=(.ret,S):=rfl
def zfl(t:Nat)(v:AV):Env->Env
 | []=>[]
 | (j,x)::l=>if j=t then (j,v)::l else (j,x)::zfl t v l
theorem ztn{t:Nat}{v:AV}:∀ {E:Env},look t E=some v->zfl t v E=E:=by
 intro E
 induction E with
 | nil=>intro h;cases h
 | cons p l ih=>
  obtain⟨j,x⟩:=p;intro h;simp only[look] at h;simp only[zfl]
  split
  ·rename_i e;rw[zabo e] at h;cases h;rfl
  ·rename_i e;rw[zabn e] at h;rw[ih h]
def zan{α:Type}(v:Option AV)(k j:Bool->Option α):Option α:=
 match v with
 | some (.d (.bool true))=>k true
 | some (.d (.bool false))=>k false
 | _=>none
theorem z0i:zbu F [] ⟨E,H⟩=some ⟨E,H⟩:=rfl
theorem z0j{d:Option Nat}{op:AOp}{l:List zK}:zbu F (⟨d,op,none⟩::l) ⟨E,H⟩=(zdq F ⟨d,op,none⟩ ⟨E,H⟩).bind (zbu F l):=rfl
def zhK(F:zaU)(d:Option Nat)(op:AOp)(b:Bool)(l:List zK)(E:Env)(H:zd)(c:Bool):Option St:=if c=b then (zdq F ⟨d,op,none⟩ ⟨E,H⟩).bind (zbu F l) else zbu F l (St.put ⟨E,H⟩ d (.d (.tup [])))
theorem zWA{d:Option Nat}{op:AOp}{l:List zK}:zhK F d op true l E H true=(zdq F ⟨d,op,none⟩ ⟨E,H⟩).bind (zbu F l):=rfl
theorem zWx{d:Option Nat}{op:AOp}{l:List zK}:zhK F d op false l E H false=(zdq F ⟨d,op,none⟩ ⟨E,H⟩).bind (zbu F l):=rfl
theorem zWz{d:Option Nat}{op:AOp}{l:List zK}:zhK F d op true l E H false=zbu F l (St.put ⟨E,H⟩ d (.d (.tup []))):=rfl
theorem zWy{d:Option Nat}{op:AOp}{l:List zK}:zhK F d op false l E H true=zbu F l (St.put ⟨E,H⟩ d (.d (.tup []))):=rfl
def zrz(F:zaU)(d:Option Nat)(op:AOp)(t:Nat)(b:Bool)(l:List zK)(E:Env)(H:zd)(v:Option AV):Option St:=
 match v with
 | some (.d (.bool c))=>if c=true then zhK F d op b l (zfl t (.d (.bool true)) E) H true else zhK F d op b l (zfl t (.d (.bool false)) E) H false
 | some (.d (.tup []))=>zbu F l (St.put ⟨E,H⟩ d (.d (.tup [])))
 | _=>none
theorem zWw{d:Option Nat}{op:AOp}{t:Nat}{b:Bool}{l:List zK}:zrz F d op t b l E H (some (.d (.tup [])))=zbu F l (St.put ⟨E,H⟩ d (.d (.tup []))):=rfl
theorem zWv{d:Option Nat}{op:AOp}{t:Nat}{b c:Bool}{l:List zK}:zrz F d op t b l E H (some (.d (.bool c)))=if c=true then zhK F d op b l (zfl t (.d (.bool true)) E) H true else zhK F d op b l (zfl t (.d (.bool false)) E) H false:=rfl
theorem z0h{d:Option Nat}{op:AOp}{l:List zK}{t:Nat}{b:Bool}:zbu F (⟨d,op,some (t,b)⟩::l) ⟨E,H⟩=zrz F d op t b l E H (look t E):=by
 simp only[zbu,zrz];generalize hv:look t E=v
 split
 ·rename_i c
  cases c with
  | true=>simp only[ztn hv,if_true];rfl
  | false=>simp only[ztn hv,zabz,if_false];rfl
 ·rfl
 ·rename_i hno hno2
  split
  ·exact absurd rfl (hno _)
  ·exact absurd rfl hno2
  ·rfl
theorem zTz{l:List zK}{fr:List (List Nat)}:zfQ F l fr ⟨E,H⟩=if (zbN E&&zbN H&&zmd l ⟨E,H⟩)=true then zbz F l fr [] ⟨E,H⟩ else none:=rfl
theorem zTB{fr:List (List Nat)}{acc:List (List Nat×List Nat)}:zbz F [] fr acc ⟨E,H⟩=some ⟨E,H⟩:=rfl
theorem zTC{d:Option Nat}{op:AOp}{l:List zK}{f:List Nat}{fr:List (List Nat)}{acc:List (List Nat×List Nat)}:zbz F (⟨d,op,none⟩::l) (f::fr) acc ⟨E,H⟩=(zdf F ⟨d,op,none⟩ (f::fr) acc ⟨E,H⟩).bind (zbz F l fr (acc++[op.feet E H (d.getD 0)])):=rfl
def zhA(F:zaU)(d:Option Nat)(op:AOp)(t:Nat)(b:Bool)(l:List zK)(f:List Nat)(fr:List (List Nat))(acc:List (List Nat×List Nat))(E:Env)(H:zd)(c:Bool):Option St:=
 if c=b then (zdf F ⟨d,op,none⟩ (f::fr) acc ⟨E,H⟩).bind (zbz F l fr (acc++[op.feet E H (d.getD 0)])) else (zgf ⟨d,op,some (t,b)⟩ (f::fr) acc ⟨E,H⟩).bind (zbz F l fr (acc++[([],[])]))
theorem zTy{d:Option Nat}{op:AOp}{t:Nat}{l:List zK}{f:List Nat}{fr:List (List Nat)}{acc:List (List Nat×List Nat)}:zhA F d op t true l f fr acc E H true=(zdf F ⟨d,op,none⟩ (f::fr) acc ⟨E,H⟩).bind (zbz F l fr (acc++[op.feet E H (d.getD 0)])):=rfl
theorem zTv{d:Option Nat}{op:AOp}{t:Nat}{l:List zK}{f:List Nat}{fr:List (List Nat)}{acc:List (List Nat×List Nat)}:zhA F d op t false l f fr acc E H false=(zdf F ⟨d,op,none⟩ (f::fr) acc ⟨E,H⟩).bind (zbz F l fr (acc++[op.feet E H (d.getD 0)])):=rfl
theorem zTx{d:Option Nat}{op:AOp}{t:Nat}{l:List zK}{f:List Nat}{fr:List (List Nat)}{acc:List (List Nat×List Nat)}:zhA F d op t true l f fr acc E H false=(zgf ⟨d,op,some (t,true)⟩ (f::fr) acc ⟨E,H⟩).bind (zbz F l fr (acc++[([],[])])):=rfl
theorem zTw{d:Option Nat}{op:AOp}{t:Nat}{l:List zK}{f:List Nat}{fr:List (List Nat)}{acc:List (List Nat×List Nat)}:zhA F d op t false l f fr acc E H true=(zgf ⟨d,op,some (t,false)⟩ (f::fr) acc ⟨E,H⟩).bind (zbz F l fr (acc++[([],[])])):=rfl
def zrd(F:zaU)(d:Option Nat)(op:AOp)(t:Nat)(b:Bool)(l:List zK)(f:List Nat)(fr:List (List Nat))(acc:List (List Nat×List Nat))(E:Env)(H:zd)(v:Option AV):Option St:=
 match v with
 | some (.d (.bool c))=>if c=true then zhA F d op t b l f fr acc (zfl t (.d (.bool true)) E) H true else zhA F d op t b l f fr acc (zfl t (.d (.bool false)) E) H false
 | some (.d (.tup []))=>(zgf ⟨d,op,some (t,b)⟩ (f::fr) acc ⟨E,H⟩).bind (zbz F l fr (acc++[([],[])]))
 | _=>none
theorem zTu{d:Option Nat}{op:AOp}{t:Nat}{b:Bool}{l:List zK}{f:List Nat}{fr:List (List Nat)}{acc:List (List Nat×List Nat)}:zrd F d op t b l f fr acc E H (some (.d (.tup [])))=(zgf ⟨d,op,some (t,b)⟩ (f::fr) acc ⟨E,H⟩).bind (zbz F l fr (acc++[([],[])])):=rfl
theorem zTt{d:Option Nat}{op:AOp}{t:Nat}{b c:Bool}{l:List zK}{f:List Nat}{fr:List (List Nat)}{acc:List (List Nat×List Nat)}:zrd F d op t b l f fr acc E H (some (.d (.bool c)))=
    if c=true then zhA F d op t b l f fr acc (zfl t (.d (.bool true)) E) H true else zhA F d op t b l f fr acc (zfl t (.d (.bool false)) E) H false:=rfl
theorem zTA{d:Option Nat}{op:AOp}{l:List zK}{f:List Nat}{fr:List (List Nat)}{acc:List (List Nat×List Nat)}{t:Nat}{b:Bool}:zbz F (⟨d,op,some (t,b)⟩::l) (f::fr) acc ⟨E,H⟩=zrd F d op t b l f fr acc E H (look t E):=by
 simp only[zbz,zrd];generalize hv:look t E=v
 split
 ·rename_i c
  cases c with
  | true=>simp only[ztn hv,if_true];rfl
  | false=>simp only[ztn hv,zabz,if_false];rfl
 ·rfl
 ·rename_i hno hno2
  split
  ·exact absurd rfl (hno _)
  ·exact absurd rfl hno2
  ·rfl
theorem zUf{d:Option Nat}{op:AOp}{f:List Nat}{fr:List (List Nat)}{acc:List (List Nat×List Nat)}:zdf F ⟨d,op,none⟩ (f::fr) acc ⟨E,H⟩=if zgK f acc (op.feet E H (d.getD 0))=true then zdq F ⟨d,op,none⟩ ⟨E,H⟩ else none:=rfl
theorem zUe{x:zK}{f:List Nat}{fr:List (List Nat)}{acc:List (List Nat×List Nat)}:zgf x (f::fr) acc ⟨E,H⟩=if zgK f acc ([],[])=true then some (St.put ⟨E,H⟩ x.dst (.d (.tup []))) else none:=rfl
theorem z5x{d:Nat}{v:AV}:St.put ⟨E,H⟩ (some d) v=⟨zP d v E,H⟩:=rfl
def putO(E:Env)(d:Option Nat)(r:Option (AV×zd)):Option St:=r.map fun p=>St.put ⟨E,p.2⟩ d p.1
theorem z5v{v:AV}:putO E none (some (v,H))=some ⟨E,H⟩:=rfl
theorem z5w{d:Nat}{v:AV}:putO E (some d) (some (v,H))=some ⟨zP d v E,H⟩:=rfl
theorem z73{d:Option Nat}{op:AOp}{g:Option (Nat×Bool)}:zdq F ⟨d,op,g⟩ ⟨E,H⟩=putO E d (step F E H (d.getD 0) op):=rfl
variable {dst:Nat}
theorem zaiS{g:FuncId}{cs:List D}{ms:List Bool}{args:List AV}:zht F E H dst ms (.d (.fn g cs)) args=zbr F E H dst ms g (args++cs.map .d):=rfl
theorem zSK{v:AV}{δ:zd}:zgJ H (some (v,δ))=some (v,zak δ H):=rfl
theorem zSC{ms:List Bool}{f:FuncId}{args:List AV}:zbr F E H dst ms f args=if zmf ms args.length=true then (zbJ H ms args).bind (zgi F E H dst ms f (zaz ms args)) else zcu F E H dst ms f args:=rfl
theorem zSA{ms:List Bool}{f:FuncId}{args:List AV}:zcu F E H dst ms f args=(zbJ H ms args).bind (zfJ F E H dst (zbF H ms args) (zaz ms args) f):=rfl
theorem zWo{ms:List Bool}{f:FuncId}{dob:List Nat}{zabm:List AV}:zgi F E H dst ms f dob zabm=if zgj H dob=true then (zcu F E (zak (zbn H dob) H) dst ms f zabm).map fun p=>(p.1,p.2++zbn H dob) else none:=rfl
theorem zTG(ds:List D):zaz [] (ds.map .d)=[]:=by
 induction ds with
 | nil=>rfl
 | cons d ds ih=>simp only[zabs,zaz,ih,AV.objs,zabL]
theorem zjQ{f:FuncId}{ds:List D}:zbr F E H dst [] f (ds.map .d)=(F f (ds.map .d) []).bind (zeI E H dst [] []):=by
 have h1:zbJ H [] (ds.map .d)=some (ds.map .d):=by
  induction ds with
  | nil=>rfl
  | cons d ds ih=>simp only[zabs,zbJ,ih,toD,zabY,zab8]
 have h2:zch [] (ds.map .d)=[]:=by cases ds<;>rfl
 have h3:=zTG ds;have h4:(ds.map AV.d).map (AV.ren (zaR []))=ds.map .d:=by
  rw[zacQ];exact zacR fun _ _=>rfl
 unfold zbr;rw[zabn (by simp [zmf])];unfold zcu;rw[h1,h3];simp only[zabY,zbF,h2,zcT,zfm,List.flatMap_nil,zfJ,zkM,List.all_nil,zhC,zacG,if_true,h4,zbY,zabq]
theorem ca0{f:FuncId}:zbr F E H dst [] f []=(F f [] []).bind (zeI E H dst [] []):=zjQ (ds:=[])
theorem ca1{f:FuncId}{a:D}:zbr F E H dst [] f [.d a]=(F f [.d a] []).bind (zeI E H dst [] []):=zjQ (ds:=[a])
theorem ca2{f:FuncId}{a b:D}:zbr F E H dst [] f [.d a,.d b]=(F f [.d a,.d b] []).bind (zeI E H dst [] []):=zjQ (ds:=[a,b])
theorem ca3{f:FuncId}{a b c:D}:zbr F E H dst [] f [.d a,.d b,.d c]=(F f [.d a,.d b,.d c] []).bind (zeI E H dst [] []):=zjQ (ds:=[a,b,c])
theorem ca4{f:FuncId}{a b c d:D}:zbr F E H dst [] f [.d a,.d b,.d c,.d d]=(F f [.d a,.d b,.d c,.d d] []).bind (zeI E H dst [] []):=zjQ (ds:=[a,b,c,d])
theorem ca5{f:FuncId}{a b c d e:D}:zbr F E H dst [] f [.d a,.d b,.d c,.d d,.d e]=(F f [.d a,.d b,.d c,.d d,.d e] []).bind (zeI E H dst [] []):=zjQ (ds:=[a,b,c,d,e])
theorem cv1{f:FuncId}{a:D}{cs:List D}:zbr F E H dst [] f (.d a::cs.map .d)=(F f (.d a::cs.map .d) []).bind (zeI E H dst [] []):=zjQ (ds:=a::cs)
theorem zZI{c:Prop}[Decidable c]{e:zX}{t:Nat}{x y:Bool}:(if c then some (e,(⟨(t,.d (.bool x))::E,H⟩:St)) else some (e,⟨(t,.d (.bool y))::E,H⟩))=some (e,⟨(t,.d (.bool (if c then x else y)))::E,H⟩):=by split<;>rfl
theorem zYm{c x:Bool}:(if c=true then x else false)=(c&&x):=by cases c<;>rfl
theorem zYn{c x:Bool}:(if c=true then true else x)=(c||x):=by cases c<;>rfl
theorem zSp{α β:Type}{c:Prop}[Decidable c]{x y:Option α}{k:α->Option β}:(if c then x else y).bind k=if c then x.bind k else y.bind k:=by split<;>rfl
theorem zZw{α β:Type}{c:Prop}[Decidable c]{x y:Option α}{k:α->β}:(if c then x else y).map k=if c then x.map k else y.map k:=by split<;>rfl
theorem zV6{sl:Bool}{rs:List zl}{os:zd}{S:St}:zgh sl rs os (.normal,S)=(zfo S rs).bind (zhJ sl os S):=rfl
theorem zV7{sl:Bool}{rs:List zl}{os:zd}{S:St}:zgh sl rs os (.ret,S)=(zfo S rs).bind (zhJ sl os S):=rfl
theorem zV5{os:zd}{S:St}{v:AV}:zhJ true os S v=(toD S.heap v).bind (ztz os S v):=rfl
theorem zV4{os:zd}{S:St}{v:AV}:zhJ false os S v=zj7 os S v (zf7 S.heap os v):=rfl
theorem z8p{x:Opd}:step F E H dst (.mv x)=zr E H dst (.mv x):=rfl
theorem zVH{x:Opd}:AOp.feet E H dst (.mv x)=(zar (AOp.foot E dst (.mv x)),zar (AOp.wr E dst (.mv x))):=rfl
theorem z8s{c a b:Opd}:step F E H dst (.pick c a b)=zr E H dst (.pick c a b):=rfl
theorem zVJ{c a b:Opd}:AOp.feet E H dst (.pick c a b)=(zar (AOp.foot E dst (.pick c a b)),zar (AOp.wr E dst (.pick c a b))):=rfl
theorem z72{z:AV}:step F E H dst (.alloc z)=zr E H dst (.alloc z):=rfl
theorem zVs{z:AV}:AOp.feet E H dst (.alloc z)=(zar (AOp.foot E dst (.alloc z)),zar (AOp.wr E dst (.alloc z))):=rfl
theorem z8a{x:Opd}:step F E H dst (.box x)=zr E H dst (.box x):=rfl
theorem zajk{x:Opd}:AOp.feet E H dst (.box x)=(zar (AOp.foot E dst (.box x)),zar (AOp.wr E dst (.box x))):=rfl
theorem zVw{z:List AV}{ps:List (Nat×Nat×Opd)}:AOp.feet E H dst (.build z ps)=(zar (AOp.foot E dst (.build z ps)),zar (AOp.wr E dst (.build z ps))):=rfl
theorem zVv{len n:Nat}{z:AV}{ps:List (Nat×Opd)}:AOp.feet E H dst (.bsl len n z ps)=(zar (AOp.foot E dst (.bsl len n z ps)),zar (AOp.wr E dst (.bsl len n z ps))):=rfl
theorem zVE{ag:Bool}{n:Nat}{p:Opd}:AOp.feet E H dst (.ld ag n p)=(zar (AOp.foot E dst (.ld ag n p)),zar (AOp.wr E dst (.ld ag n p))):=rfl
theorem zVL{n:Nat}{p x:Opd}:AOp.feet E H dst (.st n p x)=(zar (AOp.foot E dst (.st n p x)),zj3 (AOp.wr E dst (.st n p x))):=rfl
theorem z8r{x:Opd}:step F E H dst (.nilc x)=zr E H dst (.nilc x):=rfl
theorem zVI{x:Opd}:AOp.feet E H dst (.nilc x)=(zar (AOp.foot E dst (.nilc x)),zar (AOp.wr E dst (.nilc x))):=rfl
theorem zVu{op:BinOp}{x y:Opd}:AOp.feet E H dst (.bin op x y)=(zar (AOp.foot E dst (.bin op x y)),zar (AOp.wr E dst (.bin op x y))):=rfl
theorem zakM{ng:Bool}{x y:Opd}:step F E H dst (.eqb ng x y)=zr E H dst (.eqb ng x y):=rfl
theorem zVz{ng:Bool}{n:Nat}{ls:List (Nat×Nat)}{x y:Opd}:AOp.feet E H dst (.eqs ng n ls x y)=(zar (AOp.foot E dst (.eqs ng n ls x y)),zar (AOp.wr E dst (.eqs ng n ls x y))):=rfl
theorem z8q  : step F E H dst (.nacc)=zr E H dst (.nacc):=rfl
theorem z8v{op:UnOp}{x:Opd}:step F E H dst (.un op x)=zr E H dst (.un op x):=rfl
theorem zVM{op:UnOp}{x:Opd}:AOp.feet E H dst (.un op x)=(zar (AOp.foot E dst (.un op x)),zar (AOp.wr E dst (.un op x))):=rfl
theorem z8e{k:IntKind}{x:Opd}:step F E H dst (.cvi k x)=zr E H dst (.cvi k x):=rfl
theorem zVy{k:IntKind}{x:Opd}:AOp.feet E H dst (.cvi k x)=(zar (AOp.foot E dst (.cvi k x)),zar (AOp.wr E dst (.cvi k x))):=rfl
theorem zVB{ag:Bool}{off n:Nat}{x:Opd}:AOp.feet E H dst (.fad ag off n x)=(zar (AOp.foot E dst (.fad ag off n x)),zar (AOp.wr E dst (.fad ag off n x))):=rfl
theorem zVC{ag:Bool}{off n:Nat}{x:Opd}:AOp.feet E H dst (.fld ag off n x)=(zar (AOp.foot E dst (.fld ag off n x)),zar (AOp.wr E dst (.fld ag off n x))):=rfl
theorem zVD{n:Nat}{x i:Opd}:AOp.feet E H dst (.iad n x i)=(zkI (AOp.foot E dst (.iad n x i)),[]):=rfl
theorem zVK{n:Nat}{x:Opd}{lo hi mx:Option Opd}:AOp.feet E H dst (.slc n x lo hi mx)=(zar (AOp.foot E dst (.slc n x lo hi mx)),zar (AOp.wr E dst (.slc n x lo hi mx))):=rfl
theorem zVA{x:Opd}{i:Nat}:AOp.feet E H dst (.ext x i)=(zar (AOp.foot E dst (.ext x i)),zar (AOp.wr E dst (.ext x i))):=rfl
theorem zVF{x:Opd}:AOp.feet E H dst (.len x)=(zar (AOp.foot E dst (.len x)),zar (AOp.wr E dst (.len x))):=rfl
theorem z8m{x:Opd}:step F E H dst (.lens x)=zr E H dst (.lens x):=rfl
theorem zVt{n:Nat}{x y:Opd}:AOp.feet E H dst (.app n x y)=(zar (AOp.foot E dst (.app n x y)),zar (AOp.wr E dst (.app n x y))):=rfl
theorem zVG{mx:Bool}{xs:List Opd}:AOp.feet E H dst (.mm mx xs)=(zar (AOp.foot E dst (.mm mx xs)),zar (AOp.wr E dst (.mm mx xs))):=rfl
theorem z8n{n:Nat}{z:AV}{l c:Opd}:step F E H dst (.mks n z l c)=zr E H dst (.mks n z l c):=rfl
theorem z9i{k:IntKind}{n:Int}:D.size (.int k n)=1:=rfl
theorem zSO{k:IntKind}{n:Int}:D.cells (.int k n)=[(.int k n)]:=rfl
theorem z9h{b:Bool}:D.size (.bool b)=1:=rfl
theorem zSN{b:Bool}:D.cells (.bool b)=[(.bool b)]:=rfl
theorem z9k{s:List UInt8}:D.size (.str s)=1:=rfl
theorem zSQ{s:List UInt8}:D.cells (.str s)=[(.str s)]:=rfl
theorem z9j{es:List D}:D.size (.sl es)=1:=rfl
theorem zSP{es:List D}:D.cells (.sl es)=[(.sl es)]:=rfl
theorem size_agg{cs:List D}:D.size (.agg cs)=cs.length:=rfl
theorem zSM{cs:List D}:D.cells (.agg cs)=cs:=rfl
theorem zR7{cs:List D}:D.asAgg (.agg cs)= .agg cs:=rfl
theorem zSc{x:D}:AV.size (.d x)=x.size:=rfl
theorem zRD{x:D}:AV.cells (.d x)=x.cells.map .d:=rfl
theorem zSd{o off len:Nat}:AV.size (.osl o off len)=1:=rfl
theorem zRE{o off len:Nat}:AV.cells (.osl o off len)=[(.osl o off len)]:=rfl
theorem zSa{o:Nat}{es:List D}:AV.size (.acc o es)=1:=rfl
theorem zRB{o:Nat}{es:List D}:AV.cells (.acc o es)=[(.acc o es)]:=rfl
theorem zSe{es:List D}:AV.size (.xsl es)=1:=rfl
theorem zRF{es:List D}:AV.cells (.xsl es)=[(.xsl es)]:=rfl
theorem zSb{cs:List AV}:AV.size (.agg cs)=cs.length:=rfl
theorem zRC{cs:List AV}:AV.cells (.agg cs)=cs:=rfl
section
variable {k:IntKind} {a b:Int}
def zjL(k:IntKind)(a b:Int):Int:=k.wrap (BitVec.ofInt k.bits a &&& BitVec.ofInt k.bits b).toNat
def orI(k:IntKind)(a b:Int):Int:=k.wrap (BitVec.ofInt k.bits a ||| BitVec.ofInt k.bits b).toNat
def zjp(k:IntKind)(a b:Int):Int:=k.wrap (BitVec.ofInt k.bits a ^^^ BitVec.ofInt k.bits b).toNat
theorem zXP:zcI .add k a b=some (.int k (k.wrap (a+b))):=rfl
theorem zX1:zcI .sub k a b=some (.int k (k.wrap (a - b))):=rfl
theorem zXW:zcI .mul k a b=some (.int k (k.wrap (a * b))):=rfl
theorem zXZ:zcI .quo k a b=if b=0 then none else some (.int k (k.wrap (a.tdiv b))):=rfl
theorem zX0:zcI .rem k a b=if b=0 then none else some (.int k (a.tmod b)):=rfl
theorem zXR:zcI .eql k a b=some (.bool (decide (a=b))):=rfl
theorem zXX:zcI .neq k a b=some (.bool (!decide (a=b))):=rfl
theorem zXV:zcI .lss k a b=some (.bool (decide (a<b))):=rfl
theorem zXU:zcI .leq k a b=some (.bool (decide (a<=b))):=rfl
theorem zXT:zcI .gtr k a b=some (.bool (decide (b<a))):=rfl
theorem zXS:zcI .geq k a b=some (.bool (decide (b<=a))):=rfl
theorem zXQ:zcI .and k a b=some (.int k (zjL k a b)):=rfl
theorem zXY:zcI .or k a b=some (.int k (orI k a b)):=rfl
theorem zX2:zcI .xor k a b=some (.int k (zjp k a b)):=rfl
end
theorem zU8{ng:Bool}{n:Nat}{ls:List (Nat×Nat)}{a b:List D}:zrk H ng n ls (.d (.agg a)) (.d (.agg b))=if a.length=n/\b.length=n then zCG H ng (zgN a b ls) else none:=rfl
attribute [go_sem] zgd
theorem z4K{x:AV}{off:Nat}{v:AV}:zcM x off v=if off=0/\v.size=x.size then some v else if off+v.size<=x.size then some (AV.mkAgg (zfv x.cells off v.cells)) else none:=rfl
attribute [go_sem] zaa8 zaa3 zaa6 zaa5 zaa2 zaa7 zaa1 zTb zaaZ zaa4 zXD zXC zYu z0g z0f deX zrg zUZ zXw zhU z8X z8W z8Y zZn zZm zZo zSr zSq zSs zWA zWx zWz zWy zWv zWw zTu zTy zTv zTx zTw zTt zfl zZI zYm zYn zSp zZw z0i z0j z0h zTz zTB zTC zTA zUf zUe z5x z5v z5w z73 zaiS zSK zV6 zV7 zV5 zV4 z8p z8s z72 z8a z8r zakM z8q z8v z8e z8m z8n zVH zVJ zVs zajk zVw zVv zVE zVL zVI zVu zVz zVM zVy zVB zVC zVD zVK zVA zVF zVt zVG z9i zSO z9h zSN z9k zSQ z9j zSP size_agg zSM zR7 zSc zRD zSd zRE zSa zRB zSe zRF zSb zRC zabF zr Opd.ev zabs zabq Go.Sim.look zP zd0 zacS Option.getD_none zgI zXP zX1 zXW zXZ zX0 zXR zXX zXV zXU zXT zXS zXQ zXY zX2 zk9 znG zab8 Option.map_none zabY Option.bind_none zf2 List.contains_cons List.contains_nil Bool.or_true zadk Bool.or_false zacH Bool.or_self zabz zacf zabU zacI beq_self_eq_true zaX zaq AV.refs AV.refsL Obj.refs zadF zacA zacJ zacd zacG zacK zacT zacB zcc zep zadG zad2 List.getElem?_nil zabu zabw zabZ List.drop_succ_cons List.take_succ_cons zacg z4K zfv AV.mkAgg AV.mkTup AV.mkFn zbq z7z z7y z7B zia zu6 zu6.consQ zQ8 z7x z7A zQp toD toD.toDs zbQ slD ne_eq zabD zabV Nat.succ_ne_self zad3 zad4 eq_self_iff_true zbN AOp.foot AOp.wr AOp.looks AOp.news AOp.opds zh2 AV.objs AV.objsL zacn List.all_nil zac4 List.any_nil List.headD_cons List.headD_nil List.tail_cons List.tail_nil zabJ zabN zabL zd8 unX zjo znM zbA List.set_cons_zero List.set_cons_succ Nat.lt_add_one Nat.zero_lt_one Nat.one_lt_two zadH ziR zK.newNames fr4 zdd zcg zjR zq6 zar zbJ zaz zch zbF zfm zcT zk5 zaR pos AV.ren AV.renL Obj.ren zfJ zeI AV.flat AV.flatL Obj.flat D.flat D.flatL zak mmD zge zj7 ztz zf7 za2 frs zrY ztR zC5 zC6 zh1 zmX ztO zCZ zC0 zkG zmW ztQ zC4 ztP zC2 zhB zl6 zu9 znn rnm Option.isNone_some Option.isNone_none ziH zgv zjG zc8 zhS ztF gc1 gc zkH zgN zvm List.flatMap_nil List.flatMap_cons zac5 zacL List.getD_cons_zero List.getD_cons_succ decide_true decide_false if_true if_false List.isEmpty_nil List.isEmpty_cons z0o okN zBu znI z4I osN zWn zWm zWg zru zTX zTW z7s z7r z0m z0l zVc zVb zTZ zTY zGG zSX zSW zrx zWl zWk z7T z7S zRA zRz zrj zU3 zXB zXA zBv okO z0p zMF okG z0n zsU z4J evs evO evB evF szF zhe znp zCG dO pdO peO ldE ldO ldV z8k zj4 z8h szR szP szD zLH zhR zAt z8j stF stE stO stV z8u zvt z8i zui z79 zU8 z8f bdI bd slM zRo zDs slL slH zDi zDh zt2 zam zBE zBC zBB zBD zii z8t zvn z8g zA7 zA8 z8l mmV z8o zun z8c zul zum z8b zug zuh z78 zB zB.srcL zle zt8 zlX zt9 z74 z8d zakL zVx
theorem zRY{n:Nat}:zas n []=true:=rfl
theorem zDx{n:Nat}{e:D}{es:List D}:zas n (e::es)=(e.size==n&&zas n es):=rfl
theorem zRW{n:Nat}{es fs:List D}:zas n (es++fs)=(zas n es&&zas n fs):=by simp [zas]
theorem zRL{ds:List D}:zbq (ds.map .d)=some ds:=zt4 ds
theorem tc_0{ns:List Nat}:zdY ns dst 0=dst:=by simp [zdY]
theorem tc_1{ns:List Nat}:zdY ns dst 1=dst+10000:=by simp [zdY]
theorem zaaf{ns:List Nat}{n:Nat}(h:¬n<1000000):zdY ns dst n=ns.getD (n - 1000000) 0:=by unfold zdY;rw[zabn h]
theorem zaae{ns:List Nat}{a:Nat}:zdY (a::ns) dst 1000000=a:=by rw[zaaf (by omega)];rfl
theorem zak3{ns:List Nat}{a b:Nat}:zdY (a::b::ns) dst 1000001=b:=by rw[zaaf (by omega)];rfl
theorem zak4{ns:List Nat}{a b c:Nat}:zdY (a::b::c::ns) dst 1000002=c:=by rw[zaaf (by omega)];rfl
attribute [go_sem] tc_0 tc_1 zaae zak3 zak4
attribute [go_sem] ziD zl5 zjX zjY zre zfL zva
attribute [go_sem] zi2 zmV zkE zkF zsR zf5 zBt
attribute [go_sem] okC zcN zmZ zns okE zie zkK zk4 zf6 zcs zhF orE zhG zfW zrr zC7
attribute [go_sem] zQi z0k zRY zDx zRW zRL
attribute [go_sem high] ca0 ca1 ca2 ca3 ca4 ca5 cv1
attribute [go_sem low] zSC zSA
attribute [go_sem] zWo zmf zWq zWp zWt zWs mark List.drop_nil Option.isSome_some Option.isSome_none
def D.isT:D->Bool
 | .tup _=>true
 | _=>false
theorem zYj{x:D}:zbR (.d x)=x.isT:=by cases x<;>rfl
theorem zYe{k:IntKind}{n:Int}:D.isT (.int k n)=false:=rfl
theorem zYd{b:Bool}:D.isT (.bool b)=false:=rfl
theorem zYg{s:List UInt8}:D.isT (.str s)=false:=rfl
theorem zYc{cs:List D}:D.isT (.agg cs)=false:=rfl
theorem zYf{es:List D}:D.isT (.sl es)=false:=rfl
theorem zYk{o off len:Nat}:zbR (.osl o off len)=false:=rfl
theorem zYh{o:Nat}{es:List D}:zbR (.acc o es)=false:=rfl
theorem zYl{es:List D}:zbR (.xsl es)=false:=rfl
theorem zYi{cs:List AV}:zbR (.agg cs)=false:=rfl
attribute [go_sem] zYj zYe zYd zYg zYc zYf zYk zYh zYl zYi
theorem z7u{ρ:Nat->Nat}{ds:List D}:(ds.map AV.d).map (AV.ren ρ)=ds.map .d:=by rw[zacQ];exact zacR fun _ _=>rfl
attribute [go_sem] z7u
theorem GOK.of{P:Program}(tab:List (Nat×AFn))(h:∀p∈tab,zp P p.1 p.2):GOK P (fun f=>look f tab):=fun f fn hf=>h (f,fn) (zav hf)
end Go.Sim

namespace Go.Sim
abbrev oM(d s:Nat):zK:=⟨some d,.mv (.t s),none⟩
abbrev oP(d:Nat)(x:AOp):zK:=⟨some d,x,none⟩
abbrev oQ(d:Nat)(x:AOp)(t:Nat)(b:Bool):zK:=⟨some d,x,some (t,b)⟩
abbrev oN(x:AOp):zK:=⟨none,x,none⟩
abbrev kI(n:Int):Opd:= .c (.d (.int .i64 n))
abbrev aI(n:Int):AV:= .d (.int .i64 n)
open Go (World Value Addr TypeId Act)
variable {G:FuncId->Option AFn}
end Go.Sim

namespace Go.Proofs.YtnmcgdpmikhohaaGreat
open Go Go.Sim
abbrev zafa:Nat:=5
abbrev zll:Nat:=12
abbrev zlm:Nat:=13
abbrev zafc:Nat:=15
abbrev zafb:Nat:=16
abbrev zaeG:Nat:=17
abbrev znW:Nat:=18
abbrev znY:Nat:=19
abbrev znX:Nat:=20
abbrev zpK:Nat:=22
abbrev zpA:Nat:=28
abbrev zafk:Nat:=29
abbrev zpB:Nat:=31
abbrev zpo:Nat:=35
abbrev zafj:Nat:=36
abbrev znT:Nat:=38
abbrev zpp:Nat:=39
abbrev zpn:Nat:=41
abbrev zpz:Nat:=43
abbrev zp3:Nat:=44
abbrev zae3:Nat:=45
abbrev zae4:Nat:=46
abbrev znV:Nat:=47
abbrev zaeS:Nat:=48
abbrev zlJ:Nat:=49
abbrev zafo:Nat:=50
abbrev zaeU:Nat:=51
abbrev zDn:Nat:=52
abbrev zDm:Nat:=54
abbrev zlW:Nat:=55
abbrev zn1:Nat:=56
abbrev zn0:Nat:=57
abbrev zlT:Nat:=58
abbrev zn4:Nat:=60
abbrev zjz:Nat:=61
abbrev zafI:Nat:=62
abbrev zae7:Nat:=63
abbrev zae5:Nat:=64
abbrev zae8:Nat:=65
abbrev zae9:Nat:=66
abbrev znZ:Nat:=67
abbrev zpG:Nat:=72
abbrev zpv:Nat:=73
abbrev zpD:Nat:=74
abbrev zpk:Nat:=75
abbrev zafi:Nat:=76
abbrev zafh:Nat:=77
abbrev zpd:Nat:=78
abbrev zpb:Nat:=79
abbrev zpg:Nat:=82
abbrev zpC:Nat:=87
abbrev zpu:Nat:=88
abbrev zp4:Nat:=89
abbrev zjr:Nat:=90
abbrev zqv:Nat:=91
abbrev zjv:Nat:=92
abbrev zagT:Nat:=93
abbrev zlU:Nat:=94
abbrev zlR:Nat:=95
abbrev zlH:Nat:=96
abbrev zp7:Nat:=97
abbrev zp6:Nat:=98
abbrev zlF:Nat:=99
abbrev zaeT:Nat:=100
abbrev zaeI:Nat:=101
abbrev zaeH:Nat:=102
abbrev zafn:Nat:=103
abbrev zlS:Nat:=104
abbrev zt1:Nat:=105
abbrev zfE:Nat:=106
abbrev zio:Nat:=107
abbrev zqw:Nat:=108
abbrev zn3:Nat:=109
abbrev zpt:Nat:=110
abbrev zpj:Nat:=111
abbrev zpl:Nat:=112
abbrev zae6:Nat:=113
abbrev zafs:Nat:=114
abbrev zaft:Nat:=115
abbrev zafu:Nat:=116
abbrev zafd:Nat:=123
abbrev zaff:Nat:=124
abbrev zph:Nat:=125
abbrev zoN:Nat:=134
abbrev zoS:Nat:=135
abbrev zo5:Nat:=136
abbrev zp5:Nat:=137
abbrev ziq:Nat:=138
abbrev zn7:Nat:=139
abbrev zn8:Nat:=140
abbrev zjx:Nat:=141
abbrev zjy:Nat:=142
abbrev zhq:Nat:=143
abbrev zjA:Nat:=144
abbrev zlK:Nat:=145
abbrev zlM:Nat:=146
abbrev zlO:Nat:=147
abbrev zjB:Nat:=148
abbrev zlQ:Nat:=149
abbrev zp2:Nat:=150
abbrev zafl:Nat:=151
abbrev zafm:Nat:=152
abbrev zDp:Nat:=153
abbrev zjE:Nat:=154
abbrev zlV:Nat:=155
abbrev zqu:Nat:=156
abbrev zn2:Nat:=157
abbrev zpE:Nat:=158
abbrev zpm:Nat:=159
abbrev zae2:Nat:=160
abbrev zafp:Nat:=161
abbrev zaeV:Nat:=162
abbrev zafq:Nat:=163
abbrev zafv:Nat:=164
abbrev zafg:Nat:=167
abbrev zafe:Nat:=168
abbrev zlw:Nat:=171
abbrev zo1:Nat:=172
abbrev zjs:Nat:=173
abbrev zn9:Nat:=174
abbrev zp0:Nat:=175
abbrev zlq:Nat:=176
abbrev zp8:Nat:=177
abbrev zlG:Nat:=178
abbrev zqb:Nat:=179
abbrev zpr:Nat:=180
abbrev zqc:Nat:=181
abbrev zpf:Nat:=182
abbrev zlI:Nat:=183
abbrev zqd:Nat:=184
abbrev zqe:Nat:=185
abbrev zqh:Nat:=186
abbrev zqg:Nat:=187
abbrev zoT:Nat:=188
abbrev zqi:Nat:=189
abbrev zqj:Nat:=190
abbrev zqk:Nat:=191
abbrev zp9:Nat:=192
abbrev zlL:Nat:=193
abbrev zjw:Nat:=194
abbrev zlN:Nat:=195
abbrev zlP:Nat:=196
abbrev zjC:Nat:=197
abbrev zjD:Nat:=198
abbrev zafr:Nat:=199
abbrev zoa:Nat:=200
abbrev zpe:Nat:=201
abbrev zpM:Nat:=202
abbrev zpO:Nat:=203
abbrev zqa:Nat:=204
abbrev zoV:Nat:=205
abbrev zpZ:Nat:=206
abbrev zp1:Nat:=207
abbrev zoc:Nat:=208
abbrev zlp:Nat:=209
abbrev zoU:Nat:=210
abbrev zpc:Nat:=211
abbrev zpL:Nat:=212
abbrev zqf:Nat:=213
abbrev zoQ:Nat:=214
abbrev zoF:Nat:=215
abbrev zoR:Nat:=216
abbrev zoH:Nat:=217
abbrev zo8:Nat:=218
abbrev zoe:Nat:=219
abbrev zlt:Nat:=220
abbrev zoE:Nat:=221
abbrev zqn:Nat:=222
abbrev zoK:Nat:=223
abbrev zqm:Nat:=224
abbrev zql:Nat:=225
abbrev zlE:Nat:=226
abbrev zqq:Nat:=227
abbrev zoL:Nat:=228
abbrev zqp:Nat:=229
abbrev zqo:Nat:=230
abbrev zlz:Nat:=231
abbrev zqt:Nat:=232
abbrev zoX:Nat:=233
abbrev zqs:Nat:=234
abbrev zqr:Nat:=235
abbrev zo4:Nat:=236
abbrev zoI:Nat:=237
abbrev zoM:Nat:=238
abbrev zoG:Nat:=239
abbrev zo7:Nat:=240
abbrev zo6:Nat:=241
abbrev zpV:Nat:=242
abbrev zlu:Nat:=243
abbrev zlr:Nat:=244
abbrev zjt:Nat:=245
abbrev zpI:Nat:=246
abbrev zoW:Nat:=247
abbrev zoY:Nat:=248
abbrev zo0:Nat:=249
abbrev zoB:Nat:=250
abbrev zlC:Nat:=251
abbrev zof:Nat:=252
abbrev zju:Nat:=253
abbrev zo3:Nat:=254
abbrev zox:Nat:=255
abbrev zo9:Nat:=256
abbrev zls:Nat:=257
abbrev zoi:Nat:=258
abbrev zpQ:Nat:=259
abbrev zpY:Nat:=260
abbrev zoZ:Nat:=261
abbrev zlA:Nat:=262
abbrev zoP:Nat:=263
abbrev zlB:Nat:=264
abbrev zoj:Nat:=265
abbrev zo2:Nat:=266
abbrev zoA:Nat:=267
abbrev zpa:Nat:=268
abbrev zpJ:Nat:=269
abbrev zpU:Nat:=270
abbrev zpT:Nat:=271
abbrev zpS:Nat:=272
abbrev zpW:Nat:=273
abbrev zpP:Nat:=274
abbrev zpX:Nat:=275
abbrev zoh:Nat:=276
abbrev zol:Nat:=277
abbrev zom:Nat:=278
abbrev zlx:Nat:=279
abbrev zod:Nat:=280
abbrev zob:Nat:=281
abbrev zoz:Nat:=282
abbrev zok:Nat:=283
abbrev zoC:Nat:=284
abbrev zoO:Nat:=285
abbrev zoD:Nat:=286
abbrev zoo:Nat:=287
abbrev zon:Nat:=288
abbrev zpR:Nat:=289
abbrev zlv:Nat:=290
abbrev zog:Nat:=291
abbrev zop:Nat:=292
abbrev zoy:Nat:=293
abbrev zpi:Nat:=294
abbrev zpy:Nat:=295
abbrev zpq:Nat:=296
abbrev zps:Nat:=297
abbrev zpw:Nat:=298
abbrev zpx:Nat:=299
abbrev zpN:Nat:=300
abbrev zlD:Nat:=301
abbrev zoq:Nat:=302
abbrev zot:Nat:=303
abbrev zly:Nat:=304
abbrev zou:Nat:=305
abbrev zow:Nat:=306
abbrev zpH:Nat:=307
abbrev zpF:Nat:=308
abbrev zoJ:Nat:=309
abbrev zor:Nat:=310
abbrev zos:Nat:=311
abbrev zov:Nat:=312
end Go.Proofs.YtnmcgdpmikhohaaGreat

namespace Go.Sim
open Go (Program Func)
def val{x:Option zg}(c:zg)(_:x=some c):zg:=c
theorem iP(n:Nat):Int.ofNat n=(n:Int):=rfl
theorem iN(n:Nat):Int.negSucc n= -((n:Int)+1):=rfl
def bodies:zg->List zg
 | .seq a b=>bodies a++bodies b
 | .cond _ a b=>bodies a++bodies b
 | .block _ a=>bodies a
 | .loop _ a=>bodies a++[a]
 | _=>[]
def zes:zg->List zg->zg×List zg
 | .seq a b,ls=>(.seq (zes a ls).1 (zes b (zes a ls).2).1,(zes b (zes a ls).2).2)
 | .cond z a b,ls=>(.cond z (zes a ls).1 (zes b (zes a ls).2).1,(zes b (zes a ls).2).2)
 | .block i a,ls=>(.block i (zes a ls).1,(zes a ls).2)
 | .loop ks a,ls=>(match ls.drop (bodies a).length with|x::_=> .loop ks x|[]=> .loop ks a,ls.drop ((bodies a).length+1))
 | c,ls=>(c,ls)
def zhx(P:Program)(hs:zn)(F:List (Nat×List (List Nat))):Code->Option zg
 | .skip=>some .skip
 | .region id ops false=>(ops.toList.mapM (ze3 P hs ops)).map fun l=> .ops (zec hs.ghost id) l (zec hs.kill id)
 | .region id ops true=>(ops.toList.mapM (ze3 P hs ops)).map fun l=> .draw (zec hs.ghost id) l ((look id F).getD []) (zec hs.kill id)
 | .seq a b=>match zhx P hs F a,zhx P hs F b with|some x,some y=>some (.seq x y)|_,_=>none
 | .cond c t e=>match opd c,zhx P hs F t,zhx P hs F e with|some z,some x,some y=>some (.cond z x y)|_,_,_=>none
 | .block id b=>(zhx P hs F b).map (.block id)
 | .loop b=>(zhx P hs F b).map (.loop (zec hs.loop (ziJ b)))
 | .exit id=>some (.exit id (zec hs.exit id))
 | .ret=>some (.ret hs.ret)
 | _=>none
def zu(P:Program)(fn:Func)(hs:zn)(F:List (Nat×List (List Nat)))(ls:List zg):Option zg:=(fn.body.bind (zhx P hs F)).map fun c=>(zes c ls).1
def zZ(P:Program)(fn:Func)(hs:zn)(F:List (Nat×List (List Nat)))(j:Nat)(ls:List zg):Option zg:=(fn.body.bind (zhx P hs F)).bind fun c=>(bodies c)[j]?.map fun b=>(zes b ls).1
def vl{x:Option zg}{c:zg}(_:x=some c:=by conv=>lhs;reduce;try simp only[iP,iN,zadf,zabQ,zacy]):zg:=c
theorem zaaU{x:Option zg}{c:zg}(h:x=some c):vl h=c:=rfl
attribute [go_sem ↓] zaaU
def xp:List Nat->List Nat
 | []=>[]
 | n::l=>if n<1000 then n::xp l else List.range' (n / 1000) (n % 1000+1 - n / 1000)++xp l
def kx:List (Nat×List Nat)->List (Nat×List Nat)
 | []=>[]
 | (i,l)::r=>(i,xp l)::kx r
def xq:List Nat->List Nat
 | []=>[]
 | n::l=>if n<1000 then n::xq l else List.range' (n / 1000 - 1) (n % 1000+2 - n / 1000)++xq l
def qx:List (Nat×List (List Nat))->List (Nat×List (List Nat))
 | []=>[]
 | (i,l)::r=>(i,l.map xq)::qx r
theorem tk{α:Type}{a b:α}(h:a=b:=by kernel_rfl):a=b:=h
theorem zw{P:Program}{f i:Nat}{fn:Func}{c:zg}{rs:List zl}{nt:Nat}{sl:Bool}(hs:zn)(hf:P.funcs[i]? = some fn)(h0:f=i:=by kernel_rfl)(h1:zeJ P f=true:=by kernel_rfl)(h2:fn.body.bind (comp P hs)=some c:=by kernel_rfl)(h3:fn.body.map (zdT fn.ntmps)=some true:=by kernel_rfl)(h4:fn.results.toList.mapM (zhy P)=some rs:=by kernel_rfl)(h5:fn.ntmps=nt:=by kernel_rfl)(h6:nt<=1000000:=by decide):zp P f (.code c rs nt sl):=⟨h1,fn,hs,h0 ▸ hf,h2,h3,h4,h5,h6⟩
theorem fokN{P:Program}{f i:Nat}{fn:Func}{c:zg}{rs:List zl}{nt:Nat}(hs:zn)(hf:P.funcs[i]? = some fn)(h0:f=i:=by kernel_rfl)(h1:zeJ P f=true:=by kernel_rfl)(h2:fn.body.bind (comp P hs)=some c:=by kernel_rfl)(h3:fn.body.map (zdT fn.ntmps)=some true:=by kernel_rfl)(h4:fn.results.toList.mapM (zhy P)=some rs:=by kernel_rfl)(h5:fn.ntmps=nt:=by kernel_rfl)(h6:nt<=1000000:=by decide):zp P f (.nils c rs nt):=⟨h1,fn,hs,h0 ▸ hf,h2,h3,h4,h5,h6⟩
end Go.Sim

namespace Go.Proofs.YtnmcgdpmikhohaaGreat
open Go Go.Sim
def zIY:zn:={ kill:=kx [(0,[2]),(1,[3,4]),(2,[5007]),(3,[0,5,8010])],ret:=[2] }
def zDU:zg:=vl (x:=zu Tryz.prog Tryz.f12 zIY [] [])
def zNw:List zl:=[.t 2]
def zvx:AFn:= .code zDU zNw 11 false
def zI5:zn:={ kill:=kx [(1,[0,1,7015]),(2,[6,16]),(3,[17022]),(4,[5,17,23])],obj:=[(9,[true]),(12,[true,false,true]),(13,[false,false,true]),(20,[false,true])],ret:=[4] }
def zD0:zg:=vl (x:=zu Tryz.prog Tryz.f13 zI5 [] [])
def zNC:List zl:=[.c 4 true 23]
def zvH:AFn:= .code zD0 zNC 24 true
def zI4:zn:={ kill:=kx [(1,[4012]),(2,[13017]),(3,[18]),(4,[21]),(5,[0,19,20,22025]),(6,[20,27]),(7,[0,19,26,28031]),(8,[19,26,33]),(9,[0,32,34037]),(10,[0,3,32,38])],obj:=[(5,[true,false,false]),(7,[true,false,false]),(9,[true,false,false]),(11,[true,false,false]),(16,[true,false,false]),(19,[true,false]),(23,[true,false]),(29,[true,false]),(35,[true,false])],ret:=[2] }
def zjN:zg:=vl (x:=zu Tryz.prog Tryz.f56 zI4 [] [])
def zkW:List zl:=[.c 2 true 8]
def zvG:AFn:= .code zjN zkW 39 true
def zI2:zn:={ kill:=kx [(0,[6]),(1,[0,1,2,7014])],obj:=[(13,[true,false])],ret:=[6] }
def zDY:zg:=vl (x:=zu Tryz.prog Tryz.f19 zI2 [] [])
def zNA:List zl:=[.t 6]
def zvD:AFn:= .code zDY zNA 15 true
def zI0:zn:={ kill:=kx [(0,[4]),(1,[6]),(2,[0,1,7]),(3,[0,7011]),(4,[12]),(5,[1,13016]),(6,[1,5,13,17])],obj:=[(9,[true])],ret:=[4] }
def zDW:zg:=vl (x:=zu Tryz.prog Tryz.f18 zI0 [] [])
def zNy:List zl:=[.t 4]
def zvB:AFn:= .code zDW zNy 18 true
def zI3:zn:={ kill:=kx [(0,[2]),(1,[3011]),(2,[0,12]),(3,[12019]),(4,[0,20030])],ret:=[2] }
def z5B:List (Nat×List (List Nat)):=qx [(1,[[],[],[],[],[1003],[1003],[1003],[1003],[1003],[]]),(4,[[],[],[],[],[1003],[1003],[1003],[1003],[1003],[],[],[]])]
def zup:zg:=vl (x:=zu Tryz.prog Tryz.f67 zI3 z5B [])
def zBY:List zl:=[.t 2]
def zvE:AFn:= .code zup zBY 31 true
def zzL:zn:={ kill:=kx [(0,[4]),(3,[7012]),(4,[14,15]),(5,[13,16020]),(6,[0,1,5,6,13,21])],obj:=[(18,[true,true])],acc:=[5],exit:=[(0,[5])],ret:=[4] }
@[irreducible] def zmE:zg:=vl (x:=zZ Tryz.prog Tryz.f57 zzL [] 0 [])
def zDZ:zg:=vl (x:=zu Tryz.prog Tryz.f57 zzL [] [zmE])
def zNB:List zl:=[.t 4]
def zvF:AFn:= .code zDZ zNB 22 true
def zIZ:zn:={ kill:=kx [(0,[2]),(1,[0,3012])],ret:=[2] }
def z5A:List (Nat×List (List Nat)):=qx [(1,[[],[],[],[],[1003],[1003],[1003],[1003],[1003],[],[]])]
def zDV:zg:=vl (x:=zu Tryz.prog Tryz.f47 zIZ z5A [])
def zNx:List zl:=[.t 2]
def zvA:AFn:= .code zDV zNx 13 true
def zrZ:zn:={ kill:=kx [(1,[8,9]),(2,[11,12]),(3,[0,3,10,13018]),(4,[10,20,21]),(5,[0,3,19,22025]),(6,[19,26]),(7,[27,28]),(8,[3]),(9,[0,5,30035,115]),(10,[37]),(11,[38]),(12,[39]),(13,[5,29,36,40,41]),(14,[42,43]),(15,[44]),(16,[46,47]),(17,[45,48056]),(18,[36,58]),(19,[59]),(20,[0,5,29,57,60067]),(21,[57,69]),(22,[70]),(23,[5,29,68,71074]),(24,[75077]),(25,[78083]),(26,[78,84,85]),(27,[86]),(28,[88,89]),(29,[87,90104]),(30,[68,106]),(31,[0,5,29,105,107114]),(32,[29,105,116]),(33,[0,5,115,117123]),(34,[0,4,6,7,45,87,124,125])],ghost:=[(16,[4000054]),(28,[4000103])],obj:=[(9,[true,false]),(14,[true,false]),(17,[true,false]),(24,[true,false]),(28,[true,false]),(31,[true,false,false]),(33,[true,false]),(43,[true,false,false]),(52,[true]),(62,[true,false,false]),(65,[true,false]),(72,[true,false,false]),(81,[true,false]),(85,[true,false,false]),(93,[true,false]),(96,[true,false]),(98,[true,false]),(109,[true,false]),(112,[true,false,false]),(118,[true,false,false]),(121,[true,false]),(125,[false,true])],exit:=[(2,[2,4]),(4,[2,4])],ret:=[2] }
def zBM:List (Nat×List (List Nat)):=qx [(17,[[],[],[],[1002],[1002],[1002],[],[],[],[]]),(29,[[],[],[0,1],[0,1],[1003],[1004],[0,1],[1006],[0,1],[0,1],[0,1],[0,1],[0,1],[],[],[]])]
@[irreducible] def zmD:zg:=vl (x:=zZ Tryz.prog Tryz.f107 zrZ zBM 0 [])
@[irreducible] def zgZ:zg:=vl (x:=zZ Tryz.prog Tryz.f107 zrZ zBM 1 [])
def zd5:zg:=vl (x:=zu Tryz.prog Tryz.f107 zrZ zBM [zmD,zgZ])
def zeq:List zl:=[.c 2 true 12]
def zvz:AFn:= .code zd5 zeq 126 true
def zI1:zn:={ kill:=kx [(0,[4]),(1,[0,1,5011])],obj:=[(9,[true,false])],ret:=[4] }
def zDX:zg:=vl (x:=zu Tryz.prog Tryz.f20 zI1 [] [])
def zNz:List zl:=[.t 4]
def zvC:AFn:= .code zDX zNz 12 true
def zzK:zn:={ kill:=kx [(0,[2]),(1,[5007]),(3,[8010]),(4,[12,13]),(5,[11,14020]),(6,[0,3,4,11,21,22])],ghost:=[(6,[15])],obj:=[(6,[true,false]),(17,[true,false])],exit:=[(0,[3])],ret:=[2] }
@[irreducible] def zAA:zg:=vl (x:=zZ Tryz.prog Tryz.f90 zzK [] 0 [])
def zqK:zg:=vl (x:=zu Tryz.prog Tryz.f90 zzK [] [zAA])
def zs3:List zl:=[.t 2]
def zvy:AFn:= .code zqK zs3 23 true
def zI7:zn:={ kill:=kx [(0,[0]),(1,[4006]),(2,[3,7011]),(3,[12016]),(4,[1,12,17])],ret:=[2] }
def zD2:zg:=vl (x:=zu Tryz.prog Tryz.f157 zI7 [] [])
def zNE:List zl:=[.c 2 true 12]
def zvI:AFn:= .code zD2 zNE 18 true
def zAo:zn:={ kill:=kx [(0,[0,5]),(1,[2,11015]),(2,[16]),(3,[1,6,7,17019]),(4,[7,17,20,21]),(5,[1,6,22,23]),(6,[22]),(7,[24026]),(8,[28,29]),(9,[27,30038]),(10,[39]),(11,[1,6,8010,40042]),(12,[9,10,40,43]),(13,[1,6,8,27,44])],obj:=[(13,[false,true]),(36,[false,false,true])],exit:=[(0,[4,6])],ret:=[4,5] }
def zNm:List (Nat×List (List Nat)):=qx [(9,[[],[0],[0,1],[0],[0],[],[],[],[7],[1008],[8],[]])]
@[irreducible] def zA0:zg:=vl (x:=zZ Tryz.prog Tryz.f55 zAo zNm 0 [])
def zGo:zg:=vl (x:=zu Tryz.prog Tryz.f55 zAo zNm [zA0])
def zP4:List zl:=[.c 4 true 23,.t 5]
def zyZ:AFn:= .code zGo zP4 45 true
def zLx:zn:={ kill:=kx [(0,[0,3]),(1,[6010]),(2,[11]),(3,[1,4,5,12014]),(4,[1,4,5,12,15017])],obj:=[(8,[false,true])],ret:=[2,3] }
def zGk:zg:=vl (x:=zu Tryz.prog Tryz.f58 zLx [] [])
def zP0:List zl:=[.c 2 true 23,.t 3]
def zyT:AFn:= .code zGk zP0 18 true
def zAd:zn:={ kill:=kx [(0,[0,3]),(1,[10056]),(2,[1,57,58]),(3,[5,57,59066]),(4,[67074]),(6,[75077]),(7,[79,80]),(8,[9,78,81086]),(9,[87089]),(10,[90108]),(11,[8,90,109115]),(12,[116123]),(13,[1,4,7,78,124131]),(14,[6,132])],obj:=[(64,[false,false,true]),(84,[false,true]),(106,[false,false,false,true]),(127,[false,true])],exit:=[(0,[1,2,6])],ret:=[2,3] }
def zNf:List (Nat×List (List Nat)):=qx [(10,[[],[],[0,1],[0,1],[1003],[0,1],[0,1],[0,1],[1007],[1007],[1009],[1007],[1007],[1007],[],[],[],[16],[17]])]
@[irreducible] def zAU:zg:=vl (x:=zZ Tryz.prog Tryz.f88 zAd zNf 0 [])
def zuN:zg:=vl (x:=zu Tryz.prog Tryz.f88 zAd zNf [zAU])
def zCj:List zl:=[.c 2 true 11,.t 3]
def zxv:AFn:= .code zuN zCj 133 true
def zKq:zn:={ kill:=kx [(0,[6]),(1,[0,1,2,7014])],ret:=[6] }
def zuP:zg:=vl (x:=zu Tryz.prog Tryz.f87 zKq [] [])
def zCl:List zl:=[.t 6]
def zxD:AFn:= .code zuP zCl 15 true
def zr6:zn:={ kill:=kx [(0,[5]),(1,[9018]),(2,[0,1,19,20]),(3,[19,21]),(5,[22,23]),(6,[25,26]),(7,[24,27043]),(8,[1,7,24]),(9,[44,45]),(10,[47,48]),(11,[46,49053]),(12,[0,6,8,46,54])],ghost:=[(6,[4000042])],exit:=[(0,[0,4,6]),(2,[4,6])],ret:=[4,5] }
def zBS:List (Nat×List (List Nat)):=qx [(7,[[],[],[0,1],[0,1],[1003],[0,1],[1005],[1005],[1005],[1008],[1005],[1005],[1011],[0,1],[0,1],[],[],[]])]
@[irreducible] def zAN:zg:=vl (x:=zZ Tryz.prog Tryz.f78 zr6 zBS 0 [])
@[irreducible] def zAO:zg:=vl (x:=zZ Tryz.prog Tryz.f78 zr6 zBS 1 [])
def zuJ:zg:=vl (x:=zu Tryz.prog Tryz.f78 zr6 zBS [zAN,zAO])
def zCg:List zl:=[.c 4 true 3,.t 5]
def zxd:AFn:= .code zuJ zCg 55 true
def zJM:zn:={ kill:=kx [(0,[3]),(1,[0,6010]),(2,[11]),(3,[4,5,12014]),(4,[4,5,12,15,16])],ret:=[2,3] }
def zEH:zg:=vl (x:=zu Tryz.prog Tryz.f134 zJM [] [])
def zOl:List zl:=[.c 2 true 8,.t 3]
def zwI:AFn:= .code zEH zOl 17 true
def zJt:zn:={ kill:=kx [(0,[3]),(1,[4008]),(2,[0,9,10]),(3,[0,9,11013])],ret:=[2,3] }
def zut:zg:=vl (x:=zu Tryz.prog Tryz.f171 zJt [] [])
def zB1:List zl:=[.c 2 true 3,.t 3]
def zv8:AFn:= .code zut zB1 14 true
def zJQ:zn:={ kill:=kx [(0,[7]),(1,[0,10014]),(2,[15]),(3,[1,2,8,9,16018]),(4,[9,16,19021]),(5,[1,2,8,22,23]),(6,[1,2,8,22,24027])],ret:=[6,7] }
def zEM:zg:=vl (x:=zu Tryz.prog Tryz.f135 zJQ [] [])
def zOq:List zl:=[.c 6 true 8,.t 7]
def zwN:AFn:= .code zEM zOq 28 true
def zJY:zn:={ kill:=kx [(0,[4]),(1,[0,1,5015])],ret:=[4] }
def zuI:zg:=vl (x:=zu Tryz.prog Tryz.f172 zJY [] [])
def zCf:List zl:=[.t 4]
def zwZ:AFn:= .code zuI zCf 16 true
def zJ1:zn:={ kill:=kx [(0,[3]),(1,[4008]),(2,[0,9,10]),(3,[0,9,11,12])],ret:=[2,3] }
def zEZ:zg:=vl (x:=zu Tryz.prog Tryz.f136 zJ1 [] [])
def zOD:List zl:=[.c 2 true 2,.t 3]
def zw3:AFn:= .code zEZ zOD 13 true
def zsa:zn:={ kill:=kx [(0,[0,1,5]),(1,[18021]),(2,[22]),(3,[25]),(4,[23,24]),(5,[26,27]),(6,[29,30]),(7,[28,31033]),(8,[34]),(9,[2,3,6008,35,36]),(10,[8,35,37046]),(11,[47]),(12,[2,3,6,7,9,10,48050]),(13,[9,10,48,51]),(14,[24,53]),(15,[3,6,23,52,54059]),(16,[12,60]),(17,[2,11,61,62]),(18,[6,23,52,64]),(19,[63,65,66]),(20,[67069]),(21,[70,71]),(23,[72075]),(24,[77,78]),(25,[76,79091]),(26,[3,13,14,16,70,76,92098]),(27,[17,99]),(28,[2,15,100,101]),(29,[2,3,6,7,11,15,28,61,63,100,102])],ghost:=[(24,[4000090])],obj:=[(44,[false,false,true]),(57,[false,false,true]),(88,[false,false,true]),(95,[false,false,true])],exit:=[(1,[2,4]),(3,[2,4,13])],ret:=[4,5] }
def zBW:List (Nat×List (List Nat)):=qx [(10,[[],[0],[0],[0],[1003],[0],[],[],[],[8],[1009],[9],[]]),(25,[[],[],[0,1],[0,1],[1003],[0,1],[0,1],[1006],[1006],[0,1],[0,1],[],[],[]])]
@[irreducible] def zAZ:zg:=vl (x:=zZ Tryz.prog Tryz.f106 zsa zBW 0 [])
@[irreducible] def zg1:zg:=vl (x:=zZ Tryz.prog Tryz.f106 zsa zBW 1 [])
def zjP:zg:=vl (x:=zu Tryz.prog Tryz.f106 zsa zBW [zAZ,zg1])
def zkY:List zl:=[.c 4 true 23,.t 5]
def zyY:AFn:= .code zjP zkY 103 true
def zAm:zn:={ kill:=kx [(0,[0,2]),(3,[5008]),(4,[10,11,18]),(5,[9,12017]),(6,[18022]),(7,[1,3,4,9,23])],ghost:=[(7,[6])],acc:=[3],exit:=[(0,[3])],ret:=[2] }
@[irreducible] def zAY:zg:=vl (x:=zZ Tryz.prog Tryz.f94 zAm [] 0 [])
def zGl:zg:=vl (x:=zu Tryz.prog Tryz.f94 zAm [] [zAY])
def zP1:List zl:=[.t 2]
def zyU:AFn:= .code zGl zP1 24 false
def zLy:zn:={ kill:=kx [(0,[0,5]),(1,[7,8]),(2,[9015]),(3,[1,2,6,16,17]),(4,[1,2,6,16,18025])],obj:=[(23,[false,false,true])],ret:=[4,5] }
def z6v:List (Nat×List (List Nat)):=qx [(4,[[],[0],[0,1],[0],[0],[],[],[6],[],[]])]
def zGm:zg:=vl (x:=zu Tryz.prog Tryz.f155 zLy z6v [])
def zP2:List zl:=[.c 4 true 23,.t 5]
def zyV:AFn:= .code zGm zP2 26 true
def zAn:zn:={ kill:=kx [(0,[0,5]),(1,[12016]),(2,[17028]),(3,[29]),(4,[1,2,6010,30032]),(5,[10,30,33036]),(6,[7,37,38]),(7,[39042]),(8,[1,43047]),(9,[9,48053]),(10,[6,54056]),(11,[57060]),(12,[62,63]),(13,[61,64074]),(14,[2,8,11,61,75])],ghost:=[(8,[82])],obj:=[(24,[false,false,false,true])],exit:=[(0,[2,4])],ret:=[4,5] }
def zNl:List (Nat×List (List Nat)):=qx [(13,[[],[],[],[1002],[1002],[1004],[1002],[1002],[1002],[],[],[]])]
@[irreducible] def zmN:zg:=vl (x:=zZ Tryz.prog Tryz.f154 zAn zNl 0 [])
def zq3:zg:=vl (x:=zu Tryz.prog Tryz.f154 zAn zNl [zmN])
def ztm:List zl:=[.c 4 true 23,.t 5]
def zyX:AFn:= .code zq3 ztm 76 true
def zLv:zn:={ kill:=kx [(0,[0,1,8,9]),(1,[10]),(2,[2004,11016]),(3,[11,17,18]),(4,[21]),(5,[2004,19,20,22029]),(6,[20,31]),(7,[2004,19,30,32039]),(8,[30,41]),(9,[42]),(10,[43]),(11,[2004,19,40,44051]),(12,[40,53]),(13,[2004,19,52,54061]),(14,[52,63]),(15,[2004,19,62,64071]),(16,[62,73]),(17,[2004,19,72,74081]),(18,[72,83]),(19,[2004,19,82,84091]),(20,[82,93]),(21,[2004,19,92,94101]),(22,[92,103]),(23,[2004,19,102,104111]),(24,[102,113]),(25,[114]),(26,[2004,19,112,115122]),(27,[19,112,124]),(28,[2004,123,125132]),(29,[2004,123,133137])],obj:=[(12,[false,true]),(25,[false,false,false,true]),(35,[false,false,false,true]),(47,[false,false,false,true]),(57,[false,false,false,true]),(67,[false,false,false,true]),(77,[false,false,false,true]),(87,[false,false,false,true]),(97,[false,false,false,true]),(107,[false,false,false,true]),(118,[false,false,false,true]),(128,[false,false,false,true]),(133,[false,true])],ret:=[6,7,8,9] }
def zGg:zg:=vl (x:=zu Tryz.prog Tryz.f95 zLv [] [])
def zPW:List zl:=[.c 6 true 11,.c 7 true 63,.t 8,.t 9]
def zyR:AFn:= .code zGg zPW 138 true
def zKT:zn:={ kill:=kx [(0,[4,5]),(1,[0,6008])],ret:=[2,3,4,5] }
def zuY:zg:=vl (x:=zu Tryz.prog Tryz.f97 zKT [] [])
def zCu:List zl:=[.c 2 true 11,.c 3 true 63,.t 4,.t 5]
def zyb:AFn:= .code zuY zCu 9 true
def zK0:zn:={ kill:=kx [(0,[0,1,8,9]),(1,[21,22]),(2,[23]),(3,[2004,10,24030]),(4,[10,24,31]),(5,[34]),(6,[32,33,35040]),(7,[41,42]),(8,[43046]),(9,[47]),(10,[2004,11,48054]),(11,[2,43,55]),(12,[3,4,56,57]),(13,[33,59]),(14,[2,3,32,58,60070]),(15,[71]),(16,[4,12014,72078]),(17,[14,72,79]),(18,[13]),(19,[80084]),(20,[85092]),(21,[4,12,80,93,94]),(22,[32,58,96]),(23,[2004,95,97103]),(24,[3,95,104113]),(25,[114]),(26,[2,4,15018,115121]),(27,[16,18,115]),(28,[2,4,17,122127]),(29,[15,19,20,128130]),(30,[17,122,131]),(31,[2,4,15,132134]),(32,[132,135]),(33,[138]),(34,[2,4,15,136,137,139145]),(35,[136,137,147]),(36,[2,4,15,146,148152]),(37,[2,146,153]),(38,[4,15,154,155])],obj:=[(26,[false,true]),(46,[false,false,false,true]),(52,[false,false,false,true]),(67,[false,false,false,false,true]),(74,[false,true]),(103,[false,false,false,false,true]),(108,[false,false,false,true]),(117,[false,true]),(125,[false,true]),(145,[false,false,false,true]),(152,[false,false,false,true])],ret:=[6,7,8,9] }
def z57:List (Nat×List (List Nat)):=qx [(10,[[],[0],[0,1],[1002],[0],[1004],[1004],[5,6],[5,6],[],[]]),(12,[[],[0],[1],[],[],[]]),(21,[[],[0],[1],[],[],[]]),(23,[[],[0],[0,1],[1002],[1002],[1002],[0],[],[],[],[]]),(29,[[],[0],[0,1],[1,2],[2],[],[]]),(31,[[],[0],[1],[],[],[]]),(34,[[],[0],[0,1],[0,1],[0,1],[1004],[0],[],[],[],[]]),(36,[[],[0],[0,1],[1002],[0],[],[],[],[]]),(38,[[],[0],[1],[],[],[]])]
def zFO:zg:=vl (x:=zu Tryz.prog Tryz.f141 zK0 z57 [])
def zPu:List zl:=[.c 6 true 11,.c 7 true 63,.t 8,.t 9]
def zyi:AFn:= .code zFO zPu 156 true
def zKV:zn:={ kill:=kx [(0,[0,6]),(1,[7]),(2,[1003,8]),(3,[1003,8019]),(4,[20]),(5,[20])],ret:=[6] }
def zFK:zg:=vl (x:=zu Tryz.prog Tryz.f96 zKV [] [])
def zPp:List zl:=[.t 6]
def zyd:AFn:= .code zFK zPp 21 true
def zKe:zn:={ kill:=kx [(0,[0,4,5]),(1,[1]),(2,[8]),(3,[2,6,7,9,10]),(4,[7,12]),(5,[2,6,11,13,14]),(6,[6,11,16]),(7,[2,15,17,18]),(8,[2,15])],ret:=[4,5] }
def zFg:zg:=vl (x:=zu Tryz.prog Tryz.f39 zKe [] [])
def zOV:List zl:=[.t 4,.t 5]
def zxq:AFn:= .code zFg zOV 19 true
def zKS:zn:={ kill:=kx [(0,[0]),(1,[1003,7013])],ret:=[6] }
def zuX:zg:=vl (x:=zu Tryz.prog Tryz.f98 zKS [] [])
def zCt:List zl:=[.c 6 true 10]
def zya:AFn:= .code zuX zCt 14 true
def zKO:zn:={ kill:=kx [(0,[0,1]),(1,[8023]),(2,[4,24030]),(3,[3,31035]),(4,[2,36039]),(5,[2,7,36,40])],ret:=[6] }
def z55:List (Nat×List (List Nat)):=qx [(2,[[],[],[],[1002],[1002],[],[],[]]),(3,[[],[],[0,1],[0,1],[0,1],[]])]
def zqV:zg:=vl (x:=zu Tryz.prog Tryz.f99 zKO z55 [])
def zte:List zl:=[.c 6 true 63]
def zx5:AFn:= .code zqV zte 41 true
def zKN:zn:={ kill:=kx [(0,[0,2]),(1,[3]),(2,[6]),(3,[1,4,5,7009]),(4,[5,11]),(5,[12]),(6,[4,13]),(7,[1,4,10,14016]),(8,[1,4,10])],ret:=[2] }
def zFG:zg:=vl (x:=zu Tryz.prog Tryz.f150 zKN [] [])
def zPl:List zl:=[.t 2]
def zx4:AFn:= .code zFG zPl 17 true
def zKc:zn:={ kill:=kx [(0,[0,9,10]),(1,[13017]),(2,[1004,18,19]),(3,[18,20034]),(4,[1004,35,36]),(5,[12,35,37042]),(6,[2,11,43,44]),(7,[1,3,4,45,46]),(8,[1,45,47]),(9,[3,48050]),(10,[3,48,51,52]),(11,[4,53])],ret:=[8,9,10] }
def zFf:zg:=vl (x:=zu Tryz.prog Tryz.f41 zKc [] [])
def zOU:List zl:=[.c 8 true 11,.t 9,.t 10]
def zxo:AFn:= .code zFf zOU 54 true
def zJg:zn:={ kill:=kx [(0,[2]),(1,[6010]),(2,[0,11]),(3,[0,4,11016]),(4,[3,17,18]),(5,[5,19023])],ret:=[2] }
def zEa:zg:=vl (x:=zu Tryz.prog Tryz.f176 zJg [] [])
def zNN:List zl:=[.t 2]
def zvT:AFn:= .code zEa zNN 24 true
def zzO:zn:={ kill:=kx [(0,[6,7]),(1,[10026]),(2,[0,1,2,27]),(3,[0,27029]),(4,[2,30,31]),(5,[32]),(6,[34,35]),(7,[33,36044]),(8,[1,8,9,33,45])],exit:=[(0,[8])],ret:=[6,7] }
@[irreducible] def zmG:zg:=vl (x:=zZ Tryz.prog Tryz.f173 zzO [] 0 [])
def zl0:zg:=vl (x:=zu Tryz.prog Tryz.f173 zzO [] [zmG])
def znd:List zl:=[.t 6,.t 7]
def zvP:AFn:= .code zl0 znd 46 false
def zzP:zn:={ kill:=kx [(0,[2]),(3,[5007]),(4,[9,10]),(5,[8,11019]),(6,[0,3,4,8,20])],exit:=[(0,[3])],ret:=[2] }
@[irreducible] def zAB:zg:=vl (x:=zZ Tryz.prog Tryz.f200 zzP [] 0 [])
def zEb:zg:=vl (x:=zu Tryz.prog Tryz.f200 zzP [] [zAB])
def zNO:List zl:=[.t 2]
def zvU:AFn:= .code zEb zNO 21 true
def zKL:zn:={ kill:=kx [(0,[3]),(1,[4008]),(2,[0,9,10]),(3,[0,9,11,12])],ret:=[2,3] }
def zuV:zg:=vl (x:=zu Tryz.prog Tryz.f175 zKL [] [])
def zCr:List zl:=[.c 2 true 2,.t 3]
def zx2:AFn:= .code zuV zCr 13 true
def zKW:zn:={ kill:=kx [(0,[0,1]),(1,[4,9011]),(2,[2,12016]),(3,[3,5,17022])],obj:=[(10,[false,true]),(22,[false,false,false,true])],ret:=[8] }
def zFL:zg:=vl (x:=zu Tryz.prog Tryz.f177 zKW [] [])
def zPq:List zl:=[.c 8 true 63]
def zye:AFn:= .code zFL zPq 23 true
def zKg:zn:={ kill:=kx [(0,[0]),(1,[1,3,4])],ret:=[2] }
def zFi:zg:=vl (x:=zu Tryz.prog Tryz.f180 zKg [] [])
def zOX:List zl:=[.c 2 true 3]
def zxs:AFn:= .code zFi zOX 5 true
def zz9:zn:={ kill:=kx [(0,[0,4]),(2,[6014]),(3,[16,17,35]),(4,[15,18034]),(5,[1,2,5,35041]),(6,[1,2,5,15])],ret:=[4] }
@[irreducible] def ziU:zg:=vl (x:=zZ Tryz.prog Tryz.f201 zz9 [] 0 [])
def zqP:zg:=vl (x:=zu Tryz.prog Tryz.f201 zz9 [] [ziU])
def zs8:List zl:=[.t 4]
def zxe:AFn:= .code zqP zs8 42 true
def zhQ:zn:={ kill:=kx [(0,[0,2]),(1,[13015]),(2,[16030]),(3,[1,3,31]),(4,[31]),(6,[32035]),(7,[37,38]),(8,[36,39043]),(9,[4,44058]),(10,[1,3,5,6,59]),(11,[6,59062]),(12,[4,5,36,63]),(13,[1,3,64]),(14,[64]),(15,[65068]),(16,[70,71,88]),(17,[69,72087]),(18,[1,3,7,88]),(19,[7,69]),(20,[89092]),(21,[94,95,105]),(22,[93,96104]),(23,[1,3,8,105]),(24,[8,93]),(25,[106,107]),(26,[109,110,139]),(27,[108,111138]),(28,[1,3,9,139]),(29,[9,108]),(30,[140,141]),(31,[143,144,161]),(32,[142,145]),(34,[146151]),(35,[153,154]),(36,[152,155159]),(37,[11,12,152,160]),(38,[1,3,10,161]),(39,[1,3,10,142])],exit:=[(0,[1,3,4]),(2,[1,3]),(4,[1,3]),(6,[1,3]),(10,[1,3,10,11])],ret:=[2] }
def zja:List (Nat×List (List Nat)):=qx [(22,[[],[0],[0],[1002],[0],[0],[0],[],[1007],[]])]
@[irreducible] def zAP:zg:=vl (x:=zZ Tryz.prog Tryz.f82 zhQ zja 0 [])
@[irreducible] def zsD:zg:=vl (x:=zZ Tryz.prog Tryz.f82 zhQ zja 1 [])
@[irreducible] def zAQ:zg:=vl (x:=zZ Tryz.prog Tryz.f82 zhQ zja 2 [])
@[irreducible] def zAR:zg:=vl (x:=zZ Tryz.prog Tryz.f82 zhQ zja 3 [])
@[irreducible] def zsE:zg:=vl (x:=zZ Tryz.prog Tryz.f82 zhQ zja 4 [])
@[irreducible] def zsF:zg:=vl (x:=zZ Tryz.prog Tryz.f82 zhQ zja 5 [zsE])
def zE9:zg:=vl (x:=zu Tryz.prog Tryz.f82 zhQ zja [zAP,zsD,zAQ,zAR,zsE,zsF])
def zON:List zl:=[.t 2]
def zxg:AFn:= .code zE9 zON 162 true
def zAa:zn:={ kill:=kx [(0,[0,4]),(2,[6009]),(3,[11,12,20]),(4,[10,13019]),(5,[1,2,5,20,21]),(6,[1,2,5,10])],ret:=[4] }
@[irreducible] def zAS:zg:=vl (x:=zZ Tryz.prog Tryz.f125 zAa [] 0 [])
def zFa:zg:=vl (x:=zu Tryz.prog Tryz.f125 zAa [] [zAS])
def zOO:List zl:=[.t 4]
def zxh:AFn:= .code zFa zOO 22 true
def zKY:zn:={ kill:=kx [(0,[0]),(1,[1,7015]),(2,[2,16,17]),(3,[3,18])],obj:=[(12,[false,false,true])],ret:=[6] }
def zFM:zg:=vl (x:=zu Tryz.prog Tryz.f183 zKY [] [])
def zPs:List zl:=[.c 6 true 63]
def zyg:AFn:= .code zFM zPs 19 true
def zKy:zn:={ kill:=kx [(0,[5]),(1,[0,8012]),(2,[13]),(3,[1,6,7,14016]),(4,[7,14,17021]),(5,[1,6,22,23]),(6,[1,6,22,24026])],obj:=[(10,[false,true])],ret:=[4,5] }
def zqU:zg:=vl (x:=zu Tryz.prog Tryz.f212 zKy [] [])
def ztd:List zl:=[.c 4 true 26,.t 5]
def zxN:AFn:= .code zqU ztd 27 true
end Go.Proofs.YtnmcgdpmikhohaaGreat
