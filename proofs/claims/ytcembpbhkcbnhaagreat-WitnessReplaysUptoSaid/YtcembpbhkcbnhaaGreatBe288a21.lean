/-
  Functions of the program, as the calculus has them.
-/
import Derived.Test.YtcembpbhkcbnhaaGreatBed10eb2
import Derived.KernelRfl
import Derived.Test.YtcembpbhkcbnhaaGreatProg
set_option linter.unusedSimpArgs false
set_option linter.unusedVariables false
set_option maxHeartbeats 10000000
set_option maxRecDepth 100000
namespace Go.Sim
variable {F:zaU} {E:Env} {H:zd} {dst:Nat}
def znI(full:List Nat):List Nat->Bool
 | []=>true
 | x::l=>full.contains x&&znI full l
theorem zCV{full:List Nat}:∀ {l:List Nat},l.all full.contains=znI full l
 | []=>rfl
 | x::l=>by rw[zacn,zCV];rfl
def zBu(full:List Nat):Option Obj->Bool
 | some (.row es)=>znI full (AV.objsL es)
 | _=>false
def okN(H:zd)(full:List Nat):List Nat->Bool
 | []=>true
 | o::l=>zBu full (look o H)&&okN H full l
theorem z0o{ns:List Nat}:zkM H ns=okN H ns ns:=by
 have:∀full l:List Nat,(l.all fun o=>match look o H with|some (.row es)=>(AV.objsL es).all full.contains|_=>false)=okN H full l:=by
  intro full l
  induction l with
  | nil=>rfl
  | cons o l ih=>
   rw[zacn,ih];simp only[okN]
   congr 1
   unfold zBu
   split<;>simp_all [zCV]
 exact this ns ns
def osN(H:zd)(full:List Nat):List Nat->zd
 | []=>[]
 | o::l=>(zaR full o,((look o H).getD (.acc 0)).ren (zaR full))::osN H full l
theorem z4I{ns:List Nat}:zbY H ns=osN H ns ns:=by
 have:∀full l:List Nat,(l.map fun o=>(zaR full o,((look o H).getD (.acc 0)).ren (zaR full)))=osN H full l:=by
  intro full l
  induction l with
  | nil=>rfl
  | cons o l ih=>rw[zabs,ih];rfl
 exact this ns ns
theorem zWn{ns:List Nat}:zme E H dst ns []=true:=rfl
theorem zWm{ns:List Nat}{n:Nat}{ob:Obj}{l:zd}:zme E H dst ns ((n,ob)::l)=((decide (1000000<=n)||(!zaX (dst+10000 * n) E&& !zaq (dst+10000 * n) H&& !ns.contains (dst+10000 * n)))&&zme E H dst ns l):=rfl
def zru:zd->Bool
 | []=>true
 | (_,ob)::l=>ob.flat&&zru l
theorem zWg{v:AV}{δ:zd}:zj9 (v,δ)=(v.flat&&zru δ):=by
 unfold zj9
 congr 1
 show (δ.all fun q=>q.2.flat)=zru δ
 induction δ with
 | nil=>rfl
 | cons p l ih=>rw[zacn,ih];rfl
theorem zTX{b:List Nat}:zhC [] b=true:=rfl
theorem zTW{a:Nat}{l b:List Nat}:zhC (a::l) b=(!b.contains a&&zhC l b):=rfl
theorem z7s{ρ:Nat->Nat}:zc4 ρ []=[]:=rfl
theorem z7r{ρ:Nat->Nat}{n:Nat}{ob:Obj}{l:zd}:zc4 ρ ((n,ob)::l)=(ρ n,ob.ren ρ)::zc4 ρ l:=rfl
theorem zWq:zbn H []=[]:=rfl
theorem zWp{o:Nat}{l:List Nat}:zbn H (o::l)=(o,.frz (mark H o))::zbn H l:=rfl
theorem zWt:zgj H []=true:=rfl
theorem zWs{o:Nat}{l:List Nat}:zgj H (o::l)=((look o H).isSome&&zgj H l):=rfl
theorem z0m:zkI []=[]:=rfl
theorem z0l{o:Nat}{l:List Nat}:zkI (o::l)=(2 * o+1)::zkI l:=rfl
theorem zVc:zj3 []=[]:=rfl
theorem zVb{o:Nat}{l:List Nat}:zj3 (o::l)=(2 * o)::zj3 l:=rfl
theorem zTZ{b:List Nat}:ziE [] b=true:=rfl
theorem zTY{a:Nat}{l b:List Nat}:ziE (a::l) b=(!b.contains a&&ziE l b):=rfl
def zGG(p:List Nat×List Nat):Option (List Nat×List Nat)->Bool
 | some q=>ziR q p
 | none=>false
theorem zSX{acc:List (List Nat×List Nat)}{p:List Nat×List Nat}:zgK [] acc p=true:=rfl
theorem zSW{k:Nat}{fr:List Nat}{acc:List (List Nat×List Nat)}{p:List Nat×List Nat}:zgK (k::fr) acc p=(zGG p (acc[k]?)&&zgK fr acc p):=rfl
def zrx(E:Env)(H:zd):List Nat->Bool
 | []=>true
 | n::l=>(!zaX n E&& !zaq n H)&&zrx E H l
theorem zWl{S:St}:zmd [] S=true:=rfl
theorem zWk{x:zK}{l:List zK}:zmd (x::l) ⟨E,H⟩=(zrx E H x.newNames&&zmd l ⟨E,H⟩):=by
 have:∀ns:List Nat,(ns.all fun n=> !zaX n E&& !zaq n H)=zrx E H ns:=by
  intro ns
  induction ns with
  | nil=>rfl
  | cons n l ih=>rw[zacn,ih];rfl
 rw[<- this];rfl
theorem z7T{o m:Nat}:znt o m []=[]:=rfl
theorem z7S{o m t:Nat}{x:AV}{l:Env}:znt o m ((t,x)::l)=(t,zgv o m x)::znt o m l:=rfl
theorem zRA{o:Nat}{ds:List D}:zqC o ds []=[]:=rfl
theorem zRz{o t:Nat}{ds:List D}{x:AV}{l:Env}:zqC o ds ((t,x)::l)=(t,zjG o ds x)::zqC o ds l:=rfl
def zrj:Nat->List AV->Env
 | _,[]=>[]
 | n,x::l=>(n,x)::zrj (n+1) l
theorem zU3{args:List AV}:enter args=zrj 0 args:=by
 have:∀(l:List AV) (n:Nat),((l.zipIdx n).map fun p=>(p.2,p.1))=zrj n l:=by
  intro l
  induction l with
  | nil=>intro n;rfl
  | cons x l ih=>intro n;rw[List.zipIdx_cons,zabs,ih];rfl
 exact this args 0
theorem zXB:zf1 []=[]:=rfl
theorem zXA{n:Nat}{ob:Obj}{l:zd}:zf1 ((n,ob)::l)=(n,.ref n 1 0)::zf1 l:=rfl
def zBv(full:List Nat)(k o:Nat):Option Obj->Bool
 | some (.row es)=>znI full (AV.objsL es)&&(decide (o<1000000)||decide (o<1000000+k))
 | some (.acc _)=>decide (o<1000000)
 | some (.frz m)=>m.isNone&&decide (1000000<=o)&&(decide (o<1000000)||decide (o<1000000+k))
 | _=>false
def okO(H:zd)(full:List Nat)(k:Nat):List Nat->Bool
 | []=>true
 | o::l=>zBv full k o (look o H)&&okO H full k l
theorem z0p{os:zd}{ns:List Nat}:zi3 H os ns=(okO H ns os.length ns&&decide ((frs ns).length<=4)):=by
 have:∀full l:List Nat,(l.all fun o=>(match look o H with|some (.row es)=>(AV.objsL es).all full.contains|some (.acc _)=>decide (o<1000000)|some (.frz m)=>m.isNone&&decide (1000000<=o)|_=>false)&&(decide (o<1000000)||decide (o<1000000+os.length)))=okO H full os.length l:=by
  intro full l
  induction l with
  | nil=>rfl
  | cons o l ih=>
   rw[zacn,ih];simp only[okO]
   congr 1
   unfold zBv
   split<;>simp_all [zCV]
 unfold zi3;exact congrArg (· && decide ((frs ns).length<=4)) (this ns ns)
def zMF(o:Nat):Option AV->Bool
 | some (.ref p 1 0)=>p==o
 | _=>false
def okG(E:Env):zd->Bool
 | []=>true
 | (o,_)::l=>zMF o (look o E)&&okG E l
theorem z0n{os:zd}:zkL E os=okG E os:=by
 unfold zkL
 induction os with
 | nil=>rfl
 | cons p l ih=>
  rw[zacn,ih];simp only[okG]
  congr 1
def zsU(H:zd)(full:List Nat):List Nat->zd
 | []=>[]
 | o::l=>(za2 full o,((look o H).getD (.acc 0)).ren (za2 full))::zsU H full l
theorem z4J{ns:List Nat}:zcA H ns=zsU H ns ns:=by
 have:∀full l:List Nat,(l.map fun o=>(za2 full o,((look o H).getD (.acc 0)).ren (za2 full)))=zsU H full l:=by
  intro full l
  induction l with
  | nil=>rfl
  | cons o l ih=>rw[zabs,ih];rfl
 exact this ns ns
def evs(E:Env):List Opd->List AV
 | []=>[]
 | x::xs=>x.ev E::evs E xs
theorem zBh{xs:List Opd}:xs.map (·.ev E)=evs E xs:=by
 induction xs with
 | nil=>rfl
 | cons x xs ih=>rw[zabs,ih];rfl
def evO(E:Env):Option Opd->Option AV
 | none=>none
 | some x=>some (x.ev E)
theorem zBf{x:Option Opd}:x.map (·.ev E)=evO E x:=by cases x<;>rfl
def evB(E:Env):List (Nat×Nat×Opd)->List (Nat×Nat×AV)
 | []=>[]
 | (a,b,x)::l=>(a,b,x.ev E)::evB E l
theorem zZq{l:List (Nat×Nat×Opd)}:(l.map fun p=>(p.1,p.2.1,p.2.2.ev E))=evB E l:=by
 induction l with
 | nil=>rfl
 | cons p l ih=>rw[zabs,ih];rfl
def evF(E:Env):List (Nat×Opd)->List (Nat×AV)
 | []=>[]
 | (a,x)::l=>(a,x.ev E)::evF E l
theorem zZr{l:List (Nat×Opd)}:(l.map fun p=>(p.1,p.2.ev E))=evF E l:=by
 induction l with
 | nil=>rfl
 | cons p l ih=>rw[zabs,ih];rfl
def szF(n:Nat):List (Nat×AV)->Bool
 | []=>true
 | (_,x)::l=>(x.size==n)&&szF n l
theorem zR0{n:Nat}{l:List (Nat×Opd)}:(l.all fun p=>(p.2.ev E).size==n)=szF n (evF E l):=by
 induction l with
 | nil=>rfl
 | cons p l ih=>rw[zacn,ih];rfl
theorem z8d{f:FuncId}{ms:List Bool}{xs:List Opd}:step F E H dst (.call f ms xs)=zgJ H (zbr F E H dst ms f (evs E xs)):=by rw[<- zBh];rfl
theorem zam5{f:Opd}{ms:List Bool}{xs:List Opd}:step F E H dst (.callv f ms xs)=zgJ H (zht F E H dst ms (f.ev E) (evs E xs)):=by rw[<- zBh];rfl
theorem zVx{f:FuncId}{ms:List Bool}{xs:List Opd}:AOp.feet E H dst (.call f ms xs)=zjR H dst ms (evs E xs):=by rw[<- zBh];rfl
theorem zaj0{f:Opd}{ms:List Bool}{xs:List Opd}:AOp.feet E H dst (.callv f ms xs)=zq6 H dst ms (f.ev E) (evs E xs):=by rw[<- zBh];rfl
def zhe(H:zd):Option AV->Option (AV×zd)
 | none=>none
 | some v=>some (v,H)
theorem zjh{x:Option AV}:x.map (fun v=>(v,H))=zhe H x:=by cases x<;>rfl
def znp(H:zd):Option D->Option (AV×zd)
 | none=>none
 | some v=>some (.d v,H)
theorem zCH{x:Option D}:x.map (fun v=>(AV.d v,H))=znp H x:=by cases x<;>rfl
def zCG(H:zd)(ng:Bool):Option Bool->Option (AV×zd)
 | none=>none
 | some b=>some (.d (.bool (if ng then !b else b)),H)
def dO:Option D->Option AV
 | none=>none
 | some v=>some (.d v)
theorem zGL{x:Option D}:x.map AV.d=dO x:=by cases x<;>rfl
def pdO:Option D->Option AV
 | none=>none
 | some v=>some (.d (.pd v))
def peO(o:Nat):Option D->Option AV
 | none=>none
 | some v=>some (.pe o v)
def ldR(ag:Bool)(n:Nat):Option AV->Option AV
 | some e=>zep ag off n e
 | none=>none
 where off:Nat:=0
def ldE(ag:Bool)(n off:Nat):Option AV->Option AV
 | some e=>zep ag off n e
 | none=>none
def ldO(ag:Bool)(n i off:Nat):Option Obj->Option AV
 | some (.row es)=>ldE ag n off es[i]?
 | _=>none
def ldV(H:zd)(ag:Bool)(n:Nat):AV->Option AV
 | .d (.pd x)=>dO (zcc ag 0 n x)
 | .pe _ x=>dO (zcc ag 0 n x)
 | .ref o i off=>ldO ag n i off (look o H)
 | _=>none
theorem zL3{ag:Bool}{n:Nat}{v:AV}:ldA H ag n v=ldV H ag n v:=by
 unfold ldA
 split
 ·exact zGL
 ·exact zGL
 ·rename_i o i off;simp only[ldV];generalize look o H=q
  rcases q with _|(es|m|m|m)
  ·rfl
  ·show es[i]?.bind _=ldE ag n off es[i]?
   cases es[i]? <;> rfl
  ·rfl
  ·rfl
  ·rfl
 ·unfold ldV;split<;>simp_all
theorem z8k{ag:Bool}{n:Nat}{p:Opd}:step F E H dst (.ld ag n p)=zhe H (ldV H ag n (p.ev E)):=by
 show (ldA H ag n (p.ev E)).map (fun v=>(v,H))=_;rw[zjh,zL3]
def zj4(ag:Bool)(off n:Nat):AV->Option AV
 | .ref o i f=>some (.ref o i (f+off))
 | .d (.pd y)=>pdO (zcc ag off n y)
 | .pe o y=>peO o (zcc ag off n y)
 | _=>none
theorem zVN{ag:Bool}{off n:Nat}{v:AV}:zd6 ag off n v=zj4 ag off n v:=by
 unfold zd6
 split
 ·rfl
 ·rename_i y;simp only[zj4];cases zcc ag off n y<;>rfl
 ·rename_i o y;simp only[zj4];cases zcc ag off n y<;>rfl
 ·unfold zj4;split<;>simp_all
theorem z8h{ag:Bool}{off n:Nat}{x:Opd}:step F E H dst (.fad ag off n x)=zhe H (zj4 ag off n (x.ev E)):=by
 show (zd6 ag off n (x.ev E)).map (fun v=>(v,H))=_;rw[zjh,zVN]
def szR(n o i:Nat):Option AV->Option AV
 | some e=>if e.size=n then some (.ref o i 0) else none
 | none=>none
def szP(n o:Nat):Option D->Option AV
 | some e=>if e.size=n then some (.pe o e) else none
 | none=>none
def szD(n:Nat):Option D->Option AV
 | some e=>if e.size=n then some (.d (.pd e)) else none
 | none=>none
def zLH(n o i:Nat):Option Obj->Option AV
 | some (.row es)=>szR n o i es[i]?
 | _=>none
def zhR(H:zd)(n:Nat)(i:Int):AV->Option AV
 | .osl o off len=>if i<len then zLH n o (off+i.toNat) (look o H) else none
 | .acc o es=>szP n o es[i.toNat]?
 | .d (.sl es)=>szD n es[i.toNat]?
 | .xsl es=>szD n es[i.toNat]?
 | _=>none
theorem zXO{n:Nat}{i:Int}{v:AV}:zcH H n i v=zhR H n i v:=by
 unfold zcH
 split
 ·rename_i o off len;simp only[zhR]
  split
  ·generalize look o H=q
   rcases q with _|(es|m|m|m)
   ·rfl
   ·show es[off+i.toNat]?.bind _=szR n o (off+i.toNat) es[off+i.toNat]?
    cases es[off+i.toNat]? <;> rfl
   ·rfl
   ·rfl
   ·rfl
  ·rfl
 ·rename_i o es;simp only[zhR];unfold szP;cases es[i.toNat]? <;> rfl
 ·rename_i es;simp only[zhR];unfold szD;cases es[i.toNat]? <;> rfl
 ·rename_i es;simp only[zhR];unfold szD;cases es[i.toNat]? <;> rfl
 ·unfold zhR;split<;>simp_all
def zAt(H:zd)(n:Nat)(v:AV):Option Int->Option (AV×zd)
 | some k=>if 0<=k then zhe H (zhR H n k v) else none
 | none=>none
theorem z8j{n:Nat}{x i:Opd}:step F E H dst (.iad n x i)=zAt H n (x.ev E) (zbQ (i.ev E)):=by
 show (zbQ (i.ev E)).bind _=_;unfold zAt
 cases zbQ (i.ev E) with
 | none=>rfl
 | some k=>simp only[zabY,zXO,zjh]
def stF(H:zd)(o i:Nat)(es:List AV):Option AV->Option (AV×zd)
 | some e=>some (.undef,zP o (.row (es.set i e)) H)
 | none=>none
def stE(H:zd)(o i off:Nat)(es:List AV)(v:AV):Option AV->Option (AV×zd)
 | some e=>stF H o i es (zcM e off v)
 | none=>none
def stO(H:zd)(o i off:Nat)(v:AV):Option Obj->Option (AV×zd)
 | some (.row es)=>stE H o i off es v es[i]?
 | _=>none
def stV(H:zd)(n:Nat)(v:AV):AV->Option (AV×zd)
 | .ref o i off=>if v.size=n/\zbR v=false then stO H o i off v (look o H) else none
 | _=>none
def zgd:Option AV->Option Int
 | some (.d (.int .i64 n))=>some n
 | _=>none
def zqG(off:Nat):Option AV->Option Int
 | some e=>zgd e.cells[off]?
 | none=>none
def zDG(i off:Nat):Option Obj->Option Int
 | some (.row es)=>zqG off es[i]?
 | _=>none
def zeH(H:zd):AV->Option Int
 | .ref o i off=>zDG i off (look o H)
 | _=>none
def ziw(v:D):Option (AV×zd)->Option (AV×zd)
 | some p=>some (.d v,p.2)
 | none=>none
def zqI(H:zd)(p:AV)(n:Int):Option Int->Option (AV×zd)
 | some _=>ziw (.tup []) (stV H 1 (.d (.int .i64 n)) p)
 | none=>none
def zuf(H:zd)(p:AV):AV->Option (AV×zd)
 | .d (.int .i64 n)=>zqI H p n (zeH H p)
 | _=>none
def lkpR(ok:Bool)(z:D)(q:Option D):D:=if ok then .tup [q.getD z,.bool q.isSome] else q.getD z
def lkpO(ok:Bool)(z:D)(n:Int):Option Obj->Option AV
 | some (.mp es)=>some (.d (lkpR ok z (zg8 n es)))
 | _=>none
def lkpI(ok:Bool)(z:D)(r:Option Obj):AV->Option AV
 | .d (.int .i64 n)=>lkpO ok z n r
 | _=>none
def lkpV(H:zd)(ok:Bool)(z:D)(k:AV):AV->Option AV
 | .mpr o=>lkpI ok z (look o H) k
 | _=>none
theorem zam6{ok:Bool}{z:D}{x k:Opd}:step F E H dst (.lkp ok z x k)=zhe H (lkpV H ok z (k.ev E) (x.ev E)):=by
 have e:zky H ok z (x.ev E) (k.ev E)=lkpV H ok z (k.ev E) (x.ev E):=by
  generalize x.ev E=xv;generalize k.ev E=kv;unfold zky
  split
  ·rename_i o n;simp only[lkpV,lkpI];generalize look o H=q
   rcases q with _|(es|m|m|m)<;>rfl
  ·rename_i hno;unfold lkpV
   split
   ·rename_i o;unfold lkpI
    split
    ·exact absurd rfl (hno _ _ rfl)
    ·rfl
   ·rfl
 show (zky H ok z (x.ev E) (k.ev E)).map _=_;rw[e,zjh]
def mupO(H:zd)(o:Nat)(n:Int)(y:D):Option Obj->Option (AV×zd)
 | some (.mp es)=>some (.undef,zP o (.mp (zh0 n y es)) H)
 | _=>none
def mupY(H:zd)(o:Nat)(n:Int):AV->Option (AV×zd)
 | .d y=>mupO H o n y (look o H)
 | _=>none
def mupI(H:zd)(o:Nat)(y:AV):AV->Option (AV×zd)
 | .d (.int .i64 n)=>mupY H o n y
 | _=>none
def mupV(H:zd)(k y:AV):AV->Option (AV×zd)
 | .mpr o=>mupI H o y k
 | _=>none
theorem zam9{x k v:Opd}:step F E H dst (.mup x k v)=mupV H (k.ev E) (v.ev E) (x.ev E):=by
 show zmT H (x.ev E) (k.ev E) (v.ev E)=_;generalize x.ev E=xv;generalize k.ev E=kv;generalize v.ev E=yv;unfold zmT
 split
 ·rename_i o n y;simp only[mupV,mupI,mupY];generalize look o H=q
  rcases q with _|(es|m|m|m)<;>rfl
 ·rename_i hno;unfold mupV
  split
  ·unfold mupI
   split
   ·unfold mupY
    split
    ·exact absurd rfl (hno _ _ _ rfl rfl)
    ·rfl
   ·rfl
  ·rfl
theorem z8u{n:Nat}{p x:Opd}:step F E H dst (.st n p x)=stV H n (x.ev E) (p.ev E):=by
 show zr E H dst (.st n p x)=_;simp only[zr];generalize p.ev E=pv
 split
 ·rename_i o i off;simp only[stV]
  split
  ·generalize look o H=q
   rcases q with _|(es|m|m|m)
   ·rfl
   ·show es[i]?.bind _=stE H o i off es (x.ev E) es[i]?
    cases es[i]? with
    | none=>rfl
    | some e=>
     show Option.map _ (zcM e off (x.ev E))=stF H o i es (zcM e off (x.ev E))
     cases zcM e off (x.ev E)<;>rfl
   ·rfl
   ·rfl
   ·rfl
  ·rfl
 ·unfold stV;split<;>simp_all
def zvt(H:zd)(ag:Bool)(off n:Nat):AV->Option (AV×zd)
 | .d (.agg cs)=>znp H (zcc ag off n (.agg cs))
 | .agg cs=>zhe H (zep ag off n (.agg cs))
 | _=>none
theorem z8i{ag:Bool}{off n:Nat}{x:Opd}:step F E H dst (.fld ag off n x)=zvt H ag off n (x.ev E):=by
 show zr E H dst (.fld ag off n x)=_;simp only[zr];generalize x.ev E=v
 split
 ·exact zCH
 ·exact zjh
 ·unfold zvt;split<;>simp_all
def zui(H:zd)(op:BinOp):AV->AV->Option (AV×zd)
 | .d a,.d b=>znp H (zgI op a b)
 | _,_=>none
theorem z79{op:BinOp}{x y:Opd}:step F E H dst (.bin op x y)=zui H op (x.ev E) (y.ev E):=by
 show zr E H dst (.bin op x y)=_;simp only[zr];generalize x.ev E=v;generalize y.ev E=u
 split
 ·exact zCH
 ·unfold zui;split<;>simp_all
def zrk(H:zd)(ng:Bool)(n:Nat)(ls:List (Nat×Nat)):AV->AV->Option (AV×zd)
 | .d (.agg a),.d (.agg b)=>if a.length=n/\b.length=n then zCG H ng (zgN a b ls) else none
 | _,_=>none
theorem z8f{ng:Bool}{n:Nat}{ls:List (Nat×Nat)}{x y:Opd}:step F E H dst (.eqs ng n ls x y)=zrk H ng n ls (x.ev E) (y.ev E):=by
 show zr E H dst (.eqs ng n ls x y)=_;simp only[zr];generalize x.ev E=v;generalize y.ev E=u
 split
 ·rename_i a b;simp only[zrk]
  split
  ·cases zgN a b ls<;>rfl
  ·rfl
 ·unfold zrk;split<;>simp_all
def bdI(y:Nat):Option Int->Option Nat
 | some n=>if 0<=n/\n<=y then some n.toNat else none
 | none=>none
def bd(dflt y:Nat):Option AV->Option Nat
 | none=>some dflt
 | some v=>bdI y (zbQ v)
theorem zqJ{x:Option AV}{dflt y:Nat}:zcl x dflt y=bd dflt y x:=by
 cases x with
 | none=>rfl
 | some v=>
  simp only[zcl,bd];unfold bdI
  cases zbQ v<;>rfl
def slM(es:List D)(h l:Nat)(hi:Option AV):Option AV->Option AV
 | none=>some (.d (.sl ((es.take h).drop l)))
 | some m=>if zbQ m=some (h:Int)/\hi.isSome then some (.xsl ((es.take h).drop l)) else none
def zRo(es:List D)(h l:Nat)(hi:Option AV):Option AV->Option AV
 | none=>some (if h=es.length then .xsl ((es.take h).drop l) else .d (.sl ((es.take h).drop l)))
 | some m=>if zbQ m=some (h:Int)/\hi.isSome then some (.xsl ((es.take h).drop l)) else none
def zDs(o:Nat)(es:List D)(h:Nat)(hi:Option AV):Option AV->Option AV
 | none=>some (.acc o (es.take h))
 | some m=>if zbQ m=some (h:Int)/\hi.isSome then some (.acc o (es.take h)) else none
def slL(es:List D)(hi mx:Option AV)(h:Nat):Option Nat->Option AV
 | some l=>slM es h l hi mx
 | none=>none
def slH(es:List D)(lo hi mx:Option AV):Option Nat->Option AV
 | some h=>slL es hi mx h (bd 0 h lo)
 | none=>none
def zDi(es:List D)(hi mx:Option AV)(h:Nat):Option Nat->Option AV
 | some l=>zRo es h l hi mx
 | none=>none
def zDh(es:List D)(lo hi mx:Option AV):Option Nat->Option AV
 | some h=>zDi es hi mx h (bd 0 h lo)
 | none=>none
def zt2(o:Nat)(es:List D)(hi mx:Option AV)(h:Nat):Option Nat->Option AV
 | some l=>if l=0 then zDs o es h hi mx else none
 | none=>none
def zam(o:Nat)(es:List D)(lo hi mx:Option AV):Option Nat->Option AV
 | some h=>zt2 o es hi mx h (bd 0 h lo)
 | none=>none
def zBE(n o off h l:Nat):Option Obj->Option AV
 | some (.row es)=>if l=0\/es.head?.map AV.size=some n then some (.osl o (off+l) (h - l)) else none
 | _=>none
def oslL(H:zd)(n o off h:Nat):Option Nat->Option AV
 | some l=>zBE n o off h l (look o H)
 | none=>none
def zBB(H:zd)(n o off:Nat)(lo:Option AV):Option Nat->Option AV
 | some h=>oslL H n o off h (bd 0 h lo)
 | none=>none
def zBD(H:zd)(n o off len:Nat)(lo hi:Option AV):Option AV->Option AV
 | none=>zBB H n o off lo (bd len len hi)
 | some _=>none
def zii(H:zd)(n:Nat)(lo hi mx:Option AV):AV->Option AV
 | .d (.sl es)=>if zas n es then slH es lo hi mx (bd es.length es.length hi) else none
 | .xsl es=>if zas n es then zDh es lo hi mx (bd es.length es.length hi) else none
 | .acc o es=>if zas n es then zam o es lo hi mx (bd es.length es.length hi) else none
 | .osl o off len=>zBD H n o off len lo hi mx
 | _=>none
theorem z9n{n:Nat}{lo hi mx:Option AV}{v:AV}:zcj H n lo hi mx v=zii H n lo hi mx v:=by
 unfold zcj
 split
 ·rename_i es;simp only[zii]
  split
  ·simp only[zqJ];unfold slH
   cases bd es.length es.length hi with
   | none=>rfl
   | some h=>
    simp only[zabY];unfold slL
    cases bd 0 h lo with
    | none=>rfl
    | some l=>simp only[zabY];cases mx<;>rfl
  ·rfl
 ·rename_i es;simp only[zii]
  split
  ·simp only[zqJ];unfold zDh
   cases bd es.length es.length hi with
   | none=>rfl
   | some h=>
    simp only[zabY];unfold zDi
    cases bd 0 h lo with
    | none=>rfl
    | some l=>simp only[zabY];cases mx<;>rfl
  ·rfl
 ·rename_i o es;simp only[zii]
  split
  ·simp only[zqJ];unfold zam
   cases bd es.length es.length hi with
   | none=>rfl
   | some h=>
    simp only[zabY];unfold zt2
    cases bd 0 h lo with
    | none=>rfl
    | some l=>simp only[zabY];cases mx<;>rfl
  ·rfl
 ·rename_i o off len
  cases mx with
  | some m=>rfl
  | none=>
   simp only[zqJ,zii,zBD];unfold zBB
   cases bd len len hi with
   | none=>rfl
   | some h=>
    simp only[zabY];unfold oslL
    cases bd 0 h lo with
    | none=>rfl
    | some l=>simp only[zabY];unfold zBE;rfl
 ·unfold zii;split<;>simp_all
theorem z8t{n:Nat}{x:Opd}{lo hi mx:Option Opd}:step F E H dst (.slc n x lo hi mx)=zhe H (zii H n (evO E lo) (evO E hi) (evO E mx) (x.ev E)):=by
 show (zcj H n (lo.map (·.ev E)) (hi.map (·.ev E)) (mx.map (·.ev E)) (x.ev E)).map (fun v=>(v,H))=_;rw[zjh,z9n,zBf,zBf,zBf]
def zvn(H:zd)(i:Nat):AV->Option (AV×zd)
 | .d (.tup vs)=>znp H vs[i]?
 | .tup vs=>zhe H vs[i]?
 | _=>none
theorem z8g{x:Opd}{i:Nat}:step F E H dst (.ext x i)=zvn H i (x.ev E):=by
 show zr E H dst (.ext x i)=_;simp only[zr];generalize x.ev E=v
 split
 ·exact zCH
 ·exact zjh
 ·unfold zvn;split<;>simp_all
def zA7(H:zd):Option (List D)->Option (AV×zd)
 | some es=>some (.d (.int .i64 es.length),H)
 | none=>none
def zA8(H:zd):AV->Option (AV×zd)
 | .osl _ _ len=>some (.d (.int .i64 len),H)
 | .d (.sl es)=>some (.d (.int .i64 es.length),H)
 | .acc _ es=>some (.d (.int .i64 es.length),H)
 | .xsl es=>some (.d (.int .i64 es.length),H)
 | y=>zA7 H (slD y)
theorem z8l{x:Opd}:step F E H dst (.len x)=zA8 H (x.ev E):=by
 show zr E H dst (.len x)=_;simp only[zr];generalize x.ev E=v
 split
 ·rfl
 ·unfold zA8
  split
  ·simp_all
  ·rfl
  ·rfl
  ·rfl
  ·unfold zA7;cases slD v<;>rfl
def mmV(H:zd)(mx:Bool):List AV->Option (AV×zd)
 | []=>none
 | y::ys=>zhe H (mmD mx y ys)
theorem z8o{mx:Bool}{xs:List Opd}:step F E H dst (.mm mx xs)=mmV H mx (evs E xs):=by
 show zr E H dst (.mm mx xs)=_;simp only[zr,zBh]
 cases evs E xs with
 | nil=>rfl
 | cons y ys=>exact zjh
theorem zam7{f:FuncId}{cs:List Opd}:step F E H dst (.mkfn f cs)=some (AV.mkFn f (evs E cs),H):=by
 show zr E H dst (.mkfn f cs)=_;simp only[zr,zBh]
def zun(H:zd):Option (List AV)->Option (AV×zd)
 | some cs=>some (AV.mkAgg cs,H)
 | none=>none
theorem z8c{z:List AV}{ps:List (Nat×Nat×Opd)}:step F E H dst (.build z ps)=zun H (zbA z (evB E ps)):=by
 show zr E H dst (.build z ps)=_;simp only[zr,zZq];unfold zun
 cases zbA z (evB E ps)<;>rfl
def zul(E:Env)(H:zd)(dst len:Nat)(es:List AV):Option (List D)->Option (AV×zd)
 | some ds=>some (.xsl ds,H)
 | none=>if zaX dst E=false/\zaq dst H=false then some (.osl dst 0 len,zP dst (.row es) H) else none
def zum(E:Env)(H:zd)(dst len:Nat):Option (List AV)->Option (AV×zd)
 | some es=>zul E H dst len es (zbq es)
 | none=>none
theorem z8b{len n:Nat}{z:AV}{ps:List (Nat×Opd)}:step F E H dst (.bsl len n z ps)=if z.size=n/\szF n (evF E ps)=true then zum E H dst len (zd8 (List.replicate len z) (evF E ps)) else none:=by
 show zr E H dst (.bsl len n z ps)=_;simp only[zr,zZr,zR0]
 split
 ·unfold zum
  cases zd8 (List.replicate len z) (evF E ps) with
  | none=>rfl
  | some es=>simp only[zabY];unfold zul;rfl
 ·rfl
def zug(H:zd):Option (List UInt8)->Option (AV×zd)
 | some s=>some (.d (.str s),H)
 | none=>none
def zuh(H:zd):Option (List D)->Option (AV×zd)
 | some es=>zug H (zge es)
 | none=>none
theorem z78{x:Opd}:step F E H dst (.b2s x)=zuh H (slD (x.ev E)):=by
 show zr E H dst (.b2s x)=_;simp only[zr];unfold zuh
 cases slD (x.ev E) with
 | none=>rfl
 | some es=>simp only[zabY];unfold zug;cases zge es<;>rfl
def byD(s:List UInt8):List D:=s.map fun b=> .int .u8 b.toNat
def srcO(off len:Nat):Option Obj->Option (List D)
 | some (.row es)=>srcL len (zbq ((es.drop off).take len))
 | _=>none
 where srcL (len:Nat):Option (List D)->Option (List D)
  | some ds=>if ds.length=len then some ds else none
  | none=>none
def zle(H:zd):AV->Option (List D)
 | .osl o off len=>srcO off len (look o H)
 | .nl _=>some []
 | y=>slD y
theorem z9z{v:AV}:zc9 H v=zle H v:=by
 unfold zc9
 split
 ·rename_i o off len;simp only[zle];generalize look o H=q
  rcases q with _|(es|m|m|m)
  ·rfl
  ·show (zbq ((es.drop off).take len)).bind _=srcO.srcL len (zbq ((es.drop off).take len))
   cases zbq ((es.drop off).take len)<;>rfl
  ·rfl
  ·rfl
  ·rfl
 ·rfl
 ·unfold zle;split<;>simp_all
def zt8(H:zd)(o n:Nat)(es ys:List D):Option Obj->Option (AV×zd)
 | some (.acc m)=>if es.length=m/\zas n (es++ys)/\(es++ys).length<=LIM then some (.acc o (es++ys),zP o (.acc (m+ys.length)) H) else none
 | _=>none
def zlX(E:Env)(H:zd)(dst n:Nat)(ys:List D):AV->Option (AV×zd)
 | .xsl es=>if (ys.isEmpty&& !es.isEmpty)=true then (if zas n es=true then some (.xsl es,H) else none) else if zas n (es++ys)/\(es++ys).length<=LIM/\zaX dst E=false/\zaq dst H=false then some (.acc dst (es++ys),zP dst (.acc (es.length+ys.length)) H) else none
 | .acc o es=>zt8 H o n es ys (look o H)
 | _=>none
theorem zR4{n:Nat}{ys:List D}{v:AV}:zcf E H dst n ys v=zlX E H dst n ys v:=by
 unfold zcf
 split
 ·rfl
 ·simp only[zlX];unfold zt8;rfl
 ·unfold zlX;split<;>simp_all
def zt9(E:Env)(H:zd)(dst n:Nat)(v:AV):Option (List D)->Option (AV×zd)
 | some ys=>zlX E H dst n ys v
 | none=>none
theorem z74{n:Nat}{x y:Opd}:step F E H dst (.app n x y)=zt9 E H dst n (x.ev E) (zle H (y.ev E)):=by
 show zr E H dst (.app n x y)=_;simp only[zr,z9z];unfold zt9
 cases zle H (y.ev E) with
 | none=>rfl
 | some ys=>simp only[zabY,zR4]
def zQp(H:zd)(ag:Bool)(sz:Nat):Option AV->Option AV
 | some v=>ldV H ag sz v
 | none=>none
theorem z7x{n sz:Nat}{ag:Bool}:zl.ev ⟨E,H⟩ (.c n ag sz)=zQp H ag sz (look n E):=by
 show (look n E).bind (ldA H ag sz)=_
 cases look n E with
 | none=>rfl
 | some v=>exact zL3
theorem z7A{n:Nat}:zl.ev ⟨E,H⟩ (.t n)=look n E:=rfl
def zu6(v:Option AV):Option (List AV)->Option (List AV)
 | some vs=>consQ vs v
 | none=>none
 where consQ (vs:List AV):Option AV->Option (List AV)
  | some v=>some (v::vs)
  | none=>none
def zia(S:St):List zl->Option (List AV)
 | []=>some []
 | r::rs=>zu6 (r.ev S) (zia S rs)
theorem z7w{S:St}{rs:List zl}:rs.mapM (zl.ev S)=zia S rs:=by
 induction rs with
 | nil=>rfl
 | cons r rs ih=>
  rw[zacU,ih];simp only[zia]
  cases r.ev S with
  | none=>cases zia S rs<;>rfl
  | some v=>cases zia S rs<;>rfl
def zQ8:Option (List AV)->Option AV
 | some vs=>some (AV.mkTup vs)
 | none=>none
theorem z7z{S:St}{r:zl}:zfo S [r]=r.ev S:=rfl
theorem z7y{S:St}:zfo S []=some (AV.mkTup []):=rfl
theorem z7B{S:St}{a b:zl}{l:List zl}:zfo S (a::b::l)=zQ8 (zia S (a::b::l)):=by
 show ((a::b::l).mapM (zl.ev S)).map AV.mkTup=_;rw[z7w]
 cases zia S (a::b::l)<;>rfl
end Go.Sim

namespace Go.Sim
variable {G:FuncId->Option AFn} {F:zaU} {E:Env} {H:zd}
theorem zaa8:exL G .skip ⟨E,H⟩=some (.normal,⟨E,H⟩):=zVk
theorem zUZ{ks:List Nat}:endS ks ⟨E,H⟩=gcS ⟨zc8 (zhU ks E),H⟩:=rfl
theorem zXw:gcS ⟨E,H⟩=⟨E,gc1 E H⟩:=rfl
theorem zaa3{i:Nat}{ks:List Nat}:exL G (.exit i ks) ⟨E,H⟩=some (.exit i,endS ks ⟨E,H⟩):=zVg
theorem zaa6{ks:List Nat}:exL G (.ret ks) ⟨E,H⟩=some (.ret,endS ks ⟨E,H⟩):=zVi
theorem zaa5{gs:List Nat}{l:List zK}{ks:List Nat}:exL G (.ops gs l ks) ⟨E,H⟩=((zfb gs ⟨E,H⟩).bind (zbu (zi G) l)).map (ziT ks):=zVh
theorem zaa2{gs:List Nat}{l:List zK}{fr:List (List Nat)}{ks:List Nat}:exL G (.draw gs l fr ks) ⟨E,H⟩=((zfb gs ⟨E,H⟩).bind (zfQ (zi G) l fr)).map (ziT ks):=zVf
theorem zaa7{x y:zg}:exL G (.seq x y) ⟨E,H⟩=(exL G x ⟨E,H⟩).bind (zhh (exL G y)):=zVj
theorem zaa0{c:Opd}{x y:zg}:exL G (.cond c x y) ⟨E,H⟩=zhz (c.ev E) (exL G x ⟨E,H⟩) (exL G y ⟨E,H⟩):=zVe
noncomputable def zu5(G:FuncId->Option AFn)(x y:zg)(E:Env)(H:zd):AV->Option (zX×St)
 | .d (.bool b)=>if b=true then exL G x ⟨E,H⟩ else exL G y ⟨E,H⟩
 | _=>none
theorem zaa1{c:Opd}{x y:zg}:exL G (.cond c x y) ⟨E,H⟩=zu5 G x y E H (c.ev E):=by
 rw[zaa0];unfold zhz zu5;generalize c.ev E=v
 split<;>simp_all
theorem zTb{b:Bool}{x y:zg}:zu5 G x y E H (.d (.bool b))=if b=true then exL G x ⟨E,H⟩ else exL G y ⟨E,H⟩:=rfl
theorem zaaZ{id:Nat}{x:zg}:exL G (.block id x) ⟨E,H⟩=(exL G x ⟨E,H⟩).map (zix id):=zVd
theorem zaa4{ks:List Nat}{x:zg}:exL G (.loop ks x) ⟨E,H⟩=z6 G ks x (norm ks ⟨E,H⟩):=rfl
theorem zXD{S:St}:zfb [] S=some S:=rfl
theorem zXC{g:Nat}{gs:List Nat}:zfb (g::gs) ⟨E,H⟩=(zrY g ⟨E,H⟩).bind (zfb gs):=rfl
theorem zYu{ks:List Nat}:ziT ks ⟨E,H⟩=(.normal,⟨zf2 ks E,H⟩):=rfl
theorem z0g{ks:List Nat}:norm ks ⟨E,H⟩=norm1 ⟨zf2 ks E,H⟩:=rfl
theorem z0f:norm1 ⟨E,H⟩=⟨zc8 (deX E),ztF (gc1 E (gc1 E H))⟩:=rfl
theorem z8X{g:St->Option (zX×St)}{S:St}:zhh g (.normal,S)=g S:=rfl
theorem z8W{g:St->Option (zX×St)}{i:Nat}{S:St}:zhh g (.exit i,S)=some (.exit i,S):=rfl
theorem z8Y{g:St->Option (zX×St)}{S:St}:zhh g (.ret,S)=some (.ret,S):=rfl
theorem zZn{ks:List Nat}{g:St->Option (zX×St)}{S:St}:zc0 ks g (.normal,S)=g (norm ks S):=rfl
theorem zZm{ks:List Nat}{g:St->Option (zX×St)}{i:Nat}{S:St}:zc0 ks g (.exit i,S)=some (.exit i,S):=rfl
theorem zZo{ks:List Nat}{g:St->Option (zX×St)}{S:St}:zc0 ks g (.ret,S)=some (.ret,S):=rfl
theorem zSr{id:Nat}{S:St}:zix id (.normal,S)=(.normal,S):=rfl
theorem zSq{id i:Nat}{S:St}:zix id (.exit i,S)=if i=id then (.normal,S) else (.exit i,S):=rfl
theorem zSs{id:Nat}{S:St}:zix id (.ret,S)=(.ret,S):=rfl
def zfl(t:Nat)(v:AV):Env->Env
 | []=>[]
 | (j,x)::l=>if j=t then (j,v)::l else (j,x)::zfl t v l
theorem ztn{t:Nat}{v:AV}:∀ {E:Env},look t E=some v->zfl t v E=E:=by
 intro E
 induction E with
 | nil=>intro h;cases h
 | cons p l ih=>
  obtain⟨j,x⟩:=p;intro h;simp only[look] at h;simp only[zfl]
  split
  ·rename_i e;rw[zabo e] at h;cases h;rfl
  ·rename_i e;rw[zabn e] at h;rw[ih h]
def zan{α:Type}(v:Option AV)(k j:Bool->Option α):Option α:=
 match v with
 | some (.d (.bool true))=>k true
 | some (.d (.bool false))=>k false
 | _=>none
theorem z0i:zbu F [] ⟨E,H⟩=some ⟨E,H⟩:=rfl
theorem z0j{d:Option Nat}{op:AOp}{l:List zK}:zbu F (⟨d,op,none⟩::l) ⟨E,H⟩=(zdq F ⟨d,op,none⟩ ⟨E,H⟩).bind (zbu F l):=rfl
def zhK(F:zaU)(d:Option Nat)(op:AOp)(b:Bool)(l:List zK)(E:Env)(H:zd)(c:Bool):Option St:=if c=b then (zdq F ⟨d,op,none⟩ ⟨E,H⟩).bind (zbu F l) else zbu F l (St.put ⟨E,H⟩ d (.d (.tup [])))
theorem zWA{d:Option Nat}{op:AOp}{l:List zK}:zhK F d op true l E H true=(zdq F ⟨d,op,none⟩ ⟨E,H⟩).bind (zbu F l):=rfl
theorem zWx{d:Option Nat}{op:AOp}{l:List zK}:zhK F d op false l E H false=(zdq F ⟨d,op,none⟩ ⟨E,H⟩).bind (zbu F l):=rfl
theorem zWz{d:Option Nat}{op:AOp}{l:List zK}:zhK F d op true l E H false=zbu F l (St.put ⟨E,H⟩ d (.d (.tup []))):=rfl
theorem zWy{d:Option Nat}{op:AOp}{l:List zK}:zhK F d op false l E H true=zbu F l (St.put ⟨E,H⟩ d (.d (.tup []))):=rfl
def zrz(F:zaU)(d:Option Nat)(op:AOp)(t:Nat)(b:Bool)(l:List zK)(E:Env)(H:zd)(v:Option AV):Option St:=
 match v with
 | some (.d (.bool c))=>if c=true then zhK F d op b l (zfl t (.d (.bool true)) E) H true else zhK F d op b l (zfl t (.d (.bool false)) E) H false
 | some (.d (.tup []))=>zbu F l (St.put ⟨E,H⟩ d (.d (.tup [])))
 | _=>none
theorem zWw{d:Option Nat}{op:AOp}{t:Nat}{b:Bool}{l:List zK}:zrz F d op t b l E H (some (.d (.tup [])))=zbu F l (St.put ⟨E,H⟩ d (.d (.tup []))):=rfl
theorem zWv{d:Option Nat}{op:AOp}{t:Nat}{b c:Bool}{l:List zK}:zrz F d op t b l E H (some (.d (.bool c)))=if c=true then zhK F d op b l (zfl t (.d (.bool true)) E) H true else zhK F d op b l (zfl t (.d (.bool false)) E) H false:=rfl
theorem z0h{d:Option Nat}{op:AOp}{l:List zK}{t:Nat}{b:Bool}:zbu F (⟨d,op,some (t,b)⟩::l) ⟨E,H⟩=zrz F d op t b l E H (look t E):=by
 simp only[zbu,zrz];generalize hv:look t E=v
 split
 ·rename_i c
  cases c with
  | true=>simp only[ztn hv,if_true];rfl
  | false=>simp only[ztn hv,zabz,if_false];rfl
 ·rfl
 ·rename_i hno hno2
  split
  ·exact absurd rfl (hno _)
  ·exact absurd rfl hno2
  ·rfl
theorem zTz{l:List zK}{fr:List (List Nat)}:zfQ F l fr ⟨E,H⟩=if (zbN E&&zbN H&&zmd l ⟨E,H⟩)=true then zbz F l fr [] ⟨E,H⟩ else none:=rfl
theorem zTB{fr:List (List Nat)}{acc:List (List Nat×List Nat)}:zbz F [] fr acc ⟨E,H⟩=some ⟨E,H⟩:=rfl
theorem zTC{d:Option Nat}{op:AOp}{l:List zK}{f:List Nat}{fr:List (List Nat)}{acc:List (List Nat×List Nat)}:zbz F (⟨d,op,none⟩::l) (f::fr) acc ⟨E,H⟩=(zdf F ⟨d,op,none⟩ (f::fr) acc ⟨E,H⟩).bind (zbz F l fr (acc++[op.feet E H (d.getD 0)])):=rfl
def zhA(F:zaU)(d:Option Nat)(op:AOp)(t:Nat)(b:Bool)(l:List zK)(f:List Nat)(fr:List (List Nat))(acc:List (List Nat×List Nat))(E:Env)(H:zd)(c:Bool):Option St:=
 if c=b then (zdf F ⟨d,op,none⟩ (f::fr) acc ⟨E,H⟩).bind (zbz F l fr (acc++[op.feet E H (d.getD 0)])) else (zgf ⟨d,op,some (t,b)⟩ (f::fr) acc ⟨E,H⟩).bind (zbz F l fr (acc++[([],[])]))
theorem zTy{d:Option Nat}{op:AOp}{t:Nat}{l:List zK}{f:List Nat}{fr:List (List Nat)}{acc:List (List Nat×List Nat)}:zhA F d op t true l f fr acc E H true=(zdf F ⟨d,op,none⟩ (f::fr) acc ⟨E,H⟩).bind (zbz F l fr (acc++[op.feet E H (d.getD 0)])):=rfl
theorem zTv{d:Option Nat}{op:AOp}{t:Nat}{l:List zK}{f:List Nat}{fr:List (List Nat)}{acc:List (List Nat×List Nat)}:zhA F d op t false l f fr acc E H false=(zdf F ⟨d,op,none⟩ (f::fr) acc ⟨E,H⟩).bind (zbz F l fr (acc++[op.feet E H (d.getD 0)])):=rfl
theorem zTx{d:Option Nat}{op:AOp}{t:Nat}{l:List zK}{f:List Nat}{fr:List (List Nat)}{acc:List (List Nat×List Nat)}:zhA F d op t true l f fr acc E H false=(zgf ⟨d,op,some (t,true)⟩ (f::fr) acc ⟨E,H⟩).bind (zbz F l fr (acc++[([],[])])):=rfl
theorem zTw{d:Option Nat}{op:AOp}{t:Nat}{l:List zK}{f:List Nat}{fr:List (List Nat)}{acc:List (List Nat×List Nat)}:zhA F d op t false l f fr acc E H true=(zgf ⟨d,op,some (t,false)⟩ (f::fr) acc ⟨E,H⟩).bind (zbz F l fr (acc++[([],[])])):=rfl
def zrd(F:zaU)(d:Option Nat)(op:AOp)(t:Nat)(b:Bool)(l:List zK)(f:List Nat)(fr:List (List Nat))(acc:List (List Nat×List Nat))(E:Env)(H:zd)(v:Option AV):Option St:=
 match v with
 | some (.d (.bool c))=>if c=true then zhA F d op t b l f fr acc (zfl t (.d (.bool true)) E) H true else zhA F d op t b l f fr acc (zfl t (.d (.bool false)) E) H false
 | some (.d (.tup []))=>(zgf ⟨d,op,some (t,b)⟩ (f::fr) acc ⟨E,H⟩).bind (zbz F l fr (acc++[([],[])]))
 | _=>none
theorem zTu{d:Option Nat}{op:AOp}{t:Nat}{b:Bool}{l:List zK}{f:List Nat}{fr:List (List Nat)}{acc:List (List Nat×List Nat)}:zrd F d op t b l f fr acc E H (some (.d (.tup [])))=(zgf ⟨d,op,some (t,b)⟩ (f::fr) acc ⟨E,H⟩).bind (zbz F l fr (acc++[([],[])])):=rfl
theorem zTt{d:Option Nat}{op:AOp}{t:Nat}{b c:Bool}{l:List zK}{f:List Nat}{fr:List (List Nat)}{acc:List (List Nat×List Nat)}:zrd F d op t b l f fr acc E H (some (.d (.bool c)))=
    if c=true then zhA F d op t b l f fr acc (zfl t (.d (.bool true)) E) H true else zhA F d op t b l f fr acc (zfl t (.d (.bool false)) E) H false:=rfl
theorem zTA{d:Option Nat}{op:AOp}{l:List zK}{f:List Nat}{fr:List (List Nat)}{acc:List (List Nat×List Nat)}{t:Nat}{b:Bool}:zbz F (⟨d,op,some (t,b)⟩::l) (f::fr) acc ⟨E,H⟩=zrd F d op t b l f fr acc E H (look t E):=by
 simp only[zbz,zrd];generalize hv:look t E=v
 split
 ·rename_i c
  cases c with
  | true=>simp only[ztn hv,if_true];rfl
  | false=>simp only[ztn hv,zabz,if_false];rfl
 ·rfl
 ·rename_i hno hno2
  split
  ·exact absurd rfl (hno _)
  ·exact absurd rfl hno2
  ·rfl
theorem zUf{d:Option Nat}{op:AOp}{f:List Nat}{fr:List (List Nat)}{acc:List (List Nat×List Nat)}:zdf F ⟨d,op,none⟩ (f::fr) acc ⟨E,H⟩=if zgK f acc (op.feet E H (d.getD 0))=true then zdq F ⟨d,op,none⟩ ⟨E,H⟩ else none:=rfl
theorem zUe{x:zK}{f:List Nat}{fr:List (List Nat)}{acc:List (List Nat×List Nat)}:zgf x (f::fr) acc ⟨E,H⟩=if zgK f acc ([],[])=true then some (St.put ⟨E,H⟩ x.dst (.d (.tup []))) else none:=rfl
theorem z5x{d:Nat}{v:AV}:St.put ⟨E,H⟩ (some d) v=⟨zP d v E,H⟩:=rfl
def putO(E:Env)(d:Option Nat)(r:Option (AV×zd)):Option St:=r.map fun p=>St.put ⟨E,p.2⟩ d p.1
theorem z5v{v:AV}:putO E none (some (v,H))=some ⟨E,H⟩:=rfl
theorem z5w{d:Nat}{v:AV}:putO E (some d) (some (v,H))=some ⟨zP d v E,H⟩:=rfl
theorem z73{d:Option Nat}{op:AOp}{g:Option (Nat×Bool)}:zdq F ⟨d,op,g⟩ ⟨E,H⟩=putO E d (step F E H (d.getD 0) op):=rfl
variable {dst:Nat}
theorem zana{ng:Bool}{x:Opd}:step F E H dst (.nileq ng x)=zkH H ng (x.ev E):=rfl
theorem zajq{g:FuncId}{cs:List D}{ms:List Bool}{args:List AV}:zht F E H dst ms (.d (.fn g cs)) args=zbr F E H dst ms g (args++cs.map .d):=rfl
theorem zajp{g:FuncId}{cs:List AV}{ms:List Bool}{args:List AV}:zht F E H dst ms (.fn g cs) args=zbr F E H dst ms g (args++cs):=rfl
theorem zSK{v:AV}{δ:zd}:zgJ H (some (v,δ))=some (v,zak δ H):=rfl
theorem zSC{ms:List Bool}{f:FuncId}{args:List AV}:zbr F E H dst ms f args=if zmf ms args.length=true then (zbJ H ms args).bind (zgi F E H dst ms f (zaz ms args)) else zcu F E H dst ms f args:=rfl
theorem zSA{ms:List Bool}{f:FuncId}{args:List AV}:zcu F E H dst ms f args=(zbJ H ms args).bind (zfJ F E H dst (zbF H ms args) (zaz ms args) f):=rfl
theorem zWo{ms:List Bool}{f:FuncId}{dob:List Nat}{zabm:List AV}:zgi F E H dst ms f dob zabm=if zgj H dob=true then (zcu F E (zak (zbn H dob) H) dst ms f zabm).map fun p=>(p.1,p.2++zbn H dob) else none:=rfl
theorem zTG(ds:List D):zaz [] (ds.map .d)=[]:=by
 induction ds with
 | nil=>rfl
 | cons d ds ih=>simp only[zabs,zaz,ih,AV.objs,zabL]
theorem zjQ{f:FuncId}{ds:List D}:zbr F E H dst [] f (ds.map .d)=(F f (ds.map .d) []).bind (zeI E H dst [] []):=by
 have h1:zbJ H [] (ds.map .d)=some (ds.map .d):=by
  induction ds with
  | nil=>rfl
  | cons d ds ih=>simp only[zabs,zbJ,ih,toD,zabY,zab8]
 have h2:zch [] (ds.map .d)=[]:=by cases ds<;>rfl
 have h3:=zTG ds;have h4:(ds.map AV.d).map (AV.ren (zaR []))=ds.map .d:=by
  rw[zacQ];exact zacR fun _ _=>rfl
 unfold zbr;rw[zabn (by simp [zmf])];unfold zcu;rw[h1,h3];simp only[zabY,zbF,h2,zcT,zfm,List.flatMap_nil,zfJ,zkM,List.all_nil,zhC,zacG,if_true,h4,zbY,zabq]
theorem ca0{f:FuncId}:zbr F E H dst [] f []=(F f [] []).bind (zeI E H dst [] []):=zjQ (ds:=[])
theorem ca1{f:FuncId}{a:D}:zbr F E H dst [] f [.d a]=(F f [.d a] []).bind (zeI E H dst [] []):=zjQ (ds:=[a])
theorem ca2{f:FuncId}{a b:D}:zbr F E H dst [] f [.d a,.d b]=(F f [.d a,.d b] []).bind (zeI E H dst [] []):=zjQ (ds:=[a,b])
theorem ca3{f:FuncId}{a b c:D}:zbr F E H dst [] f [.d a,.d b,.d c]=(F f [.d a,.d b,.d c] []).bind (zeI E H dst [] []):=zjQ (ds:=[a,b,c])
theorem ca4{f:FuncId}{a b c d:D}:zbr F E H dst [] f [.d a,.d b,.d c,.d d]=(F f [.d a,.d b,.d c,.d d] []).bind (zeI E H dst [] []):=zjQ (ds:=[a,b,c,d])
theorem ca5{f:FuncId}{a b c d e:D}:zbr F E H dst [] f [.d a,.d b,.d c,.d d,.d e]=(F f [.d a,.d b,.d c,.d d,.d e] []).bind (zeI E H dst [] []):=zjQ (ds:=[a,b,c,d,e])
theorem cv1{f:FuncId}{a:D}{cs:List D}:zbr F E H dst [] f (.d a::cs.map .d)=(F f (.d a::cs.map .d) []).bind (zeI E H dst [] []):=zjQ (ds:=a::cs)
theorem zZI{c:Prop}[Decidable c]{e:zX}{t:Nat}{x y:Bool}:(if c then some (e,(⟨(t,.d (.bool x))::E,H⟩:St)) else some (e,⟨(t,.d (.bool y))::E,H⟩))=some (e,⟨(t,.d (.bool (if c then x else y)))::E,H⟩):=by split<;>rfl
theorem zYm{c x:Bool}:(if c=true then x else false)=(c&&x):=by cases c<;>rfl
theorem zYn{c x:Bool}:(if c=true then true else x)=(c||x):=by cases c<;>rfl
theorem zSp{α β:Type}{c:Prop}[Decidable c]{x y:Option α}{k:α->Option β}:(if c then x else y).bind k=if c then x.bind k else y.bind k:=by split<;>rfl
theorem zZw{α β:Type}{c:Prop}[Decidable c]{x y:Option α}{k:α->β}:(if c then x else y).map k=if c then x.map k else y.map k:=by split<;>rfl
theorem zV6{sl:Bool}{rs:List zl}{os:zd}{S:St}:zgh sl rs os (.normal,S)=(zfo S rs).bind (zhJ sl os S):=rfl
theorem zV7{sl:Bool}{rs:List zl}{os:zd}{S:St}:zgh sl rs os (.ret,S)=(zfo S rs).bind (zhJ sl os S):=rfl
theorem zV5{os:zd}{S:St}{v:AV}:zhJ true os S v=(toD S.heap v).bind (ztz os S v):=rfl
theorem zV4{os:zd}{S:St}{v:AV}:zhJ false os S v=zj7 os S v (zf7 S.heap os v):=rfl
theorem z8p{x:Opd}:step F E H dst (.mv x)=zr E H dst (.mv x):=rfl
theorem zVH{x:Opd}:AOp.feet E H dst (.mv x)=(zar (AOp.foot E dst (.mv x)),zar (AOp.wr E dst (.mv x))):=rfl
theorem z8s{c a b:Opd}:step F E H dst (.pick c a b)=zr E H dst (.pick c a b):=rfl
theorem zVJ{c a b:Opd}:AOp.feet E H dst (.pick c a b)=(zar (AOp.foot E dst (.pick c a b)),zar (AOp.wr E dst (.pick c a b))):=rfl
theorem z72{z:AV}:step F E H dst (.alloc z)=zr E H dst (.alloc z):=rfl
theorem zVs{z:AV}:AOp.feet E H dst (.alloc z)=(zar (AOp.foot E dst (.alloc z)),zar (AOp.wr E dst (.alloc z))):=rfl
theorem z8a{x:Opd}:step F E H dst (.box x)=zr E H dst (.box x):=rfl
theorem zVw{z:List AV}{ps:List (Nat×Nat×Opd)}:AOp.feet E H dst (.build z ps)=(zar (AOp.foot E dst (.build z ps)),zar (AOp.wr E dst (.build z ps))):=rfl
theorem zVv{len n:Nat}{z:AV}{ps:List (Nat×Opd)}:AOp.feet E H dst (.bsl len n z ps)=(zar (AOp.foot E dst (.bsl len n z ps)),zar (AOp.wr E dst (.bsl len n z ps))):=rfl
theorem zVE{ag:Bool}{n:Nat}{p:Opd}:AOp.feet E H dst (.ld ag n p)=(zar (AOp.foot E dst (.ld ag n p)),zar (AOp.wr E dst (.ld ag n p))):=rfl
theorem zam8:step F E H dst .mkm=zr E H dst .mkm:=rfl
theorem zaj1{ok:Bool}{z:D}{x k:Opd}:AOp.feet E H dst (.lkp ok z x k)=(zar (AOp.foot E dst (.lkp ok z x k)),zar (AOp.wr E dst (.lkp ok z x k))):=rfl
theorem zVL{n:Nat}{p x:Opd}:AOp.feet E H dst (.st n p x)=(zar (AOp.foot E dst (.st n p x)),zj3 (AOp.wr E dst (.st n p x))):=rfl
theorem z8r{x:Opd}:step F E H dst (.nilc x)=zr E H dst (.nilc x):=rfl
theorem zVI{x:Opd}:AOp.feet E H dst (.nilc x)=(zar (AOp.foot E dst (.nilc x)),zar (AOp.wr E dst (.nilc x))):=rfl
theorem zVu{op:BinOp}{x y:Opd}:AOp.feet E H dst (.bin op x y)=(zar (AOp.foot E dst (.bin op x y)),zar (AOp.wr E dst (.bin op x y))):=rfl
theorem zVz{ng:Bool}{n:Nat}{ls:List (Nat×Nat)}{x y:Opd}:AOp.feet E H dst (.eqs ng n ls x y)=(zar (AOp.foot E dst (.eqs ng n ls x y)),zar (AOp.wr E dst (.eqs ng n ls x y))):=rfl
theorem z8q  : step F E H dst (.nacc)=zr E H dst (.nacc):=rfl
theorem z8v{op:UnOp}{x:Opd}:step F E H dst (.un op x)=zr E H dst (.un op x):=rfl
theorem zVM{op:UnOp}{x:Opd}:AOp.feet E H dst (.un op x)=(zar (AOp.foot E dst (.un op x)),zar (AOp.wr E dst (.un op x))):=rfl
theorem z8e{k:IntKind}{x:Opd}:step F E H dst (.cvi k x)=zr E H dst (.cvi k x):=rfl
theorem zVy{k:IntKind}{x:Opd}:AOp.feet E H dst (.cvi k x)=(zar (AOp.foot E dst (.cvi k x)),zar (AOp.wr E dst (.cvi k x))):=rfl
theorem zVB{ag:Bool}{off n:Nat}{x:Opd}:AOp.feet E H dst (.fad ag off n x)=(zar (AOp.foot E dst (.fad ag off n x)),zar (AOp.wr E dst (.fad ag off n x))):=rfl
theorem zVC{ag:Bool}{off n:Nat}{x:Opd}:AOp.feet E H dst (.fld ag off n x)=(zar (AOp.foot E dst (.fld ag off n x)),zar (AOp.wr E dst (.fld ag off n x))):=rfl
theorem zVD{n:Nat}{x i:Opd}:AOp.feet E H dst (.iad n x i)=(zkI (AOp.foot E dst (.iad n x i)),[]):=rfl
theorem zVK{n:Nat}{x:Opd}{lo hi mx:Option Opd}:AOp.feet E H dst (.slc n x lo hi mx)=(zar (AOp.foot E dst (.slc n x lo hi mx)),zar (AOp.wr E dst (.slc n x lo hi mx))):=rfl
theorem zVA{x:Opd}{i:Nat}:AOp.feet E H dst (.ext x i)=(zar (AOp.foot E dst (.ext x i)),zar (AOp.wr E dst (.ext x i))):=rfl
theorem zVF{x:Opd}:AOp.feet E H dst (.len x)=(zar (AOp.foot E dst (.len x)),zar (AOp.wr E dst (.len x))):=rfl
theorem z8m{x:Opd}:step F E H dst (.lens x)=zr E H dst (.lens x):=rfl
theorem zVt{n:Nat}{x y:Opd}:AOp.feet E H dst (.app n x y)=(zar (AOp.foot E dst (.app n x y)),zar (AOp.wr E dst (.app n x y))):=rfl
theorem zVG{mx:Bool}{xs:List Opd}:AOp.feet E H dst (.mm mx xs)=(zar (AOp.foot E dst (.mm mx xs)),zar (AOp.wr E dst (.mm mx xs))):=rfl
theorem z8n{n:Nat}{z:AV}{l c:Opd}:step F E H dst (.mks n z l c)=zr E H dst (.mks n z l c):=rfl
theorem z9i{k:IntKind}{n:Int}:D.size (.int k n)=1:=rfl
theorem zSO{k:IntKind}{n:Int}:D.cells (.int k n)=[(.int k n)]:=rfl
theorem z9h{b:Bool}:D.size (.bool b)=1:=rfl
theorem zSN{b:Bool}:D.cells (.bool b)=[(.bool b)]:=rfl
theorem z9k{s:List UInt8}:D.size (.str s)=1:=rfl
theorem zSQ{s:List UInt8}:D.cells (.str s)=[(.str s)]:=rfl
theorem z9j{es:List D}:D.size (.sl es)=1:=rfl
theorem zSP{es:List D}:D.cells (.sl es)=[(.sl es)]:=rfl
theorem size_agg{cs:List D}:D.size (.agg cs)=cs.length:=rfl
theorem zSM{cs:List D}:D.cells (.agg cs)=cs:=rfl
theorem zR7{cs:List D}:D.asAgg (.agg cs)= .agg cs:=rfl
theorem zSc{x:D}:AV.size (.d x)=x.size:=rfl
theorem zRD{x:D}:AV.cells (.d x)=x.cells.map .d:=rfl
theorem zajd{o i off:Nat}:AV.size (.ref o i off)=1:=rfl
theorem zajc{o i off:Nat}:AV.cells (.ref o i off)=[(.ref o i off)]:=rfl
theorem zSd{o off len:Nat}:AV.size (.osl o off len)=1:=rfl
theorem zRE{o off len:Nat}:AV.cells (.osl o off len)=[(.osl o off len)]:=rfl
theorem zSa{o:Nat}{es:List D}:AV.size (.acc o es)=1:=rfl
theorem zRB{o:Nat}{es:List D}:AV.cells (.acc o es)=[(.acc o es)]:=rfl
theorem zSe{es:List D}:AV.size (.xsl es)=1:=rfl
theorem zRF{es:List D}:AV.cells (.xsl es)=[(.xsl es)]:=rfl
theorem zSb{cs:List AV}:AV.size (.agg cs)=cs.length:=rfl
theorem zRC{cs:List AV}:AV.cells (.agg cs)=cs:=rfl
section
variable {k:IntKind} {a b:Int}
def zjL(k:IntKind)(a b:Int):Int:=k.wrap (BitVec.ofInt k.bits a &&& BitVec.ofInt k.bits b).toNat
def orI(k:IntKind)(a b:Int):Int:=k.wrap (BitVec.ofInt k.bits a ||| BitVec.ofInt k.bits b).toNat
def zjp(k:IntKind)(a b:Int):Int:=k.wrap (BitVec.ofInt k.bits a ^^^ BitVec.ofInt k.bits b).toNat
theorem zXP:zcI .add k a b=some (.int k (k.wrap (a+b))):=rfl
theorem zX1:zcI .sub k a b=some (.int k (k.wrap (a - b))):=rfl
theorem zXW:zcI .mul k a b=some (.int k (k.wrap (a * b))):=rfl
theorem zXZ:zcI .quo k a b=if b=0 then none else some (.int k (k.wrap (a.tdiv b))):=rfl
theorem zX0:zcI .rem k a b=if b=0 then none else some (.int k (a.tmod b)):=rfl
theorem zXR:zcI .eql k a b=some (.bool (decide (a=b))):=rfl
theorem zXX:zcI .neq k a b=some (.bool (!decide (a=b))):=rfl
theorem zXV:zcI .lss k a b=some (.bool (decide (a<b))):=rfl
theorem zXU:zcI .leq k a b=some (.bool (decide (a<=b))):=rfl
theorem zXT:zcI .gtr k a b=some (.bool (decide (b<a))):=rfl
theorem zXS:zcI .geq k a b=some (.bool (decide (b<=a))):=rfl
theorem zXQ:zcI .and k a b=some (.int k (zjL k a b)):=rfl
theorem zXY:zcI .or k a b=some (.int k (orI k a b)):=rfl
theorem zX2:zcI .xor k a b=some (.int k (zjp k a b)):=rfl
end
theorem zU8{ng:Bool}{n:Nat}{ls:List (Nat×Nat)}{a b:List D}:zrk H ng n ls (.d (.agg a)) (.d (.agg b))=if a.length=n/\b.length=n then zCG H ng (zgN a b ls) else none:=rfl
attribute [go_sem] zgd zqG zDG zeH ziw zqI zuf
attribute [go_sem] zam8 zaj1 zam6 zam9 lkpR lkpO lkpI lkpV mupO mupY mupI mupV
theorem z4K{x:AV}{off:Nat}{v:AV}:zcM x off v=if off=0/\v.size=x.size then some v else if off+v.size<=x.size then some (AV.mkAgg (zfv x.cells off v.cells)) else none:=rfl
attribute [go_sem] zaa8 zaa3 zaa6 zaa5 zaa2 zaa7 zaa1 zTb zaaZ zaa4 zXD zXC zYu z0g z0f deX zrg zUZ zXw zhU z8X z8W z8Y zZn zZm zZo zSr zSq zSs zWA zWx zWz zWy zWv zWw zTu zTy zTv zTx zTw zTt zfl zZI zYm zYn zSp zZw z0i z0j z0h zTz zTB zTC zTA zUf zUe z5x z5v z5w z73 zana zajq zajp zSK zV6 zV7 zV5 zV4 z8p z8s z72 z8a z8r z8q z8v z8e z8m z8n zVH zVJ zVs zVw zVv zVE zVL zVI zVu zVz zVM zVy zVB zVC zVD zVK zVA zVF zVt zVG z9i zSO z9h zSN z9k zSQ z9j zSP size_agg zSM zR7 zSc zRD zajd zajc zSd zRE zSa zRB zSe zRF zSb zRC zabF zr Opd.ev zabs zabq Go.Sim.look zP zd0 zacS Option.getD_none zgI zXP zX1 zXW zXZ zX0 zXR zXX zXV zXU zXT zXS zXQ zXY zX2 zk9 znG zab8 Option.map_none zabY Option.bind_none zf2 List.contains_cons List.contains_nil Bool.or_true zadk Bool.or_false zacH Bool.or_self zabz zacf zabU zacI beq_self_eq_true zaX zaq AV.refs AV.refsL Obj.refs zadF zacA zacJ zacd zacG zacK zacT zacB zcc zep zadG zad2 List.getElem?_nil zabu zabw zabZ List.drop_succ_cons List.take_succ_cons zacg z4K zfv AV.mkAgg AV.mkTup AV.mkFn zbq z7z z7y z7B zia zu6 zu6.consQ zQ8 z7x z7A zQp toD toD.toDs zbQ slD ne_eq zabD zabV Nat.succ_ne_self zad3 zad4 eq_self_iff_true zbN AOp.foot AOp.wr AOp.looks AOp.news AOp.opds zh2 AV.objs AV.objsL zacn List.all_nil zac4 List.any_nil List.headD_cons List.headD_nil List.tail_cons List.tail_nil zabJ zabN zabL zd8 unX zjo znM zbA List.set_cons_zero List.set_cons_succ Nat.lt_add_one Nat.zero_lt_one Nat.one_lt_two zadH ziR zK.newNames fr4 zdd zcg zjR zq6 zar zbJ zaz zch zbF zfm zcT zk5 zaR pos AV.ren AV.renL Obj.ren zfJ zeI AV.flat AV.flatL Obj.flat D.flat D.flatL zak mmD zge zj7 ztz zf7 za2 frs zrY ztR zC5 zC6 zh1 zmX ztO zCZ zC0 zkG zmW ztQ zC4 ztP zC2 zhB zl6 zu9 znn rnm Option.isNone_some Option.isNone_none ziH zgv zjG zc8 zhS ztF gc1 gc zkH zgN zvm List.flatMap_nil List.flatMap_cons zac5 zacL List.getD_cons_zero List.getD_cons_succ decide_true decide_false if_true if_false List.isEmpty_nil List.isEmpty_cons z0o okN zBu znI z4I osN zWn zWm zWg zru zTX zTW z7s z7r z0m z0l zVc zVb zTZ zTY zGG zSX zSW zrx zWl zWk z7T z7S zRA zRz zrj zU3 zXB zXA zBv okO z0p zMF okG z0n zsU z4J evs evO evB evF szF zhe znp zCG dO pdO peO ldE ldO ldV z8k zj4 z8h szR szP szD zLH zhR zAt z8j stF stE stO stV z8u zvt z8i zui z79 zU8 z8f bdI bd slM zRo zDs slL slH zDi zDh zt2 zam zBE oslL zBB zBD zii z8t zvn z8g zA7 zA8 z8l mmV z8o zam7 zun z8c zul zum z8b zug zuh z78 srcO srcO.srcL zle zt8 zlX zt9 z74 z8d zam5 zVx zaj0
theorem zRY{n:Nat}:zas n []=true:=rfl
theorem zDx{n:Nat}{e:D}{es:List D}:zas n (e::es)=(e.size==n&&zas n es):=rfl
theorem zRW{n:Nat}{es fs:List D}:zas n (es++fs)=(zas n es&&zas n fs):=by simp [zas]
theorem zRL{ds:List D}:zbq (ds.map .d)=some ds:=zt4 ds
theorem tc_0{ns:List Nat}:zdY ns dst 0=dst:=by simp [zdY]
theorem zaaf{ns:List Nat}{n:Nat}(h:¬n<1000000):zdY ns dst n=ns.getD (n - 1000000) 0:=by unfold zdY;rw[zabn h]
theorem zaae{ns:List Nat}{a:Nat}:zdY (a::ns) dst 1000000=a:=by rw[zaaf (by omega)];rfl
theorem zanF{ns:List Nat}{a b:Nat}:zdY (a::b::ns) dst 1000001=b:=by rw[zaaf (by omega)];rfl
theorem zanG{ns:List Nat}{a b c:Nat}:zdY (a::b::c::ns) dst 1000002=c:=by rw[zaaf (by omega)];rfl
attribute [go_sem] tc_0 zaae zanF zanG
attribute [go_sem] ziD zl5 zjX zjY zre zfL zva
attribute [go_sem] zi2 zmV zkE zkF zsR zf5 zBt
attribute [go_sem] okC zcN zmZ zns okE zie zkK zk4 zf6 zcs zhF orE zhG zfW zrr zC7
attribute [go_sem] zQi z0k zRY zDx zRW zRL
attribute [go_sem high] ca0 ca1 ca2 ca3 ca4 ca5 cv1
attribute [go_sem low] zSC zSA
attribute [go_sem] zWo zmf zWq zWp zWt zWs mark List.drop_nil Option.isSome_some Option.isSome_none
def D.isT:D->Bool
 | .tup _=>true
 | _=>false
theorem zYj{x:D}:zbR (.d x)=x.isT:=by cases x<;>rfl
theorem zYe{k:IntKind}{n:Int}:D.isT (.int k n)=false:=rfl
theorem zYd{b:Bool}:D.isT (.bool b)=false:=rfl
theorem zYg{s:List UInt8}:D.isT (.str s)=false:=rfl
theorem zYc{cs:List D}:D.isT (.agg cs)=false:=rfl
theorem zYf{es:List D}:D.isT (.sl es)=false:=rfl
theorem zalq{o i off:Nat}:zbR (.ref o i off)=false:=rfl
theorem zYk{o off len:Nat}:zbR (.osl o off len)=false:=rfl
theorem zYh{o:Nat}{es:List D}:zbR (.acc o es)=false:=rfl
theorem zYl{es:List D}:zbR (.xsl es)=false:=rfl
theorem zYi{cs:List AV}:zbR (.agg cs)=false:=rfl
attribute [go_sem] zYj zYe zYd zYg zYc zYf zalq zYk zYh zYl zYi
theorem z7u{ρ:Nat->Nat}{ds:List D}:(ds.map AV.d).map (AV.ren ρ)=ds.map .d:=by rw[zacQ];exact zacR fun _ _=>rfl
attribute [go_sem] z7u
theorem GOK.of{P:Program}(tab:List (Nat×AFn))(h:∀p∈tab,zp P p.1 p.2):GOK P (fun f=>look f tab):=fun f fn hf=>h (f,fn) (zav hf)
end Go.Sim

namespace Go.Sim
abbrev oM(d s:Nat):zK:=⟨some d,.mv (.t s),none⟩
abbrev oP(d:Nat)(x:AOp):zK:=⟨some d,x,none⟩
abbrev oQ(d:Nat)(x:AOp)(t:Nat)(b:Bool):zK:=⟨some d,x,some (t,b)⟩
abbrev oN(x:AOp):zK:=⟨none,x,none⟩
abbrev kI(n:Int):Opd:= .c (.d (.int .i64 n))
abbrev aI(n:Int):AV:= .d (.int .i64 n)
open Go (World Value Addr TypeId Act)
def insF(S:Nat)(args:List AV)(os:zd):Option (AV×zd):=
 match args,os with
 | [.osl o 0 n,.d (.int .i64 i),.d (.sl [v])],[(p,.row es)]=>
  (zbq es).bind fun ds=>if o=1000000/\p=1000000/\ds≠[]/\n=ds.length/\0<=i/\i<=ds.length/\zas S (v::ds)=true/\ds.length+1<=LIM then some (.d (.sl (ds.take i.toNat++[v]++ds.drop i.toNat)),[(1000000,.frz none)]) else none
 | [.xsl [],.d (.int .i64 i),.d (.sl [v])],[]=>if i=0/\v.size=S then some (.d (.sl [v]),[]) else none
 | _,_=>none
theorem zalg{S:Nat}{args:List AV}{os os':zd}{r:AV}(h:insF S args os=some (r,os')):
    (∃(ds:List D) (i:Nat) (v:D),args= .osl 1000000 0 ds.length::[D.int .i64 i,D.sl [v]].map .d/\os=[(1000000,.row (ds.map .d))]/\ds≠[]/\i<=ds.length/\(∀e∈v::ds,e.size=S)/\ds.length+1<=LIM/\r= .d (.sl (ds.take i++[v]++ds.drop i))/\os'=[(1000000,.frz none)])\/
    (∃v:D,args=[.xsl [],.d (.int .i64 0),.d (.sl [v])]/\os=[]/\v.size=S/\r= .d (.sl [v])/\os'=[]):=by
 unfold insF at h
 split at h
 ·rename_i o n i v p es;obtain⟨ds,hd,hh⟩:=zabp.1 h;clear h
  split at hh
  ·rename_i hc;obtain⟨rfl,rfl,h1,rfl,h2,h3,h4,h5⟩:=hc
   cases hh
   refine .inl ⟨ds,i.toNat,v,by simp only[zabs,zabq,zaeo h2],by rw[ziu hd],h1,by omega,fun e he=> ?_,h5,rfl,rfl⟩;simpa using (zabO.1 h4) e he
  ·cases hh
 ·rename_i i v
  split at h
  ·rename_i hc;obtain⟨rfl,h1⟩:=hc
   cases h
   exact .inr ⟨v,rfl,rfl,h1,rfl,rfl⟩
  ·cases h
 ·cases h
variable {G:FuncId->Option AFn}
theorem zalm{f:FuncId}{S:Nat}(h:G f=some (.ext (insF S)))(ds:List D)(v:D)(i:Nat)(h0:ds≠[])(hi:i<=ds.length)(hz:∀e∈v::ds,e.size=S)(hL:ds.length+1<=4294967296):
    zi G f [.osl 1000000 0 ds.length,.d (.int .i64 i),.d (.sl [v])] [(1000000,.row (ds.map .d))]=some (.d (.sl (ds.take i++[v]++ds.drop i)),[(1000000,.frz none)]):=by
 rw[zah8 h];show (zbq (ds.map AV.d)).bind _=_;rw[zt4];show (if _ then _ else _)=_
 split
 ·rw[zab5]
 ·rename_i hc;exact absurd ⟨rfl,rfl,h0,rfl,by omega,by omega,zabO.2 fun e he=>by simpa using hz e he,hL⟩ hc
theorem zaln{f:FuncId}{S:Nat}(h:G f=some (.ext (insF S)))(v:D)(hz:v.size=S):
    zi G f [.xsl [],.d (.int .i64 0),.d (.sl [v])] []=some (.d (.sl [v]),[]):=by
 rw[zah8 h];show (if _ then _ else _)=_
 split
 ·rfl
 ·rename_i hc;exact absurd ⟨rfl,hz⟩ hc
end Go.Sim

namespace Go.Sim
open Go (Program Func)
def val{x:Option zg}(c:zg)(_:x=some c):zg:=c
theorem iP(n:Nat):Int.ofNat n=(n:Int):=rfl
theorem iN(n:Nat):Int.negSucc n= -((n:Int)+1):=rfl
def bodies:zg->List zg
 | .seq a b=>bodies a++bodies b
 | .cond _ a b=>bodies a++bodies b
 | .block _ a=>bodies a
 | .loop _ a=>bodies a++[a]
 | _=>[]
def zes:zg->List zg->zg×List zg
 | .seq a b,ls=>(.seq (zes a ls).1 (zes b (zes a ls).2).1,(zes b (zes a ls).2).2)
 | .cond z a b,ls=>(.cond z (zes a ls).1 (zes b (zes a ls).2).1,(zes b (zes a ls).2).2)
 | .block i a,ls=>(.block i (zes a ls).1,(zes a ls).2)
 | .loop ks a,ls=>(match ls.drop (bodies a).length with|x::_=> .loop ks x|[]=> .loop ks a,ls.drop ((bodies a).length+1))
 | c,ls=>(c,ls)
theorem tk{α:Type}{a b:α}(h:a=b:=by kernel_rfl):a=b:=h
theorem zw{P:Program}{f i:Nat}{fn:Func}{c:zg}{rs:List zl}{nt:Nat}{sl:Bool}(hs:zn)(hf:P.funcs[i]? = some fn)(h0:f=i:=by kernel_rfl)(h1:zeJ P f=true:=by kernel_rfl)(h2:fn.body.bind (comp P hs)=some c:=by kernel_rfl)(h3:fn.body.map (zdT fn.ntmps)=some true:=by kernel_rfl)(h4:fn.results.toList.mapM (zhy P)=some rs:=by kernel_rfl)(h5:fn.ntmps=nt:=by kernel_rfl)(h6:nt<=1000000:=by decide):zp P f (.code c rs nt sl):=⟨h1,fn,hs,h0 ▸ hf,h2,h3,h4,h5,h6⟩
theorem fokN{P:Program}{f i:Nat}{fn:Func}{c:zg}{rs:List zl}{nt:Nat}(hs:zn)(hf:P.funcs[i]? = some fn)(h0:f=i:=by kernel_rfl)(h1:zeJ P f=true:=by kernel_rfl)(h2:fn.body.bind (comp P hs)=some c:=by kernel_rfl)(h3:fn.body.map (zdT fn.ntmps)=some true:=by kernel_rfl)(h4:fn.results.toList.mapM (zhy P)=some rs:=by kernel_rfl)(h5:fn.ntmps=nt:=by kernel_rfl)(h6:nt<=1000000:=by decide):zp P f (.nils c rs nt):=⟨h1,fn,hs,h0 ▸ hf,h2,h3,h4,h5,h6⟩
end Go.Sim

namespace Go.Sim
open Go (Program Func Oper)
def oS:Opd->List Nat
 | .t i=>[i]
 | .c _=>[]
def un(a b:List Nat):List Nat:=a++b.filter fun x=> !a.contains x
def lvO(o:zK)(l:List Nat):List Nat:=
 un (un (o.op.opds.flatMap oS) (match o.guard with|some (g,_)=>[g]|none=>[])) (match o.dst with|some d=>l.filter fun x=> !(x==d)|none=>l)
def dsO:List zK->List Nat
 | []=>[]
 | o::l=>match o.dst with|some d=>d::dsO l|none=>dsO l
def lv:zg->List Nat->List (Nat×List Nat)->zg×List Nat
 | .ops g l _,out,_=>(.ops g l out,l.foldr lvO out)
 | .draw g l f _,out,_=>(.draw g l f out,l.foldr lvO out)
 | .seq a b,out,ex=>(.seq (lv a (lv b out ex).2 ex).1 (lv b out ex).1,(lv a (lv b out ex).2 ex).2)
 | .cond c t e,out,ex=>(.cond c (lv t out ex).1 (lv e out ex).1,un (oS c) (un (lv t out ex).2 (lv e out ex).2))
 | .block i b,out,ex=>(.block i (lv b out ((i,out)::ex)).1,(lv b out ((i,out)::ex)).2)
 | .loop _ b,_,ex=>(.loop (lv b [] ex).2 (lv b (lv b [] ex).2 ex).1,(lv b [] ex).2)
 | .exit i _,_,ex=>(.exit i ((look i ex).getD []),(look i ex).getD [])
 | .ret k,_,_=>(.ret k,k)
 | .skip,out,_=>(.skip,out)
def zafu(i:Nat):zg->List Nat
 | .seq a b=>un (zafu i a) (zafu i b)
 | .cond _ a b=>un (zafu i a) (zafu i b)
 | .block _ a=>zafu i a
 | .loop _ a=>zafu i a
 | .exit j k=>if i==j then k else []
 | _=>[]
def fw:zg->List Nat->zg×List Nat
 | .ops g l o,fr=>(.ops g l ((un fr (dsO l)).filter fun x=> !o.contains x),(un fr (dsO l)).filter fun x=>o.contains x)
 | .draw g l f o,fr=>(.draw g l f ((un fr (dsO l)).filter fun x=> !o.contains x),(un fr (dsO l)).filter fun x=>o.contains x)
 | .seq a b,fr=>(.seq (fw a fr).1 (fw b (fw a fr).2).1,(fw b (fw a fr).2).2)
 | .cond c t e,fr=>(.cond c (fw t fr).1 (fw e fr).1,un (fw t fr).2 (fw e fr).2)
 | .block i b,fr=>(.block i (fw b fr).1,un (fw b fr).2 (zafu i b))
 | .loop h b,fr=>(.loop ((un fr (fw b h).2).filter fun x=> !h.contains x) (fw b h).1,[])
 | .exit i k,_=>(.exit i k,[])
 | .ret k,_=>(.ret k,[])
 | .skip,fr=>(.skip,fr)
def zafs(P:Program)(hs:zn):Code->Option zg
 | .skip=>some .skip
 | .region id ops false=>(ops.toList.mapM (ze3 P hs ops)).map fun l=> .ops (zec hs.ghost id) l []
 | .region id ops true=>(ops.toList.mapM (ze3 P hs ops)).map fun l=> .draw (zec hs.ghost id) l ((List.range ops.size).map (zgO ops)) []
 | .seq a b=>match zafs P hs a,zafs P hs b with|some x,some y=>some (.seq x y)|_,_=>none
 | .cond c t e=>match opd c,zafs P hs t,zafs P hs e with|some z,some x,some y=>some (.cond z x y)|_,_,_=>none
 | .block id b=>(zafs P hs b).map (.block id)
 | .loop b=>(zafs P hs b).map (.loop [])
 | .exit id=>some (.exit id [])
 | .ret=>some (.ret hs.ret)
 | _=>none
def rsl:List zl->List Nat
 | []=>[]
 | .c s _ _::l=>s::rsl l
 | .t s::l=>s::rsl l
def zah9(P:Program)(fn:Func)(hs:zn):Option zg:=
 (fn.results.toList.mapM (zhy P)).bind fun rs=>(fn.body.bind (zafs P { hs with ret:=rsl rs })).map fun c=>(fw (lv c (rsl rs) []).1 (List.range (fn.params.size+fn.nfree))).1
def zaib(P:Program)(fn:Func)(hs:zn)(ls:List zg):Option zg:=(zah9 P fn hs).map fun c=>(zes c ls).1
def zaia(P:Program)(fn:Func)(hs:zn)(j:Nat)(ls:List zg):Option zg:=(zah9 P fn hs).bind fun c=>(bodies c)[j]?.map fun b=>(zes b ls).1
def af(P:Program)(sl:Bool)(fn:Func)(c:zg){rs:List zl}{nt:Nat}(_:fn.results.toList.mapM (zhy P)=some rs:=by conv=>lhs;reduce)(_:fn.ntmps=nt:=by conv=>lhs;reduce):AFn:= .code c rs nt sl
theorem fokA{P:Program}{f i:Nat}{fn:Func}{c:zg}{rs:List zl}{nt:Nat}{sl:Bool}(hf:P.funcs[i]? = some fn)(h0:f=i:=by kernel_rfl)(h1:zeJ P f=true:=by kernel_rfl)(h2:fn.body.bind (comp P (zsc fn c))=some c:=by kernel_rfl)(h3:fn.body.map (zdT fn.ntmps)=some true:=by kernel_rfl)(h4:fn.results.toList.mapM (zhy P)=some rs:=by kernel_rfl)(h5:fn.ntmps=nt:=by kernel_rfl)(h6:nt<=1000000:=by decide):zp P f (.code c rs nt sl):=zw (zsc fn c) hf h0 h1 h2 h3 h4 h5 h6
def an(P:Program)(fn:Func)(c:zg){rs:List zl}{nt:Nat}(_:fn.results.toList.mapM (zhy P)=some rs:=by conv=>lhs;reduce)(_:fn.ntmps=nt:=by conv=>lhs;reduce):AFn:= .nils c rs nt
theorem fokB{P:Program}{f i:Nat}{fn:Func}{c:zg}{rs:List zl}{nt:Nat}(hf:P.funcs[i]? = some fn)(h0:f=i:=by kernel_rfl)(h1:zeJ P f=true:=by kernel_rfl)(h2:fn.body.bind (comp P (zsc fn c))=some c:=by kernel_rfl)(h3:fn.body.map (zdT fn.ntmps)=some true:=by kernel_rfl)(h4:fn.results.toList.mapM (zhy P)=some rs:=by kernel_rfl)(h5:fn.ntmps=nt:=by kernel_rfl)(h6:nt<=1000000:=by decide):zp P f (.nils c rs nt):=fokN (zsc fn c) hf h0 h1 h2 h3 h4 h5 h6
end Go.Sim

namespace Go.Proofs.YtcembpbhkcbnhaaGreat
open Go Go.Sim
def wl(fn:Func)(hs:zn)(ls:List zg){c:zg}(_:zaib Tryz.prog fn hs ls=some c:=by conv=>lhs;reduce;try simp only[iP,iN,zadf,zabQ,zacy]):zg:=c
def wv(fn:Func)(hs:zn)(j:Nat)(ls:List zg){c:zg}(_:zaia Tryz.prog fn hs j ls=some c:=by conv=>lhs;reduce;try simp only[iP,iN,zadf,zabQ,zacy]):zg:=c
theorem zanR{fn:Func}{hs:zn}{ls:List zg}{c:zg}(h:zaib Tryz.prog fn hs ls=some c):wl fn hs ls h=c:=rfl
theorem zanX{fn:Func}{hs:zn}{j:Nat}{ls:List zg}{c:zg}(h:zaia Tryz.prog fn hs j ls=some c):wv fn hs j ls h=c:=rfl
attribute [go_sem ↓] zanR zanX
def zaiA:zn:={ghost:=[(18,[136]),(20,[137]),(22,[136]),(23,[136]),(25,[136]),(26,[6000068])],obj:=[(37,[false,false,true]),(44,[false,false,true]),(63,[false,true]),(65,[true,false,true]),(68,[false,true]),(75,[true,false]),(77,[true,false]),(118,[false,false,true]),(126,[false,false,true])]}
@[irreducible] def zagR:=wv Tryz.f3 zaiA 0 []
def zafC:=wl Tryz.f3 zaiA [zagR]
def zain:=af Tryz.prog true Tryz.f3 zafC
@[irreducible] def zaf2:=wv Tryz.f5 {} 0 []
def zah1:=wl Tryz.f5 {} [zaf2]
def zakZ:=af Tryz.prog true Tryz.f5 zah1
def zag6:=wl Tryz.f17 {} []
def zaj4:=af Tryz.prog true Tryz.f17 zag6
def zahd:=wl Tryz.f36 {} []
def zakb:=af Tryz.prog true Tryz.f36 zahd
def zag7:=wl Tryz.f18 {ghost:=[(7,[78])],obj:=[(42,[true,false])]} []
def zaj5:=af Tryz.prog true Tryz.f18 zag7
def zahm:=wl Tryz.f37 {} []
def zakk:=af Tryz.prog true Tryz.f37 zahm
def zafU:=wl Tryz.f38 {acc:=[2,2]} []
def zaiq:=an Tryz.prog Tryz.f38 zafU
def zag9:=wl Tryz.f39 {obj:=[(13,[true,false]),(18,[true,false]),(23,[true,false]),(30,[true,false]),(35,[true,false]),(64,[true,false]),(67,[true,false])]} []
def zaj7:=af Tryz.prog false Tryz.f39 zag9
def zahl:=wl Tryz.f61 {} []
def zakj:=af Tryz.prog true Tryz.f61 zahl
def zahj:=wl Tryz.f62 {obj:=[(72,[true,false,false])]} []
def zakh:=af Tryz.prog false Tryz.f62 zahj
def zahe:=wl Tryz.f95 {} []
def zakc:=af Tryz.prog true Tryz.f95 zahe
def zahf:=wl Tryz.f130 {} []
def zakd:=af Tryz.prog true Tryz.f130 zahf
@[irreducible] def zagU:=wv Tryz.f96 {} 0 []
def zagc:=wl Tryz.f96 {} [zagU]
def zair:=af Tryz.prog true Tryz.f96 zagc
def zahk:=wl Tryz.f97 {} []
def zaki:=af Tryz.prog true Tryz.f97 zahk
def zagJ:AFn:= .ext (insF 6)
def zahg:=wl Tryz.f63 {obj:=[(15,[true,false,true])]} []
def zake:=af Tryz.prog true Tryz.f63 zahg
def zahh:=wl Tryz.f100 {} []
def zakf:=af Tryz.prog true Tryz.f100 zahh
def zahc:=wl Tryz.f101 {} []
def zaka:=af Tryz.prog true Tryz.f101 zahc
def zaiz:zn:={obj:=[(41,[true,false,true])]}
@[irreducible] def zaeW:=wv Tryz.f99 zaiz 0 []
def zafB:=wl Tryz.f99 zaiz [zaeW]
def zaij:=af Tryz.prog true Tryz.f99 zafB
def zagD:=wl Tryz.f64 {obj:=[(102,[true,false])]} []
def zaim:=af Tryz.prog true Tryz.f64 zagD
def zag8:=wl Tryz.f102 {} []
def zaj6:=af Tryz.prog true Tryz.f102 zag8
def zag5:=wl Tryz.f133 {} []
def zaj3:=af Tryz.prog true Tryz.f133 zag5
def zagb:=wl Tryz.f103 {} []
def zaii:=af Tryz.prog true Tryz.f103 zagb
@[irreducible] def zafY:=wv Tryz.f65 {} 0 []
def zagB:=wl Tryz.f65 {} [zafY]
def zaik:=af Tryz.prog true Tryz.f65 zagB
@[irreducible] def zagm:=wv Tryz.f66 {} 0 []
def zag4:=wl Tryz.f66 {} [zagm]
def zaj2:=af Tryz.prog true Tryz.f66 zag4
def zahi:=wl Tryz.f67 {obj:=[(14,[true,false,false])]} []
def zakg:=af Tryz.prog true Tryz.f67 zahi
def zagC:=wl Tryz.f104 {} []
def zail:=af Tryz.prog true Tryz.f104 zagC
def zaha:=wl Tryz.f68 {obj:=[(13,[true,false,true])]} []
def zaj8:=af Tryz.prog true Tryz.f68 zaha
def zahb:=wl Tryz.f105 {obj:=[(27,[true,false])]} []
def zaj9:=af Tryz.prog true Tryz.f105 zahb
@[irreducible] def zaf1:=wv Tryz.f6 {} 0 []
def zahK:=wl Tryz.f6 {} [zaf1]
def zakI:=af Tryz.prog true Tryz.f6 zahK
def zahy:=wl Tryz.f19 {} []
def zakw:=af Tryz.prog true Tryz.f19 zahy
def zahA:=wl Tryz.f20 {} []
def zaky:=af Tryz.prog true Tryz.f20 zahA
def zahI:=wl Tryz.f40 {} []
def zakG:=af Tryz.prog true Tryz.f40 zahI
def zagj:zn:={ghost:=[(22,[170]),(25,[170])]}
@[irreducible] def zafZ:=wv Tryz.f41 zagj 0 []
@[irreducible] def zafi:=wv Tryz.f41 zagj 1 []
@[irreducible] def zafj:=wv Tryz.f41 zagj 2 []
def zafT:=wl Tryz.f41 zagj [zafZ,zafi,zafj]
def zaip:=af Tryz.prog true Tryz.f41 zafT
@[irreducible] def zago:=wv Tryz.f69 {} 0 []
def zahF:=wl Tryz.f69 {} [zago]
def zakD:=af Tryz.prog true Tryz.f69 zahF
@[irreducible] def zagT:=wv Tryz.f106 {} 0 []
def zahC:=wl Tryz.f106 {} [zagT]
def zakA:=af Tryz.prog true Tryz.f106 zahC
@[irreducible] def zae8:=wv Tryz.f70 {} 0 []
def zahD:=wl Tryz.f70 {} [zae8]
def zakB:=af Tryz.prog true Tryz.f70 zahD
def zahx:=wl Tryz.f73 {} []
def zakv:=af Tryz.prog true Tryz.f73 zahx
def zahG:=wl Tryz.f74 {ghost:=[(2,[14])]} []
def zakE:=af Tryz.prog true Tryz.f74 zahG
def zahH:=wl Tryz.f71 {} []
def zakF:=af Tryz.prog true Tryz.f71 zahH
def zahB:=wl Tryz.f107 {} []
def zakz:=af Tryz.prog true Tryz.f107 zahB
def zahE:=wl Tryz.f75 {} []
def zakC:=af Tryz.prog true Tryz.f75 zahE
@[irreducible] def zagn:=wv Tryz.f72 {} 0 []
def zahw:=wl Tryz.f72 {} [zagn]
def zaku:=af Tryz.prog true Tryz.f72 zahw
def zagS:zg:=
 (.seq (.seq (.ops [] [oM 34 5,oP 35 (.fad false 3 1 (.t 2)),oP 36 (.ld false 1 (.t 35)),oP 37 (.len (.t 36)),oP 38 (.bin .lss (.t 34) (.t 37))] [34,35,36,37])
 (.cond (.t 38) .skip (.exit 0 [])))
 (.seq (.block 1 (.seq (.draw [] [oP 41 (.fad false 3 1 (.t 2)),oP 42 (.ld false 1 (.t 41)),oM 43 5,oP 44 (.iad 6 (.t 42) (.t 43)),oP 45 (.ld true 6 (.t 44)),oP 46 (.fad false 3 1 (.t 3)),oP 47 (.ld false 1 (.t 46)),oM 48 5,oP 49 (.iad 6 (.t 47) (.t 48)),oP 50 (.ld true 6 (.t 49)),oP 51 (.eqs true 6 [(0,0),(1,0),(2,0),(3,0),(4,0),(5,0)] (.t 45) (.t 50))] [[],[],[0,1],[],[],[0,1,2,3,4],[0,1,2,3,4],[0,1,2,3,4,5,6],[0,1,2,3,4],[0,1,2,3,4],[]] [38,41,42,43,44,45,46,47,48,49,50])
 (.cond (.t 51) (.seq (.ops [] [oP 4 (.mv (.c (.d (.bool false))))] [2,3,5,51])
 (.ret [4])) .skip)))
 (.ops [] [oM 39 5,oP 40 (.bin .add (.t 39) (kI 1)),oM 5 40] [39,40,51])))
def zahz:zg:=
 (.seq (.ops [] [oP 2 (.box (.t 0)),oP 3 (.box (.t 1)),oP 4 (.mv (.c (.d (.bool false))))] [0,1,4])
 (.seq (.seq (.ops [] [oP 6 (.fad false 0 1 (.t 2)),oP 7 (.ld false 1 (.t 6)),oP 8 (.fad false 0 1 (.t 3)),oP 9 (.ld false 1 (.t 8)),oP 10 (.bin .neq (.t 7) (.t 9)),oM 11 10,oQ 12 (.fad false 1 1 (.t 2)) 11 false,oQ 13 (.ld false 1 (.t 12)) 11 false,oQ 14 (.fad false 1 1 (.t 3)) 11 false,oQ 15 (.ld false 1 (.t 14)) 11 false,oQ 16 (.bin .neq (.t 13) (.t 15)) 11 false,oP 17 (.pick (.t 11) (.c (.d (.bool true))) (.t 16)),oM 18 17,oQ 19 (.fad false 2 1 (.t 2)) 18 false,oQ 20 (.ld false 1 (.t 19)) 18 false,oQ 21 (.fad false 2 1 (.t 3)) 18 false,oQ 22 (.ld false 1 (.t 21)) 18 false,oQ 23 (.bin .neq (.t 20) (.t 22)) 18 false,oP 24 (.pick (.t 18) (.c (.d (.bool true))) (.t 23)),oM 25 24,oQ 26 (.fad false 3 1 (.t 2)) 25 false,oQ 27 (.ld false 1 (.t 26)) 25 false,oQ 28 (.len (.t 27)) 25 false,oQ 29 (.fad false 3 1 (.t 3)) 25 false,oQ 30 (.ld false 1 (.t 29)) 25 false,oQ 31 (.len (.t 30)) 25 false,oQ 32 (.bin .neq (.t 28) (.t 31)) 25 false,oP 33 (.pick (.t 25) (.c (.d (.bool true))) (.t 32))] [6,7,8,9,10,11,12,13,14,15,16,17,18,19,20,21,22,23,24,25,26,27,28,29,30,31,32])
 (.cond (.t 33) (.seq (.ops [] [oP 4 (.mv (.c (.d (.bool false))))] [2,3,33])
 (.ret [4])) .skip))
 (.seq (.seq (.ops [] [oP 5 (.mv (kI 0))] [33])
 (.block 0 (.loop [] zagS)))
 (.seq (.ops [] [oP 4 (.mv (.c (.d (.bool true))))] [2,3,5,38])
 (.ret [4])))))
def zakx:=af Tryz.prog true Tryz.f7 zahz
def zDU:=wl Tryz.f8 {} []
def zvx:=af Tryz.prog false Tryz.f8 zDU
def zD0:=wl Tryz.f9 {obj:=[(9,[true]),(12,[true,false,true]),(13,[false,false,true]),(20,[false,true])]} []
def zvH:=af Tryz.prog true Tryz.f9 zD0
def zjN:=wl Tryz.f14 {obj:=[(5,[true,false,false]),(7,[true,false,false]),(9,[true,false,false]),(11,[true,false,false]),(16,[true,false,false]),(19,[true,false]),(23,[true,false]),(29,[true,false]),(35,[true,false])]} []
def zvG:=af Tryz.prog true Tryz.f14 zjN
def zDY:=wl Tryz.f30 {obj:=[(13,[true,false])]} []
def zvD:=af Tryz.prog true Tryz.f30 zDY
def zDW:=wl Tryz.f11 {obj:=[(9,[true])]} []
def zvB:=af Tryz.prog true Tryz.f11 zDW
def zup:=wl Tryz.f23 {} []
def zvE:=af Tryz.prog true Tryz.f23 zup
def zzL:zn:={obj:=[(18,[true,true])],acc:=[5]}
@[irreducible] def zmE:=wv Tryz.f21 zzL 0 []
def zDZ:=wl Tryz.f21 zzL [zmE]
def zvF:=af Tryz.prog true Tryz.f21 zDZ
def zDV:=wl Tryz.f42 {} []
def zvA:=af Tryz.prog true Tryz.f42 zDV
def zrZ:zn:={ghost:=[(16,[4000054]),(28,[4000103])],obj:=[(9,[true,false]),(14,[true,false]),(17,[true,false]),(24,[true,false]),(28,[true,false]),(31,[true,false,false]),(33,[true,false]),(43,[true,false,false]),(52,[true]),(62,[true,false,false]),(65,[true,false]),(72,[true,false,false]),(81,[true,false]),(85,[true,false,false]),(93,[true,false]),(96,[true,false]),(98,[true,false]),(109,[true,false]),(112,[true,false,false]),(118,[true,false,false]),(121,[true,false]),(125,[false,true])]}
@[irreducible] def zmD:=wv Tryz.f43 zrZ 0 []
@[irreducible] def zgZ:=wv Tryz.f43 zrZ 1 []
def zd5:=wl Tryz.f43 zrZ [zmD,zgZ]
def zvz:=af Tryz.prog true Tryz.f43 zd5
def zDX:=wl Tryz.f76 {obj:=[(9,[true,false])]} []
def zvC:=af Tryz.prog true Tryz.f76 zDX
def zzK:zn:={ghost:=[(6,[15])],obj:=[(6,[true,false]),(17,[true,false])]}
@[irreducible] def zAA:=wv Tryz.f77 zzK 0 []
def zqK:=wl Tryz.f77 zzK [zAA]
def zvy:=af Tryz.prog true Tryz.f77 zqK
def zD2:=wl Tryz.f78 {} []
def zvI:=af Tryz.prog true Tryz.f78 zD2
def zAo:zn:={obj:=[(13,[false,true]),(36,[false,false,true])]}
@[irreducible] def zA0:=wv Tryz.f13 zAo 0 []
def zGo:=wl Tryz.f13 zAo [zA0]
def zyZ:=af Tryz.prog true Tryz.f13 zGo
def zGk:=wl Tryz.f22 {obj:=[(8,[false,true])]} []
def zyT:=af Tryz.prog true Tryz.f22 zGk
def zAd:zn:={obj:=[(64,[false,false,true]),(84,[false,true]),(106,[false,false,false,true]),(127,[false,true])]}
@[irreducible] def zAU:=wv Tryz.f44 zAd 0 []
def zuN:=wl Tryz.f44 zAd [zAU]
def zxv:=af Tryz.prog true Tryz.f44 zuN
def zuP:=wl Tryz.f79 {} []
def zxD:=af Tryz.prog true Tryz.f79 zuP
def zr6:zn:={ghost:=[(6,[4000042])]}
@[irreducible] def zAN:=wv Tryz.f80 zr6 0 []
@[irreducible] def zAO:=wv Tryz.f80 zr6 1 []
def zuJ:=wl Tryz.f80 zr6 [zAN,zAO]
def zxd:=af Tryz.prog true Tryz.f80 zuJ
def zEH:=wl Tryz.f81 {} []
def zwI:=af Tryz.prog true Tryz.f81 zEH
def zut:=wl Tryz.f108 {} []
def zv8:=af Tryz.prog true Tryz.f108 zut
def zEM:=wl Tryz.f82 {} []
def zwN:=af Tryz.prog true Tryz.f82 zEM
def zuI:=wl Tryz.f109 {} []
def zwZ:=af Tryz.prog true Tryz.f109 zuI
def zEZ:=wl Tryz.f83 {} []
def zw3:=af Tryz.prog true Tryz.f83 zEZ
def zsa:zn:={ghost:=[(24,[4000090])],obj:=[(44,[false,false,true]),(57,[false,false,true]),(88,[false,false,true]),(95,[false,false,true])]}
@[irreducible] def zAZ:=wv Tryz.f29 zsa 0 []
@[irreducible] def zg1:=wv Tryz.f29 zsa 1 []
def zjP:=wl Tryz.f29 zsa [zAZ,zg1]
def zyY:=af Tryz.prog true Tryz.f29 zjP
def zAm:zn:={ghost:=[(7,[6])],acc:=[3]}
@[irreducible] def zAY:=wv Tryz.f45 zAm 0 []
def zGl:=wl Tryz.f45 zAm [zAY]
def zyU:=af Tryz.prog false Tryz.f45 zGl
def zGm:=wl Tryz.f55 {obj:=[(23,[false,false,true])]} []
def zyV:=af Tryz.prog true Tryz.f55 zGm
def zAn:zn:={ghost:=[(8,[82])],obj:=[(24,[false,false,false,true])]}
@[irreducible] def zmN:=wv Tryz.f48 zAn 0 []
def zq3:=wl Tryz.f48 zAn [zmN]
def zyX:=af Tryz.prog true Tryz.f48 zq3
def zGg:=wl Tryz.f86 {obj:=[(12,[false,true]),(25,[false,false,false,true]),(35,[false,false,false,true]),(47,[false,false,false,true]),(57,[false,false,false,true]),(67,[false,false,false,true]),(77,[false,false,false,true]),(87,[false,false,false,true]),(97,[false,false,false,true]),(107,[false,false,false,true]),(118,[false,false,false,true]),(128,[false,false,false,true]),(133,[false,true])]} []
def zyR:=af Tryz.prog true Tryz.f86 zGg
def zuY:=wl Tryz.f111 {} []
def zyb:=af Tryz.prog true Tryz.f111 zuY
def zFO:=wl Tryz.f112 {obj:=[(26,[false,true]),(46,[false,false,false,true]),(52,[false,false,false,true]),(67,[false,false,false,false,true]),(74,[false,true]),(103,[false,false,false,false,true]),(108,[false,false,false,true]),(117,[false,true]),(125,[false,true]),(145,[false,false,false,true]),(152,[false,false,false,true])]} []
def zyi:=af Tryz.prog true Tryz.f112 zFO
def zFK:=wl Tryz.f134 {} []
def zyd:=af Tryz.prog true Tryz.f134 zFK
def zFg:=wl Tryz.f135 {} []
def zxq:=af Tryz.prog true Tryz.f135 zFg
def zuX:=wl Tryz.f136 {} []
def zya:=af Tryz.prog true Tryz.f136 zuX
def zqV:=wl Tryz.f137 {} []
def zx5:=af Tryz.prog true Tryz.f137 zqV
def zFG:=wl Tryz.f85 {} []
def zx4:=af Tryz.prog true Tryz.f85 zFG
def zFf:=wl Tryz.f138 {} []
def zxo:=af Tryz.prog true Tryz.f138 zFf
def zEa:=wl Tryz.f140 {} []
def zvT:=af Tryz.prog true Tryz.f140 zEa
@[irreducible] def zmG:=wv Tryz.f127 {} 0 []
def zl0:=wl Tryz.f127 {} [zmG]
def zvP:=af Tryz.prog false Tryz.f127 zl0
@[irreducible] def zAB:=wv Tryz.f168 {} 0 []
def zEb:=wl Tryz.f168 {} [zAB]
def zvU:=af Tryz.prog true Tryz.f168 zEb
def zuV:=wl Tryz.f139 {} []
def zx2:=af Tryz.prog true Tryz.f139 zuV
def zFL:=wl Tryz.f141 {obj:=[(10,[false,true]),(22,[false,false,false,true])]} []
def zye:=af Tryz.prog true Tryz.f141 zFL
def zFi:=wl Tryz.f144 {} []
def zxs:=af Tryz.prog true Tryz.f144 zFi
@[irreducible] def ziU:=wv Tryz.f171 {} 0 []
def zqP:=wl Tryz.f171 {} [ziU]
def zxe:=af Tryz.prog true Tryz.f171 zqP
@[irreducible] def zAP:=wv Tryz.f183 {} 0 []
@[irreducible] def zsD:=wv Tryz.f183 {} 1 []
@[irreducible] def zAQ:=wv Tryz.f183 {} 2 []
@[irreducible] def zAR:=wv Tryz.f183 {} 3 []
@[irreducible] def zsE:=wv Tryz.f183 {} 4 []
@[irreducible] def zsF:=wv Tryz.f183 {} 5 [zsE]
def zE9:=wl Tryz.f183 {} [zAP,zsD,zAQ,zAR,zsE,zsF]
def zxg:=af Tryz.prog true Tryz.f183 zE9
@[irreducible] def zAS:=wv Tryz.f182 {} 0 []
def zFa:=wl Tryz.f182 {} [zAS]
def zxh:=af Tryz.prog true Tryz.f182 zFa
def zFM:=wl Tryz.f147 {obj:=[(12,[false,false,true])]} []
def zyg:=af Tryz.prog true Tryz.f147 zFM
def zqU:=wl Tryz.f184 {obj:=[(10,[false,true])]} []
def zxN:=af Tryz.prog true Tryz.f184 zqU
@[irreducible] def zAV:=wv Tryz.f224 {} 0 []
def zqT:=wl Tryz.f224 {} [zAV]
def zxJ:=af Tryz.prog true Tryz.f224 zqT
def zuZ:=wl Tryz.f142 {obj:=[(21,[false,false,false,false,true])]} []
def zyc:=af Tryz.prog true Tryz.f142 zuZ
def zuT:=wl Tryz.f172 {obj:=[(19,[false,false,false,false,true])]} []
def zxO:=af Tryz.prog true Tryz.f172 zuT
def zFB:=wl Tryz.f220 {obj:=[(28,[false,false,false,true]),(42,[false,false,true]),(48,[false,false,true]),(57,[false,false,false,true]),(65,[false,false,true]),(89,[false,false,true]),(98,[false,false,false,true]),(106,[false,false,true]),(115,[false,false,false,true]),(126,[false,false,false,true]),(140,[false,false,true])]} []
def zxX:=af Tryz.prog true Tryz.f220 zFB
def zFr:=wl Tryz.f250 {} []
def zxK:=af Tryz.prog true Tryz.f250 zFr
def zFm:=wl Tryz.f277 {obj:=[(32,[false,false,false,true])]} []
def zxB:=af Tryz.prog true Tryz.f277 zFm
def zFp:=wl Tryz.f295 {} []
def zxH:=af Tryz.prog true Tryz.f295 zFp
def zFk:=wl Tryz.f296 {} []
def zxw:=af Tryz.prog true Tryz.f296 zFk
def zFo:=wl Tryz.f297 {ghost:=[(5,[36])]} []
def zxE:=af Tryz.prog true Tryz.f297 zFo
def zFn:=wl Tryz.f278 {obj:=[(31,[false,false,false,true])]} []
def zxC:=af Tryz.prog true Tryz.f278 zFn
def zFw:=wl Tryz.f237 {} []
def zxS:=af Tryz.prog true Tryz.f237 zFw
@[irreducible] def zsK:=wv Tryz.f251 {} 0 []
def zFA:=wl Tryz.f251 {} [zsK]
def zxW:=af Tryz.prog true Tryz.f251 zFA
def zFz:=wl Tryz.f252 {obj:=[(76,[false,false,false,false,true]),(95,[false,false,true])]} []
def zxV:=af Tryz.prog true Tryz.f252 zFz
def zFj:=wl Tryz.f154 {} []
def zxu:=af Tryz.prog true Tryz.f154 zFj
def zuQ:=wl Tryz.f190 {} []
def zxF:=af Tryz.prog true Tryz.f190 zuQ
def zFb:=wl Tryz.f279 {} []
def zxi:=af Tryz.prog true Tryz.f279 zFb
def zFl:=wl Tryz.f280 {ghost:=[(7,[88])]} []
def zxz:=af Tryz.prog true Tryz.f280 zFl
def zuR:=wl Tryz.f298 {} []
def zxG:=af Tryz.prog true Tryz.f298 zuR
def zFy:=wl Tryz.f253 {obj:=[(23,[false,true]),(28,[false,false,true]),(50,[false,false,true])]} []
def zxU:=af Tryz.prog true Tryz.f253 zFy
def zFh:=wl Tryz.f281 {} []
def zxr:=af Tryz.prog true Tryz.f281 zFh
def zuM:=wl Tryz.f282 {} []
def zxt:=af Tryz.prog true Tryz.f282 zuM
def zuS:=wl Tryz.f254 {} []
def zxL:=af Tryz.prog true Tryz.f254 zuS
def zFC:=wl Tryz.f255 {obj:=[(36,[false,false,false,true]),(49,[false,false,false,false,true]),(82,[false,false,true]),(85,[false,false,true])]} []
def zxY:=af Tryz.prog true Tryz.f255 zFC
def zqR:=wl Tryz.f283 {} []
def zxx:=af Tryz.prog true Tryz.f283 zqR
def zE3:=wl Tryz.f234 {} []
def zw7:=af Tryz.prog true Tryz.f234 zE3
@[irreducible] def zsB:=wv Tryz.f246 {} 0 []
@[irreducible] def zsC:=wv Tryz.f246 {} 1 []
def zE4:=wl Tryz.f246 {} [zsB,zsC]
def zw8:=af Tryz.prog true Tryz.f246 zE4
def zEj:=wl Tryz.f221 {} []
def zv3:=af Tryz.prog true Tryz.f221 zEj
def zEk:=wl Tryz.f258 {} []
def zv5:=af Tryz.prog true Tryz.f258 zEk
@[irreducible] def zAC:=wv Tryz.f222 {} 0 []
def zEd:=wl Tryz.f222 {} [zAC]
def zvW:=af Tryz.prog true Tryz.f222 zEd
def zqS:=wl Tryz.f284 {ghost:=[(10,[86])]} []
def zxy:=af Tryz.prog true Tryz.f284 zqS
@[irreducible] def zsy:=wv Tryz.f226 {} 0 []
@[irreducible] def zsz:=wv Tryz.f226 {} 1 []
def zET:=wl Tryz.f226 {} [zsy,zsz]
def zwU:=af Tryz.prog true Tryz.f226 zET
def zsm:zg:=
 (.seq (.seq (.ops [] [oM 42 4,oM 43 3,oP 44 (.bin .lss (.t 42) (.t 43))] [42,43])
 (.cond (.t 44) .skip (.exit 0 [1])))
 (.seq (.block 1 (.seq (.draw [] [oP 47 (.fad false 0 1 (.t 1)),oP 48 (.ld false 1 (.t 47)),oP 49 (.fad false 1 1 (.t 1)),oP 50 (.ld false 1 (.t 49)),oM 51 4,oP 52 (.bin .add (.t 50) (.t 51)),oM 53 3,oP 54 (.bin .rem (.t 52) (.t 53)),oP 55 (.iad 7 (.t 48) (.t 54)),oP 56 (.ld true 7 (.t 55)),oP 57 (.build [aI 0,aI 0,aI 0,aI 0,aI 0,aI 0,.d (.str [])] []),oP 58 (.eqs true 7 [(0,0),(1,0),(2,0),(3,0),(4,0),(5,0),(6,2)] (.t 56) (.t 57))] [[],[],[0,1],[0,1],[0,1,2,3],[0,1],[0,1,2,3,4,5],[0,1],[],[],[0,1,2,3,4,5,6,7,8,9],[]] [44,47,48,49,50,51,52,53,54,55,56,57])
 (.cond (.t 58) (.seq (.ops [] [oP 2 (.mv (kI 7))] [1,3,4,58])
 (.ret [2])) .skip)))
 (.ops [] [oM 45 4,oP 46 (.bin .add (.t 45) (kI 1)),oM 4 46] [45,46,58])))
def zsn:zg:=
 (.seq (.seq (.ops [] [oM 61 6,oM 62 5,oP 63 (.len (.t 62)),oP 64 (.bin .lss (.t 61) (.t 63))] [61,62,63])
 (.cond (.t 64) .skip (.exit 2 [5])))
 (.seq (.block 3 (.seq (.ops [] [oM 67 5,oM 68 6,oP 69 (.iad 7 (.t 67) (.t 68)),oP 70 (.ld true 7 (.t 69)),oP 71 (.call 221 [] [.t 70]),oM 7 71] [64,67,68,69,70,71])
 (.seq (.ops [] [oM 72 7,oP 73 (.bin .neq (.t 72) (kI 0))] [72])
 (.cond (.t 73) (.seq (.ops [] [oM 74 7,oM 2 74] [5,6,7,73,74])
 (.ret [2])) .skip))))
 (.ops [] [oM 65 6,oP 66 (.bin .add (.t 65) (kI 1)),oM 6 66] [7,65,66,73])))
def zso:zg:=
 (.seq (.seq (.ops [] [oM 75 8,oM 76 5,oP 77 (.len (.t 76)),oP 78 (.bin .lss (.t 75) (.t 77))] [75,76,77])
 (.cond (.t 78) .skip (.exit 4 [])))
 (.seq (.block 5 (.seq (.ops [] [oM 81 5,oM 82 5,oM 83 8,oP 84 (.iad 7 (.t 82) (.t 83)),oP 85 (.fad false 0 1 (.t 84)),oP 86 (.ld false 1 (.t 85)),oP 87 (.call 222 [] [.t 81,.t 86]),oM 88 8,oP 89 (.bin .neq (.t 87) (.t 88))] [78,81,82,83,84,85,86,87,88])
 (.cond (.t 89) (.seq (.ops [] [oP 2 (.mv (kI 10))] [5,8,89])
 (.ret [2])) .skip)))
 (.ops [] [oM 79 8,oP 80 (.bin .add (.t 79) (kI 1)),oM 8 80] [79,80,89])))
def zuv:zg:=
 (.seq (.ops [] [oP 1 (.box (.t 0)),oP 2 (.mv (kI 0))] [0,2])
 (.seq (.ops [] [oP 9 (.fad false 0 1 (.t 1)),oP 10 (.ld false 1 (.t 9)),oP 11 (.len (.t 10)),oM 3 11] [9,10,11])
 (.seq (.seq (.ops [] [oM 12 3,oP 13 (.bin .lss (.t 12) (kI 1)),oM 14 13,oQ 15 (.mv (.t 3)) 14 false,oQ 16 (.bin .gtr (.t 15) (kI 12)) 14 false,oP 17 (.pick (.t 14) (.c (.d (.bool true))) (.t 16)),oM 18 17,oQ 19 (.fad false 1 1 (.t 1)) 18 false,oQ 20 (.ld false 1 (.t 19)) 18 false,oQ 21 (.bin .lss (.t 20) (kI 0)) 18 false,oP 22 (.pick (.t 18) (.c (.d (.bool true))) (.t 21)),oM 23 22,oQ 24 (.fad false 1 1 (.t 1)) 23 false,oQ 25 (.ld false 1 (.t 24)) 23 false,oQ 26 (.mv (.t 3)) 23 false,oQ 27 (.bin .geq (.t 25) (.t 26)) 23 false,oP 28 (.pick (.t 23) (.c (.d (.bool true))) (.t 27)),oM 29 28,oQ 30 (.fad false 2 1 (.t 1)) 29 false,oQ 31 (.ld false 1 (.t 30)) 29 false,oQ 32 (.bin .lss (.t 31) (kI 0)) 29 false,oP 33 (.pick (.t 29) (.c (.d (.bool true))) (.t 32)),oM 34 33,oQ 35 (.fad false 2 1 (.t 1)) 34 false,oQ 36 (.ld false 1 (.t 35)) 34 false,oQ 37 (.mv (.t 3)) 34 false,oQ 38 (.bin .gtr (.t 36) (.t 37)) 34 false,oP 39 (.pick (.t 34) (.c (.d (.bool true))) (.t 38))] [12,13,14,15,16,17,18,19,20,21,22,23,24,25,26,27,28,29,30,31,32,33,34,35,36,37,38])
 (.cond (.t 39) (.seq (.ops [] [oP 2 (.mv (kI 1))] [1,3,39])
 (.ret [2])) .skip))
 (.seq (.seq (.ops [] [oP 40 (.fad false 2 1 (.t 1)),oP 41 (.ld false 1 (.t 40)),oM 4 41] [39,40,41])
 (.block 0 (.loop [] zsm)))
 (.seq (.ops [] [oP 59 (.ld true 3 (.t 1)),oP 60 (.call 261 [] [.t 59]),oM 5 60] [1,3,4,44,59,60])
 (.seq (.seq (.ops [] [oP 6 (.mv (kI 0))] [])
 (.block 2 (.loop [] zsn)))
 (.seq (.seq (.ops [] [oP 8 (.mv (kI 0))] [6,64])
 (.block 4 (.loop [] zso)))
 (.seq (.ops [] [oP 2 (.mv (kI 0))] [5,8,78])
 (.ret [2])))))))))
def zwc:=af Tryz.prog true Tryz.f265 zuv
def zzR:zn:={acc:=[3]}
@[irreducible] def zsp:=wv Tryz.f261 zzR 0 []
def zuw:=wl Tryz.f261 zzR [zsp]
def zwd:=af Tryz.prog false Tryz.f261 zuw
@[irreducible] def zAK:=wv Tryz.f266 {} 0 []
@[irreducible] def zss:=wv Tryz.f266 {} 1 []
def zEv:=wl Tryz.f266 {} [zAK,zss]
def zww:=af Tryz.prog true Tryz.f266 zEv
@[irreducible] def zAD:=wv Tryz.f289 {} 0 []
@[irreducible] def zAE:=wv Tryz.f289 {} 1 []
@[irreducible] def zAF:=wv Tryz.f289 {} 2 []
def zuz:=wl Tryz.f289 {} [zAD,zAE,zAF]
def zwj:=af Tryz.prog true Tryz.f289 zuz
def zEs:=wl Tryz.f292 {} []
def zwo:=af Tryz.prog true Tryz.f292 zEs
@[irreducible] def zAG:=wv Tryz.f290 {} 0 []
def zuA:=wl Tryz.f290 {} [zAG]
def zwn:=af Tryz.prog true Tryz.f290 zuA
def zEq:=wl Tryz.f300 {} []
def zwk:=af Tryz.prog true Tryz.f300 zEq
@[irreducible] def zAL:=wv Tryz.f268 {} 0 []
def zEw:=wl Tryz.f268 {} [zAL]
def zwx:=af Tryz.prog true Tryz.f268 zEw
def zEz:=wl Tryz.f205 {} []
def zwA:=af Tryz.prog true Tryz.f205 zEz
def zEP:=wl Tryz.f240 {} []
def zwQ:=af Tryz.prog true Tryz.f240 zEP
def zEm:=wl Tryz.f272 {} []
def zv7:=af Tryz.prog true Tryz.f272 zEm
def zz3:zn:={acc:=[3]}
@[irreducible] def zsw:=wv Tryz.f241 zz3 0 []
def zEJ:=wl Tryz.f241 zz3 [zsw]
def zwK:=af Tryz.prog true Tryz.f241 zEJ
def zFE:=wl Tryz.f238 {obj:=[(14,[false,false,true]),(17,[false,true])]} []
def zx0:=af Tryz.prog true Tryz.f238 zFE
def zFx:=wl Tryz.f271 {obj:=[(9,[false,true]),(19,[false,false,true])]} []
def zxT:=af Tryz.prog true Tryz.f271 zFx
def zFq:=wl Tryz.f294 {} []
def zxI:=af Tryz.prog true Tryz.f294 zFq
def zFv:=wl Tryz.f256 {obj:=[(15,[false,true]),(28,[false,false,true]),(42,[false,false,false,true]),(60,[false,false,true])]} []
def zxR:=af Tryz.prog true Tryz.f256 zFv
def zhs:=wl Tryz.f285 {ghost:=[(21,[144]),(28,[144])]} []
def zxb:=af Tryz.prog true Tryz.f285 zhs
def zqQ:=wl Tryz.f286 {} []
def zxp:=af Tryz.prog true Tryz.f286 zqQ
def zFD:=wl Tryz.f257 {obj:=[(59,[false,false,false,false,true]),(79,[false,true])]} []
def zxZ:=af Tryz.prog true Tryz.f257 zFD
@[irreducible] def zAW:=wv Tryz.f287 {} 0 []
def zFt:=wl Tryz.f287 {} [zAW]
def zxP:=af Tryz.prog true Tryz.f287 zFt
def zFc:=wl Tryz.f288 {} []
def zxj:=af Tryz.prog true Tryz.f288 zFc
@[irreducible] def zst:=wv Tryz.f299 {} 0 []
@[irreducible] def zsu:=wv Tryz.f299 {} 1 []
def zED:=wl Tryz.f299 {} [zst,zsu]
def zwE:=af Tryz.prog true Tryz.f299 zED
def zEK:=wl Tryz.f186 {} []
def zwL:=af Tryz.prog true Tryz.f186 zEK
def zuG:=wl Tryz.f242 {} []
def zwV:=af Tryz.prog true Tryz.f242 zuG
def zuH:=wl Tryz.f229 {} []
def zwY:=af Tryz.prog true Tryz.f229 zuH
def zEe:=wl Tryz.f235 {} []
def zvY:=af Tryz.prog true Tryz.f235 zEe
def zEi:=wl Tryz.f230 {} []
def zv2:=af Tryz.prog true Tryz.f230 zEi
def zqW:=wl Tryz.f143 {obj:=[(19,[false,true]),(28,[false,false,true]),(30,[false,false,true]),(55,[false,false,true]),(65,[false,false,true]),(100,[false,false,true]),(118,[false,false,true])]} []
def zyj:=af Tryz.prog true Tryz.f143 zqW
def zFu:=wl Tryz.f173 {} []
def zxQ:=af Tryz.prog false Tryz.f173 zFu
def zEN:=wl Tryz.f152 {} []
def zwO:=af Tryz.prog true Tryz.f152 zEN
def zFJ:=wl Tryz.f162 {obj:=[(9,[false,false,true])]} []
def zx9:=af Tryz.prog true Tryz.f162 zFJ
def zr7:zn:={obj:=[(79,[false,false,true]),(86,[false,false,true]),(90,[false,false,true])]}
@[irreducible] def zsI:=wv Tryz.f200 zr7 0 []
@[irreducible] def zsJ:=wv Tryz.f200 zr7 1 [zsI]
def zFs:=wl Tryz.f200 zr7 [zsI,zsJ]
def zxM:=af Tryz.prog true Tryz.f200 zFs
def zFN:=wl Tryz.f174 {} []
def zyh:=af Tryz.prog false Tryz.f174 zFN
def zEQ:=wl Tryz.f175 {} []
def zwR:=af Tryz.prog true Tryz.f175 zEQ
def zuU:=wl Tryz.f176 {} []
def zx1:=af Tryz.prog true Tryz.f176 zuU
def zFF:=wl Tryz.f177 {} []
def zx3:=af Tryz.prog true Tryz.f177 zFF
def zD9:=wl Tryz.f179 {} []
def zvS:=af Tryz.prog true Tryz.f179 zD9
def zus:=wl Tryz.f178 {} []
def zvX:=af Tryz.prog true Tryz.f178 zus
def zEO:=wl Tryz.f180 {} []
def zwP:=af Tryz.prog true Tryz.f180 zEO
def zEn:=wl Tryz.f223 {obj:=[(22,[false,false,false,true])]} []
def zv9:=af Tryz.prog true Tryz.f223 zEn
def zqN:=wl Tryz.f259 {} []
def zwe:=af Tryz.prog true Tryz.f259 zqN
@[irreducible] def zsq:=wv Tryz.f260 {} 0 []
def zux:=wl Tryz.f260 {} [zsq]
def zwf:=af Tryz.prog true Tryz.f260 zux
def zFQ:=wl Tryz.f113 {obj:=[(24,[false,true]),(34,[false,true]),(63,[false,false,false,true]),(72,[false,false,false,false,true]),(77,[false,false,false,true]),(86,[false,true]),(94,[false,true]),(112,[false,false,false,true]),(119,[false,false,false,true]),(125,[false,true]),(127,[false,false,false,true])]} []
def zyl:=af Tryz.prog true Tryz.f113 zFQ
def zFP:=wl Tryz.f145 {} []
def zyk:=af Tryz.prog true Tryz.f145 zFP
@[irreducible] def zAM:=wv Tryz.f181 {} 0 []
def zE7:=wl Tryz.f181 {} [zAM]
def zxc:=af Tryz.prog true Tryz.f181 zE7
def zE8:=wl Tryz.f146 {} []
def zxf:=af Tryz.prog true Tryz.f146 zE8
def zr8:zn:={ghost:=[(17,[4000076]),(19,[6500076]),(28,[4000137]),(31,[6500137])],obj:=[(23,[false,true]),(32,[false,false,true]),(34,[false,false,true]),(48,[false,false,true]),(53,[false,true]),(61,[false,false,true]),(154,[false,false,true])],acc:=[10]}
@[irreducible] def zkp:=wv Tryz.f148 zr8 0 []
@[irreducible] def zkq:=wv Tryz.f148 zr8 1 []
def zFR:=wl Tryz.f148 zr8 [zkp,zkq]
def zym:=af Tryz.prog true Tryz.f148 zFR
def zFT:=wl Tryz.f185 {obj:=[(28,[false,false,false,false,true]),(47,[false,false,false,false,false,false,true])]} []
def zyo:=af Tryz.prog true Tryz.f185 zFT
def zz2:zn:={obj:=[(41,[false,false,false,true]),(55,[false,false,true]),(65,[false,false,true])]}
@[irreducible] def zsv:=wv Tryz.f212 zz2 0 []
def zEG:=wl Tryz.f212 zz2 [zsv]
def zwH:=af Tryz.prog true Tryz.f212 zEG
def zEW:=wl Tryz.f244 {} []
def zw0:=af Tryz.prog true Tryz.f244 zEW
def zzY:zn:={acc:=[7]}
@[irreducible] def zAJ:=wv Tryz.f245 zzY 0 []
def zEu:=wl Tryz.f245 zzY [zAJ]
def zwu:=af Tryz.prog true Tryz.f245 zEu
def zzT:zn:={acc:=[5]}
@[irreducible] def zmH:=wv Tryz.f274 zzT 0 []
def zuy:=wl Tryz.f274 zzT [zmH]
def zwi:=af Tryz.prog true Tryz.f274 zuy
def zEr:=wl Tryz.f291 {ghost:=[(5,[26])],obj:=[(42,[false,false,true]),(45,[false,false,true])]} []
def zwl:=af Tryz.prog true Tryz.f291 zEr
@[irreducible] def zAH:=wv Tryz.f293 {} 0 []
def zuB:=wl Tryz.f293 {} [zAH]
def zwq:=af Tryz.prog true Tryz.f293 zuB
def zEt:=wl Tryz.f302 {ghost:=[(2,[18])]} []
def zwp:=af Tryz.prog true Tryz.f302 zEt
@[irreducible] def zsr:=wv Tryz.f301 {} 0 []
def zqO:=wl Tryz.f301 {} [zsr]
def zwm:=af Tryz.prog true Tryz.f301 zqO
end Go.Proofs.YtcembpbhkcbnhaaGreat
