/-
  Codes with hints that are reckoned too.
-/
import Derived.Test.YtgjlpcbolldhhaaGreatB1958562
import Derived.KernelRfl
set_option linter.unusedSimpArgs false
set_option linter.unusedVariables false
set_option maxHeartbeats 10000000
set_option maxRecDepth 100000
namespace Go.Sim
variable {F : zC} {E : Env} {H : za} {dst : Nat}
def zeR (full : List Nat) : List Nat -> Bool
 | [] => true
 | x :: l => full.contains x && zeR full l
theorem zid {full : List Nat} : ∀ {l : List Nat}, l.all full.contains = zeR full l
 | [] => rfl
 | x :: l => by rw [zLy, zid]; rfl
def zhU (full : List Nat) : Option Obj -> Bool
 | some (.row es) => zeR full (AV.objsL es)
 | _ => false
def okN (H : za) (full : List Nat) : List Nat -> Bool
 | [] => true
 | o :: l => zhU full (look o H) && okN H full l
theorem zCZ {ns : List Nat} : zdE H ns = okN H ns ns := by
 have : ∀ full l : List Nat, (l.all fun o => match look o H with | some (.row es) => (AV.objsL es).all full.contains | _ => false) = okN H full l := by
  intro full l
  induction l with
  | nil => rfl
  | cons o l ih =>
   rw [zLy, ih];simp only [okN]
   congr 1
   unfold zhU
   split <;> simp_all [zid]
 exact this ns ns
def osN (H : za) (full : List Nat) : List Nat -> za
 | [] => []
 | o :: l => (zB full o, ((look o H).getD (.acc 0)).ren (zB full)) :: osN H full l
theorem zHL {ns : List Nat} : zaa H ns = osN H ns ns := by
 have : ∀ full l : List Nat, (l.map fun o => (zB full o, ((look o H).getD (.acc 0)).ren (zB full))) = osN H full l := by
  intro full l
  induction l with
  | nil => rfl
  | cons o l ih => rw [zKS, ih]; rfl
 exact this ns ns
theorem zzv {ns : List Nat} : zek E H dst ns [] = true := rfl
theorem zzu {ns : List Nat} {n : Nat} {ob : Obj} {l : za} : zek E H dst ns ((n, ob) :: l) = ((decide (1000000 <= n) || (!refsEnv (dst + 10000 * n) E && !refsHeap (dst + 10000 * n) H && !ns.contains (dst + 10000 * n))) && zek E H dst ns l) := rfl
def zfz : za -> Bool
 | [] => true
 | (_, ob) :: l => ob.flat && zfz l
theorem zzn {v : AV} {δ : za} : flatRes (v, δ) = (v.flat && zfz δ) := by
 unfold flatRes
 congr 1
 show (δ.all fun q => q.2.flat) = zfz δ
 induction δ with
 | nil => rfl
 | cons p l ih => rw [zLy, ih]; rfl
theorem zyk {b : List Nat} : zce [] b = true := rfl
theorem zyj {a : Nat} {l b : List Nat} : zce (a :: l) b = (!b.contains a && zce l b) := rfl
theorem zH6 {ρ : Nat -> Nat} : zaz ρ [] = [] := rfl
theorem zH5 {ρ : Nat -> Nat} {n : Nat} {ob : Obj} {l : za} : zaz ρ ((n, ob) :: l) = (ρ n, ob.ren ρ) :: zaz ρ l := rfl
theorem zzy : zP H [] = [] := rfl
theorem zzx {o : Nat} {l : List Nat} : zP H (o :: l) = (o, .frz (mark H o)) :: zP H l := rfl
theorem zzz : zcj H [] = true := rfl
theorem zCX : zdA [] = [] := rfl
theorem zCW {o : Nat} {l : List Nat} : zdA (o :: l) = (2 * o + 1) :: zdA l := rfl
theorem zyF : zdk [] = [] := rfl
theorem zyE {o : Nat} {l : List Nat} : zdk (o :: l) = (2 * o) :: zdk l := rfl
theorem zym {b : List Nat} : zcH [] b = true := rfl
theorem zyl {a : Nat} {l b : List Nat} : zcH (a :: l) b = (!b.contains a && zcH l b) := rfl
def zmZ (p : List Nat × List Nat) : Option (List Nat × List Nat) -> Bool
 | some q => zcM q p
 | none => false
theorem zxR {acc : List (List Nat × List Nat)} {p : List Nat × List Nat} : zbZ [] acc p = true := rfl
theorem zxQ {k : Nat} {fr : List Nat} {acc : List (List Nat × List Nat)} {p : List Nat × List Nat} : zbZ (k :: fr) acc p = (zmZ p (acc[k]?) && zbZ fr acc p) := rfl
def zfC (E : Env) (H : za) : List Nat -> Bool
 | [] => true
 | n :: l => (!refsEnv n E && !refsHeap n H) && zfC E H l
theorem zzt {S : St} : zej [] S = true := rfl
theorem zzs {x : zh} {l : List zh} : zej (x :: l) ⟨E, H⟩ = (zfC E H x.newNames && zej l ⟨E, H⟩) := by
 have : ∀ ns : List Nat, (ns.all fun n => !refsEnv n E && !refsHeap n H) = zfC E H ns := by
  intro ns
  induction ns with
  | nil => rfl
  | cons n l ih => rw [zLy, ih]; rfl
 rw [<- this]; rfl
theorem zIt {o m : Nat} : zeO o m [] = [] := rfl
theorem zIs {o m t : Nat} {x : AV} {l : Env} : zeO o m ((t, x) :: l) = (t, zbS o m x) :: zeO o m l := rfl
def zfr : Nat -> List AV -> Env
 | _, [] => []
 | n, x :: l => (n, x) :: zfr (n + 1) l
theorem zyw {args : List AV} : enter args = zfr 0 args := by
 have : ∀ (l : List AV) (n : Nat), ((l.zipIdx n).map fun p => (p.2, p.1)) = zfr n l := by
  intro l
  induction l with
  | nil => intro n; rfl
  | cons x l ih => intro n; rw [List.zipIdx_cons, zKS, ih]; rfl
 exact this args 0
theorem zzS : zaF [] = [] := rfl
theorem zzR {n : Nat} {ob : Obj} {l : za} : zaF ((n, ob) :: l) = (n, .ref n 1 0) :: zaF l := rfl
def zhV (full : List Nat) (k o : Nat) : Option Obj -> Bool
 | some (.row es) => zeR full (AV.objsL es) && (decide (o < 1000000) || decide (o < 1000000 + k))
 | some (.acc _) => decide (o < 1000000)
 | some (.frz m) => m.isNone && decide (1000000 <= o) && (decide (o < 1000000) || decide (o < 1000000 + k))
 | _ => false
def okO (H : za) (full : List Nat) (k : Nat) : List Nat -> Bool
 | [] => true
 | o :: l => zhV full k o (look o H) && okO H full k l
theorem zC0 {os : za} {ns : List Nat} : zcX H os ns = (okO H ns os.length ns && decide ((frs ns).length <= 4)) := by
 have : ∀ full l : List Nat, (l.all fun o => (match look o H with | some (.row es) => (AV.objsL es).all full.contains | some (.acc _) => decide (o < 1000000) | some (.frz m) => m.isNone && decide (1000000 <= o) | _ => false) && (decide (o < 1000000) || decide (o < 1000000 + os.length))) = okO H full os.length l := by
  intro full l
  induction l with
  | nil => rfl
  | cons o l ih =>
   rw [zLy, ih];simp only [okO]
   congr 1
   unfold zhV
   split <;> simp_all [zid]
 unfold zcX;exact congrArg (· && decide ((frs ns).length <= 4)) (this ns ns)
def zso (o : Nat) : Option AV -> Bool
 | some (.ref p 1 0) => p == o
 | _ => false
def okG (E : Env) : za -> Bool
 | [] => true
 | (o, _) :: l => zso o (look o E) && okG E l
theorem zCY {os : za} : zdD E os = okG E os := by
 unfold zdD
 induction os with
 | nil => rfl
 | cons p l ih =>
  rw [zLy, ih];simp only [okG]
  congr 1
def zf2 (H : za) (full : List Nat) : List Nat -> za
 | [] => []
 | o :: l => (zG full o, ((look o H).getD (.acc 0)).ren (zG full)) :: zf2 H full l
theorem zHM {ns : List Nat} : zas H ns = zf2 H ns ns := by
 have : ∀ full l : List Nat, (l.map fun o => (zG full o, ((look o H).getD (.acc 0)).ren (zG full))) = zf2 H full l := by
  intro full l
  induction l with
  | nil => rfl
  | cons o l ih => rw [zKS, ih]; rfl
 exact this ns ns
def evs (E : Env) : List Opd -> List AV
 | [] => []
 | x :: xs => x.ev E :: evs E xs
theorem zfU {xs : List Opd} : xs.map (·.ev E) = evs E xs := by
 induction xs with
 | nil => rfl
 | cons x xs ih => rw [zKS, ih]; rfl
def evO (E : Env) : Option Opd -> Option AV
 | none => none
 | some x => some (x.ev E)
theorem zhM {x : Option Opd} : x.map (·.ev E) = evO E x := by cases x <;> rfl
def evB (E : Env) : List (Nat × Nat × Opd) -> List (Nat × Nat × AV)
 | [] => []
 | (a, b, x) :: l => (a, b, x.ev E) :: evB E l
theorem zCk {l : List (Nat × Nat × Opd)} : (l.map fun p => (p.1, p.2.1, p.2.2.ev E)) = evB E l := by
 induction l with
 | nil => rfl
 | cons p l ih => rw [zKS, ih]; rfl
def evF (E : Env) : List (Nat × Opd) -> List (Nat × AV)
 | [] => []
 | (a, x) :: l => (a, x.ev E) :: evF E l
theorem zCl {l : List (Nat × Opd)} : (l.map fun p => (p.1, p.2.ev E)) = evF E l := by
 induction l with
 | nil => rfl
 | cons p l ih => rw [zKS, ih]; rfl
def szF (n : Nat) : List (Nat × AV) -> Bool
 | [] => true
 | (_, x) :: l => (x.size == n) && szF n l
theorem zth {n : Nat} {l : List (Nat × Opd)} : (l.all fun p => (p.2.ev E).size == n) = szF n (evF E l) := by
 induction l with
 | nil => rfl
 | cons p l ih => rw [zLy, ih]; rfl
theorem zIG {f : FuncId} {ms : List Bool} {xs : List Opd} : step F E H dst (.call f ms xs) = zbN H (zS F E H dst ms f (evs E xs)) := by rw [<- zfU]; rfl
theorem zIH {f : Opd} {ms : List Bool} {xs : List Opd} : step F E H dst (.callv f ms xs) = zbN H (zbO F E H dst ms (f.ev E) (evs E xs)) := by rw [<- zfU]; rfl
theorem zyY {f : FuncId} {ms : List Bool} {xs : List Opd} : AOp.feet E H dst (.call f ms xs) = zdd H dst ms (evs E xs) := by rw [<- zfU]; rfl
theorem zyZ {f : Opd} {ms : List Bool} {xs : List Opd} : AOp.feet E H dst (.callv f ms xs) = zeb H dst ms (f.ev E) (evs E xs) := by rw [<- zfU]; rfl
def zct (H : za) : Option AV -> Option (AV × za)
 | none => none
 | some v => some (v, H)
theorem zeK {x : Option AV} : x.map (fun v => (v, H)) = zct H x := by cases x <;> rfl
def zeL (H : za) : Option D -> Option (AV × za)
 | none => none
 | some v => some (.d v, H)
theorem zsF {x : Option D} : x.map (fun v => (AV.d v, H)) = zeL H x := by cases x <;> rfl
def zh6 (H : za) (ng : Bool) : Option Bool -> Option (AV × za)
 | none => none
 | some b => some (.d (.bool (if ng then !b else b)), H)
def dO : Option D -> Option AV
 | none => none
 | some v => some (.d v)
theorem zm4 {x : Option D} : x.map AV.d = dO x := by cases x <;> rfl
def pdO : Option D -> Option AV
 | none => none
 | some v => some (.d (.pd v))
def peO (o : Nat) : Option D -> Option AV
 | none => none
 | some v => some (.pe o v)
def ldR (ag : Bool) (n : Nat) : Option AV -> Option AV
 | some e => zaY ag off n e
 | none => none
 where off : Nat := 0
def ldE (ag : Bool) (n off : Nat) : Option AV -> Option AV
 | some e => zaY ag off n e
 | none => none
def ldO (ag : Bool) (n i off : Nat) : Option Obj -> Option AV
 | some (.row es) => ldE ag n off es[i]?
 | _ => none
def ldV (H : za) (ag : Bool) (n : Nat) : AV -> Option AV
 | .d (.pd x) => dO (zaf ag 0 n x)
 | .pe _ x => dO (zaf ag 0 n x)
 | .ref o i off => ldO ag n i off (look o H)
 | _ => none
theorem zBY {ag : Bool} {n : Nat} {v : AV} : ldA H ag n v = ldV H ag n v := by
 unfold ldA
 split
 · exact zm4
 · exact zm4
 · rename_i o i off;simp only [ldV];generalize look o H = q
   rcases q with _ | (es | m | m | m)
   · rfl
   · show es[i]?.bind _ = ldE ag n off es[i]?
     cases es[i]? <;> rfl
   · rfl
   · rfl
   · rfl
 · unfold ldV; split <;> simp_all
theorem zIN {ag : Bool} {n : Nat} {p : Opd} : step F E H dst (.ld ag n p) = zct H (ldV H ag n (p.ev E)) := by
 show (ldA H ag n (p.ev E)).map (fun v => (v, H)) = _;rw [zeK, zBY]
def zdl (ag : Bool) (off n : Nat) : AV -> Option AV
 | .ref o i f => some (.ref o i (f + off))
 | .d (.pd y) => pdO (zaf ag off n y)
 | .pe o y => peO o (zaf ag off n y)
 | _ => none
theorem zy9 {ag : Bool} {off n : Nat} {v : AV} : zaT ag off n v = zdl ag off n v := by
 unfold zaT
 split
 · rfl
 · rename_i y; simp only [zdl]; cases zaf ag off n y <;> rfl
 · rename_i o y; simp only [zdl]; cases zaf ag off n y <;> rfl
 · unfold zdl; split <;> simp_all
theorem zIL {ag : Bool} {off n : Nat} {x : Opd} : step F E H dst (.fad ag off n x) = zct H (zdl ag off n (x.ev E)) := by
 show (zaT ag off n (x.ev E)).map (fun v => (v, H)) = _;rw [zeK, zy9]
def szR (n o i : Nat) : Option AV -> Option AV
 | some e => if e.size = n then some (.ref o i 0) else none
 | none => none
def szP (n o : Nat) : Option D -> Option AV
 | some e => if e.size = n then some (.pe o e) else none
 | none => none
def szD (n : Nat) : Option D -> Option AV
 | some e => if e.size = n then some (.d (.pd e)) else none
 | none => none
def zrH (n o i : Nat) : Option Obj -> Option AV
 | some (.row es) => szR n o i es[i]?
 | _ => none
def zcl (H : za) (n : Nat) (i : Int) : AV -> Option AV
 | .osl o off len => if i < len then zrH n o (off + i.toNat) (look o H) else none
 | .acc o es => szP n o es[i.toNat]?
 | .d (.sl es) => szD n es[i.toNat]?
 | .xsl es => szD n es[i.toNat]?
 | _ => none
theorem zzZ {n : Nat} {i : Int} {v : AV} : zat H n i v = zcl H n i v := by
 unfold zat
 split
 · rename_i o off len;simp only [zcl]
   split
   · generalize look o H = q
     rcases q with _ | (es | m | m | m)
     · rfl
     · show es[off + i.toNat]?.bind _ = szR n o (off + i.toNat) es[off + i.toNat]?
       cases es[off + i.toNat]? <;> rfl
     · rfl
     · rfl
     · rfl
   · rfl
 · rename_i o es; simp only [zcl]; unfold szP; cases es[i.toNat]? <;> rfl
 · rename_i es; simp only [zcl]; unfold szD; cases es[i.toNat]? <;> rfl
 · rename_i es; simp only [zcl]; unfold szD; cases es[i.toNat]? <;> rfl
 · unfold zcl; split <;> simp_all
def zhC (H : za) (n : Nat) (v : AV) : Option Int -> Option (AV × za)
 | some k => if 0 <= k then zct H (zcl H n k v) else none
 | none => none
theorem zIM {n : Nat} {x i : Opd} : step F E H dst (.iad n x i) = zhC H n (x.ev E) (z6 (i.ev E)) := by
 show (z6 (i.ev E)).bind _ = _;unfold zhC
 cases z6 (i.ev E) with
 | none => rfl
 | some k => simp only [zLi, zzZ, zeK]
def stF (H : za) (o i : Nat) (es : List AV) : Option AV -> Option (AV × za)
 | some e => some (.undef, zj o (.row (es.set i e)) H)
 | none => none
def stE (H : za) (o i off : Nat) (es : List AV) (v : AV) : Option AV -> Option (AV × za)
 | some e => stF H o i es (zaX e off v)
 | none => none
def stO (H : za) (o i off : Nat) (v : AV) : Option Obj -> Option (AV × za)
 | some (.row es) => stE H o i off es v es[i]?
 | _ => none
def stV (H : za) (n : Nat) (v : AV) : AV -> Option (AV × za)
 | .ref o i off => if v.size = n /\ zae v = false then stO H o i off v (look o H) else none
 | _ => none
def ztt : Option AV -> Option Int
 | some (.d (.int .i64 n)) => some n
 | _ => none
theorem zIU {n : Nat} {p x : Opd} : step F E H dst (.st n p x) = stV H n (x.ev E) (p.ev E) := by
 show ze E H dst (.st n p x) = _;simp only [ze];generalize p.ev E = pv
 split
 · rename_i o i off;simp only [stV]
   split
   · generalize look o H = q
     rcases q with _ | (es | m | m | m)
     · rfl
     · show es[i]?.bind _ = stE H o i off es (x.ev E) es[i]?
       cases es[i]? with
       | none => rfl
       | some e =>
        show Option.map _ (zaX e off (x.ev E)) = stF H o i es (zaX e off (x.ev E))
        cases zaX e off (x.ev E) <;> rfl
     · rfl
     · rfl
     · rfl
   · rfl
 · unfold stV; split <;> simp_all
def zzp (H : za) (ag : Bool) (off n : Nat) : AV -> Option (AV × za)
 | .d (.agg cs) => zeL H (zaf ag off n (.agg cs))
 | .agg cs => zct H (zaY ag off n (.agg cs))
 | _ => none
def zgQ (H : za) (op : BinOp) : AV -> AV -> Option (AV × za)
 | .d a, .d b => zeL H (zbY op a b)
 | _, _ => none
theorem zIC {op : BinOp} {x y : Opd} : step F E H dst (.bin op x y) = zgQ H op (x.ev E) (y.ev E) := by
 show ze E H dst (.bin op x y) = _;simp only [ze];generalize x.ev E = v;generalize y.ev E = u
 split
 · exact zsF
 · unfold zgQ; split <;> simp_all
def zfs (H : za) (ng : Bool) (n : Nat) (ls : List (Nat × Nat)) : AV -> AV -> Option (AV × za)
 | .d (.agg a), .d (.agg b) => if a.length = n /\ b.length = n then zh6 H ng (zb0 a b ls) else none
 | _, _ => none
theorem zIJ {ng : Bool} {n : Nat} {ls : List (Nat × Nat)} {x y : Opd} : step F E H dst (.eqs ng n ls x y) = zfs H ng n ls (x.ev E) (y.ev E) := by
 show ze E H dst (.eqs ng n ls x y) = _;simp only [ze];generalize x.ev E = v;generalize y.ev E = u
 split
 · rename_i a b;simp only [zfs]
   split
   · cases zb0 a b ls <;> rfl
   · rfl
 · unfold zfs; split <;> simp_all
def bdI (y : Nat) : Option Int -> Option Nat
 | some n => if 0 <= n /\ n <= y then some n.toNat else none
 | none => none
def bd (dflt y : Nat) : Option AV -> Option Nat
 | none => some dflt
 | some v => bdI y (z6 v)
theorem zfd {x : Option AV} {dflt y : Nat} : zam x dflt y = bd dflt y x := by
 cases x with
 | none => rfl
 | some v =>
  simp only [zam, bd];unfold bdI
  cases z6 v <;> rfl
def slM (es : List D) (h l : Nat) (hi : Option AV) : Option AV -> Option AV
 | none => some (.d (.sl ((es.take h).drop l)))
 | some m => if z6 m = some (h : Int) /\ hi.isSome then some (.xsl ((es.take h).drop l)) else none
def zs1 (es : List D) (h l : Nat) (hi : Option AV) : Option AV -> Option AV
 | none => some (if h = es.length then .xsl ((es.take h).drop l) else .d (.sl ((es.take h).drop l)))
 | some m => if z6 m = some (h : Int) /\ hi.isSome then some (.xsl ((es.take h).drop l)) else none
def zmr (o : Nat) (es : List D) (h : Nat) (hi : Option AV) : Option AV -> Option AV
 | none => some (.acc o (es.take h))
 | some m => if z6 m = some (h : Int) /\ hi.isSome then some (.acc o (es.take h)) else none
def slL (es : List D) (hi mx : Option AV) (h : Nat) : Option Nat -> Option AV
 | some l => slM es h l hi mx
 | none => none
def slH (es : List D) (lo hi mx : Option AV) : Option Nat -> Option AV
 | some h => slL es hi mx h (bd 0 h lo)
 | none => none
def ziu (es : List D) (hi mx : Option AV) (h : Nat) : Option Nat -> Option AV
 | some l => zs1 es h l hi mx
 | none => none
def zit (es : List D) (lo hi mx : Option AV) : Option Nat -> Option AV
 | some h => ziu es hi mx h (bd 0 h lo)
 | none => none
def zgI (o : Nat) (es : List D) (hi mx : Option AV) (h : Nat) : Option Nat -> Option AV
 | some l => if l = 0 then zmr o es h hi mx else none
 | none => none
def zgH (o : Nat) (es : List D) (lo hi mx : Option AV) : Option Nat -> Option AV
 | some h => zgI o es hi mx h (bd 0 h lo)
 | none => none
def zh0 (n o off h l : Nat) : Option Obj -> Option AV
 | some (.row es) => if l = 0 \/ es.head?.map AV.size = some n then some (.osl o (off + l) (h - l)) else none
 | _ => none
def zhY (H : za) (n o off h : Nat) : Option Nat -> Option AV
 | some l => zh0 n o off h l (look o H)
 | none => none
def zhX (H : za) (n o off : Nat) (lo : Option AV) : Option Nat -> Option AV
 | some h => zhY H n o off h (bd 0 h lo)
 | none => none
def zhZ (H : za) (n o off len : Nat) (lo hi : Option AV) : Option AV -> Option AV
 | none => zhX H n o off lo (bd len len hi)
 | some _ => none
def zcx (H : za) (n : Nat) (lo hi mx : Option AV) : AV -> Option AV
 | .d (.sl es) => if zab n es then slH es lo hi mx (bd es.length es.length hi) else none
 | .xsl es => if zab n es then zit es lo hi mx (bd es.length es.length hi) else none
 | .acc o es => if zab n es then zgH o es lo hi mx (bd es.length es.length hi) else none
 | .osl o off len => zhZ H n o off len lo hi mx
 | _ => none
theorem zJb {n : Nat} {lo hi mx : Option AV} {v : AV} : zak H n lo hi mx v = zcx H n lo hi mx v := by
 unfold zak
 split
 · rename_i es;simp only [zcx]
   split
   · simp only [zfd];unfold slH
     cases bd es.length es.length hi with
     | none => rfl
     | some h =>
      simp only [zLi];unfold slL
      cases bd 0 h lo with
      | none => rfl
      | some l => simp only [zLi]; cases mx <;> rfl
   · rfl
 · rename_i es;simp only [zcx]
   split
   · simp only [zfd];unfold zit
     cases bd es.length es.length hi with
     | none => rfl
     | some h =>
      simp only [zLi];unfold ziu
      cases bd 0 h lo with
      | none => rfl
      | some l => simp only [zLi]; cases mx <;> rfl
   · rfl
 · rename_i o es;simp only [zcx]
   split
   · simp only [zfd];unfold zgH
     cases bd es.length es.length hi with
     | none => rfl
     | some h =>
      simp only [zLi];unfold zgI
      cases bd 0 h lo with
      | none => rfl
      | some l => simp only [zLi]; cases mx <;> rfl
   · rfl
 · rename_i o off len
   cases mx with
   | some m => rfl
   | none =>
    simp only [zfd, zcx, zhZ];unfold zhX
    cases bd len len hi with
    | none => rfl
    | some h =>
     simp only [zLi];unfold zhY
     cases bd 0 h lo with
     | none => rfl
     | some l => simp only [zLi]; unfold zh0; rfl
 · unfold zcx; split <;> simp_all
theorem zIT {n : Nat} {x : Opd} {lo hi mx : Option Opd} : step F E H dst (.slc n x lo hi mx) = zct H (zcx H n (evO E lo) (evO E hi) (evO E mx) (x.ev E)) := by
 show (zak H n (lo.map (·.ev E)) (hi.map (·.ev E)) (mx.map (·.ev E)) (x.ev E)).map (fun v => (v, H)) = _;rw [zeK, zJb, zhM, zhM, zhM]
def zg9 (H : za) (i : Nat) : AV -> Option (AV × za)
 | .d (.tup vs) => zeL H vs[i]?
 | .tup vs => zct H vs[i]?
 | _ => none
theorem zIK {x : Opd} {i : Nat} : step F E H dst (.ext x i) = zg9 H i (x.ev E) := by
 show ze E H dst (.ext x i) = _;simp only [ze];generalize x.ev E = v
 split
 · exact zsF
 · exact zeK
 · unfold zg9; split <;> simp_all
def zhH (H : za) : Option (List D) -> Option (AV × za)
 | some es => some (.d (.int .i64 es.length), H)
 | none => none
def zhI (H : za) : AV -> Option (AV × za)
 | .osl _ _ len => some (.d (.int .i64 len), H)
 | .d (.sl es) => some (.d (.int .i64 es.length), H)
 | .acc _ es => some (.d (.int .i64 es.length), H)
 | .xsl es => some (.d (.int .i64 es.length), H)
 | y => zhH H (slD y)
theorem zIO {x : Opd} : step F E H dst (.len x) = zhI H (x.ev E) := by
 show ze E H dst (.len x) = _;simp only [ze];generalize x.ev E = v
 split
 · rfl
 · unfold zhI
   split
   · simp_all
   · rfl
   · rfl
   · rfl
   · unfold zhH; cases slD v <;> rfl
def zgT (H : za) : Option (List AV) -> Option (AV × za)
 | some cs => some (AV.mkAgg cs, H)
 | none => none
theorem zIF {z : List AV} {ps : List (Nat × Nat × Opd)} : step F E H dst (.build z ps) = zgT H (zbh z (evB E ps)) := by
 show ze E H dst (.build z ps) = _;simp only [ze, zCk];unfold zgT
 cases zbh z (evB E ps) <;> rfl
def zgR (E : Env) (H : za) (dst len : Nat) (es : List AV) : Option (List D) -> Option (AV × za)
 | some ds => some (.xsl ds, H)
 | none => if refsEnv dst E = false /\ refsHeap dst H = false then some (.osl dst 0 len, zj dst (.row es) H) else none
def zgS (E : Env) (H : za) (dst len : Nat) : Option (List AV) -> Option (AV × za)
 | some es => zgR E H dst len es (zO es)
 | none => none
theorem zIE {len n : Nat} {z : AV} {ps : List (Nat × Opd)} : step F E H dst (.bsl len n z ps) = if z.size = n /\ szF n (evF E ps) = true then zgS E H dst len (zaU (List.replicate len z) (evF E ps)) else none := by
 show ze E H dst (.bsl len n z ps) = _;simp only [ze, zCl, zth]
 split
 · unfold zgS
   cases zaU (List.replicate len z) (evF E ps) with
   | none => rfl
   | some es => simp only [zLi]; unfold zgR; rfl
 · rfl
def zN (off len : Nat) : Option Obj -> Option (List D)
 | some (.row es) => srcL len (zO ((es.drop off).take len))
 | _ => none
 where srcL (len : Nat) : Option (List D) -> Option (List D)
  | some ds => if ds.length = len then some ds else none
  | none => none
def zdM (H : za) : AV -> Option (List D)
 | .osl o off len => zN off len (look o H)
 | .nl _ => some []
 | y => slD y
theorem zJh {v : AV} : zaC H v = zdM H v := by
 unfold zaC
 split
 · rename_i o off len;simp only [zdM];generalize look o H = q
   rcases q with _ | (es | m | m | m)
   · rfl
   · show (zO ((es.drop off).take len)).bind _ = zN.srcL len (zO ((es.drop off).take len))
     cases zO ((es.drop off).take len) <;> rfl
   · rfl
   · rfl
   · rfl
 · rfl
 · unfold zdM; split <;> simp_all
def zgM (H : za) (o n : Nat) (es ys : List D) : Option Obj -> Option (AV × za)
 | some (.acc m) => if es.length = m /\ zab n (es ++ ys) /\ (es ++ ys).length <= LIM then some (.acc o (es ++ ys), zj o (.acc (m + ys.length)) H) else none
 | _ => none
def zd8 (E : Env) (H : za) (dst n : Nat) (ys : List D) : AV -> Option (AV × za)
 | .xsl es => if (ys.isEmpty && !es.isEmpty) = true then (if zab n es = true then some (.xsl es, H) else none) else if zab n (es ++ ys) /\ (es ++ ys).length <= LIM /\ refsEnv dst E = false /\ refsHeap dst H = false then some (.acc dst (es ++ ys), zj dst (.acc (es.length + ys.length)) H) else none
 | .acc o es => zgM H o n es ys (look o H)
 | _ => none
theorem ztk {n : Nat} {ys : List D} {v : AV} : zah E H dst n ys v = zd8 E H dst n ys v := by
 unfold zah
 split
 · rfl
 · simp only [zd8]; unfold zgM; rfl
 · unfold zd8; split <;> simp_all
def zgN (E : Env) (H : za) (dst n : Nat) (v : AV) : Option (List D) -> Option (AV × za)
 | some ys => zd8 E H dst n ys v
 | none => none
theorem zIB {n : Nat} {x y : Opd} : step F E H dst (.app n x y) = zgN E H dst n (x.ev E) (zdM H (y.ev E)) := by
 show ze E H dst (.app n x y) = _;simp only [ze, zJh];unfold zgN
 cases zdM H (y.ev E) with
 | none => rfl
 | some ys => simp only [zLi, ztk]
theorem zIc {n : Nat} : zR.ev ⟨E, H⟩ (.t n) = look n E := rfl
theorem zIb {S : St} {r : zR} : zbJ S [r] = r.ev S := rfl
theorem zIa {S : St} : zbJ S [] = some (AV.mkTup []) := rfl
end Go.Sim

namespace Go.Sim
variable {G : FuncId -> Option AFn} {F : zC} {E : Env} {H : za}
theorem zKb : exL G .skip ⟨E, H⟩ = some (.normal, ⟨E, H⟩) := zyN
theorem zyv {ks : List Nat} : endS ks ⟨E, H⟩ = gcS ⟨zaB (zcn ks E), H⟩ := rfl
theorem zzN : gcS ⟨E, H⟩ = ⟨E, gc1 E H⟩ := rfl
theorem zJ6 {i : Nat} {ks : List Nat} : exL G (.exit i ks) ⟨E, H⟩ = some (.exit i, endS ks ⟨E, H⟩) := zyJ
theorem zJ9 {ks : List Nat} : exL G (.ret ks) ⟨E, H⟩ = some (.ret, endS ks ⟨E, H⟩) := zyL
theorem zJ8 {gs : List Nat} {l : List zh} {ks : List Nat} : exL G (.ops gs l ks) ⟨E, H⟩ = ((zbj gs ⟨E, H⟩).bind (zV (zt G) l)).map (zcO ks) := zyK
theorem zJ5 {gs : List Nat} {l : List zh} {fr : List (List Nat)} {ks : List Nat} : exL G (.draw gs l fr ks) ⟨E, H⟩ = ((zbj gs ⟨E, H⟩).bind (zby (zt G) l fr)).map (zcO ks) := zyI
theorem zKa {x y : zl} : exL G (.seq x y) ⟨E, H⟩ = (exL G x ⟨E, H⟩).bind (zb5 (exL G y)) := zyM
theorem zJ3 {c : Opd} {x y : zl} : exL G (.cond c x y) ⟨E, H⟩ = zcc (c.ev E) (exL G x ⟨E, H⟩) (exL G y ⟨E, H⟩) := zyH
noncomputable def zg0 (G : FuncId -> Option AFn) (x y : zl) (E : Env) (H : za) : AV -> Option (zJ × St)
 | .d (.bool b) => if b = true then exL G x ⟨E, H⟩ else exL G y ⟨E, H⟩
 | _ => none
theorem zJ4 {c : Opd} {x y : zl} : exL G (.cond c x y) ⟨E, H⟩ = zg0 G x y E H (c.ev E) := by
 rw [zJ3];unfold zcc zg0;generalize c.ev E = v
 split <;> simp_all
theorem zxZ {b : Bool} {x y : zl} : zg0 G x y E H (.d (.bool b)) = if b = true then exL G x ⟨E, H⟩ else exL G y ⟨E, H⟩ := rfl
theorem zJ2 {id : Nat} {x : zl} : exL G (.block id x) ⟨E, H⟩ = (exL G x ⟨E, H⟩).map (zdb id) := zyG
theorem zJ7 {ks : List Nat} {x : zl} : exL G (.loop ks x) ⟨E, H⟩ = zad G ks x (norm ks ⟨E, H⟩) := rfl
theorem zzU {S : St} : zbj [] S = some S := rfl
theorem zzT {g : Nat} {gs : List Nat} : zbj (g :: gs) ⟨E, H⟩ = (zfE g ⟨E, H⟩).bind (zbj gs) := rfl
theorem zAy {ks : List Nat} : zcO ks ⟨E, H⟩ = (.normal, ⟨zbD ks E, H⟩) := rfl
theorem zCR {ks : List Nat} : norm ks ⟨E, H⟩ = norm1 ⟨zbD ks E, H⟩ := rfl
theorem zCQ : norm1 ⟨E, H⟩ = ⟨zaB (deX E), zgf (gc1 E (gc1 E H))⟩ := rfl
theorem zI0 {g : St -> Option (zJ × St)} {S : St} : zb5 g (.normal, S) = g S := rfl
theorem zIZ {g : St -> Option (zJ × St)} {i : Nat} {S : St} : zb5 g (.exit i, S) = some (.exit i, S) := rfl
theorem zI1 {g : St -> Option (zJ × St)} {S : St} : zb5 g (.ret, S) = some (.ret, S) := rfl
theorem zCj {ks : List Nat} {g : St -> Option (zJ × St)} {S : St} : zbb ks g (.normal, S) = g (norm ks S) := rfl
theorem zCi {ks : List Nat} {g : St -> Option (zJ × St)} {i : Nat} {S : St} : zbb ks g (.exit i, S) = some (.exit i, S) := rfl
theorem ztA {id : Nat} {S : St} : zdb id (.normal, S) = (.normal, S) := rfl
theorem ztz {id i : Nat} {S : St} : zdb id (.exit i, S) = if i = id then (.normal, S) else (.exit i, S) := rfl
def zbn (t : Nat) (v : AV) : Env -> Env
 | [] => []
 | (j, x) :: l => if j = t then (j, v) :: l else (j, x) :: zbn t v l
theorem zf5 {t : Nat} {v : AV} : ∀ {E : Env}, look t E = some v -> zbn t v E = E := by
 intro E
 induction E with
 | nil => intro h; cases h
 | cons p l ih =>
  obtain ⟨j, x⟩ := p;intro h;simp only [look] at h;simp only [zbn]
  split
  · rename_i e; rw [zKN e] at h; cases h; rfl
  · rename_i e; rw [zKM e] at h; rw [ih h]
def zKI {α : Type} (v : Option AV) (k j : Bool -> Option α) : Option α :=
 match v with
 | some (.d (.bool true)) => k true
 | some (.d (.bool false)) => k false
 | _ => none
theorem zCT : zV F [] ⟨E, H⟩ = some ⟨E, H⟩ := rfl
theorem zCU {d : Option Nat} {op : AOp} {l : List zh} : zV F (⟨d, op, none⟩ :: l) ⟨E, H⟩ = (zaJ F ⟨d, op, none⟩ ⟨E, H⟩).bind (zV F l) := rfl
def zcK (F : zC) (d : Option Nat) (op : AOp) (b : Bool) (l : List zh) (E : Env) (H : za) (c : Bool) : Option St := if c = b then (zaJ F ⟨d, op, none⟩ ⟨E, H⟩).bind (zV F l) else zV F l (St.put ⟨E, H⟩ d (.d (.tup [])))
theorem zzD {d : Option Nat} {op : AOp} {l : List zh} : zcK F d op true l E H true = (zaJ F ⟨d, op, none⟩ ⟨E, H⟩).bind (zV F l) := rfl
theorem zzB {d : Option Nat} {op : AOp} {l : List zh} : zcK F d op false l E H false = (zaJ F ⟨d, op, none⟩ ⟨E, H⟩).bind (zV F l) := rfl
theorem zzC {d : Option Nat} {op : AOp} {l : List zh} : zcK F d op true l E H false = zV F l (St.put ⟨E, H⟩ d (.d (.tup []))) := rfl
def zhs (F : zC) (d : Option Nat) (op : AOp) (t : Nat) (b : Bool) (l : List zh) (E : Env) (H : za) (v : Option AV) : Option St :=
 match v with
 | some (.d (.bool c)) => if c = true then zcK F d op b l (zbn t (.d (.bool true)) E) H true else zcK F d op b l (zbn t (.d (.bool false)) E) H false
 | some (.d (.tup [])) => zV F l (St.put ⟨E, H⟩ d (.d (.tup [])))
 | _ => none
theorem zzA {d : Option Nat} {op : AOp} {t : Nat} {b c : Bool} {l : List zh} : zhs F d op t b l E H (some (.d (.bool c))) = if c = true then zcK F d op b l (zbn t (.d (.bool true)) E) H true else zcK F d op b l (zbn t (.d (.bool false)) E) H false := rfl
theorem zCS {d : Option Nat} {op : AOp} {l : List zh} {t : Nat} {b : Bool} : zV F (⟨d, op, some (t, b)⟩ :: l) ⟨E, H⟩ = zhs F d op t b l E H (look t E) := by
 simp only [zV, zhs];generalize hv : look t E = v
 split
 · rename_i c
   cases c with
   | true => simp only [zf5 hv, if_true]; rfl
   | false => simp only [zf5 hv, zLB, if_false]; rfl
 · rfl
 · rename_i hno hno2
   split
   · exact absurd rfl (hno _)
   · exact absurd rfl hno2
   · rfl
theorem zx7 {l : List zh} {fr : List (List Nat)} : zby F l fr ⟨E, H⟩ = if (z4 E && z4 H && zej l ⟨E, H⟩) = true then zZ F l fr [] ⟨E, H⟩ else none := rfl
theorem zx9 {fr : List (List Nat)} {acc : List (List Nat × List Nat)} : zZ F [] fr acc ⟨E, H⟩ = some ⟨E, H⟩ := rfl
theorem zya {d : Option Nat} {op : AOp} {l : List zh} {f : List Nat} {fr : List (List Nat)} {acc : List (List Nat × List Nat)} : zZ F (⟨d, op, none⟩ :: l) (f :: fr) acc ⟨E, H⟩ = (zaL F ⟨d, op, none⟩ (f :: fr) acc ⟨E, H⟩).bind (zZ F l fr (acc ++ [op.feet E H (d.getD 0)])) := rfl
def zdg (F : zC) (d : Option Nat) (op : AOp) (t : Nat) (b : Bool) (l : List zh) (f : List Nat) (fr : List (List Nat)) (acc : List (List Nat × List Nat)) (E : Env) (H : za) (c : Bool) : Option St :=
 if c = b then (zaL F ⟨d, op, none⟩ (f :: fr) acc ⟨E, H⟩).bind (zZ F l fr (acc ++ [op.feet E H (d.getD 0)])) else (zcf ⟨d, op, some (t, b)⟩ (f :: fr) acc ⟨E, H⟩).bind (zZ F l fr (acc ++ [([], [])]))
theorem zx6 {d : Option Nat} {op : AOp} {t : Nat} {l : List zh} {f : List Nat} {fr : List (List Nat)} {acc : List (List Nat × List Nat)} : zdg F d op t true l f fr acc E H true = (zaL F ⟨d, op, none⟩ (f :: fr) acc ⟨E, H⟩).bind (zZ F l fr (acc ++ [op.feet E H (d.getD 0)])) := rfl
theorem zx5 {d : Option Nat} {op : AOp} {t : Nat} {l : List zh} {f : List Nat} {fr : List (List Nat)} {acc : List (List Nat × List Nat)} : zdg F d op t true l f fr acc E H false = (zcf ⟨d, op, some (t, true)⟩ (f :: fr) acc ⟨E, H⟩).bind (zZ F l fr (acc ++ [([], [])])) := rfl
def zg1 (F : zC) (d : Option Nat) (op : AOp) (t : Nat) (b : Bool) (l : List zh) (f : List Nat) (fr : List (List Nat)) (acc : List (List Nat × List Nat)) (E : Env) (H : za) (v : Option AV) : Option St :=
 match v with
 | some (.d (.bool c)) => if c = true then zdg F d op t b l f fr acc (zbn t (.d (.bool true)) E) H true else zdg F d op t b l f fr acc (zbn t (.d (.bool false)) E) H false
 | some (.d (.tup [])) => (zcf ⟨d, op, some (t, b)⟩ (f :: fr) acc ⟨E, H⟩).bind (zZ F l fr (acc ++ [([], [])]))
 | _ => none
theorem zx4 {d : Option Nat} {op : AOp} {t : Nat} {b c : Bool} {l : List zh} {f : List Nat} {fr : List (List Nat)} {acc : List (List Nat × List Nat)} : zg1 F d op t b l f fr acc E H (some (.d (.bool c))) =
    if c = true then zdg F d op t b l f fr acc (zbn t (.d (.bool true)) E) H true else zdg F d op t b l f fr acc (zbn t (.d (.bool false)) E) H false := rfl
theorem zx8 {d : Option Nat} {op : AOp} {l : List zh} {f : List Nat} {fr : List (List Nat)} {acc : List (List Nat × List Nat)} {t : Nat} {b : Bool} : zZ F (⟨d, op, some (t, b)⟩ :: l) (f :: fr) acc ⟨E, H⟩ = zg1 F d op t b l f fr acc E H (look t E) := by
 simp only [zZ, zg1];generalize hv : look t E = v
 split
 · rename_i c
   cases c with
   | true => simp only [zf5 hv, if_true]; rfl
   | false => simp only [zf5 hv, zLB, if_false]; rfl
 · rfl
 · rename_i hno hno2
   split
   · exact absurd rfl (hno _)
   · exact absurd rfl hno2
   · rfl
theorem zyr {d : Option Nat} {op : AOp} {f : List Nat} {fr : List (List Nat)} {acc : List (List Nat × List Nat)} : zaL F ⟨d, op, none⟩ (f :: fr) acc ⟨E, H⟩ = if zbZ f acc (op.feet E H (d.getD 0)) = true then zaJ F ⟨d, op, none⟩ ⟨E, H⟩ else none := rfl
theorem zyq {x : zh} {f : List Nat} {fr : List (List Nat)} {acc : List (List Nat × List Nat)} : zcf x (f :: fr) acc ⟨E, H⟩ = if zbZ f acc ([], []) = true then some (St.put ⟨E, H⟩ x.dst (.d (.tup []))) else none := rfl
theorem zHY {d : Nat} {v : AV} : St.put ⟨E, H⟩ (some d) v = ⟨zj d v E, H⟩ := rfl
def putO (E : Env) (d : Option Nat) (r : Option (AV × za)) : Option St := r.map fun p => St.put ⟨E, p.2⟩ d p.1
theorem zHW {v : AV} : putO E none (some (v, H)) = some ⟨E, H⟩ := rfl
theorem zHX {d : Nat} {v : AV} : putO E (some d) (some (v, H)) = some ⟨zj d v E, H⟩ := rfl
theorem zIA {d : Option Nat} {op : AOp} {g : Option (Nat × Bool)} : zaJ F ⟨d, op, g⟩ ⟨E, H⟩ = putO E d (step F E H (d.getD 0) op) := rfl
variable {dst : Nat}
theorem zIR {ng : Bool} {x : Opd} : step F E H dst (.nileq ng x) = zcV H ng (x.ev E) := rfl
theorem zxM {g : FuncId} {cs : List D} {ms : List Bool} {args : List AV} : zbO F E H dst ms (.d (.fn g cs)) args = zS F E H dst ms g (args ++ cs.map .d) := rfl
theorem zxL {v : AV} {δ : za} : zbN H (some (v, δ)) = some (v, zo δ H) := rfl
theorem zxB {ms : List Bool} {f : FuncId} {args : List AV} : zS F E H dst ms f args = if zel ms args.length = true then (zY H ms args).bind (zbQ F E H dst ms f (zy ms args)) else zar F E H dst ms f args := rfl
theorem zxz {ms : List Bool} {f : FuncId} {args : List AV} : zar F E H dst ms f args = (zY H ms args).bind (zbu F E H dst (zX H ms args) (zy ms args) f) := rfl
theorem zzw {ms : List Bool} {f : FuncId} {dob : List Nat} {zKJ : List AV} : zbQ F E H dst ms f dob zKJ = if zcj H dob = true then (zar F E (zo (zP H dob) H) dst ms f zKJ).map fun p => (p.1, p.2 ++ zP H dob) else none := rfl
theorem zye (ds : List D) : zy [] (ds.map .d) = [] := by
 induction ds with
 | nil => rfl
 | cons d ds ih => simp only [zKS, zy, ih, AV.objs, zLt]
theorem zfg {f : FuncId} {ds : List D} : zS F E H dst [] f (ds.map .d) = (F f (ds.map .d) []).bind (zbv E H dst [] []) := by
 have h1 : zY H [] (ds.map .d) = some (ds.map .d) := by
  induction ds with
  | nil => rfl
  | cons d ds ih => simp only [zKS, zY, ih, toD, zLi, zLn]
 have h2 : zaj [] (ds.map .d) = [] := by cases ds <;> rfl
 have h3 := zye ds;have h4 : (ds.map AV.d).map (AV.ren (zB [])) = ds.map .d := by
  rw [zMs]; exact zLF fun _ _ => rfl
 unfold zS;rw [zKM (by simp [zel])];unfold zar;rw [h1, h3];simp only [zLi, zX, h2, zax, zbo, List.flatMap_nil, zbu, zdE, List.all_nil, zce, zML, if_true, h4, zaa, zK1]
theorem ca0 {f : FuncId} : zS F E H dst [] f [] = (F f [] []).bind (zbv E H dst [] []) := zfg (ds := [])
theorem ca1 {f : FuncId} {a : D} : zS F E H dst [] f [.d a] = (F f [.d a] []).bind (zbv E H dst [] []) := zfg (ds := [a])
theorem ca2 {f : FuncId} {a b : D} : zS F E H dst [] f [.d a, .d b] = (F f [.d a, .d b] []).bind (zbv E H dst [] []) := zfg (ds := [a, b])
theorem ca3 {f : FuncId} {a b c : D} : zS F E H dst [] f [.d a, .d b, .d c] = (F f [.d a, .d b, .d c] []).bind (zbv E H dst [] []) := zfg (ds := [a, b, c])
theorem zCB {c : Prop} [Decidable c] {e : zJ} {t : Nat} {x y : Bool} : (if c then some (e, (⟨(t, .d (.bool x)) :: E, H⟩ : St)) else some (e, ⟨(t, .d (.bool y)) :: E, H⟩)) = some (e, ⟨(t, .d (.bool (if c then x else y))) :: E, H⟩) := by split <;> rfl
theorem zAv {c x : Bool} : (if c = true then x else false) = (c && x) := by cases c <;> rfl
theorem zAw {c x : Bool} : (if c = true then true else x) = (c || x) := by cases c <;> rfl
theorem ztx {α β : Type} {c : Prop} [Decidable c] {x y : Option α} {k : α -> Option β} : (if c then x else y).bind k = if c then x.bind k else y.bind k := by split <;> rfl
theorem zCq {α β : Type} {c : Prop} [Decidable c] {x y : Option α} {k : α -> β} : (if c then x else y).map k = if c then x.map k else y.map k := by split <;> rfl
theorem zzj {sl : Bool} {rs : List zR} {os : za} {S : St} : zbi sl rs os (.normal, S) = (zbJ S rs).bind (zci sl os S) := rfl
theorem zzk {sl : Bool} {rs : List zR} {os : za} {S : St} : zbi sl rs os (.ret, S) = (zbJ S rs).bind (zci sl os S) := rfl
theorem zzi {os : za} {S : St} {v : AV} : zci true os S v = (toD S.heap v).bind (zgc os S v) := rfl
theorem zzh {os : za} {S : St} {v : AV} : zci false os S v = zdm os S v (zbI S.heap os v) := rfl
theorem zIP {x : Opd} : step F E H dst (.mv x) = ze E H dst (.mv x) := rfl
theorem zy4 {x : Opd} : AOp.feet E H dst (.mv x) = (zI (AOp.foot E dst (.mv x)), zI (AOp.wr E dst (.mv x))) := rfl
theorem zIS {c a b : Opd} : step F E H dst (.pick c a b) = ze E H dst (.pick c a b) := rfl
theorem zy5 {c a b : Opd} : AOp.feet E H dst (.pick c a b) = (zI (AOp.foot E dst (.pick c a b)), zI (AOp.wr E dst (.pick c a b))) := rfl
theorem zIz {z : AV} : step F E H dst (.alloc z) = ze E H dst (.alloc z) := rfl
theorem zID {x : Opd} : step F E H dst (.box x) = ze E H dst (.box x) := rfl
theorem zyX {len n : Nat} {z : AV} {ps : List (Nat × Opd)} : AOp.feet E H dst (.bsl len n z ps) = (zI (AOp.foot E dst (.bsl len n z ps)), zI (AOp.wr E dst (.bsl len n z ps))) := rfl
theorem zy3 {ag : Bool} {n : Nat} {p : Opd} : AOp.feet E H dst (.ld ag n p) = (zI (AOp.foot E dst (.ld ag n p)), zI (AOp.wr E dst (.ld ag n p))) := rfl
theorem zy7 {n : Nat} {p x : Opd} : AOp.feet E H dst (.st n p x) = (zI (AOp.foot E dst (.st n p x)), zdk (AOp.wr E dst (.st n p x))) := rfl
theorem zyW {op : BinOp} {x y : Opd} : AOp.feet E H dst (.bin op x y) = (zI (AOp.foot E dst (.bin op x y)), zI (AOp.wr E dst (.bin op x y))) := rfl
theorem zy0 {ng : Bool} {n : Nat} {ls : List (Nat × Nat)} {x y : Opd} : AOp.feet E H dst (.eqs ng n ls x y) = (zI (AOp.foot E dst (.eqs ng n ls x y)), zI (AOp.wr E dst (.eqs ng n ls x y))) := rfl
theorem zIQ  : step F E H dst (.nacc) = ze E H dst (.nacc) := rfl
theorem zIV {op : UnOp} {x : Opd} : step F E H dst (.un op x) = ze E H dst (.un op x) := rfl
theorem zy8 {op : UnOp} {x : Opd} : AOp.feet E H dst (.un op x) = (zI (AOp.foot E dst (.un op x)), zI (AOp.wr E dst (.un op x))) := rfl
theorem zII {k : IntKind} {x : Opd} : step F E H dst (.cvi k x) = ze E H dst (.cvi k x) := rfl
theorem zy1 {ag : Bool} {off n : Nat} {x : Opd} : AOp.feet E H dst (.fad ag off n x) = (zI (AOp.foot E dst (.fad ag off n x)), zI (AOp.wr E dst (.fad ag off n x))) := rfl
theorem zy2 {n : Nat} {x i : Opd} : AOp.feet E H dst (.iad n x i) = (zdA (AOp.foot E dst (.iad n x i)), []) := rfl
theorem zy6 {n : Nat} {x : Opd} {lo hi mx : Option Opd} : AOp.feet E H dst (.slc n x lo hi mx) = (zI (AOp.foot E dst (.slc n x lo hi mx)), zI (AOp.wr E dst (.slc n x lo hi mx))) := rfl
theorem zyV {n : Nat} {x y : Opd} : AOp.feet E H dst (.app n x y) = (zI (AOp.foot E dst (.app n x y)), zI (AOp.wr E dst (.app n x y))) := rfl
theorem zI7 {k : IntKind} {n : Int} : D.size (.int k n) = 1 := rfl
theorem zxO {k : IntKind} {n : Int} : D.cells (.int k n) = [(.int k n)] := rfl
theorem zI8 {s : List UInt8} : D.size (.str s) = 1 := rfl
theorem size_agg {cs : List D} : D.size (.agg cs) = cs.length := rfl
theorem zxN {cs : List D} : D.cells (.agg cs) = cs := rfl
theorem ztl {cs : List D} : D.asAgg (.agg cs) = .agg cs := rfl
theorem ztp {x : D} : AV.size (.d x) = x.size := rfl
theorem ztb {x : D} : AV.cells (.d x) = x.cells.map .d := rfl
theorem ztq {es : List D} : AV.size (.xsl es) = 1 := rfl
theorem ztc {es : List D} : AV.cells (.xsl es) = [(.xsl es)] := rfl
theorem zto {cs : List AV} : AV.size (.agg cs) = cs.length := rfl
section
variable {k : IntKind} {a b : Int}
theorem zz0 : zbl .add k a b = some (.int k (k.wrap (a + b))) := rfl
theorem zz7 : zbl .sub k a b = some (.int k (k.wrap (a - b))) := rfl
theorem zz5 : zbl .mul k a b = some (.int k (k.wrap (a * b))) := rfl
theorem zz1 : zbl .eql k a b = some (.bool (decide (a = b))) := rfl
theorem zz6 : zbl .neq k a b = some (.bool (!decide (a = b))) := rfl
theorem zz4 : zbl .lss k a b = some (.bool (decide (a < b))) := rfl
theorem zz3 : zbl .leq k a b = some (.bool (decide (a <= b))) := rfl
theorem zz2 : zbl .gtr k a b = some (.bool (decide (b < a))) := rfl
end
theorem zyB {ng : Bool} {n : Nat} {ls : List (Nat × Nat)} {a b : List D} : zfs H ng n ls (.d (.agg a)) (.d (.agg b)) = if a.length = n /\ b.length = n then zh6 H ng (zb0 a b ls) else none := rfl
attribute [go_sem] ztt
theorem zHN {x : AV} {off : Nat} {v : AV} : zaX x off v = if off = 0 /\ v.size = x.size then some v else if off + v.size <= x.size then some (AV.mkAgg (zbq x.cells off v.cells)) else none := rfl
attribute [go_sem] zKb zJ6 zJ9 zJ8 zJ5 zKa zJ4 zxZ zJ2 zJ7 zzU zzT zAy zCR zCQ deX zfp zyv zzN zcn zI0 zIZ zI1 zCj zCi ztA ztz zzD zzB zzC zzA zx6 zx5 zx4 zbn zCB zAv zAw ztx zCq zCT zCU zCS zx7 zx9 zya zx8 zyr zyq zHY zHW zHX zIA zIR zxM zxL zzj zzk zzi zzh zIP zIS zIz zID zIQ zIV zII zy4 zy5 zyX zy3 zy7 zyW zy0 zy8 zy1 zy2 zy6 zyV zI7 zxO zI8 size_agg zxN ztl ztp ztb ztq ztc zto zK3 ze Opd.ev zKS zK1 Go.Sim.look zj zaR zLX Option.getD_none zbY zz0 zz7 zz5 zz1 zz6 zz4 zz3 zz2 zdK zeQ zLn Option.map_none zLi Option.bind_none zbD List.contains_cons List.contains_nil Bool.or_true Bool.true_or zL5 zMi Bool.or_self zLB Bool.true_eq_false zKT zLL beq_self_eq_true refsEnv refsHeap AV.refs AV.refsL Obj.refs zMM Bool.true_and Bool.and_false Bool.false_and zML and_self and_true true_and zaf zaY zMt zMf List.getElem?_nil zK0 zK2 List.drop_zero List.drop_succ_cons List.take_succ_cons zMJ zHN zbq AV.mkAgg AV.mkTup AV.mkFn zO zIb zIa zIc toD toD.toDs z6 slD ne_eq not_true_eq_false not_false_eq_true Nat.succ_ne_self Bool.not_true Bool.not_false eq_self_iff_true z4 AOp.foot AOp.wr AOp.looks AOp.news AOp.opds zcs AV.objs AV.objsL zLy List.all_nil zMd zMe List.headD_cons List.headD_nil List.tail_cons List.tail_nil zLT zLW zLt zaU unX zc2 zeT zbh zMN List.set_cons_succ Nat.lt_add_one Nat.zero_lt_one Nat.one_lt_two Nat.zero_lt_succ zcM zh.newNames fr4 zaD zai zdd zeb zI zY zy zaj zX zbo zax zdJ zB pos AV.ren AV.renL Obj.ren zbu zbv AV.flat AV.flatL Obj.flat D.flat D.flatL zo mmD zdc zdm zgc zbI zG frs zfE zgl zin zio zcr zeA zgi zig zih zdz zez zgk zim zgj zik zcd zef zee zeI rnm Option.isNone_some Option.isNone_none zcI zbS zbW zaB zcm zgf gc1 gc zcV zb0 zg7 List.flatMap_nil List.flatMap_cons List.filter_nil List.filter_cons List.getD_cons_zero List.getD_cons_succ decide_true decide_false if_true if_false List.isEmpty_nil List.isEmpty_cons zCZ okN zhU zeR zHL osN zzv zzu zzn zfz zyk zyj zH6 zH5 zCX zCW zyF zyE zym zyl zmZ zxR zxQ zfC zzt zzs zIt zIs zfr zyw zzS zzR zhV okO zC0 zso okG zCY zf2 zHM evs evO evB evF szF zct zeL zh6 dO pdO peO ldE ldO ldV zIN zdl zIL szR szP szD zrH zcl zhC zIM stF stE stO stV zIU zzp zgQ zIC zyB zIJ bdI bd slM zs1 zmr slL slH ziu zit zgI zgH zh0 zhY zhX zhZ zcx zIT zg9 zIK zhH zhI zIO zgT zIF zgR zgS zIE zN zN.srcL zdM zgM zd8 zgN zIB zIG zIH zyY zyZ
theorem ztg {n : Nat} : zab n [] = true := rfl
theorem zmx {n : Nat} {e : D} {es : List D} : zab n (e :: es) = (e.size == n && zab n es) := rfl
theorem ztf {n : Nat} {es fs : List D} : zab n (es ++ fs) = (zab n es && zab n fs) := by simp [zab]
theorem zte {ds : List D} : zO (ds.map .d) = some ds := zgK ds
theorem zJF {ns : List Nat} : zaQ ns dst 0 = dst := by simp [zaQ]
theorem zJH {ns : List Nat} {n : Nat} (h : ¬ n < 1000000) : zaQ ns dst n = ns.getD (n - 1000000) 0 := by unfold zaQ; rw [zKM h]
theorem zJG {ns : List Nat} {a : Nat} : zaQ (a :: ns) dst 1000000 = a := by rw [zJH (by omega)]; rfl
attribute [go_sem] zJF zJG
attribute [go_sem] zcG zed zdh zdi zfn zbx zg3
attribute [go_sem] zcU zey zdx zdy zfX zbF zhT
attribute [go_sem] okA acA zeB zd7 zfZ zca zdB zc8 zbG zal zii
attribute [go_sem] okC zau zeC zeN okE zg zdC zdI zbH zap zcg orE zch zbB zfx ziq
attribute [go_sem] zsA zCV ztg zmx ztf zte
attribute [go_sem high] ca0 ca1 ca2 ca3
attribute [go_sem low] zxB zxz
attribute [go_sem] zzw zel zzy zzx zzz mark zMI Option.isSome_some Option.isSome_none
def D.isT : D -> Bool
 | .tup _ => true
 | _ => false
theorem zAt {x : D} : zae (.d x) = x.isT := by cases x <;> rfl
theorem zAr {k : IntKind} {n : Int} : D.isT (.int k n) = false := rfl
theorem zAs {s : List UInt8} : D.isT (.str s) = false := rfl
theorem zAq {cs : List D} : D.isT (.agg cs) = false := rfl
theorem zAu {es : List D} : zae (.xsl es) = false := rfl
attribute [go_sem] zAt zAr zAs zAq zAu
theorem zH8 {ρ : Nat -> Nat} {ds : List D} : (ds.map AV.d).map (AV.ren ρ) = ds.map .d := by rw [zMs]; exact zLF fun _ _ => rfl
attribute [go_sem] zH8
theorem GOK.of {P : Program} (tab : List (Nat × AFn)) (h : ∀ p ∈ tab, zb P p.1 p.2) : GOK P (fun f => look f tab) := fun f fn hf => h (f, fn) (zu hf)
end Go.Sim

namespace Go.Sim
abbrev oM (d s : Nat) : zh := ⟨some d, .mv (.t s), none⟩
abbrev oP (d : Nat) (x : AOp) : zh := ⟨some d, x, none⟩
abbrev oQ (d : Nat) (x : AOp) (t : Nat) (b : Bool) : zh := ⟨some d, x, some (t, b)⟩
abbrev oN (x : AOp) : zh := ⟨none, x, none⟩
abbrev kI (n : Int) : Opd := .c (.d (.int .i64 n))
abbrev aI (n : Int) : AV := .d (.int .i64 n)
open Go (World Value Addr TypeId Act)
def zeo (S : Nat) (args : List AV) (os : za) : Option (AV × za) :=
 match args, os with
 | [.osl o 0 n, .d (.int .i64 i), .d (.sl [v])], [(p, .row es)] =>
  (zO es).bind fun ds => if o = 1000000 /\ p = 1000000 /\ ds ≠ [] /\ n = ds.length /\ 0 <= i /\ i <= ds.length /\ zab S (v :: ds) = true /\ ds.length + 1 <= LIM then some (.d (.sl (ds.take i.toNat ++ [v] ++ ds.drop i.toNat)), [(1000000, .frz none)]) else none
 | [.xsl [], .d (.int .i64 i), .d (.sl [v])], [] => if i = 0 /\ v.size = S then some (.d (.sl [v]), []) else none
 | _, _ => none
theorem zAc {S : Nat} {args : List AV} {os os' : za} {r : AV} (h : zeo S args os = some (r, os')) :
    (∃ (ds : List D) (i : Nat) (v : D), args = .osl 1000000 0 ds.length :: [D.int .i64 i, D.sl [v]].map .d /\ os = [(1000000, .row (ds.map .d))] /\ ds ≠ [] /\ i <= ds.length /\ (∀ e ∈ v :: ds, e.size = S) /\ ds.length + 1 <= LIM /\ r = .d (.sl (ds.take i ++ [v] ++ ds.drop i)) /\ os' = [(1000000, .frz none)]) \/
    (∃ v : D, args = [.xsl [], .d (.int .i64 0), .d (.sl [v])] /\ os = [] /\ v.size = S /\ r = .d (.sl [v]) /\ os' = []) := by
 unfold zeo at h
 split at h
 · rename_i o n i v p es;obtain ⟨ds, hd, hh⟩ := zKK.1 h;clear h
   split at hh
   · rename_i hc;obtain ⟨rfl, rfl, h1, rfl, h2, h3, h4, h5⟩ := hc
     cases hh
     refine .inl ⟨ds, i.toNat, v, by simp only [zKS, zK1, Int.toNat_of_nonneg h2], by rw [zbX hd], h1, by omega, fun e he => ?_, h5, rfl, rfl⟩;simpa using (zK4.1 h4) e he
   · cases hh
 · rename_i i v
   split at h
   · rename_i hc;obtain ⟨rfl, h1⟩ := hc
     cases h
     exact .inr ⟨v, rfl, rfl, h1, rfl, rfl⟩
   · cases h
 · cases h
variable {G : FuncId -> Option AFn}
end Go.Sim

namespace Go.Sim
open Go (Program Func)
def val {x : Option zl} (c : zl) (_ : x = some c) : zl := c
theorem iP (n : Nat) : Int.ofNat n = (n : Int) := rfl
theorem iN (n : Nat) : Int.negSucc n = -((n : Int) + 1) := rfl
def zbt : zl -> List zl
 | .seq a b => zbt a ++ zbt b
 | .cond _ a b => zbt a ++ zbt b
 | .block _ a => zbt a
 | .loop _ a => zbt a ++ [a]
 | _ => []
def za0 : zl -> List zl -> zl × List zl
 | .seq a b, ls => (.seq (za0 a ls).1 (za0 b (za0 a ls).2).1, (za0 b (za0 a ls).2).2)
 | .cond z a b, ls => (.cond z (za0 a ls).1 (za0 b (za0 a ls).2).1, (za0 b (za0 a ls).2).2)
 | .block i a, ls => (.block i (za0 a ls).1, (za0 a ls).2)
 | .loop ks a, ls => (match ls.drop (zbt a).length with | x :: _ => .loop ks x | [] => .loop ks a, ls.drop ((zbt a).length + 1))
 | c, ls => (c, ls)
theorem tk {α : Type} {a b : α} (h : a = b := by kernel_rfl) : a = b := h
theorem zzq {P : Program} {f i : Nat} {fn : Func} {c : zl} {rs : List zR} {nt : Nat} {sl : Bool} (hs : zw) (hf : P.funcs[i]? = some fn) (h0 : f = i := by kernel_rfl) (h1 : zaE P f = true := by kernel_rfl) (h2 : fn.body.bind (zao P hs) = some c := by kernel_rfl) (h3 : fn.body.map (zaA fn.ntmps) = some true := by kernel_rfl) (h4 : fn.results.toList.mapM (zba P) = some rs := by kernel_rfl) (h5 : fn.ntmps = nt := by kernel_rfl) (h6 : nt <= 1000000 := by decide) : zb P f (.code c rs nt sl) := ⟨h1, fn, hs, h0 ▸ hf, h2, h3, h4, h5, h6⟩
theorem zzr {P : Program} {f i : Nat} {fn : Func} {c : zl} {rs : List zR} {nt : Nat} (hs : zw) (hf : P.funcs[i]? = some fn) (h0 : f = i := by kernel_rfl) (h1 : zaE P f = true := by kernel_rfl) (h2 : fn.body.bind (zao P hs) = some c := by kernel_rfl) (h3 : fn.body.map (zaA fn.ntmps) = some true := by kernel_rfl) (h4 : fn.results.toList.mapM (zba P) = some rs := by kernel_rfl) (h5 : fn.ntmps = nt := by kernel_rfl) (h6 : nt <= 1000000 := by decide) : zb P f (.nils c rs nt) := ⟨h1, fn, hs, h0 ▸ hf, h2, h3, h4, h5, h6⟩
end Go.Sim

namespace Go.Sim
open Go (Program Func Oper)
def oS : Opd -> List Nat
 | .t i => [i]
 | .c _ => []
def un (a b : List Nat) : List Nat := a ++ b.filter fun x => !a.contains x
def lvO (o : zh) (l : List Nat) : List Nat :=
 un (un (o.op.opds.flatMap oS) (match o.guard with | some (g, _) => [g] | none => [])) (match o.dst with | some d => l.filter fun x => !(x == d) | none => l)
def dsO : List zh -> List Nat
 | [] => []
 | o :: l => match o.dst with | some d => d :: dsO l | none => dsO l
def lv : zl -> List Nat -> List (Nat × List Nat) -> zl × List Nat
 | .ops g l _, out, _ => (.ops g l out, l.foldr lvO out)
 | .draw g l f _, out, _ => (.draw g l f out, l.foldr lvO out)
 | .seq a b, out, ex => (.seq (lv a (lv b out ex).2 ex).1 (lv b out ex).1, (lv a (lv b out ex).2 ex).2)
 | .cond c t e, out, ex => (.cond c (lv t out ex).1 (lv e out ex).1, un (oS c) (un (lv t out ex).2 (lv e out ex).2))
 | .block i b, out, ex => (.block i (lv b out ((i, out) :: ex)).1, (lv b out ((i, out) :: ex)).2)
 | .loop _ b, _, ex => (.loop (lv b [] ex).2 (lv b (lv b [] ex).2 ex).1, (lv b [] ex).2)
 | .exit i _, _, ex => (.exit i ((look i ex).getD []), (look i ex).getD [])
 | .ret k, _, _ => (.ret k, k)
 | .skip, out, _ => (.skip, out)
def zcN (i : Nat) : zl -> List Nat
 | .seq a b => un (zcN i a) (zcN i b)
 | .cond _ a b => un (zcN i a) (zcN i b)
 | .block _ a => zcN i a
 | .loop _ a => zcN i a
 | .exit j k => if i == j then k else []
 | _ => []
def fw : zl -> List Nat -> zl × List Nat
 | .ops g l o, fr => (.ops g l ((un fr (dsO l)).filter fun x => !o.contains x), (un fr (dsO l)).filter fun x => o.contains x)
 | .draw g l f o, fr => (.draw g l f ((un fr (dsO l)).filter fun x => !o.contains x), (un fr (dsO l)).filter fun x => o.contains x)
 | .seq a b, fr => (.seq (fw a fr).1 (fw b (fw a fr).2).1, (fw b (fw a fr).2).2)
 | .cond c t e, fr => (.cond c (fw t fr).1 (fw e fr).1, un (fw t fr).2 (fw e fr).2)
 | .block i b, fr => (.block i (fw b fr).1, un (fw b fr).2 (zcN i b))
 | .loop h b, fr => (.loop ((un fr (fw b h).2).filter fun x => !h.contains x) (fw b h).1, [])
 | .exit i k, _ => (.exit i k, [])
 | .ret k, _ => (.ret k, [])
 | .skip, fr => (.skip, fr)
def zcF (P : Program) (hs : zw) : Code -> Option zl
 | .skip => some .skip
 | .region id ops false => (ops.toList.mapM (zbg P hs ops)).map fun l => .ops (zbR hs.ghost id) l []
 | .region id ops true => (ops.toList.mapM (zbg P hs ops)).map fun l => .draw (zbR hs.ghost id) l ((List.range ops.size).map (zbP ops)) []
 | .seq a b => match zcF P hs a, zcF P hs b with | some x, some y => some (.seq x y) | _, _ => none
 | .cond c t e => match opd c, zcF P hs t, zcF P hs e with | some z, some x, some y => some (.cond z x y) | _, _, _ => none
 | .block id b => (zcF P hs b).map (.block id)
 | .loop b => (zcF P hs b).map (.loop [])
 | .exit id => some (.exit id [])
 | .ret => some (.ret hs.ret)
 | _ => none
def rsl : List zR -> List Nat
 | [] => []
 | .c s _ _ :: l => s :: rsl l
 | .t s :: l => s :: rsl l
def zm0 (P : Program) (fn : Func) (hs : zw) : Option zl :=
 (fn.results.toList.mapM (zba P)).bind fun rs => (fn.body.bind (zcF P { hs with ret := rsl rs })).map fun c => (fw (lv c (rsl rs) []).1 (List.range (fn.params.size + fn.nfree))).1
def zm2 (P : Program) (fn : Func) (hs : zw) (ls : List zl) : Option zl := (zm0 P fn hs).map fun c => (za0 c ls).1
def zm1 (P : Program) (fn : Func) (hs : zw) (j : Nat) (ls : List zl) : Option zl := (zm0 P fn hs).bind fun c => (zbt c)[j]?.map fun b => (za0 b ls).1
def af (P : Program) (sl : Bool) (fn : Func) (c : zl) {rs : List zR} {nt : Nat} (_ : fn.results.toList.mapM (zba P) = some rs := by conv => lhs; reduce) (_ : fn.ntmps = nt := by conv => lhs; reduce) : AFn := .code c rs nt sl
theorem zd {P : Program} {f i : Nat} {fn : Func} {c : zl} {rs : List zR} {nt : Nat} {sl : Bool} (hf : P.funcs[i]? = some fn) (h0 : f = i := by kernel_rfl) (h1 : zaE P f = true := by kernel_rfl) (h2 : fn.body.bind (zao P (zfI fn c)) = some c := by kernel_rfl) (h3 : fn.body.map (zaA fn.ntmps) = some true := by kernel_rfl) (h4 : fn.results.toList.mapM (zba P) = some rs := by kernel_rfl) (h5 : fn.ntmps = nt := by kernel_rfl) (h6 : nt <= 1000000 := by decide) : zb P f (.code c rs nt sl) := zzq (zfI fn c) hf h0 h1 h2 h3 h4 h5 h6
def an (P : Program) (fn : Func) (c : zl) {rs : List zR} {nt : Nat} (_ : fn.results.toList.mapM (zba P) = some rs := by conv => lhs; reduce) (_ : fn.ntmps = nt := by conv => lhs; reduce) : AFn := .nils c rs nt
theorem zra {P : Program} {f i : Nat} {fn : Func} {c : zl} {rs : List zR} {nt : Nat} (hf : P.funcs[i]? = some fn) (h0 : f = i := by kernel_rfl) (h1 : zaE P f = true := by kernel_rfl) (h2 : fn.body.bind (zao P (zfI fn c)) = some c := by kernel_rfl) (h3 : fn.body.map (zaA fn.ntmps) = some true := by kernel_rfl) (h4 : fn.results.toList.mapM (zba P) = some rs := by kernel_rfl) (h5 : fn.ntmps = nt := by kernel_rfl) (h6 : nt <= 1000000 := by decide) : zb P f (.nils c rs nt) := zzr (zfI fn c) hf h0 h1 h2 h3 h4 h5 h6
end Go.Sim
