/-
  The meaning of code, step by step, as rewriting.
-/
import Derived.Test.YtfggldgdejjlnaaGreatB4ae5fa5
set_option linter.unusedSimpArgs false
set_option linter.unusedVariables false
set_option maxHeartbeats 10000000
set_option maxRecDepth 100000
namespace Go.Sim
variable {F : zaa} {E : Env} {H : zb} {dst : Nat}
def zkB (full : List Nat) : List Nat -> Bool
 | [] => true
 | x :: l => full.contains x && zkB full l
theorem ztI {full : List Nat} : ∀ {l : List Nat}, l.all full.contains = zkB full l
 | [] => rfl
 | x :: l => by rw [zRL, ztI]; rfl
def ztb (full : List Nat) : Option Obj -> Bool
 | some (.row es) => zkB full (AV.objsL es)
 | _ => false
def okN (H : zb) (full : List Nat) : List Nat -> Bool
 | [] => true
 | o :: l => ztb full (look o H) && okN H full l
theorem zI9 {ns : List Nat} : zhl H ns = okN H ns ns := by
 have : ∀ full l : List Nat, (l.all fun o => match look o H with | some (.row es) => (AV.objsL es).all full.contains | _ => false) = okN H full l := by
  intro full l
  induction l with
  | nil => rfl
  | cons o l ih =>
   rw [zRL, ih];simp only [okN]
   congr 1
   unfold ztb
   split <;> simp_all [ztI]
 exact this ns ns
def osN (H : zb) (full : List Nat) : List Nat -> zb
 | [] => []
 | o :: l => (zad full o, ((look o H).getD (.acc 0)).ren (zad full)) :: osN H full l
theorem zMb {ns : List Nat} : zaU H ns = osN H ns ns := by
 have : ∀ full l : List Nat, (l.map fun o => (zad full o, ((look o H).getD (.acc 0)).ren (zad full))) = osN H full l := by
  intro full l
  induction l with
  | nil => rfl
  | cons o l ih => rw [zQS, ih]; rfl
 exact this ns ns
theorem zFM {ns : List Nat} : zjB E H dst ns [] = true := rfl
theorem zFL {ns : List Nat} {n : Nat} {ob : Obj} {l : zb} : zjB E H dst ns ((n, ob) :: l) = ((decide (1000000 <= n) || (!refsEnv (dst + 10000 * n) E && !refsHeap (dst + 10000 * n) H && !ns.contains (dst + 10000 * n))) && zjB E H dst ns l) := rfl
def zlI : zb -> Bool
 | [] => true
 | (_, ob) :: l => ob.flat && zlI l
theorem zFE {v : AV} {δ : zb} : flatRes (v, δ) = (v.flat && zlI δ) := by
 unfold flatRes
 congr 1
 show (δ.all fun q => q.2.flat) = zlI δ
 induction δ with
 | nil => rfl
 | cons p l ih => rw [zRL, ih]; rfl
theorem zDZ {b : List Nat} : zex [] b = true := rfl
theorem zDY {a : Nat} {l b : List Nat} : zex (a :: l) b = (!b.contains a && zex l b) := rfl
theorem zNr {ρ : Nat -> Nat} : zbB ρ [] = [] := rfl
theorem zNq {ρ : Nat -> Nat} {n : Nat} {ob : Obj} {l : zb} : zbB ρ ((n, ob) :: l) = (ρ n, ob.ren ρ) :: zbB ρ l := rfl
theorem zFQ : zau H [] = [] := rfl
theorem zFP {o : Nat} {l : List Nat} : zau H (o :: l) = (o, .frz (zf H o)) :: zau H l := rfl
theorem zFS : zdF H [] = true := rfl
theorem zFR {o : Nat} {l : List Nat} : zdF H (o :: l) = ((look o H).isSome && zdF H l) := rfl
theorem zI7 : zhh [] = [] := rfl
theorem zI6 {o : Nat} {l : List Nat} : zhh (o :: l) = (2 * o + 1) :: zhh l := rfl
theorem zEC : zgL [] = [] := rfl
theorem zEB {o : Nat} {l : List Nat} : zgL (o :: l) = (2 * o) :: zgL l := rfl
theorem zD1 {b : List Nat} : zfr [] b = true := rfl
theorem zD0 {a : Nat} {l b : List Nat} : zfr (a :: l) b = (!b.contains a && zfr l b) := rfl
def zvU (p : List Nat × List Nat) : Option (List Nat × List Nat) -> Bool
 | some q => zfy q p
 | none => false
theorem zDb {acc : List (List Nat × List Nat)} {p : List Nat × List Nat} : zdY [] acc p = true := rfl
theorem zDa {k : Nat} {fr : List Nat} {acc : List (List Nat × List Nat)} {p : List Nat × List Nat} : zdY (k :: fr) acc p = (zvU p (acc[k]?) && zdY fr acc p) := rfl
def zna (E : Env) (H : zb) : List Nat -> Bool
 | [] => true
 | n :: l => (!refsEnv n E && !refsHeap n H) && zna E H l
theorem zFK {S : St} : zjA [] S = true := rfl
theorem zFJ {x : zp} {l : List zp} : zjA (x :: l) ⟨E, H⟩ = (zna E H x.newNames && zjA l ⟨E, H⟩) := by
 have : ∀ ns : List Nat, (ns.all fun n => !refsEnv n E && !refsHeap n H) = zna E H ns := by
  intro ns
  induction ns with
  | nil => rfl
  | cons n l ih => rw [zRL, ih]; rfl
 rw [<- this]; rfl
theorem zNS {o m : Nat} : zky o m [] = [] := rfl
theorem zNR {o m t : Nat} {x : AV} {l : Env} : zky o m ((t, x) :: l) = (t, zdP o m x) :: zky o m l := rfl
theorem zCd {o : Nat} {ds : List D} : ziY o ds [] = [] := rfl
theorem zCc {o t : Nat} {ds : List D} {x : AV} {l : Env} : ziY o ds ((t, x) :: l) = (t, zdw o ds x) :: ziY o ds l := rfl
def zlz : Nat -> List AV -> Env
 | _, [] => []
 | n, x :: l => (n, x) :: zlz (n + 1) l
theorem zEt {args : List AV} : enter args = zlz 0 args := by
 have : ∀ (l : List AV) (n : Nat), ((l.zipIdx n).map fun p => (p.2, p.1)) = zlz n l := by
  intro l
  induction l with
  | nil => intro n; rfl
  | cons x l ih => intro n; rw [List.zipIdx_cons, zQS, ih]; rfl
 exact this args 0
theorem zGo : zbI [] = [] := rfl
theorem zGn {n : Nat} {ob : Obj} {l : zb} : zbI ((n, ob) :: l) = (n, .ref n 1 0) :: zbI l := rfl
def ztc (full : List Nat) (k o : Nat) : Option Obj -> Bool
 | some (.row es) => zkB full (AV.objsL es) && (decide (o < 1000000) || decide (o < 1000000 + k))
 | some (.acc _) => decide (o < 1000000)
 | some (.frz m) => m.isNone && decide (1000000 <= o) && (decide (o < 1000000) || decide (o < 1000000 + k))
 | _ => false
def okO (H : zb) (full : List Nat) (k : Nat) : List Nat -> Bool
 | [] => true
 | o :: l => ztc full k o (look o H) && okO H full k l
theorem zJa {os : zb} {ns : List Nat} : zfO H os ns = (okO H ns os.length ns && decide ((frs ns).length <= 4)) := by
 have : ∀ full l : List Nat, (l.all fun o => (match look o H with | some (.row es) => (AV.objsL es).all full.contains | some (.acc _) => decide (o < 1000000) | some (.frz m) => m.isNone && decide (1000000 <= o) | _ => false) && (decide (o < 1000000) || decide (o < 1000000 + os.length))) = okO H full os.length l := by
  intro full l
  induction l with
  | nil => rfl
  | cons o l ih =>
   rw [zRL, ih];simp only [okO]
   congr 1
   unfold ztc
   split <;> simp_all [ztI]
 unfold zfO;exact congrArg (· && decide ((frs ns).length <= 4)) (this ns ns)
def zAj (o : Nat) : Option AV -> Bool
 | some (.ref p 1 0) => p == o
 | _ => false
def okG (E : Env) : zb -> Bool
 | [] => true
 | (o, _) :: l => zAj o (look o E) && okG E l
theorem zI8 {os : zb} : zhk E os = okG E os := by
 unfold zhk
 induction os with
 | nil => rfl
 | cons p l ih =>
  rw [zRL, ih];simp only [okG]
  congr 1
def zod (H : zb) (full : List Nat) : List Nat -> zb
 | [] => []
 | o :: l => (zak full o, ((look o H).getD (.acc 0)).ren (zak full)) :: zod H full l
theorem zMc {ns : List Nat} : zbk H ns = zod H ns ns := by
 have : ∀ full l : List Nat, (l.map fun o => (zak full o, ((look o H).getD (.acc 0)).ren (zak full))) = zod H full l := by
  intro full l
  induction l with
  | nil => rfl
  | cons o l ih => rw [zQS, ih]; rfl
 exact this ns ns
def evs (E : Env) : List Opd -> List AV
 | [] => []
 | x :: xs => x.ev E :: evs E xs
theorem zhb {xs : List Opd} : xs.map (·.ev E) = evs E xs := by
 induction xs with
 | nil => rfl
 | cons x xs ih => rw [zQS, ih]; rfl
def evO (E : Env) : Option Opd -> Option AV
 | none => none
 | some x => some (x.ev E)
theorem zsZ {x : Option Opd} : x.map (·.ev E) = evO E x := by cases x <;> rfl
def evB (E : Env) : List (Nat × Nat × Opd) -> List (Nat × Nat × AV)
 | [] => []
 | (a, b, x) :: l => (a, b, x.ev E) :: evB E l
theorem zIi {l : List (Nat × Nat × Opd)} : (l.map fun p => (p.1, p.2.1, p.2.2.ev E)) = evB E l := by
 induction l with
 | nil => rfl
 | cons p l ih => rw [zQS, ih]; rfl
def evF (E : Env) : List (Nat × Opd) -> List (Nat × AV)
 | [] => []
 | (a, x) :: l => (a, x.ev E) :: evF E l
theorem zIj {l : List (Nat × Opd)} : (l.map fun p => (p.1, p.2.ev E)) = evF E l := by
 induction l with
 | nil => rfl
 | cons p l ih => rw [zQS, ih]; rfl
def szF (n : Nat) : List (Nat × AV) -> Bool
 | [] => true
 | (_, x) :: l => (x.size == n) && szF n l
theorem zCo {n : Nat} {l : List (Nat × Opd)} : (l.all fun p => (p.2.ev E).size == n) = szF n (evF E l) := by
 induction l with
 | nil => rfl
 | cons p l ih => rw [zRL, ih]; rfl
theorem zN5 {f : FuncId} {ms : List Bool} {xs : List Opd} : step F E H dst (.call f ms xs) = zdC H (zat F E H dst ms f (evs E xs)) := by rw [<- zhb]; rfl
theorem zN6 {f : Opd} {ms : List Bool} {xs : List Opd} : step F E H dst (.callv f ms xs) = zdC H (zdD F E H dst ms (f.ev E) (evs E xs)) := by rw [<- zhb]; rfl
theorem zEZ {f : FuncId} {ms : List Bool} {xs : List Opd} : AOp.feet E H dst (.call f ms xs) = zgz H dst ms (evs E xs) := by rw [<- zhb]; rfl
theorem zE0 {f : Opd} {ms : List Bool} {xs : List Opd} : AOp.feet E H dst (.callv f ms xs) = zjd H dst ms (f.ev E) (evs E xs) := by rw [<- zhb]; rfl
def zdM (H : zb) : Option AV -> Option (AV × zb)
 | none => none
 | some v => some (v, H)
theorem zfS {x : Option AV} : x.map (fun v => (v, H)) = zdM H x := by cases x <;> rfl
def zkw (H : zb) : Option D -> Option (AV × zb)
 | none => none
 | some v => some (.d v, H)
theorem zA5 {x : Option D} : x.map (fun v => (AV.d v, H)) = zkw H x := by cases x <;> rfl
def ztv (H : zb) (ng : Bool) : Option Bool -> Option (AV × zb)
 | none => none
 | some b => some (.d (.bool (if ng then !b else b)), H)
def dO : Option D -> Option AV
 | none => none
 | some v => some (.d v)
theorem zvZ {x : Option D} : x.map AV.d = dO x := by cases x <;> rfl
def pdO : Option D -> Option AV
 | none => none
 | some v => some (.d (.pd v))
def peO (o : Nat) : Option D -> Option AV
 | none => none
 | some v => some (.pe o v)
def ldR (ag : Bool) (n : Nat) : Option AV -> Option AV
 | some e => zcc ag off n e
 | none => none
 where off : Nat := 0
def ldE (ag : Bool) (n off : Nat) : Option AV -> Option AV
 | some e => zcc ag off n e
 | none => none
def ldO (ag : Bool) (n i off : Nat) : Option Obj -> Option AV
 | some (.row es) => ldE ag n off es[i]?
 | _ => none
def ldV (H : zb) (ag : Bool) (n : Nat) : AV -> Option AV
 | .d (.pd x) => dO (zaW ag 0 n x)
 | .pe _ x => dO (zaW ag 0 n x)
 | .ref o i off => ldO ag n i off (look o H)
 | _ => none
theorem zzy {ag : Bool} {n : Nat} {v : AV} : ldA H ag n v = ldV H ag n v := by
 unfold ldA
 split
 · exact zvZ
 · exact zvZ
 · rename_i o i off;simp only [ldV];generalize look o H = q
   rcases q with _ | (es | m | m | m)
   · rfl
   · show es[i]?.bind _ = ldE ag n off es[i]?
     cases es[i]? <;> rfl
   · rfl
   · rfl
   · rfl
 · unfold ldV; split <;> simp_all
theorem zOf {ag : Bool} {n : Nat} {p : Opd} : step F E H dst (.ld ag n p) = zdM H (ldV H ag n (p.ev E)) := by
 show (ldA H ag n (p.ev E)).map (fun v => (v, H)) = _;rw [zfS, zzy]
def zgM (ag : Bool) (off n : Nat) : AV -> Option AV
 | .ref o i f => some (.ref o i (f + off))
 | .d (.pd y) => pdO (zaW ag off n y)
 | .pe o y => peO o (zaW ag off n y)
 | _ => none
theorem zFf {ag : Bool} {off n : Nat} {v : AV} : zb5 ag off n v = zgM ag off n v := by
 unfold zb5
 split
 · rfl
 · rename_i y; simp only [zgM]; cases zaW ag off n y <;> rfl
 · rename_i o y; simp only [zgM]; cases zaW ag off n y <;> rfl
 · unfold zgM; split <;> simp_all
theorem zOc {ag : Bool} {off n : Nat} {x : Opd} : step F E H dst (.fad ag off n x) = zdM H (zgM ag off n (x.ev E)) := by
 show (zb5 ag off n (x.ev E)).map (fun v => (v, H)) = _;rw [zfS, zFf]
def szR (n o i : Nat) : Option AV -> Option AV
 | some e => if e.size = n then some (.ref o i 0) else none
 | none => none
def szP (n o : Nat) : Option D -> Option AV
 | some e => if e.size = n then some (.pe o e) else none
 | none => none
def szD (n : Nat) : Option D -> Option AV
 | some e => if e.size = n then some (.d (.pd e)) else none
 | none => none
def zzl (n o i : Nat) : Option Obj -> Option AV
 | some (.row es) => szR n o i es[i]?
 | _ => none
def zeJ (H : zb) (n : Nat) (i : Int) : AV -> Option AV
 | .osl o off len => if i < len then zzl n o (off + i.toNat) (look o H) else none
 | .acc o es => szP n o es[i.toNat]?
 | .d (.sl es) => szD n es[i.toNat]?
 | .xsl es => szD n es[i.toNat]?
 | _ => none
theorem zGD {n : Nat} {i : Int} {v : AV} : zbo H n i v = zeJ H n i v := by
 unfold zbo
 split
 · rename_i o off len;simp only [zeJ]
   split
   · generalize look o H = q
     rcases q with _ | (es | m | m | m)
     · rfl
     · show es[off + i.toNat]?.bind _ = szR n o (off + i.toNat) es[off + i.toNat]?
       cases es[off + i.toNat]? <;> rfl
     · rfl
     · rfl
     · rfl
   · rfl
 · rename_i o es; simp only [zeJ]; unfold szP; cases es[i.toNat]? <;> rfl
 · rename_i es; simp only [zeJ]; unfold szD; cases es[i.toNat]? <;> rfl
 · rename_i es; simp only [zeJ]; unfold szD; cases es[i.toNat]? <;> rfl
 · unfold zeJ; split <;> simp_all
def zsf (H : zb) (n : Nat) (v : AV) : Option Int -> Option (AV × zb)
 | some k => if 0 <= k then zdM H (zeJ H n k v) else none
 | none => none
theorem zOd {n : Nat} {x i : Opd} : step F E H dst (.iad n x i) = zsf H n (x.ev E) (zaL (i.ev E)) := by
 show (zaL (i.ev E)).bind _ = _;unfold zsf
 cases zaL (i.ev E) with
 | none => rfl
 | some k => simp only [zRk, zGD, zfS]
def stF (H : zb) (o i : Nat) (es : List AV) : Option AV -> Option (AV × zb)
 | some e => some (.undef, zr o (.row (es.set i e)) H)
 | none => none
def stE (H : zb) (o i off : Nat) (es : List AV) (v : AV) : Option AV -> Option (AV × zb)
 | some e => stF H o i es (zbZ e off v)
 | none => none
def stO (H : zb) (o i off : Nat) (v : AV) : Option Obj -> Option (AV × zb)
 | some (.row es) => stE H o i off es v es[i]?
 | _ => none
def stV (H : zb) (n : Nat) (v : AV) : AV -> Option (AV × zb)
 | .ref o i off => if v.size = n /\ zaQ v = false then stO H o i off v (look o H) else none
 | _ => none
def zvW (H : zb) (n o off len : Nat) : Option Obj -> Option (AV × zb)
 | some (.row es) => if off + len = es.length /\ es.head?.map AV.size = some n then some (.undef, zr o (.row (es.take off)) H) else none
 | _ => none
def zlo (H : zb) (n : Nat) : AV -> Option (AV × zb)
 | .osl o off len => zvW H n o off len (look o H)
 | _ => none
def zur : Option AV -> Option Int
 | some (.d (.int .i64 n)) => some n
 | _ => none
def zus (off : Nat) : Option AV -> Option Int
 | some e => zur e.cells[off]?
 | none => none
def zut (i off : Nat) : Option Obj -> Option Int
 | some (.row es) => zus off es[i]?
 | _ => none
def zuu (H : zb) : AV -> Option Int
 | .ref o i off => zut i off (look o H)
 | _ => none
def zux (v : D) : Option (AV × zb) -> Option (AV × zb)
 | some p => some (.d v, p.2)
 | none => none
def zuy (H : zb) (p : AV) (n : Int) : Option Int -> Option (AV × zb)
 | some _ => zux (.tup []) (stV H 1 (.d (.int .i64 n)) p)
 | none => none
def zCF (H : zb) (p : AV) : AV -> Option (AV × zb)
 | .d (.int .i64 n) => zuy H p n (zuu H p)
 | _ => none
def zzF (ok : Bool) (z : D) (q : Option D) : D := if ok then .tup [q.getD z, .bool q.isSome] else q.getD z
def zzE (ok : Bool) (z : D) (n : Int) : Option Obj -> Option AV
 | some (.mp es) => some (.d (zzF ok z (zbr n es)))
 | _ => none
def zn0 (ok : Bool) (z : D) (r : Option Obj) : AV -> Option AV
 | .d (.int .i64 n) => zzE ok z n r
 | _ => none
def zj9 (H : zb) (ok : Bool) (z : D) (k : AV) : AV -> Option AV
 | .mpr o => zn0 ok z (look o H) k
 | _ => none
theorem zOi {ok : Bool} {z : D} {x k : Opd} : step F E H dst (.lkp ok z x k) = zdM H (zj9 H ok z (k.ev E) (x.ev E)) := by
 have e : zd8 H ok z (x.ev E) (k.ev E) = zj9 H ok z (k.ev E) (x.ev E) := by
  generalize x.ev E = xv;generalize k.ev E = kv;unfold zd8
  split
  · rename_i o n;simp only [zj9, zn0];generalize look o H = q
    rcases q with _ | (es | m | m | m) <;> rfl
  · rename_i hno;unfold zj9
    split
    · rename_i o;unfold zn0
      split
      · exact absurd rfl (hno _ _ rfl)
      · rfl
    · rfl
 show (zd8 H ok z (x.ev E) (k.ev E)).map _ = _;rw [e, zfS]
def zz5 (H : zb) (o : Nat) (n : Int) (y : D) : Option Obj -> Option (AV × zb)
 | some (.mp es) => some (.undef, zr o (.mp (zbY n y es)) H)
 | _ => none
def zn6 (H : zb) (o : Nat) (n : Int) : AV -> Option (AV × zb)
 | .d y => zz5 H o n y (look o H)
 | _ => none
def zn4 (H : zb) (o : Nat) (y : AV) : AV -> Option (AV × zb)
 | .d (.int .i64 n) => zn6 H o n y
 | _ => none
def zn5 (H : zb) (k y : AV) : AV -> Option (AV × zb)
 | .mpr o => zn4 H o y k
 | _ => none
theorem zOn {x k v : Opd} : step F E H dst (.mup x k v) = zn5 H (k.ev E) (v.ev E) (x.ev E) := by
 show zfK H (x.ev E) (k.ev E) (v.ev E) = _;generalize x.ev E = xv;generalize k.ev E = kv;generalize v.ev E = yv;unfold zfK
 split
 · rename_i o n y;simp only [zn5, zn4, zn6];generalize look o H = q
   rcases q with _ | (es | m | m | m) <;> rfl
 · rename_i hno;unfold zn5
   split
   · unfold zn4
     split
     · unfold zn6
       split
       · exact absurd rfl (hno _ _ _ rfl rfl)
       · rfl
     · rfl
   · rfl
theorem zN7 {n : Nat} {x : Opd} : step F E H dst (.clr n x) = zlo H n (x.ev E) := by
 show zi E H dst (.clr n x) = _;simp only [zi];generalize x.ev E = xv
 split
 · rename_i o off len;simp only [zlo];generalize look o H = q
   rcases q with _ | (es | m | m | m) <;> rfl
 · unfold zlo; split <;> simp_all
theorem zOu {n : Nat} {p x : Opd} : step F E H dst (.st n p x) = stV H n (x.ev E) (p.ev E) := by
 show zi E H dst (.st n p x) = _;simp only [zi];generalize p.ev E = pv
 split
 · rename_i o i off;simp only [stV]
   split
   · generalize look o H = q
     rcases q with _ | (es | m | m | m)
     · rfl
     · show es[i]?.bind _ = stE H o i off es (x.ev E) es[i]?
       cases es[i]? with
       | none => rfl
       | some e =>
        show Option.map _ (zbZ e off (x.ev E)) = stF H o i es (zbZ e off (x.ev E))
        cases zbZ e off (x.ev E) <;> rfl
     · rfl
     · rfl
     · rfl
   · rfl
 · unfold stV; split <;> simp_all
def zFG (H : zb) (ag : Bool) (off n : Nat) : AV -> Option (AV × zb)
 | .d (.agg cs) => zkw H (zaW ag off n (.agg cs))
 | .agg cs => zdM H (zcc ag off n (.agg cs))
 | _ => none
def zpn (H : zb) (op : BinOp) : AV -> AV -> Option (AV × zb)
 | .d a, .d b => zkw H (zdW op a b)
 | _, _ => none
theorem zN1 {op : BinOp} {x y : Opd} : step F E H dst (.bin op x y) = zpn H op (x.ev E) (y.ev E) := by
 show zi E H dst (.bin op x y) = _;simp only [zi];generalize x.ev E = v;generalize y.ev E = u
 split
 · exact zA5
 · unfold zpn; split <;> simp_all
def zlA (H : zb) (ng : Bool) (n : Nat) (ls : List (Nat × Nat)) : AV -> AV -> Option (AV × zb)
 | .d (.agg a), .d (.agg b) => if a.length = n /\ b.length = n then ztv H ng (zd0 a b ls) else none
 | _, _ => none
theorem zOa {ng : Bool} {n : Nat} {ls : List (Nat × Nat)} {x y : Opd} : step F E H dst (.eqs ng n ls x y) = zlA H ng n ls (x.ev E) (y.ev E) := by
 show zi E H dst (.eqs ng n ls x y) = _;simp only [zi];generalize x.ev E = v;generalize y.ev E = u
 split
 · rename_i a b;simp only [zlA]
   split
   · cases zd0 a b ls <;> rfl
   · rfl
 · unfold zlA; split <;> simp_all
def zsh (H : zb) : Option UInt8 -> Option (AV × zb)
 | some b => some (.d (.int .u8 b.toNat), H)
 | none => none
def znC (H : zb) : AV -> Option Int -> Option (AV × zb)
 | .d (.str s), some k => if 0 <= k then zsh H s[k.toNat]? else none
 | _, _ => none
theorem zOe {x i : Opd} : step F E H dst (.idx x i) = znC H (x.ev E) (zaL (i.ev E)) := by
 show zi E H dst (.idx x i) = _;simp only [zi];generalize x.ev E = v;generalize zaL (i.ev E) = u
 split
 · rename_i s k;simp only [znC]
   split
   · unfold zsh; cases s[k.toNat]? <;> rfl
   · rfl
 · unfold znC; split <;> simp_all
def bdI (y : Nat) : Option Int -> Option Nat
 | some n => if 0 <= n /\ n <= y then some n.toNat else none
 | none => none
def bd (dflt y : Nat) : Option AV -> Option Nat
 | none => some dflt
 | some v => bdI y (zaL v)
theorem zkV {x : Option AV} {dflt y : Nat} : za7 x dflt y = bd dflt y x := by
 cases x with
 | none => rfl
 | some v =>
  simp only [za7, bd];unfold bdI
  cases zaL v <;> rfl
def slM (es : List D) (h l : Nat) (hi : Option AV) : Option AV -> Option AV
 | none => some (.d (.sl ((es.take h).drop l)))
 | some m => if zaL m = some (h : Int) /\ hi.isSome then some (.xsl ((es.take h).drop l)) else none
def zBY (es : List D) (h l : Nat) (hi : Option AV) : Option AV -> Option AV
 | none => some (if h = es.length then .xsl ((es.take h).drop l) else .d (.sl ((es.take h).drop l)))
 | some m => if zaL m = some (h : Int) /\ hi.isSome then some (.xsl ((es.take h).drop l)) else none
def zug (o : Nat) (es : List D) (h : Nat) (hi : Option AV) : Option AV -> Option AV
 | none => some (.acc o (es.take h))
 | some m => if zaL m = some (h : Int) /\ hi.isSome then some (.acc o (es.take h)) else none
def slL (es : List D) (hi mx : Option AV) (h : Nat) : Option Nat -> Option AV
 | some l => slM es h l hi mx
 | none => none
def slH (es : List D) (lo hi mx : Option AV) : Option Nat -> Option AV
 | some h => slL es hi mx h (bd 0 h lo)
 | none => none
def zt7 (es : List D) (hi mx : Option AV) (h : Nat) : Option Nat -> Option AV
 | some l => zBY es h l hi mx
 | none => none
def zt6 (es : List D) (lo hi mx : Option AV) : Option Nat -> Option AV
 | some h => zt7 es hi mx h (bd 0 h lo)
 | none => none
def zo9 (o : Nat) (es : List D) (hi mx : Option AV) (h : Nat) : Option Nat -> Option AV
 | some l => if l = 0 then zug o es h hi mx else none
 | none => none
def zo8 (o : Nat) (es : List D) (lo hi mx : Option AV) : Option Nat -> Option AV
 | some h => zo9 o es hi mx h (bd 0 h lo)
 | none => none
def zth (n o off h l : Nat) : Option Obj -> Option AV
 | some (.row es) => if l = 0 \/ es.head?.map AV.size = some n then some (.osl o (off + l) (h - l)) else none
 | _ => none
def ztf (H : zb) (n o off h : Nat) : Option Nat -> Option AV
 | some l => zth n o off h l (look o H)
 | none => none
def zte (H : zb) (n o off : Nat) (lo : Option AV) : Option Nat -> Option AV
 | some h => ztf H n o off h (bd 0 h lo)
 | none => none
def ztg (H : zb) (n o off len : Nat) (lo hi : Option AV) : Option AV -> Option AV
 | none => zte H n o off lo (bd len len hi)
 | some _ => none
def zeX (H : zb) (n : Nat) (lo hi mx : Option AV) : AV -> Option AV
 | .d (.sl es) => if zao n es then slH es lo hi mx (bd es.length es.length hi) else none
 | .xsl es => if zao n es then zt6 es lo hi mx (bd es.length es.length hi) else none
 | .acc o es => if zao n es then zo8 o es lo hi mx (bd es.length es.length hi) else none
 | .osl o off len => ztg H n o off len lo hi mx
 | _ => none
theorem zOQ {n : Nat} {lo hi mx : Option AV} {v : AV} : za5 H n lo hi mx v = zeX H n lo hi mx v := by
 unfold za5
 split
 · rename_i es;simp only [zeX]
   split
   · simp only [zkV];unfold slH
     cases bd es.length es.length hi with
     | none => rfl
     | some h =>
      simp only [zRk];unfold slL
      cases bd 0 h lo with
      | none => rfl
      | some l => simp only [zRk]; cases mx <;> rfl
   · rfl
 · rename_i es;simp only [zeX]
   split
   · simp only [zkV];unfold zt6
     cases bd es.length es.length hi with
     | none => rfl
     | some h =>
      simp only [zRk];unfold zt7
      cases bd 0 h lo with
      | none => rfl
      | some l => simp only [zRk]; cases mx <;> rfl
   · rfl
 · rename_i o es;simp only [zeX]
   split
   · simp only [zkV];unfold zo8
     cases bd es.length es.length hi with
     | none => rfl
     | some h =>
      simp only [zRk];unfold zo9
      cases bd 0 h lo with
      | none => rfl
      | some l => simp only [zRk]; cases mx <;> rfl
   · rfl
 · rename_i o off len
   cases mx with
   | some m => rfl
   | none =>
    simp only [zkV, zeX, ztg];unfold zte
    cases bd len len hi with
    | none => rfl
    | some h =>
     simp only [zRk];unfold ztf
     cases bd 0 h lo with
     | none => rfl
     | some l => simp only [zRk]; unfold zth; rfl
 · unfold zeX; split <;> simp_all
theorem zOt {n : Nat} {x : Opd} {lo hi mx : Option Opd} : step F E H dst (.slc n x lo hi mx) = zdM H (zeX H n (evO E lo) (evO E hi) (evO E mx) (x.ev E)) := by
 show (za5 H n (lo.map (·.ev E)) (hi.map (·.ev E)) (mx.map (·.ev E)) (x.ev E)).map (fun v => (v, H)) = _;rw [zfS, zOQ, zsZ, zsZ, zsZ]
def zqj (H : zb) (i : Nat) : AV -> Option (AV × zb)
 | .d (.tup vs) => zkw H vs[i]?
 | .tup vs => zdM H vs[i]?
 | _ => none
theorem zOb {x : Opd} {i : Nat} : step F E H dst (.ext x i) = zqj H i (x.ev E) := by
 show zi E H dst (.ext x i) = _;simp only [zi];generalize x.ev E = v
 split
 · exact zA5
 · exact zfS
 · unfold zqj; split <;> simp_all
def zsR (H : zb) : Option (List D) -> Option (AV × zb)
 | some es => some (.d (.int .i64 es.length), H)
 | none => none
def zsS (H : zb) : AV -> Option (AV × zb)
 | .osl _ _ len => some (.d (.int .i64 len), H)
 | .d (.sl es) => some (.d (.int .i64 es.length), H)
 | .acc _ es => some (.d (.int .i64 es.length), H)
 | .xsl es => some (.d (.int .i64 es.length), H)
 | y => zsR H (slD y)
theorem zOg {x : Opd} : step F E H dst (.len x) = zsS H (x.ev E) := by
 show zi E H dst (.len x) = _;simp only [zi];generalize x.ev E = v
 split
 · rfl
 · unfold zsS
   split
   · simp_all
   · rfl
   · rfl
   · rfl
   · unfold zsR; cases slD v <;> rfl
def mmV (H : zb) (mx : Bool) : List AV -> Option (AV × zb)
 | [] => none
 | y :: ys => zdM H (mmD mx y ys)
theorem zOm {mx : Bool} {xs : List Opd} : step F E H dst (.mm mx xs) = mmV H mx (evs E xs) := by
 show zi E H dst (.mm mx xs) = _;simp only [zi, zhb]
 cases evs E xs with
 | nil => rfl
 | cons y ys => exact zfS
theorem zOj {f : FuncId} {cs : List Opd} : step F E H dst (.mkfn f cs) = some (AV.mkFn f (evs E cs), H) := by
 show zi E H dst (.mkfn f cs) = _;simp only [zi, zhb]
def zpr (H : zb) : Option (List AV) -> Option (AV × zb)
 | some cs => some (AV.mkAgg cs, H)
 | none => none
theorem zN4 {z : List AV} {ps : List (Nat × Nat × Opd)} : step F E H dst (.build z ps) = zpr H (zcD z (evB E ps)) := by
 show zi E H dst (.build z ps) = _;simp only [zi, zIi];unfold zpr
 cases zcD z (evB E ps) <;> rfl
def zpp (E : Env) (H : zb) (dst len : Nat) (es : List AV) : Option (List D) -> Option (AV × zb)
 | some ds => some (.xsl ds, H)
 | none => if refsEnv dst E = false /\ refsHeap dst H = false then some (.osl dst 0 len, zr dst (.row es) H) else none
def zpq (E : Env) (H : zb) (dst len : Nat) : Option (List AV) -> Option (AV × zb)
 | some es => zpp E H dst len es (zab es)
 | none => none
theorem zN3 {len n : Nat} {z : AV} {ps : List (Nat × Opd)} : step F E H dst (.bsl len n z ps) = if z.size = n /\ szF n (evF E ps) = true then zpq E H dst len (zb6 (List.replicate len z) (evF E ps)) else none := by
 show zi E H dst (.bsl len n z ps) = _;simp only [zi, zIj, zCo]
 split
 · unfold zpq
   cases zb6 (List.replicate len z) (evF E ps) with
   | none => rfl
   | some es => simp only [zRk]; unfold zpp; rfl
 · rfl
def zpl (H : zb) : Option (List UInt8) -> Option (AV × zb)
 | some s => some (.d (.str s), H)
 | none => none
def zpm (H : zb) : Option (List D) -> Option (AV × zb)
 | some es => zpl H (zdz es)
 | none => none
theorem zN0 {x : Opd} : step F E H dst (.b2s x) = zpm H (slD (x.ev E)) := by
 show zi E H dst (.b2s x) = _;simp only [zi];unfold zpm
 cases slD (x.ev E) with
 | none => rfl
 | some es => simp only [zRk]; unfold zpl; cases zdz es <;> rfl
def byD (s : List UInt8) : List D := s.map fun b => .int .u8 b.toNat
def zo (off len : Nat) : Option Obj -> Option (List D)
 | some (.row es) => srcL len (zab ((es.drop off).take len))
 | _ => none
 where srcL (len : Nat) : Option (List D) -> Option (List D)
  | some ds => if ds.length = len then some ds else none
  | none => none
def zhy (H : zb) : AV -> Option (List D)
 | .osl o off len => zo off len (look o H)
 | .nl _ => some []
 | y => slD y
theorem zO2 {v : AV} : zbD H v = zhy H v := by
 unfold zbD
 split
 · rename_i o off len;simp only [zhy];generalize look o H = q
   rcases q with _ | (es | m | m | m)
   · rfl
   · show (zab ((es.drop off).take len)).bind _ = zo.srcL len (zab ((es.drop off).take len))
     cases zab ((es.drop off).take len) <;> rfl
   · rfl
   · rfl
   · rfl
 · rfl
 · unfold zhy; split <;> simp_all
def zpe (H : zb) (o n : Nat) (es ys : List D) : Option Obj -> Option (AV × zb)
 | some (.acc m) => if es.length = m /\ zao n (es ++ ys) /\ (es ++ ys).length <= LIM then some (.acc o (es ++ ys), zr o (.acc (m + ys.length)) H) else none
 | _ => none
def ziZ (E : Env) (H : zb) (dst n : Nat) (ys : List D) : AV -> Option (AV × zb)
 | .xsl es => if (ys.isEmpty && !es.isEmpty) = true then (if zao n es = true then some (.xsl es, H) else none) else if zao n (es ++ ys) /\ (es ++ ys).length <= LIM /\ refsEnv dst E = false /\ refsHeap dst H = false then some (.acc dst (es ++ ys), zr dst (.acc (es.length + ys.length)) H) else none
 | .acc o es => zpe H o n es ys (look o H)
 | _ => none
theorem zCs {n : Nat} {ys : List D} {v : AV} : zaZ E H dst n ys v = ziZ E H dst n ys v := by
 unfold zaZ
 split
 · rfl
 · simp only [ziZ]; unfold zpe; rfl
 · unfold ziZ; split <;> simp_all
def zpf (E : Env) (H : zb) (dst n : Nat) (v : AV) : Option (List D) -> Option (AV × zb)
 | some ys => ziZ E H dst n ys v
 | none => none
theorem zNZ {n : Nat} {x y : Opd} : step F E H dst (.app n x y) = zpf E H dst n (x.ev E) (zhy H (y.ev E)) := by
 show zi E H dst (.app n x y) = _;simp only [zi, zO2];unfold zpf
 cases zhy H (y.ev E) with
 | none => rfl
 | some ys => simp only [zRk, zCs]
def zA2 (H : zb) (ag : Bool) (sz : Nat) : Option AV -> Option AV
 | some v => ldV H ag sz v
 | none => none
theorem zNw {n sz : Nat} {ag : Bool} : zar.ev ⟨E, H⟩ (.c n ag sz) = zA2 H ag sz (look n E) := by
 show (look n E).bind (ldA H ag sz) = _
 cases look n E with
 | none => rfl
 | some v => exact zzy
theorem zNz {n : Nat} : zar.ev ⟨E, H⟩ (.t n) = look n E := rfl
def zp6 (v : Option AV) : Option (List AV) -> Option (List AV)
 | some vs => consQ vs v
 | none => none
 where consQ (vs : List AV) : Option AV -> Option (List AV)
  | some v => some (v :: vs)
  | none => none
def zeR (S : St) : List zar -> Option (List AV)
 | [] => some []
 | r :: rs => zp6 (r.ev S) (zeR S rs)
theorem zNv {S : St} {rs : List zar} : rs.mapM (zar.ev S) = zeR S rs := by
 induction rs with
 | nil => rfl
 | cons r rs ih =>
  rw [zSn, ih];simp only [zeR]
  cases r.ev S with
  | none => cases zeR S rs <;> rfl
  | some v => cases zeR S rs <;> rfl
def zBE : Option (List AV) -> Option AV
 | some vs => some (AV.mkTup vs)
 | none => none
theorem zNy {S : St} {r : zar} : zcS S [r] = r.ev S := rfl
theorem zNx {S : St} : zcS S [] = some (AV.mkTup []) := rfl
theorem zNA {S : St} {a b : zar} {l : List zar} : zcS S (a :: b :: l) = zBE (zeR S (a :: b :: l)) := by
 show ((a :: b :: l).mapM (zar.ev S)).map AV.mkTup = _;rw [zNv]
 cases zeR S (a :: b :: l) <;> rfl
end Go.Sim

namespace Go.Sim
variable {G : FuncId -> Option AFn} {F : zaa} {E : Env} {H : zb}
theorem zQh : exL G .skip ⟨E, H⟩ = some (.normal, ⟨E, H⟩) := zEK
theorem zEs {ks : List Nat} : endS ks ⟨E, H⟩ = gcS ⟨zbC (zeL ks E), H⟩ := rfl
theorem zGh : gcS ⟨E, H⟩ = ⟨E, gc1 E H⟩ := rfl
theorem zQc {i : Nat} {ks : List Nat} : exL G (.exit i ks) ⟨E, H⟩ = some (.exit i, endS ks ⟨E, H⟩) := zEG
theorem zQf {ks : List Nat} : exL G (.ret ks) ⟨E, H⟩ = some (.ret, endS ks ⟨E, H⟩) := zEI
theorem zQe {gs : List Nat} {l : List zp} {ks : List Nat} : exL G (.ops gs l ks) ⟨E, H⟩ = ((zcG gs ⟨E, H⟩).bind (zaw (zd G) l)).map (zfB ks) := zEH
theorem zQb {gs : List Nat} {l : List zp} {fr : List (List Nat)} {ks : List Nat} : exL G (.draw gs l fr ks) ⟨E, H⟩ = ((zcG gs ⟨E, H⟩).bind (zc6 (zd G) l fr)).map (zfB ks) := zEF
theorem zQg {x y : zh} : exL G (.seq x y) ⟨E, H⟩ = (exL G x ⟨E, H⟩).bind (zee (exL G y)) := zEJ
theorem zP9 {c : Opd} {x y : zh} : exL G (.cond c x y) ⟨E, H⟩ = zeu (c.ev E) (exL G x ⟨E, H⟩) (exL G y ⟨E, H⟩) := zEE
noncomputable def zp5 (G : FuncId -> Option AFn) (x y : zh) (E : Env) (H : zb) : AV -> Option (zJ × St)
 | .d (.bool b) => if b = true then exL G x ⟨E, H⟩ else exL G y ⟨E, H⟩
 | _ => none
theorem zQa {c : Opd} {x y : zh} : exL G (.cond c x y) ⟨E, H⟩ = zp5 G x y E H (c.ev E) := by
 rw [zP9];unfold zeu zp5;generalize c.ev E = v
 split <;> simp_all
theorem zDh {b : Bool} {x y : zh} : zp5 G x y E H (.d (.bool b)) = if b = true then exL G x ⟨E, H⟩ else exL G y ⟨E, H⟩ := rfl
theorem zP8 {id : Nat} {x : zh} : exL G (.block id x) ⟨E, H⟩ = (exL G x ⟨E, H⟩).map (zfj id) := zED
theorem zQd {ks : List Nat} {x : zh} : exL G (.loop ks x) ⟨E, H⟩ = zT G ks x (norm ks ⟨E, H⟩) := rfl
theorem zGq {S : St} : zcG [] S = some S := rfl
theorem zGp {g : Nat} {gs : List Nat} : zcG (g :: gs) ⟨E, H⟩ = (znr g ⟨E, H⟩).bind (zcG gs) := rfl
theorem zHC {ks : List Nat} : zfB ks ⟨E, H⟩ = (.normal, ⟨zc9 ks E, H⟩) := rfl
theorem zI1 {ks : List Nat} : norm ks ⟨E, H⟩ = norm1 ⟨zc9 ks E, H⟩ := rfl
theorem zI0 : norm1 ⟨E, H⟩ = ⟨zbC (deX E), zoA (gc1 E (gc1 E H))⟩ := rfl
theorem zOA {g : St -> Option (zJ × St)} {S : St} : zee g (.normal, S) = g S := rfl
theorem zOz {g : St -> Option (zJ × St)} {i : Nat} {S : St} : zee g (.exit i, S) = some (.exit i, S) := rfl
theorem zOB {g : St -> Option (zJ × St)} {S : St} : zee g (.ret, S) = some (.ret, S) := rfl
theorem zIe {ks : List Nat} {g : St -> Option (zJ × St)} {S : St} : zbA ks g (.normal, S) = g (norm ks S) := rfl
theorem zId {ks : List Nat} {g : St -> Option (zJ × St)} {i : Nat} {S : St} : zbA ks g (.exit i, S) = some (.exit i, S) := rfl
theorem zIf {ks : List Nat} {g : St -> Option (zJ × St)} {S : St} : zbA ks g (.ret, S) = some (.ret, S) := rfl
theorem zCL {id : Nat} {S : St} : zfj id (.normal, S) = (.normal, S) := rfl
theorem zCK {id i : Nat} {S : St} : zfj id (.exit i, S) = if i = id then (.normal, S) else (.exit i, S) := rfl
theorem zCM {id : Nat} {S : St} : zfj id (.ret, S) = (.ret, S) := rfl
def zcQ (t : Nat) (v : AV) : Env -> Env
 | [] => []
 | (j, x) :: l => if j = t then (j, v) :: l else (j, x) :: zcQ t v l
theorem zoi {t : Nat} {v : AV} : ∀ {E : Env}, look t E = some v -> zcQ t v E = E := by
 intro E
 induction E with
 | nil => intro h; cases h
 | cons p l ih =>
  obtain ⟨j, x⟩ := p;intro h;simp only [look] at h;simp only [zcQ]
  split
  · rename_i e; rw [zQO e] at h; cases h; rfl
  · rename_i e; rw [zQN e] at h; rw [ih h]
def zQL {α : Type} (v : Option AV) (k j : Bool -> Option α) : Option α :=
 match v with
 | some (.d (.bool true)) => k true
 | some (.d (.bool false)) => k false
 | _ => none
theorem zI3 : zaw F [] ⟨E, H⟩ = some ⟨E, H⟩ := rfl
theorem zI4 {d : Option Nat} {op : AOp} {l : List zp} : zaw F (⟨d, op, none⟩ :: l) ⟨E, H⟩ = (zbN F ⟨d, op, none⟩ ⟨E, H⟩).bind (zaw F l) := rfl
def zeH (F : zaa) (d : Option Nat) (op : AOp) (b : Bool) (l : List zp) (E : Env) (H : zb) (c : Bool) : Option St := if c = b then (zbN F ⟨d, op, none⟩ ⟨E, H⟩).bind (zaw F l) else zaw F l (St.put ⟨E, H⟩ d (.d (.tup [])))
theorem zFY {d : Option Nat} {op : AOp} {l : List zp} : zeH F d op true l E H true = (zbN F ⟨d, op, none⟩ ⟨E, H⟩).bind (zaw F l) := rfl
theorem zFV {d : Option Nat} {op : AOp} {l : List zp} : zeH F d op false l E H false = (zbN F ⟨d, op, none⟩ ⟨E, H⟩).bind (zaw F l) := rfl
theorem zFX {d : Option Nat} {op : AOp} {l : List zp} : zeH F d op true l E H false = zaw F l (St.put ⟨E, H⟩ d (.d (.tup []))) := rfl
theorem zFW {d : Option Nat} {op : AOp} {l : List zp} : zeH F d op false l E H true = zaw F l (St.put ⟨E, H⟩ d (.d (.tup []))) := rfl
def znb (F : zaa) (d : Option Nat) (op : AOp) (t : Nat) (b : Bool) (l : List zp) (E : Env) (H : zb) (v : Option AV) : Option St :=
 match v with
 | some (.d (.bool c)) => if c = true then zeH F d op b l (zcQ t (.d (.bool true)) E) H true else zeH F d op b l (zcQ t (.d (.bool false)) E) H false
 | some (.d (.tup [])) => zaw F l (St.put ⟨E, H⟩ d (.d (.tup [])))
 | _ => none
theorem zFU {d : Option Nat} {op : AOp} {t : Nat} {b : Bool} {l : List zp} : znb F d op t b l E H (some (.d (.tup []))) = zaw F l (St.put ⟨E, H⟩ d (.d (.tup []))) := rfl
theorem zFT {d : Option Nat} {op : AOp} {t : Nat} {b c : Bool} {l : List zp} : znb F d op t b l E H (some (.d (.bool c))) = if c = true then zeH F d op b l (zcQ t (.d (.bool true)) E) H true else zeH F d op b l (zcQ t (.d (.bool false)) E) H false := rfl
theorem zI2 {d : Option Nat} {op : AOp} {l : List zp} {t : Nat} {b : Bool} : zaw F (⟨d, op, some (t, b)⟩ :: l) ⟨E, H⟩ = znb F d op t b l E H (look t E) := by
 simp only [zaw, znb];generalize hv : look t E = v
 split
 · rename_i c
   cases c with
   | true => simp only [zoi hv, if_true]; rfl
   | false => simp only [zoi hv, zRa, if_false]; rfl
 · rfl
 · rename_i hno hno2
   split
   · exact absurd rfl (hno _)
   · exact absurd rfl hno2
   · rfl
theorem zDw {l : List zp} {fr : List (List Nat)} : zc6 F l fr ⟨E, H⟩ = if (zaN E && zaN H && zjA l ⟨E, H⟩) = true then zaE F l fr [] ⟨E, H⟩ else none := rfl
theorem zDy {fr : List (List Nat)} {acc : List (List Nat × List Nat)} : zaE F [] fr acc ⟨E, H⟩ = some ⟨E, H⟩ := rfl
theorem zDz {d : Option Nat} {op : AOp} {l : List zp} {f : List Nat} {fr : List (List Nat)} {acc : List (List Nat × List Nat)} : zaE F (⟨d, op, none⟩ :: l) (f :: fr) acc ⟨E, H⟩ = (zbG F ⟨d, op, none⟩ (f :: fr) acc ⟨E, H⟩).bind (zaE F l fr (acc ++ [op.feet E H (d.getD 0)])) := rfl
def zev (F : zaa) (d : Option Nat) (op : AOp) (t : Nat) (b : Bool) (l : List zp) (f : List Nat) (fr : List (List Nat)) (acc : List (List Nat × List Nat)) (E : Env) (H : zb) (c : Bool) : Option St :=
 if c = b then (zbG F ⟨d, op, none⟩ (f :: fr) acc ⟨E, H⟩).bind (zaE F l fr (acc ++ [op.feet E H (d.getD 0)])) else (zdZ ⟨d, op, some (t, b)⟩ (f :: fr) acc ⟨E, H⟩).bind (zaE F l fr (acc ++ [([], [])]))
theorem zDv {d : Option Nat} {op : AOp} {t : Nat} {l : List zp} {f : List Nat} {fr : List (List Nat)} {acc : List (List Nat × List Nat)} : zev F d op t true l f fr acc E H true = (zbG F ⟨d, op, none⟩ (f :: fr) acc ⟨E, H⟩).bind (zaE F l fr (acc ++ [op.feet E H (d.getD 0)])) := rfl
theorem zDs {d : Option Nat} {op : AOp} {t : Nat} {l : List zp} {f : List Nat} {fr : List (List Nat)} {acc : List (List Nat × List Nat)} : zev F d op t false l f fr acc E H false = (zbG F ⟨d, op, none⟩ (f :: fr) acc ⟨E, H⟩).bind (zaE F l fr (acc ++ [op.feet E H (d.getD 0)])) := rfl
theorem zDu {d : Option Nat} {op : AOp} {t : Nat} {l : List zp} {f : List Nat} {fr : List (List Nat)} {acc : List (List Nat × List Nat)} : zev F d op t true l f fr acc E H false = (zdZ ⟨d, op, some (t, true)⟩ (f :: fr) acc ⟨E, H⟩).bind (zaE F l fr (acc ++ [([], [])])) := rfl
theorem zDt {d : Option Nat} {op : AOp} {t : Nat} {l : List zp} {f : List Nat} {fr : List (List Nat)} {acc : List (List Nat × List Nat)} : zev F d op t false l f fr acc E H true = (zdZ ⟨d, op, some (t, false)⟩ (f :: fr) acc ⟨E, H⟩).bind (zaE F l fr (acc ++ [([], [])])) := rfl
def zp8 (F : zaa) (d : Option Nat) (op : AOp) (t : Nat) (b : Bool) (l : List zp) (f : List Nat) (fr : List (List Nat)) (acc : List (List Nat × List Nat)) (E : Env) (H : zb) (v : Option AV) : Option St :=
 match v with
 | some (.d (.bool c)) => if c = true then zev F d op t b l f fr acc (zcQ t (.d (.bool true)) E) H true else zev F d op t b l f fr acc (zcQ t (.d (.bool false)) E) H false
 | some (.d (.tup [])) => (zdZ ⟨d, op, some (t, b)⟩ (f :: fr) acc ⟨E, H⟩).bind (zaE F l fr (acc ++ [([], [])]))
 | _ => none
theorem zDr {d : Option Nat} {op : AOp} {t : Nat} {b c : Bool} {l : List zp} {f : List Nat} {fr : List (List Nat)} {acc : List (List Nat × List Nat)} : zp8 F d op t b l f fr acc E H (some (.d (.bool c))) =
    if c = true then zev F d op t b l f fr acc (zcQ t (.d (.bool true)) E) H true else zev F d op t b l f fr acc (zcQ t (.d (.bool false)) E) H false := rfl
theorem zDx {d : Option Nat} {op : AOp} {l : List zp} {f : List Nat} {fr : List (List Nat)} {acc : List (List Nat × List Nat)} {t : Nat} {b : Bool} : zaE F (⟨d, op, some (t, b)⟩ :: l) (f :: fr) acc ⟨E, H⟩ = zp8 F d op t b l f fr acc E H (look t E) := by
 simp only [zaE, zp8];generalize hv : look t E = v
 split
 · rename_i c
   cases c with
   | true => simp only [zoi hv, if_true]; rfl
   | false => simp only [zoi hv, zRa, if_false]; rfl
 · rfl
 · rename_i hno hno2
   split
   · exact absurd rfl (hno _)
   · exact absurd rfl hno2
   · rfl
theorem zEh {d : Option Nat} {op : AOp} {f : List Nat} {fr : List (List Nat)} {acc : List (List Nat × List Nat)} : zbG F ⟨d, op, none⟩ (f :: fr) acc ⟨E, H⟩ = if zdY f acc (op.feet E H (d.getD 0)) = true then zbN F ⟨d, op, none⟩ ⟨E, H⟩ else none := rfl
theorem zEg {x : zp} {f : List Nat} {fr : List (List Nat)} {acc : List (List Nat × List Nat)} : zdZ x (f :: fr) acc ⟨E, H⟩ = if zdY f acc ([], []) = true then some (St.put ⟨E, H⟩ x.dst (.d (.tup []))) else none := rfl
theorem zMB {d : Nat} {v : AV} : St.put ⟨E, H⟩ (some d) v = ⟨zr d v E, H⟩ := rfl
def putO (E : Env) (d : Option Nat) (r : Option (AV × zb)) : Option St := r.map fun p => St.put ⟨E, p.2⟩ d p.1
theorem zMx {v : AV} : putO E none (some (v, H)) = some ⟨E, H⟩ := rfl
theorem zMy {d : Nat} {v : AV} : putO E (some d) (some (v, H)) = some ⟨zr d v E, H⟩ := rfl
theorem zNY {d : Option Nat} {op : AOp} {g : Option (Nat × Bool)} : zbN F ⟨d, op, g⟩ ⟨E, H⟩ = putO E d (step F E H (d.getD 0) op) := rfl
variable {dst : Nat}
theorem zOr {ng : Bool} {x : Opd} : step F E H dst (.nileq ng x) = zfM H ng (x.ev E) := rfl
theorem zC2 {g : FuncId} {cs : List D} {ms : List Bool} {args : List AV} : zdD F E H dst ms (.d (.fn g cs)) args = zat F E H dst ms g (args ++ cs.map .d) := rfl
theorem zC1 {v : AV} {δ : zb} : zdC H (some (v, δ)) = some (v, zR δ H) := rfl
theorem zCU {ms : List Bool} {f : FuncId} {args : List AV} : zat F E H dst ms f args = if zjC ms args.length = true then (zaI H ms args).bind (zdE F E H dst ms f (zZ ms args)) else zbf F E H dst ms f args := rfl
theorem zCS {ms : List Bool} {f : FuncId} {args : List AV} : zbf F E H dst ms f args = (zaI H ms args).bind (zc3 F E H dst (zaF H ms args) (zZ ms args) f) := rfl
theorem zFO {ms : List Bool} {f : FuncId} {dob : List Nat} {zQM : List AV} : zdE F E H dst ms f dob zQM = if zdF H dob = true then (zbf F E (zR (zau H dob) H) dst ms f zQM).map fun p => (p.1, p.2 ++ zau H dob) else none := rfl
theorem zDD (ds : List D) : zZ [] (ds.map .d) = [] := by
 induction ds with
 | nil => rfl
 | cons d ds ih => simp only [zQS, zZ, ih, AV.objs, zRG]
theorem zgy {f : FuncId} {ds : List D} : zat F E H dst [] f (ds.map .d) = (F f (ds.map .d) []).bind (zcn E H dst [] []) := by
 have h1 : zaI H [] (ds.map .d) = some (ds.map .d) := by
  induction ds with
  | nil => rfl
  | cons d ds ih => simp only [zQS, zaI, ih, toD, zRk, zRt]
 have h2 : za4 [] (ds.map .d) = [] := by cases ds <;> rfl
 have h3 := zDD ds;have h4 : (ds.map AV.d).map (AV.ren (zad [])) = ds.map .d := by
  rw [zSt]; exact zSm fun _ _ => rfl
 unfold zat;rw [zQN (by simp [zjC])];unfold zbf;rw [h1, h3];simp only [zRk, zaF, h2, zbx, zcR, List.flatMap_nil, zc3, zhl, zSZ, zex, zTn, if_true, h4, zaU, zQR]
theorem ca0 {f : FuncId} : zat F E H dst [] f [] = (F f [] []).bind (zcn E H dst [] []) := zgy (ds := [])
theorem ca1 {f : FuncId} {a : D} : zat F E H dst [] f [.d a] = (F f [.d a] []).bind (zcn E H dst [] []) := zgy (ds := [a])
theorem ca2 {f : FuncId} {a b : D} : zat F E H dst [] f [.d a, .d b] = (F f [.d a, .d b] []).bind (zcn E H dst [] []) := zgy (ds := [a, b])
theorem ca3 {f : FuncId} {a b c : D} : zat F E H dst [] f [.d a, .d b, .d c] = (F f [.d a, .d b, .d c] []).bind (zcn E H dst [] []) := zgy (ds := [a, b, c])
theorem ca4 {f : FuncId} {a b c d : D} : zat F E H dst [] f [.d a, .d b, .d c, .d d] = (F f [.d a, .d b, .d c, .d d] []).bind (zcn E H dst [] []) := zgy (ds := [a, b, c, d])
theorem cv1 {f : FuncId} {a : D} {cs : List D} : zat F E H dst [] f (.d a :: cs.map .d) = (F f (.d a :: cs.map .d) []).bind (zcn E H dst [] []) := zgy (ds := a :: cs)
theorem zIB {c : Prop} [Decidable c] {e : zJ} {t : Nat} {x y : Bool} : (if c then some (e, (⟨(t, .d (.bool x)) :: E, H⟩ : St)) else some (e, ⟨(t, .d (.bool y)) :: E, H⟩)) = some (e, ⟨(t, .d (.bool (if c then x else y))) :: E, H⟩) := by split <;> rfl
theorem zHz {c x : Bool} : (if c = true then x else false) = (c && x) := by cases c <;> rfl
theorem zHA {c x : Bool} : (if c = true then true else x) = (c || x) := by cases c <;> rfl
theorem zCJ {α β : Type} {c : Prop} [Decidable c] {x y : Option α} {k : α -> Option β} : (if c then x else y).bind k = if c then x.bind k else y.bind k := by split <;> rfl
theorem zIo {α β : Type} {c : Prop} [Decidable c] {x y : Option α} {k : α -> β} : (if c then x else y).map k = if c then x.map k else y.map k := by split <;> rfl
theorem zFv {sl : Bool} {rs : List zar} {os : zb} {S : St} : zcF sl rs os (.normal, S) = (zcS S rs).bind (zeG sl os S) := rfl
theorem zFw {sl : Bool} {rs : List zar} {os : zb} {S : St} : zcF sl rs os (.ret, S) = (zcS S rs).bind (zeG sl os S) := rfl
theorem zFu {os : zb} {S : St} {v : AV} : zeG true os S v = (toD S.heap v).bind (zov os S v) := rfl
theorem zFt {os : zb} {S : St} {v : AV} : zeG false os S v = zgN os S v (zdi S.heap os v) := rfl
theorem zOo {x : Opd} : step F E H dst (.mv x) = zi E H dst (.mv x) := rfl
theorem zE9 {x : Opd} : AOp.feet E H dst (.mv x) = (zX (AOp.foot E dst (.mv x)), zX (AOp.wr E dst (.mv x))) := rfl
theorem zOs {c a b : Opd} : step F E H dst (.pick c a b) = zi E H dst (.pick c a b) := rfl
theorem zFb {c a b : Opd} : AOp.feet E H dst (.pick c a b) = (zX (AOp.foot E dst (.pick c a b)), zX (AOp.wr E dst (.pick c a b))) := rfl
theorem zNX {z : AV} : step F E H dst (.alloc z) = zi E H dst (.alloc z) := rfl
theorem zEU {z : AV} : AOp.feet E H dst (.alloc z) = (zX (AOp.foot E dst (.alloc z)), zX (AOp.wr E dst (.alloc z))) := rfl
theorem zN2 {x : Opd} : step F E H dst (.box x) = zi E H dst (.box x) := rfl
theorem zEY {z : List AV} {ps : List (Nat × Nat × Opd)} : AOp.feet E H dst (.build z ps) = (zX (AOp.foot E dst (.build z ps)), zX (AOp.wr E dst (.build z ps))) := rfl
theorem zEX {len n : Nat} {z : AV} {ps : List (Nat × Opd)} : AOp.feet E H dst (.bsl len n z ps) = (zX (AOp.foot E dst (.bsl len n z ps)), zX (AOp.wr E dst (.bsl len n z ps))) := rfl
theorem zE5 {ag : Bool} {n : Nat} {p : Opd} : AOp.feet E H dst (.ld ag n p) = (zX (AOp.foot E dst (.ld ag n p)), zX (AOp.wr E dst (.ld ag n p))) := rfl
theorem zOk : step F E H dst .mkm = zi E H dst .mkm := rfl
theorem zFd {n : Nat} {p x : Opd} : AOp.feet E H dst (.st n p x) = (zX (AOp.foot E dst (.st n p x)), zgL (AOp.wr E dst (.st n p x))) := rfl
theorem zOq {x : Opd} : step F E H dst (.nilc x) = zi E H dst (.nilc x) := rfl
theorem zFa {x : Opd} : AOp.feet E H dst (.nilc x) = (zX (AOp.foot E dst (.nilc x)), zX (AOp.wr E dst (.nilc x))) := rfl
theorem zEW {op : BinOp} {x y : Opd} : AOp.feet E H dst (.bin op x y) = (zX (AOp.foot E dst (.bin op x y)), zX (AOp.wr E dst (.bin op x y))) := rfl
theorem zN9 {ng : Bool} {x y : Opd} : step F E H dst (.eqb ng x y) = zi E H dst (.eqb ng x y) := rfl
theorem zE1 {ng : Bool} {n : Nat} {ls : List (Nat × Nat)} {x y : Opd} : AOp.feet E H dst (.eqs ng n ls x y) = (zX (AOp.foot E dst (.eqs ng n ls x y)), zX (AOp.wr E dst (.eqs ng n ls x y))) := rfl
theorem zOp  : step F E H dst (.nacc) = zi E H dst (.nacc) := rfl
theorem zOv {op : UnOp} {x : Opd} : step F E H dst (.un op x) = zi E H dst (.un op x) := rfl
theorem zFe {op : UnOp} {x : Opd} : AOp.feet E H dst (.un op x) = (zX (AOp.foot E dst (.un op x)), zX (AOp.wr E dst (.un op x))) := rfl
theorem zN8 {k : IntKind} {x : Opd} : step F E H dst (.cvi k x) = zi E H dst (.cvi k x) := rfl
theorem zE7 {f : FuncId} {cs : List Opd} : AOp.feet E H dst (.mkfn f cs) = (zX (AOp.foot E dst (.mkfn f cs)), zX (AOp.wr E dst (.mkfn f cs))) := rfl
theorem zE3 {ag : Bool} {off n : Nat} {x : Opd} : AOp.feet E H dst (.fad ag off n x) = (zX (AOp.foot E dst (.fad ag off n x)), zX (AOp.wr E dst (.fad ag off n x))) := rfl
theorem zE4 {n : Nat} {x i : Opd} : AOp.feet E H dst (.iad n x i) = (zhh (AOp.foot E dst (.iad n x i)), []) := rfl
theorem zFc {n : Nat} {x : Opd} {lo hi mx : Option Opd} : AOp.feet E H dst (.slc n x lo hi mx) = (zX (AOp.foot E dst (.slc n x lo hi mx)), zX (AOp.wr E dst (.slc n x lo hi mx))) := rfl
theorem zE2 {x : Opd} {i : Nat} : AOp.feet E H dst (.ext x i) = (zX (AOp.foot E dst (.ext x i)), zX (AOp.wr E dst (.ext x i))) := rfl
theorem zE6 {x : Opd} : AOp.feet E H dst (.len x) = (zX (AOp.foot E dst (.len x)), zX (AOp.wr E dst (.len x))) := rfl
theorem zOh {x : Opd} : step F E H dst (.lens x) = zi E H dst (.lens x) := rfl
theorem zEV {n : Nat} {x y : Opd} : AOp.feet E H dst (.app n x y) = (zX (AOp.foot E dst (.app n x y)), zX (AOp.wr E dst (.app n x y))) := rfl
theorem zE8 {mx : Bool} {xs : List Opd} : AOp.feet E H dst (.mm mx xs) = (zX (AOp.foot E dst (.mm mx xs)), zX (AOp.wr E dst (.mm mx xs))) := rfl
theorem zOl {n : Nat} {z : AV} {l c : Opd} : step F E H dst (.mks n z l c) = zi E H dst (.mks n z l c) := rfl
theorem zOK {k : IntKind} {n : Int} : D.size (.int k n) = 1 := rfl
theorem zC6 {k : IntKind} {n : Int} : D.cells (.int k n) = [(.int k n)] := rfl
theorem zOI {b : Bool} : D.size (.bool b) = 1 := rfl
theorem zC4 {b : Bool} : D.cells (.bool b) = [(.bool b)] := rfl
theorem zON {s : List UInt8} : D.size (.str s) = 1 := rfl
theorem zC8 {s : List UInt8} : D.cells (.str s) = [(.str s)] := rfl
theorem zOM {es : List D} : D.size (.sl es) = 1 := rfl
theorem zC7 {es : List D} : D.cells (.sl es) = [(.sl es)] := rfl
theorem zOJ {f : FuncId} {cs : List D} : D.size (.fn f cs) = 1 := rfl
theorem zC5 {f : FuncId} {cs : List D} : D.cells (.fn f cs) = [(.fn f cs)] := rfl
theorem size_agg {cs : List D} : D.size (.agg cs) = cs.length := rfl
theorem zC3 {cs : List D} : D.cells (.agg cs) = cs := rfl
theorem zCt {cs : List D} : D.asAgg (.agg cs) = .agg cs := rfl
theorem zCx {x : D} : AV.size (.d x) = x.size := rfl
theorem zCg {x : D} : AV.cells (.d x) = x.cells.map .d := rfl
theorem zCy {o off len : Nat} : AV.size (.osl o off len) = 1 := rfl
theorem zCh {o off len : Nat} : AV.cells (.osl o off len) = [(.osl o off len)] := rfl
theorem zCv {o : Nat} {es : List D} : AV.size (.acc o es) = 1 := rfl
theorem zCe {o : Nat} {es : List D} : AV.cells (.acc o es) = [(.acc o es)] := rfl
theorem zCz {es : List D} : AV.size (.xsl es) = 1 := rfl
theorem zCi {es : List D} : AV.cells (.xsl es) = [(.xsl es)] := rfl
theorem zCw {cs : List AV} : AV.size (.agg cs) = cs.length := rfl
theorem zCf {cs : List AV} : AV.cells (.agg cs) = cs := rfl
section
variable {k : IntKind} {a b : Int}
def zgp (k : IntKind) (a b : Int) : Int := k.wrap (BitVec.ofInt k.bits a &&& BitVec.ofInt k.bits b).toNat
def zkG (k : IntKind) (a b : Int) : Int := k.wrap (BitVec.ofInt k.bits a ^^^ BitVec.ofInt k.bits b).toNat
theorem zGE : zbz .add k a b = some (.int k (k.wrap (a + b))) := rfl
theorem zGP : zbz .sub k a b = some (.int k (k.wrap (a - b))) := rfl
theorem zGL : zbz .mul k a b = some (.int k (k.wrap (a * b))) := rfl
theorem zGN : zbz .quo k a b = if b = 0 then none else some (.int k (k.wrap (a.tdiv b))) := rfl
theorem zGO : zbz .rem k a b = if b = 0 then none else some (.int k (a.tmod b)) := rfl
theorem zGG : zbz .eql k a b = some (.bool (decide (a = b))) := rfl
theorem zGM : zbz .neq k a b = some (.bool (!decide (a = b))) := rfl
theorem zGK : zbz .lss k a b = some (.bool (decide (a < b))) := rfl
theorem zGJ : zbz .leq k a b = some (.bool (decide (a <= b))) := rfl
theorem zGI : zbz .gtr k a b = some (.bool (decide (b < a))) := rfl
theorem zGH : zbz .geq k a b = some (.bool (decide (b <= a))) := rfl
theorem zGF : zbz .and k a b = some (.int k (zgp k a b)) := rfl
theorem zGQ : zbz .xor k a b = some (.int k (zkG k a b)) := rfl
end
theorem zEy {ng : Bool} {n : Nat} {ls : List (Nat × Nat)} {a b : List D} : zlA H ng n ls (.d (.agg a)) (.d (.agg b)) = if a.length = n /\ b.length = n then ztv H ng (zd0 a b ls) else none := rfl
attribute [go_sem] zur zus zut zuu zux zuy zCF
attribute [go_sem] zOk zOi zOn zzF zzE zn0 zj9 zz5 zn6 zn4 zn5
theorem zMd {x : AV} {off : Nat} {v : AV} : zbZ x off v = if off = 0 /\ v.size = x.size then some v else if off + v.size <= x.size then some (AV.mkAgg (zcT x.cells off v.cells)) else none := rfl
attribute [go_sem] zQh zQc zQf zQe zQb zQg zQa zDh zP8 zQd zGq zGp zHC zI1 zI0 deX zlw zEs zGh zeL zOA zOz zOB zIe zId zIf zCL zCK zCM zFY zFV zFX zFW zFT zFU zDv zDs zDu zDt zDr zcQ zIB zHz zHA zCJ zIo zI3 zI4 zI2 zDw zDy zDz zDx zEh zEg zMB zMx zMy zNY zOr zC2 zC1 zFv zFw zFu zFt zOo zOs zNX zN2 zOq zN9 zOp zOv zN8 zOh zOl zE9 zFb zEU zEY zEX zE5 zFd zFa zEW zE1 zFe zE7 zE3 zE4 zFc zE2 zE6 zEV zE8 zOK zC6 zOI zC4 zON zC8 zOM zC7 zOJ zC5 size_agg zC3 zCt zCx zCg zCy zCh zCv zCe zCz zCi zCw zCf zQY zi Opd.ev zQS zQR Go.Sim.look zr without zSk Option.getD_none zdW zGE zGP zGL zGN zGO zGG zGM zGK zGJ zGI zGH zGF zGQ zhw zkA zRt zTS zRk Option.bind_none zc9 List.contains_cons List.contains_nil zTp zSP zTq zR6 Bool.or_self zRa zTo zQU zSr beq_self_eq_true refsEnv refsHeap AV.refs AV.refsL Obj.refs zS0 zSz Bool.and_false zSA zTn zSd and_true zS6 zaW zcc zTr zTT List.getElem?_nil zQX zQ1 zRB List.drop_succ_cons List.take_succ_cons zRW zMd zcT AV.mkAgg AV.mkTup AV.mkFn zab zNy zNx zNA zeR zp6 zp6.consQ zBE zNw zNz zA2 toD toD.toDs zaL slD ne_eq zRf zRh Nat.succ_ne_self zTQ zTR eq_self_iff_true zaN AOp.foot AOp.wr AOp.looks AOp.news AOp.opds zeP AV.objs AV.objsL zRL zSZ zSl List.any_nil List.headD_cons List.headD_nil List.tail_cons List.tail_nil zSM zS7 zRG zb6 unX zfV zkD zcD List.set_cons_zero List.set_cons_succ Nat.lt_add_one Nat.zero_lt_one Nat.one_lt_two Nat.zero_lt_succ zfy zp.newNames fr4 zbE za0 zgz zjd zX zaI zZ za4 zaF zcR zbx zhv zad pos AV.ren AV.renL Obj.ren zc3 zcn AV.flat AV.flatL Obj.flat D.flat D.flatL zR mmD zdz zgN zov zdi zak frs znr zoK ztU ztV zeO zki zoH ztN ztO zhg zkh zoJ ztT zoI ztR zew zjh zjg zku rnm Option.isNone_some Option.isNone_none zfu zdP zdw zbC zeK zoA gc1 gc zfM zd0 zqh List.flatMap_nil List.flatMap_cons zSJ List.filter_cons List.getD_cons_zero List.getD_cons_succ decide_true decide_false if_true if_false List.isEmpty_nil List.isEmpty_cons zI9 okN ztb zkB zMb osN zFM zFL zFE zlI zDZ zDY zNr zNq zI7 zI6 zEC zEB zD1 zD0 zvU zDb zDa zna zFK zFJ zNS zNR zCd zCc zlz zEt zGo zGn ztc okO zJa zAj okG zI8 zod zMc evs evO evB evF szF zdM zkw ztv dO pdO peO ldE ldO ldV zOf zgM zOc szR szP szD zzl zeJ zsf zOd stF stE stO stV zOu zN7 zlo zvW zFG zpn zN1 zEy zOa zsh znC zOe bdI bd slM zBY zug slL slH zt7 zt6 zo9 zo8 zth ztf zte ztg zeX zOt zqj zOb zsR zsS zOg mmV zOm zOj zpr zN4 zpp zpq zN3 zpl zpm zN0 zo zo.srcL zhy zpe ziZ zpf zNZ zN5 zN6 zEZ zE0
theorem zCm {n : Nat} : zao n [] = true := rfl
theorem zgn {n : Nat} {e : D} {es : List D} : zao n (e :: es) = (e.size == n && zao n es) := rfl
theorem zCl {n : Nat} {es fs : List D} : zao n (es ++ fs) = (zao n es && zao n fs) := by simp [zao]
theorem zCk {ds : List D} : zab (ds.map .d) = some ds := zcA ds
theorem zPl {ns : List Nat} : zb2 ns dst 0 = dst := by simp [zb2]
theorem zPn {ns : List Nat} {n : Nat} (h : ¬ n < 1000000) : zb2 ns dst n = ns.getD (n - 1000000) 0 := by unfold zb2; rw [zQN h]
theorem zPm {ns : List Nat} {a : Nat} : zb2 (a :: ns) dst 1000000 = a := by rw [zPn (by omega)]; rfl
attribute [go_sem] zPl zPm
attribute [go_sem] zfq zjf zgD zgE zlu zc5 zqa
attribute [go_sem] zfL zkg zhe zhf zn8 zdf zta
attribute [go_sem] okA acA zkj ziX zoa zep zhi zgm zdg za6 ztP
attribute [go_sem] okC zbt zkk zkx okE zeT zhj zhu zdh zbd zeA orE zeB zc8 zlG ztW
attribute [go_sem] zAX zI5 zCm zgn zCl zCk
attribute [go_sem high] ca0 ca1 ca2 ca3 ca4 cv1
attribute [go_sem low] zCU zCS
attribute [go_sem] zFO zjC zFQ zFP zFS zFR zf List.drop_nil Option.isSome_some Option.isSome_none
def D.isT : D -> Bool
 | .tup _ => true
 | _ => false
theorem zHs {x : D} : zaQ (.d x) = x.isT := by cases x <;> rfl
theorem zHn {k : IntKind} {n : Int} : D.isT (.int k n) = false := rfl
theorem zHl {b : Bool} : D.isT (.bool b) = false := rfl
theorem zHp {s : List UInt8} : D.isT (.str s) = false := rfl
theorem zHk {cs : List D} : D.isT (.agg cs) = false := rfl
theorem zHo {es : List D} : D.isT (.sl es) = false := rfl
theorem zHm {f : FuncId} {cs : List D} : D.isT (.fn f cs) = false := rfl
theorem zHt {o off len : Nat} : zaQ (.osl o off len) = false := rfl
theorem zHq {o : Nat} {es : List D} : zaQ (.acc o es) = false := rfl
theorem zHu {es : List D} : zaQ (.xsl es) = false := rfl
theorem zHr {cs : List AV} : zaQ (.agg cs) = false := rfl
attribute [go_sem] zHs zHn zHl zHp zHk zHo zHm zHt zHq zHu zHr
theorem zNt {ρ : Nat -> Nat} {ds : List D} : (ds.map AV.d).map (AV.ren ρ) = ds.map .d := by rw [zSt]; exact zSm fun _ _ => rfl
attribute [go_sem] zNt
theorem GOK.of {P : Program} (tab : List (Nat × AFn)) (h : ∀ p ∈ tab, zl P p.1 p.2) : GOK P (fun f => look f tab) := fun f fn hf => h (f, fn) (zV hf)
end Go.Sim
