/-
  Loads, addresses, parts of values.
-/
import Derived.Test.YtgjlpcbolldhhaaGreatB9462065
import Derived.Deep.MidRow
import Derived.Deep.AppendSrc
import Derived.Lib.Strings
set_option linter.unusedSimpArgs false
set_option linter.unusedVariables false
set_option maxHeartbeats 10000000
set_option maxRecDepth 100000
namespace Go.Sim
inductive Opd where
 | t (n : Nat)
 | c (x : AV)
def Opd.ev (E : Env) : Opd -> AV
 | .t n => (look n E).getD .undef
 | .c x => x
inductive AOp where
 | mv (x : Opd)
 | pick (c a b : Opd)
 | alloc (z : AV)
 | box (x : Opd)
 | build (z : List AV) (ps : List (Nat × Nat × Opd))
 | bsl (len n : Nat) (z : AV) (ps : List (Nat × Opd))
 | ld (ag : Bool) (n : Nat) (p : Opd)
 | st (n : Nat) (p x : Opd)
 | nilc (x : Opd)
 | bin (op : BinOp) (x y : Opd)
 | eqb (ng : Bool) (x y : Opd)
 | eqs (ng : Bool) (n : Nat) (ls : List (Nat × Nat)) (x y : Opd)
 | nacc
 | un (op : UnOp) (x : Opd)
 | cvi (k : IntKind) (x : Opd)
 | s2b (x : Opd)
 | b2s (x : Opd)
 | mkfn (f : FuncId) (cs : List Opd)
 | fad (ag : Bool) (off n : Nat) (x : Opd)
 | fld (ag : Bool) (off n : Nat) (x : Opd)
 | iad (n : Nat) (x i : Opd)
 | iada (ag : Bool) (len n : Nat) (x i : Opd)
 | idx (x i : Opd)
 | idxa (ag : Bool) (len n : Nat) (x i : Opd)
 | slc (n : Nat) (x : Opd) (lo hi mx : Option Opd)
 | sls (x : Opd) (lo hi : Option Opd)
 | ext (x : Opd) (i : Nat)
 | len (x : Opd)
 | lens (x : Opd)
 | app (n : Nat) (x y : Opd)
 | apps (x y : Opd)
 | clr (n : Nat) (x : Opd)
 | mm (mx : Bool) (xs : List Opd)
 | mks (n : Nat) (z : AV) (l c : Opd)
 | nileq (ng : Bool) (x : Opd)
 | call (f : FuncId) (ms : List Bool) (xs : List Opd)
 | callv (f : Opd) (ms : List Bool) (xs : List Opd)
 | atl (p : Opd)
 | ats (p x : Opd)
 | atc (p x y : Opd)
 | mkm
 | lkp (ok : Bool) (z : D) (x k : Opd)
 | mup (x k v : Opd)
structure zh where
 dst : Option Nat
 op : AOp
 guard : Option (Nat × Bool)
def zO : List AV -> Option (List D)
 | [] => some []
 | .d x :: l => (zO l).map (x :: ·)
 | _ => none
def AV.mkAgg (cs : List AV) : AV := match zO cs with | some ds => .d (.agg ds) | none => .agg cs
def AV.mkTup (cs : List AV) : AV := match zO cs with | some ds => .d (.tup ds) | none => .tup cs
def AV.mkFn (f : FuncId) (cs : List AV) : AV := match zO cs with | some ds => .d (.fn f ds) | none => .fn f cs
def zcb : Value -> Option AV
 | .int k n => if k.min <= n /\ n <= k.max then some (.d (.int k n)) else none
 | .bool b => some (.d (.bool b))
 | .string s => if s.data.toList.length <= LIM then some (.d (.str s.data.toList)) else none
 | .slice none 0 0 => some (.xsl [])
 | v => if zfY v = true then some (.d .nil) else none
def zbw : Value -> Option AV
 | .agg cs => (cs.toList.mapM zcb).map AV.mkAgg
 | v => zcb v
def opd : Operand -> Option Opd
 | .tmp t => if t < 1000000 then some (.t t) else none
 | .const v => if zfY v then some (.c .undef) else (zbw v).map .c
 | .global _ => none
 | .func f => some (.c (.d (.fn f [])))
def zM (P : Program) (t : TypeId) : Option Bool :=
 match P.underlying t with
 | some (.struct _) => some true
 | some (.array _ _) => some true
 | some _ => some false
 | none => none
def zA (P : Program) (t : TypeId) : Option Nat := (P.info? t).map (·.size)
def zan (P : Program) (t : TypeId) : Option AV := ((P.info? t).bind (·.zero)).bind zbw
def zaE (P : Program) (f : FuncId) : Bool := match P.funcs[f]? with | some fn => fn.body.isSome && !(fn.name == "runtime.NumGoroutine") | none => false
def zfc (P : Program) (f : FuncId) : Nat :=
 match P.funcs[f]? with
 | some fn => if fn.body.isNone && fn.origin == "" then (if fn.name == "sync/atomic.LoadInt64" then 1 else if fn.name == "sync/atomic.StoreInt64" then 2 else if fn.name == "sync/atomic.CompareAndSwapInt64" then 3 else 0) else 0
 | none => 0
def zda : Nat -> List Opd -> Option AOp
 | 1, [p] => some (.atl p)
 | 2, [p, x] => some (.ats p x)
 | 3, [p, x, y] => some (.atc p x y)
 | _, _ => none
def zcR (P : Program) (n : Nat) (g : TypeId -> Nat -> Option (List (Nat × Nat))) (off : Nat) : List Field -> Option (List (Nat × Nat))
 | [] => some []
 | f :: fs => match zA P f.type with
  | some m => if f.name ≠ "_" /\ f.offset + m <= n /\ m ≠ 0 then (g f.type (off + f.offset)).bind fun l1 => (zcR P n g off fs).map (l1 ++ ·) else none
  | none => none
def zdu (m : Nat) (g : Nat -> Option (List (Nat × Nat))) (off : Nat) : Nat -> Option (List (Nat × Nat))
 | 0 => some []
 | k + 1 => (g off).bind fun l1 => (zdu m g (off + m) k).map (l1 ++ ·)
def zaV (P : Program) : Nat -> TypeId -> Nat -> Option (List (Nat × Nat))
 | 0, _, _ => none
 | d + 1, t, off =>
  match P.underlying t with
  | some .bool => some [(off, 1)]
  | some (.int _) => some [(off, 0)]
  | some .string => some [(off, 2)]
  | some (.struct fs) => match zA P t with | some n => if P.stoodInHeld t then none else zcR P n (zaV P d) off fs.toList | none => none
  | some (.array len e) => match zA P t, zA P e with | some n, some m => if m = 0 \/ len * m ≠ n then none else zdu m (zaV P d e) off len | _, _ => none
  | _ => none
def zhE : Operand -> Bool
 | .const (.slice none _ _) => true
 | _ => false
def zn (P : Program) (o : Op) : Option AOp :=
 match o with
 | .move x | .assign x => (opd x).map .mv
 | .pick c a b => do pure (.pick (<- opd c) (<- opd a) (<- opd b))
 | .alloc t => do
  let z <- zan P t
  if z.size = 0 then none else pure (.alloc z)
 | .box _ x => (opd x).map .box
 | .load t p => do
  let n <- zA P t
  if n = 0 then none else pure (.ld (<- zM P t) n (<- opd p))
 | .store t p x => do
  let n <- zA P t
  if n = 0 then none else pure (.st n (<- opd p) (<- opd x))
 | .nilCheck x => (opd x).map .nilc
 | .binOp op t x y _ =>
  match P.underlying t with
  | some (.int _) | some .string => do pure (.bin op (<- opd x) (<- opd y))
  | some .bool =>
   match op with
   | .eql => do pure (.eqb false (<- opd x) (<- opd y))
   | .neq => do pure (.eqb true (<- opd x) (<- opd y))
   | _ => none
  | some (.struct _) | some (.array _ _) =>
   match zaV P 9 t 0, zA P t with
   | some ls, some n => if P.eqGuardType P.depth t = true \/ n = 0 then none else
    match op with
    | .eql => do pure (.eqs false n ls (<- opd x) (<- opd y))
    | .neq => do pure (.eqs true n ls (<- opd x) (<- opd y))
    | _ => none
   | _, _ => none
  | some (.slice _) =>
   if zhE y then
    match op with
    | .eql => (opd x).map (.nileq false)
    | .neq => (opd x).map (.nileq true)
    | _ => none
   else none
  | _ => none
 | .unOp op _ x => (opd x).map (.un op)
 | .convert s t x =>
  match P.underlying s, P.underlying t with
  | some (.int _), some (.int k) => (opd x).map (.cvi k)
  | some .string, some (.slice e) => if P.underlying e matches some (.int .u8) then (opd x).map .s2b else none
  | some (.slice e), some .string => if P.underlying e matches some (.int .u8) then (opd x).map .b2s else none
  | _, _ => none
 | .makeFunc (.func f) first cs => if first.size = 0 then do pure (.mkfn f (<- cs.toList.mapM opd)) else none
 | .fieldAddr t x f =>
  match P.underlying t with
  | some (.struct fs) => do
   let fd <- fs[f]?
   let n <- zA P fd.type
   if n = 0 then none else pure (.fad (<- zM P fd.type) fd.offset n (<- opd x))
  | _ => none
 | .field t x f =>
  match P.underlying t with
  | some (.struct fs) => do
   let fd <- fs[f]?
   let n <- zA P fd.type
   if n = 0 then none else pure (.fld (<- zM P fd.type) fd.offset n (<- opd x))
  | _ => none
 | .indexAddr t x i =>
  match P.underlying t with
  | some (.slice e) => do
   let n <- zA P e
   if n = 0 then none else pure (.iad n (<- opd x) (<- opd i))
  | some (.array len e) => do
   let n <- zA P e
   if n = 0 then none else pure (.iada (<- zM P e) len n (<- opd x) (<- opd i))
  | _ => none
 | .index t x i =>
  match P.underlying t with
  | some .string => do pure (.idx (<- opd x) (<- opd i))
  | some (.array len e) => do
   let n <- zA P e
   if n = 0 then none else pure (.idxa (<- zM P e) len n (<- opd x) (<- opd i))
  | _ => none
 | .slice t x lo hi mx =>
  match P.underlying t with
  | some (.slice e) => do
   let n <- zA P e
   if n = 0 then none else pure (.slc n (<- opd x) (<- lo.mapM opd) (<- hi.mapM opd) (<- mx.mapM opd))
  | some .string => do
   if mx.isSome then none else pure (.sls (<- opd x) (<- lo.mapM opd) (<- hi.mapM opd))
  | _ => none
 | .extract x i => do pure (.ext (<- opd x) i)
 | .build t ps =>
  match P.underlying t with
  | some (.struct fs) => do
   let z <- zan P t
   let _ <- fs.toList.mapM fun f => zA P f.type
   let qs <- ps.toList.mapM fun p => do
    let fd <- fs[p.1]?
    let n <- zA P fd.type
    pure (fd.offset, n, <- opd p.2)
   pure (.build z.cells qs)
  | some (.array _ e) => do
   let z <- zan P t
   let n <- zA P e
   let qs <- ps.toList.mapM fun p => do pure (p.1 * n, n, <- opd p.2)
   pure (.build z.cells qs)
  | _ => none
 | .buildSlice t len ps =>
  match P.underlying t with
  | some (.slice e) => do
   let n <- zA P e
   let z <- zan P e
   let qs <- ps.toList.mapM fun p => do pure (p.1, <- opd p.2)
   if n = 0 \/ 16777216 < len * n then none else pure (.bsl len n z qs)
  | _ => none
 | .makeSlice t l c =>
  match P.underlying t with
  | some (.slice e) => do
   let n <- zA P e
   let i <- P.info? e
   let z <- zan P e
   if n = 0 \/ 32768 < i.bytes then none else pure (.mks n z (<- opd l) (<- opd c))
  | _ => none
 | .call c =>
  match c.callee with
  | .value (.func f) => if zaE P f then do pure (.call f [] (<- c.args.toList.mapM opd)) else do zda (zfc P f) (<- c.args.toList.mapM opd)
  | .value (.tmp t) => if t < 1000000 then do pure (.callv (.t t) [] (<- c.args.toList.mapM opd)) else none
  | .builtin .len =>
   match (c.argTypes[0]?).bind P.underlying, c.args.toList with
   | some .string, [x] => (opd x).map .lens
   | some (.slice _), [x] => (opd x).map .len
   | _, _ => none
  | .builtin .append =>
   match (c.argTypes[0]?).bind P.underlying, (c.argTypes[1]?).bind P.underlying, c.args.toList with
   | some (.slice e), some (.slice _), [x, y] => do
    let n <- zA P e
    let i <- P.info? e
    let z <- zan P e
    if n = 0 \/ z.size ≠ n \/ 32768 < i.bytes then none else pure (.app n (<- opd x) (<- opd y))
   | some (.slice e), some .string, [x, y] => do
    let n <- zA P e
    let i <- P.info? e
    let z <- zan P e
    if n ≠ 1 \/ z.size ≠ n \/ 32768 < i.bytes then none else pure (.apps (<- opd x) (<- opd y))
   | _, _, _ => none
  | .builtin .clear =>
   match (c.argTypes[0]?).bind P.underlying, c.args.toList with
   | some (.slice e), [x] => do
    let n <- zA P e
    let z <- zan P e
    if n = 0 \/ z.size ≠ n then none else pure (.clr n (<- opd x))
   | _, _ => none
  | .builtin .min => do pure (.mm false (<- c.args.toList.mapM opd))
  | .builtin .max => do pure (.mm true (<- c.args.toList.mapM opd))
  | _ => none
 | .makeMap t r =>
  match P.underlying t, r with
  | some (.map k _), none => if P.underlying k matches some (.int .i64) then some .mkm else none
  | _, _ => none
 | .lookup t x i ok =>
  match P.underlying t with
  | some (.map k e) => match P.underlying k, zan P e with
   | some (.int .i64), some (.d z) => do pure (.lkp ok z (<- opd x) (<- opd i))
   | _, _ => none
  | _ => none
 | .mapUpdate t x i v =>
  match P.underlying t with
  | some (.map k _) => if P.underlying k matches some (.int .i64) then do pure (.mup (<- opd x) (<- opd i) (<- opd v)) else none
  | _ => none
 | _ => none
def zbl (op : BinOp) (k : IntKind) (a b : Int) : Option D :=
 match op with
 | .add => some (.int k (k.wrap (a + b)))
 | .sub => some (.int k (k.wrap (a - b)))
 | .mul => some (.int k (k.wrap (a * b)))
 | .quo => if b = 0 then none else some (.int k (k.wrap (a.tdiv b)))
 | .rem => if b = 0 then none else some (.int k (a.tmod b))
 | .and => some (.int k (k.wrap (BitVec.ofInt k.bits a &&& BitVec.ofInt k.bits b).toNat))
 | .or => some (.int k (k.wrap (BitVec.ofInt k.bits a ||| BitVec.ofInt k.bits b).toNat))
 | .xor => some (.int k (k.wrap (BitVec.ofInt k.bits a ^^^ BitVec.ofInt k.bits b).toNat))
 | .andNot => some (.int k (k.wrap (BitVec.ofInt k.bits a &&& ~~~BitVec.ofInt k.bits b).toNat))
 | .eql => some (.bool (decide (a = b)))
 | .neq => some (.bool (!decide (a = b)))
 | .lss => some (.bool (decide (a < b)))
 | .leq => some (.bool (decide (a <= b)))
 | .gtr => some (.bool (decide (b < a)))
 | .geq => some (.bool (decide (b <= a)))
 | _ => none
def zdK (op : BinOp) (k : IntKind) (a b : Int) : Option D :=
 if b < 0 then none else
 match op with
 | .shl => some (.int k (k.wrap (a * 2 ^ (min b.toNat k.bits))))
 | .shr => some (.int k (a.fdiv (2 ^ (min b.toNat k.bits))))
 | _ => none
def zeQ (op : BinOp) (a b : List UInt8) : Option D :=
 match op with
 | .add => if (a ++ b).length <= LIM then some (.str (a ++ b)) else none
 | .eql => some (.bool (decide (a = b)))
 | .neq => some (.bool (!decide (a = b)))
 | _ => none
def zbY (op : BinOp) : D -> D -> Option D
 | .int k a, .int k' b =>
  match op with
  | .shl => zdK .shl k a b
  | .shr => zdK .shr k a b
  | op => if k = k' then zbl op k a b else none
 | .str a, .str b => zeQ op a b
 | _, _ => none
def D.asAgg : D -> D
 | .agg cs => .agg cs
 | x => .agg [x]
def zaf (ag : Bool) (off n : Nat) (x : D) : Option D :=
 if ag then
  if off = 0 /\ n = x.size then some x.asAgg
  else if off + n <= x.size then some (.agg ((x.cells.drop off).take n)) else none
 else if n = 1 then x.cells[off]? else none
def zaY (ag : Bool) (off n : Nat) (x : AV) : Option AV :=
 match x with
 | .d x => (zaf ag off n x).map .d
 | x =>
  if ag then
   if off + n <= x.size then some (AV.mkAgg ((x.cells.drop off).take n)) else none
  else if n = 1 then x.cells[off]? else none
def zbq {α : Type} (l : List α) (off : Nat) (m : List α) : List α := l.take off ++ m ++ l.drop (off + m.length)
def zae : AV -> Bool
 | .d (.tup _) => true
 | .tup _ => true
 | .undef => true
 | _ => false
def zaX (x : AV) (off : Nat) (v : AV) : Option AV :=
 if off = 0 /\ v.size = x.size then some v
 else if off + v.size <= x.size then some (AV.mkAgg (zbq x.cells off v.cells)) else none
def slD : AV -> Option (List D)
 | .d (.sl es) => some es
 | .xsl es => some es
 | .acc _ es => some es
 | _ => none
def toD (H : za) : AV -> Option D
 | .d x => some x
 | .xsl es => some (.sl es)
 | .acc _ es => some (.sl es)
 | .osl o off len =>
  match look o H with
  | some (.row es) => (zO ((es.drop off).take len)).bind fun ds => if ds.length = len then some (.sl ds) else none
  | _ => none
 | .agg cs => (toDs H cs).map .agg
 | .tup cs => (toDs H cs).map .tup
 | .fn f cs => (toDs H cs).map (.fn f)
 | .ref o i 0 =>
  match look o H with
  | some (.row es) => (es[i]?).bind fun e => match e with | .d x => some (.pd x) | _ => none
  | _ => none
 | _ => none
where toDs (H : za) : List AV -> Option (List D)
 | [] => some []
 | x :: xs => match toD H x, toDs H xs with | some y, some ys => some (y :: ys) | _, _ => none
mutual
def AV.objs : AV -> List Nat
 | .ref o _ _ => [o]
 | .osl o _ _ => [o]
 | .acc o _ => [o]
 | .pe o _ => [o]
 | .mpr o => [o]
 | .agg cs => AV.objsL cs
 | .tup cs => AV.objsL cs
 | .fn _ cs => AV.objsL cs
 | _ => []
def AV.objsL : List AV -> List Nat
 | [] => []
 | x :: xs => AV.objs x ++ AV.objsL xs
end
def zbh (z : List AV) : List (Nat × Nat × AV) -> Option (List AV)
 | [] => some z
 | (off, n, v) :: rest => if v.size = n /\ off + n <= z.length /\ zae v = false then zbh (zbq z off v.cells) rest else none
def zc2 : AV -> AV
 | .xsl es => .d (.sl es)
 | .d x => .d x
 | .ref o i off => .ref o i off
 | .osl o off len => .osl o off len
 | .acc o es => .acc o es
 | .pe o x => .pe o x
 | .agg cs => .agg cs
 | .tup vs => .tup vs
 | .fn f cs => .fn f cs
 | .nl b => .nl b
 | .mpr o => .mpr o
 | .undef => .undef
def zeT : List AV -> List AV
 | [] => []
 | x :: xs => zc2 x :: zeT xs
theorem zeU : ∀ xs : List AV, zeT xs = xs.map zc2
 | [] => rfl
 | x :: xs => by simp [zeT, zeU xs]
theorem zmv : ∀ {cs : List AV} {ds : List D}, zO cs = some ds -> ds.length = cs.length
 | [], ds, h => by simp only [zO, Option.some.injEq] at h; subst h; rfl
 | .d x :: l, ds, h => by
  simp only [zO, zKL] at h;obtain ⟨a, h1, rfl⟩ := h;simp [zmv h1]
 | .ref .. :: _, _, h | .osl .. :: _, _, h | .acc .. :: _, _, h | .pe .. :: _, _, h | .xsl _ :: _, _, h | .agg _ :: _, _, h | .tup _ :: _, _, h | .fn .. :: _, _, h | .nl _ :: _, _, h | .mpr _ :: _, _, h | .undef :: _, _, h => by simp [zO] at h
theorem zCE (cs : List AV) : (AV.mkAgg cs).size = cs.length := by
 unfold AV.mkAgg
 split
 · rename_i ds h; simp [AV.size, D.size, D.cells, zmv h]
 · rfl
def unX : AV -> AV
 | .xsl es => .d (.sl es)
 | .d x => .d x
 | .ref o i off => .ref o i off
 | .osl o off len => .osl o off len
 | .acc o es => .acc o es
 | .pe o x => .pe o x
 | .agg cs => AV.mkAgg (zeT cs)
 | .tup vs => .tup vs
 | .fn f cs => .fn f cs
 | .nl b => .nl b
 | .mpr o => .mpr o
 | .undef => .undef
theorem zsY (v : AV) : (unX v).size = v.size := by
 cases v with
 | agg cs => simp only [unX, zCE, zeU, zKY]; rfl
 | _ => rfl
theorem zJS {v : AV} (h : zae v = false) : zae (unX v) = false := by
 cases v with
 | agg cs => simp only [unX, AV.mkAgg]; split <;> rfl
 | _ => simp_all [unX, zae]
def zaU (z : List AV) : List (Nat × AV) -> Option (List AV)
 | [] => some z
 | (i, v) :: rest => if i < z.length /\ zae v = false then zaU (z.set i (unX v)) rest else none
def z6 : AV -> Option Int
 | .d (.int _ n) => some n
 | _ => none
def zam (x : Option AV) (dflt y : Nat) : Option Nat :=
 match x with
 | none => some dflt
 | some v => (z6 v).bind fun n => if 0 <= n /\ n <= y then some n.toNat else none
def zdc : List D -> Option (List UInt8)
 | [] => some []
 | .int .u8 n :: l => (zdc l).map (UInt8.ofNat n.toNat :: ·)
 | _ => none
def mmD (mx : Bool) : AV -> List AV -> Option AV
 | x, [] => some x
 | .d (.int k a), .d (.int k' b) :: r => if k = k' then mmD mx (.d (.int k (if mx then (if a < b then b else a) else (if b < a then b else a)))) r else none
 | _, _ => none
def ldA (H : za) (ag : Bool) (n : Nat) : AV -> Option AV
 | .d (.pd x) => (zaf ag 0 n x).map .d
 | .pe _ x => (zaf ag 0 n x).map .d
 | .ref o i off =>
  match look o H with
  | some (.row es) => (es[i]?).bind (zaY ag off n)
  | _ => none
 | _ => none
def zaT (ag : Bool) (off n : Nat) : AV -> Option AV
 | .ref o i f => some (.ref o i (f + off))
 | .d (.pd y) => (zaf ag off n y).map fun z => .d (.pd z)
 | .pe o y => (zaf ag off n y).map fun z => .pe o z
 | _ => none
def zat (H : za) (n : Nat) (i : Int) : AV -> Option AV
 | .osl o off len => if i < len then
     match look o H with
     | some (.row es) => (es[off + i.toNat]?).bind fun e => if e.size = n then some (.ref o (off + i.toNat) 0) else none
     | _ => none
     else none
 | .acc o es => (es[i.toNat]?).bind fun e => if e.size = n then some (.pe o e) else none
 | .d (.sl es) => (es[i.toNat]?).bind fun e => if e.size = n then some (.d (.pd e)) else none
 | .xsl es => (es[i.toNat]?).bind fun e => if e.size = n then some (.d (.pd e)) else none
 | _ => none
def zab (n : Nat) (es : List D) : Bool := es.all fun e => e.size == n
def zak (H : za) (n : Nat) (lo hi mx : Option AV) : AV -> Option AV
 | .d (.sl es) =>
  if zab n es then
   (zam hi es.length es.length).bind fun h => (zam lo 0 h).bind fun l =>
    match mx with
    | none => some (.d (.sl ((es.take h).drop l)))
    | some m => if z6 m = some (h : Int) /\ hi.isSome then some (.xsl ((es.take h).drop l)) else none
  else none
 | .xsl es =>
  if zab n es then
   (zam hi es.length es.length).bind fun h => (zam lo 0 h).bind fun l =>
    match mx with
    | none => some (if h = es.length then .xsl ((es.take h).drop l) else .d (.sl ((es.take h).drop l)))
    | some m => if z6 m = some (h : Int) /\ hi.isSome then some (.xsl ((es.take h).drop l)) else none
  else none
 | .acc o es =>
  if zab n es then
   (zam hi es.length es.length).bind fun h => (zam lo 0 h).bind fun l =>
    if l = 0 then
     match mx with
     | none => some (.acc o (es.take h))
     | some m => if z6 m = some (h : Int) /\ hi.isSome then some (.acc o (es.take h)) else none
    else none
  else none
 | .osl o off len =>
  match mx with
  | none => (zam hi len len).bind fun h => (zam lo 0 h).bind fun l =>
   match look o H with
   | some (.row es) => if l = 0 \/ es.head?.map AV.size = some n then some (.osl o (off + l) (h - l)) else none
   | _ => none
  | some _ => none
 | _ => none
def zaC (H : za) : AV -> Option (List D)
 | .osl o off len =>
  match look o H with
  | some (.row es) => (zO ((es.drop off).take len)).bind fun ds => if ds.length = len then some ds else none
  | _ => none
 | .nl _ => some []
 | y => slD y
def zah (E : Env) (H : za) (dst n : Nat) (ys : List D) : AV -> Option (AV × za)
 | .xsl es => if (ys.isEmpty && !es.isEmpty) = true then (if zab n es = true then some (.xsl es, H) else none) else if zab n (es ++ ys) /\ (es ++ ys).length <= LIM /\ refsEnv dst E = false /\ refsHeap dst H = false then some (.acc dst (es ++ ys), zj dst (.acc (es.length + ys.length)) H) else none
 | .acc o es => match look o H with
  | some (.acc m) => if es.length = m /\ zab n (es ++ ys) /\ (es ++ ys).length <= LIM then some (.acc o (es ++ ys), zj o (.acc (m + ys.length)) H) else none
  | _ => none
 | _ => none
def zg7 : Nat -> Option D -> Option D -> Option Bool
 | 0, some (.int k x), some (.int k' y) => if k = k' then some (decide (x = y)) else none
 | 1, some (.bool x), some (.bool y) => some (x == y)
 | 2, some (.str x), some (.str y) => some (decide (x = y))
 | _, _, _ => none
def zb0 (x y : List D) : List (Nat × Nat) -> Option Bool
 | [] => some true
 | l :: ls => (zg7 l.2 x[l.1]? y[l.1]?).bind fun b => (zb0 x y ls).map (b && ·)
def zfA (ag : Bool) (off n : Nat) : AV -> Option AV
 | .d (.agg cs) => (zaf ag off n (.agg cs)).map .d
 | .agg cs => zaY ag off n (.agg cs)
 | _ => none
def zb2 (k : Int) : List (Int × D) -> Option D
 | [] => none
 | (j, x) :: l => if j = k then some x else zb2 k l
def zcq (k : Int) (x : D) : List (Int × D) -> List (Int × D)
 | [] => [(k, x)]
 | (j, y) :: l => if j = k then (j, x) :: l else (j, y) :: zcq k x l
def zcL : AV -> Option Int
 | .d (.int .i64 n) => some n
 | _ => none
def za9 (H : za) : AV -> Option Int
 | .ref o i off =>
  match look o H with
  | some (.row es) => (es[i]?).bind fun e => (e.cells[off]?).bind zcL
  | _ => none
 | _ => none
def zbM (H : za) (n : Int) : AV -> Option za
 | .ref o i off =>
  match look o H with
  | some (.row es) => (es[i]?).bind fun e => ((e.cells[off]?).bind zcL).bind fun _ => (zaX e off (.d (.int .i64 n))).map fun e' => zj o (.row (es.set i e')) H
  | _ => none
 | _ => none
def zdv (H : za) (ok : Bool) (z : D) : AV -> AV -> Option AV
 | .mpr o, .d (.int .i64 n) => match look o H with
  | some (.mp es) => some (.d (if ok then .tup [(zb2 n es).getD z, .bool (zb2 n es).isSome] else (zb2 n es).getD z))
  | _ => none
 | _, _ => none
def zex (H : za) : AV -> AV -> AV -> Option (AV × za)
 | .mpr o, .d (.int .i64 n), .d y => match look o H with
  | some (.mp es) => some (.undef, zj o (.mp (zcq n y es)) H)
  | _ => none
 | _, _, _ => none
def ze (E : Env) (H : za) (dst : Nat) : AOp -> Option (AV × za)
 | .mv x => some (x.ev E, H)
 | .pick c a b => match c.ev E with | .d (.bool t) => some (if t then a.ev E else b.ev E, H) | _ => none
 | .alloc z => if refsEnv dst E = false /\ refsHeap dst H = false then some (.ref dst 0 0, zj dst (.row [z]) H) else none
 | .box x => if refsEnv dst E = false /\ refsHeap dst H = false /\ zae (x.ev E) = false /\ (x.ev E).size ≠ 0 then some (.ref dst 0 0, zj dst (.row [x.ev E]) H) else none
 | .ld ag n p => (ldA H ag n (p.ev E)).map fun v => (v, H)
 | .st n p x => match p.ev E with
  | .ref o i off => if (x.ev E).size = n /\ zae (x.ev E) = false then
      match look o H with
      | some (.row es) => (es[i]?).bind fun e => (zaX e off (x.ev E)).map fun e' => (.undef, zj o (.row (es.set i e')) H)
      | _ => none
      else none
  | _ => none
 | .nilc x => match x.ev E with
  | .ref o i f => some (.ref o i f, H)
  | .d (.pd y) => some (.d (.pd y), H)
  | .d (.fn f cs) => some (.d (.fn f cs), H)
  | .pe o y => some (.pe o y, H)
  | .fn f cs => some (.fn f cs, H)
  | _ => none
 | .bin op x y => match x.ev E, y.ev E with
  | .d a, .d b => (zbY op a b).map fun v => (.d v, H)
  | _, _ => none
 | .eqb ng x y => match x.ev E, y.ev E with
  | .d (.bool a), .d (.bool b) => some (.d (.bool (if ng then !(a == b) else a == b)), H)
  | _, _ => none
 | .eqs ng n ls x y => match x.ev E, y.ev E with
  | .d (.agg a), .d (.agg b) => if a.length = n /\ b.length = n then (zb0 a b ls).map fun r => (.d (.bool (if ng then !r else r)), H) else none
  | _, _ => none
 | .nacc => if refsEnv dst E = false /\ refsHeap dst H = false then some (.acc dst [], zj dst (.acc 0) H) else none
 | .un op x => match op, x.ev E with
  | .not, .d (.bool b) => some (.d (.bool (!b)), H)
  | .neg, .d (.int k n) => some (.d (.int k (k.wrap (0 - n))), H)
  | _, _ => none
 | .cvi k x => match x.ev E with | .d (.int _ n) => some (.d (.int k (k.wrap n)), H) | _ => none
 | .fad ag off n x => (zaT ag off n (x.ev E)).map fun v => (v, H)
 | .fld ag off n x => match x.ev E with
  | .d (.agg cs) => (zaf ag off n (.agg cs)).map fun v => (.d v, H)
  | .agg cs => (zaY ag off n (.agg cs)).map fun v => (v, H)
  | _ => none
 | .iad n x i => (z6 (i.ev E)).bind fun k => if 0 <= k then (zat H n k (x.ev E)).map fun v => (v, H) else none
 | .iada ag len n x i => (z6 (i.ev E)).bind fun k => if 0 <= k /\ k < len then (zaT ag (k.toNat * n) n (x.ev E)).map fun v => (v, H) else none
 | .idxa ag len n x i => (z6 (i.ev E)).bind fun k => if 0 <= k /\ k < len then (zfA ag (k.toNat * n) n (x.ev E)).map fun v => (v, H) else none
 | .idx x i => match x.ev E, z6 (i.ev E) with
  | .d (.str s), some k => if 0 <= k then (s[k.toNat]?).map fun b => (.d (.int .u8 b.toNat), H) else none
  | _, _ => none
 | .slc n x lo hi mx => (zak H n (lo.map (·.ev E)) (hi.map (·.ev E)) (mx.map (·.ev E)) (x.ev E)).map fun v => (v, H)
 | .sls x lo hi => match x.ev E with
  | .d (.str s) => (zam (hi.map (·.ev E)) s.length s.length).bind fun h => (zam (lo.map (·.ev E)) 0 h).map fun l => (.d (.str ((s.take h).drop l)), H)
  | _ => none
 | .ext x i => match x.ev E with
  | .d (.tup vs) => (vs[i]?).map fun v => (.d v, H)
  | .tup vs => (vs[i]?).map fun v => (v, H)
  | _ => none
 | .lens x => match x.ev E with
  | .d (.str s) => some (.d (.int .i64 s.length), H)
  | _ => none
 | .len x => match x.ev E with
  | .osl _ _ len => some (.d (.int .i64 len), H)
  | y => (slD y).map fun es => (.d (.int .i64 es.length), H)
 | .mm mx xs => match xs.map (·.ev E) with | [] => none | y :: ys => (mmD mx y ys).map fun v => (v, H)
 | .mkfn f cs => some (AV.mkFn f (cs.map (·.ev E)), H)
 | .build z ps => (zbh z (ps.map fun p => (p.1, p.2.1, p.2.2.ev E))).map fun cs => (AV.mkAgg cs, H)
 | .bsl len n z ps => if z.size = n /\ (ps.all fun p => (p.2.ev E).size == n) = true then
     (zaU (List.replicate len z) (ps.map fun p => (p.1, p.2.ev E))).bind fun es =>
      match zO es with
      | some ds => some (.xsl ds, H)
      | none => if refsEnv dst E = false /\ refsHeap dst H = false then some (.osl dst 0 len, zj dst (.row es) H) else none
     else none
 | .mks n z l c => match l.ev E, c.ev E with
  | .d (.int .i64 a), .d (.int .i64 b) => if 0 <= a /\ a = b /\ a <= LIM /\ z.size = n /\ refsEnv dst E = false /\ refsHeap dst H = false then some (.osl dst 0 a.toNat, zj dst (.row (List.replicate a.toNat z)) H) else none
  | _, _ => none
 | .s2b x => match x.ev E with
  | .d (.str s) => some (.d (.sl (s.map fun b => .int .u8 b.toNat)), H)
  | _ => none
 | .b2s x => (slD (x.ev E)).bind fun es => (zdc es).map fun s => (.d (.str s), H)
 | .app n x y => (zaC H (y.ev E)).bind fun ys => zah E H dst n ys (x.ev E)
 | .clr n x => match x.ev E with
  | .osl o off len =>
   match look o H with
   | some (.row es) => if off + len = es.length /\ es.head?.map AV.size = some n then some (.undef, zj o (.row (es.take off)) H) else none
   | _ => none
  | _ => none
 | .apps x y => match y.ev E with
  | .d (.str s) => zah E H dst 1 (s.map fun b => .int .u8 b.toNat) (x.ev E)
  | _ => none
 | .atl p => (za9 H (p.ev E)).map fun n => (.d (.int .i64 n), H)
 | .ats p x => (zcL (x.ev E)).bind fun n => (zbM H n (p.ev E)).map fun H' => (.d (.tup []), H')
 | .atc p x y => (zcL (x.ev E)).bind fun old => (zcL (y.ev E)).bind fun n => (za9 H (p.ev E)).bind fun v => if v = old then (zbM H n (p.ev E)).map fun H' => (.d (.bool true), H') else some (.d (.bool false), H)
 | .mkm => if refsEnv dst E = false /\ refsHeap dst H = false then some (.mpr dst, zj dst (.mp []) H) else none
 | .lkp ok z x k => (zdv H ok z (x.ev E) (k.ev E)).map fun v => (v, H)
 | .mup x k v => zex H (x.ev E) (k.ev E) (v.ev E)
 | _ => none
end Go.Sim

namespace Go.Sim
open Go (World Value Addr TypeId)
theorem zCc {α : Type} {k : Nat} {x : α} {l : List (Nat × α)} (h : (k, x) ∈ l) : ∃ y, look k l = some y := by
 induction l with
 | nil => cases h
 | cons p l ih =>
  obtain ⟨j, y⟩ := p;simp only [look]
  by_cases e : j = k
  · rw [zKN e]; exact ⟨_, rfl⟩
  · rw [zKM e]
    cases h with
    | head => exact absurd rfl e
    | tail _ h => exact ih h
variable {C : Ctx} {S : St} {a : Act} {w : World} {ι : Inj} {R : Nat -> Prop}
theorem Rel.put (h : Rel C S a w ι R) {x : AV} {u : Value} (hv : VA w R ι (mark S.heap) x u) {d : Nat} (hd : d < C.n) :
    Rel C ⟨zj d x S.env, S.heap⟩ (a.put (some d) u) w ι R := by
 refine ⟨h.defers, by simp [Act.put, h.size], h.os, h.tape, h.output, h.grow, h.len, h.keep, h.keepLt, h.rlt, h.rok, h.r0, h.own, h.inj, ?_, h.heap⟩;intro t y hy;simp only [zj] at hy
 cases hy with
 | head =>
  refine ⟨u, ?_, hv⟩;have := C.le;simp only [za2, Act.put];rw [zKN (by omega), zMT (by rw [h.size]; exact hd)]
 | tail _ hy =>
  obtain ⟨h1, h2⟩ := zcT.1 hy;obtain ⟨u', h3, h4⟩ := h.env t y h1;refine ⟨u', ?_, h4⟩;simp only [za2, Act.put] at h3 ⊢;rw [zMU (Ne.symm h2)];exact h3
theorem Rel.put_none (h : Rel C S a w ι R) (u : Value) : Rel C S (a.put none u) w ι R := h
theorem Rel.weaken (h : Rel C S a w ι R) {E : Env} (hE : ∀ t x, (t, x) ∈ E -> (t, x) ∈ S.env) : Rel C ⟨E, S.heap⟩ a w ι R :=
 ⟨h.defers, h.size, h.os, h.tape, h.output, h.grow, h.len, h.keep, h.keepLt, h.rlt, h.rok, h.r0, h.own, h.inj, fun t x hx => h.env t x (hE t x hx), h.heap⟩
theorem Rel.tmp (h : Rel C S a w ι R) {t : Nat} {x : AV} (ht : t < 1000000) (hx : look t S.env = some x) : VA w R ι (mark S.heap) x (a.eval (.tmp t)) := by
 obtain ⟨u, h1, h2⟩ := h.env t x (zu hx);simp only [za2, zKN ht] at h1;simp only [Act.eval, zLH, h1, zLX];exact h2
theorem zfj {v : Value} {x : AV} (h : zcb v = some x) (w : World) (R : Nat -> Prop) (ι : Inj) (mk : Nat -> Option Nat) : VA w R ι mk x v /\ x.cell = true := by
 unfold zcb at h
 split at h
 · split at h
   · rename_i hk; cases h; exact ⟨.d (.int hk), rfl⟩
   · cases h
 · cases h; exact ⟨.d .bool, rfl⟩
 · split at h
   · rename_i s hs
     cases h
     refine ⟨.d ?_, rfl⟩;have := Rd.str (w := w) (R := R) hs;have e : (⟨s.data.toList.toArray⟩ : ByteArray) = s := by cases s; simp
     rwa [e] at this
   · cases h
 · cases h; exact ⟨.xsl .sl0, rfl⟩
 · split at h
   · rename_i hk; cases h; exact ⟨.d (.nil hk), rfl⟩
   · cases h
theorem zbX {cs : List AV} {ds : List D} (h : zO cs = some ds) : cs = ds.map .d := by
 induction cs generalizing ds with
 | nil => simp [zO] at h; subst h; rfl
 | cons x l ih =>
  cases x with
  | d y =>
   simp only [zO, zKL] at h;obtain ⟨ds', h1, h2⟩ := h;subst h2;rw [ih h1]; rfl
  | _ => simp [zO] at h
theorem VA.of_d {mk : Nat -> Option Nat} {x : D} {u : Value} (h : VA w R ι mk (.d x) u) : Rd w R (.v x u) := by cases h; assumption
theorem VA.mkAgg {mk : Nat -> Option Nat} {cs : List AV} {vs : List Value} (hl : vs.length = cs.length) (hc : ∀ c ∈ cs, c.cell = true)
    (h : ∀ (i : Nat) (c : AV) (u : Value), cs[i]? = some c -> vs[i]? = some u -> VA w R ι mk c u) : VA w R ι mk (AV.mkAgg cs) (.agg vs.toArray) := by
 unfold AV.mkAgg
 cases hd : zO cs with
 | none => exact .agg hl hc h
 | some ds =>
  have := zbX hd;subst this;refine .d (.agg (by simpa using hl) (fun c hm => ?_) fun i c u h1 h2 => (h i (.d c) u (by simp [h1]) h2).of_d);exact hc (.d c) (by simpa using hm)
theorem VA.mkTup {mk : Nat -> Option Nat} {cs : List AV} {vs : List Value} (hl : vs.length = cs.length)
    (h : ∀ (i : Nat) (c : AV) (u : Value), cs[i]? = some c -> vs[i]? = some u -> VA w R ι mk c u) : VA w R ι mk (AV.mkTup cs) (.tuple vs.toArray) := by
 unfold AV.mkTup
 cases hd : zO cs with
 | none => exact .tup hl h
 | some ds =>
  have := zbX hd;subst this;exact .d (.tup (by simpa using hl) fun i c u h1 h2 => (h i (.d c) u (by simp [h1]) h2).of_d)
theorem VA.mkFn {mk : Nat -> Option Nat} {f : FuncId} {cs : List AV} {vs : List Value} (hl : vs.length = cs.length)
    (h : ∀ (i : Nat) (c : AV) (u : Value), cs[i]? = some c -> vs[i]? = some u -> VA w R ι mk c u) : VA w R ι mk (AV.mkFn f cs) (.func (.func f) #[] vs.toArray) := by
 unfold AV.mkFn
 cases hd : zO cs with
 | none => exact .fn hl h
 | some ds =>
  have := zbX hd;subst this;exact .d (.fn (by simpa using hl) fun i c u h1 h2 => (h i (.d c) u (by simp [h1]) h2).of_d)
theorem zbc {α β : Type} {f : α -> Option β} : ∀ {l : List α} {m : List β}, l.mapM f = some m -> m.length = l.length /\ ∀ (i : Nat) (x : α) (y : β), l[i]? = some x -> m[i]? = some y -> f x = some y := by
 intro l
 induction l with
 | nil => intro m h; simp at h; subst h; simp
 | cons x l ih =>
  intro m h;simp only [zLN, zK7, zLg] at h;obtain ⟨y, hy, h⟩ := zKK.1 h;obtain ⟨ys, hys, h⟩ := zKK.1 h
  cases h
  obtain ⟨h1, h2⟩ := ih hys;refine ⟨by simp [h1], fun i a b ha hb => ?_⟩
  match i, ha, hb with
  | 0, ha, hb => simp at ha hb; subst ha hb; exact hy
  | n + 1, ha, hb => exact h2 n a b (by simpa using ha) (by simpa using hb)
theorem zfl {v : Value} {x : AV} (h : zbw v = some x) (w : World) (R : Nat -> Prop) (ι : Inj) (mk : Nat -> Option Nat) : VA w R ι mk x v := by
 unfold zbw at h
 split at h
 · rename_i cs;obtain ⟨ds, h1, h2⟩ := zKL.1 h;subst h2;obtain ⟨hl, hg⟩ := zbc h1;have e : cs = cs.toList.toArray := by simp
   rw [e];refine VA.mkAgg hl.symm (fun c hc => ?_) fun i c u h3 h4 => (zfj (hg i u c h4 h3) w R ι mk).1;obtain ⟨i, hi⟩ := zLl hc;have hlt : i < cs.toList.length := by rw [<- hl]; exact (zKP.1 hi).1
   exact (zfj (hg i _ c (zKR hlt) hi) w R ι mk).2
 · exact (zfj h w R ι mk).1
theorem Rel.ev (h : Rel C S a w ι R) {o : Operand} {x : Opd} (hx : opd o = some x) : VA w R ι (mark S.heap) (x.ev S.env) (a.eval o) := by
 cases o with
 | tmp t =>
  simp only [opd] at hx
  split at hx
  · rename_i ht
    cases hx
    simp only [Opd.ev]
    cases hl : look t S.env with
    | none => exact .undef
    | some y => exact h.tmp ht hl
  · cases hx
 | const v =>
  simp only [opd] at hx
  split at hx
  · cases hx; exact .undef
  · obtain ⟨y, h1, h2⟩ := zKL.1 hx;subst h2;exact zfl h1 _ _ _ _
 | global g => cases hx
 | func f =>
  simp only [opd, Option.some.injEq] at hx; subst hx;exact .d (.fn (cs := []) (vs := []) rfl (by simp))
theorem Rel.change (h : Rel C S a w ι R) {w' : World} {ι' : Inj} {R' : Nat -> Prop} {H' : za}
    (os : w'.os = w.os) (tape : w'.tape = w.tape) (output : w'.output = w.output) (grow : w.heap.size <= w'.heap.size) (blk : ∀ b, b < w.heap.size -> Blk w w' b 0)
    (keep : ∀ b, C.keep b -> w'.heap[b]? = w.heap[b]?) (hR : ∀ b, R b -> R' b) (rlt : ∀ b, R' b -> b < w'.heap.size) (rok : ∀ b, R' b -> C.R0 b \/ ¬ C.keep b)
    (hK : zU R w w') (own : ∀ o b s, ι' o = some (b, s) -> ¬ C.keep b /\ b < w'.heap.size) (inj : ∀ o o' b s s', ι' o = some (b, s) -> ι' o' = some (b, s') -> o = o')
    (st : ∀ p, refsEnv p S.env = true -> Step w w' ι ι' (mark S.heap) (mark H') p)
    (hp : ∀ o ob, (o, ob) ∈ H' -> OB w' R' ι' (mark H') o ob) : Rel C ⟨S.env, H'⟩ a w' ι' R' := by
 refine ⟨h.defers, h.size, os.trans h.os, tape.trans h.tape, output.trans h.output, zL1 h.grow grow, fun b hb => (h.len b hb).trans (blk b (zLo hb h.grow)), fun b hb => (keep b hb).trans (h.keep b hb), h.keepLt, rlt, rok,
  fun b hb => hR b (h.r0 b hb), own, inj, ?_, hp⟩
 intro t x hx;obtain ⟨u, h1, h2⟩ := h.env t x hx;refine ⟨u, h1, h2.mono hR hK fun p hp => st p ?_⟩
 cases hh : refsEnv p S.env with
 | true => rfl
 | false => rw [zeH hx hh] at hp; cases hp
def zb6 (o : Nat) (S : St) : Prop := refsEnv o S.env = false /\ refsHeap o S.heap = false
def upd (ι : Inj) (o : Nat) (p : Nat × Nat) : Inj := fun q => if q = o then some p else ι q
theorem zav {o : Nat} {p : Nat × Nat} : upd ι o p o = some p := by simp [upd]
theorem zQ {o q : Nat} {p : Nat × Nat} (h : q ≠ o) : upd ι o p q = ι q := by simp [upd, h]
theorem zaO {H : za} {o q : Nat} {ob : Obj} (h : q ≠ o) : mark (zj o ob H) q = mark H q := by simp [mark, zr5 h]
theorem zaN {H : za} {o : Nat} {ob : Obj} : mark (zj o ob H) o = (match ob with | .acc n => some n | .frz m => m | _ => none) := by
 simp only [mark, zCg]; cases ob <;> rfl
theorem zay {o : Go.Obj} {b : Nat} (h : b < w.heap.size) : (w.alloc o).heap[b]? = w.heap[b]? := heap_alloc_old w o b h
theorem zU.alloc (h : Rel C S a w ι R) (o : Go.Obj) : zU R w (w.alloc o) := fun b hb => zay (h.rlt b hb)
theorem Step.other {w' : World} {H' : za} {ι' : Inj} {p : Nat} (hι : ι' p = ι p) (hm : mark H' p = mark S.heap p) (hb : ∀ b s, ι p = some (b, s) -> w'.heap[b]? = w.heap[b]?) :
    Step w w' ι ι' (mark S.heap) (mark H') p :=
 ⟨fun b s h => by rw [hι, h], fun b s h => Blk.of_eq (hb b s h), fun m h => ⟨m, by rw [hm, h], zKV _⟩, fun m h => ⟨m, by rw [<- hm, h], zKV _⟩⟩
theorem Rel.new (h : Rel C S a w ι R) {o s : Nat} {ob : Obj} (c : Array Value) (T : TypeId) (hu : zb6 o S)
    (hob : OB (w.alloc (.cells c T)) R (upd ι o (w.heap.size, s)) (mark (zj o ob S.heap)) o ob) :
    Rel C ⟨S.env, zj o ob S.heap⟩ a (w.alloc (.cells c T)) (upd ι o (w.heap.size, s)) R := by
 have hst : ∀ p, p ≠ o -> Step w (w.alloc (.cells c T)) ι (upd ι o (w.heap.size, s)) (mark S.heap) (mark (zj o ob S.heap)) p := fun p hp =>
  Step.other (zQ hp) (zaO hp) fun b s hb => zay (h.own p b s hb).2
 refine h.change rfl rfl rfl (by simp) (fun b hb => Blk.of_eq (zay hb)) (fun b hb => zay (zLo (h.keepLt b hb) h.grow)) (fun _ hb => hb) (fun b hb => by have := h.rlt b hb; simp; omega) h.rok (zU.alloc h _) ?_ ?_ ?_ ?_
 · intro q b s' hq
   by_cases e : q = o
   · subst e;rw [zav] at hq; cases hq;exact ⟨fun hk => by have := h.keepLt _ hk; have := h.grow; omega, by simp⟩
   · rw [zQ e] at hq;have := h.own q b s' hq;exact ⟨this.1, by simp; omega⟩
 · intro q q' b s1 s2 h1 h2
   by_cases e : q = o <;> by_cases e' : q' = o
   · rw [e, e']
   · subst e; rw [zav] at h1; rw [zQ e'] at h2; cases h1;have := (h.own _ _ _ h2).2; omega
   · subst e'; rw [zav] at h2; rw [zQ e] at h1; cases h2;have := (h.own _ _ _ h1).2; omega
   · rw [zQ e] at h1; rw [zQ e'] at h2; exact h.inj _ _ _ _ _ h1 h2
 · intro p hp;refine hst p fun e => ?_;subst e; rw [hu.1] at hp; cases hp
 · intro q ob' hq
   cases hq with
   | head => exact hob
   | tail _ hq =>
    obtain ⟨h1, h2⟩ := zcT.1 hq;refine (h.heap q ob' h1).mono (fun _ hb => hb) (zU.alloc h _) (fun b s' hb => ⟨by rw [zQ h2, hb], zay (h.own q b s' hb).2, fun hb => hb⟩) (fun h0 => by rw [zQ h2, h0]) fun p hp => ?_;refine hst p fun e => ?_;subst e;have := zb4 h1 hu.2;rw [hp] at this; cases this
theorem Rel.newRO (h : Rel C S a w ι R) (ob : Go.Obj) : Rel C S a (w.alloc ob) ι (fun b => R b \/ b = w.heap.size) := by
 have hst : ∀ p, Step w (w.alloc ob) ι ι (mark S.heap) (mark S.heap) p := fun p => Step.same fun b s hb => zay (h.own p b s hb).2;refine h.change (H' := S.heap) rfl rfl rfl (by simp) (fun b hb => Blk.of_eq (zay hb)) (fun b hb => zay (zLo (h.keepLt b hb) h.grow)) (fun _ hb => .inl hb) ?_ ?_ (zU.alloc h _) ?_ h.inj (fun p _ => hst p) ?_
 · rintro b (hb | rfl)
   · have := h.rlt b hb; simp; omega
   · simp
 · rintro b (hb | rfl)
   · exact h.rok b hb
   · exact .inr fun hk => by have := h.keepLt _ hk; have := h.grow; omega
 · intro o b s ho;have := h.own o b s ho;exact ⟨this.1, by simp; omega⟩
 · intro q ob' hq;refine (h.heap q ob' hq).mono (fun _ hb => .inl hb) (zU.alloc h _) (fun b s' hb => ?_) (fun h0 => h0) fun p _ => hst p;have := (h.own q b s' hb).2;refine ⟨hb, zay this, ?_⟩;rintro (hr | hr)
   · exact hr
   · omega
theorem Rel.drew (h : Rel C S a w ι R) : Rel C S a w.drew ι R :=
 ⟨h.defers, h.size, h.os, h.tape, h.output, h.grow, h.len, h.keep, h.keepLt, h.rlt, h.rok, h.r0, h.own, h.inj,
  fun t x hx => let ⟨u, h1, h2⟩ := h.env t x hx; ⟨u, h1, h2.mono (fun _ h => h) (fun _ _ => rfl) fun _ _ => Step.same fun _ _ _ => rfl⟩,
  fun o ob ho => (h.heap o ob ho).mono (fun _ h => h) (fun _ _ => rfl) (fun _ _ hb => ⟨hb, rfl, fun h => h⟩) (fun h => h) fun _ _ => Step.same fun _ _ _ => rfl⟩
end Go.Sim

namespace Go.Sim
open Go (World Value Addr TypeId Act)
def zk (C : Ctx) (S : St) (a : Act) (v : AV) (H : za) (r : Result Next) : Prop :=
 ∃ u w' ι' R', (r = .ok (.value u) w' \/ (r = .ok .skip w' /\ u = Go.undef)) /\ Rel C ⟨S.env, H⟩ a w' ι' R' /\ VA w' R' ι' (mark H) v u
variable {P : Program} {C : Ctx} {S : St} {a : Act} {w : World} {ι : Inj} {R : Nat -> Prop}
theorem zk.same (h : Rel C S a w ι R) {v : AV} {u : Value} (hv : VA w R ι (mark S.heap) v u) {r : Result Next} (hr : r = .ok (.value u) w) : zk C S a v S.heap r :=
 ⟨u, w, ι, R, .inl hr, h, hv⟩
section inv
variable {mk : Nat -> Option Nat}
theorem VA.int_inv {k : IntKind} {n : Int} {u : Value} (h : VA w R ι mk (.d (.int k n)) u) : u = .int k n /\ k.has n := by
 cases h with | d h => cases h with | int h => exact ⟨rfl, h⟩
theorem VA.bool_inv {b : Bool} {u : Value} (h : VA w R ι mk (.d (.bool b)) u) : u = .bool b := by
 cases h with | d h => cases h; rfl
theorem VA.str_inv {s : List UInt8} {u : Value} (h : VA w R ι mk (.d (.str s)) u) : u = .string ⟨s.toArray⟩ /\ s.length <= LIM := by
 cases h with | d h => cases h with | str h => exact ⟨rfl, h⟩
theorem VA.pd_inv {x : D} {u : Value} (h : VA w R ι mk (.d (.pd x)) u) : ∃ b off, u = .pointer (some ⟨b, off, none⟩) /\ R b /\ Rd w R (.el x b off) := by
 cases h with | d h => cases h with | pd h1 h2 => exact ⟨_, _, rfl, h1, h2⟩
theorem VA.tupD_inv {cs : List D} {u : Value} (h : VA w R ι mk (.d (.tup cs)) u) : ∃ vs : List Value, u = .tuple vs.toArray /\ vs.length = cs.length /\ ∀ (i : Nat) (c : D) (q : Value), cs[i]? = some c -> vs[i]? = some q -> Rd w R (.v c q) := by
 cases h with | d h => cases h with | tup h1 h2 => exact ⟨_, rfl, h1, h2⟩
theorem VA.tup_inv {cs : List AV} {u : Value} (h : VA w R ι mk (.tup cs) u) : ∃ vs : List Value, u = .tuple vs.toArray /\ vs.length = cs.length /\ ∀ (i : Nat) (c : AV) (q : Value), cs[i]? = some c -> vs[i]? = some q -> VA w R ι mk c q := by
 cases h with | tup h1 h2 => exact ⟨_, rfl, h1, h2⟩
end inv
theorem zbC (k : IntKind) (n : Int) : k.has (k.wrap n) := by
 cases k <;> simp [IntKind.has, IntKind.wrap, IntKind.min, IntKind.max, IntKind.bits, IntKind.signed] <;> (try split) <;> omega
theorem zJI {k : IntKind} {x y : Int} (hx : k.has x) : k.has (x.tmod y) := by
 have h1 : (x.tmod y).natAbs <= x.natAbs := by rw [Int.natAbs_tmod]; exact Nat.mod_le _ _
 have h2 : 0 <= x -> 0 <= x.tmod y := fun h => Int.tmod_nonneg _ h;have h3 : x <= 0 -> x.tmod y <= 0 := fun h => by have := Int.tmod_nonneg y (show 0 <= -x by omega); rw [Int.neg_tmod] at this; omega
 generalize x.tmod y = z at *
 cases k <;> simp [IntKind.has, IntKind.min, IntKind.max, IntKind.bits, IntKind.signed] at * <;> omega
theorem zAl {T : TypeId} {op : BinOp} {k : IntKind} {x y : Int} {r : D} (h : zbl op k x y = some r) (hx : k.has x) (hop : op ≠ .shl /\ op ≠ .shr) (w' : World) :
    ∃ u, (binOp op T (.int k x) (.int k y)).run P w' = .ok u w' /\ ∀ (w : World) (R : Nat -> Prop), Rd w R (.v r u) := by
 cases op <;> simp only [zbl, Option.some.injEq, reduceCtorEq] at h
 case add => subst h; exact ⟨_, by simp [binOp, Op.intArith], fun w R => .int (zbC _ _)⟩
 case sub => subst h; exact ⟨_, by simp [binOp, Op.intArith], fun w R => .int (zbC _ _)⟩
 case mul => subst h; exact ⟨_, by simp [binOp, Op.intArith], fun w R => .int (zbC _ _)⟩
 case quo => split at h; cases h; rename_i h0; cases h; exact ⟨_, by simp [binOp, Op.intDiv, h0], fun w R => .int (zbC _ _)⟩
 case rem => split at h; cases h; rename_i h0; cases h; exact ⟨_, by simp [binOp, Op.intDiv, h0], fun w R => .int (zJI hx)⟩
 case and => subst h; exact ⟨_, by simp [binOp, Op.intBits], fun w R => .int (zbC _ _)⟩
 case or => subst h; exact ⟨_, by simp [binOp, Op.intBits], fun w R => .int (zbC _ _)⟩
 case xor => subst h; exact ⟨_, by simp [binOp, Op.intBits], fun w R => .int (zbC _ _)⟩
 case andNot => subst h; exact ⟨_, by simp [binOp, Op.intBits], fun w R => .int (zbC _ _)⟩
 all_goals (subst h; exact ⟨_, by simp [binOp, Op.intCmp]; try rfl, fun w R => .bool⟩)
theorem zHV {k : IntKind} {x : Int} (n : Nat) (hx : k.has x) : k.has (x.fdiv (2 ^ n)) := by
 have hp : (0 : Int) < 2 ^ n := Int.pow_pos (by omega);rw [zMZ _ (Int.le_of_lt hp)];have h1 : 0 <= x -> 0 <= x / 2 ^ n /\ x / 2 ^ n <= x := fun h => ⟨Int.ediv_nonneg h (Int.le_of_lt hp), Int.ediv_le_self _ h⟩;have h2 : x < 0 -> x <= x / 2 ^ n /\ x / 2 ^ n < 0 := fun h => by
  refine ⟨?_, Int.ediv_neg_of_neg_of_pos h hp⟩;rw [Int.le_ediv_iff_mul_le hp];have h1 : (1 : Int) <= 2 ^ n := hp;have := Int.mul_le_mul_of_nonpos_left (a := x) (b := 2 ^ n) (c := 1) (by omega) h1;simpa using this
 generalize x / 2 ^ n = z at *
 cases k <;> simp [IntKind.has, IntKind.min, IntKind.max, IntKind.bits, IntKind.signed] at * <;> omega
theorem zI6 {op : BinOp} {k k' : IntKind} {x y : Int} {r : D} (h : zdK op k x y = some r) (hx : k.has x) (T : TypeId) (w' : World) :
    ∃ u, (binOp op T (.int k x) (.int k' y)).run P w' = .ok u w' /\ ∀ (w : World) (R : Nat -> Prop), Rd w R (.v r u) := by
 unfold zdK at h
 split at h
 · cases h
 · rename_i hy
   cases op <;> simp only [Option.some.injEq, reduceCtorEq] at h
   · subst h; exact ⟨_, by simp [binOp, Op.shift, hy], fun w R => .int (zbC _ _)⟩
   · subst h; exact ⟨_, by simp [binOp, Op.shift, hy], fun w R => .int (zHV _ hx)⟩
theorem zsV (a : List UInt8) : (⟨a.toArray⟩ : ByteArray).toList = a := by
 rw [ByteArray.toList_eq]
theorem zJq {op : BinOp} {x y : List UInt8} {r : D} (h : zeQ op x y = some r) (T : TypeId) (w' : World) :
    ∃ u, (binOp op T (.string ⟨x.toArray⟩) (.string ⟨y.toArray⟩)).run P w' = .ok u w' /\ ∀ (w : World) (R : Nat -> Prop), Rd w R (.v r u) := by
 cases op <;> simp only [zeQ, Option.some.injEq, reduceCtorEq] at h
 case add =>
  split at h
  · rename_i hl; cases h;refine ⟨.string ⟨(x ++ y).toArray⟩, ?_, fun w R => .str hl⟩;have h1 : ¬ (IntKind.i64.max < ((x.length : Int) + (y.length : Int))) := by
     simp only [zKO, LIM] at hl;simp [IntKind.max, IntKind.signed, IntKind.bits]; omega
    simp only [Int.not_lt, IntKind.max, IntKind.signed, IntKind.bits] at h1;have h2 : ((⟨x.toArray⟩ : ByteArray) ++ ⟨y.toArray⟩) = ⟨(x ++ y).toArray⟩ := by
     ext1; simp
    simp [binOp, Op.stringOp, h2, ByteArray.size, IntKind.max, IntKind.signed, IntKind.bits];simpa using h1
  · cases h
 case eql => subst h; exact ⟨.bool (decide (x = y)), by simp [binOp, Op.stringOp, zsV]; by_cases e : x = y <;> simp [e], fun w R => .bool⟩
 case neq => subst h; exact ⟨.bool (!decide (x = y)), by simp [binOp, Op.stringOp, zsV]; by_cases e : x = y <;> simp [e], fun w R => .bool⟩
end Go.Sim

namespace Go.Sim
open Go (World Value Addr TypeId Act)
variable {P : Program} {C : Ctx} {S : St} {a : Act} {w : World} {ι : Inj} {R : Nat -> Prop}
theorem zep {t : TypeId} {ag : Bool} (h : zM P t = some ag) (w : World) : (isAgg t).run P w = .ok ag w := by
 unfold zM at h;unfold isAgg
 cases hu : P.underlying t with
 | none => simp [hu] at h
 | some d =>
  rw [Sem.run_bind, run_underlying hu w]
  cases d <;> simp [hu] at h <;> subst h <;> simp
theorem za1 {t : TypeId} {n : Nat} (h : zA P t = some n) (w : World) : (sizeOf t).run P w = .ok n w := by
 unfold zA at h;obtain ⟨i, h1, h2⟩ := zKL.1 h;simp [sizeOf, typeInfo, h1, h2]
theorem zgZ {w : World} {b off n : Nat} {Q : Nat -> Value -> Prop} (h : ∀ j, j < n -> ∃ q, w.cell? ⟨b, off + j, none⟩ = some q /\ Q j q) :
    ∃ qs : List Value, qs.length = n /\ w.rangeAt b off qs /\ ∀ j q, qs[j]? = some q -> Q j q := by
 refine ⟨(List.range n).map fun j => (w.cell? ⟨b, off + j, none⟩).getD Go.undef, by simp, ?_, ?_⟩
 · intro j v hv;have hj : j < n := by have := (zKP.1 hv).1; simpa using this
   obtain ⟨q, h1, _⟩ := h j hj;rw [zKQ, List.getElem?_range hj] at hv;simp [h1] at hv;rw [h1, hv]
 · intro j v hv;have hj : j < n := by have := (zKP.1 hv).1; simpa using this
   obtain ⟨q, h1, h2⟩ := h j hj;rw [zKQ, List.getElem?_range hj] at hv;simp [h1] at hv;subst hv; exact h2
theorem zrY {t : TypeId} {n b off : Nat} {qs : List Value} (hag : zM P t = some true) (hn : zA P t = some n) (hl : qs.length = n) (hr : w.rangeAt b off qs) :
    (loadVar t ⟨b, off, none⟩).run P w = .ok (.agg qs.toArray) w := by
 have h1 := run_loadCells_list (P := P) w ⟨b, off, none⟩ qs (fun j v hv => by rw [Addr.add_mid]; exact hr j v hv);rw [hl] at h1;simp [loadVar, zep hag, za1 hn, h1]
theorem zrZ {t : TypeId} {b off : Nat} {q : Value} (hag : zM P t = some false) (hq : w.cell? ⟨b, off, none⟩ = some q) :
    (loadVar t ⟨b, off, none⟩).run P w = .ok q w := by
 simp [loadVar, zep hag, hq]
theorem D.size_agg (cs : List D) : (D.agg cs).size = cs.length := rfl
theorem ztm (x : D) : x.asAgg = .agg x.cells := by cases x <;> rfl
theorem zb3 {ag : Bool} {off n : Nat} {x y : D} (h : zaf ag off n x = some y) (hn : n ≠ 0) :
    off + n <= x.size /\ ((ag = true /\ y = .agg ((x.cells.drop off).take n)) \/ (ag = false /\ n = 1 /\ x.cells[off]? = some y)) := by
 unfold zaf at h
 cases ag with
 | true =>
  simp only [if_true] at h
  split at h
  · rename_i h1; cases h;refine ⟨by omega, .inl ⟨rfl, ?_⟩⟩;rw [ztm, h1.1, h1.2]; simp [D.size]
  · split at h
    · rename_i h1; cases h; exact ⟨h1, .inl ⟨rfl, rfl⟩⟩
    · cases h
 | false =>
  simp only [zLB, if_false] at h
  split at h
  · rename_i h1;have := (zKP.1 h).1;exact ⟨by simp [D.size]; omega, .inr ⟨rfl, h1, h⟩⟩
  · cases h
theorem zge {α : Type} {l : List α} {off n j : Nat} (h : off + n <= l.length) (hj : j < n) : ((l.drop off).take n)[j]? = l[off + j]? := by
 rw [zL0 hj, zLv]
theorem Rd.part_el {x y : D} {b o off n : Nat} {ag : Bool} (h : Rd w R (.el x b o)) (hp : zaf ag off n x = some y) (hn : n ≠ 0) : Rd w R (.el y b (o + off)) := by
 obtain ⟨h1, h2 | ⟨_, _, h2⟩⟩ := zb3 hp hn
 · obtain ⟨_, rfl⟩ := h2;have hc := h.v_of_cells;refine Rd.el_of_cells (fun vs => by simp) fun i c hi => ?_;have hi : ((x.cells.drop off).take n)[i]? = some c := hi;have hlt : i < n := by have := (zKP.1 hi).1; simp at this; omega
   rw [zge h1 hlt] at hi;obtain ⟨k1, q, k2, k3⟩ := hc _ _ hi;exact ⟨k1, q, by rw [<- k2]; congr 2; omega, k3⟩
 · obtain ⟨k1, q, k2, k3⟩ := h.v_of_cells _ _ h2;exact .elc k1 k2 k3
theorem Rd.load {x y : D} {b o n : Nat} {ag : Bool} {t : TypeId} (h : Rd w R (.el x b o)) (hp : zaf ag 0 n x = some y) (hn : n ≠ 0) (hag : zM P t = some ag) (hsz : zA P t = some n) :
    ∃ u, (loadVar t ⟨b, o, none⟩).run P w = .ok u w /\ Rd w R (.v y u) := by
 obtain ⟨h1, ⟨rfl, rfl⟩ | ⟨rfl, h0, h2⟩⟩ := zb3 hp hn
 · have hc := h.v_of_cells;have hlen : n <= x.cells.length := by simpa [D.size] using h1
   obtain ⟨qs, hl, hr, hq⟩ := zgZ (w := w) (b := b) (off := o) (n := n) (Q := fun j q => ∀ c, x.cells[j]? = some c -> c.cell = true /\ Rd w R (.v c q)) fun j hj => by
    have he : x.cells[j]? = some x.cells[j] := zKR (by omega);obtain ⟨k1, q, k2, k3⟩ := hc j _ he;exact ⟨q, k2, fun c hc' => by rw [he] at hc'; cases hc'; exact ⟨k1, k3⟩⟩
   refine ⟨_, zrY hag hsz hl hr, ?_⟩;have key : ∀ (i : Nat) (c : D), ((x.cells.drop 0).take n)[i]? = some c -> i < n /\ x.cells[i]? = some c := fun i c hi => by
    have hlt : i < n := by have := (zKP.1 hi).1; simp at this; omega
    rw [zge (by omega) hlt] at hi;exact ⟨hlt, by simpa using hi⟩
   refine .agg (by simp; omega) (fun c hc' => ?_) fun i c u h3 h4 => (hq i u h4 c (key i c h3).2).2;obtain ⟨i, hi⟩ := zLl hc';obtain ⟨hlt, hx⟩ := key i c hi;obtain ⟨k1, _⟩ := hc i c hx;exact k1
 · obtain ⟨k1, q, k2, k3⟩ := h.v_of_cells _ _ h2;exact ⟨q, zrZ hag (by simpa using k2), k3⟩
def ElA (w : World) (R : Nat -> Prop) (ι : Inj) (mk : Nat -> Option Nat) (e : AV) (b off : Nat) : Prop :=
 ∀ (j : Nat) (x : AV), e.cells[j]? = some x -> x.cell = true /\ ∃ q, w.cell? ⟨b, off + j, none⟩ = some q /\ VA w R ι mk x q
theorem ElA.load {mk : Nat -> Option Nat} {e v : AV} {b o off n : Nat} {ag : Bool} {t : TypeId} (h : ElA w R ι mk e b o) (hp : zaY ag off n e = some v) (hn : n ≠ 0) (hag : zM P t = some ag) (hsz : zA P t = some n) :
    ∃ u, (loadVar t ⟨b, o + off, none⟩).run P w = .ok u w /\ VA w R ι mk v u := by
 have general : ∀ (m : Nat), m = n -> off + n <= e.cells.length -> ag = true -> ∃ u, (loadVar t ⟨b, o + off, none⟩).run P w = .ok u w /\ VA w R ι mk (AV.mkAgg ((e.cells.drop off).take n)) u := by
  intro m _ hlen hagt;obtain ⟨qs, hl, hr, hq⟩ := zgZ (w := w) (b := b) (off := o + off) (n := n) (Q := fun j q => ∀ c, e.cells[off + j]? = some c -> c.cell = true /\ VA w R ι mk c q) fun j hj => by
   have he : e.cells[off + j]? = some e.cells[off + j] := zKR (by omega);obtain ⟨k1, q, k2, k3⟩ := h _ _ he;exact ⟨q, by rw [<- k2]; congr 2; omega, fun c hc' => by rw [he] at hc'; cases hc'; exact ⟨k1, k3⟩⟩
  refine ⟨_, zrY (hagt ▸ hag) hsz hl hr, ?_⟩;have key : ∀ (i : Nat) (c : AV), ((e.cells.drop off).take n)[i]? = some c -> i < n /\ e.cells[off + i]? = some c := fun i c hi => by
   have hlt : i < n := by have := (zKP.1 hi).1; simp at this; omega
   rw [zge (by omega) hlt] at hi;exact ⟨hlt, hi⟩
  refine VA.mkAgg (by simp; omega) (fun c hc' => ?_) fun i c u h3 h4 => (hq i u h4 c (key i c h3).2).2;obtain ⟨i, hi⟩ := zLl hc';exact (h _ _ (key i c hi).2).1
 cases e with
 | d x =>
  simp only [zaY, zKL] at hp;obtain ⟨y, hp, rfl⟩ := hp;have hel : Rd w R (.el x b o) \/ ∃ vs, x = .tup vs := by
   by_cases hx : ∃ vs, x = .tup vs
   · exact .inr hx
   · refine .inl (Rd.el_of_cells (fun vs hvs => hx ⟨vs, hvs⟩) fun i c hi => ?_);obtain ⟨k1, q, k2, k3⟩ := h i (.d c) (by simp [AV.cells, hi]);exact ⟨k1, q, k2, k3.of_d⟩
  rcases hel with hel | ⟨vs, rfl⟩
  · obtain ⟨h1, _⟩ := zb3 hp hn;have h2 := hel.part_el hp hn;have : ∃ z, zaf ag 0 n y = some z /\ z = y := by
     obtain ⟨h1, ⟨rfl, rfl⟩ | ⟨rfl, h0, h2⟩⟩ := zb3 hp hn
     · refine ⟨_, ?_, rfl⟩;simp only [zaf, if_true];have e : n = (D.agg (List.take n (List.drop off x.cells))).size := by rw [D.size_agg, zLc, zKZ]; have h1 : off + n <= x.cells.length := h1; omega
       rw [zKN ⟨trivial, e⟩]; rfl
     · refine ⟨y, ?_, rfl⟩;subst h0;have := (hel.v_of_cells _ _ h2).1;simp [zaf, D.cells_cell this]
    obtain ⟨z, hz, rfl⟩ := this;obtain ⟨u, k1, k2⟩ := h2.load hz hn hag hsz;exact ⟨u, k1, .d k2⟩
  · have := (h 0 (.d (.tup vs)) (by simp [AV.cells, D.cells])).1;simp [AV.cell, D.cell] at this
 | _ =>
  simp only [zaY] at hp
  cases ag with
  | true =>
   simp only [if_true] at hp
   split at hp
   · rename_i h1; cases hp; exact general n rfl (by rw [AV.size_cells]; omega) rfl
   · cases hp
  | false =>
   simp only [zLB, if_false] at hp
   split at hp
   · obtain ⟨k1, q, k2, k3⟩ := h _ _ hp;exact ⟨q, zrZ hag k2, k3⟩
   · cases hp
end Go.Sim
