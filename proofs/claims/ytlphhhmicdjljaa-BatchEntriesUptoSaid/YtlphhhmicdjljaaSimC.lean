/-
  The operations of the calculus: what they are made of ('comp..', out of the model's operations), and what they do to abstract states ('astep').
-/
import Derived.Test.YtlphhhmicdjljaaSimB
namespace Go.Sim
set_option linter.unusedSimpArgs false
set_option linter.unusedVariables false

inductive Opd where
  | t (n : Nat)
  | c (x : AV)

def Opd.ev (E : Env) : Opd → AV
  | .t n => (look n E).getD .undef
  | .c x => x

inductive AOp where
  | mv (x : Opd)
  | pick (c a b : Opd)
  | alloc (z : AV)
  | box (x : Opd)
  | build (z : List AV) (ps : List (Nat × Nat × Opd))
  | bsl (len n : Nat) (z : AV) (ps : List (Nat × Opd))
  | ld (ag : Bool) (n : Nat) (p : Opd)
  | st (n : Nat) (p x : Opd)
  | nilc (x : Opd)
  | bin (op : BinOp) (x y : Opd)
  | eqb (ng : Bool) (x y : Opd)
  | eqs (ng : Bool) (n : Nat) (ls : List (Nat × Nat)) (x y : Opd)
  | nacc
  | un (op : UnOp) (x : Opd)
  | cvi (k : IntKind) (x : Opd)
  | s2b (x : Opd)
  | b2s (x : Opd)
  | mkfn (f : FuncId) (cs : List Opd)
  | fad (ag : Bool) (off n : Nat) (x : Opd)
  | fld (ag : Bool) (off n : Nat) (x : Opd)
  | iad (n : Nat) (x i : Opd)
  | iada (ag : Bool) (len n : Nat) (x i : Opd)
  | idx (x i : Opd)
  | slc (n : Nat) (x : Opd) (lo hi mx : Option Opd)
  | sls (x : Opd) (lo hi : Option Opd)
  | ext (x : Opd) (i : Nat)
  | len (x : Opd)
  | lens (x : Opd)
  | app (n : Nat) (x y : Opd)
  | apps (x y : Opd)
  | mm (mx : Bool) (xs : List Opd)
  | mks (n : Nat) (z : AV) (l c : Opd)
  | nileq (ng : Bool) (x : Opd)
  | call (f : FuncId) (ms : List Bool) (xs : List Opd)
  | callv (f : Opd) (ms : List Bool) (xs : List Opd)

structure AOper where
  dst : Option Nat
  op : AOp
  guard : Option (Nat × Bool)

/-! ### Out of the model's operations -/

def allD : List AV → Option (List D)
  | [] => some []
  | .d x :: l => (allD l).map (x :: ·)
  | _ => none

def AV.mkAgg (cs : List AV) : AV := match allD cs with | some ds => .d (.agg ds) | none => .agg cs
def AV.mkTup (cs : List AV) : AV := match allD cs with | some ds => .d (.tup ds) | none => .tup cs
def AV.mkFn (f : FuncId) (cs : List AV) : AV := match allD cs with | some ds => .d (.fn f ds) | none => .fn f cs

/-- A constant, or a zero value. -/
def cell1 : Value → Option AV
  | .int k n => if k.min ≤ n ∧ n ≤ k.max then some (.d (.int k n)) else none
  | .bool b => some (.d (.bool b))
  | .string s => if s.data.toList.length ≤ LIM then some (.d (.str s.data.toList)) else none
  | .slice none 0 0 => some (.xsl [])
  | _ => none

def constV : Value → Option AV
  | .agg cs => (cs.toList.mapM cell1).map AV.mkAgg
  | v => cell1 v

def nilPtr : Value → Bool
  | .pointer none => true
  | .nilFunc => true
  | .nilIface => true
  | _ => false

def opd : Operand → Option Opd
  | .tmp t => if t < 1000000 then some (.t t) else none
  | .const v => if nilPtr v then some (.c .undef) else (constV v).map .c
  | .global _ => none
  | .func f => some (.c (.d (.fn f [])))

def isAggT (P : Program) (t : TypeId) : Option Bool :=
  match P.underlying t with
  | some (.struct _) => some true
  | some (.array _ _) => some true
  | some _ => some false
  | none => none

def sizeT (P : Program) (t : TypeId) : Option Nat := (P.info? t).map (·.size)
def zeroT (P : Program) (t : TypeId) : Option AV := ((P.info? t).bind (·.zero)).bind constV

def callable (P : Program) (f : FuncId) : Bool := match P.funcs[f]? with | some fn => fn.body.isSome && !(fn.name == "runtime.NumGoroutine") | none => false

/-- The cells of a value that is made of numbers (0), bools (1) and strings (2). -/
def leavesL (P : Program) (n : Nat) (g : TypeId → Nat → Option (List (Nat × Nat))) (off : Nat) : List Field → Option (List (Nat × Nat))
  | [] => some []
  | f :: fs => match sizeT P f.type with
    | some m => if f.name ≠ "_" ∧ f.offset + m ≤ n ∧ m ≠ 0 then (g f.type (off + f.offset)).bind fun l1 => (leavesL P n g off fs).map (l1 ++ ·) else none
    | none => none
def leavesA (m : Nat) (g : Nat → Option (List (Nat × Nat))) (off : Nat) : Nat → Option (List (Nat × Nat))
  | 0 => some []
  | k + 1 => (g off).bind fun l1 => (leavesA m g (off + m) k).map (l1 ++ ·)
def leaves (P : Program) : Nat → TypeId → Nat → Option (List (Nat × Nat))
  | 0, _, _ => none
  | d + 1, t, off =>
    match P.underlying t with
    | some .bool => some [(off, 1)]
    | some (.int _) => some [(off, 0)]
    | some .string => some [(off, 2)]
    | some (.struct fs) => match sizeT P t with | some n => if P.stoodInHeld t then none else leavesL P n (leaves P d) off fs.toList | none => none
    | some (.array len e) => match sizeT P t, sizeT P e with | some n, some m => if m = 0 ∨ len * m ≠ n then none else leavesA m (leaves P d e) off len | _, _ => none
    | _ => none

def isNilC : Operand → Bool
  | .const (.slice none _ _) => true
  | _ => false

def compOp (P : Program) (o : Op) : Option AOp :=
  match o with
  | .move x | .assign x => (opd x).map .mv
  | .pick c a b => do pure (.pick (← opd c) (← opd a) (← opd b))
  | .alloc t => do
    let z ← zeroT P t
    if z.size = 0 then none else pure (.alloc z)
  | .box _ x => (opd x).map .box
  | .load t p => do
    let n ← sizeT P t
    if n = 0 then none else pure (.ld (← isAggT P t) n (← opd p))
  | .store t p x => do
    let n ← sizeT P t
    if n = 0 then none else pure (.st n (← opd p) (← opd x))
  | .nilCheck x => (opd x).map .nilc
  | .binOp op t x y _ =>
    match P.underlying t with
    | some (.int _) | some .string => do pure (.bin op (← opd x) (← opd y))
    | some .bool =>
      match op with
      | .eql => do pure (.eqb false (← opd x) (← opd y))
      | .neq => do pure (.eqb true (← opd x) (← opd y))
      | _ => none
    | some (.struct _) | some (.array _ _) =>
      match leaves P 9 t 0, sizeT P t with
      | some ls, some n => if P.eqGuardType P.depth t = true ∨ n = 0 then none else
        match op with
        | .eql => do pure (.eqs false n ls (← opd x) (← opd y))
        | .neq => do pure (.eqs true n ls (← opd x) (← opd y))
        | _ => none
      | _, _ => none
    | some (.slice _) =>
      if isNilC y then
        match op with
        | .eql => (opd x).map (.nileq false)
        | .neq => (opd x).map (.nileq true)
        | _ => none
      else none
    | _ => none
  | .unOp op _ x => (opd x).map (.un op)
  | .convert s t x =>
    match P.underlying s, P.underlying t with
    | some (.int _), some (.int k) => (opd x).map (.cvi k)
    | some .string, some (.slice e) => if P.underlying e matches some (.int .u8) then (opd x).map .s2b else none
    | some (.slice e), some .string => if P.underlying e matches some (.int .u8) then (opd x).map .b2s else none
    | _, _ => none
  | .makeFunc (.func f) first cs => if first.size = 0 then do pure (.mkfn f (← cs.toList.mapM opd)) else none
  | .fieldAddr t x f =>
    match P.underlying t with
    | some (.struct fs) => do
      let fd ← fs[f]?
      let n ← sizeT P fd.type
      if n = 0 then none else pure (.fad (← isAggT P fd.type) fd.offset n (← opd x))
    | _ => none
  | .field t x f =>
    match P.underlying t with
    | some (.struct fs) => do
      let fd ← fs[f]?
      let n ← sizeT P fd.type
      if n = 0 then none else pure (.fld (← isAggT P fd.type) fd.offset n (← opd x))
    | _ => none
  | .indexAddr t x i =>
    match P.underlying t with
    | some (.slice e) => do
      let n ← sizeT P e
      if n = 0 then none else pure (.iad n (← opd x) (← opd i))
    | some (.array len e) => do
      let n ← sizeT P e
      if n = 0 then none else pure (.iada (← isAggT P e) len n (← opd x) (← opd i))
    | _ => none
  | .index t x i =>
    match P.underlying t with
    | some .string => do pure (.idx (← opd x) (← opd i))
    | _ => none
  | .slice t x lo hi mx =>
    match P.underlying t with
    | some (.slice e) => do
      let n ← sizeT P e
      if n = 0 then none else pure (.slc n (← opd x) (← lo.mapM opd) (← hi.mapM opd) (← mx.mapM opd))
    | some .string => do
      if mx.isSome then none else pure (.sls (← opd x) (← lo.mapM opd) (← hi.mapM opd))
    | _ => none
  | .extract x i => do pure (.ext (← opd x) i)
  | .build t ps =>
    match P.underlying t with
    | some (.struct fs) => do
      let z ← zeroT P t
      let _ ← fs.toList.mapM fun f => sizeT P f.type
      let qs ← ps.toList.mapM fun p => do
        let fd ← fs[p.1]?
        let n ← sizeT P fd.type
        pure (fd.offset, n, ← opd p.2)
      pure (.build z.cells qs)
    | some (.array _ e) => do
      let z ← zeroT P t
      let n ← sizeT P e
      let qs ← ps.toList.mapM fun p => do pure (p.1 * n, n, ← opd p.2)
      pure (.build z.cells qs)
    | _ => none
  | .buildSlice t len ps =>
    match P.underlying t with
    | some (.slice e) => do
      let n ← sizeT P e
      let z ← zeroT P e
      let qs ← ps.toList.mapM fun p => do pure (p.1, ← opd p.2)
      if n = 0 ∨ 16777216 < len * n then none else pure (.bsl len n z qs)
    | _ => none
  | .makeSlice t l c =>
    match P.underlying t with
    | some (.slice e) => do
      let n ← sizeT P e
      let i ← P.info? e
      let z ← zeroT P e
      if n = 0 ∨ 32768 < i.bytes then none else pure (.mks n z (← opd l) (← opd c))
    | _ => none
  | .call c =>
    match c.callee with
    | .value (.func f) => if callable P f then do pure (.call f [] (← c.args.toList.mapM opd)) else none
    | .value (.tmp t) => if t < 1000000 then do pure (.callv (.t t) [] (← c.args.toList.mapM opd)) else none
    | .builtin .len =>
      match (c.argTypes[0]?).bind P.underlying, c.args.toList with
      | some .string, [x] => (opd x).map .lens
      | some (.slice _), [x] => (opd x).map .len
      | _, _ => none
    | .builtin .append =>
      match (c.argTypes[0]?).bind P.underlying, (c.argTypes[1]?).bind P.underlying, c.args.toList with
      | some (.slice e), some (.slice _), [x, y] => do
        let n ← sizeT P e
        let i ← P.info? e
        let z ← zeroT P e
        if n = 0 ∨ z.size ≠ n ∨ 32768 < i.bytes then none else pure (.app n (← opd x) (← opd y))
      | some (.slice e), some .string, [x, y] => do
        let n ← sizeT P e
        let i ← P.info? e
        let z ← zeroT P e
        if n ≠ 1 ∨ z.size ≠ n ∨ 32768 < i.bytes then none else pure (.apps (← opd x) (← opd y))
      | _, _, _ => none
    | .builtin .min => do pure (.mm false (← c.args.toList.mapM opd))
    | .builtin .max => do pure (.mm true (← c.args.toList.mapM opd))
    | _ => none
  | _ => none

/-! ### What they do -/

def intBin (op : BinOp) (k : IntKind) (a b : Int) : Option D :=
  match op with
  | .add => some (.int k (k.wrap (a + b)))
  | .sub => some (.int k (k.wrap (a - b)))
  | .mul => some (.int k (k.wrap (a * b)))
  | .quo => if b = 0 then none else some (.int k (k.wrap (a.tdiv b)))
  | .rem => if b = 0 then none else some (.int k (a.tmod b))
  | .and => some (.int k (k.wrap (BitVec.ofInt k.bits a &&& BitVec.ofInt k.bits b).toNat))
  | .or => some (.int k (k.wrap (BitVec.ofInt k.bits a ||| BitVec.ofInt k.bits b).toNat))
  | .xor => some (.int k (k.wrap (BitVec.ofInt k.bits a ^^^ BitVec.ofInt k.bits b).toNat))
  | .andNot => some (.int k (k.wrap (BitVec.ofInt k.bits a &&& ~~~BitVec.ofInt k.bits b).toNat))
  | .eql => some (.bool (decide (a = b)))
  | .neq => some (.bool (!decide (a = b)))
  | .lss => some (.bool (decide (a < b)))
  | .leq => some (.bool (decide (a ≤ b)))
  | .gtr => some (.bool (decide (b < a)))
  | .geq => some (.bool (decide (b ≤ a)))
  | _ => none

def shiftBin (op : BinOp) (k : IntKind) (a b : Int) : Option D :=
  if b < 0 then none else
  match op with
  | .shl => some (.int k (k.wrap (a * 2 ^ (min b.toNat k.bits))))
  | .shr => some (.int k (a.fdiv (2 ^ (min b.toNat k.bits))))
  | _ => none

def strBin (op : BinOp) (a b : List UInt8) : Option D :=
  match op with
  | .add => if (a ++ b).length ≤ LIM then some (.str (a ++ b)) else none
  | .eql => some (.bool (decide (a = b)))
  | .neq => some (.bool (!decide (a = b)))
  | _ => none

def binD (op : BinOp) : D → D → Option D
  | .int k a, .int k' b =>
    match op with
    | .shl => shiftBin .shl k a b
    | .shr => shiftBin .shr k a b
    | op => if k = k' then intBin op k a b else none
  | .str a, .str b => strBin op a b
  | _, _ => none

def D.asAgg : D → D
  | .agg cs => .agg cs
  | x => .agg [x]

/-- A part of a datum: 'n' cells from cell 'off' on; 'ag': a struct's or an array's. -/
def partD (ag : Bool) (off n : Nat) (x : D) : Option D :=
  if ag then
    if off = 0 ∧ n = x.size then some x.asAgg
    else if off + n ≤ x.size then some (.agg ((x.cells.drop off).take n)) else none
  else if n = 1 then x.cells[off]? else none

def partA (ag : Bool) (off n : Nat) (x : AV) : Option AV :=
  match x with
  | .d x => (partD ag off n x).map .d
  | x =>
    if ag then
      if off + n ≤ x.size then some (AV.mkAgg ((x.cells.drop off).take n)) else none
    else if n = 1 then x.cells[off]? else none

def splice {α : Type} (l : List α) (off : Nat) (m : List α) : List α := l.take off ++ m ++ l.drop (off + m.length)

def isTup : AV → Bool
  | .d (.tup _) => true
  | .tup _ => true
  | .undef => true
  | _ => false

/-- 'x' with 'v' laid over its cells from 'off' on. -/
def over (x : AV) (off : Nat) (v : AV) : Option AV :=
  if off = 0 ∧ v.size = x.size then some v
  else if off + v.size ≤ x.size then some (AV.mkAgg (splice x.cells off v.cells)) else none

def slD : AV → Option (List D)
  | .d (.sl es) => some es
  | .xsl es => some es
  | .acc _ es => some es
  | _ => none

/-- The datum that a value reads as. -/
def toD (H : Heap) : AV → Option D
  | .d x => some x
  | .xsl es => some (.sl es)
  | .acc _ es => some (.sl es)
  | .osl o off len =>
    match look o H with
    | some (.row es) => (allD ((es.drop off).take len)).bind fun ds => if ds.length = len then some (.sl ds) else none
    | _ => none
  | .agg cs => (toDs H cs).map .agg
  | .tup cs => (toDs H cs).map .tup
  | .fn f cs => (toDs H cs).map (.fn f)
  | .ref o i 0 =>
    match look o H with
    | some (.row es) => (es[i]?).bind fun e => match e with | .d x => some (.pd x) | _ => none
    | _ => none
  | _ => none
where toDs (H : Heap) : List AV → Option (List D)
  | [] => some []
  | x :: xs => match toD H x, toDs H xs with | some y, some ys => some (y :: ys) | _, _ => none

mutual
/-- The objects that a value leads to. -/
def AV.objs : AV → List Nat
  | .ref o _ _ => [o]
  | .osl o _ _ => [o]
  | .acc o _ => [o]
  | .pe o _ => [o]
  | .agg cs => AV.objsL cs
  | .tup cs => AV.objsL cs
  | .fn _ cs => AV.objsL cs
  | _ => []
def AV.objsL : List AV → List Nat
  | [] => []
  | x :: xs => AV.objs x ++ AV.objsL xs
end

def fillA (z : List AV) : List (Nat × Nat × AV) → Option (List AV)
  | [] => some z
  | (off, n, v) :: rest => if v.size = n ∧ off + n ≤ z.length ∧ isTup v = false then fillA (splice z off v.cells) rest else none

/-- A slice literal, as an element of another one. -/
def unX : AV → AV
  | .xsl es => .d (.sl es)
  | .d x => .d x
  | .ref o i off => .ref o i off
  | .osl o off len => .osl o off len
  | .acc o es => .acc o es
  | .pe o x => .pe o x
  | .agg cs => .agg cs
  | .tup vs => .tup vs
  | .fn f cs => .fn f cs
  | .nl b => .nl b
  | .undef => .undef
theorem unX_size (v : AV) : (unX v).size = v.size := by cases v <;> rfl
theorem unX_tup {v : AV} (h : isTup v = false) : isTup (unX v) = false := by cases v <;> simp_all [unX, isTup]
def fillE (z : List AV) : List (Nat × AV) → Option (List AV)
  | [] => some z
  | (i, v) :: rest => if i < z.length ∧ isTup v = false then fillE (z.set i (unX v)) rest else none

def idxOf : AV → Option Int
  | .d (.int _ n) => some n
  | _ => none

def bound (x : Option AV) (dflt y : Nat) : Option Nat :=
  match x with
  | none => some dflt
  | some v => (idxOf v).bind fun n => if 0 ≤ n ∧ n ≤ y then some n.toNat else none

def bytesD : List D → Option (List UInt8)
  | [] => some []
  | .int .u8 n :: l => (bytesD l).map (UInt8.ofNat n.toNat :: ·)
  | _ => none

def mmD (mx : Bool) : AV → List AV → Option AV
  | x, [] => some x
  | .d (.int k a), .d (.int k' b) :: r => if k = k' then mmD mx (.d (.int k (if mx then (if a < b then b else a) else (if b < a then b else a)))) r else none
  | _, _ => none

def ldA (H : Heap) (ag : Bool) (n : Nat) : AV → Option AV
  | .d (.pd x) => (partD ag 0 n x).map .d
  | .pe _ x => (partD ag 0 n x).map .d
  | .ref o i off =>
    match look o H with
    | some (.row es) => (es[i]?).bind (partA ag off n)
    | _ => none
  | _ => none

def fadA (ag : Bool) (off n : Nat) : AV → Option AV
  | .ref o i f => some (.ref o i (f + off))
  | .d (.pd y) => (partD ag off n y).map fun z => .d (.pd z)
  | .pe o y => (partD ag off n y).map fun z => .pe o z
  | _ => none

def iadA (H : Heap) (n : Nat) (i : Int) : AV → Option AV
  | .osl o off len => if i < len then
      match look o H with
      | some (.row es) => (es[off + i.toNat]?).bind fun e => if e.size = n then some (.ref o (off + i.toNat) 0) else none
      | _ => none
      else none
  | .acc o es => (es[i.toNat]?).bind fun e => if e.size = n then some (.pe o e) else none
  | .d (.sl es) => (es[i.toNat]?).bind fun e => if e.size = n then some (.d (.pd e)) else none
  | .xsl es => (es[i.toNat]?).bind fun e => if e.size = n then some (.d (.pd e)) else none
  | _ => none

def allSize (n : Nat) (es : List D) : Bool := es.all fun e => e.size == n

def slcA (H : Heap) (n : Nat) (lo hi mx : Option AV) : AV → Option AV
  | .d (.sl es) =>
    if allSize n es then
      (bound hi es.length es.length).bind fun h => (bound lo 0 h).bind fun l =>
        match mx with
        | none => some (.d (.sl ((es.take h).drop l)))
        | some m => if idxOf m = some (h : Int) ∧ hi.isSome then some (.xsl ((es.take h).drop l)) else none
    else none
  | .xsl es =>
    if allSize n es then
      (bound hi es.length es.length).bind fun h => (bound lo 0 h).bind fun l =>
        match mx with
        | none => some (if h = es.length then .xsl ((es.take h).drop l) else .d (.sl ((es.take h).drop l)))
        | some m => if idxOf m = some (h : Int) ∧ hi.isSome then some (.xsl ((es.take h).drop l)) else none
    else none
  | .acc o es =>
    if allSize n es then
      (bound hi es.length es.length).bind fun h => (bound lo 0 h).bind fun l =>
        if l = 0 then
          match mx with
          | none => some (.acc o (es.take h))
          | some m => if idxOf m = some (h : Int) ∧ hi.isSome then some (.acc o (es.take h)) else none
        else none
    else none
  | .osl o off len =>
    match mx with
    | none => (bound hi len len).bind fun h => (bound lo 0 h).bind fun l =>
      match look o H with
      | some (.row es) => if l = 0 ∨ es.head?.map AV.size = some n then some (.osl o (off + l) (h - l)) else none
      | _ => none
    | some _ => none
  | _ => none

def srcD (H : Heap) : AV → Option (List D)
  | .osl o off len =>
    match look o H with
    | some (.row es) => (allD ((es.drop off).take len)).bind fun ds => if ds.length = len then some ds else none
    | _ => none
  | .nl _ => some []
  | y => slD y

def appA (E : Env) (H : Heap) (dst n : Nat) (ys : List D) : AV → Option (AV × Heap)
  | .xsl es => if allSize n (es ++ ys) ∧ (es ++ ys).length ≤ LIM ∧ refsEnv dst E = false ∧ refsHeap dst H = false ∧ (es.isEmpty || !ys.isEmpty) = true then some (.acc dst (es ++ ys), setAt dst (.acc (es.length + ys.length)) H) else none
  | .acc o es => match look o H with
    | some (.acc m) => if es.length = m ∧ allSize n (es ++ ys) ∧ (es ++ ys).length ≤ LIM then some (.acc o (es ++ ys), setAt o (.acc (m + ys.length)) H) else none
    | _ => none
  | _ => none

def eqCell : Nat → Option D → Option D → Option Bool
  | 0, some (.int k x), some (.int k' y) => if k = k' then some (decide (x = y)) else none
  | 1, some (.bool x), some (.bool y) => some (x == y)
  | 2, some (.str x), some (.str y) => some (decide (x = y))
  | _, _, _ => none
def eqCells (x y : List D) : List (Nat × Nat) → Option Bool
  | [] => some true
  | l :: ls => (eqCell l.2 x[l.1]? y[l.1]?).bind fun b => (eqCells x y ls).map (b && ·)

/-- The operations that are no call and ask no question. -/
def astep (E : Env) (H : Heap) (dst : Nat) : AOp → Option (AV × Heap)
  | .mv x => some (x.ev E, H)
  | .pick c a b => match c.ev E with | .d (.bool t) => some (if t then a.ev E else b.ev E, H) | _ => none
  | .alloc z => if refsEnv dst E = false ∧ refsHeap dst H = false then some (.ref dst 0 0, setAt dst (.row [z]) H) else none
  | .box x => if refsEnv dst E = false ∧ refsHeap dst H = false ∧ isTup (x.ev E) = false ∧ (x.ev E).size ≠ 0 then some (.ref dst 0 0, setAt dst (.row [x.ev E]) H) else none
  | .ld ag n p => (ldA H ag n (p.ev E)).map fun v => (v, H)
  | .st n p x => match p.ev E with
    | .ref o i off => if (x.ev E).size = n ∧ isTup (x.ev E) = false then
        match look o H with
        | some (.row es) => (es[i]?).bind fun e => (over e off (x.ev E)).map fun e' => (.undef, setAt o (.row (es.set i e')) H)
        | _ => none
        else none
    | _ => none
  | .nilc x => match x.ev E with
    | .ref o i f => some (.ref o i f, H)
    | .d (.pd y) => some (.d (.pd y), H)
    | .d (.fn f cs) => some (.d (.fn f cs), H)
    | .pe o y => some (.pe o y, H)
    | .fn f cs => some (.fn f cs, H)
    | _ => none
  | .bin op x y => match x.ev E, y.ev E with
    | .d a, .d b => (binD op a b).map fun v => (.d v, H)
    | _, _ => none
  | .eqb ng x y => match x.ev E, y.ev E with
    | .d (.bool a), .d (.bool b) => some (.d (.bool (if ng then !(a == b) else a == b)), H)
    | _, _ => none
  | .eqs ng n ls x y => match x.ev E, y.ev E with
    | .d (.agg a), .d (.agg b) => if a.length = n ∧ b.length = n then (eqCells a b ls).map fun r => (.d (.bool (if ng then !r else r)), H) else none
    | _, _ => none
  | .nacc => if refsEnv dst E = false ∧ refsHeap dst H = false then some (.acc dst [], setAt dst (.acc 0) H) else none
  | .un op x => match op, x.ev E with
    | .not, .d (.bool b) => some (.d (.bool (!b)), H)
    | .neg, .d (.int k n) => some (.d (.int k (k.wrap (0 - n))), H)
    | _, _ => none
  | .cvi k x => match x.ev E with | .d (.int _ n) => some (.d (.int k (k.wrap n)), H) | _ => none
  | .fad ag off n x => (fadA ag off n (x.ev E)).map fun v => (v, H)
  | .fld ag off n x => match x.ev E with
    | .d (.agg cs) => (partD ag off n (.agg cs)).map fun v => (.d v, H)
    | .agg cs => (partA ag off n (.agg cs)).map fun v => (v, H)
    | _ => none
  | .iad n x i => (idxOf (i.ev E)).bind fun k => if 0 ≤ k then (iadA H n k (x.ev E)).map fun v => (v, H) else none
  | .iada ag len n x i => (idxOf (i.ev E)).bind fun k => if 0 ≤ k ∧ k < len then (fadA ag (k.toNat * n) n (x.ev E)).map fun v => (v, H) else none
  | .idx x i => match x.ev E, idxOf (i.ev E) with
    | .d (.str s), some k => if 0 ≤ k then (s[k.toNat]?).map fun b => (.d (.int .u8 b.toNat), H) else none
    | _, _ => none
  | .slc n x lo hi mx => (slcA H n (lo.map (·.ev E)) (hi.map (·.ev E)) (mx.map (·.ev E)) (x.ev E)).map fun v => (v, H)
  | .sls x lo hi => match x.ev E with
    | .d (.str s) => (bound (hi.map (·.ev E)) s.length s.length).bind fun h => (bound (lo.map (·.ev E)) 0 h).map fun l => (.d (.str ((s.take h).drop l)), H)
    | _ => none
  | .ext x i => match x.ev E with
    | .d (.tup vs) => (vs[i]?).map fun v => (.d v, H)
    | .tup vs => (vs[i]?).map fun v => (v, H)
    | _ => none
  | .lens x => match x.ev E with
    | .d (.str s) => some (.d (.int .i64 s.length), H)
    | _ => none
  | .len x => match x.ev E with
    | .osl _ _ len => some (.d (.int .i64 len), H)
    | y => (slD y).map fun es => (.d (.int .i64 es.length), H)
  | .mm mx xs => match xs.map (·.ev E) with | [] => none | y :: ys => (mmD mx y ys).map fun v => (v, H)
  | .mkfn f cs => some (AV.mkFn f (cs.map (·.ev E)), H)
  | .build z ps => (fillA z (ps.map fun p => (p.1, p.2.1, p.2.2.ev E))).map fun cs => (AV.mkAgg cs, H)
  | .bsl len n z ps => if z.size = n ∧ (ps.all fun p => (p.2.ev E).size == n) = true then
      (fillE (List.replicate len z) (ps.map fun p => (p.1, p.2.ev E))).bind fun es =>
        match allD es with
        | some ds => some (.xsl ds, H)
        | none => if refsEnv dst E = false ∧ refsHeap dst H = false then some (.osl dst 0 len, setAt dst (.row es) H) else none
      else none
  | .mks n z l c => match l.ev E, c.ev E with
    | .d (.int .i64 a), .d (.int .i64 b) => if 0 ≤ a ∧ a = b ∧ a ≤ LIM ∧ z.size = n ∧ refsEnv dst E = false ∧ refsHeap dst H = false then some (.osl dst 0 a.toNat, setAt dst (.row (List.replicate a.toNat z)) H) else none
    | _, _ => none
  | .s2b x => match x.ev E with
    | .d (.str s) => some (.d (.sl (s.map fun b => .int .u8 b.toNat)), H)
    | _ => none
  | .b2s x => (slD (x.ev E)).bind fun es => (bytesD es).map fun s => (.d (.str s), H)
  | .app n x y => (srcD H (y.ev E)).bind fun ys => appA E H dst n ys (x.ev E)
  | .apps x y => match y.ev E with
    | .d (.str s) => appA E H dst 1 (s.map fun b => .int .u8 b.toNat) (x.ev E)
    | _ => none
  | _ => none

end Go.Sim
