/-
  Heaps of deadlines.
-/
import Derived.Test.YtgjlpcbolldhhaaGreatBd3b59a3
import Derived.KernelRfl
import Derived.Test.YtgjlpcbolldhhaaGreatB45bf821
import Derived.IntWalk
set_option linter.unusedSimpArgs false
set_option linter.unusedVariables false
set_option maxHeartbeats 10000000
set_option maxRecDepth 100000
namespace Go.Proofs.YtgjlpcbolldhhaaGreat
open Go Go.Sim
def tab : List (Nat × AFn) := [(zeZ, zhe), (zcC, zhq), (ze3, zhj), (zdV, zhk), (zdW, zhn), (zc4, zhl), (zbK, zhp), (zc5, zhm), (ze4, zho), (z8, zhr), (zeX, zhc), (zeY, zhd), (ze2, zhi), (ze1, zhh), (ze0, zhg), (zdT, zhf), (zdS, znB), (zdU, zqQ), (zkI, zpr), (zkP, zpy), (zkq, zo9), (zjV, zoE), (zjm, zn4), (zj0, zoJ), (zkc, zoV), (zkg, zoZ), (zb9, zqP), (zl5, zqR), (zli, zp1), (zlj, zp2), (zlk, zp3), (zb8, zqO), (zl4, zqN), (zlg, zpZ), (zl6, zqS), (zl3, zqM), (zln, zp6), (zlu, zqd), (zlp, zp8), (zkD, zpm), (zlm, zp5), (zlh, zp0), (zkB, zpk), (zi9, znP), (zi5, znL), (zja, znQ), (zle, zpX), (zlq, zp9), (zkF, zpo), (zkr, zpa), (zkt, zpc), (zku, zpd), (zls, zqb), (zkZ, zpI), (zkV, zpE), (zlo, zp7), (zk0, zpJ), (zk9, zpS), (zkW, zpF), (zkN, zpw), (zkT, zpC), (zkJ, zps), (zkQ, zpz), (zkO, zpx), (zk4, zpN), (zk8, zpR), (zk7, zpQ), (zkH, zpq), (zkR, zpA), (zkv, zpe), (zkM, zpv), (zkS, zpB), (zk6, zpP), (zkE, zpn), (zkG, zpp), (zkX, zpG), (zla, zpT), (zkK, zpt), (zkk, zo3), (zkl, zo4), (zgz, znZ), (zjj, zn1), (zgy, znS), (zkL, zpu), (zj7, zoQ), (zjq, zn8), (zgA, zn9), (zjJ, zos), (zjw, zof), (zjB, zok), (zjA, zoj), (zjx, zog), (zjK, zot), (zjN, zow), (zj3, zoM), (zjl, zn3), (zjX, zoG), (zlc, zpV), (zk5, zpO), (zkU, zpD), (zk3, zpM), (zko, zo7), (zkC, zpl), (zlb, zpU), (zk1, zpK), (zkw, zpf), (zjR, zoA), (zjY, zoH), (zj8, zoR), (zkb, zoU), (zjd, znU), (zjh, znY), (zlv, zqe), (zk2, zpL), (zj1, zoK), (zll, zp4), (zkY, zpH), (zlt, zqc), (zj4, zoN), (zld, zpW), (zlf, zpY), (zi8, znO), (zjc, znT), (zj2, zoL), (zjn, zn5), (zjr, zoa), (zjs, zob), (zlx, zqg), (zlw, zqf), (zkp, zo8), (zks, zpb), (zly, zqh), (zlA, zqj), (zjU, zoD), (zkd, zoW), (zjH, zoq), (zjv, zoe), (zjy, zoh), (zjD, zom), (zjC, zol), (zjz, zoi), (zjF, zoo), (zjI, zor), (zju, zod), (zj5, zoO), (zke, zoX), (zje, znV), (zjb, znR), (zjp, zn7), (zji, zn0), (zjG, zop), (zjt, zoc), (zlz, zqi), (zkm, zo5), (zi7, znN), (zlB, zqk), (zkn, zo6), (zi4, znK), (zi6, znM), (zlD, zqm), (zlC, zql), (zlE, zqn), (zjM, zov), (zka, zoT), (zjW, zoF), (zjZ, zoI), (zjo, zn6), (zjP, zoy), (zjE, zon), (zlF, zqo), (zlG, zqp), (zkx, zpg), (zky, zph), (zkz, zpi), (zkA, zpj), (zlH, zqq), (zlI, zqr), (zlJ, zqs), (zkj, zo2), (zjg, znX), (zjf, znW), (zjL, zou), (zlK, zqt), (zlr, zqa), (zlN, zqw), (zlO, zqx), (zlL, zqu), (zjS, zoB), (zjk, zn2), (zlM, zqv), (zlP, zqy), (zlS, zqB), (zlT, zqC), (zlQ, zqz), (zjT, zoC), (zj9, zoS), (zlR, zqA), (zlU, zqD), (zlX, zqG), (zlY, zqH), (zlV, zqE), (zj6, zoP), (zlW, zqF), (zlZ, zqI), (zl0, zqJ), (zkf, zoY), (zjQ, zoz), (zl1, zqK), (zl2, zqL), (zki, zo1), (zjO, zox), (zkh, zo0), (zdZ, zq3), (ziB, znf), (ziK, zno), (ziC, zng), (ziW, znA), (zl7, zqT), (ziF, znj), (ziV, znz), (ziS, znw), (ziL, znp), (ziM, znq), (zmb, zqX), (ziT, znx), (zmd, zqZ), (ziO, zns), (ziP, znt), (ziJ, znn), (ziG, znk), (ziU, zny), (ziD, znh), (ziA, zne), (ziE, zni), (ziN, znr), (ziz, znd), (ziQ, znu), (ziR, znv), (ziH, znl), (ziI, znm), (zdX, zq0), (zmg, zq5), (zme, zq1), (zmh, zq6), (zmi, zq7), (ziX, znC), (zl8, zqU), (zmc, zqY), (zmk, zq9), (zmf, zq4), (zl9, zqV), (zmj, zq8), (zgx, znG), (zi2, znI), (zi0, znF), (zi1, znH), (zi3, znJ), (ziY, znD), (ziZ, znE), (zma, zqW), (zdY, zq2)]
def G : FuncId -> Option AFn := fun f => Go.Sim.look f tab
theorem zzG : G zeZ = some zhe := tk
theorem zrj : G zcC = some zhq := tk
theorem zrg : G ze3 = some zhj := tk
theorem zrh : G zdV = some zhk := tk
theorem zri : G zdW = some zhn := tk
theorem zht : G zc4 = some zhl := tk
theorem zfD : G zbK = some zhp := tk
theorem zzK : G zc5 = some zhm := tk
theorem zzL : G ze4 = some zho := tk
theorem zzM : G z8 = some zhr := tk
theorem zzE : G zeX = some zhc := tk
theorem zzF : G zeY = some zhd := tk
theorem zrf : G ze2 = some zhi := tk
theorem zzJ : G ze1 = some zhh := tk
theorem zzI : G ze0 = some zhg := tk
theorem zzH : G zdT = some zhf := tk
end Go.Proofs.YtgjlpcbolldhhaaGreat

namespace Go.Sim
variable {G : FuncId -> Option AFn}
end Go.Sim

namespace Go.Sim
variable {G : FuncId -> Option AFn}
theorem wr {x : Int} (h : -9223372036854775808 <= x /\ x < 9223372036854775808) : IntKind.i64.wrap x = x := by
 rw [Go.IntWalk.i64_in _ (by omega)]
theorem zJ0 {x : Int} (h : 0 <= x /\ x < 18446744073709551616) : IntKind.u64.wrap x = x := by rw [Go.IntWalk.u64_in _ (by omega)]
theorem ltT {a b : Int} (h : a < b) : (a < b) = True := eq_true h
theorem ltF {a b : Int} (h : b <= a) : (a < b) = False := eq_false (by omega)
theorem leT {a b : Int} (h : a <= b) : (a <= b) = True := eq_true h
theorem leF {a b : Int} (h : b < a) : (a <= b) = False := eq_false (by omega)
theorem eqT {a b : Int} (h : a = b) : (a = b) = True := eq_true h
theorem eqF {a b : Int} (h : ¬ a = b) : (a = b) = False := eq_false h
theorem ztd {a b c : Nat} (h : a + b <= c) : (a + b <= c) = True := eq_true h
theorem zB5 : LIM = 4294967296 := rfl
theorem zCm {α β : Type} {f : α -> β} {l : List α} {k : Nat} (h : k < l.length) : (l.map f)[k]? = some (f (l[k]'h)) := by
 rw [zKQ, zKR h]; rfl
end Go.Sim

namespace Go.Sim
theorem zf {α : Type} {l : List α} {k : Nat} {d : α} (h : k < l.length) : l.getD k d = l[k]'h := by
 rw [zL7, zKR h]; rfl
theorem setMap {α β : Type} {f : α -> β} {l : List α} {k : Nat} {x : α} : (l.map f).set k (f x) = (l.set k x).map f := by rw [zLx]
theorem zCn {α β γ : Type} {f : α -> β} {g : β -> γ} {l : List α} {k : Nat} (h : k < l.length) : ((l.map f).map g)[k]? = some (g (f (l[k]'h))) := by
 rw [zMs, zKQ, zKR h]; rfl
theorem zW {α : Type} {f : α -> D} {l : List α} {k : Nat} {x : α} : (l.set k x).map f = (l.map f).set k (f x) := by rw [zLx]
theorem zI3 {ds : List D} {k : Nat} {x : D} : (ds.map AV.d).set k (.d x) = (ds.set k x).map AV.d := by rw [zLx]
theorem zp {α : Type} {c : Prop} [Decidable c] {A B r : α} (h1 : c -> A = r) (h2 : ¬ c -> B = r) : (if c then A else B) = r := by split <;> simp_all
theorem zJD {ds : List D} {n : Nat} : (ds.map AV.d).take n = (ds.take n).map AV.d := by rw [zLI]
theorem zJC {α : Type} {f : α -> D} {l : List α} {n : Nat} (h : l.length <= n) : (l.map f).take n = l.map f := zLK (by simpa using h)
theorem zr {α : Type} {c : Prop} [Decidable c] {A B r : α} (h1 : c -> r = A) (h2 : ¬ c -> r = B) : r = if c then A else B := by split <;> simp_all
attribute [go_sem ↓] reduceIte
attribute [go_sem] reduceCtorEq Nat.reduceEqDiff Nat.reduceAdd Nat.reduceBEq Nat.reduceMul Nat.reduceLeDiff Nat.reduceSub Nat.reduceLT Nat.reduceDiv Nat.reduceMod List.reduceReplicate Int.reduceEq Int.reduceLT Int.reduceLE Int.reduceAdd Int.reduceSub Int.reduceMul Int.reduceNeg Int.reduceToNat
attribute [go_sem] zJD zJC zW zI3 zCn wr or_self or_false false_or true_or or_true false_and and_false zLf zLa zK9 zKO zB5 zJ0 Bool.true_beq Bool.false_beq zLe zK8 ltT ltF leT leF eqT eqF ztd zCm Int.toNat_natCast Int.natCast_nonneg zKY
theorem pA {a b : Bool} : ((a || b) = true) = (a = true \/ b = true) := zLs a b
theorem pB {a b : Bool} : ((a && b) = true) = (a = true /\ b = true) := zKW a b
theorem pC {p : Prop} [Decidable p] : (decide p = true) = p := decide_eq_true_eq
theorem pD {a : Bool} : ((!a) = true) = (a = false) := zLC a
theorem pE {p : Prop} [Decidable p] : (decide p = false) = ¬ p := by simp
theorem pF {p q : Prop} : (¬ (p \/ q)) = (¬ p /\ ¬ q) := by simp
theorem pG {a b : Int} : (¬ a < b) = (b <= a) := by simp
theorem pH {a b : Int} : (¬ a <= b) = (b < a) := by simp
theorem pI {a b : Nat} : (¬ a < b) = (b <= a) := by simp
theorem pJ {a b : Nat} : (¬ a <= b) = (b < a) := by simp
theorem pK {a b : Bool} : ((a || b) = false) = (a = false /\ b = false) := by simp
theorem pL {a b : Bool} : ((a && b) = false) = (a = false \/ b = false) := by cases a <;> cases b <;> simp
theorem pM {a : Bool} : ((!a) = false) = (a = true) := by simp
theorem pN : (true = false) = False := by simp
theorem pO : (false = true) = False := by simp
theorem pP {p : Prop} : (¬ ¬ p) = p := by simp
end Go.Sim

namespace Go.Proofs.YtgjlpcbolldhhaaGreat
open Go Go.Sim
abbrev zAm (l : List Int) : List D := l.map (.int .i64)
abbrev Due := Int × Int
structure Span where
 low : Int
 high : Int
 shard : Int
 deriving DecidableEq
def zKA : Span := ⟨0, 0, 0⟩
instance : Inhabited Span := ⟨zKA⟩
structure zdQ where
 version : Int
 l : List Span
 forward : List Int
 deriving DecidableEq
def zKh : zdQ := ⟨0, [], []⟩
instance : Inhabited zdQ := ⟨zKh⟩
structure zgs where
 kind : Int
 from_ : Int
 to : Int
 mid : Int
 deriving DecidableEq
def zKi : zgs := ⟨0, 0, 0, 0⟩
instance : Inhabited zgs := ⟨zKi⟩
structure ze5 where
 slots : Int
 live : Int
 capacity : Int
 dead : Int
 limit : Int
 clock : Int
 nextID : Int
 epoch : Int
 deriving DecidableEq
def zKw : ze5 := ⟨0, 0, 0, 0, 0, 0, 0, 0⟩
instance : Inhabited ze5 := ⟨zKw⟩
structure zcB where
 id : Int
 route : Int
 epoch : Int
 count : Int
 gen : Int
 sent : Int
 body : List UInt8
 deriving DecidableEq
def zKq : zcB := ⟨0, 0, 0, 0, 0, 0, []⟩
instance : Inhabited zcB := ⟨zKq⟩
structure zgC where
 cells : List zcB
 head : Int
 size : Int
 deriving DecidableEq
def zKu : zgC := ⟨[], 0, 0⟩
instance : Inhabited zgC := ⟨zKu⟩
structure zgu where
 msg : zcB
 deadline : Int
 deriving DecidableEq
def zKo : zgu := ⟨⟨0, 0, 0, 0, 0, 0, []⟩, 0⟩
instance : Inhabited zgu := ⟨zKo⟩
structure zgF where
 l : List zgu
 heap : List Due
 deriving DecidableEq
def zKC : zgF := ⟨[], []⟩
instance : Inhabited zgF := ⟨zKC⟩
structure zd1 where
 live : Bool
 low : Int
 high : Int
 ready : zgC
 leases : zgF
 deriving DecidableEq
def zKx : zd1 := ⟨false, 0, 0, ⟨[], 0, 0⟩, ⟨[], []⟩⟩
instance : Inhabited zd1 := ⟨zKx⟩
structure zgD where
 owner : Int
 shard : zd1
 deriving DecidableEq
def zKy : zgD := ⟨0, ⟨false, 0, 0, ⟨[], 0, 0⟩, ⟨[], []⟩⟩⟩
instance : Inhabited zgD := ⟨zKy⟩
structure zc7 where
 seq : Int
 epoch : Int
 ready : Int
 leased : Int
 deriving DecidableEq
def zKB : zc7 := ⟨0, 0, 0, 0⟩
instance : Inhabited zc7 := ⟨zKB⟩
structure zdP where
 cap : Int
 l : List zcB
 deriving DecidableEq
def zKf : zdP := ⟨0, []⟩
instance : Inhabited zdP := ⟨zKf⟩
structure zgr where
 owner : Int
 dead : zdP
 deriving DecidableEq
def zKg : zgr := ⟨0, ⟨0, []⟩⟩
instance : Inhabited zgr := ⟨zKg⟩
structure zgo where
 slots : List zgD
 stripes : List zc7
 dead : zgr
 dir : zdQ
 epoch : Int
 clock : Int
 nextID : Int
 deriving DecidableEq
def zKc : zgo := ⟨[], [], ⟨0, ⟨0, []⟩⟩, ⟨0, [], []⟩, 0, 0, 0⟩
instance : Inhabited zgo := ⟨zKc⟩
structure zgE where
 phase : Int
 epoch : Int
 clock : Int
 stamp : Int
 deriving DecidableEq
def zKz : zgE := ⟨0, 0, 0, 0⟩
instance : Inhabited zgE := ⟨zKz⟩
structure zeW where
 kind : Int
 home : Int
 max : Int
 visibility : Int
 from_ : Int
 to : Int
 zbt : List (List UInt8)
 tokens : List (List UInt8)
 deriving DecidableEq
def zKm : zeW := ⟨0, 0, 0, 0, 0, 0, [], []⟩
instance : Inhabited zeW := ⟨zKm⟩
structure Result where
 err : Int
 id : Int
 tokens : List (List UInt8)
 zbt : List (List UInt8)
 ready : Int
 leased : Int
 moved : Int
 deriving DecidableEq
def zKt : Result := ⟨0, 0, [], [], 0, 0, 0⟩
instance : Inhabited Result := ⟨zKt⟩
structure zgv where
 cells : List Int
 phase : Int
 have_ : Int
 tries : Int
 wait : Int
 deriving DecidableEq
def zKp : zgv := ⟨[], 0, 0, 0, 0⟩
instance : Inhabited zgv := ⟨zKp⟩
structure zgB where
 shards : List zd1
 dead : zdP
 order : List Int
 carry : List zcB
 edits : List zgs
 deriving DecidableEq
def zKr : zgB := ⟨[], ⟨0, []⟩, [], [], []⟩
instance : Inhabited zgB := ⟨zKr⟩
structure Section where
 phase : Int
 at_ : Int
 lock : zgv
 snap : zgE
 shards : List zd1
 dead : zdP
 stripes : List zc7
 dir : zdQ
 out : zgB
 limit : Int
 carry : List zcB
 deriving DecidableEq
def zKv : Section := ⟨0, 0, ⟨[], 0, 0, 0, 0⟩, ⟨0, 0, 0, 0⟩, [], ⟨0, []⟩, [], ⟨0, [], []⟩, ⟨[], ⟨0, []⟩, [], [], []⟩, 0, []⟩
instance : Inhabited Section := ⟨zKv⟩
structure Walk where
 next : Int
 covered : Int
 deriving DecidableEq
def zKE : Walk := ⟨0, 0⟩
instance : Inhabited Walk := ⟨zKE⟩
structure zgt where
 id : Int
 gen : Int
 route : Int
 zck : Int
 deriving DecidableEq
def zKl : zgt := ⟨0, 0, 0, 0⟩
instance : Inhabited zgt := ⟨zKl⟩
structure Task where
 number : Int
 inv : zeW
 invoked : Int
 done : Bool
 ended : Int
 pc : Int
 entry : Int
 results : List Result
 setup : ze5
 sec : Section
 dir : zdQ
 walk : Walk
 slot : Int
 id : Int
 handle : zgt
 loaded : Int
 first : List zc7
 second : List zc7
 deriving DecidableEq
def zKD : Task := ⟨0, ⟨0, 0, 0, 0, 0, 0, [], []⟩, 0, false, 0, 0, 0, [], ⟨0, 0, 0, 0, 0, 0, 0, 0⟩, ⟨0, 0, ⟨[], 0, 0, 0, 0⟩, ⟨0, 0, 0, 0⟩, [], ⟨0, []⟩, [], ⟨0, [], []⟩, ⟨[], ⟨0, []⟩, [], [], []⟩, 0, []⟩, ⟨0, [], []⟩, ⟨0, 0⟩, 0, 0, ⟨0, 0, 0, 0⟩, 0, [], []⟩
instance : Inhabited Task := ⟨zKD⟩
structure Item where
 id : Int
 state : Int
 count : Int
 gen : Int
 route : Int
 deadline : Int
 deriving DecidableEq
def zKn : Item := ⟨0, 0, 0, 0, 0, 0⟩
instance : Inhabited Item := ⟨zKn⟩
structure Bag where
 limit : Int
 now : Int
 epoch : Int
 l : List Item
 deriving DecidableEq
def zKd : Bag := ⟨0, 0, 0, []⟩
instance : Inhabited Bag := ⟨zKd⟩
structure Grant where
 id : Int
 gen : Int
 route : Int
 deadline : Int
 deriving DecidableEq
def zKk : Grant := ⟨0, 0, 0, 0⟩
instance : Inhabited Grant := ⟨zKk⟩
def zeg (x : Grant) : D := .agg [.int .i64 x.id, .int .i64 x.gen, .int .i64 x.route, .int .i64 x.deadline]
structure Event where
 stamp : Int
 task : Int
 entry : Int
 kind : Int
 now : Int
 epoch : Int
 err : Int
 l : List Grant
 ready : Int
 leased : Int
 deriving DecidableEq
def zKj : Event := ⟨0, 0, 0, 0, 0, 0, 0, [], 0, 0⟩
instance : Inhabited Event := ⟨zKj⟩
def zm (x : Event) : D := .agg [.int .i64 x.stamp, .int .i64 x.task, .int .i64 x.entry, .int .i64 x.kind, .int .i64 x.now, .int .i64 x.epoch, .int .i64 x.err, .sl (x.l.map zeg), .int .i64 x.ready, .int .i64 x.leased]
theorem zyt (x : Event) : (zm x).cells = [.int .i64 x.stamp, .int .i64 x.task, .int .i64 x.entry, .int .i64 x.kind, .int .i64 x.now, .int .i64 x.epoch, .int .i64 x.err, .sl (x.l.map zeg), .int .i64 x.ready, .int .i64 x.leased] := rfl
theorem zm8 (x : Event) : (zm x).size = 10 := rfl
theorem zys (x : Event) : (zm x).asAgg = zm x := rfl
theorem zyu (x : Event) : (zm x).isT = false := rfl
theorem zmw (l : List Event) : zab 10 (l.map zm) = true := by simp [zab, zm8]
structure World where
 setup : ze5
 arena : zgo
 tasks : List Task
 log : List Event
 steps : Int
 handles : List (List UInt8)
 deriving DecidableEq
def zKF : World := ⟨⟨0, 0, 0, 0, 0, 0, 0, 0⟩, ⟨[], [], ⟨0, ⟨0, []⟩⟩, ⟨0, [], []⟩, 0, 0, 0⟩, [], [], 0, []⟩
instance : Inhabited World := ⟨zKF⟩
structure Ref where
 index : Int
 variant : Int
 raw : List UInt8
 deriving DecidableEq
def zKs : Ref := ⟨0, 0, []⟩
instance : Inhabited Ref := ⟨zKs⟩
structure ziw where
 kind : Int
 pick : Int
 by_ : Int
 inv : zeW
 refs : List Ref
 deriving DecidableEq
def zKe : ziw := ⟨0, 0, 0, ⟨0, 0, 0, 0, 0, 0, [], []⟩, []⟩
instance : Inhabited ziw := ⟨zKe⟩
attribute [go_sem] zyt zm8 zys zyu zmw
abbrev zN (l : List Int) (a : Nat) : Go.Sim.Obj := .row [.d (.agg [.sl (zAm l), .int .i64 a])]
end Go.Proofs.YtgjlpcbolldhhaaGreat

namespace Go.Sim.Sort
def insB {α : Type} (f : α -> Int) : List α -> α -> List α
 | [], x => [x]
 | y :: l, x => if ((y :: l).all fun z => decide (f x < f z)) then x :: y :: l else y :: insB f l x
def sortS {α : Type} (f : α -> Int) (l : List α) : List α := l.foldl (insB f) []
def bs (P : Nat -> Bool) : Nat -> Nat -> Nat -> Nat
 | 0, i, _ => i
 | k + 1, i, j => if i < j then (if P ((i + j) / 2) then bs P k ((i + j) / 2 + 1) j else bs P k i ((i + j) / 2)) else i
theorem bs_ok (P : Nat -> Bool) (i0 j0 : Nat) : ∀ (k i j : Nat), i0 <= i -> i <= j -> j <= j0 -> j - i <= k -> (i = i0 \/ P (i - 1) = true) -> (j = j0 \/ P j = false) ->
    i0 <= bs P k i j /\ bs P k i j <= j0 /\ (bs P k i j = i0 \/ P (bs P k i j - 1) = true) /\ (bs P k i j = j0 \/ P (bs P k i j) = false) := by
 intro k
 induction k with
 | zero =>
  intro i j h1 h2 h3 h4 h5 h6;have : i = j := by omega
  subst this;exact ⟨h1, h3, h5, h6⟩
 | succ k ih =>
  intro i j h1 h2 h3 h4 h5 h6;rw [bs]
  by_cases c : i < j
  · rw [zKN c]
    by_cases p : P ((i + j) / 2) = true
    · rw [zKN p];exact ih _ _ (by omega) (by omega) h3 (by omega) (.inr (by rw [zMD]; exact p)) h6
    · rw [zKM p];exact ih _ _ h1 (by omega) (by omega) (by omega) h5 (.inr (by simpa using p))
  · rw [zKM c];have : i = j := by omega
    subst this;exact ⟨h1, h3, h5, h6⟩
def symP {α : Type} (f : α -> Int) (A B : List α) (m c : Nat) : Bool :=
 match A[c]?, B[m - 1 - c]? with
 | some x, some y => !decide (f y < f x)
 | _, _ => false
def symS {α : Type} (f : α -> Int) (A B : List α) : Nat :=
 bs (symP f A B ((A.length + B.length) / 2)) (A.length + B.length) ((A.length + B.length) / 2 - B.length) (min A.length ((A.length + B.length) / 2))
def symL {α : Type} (f : α -> Int) : Nat -> List α -> List α -> List α
 | 0, A, B => A ++ B
 | k + 1, A, B =>
  if A = [] \/ B = [] then A ++ B
  else if A.length = 1 then
   B.take (bs (fun h => A.any fun x => (B[h]?).any fun y => decide (f y < f x)) B.length 0 B.length) ++ A ++ B.drop (bs (fun h => A.any fun x => (B[h]?).any fun y => decide (f y < f x)) B.length 0 B.length)
  else if B.length = 1 then
   A.take (bs (fun h => B.any fun y => (A[h]?).any fun x => !decide (f y < f x)) A.length 0 A.length) ++ B ++ A.drop (bs (fun h => B.any fun y => (A[h]?).any fun x => !decide (f y < f x)) A.length 0 A.length)
  else
   symL f k (A.take (symS f A B)) (B.take ((A.length + B.length) / 2 - symS f A B)) ++ symL f k (A.drop (symS f A B)) (B.drop ((A.length + B.length) / 2 - symS f A B))
theorem zrK {α : Type} (f : α -> Int) (x z : α) : ∀ l : List α, insB f (l ++ [z]) x = if f x < f z then insB f l x ++ [z] else l ++ [z, x] := by
 intro l
 induction l with
 | nil =>
  simp only [zLT, insB, zLy, List.all_nil, zMM, decide_eq_true_eq]
  by_cases c : f x < f z
  · simp [c]
  · simp [c]
 | cons y l ih =>
  rw [zLW, insB, ih]
  by_cases c : f x < f z
  · rw [zKN c, zKN c, insB];have e : ((y :: (l ++ [z])).all fun w => decide (f x < f w)) = ((y :: l).all fun w => decide (f x < f w)) := by
     simp [List.all_append, c]
    rw [e]
    by_cases q : ((y :: l).all fun w => decide (f x < f w)) = true
    · rw [zKN q, zKN q]; rfl
    · rw [zKM q, zKM q]; rfl
  · rw [zKM c, zKM c];have e : ((y :: (l ++ [z])).all fun w => decide (f x < f w)) = false := by
     rw [List.all_eq_false];exact ⟨z, by simp, by simp [c]⟩
    rw [e];rfl
theorem zrJ {α : Type} (f : α -> Int) (x : α) : ∀ l : List α, (insB f l x).Perm (x :: l) := by
 intro l
 induction l with
 | nil => exact List.Perm.refl _
 | cons y l ih =>
  rw [insB]
  split
  · exact List.Perm.refl _
  · exact (List.Perm.cons y ih).trans (List.Perm.swap x y l)
theorem sortS_snoc {α : Type} (f : α -> Int) (l : List α) (x : α) : sortS f (l ++ [x]) = insB f (sortS f l) x := by
 unfold sortS;rw [List.foldl_append]; rfl
theorem zdL {α : Type} {p : List α -> Prop} (h0 : p []) (h1 : ∀ l x, p l -> p (l ++ [x])) (l : List α) : p l := by
 have : ∀ n, ∀ l : List α, l.length = n -> p l := by
  intro n
  induction n with
  | zero => intro l hl; rw [zLh.1 hl]; exact h0
  | succ n ih =>
   intro l hl;have hne : l ≠ [] := by intro e; rw [e] at hl; cases hl
   rw [<- List.dropLast_concat_getLast hne];exact h1 _ _ (ih _ (by rw [List.length_dropLast]; omega))
 exact this _ l rfl
theorem sortS_perm {α : Type} (f : α -> Int) (l : List α) : (sortS f l).Perm l := by
 refine zdL (p := fun l => (sortS f l).Perm l) (List.Perm.refl _) (fun l x ih => ?_) l;rw [sortS_snoc];exact (zrJ f x _).trans ((List.Perm.cons x ih).trans (zM2 x l).symm)
variable {α : Type} {f : α -> Int} {R : α -> α -> Prop}
theorem zrI (tr : ∀ x y z, R x y -> R y z -> R x z) {x : α} : ∀ {l : List α}, l.Pairwise R -> (∀ z ∈ l, if f x < f z then R x z else R z x) -> (insB f l x).Pairwise R := by
 intro l
 induction l with
 | nil => intro _ _; exact List.pairwise_singleton R x
 | cons y l ih =>
  intro hp hx;have hp' := zLS.1 hp;rw [insB]
  split
  · rename_i c;refine zLS.2 ⟨fun z hz => ?_, hp⟩;have q := zK4.1 c z hz;have := hx z hz
    rwa [zKN (of_decide_eq_true q)] at this
  · rename_i c;have hyx : R y x := by
     simp only [Bool.not_eq_true, List.all_eq_false, decide_eq_true_eq] at c;obtain ⟨z, hz, q⟩ := c;have w := hx z hz;rw [zKM q] at w
     rcases zLD.1 hz with rfl | hz
     · exact w
     · exact tr _ _ _ (hp'.1 z hz) w
    refine zLS.2 ⟨fun z hz => ?_, ih hp'.2 fun z hz => hx z (.tail _ hz)⟩
    rcases zLD.1 ((zrJ f x l).mem_iff.1 hz) with rfl | hz
    · exact hyx
    · exact hp'.1 z hz
theorem zhF {A : List α} (hp : A.Pairwise R) {s : Nat} (h0 : 0 < s) (hs : s <= A.length) {x : α} (hx : x ∈ A.take s) : x = A[s - 1]'(by omega) \/ R x (A[s - 1]'(by omega)) := by
 obtain ⟨i, hi, rfl⟩ := List.getElem_of_mem hx;rw [zLc] at hi;rw [List.getElem_take]
 by_cases c : i = s - 1
 · subst c; exact .inl rfl
 · exact .inr (zMY.1 hp i (s - 1) (by omega) (by omega) (by omega))
theorem zha {B : List α} (hp : B.Pairwise R) {e : Nat} (he : e < B.length) {y : α} (hy : y ∈ B.drop e) : y = B[e] \/ R B[e] y := by
 obtain ⟨i, hi, rfl⟩ := List.getElem_of_mem hy;rw [zKZ] at hi;rw [List.getElem_drop]
 by_cases c : i = 0
 · subst c; exact .inl rfl
 · exact .inr (zMY.1 hp e (e + i) (by omega) (by omega) (by omega))
theorem zfS (tr : ∀ x y z, R x y -> R y z -> R x z) {x a b y : α} (h1 : x = a \/ R x a) (h : R a b) (h2 : y = b \/ R b y) : R x y := by
 rcases h1 with rfl | h1 <;> rcases h2 with rfl | h2
 · exact h
 · exact tr _ _ _ h h2
 · exact tr _ _ _ h1 h
 · exact tr _ _ _ h1 (tr _ _ _ h h2)
theorem zdf {A : List α} (hp : A.Pairwise R) (s : Nat) {x y : α} (hx : x ∈ A.take s) (hy : y ∈ A.drop s) : R x y := by
 rw [<- zLr s A] at hp;exact (zMo.1 hp).2.2 x hx y hy
def X (f : α -> Int) (R : α -> α -> Prop) (A B : List α) : Prop := ∀ x ∈ A, ∀ y ∈ B, if f y < f x then R y x else R x y
theorem zsq (tr : ∀ x y z, R x y -> R y z -> R x z) {x : α} {B : List α} (hB : B.Pairwise R) (i : Nat) (hi : i <= B.length) (h1 : ∀ h : 0 < i, R (B[i - 1]'(by omega)) x) (h2 : ∀ h : i < B.length, R x B[i]) :
    (B.take i ++ [x] ++ B.drop i).Pairwise R := by
 rw [zK5, zMK, zMo];have ht : ∀ y ∈ B.take i, R y x := by
  intro y hy;have h0 : 0 < i := by
   cases i with
   | zero => simp at hy
   | succ i => omega
  exact zfS tr (zhF hB h0 hi hy) (h1 h0) (.inl rfl)
 have hd : ∀ y ∈ B.drop i, R x y := by
  intro y hy;have h0 : i < B.length := by
   refine Nat.not_le.1 fun q => ?_;rw [zLU q] at hy
   cases hy
  exact zfS tr (.inl rfl) (h2 h0) (zha hB h0 hy)
 refine ⟨hB.sublist (zME ..), zLS.2 ⟨hd, hB.sublist (zMF ..)⟩, fun a ha b hb => ?_⟩
 rcases zLD.1 hb with rfl | hb
 · exact ht a ha
 · exact zdf hB i ha hb
theorem zJx (tr : ∀ x y z, R x y -> R y z -> R x z) : ∀ (k : Nat) (A B : List α), A.length + B.length <= k -> A.Pairwise R -> B.Pairwise R -> X f R A B -> (symL f k A B).Pairwise R /\ (symL f k A B).Perm (A ++ B) := by
 intro k
 induction k with
 | zero =>
  intro A B h _ _ _;have e1 : A = [] := zLh.1 (by omega);have e2 : B = [] := zLh.1 (by omega);subst e1 e2;exact ⟨List.Pairwise.nil, List.Perm.refl _⟩
 | succ k ih =>
  intro A B hk hA hB hX;rw [symL]
  by_cases c0 : A = [] \/ B = []
  · rw [zKN c0];refine ⟨?_, List.Perm.refl _⟩
    rcases c0 with rfl | rfl
    · exact hB
    · rw [zLt]; exact hA
  rw [zKM c0]
  by_cases c1 : A.length = 1
  · rw [zKN c1];obtain ⟨x, rfl⟩ := zMq.1 c1;simp only [zMd, zMe, zL5];obtain ⟨_, q2, q3, q4⟩ := bs_ok (fun h => (B[h]?).any fun y => decide (f y < f x)) 0 B.length B.length 0 B.length (by omega) (by omega) (by omega) (by omega) (.inl rfl) (.inl rfl);generalize bs (fun h => (B[h]?).any fun y => decide (f y < f x)) B.length 0 B.length = i at *;refine ⟨zsq tr hB i q2 (fun h => ?_) (fun h => ?_), ?_⟩
    · rcases q3 with q3 | q3
      · omega
      · rw [zKR (by omega)] at q3;have w := hX x (.head _) _ (zLq (l := B) (n := i - 1) (by omega))
        rwa [zKN (of_decide_eq_true q3)] at w
    · rcases q4 with q4 | q4
      · omega
      · rw [zKR h] at q4;have w := hX x (.head _) _ (zLq (l := B) (n := i) h)
        rwa [zKM (of_decide_eq_false q4)] at w
    · have p := List.perm_middle (a := x) (l₁ := B.take i) (l₂ := B.drop i);rw [zLr] at p;rw [zK5];exact p
  rw [zKM c1]
  by_cases c2 : B.length = 1
  · rw [zKN c2];obtain ⟨y, rfl⟩ := zMq.1 c2;simp only [zMd, zMe, zL5];obtain ⟨_, q2, q3, q4⟩ := bs_ok (fun h => (A[h]?).any fun x => !decide (f y < f x)) 0 A.length A.length 0 A.length (by omega) (by omega) (by omega) (by omega) (.inl rfl) (.inl rfl);generalize bs (fun h => (A[h]?).any fun x => !decide (f y < f x)) A.length 0 A.length = i at *;refine ⟨zsq tr hA i q2 (fun h => ?_) (fun h => ?_), ?_⟩
    · rcases q3 with q3 | q3
      · omega
      · rw [zKR (by omega)] at q3;have w := hX _ (zLq (l := A) (n := i - 1) (by omega)) y (.head _);have q3 : ¬ f y < f A[i - 1] := by simpa using q3
        rwa [zKM q3] at w
    · rcases q4 with q4 | q4
      · omega
      · rw [zKR h] at q4;have w := hX _ (zLq (l := A) (n := i) h) y (.head _);have q4 : f y < f A[i] := by simpa using q4
        rwa [zKN q4] at w
    · have p := List.perm_middle (a := y) (l₁ := A.take i) (l₂ := A.drop i);rw [zLr] at p;rw [zK5];exact p.trans (zM2 y A).symm
  rw [zKM c2];have a0 : 0 < A.length := zLP.2 fun e => c0 (.inl e);have b0 : 0 < B.length := zLP.2 fun e => c0 (.inr e);obtain ⟨q1, q2, q3, q4⟩ := bs_ok (symP f A B ((A.length + B.length) / 2)) ((A.length + B.length) / 2 - B.length) (min A.length ((A.length + B.length) / 2)) (A.length + B.length) ((A.length + B.length) / 2 - B.length) (min A.length ((A.length + B.length) / 2))
   (by omega) (by omega) (by omega) (by omega) (.inl rfl) (.inl rfl)
  show (symL f k (A.take (symS f A B)) _ ++ _).Pairwise R /\ _;have hs : symS f A B = bs (symP f A B ((A.length + B.length) / 2)) (A.length + B.length) ((A.length + B.length) / 2 - B.length) (min A.length ((A.length + B.length) / 2)) := rfl;rw [<- hs] at q1 q2 q3 q4;clear hs;generalize symS f A B = s at *;generalize em : (A.length + B.length) / 2 = m at q1 q2 q3 q4 ⊢;have hX1 : X f R (A.take s) (B.take (m - s)) := fun x hx y hy => hX x (zLw hx) y (zLw hy);have hX2 : X f R (A.drop s) (B.drop (m - s)) := fun x hx y hy => hX x (zLJ hx) y (zLJ hy);obtain ⟨l1, l2⟩ := ih (A.take s) (B.take (m - s)) (by simp only [zLc]; omega) (hA.sublist (zME ..)) (hB.sublist (zME ..)) hX1;obtain ⟨r1, r2⟩ := ih (A.drop s) (B.drop (m - s)) (by simp only [zKZ]; omega) (hA.sublist (zMF ..)) (hB.sublist (zMF ..)) hX2;have hAB : ∀ x ∈ A.take s, ∀ y ∈ B.drop (m - s), R x y := by
   intro x hx y hy;have h0 : 0 < s := by
    cases s with
    | zero => simp at hx
    | succ i => omega
   have he : m - s < B.length := by
    refine Nat.not_le.1 fun q => ?_;rw [zLU q] at hy
    cases hy
   rcases q3 with q3 | q3
   · omega
   · unfold symP at q3;rw [zKR (by omega : s - 1 < A.length), show m - 1 - (s - 1) = m - s by omega, zKR he] at q3;have w := hX _ (zLq (l := A) (n := s - 1) (by omega)) _ (zLq (l := B) (n := m - s) he);rw [zKM (by simpa using q3)] at w;exact zfS tr (zhF hA h0 (by omega) hx) w (zha hB he hy)
  have hBA : ∀ y ∈ B.take (m - s), ∀ x ∈ A.drop s, R y x := by
   intro y hy x hx;have h0 : 0 < m - s := by
    refine Nat.pos_of_ne_zero fun q => ?_;rw [q] at hy;simp at hy
   have he : s < A.length := by
    refine Nat.not_le.1 fun q => ?_;rw [zLU q] at hx
    cases hx
   rcases q4 with q4 | q4
   · omega
   · unfold symP at q4;rw [zKR he, zKR (by omega : m - 1 - s < B.length)] at q4;have w := hX _ (zLq (l := A) (n := s) he) _ (zLq (l := B) (n := m - 1 - s) (by omega));rw [zKN (by simpa using q4)] at w;have g := zhF hB h0 (by omega) hy;have e : m - s - 1 = m - 1 - s := by omega
     simp only [e] at g;exact zfS tr g w (zha hA he hx)
  refine ⟨zMo.2 ⟨l1, r1, fun x hx y hy => ?_⟩, ?_⟩
  · have hx := l2.mem_iff.1 hx;have hy := r2.mem_iff.1 hy
    rcases zLb.1 hx with hx | hx <;> rcases zLb.1 hy with hy | hy
    · exact zdf hA s hx hy
    · exact hAB x hx y hy
    · exact hBA x hx y hy
    · exact zdf hB _ hx hy
  · refine (l2.append r2).trans ?_;have p1 : (A.take s ++ B.take (m - s) ++ (A.drop s ++ B.drop (m - s))).Perm ((A.take s ++ A.drop s) ++ (B.take (m - s) ++ B.drop (m - s))) := by
     rw [zK5, zK5];refine List.Perm.append_left _ ?_;rw [<- zK5, <- zK5];exact List.Perm.append_right _ List.perm_append_comm
    rw [zLr, zLr] at p1;exact p1
theorem ztn (ir : ∀ x, ¬ R x x) (tr : ∀ x y z, R x y -> R y z -> R x z) : ∀ {a b : List α}, a.Pairwise R -> b.Pairwise R -> a.Perm b -> a = b := by
 intro a
 induction a with
 | nil => intro b _ _ hp; exact (List.nil_perm.1 hp).symm ▸ rfl
 | cons x a ih =>
  intro b ha hb hp
  cases b with
  | nil => exact absurd (List.perm_nil.1 hp) (by simp)
  | cons y b =>
   have e : x = y := by
    rcases zLD.1 (hp.mem_iff.1 (.head _)) with e | h1
    · exact e
    rcases zLD.1 (hp.mem_iff.2 (.head _)) with e | h2
    · exact e.symm
    exact absurd (tr _ _ _ ((zLS.1 hb).1 x h1) ((zLS.1 ha).1 y h2)) (ir y)
   subst e;rw [ih (zLS.1 ha).2 (zLS.1 hb).2 ((List.perm_cons x).1 hp)]
theorem zAb {β : Type} (g : β -> α) (x : β) : ∀ l : List β, (insB (fun b => f (g b)) l x).map g = insB f (l.map g) (g x) := by
 intro l
 induction l with
 | nil => rfl
 | cons y l ih =>
  rw [insB, zKS, insB];have e : ((g y :: l.map g).all fun z => decide (f (g x) < f z)) = ((y :: l).all fun z => decide (f (g x) < f (g z))) := by
   rw [<- zKS, List.all_map]; rfl
  rw [e]
  split
  · rfl
  · rw [zKS, ih]
theorem zia {β : Type} (g : β -> α) (l : List β) : (sortS (fun b => f (g b)) l).map g = sortS f (l.map g) := by
 refine zdL (p := fun l => (sortS (fun b => f (g b)) l).map g = sortS f (l.map g)) rfl (fun l x ih => ?_) l;rw [sortS_snoc, zK3, zKS, zK1, sortS_snoc, zAb, ih]
theorem zJy {β : Type} (g : β -> α) (A B : List β) : symS f (A.map g) (B.map g) = symS (fun b => f (g b)) A B := by
 unfold symS;simp only [zKY]
 congr 1
 funext c
 unfold symP;simp only [zKQ]
 cases A[c]? <;> cases B[(A.length + B.length) / 2 - 1 - c]? <;> rfl
theorem zJw {β : Type} (g : β -> α) : ∀ (k : Nat) (A B : List β), (symL (fun b => f (g b)) k A B).map g = symL f k (A.map g) (B.map g) := by
 intro k
 induction k with
 | zero => intro A B; simp only [symL, zK3]
 | succ k ih =>
  intro A B;have e1 : (fun h => (A.map g).any fun x => ((B.map g)[h]?).any fun y => decide (f y < f x)) = fun (h : Nat) => A.any fun x => (B[h]?).any fun y => decide (f (g y) < f (g x)) := by
   funext h
   rw [List.any_map, zKQ]
   cases B[h]? <;> rfl
  have e2 : (fun h => (B.map g).any fun y => ((A.map g)[h]?).any fun x => !decide (f y < f x)) = fun (h : Nat) => B.any fun y => (A[h]?).any fun x => !decide (f (g y) < f (g x)) := by
   funext h
   rw [List.any_map, zKQ]
   cases A[h]? <;> rfl
  rw [symL, symL, zJy, e1, e2];simp only [zKY, List.map_eq_nil_iff]
  split
  · rw [zK3]
  split
  · simp only [zK3, zLI, zLQ]
  split
  · simp only [zK3, zLI, zLQ]
  · rw [zK3, ih, ih, zLI, zLI, zLQ, zLQ]
def Lx (f : α -> Int) (p q : α × Nat) : Prop := f p.1 < f q.1 \/ f p.1 = f q.1 /\ p.2 < q.2
theorem zgw : ∀ x y z : α × Nat, Lx f x y -> Lx f y z -> Lx f x z := by
 intro x y z h1 h2;unfold Lx at *;omega
theorem zib : ∀ l : List (α × Nat), (l.Pairwise fun p q => p.2 < q.2) -> (sortS (fun p => f p.1) l).Pairwise (Lx f) := by
 intro l;refine zdL (p := fun l : List (α × Nat) => (l.Pairwise fun p q => p.2 < q.2) -> (sortS (fun p => f p.1) l).Pairwise (Lx f)) (fun _ => List.Pairwise.nil) (fun l x ih h => ?_) l;have h' := zMo.1 h;rw [sortS_snoc];refine zrI zgw (ih h'.1) fun z hz => ?_;have := h'.2.2 z ((sortS_perm _ l).mem_iff.1 hz) x (by simp);unfold Lx
 split <;> omega
theorem zCC (k : Nat) (A B : List α) (hk : A.length + B.length <= k) : symL f k (sortS f A) (sortS f B) = sortS f (A ++ B) := by
 have e0 : (A ++ B).zipIdx.map Prod.fst = A ++ B := by simp
 have eA : ((A ++ B).zipIdx.take A.length).map Prod.fst = A := by rw [zLI, e0, List.take_left]
 have eB : ((A ++ B).zipIdx.drop A.length).map Prod.fst = B := by rw [zLQ, e0, List.drop_left]
 have hp : (A ++ B).zipIdx.Pairwise fun p q => p.2 < q.2 := by
  rw [zMY];intro i j hi hj h;simp only [List.getElem_zipIdx];omega
 have hl : (A ++ B).zipIdx.length = A.length + B.length := by simp
 generalize hT : (A ++ B).zipIdx = T at *;have hc : ∀ x ∈ T.take A.length, ∀ y ∈ T.drop A.length, x.2 < y.2 := fun x hx y hy => zdf hp _ hx hy;have m1 := zib (f := f) _ (hp.sublist (zME A.length T));have m2 := zib (f := f) _ (hp.sublist (zMF A.length T));have p1 := sortS_perm (fun p : α × Nat => f p.1) (T.take A.length);have p2 := sortS_perm (fun p : α × Nat => f p.1) (T.drop A.length);have hlen1 := p1.length_eq;have hlen2 := p2.length_eq;rw [zLc] at hlen1;rw [zKZ] at hlen2;obtain ⟨s1, s2⟩ := zJx (f := fun p : α × Nat => f p.1) (R := Lx f) zgw k (sortS (fun p : α × Nat => f p.1) (T.take A.length)) (sortS (fun p : α × Nat => f p.1) (T.drop A.length)) (by omega) m1 m2
  (fun x hx y hy => by
   have := hc x (p1.mem_iff.1 hx) y (p2.mem_iff.1 hy);unfold Lx
   split <;> simp only at * <;> omega)
 have s3 : (sortS (fun p : α × Nat => f p.1) T).Pairwise (Lx f) := zib T hp;have s4 : (symL (fun p : α × Nat => f p.1) k (sortS (fun p : α × Nat => f p.1) (T.take A.length)) (sortS (fun p : α × Nat => f p.1) (T.drop A.length))).Perm (sortS (fun p : α × Nat => f p.1) T) := by
  refine s2.trans ((p1.append p2).trans ?_);rw [zLr];exact (sortS_perm _ T).symm
 have e := congrArg (List.map Prod.fst) (ztn (fun x h => by unfold Lx at h; omega) zgw s1 s3 s4);rw [zJw, zia, zia, zia, eA, eB, e0] at e;exact e
theorem sortS_idem (l : List α) : sortS f (sortS f l) = sortS f l := by
 have key : ∀ l : List α, (l.Pairwise fun x y => f x <= f y) -> sortS f l = l := by
  intro l;refine zdL (p := fun l : List α => (l.Pairwise fun x y => f x <= f y) -> sortS f l = l) (fun _ => rfl) (fun l x ih h => ?_) l;have h' := zMo.1 h;rw [sortS_snoc, ih h'.1]
  cases hq : l.getLast? with
  | none => rw [List.getLast?_eq_none_iff] at hq; subst hq; rfl
  | some z =>
   obtain ⟨u, rfl⟩ := List.getLast?_eq_some_iff.1 hq;rw [zrK, zKM]
   · simp
   · have := h'.2.2 z (by simp) x (by simp); omega
 refine key _ ?_;refine zdL (p := fun l : List α => (sortS f l).Pairwise fun x y => f x <= f y) List.Pairwise.nil (fun l x ih => ?_) l;rw [sortS_snoc];exact zrI (R := fun x y => f x <= f y) (fun x y z h1 h2 => Int.le_trans h1 h2) ih (fun z hz => by split <;> omega)
end Go.Sim.Sort

namespace Go.Sim.Sort
variable {α : Type} {f : α -> Int}
def bkF (f : α -> Int) (s : Nat) : Nat -> List α -> List α
 | 0, _ => []
 | q + 1, l => sortS f (l.take s) ++ bkF f s q (l.drop s)
theorem zJc : sortS f [] = [] := rfl
theorem sortS_len (l : List α) : (sortS f l).length = l.length := (sortS_perm f l).length_eq
theorem bkF_nil (s : Nat) : ∀ q, bkF f s q [] = [] := by
 intro q
 induction q with
 | zero => rfl
 | succ q ih => simp only [bkF, zMH, zMI, ih, zJc, zLt]
theorem bkF_snoc (s : Nat) : ∀ (q : Nat) (l : List α), bkF f s (q + 1) l = bkF f s q l ++ sortS f ((l.drop (s * q)).take s) := by
 intro q
 induction q with
 | zero => intro l; simp [bkF]
 | succ q ih =>
  intro l;rw [bkF, ih, bkF, zK5, zMb, show s + s * q = s * (q + 1) by rw [zLz]; omega]
theorem bkF_len (s : Nat) : ∀ (q : Nat) (l : List α), s * q <= l.length -> (bkF f s q l).length = s * q := by
 intro q
 induction q with
 | zero => intro l _; rfl
 | succ q ih =>
  intro l h;rw [zLz] at h;rw [bkF, zKO, sortS_len, zLc, ih _ (by rw [zKZ]; omega), zLz];omega
theorem bkF_all (s : Nat) : ∀ (q : Nat) (l : List α), l.length <= s * q -> (bkF f s q l).Perm l := by
 intro q
 induction q with
 | zero => intro l h; have : l = [] := zLh.1 (by omega); subst this; exact .refl _
 | succ q ih =>
  intro l h;rw [zLz] at h;refine ((sortS_perm f _).append (ih (l.drop s) (by rw [zKZ]; omega))).trans ?_;rw [zLr]
theorem bkF_more (s : Nat) : ∀ (q p : Nat) (l : List α), l.length <= s * q -> bkF f s (q + p) l = bkF f s q l := by
 intro q
 induction q with
 | zero =>
  intro p l h;have : l = [] := zLh.1 (by omega);subst this;rw [bkF_nil, bkF_nil]
 | succ q ih =>
  intro p l h;rw [zLz] at h;rw [show q + 1 + p = (q + p) + 1 by omega, bkF, bkF, ih p _ (by rw [zKZ]; omega)]
theorem bkF_one (s : Nat) (q : Nat) {l : List α} (h : l.length <= s) : bkF f s (q + 1) l = sortS f l := by
 rw [bkF, zLK h, zLU h, bkF_nil, zLt]
theorem zty (s q : Nat) (d : List α) : bkF f s (q + 2) d = sortS f (d.take s) ++ (sortS f ((d.drop s).take s) ++ bkF f s q (d.drop (2 * s))) := by
 rw [bkF, bkF, zMb]
 congr 4
 omega
theorem merge_two (s k : Nat) (d : List α) (hk : 2 * s <= k) : symL f k (sortS f (d.take s)) (sortS f ((d.drop s).take s)) = sortS f (d.take (2 * s)) := by
 rw [zCC _ _ _ (by simp only [zLc, zKZ]; omega)]
 congr 1
 rw [show 2 * s = s + s by omega, List.take_add]
def mgF (f : α -> Int) (s N q : Nat) (l : List α) : List α := bkF f (2 * s) q l ++ bkF f s N (l.drop (2 * s * q))
theorem mgF_zero (s N : Nat) (l : List α) : mgF f s N 0 l = bkF f s N l := by simp [mgF, bkF]
theorem mgF_parts (s N q : Nat) (l : List α) : mgF f s (N + 2) q l = bkF f (2 * s) q l ++ (sortS f ((l.drop (2 * s * q)).take s) ++ (sortS f (((l.drop (2 * s * q)).drop s).take s) ++ bkF f s N (l.drop (2 * s * (q + 1))))) := by
 unfold mgF;rw [zty, zMb, zMb, zLz]
theorem mgF_next (s N q : Nat) (l : List α) : bkF f (2 * s) q l ++ (sortS f ((l.drop (2 * s * q)).take (2 * s)) ++ bkF f s N (l.drop (2 * s * (q + 1)))) = mgF f s N (q + 1) l := by
 unfold mgF;rw [bkF_snoc, zK5]
end Go.Sim.Sort

namespace Go.Sim.Sort
variable {α : Type} {f : α -> Int}
def swapL (R : List α) (i j : Nat) : List α := match R[i]?, R[j]? with
 | some x, some y => (R.set i y).set j x
 | _, _ => R
theorem swapL_len (R : List α) (i j : Nat) : (swapL R i j).length = R.length := by
 unfold swapL
 split <;> simp
theorem swapL_eq {R : List α} {i j : Nat} (hi : i < R.length) (hj : j < R.length) : swapL R i j = (R.set i R[j]).set j R[i] := by
 unfold swapL;rw [zKR hi, zKR hj]
theorem zJs (X M Y : List α) (x y : α) : swapL (X ++ x :: (M ++ y :: Y)) X.length (X.length + 1 + M.length) = X ++ y :: (M ++ x :: Y) := by
 unfold swapL;have e1 : (X ++ x :: (M ++ y :: Y))[X.length]? = some x := by simp
 have e2 : (X ++ x :: (M ++ y :: Y))[X.length + 1 + M.length]? = some y := by
  rw [zLd (by omega), show X.length + 1 + M.length - X.length = M.length + 1 by omega, zMf, zLd (by omega)];simp
 rw [e1, e2];simp only;rw [zL3 _ _ (by omega), zLM, zMN, zL3 _ _ (by omega), show X.length + 1 + M.length - X.length = M.length + 1 by omega, List.set_cons_succ, zL3 _ _ (by omega), zLM, zMN]
def swpR : Nat -> Nat -> Nat -> List α -> List α
 | 0, _, _, R => R
 | k + 1, a, b, R => swpR k (a + 1) (b + 1) (swapL R a b)
theorem zie : ∀ (P Q X M Y : List α), P.length = Q.length -> swpR P.length X.length (X.length + P.length + M.length) (X ++ (P ++ (M ++ (Q ++ Y)))) = X ++ (Q ++ (M ++ (P ++ Y))) := by
 intro P
 induction P with
 | nil => intro Q X M Y h; rw [zLh.1 h.symm]; rfl
 | cons p P ih =>
  intro Q X M Y h
  cases Q with
  | nil => cases h
  | cons q Q =>
   simp only [zK0] at h;have e := ih Q (X ++ [q]) (M ++ [p]) Y (by omega);simp only [zKO, zMc, zK5, zMK] at e;rw [zK0, swpR];have e2 := zJs X (P ++ M) (Q ++ Y) p q;simp only [zKO, zK5] at e2;simp only [zLW];rw [show X.length + (P.length + 1) + M.length = X.length + 1 + (P.length + M.length) by omega, e2];rw [show X.length + 1 + (P.length + M.length) + 1 = X.length + 1 + P.length + (M.length + 1) by omega];exact e
def rotR (m : Nat) : Nat -> Nat -> Nat -> List α -> List α
 | 0, i, _, R => swpR i (m - i) m R
 | k + 1, i, j, R => if i = j then swpR i (m - i) m R else if j < i then rotR m k (i - j) j (swpR j (m - i) m R) else rotR m k i (j - i) (swpR i (m - i) (m + j - i) R)
theorem rotR_ok : ∀ (k : Nat) (X u v Y : List α), 0 < u.length -> 0 < v.length -> u.length + v.length <= k -> rotR (X.length + u.length) k u.length v.length (X ++ (u ++ (v ++ Y))) = X ++ (v ++ (u ++ Y)) := by
 intro k
 induction k with
 | zero => intro X u v Y h1 h2 h3; omega
 | succ k ih =>
  intro X u v Y h1 h2 h3;rw [rotR]
  by_cases c : u.length = v.length
  · rw [zKN c, zMD];have := zie u v X [] Y c;simpa using this
  rw [zKM c]
  by_cases c2 : v.length < u.length
  · rw [zKN c2, zMD];have hu : u = u.take v.length ++ u.drop v.length := (zLr _ _).symm;have l1 : (u.take v.length).length = v.length := by rw [zLc]; omega
    have l2 : (u.drop v.length).length = u.length - v.length := zKZ;generalize u.take v.length = u1 at *;generalize u.drop v.length = u2 at *;subst hu;have e := zie u1 v X u2 Y l1;have e2 := ih (X ++ v) u2 u1 Y (by omega) (by omega) (by simp only [zKO] at *; omega);simp only [zKO, zK5] at *;rw [l1] at e e2;rw [show X.length + (u1.length + u2.length) = X.length + v.length + u2.length by omega, e, show u1.length + u2.length - v.length = u2.length by omega];rw [<- l1] at e2 ⊢;rw [l1] at e2 ⊢;exact e2
  · rw [zKM c2, zMD];have hv : v = v.take (v.length - u.length) ++ v.drop (v.length - u.length) := (zLr _ _).symm;have l1 : (v.take (v.length - u.length)).length = v.length - u.length := by rw [zLc]; omega
    have l2 : (v.drop (v.length - u.length)).length = u.length := by rw [zKZ]; omega
    generalize v.take (v.length - u.length) = v1 at *;generalize v.drop (v.length - u.length) = v2 at *;subst hv;have e := zie u v2 X v1 Y l2.symm;have e2 := ih X v2 v1 (u ++ Y) (by omega) (by simp only [zKO] at *; omega) (by simp only [zKO] at *; omega);simp only [zKO, zK5] at *;rw [l2] at e2;rw [show X.length + u.length + (v1.length + v2.length) - u.length = X.length + u.length + v1.length by omega, e, show v1.length + v2.length - u.length = v1.length by omega];exact e2
end Go.Sim.Sort

namespace Go.Sim.Sort
variable {α : Type} {f : α -> Int}
def insJ (f : α -> Int) (x : α) (P : List α) : Nat -> Nat
 | 0 => 0
 | k + 1 => if ((P[k]?).any fun y => decide (f x < f y)) = true then insJ f x P k else k + 1
theorem insJ_le (x : α) (P : List α) : ∀ k, insJ f x P k <= k := by
 intro k
 induction k with
 | zero => exact zKV _
 | succ k ih => unfold insJ; split <;> omega
theorem zAd (x z : α) (P : List α) : ∀ k, k <= P.length -> insJ f x (P ++ [z]) k = insJ f x P k := by
 intro k
 induction k with
 | zero => intro _; rfl
 | succ k ih =>
  intro h;unfold insJ;rw [zLk (by omega), ih (by omega)]
theorem insB_J (x : α) (P : List α) : insB f P x = P.take (insJ f x P P.length) ++ x :: P.drop (insJ f x P P.length) := by
 refine zdL (p := fun P : List α => insB f P x = P.take (insJ f x P P.length) ++ x :: P.drop (insJ f x P P.length)) rfl (fun l z ih => ?_) P;rw [zrK, zKO, zMc];have e : insJ f x (l ++ [z]) (l.length + 1) = if f x < f z then insJ f x l l.length else l.length + 1 := by
  rw [insJ, zLd (zKV _), zLM, zAd _ _ _ _ (zKV _)];simp
 rw [e]
 by_cases c : f x < f z
 · rw [zKN c, zKN c, ih];have h := insJ_le (f := f) x l l.length;rw [List.take_append_of_le_length h, List.drop_append_of_le_length h];simp
 · rw [zKM c, zKM c, zLK (by simp), zLU (by simp)];simp
def insR (x : α) (X P Y : List α) (j : Nat) : List α := X ++ (P.take j ++ x :: (P.drop j ++ Y))
theorem insR_len (x : α) (X P Y : List α) {j : Nat} (h : j <= P.length) : (insR x X P Y j).length = X.length + P.length + 1 + Y.length := by
 simp only [insR, zKO, zK0, zLc, zKZ];omega
theorem insR_end (x : α) (X P Y : List α) : insR x X P Y P.length = X ++ (P ++ x :: Y) := by
 simp [insR]
theorem insR_at (x : α) (X P Y : List α) {j : Nat} (h : j <= P.length) : (insR x X P Y j)[X.length + j]? = some x := by
 unfold insR;rw [zLd (by omega), zLd (by simp; omega)];simp [zMC h]
theorem insR_below (x : α) (X P Y : List α) {j : Nat} (h : j < P.length) : (insR x X P Y (j + 1))[X.length + j]? = some P[j] := by
 unfold insR;rw [zLd (by omega), zLk (by simp; omega)];simp [zLR, h]
theorem insR_swap (x : α) (X P Y : List α) {j : Nat} (h : j < P.length) : ((insR x X P Y (j + 1)).set (X.length + j + 1) P[j]).set (X.length + j) x = insR x X P Y j := by
 have e1 : P.take (j + 1) = P.take j ++ [P[j]] := by rw [zMG, zKR h]; rfl
 have e2 : P.drop j = P[j] :: P.drop (j + 1) := zMr h;unfold insR;rw [e1, e2];have h1 : (P.take j).length = j := by simp; omega
 rw [zL3 _ _ (by omega), zL3 _ _ (by omega), zL3 _ _ (by simp; omega)];simp only [zK5, zLW, zLT];rw [zL3 _ _ (by omega)]
 congr 2
 simp only [zKO, zMc, h1];rw [show X.length + j + 1 - X.length - (j + 1) = 0 by omega, show X.length + j - X.length - j = 0 by omega];rfl
end Go.Sim.Sort

namespace Go.Proofs.YtgjlpcbolldhhaaGreat
open Go Go.Sim
theorem zAo (n : Int) : zt G zeY [.d (.int .i64 n)] [] = some (.d (.bool false), []) := by
 rw [zac zzF (by simp)]; simp -implicitDefEqProofs only [zmH, go_sem]
def z5 (a b : Int) : Int := if a < b then -1 else if b < a then 1 else 0
theorem zxY (a b : Int) : zt G zeX [.d (.int .i64 a), .d (.int .i64 b)] [] = some (.d (.int .i64 (z5 a b)), []) := by
 rw [zac zzE (by simp)]; simp -implicitDefEqProofs only [zmG, go_sem];simp -implicitDefEqProofs only [zAo, z5, go_sem]
 repeat' split
 all_goals simp_all
def zxT (a b : Due) : Int := if z5 a.1 b.1 = 0 then z5 a.2 b.2 else z5 a.1 b.1
def lt (a b : Due) : Bool := decide (zxT a b < 0)
end Go.Proofs.YtgjlpcbolldhhaaGreat
