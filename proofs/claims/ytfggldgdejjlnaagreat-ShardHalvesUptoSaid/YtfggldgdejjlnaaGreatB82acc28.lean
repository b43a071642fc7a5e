/-
  Heaps of deadlines.
-/
import Derived.Test.YtfggldgdejjlnaaGreatBec380d2
import Derived.KernelRfl
import Derived.Test.YtfggldgdejjlnaaGreatB84b65f5
import Derived.IntWalk
set_option linter.unusedSimpArgs false
set_option linter.unusedVariables false
set_option maxHeartbeats 10000000
set_option maxRecDepth 100000
namespace Go.Proofs.YtfggldgdejjlnaaGreat
open Go Go.Sim
def tab : List (Nat × AFn) := [(zf2, zjn), (zcW, zqm), (zcX, zqt), (zhN, zlO), (zcv, zqq), (zfX, zqp), (zhL, zqs), (zhG, zlK), (zhH, zlL), (zhK, zqr), (zhI, zlM), (ziu, zmu), (zif, zmk), (zhM, zlN), (zhJ, zqo), (zib, zqG), (zh9, zmh), (zic, zmi), (zia, zqF), (ze0, zqn), (zf4, zqK), (zih, zmn), (zig, zml), (zf6, zmm), (zf3, zqI), (zid, zmj), (zci, zqH), (zii, zmo), (zf5, zqL), (zhO, zlP), (zir, zqP), (zis, zqQ), (zik, zqO), (zin, zmr), (zim, zmq), (zil, zmp), (zit, zqR), (zij, zqM), (ziq, zmt), (zio, zms), (zdV, zjo), (zdr, zq2), (zdo, zqZ), (ziy, zqX), (zf7, zqY), (zf9, zmz), (zek, zqE), (zh8, zmf), (ze5, zqA), (ze6, zqB), (zhR, zqy), (ziO, zmX), (ziR, zm2), (zfY, zlS), (zhW, zl0), (zhU, zlX), (zf1, zlY), (zhS, zlT), (zfZ, zlU), (ze1, zqu), (zhQ, zlR), (zhP, zlQ), (zh2, zl9), (ziP, zmY), (ziT, zm4), (zdu, zq6), (zfb, zq5), (zds, zq3), (zcx, zqU), (zdq, zq1), (zgc, zjr), (zdn, zmF), (zix, zmw), (zcy, zjs), (zen, zjt), (zfg, zjx), (zfh, zjz), (zcz, zq8), (zeo, zju), (zff, zjw), (zgg, zjy), (zel, zmK), (zem, zmR), (zge, zmW), (zfd, zmV), (ze7, zqV), (ziB, zmB), (ziz, zmx), (zf8, zmy), (ziA, zmA), (zhY, zl3), (zh1, zl7), (ziN, zmU), (zei, zl8), (ze2, zqv), (zhV, zlZ), (ziV, zm6), (zdm, zl1), (ziE, zmG), (zgd, zmS), (zdt, zq4), (zdp, zq0), (zgb, zmL), (zfe, zjv), (ziF, zmI), (ziI, zmN), (ziJ, zmO), (ziK, zmP), (ziL, zmQ), (zfc, zq7), (ziQ, zmZ), (ziU, zm5), (zh7, zme), (zdU, zqC), (zej, zqD), (ziG, zmJ), (ze8, zqW), (ziC, zmC), (zh6, zmd), (ziD, zmD), (zhZ, zl4), (zdT, zqx), (zgh, zm7), (zh4, zmb), (zud, zwr), (zh5, zmc), (zgj, zm9), (zgi, zm8), (ze4, zl5), (zgf, zm0), (ziS, zm3), (ziM, zmT), (zh0, zl6), (ze3, zqw), (zf0, zlW), (zhT, zlV), (zh3, zma), (zkM, zm1), (zga, zmE), (ziH, zmM), (zhX, zl2), (zcj, zqS), (ziw, zqT), (zie, zqJ), (ziv, zmv), (ze9, zjp), (zfa, zjq), (zcw, zqz), (zcY, zqN), (zcZ, zmH)]
def G : FuncId -> Option AFn := fun f => Go.Sim.look f tab
theorem zgP : G zf2 = some zjn := tk
theorem zwA : G zcW = some zqm := tk
theorem zF1 : G zcX = some zqt := tk
theorem znc : G zhN = some zlO := tk
theorem zFZ : G zcv = some zqq := tk
theorem zwF : G zfX = some zqp := tk
theorem zwG : G zhL = some zqs := tk
theorem zwB : G zhG = some zlK := tk
theorem zwD : G zhH = some zlL := tk
theorem zF0 : G zhK = some zqr := tk
theorem zjD : G zhI = some zlM := tk
theorem zxe : G ziu = some zmu := tk
theorem zw4 : G zif = some zmk := tk
theorem zrb : G zhM = some zlN := tk
theorem zwE : G zhJ = some zqo := tk
theorem zrg : G zib = some zqG := tk
theorem zw1 : G zh9 = some zmh := tk
theorem zw2 : G zic = some zmi := tk
theorem zrf : G zia = some zqF := tk
theorem zwC : G ze0 = some zqn := tk
theorem zF7 : G zf4 = some zqK := tk
theorem zgR : G zih = some zmn := tk
theorem zgQ : G zig = some zml := tk
theorem zw6 : G zf6 = some zmm := tk
theorem zrh : G zf3 = some zqI := tk
theorem zni : G zid = some zmj := tk
theorem zw3 : G zci = some zqH := tk
theorem zw7 : G zii = some zmo := tk
theorem zw5 : G zf5 = some zqL := tk
theorem zrc : G zhO = some zlP := tk
theorem zeI : G zir = some zqP := tk
theorem zgS : G zis = some zqQ := tk
theorem zF8 : G zik = some zqO := tk
theorem zxa : G zin = some zmr := tk
theorem zw9 : G zim = some zmq := tk
theorem zw8 : G zil = some zmp := tk
theorem zxd : G zit = some zqR := tk
theorem zjI : G zij = some zqM := tk
theorem zxc : G ziq = some zmt := tk
theorem zxb : G zio = some zms := tk
theorem zgU : G zdV = some zjo := tk
theorem zrq : G zdr = some zq2 := tk
theorem zd6 : G zdo = some zqZ := tk
theorem zjJ : G ziy = some zqX := tk
theorem zGc : G zf7 = some zqY := tk
theorem zxk : G zf9 = some zmz := tk
theorem zre : G zek = some zqE := tk
theorem znh : G zh8 = some zmf := tk
theorem zjG : G ze5 = some zqA := tk
theorem zrd : G ze6 = some zqB := tk
theorem zF4 : G zhR = some zqy := tk
theorem zxw : G ziO = some zmX := tk
theorem zxA : G ziR = some zm2 := tk
theorem zwK : G zfY = some zlS := tk
theorem zwR : G zhW = some zl0 := tk
theorem zwO : G zhU = some zlX := tk
theorem zwP : G zf1 = some zlY := tk
theorem zwL : G zhS = some zlT := tk
theorem zwM : G zfZ = some zlU := tk
theorem zF2 : G ze1 = some zqu := tk
theorem zwI : G zhQ = some zlR := tk
theorem zwH : G zhP = some zlQ := tk
theorem zng : G zh2 = some zl9 := tk
theorem zxx : G ziP = some zmY := tk
theorem zry : G ziT = some zm4 := tk
theorem zGg : G zdu = some zq6 := tk
theorem zxu : G zfb = some zq5 := tk
theorem zGe : G zds = some zq3 := tk
theorem zGb : G zcx = some zqU := tk
theorem zrp : G zdq = some zq1 := tk
theorem zgV : G zgc = some zjr := tk
theorem zrl : G zdn = some zmF := tk
theorem zxg : G zix = some zmw := tk
theorem zrs : G zcy = some zjs := tk
theorem zrt : G zen = some zjt := tk
theorem zjP : G zfg = some zjx := tk
theorem zgW : G zfh = some zjz := tk
theorem zxv : G zcz = some zq8 := tk
theorem zru : G zeo = some zju := tk
theorem zjO : G zff = some zjw := tk
theorem znp : G zgg = some zjy := tk
theorem znl : G zel = some zmK := tk
theorem zrr : G zem = some zmR := tk
theorem zjN : G zge = some zmW := tk
theorem zjM : G zfd = some zmV := tk
theorem zxh : G ze7 = some zqV := tk
theorem zgT : G ziB = some zmB := tk
theorem zxi : G ziz = some zmx := tk
theorem zxj : G zf8 = some zmy := tk
theorem zxl : G ziA = some zmA := tk
theorem zdG : G zhY = some zl3 := tk
theorem zwV : G zh1 = some zl7 := tk
theorem znm : G ziN = some zmU := tk
theorem zwW : G zei = some zl8 := tk
theorem zjE : G ze2 = some zqv := tk
theorem zwQ : G zhV = some zlZ := tk
theorem zrA : G ziV = some zm6 := tk
theorem zwS : G zdm = some zl1 := tk
theorem zxn : G ziE = some zmG := tk
theorem zxt : G zgd = some zmS := tk
theorem zGf : G zdt = some zq4 := tk
theorem zGd : G zdp = some zq0 := tk
theorem zxo : G zgb = some zmL := tk
theorem znn : G zfe = some zjv := tk
theorem zjK : G ziF = some zmI := tk
theorem zxp : G ziI = some zmN := tk
theorem zxq : G ziJ = some zmO := tk
theorem zxr : G ziK = some zmP := tk
theorem zxs : G ziL = some zmQ := tk
theorem zrw : G zfc = some zq7 := tk
theorem zxy : G ziQ = some zmZ := tk
theorem zrz : G ziU = some zm5 := tk
theorem zw0 : G zh7 = some zme := tk
theorem zwZ : G zdU = some zqC := tk
theorem zF5 : G zej = some zqD := tk
theorem zjL : G ziG = some zmJ := tk
theorem zrj : G ze8 = some zqW := tk
theorem zxm : G ziC = some zmC := tk
theorem zjH : G zh6 = some zmd := tk
theorem znj : G ziD = some zmD := tk
theorem znf : G zhZ = some zl4 := tk
theorem zwJ : G zdT = some zqx := tk
theorem zrB : G zgh = some zm7 := tk
theorem zwY : G zh4 = some zmb := tk
theorem zb7 : G zh5 = some zmc := tk
theorem zrD : G zgj = some zm9 := tk
theorem zrC : G zgi = some zm8 := tk
theorem zwU : G ze4 = some zl5 := tk
theorem zno : G zgf = some zm0 := tk
theorem zrx : G ziS = some zm3 := tk
theorem zrv : G ziM = some zmT := tk
theorem zjF : G zh0 = some zl6 := tk
theorem zF3 : G ze3 = some zqw := tk
theorem znd : G zf0 = some zlW := tk
theorem zwN : G zhT = some zlV := tk
theorem zwX : G zh3 = some zma := tk
theorem zxz : G zkM = some zm1 := tk
theorem zrk : G zga = some zmE := tk
theorem zro : G ziH = some zmM := tk
theorem zne : G zhX = some zl2 := tk
theorem zF9 : G zcj = some zqS := tk
theorem zGa : G ziw = some zqT := tk
theorem zF6 : G zie = some zqJ := tk
theorem zxf : G ziv = some zmv := tk
theorem znk : G ze9 = some zjp := tk
theorem zrn : G zfa = some zjq := tk
theorem zwT : G zcw = some zqz := tk
theorem zri : G zcY = some zqN := tk
theorem zrm : G zcZ = some zmH := tk
end Go.Proofs.YtfggldgdejjlnaaGreat

namespace Go.Sim
variable {G : FuncId -> Option AFn}
theorem zfG {T : Type} {ks : List Nat} {x : zh} (μ : T -> Nat) (inv : T -> Prop) (st : T -> St) (Q : T -> Option (zJ × St) -> Prop)
    (h : ∀ t, inv t -> ∀ L : St -> Option (zJ × St), (∀ t', inv t' -> μ t' < μ t -> Q t' (L (st t'))) -> Q t ((exL G x (st t)).bind (zbA ks L))) : ∀ t, inv t -> Q t (zT G ks x (st t)) := by
 intro t;generalize hk : μ t = k
 induction k using Nat.strongRecOn generalizing t with
 | ind k ih =>
  intro hi;rw [zbj];exact h t hi _ fun t' hi' hlt => ih (μ t') (by omega) t' rfl hi'
end Go.Sim

namespace Go.Sim
variable {G : FuncId -> Option AFn}
theorem wr {x : Int} (h : -9223372036854775808 <= x /\ x < 9223372036854775808) : IntKind.i64.wrap x = x := by
 rw [Go.IntWalk.i64_in _ (by omega)]
theorem zP7 {x : Int} (h : 0 <= x /\ x < 18446744073709551616) : IntKind.u64.wrap x = x := by rw [Go.IntWalk.u64_in _ (by omega)]
theorem wu8 {x : Int} (h : 0 <= x /\ x < 256) : IntKind.u8.wrap x = x := by rw [Go.IntWalk.u8_in _ (by omega)]
theorem zCI {b : Bool} : (b == true) = b := by cases b <;> rfl
theorem zCH {b : Bool} : (b == false) = !b := by cases b <;> rfl
theorem ltT {a b : Int} (h : a < b) : (a < b) = True := zR2 h
theorem ltF {a b : Int} (h : b <= a) : (a < b) = False := zSx (by omega)
theorem leT {a b : Int} (h : a <= b) : (a <= b) = True := zR2 h
theorem leF {a b : Int} (h : b < a) : (a <= b) = False := zSx (by omega)
theorem eqT {a b : Int} (h : a = b) : (a = b) = True := zR2 h
theorem eqF {a b : Int} (h : ¬ a = b) : (a = b) = False := zSx h
theorem zHT {α : Type} {l : List α} {a : Nat} (h : a < l.length) : (a < l.length) = True := zR2 h
theorem zHS {α : Type} {l : List α} {a : Nat} (h : l.length <= a) : (a < l.length) = False := zSx (by omega)
theorem zHR {α : Type} {l : List α} {c : Nat} (h : l.length <= c) : (l.length <= c) = True := zR2 h
theorem zCj {a b c : Nat} (h : a + b <= c) : (a + b <= c) = True := zR2 h
theorem zHQ {α : Type} {l : List α} {c : Nat} (h : l.length = c) : (l.length = c) = True := zR2 h
theorem zHY : LIM = 4294967296 := rfl
theorem zIk {α β : Type} {f : α -> β} {l : List α} {k : Nat} (h : k < l.length) : (l.map f)[k]? = some (f (l[k]'h)) := by
 rw [zQ7, zQ4 h]; rfl
theorem zPw {k : Nat} : ((k : Int) + 1).toNat = k + 1 := by omega
theorem zsX {ks : List Nat} {x : zh} (n : Nat) (p : Nat -> Bool) (st : Nat -> St) (R fin : zJ × St)
    (h : ∀ k, k <= n -> ∀ L : St -> Option (zJ × St), (exL G x (st k)).bind (zbA ks L) = if k < n then (if p k = true then L (st (k + 1)) else some R) else some fin) :
    zT G ks x (st 0) = some (if (List.range n).all p = true then fin else R) := by
 have key : ∀ m k, k + m = n -> zT G ks x (st k) = some (if ((List.range' k m).all p) = true then fin else R) := by
  intro m
  induction m with
  | zero =>
   intro k hk;rw [zbj, h k (by omega), zQN (by omega)];rfl
  | succ m ih =>
   intro k hk;rw [zbj, h k (by omega), zQO (by omega), zR4, zRL, ih (k + 1) (by omega)]
   cases p k <;> rfl
 have := key n 0 (by omega)
 rwa [<- zTs] at this
theorem zCn {α : Type} [DecidableEq α] {a b : List α} (h : a.length = b.length) : ((List.range a.length).all fun k => decide (a[k]? = b[k]?)) = decide (a = b) := by
 by_cases e : a = b
 · subst e; simp
 · rw [zRw e];apply Bool.eq_false_iff.2;intro hh;apply e;rw [zRb] at hh;apply List.ext_getElem?;intro k
   by_cases hk : k < a.length
   · simpa using hh k (zR3.2 hk)
   · rw [zSE (by omega), zSE (by omega)]
theorem zGj {α : Type} [DecidableEq α] {a b : List α} {k : Nat} (ha : k < a.length) (hb : k < b.length) : decide (a[k]? = b[k]?) = decide (a[k] = b[k]) := by
 rw [zQ4 ha, zQ4 hb]; simp
def zd2 {α : Type} (n : Nat) (p : Nat -> Bool) (R : Nat -> α) (fin : α) : α := match (List.range n).find? p with | some k => R k | none => fin
theorem zdJ {ks : List Nat} {x : zh} (n : Nat) (p : Nat -> Bool) (st : Nat -> St) (R : Nat -> zJ × St) (fin : zJ × St)
    (h : ∀ k, k <= n -> ∀ L : St -> Option (zJ × St), (exL G x (st k)).bind (zbA ks L) = if k < n then (if p k = true then some (R k) else L (st (k + 1))) else some fin) :
    zT G ks x (st 0) = some (zd2 n p R fin) := by
 have key : ∀ m k, k + m = n -> zT G ks x (st k) = some (match (List.range' k m).find? p with | some k => R k | none => fin) := by
  intro m
  induction m with
  | zero =>
   intro k hk;rw [zbj, h k (by omega), zQN (by omega)];rfl
  | succ m ih =>
   intro k hk;rw [zbj, h k (by omega), zQO (by omega), zR4, List.find?_cons, ih (k + 1) (by omega)]
   cases p k <;> rfl
 have := key n 0 (by omega)
 rwa [<- zTs] at this
def zU {α : Type} (p : α -> Bool) (es : List α) : Int := match es.findIdx? p with | some i => i | none => -1
def atB {α : Type} (l : List α) (p : α -> Bool) (k : Nat) : Bool := match l[k]? with | some a => p a | none => false
theorem zFr {α : Type} (l : List α) (p : α -> Bool) : (List.range l.length).find? (atB l p) = l.findIdx? p := by
 have key : ∀ (m k : Nat), k + m = l.length -> (List.range' k m).find? (atB l p) = ((l.drop k).findIdx? p).map (k + ·) := by
  intro m
  induction m with
  | zero => intro k hk; rw [zT5 (by omega)]; rfl
  | succ m ih =>
   intro k hk;rw [zR4, List.find?_cons, zRH (show k < l.length by omega), zTN, ih (k + 1) (by omega)];have : atB l p k = p (l[k]'(by omega)) := by unfold atB; rw [zQ4 (by omega)]
   rw [this]
   cases p (l[k]'(by omega)) with
   | true => simp
   | false =>
    cases (l.drop (k + 1)).findIdx? p with
    | none => rfl
    | some i => simp; omega
 have := key l.length 0 (by omega);rw [<- zTs] at this;rw [this, zRB]
 cases l.findIdx? p <;> simp only [zTS, zRt, zQU]
theorem zb3 {α : Type} {l : List α} {p : α -> Bool} {k : Nat} (h : k < l.length) : atB l p k = p l[k] := by
 unfold atB; rw [zQ4 h]
theorem zeF {α β : Type} (l : List α) (p : α -> Bool) (R : Nat -> β) (fin : β) : zd2 l.length (atB l p) R fin = match l.findIdx? p with | some k => R k | none => fin := by
 unfold zd2; rw [zFr]
theorem zjT {α : Type} (l : List α) (p : α -> Bool) : decide (0 <= zU p l) = l.any p := by
 unfold zU
 cases h : l.findIdx? p with
 | none => simp at h; simpa using h
 | some i =>
  have := zRR.1 h;simp;exact ⟨_, zRe this.1, this.2.1⟩
theorem znA {α : Type} (l : List α) (p : α -> Bool) : -1 <= zU p l /\ zU p l < l.length := by
 unfold zU
 cases e : l.findIdx? p with
 | none => simp only; omega
 | some i => have := (zRR.1 e).1; simp only; omega
theorem zsi {α : Type} {l : List α} {p : α -> Bool} {i : Nat} (h : zU p l = i) : ∃ hi : i < l.length, p (l[i]) = true /\ ∀ j (hj : j < i), p (l[j]'(by omega)) = false := by
 unfold zU at h
 cases e : l.findIdx? p with
 | none => rw [e] at h; simp only at h; omega
 | some k =>
  rw [e] at h;simp only at h;obtain rfl : k = i := by omega
  obtain ⟨h1, h2, h3⟩ := zRR.1 e;exact ⟨h1, h2, fun j hj => by have := h3 j hj; simpa using this⟩
theorem zjU {α : Type} (l : List α) (p : α -> Bool) : zU p l < 0 ↔ ∀ a ∈ l, p a = false := by
 have := zjT l p;have h2 : l.any p = false ↔ ∀ a ∈ l, p a = false := by simp
 rw [<- h2, <- this];simp
end Go.Sim

namespace Go.Sim
theorem za {α : Type} {l : List α} {k : Nat} {d : α} (h : k < l.length) : l.getD k d = l[k]'h := by
 rw [zRl, zQ4 h]; rfl
theorem setMap {α β : Type} {f : α -> β} {l : List α} {k : Nat} {x : α} : (l.map f).set k (f x) = (l.set k x).map f := by rw [zRN]
theorem zIl {α β γ : Type} {f : α -> β} {g : β -> γ} {l : List α} {k : Nat} (h : k < l.length) : ((l.map f).map g)[k]? = some (g (f (l[k]'h))) := by
 rw [zSt, zQ7, zQ4 h]; rfl
theorem zHU {α : Type} {l : List α} {k : Nat} {x : α} : (l.set k x).length = l.length := zRS
theorem zC {α : Type} {f : α -> D} {l : List α} {k : Nat} {x : α} : (l.set k x).map f = (l.map f).set k (f x) := by rw [zRN]
theorem ztB {ds : List D} {k : Nat} {x : D} : (ds.map AV.d).set k (.d x) = (ds.set k x).map AV.d := by rw [zRN]
theorem zK {α : Type} {c : Prop} [Decidable c] {A B r : α} (h1 : c -> A = r) (h2 : ¬ c -> B = r) : (if c then A else B) = r := by split <;> simp_all
theorem zPf {ds : List D} {n : Nat} : (ds.map AV.d).take n = (ds.take n).map AV.d := by rw [zRY]
theorem zEd {ds : List D} {n : Nat} : (ds.map AV.d).drop n = (ds.drop n).map AV.d := by rw [zSO]
theorem zPh {α : Type} {f : α -> D} {l : List α} {n k : Nat} {x : D} (h : l.length <= n) : ((l.map f).set k x).take n = (l.map f).set k x := zRy (by simpa using h)
theorem zPe {α : Type} {f : α -> D} {l : List α} {n : Nat} (h : l.length <= n) : (l.map f).take n = l.map f := zRy (by simpa using h)
theorem zN {α : Type} {c : Prop} [Decidable c] {A B r : α} (h1 : c -> r = A) (h2 : ¬ c -> r = B) : r = if c then A else B := by split <;> simp_all
attribute [go_sem ↓] reduceIte
attribute [go_sem] reduceCtorEq Nat.reduceEqDiff Nat.reduceAdd Nat.reduceBEq Nat.reduceMul Nat.reduceLeDiff Nat.reduceSub Nat.reduceLT Nat.reduceDiv Nat.reduceMod List.reduceReplicate Int.reduceEq Int.reduceLT Int.reduceLE Int.reduceAdd Int.reduceSub Int.reduceMul Int.reduceNeg Int.reduceToNat
attribute [go_sem] zPw zPf zEd zPh zPe zHU zC ztB zIl wr or_self or_false false_or true_or or_true zS5 zS4 zQ5 zQ0 zQW zQT zHY zP7 wu8 Bool.true_beq Bool.false_beq zCI zCH zQ2 zQZ ltT ltF leT leF eqT eqF zHT zHS zHR zCj zHQ zIk zRo Int.natCast_nonneg zQV
theorem pA {a b : Bool} : ((a || b) = true) = (a = true \/ b = true) := zRM a b
theorem pB {a b : Bool} : ((a && b) = true) = (a = true /\ b = true) := zQ8 a b
theorem pC {p : Prop} [Decidable p] : (decide p = true) = p := decide_eq_true_eq
theorem pD {a : Bool} : ((!a) = true) = (a = false) := zRP a
theorem pE {p : Prop} [Decidable p] : (decide p = false) = ¬ p := by simp
theorem pF {p q : Prop} : (¬ (p \/ q)) = (¬ p /\ ¬ q) := by simp
theorem pG {a b : Int} : (¬ a < b) = (b <= a) := by simp
theorem pH {a b : Int} : (¬ a <= b) = (b < a) := by simp
theorem pI {a b : Nat} : (¬ a < b) = (b <= a) := by simp
theorem pJ {a b : Nat} : (¬ a <= b) = (b < a) := by simp
theorem pK {a b : Bool} : ((a || b) = false) = (a = false /\ b = false) := by simp
theorem pL {a b : Bool} : ((a && b) = false) = (a = false \/ b = false) := by cases a <;> cases b <;> simp
theorem pM {a : Bool} : ((!a) = false) = (a = true) := by simp
theorem pN : (true = false) = False := by simp
theorem pO : (false = true) = False := by simp
theorem pP {p : Prop} : (¬ ¬ p) = p := by simp
end Go.Sim

namespace Go.Proofs.YtfggldgdejjlnaaGreat
open Go Go.Sim
abbrev zy (l : List Int) : List D := l.map (.int .i64)
theorem zkS (l : List Int) : zao 1 (zy l) = true := by simp [zao, D.size, D.cells]
abbrev Due := Int × Int
def eD (d : Due) : D := .agg [.int .i64 d.1, .int .i64 d.2]
theorem zEj (d : Due) : (eD d).cells = [.int .i64 d.1, .int .i64 d.2] := rfl
theorem zft (d : Due) : (eD d).size = 2 := rfl
theorem zgI (d : Due) : (eD d).asAgg = eD d := rfl
theorem zEk (d : Due) : (eD d).isT = false := rfl
theorem zc2 (h : List Due) : zao 2 (h.map eD) = true := by simp [zao, zft]
structure Span where
 low : Int
 high : Int
 shard : Int
 deriving DecidableEq
def zQD : Span := ⟨0, 0, 0⟩
instance : Inhabited Span := ⟨zQD⟩
structure zhD where
 version : Int
 l : List Span
 forward : List Int
 deriving DecidableEq
def zQo : zhD := ⟨0, [], []⟩
instance : Inhabited zhD := ⟨zQo⟩
structure zoX where
 kind : Int
 from_ : Int
 to : Int
 mid : Int
 deriving DecidableEq
def zQp : zoX := ⟨0, 0, 0, 0⟩
instance : Inhabited zoX := ⟨zQp⟩
structure zkN where
 slots : Int
 live : Int
 capacity : Int
 dead : Int
 limit : Int
 clock : Int
 nextID : Int
 epoch : Int
 deriving DecidableEq
def zQA : zkN := ⟨0, 0, 0, 0, 0, 0, 0, 0⟩
instance : Inhabited zkN := ⟨zQA⟩
structure Message where
 id : Int
 route : Int
 epoch : Int
 count : Int
 gen : Int
 sent : Int
 body : List UInt8
 deriving DecidableEq
def zu : Message := ⟨0, 0, 0, 0, 0, 0, []⟩
instance : Inhabited Message := ⟨zu⟩
def zg (x : Message) : D := .agg [.int .i64 x.id, .int .i64 x.route, .int .i64 x.epoch, .int .i64 x.count, .int .i64 x.gen, .int .i64 x.sent, .str x.body]
theorem zEm (x : Message) : (zg x).cells = [.int .i64 x.id, .int .i64 x.route, .int .i64 x.epoch, .int .i64 x.count, .int .i64 x.gen, .int .i64 x.sent, .str x.body] := rfl
theorem zqg (x : Message) : (zg x).size = 7 := rfl
theorem zwg (x : Message) : (zg x).asAgg = zg x := rfl
theorem zwh (x : Message) : (zg x).isT = false := rfl
theorem zpc (l : List Message) : zao 7 (l.map zg) = true := by simp [zao, zqg]
structure z9 where
 cells : List Message
 head : Int
 size : Int
 deriving DecidableEq
def zdl : z9 := ⟨[], 0, 0⟩
instance : Inhabited z9 := ⟨zdl⟩
def zA (x : z9) : D := .agg [.sl (x.cells.map zg), .int .i64 x.head, .int .i64 x.size]
structure Lease where
 msg : Message
 deadline : Int
 deriving DecidableEq
def zax : Lease := ⟨⟨0, 0, 0, 0, 0, 0, []⟩, 0⟩
instance : Inhabited Lease := ⟨zax⟩
def zt (x : Lease) : D := .agg [.int .i64 x.msg.id, .int .i64 x.msg.route, .int .i64 x.msg.epoch, .int .i64 x.msg.count, .int .i64 x.msg.gen, .int .i64 x.msg.sent, .str x.msg.body, .int .i64 x.deadline]
theorem zEl (x : Lease) : (zt x).cells = [.int .i64 x.msg.id, .int .i64 x.msg.route, .int .i64 x.msg.epoch, .int .i64 x.msg.count, .int .i64 x.msg.gen, .int .i64 x.msg.sent, .str x.msg.body, .int .i64 x.deadline] := rfl
theorem zqf (x : Lease) : (zt x).size = 8 := rfl
theorem zwe (x : Lease) : (zt x).asAgg = zt x := rfl
theorem zwf (x : Lease) : (zt x).isT = false := rfl
theorem zkR (l : List Lease) : zao 8 (l.map zt) = true := by simp [zao, zqf]
structure Table where
 l : List Lease
 heap : List Due
 deriving DecidableEq
def zP : Table := ⟨[], []⟩
instance : Inhabited Table := ⟨zP⟩
def zO (x : Table) : D := .agg [.sl (x.l.map zt), .sl (x.heap.map eD)]
theorem zEo (x : Table) : (zO x).cells = [.sl (x.l.map zt), .sl (x.heap.map eD)] := rfl
theorem zEq (x : Table) : (zO x).size = 2 := rfl
theorem zEn (x : Table) : (zO x).asAgg = zO x := rfl
theorem zEp (x : Table) : (zO x).isT = false := rfl
structure Shard where
 live : Bool
 low : Int
 high : Int
 ready : z9
 leases : Table
 deriving DecidableEq
def zam : Shard := ⟨false, 0, 0, ⟨[], 0, 0⟩, ⟨[], []⟩⟩
instance : Inhabited Shard := ⟨zam⟩
def zj (x : Shard) : D := .agg [.bool x.live, .int .i64 x.low, .int .i64 x.high, .sl (x.ready.cells.map zg), .int .i64 x.ready.head, .int .i64 x.ready.size, .sl (x.leases.l.map zt), .sl (x.leases.heap.map eD)]
structure zo3 where
 owner : Int
 shard : Shard
 deriving DecidableEq
def zQB : zo3 := ⟨0, ⟨false, 0, 0, ⟨[], 0, 0⟩, ⟨[], []⟩⟩⟩
instance : Inhabited zo3 := ⟨zQB⟩
structure zgl where
 seq : Int
 epoch : Int
 ready : Int
 leased : Int
 deriving DecidableEq
def zQE : zgl := ⟨0, 0, 0, 0⟩
instance : Inhabited zgl := ⟨zQE⟩
structure zhC where
 cap : Int
 l : List Message
 deriving DecidableEq
def zQm : zhC := ⟨0, []⟩
instance : Inhabited zhC := ⟨zQm⟩
structure zoW where
 owner : Int
 dead : zhC
 deriving DecidableEq
def zQn : zoW := ⟨0, ⟨0, []⟩⟩
instance : Inhabited zoW := ⟨zQn⟩
structure zkI where
 slots : List zo3
 stripes : List zgl
 dead : zoW
 dir : zhD
 epoch : Int
 clock : Int
 nextID : Int
 deriving DecidableEq
def zQj : zkI := ⟨[], [], ⟨0, ⟨0, []⟩⟩, ⟨0, [], []⟩, 0, 0, 0⟩
instance : Inhabited zkI := ⟨zQj⟩
structure zo4 where
 phase : Int
 epoch : Int
 clock : Int
 stamp : Int
 deriving DecidableEq
def zQC : zo4 := ⟨0, 0, 0, 0⟩
instance : Inhabited zo4 := ⟨zQC⟩
structure zkL where
 kind : Int
 home : Int
 max : Int
 visibility : Int
 from_ : Int
 to : Int
 zcB : List (List UInt8)
 tokens : List (List UInt8)
 deriving DecidableEq
def zQt : zkL := ⟨0, 0, 0, 0, 0, 0, [], []⟩
instance : Inhabited zkL := ⟨zQt⟩
structure Result where
 err : Int
 id : Int
 tokens : List (List UInt8)
 zcB : List (List UInt8)
 ready : Int
 leased : Int
 moved : Int
 deriving DecidableEq
def zQy : Result := ⟨0, 0, [], [], 0, 0, 0⟩
instance : Inhabited Result := ⟨zQy⟩
structure zo0 where
 cells : List Int
 phase : Int
 have_ : Int
 tries : Int
 wait : Int
 deriving DecidableEq
def zQv : zo0 := ⟨[], 0, 0, 0, 0⟩
instance : Inhabited zo0 := ⟨zQv⟩
structure zo1 where
 shards : List Shard
 dead : zhC
 order : List Int
 carry : List Message
 edits : List zoX
 deriving DecidableEq
def zQw : zo1 := ⟨[], ⟨0, []⟩, [], [], []⟩
instance : Inhabited zo1 := ⟨zQw⟩
structure zo2 where
 phase : Int
 at_ : Int
 lock : zo0
 snap : zo4
 shards : List Shard
 dead : zhC
 stripes : List zgl
 dir : zhD
 out : zo1
 limit : Int
 carry : List Message
 deriving DecidableEq
def zQz : zo2 := ⟨0, 0, ⟨[], 0, 0, 0, 0⟩, ⟨0, 0, 0, 0⟩, [], ⟨0, []⟩, [], ⟨0, [], []⟩, ⟨[], ⟨0, []⟩, [], [], []⟩, 0, []⟩
instance : Inhabited zo2 := ⟨zQz⟩
structure Walk where
 next : Int
 covered : Int
 deriving DecidableEq
def zQG : Walk := ⟨0, 0⟩
instance : Inhabited Walk := ⟨zQG⟩
structure zch where
 id : Int
 gen : Int
 route : Int
 hint : Int
 deriving DecidableEq
def zQs : zch := ⟨0, 0, 0, 0⟩
instance : Inhabited zch := ⟨zQs⟩
def zgJ (x : zch) : D := .agg [.int .i64 x.id, .int .i64 x.gen, .int .i64 x.route, .int .i64 x.hint]
structure zo6 where
 number : Int
 inv : zkL
 invoked : Int
 done : Bool
 ended : Int
 pc : Int
 entry : Int
 results : List Result
 setup : zkN
 sec : zo2
 dir : zhD
 walk : Walk
 slot : Int
 id : Int
 handle : zch
 loaded : Int
 first : List zgl
 second : List zgl
 deriving DecidableEq
def zQF : zo6 := ⟨0, ⟨0, 0, 0, 0, 0, 0, [], []⟩, 0, false, 0, 0, 0, [], ⟨0, 0, 0, 0, 0, 0, 0, 0⟩, ⟨0, 0, ⟨[], 0, 0, 0, 0⟩, ⟨0, 0, 0, 0⟩, [], ⟨0, []⟩, [], ⟨0, [], []⟩, ⟨[], ⟨0, []⟩, [], [], []⟩, 0, []⟩, ⟨0, [], []⟩, ⟨0, 0⟩, 0, 0, ⟨0, 0, 0, 0⟩, 0, [], []⟩
instance : Inhabited zo6 := ⟨zQF⟩
structure zoZ where
 id : Int
 state : Int
 count : Int
 gen : Int
 route : Int
 deadline : Int
 deriving DecidableEq
def zQu : zoZ := ⟨0, 0, 0, 0, 0, 0⟩
instance : Inhabited zoZ := ⟨zQu⟩
structure Bag where
 limit : Int
 now : Int
 epoch : Int
 l : List zoZ
 deriving DecidableEq
def zQk : Bag := ⟨0, 0, 0, []⟩
instance : Inhabited Bag := ⟨zQk⟩
structure Grant where
 id : Int
 gen : Int
 route : Int
 deadline : Int
 deriving DecidableEq
def zQr : Grant := ⟨0, 0, 0, 0⟩
instance : Inhabited Grant := ⟨zQr⟩
structure zoY where
 stamp : Int
 task : Int
 entry : Int
 kind : Int
 now : Int
 epoch : Int
 err : Int
 l : List Grant
 ready : Int
 leased : Int
 deriving DecidableEq
def zQq : zoY := ⟨0, 0, 0, 0, 0, 0, 0, [], 0, 0⟩
instance : Inhabited zoY := ⟨zQq⟩
structure World where
 setup : zkN
 arena : zkI
 tasks : List zo6
 log : List zoY
 steps : Int
 handles : List (List UInt8)
 deriving DecidableEq
def zQH : World := ⟨⟨0, 0, 0, 0, 0, 0, 0, 0⟩, ⟨[], [], ⟨0, ⟨0, []⟩⟩, ⟨0, [], []⟩, 0, 0, 0⟩, [], [], 0, []⟩
instance : Inhabited World := ⟨zQH⟩
structure Ref where
 index : Int
 variant : Int
 raw : List UInt8
 deriving DecidableEq
def zQx : Ref := ⟨0, 0, []⟩
instance : Inhabited Ref := ⟨zQx⟩
structure zt9 where
 kind : Int
 pick : Int
 by_ : Int
 inv : zkL
 refs : List Ref
 deriving DecidableEq
def zQl : zt9 := ⟨0, 0, 0, ⟨0, 0, 0, 0, 0, 0, [], []⟩, []⟩
instance : Inhabited zt9 := ⟨zQl⟩
attribute [go_sem] zkS zEj zft zgI zEk zc2 zEm zqg zwg zwh zpc zEl zqf zwe zwf zkR zEo zEq zEn zEp
theorem zkF {k n : Nat} (h : k < n) (hn : n <= LIM) : IntKind.i64.wrap ((k : Int) + 1) = ((k + 1 : Nat) : Int) := by
 unfold LIM at hn; rw [Go.IntWalk.i64_in _ (by omega)]; simp
theorem zHi (n : Int) : zd G zhQ [.d (.int .i64 n)] [] = some (.d (.bool false), []) := by
 rw [ze zwI (by simp)]; simp -implicitDefEqProofs only [zuI, go_sem]
def za1 (a b : Int) : Int := if a < b then -1 else if b < a then 1 else 0
theorem zvX (a b : Int) : zd G ze1 [.d (.int .i64 a), .d (.int .i64 b)] [] = some (.d (.int .i64 (za1 a b)), []) := by
 rw [ze zF2 (by simp)]; simp -implicitDefEqProofs only [zuG, go_sem];simp -implicitDefEqProofs only [zHi, za1, go_sem]
 repeat' split
 all_goals simp_all
def zd3 : List Int -> Int
 | [] => 0
 | x :: l => if x = 0 then zd3 l else x
def orR (l : List Int) (k : Nat) : zJ × St :=
 if zd3 (l.drop k) = 0 then (.exit 0, ⟨[(3, .d (.int .i64 0))], []⟩)
 else (.ret, ⟨[(2, .d (.int .i64 (zd3 (l.drop k))))], []⟩)
theorem zL8 (l : List Int) (hL : l.length <= LIM) : ∀ k, k <= l.length -> zT G [] zso ⟨[(3, .d (.int .i64 0)), (6, .d (.sl (l.map (.int .i64)))), (7, .d (.int .i64 l.length)), (8, .d (.int .i64 k))], []⟩ = some (orR l k) := by
 refine zap (fun k => l.length - k) (fun k => k <= l.length) _ _ fun k hk L ih => ?_;simp only [zso]
 by_cases hlt : k < l.length
 · have i1 := ih (k + 1) (by omega) (by omega);unfold orR at i1 ⊢;rw [zRH hlt, zd3];clear ih;have hL2 : l.length <= 4294967296 := hL;simp only [zQ2, zQZ, zQW, zQ5, zQ0, zQT, zQV, zQR, zQ1, zQY, zQS, zQX, zQU, zo, zC] at i1;generalize zd3 (l.drop (k + 1)) = z at *
   by_cases h : l[k] = 0
   · by_cases hz : z = 0
     · rw [zQO hz] at i1;rw [zQO (by rw [zQO h]; exact hz)];simp -implicitDefEqProofs (disch := omega) only [za, go_sem, *]
     · rw [zQN hz] at i1;rw [zQN (by rw [zQO h]; exact hz), zQO h];simp -implicitDefEqProofs (disch := omega) only [za, go_sem, *]
   · rw [zQN (by rw [zQN h]; exact h), zQN h];simp -implicitDefEqProofs (disch := omega) only [za, go_sem, *]
 · have : k = l.length := by omega
   subst this;clear ih;simp only [orR, zRZ, zd3, if_true];simp -implicitDefEqProofs (disch := omega) only [za, go_sem, *]
theorem zL9 (l : List Int) (hL : l.length <= LIM) : zd G zhP [.d (.sl (l.map (.int .i64)))] [] = some (.d (.int .i64 (zd3 l)), []) := by
 rw [ze zwH (by simp)]; simp -implicitDefEqProofs only [zuH, go_sem]
 try rw [zQV]
 have := zL8 l hL 0 (by omega);simp only [zQW] at this;rw [this];unfold orR;simp only [zRB]
 by_cases h : zd3 l = 0 <;> simp -implicitDefEqProofs only [h, go_sem]
def zgC (a b : Due) : Int := if za1 a.1 b.1 = 0 then za1 a.2 b.2 else za1 a.1 b.1
def lt (a b : Due) : Bool := decide (zgC a b < 0)
theorem zwc (a b : Due) : zd G zfZ [.d (eD a), .d (eD b)] [] = some (.d (.int .i64 (zgC a b)), []) := by
 have h := zL9 [za1 a.1 b.1, za1 a.2 b.2] (by simp [LIM]);simp only [zQS, zQR] at h;rw [ze zwM (by simp)]; simp -implicitDefEqProofs only [zuN, go_sem];simp -implicitDefEqProofs only [eD, zvX, h, go_sem];simp only [zd3, zgC]
 by_cases h1 : za1 a.1 b.1 = 0 <;> by_cases h2 : za1 a.2 b.2 = 0 <;> simp [h1, h2]
theorem zi1 (h : List Due) (i j : Nat) (hi : i < h.length) (hj : j < h.length) : zd G zhS [.d (.sl (h.map eD)), .d (.int .i64 i), .d (.int .i64 j)] [] = some (.d (.bool (lt h[i] h[j])), []) := by
 rw [ze zwL (by simp)]; simp -implicitDefEqProofs only [zuM, go_sem];simp -implicitDefEqProofs only [show (0 : Int) <= (i : Int) by omega, show (0 : Int) <= (j : Int) by omega, zRo, zQ7, zQ4 hi, zQ4 hj, zft, zgI, zwc, go_sem];rfl
def zaY (d : Due) : Bool := decide (0 <= d.1) && (decide (d.1 <= 1073741824) && (decide (1 <= d.2) && decide (d.2 <= 1073741824)))
theorem zBU (d : Due) : zd G zhW [.d (eD d)] [] = some (.d (.bool (zaY d)), []) := by
 simp only [eD];rw [ze zwR (by simp)]; simp -implicitDefEqProofs only [zuS, go_sem];rfl
theorem zFk (d : Due) (j : Int) : zd G zf1 [.d (eD d), .d (.pd (.int .i64 j))] [] = some (.d (.bool (decide (d.2 = j))), []) := by
 simp only [eD];rw [ze zwP (by simp)]; simp -implicitDefEqProofs only [zuQ, go_sem]
theorem zGX {α β : Type} (p : β -> Bool) (f : α -> β) (es : List α) : zU p (es.map f) = zU (fun x => p (f x)) es := by
 unfold zU; rw [List.findIdx?_map]; rfl
def znB (es : List D) (g : Nat) (cs : List D) (p : D -> Bool) (k : Nat) : zJ × St := match (es.drop k).findIdx? p with | some i => (.ret, ⟨[(4, .d (.int .i64 ((k + i : Nat) : Int)))], []⟩) | none => (.exit 0, ⟨[], []⟩)
theorem zGY (es : List D) (g : Nat) (cs : List D) (p : D -> Bool) (hL : es.length <= LIM) (hs : ∀ e ∈ es, e.size = 2) (hp : ∀ e ∈ es, zd G g (.d e.asAgg :: cs.map .d) [] = some (.d (.bool (p e)), [])) : ∀ k, k <= es.length ->
    zT G [] zsI ⟨[(0, .d (.sl es)), (1, .d (.fn g cs)), (7, .d (.int .i64 es.length)), (8, .d (.int .i64 k))], []⟩ = some (znB es g cs p k) := by
 refine zap (fun k => es.length - k) (fun k => k <= es.length) _ _ fun k hk L ih => ?_;simp only [zsI]
 by_cases hlt : k < es.length
 · have h1 := hp es[k] (by simp);have h2 := hs es[k] (by simp);have i1 := ih (k + 1) (by omega) (by omega);have hL2 : es.length <= 4294967296 := hL;have h3 : es[k]? = some es[k] := zQ4 hlt;unfold znB at i1 ⊢;rw [zRH hlt, zTN];clear ih hp hs
   cases hpe : p es[k] with
   | true =>
    rw [hpe] at h1;simp only [if_true];clear i1;simp -implicitDefEqProofs (disch := omega) only [za, go_sem, *]
   | false =>
    rw [hpe] at h1
    cases hf : (es.drop (k + 1)).findIdx? p with
    | none =>
     rw [hf] at i1;simp only [zQ2, zQZ, zQW, zQ5, zQ0, zQT, zQV, zQR, zQ1, zQY, zQS, zQX, zQU, zo, zC] at i1;simp only [zTS, if_false, zRa];simp -implicitDefEqProofs (disch := omega) only [za, go_sem, *]
    | some i =>
     rw [hf] at i1;simp only [zQ2, zQZ, zQW, zQ5, zQ0, zQT, zQV, zQR, zQ1, zQY, zQS, zQX, zQU, zo, zC] at i1;simp only [zRt, if_false, zRa];rw [show ((k + (i + 1) : Nat) : Int) = (k : Int) + 1 + i by omega];simp -implicitDefEqProofs (disch := omega) only [za, go_sem, *]
 · have : k = es.length := by omega
   subst this;clear ih;simp only [znB, zRZ, List.findIdx?_nil];simp -implicitDefEqProofs (disch := omega) only [za, go_sem, *]
theorem zzq (es : List D) (g : Nat) (cs : List D) (p : D -> Bool) (hL : es.length <= LIM) (hs : ∀ e ∈ es, e.size = 2) (hp : ∀ e ∈ es, zd G g (.d e.asAgg :: cs.map .d) [] = some (.d (.bool (p e)), [])) : zd G ziR [.d (.sl es), .d (.fn g cs)] [] = some (.d (.int .i64 (zU p es)), []) := by
 rw [ze zxA (by simp)]; simp -implicitDefEqProofs only [zvJ, go_sem];have := zGY es g cs p hL hs hp 0 (by omega);simp only [zQW] at this;rw [this];unfold znB zU;simp only [zRB, zQU]
 cases es.findIdx? p <;> simp -implicitDefEqProofs only [go_sem]
theorem zDn (es : List D) (g : Nat) (cs : List D) (p : D -> Bool) (hL : es.length <= LIM) (hs : ∀ e ∈ es, e.size = 2) (hp : ∀ e ∈ es, zd G g (.d e.asAgg :: cs.map .d) [] = some (.d (.bool (p e)), [])) : zd G ziO [.d (.sl es), .d (.fn g cs)] [] = some (.d (.bool (es.any p)), []) := by
 rw [ze zxw (by simp)]; simp -implicitDefEqProofs only [zvG, go_sem];simp -implicitDefEqProofs only [zzq es g cs p hL hs hp, go_sem];unfold zU
 cases h : es.findIdx? p with
 | none => simp at h; simpa using h
 | some i =>
  have := zRR.1 h;simp;exact ⟨_, zRe this.1, this.2.1⟩
def zOy (j : Int) : D -> Bool
 | .agg [_, .int _ n] => decide (n = j)
 | _ => false
def zaj (h : List Due) (j : Int) : Int := zU (fun d => decide (d.2 = j)) h
theorem find_ok (h : List Due) (j : Int) (hL : h.length <= LIM) : zd G zhU [.d (.sl (h.map eD)), .d (.int .i64 j)] [] = some (.d (.int .i64 (zaj h j)), []) := by
 have hk := zzq (h.map eD) zf1 [.pd (.int .i64 j)] (zOy j) (by simpa using hL) (fun e he => by obtain ⟨d, _, rfl⟩ := zQ3.1 he; rfl) (fun e he => by
  obtain ⟨d, _, rfl⟩ := zQ3.1 he;exact zFk d j)
 rw [zGX] at hk;rw [ze zwO (by simp)]; simp -implicitDefEqProofs only [zuP, go_sem];simp -implicitDefEqProofs only [hk, go_sem];rfl
theorem zB7 (d : Due) : zd G zfY [.d (eD d)] [] = some (.d (.bool (!zaY d)), []) := by
 have h := zBU d;simp only [eD] at h ⊢;rw [ze zwK (by simp)]; simp -implicitDefEqProofs only [zuL, go_sem];simp -implicitDefEqProofs only [h, go_sem]
theorem zoT {x : Int} (h0 : -4294967296 <= x) (h1 : x <= 4294967296) : IntKind.i64.wrap x = x := wr (by omega)
abbrev zo (l : List Int) (a : Nat) : Go.Sim.Obj := .row [.d (.agg [.sl (zy l), .int .i64 a])]
theorem zIO (l : List Int) (hL : l.length <= LIM) : zd G zcW [.d (.sl (zy l))] [] = some (.ref 0 0 0, [(0, zo (l.take 4000) 0)]) := by
 have hs := zkS l
 by_cases h : 4000 < l.length
 · have e : zy (l.take 4000) = (zy l).take 4000 := by simp [zy, zRY]
   simp only [zo, e];rw [ze zwA (by simp)]; simp -implicitDefEqProofs (disch := omega) only [zpt, za, go_sem, *]
 · have e : l.take 4000 = l := zRy (by omega);simp only [zo, e];rw [ze zwA (by simp)]; simp -implicitDefEqProofs (disch := omega) only [zpt, za, go_sem, *]
def zaB (l : List Int) (a : Nat) : Int × Nat := if a < l.length then (l.getD a 0, a + 1) else (0, a)
theorem zM6 (l : List Int) (a : Nat) (hL : l.length <= 4000) : zd G zhL [.ref 1000000 0 0] [(1000000, zo l a)] = some (.d (.int .i64 (zaB l a).1), [(1000000, zo l (zaB l a).2)]) := by
 unfold zaB;have e : ((a : Int) + 1 - 1).toNat = a := by omega
 by_cases h : a < l.length
 · simp only [h, if_true];rw [ze zwG (by simp)]; simp -implicitDefEqProofs (disch := omega) only [zpx, e, za, go_sem, *]; (try simp only [pA, pB, pC, pD, pE, pF, pG, pH, pI, pJ, pK, pL, pM, pN, pO, pP, if_true, if_false]); repeat' (first | done | rfl | ((first | refine zK (fun hq => ?_) (fun hq => ?_) | refine zM (fun hq => ?_) (fun hq => ?_)) <;> (try (first | (exfalso; omega) | contradiction)) <;> (try simp -implicitDefEqProofs (disch := omega) only [e, za, go_sem, *]) <;> (try simp only [pA, pB, pC, pD, pE, pF, pG, pH, pI, pJ, pK, pL, pM, pN, pO, pP, if_true, if_false]))); (all_goals try rfl); (all_goals try (repeat' (first | done | rfl | (exfalso; omega) | contradiction | (refine zN (fun hq => ?_) (fun hq => ?_)))))
 · simp only [h, if_false];rw [ze zwG (by simp)]; simp -implicitDefEqProofs (disch := omega) only [zpx, za, go_sem, *]
def nD (l : List Int) (a : Nat) (n : Int) : Int := if (zaB l a).1.tmod n < 0 then (zaB l a).1.tmod n + n else (zaB l a).1.tmod n
theorem zbL (l : List Int) (a : Nat) {n : Int} (h : 1 <= n) : 0 <= nD l a n /\ nD l a n < n := by
 unfold nD;have h1 := zTz (zaB l a).1 (show 0 < n by omega);have h2 := Int.lt_tmod_of_pos (zaB l a).1 (show 0 < n by omega)
 split <;> omega
theorem zcN (l : List Int) (a : Nat) (n : Int) (hL : l.length <= 4000) (h1 : 1 <= n) (h2 : n <= 4294967296) : zd G zfX [.ref 1000000 0 0, .d (.int .i64 n)] [(1000000, zo l a)] = some (.d (.int .i64 (nD l a n)), [(1000000, zo l (zaB l a).2)]) := by
 have hr := zM6 l a hL;have h3 := zTz (zaB l a).1 (show 0 < n by omega);have h4 := Int.lt_tmod_of_pos (zaB l a).1 (show 0 < n by omega);unfold nD
 by_cases h : (zaB l a).1.tmod n < 0
 · simp only [h, if_true];rw [ze zwF (by simp)]; simp -implicitDefEqProofs (disch := omega) only [zpw, za, go_sem, *]
 · simp only [h, if_false];rw [ze zwF (by simp)]; simp -implicitDefEqProofs (disch := omega) only [zpw, za, go_sem, *]
theorem zAQ (l : List Int) (a : Nat) (lo hi : Int) (hL : l.length <= 4000) (h0 : -4294967296 <= lo) (h1 : lo <= hi) (h2 : hi <= 4294967296) (h3 : hi - lo < 4294967296) : zd G zhK [.ref 1000000 0 0, .d (.int .i64 lo), .d (.int .i64 hi)] [(1000000, zo l a)] = some (.d (.int .i64 (lo + nD l a (hi - lo + 1))), [(1000000, zo l (zaB l a).2)]) := by
 have hr := zcN l a (hi - lo + 1) hL (by omega) (by omega);have hn := zbL l a (show 1 <= hi - lo + 1 by omega);rw [ze zF0 (by simp)]; simp -implicitDefEqProofs (disch := omega) only [zuE, za, go_sem, *]
theorem zp0 (es : List D) (hs : zao 2 es = true) (hL : es.length <= 4294967296) : zd G zfd [.d (.sl es)] [] = some (.acc 0 es, [(0, .acc es.length)]) := by
 cases es with
 | nil =>
  refine zjc zjM (by decide) ?_ ?_
  · simp -implicitDefEqProofs only [zfo, go_sem]
  · simp -implicitDefEqProofs only [zfo, zSa, go_sem]
 | cons e es =>
  rw [zjb zjM (by simp) (by decide)];simp only [zgn] at hs;simp only [zQX] at hL;simp -implicitDefEqProofs (disch := omega) only [zfo, go_sem, *]
theorem zp2 (es : List D) (hs : zao 2 es = true) (hL : es.length <= LIM) : zd G zfd [.d (.sl es)] [] = some (.acc 0 es, [(0, .acc es.length)]) := zp0 es hs hL
def zzs : D -> Bool
 | .agg [.int _ t, .int _ i] => !zaY (t, i)
 | _ => false
def zco (h : List Due) (i : Nat) : Bool := decide (zaj h (h.getD i (0, 0)).2 ≠ i)
def zcO (h : List Due) (i : Nat) : Bool := lt (h.getD i (0, 0)) (h.getD ((i - 1) / 2) (0, 0))
def zaH (h : List Due) : Int := if 12 < h.length then 2 else if h.any (fun d => !zaY d) then 1 else if (List.range' 0 h.length).any (zco h) then 10 else if (List.range' 1 (h.length - 1)).any (zcO h) then 11 else 0
def zoP (h : List Due) (k : Nat) : zJ × St :=
 if (List.range' k (h.length - k)).any (zco h) then (.ret, ⟨[(2, .d (.int .i64 10))], []⟩)
 else (.exit 0, ⟨[(0, .d (.sl (h.map eD)))], []⟩)
theorem zPW (h : List Due) (hL : h.length <= 12) : ∀ k, k <= h.length -> zT G [] zsp ⟨[(0, .d (.sl (h.map eD))), (11, .d (.sl (h.map eD))), (12, .d (.int .i64 h.length)), (13, .d (.int .i64 k))], []⟩ = some (zoP h k) := by
 refine zap (fun k => h.length - k) (fun k => k <= h.length) _ _ fun k hk L ih => ?_;simp only [zsp]
 by_cases hlt : k < h.length
 · have hf := find_ok h h[k].2 (by simp [LIM]; omega);have i1 := ih (k + 1) (by omega) (by omega);unfold zoP at i1 ⊢;rw [show h.length - k = (h.length - (k + 1)) + 1 by omega, zR4, zSl];have hd : zco h k = !decide (zaj h h[k].2 = k) := by simp [zco, hlt]
   rw [hd];clear ih hd;simp only [zQ2, zQZ, zQW, zQ5, zQ0, zQT, zQV, zQR, zQ1, zQY, zQS, zQX, zQU, zo, zC] at i1;generalize (List.range' (k + 1) (h.length - (k + 1))).any (zco h) = z at *
   by_cases hc : zaj h h[k].2 = k
   · rw [zRA hc];rw [hc] at hf;simp only [zTQ, zR6]
     cases z
     · simp only [if_false, zRa] at i1 ⊢;simp -implicitDefEqProofs (disch := omega) only [za, go_sem, *]
     · simp only [if_true] at i1 ⊢;simp -implicitDefEqProofs (disch := omega) only [za, go_sem, *]
   · rw [zRw hc];simp only [zTR, zSP, if_true];clear i1;simp -implicitDefEqProofs (disch := omega) only [za, go_sem, *]
 · have : k = h.length := by omega
   subst this;clear ih;simp only [zoP, zSw, List.range'_zero, List.any_nil, if_false, zRa];simp -implicitDefEqProofs (disch := omega) only [za, go_sem, *]
def zoQ (h : List Due) (k : Nat) : zJ × St :=
 if (List.range' k (h.length - k)).any (zcO h) then (.ret, ⟨[(2, .d (.int .i64 11))], []⟩)
 else (.exit 2, ⟨[], []⟩)
theorem zPX (h : List Due) (hL : h.length <= 12) : ∀ k : Nat, 1 <= k -> zT G [] zsq ⟨[(0, .d (.sl (h.map eD))), (5, .d (.int .i64 k))], []⟩ = some (zoQ h k) := by
 refine zap (fun k => h.length - k) (fun k => 1 <= k) _ _ fun k hk L ih => ?_;simp -implicitDefEqProofs only [zsq, zQV, go_sem]
 by_cases hlt : k < h.length
 · have hb := zi1 h k ((k - 1) / 2) hlt (by omega);have hq : IntKind.i64.wrap (((k : Int) - 1).tdiv 2) = (((k - 1) / 2 : Nat) : Int) := by
    rw [zoT (by rw [zSv (by omega)]; omega) (by rw [zSv (by omega)]; omega), zSv (by omega)]; omega
   simp -implicitDefEqProofs only [show ((k : Int) < (h.length : Int)) by omega, zoT (show -4294967296 <= (k : Int) - 1 by omega) (by omega), hq, hb, zkF hlt (show h.length <= LIM by simp [LIM]; omega), show ¬ ((2 : Int) = 0) by decide, go_sem];have i1 := ih (k + 1) (by omega) (by omega);simp only [zQ2, zQZ] at i1;rw [i1];unfold zoQ;rw [show h.length - k = (h.length - (k + 1)) + 1 by omega, zR4, zSl];have hd : zcO h k = lt h[k] h[(k - 1) / 2] := by simp [zcO, hlt, show (k - 1) / 2 < h.length by omega]
   rw [hd]
   cases lt h[k] h[(k - 1) / 2]
   · simp -implicitDefEqProofs only [go_sem]
   · simp -implicitDefEqProofs only [go_sem]
 · simp -implicitDefEqProofs only [show ¬ ((k : Int) < (h.length : Int)) by omega, go_sem];simp [zoQ, show h.length - k = 0 by omega]
theorem zoS (h : List Due) (hL : h.length <= LIM) : zd G zhR [.d (.sl (h.map eD))] [] = some (.d (.int .i64 (zaH h)), []) := by
 have h1 := zDn (h.map eD) zfY [] zzs (by simpa using hL) (fun e he => by obtain ⟨d, _, rfl⟩ := zQ3.1 he; rfl) (fun e he => by
  obtain ⟨d, _, rfl⟩ := zQ3.1 he;exact zB7 d)
 have h2 : (h.map eD).any zzs = h.any (fun d => !zaY d) := by rw [List.any_map]; rfl
 rw [h2] at h1;rw [ze zF4 (by simp)]; simp -implicitDefEqProofs only [zuK, go_sem];simp -implicitDefEqProofs only [h1, zQV, go_sem];unfold zaH
 by_cases h12 : 12 < h.length
 · simp -implicitDefEqProofs only [h12, show (12 < (h.length : Int)) by omega, go_sem]
 · have e0 := zPW h (by omega) 0 (by omega);have e1 := zPX h (by omega) 1 (by omega);simp only [zQW] at e0;simp only [zQZ] at e1
   cases hA : h.any (fun d => !zaY d)
   · simp -implicitDefEqProofs only [hA, h12, show ¬ (12 < (h.length : Int)) by omega, e0, zoP, zR5, go_sem]
     cases hB : (List.range' 0 h.length).any (zco h)
     · simp -implicitDefEqProofs only [hB, e1, zoQ, go_sem]
       cases hC : (List.range' 1 (h.length - 1)).any (zcO h) <;> simp -implicitDefEqProofs only [hC, go_sem]
     · simp -implicitDefEqProofs only [hB, go_sem]
   · simp -implicitDefEqProofs only [hA, h12, show ¬ (12 < (h.length : Int)) by omega, go_sem]
abbrev zah (h : List Due) : Go.Sim.Obj := .row ((h.map eD).map .d)
def swp (l : List Due) (i j : Nat) : List Due := (l.set i (l.getD j (0, 0))).set j (l.getD i (0, 0))
theorem zaO (l : List Due) (i j : Nat) : (swp l i j).length = l.length := by simp [swp]
def upL (l : List Due) (i : Nat) : List Due × Nat :=
 if 0 < i then
  if lt (l.getD i (0, 0)) (l.getD ((i - 1) / 2) (0, 0)) then upL (swp l i ((i - 1) / 2)) ((i - 1) / 2) else (l, i)
 else (l, i)
termination_by i
decreasing_by omega
theorem zNU (l : List Due) (i : Nat) (h : i < l.length) : (List.map AV.d (List.map eD l))[i]? = some (.d (eD (l.getD i (0, 0)))) := by
 simp [zQ7, zQ4 h, h]
theorem zNM (l : List Due) : List.take l.length (List.map AV.d (List.map eD l)) = List.map AV.d (List.map eD l) := by
 rw [zRy]; simp
def upS (l : List Due) (i : Nat) : St := ⟨[(0, .osl 1000000 0 l.length), (1, .d (.int .i64 i)), (1000000, .ref 1000000 1 0)], [(1000000, zah l)]⟩
def upE (l : List Due) (i : Nat) : St := ⟨[(1, .d (.int .i64 i)), (1000000, .ref 1000000 1 0)], [(1000000, zah l)]⟩
theorem zPP : ∀ p : List Due × Nat, p.2 < p.1.length /\ p.1.length <= 1000 -> zT G [] zss (upS p.1 p.2) = some (.exit 0, upE (upL p.1 p.2).1 (upL p.1 p.2).2) := by
 refine zap (fun p : List Due × Nat => p.2) (fun p : List Due × Nat => p.2 < p.1.length /\ p.1.length <= 1000) (fun p : List Due × Nat => upS p.1 p.2) _ fun ⟨l, i⟩ ⟨hi, hL⟩ L ih => ?_;simp only [upS, upE, zah] at hi hL ih ⊢;simp only [zss];rw [upL]
 by_cases h0 : 0 < i
 · have hj : (i - 1) / 2 < l.length := by omega
   have hb := zi1 l i ((i - 1) / 2) hi hj;have hq : ((i : Int) - 1).tdiv 2 = (((i - 1) / 2 : Nat) : Int) := by rw [zSv (by omega)]; omega
   have i1 := ih (swp l i ((i - 1) / 2), (i - 1) / 2) ⟨by simp only [zaO]; omega, by simp only [zaO]; omega⟩ (by simp only; omega);rw [zQO h0, za hi, za hj];clear ih;simp only [zaO] at i1;generalize hr : upL (swp l i ((i - 1) / 2)) ((i - 1) / 2) = r at *;clear hr
   cases hlt : lt l[i] l[(i - 1) / 2]
   · rw [hlt] at hb;simp only [if_false, zRa];clear i1 hlt;simp -implicitDefEqProofs (disch := omega) only [za, go_sem, *]
   · rw [hlt] at hb;simp only [if_true];unfold swp at i1;rw [za hi, za hj] at i1;simp only [zQ2, zQZ, zQW, zQ5, zQ0, zQT, zQV, zQR, zQ1, zQY, zQS, zQX, zQU, zo, zC] at i1;have hs2 : (((l.map eD).set i (eD l[(i - 1) / 2])).map AV.d)[(i - 1) / 2]? = some (.d (eD l[(i - 1) / 2])) := by
      rw [zQ7, zTP (by omega), zQ7, zQ4 hj]; rfl
     clear hlt;simp -implicitDefEqProofs (disch := omega) only [za, go_sem, *]
 · rw [zQN h0];clear ih;simp -implicitDefEqProofs (disch := omega) only [za, go_sem, *]
theorem ztY (l : List Due) (i : Nat) : (upL l i).1.length = l.length := by
 fun_induction upL l i with
 | case1 l i h0 h1 ih => rw [ih, zaO]
 | case2 => rfl
 | case3 => rfl
theorem zBO (h : List Due) (i : Nat) (hi : i < h.length) (hL : h.length <= 1000) : zd G zhV [.osl 1000000 0 h.length, .d (.int .i64 i)] [(1000000, zah h)] = some (.d (.int .i64 (upL h i).2), [(1000000, zah (upL h i).1)]) := by
 have := zPP (h, i) ⟨hi, hL⟩;simp only [upS, upE, zah] at this;rw [ze zwQ (by simp)]; simp -implicitDefEqProofs (disch := omega) only [zuR, go_sem, zQU];simp -implicitDefEqProofs (disch := omega) only [zah, this, go_sem]
def zbh (l : List Due) (i : Nat) : List Due :=
 if _h : 2 * i + 1 < l.length then
  let k := if 2 * i + 1 + 1 < l.length /\ lt (l.getD (2 * i + 1 + 1) (0, 0)) (l.getD (2 * i + 1) (0, 0)) then 2 * i + 1 + 1 else 2 * i + 1
  if lt (l.getD k (0, 0)) (l.getD i (0, 0)) then zbh (swp l i k) k else l
 else l
termination_by l.length - i
decreasing_by simp only [zaO]; split <;> omega
theorem zD8 : ∀ p : List Due × Nat, p.2 < p.1.length /\ p.1.length <= 1000 -> zT G [] zsr (upS p.1 p.2) = some (.ret, ⟨[(1000000, .ref 1000000 1 0)], [(1000000, zah (zbh p.1 p.2))]⟩) := by
 refine zap (fun p : List Due × Nat => p.1.length - p.2) (fun p : List Due × Nat => p.2 < p.1.length /\ p.1.length <= 1000) (fun p : List Due × Nat => upS p.1 p.2) _ fun ⟨l, i⟩ ⟨hi, hL⟩ L ih => ?_;simp only [upS, zah] at hi hL ih ⊢;simp only [zsr];rw [zbh];have hjc : 2 * (i : Int) + 1 = ((2 * i + 1 : Nat) : Int) := by omega
 have hij : i < 2 * i + 1 /\ 2 * i + 1 <= 2 * l.length := by omega
 generalize 2 * i + 1 = j at *
 by_cases h1 : j < l.length
 · have fin : ∀ k : Nat, i < k -> (hk : k < l.length) -> L ⟨[(0, .osl 1000000 0 l.length), (1, .d (.int .i64 k)), (1000000, .ref 1000000 1 0)], [(1000000, .row ((((l.map eD).set i (eD l[k])).set k (eD l[i])).map .d))]⟩ = some (.ret, ⟨[(1000000, .ref 1000000 1 0)], [(1000000, .row (List.map .d (List.map eD (zbh (swp l i k) k))))]⟩) /\
       (((l.map eD).set i (eD l[k])).map AV.d)[k]? = some (.d (eD l[k])) := by
    intro k h1 h2;have i1 := ih (swp l i k, k) ⟨by simp only [zaO]; omega, by simp only [zaO]; omega⟩ (by simp only [zaO]; omega);simp only [zaO] at i1;generalize zbh (swp l i k) k = r at *;unfold swp at i1;rw [za hi, za h2] at i1;simp only [zQ2, zQZ, zQW, zQ5, zQ0, zQT, zQV, zQR, zQ1, zQY, zQS, zQX, zQU, zo, zC] at i1;refine ⟨i1, ?_⟩;rw [zQ7, zTP (by omega), zQ7, zQ4 h2]; rfl
   have hd := zi1 l j i h1 hi;obtain ⟨f1, s1⟩ := fin j hij.1 h1;rw [dif_pos h1];rw [za hi, za h1]
   by_cases h2 : j + 1 < l.length
   · have hb := zi1 l (j + 1) j h2 h1;have hc := zi1 l (j + 1) i h2 hi;obtain ⟨f2, s2⟩ := fin (j + 1) (by omega) h2;rw [za h2];clear ih fin
     cases hlt : lt l[j + 1] l[j]
     · rw [hlt] at hb;simp only [zRa, zS4, if_false];rw [za h1];generalize zbh (swp l i j) j = r1 at *;clear f2 s2 hc
       cases hlt2 : lt l[j] l[i]
       · rw [hlt2] at hd;simp only [zRa, if_false];clear f1 s1;simp only [zQ2, zQZ, zQW, zQ5, zQ0, zQT, zQV, zQR, zQ1, zQY, zQS, zQX, zQU, zo, zC] at hb hd;simp -implicitDefEqProofs (disch := omega) only [za, go_sem, *]
       · rw [hlt2] at hd;simp only [if_true];simp only [zQ2, zQZ, zQW, zQ5, zQ0, zQT, zQV, zQR, zQ1, zQY, zQS, zQX, zQU, zo, zC] at hb hd f1;simp -implicitDefEqProofs (disch := omega) only [za, go_sem, *]
     · rw [hlt] at hb;simp only [h2, zSd, if_true];rw [za h2];generalize zbh (swp l i (j + 1)) (j + 1) = r2 at *;clear f1 s1 hd
       cases hlt2 : lt l[j + 1] l[i]
       · rw [hlt2] at hc;simp only [zRa, if_false];clear f2 s2;simp only [zQ2, zQZ, zQW, zQ5, zQ0, zQT, zQV, zQR, zQ1, zQY, zQS, zQX, zQU, zo, zC] at hb hc;simp -implicitDefEqProofs (disch := omega) only [za, go_sem, *]
       · rw [hlt2] at hc;simp only [if_true];simp only [zQ2, zQZ, zQW, zQ5, zQ0, zQT, zQV, zQR, zQ1, zQY, zQS, zQX, zQU, zo, zC] at hb hc f2;simp -implicitDefEqProofs (disch := omega) only [za, go_sem, *]
   · simp only [h2, zS5, if_false];rw [za h1];generalize zbh (swp l i j) j = r1 at *;clear ih fin
     cases hlt2 : lt l[j] l[i]
     · rw [hlt2] at hd
       (try simp only [zRa, if_false])
       clear f1 s1
       (try (simp only [zQ2, zQZ, zQW, zQ5, zQ0, zQT, zQV, zQR, zQ1, zQY, zQS, zQX, zQU, zo, zC] at hd))
       simp -implicitDefEqProofs (disch := omega) only [za, go_sem, *]
     · rw [hlt2] at hd
       (try simp only [if_true])
       (try (simp only [zQ2, zQZ, zQW, zQ5, zQ0, zQT, zQV, zQR, zQ1, zQY, zQS, zQX, zQU, zo, zC] at hd))
       (try (simp only [zQ2, zQZ, zQW, zQ5, zQ0, zQT, zQV, zQR, zQ1, zQY, zQS, zQX, zQU, zo, zC] at f1))
       simp -implicitDefEqProofs (disch := omega) only [za, go_sem, *]
 · rw [dif_neg h1];clear ih;simp -implicitDefEqProofs (disch := omega) only [za, go_sem, *]
theorem zD9 (h : List Due) (i : Nat) (hi : i < h.length) (hL : h.length <= 1000) : zd G zhT [.osl 1000000 0 h.length, .d (.int .i64 i)] [(1000000, zah h)] = some (.d (.tup []), [(1000000, zah (zbh h i))]) := by
 have := zD8 (h, i) ⟨hi, hL⟩;simp only [upS, zah] at this;rw [ze zwN (by simp)]; simp -implicitDefEqProofs (disch := omega) only [zuO, go_sem, zQU];simp -implicitDefEqProofs (disch := omega) only [zah, this, go_sem]
def zb0 (h : List Due) (d : Due) : List Due := (upL (h ++ [d]) h.length).1
def zho (h : List Due) (d : Due) : Int := if zaH h ≠ 0 then zaH h else if zaY d = false then 1 else if h.length = 12 then 3 else if 0 <= zaj h d.2 then 10 else 0
def zcd (h : List Due) (d : Due) : List Due × Int := (if zho h d = 0 then zb0 h d else [], zho h d)
def eDE (r : List Due × Int) : D := .tup [.sl (r.1.map eD), .int .i64 r.2]
theorem zoR {h : List Due} (h0 : zaH h = 0) : h.length <= 12 := by
 unfold zaH at h0
 split at h0
 · cases h0
 · omega
theorem zMu (h : List Due) (d : Due) (hL : h.length <= LIM) : zd G ze2 [.d (.sl (h.map eD)), .d (eD d)] [] = some (.d (eDE (zcd h d)), []) := by
 have hv := zoS h hL;have hf := find_ok h d.2 hL;have hd := zBU d;have hc := zp2 (h.map eD) (zc2 h) (by simpa using hL);have hL2 : h.length <= 4294967296 := hL;unfold zcd zho eDE
 by_cases h0 : zaH h = 0
 · have h12 := zoR h0;rw [h0] at hv;simp only [h0, ne_eq, zRf, if_false];clear h0
   cases h1 : zaY d
   · rw [h1] at hd;simp only [if_true, zQR, show ((1 : Int) = 0) = False by simp, if_false];clear h1 hf;rw [ze zjE (by simp)]; simp -implicitDefEqProofs (disch := omega) only [zgs, za, go_sem, *]
   · rw [h1] at hd;simp only [zTo, if_false];clear h1
     by_cases h2 : h.length = 12
     · simp only [h2, if_true, zQR, show ((3 : Int) = 0) = False by simp, if_false];clear hf;rw [ze zjE (by simp)]; simp -implicitDefEqProofs (disch := omega) only [zgs, za, go_sem, *]
     · simp only [h2, if_false]
       by_cases h3 : 0 <= zaj h d.2
       · simp only [h3, if_true, zQR, show ((10 : Int) = 0) = False by simp, if_false];rw [ze zjE (by simp)]; simp -implicitDefEqProofs (disch := omega) only [zgs, za, go_sem, *]
       · simp only [h3, if_false, if_true];obtain ⟨l, hl⟩ : ∃ l, l = h ++ [d] := ⟨_, rfl⟩;have e1 : h.map eD ++ [D.agg [.int .i64 d.1, .int .i64 d.2]] = l.map eD := by simp [eD, hl]
         have e2 : l.length = h.length + 1 := by simp [hl]
         have hu := zBO l h.length (by omega) (by omega);unfold zb0;rw [<- hl];have hul := ztY l h.length;generalize upL l h.length = r at *;simp only [zah, e2] at hu hul;have e3 : (h.length : Int) + 1 - 1 = h.length := by omega
         simp only [eD] at hd ⊢;clear hl;rw [ze zjE (by simp)]; simp -implicitDefEqProofs (disch := omega) only [zgs, za, go_sem, *]
 · simp only [h0, ne_eq, zRh, if_true, if_false, zQR];clear hf hc hd;rw [ze zjE (by simp)]; simp -implicitDefEqProofs (disch := omega) only [zgs, za, go_sem, *]
end Go.Proofs.YtfggldgdejjlnaaGreat
