/-
  The table of functions.
  Loops, where what comes out is told by a law rather than by a function.
  Numbers, as walks need them, and counted loops.
  More facts about lists, in the forms that walks take.
  Lists that are set or cut, in the forms that walks take.
  The rewriting set of walks, whole.
  The types of package api, as they lie in memory.
  Heaps of deadlines: what the functions of package due compute, part 1.
  The reader of numbers.
  Heaps of deadlines: what the functions of package due compute, part 2.
-/
import Derived.Test.YtcjncbkhbllchaaGreatB6b8d34a
import Derived.KernelRfl
import Derived.Test.YtcjncbkhbllchaaGreatBccbe0a5
import Derived.IntWalk
set_option linter.unusedSimpArgs false
set_option linter.unusedVariables false
namespace Go.Proofs.YtcjncbkhbllchaaGreat
open Go Go.Sim
def tab : List (Nat × AFn) := [(z1l, z3M), (zM, z6G), (zR, z6P), (z1b, z3z), (zQ, z6M), (zB, z6L), (z19, z6O), (z14, z3v), (z15, z3w), (z18, z6N), (z16, z3x), (z1V, z4m), (z1G, z49), (z1a, z3y), (z17, z6J), (z1C, z73), (z1A, z44), (z1D, z45), (z1B, z72), (zN, z6H), (z0s, z4a), (z1I, z4e), (z1H, z4c), (z0u, z4d), (z0r, z74), (z1E, z47), (z0q, z46), (z1J, z4f), (z0t, z4b), (z1c, z3A), (z1R, z4l), (z1S, z77), (z1L, z76), (z1O, z4i), (z1N, z4h), (z1M, z4g), (z1T, z78), (z1K, z75), (z1Q, z4k), (z1P, z4j), (zP, z6K), (zV, z6W), (zO, z6I), (zg, z6V), (z1U, z79), (z1X, z4o), (z1F, z48), (z1W, z4n), (z2a, z4E), (z2e, z4I), (z04, z7j), (z2f, z4J), (z2g, z4K), (z2h, z4L), (z08, z7p), (z05, z7k), (z2b, z7h), (z20, z7f), (z0v, z7g), (z0x, z4t), (zE, z71), (z1z, z42), (zX, z6X), (zY, z6Y), (z1f, z6U), (z2n, z4S), (z2r, z4Y), (z0m, z3D), (z1k, z3L), (z1i, z3I), (z0p, z3J), (z1g, z3E), (z0n, z3F), (zS, z6Q), (z1e, z3C), (z1d, z3B), (z1t, z3W), (z2p, z4U), (z2u, z51), (z2l, z7o), (z07, z7n), (z2i, z7l), (zZ, z7b), (z2q, z4V), (z2v, z52), (z2j, z4M), (z0C, z4R), (zq, z7q), (z09, z4Q), (z1y, z41), (zp, z6Z), (zD, z70), (z2c, z4F), (z02, z7e), (z21, z4r), (z0w, z4s), (z2s, z4Z), (z24, z4w), (z22, z4u), (z1x, z40), (z1p, z3Q), (z1s, z3U), (z2m, z4P), (zC, z3V), (zT, z6R), (z1j, z3K), (z2w, z53), (z28, z4B), (z2d, z4H), (z1o, z3P), (z2k, z4O), (z1r, z3T), (zU, z6S), (z0o, z3H), (z1h, z3G), (z1u, z3X), (z38, z4X), (z00, z7c), (z23, z4v), (z01, z7d), (z26, z4y), (z1n, z3O), (z27, z4z), (z1q, z3R), (zo, z6T), (z0E, z54), (z1v, z3Y), (z8W, za6), (z1w, z3Z), (z0G, z56), (z0F, z55), (zW, z3S), (z0D, z4W), (z2t, z50), (z25, z4x), (zF, z7a), (z1Y, z4p), (z1m, z3N), (z0z, z4C), (z1Z, z4q), (z29, z4D), (z0B, z4N), (z06, z7m), (z03, z7i), (z0A, z4G), (z2o, z4T), (z0y, z4A)]
def G : FuncId → Option AFn := fun f => Go.Sim.look f tab
theorem zaq : G z1l = some z3M := by kernel_rfl
theorem za7 : G zM = some z6G := by kernel_rfl
theorem zeu : G zR = some z6P := by kernel_rfl
theorem z57 : G z1b = some z3z := by kernel_rfl
theorem zad : G zQ = some z6M := by kernel_rfl
theorem zac : G zB = some z6L := by kernel_rfl
theorem zae : G z19 = some z6O := by kernel_rfl
theorem za8 : G z14 = some z3v := by kernel_rfl
theorem zaa : G z15 = some z3w := by kernel_rfl
theorem zet : G z18 = some z6N := by kernel_rfl
theorem z2C : G z16 = some z3x := by kernel_rfl
theorem zaN : G z1V = some z4m := by kernel_rfl
theorem zaD : G z1G = some z49 := by kernel_rfl
theorem z7r : G z1a = some z3y := by kernel_rfl
theorem zab : G z17 = some z6J := by kernel_rfl
theorem z7w : G z1C = some z73 := by kernel_rfl
theorem zaA : G z1A = some z44 := by kernel_rfl
theorem zaB : G z1D = some z45 := by kernel_rfl
theorem z7v : G z1B = some z72 := by kernel_rfl
theorem za9 : G zN = some z6H := by kernel_rfl
theorem zaE : G z0s = some z4a := by kernel_rfl
theorem z0P : G z1I = some z4e := by kernel_rfl
theorem z0O : G z1H = some z4c := by kernel_rfl
theorem zaF : G z0u = some z4d := by kernel_rfl
theorem z7y : G z0r = some z74 := by kernel_rfl
theorem z5d : G z1E = some z47 := by kernel_rfl
theorem z7x : G z0q = some z46 := by kernel_rfl
theorem zaG : G z1J = some z4f := by kernel_rfl
theorem z7z : G z0t = some z4b := by kernel_rfl
theorem z7s : G z1c = some z3A := by kernel_rfl
theorem zt : G z1R = some z4l := by kernel_rfl
theorem z0Q : G z1S = some z77 := by kernel_rfl
theorem zeA : G z1L = some z76 := by kernel_rfl
theorem zaJ : G z1O = some z4i := by kernel_rfl
theorem zaI : G z1N = some z4h := by kernel_rfl
theorem zaH : G z1M = some z4g := by kernel_rfl
theorem zaM : G z1T = some z78 := by kernel_rfl
theorem z2I : G z1K = some z75 := by kernel_rfl
theorem zaL : G z1Q = some z4k := by kernel_rfl
theorem zaK : G z1P = some z4j := by kernel_rfl
theorem zes : G zP = some z6K := by kernel_rfl
theorem zey : G zV = some z6W := by kernel_rfl
theorem z2D : G zO = some z6I := by kernel_rfl
theorem zas : G zg = some z6V := by kernel_rfl
theorem zeB : G z1U = some z79 := by kernel_rfl
theorem zaP : G z1X = some z4o := by kernel_rfl
theorem zaC : G z1F = some z48 := by kernel_rfl
theorem zaO : G z1W = some z4n := by kernel_rfl
theorem z2K : G z2a = some z4E := by kernel_rfl
theorem zb1 : G z2e = some z4I := by kernel_rfl
theorem z7E : G z04 = some z7j := by kernel_rfl
theorem zb2 : G z2f = some z4J := by kernel_rfl
theorem zb3 : G z2g = some z4K := by kernel_rfl
theorem zb4 : G z2h = some z4L := by kernel_rfl
theorem z7I : G z08 = some z7p := by kernel_rfl
theorem z7F : G z05 = some z7k := by kernel_rfl
theorem zw : G z2b = some z7h := by kernel_rfl
theorem z2J : G z20 = some z7f := by kernel_rfl
theorem zeD : G z0v = some z7g := by kernel_rfl
theorem zaV : G z0x = some z4t := by kernel_rfl
theorem z7u : G zE = some z71 := by kernel_rfl
theorem z5c : G z1z = some z42 := by kernel_rfl
theorem z2G : G zX = some z6X := by kernel_rfl
theorem z7t : G zY = some z6Y := by kernel_rfl
theorem zex : G z1f = some z6U := by kernel_rfl
theorem zb8 : G z2n = some z4S := by kernel_rfl
theorem zbd : G z2r = some z4Y := by kernel_rfl
theorem zai : G z0m = some z3D := by kernel_rfl
theorem zap : G z1k = some z3L := by kernel_rfl
theorem zam : G z1i = some z3I := by kernel_rfl
theorem zan : G z0p = some z3J := by kernel_rfl
theorem zaj : G z1g = some z3E := by kernel_rfl
theorem zak : G z0n = some z3F := by kernel_rfl
theorem zev : G zS = some z6Q := by kernel_rfl
theorem zag : G z1e = some z3C := by kernel_rfl
theorem zaf : G z1d = some z3B := by kernel_rfl
theorem z5b : G z1t = some z3W := by kernel_rfl
theorem zba : G z2p = some z4U := by kernel_rfl
theorem z7L : G z2u = some z51 := by kernel_rfl
theorem zeH : G z2l = some z7o := by kernel_rfl
theorem zb6 : G z07 = some z7n := by kernel_rfl
theorem zeF : G z2i = some z7l := by kernel_rfl
theorem zeC : G zZ = some z7b := by kernel_rfl
theorem zbb : G z2q = some z4V := by kernel_rfl
theorem z7M : G z2v = some z52 := by kernel_rfl
theorem z7G : G z2j = some z4M := by kernel_rfl
theorem z2N : G z0C = some z4R := by kernel_rfl
theorem zb7 : G zq = some z7q := by kernel_rfl
theorem z2M : G z09 = some z4Q := by kernel_rfl
theorem zaz : G z1y = some z41 := by kernel_rfl
theorem zay : G zp = some z6Z := by kernel_rfl
theorem zez : G zD = some z70 := by kernel_rfl
theorem z2L : G z2c = some z4F := by kernel_rfl
theorem z7B : G z02 = some z7e := by kernel_rfl
theorem zaT : G z21 = some z4r := by kernel_rfl
theorem zaU : G z0w = some z4s := by kernel_rfl
theorem z7J : G z2s = some z4Z := by kernel_rfl
theorem zaX : G z24 = some z4w := by kernel_rfl
theorem zaW : G z22 = some z4u := by kernel_rfl
theorem z2H : G z1x = some z40 := by kernel_rfl
theorem zk : G z1p = some z3Q := by kernel_rfl
theorem zau : G z1s = some z3U := by kernel_rfl
theorem z5g : G z2m = some z4P := by kernel_rfl
theorem zav : G zC = some z3V := by kernel_rfl
theorem z2E : G zT = some z6R := by kernel_rfl
theorem zao : G z1j = some z3K := by kernel_rfl
theorem z7N : G z2w = some z53 := by kernel_rfl
theorem zI : G z28 = some z4B := by kernel_rfl
theorem z7D : G z2d = some z4H := by kernel_rfl
theorem z59 : G z1o = some z3P := by kernel_rfl
theorem z7H : G z2k = some z4O := by kernel_rfl
theorem z2F : G z1r = some z3T := by kernel_rfl
theorem zew : G zU = some z6S := by kernel_rfl
theorem z58 : G z0o = some z3H := by kernel_rfl
theorem zal : G z1h = some z3G := by kernel_rfl
theorem zaw : G z1u = some z3X := by kernel_rfl
theorem zbc : G z38 = some z4X := by kernel_rfl
theorem zaR : G z00 = some z7c := by kernel_rfl
theorem z0R : G z23 = some z4v := by kernel_rfl
theorem zaS : G z01 = some z7d := by kernel_rfl
theorem z0S : G z26 = some z4y := by kernel_rfl
theorem z0g : G z1n = some z3O := by kernel_rfl
theorem z5f : G z27 = some z4z := by kernel_rfl
theorem z5a : G z1q = some z3R := by kernel_rfl
theorem zah : G zo = some z6T := by kernel_rfl
theorem z7O : G z0E = some z54 := by kernel_rfl
theorem zax : G z1v = some z3Y := by kernel_rfl
theorem zd : G z1w = some z3Z := by kernel_rfl
theorem z7Q : G z0G = some z56 := by kernel_rfl
theorem z7P : G z0F = some z55 := by kernel_rfl
theorem zat : G zW = some z3S := by kernel_rfl
theorem z5h : G z0D = some z4W := by kernel_rfl
theorem z7K : G z2t = some z50 := by kernel_rfl
theorem z5e : G z25 = some z4x := by kernel_rfl
theorem zu : G zF = some z7a := by kernel_rfl
theorem z7A : G z1Y = some z4p := by kernel_rfl
theorem zar : G z1m = some z3N := by kernel_rfl
theorem zaY : G z0z = some z4C := by kernel_rfl
theorem zaQ : G z1Z = some z4q := by kernel_rfl
theorem zaZ : G z29 = some z4D := by kernel_rfl
theorem zb5 : G z0B = some z4N := by kernel_rfl
theorem zeG : G z06 = some z7m := by kernel_rfl
theorem zeE : G z03 = some z7i := by kernel_rfl
theorem zb0 : G z0A = some z4G := by kernel_rfl
theorem zb9 : G z2o = some z4T := by kernel_rfl
theorem z7C : G z0y = some z4A := by kernel_rfl
end Go.Proofs.YtcjncbkhbllchaaGreat

namespace Go.Sim
variable {G : FuncId → Option AFn}
theorem zk4 {T : Type} {ks : List Nat} {x : ACode} (μ : T → Nat) (inv : T → Prop) (st : T → St) (Q : T → Option (AExit × St) → Prop)
   (h : ∀ t, inv t → ∀ L : St → Option (AExit × St), (∀ t', inv t' → μ t' < μ t → Q t' (L (st t'))) → Q t ((exL G x (st t)).bind (loopF ks L))) : ∀ t, inv t → Q t (loopL G ks x (st t)) := by
 intro t
 generalize hk : μ t = k
 induction k using Nat.strongRecOn generalizing t with
 | ind k ih =>
   intro hi
   rw [ziy]
   exact h t hi _ fun t' hi' hlt => ih (μ t') (by omega) t' rfl hi'
end Go.Sim

namespace Go.Sim
variable {G : FuncId → Option AFn}
theorem wr {x : Int} (h : -9223372036854775808 ≤ x ∧ x < 9223372036854775808) : IntKind.i64.wrap x = x := by
 rw [Go.IntWalk.i64_in _ (by omega)]
theorem wu64 {x : Int} (h : 0 ≤ x ∧ x < 18446744073709551616) : IntKind.u64.wrap x = x := by rw [Go.IntWalk.u64_in _ (by omega)]
theorem wu32 {x : Int} (h : 0 ≤ x ∧ x < 4294967296) : IntKind.u32.wrap x = x := by rw [Go.IntWalk.u32_in _ (by omega)]
theorem wu8 {x : Int} (h : 0 ≤ x ∧ x < 256) : IntKind.u8.wrap x = x := by rw [Go.IntWalk.u8_in _ (by omega)]
theorem beqT {b : Bool} : (b == true) = b := by cases b <;> rfl
theorem beqF {b : Bool} : (b == false) = !b := by cases b <;> rfl
theorem ltT {a b : Int} (h : a < b) : (a < b) = True := eq_true h
theorem ltF {a b : Int} (h : b ≤ a) : (a < b) = False := eq_false (by omega)
theorem leT {a b : Int} (h : a ≤ b) : (a ≤ b) = True := eq_true h
theorem leF {a b : Int} (h : b < a) : (a ≤ b) = False := eq_false (by omega)
theorem eqT {a b : Int} (h : a = b) : (a = b) = True := eq_true h
theorem eqF {a b : Int} (h : ¬ a = b) : (a = b) = False := eq_false h
theorem lenLtT {α : Type} {l : List α} {a : Nat} (h : a < l.length) : (a < l.length) = True := eq_true h
theorem lenLtF {α : Type} {l : List α} {a : Nat} (h : l.length ≤ a) : (a < l.length) = False := eq_false (by omega)
theorem lenLeT {α : Type} {l : List α} {c : Nat} (h : l.length ≤ c) : (l.length ≤ c) = True := eq_true h
theorem addLeT {a b c : Nat} (h : a + b ≤ c) : (a + b ≤ c) = True := eq_true h
theorem lenEqT {α : Type} {l : List α} {c : Nat} (h : l.length = c) : (l.length = c) = True := eq_true h
theorem lim_eq : LIM = 4294967296 := rfl
theorem mapGet {α β : Type} {f : α → β} {l : List α} {k : Nat} (h : k < l.length) : (l.map f)[k]? = some (f (l[k]'h)) := by
 rw [List.getElem?_map, List.getElem?_eq_getElem h]; rfl
theorem zwN {k : Nat} : ((k : Int) + 1).toNat = k + 1 := by omega
theorem znL {ks : List Nat} {x : ACode} (n : Nat) (p : Nat → Bool) (st : Nat → St) (R fin : AExit × St)
   (h : ∀ k, k ≤ n → ∀ L : St → Option (AExit × St), (exL G x (st k)).bind (loopF ks L) = if k < n then (if p k = true then L (st (k + 1)) else some R) else some fin) :
   loopL G ks x (st 0) = some (if (List.range n).all p = true then fin else R) := by
 have key : ∀ m k, k + m = n → loopL G ks x (st k) = some (if ((List.range' k m).all p) = true then fin else R) := by
   intro m
   induction m with
   | zero =>
     intro k hk
     rw [ziy, h k (by omega), if_neg (by omega)]
     rfl
   | succ m ih =>
     intro k hk
     rw [ziy, h k (by omega), if_pos (by omega), List.range'_succ, List.all_cons, ih (k + 1) (by omega)]
     cases p k <;> rfl
 have := key n 0 (by omega)
 rwa [← List.range_eq_range'] at this
def findR {α : Type} (n : Nat) (p : Nat → Bool) (R : Nat → α) (fin : α) : α := match (List.range n).find? p with | some k => R k | none => fin
theorem zj4 {ks : List Nat} {x : ACode} (n : Nat) (p : Nat → Bool) (st : Nat → St) (R : Nat → AExit × St) (fin : AExit × St)
   (h : ∀ k, k ≤ n → ∀ L : St → Option (AExit × St), (exL G x (st k)).bind (loopF ks L) = if k < n then (if p k = true then some (R k) else L (st (k + 1))) else some fin) :
   loopL G ks x (st 0) = some (findR n p R fin) := by
 have key : ∀ m k, k + m = n → loopL G ks x (st k) = some (match (List.range' k m).find? p with | some k => R k | none => fin) := by
   intro m
   induction m with
   | zero =>
     intro k hk
     rw [ziy, h k (by omega), if_neg (by omega)]
     rfl
   | succ m ih =>
     intro k hk
     rw [ziy, h k (by omega), if_pos (by omega), List.range'_succ, List.find?_cons, ih (k + 1) (by omega)]
     cases p k <;> rfl
 have := key n 0 (by omega)
 rwa [← List.range_eq_range'] at this
def idxI {α : Type} (p : α → Bool) (es : List α) : Int := match es.findIdx? p with | some i => i | none => -1
def atB {α : Type} (l : List α) (p : α → Bool) (k : Nat) : Bool := match l[k]? with | some a => p a | none => false
theorem zrV {α : Type} (l : List α) (p : α → Bool) : (List.range l.length).find? (atB l p) = l.findIdx? p := by
 have key : ∀ (m k : Nat), k + m = l.length → (List.range' k m).find? (atB l p) = ((l.drop k).findIdx? p).map (k + ·) := by
   intro m
   induction m with
   | zero => intro k hk; rw [List.drop_of_length_le (by omega)]; rfl
   | succ m ih =>
     intro k hk
     rw [List.range'_succ, List.find?_cons, List.drop_eq_getElem_cons (show k < l.length by omega), List.findIdx?_cons, ih (k + 1) (by omega)]
     have : atB l p k = p (l[k]'(by omega)) := by unfold atB; rw [List.getElem?_eq_getElem (by omega)]
     rw [this]
     cases p (l[k]'(by omega)) with
     | true => simp
     | false =>
       cases (l.drop (k + 1)).findIdx? p with
       | none => rfl
       | some i => simp; omega
 have := key l.length 0 (by omega)
 rw [← List.range_eq_range'] at this
 rw [this, List.drop_zero]
 cases l.findIdx? p <;> simp only [Option.map_none, Option.map_some, Nat.zero_add]
theorem atB_at {α : Type} {l : List α} {p : α → Bool} {k : Nat} (h : k < l.length) : atB l p k = p l[k] := by
 unfold atB; rw [List.getElem?_eq_getElem h]
theorem zjw {α β : Type} (l : List α) (p : α → Bool) (R : Nat → β) (fin : β) : findR l.length (atB l p) R fin = match l.findIdx? p with | some k => R k | none => fin := by
 unfold findR; rw [zrV]
theorem zkD {α : Type} (l : List α) (p : α → Bool) : decide (0 ≤ idxI p l) = l.any p := by
 unfold idxI
 cases h : l.findIdx? p with
 | none => simp at h; simpa using h
 | some i =>
   have := List.findIdx?_eq_some_iff_getElem.1 h
   simp
   exact ⟨_, List.getElem_mem this.1, this.2.1⟩
theorem znj {α : Type} (l : List α) (p : α → Bool) : -1 ≤ idxI p l ∧ idxI p l < l.length := by
 unfold idxI
 cases e : l.findIdx? p with
 | none => simp only; omega
 | some i => have := (List.findIdx?_eq_some_iff_getElem.1 e).1; simp only; omega
theorem zsH {α : Type} {l : List α} {p : α → Bool} {i : Nat} (h : idxI p l = i) : ∃ hi : i < l.length, p (l[i]) = true ∧ ∀ j (hj : j < i), p (l[j]'(by omega)) = false := by
 unfold idxI at h
 cases e : l.findIdx? p with
 | none => rw [e] at h; simp only at h; omega
 | some k =>
   rw [e] at h
   simp only at h
   obtain rfl : k = i := by omega
   obtain ⟨h1, h2, h3⟩ := List.findIdx?_eq_some_iff_getElem.1 e
   exact ⟨h1, h2, fun j hj => by have := h3 j hj; simpa using this⟩
theorem zly {α : Type} (l : List α) (p : α → Bool) : idxI p l < 0 ↔ ∀ a ∈ l, p a = false := by
 have := zkD l p
 have h2 : l.any p = false ↔ ∀ a ∈ l, p a = false := by simp
 rw [← h2, ← this]
 simp
end Go.Sim

namespace Go.Sim
theorem getDT {α : Type} {l : List α} {k : Nat} {d : α} (h : k < l.length) : l.getD k d = l[k]'h := by
 rw [List.getD_eq_getElem?_getD, List.getElem?_eq_getElem h]; rfl
theorem setMap {α β : Type} {f : α → β} {l : List α} {k : Nat} {x : α} : (l.map f).set k (f x) = (l.set k x).map f := by rw [List.map_set]
theorem mapGet2 {α β γ : Type} {f : α → β} {g : β → γ} {l : List α} {k : Nat} (h : k < l.length) : ((l.map f).map g)[k]? = some (g (f (l[k]'h))) := by
 rw [List.map_map, List.getElem?_map, List.getElem?_eq_getElem h]; rfl
theorem lenSet {α : Type} {l : List α} {k : Nat} {x : α} : (l.set k x).length = l.length := List.length_set
theorem mapSet {α : Type} {f : α → D} {l : List α} {k : Nat} {x : α} : (l.set k x).map f = (l.map f).set k (f x) := by rw [List.map_set]
theorem setD {ds : List D} {k : Nat} {x : D} : (ds.map AV.d).set k (.d x) = (ds.set k x).map AV.d := by rw [List.map_set]
theorem iteC {α : Type} {c : Prop} [Decidable c] {A B r : α} (h1 : c → A = r) (h2 : ¬ c → B = r) : (if c then A else B) = r := by split <;> simp_all
end Go.Sim

namespace Go.Sim
theorem takeMapD {ds : List D} {n : Nat} : (ds.map AV.d).take n = (ds.take n).map AV.d := by rw [List.map_take]
theorem dropMapD {ds : List D} {n : Nat} : (ds.map AV.d).drop n = (ds.drop n).map AV.d := by rw [List.map_drop]
theorem takeSetM {α : Type} {f : α → D} {l : List α} {n k : Nat} {x : D} (h : l.length ≤ n) : ((l.map f).set k x).take n = (l.map f).set k x := List.take_of_length_le (by simpa using h)
theorem takeM {α : Type} {f : α → D} {l : List α} {n : Nat} (h : l.length ≤ n) : (l.map f).take n = l.map f := List.take_of_length_le (by simpa using h)
theorem iteR {α : Type} {c : Prop} [Decidable c] {A B r : α} (h1 : c → r = A) (h2 : ¬ c → r = B) : r = if c then A else B := by split <;> simp_all
end Go.Sim

namespace Go.Sim
attribute [go_sem ↓] reduceIte
attribute [go_sem] reduceCtorEq Nat.reduceEqDiff Nat.reduceAdd Nat.reduceBEq Nat.reduceMul Nat.reduceLeDiff Nat.reduceSub Nat.reduceLT Nat.reduceDiv Nat.reduceMod List.reduceReplicate Int.reduceEq Int.reduceLT Int.reduceLE Int.reduceAdd Int.reduceSub Int.reduceMul Int.reduceNeg Int.reduceToNat
attribute [go_sem] zwN takeMapD dropMapD takeSetM takeM lenSet mapSet setD mapGet2 wr or_self or_false false_or true_or or_true false_and and_false Int.natCast_mul Int.cast_ofNat_Int Int.natCast_zero List.length_append lim_eq wu64 wu32 wu8 Bool.true_beq Bool.false_beq beqT beqF Int.natCast_add Int.natCast_one ltT ltF leT leF eqT eqF lenLtT lenLtF lenLeT addLeT lenEqT mapGet Int.toNat_natCast Int.natCast_nonneg List.length_map
theorem pA {a b : Bool} : ((a || b) = true) = (a = true ∨ b = true) := Bool.or_eq_true a b
theorem pB {a b : Bool} : ((a && b) = true) = (a = true ∧ b = true) := Bool.and_eq_true a b
theorem pC {p : Prop} [Decidable p] : (decide p = true) = p := decide_eq_true_eq
theorem pD {a : Bool} : ((!a) = true) = (a = false) := Bool.not_eq_true' a
theorem pE {p : Prop} [Decidable p] : (decide p = false) = ¬ p := by simp
theorem pF {p q : Prop} : (¬ (p ∨ q)) = (¬ p ∧ ¬ q) := by simp
theorem pG {a b : Int} : (¬ a < b) = (b ≤ a) := by simp
theorem pH {a b : Int} : (¬ a ≤ b) = (b < a) := by simp
theorem pI {a b : Nat} : (¬ a < b) = (b ≤ a) := by simp
theorem pJ {a b : Nat} : (¬ a ≤ b) = (b < a) := by simp
theorem pK {a b : Bool} : ((a || b) = false) = (a = false ∧ b = false) := by simp
theorem pL {a b : Bool} : ((a && b) = false) = (a = false ∨ b = false) := by cases a <;> cases b <;> simp
theorem pM {a : Bool} : ((!a) = false) = (a = true) := by simp
theorem pN : (true = false) = False := by simp
theorem pO : (false = true) = False := by simp
theorem pP {p : Prop} : (¬ ¬ p) = p := by simp
end Go.Sim

namespace Go.Proofs.YtcjncbkhbllchaaGreat
open Go Go.Sim
set_option linter.unusedSimpArgs false
set_option linter.unusedVariables false
set_option maxHeartbeats 10000000
abbrev ints (l : List Int) : List D := l.map (.int .i64)
theorem zkl (l : List Int) : allSize 1 (ints l) = true := by simp [allSize, D.size, D.cells]
abbrev Due := Int × Int
def eD (d : Due) : D := .agg [.int .i64 d.1, .int .i64 d.2]
theorem zr6 (d : Due) : (eD d).cells = [.int .i64 d.1, .int .i64 d.2] := rfl
theorem zja (d : Due) : (eD d).size = 2 := rfl
theorem zjt (d : Due) : (eD d).asAgg = eD d := rfl
theorem eD_isT (d : Due) : (eD d).isT = false := rfl
theorem ziK (h : List Due) : allSize 2 (h.map eD) = true := by simp [allSize, zja]
structure Span where
 low : Int
 high : Int
 shard : Int
 deriving DecidableEq
def zSpan : Span := ⟨0, 0, 0⟩
instance : Inhabited Span := ⟨zSpan⟩
structure Directory where
 version : Int
 l : List Span
 forward : List Int
 deriving DecidableEq
def zDirectory : Directory := ⟨0, [], []⟩
instance : Inhabited Directory := ⟨zDirectory⟩
structure Edit where
 kind : Int
 from_ : Int
 to : Int
 mid : Int
 deriving DecidableEq
def zEdit : Edit := ⟨0, 0, 0, 0⟩
instance : Inhabited Edit := ⟨zEdit⟩
structure Setup where
 slots : Int
 live : Int
 capacity : Int
 dead : Int
 limit : Int
 clock : Int
 nextID : Int
 epoch : Int
 deriving DecidableEq
def zSetup : Setup := ⟨0, 0, 0, 0, 0, 0, 0, 0⟩
instance : Inhabited Setup := ⟨zSetup⟩
structure Message where
 id : Int
 route : Int
 epoch : Int
 count : Int
 gen : Int
 sent : Int
 body : List UInt8
 deriving DecidableEq
def zMessage : Message := ⟨0, 0, 0, 0, 0, 0, []⟩
instance : Inhabited Message := ⟨zMessage⟩
def eMessage (x : Message) : D := .agg [.int .i64 x.id, .int .i64 x.route, .int .i64 x.epoch, .int .i64 x.count, .int .i64 x.gen, .int .i64 x.sent, .str x.body]
theorem zrb (x : Message) : (eMessage x).cells = [.int .i64 x.id, .int .i64 x.route, .int .i64 x.epoch, .int .i64 x.count, .int .i64 x.gen, .int .i64 x.sent, .str x.body] := rfl
theorem zmS (x : Message) : (eMessage x).size = 7 := rfl
theorem zra (x : Message) : (eMessage x).asAgg = eMessage x := rfl
theorem zrc (x : Message) : (eMessage x).isT = false := rfl
theorem zl9 (l : List Message) : allSize 7 (l.map eMessage) = true := by simp [allSize, zmS]
structure Ring where
 cells : List Message
 head : Int
 size : Int
 deriving DecidableEq
def zRing : Ring := ⟨[], 0, 0⟩
instance : Inhabited Ring := ⟨zRing⟩
def eRing (x : Ring) : D := .agg [.sl (x.cells.map eMessage), .int .i64 x.head, .int .i64 x.size]
structure Lease where
 msg : Message
 deadline : Int
 deriving DecidableEq
def zLease : Lease := ⟨⟨0, 0, 0, 0, 0, 0, []⟩, 0⟩
instance : Inhabited Lease := ⟨zLease⟩
def eLease (x : Lease) : D := .agg [.int .i64 x.msg.id, .int .i64 x.msg.route, .int .i64 x.msg.epoch, .int .i64 x.msg.count, .int .i64 x.msg.gen, .int .i64 x.msg.sent, .str x.msg.body, .int .i64 x.deadline]
theorem zr8 (x : Lease) : (eLease x).cells = [.int .i64 x.msg.id, .int .i64 x.msg.route, .int .i64 x.msg.epoch, .int .i64 x.msg.count, .int .i64 x.msg.gen, .int .i64 x.msg.sent, .str x.msg.body, .int .i64 x.deadline] := rfl
theorem zmR (x : Lease) : (eLease x).size = 8 := rfl
theorem zr7 (x : Lease) : (eLease x).asAgg = eLease x := rfl
theorem zr9 (x : Lease) : (eLease x).isT = false := rfl
theorem zkk (l : List Lease) : allSize 8 (l.map eLease) = true := by simp [allSize, zmR]
structure Table where
 l : List Lease
 heap : List Due
 deriving DecidableEq
def zTable : Table := ⟨[], []⟩
instance : Inhabited Table := ⟨zTable⟩
def eTable (x : Table) : D := .agg [.sl (x.l.map eLease), .sl (x.heap.map eD)]
theorem zre (x : Table) : (eTable x).cells = [.sl (x.l.map eLease), .sl (x.heap.map eD)] := rfl
theorem zrg (x : Table) : (eTable x).size = 2 := rfl
theorem zrd (x : Table) : (eTable x).asAgg = eTable x := rfl
theorem zrf (x : Table) : (eTable x).isT = false := rfl
structure Shard where
 live : Bool
 low : Int
 high : Int
 ready : Ring
 leases : Table
 deriving DecidableEq
def zShard : Shard := ⟨false, 0, 0, ⟨[], 0, 0⟩, ⟨[], []⟩⟩
instance : Inhabited Shard := ⟨zShard⟩
def eShard (x : Shard) : D := .agg [.bool x.live, .int .i64 x.low, .int .i64 x.high, .sl (x.ready.cells.map eMessage), .int .i64 x.ready.head, .int .i64 x.ready.size, .sl (x.leases.l.map eLease), .sl (x.leases.heap.map eD)]
structure Slot where
 owner : Int
 shard : Shard
 deriving DecidableEq
def zSlot : Slot := ⟨0, ⟨false, 0, 0, ⟨[], 0, 0⟩, ⟨[], []⟩⟩⟩
instance : Inhabited Slot := ⟨zSlot⟩
structure Stripe where
 seq : Int
 epoch : Int
 ready : Int
 leased : Int
 deriving DecidableEq
def zStripe : Stripe := ⟨0, 0, 0, 0⟩
instance : Inhabited Stripe := ⟨zStripe⟩
structure Dead where
 cap : Int
 l : List Message
 deriving DecidableEq
def zDead : Dead := ⟨0, []⟩
instance : Inhabited Dead := ⟨zDead⟩
structure DeadCell where
 owner : Int
 dead : Dead
 deriving DecidableEq
def zDeadCell : DeadCell := ⟨0, ⟨0, []⟩⟩
instance : Inhabited DeadCell := ⟨zDeadCell⟩
structure Arena where
 slots : List Slot
 stripes : List Stripe
 dead : DeadCell
 dir : Directory
 epoch : Int
 clock : Int
 nextID : Int
 deriving DecidableEq
def zArena : Arena := ⟨[], [], ⟨0, ⟨0, []⟩⟩, ⟨0, [], []⟩, 0, 0, 0⟩
instance : Inhabited Arena := ⟨zArena⟩
structure Snapshot where
 phase : Int
 epoch : Int
 clock : Int
 stamp : Int
 deriving DecidableEq
def zSnapshot : Snapshot := ⟨0, 0, 0, 0⟩
instance : Inhabited Snapshot := ⟨zSnapshot⟩
structure Invocation where
 kind : Int
 home : Int
 max : Int
 visibility : Int
 from_ : Int
 to : Int
 bodies : List (List UInt8)
 tokens : List (List UInt8)
 deriving DecidableEq
def zInvocation : Invocation := ⟨0, 0, 0, 0, 0, 0, [], []⟩
instance : Inhabited Invocation := ⟨zInvocation⟩
structure Result where
 err : Int
 id : Int
 tokens : List (List UInt8)
 bodies : List (List UInt8)
 ready : Int
 leased : Int
 moved : Int
 deriving DecidableEq
def zResult : Result := ⟨0, 0, [], [], 0, 0, 0⟩
instance : Inhabited Result := ⟨zResult⟩
structure Locker where
 cells : List Int
 phase : Int
 have_ : Int
 tries : Int
 wait : Int
 deriving DecidableEq
def zLocker : Locker := ⟨[], 0, 0, 0, 0⟩
instance : Inhabited Locker := ⟨zLocker⟩
structure Outcome where
 shards : List Shard
 dead : Dead
 order : List Int
 carry : List Message
 edits : List Edit
 deriving DecidableEq
def zOutcome : Outcome := ⟨[], ⟨0, []⟩, [], [], []⟩
instance : Inhabited Outcome := ⟨zOutcome⟩
structure Section where
 phase : Int
 at_ : Int
 lock : Locker
 snap : Snapshot
 shards : List Shard
 dead : Dead
 stripes : List Stripe
 dir : Directory
 out : Outcome
 limit : Int
 carry : List Message
 deriving DecidableEq
def zSection : Section := ⟨0, 0, ⟨[], 0, 0, 0, 0⟩, ⟨0, 0, 0, 0⟩, [], ⟨0, []⟩, [], ⟨0, [], []⟩, ⟨[], ⟨0, []⟩, [], [], []⟩, 0, []⟩
instance : Inhabited Section := ⟨zSection⟩
structure Walk where
 next : Int
 covered : Int
 deriving DecidableEq
def zWalk : Walk := ⟨0, 0⟩
instance : Inhabited Walk := ⟨zWalk⟩
structure Handle where
 id : Int
 gen : Int
 route : Int
 hint : Int
 deriving DecidableEq
def zHandle : Handle := ⟨0, 0, 0, 0⟩
instance : Inhabited Handle := ⟨zHandle⟩
def eHandle (x : Handle) : D := .agg [.int .i64 x.id, .int .i64 x.gen, .int .i64 x.route, .int .i64 x.hint]
structure Task where
 number : Int
 inv : Invocation
 invoked : Int
 done : Bool
 ended : Int
 pc : Int
 entry : Int
 results : List Result
 setup : Setup
 sec : Section
 dir : Directory
 walk : Walk
 slot : Int
 id : Int
 handle : Handle
 loaded : Int
 first : List Stripe
 second : List Stripe
 deriving DecidableEq
def zTask : Task := ⟨0, ⟨0, 0, 0, 0, 0, 0, [], []⟩, 0, false, 0, 0, 0, [], ⟨0, 0, 0, 0, 0, 0, 0, 0⟩, ⟨0, 0, ⟨[], 0, 0, 0, 0⟩, ⟨0, 0, 0, 0⟩, [], ⟨0, []⟩, [], ⟨0, [], []⟩, ⟨[], ⟨0, []⟩, [], [], []⟩, 0, []⟩, ⟨0, [], []⟩, ⟨0, 0⟩, 0, 0, ⟨0, 0, 0, 0⟩, 0, [], []⟩
instance : Inhabited Task := ⟨zTask⟩
structure Item where
 id : Int
 state : Int
 count : Int
 gen : Int
 route : Int
 deadline : Int
 deriving DecidableEq
def zItem : Item := ⟨0, 0, 0, 0, 0, 0⟩
instance : Inhabited Item := ⟨zItem⟩
structure Bag where
 limit : Int
 now : Int
 epoch : Int
 l : List Item
 deriving DecidableEq
def zBag : Bag := ⟨0, 0, 0, []⟩
instance : Inhabited Bag := ⟨zBag⟩
structure Grant where
 id : Int
 gen : Int
 route : Int
 deadline : Int
 deriving DecidableEq
def zGrant : Grant := ⟨0, 0, 0, 0⟩
instance : Inhabited Grant := ⟨zGrant⟩
structure Event where
 stamp : Int
 task : Int
 entry : Int
 kind : Int
 now : Int
 epoch : Int
 err : Int
 l : List Grant
 ready : Int
 leased : Int
 deriving DecidableEq
def zEvent : Event := ⟨0, 0, 0, 0, 0, 0, 0, [], 0, 0⟩
instance : Inhabited Event := ⟨zEvent⟩
structure World where
 setup : Setup
 arena : Arena
 tasks : List Task
 log : List Event
 steps : Int
 handles : List (List UInt8)
 deriving DecidableEq
def zWorld : World := ⟨⟨0, 0, 0, 0, 0, 0, 0, 0⟩, ⟨[], [], ⟨0, ⟨0, []⟩⟩, ⟨0, [], []⟩, 0, 0, 0⟩, [], [], 0, []⟩
instance : Inhabited World := ⟨zWorld⟩
structure Ref where
 index : Int
 variant : Int
 raw : List UInt8
 deriving DecidableEq
def zRef : Ref := ⟨0, 0, []⟩
instance : Inhabited Ref := ⟨zRef⟩
structure Command where
 kind : Int
 pick : Int
 by_ : Int
 inv : Invocation
 refs : List Ref
 deriving DecidableEq
def zCommand : Command := ⟨0, 0, 0, ⟨0, 0, 0, 0, 0, 0, [], []⟩, []⟩
instance : Inhabited Command := ⟨zCommand⟩
attribute [go_sem] zkl zr6 zja zjt eD_isT ziK zrb zmS zra zrc zl9 zr8 zmR zr7 zr9 zkk zre zrg zrd zrf
end Go.Proofs.YtcjncbkhbllchaaGreat

namespace Go.Proofs.YtcjncbkhbllchaaGreat
open Go Go.Sim
set_option linter.unusedSimpArgs false
set_option linter.unusedVariables false
set_option maxHeartbeats 10000000
set_option maxRecDepth 4000
theorem wrap1 {k n : Nat} (h : k < n) (hn : n ≤ LIM) : IntKind.i64.wrap ((k : Int) + 1) = ((k + 1 : Nat) : Int) := by
 unfold LIM at hn; rw [Go.IntWalk.i64_in _ (by omega)]; simp
theorem zt1 (n : Int) : callL G z1e [.d (.int .i64 n)] [] = some (.d (.bool false), []) := by
 rw [zie zag (by simp)]; simp -implicitDefEqProofs only [z94, zdd, go_sem]
def cmpI (a b : Int) : Int := if a < b then -1 else if b < a then 1 else 0
theorem zmN (a b : Int) : callL G zS [.d (.int .i64 a), .d (.int .i64 b)] [] = some (.d (.int .i64 (cmpI a b)), []) := by
 rw [zie zev (by simp)]; simp -implicitDefEqProofs only [z92, zdb, go_sem]
 simp -implicitDefEqProofs only [zt1, cmpI, go_sem]
 repeat' split
 all_goals simp_all
def firstNZ : List Int → Int
 | [] => 0
 | x :: l => if x = 0 then firstNZ l else x
def orR (l : List Int) (k : Nat) : AExit × St :=
 if firstNZ (l.drop k) = 0 then (.exit 0, ⟨[(3, .d (.int .i64 0))], []⟩)
 else (.ret, ⟨[(2, .d (.int .i64 (firstNZ (l.drop k))))], []⟩)
theorem zuN (l : List Int) (hL : l.length ≤ LIM) : ∀ k, k ≤ l.length → loopL G [] z5p ⟨[(3, .d (.int .i64 0)), (6, .d (.sl (l.map (.int .i64)))), (7, .d (.int .i64 l.length)), (8, .d (.int .i64 k))], []⟩ = some (orR l k) := by
 refine zii (fun k => l.length - k) (fun k => k ≤ l.length) _ _ fun k hk L ih => ?_
 simp only [z5p]
 by_cases hlt : k < l.length
 · have i1 := ih (k + 1) (by omega) (by omega)
   unfold orR at i1 ⊢
   rw [List.drop_eq_getElem_cons hlt, firstNZ]
   clear ih
   have hL2 : l.length ≤ 4294967296 := hL
   simp only [Int.natCast_add, Int.natCast_one, Int.natCast_zero, Int.natCast_mul, Int.cast_ofNat_Int, List.length_append, List.length_map, List.map_nil, List.length_nil, List.map_append, List.map_cons, List.length_cons, Nat.zero_add, srcO, mapSet] at i1
   generalize firstNZ (l.drop (k + 1)) = z at *
   by_cases h : l[k] = 0
   · by_cases hz : z = 0
     · rw [if_pos hz] at i1
       rw [if_pos (by rw [if_pos h]; exact hz)]
       simp -implicitDefEqProofs (maxSteps := 4000000) (disch := omega) only [getDT, go_sem, *] /-A0-/
     · rw [if_neg hz] at i1
       rw [if_neg (by rw [if_pos h]; exact hz), if_pos h]
       simp -implicitDefEqProofs (maxSteps := 4000000) (disch := omega) only [getDT, go_sem, *] /-A1-/
   · rw [if_neg (by rw [if_neg h]; exact h), if_neg h]
     simp -implicitDefEqProofs (maxSteps := 4000000) (disch := omega) only [getDT, go_sem, *] /-A2-/
 · have : k = l.length := by omega
   subst this
   clear ih
   simp only [orR, List.drop_length, firstNZ, if_true]
   simp -implicitDefEqProofs (maxSteps := 4000000) (disch := omega) only [getDT, go_sem, *] /-A3-/
theorem or_ok (l : List Int) (hL : l.length ≤ LIM) : callL G z1d [.d (.sl (l.map (.int .i64)))] [] = some (.d (.int .i64 (firstNZ l)), []) := by
 rw [zie zaf (by simp)]; simp -implicitDefEqProofs only [z93, zdc, go_sem]
 try rw [List.length_map]
 have := zuN l hL 0 (by omega)
 simp only [Int.natCast_zero] at this
 rw [this]
 unfold orR
 simp only [List.drop_zero]
 by_cases h : firstNZ l = 0 <;> simp -implicitDefEqProofs only [h, go_sem]
def cmpD (a b : Due) : Int := if cmpI a.1 b.1 = 0 then cmpI a.2 b.2 else cmpI a.1 b.1
def lt (a b : Due) : Bool := decide (cmpD a b < 0)
theorem zmP (a b : Due) : callL G z0n [.d (eD a), .d (eD b)] [] = some (.d (.int .i64 (cmpD a b)), []) := by
 have h := or_ok [cmpI a.1 b.1, cmpI a.2 b.2] (by simp [LIM])
 simp only [List.map_cons, List.map_nil] at h
 rw [zie zak (by simp)]; simp -implicitDefEqProofs only [z99, zdi, go_sem]
 simp -implicitDefEqProofs only [eD, zmN, h, go_sem]
 simp only [firstNZ, cmpD]
 by_cases h1 : cmpI a.1 b.1 = 0 <;> by_cases h2 : cmpI a.2 b.2 = 0 <;> simp [h1, h2]
theorem zjN (h : List Due) (i j : Nat) (hi : i < h.length) (hj : j < h.length) : callL G z1g [.d (.sl (h.map eD)), .d (.int .i64 i), .d (.int .i64 j)] [] = some (.d (.bool (lt h[i] h[j])), []) := by
 rw [zie zaj (by simp)]; simp -implicitDefEqProofs only [z98, zdh, go_sem]
 simp -implicitDefEqProofs only [show (0 : Int) ≤ (i : Int) by omega, show (0 : Int) ≤ (j : Int) by omega, Int.toNat_natCast, List.getElem?_map, List.getElem?_eq_getElem hi, List.getElem?_eq_getElem hj, zja, zjt, zmP, go_sem]
 rfl
def validD (d : Due) : Bool := decide (0 ≤ d.1) && (decide (d.1 ≤ 1073741824) && (decide (1 ≤ d.2) && decide (d.2 ≤ 1073741824)))
theorem zp0 (d : Due) : callL G z1k [.d (eD d)] [] = some (.d (.bool (validD d)), []) := by
 simp only [eD]
 rw [zie zap (by simp)]; simp -implicitDefEqProofs only [z9e, zdn, go_sem]
 rfl
theorem zrO (d : Due) (j : Int) : callL G z0p [.d (eD d), .d (.pd (.int .i64 j))] [] = some (.d (.bool (decide (d.2 = j))), []) := by
 simp only [eD]
 rw [zie zan (by simp)]; simp -implicitDefEqProofs only [z9c, zdl, go_sem]
theorem zsG {α β : Type} (p : β → Bool) (f : α → β) (es : List α) : idxI p (es.map f) = idxI (fun x => p (f x)) es := by
 unfold idxI; rw [List.findIdx?_map]; rfl
def idxR (es : List D) (g : Nat) (cs : List D) (p : D → Bool) (k : Nat) : AExit × St := match (es.drop k).findIdx? p with | some i => (.ret, ⟨[(4, .d (.int .i64 ((k + i : Nat) : Int)))], []⟩) | none => (.exit 0, ⟨[], []⟩)
theorem zsI (es : List D) (g : Nat) (cs : List D) (p : D → Bool) (hL : es.length ≤ LIM) (hs : ∀ e ∈ es, e.size = 2) (hp : ∀ e ∈ es, callL G g (.d e.asAgg :: cs.map .d) [] = some (.d (.bool (p e)), [])) : ∀ k, k ≤ es.length →
   loopL G [] z5N ⟨[(0, .d (.sl es)), (1, .d (.fn g cs)), (7, .d (.int .i64 es.length)), (8, .d (.int .i64 k))], []⟩ = some (idxR es g cs p k) := by
 refine zii (fun k => es.length - k) (fun k => k ≤ es.length) _ _ fun k hk L ih => ?_
 simp only [z5N]
 by_cases hlt : k < es.length
 · have h1 := hp es[k] (by simp)
   have h2 := hs es[k] (by simp)
   have i1 := ih (k + 1) (by omega) (by omega)
   have hL2 : es.length ≤ 4294967296 := hL
   have h3 : es[k]? = some es[k] := List.getElem?_eq_getElem hlt
   unfold idxR at i1 ⊢
   rw [List.drop_eq_getElem_cons hlt, List.findIdx?_cons]
   clear ih hp hs
   cases hpe : p es[k] with
   | true =>
     rw [hpe] at h1
     simp only [if_true]
     clear i1
     simp -implicitDefEqProofs (maxSteps := 4000000) (disch := omega) only [getDT, go_sem, *] /-A4-/
   | false =>
     rw [hpe] at h1
     cases hf : (es.drop (k + 1)).findIdx? p with
     | none =>
       rw [hf] at i1
       simp only [Int.natCast_add, Int.natCast_one, Int.natCast_zero, Int.natCast_mul, Int.cast_ofNat_Int, List.length_append, List.length_map, List.map_nil, List.length_nil, List.map_append, List.map_cons, List.length_cons, Nat.zero_add, srcO, mapSet] at i1
       simp only [Option.map_none, if_false, Bool.false_eq_true]
       simp -implicitDefEqProofs (maxSteps := 4000000) (disch := omega) only [getDT, go_sem, *] /-A5-/
     | some i =>
       rw [hf] at i1
       simp only [Int.natCast_add, Int.natCast_one, Int.natCast_zero, Int.natCast_mul, Int.cast_ofNat_Int, List.length_append, List.length_map, List.map_nil, List.length_nil, List.map_append, List.map_cons, List.length_cons, Nat.zero_add, srcO, mapSet] at i1
       simp only [Option.map_some, if_false, Bool.false_eq_true]
       rw [show ((k + (i + 1) : Nat) : Int) = (k : Int) + 1 + i by omega]
       simp -implicitDefEqProofs (maxSteps := 4000000) (disch := omega) only [getDT, go_sem, *] /-A6-/
 · have : k = es.length := by omega
   subst this
   clear ih
   simp only [idxR, List.drop_length, List.findIdx?_nil]
   simp -implicitDefEqProofs (maxSteps := 4000000) (disch := omega) only [getDT, go_sem, *] /-A7-/
theorem idx_ok (es : List D) (g : Nat) (cs : List D) (p : D → Bool) (hL : es.length ≤ LIM) (hs : ∀ e ∈ es, e.size = 2) (hp : ∀ e ∈ es, callL G g (.d e.asAgg :: cs.map .d) [] = some (.d (.bool (p e)), [])) : callL G z2r [.d (.sl es), .d (.fn g cs)] [] = some (.d (.int .i64 (idxI p es)), []) := by
 rw [zie zbd (by simp)]; simp -implicitDefEqProofs only [za5, zed, go_sem]
 have := zsI es g cs p hL hs hp 0 (by omega)
 simp only [Int.natCast_zero] at this
 rw [this]
 unfold idxR idxI
 simp only [List.drop_zero, Nat.zero_add]
 cases es.findIdx? p <;> simp -implicitDefEqProofs only [go_sem]
theorem zqC (es : List D) (g : Nat) (cs : List D) (p : D → Bool) (hL : es.length ≤ LIM) (hs : ∀ e ∈ es, e.size = 2) (hp : ∀ e ∈ es, callL G g (.d e.asAgg :: cs.map .d) [] = some (.d (.bool (p e)), [])) : callL G z2n [.d (.sl es), .d (.fn g cs)] [] = some (.d (.bool (es.any p)), []) := by
 rw [zie zb8 (by simp)]; simp -implicitDefEqProofs only [za1, ze9, go_sem]
 simp -implicitDefEqProofs only [idx_ok es g cs p hL hs hp, go_sem]
 unfold idxI
 cases h : es.findIdx? p with
 | none => simp at h; simpa using h
 | some i =>
   have := List.findIdx?_eq_some_iff_getElem.1 h
   simp
   exact ⟨_, List.getElem_mem this.1, this.2.1⟩
def secondIs (j : Int) : D → Bool
 | .agg [_, .int _ n] => decide (n = j)
 | _ => false
def findD (h : List Due) (j : Int) : Int := idxI (fun d => decide (d.2 = j)) h
theorem find_ok (h : List Due) (j : Int) (hL : h.length ≤ LIM) : callL G z1i [.d (.sl (h.map eD)), .d (.int .i64 j)] [] = some (.d (.int .i64 (findD h j)), []) := by
 have hk := idx_ok (h.map eD) z0p [.pd (.int .i64 j)] (secondIs j) (by simpa using hL) (fun e he => by obtain ⟨d, _, rfl⟩ := List.mem_map.1 he; rfl) (fun e he => by
   obtain ⟨d, _, rfl⟩ := List.mem_map.1 he
   exact zrO d j)
 rw [zsG] at hk
 rw [zie zam (by simp)]; simp -implicitDefEqProofs only [z9b, zdk, go_sem]
 simp -implicitDefEqProofs only [hk, go_sem]
 rfl
theorem zp8 (d : Due) : callL G z0m [.d (eD d)] [] = some (.d (.bool (!validD d)), []) := by
 have h := zp0 d
 simp only [eD] at h ⊢
 rw [zie zai (by simp)]; simp -implicitDefEqProofs only [z97, zdg, go_sem]
 simp -implicitDefEqProofs only [h, go_sem]
end Go.Proofs.YtcjncbkhbllchaaGreat

namespace Go.Proofs.YtcjncbkhbllchaaGreat
open Go Go.Sim
set_option linter.unusedSimpArgs false
set_option linter.unusedVariables false
set_option maxHeartbeats 10000000
set_option maxRecDepth 40000
theorem wrapN {x : Int} (h0 : -4294967296 ≤ x) (h1 : x ≤ 4294967296) : IntKind.i64.wrap x = x := wr (by omega)
abbrev srcO (l : List Int) (a : Nat) : Go.Sim.Obj := .row [.d (.agg [.sl (ints l), .int .i64 a])]
theorem new_ok (l : List Int) (hL : l.length ≤ LIM) : callL G zM [.d (.sl (ints l))] [] = some (.ref 0 0 0, [(0, srcO (l.take 4000) 0)]) := by
 have hs := zkl l
 by_cases h : 4000 < l.length
 · have e : ints (l.take 4000) = (ints l).take 4000 := by simp [ints, List.map_take]
   simp only [srcO, e]
   rw [zie za7 (by simp)]; simp -implicitDefEqProofs (maxSteps := 4000000) (disch := omega) only [z6e, z8t, getDT, go_sem, *] /-A0-/
 · have e : l.take 4000 = l := List.take_of_length_le (by omega)
   simp only [srcO, e]
   rw [zie za7 (by simp)]; simp -implicitDefEqProofs (maxSteps := 4000000) (disch := omega) only [z6e, z8t, getDT, go_sem, *] /-A1-/
def rawD (l : List Int) (a : Nat) : Int × Nat := if a < l.length then (l.getD a 0, a + 1) else (0, a)
theorem raw_ok (l : List Int) (a : Nat) (hL : l.length ≤ 4000) : callL G z19 [.ref 1000000 0 0] [(1000000, srcO l a)] = some (.d (.int .i64 (rawD l a).1), [(1000000, srcO l (rawD l a).2)]) := by
 unfold rawD
 have e : ((a : Int) + 1 - 1).toNat = a := by omega
 by_cases h : a < l.length
 · simp only [h, if_true]
   rw [zie zae (by simp)]; simp -implicitDefEqProofs (maxSteps := 4000000) (disch := omega) only [z6j, z8y, e, getDT, go_sem, *]; (try simp only [pA, pB, pC, pD, pE, pF, pG, pH, pI, pJ, pK, pL, pM, pN, pO, pP, if_true, if_false]); repeat' (first | done | rfl | ((first | refine iteC (fun hq => ?_) (fun hq => ?_) | refine iteP (fun hq => ?_) (fun hq => ?_)) <;> (try (first | (exfalso; omega) | contradiction)) <;> (try simp -implicitDefEqProofs (maxSteps := 4000000) (disch := omega) only [e, getDT, go_sem, *]) <;> (try simp only [pA, pB, pC, pD, pE, pF, pG, pH, pI, pJ, pK, pL, pM, pN, pO, pP, if_true, if_false]))); (all_goals try rfl); (all_goals try (repeat' (first | done | rfl | (exfalso; omega) | contradiction | (refine iteR (fun hq => ?_) (fun hq => ?_))))) /-A2-/
 · simp only [h, if_false]
   rw [zie zae (by simp)]; simp -implicitDefEqProofs (maxSteps := 4000000) (disch := omega) only [z6j, z8y, getDT, go_sem, *] /-A3-/
def nD (l : List Int) (a : Nat) (n : Int) : Int := if (rawD l a).1.tmod n < 0 then (rawD l a).1.tmod n + n else (rawD l a).1.tmod n
theorem nD_in (l : List Int) (a : Nat) {n : Int} (h : 1 ≤ n) : 0 ≤ nD l a n ∧ nD l a n < n := by
 unfold nD
 have h1 := Int.tmod_lt_of_pos (rawD l a).1 (show 0 < n by omega)
 have h2 := Int.lt_tmod_of_pos (rawD l a).1 (show 0 < n by omega)
 split <;> omega
theorem n_ok (l : List Int) (a : Nat) (n : Int) (hL : l.length ≤ 4000) (h1 : 1 ≤ n) (h2 : n ≤ 4294967296) : callL G zB [.ref 1000000 0 0, .d (.int .i64 n)] [(1000000, srcO l a)] = some (.d (.int .i64 (nD l a n)), [(1000000, srcO l (rawD l a).2)]) := by
 have hr := raw_ok l a hL
 have h3 := Int.tmod_lt_of_pos (rawD l a).1 (show 0 < n by omega)
 have h4 := Int.lt_tmod_of_pos (rawD l a).1 (show 0 < n by omega)
 unfold nD
 by_cases h : (rawD l a).1.tmod n < 0
 · simp only [h, if_true]
   rw [zie zac (by simp)]; simp -implicitDefEqProofs (maxSteps := 4000000) (disch := omega) only [z6h, z8w, getDT, go_sem, *] /-A4-/
 · simp only [h, if_false]
   rw [zie zac (by simp)]; simp -implicitDefEqProofs (maxSteps := 4000000) (disch := omega) only [z6h, z8w, getDT, go_sem, *] /-A5-/
theorem zjj (l : List Int) (a : Nat) (lo hi : Int) (hL : l.length ≤ 4000) (h0 : -4294967296 ≤ lo) (h1 : lo ≤ hi) (h2 : hi ≤ 4294967296) (h3 : hi - lo < 4294967296) : callL G z18 [.ref 1000000 0 0, .d (.int .i64 lo), .d (.int .i64 hi)] [(1000000, srcO l a)] = some (.d (.int .i64 (lo + nD l a (hi - lo + 1))), [(1000000, srcO l (rawD l a).2)]) := by
 have hr := n_ok l a (hi - lo + 1) hL (by omega) (by omega)
 have hn := nD_in l a (show 1 ≤ hi - lo + 1 by omega)
 rw [zie zet (by simp)]; simp -implicitDefEqProofs (maxSteps := 4000000) (disch := omega) only [z90, zd9, getDT, go_sem, *] /-A6-/
end Go.Proofs.YtcjncbkhbllchaaGreat

namespace Go.Proofs.YtcjncbkhbllchaaGreat
open Go Go.Sim
set_option linter.unusedSimpArgs false
set_option linter.unusedVariables false
set_option maxHeartbeats 10000000
set_option maxRecDepth 4000
theorem zlk (es : List D) (hs : allSize 2 es = true) (hL : es.length ≤ 4294967296) : callL G z09 [.d (.sl es)] [] = some (.acc 0 es, [(0, .acc es.length)]) := by
 cases es with
 | nil =>
   refine zjP z2M (by decide) ?_ ?_
   · simp -implicitDefEqProofs only [z0e, z0k, go_sem]
   · simp -implicitDefEqProofs only [z0e, z0k, Nat.zero_le, go_sem]
 | cons e es =>
   rw [zjO z2M (by simp) (by decide)]
   simp only [zjq] at hs
   simp only [List.length_cons] at hL
   simp -implicitDefEqProofs (maxSteps := 4000000) (disch := omega) only [z0e, z0k, go_sem, *]
theorem zlm (es : List D) (hs : allSize 2 es = true) (hL : es.length ≤ LIM) : callL G z09 [.d (.sl es)] [] = some (.acc 0 es, [(0, .acc es.length)]) := zlk es hs hL
def invalidB : D → Bool
 | .agg [.int _ t, .int _ i] => !validD (t, i)
 | _ => false
def dupAt (h : List Due) (i : Nat) : Bool := decide (findD h (h.getD i (0, 0)).2 ≠ i)
def ordAt (h : List Due) (i : Nat) : Bool := lt (h.getD i (0, 0)) (h.getD ((i - 1) / 2) (0, 0))
def validateD (h : List Due) : Int := if 12 < h.length then 2 else if h.any (fun d => !validD d) then 1 else if (List.range' 0 h.length).any (dupAt h) then 10 else if (List.range' 1 (h.length - 1)).any (ordAt h) then 11 else 0
def val0R (h : List Due) (k : Nat) : AExit × St :=
 if (List.range' k (h.length - k)).any (dupAt h) then (.ret, ⟨[(2, .d (.int .i64 10))], []⟩)
 else (.exit 0, ⟨[(0, .d (.sl (h.map eD)))], []⟩)
theorem zwY (h : List Due) (hL : h.length ≤ 12) : ∀ k, k ≤ h.length → loopL G [] z5q ⟨[(0, .d (.sl (h.map eD))), (11, .d (.sl (h.map eD))), (12, .d (.int .i64 h.length)), (13, .d (.int .i64 k))], []⟩ = some (val0R h k) := by
 refine zii (fun k => h.length - k) (fun k => k ≤ h.length) _ _ fun k hk L ih => ?_
 simp only [z5q]
 by_cases hlt : k < h.length
 · have hf := find_ok h h[k].2 (by simp [LIM]; omega)
   have i1 := ih (k + 1) (by omega) (by omega)
   unfold val0R at i1 ⊢
   rw [show h.length - k = (h.length - (k + 1)) + 1 by omega, List.range'_succ, List.any_cons]
   have hd : dupAt h k = !decide (findD h h[k].2 = k) := by simp [dupAt, hlt]
   rw [hd]
   clear ih hd
   simp only [Int.natCast_add, Int.natCast_one, Int.natCast_zero, Int.natCast_mul, Int.cast_ofNat_Int, List.length_append, List.length_map, List.map_nil, List.length_nil, List.map_append, List.map_cons, List.length_cons, Nat.zero_add, srcO, mapSet] at i1
   generalize (List.range' (k + 1) (h.length - (k + 1))).any (dupAt h) = z at *
   by_cases hc : findD h h[k].2 = k
   · rw [decide_eq_true hc]
     rw [hc] at hf
     simp only [Bool.not_true, Bool.false_or]
     cases z
     · simp only [if_false, Bool.false_eq_true] at i1 ⊢
       simp -implicitDefEqProofs (maxSteps := 4000000) (disch := omega) only [getDT, go_sem, *] /-A0-/
     · simp only [if_true] at i1 ⊢
       simp -implicitDefEqProofs (maxSteps := 4000000) (disch := omega) only [getDT, go_sem, *] /-A1-/
   · rw [decide_eq_false hc]
     simp only [Bool.not_false, Bool.true_or, if_true]
     clear i1
     simp -implicitDefEqProofs (maxSteps := 4000000) (disch := omega) only [getDT, go_sem, *] /-A2-/
 · have : k = h.length := by omega
   subst this
   clear ih
   simp only [val0R, Nat.sub_self, List.range'_zero, List.any_nil, if_false, Bool.false_eq_true]
   simp -implicitDefEqProofs (maxSteps := 4000000) (disch := omega) only [getDT, go_sem, *] /-A3-/
def val1R (h : List Due) (k : Nat) : AExit × St :=
 if (List.range' k (h.length - k)).any (ordAt h) then (.ret, ⟨[(2, .d (.int .i64 11))], []⟩)
 else (.exit 2, ⟨[], []⟩)
theorem zwZ (h : List Due) (hL : h.length ≤ 12) : ∀ k : Nat, 1 ≤ k → loopL G [] z5r ⟨[(0, .d (.sl (h.map eD))), (5, .d (.int .i64 k))], []⟩ = some (val1R h k) := by
 refine zii (fun k => h.length - k) (fun k => 1 ≤ k) _ _ fun k hk L ih => ?_
 simp -implicitDefEqProofs only [z5r, List.length_map, go_sem]
 by_cases hlt : k < h.length
 · have hb := zjN h k ((k - 1) / 2) hlt (by omega)
   have hq : IntKind.i64.wrap (((k : Int) - 1).tdiv 2) = (((k - 1) / 2 : Nat) : Int) := by
     rw [wrapN (by rw [Int.tdiv_eq_ediv_of_nonneg (by omega)]; omega) (by rw [Int.tdiv_eq_ediv_of_nonneg (by omega)]; omega), Int.tdiv_eq_ediv_of_nonneg (by omega)]; omega
   simp -implicitDefEqProofs only [show ((k : Int) < (h.length : Int)) by omega, wrapN (show -4294967296 ≤ (k : Int) - 1 by omega) (by omega), hq, hb, wrap1 hlt (show h.length ≤ LIM by simp [LIM]; omega), show ¬ ((2 : Int) = 0) by decide, go_sem]
   have i1 := ih (k + 1) (by omega) (by omega)
   simp only [Int.natCast_add, Int.natCast_one] at i1
   rw [i1]
   unfold val1R
   rw [show h.length - k = (h.length - (k + 1)) + 1 by omega, List.range'_succ, List.any_cons]
   have hd : ordAt h k = lt h[k] h[(k - 1) / 2] := by simp [ordAt, hlt, show (k - 1) / 2 < h.length by omega]
   rw [hd]
   cases lt h[k] h[(k - 1) / 2]
   · simp -implicitDefEqProofs only [go_sem]
   · simp -implicitDefEqProofs only [go_sem]
 · simp -implicitDefEqProofs only [show ¬ ((k : Int) < (h.length : Int)) by omega, go_sem]
   simp [val1R, show h.length - k = 0 by omega]
theorem zl7 (h : List Due) (hL : h.length ≤ LIM) : callL G z1f [.d (.sl (h.map eD))] [] = some (.d (.int .i64 (validateD h)), []) := by
 have h1 := zqC (h.map eD) z0m [] invalidB (by simpa using hL) (fun e he => by obtain ⟨d, _, rfl⟩ := List.mem_map.1 he; rfl) (fun e he => by
   obtain ⟨d, _, rfl⟩ := List.mem_map.1 he
   exact zp8 d)
 have h2 : (h.map eD).any invalidB = h.any (fun d => !validD d) := by rw [List.any_map]; rfl
 rw [h2] at h1
 rw [zie zex (by simp)]; simp -implicitDefEqProofs only [z96, zdf, go_sem]
 simp -implicitDefEqProofs only [h1, List.length_map, go_sem]
 unfold validateD
 by_cases h12 : 12 < h.length
 · simp -implicitDefEqProofs only [h12, show (12 < (h.length : Int)) by omega, go_sem]
 · have e0 := zwY h (by omega) 0 (by omega)
   have e1 := zwZ h (by omega) 1 (by omega)
   simp only [Int.natCast_zero] at e0
   simp only [Int.natCast_one] at e1
   cases hA : h.any (fun d => !validD d)
   · simp -implicitDefEqProofs only [hA, h12, show ¬ (12 < (h.length : Int)) by omega, e0, val0R, Nat.sub_zero, go_sem]
     cases hB : (List.range' 0 h.length).any (dupAt h)
     · simp -implicitDefEqProofs only [hB, e1, val1R, go_sem]
       cases hC : (List.range' 1 (h.length - 1)).any (ordAt h) <;> simp -implicitDefEqProofs only [hC, go_sem]
     · simp -implicitDefEqProofs only [hB, go_sem]
   · simp -implicitDefEqProofs only [hA, h12, show ¬ (12 < (h.length : Int)) by omega, go_sem]
end Go.Proofs.YtcjncbkhbllchaaGreat
