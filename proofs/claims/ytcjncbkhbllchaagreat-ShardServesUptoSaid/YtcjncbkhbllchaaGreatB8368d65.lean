/-
  Part of the calculus in which the claim is proved: The types of package api, as they lie in memory
-/
import Derived.Test.YtcjncbkhbllchaaGreatBd3746ba
import Derived.KernelRfl
import Derived.Test.YtcjncbkhbllchaaGreatB704729f
import Derived.IntWalk
set_option linter.unusedSimpArgs false
set_option linter.unusedVariables false
set_option maxHeartbeats 10000000
set_option maxRecDepth 100000
namespace Go.Proofs.YtcjncbkhbllchaaGreat
open Go Go.Sim
def tab : List (Nat × AFn) := [(z9O, zb0), (zT, z7c), (zV, z7l), (z1t, z4b), (zd, z7i), (zm, z7g), (z1r, z7k), (z1o, z47), (z1p, z48), (zU, z7j), (z1q, z49), (z2m, z55), (z22, z4Q), (z1s, z4a), (ze, z7f), (z1U, z7y), (z1T, z4J), (z1V, z4K), (z0P, z7x), (zB, z7d), (zq, z7E), (z25, z4U), (z24, z4S), (z0Q, z4T), (zJ, z7C), (z20, z4P), (zG, z7z), (z26, z4V), (zr, z7F), (z1u, z4c), (z06, z7N), (z2i, z7R), (z2a, z7K), (z2e, z50), (z2d, z4Z), (z2b, z4W), (z2j, z7S), (z27, z7H), (z2g, z52), (z2f, z51), (z2K, z5x), (z0Z, z5B), (z0m, z8a), (z10, z5C), (z2N, z5D), (z2O, z5E), (zN, z8g), (z0n, z8b), (z0k, z88), (z2z, z85), (z0S, z86), (z0U, z5k), (zF, z7w), (z1S, z4H), (z00, z7s), (z01, z7t), (z1x, z7q), (z2T, z5L), (z2W, z5R), (z0J, z4f), (z1C, z4n), (z1A, z4k), (z0M, z4l), (z1y, z4g), (z0K, z4h), (zW, z7m), (z1w, z4e), (z1v, z4d), (z1M, z4B), (z2V, z5N), (z2Z, z5U), (z0r, z8f), (z0q, z8e), (z2P, z8c), (z0f, z81), (z12, z5O), (z14, z5V), (z2Q, z5F), (z11, z5K), (zt, z8h), (z0s, z5J), (z1R, z4G), (zp, z7u), (zE, z7v), (z2L, z5y), (z0i, z84), (z2A, z5i), (z0T, z5j), (z2X, z5S), (z2D, z5n), (z2B, z5l), (z1Q, z4F), (z1I, z4v), (z1L, z4z), (z2S, z5I), (zD, z4A), (zX, z7n), (z1B, z4m), (z30, z5W), (z1E, z4p), (z0W, z5t), (z2y, z5h), (z0X, z5v), (z0o, z5G), (z0p, z8d), (z0l, z89), (z0Y, z5z), (z2U, z5M), (z0g, z82), (z2C, z5m), (z2G, z5q), (z1J, z4w), (zn, z7p), (z15, z5X), (z1O, z4D), (z9P, zb2), (z1P, z4E), (z17, z5Z), (z16, z5Y), (zZ, z4x), (z13, z5P), (z2Y, z5T), (z2R, z5H), (z1K, z4y), (zY, z7o), (z0L, z4j), (z1z, z4i), (z1N, z4C), (z3A, z5Q), (z0V, z5r), (z2M, z5A), (z1H, z4u), (z2E, z5o), (z2H, z5s), (z0h, z83), (z2J, z5w), (z9N, zaZ), (z6A, zaY), (zo, z7r), (zl, z7e), (z6B, zb1), (z09, z7T), (z0c, z7W), (z21, z7D), (z2o, z57), (z2F, z5p), (z1G, z4t), (z0e, z7Y), (z2v, z5e), (z1D, z4o), (z0O, z4s), (z0j, z87), (z0a, z7U), (z0b, z7V), (zK, z7Z), (zM, z80), (zI, z7A), (z02, z7B), (z2s, z5b), (z2I, z5u), (z2q, z59), (z2n, z56), (z2w, z5f), (z05, z7M), (zC, z7h), (z0N, z4r), (z2r, z5a), (z1F, z4q), (z0d, z7X), (z23, z4R), (z1Y, z4N), (z2h, z7P), (z08, z7Q), (z29, z7J), (z2t, z5c), (z2x, z5g), (z1X, z4M), (z1W, z4L), (z03, z7G), (z1Z, z4O), (z2k, z53), (z2u, z5d), (z07, z7O), (z28, z7I), (z0R, z4X), (z2c, z4Y), (z2p, z58), (z2l, z54), (z04, z7L)]
def G : FuncId → Option AFn := fun f => Go.Sim.look f tab
theorem zb3 : G zT = some z7c := tk
theorem zf0 : G zV = some z7l := tk
theorem z61 : G z1t = some z4b := tk
theorem zb8 : G zd = some z7i := tk
theorem zb7 : G zm = some z7g := tk
theorem zb9 : G z1r = some z7k := tk
theorem zb4 : G z1o = some z47 := tk
theorem zb6 : G z1p = some z48 := tk
theorem zeZ : G zU = some z7j := tk
theorem z3h : G z1q = some z49 := tk
theorem zbL : G z2m = some z55 := tk
theorem zbA : G z22 = some z4Q := tk
theorem z8i : G z1s = some z4a := tk
theorem z60 : G ze = some z7f := tk
theorem z8m : G z1U = some z7y := tk
theorem zbv : G z1T = some z4J := tk
theorem zbw : G z1V = some z4K := tk
theorem z67 : G z0P = some z7x := tk
theorem zb5 : G zB = some z7d := tk
theorem zbB : G zq = some z7E := tk
theorem z1i : G z25 = some z4U := tk
theorem z1h : G z24 = some z4S := tk
theorem zbD : G z0Q = some z4T := tk
theorem z8n : G zJ = some z7C := tk
theorem z69 : G z20 = some z4P := tk
theorem zbx : G zG = some z7z := tk
theorem zbE : G z26 = some z4V := tk
theorem z8o : G zr = some z7F := tk
theorem z8j : G z1u = some z4c := tk
theorem zQ : G z06 = some z7N := tk
theorem z1j : G z2i = some z7R := tk
theorem zf8 : G z2a = some z7K := tk
theorem zbH : G z2e = some z50 := tk
theorem zbG : G z2d = some z4Z := tk
theorem zbF : G z2b = some z4W := tk
theorem zbK : G z2j = some z7S := tk
theorem z3q : G z27 = some z7H := tk
theorem zbJ : G z2g = some z52 := tk
theorem zbI : G z2f = some z51 := tk
theorem z3v : G z2K = some z5x := tk
theorem z8F : G z0Z = some z5B := tk
theorem z8E : G z0m = some z8a := tk
theorem z8G : G z10 = some z5C := tk
theorem zc0 : G z2N = some z5D := tk
theorem zc1 : G z2O = some z5E := tk
theorem z1m : G zN = some z8g := tk
theorem z8H : G z0n = some z8b := tk
theorem zA : G z0k = some z88 := tk
theorem z3u : G z2z = some z85 := tk
theorem zfe : G z0S = some z86 := tk
theorem zbU : G z0U = some z5k := tk
theorem z8l : G zF = some z7w := tk
theorem z66 : G z1S = some z4H := tk
theorem z3m : G z00 = some z7s := tk
theorem z8k : G z01 = some z7t := tk
theorem zf3 : G z1x = some z7q := tk
theorem zc4 : G z2T = some z5L := tk
theorem zc8 : G z2W = some z5R := tk
theorem zbd : G z0J = some z4f := tk
theorem zbk : G z1C = some z4n := tk
theorem zbh : G z1A = some z4k := tk
theorem zbi : G z0M = some z4l := tk
theorem zbe : G z1y = some z4g := tk
theorem zbf : G z0K = some z4h := tk
theorem zf1 : G zW = some z7m := tk
theorem zbb : G z1w = some z4e := tk
theorem zba : G z1v = some z4d := tk
theorem z65 : G z1M = some z4B := tk
theorem zc6 : G z2V = some z5N := tk
theorem z8M : G z2Z = some z5U := tk
theorem zfi : G z0r = some z8f := tk
theorem zc2 : G z0q = some z8e := tk
theorem zfg : G z2P = some z8c := tk
theorem zfd : G z0f = some z81 := tk
theorem z1n : G z12 = some z5O := tk
theorem z0I : G z14 = some z5V := tk
theorem z8I : G z2Q = some z5F := tk
theorem z3y : G z11 = some z5K := tk
theorem zc3 : G zt = some z8h := tk
theorem z3x : G z0s = some z5J := tk
theorem zbu : G z1R = some z4G := tk
theorem zbt : G zp = some z7u := tk
theorem zf5 : G zE = some z7v := tk
theorem z3w : G z2L = some z5y := tk
theorem z8z : G z0i = some z84 := tk
theorem zbS : G z2A = some z5i := tk
theorem zbT : G z0T = some z5j := tk
theorem z8K : G z2X = some z5S := tk
theorem zbW : G z2D = some z5n := tk
theorem zbV : G z2B = some z5l := tk
theorem z3n : G z1Q = some z4F := tk
theorem zj : G z1I = some z4v := tk
theorem zbp : G z1L = some z4z := tk
theorem z6j : G z2S = some z5I := tk
theorem zbq : G zD = some z4A := tk
theorem z3j : G zX = some z7n := tk
theorem zbj : G z1B = some z4m := tk
theorem z8N : G z30 = some z5W := tk
theorem zbl : G z1E = some z4p := tk
theorem zbY : G z0W = some z5t := tk
theorem zbP : G z2y = some z5h := tk
theorem z6i : G z0X = some z5v := tk
theorem z0H : G z0o = some z5G := tk
theorem zfh : G z0p = some z8d := tk
theorem zff : G z0l = some z89 := tk
theorem zbZ : G z0Y = some z5z := tk
theorem zc5 : G z2U = some z5M := tk
theorem zbQ : G z0g = some z82 := tk
theorem z1k : G z2C = some z5m := tk
theorem z6h : G z2G = some z5q := tk
theorem z64 : G z1J = some z4w := tk
theorem zbc : G zn = some z7p := tk
theorem z8O : G z15 = some z5X := tk
theorem zbs : G z1O = some z4D := tk
theorem zb : G z1P = some z4E := tk
theorem z8Q : G z17 = some z5Z := tk
theorem z8P : G z16 = some z5Y := tk
theorem zbo : G zZ = some z4x := tk
theorem z6k : G z13 = some z5P := tk
theorem z8L : G z2Y = some z5T := tk
theorem z8J : G z2R = some z5H := tk
theorem z3l : G z1K = some z4y := tk
theorem zf2 : G zY = some z7o := tk
theorem z62 : G z0L = some z4j := tk
theorem zbg : G z1z = some z4i := tk
theorem zbr : G z1N = some z4C := tk
theorem zc7 : G z3A = some z5Q := tk
theorem z8A : G z0V = some z5r := tk
theorem z8D : G z2M = some z5A := tk
theorem z63 : G z1H = some z4u := tk
theorem z6g : G z2E = some z5o := tk
theorem zS : G z2H = some z5s := tk
theorem zbR : G z0h = some z83 := tk
theorem z8C : G z2J = some z5w := tk
theorem zf4 : G zo = some z7r := tk
theorem z3i : G zl = some z7e := tk
theorem zfa : G z09 = some z7T := tk
theorem zfb : G z0c = some z7W := tk
theorem zf7 : G z21 = some z7D := tk
theorem zbM : G z2o = some z57 := tk
theorem z1l : G z2F = some z5p := tk
theorem z0E : G z1G = some z4t := tk
theorem zy : G z0e = some z7Y := tk
theorem z8y : G z2v = some z5e := tk
theorem zx : G z1D = some z4o := tk
theorem z3k : G z0O = some z4s := tk
theorem zbX : G z0j = some z87 := tk
theorem z6b : G z0a = some z7U := tk
theorem z8x : G z0b = some z7V := tk
theorem zbN : G zK = some z7Z := tk
theorem zbO : G zM = some z80 := tk
theorem zby : G zI = some z7A := tk
theorem zf6 : G z02 = some z7B := tk
theorem z6d : G z2s = some z5b := tk
theorem z8B : G z2I = some z5u := tk
theorem z3t : G z2q = some z59 := tk
theorem z0F : G z2n = some z56 := tk
theorem z6e : G z2w = some z5f := tk
theorem z8t : G z05 = some z7M := tk
theorem zeY : G zC = some z7h := tk
theorem zbn : G z0N = some z4r := tk
theorem zR : G z2r = some z5a := tk
theorem zbm : G z1F = some z4q := tk
theorem zfc : G z0d = some z7X := tk
theorem zbC : G z23 = some z4R := tk
theorem z68 : G z1Y = some z4N := tk
theorem zf9 : G z2h = some z7P := tk
theorem z8v : G z08 = some z7Q := tk
theorem z8r : G z29 = some z7J := tk
theorem zk : G z2t = some z5c := tk
theorem z6f : G z2x = some z5g := tk
theorem zbz : G z1X = some z4M := tk
theorem z3o : G z1W = some z4L := tk
theorem z8p : G z03 = some z7G := tk
theorem z3p : G z1Z = some z4O := tk
theorem z8w : G z2k = some z53 := tk
theorem z0G : G z2u = some z5d := tk
theorem z8u : G z07 = some z7O := tk
theorem z8q : G z28 = some z7I := tk
theorem z3r : G z0R = some z4X := tk
theorem z8s : G z2c = some z4Y := tk
theorem z6c : G z2p = some z58 := tk
theorem z6a : G z2l = some z54 := tk
theorem z3s : G z04 = some z7L := tk
end Go.Proofs.YtcjncbkhbllchaaGreat

namespace Go.Sim
variable {G : FuncId → Option AFn}
theorem znh {T : Type} {ks : List Nat} {x : ACode} (μ : T → Nat) (inv : T → Prop) (st : T → St) (Q : T → Option (AExit × St) → Prop)
    (h : ∀ t, inv t → ∀ L : St → Option (AExit × St), (∀ t', inv t' → μ t' < μ t → Q t' (L (st t'))) → Q t ((exL G x (st t)).bind (loopF ks L))) : ∀ t, inv t → Q t (loopL G ks x (st t)) := by
 intro t
 generalize hk : μ t = k
 induction k using Nat.strongRecOn generalizing t with
 | ind k ih =>
  intro hi
  rw [zk0]
  exact h t hi _ fun t' hi' hlt => ih (μ t') (by omega) t' rfl hi'
end Go.Sim

namespace Go.Sim
variable {G : FuncId → Option AFn}
theorem wr {x : Int} (h : -9223372036854775808 ≤ x ∧ x < 9223372036854775808) : IntKind.i64.wrap x = x := by
 rw [Go.IntWalk.i64_in _ (by omega)]
theorem wu64 {x : Int} (h : 0 ≤ x ∧ x < 18446744073709551616) : IntKind.u64.wrap x = x := by rw [Go.IntWalk.u64_in _ (by omega)]
theorem wu8 {x : Int} (h : 0 ≤ x ∧ x < 256) : IntKind.u8.wrap x = x := by rw [Go.IntWalk.u8_in _ (by omega)]
theorem beqT {b : Bool} : (b == true) = b := by cases b <;> rfl
theorem ltT {a b : Int} (h : a < b) : (a < b) = True := eq_true h
theorem ltF {a b : Int} (h : b ≤ a) : (a < b) = False := eq_false (by omega)
theorem leT {a b : Int} (h : a ≤ b) : (a ≤ b) = True := eq_true h
theorem leF {a b : Int} (h : b < a) : (a ≤ b) = False := eq_false (by omega)
theorem eqT {a b : Int} (h : a = b) : (a = b) = True := eq_true h
theorem eqF {a b : Int} (h : ¬ a = b) : (a = b) = False := eq_false h
theorem lenLtT {α : Type} {l : List α} {a : Nat} (h : a < l.length) : (a < l.length) = True := eq_true h
theorem lenLtF {α : Type} {l : List α} {a : Nat} (h : l.length ≤ a) : (a < l.length) = False := eq_false (by omega)
theorem lenLeT {α : Type} {l : List α} {c : Nat} (h : l.length ≤ c) : (l.length ≤ c) = True := eq_true h
theorem addLeT {a b c : Nat} (h : a + b ≤ c) : (a + b ≤ c) = True := eq_true h
theorem lim_eq : LIM = 4294967296 := rfl
theorem mapGet {α β : Type} {f : α → β} {l : List α} {k : Nat} (h : k < l.length) : (l.map f)[k]? = some (f (l[k]'h)) := by
 rw [List.getElem?_map, List.getElem?_eq_getElem h]; rfl
theorem zAN {k : Nat} : ((k : Int) + 1).toNat = k + 1 := by omega
theorem zo6 {ks : List Nat} {x : ACode} (n : Nat) (p : Nat → Bool) (st : Nat → St) (R fin : AExit × St)
    (h : ∀ k, k ≤ n → ∀ L : St → Option (AExit × St), (exL G x (st k)).bind (loopF ks L) = if k < n then (if p k = true then L (st (k + 1)) else some R) else some fin) :
    loopL G ks x (st 0) = some (if (List.range n).all p = true then fin else R) := by
 have key : ∀ m k, k + m = n → loopL G ks x (st k) = some (if ((List.range' k m).all p) = true then fin else R) := by
  intro m
  induction m with
  | zero =>
   intro k hk
   rw [zk0, h k (by omega), if_neg (by omega)]
   rfl
  | succ m ih =>
   intro k hk
   rw [zk0, h k (by omega), if_pos (by omega), List.range'_succ, List.all_cons, ih (k + 1) (by omega)]
   cases p k <;> rfl
 have := key n 0 (by omega)
 rwa [← List.range_eq_range'] at this
theorem all_eq {α : Type} [DecidableEq α] {a b : List α} (h : a.length = b.length) : ((List.range a.length).all fun k => decide (a[k]? = b[k]?)) = decide (a = b) := by
 by_cases e : a = b
 · subst e; simp
 · rw [decide_eq_false e]
   apply Bool.eq_false_iff.2
   intro hh
   apply e
   rw [List.all_eq_true] at hh
   apply List.ext_getElem?
   intro k
   by_cases hk : k < a.length
   · simpa using hh k (List.mem_range.2 hk)
   · rw [List.getElem?_eq_none (by omega), List.getElem?_eq_none (by omega)]
theorem get_eq {α : Type} [DecidableEq α] {a b : List α} {k : Nat} (ha : k < a.length) (hb : k < b.length) : decide (a[k]? = b[k]?) = decide (a[k] = b[k]) := by
 rw [List.getElem?_eq_getElem ha, List.getElem?_eq_getElem hb]; simp
def findR {α : Type} (n : Nat) (p : Nat → Bool) (R : Nat → α) (fin : α) : α := match (List.range n).find? p with | some k => R k | none => fin
theorem zl3 {ks : List Nat} {x : ACode} (n : Nat) (p : Nat → Bool) (st : Nat → St) (R : Nat → AExit × St) (fin : AExit × St)
    (h : ∀ k, k ≤ n → ∀ L : St → Option (AExit × St), (exL G x (st k)).bind (loopF ks L) = if k < n then (if p k = true then some (R k) else L (st (k + 1))) else some fin) :
    loopL G ks x (st 0) = some (findR n p R fin) := by
 have key : ∀ m k, k + m = n → loopL G ks x (st k) = some (match (List.range' k m).find? p with | some k => R k | none => fin) := by
  intro m
  induction m with
  | zero =>
   intro k hk
   rw [zk0, h k (by omega), if_neg (by omega)]
   rfl
  | succ m ih =>
   intro k hk
   rw [zk0, h k (by omega), if_pos (by omega), List.range'_succ, List.find?_cons, ih (k + 1) (by omega)]
   cases p k <;> rfl
 have := key n 0 (by omega)
 rwa [← List.range_eq_range'] at this
def idxI {α : Type} (p : α → Bool) (es : List α) : Int := match es.findIdx? p with | some i => i | none => -1
def atB {α : Type} (l : List α) (p : α → Bool) (k : Nat) : Bool := match l[k]? with | some a => p a | none => false
theorem zvY {α : Type} (l : List α) (p : α → Bool) : (List.range l.length).find? (atB l p) = l.findIdx? p := by
 have key : ∀ (m k : Nat), k + m = l.length → (List.range' k m).find? (atB l p) = ((l.drop k).findIdx? p).map (k + ·) := by
  intro m
  induction m with
  | zero => intro k hk; rw [List.drop_of_length_le (by omega)]; rfl
  | succ m ih =>
   intro k hk
   rw [List.range'_succ, List.find?_cons, List.drop_eq_getElem_cons (show k < l.length by omega), List.findIdx?_cons, ih (k + 1) (by omega)]
   have : atB l p k = p (l[k]'(by omega)) := by unfold atB; rw [List.getElem?_eq_getElem (by omega)]
   rw [this]
   cases p (l[k]'(by omega)) with
   | true => simp
   | false =>
    cases (l.drop (k + 1)).findIdx? p with
    | none => rfl
    | some i => simp; omega
 have := key l.length 0 (by omega)
 rw [← List.range_eq_range'] at this
 rw [this, List.drop_zero]
 cases l.findIdx? p <;> simp only [Option.map_none, Option.map_some, Nat.zero_add]
theorem atB_at {α : Type} {l : List α} {p : α → Bool} {k : Nat} (h : k < l.length) : atB l p k = p l[k] := by
 unfold atB; rw [List.getElem?_eq_getElem h]
theorem znu {α β : Type} (l : List α) (p : α → Bool) (R : Nat → β) (fin : β) : findR l.length (atB l p) R fin = match l.findIdx? p with | some k => R k | none => fin := by
 unfold findR; rw [zvY]
theorem zoF {α : Type} (l : List α) (p : α → Bool) : decide (0 ≤ idxI p l) = l.any p := by
 unfold idxI
 cases h : l.findIdx? p with
 | none => simp at h; simpa using h
 | some i =>
  have := List.findIdx?_eq_some_iff_getElem.1 h
  simp
  exact ⟨_, List.getElem_mem this.1, this.2.1⟩
theorem zrt {α : Type} (l : List α) (p : α → Bool) : -1 ≤ idxI p l ∧ idxI p l < l.length := by
 unfold idxI
 cases e : l.findIdx? p with
 | none => simp only; omega
 | some i => have := (List.findIdx?_eq_some_iff_getElem.1 e).1; simp only; omega
theorem zwH {α : Type} {l : List α} {p : α → Bool} {i : Nat} (h : idxI p l = i) : ∃ hi : i < l.length, p (l[i]) = true ∧ ∀ j (hj : j < i), p (l[j]'(by omega)) = false := by
 unfold idxI at h
 cases e : l.findIdx? p with
 | none => rw [e] at h; simp only at h; omega
 | some k =>
  rw [e] at h
  simp only at h
  obtain rfl : k = i := by omega
  obtain ⟨h1, h2, h3⟩ := List.findIdx?_eq_some_iff_getElem.1 e
  exact ⟨h1, h2, fun j hj => by have := h3 j hj; simpa using this⟩
theorem znv {α : Type} (l : List α) (p : α → Bool) : idxI p l < 0 ↔ ∀ a ∈ l, p a = false := by
 have := zoF l p
 have h2 : l.any p = false ↔ ∀ a ∈ l, p a = false := by simp
 rw [← h2, ← this]
 simp
end Go.Sim

namespace Go.Sim
theorem getDT {α : Type} {l : List α} {k : Nat} {d : α} (h : k < l.length) : l.getD k d = l[k]'h := by
 rw [List.getD_eq_getElem?_getD, List.getElem?_eq_getElem h]; rfl
theorem setMap {α β : Type} {f : α → β} {l : List α} {k : Nat} {x : α} : (l.map f).set k (f x) = (l.set k x).map f := by rw [List.map_set]
theorem mapGet2 {α β γ : Type} {f : α → β} {g : β → γ} {l : List α} {k : Nat} (h : k < l.length) : ((l.map f).map g)[k]? = some (g (f (l[k]'h))) := by
 rw [List.map_map, List.getElem?_map, List.getElem?_eq_getElem h]; rfl
theorem lenSet {α : Type} {l : List α} {k : Nat} {x : α} : (l.set k x).length = l.length := List.length_set
theorem mapSet {α : Type} {f : α → D} {l : List α} {k : Nat} {x : α} : (l.set k x).map f = (l.map f).set k (f x) := by rw [List.map_set]
theorem setD {ds : List D} {k : Nat} {x : D} : (ds.map AV.d).set k (.d x) = (ds.set k x).map AV.d := by rw [List.map_set]
theorem iteC {α : Type} {c : Prop} [Decidable c] {A B r : α} (h1 : c → A = r) (h2 : ¬ c → B = r) : (if c then A else B) = r := by split <;> simp_all
theorem takeMapD {ds : List D} {n : Nat} : (ds.map AV.d).take n = (ds.take n).map AV.d := by rw [List.map_take]
theorem takeSetM {α : Type} {f : α → D} {l : List α} {n k : Nat} {x : D} (h : l.length ≤ n) : ((l.map f).set k x).take n = (l.map f).set k x := List.take_of_length_le (by simpa using h)
theorem takeM {α : Type} {f : α → D} {l : List α} {n : Nat} (h : l.length ≤ n) : (l.map f).take n = l.map f := List.take_of_length_le (by simpa using h)
theorem iteR {α : Type} {c : Prop} [Decidable c] {A B r : α} (h1 : c → r = A) (h2 : ¬ c → r = B) : r = if c then A else B := by split <;> simp_all
attribute [go_sem ↓] reduceIte
attribute [go_sem] reduceCtorEq Nat.reduceEqDiff Nat.reduceAdd Nat.reduceBEq Nat.reduceMul Nat.reduceLeDiff Nat.reduceSub Nat.reduceLT Nat.reduceDiv Nat.reduceMod List.reduceReplicate Int.reduceEq Int.reduceLT Int.reduceLE Int.reduceAdd Int.reduceSub Int.reduceMul Int.reduceNeg Int.reduceToNat
attribute [go_sem] zAN takeMapD takeSetM takeM lenSet mapSet setD mapGet2 wr or_self or_false false_or true_or or_true false_and and_false Int.natCast_mul Int.cast_ofNat_Int Int.natCast_zero List.length_append lim_eq wu64 wu8 Bool.true_beq Bool.false_beq beqT Int.natCast_add Int.natCast_one ltT ltF leT leF eqT eqF lenLtT lenLtF lenLeT addLeT mapGet Int.toNat_natCast Int.natCast_nonneg List.length_map
theorem pA {a b : Bool} : ((a || b) = true) = (a = true ∨ b = true) := Bool.or_eq_true a b
theorem pB {a b : Bool} : ((a && b) = true) = (a = true ∧ b = true) := Bool.and_eq_true a b
theorem pC {p : Prop} [Decidable p] : (decide p = true) = p := decide_eq_true_eq
theorem pD {a : Bool} : ((!a) = true) = (a = false) := Bool.not_eq_true' a
theorem pE {p : Prop} [Decidable p] : (decide p = false) = ¬ p := by simp
theorem pF {p q : Prop} : (¬ (p ∨ q)) = (¬ p ∧ ¬ q) := by simp
theorem pG {a b : Int} : (¬ a < b) = (b ≤ a) := by simp
theorem pH {a b : Int} : (¬ a ≤ b) = (b < a) := by simp
theorem pI {a b : Nat} : (¬ a < b) = (b ≤ a) := by simp
theorem pJ {a b : Nat} : (¬ a ≤ b) = (b < a) := by simp
theorem pK {a b : Bool} : ((a || b) = false) = (a = false ∧ b = false) := by simp
theorem pL {a b : Bool} : ((a && b) = false) = (a = false ∨ b = false) := by cases a <;> cases b <;> simp
theorem pM {a : Bool} : ((!a) = false) = (a = true) := by simp
theorem pN : (true = false) = False := by simp
theorem pO : (false = true) = False := by simp
theorem pP {p : Prop} : (¬ ¬ p) = p := by simp
end Go.Sim

namespace Go.Proofs.YtcjncbkhbllchaaGreat
open Go Go.Sim
abbrev ints (l : List Int) : List D := l.map (.int .i64)
theorem zkl (l : List Int) : allSize 1 (ints l) = true := by simp [allSize, D.size, D.cells]
def eBytes (b : List UInt8) : D := .sl (byD b)
theorem zlE (l : List (List UInt8)) : allSize 1 (l.map eBytes) = true := by simp [allSize, D.size, D.cells, eBytes]
theorem zlF (l : List (List UInt8)) : allSize 1 (l.map D.str) = true := by simp [allSize, D.size, D.cells]
abbrev Due := Int × Int
def eD (d : Due) : D := .agg [.int .i64 d.1, .int .i64 d.2]
theorem zlR (d : Due) : (eD d).cells = [.int .i64 d.1, .int .i64 d.2] := rfl
theorem zjU (d : Due) : (eD d).size = 2 := rfl
theorem zjV (d : Due) : (eD d).asAgg = eD d := rfl
theorem eD_isT (d : Due) : (eD d).isT = false := rfl
theorem zjT (h : List Due) : allSize 2 (h.map eD) = true := by simp [allSize, zjU]
structure Span where
 low : Int
 high : Int
 shard : Int
 deriving DecidableEq
def zSpan : Span := ⟨0, 0, 0⟩
instance : Inhabited Span := ⟨zSpan⟩
def eSpan (x : Span) : D := .agg [.int .i64 x.low, .int .i64 x.high, .int .i64 x.shard]
theorem zmU (x : Span) : (eSpan x).cells = [.int .i64 x.low, .int .i64 x.high, .int .i64 x.shard] := rfl
theorem zkU (x : Span) : (eSpan x).size = 3 := rfl
theorem zmT (x : Span) : (eSpan x).asAgg = eSpan x := rfl
theorem zmV (x : Span) : (eSpan x).isT = false := rfl
theorem zly (l : List Span) : allSize 3 (l.map eSpan) = true := by simp [allSize, zkU]
structure Directory where
 version : Int
 l : List Span
 forward : List Int
 deriving DecidableEq
def zDirectory : Directory := ⟨0, [], []⟩
instance : Inhabited Directory := ⟨zDirectory⟩
def eDirectory (x : Directory) : D := .agg [.int .i64 x.version, .sl (x.l.map eSpan), .sl (ints x.forward)]
theorem zlZ (x : Directory) : (eDirectory x).cells = [.int .i64 x.version, .sl (x.l.map eSpan), .sl (ints x.forward)] := rfl
theorem zkB (x : Directory) : (eDirectory x).size = 3 := rfl
theorem zlY (x : Directory) : (eDirectory x).asAgg = eDirectory x := rfl
theorem zm0 (x : Directory) : (eDirectory x).isT = false := rfl
theorem zlh (l : List Directory) : allSize 3 (l.map eDirectory) = true := by simp [allSize, zkB]
structure Edit where
 kind : Int
 from_ : Int
 to : Int
 mid : Int
 deriving DecidableEq
def zEdit : Edit := ⟨0, 0, 0, 0⟩
instance : Inhabited Edit := ⟨zEdit⟩
def eEdit (x : Edit) : D := .agg [.int .i64 x.kind, .int .i64 x.from_, .int .i64 x.to, .int .i64 x.mid]
theorem zm2 (x : Edit) : (eEdit x).cells = [.int .i64 x.kind, .int .i64 x.from_, .int .i64 x.to, .int .i64 x.mid] := rfl
theorem zkC (x : Edit) : (eEdit x).size = 4 := rfl
theorem zm1 (x : Edit) : (eEdit x).asAgg = eEdit x := rfl
theorem zm3 (x : Edit) : (eEdit x).isT = false := rfl
theorem zli (l : List Edit) : allSize 4 (l.map eEdit) = true := by simp [allSize, zkC]
structure Setup where
 slots : Int
 live : Int
 capacity : Int
 dead : Int
 limit : Int
 clock : Int
 nextID : Int
 epoch : Int
 deriving DecidableEq
def zSetup : Setup := ⟨0, 0, 0, 0, 0, 0, 0, 0⟩
instance : Inhabited Setup := ⟨zSetup⟩
def eSetup (x : Setup) : D := .agg [.int .i64 x.slots, .int .i64 x.live, .int .i64 x.capacity, .int .i64 x.dead, .int .i64 x.limit, .int .i64 x.clock, .int .i64 x.nextID, .int .i64 x.epoch]
theorem zmI (x : Setup) : (eSetup x).cells = [.int .i64 x.slots, .int .i64 x.live, .int .i64 x.capacity, .int .i64 x.dead, .int .i64 x.limit, .int .i64 x.clock, .int .i64 x.nextID, .int .i64 x.epoch] := rfl
theorem zkQ (x : Setup) : (eSetup x).size = 8 := rfl
theorem zmH (x : Setup) : (eSetup x).asAgg = eSetup x := rfl
theorem zmJ (x : Setup) : (eSetup x).isT = false := rfl
theorem zlu (l : List Setup) : allSize 8 (l.map eSetup) = true := by simp [allSize, zkQ]
structure Message where
 id : Int
 route : Int
 epoch : Int
 count : Int
 gen : Int
 sent : Int
 body : List UInt8
 deriving DecidableEq
def zMessage : Message := ⟨0, 0, 0, 0, 0, 0, []⟩
instance : Inhabited Message := ⟨zMessage⟩
def eMessage (x : Message) : D := .agg [.int .i64 x.id, .int .i64 x.route, .int .i64 x.epoch, .int .i64 x.count, .int .i64 x.gen, .int .i64 x.sent, .str x.body]
theorem zmq (x : Message) : (eMessage x).cells = [.int .i64 x.id, .int .i64 x.route, .int .i64 x.epoch, .int .i64 x.count, .int .i64 x.gen, .int .i64 x.sent, .str x.body] := rfl
theorem zkK (x : Message) : (eMessage x).size = 7 := rfl
theorem zmp (x : Message) : (eMessage x).asAgg = eMessage x := rfl
theorem zmr (x : Message) : (eMessage x).isT = false := rfl
theorem zkh (l : List Message) : allSize 7 (l.map eMessage) = true := by simp [allSize, zkK]
structure Ring where
 cells : List Message
 head : Int
 size : Int
 deriving DecidableEq
def zRing : Ring := ⟨[], 0, 0⟩
instance : Inhabited Ring := ⟨zRing⟩
def eRing (x : Ring) : D := .agg [.sl (x.cells.map eMessage), .int .i64 x.head, .int .i64 x.size]
theorem zmC (x : Ring) : (eRing x).cells = [.sl (x.cells.map eMessage), .int .i64 x.head, .int .i64 x.size] := rfl
theorem zkO (x : Ring) : (eRing x).size = 3 := rfl
theorem zmB (x : Ring) : (eRing x).asAgg = eRing x := rfl
theorem zmD (x : Ring) : (eRing x).isT = false := rfl
theorem zls (l : List Ring) : allSize 3 (l.map eRing) = true := by simp [allSize, zkO]
structure Lease where
 msg : Message
 deadline : Int
 deriving DecidableEq
def zLease : Lease := ⟨⟨0, 0, 0, 0, 0, 0, []⟩, 0⟩
instance : Inhabited Lease := ⟨zLease⟩
def eLease (x : Lease) : D := .agg [.int .i64 x.msg.id, .int .i64 x.msg.route, .int .i64 x.msg.epoch, .int .i64 x.msg.count, .int .i64 x.msg.gen, .int .i64 x.msg.sent, .str x.msg.body, .int .i64 x.deadline]
theorem zmk (x : Lease) : (eLease x).cells = [.int .i64 x.msg.id, .int .i64 x.msg.route, .int .i64 x.msg.epoch, .int .i64 x.msg.count, .int .i64 x.msg.gen, .int .i64 x.msg.sent, .str x.msg.body, .int .i64 x.deadline] := rfl
theorem zkI (x : Lease) : (eLease x).size = 8 := rfl
theorem zmj (x : Lease) : (eLease x).asAgg = eLease x := rfl
theorem zml (x : Lease) : (eLease x).isT = false := rfl
theorem zk7 (l : List Lease) : allSize 8 (l.map eLease) = true := by simp [allSize, zkI]
structure Table where
 l : List Lease
 heap : List Due
 deriving DecidableEq
def zTable : Table := ⟨[], []⟩
instance : Inhabited Table := ⟨zTable⟩
def eTable (x : Table) : D := .agg [.sl (x.l.map eLease), .sl (x.heap.map eD)]
theorem zn0 (x : Table) : (eTable x).cells = [.sl (x.l.map eLease), .sl (x.heap.map eD)] := rfl
theorem zkW (x : Table) : (eTable x).size = 2 := rfl
theorem zmZ (x : Table) : (eTable x).asAgg = eTable x := rfl
theorem zn1 (x : Table) : (eTable x).isT = false := rfl
theorem zlA (l : List Table) : allSize 2 (l.map eTable) = true := by simp [allSize, zkW]
structure Shard where
 live : Bool
 low : Int
 high : Int
 ready : Ring
 leases : Table
 deriving DecidableEq
def zShard : Shard := ⟨false, 0, 0, ⟨[], 0, 0⟩, ⟨[], []⟩⟩
instance : Inhabited Shard := ⟨zShard⟩
def eShard (x : Shard) : D := .agg [.bool x.live, .int .i64 x.low, .int .i64 x.high, .sl (x.ready.cells.map eMessage), .int .i64 x.ready.head, .int .i64 x.ready.size, .sl (x.leases.l.map eLease), .sl (x.leases.heap.map eD)]
theorem zmL (x : Shard) : (eShard x).cells = [.bool x.live, .int .i64 x.low, .int .i64 x.high, .sl (x.ready.cells.map eMessage), .int .i64 x.ready.head, .int .i64 x.ready.size, .sl (x.leases.l.map eLease), .sl (x.leases.heap.map eD)] := rfl
theorem zkR (x : Shard) : (eShard x).size = 8 := rfl
theorem zmK (x : Shard) : (eShard x).asAgg = eShard x := rfl
theorem zmM (x : Shard) : (eShard x).isT = false := rfl
theorem zlv (l : List Shard) : allSize 8 (l.map eShard) = true := by simp [allSize, zkR]
structure Slot where
 owner : Int
 shard : Shard
 deriving DecidableEq
def zSlot : Slot := ⟨0, ⟨false, 0, 0, ⟨[], 0, 0⟩, ⟨[], []⟩⟩⟩
instance : Inhabited Slot := ⟨zSlot⟩
def eSlot (x : Slot) : D := .agg [.int .i64 x.owner, .bool x.shard.live, .int .i64 x.shard.low, .int .i64 x.shard.high, .sl (x.shard.ready.cells.map eMessage), .int .i64 x.shard.ready.head, .int .i64 x.shard.ready.size, .sl (x.shard.leases.l.map eLease), .sl (x.shard.leases.heap.map eD)]
theorem zmO (x : Slot) : (eSlot x).cells = [.int .i64 x.owner, .bool x.shard.live, .int .i64 x.shard.low, .int .i64 x.shard.high, .sl (x.shard.ready.cells.map eMessage), .int .i64 x.shard.ready.head, .int .i64 x.shard.ready.size, .sl (x.shard.leases.l.map eLease), .sl (x.shard.leases.heap.map eD)] := rfl
theorem zkS (x : Slot) : (eSlot x).size = 9 := rfl
theorem zmN (x : Slot) : (eSlot x).asAgg = eSlot x := rfl
theorem zmP (x : Slot) : (eSlot x).isT = false := rfl
theorem zlw (l : List Slot) : allSize 9 (l.map eSlot) = true := by simp [allSize, zkS]
structure Stripe where
 seq : Int
 epoch : Int
 ready : Int
 leased : Int
 deriving DecidableEq
def zStripe : Stripe := ⟨0, 0, 0, 0⟩
instance : Inhabited Stripe := ⟨zStripe⟩
def eStripe (x : Stripe) : D := .agg [.int .i64 x.seq, .int .i64 x.epoch, .int .i64 x.ready, .int .i64 x.leased]
theorem zmX (x : Stripe) : (eStripe x).cells = [.int .i64 x.seq, .int .i64 x.epoch, .int .i64 x.ready, .int .i64 x.leased] := rfl
theorem zkV (x : Stripe) : (eStripe x).size = 4 := rfl
theorem zmW (x : Stripe) : (eStripe x).asAgg = eStripe x := rfl
theorem zmY (x : Stripe) : (eStripe x).isT = false := rfl
theorem zlz (l : List Stripe) : allSize 4 (l.map eStripe) = true := by simp [allSize, zkV]
structure Dead where
 cap : Int
 l : List Message
 deriving DecidableEq
def zDead : Dead := ⟨0, []⟩
instance : Inhabited Dead := ⟨zDead⟩
def eDead (x : Dead) : D := .agg [.int .i64 x.cap, .sl (x.l.map eMessage)]
theorem zlW (x : Dead) : (eDead x).cells = [.int .i64 x.cap, .sl (x.l.map eMessage)] := rfl
theorem zkA (x : Dead) : (eDead x).size = 2 := rfl
theorem zlV (x : Dead) : (eDead x).asAgg = eDead x := rfl
theorem zlX (x : Dead) : (eDead x).isT = false := rfl
theorem zlf (l : List Dead) : allSize 2 (l.map eDead) = true := by simp [allSize, zkA]
structure DeadCell where
 owner : Int
 dead : Dead
 deriving DecidableEq
def zDeadCell : DeadCell := ⟨0, ⟨0, []⟩⟩
instance : Inhabited DeadCell := ⟨zDeadCell⟩
def eDeadCell (x : DeadCell) : D := .agg [.int .i64 x.owner, .int .i64 x.dead.cap, .sl (x.dead.l.map eMessage)]
theorem zlT (x : DeadCell) : (eDeadCell x).cells = [.int .i64 x.owner, .int .i64 x.dead.cap, .sl (x.dead.l.map eMessage)] := rfl
theorem zkz (x : DeadCell) : (eDeadCell x).size = 3 := rfl
theorem zlS (x : DeadCell) : (eDeadCell x).asAgg = eDeadCell x := rfl
theorem zlU (x : DeadCell) : (eDeadCell x).isT = false := rfl
theorem zlg (l : List DeadCell) : allSize 3 (l.map eDeadCell) = true := by simp [allSize, zkz]
structure Arena where
 slots : List Slot
 stripes : List Stripe
 dead : DeadCell
 dir : Directory
 epoch : Int
 clock : Int
 nextID : Int
 deriving DecidableEq
def zArena : Arena := ⟨[], [], ⟨0, ⟨0, []⟩⟩, ⟨0, [], []⟩, 0, 0, 0⟩
instance : Inhabited Arena := ⟨zArena⟩
def eArena (x : Arena) : D := .agg [.sl (x.slots.map eSlot), .sl (x.stripes.map eStripe), .int .i64 x.dead.owner, .int .i64 x.dead.dead.cap, .sl (x.dead.dead.l.map eMessage), .int .i64 x.dir.version, .sl (x.dir.l.map eSpan), .sl (ints x.dir.forward), .int .i64 x.epoch, .int .i64 x.clock, .int .i64 x.nextID]
theorem zlJ (x : Arena) : (eArena x).cells = [.sl (x.slots.map eSlot), .sl (x.stripes.map eStripe), .int .i64 x.dead.owner, .int .i64 x.dead.dead.cap, .sl (x.dead.dead.l.map eMessage), .int .i64 x.dir.version, .sl (x.dir.l.map eSpan), .sl (ints x.dir.forward), .int .i64 x.epoch, .int .i64 x.clock, .int .i64 x.nextID] := rfl
theorem zkw (x : Arena) : (eArena x).size = 11 := rfl
theorem zlI (x : Arena) : (eArena x).asAgg = eArena x := rfl
theorem zlK (x : Arena) : (eArena x).isT = false := rfl
theorem zlc (l : List Arena) : allSize 11 (l.map eArena) = true := by simp [allSize, zkw]
structure Snapshot where
 phase : Int
 epoch : Int
 clock : Int
 stamp : Int
 deriving DecidableEq
def zSnapshot : Snapshot := ⟨0, 0, 0, 0⟩
instance : Inhabited Snapshot := ⟨zSnapshot⟩
def eSnapshot (x : Snapshot) : D := .agg [.int .i64 x.phase, .int .i64 x.epoch, .int .i64 x.clock, .int .i64 x.stamp]
theorem zmR (x : Snapshot) : (eSnapshot x).cells = [.int .i64 x.phase, .int .i64 x.epoch, .int .i64 x.clock, .int .i64 x.stamp] := rfl
theorem zkT (x : Snapshot) : (eSnapshot x).size = 4 := rfl
theorem zmQ (x : Snapshot) : (eSnapshot x).asAgg = eSnapshot x := rfl
theorem zmS (x : Snapshot) : (eSnapshot x).isT = false := rfl
theorem zlx (l : List Snapshot) : allSize 4 (l.map eSnapshot) = true := by simp [allSize, zkT]
structure Invocation where
 kind : Int
 home : Int
 max : Int
 visibility : Int
 from_ : Int
 to : Int
 bodies : List (List UInt8)
 tokens : List (List UInt8)
 deriving DecidableEq
def zInvocation : Invocation := ⟨0, 0, 0, 0, 0, 0, [], []⟩
instance : Inhabited Invocation := ⟨zInvocation⟩
def eInvocation (x : Invocation) : D := .agg [.int .i64 x.kind, .int .i64 x.home, .int .i64 x.max, .int .i64 x.visibility, .int .i64 x.from_, .int .i64 x.to, .sl (x.bodies.map .str), .sl (x.tokens.map eBytes)]
theorem zme (x : Invocation) : (eInvocation x).cells = [.int .i64 x.kind, .int .i64 x.home, .int .i64 x.max, .int .i64 x.visibility, .int .i64 x.from_, .int .i64 x.to, .sl (x.bodies.map .str), .sl (x.tokens.map eBytes)] := rfl
theorem zkG (x : Invocation) : (eInvocation x).size = 8 := rfl
theorem zmd (x : Invocation) : (eInvocation x).asAgg = eInvocation x := rfl
theorem zmf (x : Invocation) : (eInvocation x).isT = false := rfl
theorem zlm (l : List Invocation) : allSize 8 (l.map eInvocation) = true := by simp [allSize, zkG]
structure Result where
 err : Int
 id : Int
 tokens : List (List UInt8)
 bodies : List (List UInt8)
 ready : Int
 leased : Int
 moved : Int
 deriving DecidableEq
def zResult : Result := ⟨0, 0, [], [], 0, 0, 0⟩
instance : Inhabited Result := ⟨zResult⟩
def eResult (x : Result) : D := .agg [.int .i64 x.err, .int .i64 x.id, .sl (x.tokens.map eBytes), .sl (x.bodies.map .str), .int .i64 x.ready, .int .i64 x.leased, .int .i64 x.moved]
theorem zmz (x : Result) : (eResult x).cells = [.int .i64 x.err, .int .i64 x.id, .sl (x.tokens.map eBytes), .sl (x.bodies.map .str), .int .i64 x.ready, .int .i64 x.leased, .int .i64 x.moved] := rfl
theorem zkN (x : Result) : (eResult x).size = 7 := rfl
theorem zmy (x : Result) : (eResult x).asAgg = eResult x := rfl
theorem zmA (x : Result) : (eResult x).isT = false := rfl
theorem zlr (l : List Result) : allSize 7 (l.map eResult) = true := by simp [allSize, zkN]
structure Locker where
 cells : List Int
 phase : Int
 have_ : Int
 tries : Int
 wait : Int
 deriving DecidableEq
def zLocker : Locker := ⟨[], 0, 0, 0, 0⟩
instance : Inhabited Locker := ⟨zLocker⟩
def eLocker (x : Locker) : D := .agg [.sl (ints x.cells), .int .i64 x.phase, .int .i64 x.have_, .int .i64 x.tries, .int .i64 x.wait]
theorem zmn (x : Locker) : (eLocker x).cells = [.sl (ints x.cells), .int .i64 x.phase, .int .i64 x.have_, .int .i64 x.tries, .int .i64 x.wait] := rfl
theorem zkJ (x : Locker) : (eLocker x).size = 5 := rfl
theorem zmm (x : Locker) : (eLocker x).asAgg = eLocker x := rfl
theorem zmo (x : Locker) : (eLocker x).isT = false := rfl
theorem zlo (l : List Locker) : allSize 5 (l.map eLocker) = true := by simp [allSize, zkJ]
structure Outcome where
 shards : List Shard
 dead : Dead
 order : List Int
 carry : List Message
 edits : List Edit
 deriving DecidableEq
def zOutcome : Outcome := ⟨[], ⟨0, []⟩, [], [], []⟩
instance : Inhabited Outcome := ⟨zOutcome⟩
def eOutcome (x : Outcome) : D := .agg [.sl (x.shards.map eShard), .int .i64 x.dead.cap, .sl (x.dead.l.map eMessage), .sl (ints x.order), .sl (x.carry.map eMessage), .sl (x.edits.map eEdit)]
theorem zmt (x : Outcome) : (eOutcome x).cells = [.sl (x.shards.map eShard), .int .i64 x.dead.cap, .sl (x.dead.l.map eMessage), .sl (ints x.order), .sl (x.carry.map eMessage), .sl (x.edits.map eEdit)] := rfl
theorem zkL (x : Outcome) : (eOutcome x).size = 6 := rfl
theorem zms (x : Outcome) : (eOutcome x).asAgg = eOutcome x := rfl
theorem zmu (x : Outcome) : (eOutcome x).isT = false := rfl
theorem zlp (l : List Outcome) : allSize 6 (l.map eOutcome) = true := by simp [allSize, zkL]
structure Section where
 phase : Int
 at_ : Int
 lock : Locker
 snap : Snapshot
 shards : List Shard
 dead : Dead
 stripes : List Stripe
 dir : Directory
 out : Outcome
 limit : Int
 carry : List Message
 deriving DecidableEq
def zSection : Section := ⟨0, 0, ⟨[], 0, 0, 0, 0⟩, ⟨0, 0, 0, 0⟩, [], ⟨0, []⟩, [], ⟨0, [], []⟩, ⟨[], ⟨0, []⟩, [], [], []⟩, 0, []⟩
instance : Inhabited Section := ⟨zSection⟩
def eSection (x : Section) : D := .agg [.int .i64 x.phase, .int .i64 x.at_, .sl (ints x.lock.cells), .int .i64 x.lock.phase, .int .i64 x.lock.have_, .int .i64 x.lock.tries, .int .i64 x.lock.wait, .int .i64 x.snap.phase, .int .i64 x.snap.epoch, .int .i64 x.snap.clock, .int .i64 x.snap.stamp, .sl (x.shards.map eShard), .int .i64 x.dead.cap, .sl (x.dead.l.map eMessage), .sl (x.stripes.map eStripe), .int .i64 x.dir.version, .sl (x.dir.l.map eSpan), .sl (ints x.dir.forward), .sl (x.out.shards.map eShard), .int .i64 x.out.dead.cap, .sl (x.out.dead.l.map eMessage), .sl (ints x.out.order), .sl (x.out.carry.map eMessage), .sl (x.out.edits.map eEdit), .int .i64 x.limit, .sl (x.carry.map eMessage)]
theorem zmF (x : Section) : (eSection x).cells = [.int .i64 x.phase, .int .i64 x.at_, .sl (ints x.lock.cells), .int .i64 x.lock.phase, .int .i64 x.lock.have_, .int .i64 x.lock.tries, .int .i64 x.lock.wait, .int .i64 x.snap.phase, .int .i64 x.snap.epoch, .int .i64 x.snap.clock, .int .i64 x.snap.stamp, .sl (x.shards.map eShard), .int .i64 x.dead.cap, .sl (x.dead.l.map eMessage), .sl (x.stripes.map eStripe), .int .i64 x.dir.version, .sl (x.dir.l.map eSpan), .sl (ints x.dir.forward), .sl (x.out.shards.map eShard), .int .i64 x.out.dead.cap, .sl (x.out.dead.l.map eMessage), .sl (ints x.out.order), .sl (x.out.carry.map eMessage), .sl (x.out.edits.map eEdit), .int .i64 x.limit, .sl (x.carry.map eMessage)] := rfl
theorem zkP (x : Section) : (eSection x).size = 26 := rfl
theorem zmE (x : Section) : (eSection x).asAgg = eSection x := rfl
theorem zmG (x : Section) : (eSection x).isT = false := rfl
theorem zlt (l : List Section) : allSize 26 (l.map eSection) = true := by simp [allSize, zkP]
structure Walk where
 next : Int
 covered : Int
 deriving DecidableEq
def zWalk : Walk := ⟨0, 0⟩
instance : Inhabited Walk := ⟨zWalk⟩
def eWalk (x : Walk) : D := .agg [.int .i64 x.next, .int .i64 x.covered]
theorem zn6 (x : Walk) : (eWalk x).cells = [.int .i64 x.next, .int .i64 x.covered] := rfl
theorem zkY (x : Walk) : (eWalk x).size = 2 := rfl
theorem zn5 (x : Walk) : (eWalk x).asAgg = eWalk x := rfl
theorem zn7 (x : Walk) : (eWalk x).isT = false := rfl
theorem zlC (l : List Walk) : allSize 2 (l.map eWalk) = true := by simp [allSize, zkY]
structure Handle where
 id : Int
 gen : Int
 route : Int
 hint : Int
 deriving DecidableEq
def zHandle : Handle := ⟨0, 0, 0, 0⟩
instance : Inhabited Handle := ⟨zHandle⟩
def eHandle (x : Handle) : D := .agg [.int .i64 x.id, .int .i64 x.gen, .int .i64 x.route, .int .i64 x.hint]
theorem zmb (x : Handle) : (eHandle x).cells = [.int .i64 x.id, .int .i64 x.gen, .int .i64 x.route, .int .i64 x.hint] := rfl
theorem zkF (x : Handle) : (eHandle x).size = 4 := rfl
theorem zma (x : Handle) : (eHandle x).asAgg = eHandle x := rfl
theorem zmc (x : Handle) : (eHandle x).isT = false := rfl
theorem zll (l : List Handle) : allSize 4 (l.map eHandle) = true := by simp [allSize, zkF]
structure Task where
 number : Int
 inv : Invocation
 invoked : Int
 done : Bool
 ended : Int
 pc : Int
 entry : Int
 results : List Result
 setup : Setup
 sec : Section
 dir : Directory
 walk : Walk
 slot : Int
 id : Int
 handle : Handle
 loaded : Int
 first : List Stripe
 second : List Stripe
 deriving DecidableEq
def zTask : Task := ⟨0, ⟨0, 0, 0, 0, 0, 0, [], []⟩, 0, false, 0, 0, 0, [], ⟨0, 0, 0, 0, 0, 0, 0, 0⟩, ⟨0, 0, ⟨[], 0, 0, 0, 0⟩, ⟨0, 0, 0, 0⟩, [], ⟨0, []⟩, [], ⟨0, [], []⟩, ⟨[], ⟨0, []⟩, [], [], []⟩, 0, []⟩, ⟨0, [], []⟩, ⟨0, 0⟩, 0, 0, ⟨0, 0, 0, 0⟩, 0, [], []⟩
instance : Inhabited Task := ⟨zTask⟩
def eTask (x : Task) : D := .agg [.int .i64 x.number, .int .i64 x.inv.kind, .int .i64 x.inv.home, .int .i64 x.inv.max, .int .i64 x.inv.visibility, .int .i64 x.inv.from_, .int .i64 x.inv.to, .sl (x.inv.bodies.map .str), .sl (x.inv.tokens.map eBytes), .int .i64 x.invoked, .bool x.done, .int .i64 x.ended, .int .i64 x.pc, .int .i64 x.entry, .sl (x.results.map eResult), .int .i64 x.setup.slots, .int .i64 x.setup.live, .int .i64 x.setup.capacity, .int .i64 x.setup.dead, .int .i64 x.setup.limit, .int .i64 x.setup.clock, .int .i64 x.setup.nextID, .int .i64 x.setup.epoch, .int .i64 x.sec.phase, .int .i64 x.sec.at_, .sl (ints x.sec.lock.cells), .int .i64 x.sec.lock.phase, .int .i64 x.sec.lock.have_, .int .i64 x.sec.lock.tries, .int .i64 x.sec.lock.wait, .int .i64 x.sec.snap.phase, .int .i64 x.sec.snap.epoch, .int .i64 x.sec.snap.clock, .int .i64 x.sec.snap.stamp, .sl (x.sec.shards.map eShard), .int .i64 x.sec.dead.cap, .sl (x.sec.dead.l.map eMessage), .sl (x.sec.stripes.map eStripe), .int .i64 x.sec.dir.version, .sl (x.sec.dir.l.map eSpan), .sl (ints x.sec.dir.forward), .sl (x.sec.out.shards.map eShard), .int .i64 x.sec.out.dead.cap, .sl (x.sec.out.dead.l.map eMessage), .sl (ints x.sec.out.order), .sl (x.sec.out.carry.map eMessage), .sl (x.sec.out.edits.map eEdit), .int .i64 x.sec.limit, .sl (x.sec.carry.map eMessage), .int .i64 x.dir.version, .sl (x.dir.l.map eSpan), .sl (ints x.dir.forward), .int .i64 x.walk.next, .int .i64 x.walk.covered, .int .i64 x.slot, .int .i64 x.id, .int .i64 x.handle.id, .int .i64 x.handle.gen, .int .i64 x.handle.route, .int .i64 x.handle.hint, .int .i64 x.loaded, .sl (x.first.map eStripe), .sl (x.second.map eStripe)]
theorem zn3 (x : Task) : (eTask x).cells = [.int .i64 x.number, .int .i64 x.inv.kind, .int .i64 x.inv.home, .int .i64 x.inv.max, .int .i64 x.inv.visibility, .int .i64 x.inv.from_, .int .i64 x.inv.to, .sl (x.inv.bodies.map .str), .sl (x.inv.tokens.map eBytes), .int .i64 x.invoked, .bool x.done, .int .i64 x.ended, .int .i64 x.pc, .int .i64 x.entry, .sl (x.results.map eResult), .int .i64 x.setup.slots, .int .i64 x.setup.live, .int .i64 x.setup.capacity, .int .i64 x.setup.dead, .int .i64 x.setup.limit, .int .i64 x.setup.clock, .int .i64 x.setup.nextID, .int .i64 x.setup.epoch, .int .i64 x.sec.phase, .int .i64 x.sec.at_, .sl (ints x.sec.lock.cells), .int .i64 x.sec.lock.phase, .int .i64 x.sec.lock.have_, .int .i64 x.sec.lock.tries, .int .i64 x.sec.lock.wait, .int .i64 x.sec.snap.phase, .int .i64 x.sec.snap.epoch, .int .i64 x.sec.snap.clock, .int .i64 x.sec.snap.stamp, .sl (x.sec.shards.map eShard), .int .i64 x.sec.dead.cap, .sl (x.sec.dead.l.map eMessage), .sl (x.sec.stripes.map eStripe), .int .i64 x.sec.dir.version, .sl (x.sec.dir.l.map eSpan), .sl (ints x.sec.dir.forward), .sl (x.sec.out.shards.map eShard), .int .i64 x.sec.out.dead.cap, .sl (x.sec.out.dead.l.map eMessage), .sl (ints x.sec.out.order), .sl (x.sec.out.carry.map eMessage), .sl (x.sec.out.edits.map eEdit), .int .i64 x.sec.limit, .sl (x.sec.carry.map eMessage), .int .i64 x.dir.version, .sl (x.dir.l.map eSpan), .sl (ints x.dir.forward), .int .i64 x.walk.next, .int .i64 x.walk.covered, .int .i64 x.slot, .int .i64 x.id, .int .i64 x.handle.id, .int .i64 x.handle.gen, .int .i64 x.handle.route, .int .i64 x.handle.hint, .int .i64 x.loaded, .sl (x.first.map eStripe), .sl (x.second.map eStripe)] := rfl
theorem zkX (x : Task) : (eTask x).size = 63 := rfl
theorem zn2 (x : Task) : (eTask x).asAgg = eTask x := rfl
theorem zn4 (x : Task) : (eTask x).isT = false := rfl
theorem zlB (l : List Task) : allSize 63 (l.map eTask) = true := by simp [allSize, zkX]
structure Item where
 id : Int
 state : Int
 count : Int
 gen : Int
 route : Int
 deadline : Int
 deriving DecidableEq
def zItem : Item := ⟨0, 0, 0, 0, 0, 0⟩
instance : Inhabited Item := ⟨zItem⟩
def eItem (x : Item) : D := .agg [.int .i64 x.id, .int .i64 x.state, .int .i64 x.count, .int .i64 x.gen, .int .i64 x.route, .int .i64 x.deadline]
theorem zmh (x : Item) : (eItem x).cells = [.int .i64 x.id, .int .i64 x.state, .int .i64 x.count, .int .i64 x.gen, .int .i64 x.route, .int .i64 x.deadline] := rfl
theorem zkH (x : Item) : (eItem x).size = 6 := rfl
theorem zmg (x : Item) : (eItem x).asAgg = eItem x := rfl
theorem zmi (x : Item) : (eItem x).isT = false := rfl
theorem zln (l : List Item) : allSize 6 (l.map eItem) = true := by simp [allSize, zkH]
structure Bag where
 limit : Int
 now : Int
 epoch : Int
 l : List Item
 deriving DecidableEq
def zBag : Bag := ⟨0, 0, 0, []⟩
instance : Inhabited Bag := ⟨zBag⟩
def eBag (x : Bag) : D := .agg [.int .i64 x.limit, .int .i64 x.now, .int .i64 x.epoch, .sl (x.l.map eItem)]
theorem zlM (x : Bag) : (eBag x).cells = [.int .i64 x.limit, .int .i64 x.now, .int .i64 x.epoch, .sl (x.l.map eItem)] := rfl
theorem zkx (x : Bag) : (eBag x).size = 4 := rfl
theorem zlL (x : Bag) : (eBag x).asAgg = eBag x := rfl
theorem zlN (x : Bag) : (eBag x).isT = false := rfl
theorem zld (l : List Bag) : allSize 4 (l.map eBag) = true := by simp [allSize, zkx]
structure Grant where
 id : Int
 gen : Int
 route : Int
 deadline : Int
 deriving DecidableEq
def zGrant : Grant := ⟨0, 0, 0, 0⟩
instance : Inhabited Grant := ⟨zGrant⟩
def eGrant (x : Grant) : D := .agg [.int .i64 x.id, .int .i64 x.gen, .int .i64 x.route, .int .i64 x.deadline]
theorem zm8 (x : Grant) : (eGrant x).cells = [.int .i64 x.id, .int .i64 x.gen, .int .i64 x.route, .int .i64 x.deadline] := rfl
theorem zkE (x : Grant) : (eGrant x).size = 4 := rfl
theorem zm7 (x : Grant) : (eGrant x).asAgg = eGrant x := rfl
theorem zm9 (x : Grant) : (eGrant x).isT = false := rfl
theorem zlk (l : List Grant) : allSize 4 (l.map eGrant) = true := by simp [allSize, zkE]
structure Event where
 stamp : Int
 task : Int
 entry : Int
 kind : Int
 now : Int
 epoch : Int
 err : Int
 l : List Grant
 ready : Int
 leased : Int
 deriving DecidableEq
def zEvent : Event := ⟨0, 0, 0, 0, 0, 0, 0, [], 0, 0⟩
instance : Inhabited Event := ⟨zEvent⟩
def eEvent (x : Event) : D := .agg [.int .i64 x.stamp, .int .i64 x.task, .int .i64 x.entry, .int .i64 x.kind, .int .i64 x.now, .int .i64 x.epoch, .int .i64 x.err, .sl (x.l.map eGrant), .int .i64 x.ready, .int .i64 x.leased]
theorem zm5 (x : Event) : (eEvent x).cells = [.int .i64 x.stamp, .int .i64 x.task, .int .i64 x.entry, .int .i64 x.kind, .int .i64 x.now, .int .i64 x.epoch, .int .i64 x.err, .sl (x.l.map eGrant), .int .i64 x.ready, .int .i64 x.leased] := rfl
theorem zkD (x : Event) : (eEvent x).size = 10 := rfl
theorem zm4 (x : Event) : (eEvent x).asAgg = eEvent x := rfl
theorem zm6 (x : Event) : (eEvent x).isT = false := rfl
theorem zlj (l : List Event) : allSize 10 (l.map eEvent) = true := by simp [allSize, zkD]
structure World where
 setup : Setup
 arena : Arena
 tasks : List Task
 log : List Event
 steps : Int
 handles : List (List UInt8)
 deriving DecidableEq
def zWorld : World := ⟨⟨0, 0, 0, 0, 0, 0, 0, 0⟩, ⟨[], [], ⟨0, ⟨0, []⟩⟩, ⟨0, [], []⟩, 0, 0, 0⟩, [], [], 0, []⟩
instance : Inhabited World := ⟨zWorld⟩
def eWorld (x : World) : D := .agg [.int .i64 x.setup.slots, .int .i64 x.setup.live, .int .i64 x.setup.capacity, .int .i64 x.setup.dead, .int .i64 x.setup.limit, .int .i64 x.setup.clock, .int .i64 x.setup.nextID, .int .i64 x.setup.epoch, .sl (x.arena.slots.map eSlot), .sl (x.arena.stripes.map eStripe), .int .i64 x.arena.dead.owner, .int .i64 x.arena.dead.dead.cap, .sl (x.arena.dead.dead.l.map eMessage), .int .i64 x.arena.dir.version, .sl (x.arena.dir.l.map eSpan), .sl (ints x.arena.dir.forward), .int .i64 x.arena.epoch, .int .i64 x.arena.clock, .int .i64 x.arena.nextID, .sl (x.tasks.map eTask), .sl (x.log.map eEvent), .int .i64 x.steps, .sl (x.handles.map eBytes)]
theorem zn9 (x : World) : (eWorld x).cells = [.int .i64 x.setup.slots, .int .i64 x.setup.live, .int .i64 x.setup.capacity, .int .i64 x.setup.dead, .int .i64 x.setup.limit, .int .i64 x.setup.clock, .int .i64 x.setup.nextID, .int .i64 x.setup.epoch, .sl (x.arena.slots.map eSlot), .sl (x.arena.stripes.map eStripe), .int .i64 x.arena.dead.owner, .int .i64 x.arena.dead.dead.cap, .sl (x.arena.dead.dead.l.map eMessage), .int .i64 x.arena.dir.version, .sl (x.arena.dir.l.map eSpan), .sl (ints x.arena.dir.forward), .int .i64 x.arena.epoch, .int .i64 x.arena.clock, .int .i64 x.arena.nextID, .sl (x.tasks.map eTask), .sl (x.log.map eEvent), .int .i64 x.steps, .sl (x.handles.map eBytes)] := rfl
theorem zkZ (x : World) : (eWorld x).size = 23 := rfl
theorem zn8 (x : World) : (eWorld x).asAgg = eWorld x := rfl
theorem zna (x : World) : (eWorld x).isT = false := rfl
theorem zlD (l : List World) : allSize 23 (l.map eWorld) = true := by simp [allSize, zkZ]
structure Ref where
 index : Int
 variant : Int
 raw : List UInt8
 deriving DecidableEq
def zRef : Ref := ⟨0, 0, []⟩
instance : Inhabited Ref := ⟨zRef⟩
def eRef (x : Ref) : D := .agg [.int .i64 x.index, .int .i64 x.variant, .sl (byD x.raw)]
theorem zmw (x : Ref) : (eRef x).cells = [.int .i64 x.index, .int .i64 x.variant, .sl (byD x.raw)] := rfl
theorem zkM (x : Ref) : (eRef x).size = 3 := rfl
theorem zmv (x : Ref) : (eRef x).asAgg = eRef x := rfl
theorem zmx (x : Ref) : (eRef x).isT = false := rfl
theorem zlq (l : List Ref) : allSize 3 (l.map eRef) = true := by simp [allSize, zkM]
structure Command where
 kind : Int
 pick : Int
 by_ : Int
 inv : Invocation
 refs : List Ref
 deriving DecidableEq
def zCommand : Command := ⟨0, 0, 0, ⟨0, 0, 0, 0, 0, 0, [], []⟩, []⟩
instance : Inhabited Command := ⟨zCommand⟩
def eCommand (x : Command) : D := .agg [.int .i64 x.kind, .int .i64 x.pick, .int .i64 x.by_, .int .i64 x.inv.kind, .int .i64 x.inv.home, .int .i64 x.inv.max, .int .i64 x.inv.visibility, .int .i64 x.inv.from_, .int .i64 x.inv.to, .sl (x.inv.bodies.map .str), .sl (x.inv.tokens.map eBytes), .sl (x.refs.map eRef)]
theorem zlP (x : Command) : (eCommand x).cells = [.int .i64 x.kind, .int .i64 x.pick, .int .i64 x.by_, .int .i64 x.inv.kind, .int .i64 x.inv.home, .int .i64 x.inv.max, .int .i64 x.inv.visibility, .int .i64 x.inv.from_, .int .i64 x.inv.to, .sl (x.inv.bodies.map .str), .sl (x.inv.tokens.map eBytes), .sl (x.refs.map eRef)] := rfl
theorem zky (x : Command) : (eCommand x).size = 12 := rfl
theorem zlO (x : Command) : (eCommand x).asAgg = eCommand x := rfl
theorem zlQ (x : Command) : (eCommand x).isT = false := rfl
theorem zle (l : List Command) : allSize 12 (l.map eCommand) = true := by simp [allSize, zky]
theorem eqd_D (x y : Due) : (decide (x.1 = y.1) && decide (x.2 = y.2)) = decide (x = y) := by
 cases x; cases y
 apply Bool.eq_iff_iff.2
 simp
theorem eqs_D {H : Heap} {ng : Bool} (x y : Due) : eqsV H ng 2 [(0, 0), (1, 0)] (.d (eD x)) (.d (eD y)) = retB H ng (some (decide (x = y))) := by
 rw [← eqd_D]
 simp only [eqsV, eD, eqCells, eqCell, List.length_cons, List.length_nil, List.getElem?_cons_zero, List.getElem?_cons_succ, Option.bind_some, Option.map_some, if_true, and_self, Nat.zero_add, Nat.reduceAdd, Bool.and_true]
theorem zvm (x y : Message) : (decide (x.id = y.id) && (decide (x.route = y.route) && (decide (x.epoch = y.epoch) && (decide (x.count = y.count) && (decide (x.gen = y.gen) && (decide (x.sent = y.sent) && decide (x.body = y.body))))))) = decide (x = y) := by
 cases x; cases y
 apply Bool.eq_iff_iff.2
 simp
theorem zvp {H : Heap} {ng : Bool} (x y : Message) : eqsV H ng 7 [(0, 0), (1, 0), (2, 0), (3, 0), (4, 0), (5, 0), (6, 2)] (.d (eMessage x)) (.d (eMessage y)) = retB H ng (some (decide (x = y))) := by
 rw [← zvm]
 simp only [eqsV, eMessage, eqCells, eqCell, List.length_cons, List.length_nil, List.getElem?_cons_zero, List.getElem?_cons_succ, Option.bind_some, Option.map_some, if_true, and_self, Nat.zero_add, Nat.reduceAdd, Bool.and_true]
theorem zvl (x y : Lease) : (decide (x.msg.id = y.msg.id) && (decide (x.msg.route = y.msg.route) && (decide (x.msg.epoch = y.msg.epoch) && (decide (x.msg.count = y.msg.count) && (decide (x.msg.gen = y.msg.gen) && (decide (x.msg.sent = y.msg.sent) && (decide (x.msg.body = y.msg.body) && decide (x.deadline = y.deadline)))))))) = decide (x = y) := by
 obtain ⟨⟨x1, x2, x3, x4, x5, x6, x7⟩, x8⟩ := x
 obtain ⟨⟨y1, y2, y3, y4, y5, y6, y7⟩, y8⟩ := y
 apply Bool.eq_iff_iff.2
 simp [and_assoc]
theorem zvo {H : Heap} {ng : Bool} (x y : Lease) : eqsV H ng 8 [(0, 0), (1, 0), (2, 0), (3, 0), (4, 0), (5, 0), (6, 2), (7, 0)] (.d (eLease x)) (.d (eLease y)) = retB H ng (some (decide (x = y))) := by
 rw [← zvl]
 simp only [eqsV, eLease, eqCells, eqCell, List.length_cons, List.length_nil, List.getElem?_cons_zero, List.getElem?_cons_succ, Option.bind_some, Option.map_some, if_true, and_self, Nat.zero_add, Nat.reduceAdd, Bool.and_true]
attribute [go_sem high] eqs_D zvp zvo
attribute [go_sem] zkl zlE zlF zlR zjU zjV eD_isT zjT zmU zkU zmT zmV zly zlZ zkB zlY zm0 zlh zm2 zkC zm1 zm3 zli zmI zkQ zmH zmJ zlu zmq zkK zmp zmr zkh zmC zkO zmB zmD zls zmk zkI zmj zml zk7 zn0 zkW zmZ zn1 zlA zmL zkR zmK zmM zlv zmO zkS zmN zmP zlw zmX zkV zmW zmY zlz zlW zkA zlV zlX zlf zlT zkz zlS zlU zlg zlJ zkw zlI zlK zlc zmR zkT zmQ zmS zlx zme zkG zmd zmf zlm zmz zkN zmy zmA zlr zmn zkJ zmm zmo zlo zmt zkL zms zmu zlp zmF zkP zmE zmG zlt zn6 zkY zn5 zn7 zlC zmb zkF zma zmc zll zn3 zkX zn2 zn4 zlB zmh zkH zmg zmi zln zlM zkx zlL zlN zld zm8 zkE zm7 zm9 zlk zm5 zkD zm4 zm6 zlj zn9 zkZ zn8 zna zlD zmw zkM zmv zmx zlq zlP zky zlO zlQ zle
end Go.Proofs.YtcjncbkhbllchaaGreat
