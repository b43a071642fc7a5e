/-
  The table of functions.
  Loops, where what comes out is told by a law rather than by a function.
  Numbers, as walks need them, and counted loops.
  More facts about lists, in the forms that walks take.
  Lists that are set or cut, in the forms that walks take.
  The rewriting set of walks, whole.
  The types of package api, as they lie in memory.
  Heaps of deadlines: what the functions of package due compute, part 1.
  The reader of numbers.
  Heaps of deadlines: what the functions of package due compute, part 2.
-/
import Derived.Test.YtcjncbkhbllchaaGreatB060fa6c
import Derived.KernelRfl
import Derived.Test.YtcjncbkhbllchaaGreatBcb12757
import Derived.IntWalk
set_option linter.unusedSimpArgs false
set_option linter.unusedVariables false
namespace Go.Proofs.YtcjncbkhbllchaaGreat
open Go Go.Sim
def tab : List (Nat × AFn) := [(z08, z3d), (zt, z5Y), (zx, z65), (z0R, z30), (z03, z62), (zk, z61), (z0P, z64), (z0L, z2W), (z0M, z2X), (zw, z63), (z0N, z2Y), (z1w, z3L), (z1i, z3y), (z0Q, z2Z), (z0O, z60), (z1f, z6h), (z1d, z3u), (z1g, z3v), (z1e, z6g), (zu, z5Z), (z0c, z3z), (z1k, z3D), (z1j, z3B), (z0e, z3C), (z0b, z6i), (z1h, z3x), (z0a, z3w), (z1l, z3E), (z0d, z3A), (z0S, z31), (z1t, z3K), (z1u, z6l), (z1n, z6k), (z1q, z3H), (z1p, z3G), (z1o, z3F), (z1v, z6m), (z1m, z6j), (z1s, z3J), (z1r, z3I), (z1H, z40), (z1K, z44), (zN, z6v), (z1L, z45), (z1M, z46), (z1N, z47), (zS, z6B), (zO, z6w), (zK, z6t), (z1y, z6r), (z0f, z6s), (z0h, z3P), (zn, z6f), (z1c, z3s), (zD, z6b), (zE, z6c), (z0V, z6a), (z1S, z4e), (z1W, z4k), (z04, z34), (z10, z3c), (z0Y, z39), (z07, z3a), (z0W, z35), (z05, z36), (zy, z66), (z0U, z33), (z0T, z32), (z16, z3m), (z1U, z4g), (z1Z, z4n), (zR, z6A), (zQ, z6z), (z1O, z6x), (zF, z6n), (z1V, z4h), (z20, z4o), (z1P, z48), (z0n, z4d), (zf, z6C), (zT, z4c), (z1b, z3r), (ze, z6d), (zm, z6e), (z1I, z41), (zJ, z6q), (z1z, z3N), (z0g, z3O), (z1X, z4l), (z1C, z3S), (z1A, z3Q), (z1a, z3q), (z12, z3g), (z15, z3k), (z1R, z4b), (zl, z3l), (zA, z67), (z0Z, z3b), (z21, z4p), (z09, z3e), (z0j, z3X), (z1x, z3M), (z1G, z3Y), (z0m, z49), (zP, z6y), (zM, z6u), (z0l, z42), (z1T, z4f), (zG, z6o), (z1B, z3R), (z1E, z3U), (z13, z3h), (zd, z69), (z0p, z4q), (z18, z3o), (z85, z99), (z19, z3p), (z0r, z4s), (z0q, z4r), (zC, z3i), (z0o, z4i), (z1Y, z4m), (z1Q, z4a), (z14, z3j), (zB, z68), (z06, z38), (z0X, z37), (z17, z3n), (z2z, z4j), (z0i, z3V), (z1J, z43), (z11, z3f), (z1D, z3T), (z1F, z3W), (zI, z6p), (z0k, z3Z)]
def G : FuncId → Option AFn := fun f => Go.Sim.look f tab
theorem z6F : G z08 = some z3d := by kernel_rfl
theorem z9a : G zt = some z5Y := by kernel_rfl
theorem zde : G zx = some z65 := by kernel_rfl
theorem z4t : G z0R = some z30 := by kernel_rfl
theorem zdc : G z03 = some z62 := by kernel_rfl
theorem z9f : G zk = some z61 := by kernel_rfl
theorem z9g : G z0P = some z64 := by kernel_rfl
theorem z9b : G z0L = some z2W := by kernel_rfl
theorem z9d : G z0M = some z2X := by kernel_rfl
theorem zdd : G zw = some z63 := by kernel_rfl
theorem z27 : G z0N = some z2Y := by kernel_rfl
theorem z9M : G z1w = some z3L := by kernel_rfl
theorem z9C : G z1i = some z3y := by kernel_rfl
theorem z6D : G z0Q = some z2Z := by kernel_rfl
theorem z9e : G z0O = some z60 := by kernel_rfl
theorem z6J : G z1f = some z6h := by kernel_rfl
theorem z9A : G z1d = some z3u := by kernel_rfl
theorem z9B : G z1g = some z3v := by kernel_rfl
theorem z6I : G z1e = some z6g := by kernel_rfl
theorem z9c : G zu = some z5Z := by kernel_rfl
theorem z9D : G z0c = some z3z := by kernel_rfl
theorem z0y : G z1k = some z3D := by kernel_rfl
theorem z0x : G z1j = some z3B := by kernel_rfl
theorem z9E : G z0e = some z3C := by kernel_rfl
theorem z6L : G z0b = some z6i := by kernel_rfl
theorem z4z : G z1h = some z3x := by kernel_rfl
theorem z6K : G z0a = some z3w := by kernel_rfl
theorem z9F : G z1l = some z3E := by kernel_rfl
theorem z6M : G z0d = some z3A := by kernel_rfl
theorem z6E : G z0S = some z31 := by kernel_rfl
theorem zh : G z1t = some z3K := by kernel_rfl
theorem z0z : G z1u = some z6l := by kernel_rfl
theorem zdj : G z1n = some z6k := by kernel_rfl
theorem z9I : G z1q = some z3H := by kernel_rfl
theorem z9H : G z1p = some z3G := by kernel_rfl
theorem z9G : G z1o = some z3F := by kernel_rfl
theorem z9L : G z1v = some z6m := by kernel_rfl
theorem z2c : G z1m = some z6j := by kernel_rfl
theorem z9K : G z1s = some z3J := by kernel_rfl
theorem z9J : G z1r = some z3I := by kernel_rfl
theorem z2e : G z1H = some z40 := by kernel_rfl
theorem z9Y : G z1K = some z44 := by kernel_rfl
theorem z6R : G zN = some z6v := by kernel_rfl
theorem z9Z : G z1L = some z45 := by kernel_rfl
theorem za0 : G z1M = some z46 := by kernel_rfl
theorem za1 : G z1N = some z47 := by kernel_rfl
theorem z6V : G zS = some z6B := by kernel_rfl
theorem z6S : G zO = some z6w := by kernel_rfl
theorem zi : G zK = some z6t := by kernel_rfl
theorem z2d : G z1y = some z6r := by kernel_rfl
theorem zdl : G z0f = some z6s := by kernel_rfl
theorem z9S : G z0h = some z3P := by kernel_rfl
theorem z6H : G zn = some z6f := by kernel_rfl
theorem z4y : G z1c = some z3s := by kernel_rfl
theorem z2a : G zD = some z6b := by kernel_rfl
theorem z6G : G zE = some z6c := by kernel_rfl
theorem zdh : G z0V = some z6a := by kernel_rfl
theorem za5 : G z1S = some z4e := by kernel_rfl
theorem zaa : G z1W = some z4k := by kernel_rfl
theorem z9k : G z04 = some z34 := by kernel_rfl
theorem z9r : G z10 = some z3c := by kernel_rfl
theorem z9o : G z0Y = some z39 := by kernel_rfl
theorem z9p : G z07 = some z3a := by kernel_rfl
theorem z9l : G z0W = some z35 := by kernel_rfl
theorem z9m : G z05 = some z36 := by kernel_rfl
theorem zdf : G zy = some z66 := by kernel_rfl
theorem z9i : G z0U = some z33 := by kernel_rfl
theorem z9h : G z0T = some z32 := by kernel_rfl
theorem z4x : G z16 = some z3m := by kernel_rfl
theorem za7 : G z1U = some z4g := by kernel_rfl
theorem z6Y : G z1Z = some z4n := by kernel_rfl
theorem zdp : G zR = some z6A := by kernel_rfl
theorem za3 : G zQ = some z6z := by kernel_rfl
theorem zdn : G z1O = some z6x := by kernel_rfl
theorem zdk : G zF = some z6n := by kernel_rfl
theorem za8 : G z1V = some z4h := by kernel_rfl
theorem z6Z : G z20 = some z4o := by kernel_rfl
theorem z6T : G z1P = some z48 := by kernel_rfl
theorem z2h : G z0n = some z4d := by kernel_rfl
theorem za4 : G zf = some z6C := by kernel_rfl
theorem z2g : G zT = some z4c := by kernel_rfl
theorem z9z : G z1b = some z3r := by kernel_rfl
theorem z9y : G ze = some z6d := by kernel_rfl
theorem zdi : G zm = some z6e := by kernel_rfl
theorem z2f : G z1I = some z41 := by kernel_rfl
theorem z6N : G zJ = some z6q := by kernel_rfl
theorem z9Q : G z1z = some z3N := by kernel_rfl
theorem z9R : G z0g = some z3O := by kernel_rfl
theorem z6W : G z1X = some z4l := by kernel_rfl
theorem z9U : G z1C = some z3S := by kernel_rfl
theorem z9T : G z1A = some z3Q := by kernel_rfl
theorem z2b : G z1a = some z3q := by kernel_rfl
theorem z9 : G z12 = some z3g := by kernel_rfl
theorem z9u : G z15 = some z3k := by kernel_rfl
theorem z4C : G z1R = some z4b := by kernel_rfl
theorem z9v : G zl = some z3l := by kernel_rfl
theorem z28 : G zA = some z67 := by kernel_rfl
theorem z9q : G z0Z = some z3b := by kernel_rfl
theorem z70 : G z21 = some z4p := by kernel_rfl
theorem z9s : G z09 = some z3e := by kernel_rfl
theorem z9V : G z0j = some z3X := by kernel_rfl
theorem z9N : G z1x = some z3M := by kernel_rfl
theorem z9W : G z1G = some z3Y := by kernel_rfl
theorem za2 : G z0m = some z49 := by kernel_rfl
theorem zdo : G zP = some z6y := by kernel_rfl
theorem zdm : G zM = some z6u := by kernel_rfl
theorem z9X : G z0l = some z42 := by kernel_rfl
theorem za6 : G z1T = some z4f := by kernel_rfl
theorem z9O : G zG = some z6o := by kernel_rfl
theorem z0A : G z1B = some z3R := by kernel_rfl
theorem z4B : G z1E = some z3U := by kernel_rfl
theorem z4w : G z13 = some z3h := by kernel_rfl
theorem z9j : G zd = some z69 := by kernel_rfl
theorem z71 : G z0p = some z4q := by kernel_rfl
theorem z9x : G z18 = some z3o := by kernel_rfl
theorem z5 : G z19 = some z3p := by kernel_rfl
theorem z73 : G z0r = some z4s := by kernel_rfl
theorem z72 : G z0q = some z4r := by kernel_rfl
theorem z9t : G zC = some z3i := by kernel_rfl
theorem z4D : G z0o = some z4i := by kernel_rfl
theorem z6X : G z1Y = some z4m := by kernel_rfl
theorem z6U : G z1Q = some z4a := by kernel_rfl
theorem z29 : G z14 = some z3j := by kernel_rfl
theorem zdg : G zB = some z68 := by kernel_rfl
theorem z4u : G z06 = some z38 := by kernel_rfl
theorem z9n : G z0X = some z37 := by kernel_rfl
theorem z9w : G z17 = some z3n := by kernel_rfl
theorem za9 : G z2z = some z4j := by kernel_rfl
theorem z6O : G z0i = some z3V := by kernel_rfl
theorem z6Q : G z1J = some z43 := by kernel_rfl
theorem z4v : G z11 = some z3f := by kernel_rfl
theorem z4A : G z1D = some z3T := by kernel_rfl
theorem zp : G z1F = some z3W := by kernel_rfl
theorem z9P : G zI = some z6p := by kernel_rfl
theorem z6P : G z0k = some z3Z := by kernel_rfl
end Go.Proofs.YtcjncbkhbllchaaGreat

namespace Go.Sim
variable {G : FuncId → Option AFn}
theorem loop_indP {T : Type} {ks : List Nat} {x : ACode} (μ : T → Nat) (inv : T → Prop) (st : T → St) (Q : T → Option (AExit × St) → Prop)
    (h : ∀ t, inv t → ∀ L : St → Option (AExit × St), (∀ t', inv t' → μ t' < μ t → Q t' (L (st t'))) → Q t ((exL G x (st t)).bind (loopF ks L))) : ∀ t, inv t → Q t (loopL G ks x (st t)) := by
  intro t
  generalize hk : μ t = k
  induction k using Nat.strongRecOn generalizing t with
  | ind k ih =>
    intro hi
    rw [loopL_eq]
    exact h t hi _ fun t' hi' hlt => ih (μ t') (by omega) t' rfl hi'
end Go.Sim

namespace Go.Sim
variable {G : FuncId → Option AFn}
theorem wr {x : Int} (h : -9223372036854775808 ≤ x ∧ x < 9223372036854775808) : IntKind.i64.wrap x = x := by
  rw [Go.IntWalk.i64_in _ (by omega)]
theorem wu64 {x : Int} (h : 0 ≤ x ∧ x < 18446744073709551616) : IntKind.u64.wrap x = x := by rw [Go.IntWalk.u64_in _ (by omega)]
theorem wu32 {x : Int} (h : 0 ≤ x ∧ x < 4294967296) : IntKind.u32.wrap x = x := by rw [Go.IntWalk.u32_in _ (by omega)]
theorem wu8 {x : Int} (h : 0 ≤ x ∧ x < 256) : IntKind.u8.wrap x = x := by rw [Go.IntWalk.u8_in _ (by omega)]
theorem beqT {b : Bool} : (b == true) = b := by cases b <;> rfl
theorem beqF {b : Bool} : (b == false) = !b := by cases b <;> rfl
theorem ltT {a b : Int} (h : a < b) : (a < b) = True := eq_true h
theorem ltF {a b : Int} (h : b ≤ a) : (a < b) = False := eq_false (by omega)
theorem leT {a b : Int} (h : a ≤ b) : (a ≤ b) = True := eq_true h
theorem leF {a b : Int} (h : b < a) : (a ≤ b) = False := eq_false (by omega)
theorem eqT {a b : Int} (h : a = b) : (a = b) = True := eq_true h
theorem eqF {a b : Int} (h : ¬ a = b) : (a = b) = False := eq_false h
theorem lenLtT {α : Type} {l : List α} {a : Nat} (h : a < l.length) : (a < l.length) = True := eq_true h
theorem lenLtF {α : Type} {l : List α} {a : Nat} (h : l.length ≤ a) : (a < l.length) = False := eq_false (by omega)
theorem lenLeT {α : Type} {l : List α} {c : Nat} (h : l.length ≤ c) : (l.length ≤ c) = True := eq_true h
theorem addLeT {a b c : Nat} (h : a + b ≤ c) : (a + b ≤ c) = True := eq_true h
theorem lenEqT {α : Type} {l : List α} {c : Nat} (h : l.length = c) : (l.length = c) = True := eq_true h
theorem lim_eq : LIM = 4294967296 := rfl
theorem mapGet {α β : Type} {f : α → β} {l : List α} {k : Nat} (h : k < l.length) : (l.map f)[k]? = some (f (l[k]'h)) := by
  rw [List.getElem?_map, List.getElem?_eq_getElem h]; rfl
theorem toNat_add1 {k : Nat} : ((k : Int) + 1).toNat = k + 1 := by omega
theorem loop_all {ks : List Nat} {x : ACode} (n : Nat) (p : Nat → Bool) (st : Nat → St) (R fin : AExit × St)
    (h : ∀ k, k ≤ n → ∀ L : St → Option (AExit × St), (exL G x (st k)).bind (loopF ks L) = if k < n then (if p k = true then L (st (k + 1)) else some R) else some fin) :
    loopL G ks x (st 0) = some (if (List.range n).all p = true then fin else R) := by
  have key : ∀ m k, k + m = n → loopL G ks x (st k) = some (if ((List.range' k m).all p) = true then fin else R) := by
    intro m
    induction m with
    | zero =>
      intro k hk
      rw [loopL_eq, h k (by omega), if_neg (by omega)]
      rfl
    | succ m ih =>
      intro k hk
      rw [loopL_eq, h k (by omega), if_pos (by omega), List.range'_succ, List.all_cons, ih (k + 1) (by omega)]
      cases p k <;> rfl
  have := key n 0 (by omega)
  rwa [← List.range_eq_range'] at this
def findR {α : Type} (n : Nat) (p : Nat → Bool) (R : Nat → α) (fin : α) : α := match (List.range n).find? p with | some k => R k | none => fin
theorem loop_find {ks : List Nat} {x : ACode} (n : Nat) (p : Nat → Bool) (st : Nat → St) (R : Nat → AExit × St) (fin : AExit × St)
    (h : ∀ k, k ≤ n → ∀ L : St → Option (AExit × St), (exL G x (st k)).bind (loopF ks L) = if k < n then (if p k = true then some (R k) else L (st (k + 1))) else some fin) :
    loopL G ks x (st 0) = some (findR n p R fin) := by
  have key : ∀ m k, k + m = n → loopL G ks x (st k) = some (match (List.range' k m).find? p with | some k => R k | none => fin) := by
    intro m
    induction m with
    | zero =>
      intro k hk
      rw [loopL_eq, h k (by omega), if_neg (by omega)]
      rfl
    | succ m ih =>
      intro k hk
      rw [loopL_eq, h k (by omega), if_pos (by omega), List.range'_succ, List.find?_cons, ih (k + 1) (by omega)]
      cases p k <;> rfl
  have := key n 0 (by omega)
  rwa [← List.range_eq_range'] at this
def idxI {α : Type} (p : α → Bool) (es : List α) : Int := match es.findIdx? p with | some i => i | none => -1
def atB {α : Type} (l : List α) (p : α → Bool) (k : Nat) : Bool := match l[k]? with | some a => p a | none => false
theorem find_range {α : Type} (l : List α) (p : α → Bool) : (List.range l.length).find? (atB l p) = l.findIdx? p := by
  have key : ∀ (m k : Nat), k + m = l.length → (List.range' k m).find? (atB l p) = ((l.drop k).findIdx? p).map (k + ·) := by
    intro m
    induction m with
    | zero => intro k hk; rw [List.drop_of_length_le (by omega)]; rfl
    | succ m ih =>
      intro k hk
      rw [List.range'_succ, List.find?_cons, List.drop_eq_getElem_cons (show k < l.length by omega), List.findIdx?_cons, ih (k + 1) (by omega)]
      have : atB l p k = p (l[k]'(by omega)) := by unfold atB; rw [List.getElem?_eq_getElem (by omega)]
      rw [this]
      cases p (l[k]'(by omega)) with
      | true => simp
      | false =>
        cases (l.drop (k + 1)).findIdx? p with
        | none => rfl
        | some i => simp; omega
  have := key l.length 0 (by omega)
  rw [← List.range_eq_range'] at this
  rw [this, List.drop_zero]
  cases l.findIdx? p <;> simp only [Option.map_none, Option.map_some, Nat.zero_add]
theorem atB_at {α : Type} {l : List α} {p : α → Bool} {k : Nat} (h : k < l.length) : atB l p k = p l[k] := by
  unfold atB; rw [List.getElem?_eq_getElem h]
theorem findR_idx {α β : Type} (l : List α) (p : α → Bool) (R : Nat → β) (fin : β) : findR l.length (atB l p) R fin = match l.findIdx? p with | some k => R k | none => fin := by
  unfold findR; rw [find_range]
theorem idxI_any {α : Type} (l : List α) (p : α → Bool) : decide (0 ≤ idxI p l) = l.any p := by
  unfold idxI
  cases h : l.findIdx? p with
  | none => simp at h; simpa using h
  | some i =>
    have := List.findIdx?_eq_some_iff_getElem.1 h
    simp
    exact ⟨_, List.getElem_mem this.1, this.2.1⟩
theorem idxI_lt {α : Type} (l : List α) (p : α → Bool) : -1 ≤ idxI p l ∧ idxI p l < l.length := by
  unfold idxI
  cases e : l.findIdx? p with
  | none => simp only; omega
  | some i => have := (List.findIdx?_eq_some_iff_getElem.1 e).1; simp only; omega
theorem idxI_some {α : Type} {l : List α} {p : α → Bool} {i : Nat} (h : idxI p l = i) : ∃ hi : i < l.length, p (l[i]) = true ∧ ∀ j (hj : j < i), p (l[j]'(by omega)) = false := by
  unfold idxI at h
  cases e : l.findIdx? p with
  | none => rw [e] at h; simp only at h; omega
  | some k =>
    rw [e] at h
    simp only at h
    obtain rfl : k = i := by omega
    obtain ⟨h1, h2, h3⟩ := List.findIdx?_eq_some_iff_getElem.1 e
    exact ⟨h1, h2, fun j hj => by have := h3 j hj; simpa using this⟩
theorem idxI_neg {α : Type} (l : List α) (p : α → Bool) : idxI p l < 0 ↔ ∀ a ∈ l, p a = false := by
  have := idxI_any l p
  have h2 : l.any p = false ↔ ∀ a ∈ l, p a = false := by simp
  rw [← h2, ← this]
  simp
end Go.Sim

namespace Go.Sim
theorem getDT {α : Type} {l : List α} {k : Nat} {d : α} (h : k < l.length) : l.getD k d = l[k]'h := by
  rw [List.getD_eq_getElem?_getD, List.getElem?_eq_getElem h]; rfl
theorem setMap {α β : Type} {f : α → β} {l : List α} {k : Nat} {x : α} : (l.map f).set k (f x) = (l.set k x).map f := by rw [List.map_set]
theorem mapGet2 {α β γ : Type} {f : α → β} {g : β → γ} {l : List α} {k : Nat} (h : k < l.length) : ((l.map f).map g)[k]? = some (g (f (l[k]'h))) := by
  rw [List.map_map, List.getElem?_map, List.getElem?_eq_getElem h]; rfl
theorem lenSet {α : Type} {l : List α} {k : Nat} {x : α} : (l.set k x).length = l.length := List.length_set
theorem mapSet {α : Type} {f : α → D} {l : List α} {k : Nat} {x : α} : (l.set k x).map f = (l.map f).set k (f x) := by rw [List.map_set]
theorem setD {ds : List D} {k : Nat} {x : D} : (ds.map AV.d).set k (.d x) = (ds.set k x).map AV.d := by rw [List.map_set]
theorem iteC {α : Type} {c : Prop} [Decidable c] {A B r : α} (h1 : c → A = r) (h2 : ¬ c → B = r) : (if c then A else B) = r := by split <;> simp_all
end Go.Sim

namespace Go.Sim
theorem takeMapD {ds : List D} {n : Nat} : (ds.map AV.d).take n = (ds.take n).map AV.d := by rw [List.map_take]
theorem dropMapD {ds : List D} {n : Nat} : (ds.map AV.d).drop n = (ds.drop n).map AV.d := by rw [List.map_drop]
theorem takeSetM {α : Type} {f : α → D} {l : List α} {n k : Nat} {x : D} (h : l.length ≤ n) : ((l.map f).set k x).take n = (l.map f).set k x := List.take_of_length_le (by simpa using h)
theorem takeM {α : Type} {f : α → D} {l : List α} {n : Nat} (h : l.length ≤ n) : (l.map f).take n = l.map f := List.take_of_length_le (by simpa using h)
theorem iteR {α : Type} {c : Prop} [Decidable c] {A B r : α} (h1 : c → r = A) (h2 : ¬ c → r = B) : r = if c then A else B := by split <;> simp_all
end Go.Sim

namespace Go.Sim
attribute [go_sem ↓] reduceIte
attribute [go_sem] reduceCtorEq Nat.reduceEqDiff Nat.reduceAdd Nat.reduceBEq Nat.reduceMul Nat.reduceLeDiff Nat.reduceSub Nat.reduceLT Nat.reduceDiv Nat.reduceMod List.reduceReplicate Int.reduceEq Int.reduceLT Int.reduceLE Int.reduceAdd Int.reduceSub Int.reduceMul Int.reduceNeg Int.reduceToNat
attribute [go_sem] toNat_add1 takeMapD dropMapD takeSetM takeM lenSet mapSet setD mapGet2 wr or_self or_false false_or true_or or_true false_and and_false Int.natCast_mul Int.cast_ofNat_Int Int.natCast_zero List.length_append lim_eq wu64 wu32 wu8 Bool.true_beq Bool.false_beq beqT beqF Int.natCast_add Int.natCast_one ltT ltF leT leF eqT eqF lenLtT lenLtF lenLeT addLeT lenEqT mapGet Int.toNat_natCast Int.natCast_nonneg List.length_map
theorem pA {a b : Bool} : ((a || b) = true) = (a = true ∨ b = true) := Bool.or_eq_true a b
theorem pB {a b : Bool} : ((a && b) = true) = (a = true ∧ b = true) := Bool.and_eq_true a b
theorem pC {p : Prop} [Decidable p] : (decide p = true) = p := decide_eq_true_eq
theorem pD {a : Bool} : ((!a) = true) = (a = false) := Bool.not_eq_true' a
theorem pE {p : Prop} [Decidable p] : (decide p = false) = ¬ p := by simp
theorem pF {p q : Prop} : (¬ (p ∨ q)) = (¬ p ∧ ¬ q) := by simp
theorem pG {a b : Int} : (¬ a < b) = (b ≤ a) := by simp
theorem pH {a b : Int} : (¬ a ≤ b) = (b < a) := by simp
theorem pI {a b : Nat} : (¬ a < b) = (b ≤ a) := by simp
theorem pJ {a b : Nat} : (¬ a ≤ b) = (b < a) := by simp
theorem pK {a b : Bool} : ((a || b) = false) = (a = false ∧ b = false) := by simp
theorem pL {a b : Bool} : ((a && b) = false) = (a = false ∨ b = false) := by cases a <;> cases b <;> simp
theorem pM {a : Bool} : ((!a) = false) = (a = true) := by simp
theorem pN : (true = false) = False := by simp
theorem pO : (false = true) = False := by simp
theorem pP {p : Prop} : (¬ ¬ p) = p := by simp
end Go.Sim

namespace Go.Proofs.YtcjncbkhbllchaaGreat
open Go Go.Sim
set_option linter.unusedSimpArgs false
set_option linter.unusedVariables false
set_option maxHeartbeats 10000000
abbrev ints (l : List Int) : List D := l.map (.int .i64)
theorem allSize_ints (l : List Int) : allSize 1 (ints l) = true := by simp [allSize, D.size, D.cells]
abbrev Due := Int × Int
def eD (d : Due) : D := .agg [.int .i64 d.1, .int .i64 d.2]
theorem eD_cells (d : Due) : (eD d).cells = [.int .i64 d.1, .int .i64 d.2] := rfl
theorem eD_size (d : Due) : (eD d).size = 2 := rfl
theorem eD_asAgg (d : Due) : (eD d).asAgg = eD d := rfl
theorem eD_isT (d : Due) : (eD d).isT = false := rfl
theorem allSize_eD (h : List Due) : allSize 2 (h.map eD) = true := by simp [allSize, eD_size]
structure Span where
  low : Int
  high : Int
  shard : Int
  deriving DecidableEq
def zSpan : Span := ⟨0, 0, 0⟩
instance : Inhabited Span := ⟨zSpan⟩
structure Directory where
  version : Int
  l : List Span
  forward : List Int
  deriving DecidableEq
def zDirectory : Directory := ⟨0, [], []⟩
instance : Inhabited Directory := ⟨zDirectory⟩
structure Edit where
  kind : Int
  from_ : Int
  to : Int
  mid : Int
  deriving DecidableEq
def zEdit : Edit := ⟨0, 0, 0, 0⟩
instance : Inhabited Edit := ⟨zEdit⟩
structure Setup where
  slots : Int
  live : Int
  capacity : Int
  dead : Int
  limit : Int
  clock : Int
  nextID : Int
  epoch : Int
  deriving DecidableEq
def zSetup : Setup := ⟨0, 0, 0, 0, 0, 0, 0, 0⟩
instance : Inhabited Setup := ⟨zSetup⟩
structure Message where
  id : Int
  route : Int
  epoch : Int
  count : Int
  gen : Int
  sent : Int
  body : List UInt8
  deriving DecidableEq
def zMessage : Message := ⟨0, 0, 0, 0, 0, 0, []⟩
instance : Inhabited Message := ⟨zMessage⟩
def eMessage (x : Message) : D := .agg [.int .i64 x.id, .int .i64 x.route, .int .i64 x.epoch, .int .i64 x.count, .int .i64 x.gen, .int .i64 x.sent, .str x.body]
theorem eMessage_cells (x : Message) : (eMessage x).cells = [.int .i64 x.id, .int .i64 x.route, .int .i64 x.epoch, .int .i64 x.count, .int .i64 x.gen, .int .i64 x.sent, .str x.body] := rfl
theorem eMessage_size (x : Message) : (eMessage x).size = 7 := rfl
theorem eMessage_asAgg (x : Message) : (eMessage x).asAgg = eMessage x := rfl
theorem eMessage_isT (x : Message) : (eMessage x).isT = false := rfl
theorem allSize_Message (l : List Message) : allSize 7 (l.map eMessage) = true := by simp [allSize, eMessage_size]
structure Ring where
  cells : List Message
  head : Int
  size : Int
  deriving DecidableEq
def zRing : Ring := ⟨[], 0, 0⟩
instance : Inhabited Ring := ⟨zRing⟩
def eRing (x : Ring) : D := .agg [.sl (x.cells.map eMessage), .int .i64 x.head, .int .i64 x.size]
structure Lease where
  msg : Message
  deadline : Int
  deriving DecidableEq
def zLease : Lease := ⟨⟨0, 0, 0, 0, 0, 0, []⟩, 0⟩
instance : Inhabited Lease := ⟨zLease⟩
def eLease (x : Lease) : D := .agg [.int .i64 x.msg.id, .int .i64 x.msg.route, .int .i64 x.msg.epoch, .int .i64 x.msg.count, .int .i64 x.msg.gen, .int .i64 x.msg.sent, .str x.msg.body, .int .i64 x.deadline]
theorem eLease_cells (x : Lease) : (eLease x).cells = [.int .i64 x.msg.id, .int .i64 x.msg.route, .int .i64 x.msg.epoch, .int .i64 x.msg.count, .int .i64 x.msg.gen, .int .i64 x.msg.sent, .str x.msg.body, .int .i64 x.deadline] := rfl
theorem eLease_size (x : Lease) : (eLease x).size = 8 := rfl
theorem eLease_asAgg (x : Lease) : (eLease x).asAgg = eLease x := rfl
theorem eLease_isT (x : Lease) : (eLease x).isT = false := rfl
theorem allSize_Lease (l : List Lease) : allSize 8 (l.map eLease) = true := by simp [allSize, eLease_size]
structure Table where
  l : List Lease
  heap : List Due
  deriving DecidableEq
def zTable : Table := ⟨[], []⟩
instance : Inhabited Table := ⟨zTable⟩
def eTable (x : Table) : D := .agg [.sl (x.l.map eLease), .sl (x.heap.map eD)]
theorem eTable_cells (x : Table) : (eTable x).cells = [.sl (x.l.map eLease), .sl (x.heap.map eD)] := rfl
theorem eTable_size (x : Table) : (eTable x).size = 2 := rfl
theorem eTable_asAgg (x : Table) : (eTable x).asAgg = eTable x := rfl
theorem eTable_isT (x : Table) : (eTable x).isT = false := rfl
structure Shard where
  live : Bool
  low : Int
  high : Int
  ready : Ring
  leases : Table
  deriving DecidableEq
def zShard : Shard := ⟨false, 0, 0, ⟨[], 0, 0⟩, ⟨[], []⟩⟩
instance : Inhabited Shard := ⟨zShard⟩
def eShard (x : Shard) : D := .agg [.bool x.live, .int .i64 x.low, .int .i64 x.high, .sl (x.ready.cells.map eMessage), .int .i64 x.ready.head, .int .i64 x.ready.size, .sl (x.leases.l.map eLease), .sl (x.leases.heap.map eD)]
structure Slot where
  owner : Int
  shard : Shard
  deriving DecidableEq
def zSlot : Slot := ⟨0, ⟨false, 0, 0, ⟨[], 0, 0⟩, ⟨[], []⟩⟩⟩
instance : Inhabited Slot := ⟨zSlot⟩
structure Stripe where
  seq : Int
  epoch : Int
  ready : Int
  leased : Int
  deriving DecidableEq
def zStripe : Stripe := ⟨0, 0, 0, 0⟩
instance : Inhabited Stripe := ⟨zStripe⟩
structure Dead where
  cap : Int
  l : List Message
  deriving DecidableEq
def zDead : Dead := ⟨0, []⟩
instance : Inhabited Dead := ⟨zDead⟩
structure DeadCell where
  owner : Int
  dead : Dead
  deriving DecidableEq
def zDeadCell : DeadCell := ⟨0, ⟨0, []⟩⟩
instance : Inhabited DeadCell := ⟨zDeadCell⟩
structure Arena where
  slots : List Slot
  stripes : List Stripe
  dead : DeadCell
  dir : Directory
  epoch : Int
  clock : Int
  nextID : Int
  deriving DecidableEq
def zArena : Arena := ⟨[], [], ⟨0, ⟨0, []⟩⟩, ⟨0, [], []⟩, 0, 0, 0⟩
instance : Inhabited Arena := ⟨zArena⟩
structure Snapshot where
  phase : Int
  epoch : Int
  clock : Int
  stamp : Int
  deriving DecidableEq
def zSnapshot : Snapshot := ⟨0, 0, 0, 0⟩
instance : Inhabited Snapshot := ⟨zSnapshot⟩
structure Invocation where
  kind : Int
  home : Int
  max : Int
  visibility : Int
  from_ : Int
  to : Int
  bodies : List (List UInt8)
  tokens : List (List UInt8)
  deriving DecidableEq
def zInvocation : Invocation := ⟨0, 0, 0, 0, 0, 0, [], []⟩
instance : Inhabited Invocation := ⟨zInvocation⟩
structure Result where
  err : Int
  id : Int
  tokens : List (List UInt8)
  bodies : List (List UInt8)
  ready : Int
  leased : Int
  moved : Int
  deriving DecidableEq
def zResult : Result := ⟨0, 0, [], [], 0, 0, 0⟩
instance : Inhabited Result := ⟨zResult⟩
structure Locker where
  cells : List Int
  phase : Int
  have_ : Int
  tries : Int
  wait : Int
  deriving DecidableEq
def zLocker : Locker := ⟨[], 0, 0, 0, 0⟩
instance : Inhabited Locker := ⟨zLocker⟩
structure Outcome where
  shards : List Shard
  dead : Dead
  order : List Int
  carry : List Message
  edits : List Edit
  deriving DecidableEq
def zOutcome : Outcome := ⟨[], ⟨0, []⟩, [], [], []⟩
instance : Inhabited Outcome := ⟨zOutcome⟩
structure Section where
  phase : Int
  at_ : Int
  lock : Locker
  snap : Snapshot
  shards : List Shard
  dead : Dead
  stripes : List Stripe
  dir : Directory
  out : Outcome
  limit : Int
  carry : List Message
  deriving DecidableEq
def zSection : Section := ⟨0, 0, ⟨[], 0, 0, 0, 0⟩, ⟨0, 0, 0, 0⟩, [], ⟨0, []⟩, [], ⟨0, [], []⟩, ⟨[], ⟨0, []⟩, [], [], []⟩, 0, []⟩
instance : Inhabited Section := ⟨zSection⟩
structure Walk where
  next : Int
  covered : Int
  deriving DecidableEq
def zWalk : Walk := ⟨0, 0⟩
instance : Inhabited Walk := ⟨zWalk⟩
structure Handle where
  id : Int
  gen : Int
  route : Int
  hint : Int
  deriving DecidableEq
def zHandle : Handle := ⟨0, 0, 0, 0⟩
instance : Inhabited Handle := ⟨zHandle⟩
def eHandle (x : Handle) : D := .agg [.int .i64 x.id, .int .i64 x.gen, .int .i64 x.route, .int .i64 x.hint]
structure Task where
  number : Int
  inv : Invocation
  invoked : Int
  done : Bool
  ended : Int
  pc : Int
  entry : Int
  results : List Result
  setup : Setup
  sec : Section
  dir : Directory
  walk : Walk
  slot : Int
  id : Int
  handle : Handle
  loaded : Int
  first : List Stripe
  second : List Stripe
  deriving DecidableEq
def zTask : Task := ⟨0, ⟨0, 0, 0, 0, 0, 0, [], []⟩, 0, false, 0, 0, 0, [], ⟨0, 0, 0, 0, 0, 0, 0, 0⟩, ⟨0, 0, ⟨[], 0, 0, 0, 0⟩, ⟨0, 0, 0, 0⟩, [], ⟨0, []⟩, [], ⟨0, [], []⟩, ⟨[], ⟨0, []⟩, [], [], []⟩, 0, []⟩, ⟨0, [], []⟩, ⟨0, 0⟩, 0, 0, ⟨0, 0, 0, 0⟩, 0, [], []⟩
instance : Inhabited Task := ⟨zTask⟩
structure Item where
  id : Int
  state : Int
  count : Int
  gen : Int
  route : Int
  deadline : Int
  deriving DecidableEq
def zItem : Item := ⟨0, 0, 0, 0, 0, 0⟩
instance : Inhabited Item := ⟨zItem⟩
structure Bag where
  limit : Int
  now : Int
  epoch : Int
  l : List Item
  deriving DecidableEq
def zBag : Bag := ⟨0, 0, 0, []⟩
instance : Inhabited Bag := ⟨zBag⟩
structure Grant where
  id : Int
  gen : Int
  route : Int
  deadline : Int
  deriving DecidableEq
def zGrant : Grant := ⟨0, 0, 0, 0⟩
instance : Inhabited Grant := ⟨zGrant⟩
structure Event where
  stamp : Int
  task : Int
  entry : Int
  kind : Int
  now : Int
  epoch : Int
  err : Int
  l : List Grant
  ready : Int
  leased : Int
  deriving DecidableEq
def zEvent : Event := ⟨0, 0, 0, 0, 0, 0, 0, [], 0, 0⟩
instance : Inhabited Event := ⟨zEvent⟩
structure World where
  setup : Setup
  arena : Arena
  tasks : List Task
  log : List Event
  steps : Int
  handles : List (List UInt8)
  deriving DecidableEq
def zWorld : World := ⟨⟨0, 0, 0, 0, 0, 0, 0, 0⟩, ⟨[], [], ⟨0, ⟨0, []⟩⟩, ⟨0, [], []⟩, 0, 0, 0⟩, [], [], 0, []⟩
instance : Inhabited World := ⟨zWorld⟩
structure Ref where
  index : Int
  variant : Int
  raw : List UInt8
  deriving DecidableEq
def zRef : Ref := ⟨0, 0, []⟩
instance : Inhabited Ref := ⟨zRef⟩
structure Command where
  kind : Int
  pick : Int
  by_ : Int
  inv : Invocation
  refs : List Ref
  deriving DecidableEq
def zCommand : Command := ⟨0, 0, 0, ⟨0, 0, 0, 0, 0, 0, [], []⟩, []⟩
instance : Inhabited Command := ⟨zCommand⟩
attribute [go_sem] allSize_ints eD_cells eD_size eD_asAgg eD_isT allSize_eD eMessage_cells eMessage_size eMessage_asAgg eMessage_isT allSize_Message eLease_cells eLease_size eLease_asAgg eLease_isT allSize_Lease eTable_cells eTable_size eTable_asAgg eTable_isT
end Go.Proofs.YtcjncbkhbllchaaGreat

namespace Go.Proofs.YtcjncbkhbllchaaGreat
open Go Go.Sim
set_option linter.unusedSimpArgs false
set_option linter.unusedVariables false
set_option maxHeartbeats 10000000
set_option maxRecDepth 4000
theorem wrap1 {k n : Nat} (h : k < n) (hn : n ≤ LIM) : IntKind.i64.wrap ((k : Int) + 1) = ((k + 1 : Nat) : Int) := by
  unfold LIM at hn; rw [Go.IntWalk.i64_in _ (by omega)]; simp
theorem isNaN_ok (n : Int) : callL G z0U [.d (.int .i64 n)] [] = some (.d (.bool false), []) := by
  rw [callL_code z9i (by simp)]; simp -implicitDefEqProofs only [z8d, zc3, go_sem]
def cmpI (a b : Int) : Int := if a < b then -1 else if b < a then 1 else 0
theorem compare_ok (a b : Int) : callL G zy [.d (.int .i64 a), .d (.int .i64 b)] [] = some (.d (.int .i64 (cmpI a b)), []) := by
  rw [callL_code zdf (by simp)]; simp -implicitDefEqProofs only [z8b, zc1, go_sem]
  simp -implicitDefEqProofs only [isNaN_ok, cmpI, go_sem]
  repeat' split
  all_goals simp_all
def firstNZ : List Int → Int
  | [] => 0
  | x :: l => if x = 0 then firstNZ l else x
def orR (l : List Int) (k : Nat) : AExit × St :=
  if firstNZ (l.drop k) = 0 then (.exit 0, ⟨[(3, .d (.int .i64 0))], []⟩)
  else (.ret, ⟨[(2, .d (.int .i64 (firstNZ (l.drop k))))], []⟩)
theorem or_loop (l : List Int) (hL : l.length ≤ LIM) : ∀ k, k ≤ l.length → loopL G [] z4I ⟨[(3, .d (.int .i64 0)), (6, .d (.sl (l.map (.int .i64)))), (7, .d (.int .i64 l.length)), (8, .d (.int .i64 k))], []⟩ = some (orR l k) := by
  refine loop_ind (fun k => l.length - k) (fun k => k ≤ l.length) _ _ fun k hk L ih => ?_
  simp only [z4I]
  by_cases hlt : k < l.length
  · have i1 := ih (k + 1) (by omega) (by omega)
    unfold orR at i1 ⊢
    rw [List.drop_eq_getElem_cons hlt, firstNZ]
    clear ih
    have hL2 : l.length ≤ 4294967296 := hL
    simp only [Int.natCast_add, Int.natCast_one, Int.natCast_zero, Int.natCast_mul, Int.cast_ofNat_Int, List.length_append, List.length_map, List.map_nil, List.length_nil, List.map_append, List.map_cons, List.length_cons, Nat.zero_add, srcO, mapSet] at i1
    generalize firstNZ (l.drop (k + 1)) = z at *
    by_cases h : l[k] = 0
    · by_cases hz : z = 0
      · rw [if_pos hz] at i1
        rw [if_pos (by rw [if_pos h]; exact hz)]
        simp -implicitDefEqProofs (maxSteps := 4000000) (disch := omega) only [getDT, go_sem, *] /-A0-/
      · rw [if_neg hz] at i1
        rw [if_neg (by rw [if_pos h]; exact hz), if_pos h]
        simp -implicitDefEqProofs (maxSteps := 4000000) (disch := omega) only [getDT, go_sem, *] /-A1-/
    · rw [if_neg (by rw [if_neg h]; exact h), if_neg h]
      simp -implicitDefEqProofs (maxSteps := 4000000) (disch := omega) only [getDT, go_sem, *] /-A2-/
  · have : k = l.length := by omega
    subst this
    clear ih
    simp only [orR, List.drop_length, firstNZ, if_true]
    simp -implicitDefEqProofs (maxSteps := 4000000) (disch := omega) only [getDT, go_sem, *] /-A3-/
theorem or_ok (l : List Int) (hL : l.length ≤ LIM) : callL G z0T [.d (.sl (l.map (.int .i64)))] [] = some (.d (.int .i64 (firstNZ l)), []) := by
  rw [callL_code z9h (by simp)]; simp -implicitDefEqProofs only [z8c, zc2, go_sem]
  try rw [List.length_map]
  have := or_loop l hL 0 (by omega)
  simp only [Int.natCast_zero] at this
  rw [this]
  unfold orR
  simp only [List.drop_zero]
  by_cases h : firstNZ l = 0 <;> simp -implicitDefEqProofs only [h, go_sem]
def cmpD (a b : Due) : Int := if cmpI a.1 b.1 = 0 then cmpI a.2 b.2 else cmpI a.1 b.1
def lt (a b : Due) : Bool := decide (cmpD a b < 0)
theorem due_compare_ok (a b : Due) : callL G z05 [.d (eD a), .d (eD b)] [] = some (.d (.int .i64 (cmpD a b)), []) := by
  have h := or_ok [cmpI a.1 b.1, cmpI a.2 b.2] (by simp [LIM])
  simp only [List.map_cons, List.map_nil] at h
  rw [callL_code z9m (by simp)]; simp -implicitDefEqProofs only [z8i, zc8, go_sem]
  simp -implicitDefEqProofs only [eD, compare_ok, h, go_sem]
  simp only [firstNZ, cmpD]
  by_cases h1 : cmpI a.1 b.1 = 0 <;> by_cases h2 : cmpI a.2 b.2 = 0 <;> simp [h1, h2]
theorem before_ok (h : List Due) (i j : Nat) (hi : i < h.length) (hj : j < h.length) : callL G z0W [.d (.sl (h.map eD)), .d (.int .i64 i), .d (.int .i64 j)] [] = some (.d (.bool (lt h[i] h[j])), []) := by
  rw [callL_code z9l (by simp)]; simp -implicitDefEqProofs only [z8h, zc7, go_sem]
  simp -implicitDefEqProofs only [show (0 : Int) ≤ (i : Int) by omega, show (0 : Int) ≤ (j : Int) by omega, Int.toNat_natCast, List.getElem?_map, List.getElem?_eq_getElem hi, List.getElem?_eq_getElem hj, eD_size, eD_asAgg, due_compare_ok, go_sem]
  rfl
def validD (d : Due) : Bool := decide (0 ≤ d.1) && (decide (d.1 ≤ 1073741824) && (decide (1 ≤ d.2) && decide (d.2 ≤ 1073741824)))
theorem valid_ok (d : Due) : callL G z10 [.d (eD d)] [] = some (.d (.bool (validD d)), []) := by
  simp only [eD]
  rw [callL_code z9r (by simp)]; simp -implicitDefEqProofs only [z8n, zcd, go_sem]
  rfl
theorem find1_ok (d : Due) (j : Int) : callL G z07 [.d (eD d), .d (.pd (.int .i64 j))] [] = some (.d (.bool (decide (d.2 = j))), []) := by
  simp only [eD]
  rw [callL_code z9p (by simp)]; simp -implicitDefEqProofs only [z8l, zcb, go_sem]
theorem idxI_map {α β : Type} (p : β → Bool) (f : α → β) (es : List α) : idxI p (es.map f) = idxI (fun x => p (f x)) es := by
  unfold idxI; rw [List.findIdx?_map]; rfl
def idxR (es : List D) (g : Nat) (cs : List D) (p : D → Bool) (k : Nat) : AExit × St := match (es.drop k).findIdx? p with | some i => (.ret, ⟨[(4, .d (.int .i64 ((k + i : Nat) : Int)))], []⟩) | none => (.exit 0, ⟨[], []⟩)
theorem idx_loop (es : List D) (g : Nat) (cs : List D) (p : D → Bool) (hL : es.length ≤ LIM) (hs : ∀ e ∈ es, e.size = 2) (hp : ∀ e ∈ es, callL G g (.d e.asAgg :: cs.map .d) [] = some (.d (.bool (p e)), [])) : ∀ k, k ≤ es.length →
    loopL G [] z56 ⟨[(0, .d (.sl es)), (1, .d (.fn g cs)), (7, .d (.int .i64 es.length)), (8, .d (.int .i64 k))], []⟩ = some (idxR es g cs p k) := by
  refine loop_ind (fun k => es.length - k) (fun k => k ≤ es.length) _ _ fun k hk L ih => ?_
  simp only [z56]
  by_cases hlt : k < es.length
  · have h1 := hp es[k] (by simp)
    have h2 := hs es[k] (by simp)
    have i1 := ih (k + 1) (by omega) (by omega)
    have hL2 : es.length ≤ 4294967296 := hL
    have h3 : es[k]? = some es[k] := List.getElem?_eq_getElem hlt
    unfold idxR at i1 ⊢
    rw [List.drop_eq_getElem_cons hlt, List.findIdx?_cons]
    clear ih hp hs
    cases hpe : p es[k] with
    | true =>
      rw [hpe] at h1
      simp only [if_true]
      clear i1
      simp -implicitDefEqProofs (maxSteps := 4000000) (disch := omega) only [getDT, go_sem, *] /-A4-/
    | false =>
      rw [hpe] at h1
      cases hf : (es.drop (k + 1)).findIdx? p with
      | none =>
        rw [hf] at i1
        simp only [Int.natCast_add, Int.natCast_one, Int.natCast_zero, Int.natCast_mul, Int.cast_ofNat_Int, List.length_append, List.length_map, List.map_nil, List.length_nil, List.map_append, List.map_cons, List.length_cons, Nat.zero_add, srcO, mapSet] at i1
        simp only [Option.map_none, if_false, Bool.false_eq_true]
        simp -implicitDefEqProofs (maxSteps := 4000000) (disch := omega) only [getDT, go_sem, *] /-A5-/
      | some i =>
        rw [hf] at i1
        simp only [Int.natCast_add, Int.natCast_one, Int.natCast_zero, Int.natCast_mul, Int.cast_ofNat_Int, List.length_append, List.length_map, List.map_nil, List.length_nil, List.map_append, List.map_cons, List.length_cons, Nat.zero_add, srcO, mapSet] at i1
        simp only [Option.map_some, if_false, Bool.false_eq_true]
        rw [show ((k + (i + 1) : Nat) : Int) = (k : Int) + 1 + i by omega]
        simp -implicitDefEqProofs (maxSteps := 4000000) (disch := omega) only [getDT, go_sem, *] /-A6-/
  · have : k = es.length := by omega
    subst this
    clear ih
    simp only [idxR, List.drop_length, List.findIdx?_nil]
    simp -implicitDefEqProofs (maxSteps := 4000000) (disch := omega) only [getDT, go_sem, *] /-A7-/
theorem idx_ok (es : List D) (g : Nat) (cs : List D) (p : D → Bool) (hL : es.length ≤ LIM) (hs : ∀ e ∈ es, e.size = 2) (hp : ∀ e ∈ es, callL G g (.d e.asAgg :: cs.map .d) [] = some (.d (.bool (p e)), [])) : callL G z1W [.d (.sl es), .d (.fn g cs)] [] = some (.d (.int .i64 (idxI p es)), []) := by
  rw [callL_code zaa (by simp)]; simp -implicitDefEqProofs only [z98, zcX, go_sem]
  have := idx_loop es g cs p hL hs hp 0 (by omega)
  simp only [Int.natCast_zero] at this
  rw [this]
  unfold idxR idxI
  simp only [List.drop_zero, Nat.zero_add]
  cases es.findIdx? p <;> simp -implicitDefEqProofs only [go_sem]
theorem contains_ok (es : List D) (g : Nat) (cs : List D) (p : D → Bool) (hL : es.length ≤ LIM) (hs : ∀ e ∈ es, e.size = 2) (hp : ∀ e ∈ es, callL G g (.d e.asAgg :: cs.map .d) [] = some (.d (.bool (p e)), [])) : callL G z1S [.d (.sl es), .d (.fn g cs)] [] = some (.d (.bool (es.any p)), []) := by
  rw [callL_code za5 (by simp)]; simp -implicitDefEqProofs only [z94, zcT, go_sem]
  simp -implicitDefEqProofs only [idx_ok es g cs p hL hs hp, go_sem]
  unfold idxI
  cases h : es.findIdx? p with
  | none => simp at h; simpa using h
  | some i =>
    have := List.findIdx?_eq_some_iff_getElem.1 h
    simp
    exact ⟨_, List.getElem_mem this.1, this.2.1⟩
def secondIs (j : Int) : D → Bool
  | .agg [_, .int _ n] => decide (n = j)
  | _ => false
def findD (h : List Due) (j : Int) : Int := idxI (fun d => decide (d.2 = j)) h
theorem find_ok (h : List Due) (j : Int) (hL : h.length ≤ LIM) : callL G z0Y [.d (.sl (h.map eD)), .d (.int .i64 j)] [] = some (.d (.int .i64 (findD h j)), []) := by
  have hk := idx_ok (h.map eD) z07 [.pd (.int .i64 j)] (secondIs j) (by simpa using hL) (fun e he => by obtain ⟨d, _, rfl⟩ := List.mem_map.1 he; rfl) (fun e he => by
    obtain ⟨d, _, rfl⟩ := List.mem_map.1 he
    exact find1_ok d j)
  rw [idxI_map] at hk
  rw [callL_code z9o (by simp)]; simp -implicitDefEqProofs only [z8k, zca, go_sem]
  simp -implicitDefEqProofs only [hk, go_sem]
  rfl
theorem Validate1_ok (d : Due) : callL G z04 [.d (eD d)] [] = some (.d (.bool (!validD d)), []) := by
  have h := valid_ok d
  simp only [eD] at h ⊢
  rw [callL_code z9k (by simp)]; simp -implicitDefEqProofs only [z8g, zc6, go_sem]
  simp -implicitDefEqProofs only [h, go_sem]
end Go.Proofs.YtcjncbkhbllchaaGreat

namespace Go.Proofs.YtcjncbkhbllchaaGreat
open Go Go.Sim
set_option linter.unusedSimpArgs false
set_option linter.unusedVariables false
set_option maxHeartbeats 10000000
set_option maxRecDepth 40000
theorem wrapN {x : Int} (h0 : -4294967296 ≤ x) (h1 : x ≤ 4294967296) : IntKind.i64.wrap x = x := wr (by omega)
abbrev srcO (l : List Int) (a : Nat) : Go.Sim.Obj := .row [.d (.agg [.sl (ints l), .int .i64 a])]
theorem new_ok (l : List Int) (hL : l.length ≤ LIM) : callL G zt [.d (.sl (ints l))] [] = some (.ref 0 0 0, [(0, srcO (l.take 4000) 0)]) := by
  have hs := allSize_ints l
  by_cases h : 4000 < l.length
  · have e : ints (l.take 4000) = (ints l).take 4000 := by simp [ints, List.map_take]
    simp only [srcO, e]
    rw [callL_code z9a (by simp)]; simp -implicitDefEqProofs (maxSteps := 4000000) (disch := omega) only [z5x, z7D, getDT, go_sem, *] /-A0-/
  · have e : l.take 4000 = l := List.take_of_length_le (by omega)
    simp only [srcO, e]
    rw [callL_code z9a (by simp)]; simp -implicitDefEqProofs (maxSteps := 4000000) (disch := omega) only [z5x, z7D, getDT, go_sem, *] /-A1-/
def rawD (l : List Int) (a : Nat) : Int × Nat := if a < l.length then (l.getD a 0, a + 1) else (0, a)
theorem raw_ok (l : List Int) (a : Nat) (hL : l.length ≤ 4000) : callL G z0P [.ref 1000000 0 0] [(1000000, srcO l a)] = some (.d (.int .i64 (rawD l a).1), [(1000000, srcO l (rawD l a).2)]) := by
  unfold rawD
  have e : ((a : Int) + 1 - 1).toNat = a := by omega
  by_cases h : a < l.length
  · simp only [h, if_true]
    rw [callL_code z9g (by simp)]; simp -implicitDefEqProofs (maxSteps := 4000000) (disch := omega) only [z5B, z7H, e, getDT, go_sem, *]; (try simp only [pA, pB, pC, pD, pE, pF, pG, pH, pI, pJ, pK, pL, pM, pN, pO, pP, if_true, if_false]); repeat' (first | done | rfl | ((first | refine iteC (fun hq => ?_) (fun hq => ?_) | refine iteP (fun hq => ?_) (fun hq => ?_)) <;> (try (first | (exfalso; omega) | contradiction)) <;> (try simp -implicitDefEqProofs (maxSteps := 4000000) (disch := omega) only [e, getDT, go_sem, *]) <;> (try simp only [pA, pB, pC, pD, pE, pF, pG, pH, pI, pJ, pK, pL, pM, pN, pO, pP, if_true, if_false]))); (all_goals try rfl); (all_goals try (repeat' (first | done | rfl | (exfalso; omega) | contradiction | (refine iteR (fun hq => ?_) (fun hq => ?_))))) /-A2-/
  · simp only [h, if_false]
    rw [callL_code z9g (by simp)]; simp -implicitDefEqProofs (maxSteps := 4000000) (disch := omega) only [z5B, z7H, getDT, go_sem, *] /-A3-/
def nD (l : List Int) (a : Nat) (n : Int) : Int := if (rawD l a).1.tmod n < 0 then (rawD l a).1.tmod n + n else (rawD l a).1.tmod n
theorem nD_in (l : List Int) (a : Nat) {n : Int} (h : 1 ≤ n) : 0 ≤ nD l a n ∧ nD l a n < n := by
  unfold nD
  have h1 := Int.tmod_lt_of_pos (rawD l a).1 (show 0 < n by omega)
  have h2 := Int.lt_tmod_of_pos (rawD l a).1 (show 0 < n by omega)
  split <;> omega
theorem n_ok (l : List Int) (a : Nat) (n : Int) (hL : l.length ≤ 4000) (h1 : 1 ≤ n) (h2 : n ≤ 4294967296) : callL G zk [.ref 1000000 0 0, .d (.int .i64 n)] [(1000000, srcO l a)] = some (.d (.int .i64 (nD l a n)), [(1000000, srcO l (rawD l a).2)]) := by
  have hr := raw_ok l a hL
  have h3 := Int.tmod_lt_of_pos (rawD l a).1 (show 0 < n by omega)
  have h4 := Int.lt_tmod_of_pos (rawD l a).1 (show 0 < n by omega)
  unfold nD
  by_cases h : (rawD l a).1.tmod n < 0
  · simp only [h, if_true]
    rw [callL_code z9f (by simp)]; simp -implicitDefEqProofs (maxSteps := 4000000) (disch := omega) only [z5A, z7G, getDT, go_sem, *] /-A4-/
  · simp only [h, if_false]
    rw [callL_code z9f (by simp)]; simp -implicitDefEqProofs (maxSteps := 4000000) (disch := omega) only [z5A, z7G, getDT, go_sem, *] /-A5-/
theorem range_ok (l : List Int) (a : Nat) (lo hi : Int) (hL : l.length ≤ 4000) (h0 : -4294967296 ≤ lo) (h1 : lo ≤ hi) (h2 : hi ≤ 4294967296) (h3 : hi - lo < 4294967296) : callL G zw [.ref 1000000 0 0, .d (.int .i64 lo), .d (.int .i64 hi)] [(1000000, srcO l a)] = some (.d (.int .i64 (lo + nD l a (hi - lo + 1))), [(1000000, srcO l (rawD l a).2)]) := by
  have hr := n_ok l a (hi - lo + 1) hL (by omega) (by omega)
  have hn := nD_in l a (show 1 ≤ hi - lo + 1 by omega)
  rw [callL_code zdd (by simp)]; simp -implicitDefEqProofs (maxSteps := 4000000) (disch := omega) only [z89, zbZ, getDT, go_sem, *] /-A6-/
end Go.Proofs.YtcjncbkhbllchaaGreat

namespace Go.Proofs.YtcjncbkhbllchaaGreat
open Go Go.Sim
set_option linter.unusedSimpArgs false
set_option linter.unusedVariables false
set_option maxHeartbeats 10000000
set_option maxRecDepth 4000
theorem clone_api_Due (es : List D) (hs : allSize 2 es = true) (hL : es.length ≤ 4294967296) : callL G zT [.d (.sl es)] [] = some (.acc 0 es, [(0, .acc es.length)]) := by
  cases es with
  | nil =>
    refine callL_nils0 z2g (by decide) ?_ ?_
    · simp -implicitDefEqProofs only [zX, z01, go_sem]
    · simp -implicitDefEqProofs only [zX, z01, Nat.zero_le, go_sem]
  | cons e es =>
    rw [callL_nils z2g (by simp) (by decide)]
    simp only [allSize_cons] at hs
    simp only [List.length_cons] at hL
    simp -implicitDefEqProofs (maxSteps := 4000000) (disch := omega) only [zX, z01, go_sem, *]
theorem clone_ok (es : List D) (hs : allSize 2 es = true) (hL : es.length ≤ LIM) : callL G zT [.d (.sl es)] [] = some (.acc 0 es, [(0, .acc es.length)]) := clone_api_Due es hs hL
def invalidB : D → Bool
  | .agg [.int _ t, .int _ i] => !validD (t, i)
  | _ => false
def dupAt (h : List Due) (i : Nat) : Bool := decide (findD h (h.getD i (0, 0)).2 ≠ i)
def ordAt (h : List Due) (i : Nat) : Bool := lt (h.getD i (0, 0)) (h.getD ((i - 1) / 2) (0, 0))
def validateD (h : List Due) : Int := if 12 < h.length then 2 else if h.any (fun d => !validD d) then 1 else if (List.range' 0 h.length).any (dupAt h) then 10 else if (List.range' 1 (h.length - 1)).any (ordAt h) then 11 else 0
def val0R (h : List Due) (k : Nat) : AExit × St :=
  if (List.range' k (h.length - k)).any (dupAt h) then (.ret, ⟨[(2, .d (.int .i64 10))], []⟩)
  else (.exit 0, ⟨[(0, .d (.sl (h.map eD)))], []⟩)
theorem val0_loop (h : List Due) (hL : h.length ≤ 12) : ∀ k, k ≤ h.length → loopL G [] z4J ⟨[(0, .d (.sl (h.map eD))), (11, .d (.sl (h.map eD))), (12, .d (.int .i64 h.length)), (13, .d (.int .i64 k))], []⟩ = some (val0R h k) := by
  refine loop_ind (fun k => h.length - k) (fun k => k ≤ h.length) _ _ fun k hk L ih => ?_
  simp only [z4J]
  by_cases hlt : k < h.length
  · have hf := find_ok h h[k].2 (by simp [LIM]; omega)
    have i1 := ih (k + 1) (by omega) (by omega)
    unfold val0R at i1 ⊢
    rw [show h.length - k = (h.length - (k + 1)) + 1 by omega, List.range'_succ, List.any_cons]
    have hd : dupAt h k = !decide (findD h h[k].2 = k) := by simp [dupAt, hlt]
    rw [hd]
    clear ih hd
    simp only [Int.natCast_add, Int.natCast_one, Int.natCast_zero, Int.natCast_mul, Int.cast_ofNat_Int, List.length_append, List.length_map, List.map_nil, List.length_nil, List.map_append, List.map_cons, List.length_cons, Nat.zero_add, srcO, mapSet] at i1
    generalize (List.range' (k + 1) (h.length - (k + 1))).any (dupAt h) = z at *
    by_cases hc : findD h h[k].2 = k
    · rw [decide_eq_true hc]
      rw [hc] at hf
      simp only [Bool.not_true, Bool.false_or]
      cases z
      · simp only [if_false, Bool.false_eq_true] at i1 ⊢
        simp -implicitDefEqProofs (maxSteps := 4000000) (disch := omega) only [getDT, go_sem, *] /-A0-/
      · simp only [if_true] at i1 ⊢
        simp -implicitDefEqProofs (maxSteps := 4000000) (disch := omega) only [getDT, go_sem, *] /-A1-/
    · rw [decide_eq_false hc]
      simp only [Bool.not_false, Bool.true_or, if_true]
      clear i1
      simp -implicitDefEqProofs (maxSteps := 4000000) (disch := omega) only [getDT, go_sem, *] /-A2-/
  · have : k = h.length := by omega
    subst this
    clear ih
    simp only [val0R, Nat.sub_self, List.range'_zero, List.any_nil, if_false, Bool.false_eq_true]
    simp -implicitDefEqProofs (maxSteps := 4000000) (disch := omega) only [getDT, go_sem, *] /-A3-/
def val1R (h : List Due) (k : Nat) : AExit × St :=
  if (List.range' k (h.length - k)).any (ordAt h) then (.ret, ⟨[(2, .d (.int .i64 11))], []⟩)
  else (.exit 2, ⟨[], []⟩)
theorem val1_loop (h : List Due) (hL : h.length ≤ 12) : ∀ k : Nat, 1 ≤ k → loopL G [] z4K ⟨[(0, .d (.sl (h.map eD))), (5, .d (.int .i64 k))], []⟩ = some (val1R h k) := by
  refine loop_ind (fun k => h.length - k) (fun k => 1 ≤ k) _ _ fun k hk L ih => ?_
  simp -implicitDefEqProofs only [z4K, List.length_map, go_sem]
  by_cases hlt : k < h.length
  · have hb := before_ok h k ((k - 1) / 2) hlt (by omega)
    have hq : IntKind.i64.wrap (((k : Int) - 1).tdiv 2) = (((k - 1) / 2 : Nat) : Int) := by
      rw [wrapN (by rw [Int.tdiv_eq_ediv_of_nonneg (by omega)]; omega) (by rw [Int.tdiv_eq_ediv_of_nonneg (by omega)]; omega), Int.tdiv_eq_ediv_of_nonneg (by omega)]; omega
    simp -implicitDefEqProofs only [show ((k : Int) < (h.length : Int)) by omega, wrapN (show -4294967296 ≤ (k : Int) - 1 by omega) (by omega), hq, hb, wrap1 hlt (show h.length ≤ LIM by simp [LIM]; omega), show ¬ ((2 : Int) = 0) by decide, go_sem]
    have i1 := ih (k + 1) (by omega) (by omega)
    simp only [Int.natCast_add, Int.natCast_one] at i1
    rw [i1]
    unfold val1R
    rw [show h.length - k = (h.length - (k + 1)) + 1 by omega, List.range'_succ, List.any_cons]
    have hd : ordAt h k = lt h[k] h[(k - 1) / 2] := by simp [ordAt, hlt, show (k - 1) / 2 < h.length by omega]
    rw [hd]
    cases lt h[k] h[(k - 1) / 2]
    · simp -implicitDefEqProofs only [go_sem]
    · simp -implicitDefEqProofs only [go_sem]
  · simp -implicitDefEqProofs only [show ¬ ((k : Int) < (h.length : Int)) by omega, go_sem]
    simp [val1R, show h.length - k = 0 by omega]
theorem validate_ok (h : List Due) (hL : h.length ≤ LIM) : callL G z0V [.d (.sl (h.map eD))] [] = some (.d (.int .i64 (validateD h)), []) := by
  have h1 := contains_ok (h.map eD) z04 [] invalidB (by simpa using hL) (fun e he => by obtain ⟨d, _, rfl⟩ := List.mem_map.1 he; rfl) (fun e he => by
    obtain ⟨d, _, rfl⟩ := List.mem_map.1 he
    exact Validate1_ok d)
  have h2 : (h.map eD).any invalidB = h.any (fun d => !validD d) := by rw [List.any_map]; rfl
  rw [h2] at h1
  rw [callL_code zdh (by simp)]; simp -implicitDefEqProofs only [z8f, zc5, go_sem]
  simp -implicitDefEqProofs only [h1, List.length_map, go_sem]
  unfold validateD
  by_cases h12 : 12 < h.length
  · simp -implicitDefEqProofs only [h12, show (12 < (h.length : Int)) by omega, go_sem]
  · have e0 := val0_loop h (by omega) 0 (by omega)
    have e1 := val1_loop h (by omega) 1 (by omega)
    simp only [Int.natCast_zero] at e0
    simp only [Int.natCast_one] at e1
    cases hA : h.any (fun d => !validD d)
    · simp -implicitDefEqProofs only [hA, h12, show ¬ (12 < (h.length : Int)) by omega, e0, val0R, Nat.sub_zero, go_sem]
      cases hB : (List.range' 0 h.length).any (dupAt h)
      · simp -implicitDefEqProofs only [hB, e1, val1R, go_sem]
        cases hC : (List.range' 1 (h.length - 1)).any (ordAt h) <;> simp -implicitDefEqProofs only [hC, go_sem]
      · simp -implicitDefEqProofs only [hB, go_sem]
    · simp -implicitDefEqProofs only [hA, h12, show ¬ (12 < (h.length : Int)) by omega, go_sem]
end Go.Proofs.YtcjncbkhbllchaaGreat
