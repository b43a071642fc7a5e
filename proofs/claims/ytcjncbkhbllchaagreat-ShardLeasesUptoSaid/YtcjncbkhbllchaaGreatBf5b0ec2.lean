/-
  A table over the table: what is proved below stays, some lists come back as rows.
  lease.find: binary search.
  lease.Grant, Find, Release, Extend.
  Leases, in plain Lean: changes keep a table valid.
  The reference's Find, Release, Extend.
  Lapsed of both, first half; slices.DeleteFunc's loop.
-/
import Derived.Test.YtcjncbkhbllchaaGreatBf4515f8
import Derived.Test.YtcjncbkhbllchaaGreatBd8aa22c
import Derived.Test.YtcjncbkhbllchaaGreatB10b2fe7
import Derived.Test.YtcjncbkhbllchaaGreatBe059124
import Derived.Test.YtcjncbkhbllchaaGreatB7f05f87
import Derived.Test.YtcjncbkhbllchaaGreatBcb32304
set_option linter.unusedSimpArgs false
set_option linter.unusedVariables false
namespace Go.Proofs.YtcjncbkhbllchaaGreat
open Go Go.Sim
set_option linter.unusedSimpArgs false
set_option linter.unusedVariables false
set_option maxHeartbeats 10000000
set_option maxRecDepth 100000
def rowsL : List Nat := [zf, zd]
def doneL : List Nat := [z0V, zA, zB, zD, zE, zn, ze, z0b, z1n, z1m, z1u, z1v, zt, zk, zw, z0P, zu, z1f, z1e, zy, z1y, zF, zJ, zG, zI, z0f, zK, zO, zS, zR, zP, zM, z1O, zN, zQ, zm, zx, z03, z0O]
namespace L
noncomputable def G : FuncId → Option AFn := layer Go.Proofs.YtcjncbkhbllchaaGreat.G rowsL doneL
theorem z6F : G z08 = some z3d := by kernel_rfl
theorem z4t : G z0R = some z30 := by kernel_rfl
theorem z9b : G z0L = some z2W := by kernel_rfl
theorem z9d : G z0M = some z2X := by kernel_rfl
theorem z27 : G z0N = some z2Y := by kernel_rfl
theorem z9M : G z1w = some z3L := by kernel_rfl
theorem z9C : G z1i = some z3y := by kernel_rfl
theorem z6D : G z0Q = some z2Z := by kernel_rfl
theorem z9A : G z1d = some z3u := by kernel_rfl
theorem z9B : G z1g = some z3v := by kernel_rfl
theorem z9D : G z0c = some z3z := by kernel_rfl
theorem z0y : G z1k = some z3D := by kernel_rfl
theorem z0x : G z1j = some z3B := by kernel_rfl
theorem z9E : G z0e = some z3C := by kernel_rfl
theorem z4z : G z1h = some z3x := by kernel_rfl
theorem z6K : G z0a = some z3w := by kernel_rfl
theorem z9F : G z1l = some z3E := by kernel_rfl
theorem z6M : G z0d = some z3A := by kernel_rfl
theorem z6E : G z0S = some z31 := by kernel_rfl
theorem zh : G z1t = some z3K := by kernel_rfl
theorem z9I : G z1q = some z3H := by kernel_rfl
theorem z9H : G z1p = some z3G := by kernel_rfl
theorem z9G : G z1o = some z3F := by kernel_rfl
theorem z9K : G z1s = some z3J := by kernel_rfl
theorem z9J : G z1r = some z3I := by kernel_rfl
theorem z2e : G z1H = some z40 := by kernel_rfl
theorem z9Y : G z1K = some z44 := by kernel_rfl
theorem z9Z : G z1L = some z45 := by kernel_rfl
theorem za0 : G z1M = some z46 := by kernel_rfl
theorem za1 : G z1N = some z47 := by kernel_rfl
theorem z9S : G z0h = some z3P := by kernel_rfl
theorem z4y : G z1c = some z3s := by kernel_rfl
theorem za5 : G z1S = some z4e := by kernel_rfl
theorem zaa : G z1W = some z4k := by kernel_rfl
theorem z9k : G z04 = some z34 := by kernel_rfl
theorem z9r : G z10 = some z3c := by kernel_rfl
theorem z9o : G z0Y = some z39 := by kernel_rfl
theorem z9p : G z07 = some z3a := by kernel_rfl
theorem z9l : G z0W = some z35 := by kernel_rfl
theorem z9m : G z05 = some z36 := by kernel_rfl
theorem z9i : G z0U = some z33 := by kernel_rfl
theorem z9h : G z0T = some z32 := by kernel_rfl
theorem z4x : G z16 = some z3m := by kernel_rfl
theorem za7 : G z1U = some z4g := by kernel_rfl
theorem z6Y : G z1Z = some z4n := by kernel_rfl
theorem za8 : G z1V = some z4h := by kernel_rfl
theorem z6Z : G z20 = some z4o := by kernel_rfl
theorem z6T : G z1P = some z48 := by kernel_rfl
theorem z2h : G z0n = some z4d := by kernel_rfl
theorem z2g : G zT = some z4c := by kernel_rfl
theorem z9z : G z1b = some z3r := by kernel_rfl
theorem z2f : G z1I = some z41 := by kernel_rfl
theorem z9Q : G z1z = some z3N := by kernel_rfl
theorem z9R : G z0g = some z3O := by kernel_rfl
theorem z6W : G z1X = some z4l := by kernel_rfl
theorem z9U : G z1C = some z3S := by kernel_rfl
theorem z9T : G z1A = some z3Q := by kernel_rfl
theorem z2b : G z1a = some z3q := by kernel_rfl
theorem z9 : G z12 = some z3g := by kernel_rfl
theorem z9u : G z15 = some z3k := by kernel_rfl
theorem z4C : G z1R = some z4b := by kernel_rfl
theorem z9v : G zl = some z3l := by kernel_rfl
theorem z9q : G z0Z = some z3b := by kernel_rfl
theorem z70 : G z21 = some z4p := by kernel_rfl
theorem z9s : G z09 = some z3e := by kernel_rfl
theorem z9V : G z0j = some z3X := by kernel_rfl
theorem z9N : G z1x = some z3M := by kernel_rfl
theorem z9W : G z1G = some z3Y := by kernel_rfl
theorem za2 : G z0m = some z49 := by kernel_rfl
theorem z9X : G z0l = some z42 := by kernel_rfl
theorem za6 : G z1T = some z4f := by kernel_rfl
theorem z0A : G z1B = some z3R := by kernel_rfl
theorem z4B : G z1E = some z3U := by kernel_rfl
theorem z4w : G z13 = some z3h := by kernel_rfl
theorem z71 : G z0p = some z4q := by kernel_rfl
theorem z9x : G z18 = some z3o := by kernel_rfl
theorem z5 : G z19 = some z3p := by kernel_rfl
theorem z73 : G z0r = some z4s := by kernel_rfl
theorem z72 : G z0q = some z4r := by kernel_rfl
theorem z9t : G zC = some z3i := by kernel_rfl
theorem z4D : G z0o = some z4i := by kernel_rfl
theorem z6X : G z1Y = some z4m := by kernel_rfl
theorem z6U : G z1Q = some z4a := by kernel_rfl
theorem z29 : G z14 = some z3j := by kernel_rfl
theorem z4u : G z06 = some z38 := by kernel_rfl
theorem z9n : G z0X = some z37 := by kernel_rfl
theorem z9w : G z17 = some z3n := by kernel_rfl
theorem za9 : G z2z = some z4j := by kernel_rfl
theorem z6O : G z0i = some z3V := by kernel_rfl
theorem z6Q : G z1J = some z43 := by kernel_rfl
theorem z4v : G z11 = some z3f := by kernel_rfl
theorem z4A : G z1D = some z3T := by kernel_rfl
theorem zp : G z1F = some z3W := by kernel_rfl
theorem z6P : G z0k = some z3Z := by kernel_rfl
theorem zgu {args : List Go.Sim.AV} {os : Heap} : callL G zA args os = callL Go.Proofs.YtcjncbkhbllchaaGreat.G zA args os := layer_up (by kernel_rfl)
theorem zgv {args : List Go.Sim.AV} {os : Heap} : callL G zB args os = callL Go.Proofs.YtcjncbkhbllchaaGreat.G zB args os := layer_up (by kernel_rfl)
theorem zgw {args : List Go.Sim.AV} {os : Heap} : callL G zD args os = callL Go.Proofs.YtcjncbkhbllchaaGreat.G zD args os := layer_up (by kernel_rfl)
theorem zgx {args : List Go.Sim.AV} {os : Heap} : callL G zE args os = callL Go.Proofs.YtcjncbkhbllchaaGreat.G zE args os := layer_up (by kernel_rfl)
theorem zd3 {args : List Go.Sim.AV} {os : Heap} : callL G zn args os = callL Go.Proofs.YtcjncbkhbllchaaGreat.G zn args os := layer_up (by kernel_rfl)
theorem zd1 {args : List Go.Sim.AV} {os : Heap} : callL G ze args os = callL Go.Proofs.YtcjncbkhbllchaaGreat.G ze args os := layer_up (by kernel_rfl)
theorem zgp {args : List Go.Sim.AV} {os : Heap} : callL G zt args os = callL Go.Proofs.YtcjncbkhbllchaaGreat.G zt args os := layer_up (by kernel_rfl)
theorem zgq {args : List Go.Sim.AV} {os : Heap} : callL G zk args os = callL Go.Proofs.YtcjncbkhbllchaaGreat.G zk args os := layer_up (by kernel_rfl)
theorem zgr {args : List Go.Sim.AV} {os : Heap} : callL G zw args os = callL Go.Proofs.YtcjncbkhbllchaaGreat.G zw args os := layer_up (by kernel_rfl)
theorem zgt {args : List Go.Sim.AV} {os : Heap} : callL G zy args os = callL Go.Proofs.YtcjncbkhbllchaaGreat.G zy args os := layer_up (by kernel_rfl)
theorem zgz {args : List Go.Sim.AV} {os : Heap} : callL G zF args os = callL Go.Proofs.YtcjncbkhbllchaaGreat.G zF args os := layer_up (by kernel_rfl)
theorem zgB {args : List Go.Sim.AV} {os : Heap} : callL G zJ args os = callL Go.Proofs.YtcjncbkhbllchaaGreat.G zJ args os := layer_up (by kernel_rfl)
theorem zd6 {args : List Go.Sim.AV} {os : Heap} : callL G zG args os = callL Go.Proofs.YtcjncbkhbllchaaGreat.G zG args os := layer_up (by kernel_rfl)
theorem zgA {args : List Go.Sim.AV} {os : Heap} : callL G zI args os = callL Go.Proofs.YtcjncbkhbllchaaGreat.G zI args os := layer_up (by kernel_rfl)
theorem zgC {args : List Go.Sim.AV} {os : Heap} : callL G zK args os = callL Go.Proofs.YtcjncbkhbllchaaGreat.G zK args os := layer_up (by kernel_rfl)
theorem zd9 {args : List Go.Sim.AV} {os : Heap} : callL G zO args os = callL Go.Proofs.YtcjncbkhbllchaaGreat.G zO args os := layer_up (by kernel_rfl)
theorem zgE {args : List Go.Sim.AV} {os : Heap} : callL G zS args os = callL Go.Proofs.YtcjncbkhbllchaaGreat.G zS args os := layer_up (by kernel_rfl)
theorem zgD {args : List Go.Sim.AV} {os : Heap} : callL G zR args os = callL Go.Proofs.YtcjncbkhbllchaaGreat.G zR args os := layer_up (by kernel_rfl)
theorem zda {args : List Go.Sim.AV} {os : Heap} : callL G zP args os = callL Go.Proofs.YtcjncbkhbllchaaGreat.G zP args os := layer_up (by kernel_rfl)
theorem zd7 {args : List Go.Sim.AV} {os : Heap} : callL G zM args os = callL Go.Proofs.YtcjncbkhbllchaaGreat.G zM args os := layer_up (by kernel_rfl)
theorem zd8 {args : List Go.Sim.AV} {os : Heap} : callL G zN args os = callL Go.Proofs.YtcjncbkhbllchaaGreat.G zN args os := layer_up (by kernel_rfl)
theorem zdb {args : List Go.Sim.AV} {os : Heap} : callL G zQ args os = callL Go.Proofs.YtcjncbkhbllchaaGreat.G zQ args os := layer_up (by kernel_rfl)
theorem zd2 {args : List Go.Sim.AV} {os : Heap} : callL G zm args os = callL Go.Proofs.YtcjncbkhbllchaaGreat.G zm args os := layer_up (by kernel_rfl)
theorem zgs {args : List Go.Sim.AV} {os : Heap} : callL G zx args os = callL Go.Proofs.YtcjncbkhbllchaaGreat.G zx args os := layer_up (by kernel_rfl)
theorem zcZ : G zf = some (.ext (rowF (callL Go.Proofs.YtcjncbkhbllchaaGreat.G) zf)) := by kernel_rfl
theorem zcY : G zd = some (.ext (rowF (callL Go.Proofs.YtcjncbkhbllchaaGreat.G) zd)) := by kernel_rfl
attribute [go_sem] zgu zgv zgw zgx zd3 zd1 zgp zgq zgr zgt zgz zgB zd6 zgA zgC zd9 zgE zgD zda zd7 zd8 zdb zd2 zgs
end L
end Go.Proofs.YtcjncbkhbllchaaGreat

namespace Go.Proofs.YtcjncbkhbllchaaGreat.L
open Go Go.Sim Go.Proofs.YtcjncbkhbllchaaGreat
set_option linter.unusedSimpArgs false
set_option linter.unusedVariables false
set_option maxHeartbeats 10000000
set_option maxRecDepth 40000
def posL (l : List Lease) (id : Int) : Nat := (l.filter fun x => decide (x.msg.id < id)).length
theorem posL_le (l : List Lease) (id : Int) : posL l id ≤ l.length := List.length_filter_le _ _
theorem pos_lt {l : List Lease} (h : l.Pairwise fun x y => x.msg.id < y.msg.id) {id : Int} : ∀ {k : Nat} (hk : k < l.length), k < posL l id ↔ l[k].msg.id < id := by
  induction l with
  | nil => intro k hk; exact absurd hk (by simp)
  | cons x l ih =>
    intro k hk
    obtain ⟨h1, h2⟩ := List.pairwise_cons.1 h
    by_cases hx : x.msg.id < id
    · have e : posL (x :: l) id = posL l id + 1 := by simp [posL, hx]
      rw [e]
      cases k with
      | zero => simp [hx]
      | succ k => have := ih h2 (k := k) (by simpa using hk); simp only [List.getElem_cons_succ]; rw [← this]; omega
    · have e : posL (x :: l) id = 0 := by
        unfold posL
        rw [List.length_eq_zero_iff, List.filter_eq_nil_iff]
        intro y hy
        simp only [decide_eq_true_eq]
        rcases List.mem_cons.1 hy with rfl | hy
        · exact hx
        · have := h1 y hy; omega
      rw [e]
      have hle : id ≤ ((x :: l)[k]).msg.id := by
        cases k with
        | zero => simp only [List.getElem_cons_zero]; omega
        | succ k => simp only [List.getElem_cons_succ]; have := h1 _ (List.getElem_mem (l := l) (n := k) (by simpa using hk)); omega
      omega
theorem fcmp_ok (x : Lease) (id : Int) : callL G zl [.d (eLease x), .d (.int .i64 id)] [] = some (.d (.int .i64 (cmpI x.msg.id id)), []) := by
  have h := compare_ok x.msg.id id
  rw [callL_code z9v (by simp)]; simp -implicitDefEqProofs (maxSteps := 4000000) (disch := omega) only [z8r, zch, getDT, go_sem, *] /-A0-/
theorem cmpI_lt (a b : Int) : (cmpI a b < 0) ↔ a < b := by unfold cmpI; split <;> (try split) <;> omega
theorem cmpI_eq (a b : Int) : (cmpI a b = 0) ↔ a = b := by unfold cmpI; split <;> (try split) <;> omega
def bsS (l : List Lease) (id : Int) (p : Nat × Nat) : St := ⟨[(0, .d (.sl (l.map eLease))), (1, .d (.int .i64 id)), (2, .d (.fn zl [])), (8, .d (.int .i64 l.length)), (9, .d (.int .i64 p.1)), (10, .d (.int .i64 p.2))], []⟩
theorem bs_loop (l : List Lease) (id : Int) (hL : l.length ≤ 1000) (h : l.Pairwise fun x y => x.msg.id < y.msg.id) : ∀ p : Nat × Nat, p.1 ≤ posL l id ∧ posL l id ≤ p.2 ∧ p.2 ≤ l.length → loopL G [] z55 (bsS l id p) = some (.exit 0, ⟨[(0, .d (.sl (l.map eLease))), (1, .d (.int .i64 id)), (2, .d (.fn zl [])), (8, .d (.int .i64 l.length)), (9, .d (.int .i64 (posL l id)))], []⟩) := by
  refine loop_ind (fun p : Nat × Nat => p.2 - p.1) (fun p : Nat × Nat => p.1 ≤ posL l id ∧ posL l id ≤ p.2 ∧ p.2 ≤ l.length) (bsS l id) _ fun ⟨i, j⟩ ⟨h1, h2, h3⟩ L ih => ?_
  simp only at h1 h2 h3
  simp only [bsS] at ih ⊢
  simp only [z55]
  by_cases hij : i < j
  · obtain ⟨m, hm⟩ : ∃ m, m = (i + j) / 2 := ⟨_, rfl⟩
    have hml : m < l.length := by omega
    have e1 : Int.fdiv ((i : Int) + j) (2 ^ (min 1 64 : Nat)) = (m : Int) := by show Int.fdiv ((i : Int) + j) 2 = m; rw [Int.fdiv_eq_ediv_of_nonneg _ (by omega)]; omega
    have hf := fcmp_ok (l[m]) id
    have hp := pos_lt h (id := id) hml
    by_cases hc : l[m].msg.id < id
    · have i1 := ih (m + 1, j) ⟨by simp only; omega, h2, h3⟩ (by simp only; omega)
      have hc2 := (cmpI_lt (l[m].msg.id) id).2 hc
      clear ih hm
      simp only [Int.natCast_add, Int.natCast_one, Int.natCast_zero, Int.natCast_mul, Int.cast_ofNat_Int, List.length_append, List.length_map, List.map_nil, List.length_nil, List.map_append, List.map_cons, List.length_cons, Nat.zero_add, srcO, mapSet] at i1
      simp -implicitDefEqProofs (maxSteps := 4000000) (disch := omega) only [getDT, go_sem, *] /-A1-/
    · have i2 := ih (i, m) ⟨h1, by simp only; omega, by simp only; omega⟩ (by simp only; omega)
      have hc2 : ¬ cmpI (l[m].msg.id) id < 0 := fun h => hc ((cmpI_lt _ _).1 h)
      clear ih hm
      simp -implicitDefEqProofs (maxSteps := 4000000) (disch := omega) only [getDT, go_sem, *] /-A2-/
  · have : i = posL l id := by omega
    subst this
    clear ih
    simp -implicitDefEqProofs (maxSteps := 4000000) (disch := omega) only [getDT, go_sem, *] /-A3-/
theorem findL_pos {l : List Lease} (h : l.Pairwise fun x y => x.msg.id < y.msg.id) (id : Int) : (0 ≤ findL l id) ↔ ∃ hp : posL l id < l.length, l[posL l id].msg.id = id := by
  constructor
  · intro h0
    obtain ⟨k, hk, e1, e2⟩ := findL_some h0
    have a1 := pos_lt h (id := id) hk
    have hle : posL l id ≤ k := by omega
    have hpl : posL l id < l.length := by omega
    have a2 := pos_lt h (id := id) hpl
    refine ⟨hpl, ?_⟩
    have : ¬ posL l id < k := fun hlt => by
      have := List.pairwise_iff_getElem.1 h (posL l id) k hpl hk hlt
      omega
    have : posL l id = k := by omega
    simp only [this, e2]
  · rintro ⟨hp, e⟩
    have := findL_at h hp
    rw [e] at this; omega
theorem findL_posL {l : List Lease} (h : l.Pairwise fun x y => x.msg.id < y.msg.id) {id : Int} (h0 : 0 ≤ findL l id) : findL l id = posL l id := by
  obtain ⟨hp, e⟩ := (findL_pos h id).1 h0
  have := findL_at h hp
  rwa [e] at this
theorem bs_ok (l : List Lease) (id : Int) (hL : l.length ≤ 1000) (h : l.Pairwise fun x y => x.msg.id < y.msg.id) : callL G z1R [.d (.sl (l.map eLease)), .d (.int .i64 id), .d (.fn zl [])] [] = some (.d (.tup [.int .i64 (posL l id), .bool (decide (0 ≤ findL l id))]), []) := by
  have hl := bs_loop l id hL h (0, l.length) ⟨by simp, posL_le l id, Nat.le_refl _⟩
  simp only [bsS] at hl
  simp only [Int.natCast_add, Int.natCast_one, Int.natCast_zero, Int.natCast_mul, Int.cast_ofNat_Int, List.length_append, List.length_map, List.map_nil, List.length_nil, List.map_append, List.map_cons, List.length_cons, Nat.zero_add, srcO, mapSet] at hl
  have hp := findL_pos h id
  by_cases hpl : posL l id < l.length
  · have hf := fcmp_ok l[posL l id] id
    by_cases he : l[posL l id].msg.id = id
    · have h0 : 0 ≤ findL l id := hp.2 ⟨hpl, he⟩
      have e0 : cmpI l[posL l id].msg.id id = 0 := (cmpI_eq _ _).2 he
      rw [e0] at hf
      simp only [h0, decide_true]
      clear he e0
      rw [callL_code z4C (by simp)]; simp -implicitDefEqProofs (maxSteps := 4000000) (disch := omega) only [z2S, z5u, getDT, go_sem, *] /-A4-/
    · have h0 : ¬ 0 ≤ findL l id := fun h0 => he (hp.1 h0).2
      have e0 : ¬ cmpI l[posL l id].msg.id id = 0 := fun e => he ((cmpI_eq _ _).1 e)
      simp only [h0, decide_false]
      rw [callL_code z4C (by simp)]; simp -implicitDefEqProofs (maxSteps := 4000000) (disch := omega) only [z2S, z5u, getDT, go_sem, *] /-A5-/
  · have h0 : ¬ 0 ≤ findL l id := fun h0 => hpl (hp.1 h0).1
    simp only [h0, decide_false]
    rw [callL_code z4C (by simp)]; simp -implicitDefEqProofs (maxSteps := 4000000) (disch := omega) only [z2S, z5u, getDT, go_sem, *] /-A6-/
theorem lfind_ok (t : Table) (id : Int) (hL : t.l.length ≤ 1000) (h : t.l.Pairwise fun x y => x.msg.id < y.msg.id) : callL G z15 [.d (eTable t), .d (.int .i64 id)] [] = some (.d (.tup [.int .i64 (posL t.l id), .bool (decide (0 ≤ findL t.l id))]), []) := by
  have hb := bs_ok t.l id hL h
  simp only [eTable]
  rw [callL_code z9u (by simp)]; simp -implicitDefEqProofs (maxSteps := 4000000) (disch := omega) only [z8q, zcg, getDT, go_sem, *] /-A7-/
end Go.Proofs.YtcjncbkhbllchaaGreat.L

namespace Go.Proofs.YtcjncbkhbllchaaGreat.L
open Go Go.Sim Go.Proofs.YtcjncbkhbllchaaGreat
set_option linter.unusedSimpArgs false
set_option linter.unusedVariables false
set_option maxHeartbeats 10000000
set_option maxRecDepth 40000
theorem crow (l : List Lease) (h : l ≠ []) (hL : l.length ≤ 1000) : callL G zf [.d (.sl (l.map eLease))] [] = some (.osl 0 0 l.length, [(0, .row ((l.map eLease).map .d))]) := by
  have := layer_row zcZ (by simpa using h) (clone_api_Lease (l.map eLease) (allSize_Lease l) (by simp; omega))
  rw [List.length_map] at this
  exact this
theorem crow0 : callL G zf [.d (.sl [])] [] = some (.xsl [], []) := layer_row0 zcZ (clone_api_Lease [] rfl (by simp))
theorem tabV_zero {t : Table} (h : tabV t = 0) : t.l.length ≤ 12 ∧ leasesE t.l = 0 ∧ validateD t.heap = 0 ∧ matchP t = true := by
  unfold tabV at h
  split at h
  · cases h
  split at h
  · omega
  split at h
  · omega
  split at h
  · rename_i h1 h2 h3 h4; exact ⟨by omega, by simpa using h2, by simpa using h3, h4⟩
  · cases h
def insL (l : List Lease) (m : Message) (d : Int) : List Lease := l.take (posL l m.id) ++ [⟨m, d⟩] ++ l.drop (posL l m.id)
def grantE (t : Table) (m : Message) (d : Int) : Int :=
  if tabV t ≠ 0 then tabV t else if msgV m ≠ 0 then msgV m else if m.gen = 0 then 7 else if ¬ (0 ≤ d ∧ d ≤ 1073741824) then 1 else if t.l.length = 12 then 3 else if 0 ≤ findL t.l m.id then 10 else (pushD t.heap (d, m.id)).2
def grantD (t : Table) (m : Message) (d : Int) : Table × Int := if grantE t m d = 0 then (⟨insL t.l m d, (pushD t.heap (d, m.id)).1⟩, 0) else (zTable, grantE t m d)
theorem insL_map (l : List Lease) (m : Message) (d : Int) : (insL l m d).map eLease = (l.map eLease).take (posL l m.id) ++ [eLease ⟨m, d⟩] ++ (l.map eLease).drop (posL l m.id) := by
  simp only [insL, List.map_append, List.map_take, List.map_drop, List.map_cons, List.map_nil]
theorem grant_ok (t : Table) (m : Message) (d : Int) (hL : t.l.length ≤ 4294967296) (hH : t.heap.length ≤ 4294967296) : callL G z12 [.d (eTable t), .d (eMessage m), .d (.int .i64 d)] [] = some (.d (.tup [eTable (grantD t m d).1, .int .i64 (grantD t m d).2]), []) := by
  have hv := lval_ok t hL hH
  have hm := mval_ok m
  have ht := ltime_ok d
  simp only [eTable, eMessage] at hv hm ⊢
  unfold grantD grantE
  by_cases h1 : tabV t = 0
  · obtain ⟨h12, hE, hD, hM⟩ := tabV_zero h1
    have ha := leases_asc hE
    have hf := lfind_ok t m.id (by omega) ha
    have hp := push_ok t.heap (d, m.id) hH
    have hpl := posL_le t.l m.id
    simp only [eTable, eD, eDE] at hf hp
    simp only [h1, ne_eq, not_true_eq_false, if_false]
    by_cases h2 : msgV m = 0
    · simp only [h2, not_true_eq_false, if_false]
      by_cases h3 : m.gen = 0
      · simp only [h3, if_true] at hm ⊢
        rw [callL_code z9 (by simp)]; simp -implicitDefEqProofs (maxSteps := 4000000) (disch := omega) only [z7, za, getDT, go_sem, *]; (try simp only [pA, pB, pC, pD, pE, pF, pG, pH, pI, pJ, pK, pL, pM, pN, pO, pP, if_true, if_false]); repeat' (first | done | rfl | ((first | refine iteC (fun hq => ?_) (fun hq => ?_) | refine iteP (fun hq => ?_) (fun hq => ?_)) <;> (try (first | (exfalso; omega) | contradiction)) <;> (try simp -implicitDefEqProofs (maxSteps := 4000000) (disch := omega) only [getDT, go_sem, *]) <;> (try simp only [pA, pB, pC, pD, pE, pF, pG, pH, pI, pJ, pK, pL, pM, pN, pO, pP, if_true, if_false]))); (all_goals try rfl); (all_goals try (repeat' (first | done | rfl | (exfalso; omega) | contradiction | (refine iteR (fun hq => ?_) (fun hq => ?_))))) /-A0-/
      · simp only [h3, if_false]
        by_cases h4 : 0 ≤ d ∧ d ≤ 1073741824
        · simp only [h4, and_self, not_true_eq_false, if_false, decide_true] at ht ⊢
          by_cases h5 : t.l.length = 12
          · simp only [h5, if_true]
            rw [callL_code z9 (by simp)]; simp -implicitDefEqProofs (maxSteps := 4000000) (disch := omega) only [z7, za, getDT, go_sem, *]; (try simp only [pA, pB, pC, pD, pE, pF, pG, pH, pI, pJ, pK, pL, pM, pN, pO, pP, if_true, if_false]); repeat' (first | done | rfl | ((first | refine iteC (fun hq => ?_) (fun hq => ?_) | refine iteP (fun hq => ?_) (fun hq => ?_)) <;> (try (first | (exfalso; omega) | contradiction)) <;> (try simp -implicitDefEqProofs (maxSteps := 4000000) (disch := omega) only [getDT, go_sem, *]) <;> (try simp only [pA, pB, pC, pD, pE, pF, pG, pH, pI, pJ, pK, pL, pM, pN, pO, pP, if_true, if_false]))); (all_goals try rfl); (all_goals try (repeat' (first | done | rfl | (exfalso; omega) | contradiction | (refine iteR (fun hq => ?_) (fun hq => ?_))))) /-A1-/
          · simp only [h5, if_false]
            by_cases h6 : 0 ≤ findL t.l m.id
            · simp only [h6, if_true, decide_true] at hf ⊢
              rw [callL_code z9 (by simp)]; simp -implicitDefEqProofs (maxSteps := 4000000) (disch := omega) only [z7, za, getDT, go_sem, *]; (try simp only [pA, pB, pC, pD, pE, pF, pG, pH, pI, pJ, pK, pL, pM, pN, pO, pP, if_true, if_false]); repeat' (first | done | rfl | ((first | refine iteC (fun hq => ?_) (fun hq => ?_) | refine iteP (fun hq => ?_) (fun hq => ?_)) <;> (try (first | (exfalso; omega) | contradiction)) <;> (try simp -implicitDefEqProofs (maxSteps := 4000000) (disch := omega) only [getDT, go_sem, *]) <;> (try simp only [pA, pB, pC, pD, pE, pF, pG, pH, pI, pJ, pK, pL, pM, pN, pO, pP, if_true, if_false]))); (all_goals try rfl); (all_goals try (repeat' (first | done | rfl | (exfalso; omega) | contradiction | (refine iteR (fun hq => ?_) (fun hq => ?_))))) /-A2-/
            · simp only [h6, if_false, decide_false] at hf ⊢
              by_cases h7 : (pushD t.heap (d, m.id)).2 = 0
              · simp only [h7, if_true]
                have hi := insL_map t.l m d
                rw [h7] at hp
                simp only [hi, eLease]
                by_cases h8 : t.l = []
                · have hc := crow0
                  have hpz : posL t.l m.id = 0 := by rw [h8]; rfl
                  have hin : callL G z21 [.xsl [], .d (.int .i64 0), .d (.sl [.agg [.int .i64 m.id, .int .i64 m.route, .int .i64 m.epoch, .int .i64 m.count, .int .i64 m.gen, .int .i64 m.sent, .str m.body, .int .i64 d]])] [] = some (.d (.sl [.agg [.int .i64 m.id, .int .i64 m.route, .int .i64 m.epoch, .int .i64 m.count, .int .i64 m.gen, .int .i64 m.sent, .str m.body, .int .i64 d]]), []) := ins_call0 z70 _ rfl
                  simp only [hpz, h8, List.map_nil, List.take_nil, List.drop_nil] at *
                  rw [callL_code z9 (by simp)]; simp -implicitDefEqProofs (maxSteps := 4000000) (disch := omega) only [z7, za, getDT, go_sem, *] /-A3-/
                · have hc := crow t.l h8 (by omega)
                  have hne : t.l.map eLease ≠ [] := by simpa using h8
                  have hin := ins_call z70 (t.l.map eLease) (eLease ⟨m, d⟩) (posL t.l m.id) hne (by simpa using hpl) (fun e he => by rcases List.mem_cons.1 he with rfl | he; rfl; obtain ⟨x, _, rfl⟩ := List.mem_map.1 he; rfl) (by simp; omega)
                  rw [List.length_map] at hin
                  simp only [eLease] at hin
                  rw [callL_code z9 (by simp)]; simp -implicitDefEqProofs (maxSteps := 4000000) (disch := omega) only [z7, za, getDT, go_sem, *] /-A4-/
              · simp only [h7, if_false]
                rw [callL_code z9 (by simp)]; simp -implicitDefEqProofs (maxSteps := 4000000) (disch := omega) only [z7, za, getDT, go_sem, *]; (try simp only [pA, pB, pC, pD, pE, pF, pG, pH, pI, pJ, pK, pL, pM, pN, pO, pP, if_true, if_false]); repeat' (first | done | rfl | ((first | refine iteC (fun hq => ?_) (fun hq => ?_) | refine iteP (fun hq => ?_) (fun hq => ?_)) <;> (try (first | (exfalso; omega) | contradiction)) <;> (try simp -implicitDefEqProofs (maxSteps := 4000000) (disch := omega) only [getDT, go_sem, *]) <;> (try simp only [pA, pB, pC, pD, pE, pF, pG, pH, pI, pJ, pK, pL, pM, pN, pO, pP, if_true, if_false]))); (all_goals try rfl); (all_goals try (repeat' (first | done | rfl | (exfalso; omega) | contradiction | (refine iteR (fun hq => ?_) (fun hq => ?_))))) /-A5-/
        · simp only [h4, not_false_eq_true, if_true, decide_false] at ht ⊢
          rw [callL_code z9 (by simp)]; simp -implicitDefEqProofs (maxSteps := 4000000) (disch := omega) only [z7, za, getDT, go_sem, *]; (try simp only [pA, pB, pC, pD, pE, pF, pG, pH, pI, pJ, pK, pL, pM, pN, pO, pP, if_true, if_false]); repeat' (first | done | rfl | ((first | refine iteC (fun hq => ?_) (fun hq => ?_) | refine iteP (fun hq => ?_) (fun hq => ?_)) <;> (try (first | (exfalso; omega) | contradiction)) <;> (try simp -implicitDefEqProofs (maxSteps := 4000000) (disch := omega) only [getDT, go_sem, *]) <;> (try simp only [pA, pB, pC, pD, pE, pF, pG, pH, pI, pJ, pK, pL, pM, pN, pO, pP, if_true, if_false]))); (all_goals try rfl); (all_goals try (repeat' (first | done | rfl | (exfalso; omega) | contradiction | (refine iteR (fun hq => ?_) (fun hq => ?_))))) /-A6-/
    · simp only [h2, not_false_eq_true, if_true, if_false]
      rw [callL_code z9 (by simp)]; simp -implicitDefEqProofs (maxSteps := 4000000) (disch := omega) only [z7, za, getDT, go_sem, *]; (try simp only [pA, pB, pC, pD, pE, pF, pG, pH, pI, pJ, pK, pL, pM, pN, pO, pP, if_true, if_false]); repeat' (first | done | rfl | ((first | refine iteC (fun hq => ?_) (fun hq => ?_) | refine iteP (fun hq => ?_) (fun hq => ?_)) <;> (try (first | (exfalso; omega) | contradiction)) <;> (try simp -implicitDefEqProofs (maxSteps := 4000000) (disch := omega) only [getDT, go_sem, *]) <;> (try simp only [pA, pB, pC, pD, pE, pF, pG, pH, pI, pJ, pK, pL, pM, pN, pO, pP, if_true, if_false]))); (all_goals try rfl); (all_goals try (repeat' (first | done | rfl | (exfalso; omega) | contradiction | (refine iteR (fun hq => ?_) (fun hq => ?_))))) /-A7-/
  · simp only [h1, ne_eq, not_false_eq_true, if_true, if_false]
    rw [callL_code z9 (by simp)]; simp -implicitDefEqProofs (maxSteps := 4000000) (disch := omega) only [z7, za, getDT, go_sem, *]; (try simp only [pA, pB, pC, pD, pE, pF, pG, pH, pI, pJ, pK, pL, pM, pN, pO, pP, if_true, if_false]); repeat' (first | done | rfl | ((first | refine iteC (fun hq => ?_) (fun hq => ?_) | refine iteP (fun hq => ?_) (fun hq => ?_)) <;> (try (first | (exfalso; omega) | contradiction)) <;> (try simp -implicitDefEqProofs (maxSteps := 4000000) (disch := omega) only [getDT, go_sem, *]) <;> (try simp only [pA, pB, pC, pD, pE, pF, pG, pH, pI, pJ, pK, pL, pM, pN, pO, pP, if_true, if_false]))); (all_goals try rfl); (all_goals try (repeat' (first | done | rfl | (exfalso; omega) | contradiction | (refine iteR (fun hq => ?_) (fun hq => ?_))))) /-A8-/
def findT (t : Table) (id : Int) : Lease × Bool := if tabV t = 0 ∧ 0 ≤ findL t.l id then (t.l.getD (findL t.l id).toNat zLease, true) else (zLease, false)
theorem find_ok (t : Table) (id : Int) (hL : t.l.length ≤ 4294967296) (hH : t.heap.length ≤ 4294967296) : callL G z11 [.d (eTable t), .d (.int .i64 id)] [] = some (.d (.tup [eLease (findT t id).1, .bool (findT t id).2]), []) := by
  have hv := lval_ok t hL hH
  unfold findT
  by_cases h1 : tabV t = 0
  · obtain ⟨h12, hE, hD, hM⟩ := tabV_zero h1
    have ha := leases_asc hE
    have hf := lfind_ok t id (by omega) ha
    by_cases h6 : 0 ≤ findL t.l id
    · obtain ⟨hp, e⟩ := (findL_pos ha id).1 h6
      have e2 := findL_posL ha h6
      simp only [h1, h6, and_self, if_true, decide_true] at hf ⊢
      rw [e2, Int.toNat_natCast, getDT hp]
      simp only [eTable, eLease] at hv hf ⊢
      rw [h1] at hv
      clear e e2 h6
      rw [callL_code z4v (by simp)]; simp -implicitDefEqProofs (maxSteps := 4000000) (disch := omega) only [z2C, z5e, eLease, getDT, go_sem, *] /-A9-/
    · simp only [h1, h6, and_false, if_false, decide_false] at hf ⊢
      simp only [eTable, eLease, zLease, zMessage] at hv hf ⊢
      rw [h1] at hv
      rw [callL_code z4v (by simp)]; simp -implicitDefEqProofs (maxSteps := 4000000) (disch := omega) only [z2C, z5e, getDT, go_sem, *] /-A10-/
  · simp only [h1, false_and, if_false]
    simp only [eTable, eLease, zLease, zMessage] at hv ⊢
    rw [callL_code z4v (by simp)]; simp -implicitDefEqProofs (maxSteps := 4000000) (disch := omega) only [z2C, z5e, getDT, go_sem, *] /-A11-/
def dropI (l : List Lease) (i : Nat) : List Lease := l.take i ++ l.drop (i + 1)
theorem without_ok (l : List Lease) (i : Nat) (hi : i < l.length) (hL : l.length ≤ 1000) : callL G z17 [.d (.sl (l.map eLease)), .d (.int .i64 i)] [] = some (.d (.sl ((dropI l i).map eLease)), []) := by
  have hne : l ≠ [] := by rintro rfl; simp at hi
  have hc := crow l hne hL
  have hd := del_call za9 (l.map eLease) i (i + 1) (by omega) (by simp; omega) (fun e he => by obtain ⟨x, _, rfl⟩ := List.mem_map.1 he; rfl) (by simp; omega)
  rw [List.length_map] at hd
  simp only [Int.natCast_add, Int.natCast_one] at hd
  simp only [dropI, List.map_append, List.map_take, List.map_drop]
  rw [callL_code z9w (by simp)]; simp -implicitDefEqProofs (maxSteps := 4000000) (disch := omega) only [z8s, zci, getDT, go_sem, *] /-A12-/
def relE (t : Table) (id : Int) : Int := if tabV t ≠ 0 then tabV t else if ¬ 0 ≤ findL t.l id then 4 else (removeD t.heap id).2
def relD (t : Table) (id : Int) : Table × Message × Int := if relE t id = 0 then (⟨dropI t.l (findL t.l id).toNat, (removeD t.heap id).1⟩, (t.l.getD (findL t.l id).toNat zLease).msg, 0) else (zTable, zMessage, relE t id)
theorem rel_ok (t : Table) (id : Int) (hL : t.l.length ≤ 4294967296) (hH : t.heap.length ≤ 4294967296) : callL G z14 [.d (eTable t), .d (.int .i64 id)] [] = some (.d (.tup [eTable (relD t id).1, eMessage (relD t id).2.1, .int .i64 (relD t id).2.2]), []) := by
  have hv := lval_ok t hL hH
  have hr := remove_ok t.heap id hH
  unfold relD relE
  simp only [eDE] at hr
  by_cases h1 : tabV t = 0
  · obtain ⟨h12, hE, hD, hM⟩ := tabV_zero h1
    have ha := leases_asc hE
    have hf := lfind_ok t id (by omega) ha
    simp only [h1, ne_eq, not_true_eq_false, if_false]
    by_cases h6 : 0 ≤ findL t.l id
    · obtain ⟨hp, e⟩ := (findL_pos ha id).1 h6
      have e2 := findL_posL ha h6
      have hw := without_ok t.l (posL t.l id) hp (by omega)
      simp only [h6, not_true_eq_false, if_false, decide_true] at hf ⊢
      by_cases h7 : (removeD t.heap id).2 = 0
      · simp only [h7, if_true]
        rw [e2, Int.toNat_natCast, getDT hp]
        simp only [eTable, eMessage] at hv hf ⊢
        rw [h1] at hv
        rw [h7] at hr
        clear e e2 h6
        rw [callL_code z29 (by simp)]; simp -implicitDefEqProofs (maxSteps := 4000000) (disch := omega) only [z23, z2v, eLease, getDT, go_sem, *] /-A13-/
      · simp only [h7, if_false]
        simp only [eTable, eMessage, zTable, zMessage] at hv hf ⊢
        rw [h1] at hv
        rw [callL_code z29 (by simp)]; simp -implicitDefEqProofs (maxSteps := 4000000) (disch := omega) only [z23, z2v, getDT, go_sem, *] /-A14-/
    · simp only [h6, not_false_eq_true, if_true, decide_false] at hf ⊢
      simp only [eTable, eMessage, zTable, zMessage] at hv hf ⊢
      rw [h1] at hv
      rw [callL_code z29 (by simp)]; simp -implicitDefEqProofs (maxSteps := 4000000) (disch := omega) only [z23, z2v, getDT, go_sem, *] /-A15-/
  · simp only [h1, ne_eq, not_false_eq_true, if_true, if_false]
    simp only [eTable, eMessage, zTable, zMessage] at hv ⊢
    rw [callL_code z29 (by simp)]; simp -implicitDefEqProofs (maxSteps := 4000000) (disch := omega) only [z23, z2v, getDT, go_sem, *] /-A16-/
def setD (l : List Lease) (i : Nat) (d : Int) : List Lease := l.set i { l.getD i zLease with deadline := d }
end Go.Proofs.YtcjncbkhbllchaaGreat.L

namespace Go.Proofs.YtcjncbkhbllchaaGreat.L
open Go Go.Sim Go.Proofs.YtcjncbkhbllchaaGreat
set_option linter.unusedSimpArgs false
set_option linter.unusedVariables false
set_option maxHeartbeats 10000000
set_option maxRecDepth 40000
theorem leasesE_iff (l : List Lease) : leasesE l = 0 ↔ (l.Pairwise fun x y => x.msg.id < y.msg.id) ∧ ∀ x ∈ l, msgV x.msg = 0 ∧ x.msg.gen ≠ 0 ∧ 0 ≤ x.deadline ∧ x.deadline ≤ 1073741824 := by
  have h0 : leasesE l = 0 ↔ ∀ i, i < l.length → leaseE l i = 0 := by
    rcases leasesE_cases l with ⟨k, h1, h2, h3⟩ | ⟨h1, h2⟩
    · constructor
      · intro h; omega
      · intro h
        have := List.mem_of_find?_eq_some h1
        exact absurd (h k (List.mem_range.1 this)) h2
    · refine ⟨fun _ i hi => ?_, fun _ => h2⟩
      have := List.find?_eq_none.1 h1 i (List.mem_range.2 hi)
      unfold leaseB at this
      simpa using this
  constructor
  · intro h
    refine ⟨leases_asc h, fun x hx => ?_⟩
    obtain ⟨i, hi, rfl⟩ := List.getElem_of_mem hx
    have := h0.1 h i hi
    unfold leaseE at this
    rw [getDT hi] at this
    split at this
    · omega
    split at this
    · omega
    split at this
    · omega
    rename_i q1 q2 q3
    exact ⟨by simpa using q1, q2, by omega, by omega⟩
  · rintro ⟨ha, hx⟩
    refine h0.2 fun i hi => ?_
    obtain ⟨p1, p2, p3, p4⟩ := hx _ (List.getElem_mem hi)
    unfold leaseE
    rw [getDT hi, if_neg (by simpa using p1), if_neg p2, if_neg (by omega), if_neg]
    rintro ⟨q1, q2⟩
    rw [getDT (show i - 1 < l.length by omega)] at q2
    have := List.pairwise_iff_getElem.1 ha (i - 1) i (by omega) hi (by omega)
    omega
theorem tabV_iff (t : Table) : tabV t = 0 ↔ t.l.length ≤ 12 ∧ leasesE t.l = 0 ∧ Ok t.heap ∧ t.heap.Perm (t.l.map dueOf) := by
  constructor
  · intro h
    obtain ⟨h1, h2, h3, h4⟩ := tabV_zero h
    have o := (validate_iff _).1 h3
    have ha := leases_asc h2
    have hR : matchR t = true := by rw [← match_same h2 h3]; exact h4
    obtain ⟨e, q⟩ := (matchR_mem ha).1 hR
    obtain ⟨_, q2⟩ := matchP_mem.1 h4
    refine ⟨h1, h2, o, (List.perm_ext_iff_of_nodup ?_ (asc_nodup ha)).2 fun d => ⟨q d, q2 d⟩⟩
    exact List.Pairwise.of_map (fun d : Due => d.2) (fun a b hab e => hab (by rw [e])) o.ids
  · rintro ⟨h1, h2, o, hp⟩
    have h3 := (validate_iff _).2 o
    have h4 : matchP t = true := matchP_mem.2 ⟨by rw [hp.length_eq]; simp, fun d hd => hp.mem_iff.2 hd⟩
    unfold tabV
    rw [if_neg (by omega), if_neg (by simpa using h2), if_neg (by simpa using h3), if_pos h4]
theorem ids_of {t : Table} (h : t.heap.Perm (t.l.map dueOf)) (id : Int) : id ∈ t.heap.map (·.2) ↔ ∃ x ∈ t.l, x.msg.id = id := by
  constructor
  · intro hm
    obtain ⟨d, hd, e⟩ := List.mem_map.1 hm
    obtain ⟨x, hx, e2⟩ := List.mem_map.1 (h.mem_iff.1 hd)
    exact ⟨x, hx, by rw [← e, ← e2]; rfl⟩
  · rintro ⟨x, hx, e⟩
    exact List.mem_map.2 ⟨dueOf x, h.mem_iff.2 (List.mem_map.2 ⟨x, hx, rfl⟩), e⟩
theorem findL_iff {l : List Lease} (id : Int) : 0 ≤ findL l id ↔ ∃ x ∈ l, x.msg.id = id := by
  constructor
  · intro h
    obtain ⟨k, hk, _, e⟩ := findL_some h
    exact ⟨l[k], List.getElem_mem hk, e⟩
  · rintro ⟨x, hx, e⟩
    by_cases h : 0 ≤ findL l id
    · exact h
    · exact absurd e (findL_none (by omega) x hx)
theorem valid_due {m : Message} {d : Int} (hm : msgV m = 0) (h0 : 0 ≤ d) (h1 : d ≤ 1073741824) : validD (d, m.id) = true := by
  unfold msgV at hm
  split at hm
  · rename_i h
    unfold validD
    simp
    omega
  · cases hm
theorem push_succ {t : Table} {m : Message} {d : Int} (h : tabV t = 0) (hm : msgV m = 0) (h0 : 0 ≤ d) (h1 : d ≤ 1073741824) (hl : t.l.length ≠ 12) (hf : findL t.l m.id < 0) :
    pushD t.heap (d, m.id) = (pushL t.heap (d, m.id), 0) ∧ Ok (pushL t.heap (d, m.id)) ∧ (pushL t.heap (d, m.id)).Perm ((d, m.id) :: t.heap) := by
  obtain ⟨q1, q2, q3, q4⟩ := (tabV_iff t).1 h
  refine push_ok' q3 (valid_due hm h0 h1) (by have := q4.length_eq; simp at this; omega) fun hc => ?_
  have := (findL_iff m.id).2 ((ids_of q4 m.id).1 hc)
  omega
theorem insL_perm (l : List Lease) (m : Message) (d : Int) : (insL l m d).Perm (⟨m, d⟩ :: l) := by
  unfold insL
  have := List.perm_middle (a := (⟨m, d⟩ : Lease)) (l₁ := l.take (posL l m.id)) (l₂ := l.drop (posL l m.id))
  rw [List.take_append_drop] at this
  rw [List.append_assoc]
  exact this
theorem insL_asc {l : List Lease} (h : l.Pairwise fun x y => x.msg.id < y.msg.id) {m : Message} {d : Int} (hn : ∀ x ∈ l, x.msg.id ≠ m.id) : (insL l m d).Pairwise fun x y => x.msg.id < y.msg.id := by
  unfold insL
  have hlt : ∀ x ∈ l.take (posL l m.id), x.msg.id < m.id := fun x hx => by
    obtain ⟨k, hk, rfl⟩ := List.getElem_of_mem hx
    simp only [List.length_take] at hk
    rw [List.getElem_take]
    exact (pos_lt h (by omega)).1 (by omega)
  have hgt : ∀ x ∈ l.drop (posL l m.id), m.id < x.msg.id := fun x hx => by
    obtain ⟨k, hk, rfl⟩ := List.getElem_of_mem hx
    simp only [List.length_drop] at hk
    rw [List.getElem_drop]
    have h1 := pos_lt h (id := m.id) (k := posL l m.id + k) (by omega)
    have h2 := hn _ (List.getElem_mem (l := l) (n := posL l m.id + k) (by omega))
    omega
  rw [List.append_assoc, List.pairwise_append]
  refine ⟨h.sublist (List.take_sublist ..), ?_, fun a ha b hb => ?_⟩
  · rw [List.singleton_append, List.pairwise_cons]
    exact ⟨fun x hx => hgt x hx, h.sublist (List.drop_sublist ..)⟩
  · rw [List.singleton_append, List.mem_cons] at hb
    have h1 := hlt a ha
    rcases hb with rfl | hb
    · exact h1
    · have := hgt b hb; omega
theorem grant_valid {t : Table} {m : Message} {d : Int} (h : (grantD t m d).2 = 0) : tabV (grantD t m d).1 = 0 ∧ tabV t = 0 ∧ (grantD t m d).1.l = insL t.l m d ∧ findL t.l m.id < 0 := by
  have hE : grantE t m d = 0 := by
    unfold grantD at h
    split at h
    · assumption
    · rename_i hc; exact absurd h hc
  unfold grantD
  rw [if_pos hE]
  unfold grantE at hE
  split at hE
  · omega
  split at hE
  · omega
  split at hE
  · cases hE
  split at hE
  · cases hE
  split at hE
  · cases hE
  split at hE
  · cases hE
  rename_i h1 h2 h3 h4 h5 h6
  have h1 : tabV t = 0 := by simpa using h1
  have h2 : msgV m = 0 := by simpa using h2
  obtain ⟨p1, p2, p3⟩ := push_succ h1 h2 (by omega) (by omega : d ≤ 1073741824) h5 (by omega)
  obtain ⟨q1, q2, q3, q4⟩ := (tabV_iff t).1 h1
  obtain ⟨r1, r2⟩ := (leasesE_iff _).1 q2
  have hn : ∀ x ∈ t.l, x.msg.id ≠ m.id := findL_none (by omega)
  refine ⟨(tabV_iff _).2 ⟨?_, (leasesE_iff _).2 ⟨insL_asc r1 hn, fun x hx => ?_⟩, ?_, ?_⟩, h1, rfl, by omega⟩
  · have := (insL_perm t.l m d).length_eq
    simp only [List.length_cons] at this
    show (insL t.l m d).length ≤ 12
    omega
  · rcases List.mem_cons.1 ((insL_perm t.l m d).mem_iff.1 hx) with rfl | hx
    · exact ⟨h2, h3, by simp only; omega, by simp only; omega⟩
    · exact r2 x hx
  · rw [p1]; exact p2
  · rw [p1]
    show (pushL t.heap (d, m.id)).Perm ((insL t.l m d).map dueOf)
    exact p3.trans (((List.Perm.cons _ q4)).trans ((insL_perm t.l m d).map dueOf).symm)
theorem grant_iff {t : Table} {m : Message} {d : Int} (h : tabV t = 0) (hm : msgV m = 0) (hg : m.gen ≠ 0) (h0 : 0 ≤ d) (h1 : d ≤ 1073741824) (hl : t.l.length ≠ 12) (hf : findL t.l m.id < 0) : (grantD t m d).2 = 0 := by
  have hp := (push_succ h hm h0 h1 hl hf).1
  have : grantE t m d = 0 := by
    unfold grantE
    rw [if_neg (by simpa using h), if_neg (by simpa using hm), if_neg hg, if_neg (by omega), if_neg hl, if_neg (by omega), hp]
  unfold grantD
  rw [if_pos this]
theorem dropI_eq (l : List Lease) (i : Nat) : dropI l i = l.eraseIdx i := by rw [dropI, List.eraseIdx_eq_take_drop_succ]
theorem dropI_perm {l : List Lease} {i : Nat} (hi : i < l.length) : (l[i] :: dropI l i).Perm l := by
  have h1 := List.perm_middle (a := l[i]) (l₁ := l.take i) (l₂ := l.drop (i + 1))
  rw [← List.drop_eq_getElem_cons hi, List.take_append_drop] at h1
  exact h1.symm
theorem dueOf_at {t : Table} (h : tabV t = 0) {k : Nat} (hk : k < t.l.length) {d : Due} (hd : d ∈ t.heap) (e : d.2 = t.l[k].msg.id) : d = dueOf t.l[k] := by
  obtain ⟨q1, q2, q3, q4⟩ := (tabV_iff t).1 h
  obtain ⟨x, hx, e2⟩ := List.mem_map.1 (q4.mem_iff.1 hd)
  obtain ⟨j, hj, rfl⟩ := List.getElem_of_mem hx
  have : j = k := asc_inj (leases_asc q2) hj hk (by rw [← e, ← e2]; rfl)
  subst this
  exact e2.symm
theorem rem_succ {t : Table} {id : Int} (h : tabV t = 0) (hf : 0 ≤ findL t.l id) : ∃ k, ∃ hk : k < t.l.length, findL t.l id = k ∧ t.l[k].msg.id = id ∧ (removeD t.heap id).2 = 0 ∧ Ok (removeD t.heap id).1 ∧ (dueOf t.l[k] :: (removeD t.heap id).1).Perm t.heap := by
  obtain ⟨q1, q2, q3, q4⟩ := (tabV_iff t).1 h
  obtain ⟨k, hk, e1, e2⟩ := findL_some hf
  refine ⟨k, hk, e1, e2, ?_⟩
  have hin : id ∈ t.heap.map (·.2) := (ids_of q4 id).2 ⟨_, List.getElem_mem hk, e2⟩
  have h0 : ¬ findD t.heap id < 0 := fun hc => (findD_neg _ _).1 hc hin
  have hlt := findD_lt t.heap id
  obtain ⟨d1, d2⟩ := drop_ok' q3 (findD t.heap id).toNat (by omega)
  have hat := findD_at t.heap id (by omega)
  have hr : removeD t.heap id = (dropL t.heap (findD t.heap id).toNat, 0) := by
    unfold removeD
    rw [if_neg (by simpa using (validate_iff _).2 q3), if_neg h0]
  rw [hr]
  refine ⟨rfl, d1, ?_⟩
  have : t.heap.getD (findD t.heap id).toNat dz = dueOf t.l[k] := by
    refine dueOf_at h hk ?_ (by rw [hat, e2])
    rw [getDT (show (findD t.heap id).toNat < t.heap.length by omega)]
    exact List.getElem_mem _
  rw [← this]
  exact d2
theorem rel_iff {t : Table} {id : Int} (h : tabV t = 0) : (relD t id).2.2 = 0 ↔ 0 ≤ findL t.l id := by
  constructor
  · intro h0
    by_cases hf : 0 ≤ findL t.l id
    · exact hf
    · have e : relE t id = 4 := by unfold relE; rw [if_neg (by simpa using h), if_pos hf]
      unfold relD at h0
      rw [e, if_neg (by decide)] at h0
      cases h0
  · intro hf
    obtain ⟨k, hk, e1, e2, e3, _⟩ := rem_succ h hf
    have e : relE t id = 0 := by unfold relE; rw [if_neg (by simpa using h), if_neg (by omega), e3]
    unfold relD
    rw [if_pos e]
theorem rel_valid {t : Table} {id : Int} (h : (relD t id).2.2 = 0) : tabV (relD t id).1 = 0 ∧ tabV t = 0 ∧ ∃ k, ∃ hk : k < t.l.length, findL t.l id = k ∧ t.l[k].msg.id = id ∧ (relD t id).1.l = dropI t.l k ∧ (relD t id).2.1 = t.l[k].msg := by
  have hE : relE t id = 0 := by
    unfold relD at h
    split at h
    · assumption
    · rename_i hc; exact absurd h hc
  have h1 : tabV t = 0 := by
    unfold relE at hE
    split at hE
    · omega
    · rename_i hc; simpa using hc
  have hf : 0 ≤ findL t.l id := (rel_iff h1).1 h
  obtain ⟨k, hk, e1, e2, e3, e4, e5⟩ := rem_succ h1 hf
  obtain ⟨q1, q2, q3, q4⟩ := (tabV_iff t).1 h1
  obtain ⟨r1, r2⟩ := (leasesE_iff _).1 q2
  have hd : relD t id = (⟨dropI t.l k, (removeD t.heap id).1⟩, t.l[k].msg, 0) := by
    unfold relD
    rw [if_pos hE, e1, Int.toNat_natCast, getDT hk]
  rw [hd]
  refine ⟨(tabV_iff _).2 ⟨?_, (leasesE_iff _).2 ⟨?_, fun x hx => ?_⟩, e4, ?_⟩, h1, k, hk, e1, e2, rfl, rfl⟩
  · have := (dropI_perm hk).length_eq
    simp only [List.length_cons] at this
    show (dropI t.l k).length ≤ 12
    omega
  · show (dropI t.l k).Pairwise _
    rw [dropI_eq]; exact r1.sublist (List.eraseIdx_sublist ..)
  · exact r2 x ((dropI_perm hk).mem_iff.1 (List.mem_cons_of_mem _ hx))
  · show (removeD t.heap id).1.Perm ((dropI t.l k).map dueOf)
    have h1 := e5.trans (q4.trans ((dropI_perm hk).map dueOf).symm)
    exact List.Perm.cons_inv h1
end Go.Proofs.YtcjncbkhbllchaaGreat.L

namespace Go.Proofs.YtcjncbkhbllchaaGreat.L
open Go Go.Sim Go.Proofs.YtcjncbkhbllchaaGreat
set_option linter.unusedSimpArgs false
set_option linter.unusedVariables false
set_option maxHeartbeats 10000000
set_option maxRecDepth 40000
end Go.Proofs.YtcjncbkhbllchaaGreat.L

namespace Go.Proofs.YtcjncbkhbllchaaGreat.L
open Go Go.Sim Go.Proofs.YtcjncbkhbllchaaGreat
set_option linter.unusedSimpArgs false
set_option linter.unusedVariables false
set_option maxHeartbeats 10000000
set_option maxRecDepth 40000
def msgOf (t : Table) (id : Int) : Message := (t.l.getD (findL t.l id).toNat zLease).msg
def keepP (t : Table) (ep : Int) (id : Int) : Bool := !decide ((msgOf t id).epoch < ep)
def lapsedD (t : Table) (now ep : Int) : List Int := if tabV t = 0 then (untilD t.heap now).filter (keepP t ep) else []
theorem until_mem {t : Table} (h : tabV t = 0) (now : Int) (id : Int) : id ∈ untilD t.heap now ↔ ∃ x ∈ t.l, x.msg.id = id ∧ x.deadline ≤ now := by
  obtain ⟨q1, q2, q3, q4⟩ := (tabV_iff t).1 h
  unfold untilD
  rw [if_pos ((validate_iff _).2 q3)]
  have hp := (sortG_spec t.heap 1 (fun p q hp hq => by omega)).2
  unfold dueIds
  constructor
  · intro hm
    obtain ⟨d, hd, e⟩ := List.mem_map.1 hm
    obtain ⟨hd, hn⟩ := List.mem_filter.1 hd
    obtain ⟨x, hx, e2⟩ := List.mem_map.1 (q4.mem_iff.1 (hp.mem_iff.1 hd))
    subst e2
    exact ⟨x, hx, e, of_decide_eq_true hn⟩
  · rintro ⟨x, hx, e, hn⟩
    exact List.mem_map.2 ⟨dueOf x, List.mem_filter.2 ⟨hp.mem_iff.2 (q4.mem_iff.2 (List.mem_map.2 ⟨x, hx, rfl⟩)), decide_eq_true hn⟩, e⟩
theorem until_find {t : Table} (h : tabV t = 0) {now id : Int} (hm : id ∈ untilD t.heap now) : 0 ≤ findL t.l id :=
  let ⟨x, hx, e, _⟩ := (until_mem h now id).1 hm
  (findL_iff id).2 ⟨x, hx, e⟩
theorem until_len {t : Table} (h : tabV t = 0) (now : Int) : (untilD t.heap now).length ≤ 12 := by
  obtain ⟨q1, q2, q3, q4⟩ := (tabV_iff t).1 h
  unfold untilD
  rw [if_pos ((validate_iff _).2 q3)]
  have hp := (sortG_spec t.heap 1 (fun p q hp hq => by omega)).2.length_eq
  have := q3.len
  unfold dueIds
  rw [List.length_map]
  exact Nat.le_trans (List.length_filter_le _ _) (by omega)
theorem lap1_ok (t : Table) (ep id : Int) (h : tabV t = 0) (hf : 0 ≤ findL t.l id) : callL G zC [.d (.int .i64 id), .d (.pd (eTable t)), .d (.pd (.int .i64 ep))] [] = some (.d (.bool (!keepP t ep id)), []) := by
  obtain ⟨h12, hE, hD, hM⟩ := tabV_zero h
  have ha := leases_asc hE
  have hfd := lfind_ok t id (by omega) ha
  obtain ⟨hp, e⟩ := (findL_pos ha id).1 hf
  have e2 := findL_posL ha hf
  have hP := mpurged_ok t.l[posL t.l id].msg ep
  unfold keepP msgOf
  rw [e2, Int.toNat_natCast, getDT hp, Bool.not_not]
  simp only [hf, decide_true, eTable, eMessage] at hfd hP ⊢
  clear e e2 hf
  rw [callL_code z9t (by simp)]; simp -implicitDefEqProofs (maxSteps := 4000000) (disch := omega) only [z8p, zcf, eLease, getDT, go_sem, *] /-A5-/
theorem idx_int (l : List Int) (g : Nat) (cs : List D) (p : Int → Bool) (hL : l.length ≤ 4294967296) (hp : ∀ a ∈ l, callL G g (.d (.int .i64 a) :: cs.map .d) [] = some (.d (.bool (p a)), [])) : callL G z1Y [.d (.sl (ints l)), .d (.fn g cs)] [] = some (.d (.int .i64 (idxI p l)), []) := by
  have := loop_find (G := G) (x := z58) (ks := []) l.length (atB l p) (fun k => ⟨[(0, .d (.sl (ints l))), (1, .d (.fn g cs)), (7, .d (.int .i64 l.length)), (8, .d (.int .i64 k))], []⟩) (fun k => (.ret, ⟨[(4, .d (.int .i64 k))], []⟩)) (.exit 0, ⟨[], []⟩) (fun k hk L => by
    simp only [z58]
    by_cases h0 : k < l.length
    · have h1 := hp l[k] (List.getElem_mem h0)
      simp only [atB_at h0]
      cases h2 : p l[k]
      · rw [h2] at h1
        simp -implicitDefEqProofs (maxSteps := 4000000) (disch := omega) only [go_sem, h1]
      · rw [h2] at h1
        simp -implicitDefEqProofs (maxSteps := 4000000) (disch := omega) only [go_sem, h1]
    · simp -implicitDefEqProofs (maxSteps := 4000000) (disch := omega) only [go_sem, Nat.zero_add])
  rw [findR_idx] at this
  simp only [Int.natCast_add, Int.natCast_one, Int.natCast_zero, Int.natCast_mul, Int.cast_ofNat_Int, List.length_append, List.length_map, List.map_nil, List.length_nil, List.map_append, List.map_cons, List.length_cons, Nat.zero_add, srcO, mapSet] at this
  unfold idxI
  cases h : l.findIdx? p with
  | none => rw [h] at this; rw [callL_code z6X (by simp)]; simp -implicitDefEqProofs (maxSteps := 4000000) (disch := omega) only [z5T, z7Z, go_sem, this]
  | some i => rw [h] at this; rw [callL_code z6X (by simp)]; simp -implicitDefEqProofs (maxSteps := 4000000) (disch := omega) only [z5T, z7Z, go_sem, this]
structure DF where
  i : Nat
  j : Nat
  R : List Int
def dfS (g : Nat) (cs : List D) (n : Nat) (s : DF) : St := ⟨[(0, .osl 1000000 0 n), (1, .d (.fn g cs)), (5, .d (.int .i64 s.i)), (6, .d (.int .i64 s.j)), (1000000, .ref 1000000 1 0)], [(1000000, .row ((ints s.R).map .d))]⟩
def dfInv (u : List Int) (p : Int → Bool) (s : DF) : Prop := s.i ≤ s.j ∧ s.j ≤ u.length ∧ s.R.length = u.length ∧ s.R.take s.i = (u.take s.j).filter (fun a => !p a) ∧ s.R.drop s.j = u.drop s.j
def dfPhi (g : Nat) (cs : List D) (u : List Int) (p : Int → Bool) (r : Option (AExit × St)) : Prop := ∃ R : List Int, ∃ i : Nat, R.length = u.length ∧ i ≤ u.length ∧ R.take i = u.filter (fun a => !p a) ∧ r = some (.exit 0, ⟨[(0, .osl 1000000 0 u.length), (5, .d (.int .i64 i)), (1000000, .ref 1000000 1 0)], [(1000000, .row ((ints R).map .d))]⟩)
theorem df_loop (g : Nat) (cs : List D) (u : List Int) (p : Int → Bool) (hL : u.length ≤ 1000) (hp : ∀ a ∈ u, callL G g (.d (.int .i64 a) :: cs.map .d) [] = some (.d (.bool (p a)), [])) : ∀ s : DF, dfInv u p s → dfPhi g cs u p (loopL G [] z0D (dfS g cs u.length s)) := by
  refine loop_indP (fun s : DF => u.length - s.j) (dfInv u p) (dfS g cs u.length) (fun _ => Post (dfPhi g cs u p)) fun ⟨i, j, R⟩ hinv L ih => ?_
  obtain ⟨h1, h2, h3, h4, h5⟩ := hinv
  simp only at h1 h2 h3 h4 h5
  by_cases h0 : j < u.length
  · have hRj : R[j]'(by omega) = u[j] := by
      have := congrArg (fun l => l[0]?) h5
      simp only [List.getElem?_drop, Nat.add_zero] at this
      rw [List.getElem?_eq_getElem (show j < R.length by omega), List.getElem?_eq_getElem h0] at this
      exact Option.some.inj this
    have hc := hp u[j] (List.getElem_mem h0)
    have hg : ((ints R).map AV.d)[j]? = some (.d (.int .i64 u[j])) := by simp [ints, List.getElem?_eq_getElem (show j < R.length by omega), hRj]
    have htk : u.take (j + 1) = u.take j ++ [u[j]] := by rw [List.take_add_one, List.getElem?_eq_getElem h0]; rfl
    by_cases hpj : p u[j] = true
    · have i1 := ih ⟨i, j + 1, R⟩ ⟨by simp only; omega, by simp only; omega, h3, by
        simp only
        rw [htk, List.filter_append, h4]
        simp [hpj], by
        simp only
        have := congrArg (List.drop 1) h5
        simpa [List.drop_drop, Nat.add_comm] using this⟩ (by simp only; omega)
      rw [hpj] at hc
      clear ih hp
      simp only [dfS, z0D] at i1 ⊢
      simp only [Int.natCast_add, Int.natCast_one, Int.natCast_zero, Int.natCast_mul, Int.cast_ofNat_Int, List.length_append, List.length_map, List.map_nil, List.length_nil, List.map_append, List.map_cons, List.length_cons, Nat.zero_add, srcO, mapSet] at i1
      simp -implicitDefEqProofs (maxSteps := 4000000) (disch := omega) only [getDT, go_sem, *] /-A6-/
    · have hpj : p u[j] = false := by simpa using hpj
      have i1 := ih ⟨i + 1, j + 1, R.set i u[j]⟩ ⟨by simp only; omega, by simp only; omega, by simpa using h3, by
        simp only
        rw [htk, List.filter_append, ← h4, List.take_add_one, List.getElem?_set_self (by omega), List.take_set_of_le (by omega)]
        simp [hpj], by
        simp only
        rw [List.drop_set_of_lt (by omega)]
        have := congrArg (List.drop 1) h5
        simpa [List.drop_drop, Nat.add_comm] using this⟩ (by simp only; omega)
      rw [hpj] at hc
      have hst : ((ints R).map AV.d).set i (.d (.int .i64 u[j])) = (ints (R.set i u[j])).map AV.d := by simp [ints, List.map_set]
      have hgi : ((ints R).map AV.d)[i]? = some (.d (.int .i64 (R[i]'(by omega)))) := by simp [ints, List.getElem?_eq_getElem (show i < R.length by omega)]
      clear ih hp
      simp only [dfS, z0D] at i1 ⊢
      simp only [Int.natCast_add, Int.natCast_one, Int.natCast_zero, Int.natCast_mul, Int.cast_ofNat_Int, List.length_append, List.length_map, List.map_nil, List.length_nil, List.map_append, List.map_cons, List.length_cons, Nat.zero_add, srcO, mapSet] at i1
      simp -implicitDefEqProofs (maxSteps := 4000000) (disch := omega) only [getDT, go_sem, *] /-A7-/
  · have : j = u.length := by omega
    subst this
    clear ih hp
    rw [List.take_length] at h4
    simp only [dfS, z0D]
    simp -implicitDefEqProofs (maxSteps := 4000000) (disch := omega) only [getDT, go_sem, *] /-A8-/
    exact ⟨R, i, h3, by omega, h4, rfl⟩
end Go.Proofs.YtcjncbkhbllchaaGreat.L
