/-
  Shards: the reference's Validate.
  Shards: parts of Counts.
  A table over the table: what is proved below stays, some lists come back as rows.
  lease.find: binary search.
  lease.Grant, Find, Release, Extend.
-/
import Derived.Test.YtcjncbkhbllchaaGreatB9b25721
import Derived.Test.YtcjncbkhbllchaaGreatBfe8ec16
import Derived.Test.YtcjncbkhbllchaaGreatB360f7d0
import Derived.Test.YtcjncbkhbllchaaGreatB6fdd320
import Derived.Test.YtcjncbkhbllchaaGreatB90128e6
import Derived.Test.YtcjncbkhbllchaaGreatB1bd3475
set_option linter.unusedSimpArgs false
set_option linter.unusedVariables false
namespace Go.Proofs.YtcjncbkhbllchaaGreat
open Go Go.Sim
set_option linter.unusedSimpArgs false
set_option linter.unusedVariables false
set_option maxHeartbeats 10000000
set_option maxRecDepth 40000
def m7S (s : Shard) (l : List Message) (i : Nat) : St := ⟨[(1, .ref 1 0 0), (6, .d (.sl (l.map eMessage))), (7, .d (.int .i64 i))], [(1, .row [.d (eShard s)])]⟩
def m7R (s : Shard) (l : List Message) (i : Nat) : AExit × St := if movE s.low s.high (l.drop i) = true then (.ret, ⟨[(2, .d (.int .i64 12))], []⟩) else (.exit 0, ⟨[(6, .d (.sl (l.map eMessage)))], []⟩)
theorem ztQ (s : Shard) (l : List Message) (h1 : l.length ≤ 24) : ∀ i, i ≤ l.length → loopL G [] z2V (m7S s l i) = some (m7R s l i) := by
 refine zii (fun i => l.length - i) (fun i => i ≤ l.length) (m7S s l) (fun i => some (m7R s l i)) fun i hi L ih => ?_
 by_cases h0 : i < l.length
 · have i1 := ih (i + 1) (by omega) (by omega)
   clear ih
   unfold m7R at i1 ⊢
   rw [znT _ _ h0]
   unfold m7S at i1
   generalize movE s.low s.high (l.drop (i + 1)) = fe at *
   simp only [m7S, eShard, z2V] at i1 ⊢
   simp only [Int.natCast_add, Int.natCast_one, Int.natCast_zero, Int.natCast_mul, Int.cast_ofNat_Int, List.length_append, List.length_map, List.map_nil, List.length_nil, List.map_append, List.map_cons, List.length_cons, Nat.zero_add, srcO, mapSet] at i1
   by_cases hv : s.low ≤ l[i].route ∧ l[i].route ≤ s.high
   · simp only [hv, not_true_eq_false, and_self, decide_false, Bool.false_or]
     simp -implicitDefEqProofs (maxSteps := 4000000) (disch := omega) only [eMessage, getDT, go_sem, *] /-A0-/
   · simp only [hv, not_false_eq_true, decide_true, Bool.true_or, if_true]
     clear i1
     (try simp -implicitDefEqProofs (maxSteps := 4000000) (disch := omega) only [eMessage, getDT, go_sem, *]); (try simp only [pA, pB, pC, pD, pE, pF, pG, pH, pI, pJ, pK, pL, pM, pN, pO, pP, if_true, if_false]); repeat' (first | done | rfl | ((first | refine iteC (fun hq => ?_) (fun hq => ?_) | refine iteP (fun hq => ?_) (fun hq => ?_)) <;> (try (first | (exfalso; omega) | contradiction)) <;> (try simp -implicitDefEqProofs (maxSteps := 4000000) (disch := omega) only [eMessage, getDT, go_sem, *]) <;> (try simp only [pA, pB, pC, pD, pE, pF, pG, pH, pI, pJ, pK, pL, pM, pN, pO, pP, if_true, if_false]))); (all_goals try rfl); (all_goals try (repeat' (first | done | rfl | (exfalso; omega) | contradiction | (refine iteR (fun hq => ?_) (fun hq => ?_))))) /-A1-/
 · clear ih
   have : i = l.length := by omega
   subst this
   unfold m7R
   rw [List.drop_length]
   simp only [m7S, movE, List.any_nil, Bool.false_eq_true, if_false, z2V, eShard]
   simp -implicitDefEqProofs (maxSteps := 4000000) (disch := omega) only [getDT, go_sem, *] /-A2-/
def d7S (l : List Message) (i : Nat) : St := ⟨[(6, .d (.sl (l.map eMessage))), (8, .d (.int .i64 i))], []⟩
def d7R (l : List Message) (i : Nat) : AExit × St := if lateF l i = true then (.ret, ⟨[(2, .d (.int .i64 10))], []⟩) else (.exit 2, ⟨[], []⟩)
theorem zr5 (l : List Message) (h1 : l.length ≤ 24) : ∀ i, i ≤ l.length → loopL G [] z2W (d7S l i) = some (d7R l i) := by
 refine zii (fun i => l.length - i) (fun i => i ≤ l.length) (d7S l) (fun i => some (d7R l i)) fun i hi L ih => ?_
 by_cases h0 : i < l.length
 · have i1 := ih (i + 1) (by omega) (by omega)
   clear ih
   have hx := zlx l l[i].id (by omega)
   unfold d7R at i1 ⊢
   rw [znr _ h0]
   unfold d7S at i1
   generalize lateF l (i + 1) = fe at *
   simp only [d7S, z2W]
   simp only [Int.natCast_add, Int.natCast_one, Int.natCast_zero, Int.natCast_mul, Int.cast_ofNat_Int, List.length_append, List.length_map, List.map_nil, List.length_nil, List.map_append, List.map_cons, List.length_cons, Nat.zero_add, srcO, mapSet] at i1
   generalize fstI l l[i].id = q at *
   by_cases hv : q = i
   · subst hv
     simp only [ne_eq, not_true_eq_false, decide_false, Bool.false_or]
     simp -implicitDefEqProofs (maxSteps := 4000000) (disch := omega) only [eMessage, getDT, go_sem, *] /-A3-/
   · simp only [ne_eq, hv, not_false_eq_true, decide_true, Bool.true_or, if_true]
     clear i1
     simp -implicitDefEqProofs (maxSteps := 4000000) (disch := omega) only [eMessage, getDT, go_sem, *] /-A4-/
 · clear ih
   unfold d7R
   rw [znq _ h0]
   simp only [d7S, z2W, Bool.false_eq_true, if_false]
   simp -implicitDefEqProofs (maxSteps := 4000000) (disch := omega) only [getDT, go_sem, *] /-A5-/
theorem zvf (s : Shard) (h1 : s.ready.cells.length ≤ 4294967296) (h2 : s.leases.l.length ≤ 4294967296) (h3 : s.leases.heap.length ≤ 4294967296) : callL G zF [.d (eShard s)] [] = some (.d (.int .i64 (shardV s)), []) := by
 have hv := zlR s.ready h1
 have ht := zol s.leases h2 h3
 rw [zoR] at ht
 by_cases e1 : ringV s.ready = 0
 · by_cases e2 : tabV s.leases = 0
   · rw [zl0 e1 e2]
     rw [e1] at hv
     rw [e2] at ht
     have hl := tl_len e2
     obtain ⟨a1, a2, a3, a4, a5, a6⟩ := zir e1
     have hsp := zwq s.low s.high
     have hm := zmm e1 hl
     have hml := zjI e1 hl
     have hlp := ztQ s (shMsgs s) hml 0 (by omega)
     have hdp := zr5 (shMsgs s) hml 0 (by omega)
     unfold m7R at hlp
     unfold d7R at hdp
     rw [znp] at hdp
     simp only [m7S, List.drop_zero] at hlp
     simp only [d7S] at hdp
     generalize movE s.low s.high (shMsgs s) = b1 at *
     generalize dupI ((shMsgs s).map (·.id)) = b2 at *
     generalize shMsgs s = w at *
     clear e1 e2
     obtain ⟨lv, lo, hi, ⟨c, h, z⟩, ⟨tl, th⟩⟩ := s
     simp only [eShard, eRing, eTable] at hv ht hsp hm hlp a1 a2 a3 a4 a5 a6 hl h1 h2 h3 ⊢
     simp only [Int.natCast_add, Int.natCast_one, Int.natCast_zero, Int.natCast_mul, Int.cast_ofNat_Int, List.length_append, List.length_map, List.map_nil, List.length_nil, List.map_append, List.map_cons, List.length_cons, Nat.zero_add, srcO, mapSet] at hlp hdp
     cases lv with
     | false =>
       simp only [if_true]
       by_cases c1 : lo ≠ 0 ∨ hi ≠ 0 ∨ 0 < z + tl.length
       · rw [if_pos c1]
         rw [zie zu (by simp)]; simp -implicitDefEqProofs (maxSteps := 4000000) (disch := omega) only [zi, zm, getDT, go_sem, *]; (try simp only [pA, pB, pC, pD, pE, pF, pG, pH, pI, pJ, pK, pL, pM, pN, pO, pP, if_true, if_false]); repeat' (first | done | rfl | ((first | refine iteC (fun hq => ?_) (fun hq => ?_) | refine iteP (fun hq => ?_) (fun hq => ?_)) <;> (try (first | (exfalso; omega) | contradiction)) <;> (try simp -implicitDefEqProofs (maxSteps := 4000000) (disch := omega) only [getDT, go_sem, *]) <;> (try simp only [pA, pB, pC, pD, pE, pF, pG, pH, pI, pJ, pK, pL, pM, pN, pO, pP, if_true, if_false]))); (all_goals try rfl); (all_goals try (repeat' (first | done | rfl | (exfalso; omega) | contradiction | (refine iteR (fun hq => ?_) (fun hq => ?_))))) /-A6-/
       · rw [if_neg c1]
         rw [zie zu (by simp)]; simp -implicitDefEqProofs (maxSteps := 4000000) (disch := omega) only [zi, zm, getDT, go_sem, *] /-A7-/
     | true =>
       simp only [Bool.true_eq_false, if_false]
       by_cases c1 : 0 ≤ lo ∧ lo ≤ hi ∧ hi < 65536
       · rw [decide_eq_true c1] at hsp
         rw [if_neg (fun hc => hc c1)]
         by_cases c2 : (c.length : Int) < z + tl.length
         · rw [if_pos c2]
           rw [zie zu (by simp)]; simp -implicitDefEqProofs (maxSteps := 4000000) (disch := omega) only [zi, zm, getDT, go_sem, *] /-A8-/
         · rw [if_neg c2]
           cases b1
           · cases b2
             · simp only [Bool.false_eq_true, if_false] at hlp hdp ⊢
               rw [zie zu (by simp)]; simp -implicitDefEqProofs (maxSteps := 4000000) (disch := omega) only [zi, zm, getDT, go_sem, *] /-A9-/
             · simp only [Bool.false_eq_true, if_false, if_true] at hlp hdp ⊢
               rw [zie zu (by simp)]; simp -implicitDefEqProofs (maxSteps := 4000000) (disch := omega) only [zi, zm, getDT, go_sem, *] /-A10-/
           · simp only [if_true] at hlp ⊢
             rw [zie zu (by simp)]; simp -implicitDefEqProofs (maxSteps := 4000000) (disch := omega) only [zi, zm, getDT, go_sem, *] /-A11-/
       · rw [decide_eq_false c1] at hsp
         rw [if_pos c1]
         rw [zie zu (by simp)]; simp -implicitDefEqProofs (maxSteps := 4000000) (disch := omega) only [zi, zm, getDT, go_sem, *] /-A12-/
   · unfold shardV
     rw [if_neg (fun hc => hc e1), if_pos e2]
     rw [e1] at hv
     generalize tabV s.leases = v at *
     obtain ⟨lv, lo, hi, ⟨c, h, z⟩, ⟨tl, th⟩⟩ := s
     simp only [eShard, eRing, eTable] at hv ht h1 h2 h3 ⊢
     rw [zie zu (by simp)]; simp -implicitDefEqProofs (maxSteps := 4000000) (disch := omega) only [zi, zm, getDT, go_sem, *] /-A13-/
 · unfold shardV
   rw [if_pos e1]
   clear ht
   generalize ringV s.ready = v at *
   obtain ⟨lv, lo, hi, ⟨c, h, z⟩, ⟨tl, th⟩⟩ := s
   simp only [eShard, eRing] at hv h1 h2 h3 ⊢
   rw [zie zu (by simp)]; simp -implicitDefEqProofs (maxSteps := 4000000) (disch := omega) only [zi, zm, getDT, go_sem, *] /-A14-/
end Go.Proofs.YtcjncbkhbllchaaGreat

namespace Go.Proofs.YtcjncbkhbllchaaGreat
open Go Go.Sim
set_option linter.unusedSimpArgs false
set_option linter.unusedVariables false
set_option maxHeartbeats 10000000
set_option maxRecDepth 40000
def liveV (s : Shard) : Int := if shardV s ≠ 0 then shardV s else if s.live = true then 0 else 7
theorem znA (s : Shard) (h1 : s.ready.cells.length ≤ 4294967296) (h2 : s.leases.l.length ≤ 4294967296) (h3 : s.leases.heap.length ≤ 4294967296) : callL G z05 [.d (eShard s)] [] = some (.d (.int .i64 (liveV s)), []) := by
 have hv := zwb s h1 h2 h3
 unfold liveV
 generalize shardV s = v at *
 obtain ⟨lv, lo, hi, ⟨c, h, z⟩, ⟨tl, th⟩⟩ := s
 simp only [eShard] at hv ⊢
 by_cases e : v = 0
 · subst e
   cases lv
   · rw [zie z7F (by simp)]; simp -implicitDefEqProofs (maxSteps := 4000000) (disch := omega) only [z3p, z69, getDT, go_sem, *] /-A8-/
   · rw [zie z7F (by simp)]; simp -implicitDefEqProofs (maxSteps := 4000000) (disch := omega) only [z3p, z69, getDT, go_sem, *] /-A9-/
 · rw [if_pos e]
   rw [zie z7F (by simp)]; simp -implicitDefEqProofs (maxSteps := 4000000) (disch := omega) only [z3p, z69, getDT, go_sem, *] /-A10-/
theorem zv5 (m : Message) (ep : Int) : callL G zp [.d (eMessage m), .d (.int .i64 ep)] [] = some (.d (.bool (decide (m.epoch < ep))), []) := by
 simp only [eMessage]
 rw [zie zay (by simp)]; simp -implicitDefEqProofs (maxSteps := 4000000) (disch := omega) only [z6o, z8D, getDT, go_sem, *] /-A17-/
theorem zws (m : Message) (lim : Int) : callL G zD [.d (eMessage m), .d (.int .i64 lim)] [] = some (.d (.bool (decide (lim ≤ m.count))), []) := by
 simp only [eMessage]
 rw [zie zez (by simp)]; simp -implicitDefEqProofs (maxSteps := 4000000) (disch := omega) only [z9p, zdx, getDT, go_sem, *] /-A18-/
end Go.Proofs.YtcjncbkhbllchaaGreat

namespace Go.Proofs.YtcjncbkhbllchaaGreat
open Go Go.Sim
set_option linter.unusedSimpArgs false
set_option linter.unusedVariables false
set_option maxHeartbeats 10000000
set_option maxRecDepth 100000
def rowsL : List Nat := [zq, zo]
def doneL : List Nat := [z1f, zT, zU, zX, zY, zE, zp, z0r, z1L, z1K, z1S, z1T, zM, zB, z18, z19, zP, zN, z1C, z1B, zS, z20, zZ, z02, z00, z01, z0v, z2b, z05, z08, z2l, z06, z03, z2i, z04, z07, zD, zR, zQ, z17, zF, z1U, zO, zV, zg]
namespace L
noncomputable def G : FuncId → Option AFn := layer Go.Proofs.YtcjncbkhbllchaaGreat.G rowsL doneL
theorem zaq : G z1l = some z3M := by kernel_rfl
theorem z57 : G z1b = some z3z := by kernel_rfl
theorem za8 : G z14 = some z3v := by kernel_rfl
theorem zaa : G z15 = some z3w := by kernel_rfl
theorem z2C : G z16 = some z3x := by kernel_rfl
theorem zaN : G z1V = some z4m := by kernel_rfl
theorem zaD : G z1G = some z49 := by kernel_rfl
theorem z7r : G z1a = some z3y := by kernel_rfl
theorem zaA : G z1A = some z44 := by kernel_rfl
theorem zaB : G z1D = some z45 := by kernel_rfl
theorem zaE : G z0s = some z4a := by kernel_rfl
theorem z0P : G z1I = some z4e := by kernel_rfl
theorem z0O : G z1H = some z4c := by kernel_rfl
theorem zaF : G z0u = some z4d := by kernel_rfl
theorem z5d : G z1E = some z47 := by kernel_rfl
theorem z7x : G z0q = some z46 := by kernel_rfl
theorem zaG : G z1J = some z4f := by kernel_rfl
theorem z7z : G z0t = some z4b := by kernel_rfl
theorem z7s : G z1c = some z3A := by kernel_rfl
theorem zt : G z1R = some z4l := by kernel_rfl
theorem zaJ : G z1O = some z4i := by kernel_rfl
theorem zaI : G z1N = some z4h := by kernel_rfl
theorem zaH : G z1M = some z4g := by kernel_rfl
theorem zaL : G z1Q = some z4k := by kernel_rfl
theorem zaK : G z1P = some z4j := by kernel_rfl
theorem zaP : G z1X = some z4o := by kernel_rfl
theorem zaC : G z1F = some z48 := by kernel_rfl
theorem zaO : G z1W = some z4n := by kernel_rfl
theorem z2K : G z2a = some z4E := by kernel_rfl
theorem zb1 : G z2e = some z4I := by kernel_rfl
theorem zb2 : G z2f = some z4J := by kernel_rfl
theorem zb3 : G z2g = some z4K := by kernel_rfl
theorem zb4 : G z2h = some z4L := by kernel_rfl
theorem zaV : G z0x = some z4t := by kernel_rfl
theorem z5c : G z1z = some z42 := by kernel_rfl
theorem zb8 : G z2n = some z4S := by kernel_rfl
theorem zbd : G z2r = some z4Y := by kernel_rfl
theorem zai : G z0m = some z3D := by kernel_rfl
theorem zap : G z1k = some z3L := by kernel_rfl
theorem zam : G z1i = some z3I := by kernel_rfl
theorem zan : G z0p = some z3J := by kernel_rfl
theorem zaj : G z1g = some z3E := by kernel_rfl
theorem zak : G z0n = some z3F := by kernel_rfl
theorem zag : G z1e = some z3C := by kernel_rfl
theorem zaf : G z1d = some z3B := by kernel_rfl
theorem z5b : G z1t = some z3W := by kernel_rfl
theorem zba : G z2p = some z4U := by kernel_rfl
theorem z7L : G z2u = some z51 := by kernel_rfl
theorem zbb : G z2q = some z4V := by kernel_rfl
theorem z7M : G z2v = some z52 := by kernel_rfl
theorem z7G : G z2j = some z4M := by kernel_rfl
theorem z2N : G z0C = some z4R := by kernel_rfl
theorem z2M : G z09 = some z4Q := by kernel_rfl
theorem zaz : G z1y = some z41 := by kernel_rfl
theorem z2L : G z2c = some z4F := by kernel_rfl
theorem zaT : G z21 = some z4r := by kernel_rfl
theorem zaU : G z0w = some z4s := by kernel_rfl
theorem z7J : G z2s = some z4Z := by kernel_rfl
theorem zaX : G z24 = some z4w := by kernel_rfl
theorem zaW : G z22 = some z4u := by kernel_rfl
theorem z2H : G z1x = some z40 := by kernel_rfl
theorem zk : G z1p = some z3Q := by kernel_rfl
theorem zau : G z1s = some z3U := by kernel_rfl
theorem z5g : G z2m = some z4P := by kernel_rfl
theorem zav : G zC = some z3V := by kernel_rfl
theorem zao : G z1j = some z3K := by kernel_rfl
theorem z7N : G z2w = some z53 := by kernel_rfl
theorem zI : G z28 = some z4B := by kernel_rfl
theorem z7D : G z2d = some z4H := by kernel_rfl
theorem z59 : G z1o = some z3P := by kernel_rfl
theorem z7H : G z2k = some z4O := by kernel_rfl
theorem z2F : G z1r = some z3T := by kernel_rfl
theorem z58 : G z0o = some z3H := by kernel_rfl
theorem zal : G z1h = some z3G := by kernel_rfl
theorem zaw : G z1u = some z3X := by kernel_rfl
theorem zbc : G z38 = some z4X := by kernel_rfl
theorem z0R : G z23 = some z4v := by kernel_rfl
theorem z0S : G z26 = some z4y := by kernel_rfl
theorem z0g : G z1n = some z3O := by kernel_rfl
theorem z5f : G z27 = some z4z := by kernel_rfl
theorem z5a : G z1q = some z3R := by kernel_rfl
theorem z7O : G z0E = some z54 := by kernel_rfl
theorem zax : G z1v = some z3Y := by kernel_rfl
theorem zd : G z1w = some z3Z := by kernel_rfl
theorem z7Q : G z0G = some z56 := by kernel_rfl
theorem z7P : G z0F = some z55 := by kernel_rfl
theorem zat : G zW = some z3S := by kernel_rfl
theorem z5h : G z0D = some z4W := by kernel_rfl
theorem z7K : G z2t = some z50 := by kernel_rfl
theorem z5e : G z25 = some z4x := by kernel_rfl
theorem z7A : G z1Y = some z4p := by kernel_rfl
theorem zar : G z1m = some z3N := by kernel_rfl
theorem zaY : G z0z = some z4C := by kernel_rfl
theorem zaQ : G z1Z = some z4q := by kernel_rfl
theorem zaZ : G z29 = some z4D := by kernel_rfl
theorem zb5 : G z0B = some z4N := by kernel_rfl
theorem zb0 : G z0A = some z4G := by kernel_rfl
theorem zb9 : G z2o = some z4T := by kernel_rfl
theorem z7C : G z0y = some z4A := by kernel_rfl
theorem zi2 {args : List Go.Sim.AV} {os : Heap} : callL G zT args os = callL Go.Proofs.YtcjncbkhbllchaaGreat.G zT args os := zil (by kernel_rfl)
theorem zi3 {args : List Go.Sim.AV} {os : Heap} : callL G zU args os = callL Go.Proofs.YtcjncbkhbllchaaGreat.G zU args os := zil (by kernel_rfl)
theorem zi6 {args : List Go.Sim.AV} {os : Heap} : callL G zX args os = callL Go.Proofs.YtcjncbkhbllchaaGreat.G zX args os := zil (by kernel_rfl)
theorem zi7 {args : List Go.Sim.AV} {os : Heap} : callL G zY args os = callL Go.Proofs.YtcjncbkhbllchaaGreat.G zY args os := zil (by kernel_rfl)
theorem zej {args : List Go.Sim.AV} {os : Heap} : callL G zE args os = callL Go.Proofs.YtcjncbkhbllchaaGreat.G zE args os := zil (by kernel_rfl)
theorem zeh {args : List Go.Sim.AV} {os : Heap} : callL G zp args os = callL Go.Proofs.YtcjncbkhbllchaaGreat.G zp args os := zil (by kernel_rfl)
theorem zhW {args : List Go.Sim.AV} {os : Heap} : callL G zM args os = callL Go.Proofs.YtcjncbkhbllchaaGreat.G zM args os := zil (by kernel_rfl)
theorem zhZ {args : List Go.Sim.AV} {os : Heap} : callL G zB args os = callL Go.Proofs.YtcjncbkhbllchaaGreat.G zB args os := zil (by kernel_rfl)
theorem zhY {args : List Go.Sim.AV} {os : Heap} : callL G zP args os = callL Go.Proofs.YtcjncbkhbllchaaGreat.G zP args os := zil (by kernel_rfl)
theorem zi1 {args : List Go.Sim.AV} {os : Heap} : callL G zS args os = callL Go.Proofs.YtcjncbkhbllchaaGreat.G zS args os := zil (by kernel_rfl)
theorem zia {args : List Go.Sim.AV} {os : Heap} : callL G zZ args os = callL Go.Proofs.YtcjncbkhbllchaaGreat.G zZ args os := zil (by kernel_rfl)
theorem zic {args : List Go.Sim.AV} {os : Heap} : callL G z02 args os = callL Go.Proofs.YtcjncbkhbllchaaGreat.G z02 args os := zil (by kernel_rfl)
theorem zem {args : List Go.Sim.AV} {os : Heap} : callL G z00 args os = callL Go.Proofs.YtcjncbkhbllchaaGreat.G z00 args os := zil (by kernel_rfl)
theorem zib {args : List Go.Sim.AV} {os : Heap} : callL G z01 args os = callL Go.Proofs.YtcjncbkhbllchaaGreat.G z01 args os := zil (by kernel_rfl)
theorem zep {args : List Go.Sim.AV} {os : Heap} : callL G z05 args os = callL Go.Proofs.YtcjncbkhbllchaaGreat.G z05 args os := zil (by kernel_rfl)
theorem zid {args : List Go.Sim.AV} {os : Heap} : callL G z08 args os = callL Go.Proofs.YtcjncbkhbllchaaGreat.G z08 args os := zil (by kernel_rfl)
theorem zeq {args : List Go.Sim.AV} {os : Heap} : callL G z06 args os = callL Go.Proofs.YtcjncbkhbllchaaGreat.G z06 args os := zil (by kernel_rfl)
theorem zen {args : List Go.Sim.AV} {os : Heap} : callL G z03 args os = callL Go.Proofs.YtcjncbkhbllchaaGreat.G z03 args os := zil (by kernel_rfl)
theorem zeo {args : List Go.Sim.AV} {os : Heap} : callL G z04 args os = callL Go.Proofs.YtcjncbkhbllchaaGreat.G z04 args os := zil (by kernel_rfl)
theorem zer {args : List Go.Sim.AV} {os : Heap} : callL G z07 args os = callL Go.Proofs.YtcjncbkhbllchaaGreat.G z07 args os := zil (by kernel_rfl)
theorem zei {args : List Go.Sim.AV} {os : Heap} : callL G zD args os = callL Go.Proofs.YtcjncbkhbllchaaGreat.G zD args os := zil (by kernel_rfl)
theorem zi0 {args : List Go.Sim.AV} {os : Heap} : callL G zR args os = callL Go.Proofs.YtcjncbkhbllchaaGreat.G zR args os := zil (by kernel_rfl)
theorem zi9 {args : List Go.Sim.AV} {os : Heap} : callL G zF args os = callL Go.Proofs.YtcjncbkhbllchaaGreat.G zF args os := zil (by kernel_rfl)
theorem zhX {args : List Go.Sim.AV} {os : Heap} : callL G zO args os = callL Go.Proofs.YtcjncbkhbllchaaGreat.G zO args os := zil (by kernel_rfl)
theorem zi5 {args : List Go.Sim.AV} {os : Heap} : callL G zV args os = callL Go.Proofs.YtcjncbkhbllchaaGreat.G zV args os := zil (by kernel_rfl)
theorem zi4 {args : List Go.Sim.AV} {os : Heap} : callL G zg args os = callL Go.Proofs.YtcjncbkhbllchaaGreat.G zg args os := zil (by kernel_rfl)
theorem zef : G zq = some (.ext (rowF (callL Go.Proofs.YtcjncbkhbllchaaGreat.G) zq)) := by kernel_rfl
theorem zee : G zo = some (.ext (rowF (callL Go.Proofs.YtcjncbkhbllchaaGreat.G) zo)) := by kernel_rfl
attribute [go_sem] zi2 zi3 zi6 zi7 zej zeh zhW zhZ zhY zi1 zia zic zem zib zep zid zeq zen zeo zer zei zi0 zi9 zhX zi5 zi4
end L
end Go.Proofs.YtcjncbkhbllchaaGreat

namespace Go.Proofs.YtcjncbkhbllchaaGreat.L
open Go Go.Sim Go.Proofs.YtcjncbkhbllchaaGreat
set_option linter.unusedSimpArgs false
set_option linter.unusedVariables false
set_option maxHeartbeats 10000000
set_option maxRecDepth 40000
def posL (l : List Lease) (id : Int) : Nat := (l.filter fun x => decide (x.msg.id < id)).length
theorem zkb (l : List Lease) (id : Int) : posL l id ≤ l.length := List.length_filter_le _ _
theorem pos_lt {l : List Lease} (h : l.Pairwise fun x y => x.msg.id < y.msg.id) {id : Int} : ∀ {k : Nat} (hk : k < l.length), k < posL l id ↔ l[k].msg.id < id := by
 induction l with
 | nil => intro k hk; exact absurd hk (by simp)
 | cons x l ih =>
   intro k hk
   obtain ⟨h1, h2⟩ := List.pairwise_cons.1 h
   by_cases hx : x.msg.id < id
   · have e : posL (x :: l) id = posL l id + 1 := by simp [posL, hx]
     rw [e]
     cases k with
     | zero => simp [hx]
     | succ k => have := ih h2 (k := k) (by simpa using hk); simp only [List.getElem_cons_succ]; rw [← this]; omega
   · have e : posL (x :: l) id = 0 := by
       unfold posL
       rw [List.length_eq_zero_iff, List.filter_eq_nil_iff]
       intro y hy
       simp only [decide_eq_true_eq]
       rcases List.mem_cons.1 hy with rfl | hy
       · exact hx
       · have := h1 y hy; omega
     rw [e]
     have hle : id ≤ ((x :: l)[k]).msg.id := by
       cases k with
       | zero => simp only [List.getElem_cons_zero]; omega
       | succ k => simp only [List.getElem_cons_succ]; have := h1 _ (List.getElem_mem (l := l) (n := k) (by simpa using hk)); omega
     omega
theorem zmX (x : Lease) (id : Int) : callL G zC [.d (eLease x), .d (.int .i64 id)] [] = some (.d (.int .i64 (cmpI x.msg.id id)), []) := by
 have h := zmN x.msg.id id
 rw [zie zav (by simp)]; simp -implicitDefEqProofs (maxSteps := 4000000) (disch := omega) only [z9k, zdt, getDT, go_sem, *] /-A0-/
theorem zlo (a b : Int) : (cmpI a b < 0) ↔ a < b := by unfold cmpI; split <;> (try split) <;> omega
theorem zln (a b : Int) : (cmpI a b = 0) ↔ a = b := by unfold cmpI; split <;> (try split) <;> omega
def bsS (l : List Lease) (id : Int) (p : Nat × Nat) : St := ⟨[(0, .d (.sl (l.map eLease))), (1, .d (.int .i64 id)), (2, .d (.fn zC [])), (8, .d (.int .i64 l.length)), (9, .d (.int .i64 p.1)), (10, .d (.int .i64 p.2))], []⟩
theorem zpQ (l : List Lease) (id : Int) (hL : l.length ≤ 1000) (h : l.Pairwise fun x y => x.msg.id < y.msg.id) : ∀ p : Nat × Nat, p.1 ≤ posL l id ∧ posL l id ≤ p.2 ∧ p.2 ≤ l.length → loopL G [] z5M (bsS l id p) = some (.exit 0, ⟨[(0, .d (.sl (l.map eLease))), (1, .d (.int .i64 id)), (2, .d (.fn zC [])), (8, .d (.int .i64 l.length)), (9, .d (.int .i64 (posL l id)))], []⟩) := by
 refine zii (fun p : Nat × Nat => p.2 - p.1) (fun p : Nat × Nat => p.1 ≤ posL l id ∧ posL l id ≤ p.2 ∧ p.2 ≤ l.length) (bsS l id) _ fun ⟨i, j⟩ ⟨h1, h2, h3⟩ L ih => ?_
 simp only at h1 h2 h3
 simp only [bsS] at ih ⊢
 simp only [z5M]
 by_cases hij : i < j
 · obtain ⟨m, hm⟩ : ∃ m, m = (i + j) / 2 := ⟨_, rfl⟩
   have hml : m < l.length := by omega
   have e1 : Int.fdiv ((i : Int) + j) (2 ^ (min 1 64 : Nat)) = (m : Int) := by show Int.fdiv ((i : Int) + j) 2 = m; rw [Int.fdiv_eq_ediv_of_nonneg _ (by omega)]; omega
   have hf := zmX (l[m]) id
   have hp := pos_lt h (id := id) hml
   by_cases hc : l[m].msg.id < id
   · have i1 := ih (m + 1, j) ⟨by simp only; omega, h2, h3⟩ (by simp only; omega)
     have hc2 := (zlo (l[m].msg.id) id).2 hc
     clear ih hm
     simp only [Int.natCast_add, Int.natCast_one, Int.natCast_zero, Int.natCast_mul, Int.cast_ofNat_Int, List.length_append, List.length_map, List.map_nil, List.length_nil, List.map_append, List.map_cons, List.length_cons, Nat.zero_add, srcO, mapSet] at i1
     simp -implicitDefEqProofs (maxSteps := 4000000) (disch := omega) only [getDT, go_sem, *] /-A1-/
   · have i2 := ih (i, m) ⟨h1, by simp only; omega, by simp only; omega⟩ (by simp only; omega)
     have hc2 : ¬ cmpI (l[m].msg.id) id < 0 := fun h => hc ((zlo _ _).1 h)
     clear ih hm
     simp -implicitDefEqProofs (maxSteps := 4000000) (disch := omega) only [getDT, go_sem, *] /-A2-/
 · have : i = posL l id := by omega
   subst this
   clear ih
   simp -implicitDefEqProofs (maxSteps := 4000000) (disch := omega) only [getDT, go_sem, *] /-A3-/
theorem ziR {l : List Lease} (h : l.Pairwise fun x y => x.msg.id < y.msg.id) (id : Int) : (0 ≤ findL l id) ↔ ∃ hp : posL l id < l.length, l[posL l id].msg.id = id := by
 constructor
 · intro h0
   obtain ⟨k, hk, e1, e2⟩ := zj0 h0
   have a1 := pos_lt h (id := id) hk
   have hle : posL l id ≤ k := by omega
   have hpl : posL l id < l.length := by omega
   have a2 := pos_lt h (id := id) hpl
   refine ⟨hpl, ?_⟩
   have : ¬ posL l id < k := fun hlt => by
     have := List.pairwise_iff_getElem.1 h (posL l id) k hpl hk hlt
     omega
   have : posL l id = k := by omega
   simp only [this, e2]
 · rintro ⟨hp, e⟩
   have := zjU h hp
   rw [e] at this; omega
theorem zjv {l : List Lease} (h : l.Pairwise fun x y => x.msg.id < y.msg.id) {id : Int} (h0 : 0 ≤ findL l id) : findL l id = posL l id := by
 obtain ⟨hp, e⟩ := (ziR h id).1 h0
 have := zjU h hp
 rwa [e] at this
theorem bs_ok (l : List Lease) (id : Int) (hL : l.length ≤ 1000) (h : l.Pairwise fun x y => x.msg.id < y.msg.id) : callL G z2m [.d (.sl (l.map eLease)), .d (.int .i64 id), .d (.fn zC [])] [] = some (.d (.tup [.int .i64 (posL l id), .bool (decide (0 ≤ findL l id))]), []) := by
 have hl := zpQ l id hL h (0, l.length) ⟨by simp, zkb l id, Nat.le_refl _⟩
 simp only [bsS] at hl
 simp only [Int.natCast_add, Int.natCast_one, Int.natCast_zero, Int.natCast_mul, Int.cast_ofNat_Int, List.length_append, List.length_map, List.map_nil, List.length_nil, List.map_append, List.map_cons, List.length_cons, Nat.zero_add, srcO, mapSet] at hl
 have hp := ziR h id
 by_cases hpl : posL l id < l.length
 · have hf := zmX l[posL l id] id
   by_cases he : l[posL l id].msg.id = id
   · have h0 : 0 ≤ findL l id := hp.2 ⟨hpl, he⟩
     have e0 : cmpI l[posL l id].msg.id id = 0 := (zln _ _).2 he
     rw [e0] at hf
     simp only [h0, decide_true]
     clear he e0
     rw [zie z5g (by simp)]; simp -implicitDefEqProofs (maxSteps := 4000000) (disch := omega) only [z3r, z6b, getDT, go_sem, *] /-A4-/
   · have h0 : ¬ 0 ≤ findL l id := fun h0 => he (hp.1 h0).2
     have e0 : ¬ cmpI l[posL l id].msg.id id = 0 := fun e => he ((zln _ _).1 e)
     simp only [h0, decide_false]
     rw [zie z5g (by simp)]; simp -implicitDefEqProofs (maxSteps := 4000000) (disch := omega) only [z3r, z6b, getDT, go_sem, *] /-A5-/
 · have h0 : ¬ 0 ≤ findL l id := fun h0 => hpl (hp.1 h0).1
   simp only [h0, decide_false]
   rw [zie z5g (by simp)]; simp -implicitDefEqProofs (maxSteps := 4000000) (disch := omega) only [z3r, z6b, getDT, go_sem, *] /-A6-/
theorem zk3 (t : Table) (id : Int) (hL : t.l.length ≤ 1000) (h : t.l.Pairwise fun x y => x.msg.id < y.msg.id) : callL G z1s [.d (eTable t), .d (.int .i64 id)] [] = some (.d (.tup [.int .i64 (posL t.l id), .bool (decide (0 ≤ findL t.l id))]), []) := by
 have hb := bs_ok t.l id hL h
 simp only [eTable]
 rw [zie zau (by simp)]; simp -implicitDefEqProofs (maxSteps := 4000000) (disch := omega) only [z9j, zds, getDT, go_sem, *] /-A7-/
end Go.Proofs.YtcjncbkhbllchaaGreat.L

namespace Go.Proofs.YtcjncbkhbllchaaGreat.L
open Go Go.Sim Go.Proofs.YtcjncbkhbllchaaGreat
set_option linter.unusedSimpArgs false
set_option linter.unusedVariables false
set_option maxHeartbeats 10000000
set_option maxRecDepth 40000
theorem crow (l : List Lease) (h : l ≠ []) (hL : l.length ≤ 1000) : callL G zq [.d (.sl (l.map eLease))] [] = some (.osl 0 0 l.length, [(0, .row ((l.map eLease).map .d))]) := by
 have := znu zef (by simpa using h) (zmM (l.map eLease) (zkk l) (by simp; omega))
 rw [List.length_map] at this
 exact this
theorem crow0 : callL G zq [.d (.sl [])] [] = some (.xsl [], []) := znv zef (zmM [] rfl (by simp))
theorem zix {t : Table} (h : tabV t = 0) : t.l.length ≤ 12 ∧ leasesE t.l = 0 ∧ validateD t.heap = 0 ∧ matchP t = true := by
 unfold tabV at h
 split at h
 · cases h
 split at h
 · omega
 split at h
 · omega
 split at h
 · rename_i h1 h2 h3 h4; exact ⟨by omega, by simpa using h2, by simpa using h3, h4⟩
 · cases h
theorem zov (h : List Due) (id : Int) (hL : h.length ≤ 4294967296) : (removeD h id).1.length ≤ 4294967296 := by
 unfold removeD
 split
 · simp
 · rename_i h0
   have o := (ziI h).1 (by simpa using h0)
   split
   · simp
   · rename_i h1
     have hlt := zkA h id
     have := (drop_ok' o (findD h id).toNat (by omega)).2.length_eq
     simp only [List.length_cons] at this
     have hh := o.len
     show (dropL h (findD h id).toNat).length ≤ _
     omega
def insL (l : List Lease) (m : Message) (d : Int) : List Lease := l.take (posL l m.id) ++ [⟨m, d⟩] ++ l.drop (posL l m.id)
def grantE (t : Table) (m : Message) (d : Int) : Int :=
 if tabV t ≠ 0 then tabV t else if msgV m ≠ 0 then msgV m else if m.gen = 0 then 7 else if ¬ (0 ≤ d ∧ d ≤ 1073741824) then 1 else if t.l.length = 12 then 3 else if 0 ≤ findL t.l m.id then 10 else (pushD t.heap (d, m.id)).2
def grantD (t : Table) (m : Message) (d : Int) : Table × Int := if grantE t m d = 0 then (⟨insL t.l m d, (pushD t.heap (d, m.id)).1⟩, 0) else (zTable, grantE t m d)
theorem zsO (l : List Lease) (m : Message) (d : Int) : (insL l m d).map eLease = (l.map eLease).take (posL l m.id) ++ [eLease ⟨m, d⟩] ++ (l.map eLease).drop (posL l m.id) := by
 simp only [insL, List.map_append, List.map_take, List.map_drop, List.map_cons, List.map_nil]
theorem zss (t : Table) (m : Message) (d : Int) (hL : t.l.length ≤ 4294967296) (hH : t.heap.length ≤ 4294967296) : callL G z1p [.d (eTable t), .d (eMessage m), .d (.int .i64 d)] [] = some (.d (.tup [eTable (grantD t m d).1, .int .i64 (grantD t m d).2]), []) := by
 have hv := zjA t hL hH
 have hm := zjC m
 have ht := zlG d
 simp only [eTable, eMessage] at hv hm ⊢
 unfold grantD grantE
 by_cases h1 : tabV t = 0
 · obtain ⟨h12, hE, hD, hM⟩ := zix h1
   have ha := ziu hE
   have hf := zk3 t m.id (by omega) ha
   have hp := zoi t.heap (d, m.id) hH
   have hpl := zkb t.l m.id
   simp only [eTable, eD, eDE] at hf hp
   simp only [h1, ne_eq, not_true_eq_false, if_false]
   by_cases h2 : msgV m = 0
   · simp only [h2, not_true_eq_false, if_false]
     by_cases h3 : m.gen = 0
     · simp only [h3, if_true] at hm ⊢
       rw [zie zk (by simp)]; simp -implicitDefEqProofs (maxSteps := 4000000) (disch := omega) only [zh, zl, getDT, go_sem, *]; (try simp only [pA, pB, pC, pD, pE, pF, pG, pH, pI, pJ, pK, pL, pM, pN, pO, pP, if_true, if_false]); repeat' (first | done | rfl | ((first | refine iteC (fun hq => ?_) (fun hq => ?_) | refine iteP (fun hq => ?_) (fun hq => ?_)) <;> (try (first | (exfalso; omega) | contradiction)) <;> (try simp -implicitDefEqProofs (maxSteps := 4000000) (disch := omega) only [getDT, go_sem, *]) <;> (try simp only [pA, pB, pC, pD, pE, pF, pG, pH, pI, pJ, pK, pL, pM, pN, pO, pP, if_true, if_false]))); (all_goals try rfl); (all_goals try (repeat' (first | done | rfl | (exfalso; omega) | contradiction | (refine iteR (fun hq => ?_) (fun hq => ?_))))) /-A0-/
     · simp only [h3, if_false]
       by_cases h4 : 0 ≤ d ∧ d ≤ 1073741824
       · simp only [h4, and_self, not_true_eq_false, if_false, decide_true] at ht ⊢
         by_cases h5 : t.l.length = 12
         · simp only [h5, if_true]
           rw [zie zk (by simp)]; simp -implicitDefEqProofs (maxSteps := 4000000) (disch := omega) only [zh, zl, getDT, go_sem, *]; (try simp only [pA, pB, pC, pD, pE, pF, pG, pH, pI, pJ, pK, pL, pM, pN, pO, pP, if_true, if_false]); repeat' (first | done | rfl | ((first | refine iteC (fun hq => ?_) (fun hq => ?_) | refine iteP (fun hq => ?_) (fun hq => ?_)) <;> (try (first | (exfalso; omega) | contradiction)) <;> (try simp -implicitDefEqProofs (maxSteps := 4000000) (disch := omega) only [getDT, go_sem, *]) <;> (try simp only [pA, pB, pC, pD, pE, pF, pG, pH, pI, pJ, pK, pL, pM, pN, pO, pP, if_true, if_false]))); (all_goals try rfl); (all_goals try (repeat' (first | done | rfl | (exfalso; omega) | contradiction | (refine iteR (fun hq => ?_) (fun hq => ?_))))) /-A1-/
         · simp only [h5, if_false]
           by_cases h6 : 0 ≤ findL t.l m.id
           · simp only [h6, if_true, decide_true] at hf ⊢
             rw [zie zk (by simp)]; simp -implicitDefEqProofs (maxSteps := 4000000) (disch := omega) only [zh, zl, getDT, go_sem, *]; (try simp only [pA, pB, pC, pD, pE, pF, pG, pH, pI, pJ, pK, pL, pM, pN, pO, pP, if_true, if_false]); repeat' (first | done | rfl | ((first | refine iteC (fun hq => ?_) (fun hq => ?_) | refine iteP (fun hq => ?_) (fun hq => ?_)) <;> (try (first | (exfalso; omega) | contradiction)) <;> (try simp -implicitDefEqProofs (maxSteps := 4000000) (disch := omega) only [getDT, go_sem, *]) <;> (try simp only [pA, pB, pC, pD, pE, pF, pG, pH, pI, pJ, pK, pL, pM, pN, pO, pP, if_true, if_false]))); (all_goals try rfl); (all_goals try (repeat' (first | done | rfl | (exfalso; omega) | contradiction | (refine iteR (fun hq => ?_) (fun hq => ?_))))) /-A2-/
           · simp only [h6, if_false, decide_false] at hf ⊢
             by_cases h7 : (pushD t.heap (d, m.id)).2 = 0
             · simp only [h7, if_true]
               have hi := zsO t.l m d
               rw [h7] at hp
               simp only [hi, eLease]
               by_cases h8 : t.l = []
               · have hc := crow0
                 have hpz : posL t.l m.id = 0 := by rw [h8]; rfl
                 have hin : callL G z2w [.xsl [], .d (.int .i64 0), .d (.sl [.agg [.int .i64 m.id, .int .i64 m.route, .int .i64 m.epoch, .int .i64 m.count, .int .i64 m.gen, .int .i64 m.sent, .str m.body, .int .i64 d]])] [] = some (.d (.sl [.agg [.int .i64 m.id, .int .i64 m.route, .int .i64 m.epoch, .int .i64 m.count, .int .i64 m.gen, .int .i64 m.sent, .str m.body, .int .i64 d]]), []) := zsW z7N _ rfl
                 simp only [hpz, h8, List.map_nil, List.take_nil, List.drop_nil] at *
                 rw [zie zk (by simp)]; simp -implicitDefEqProofs (maxSteps := 4000000) (disch := omega) only [zh, zl, getDT, go_sem, *] /-A3-/
               · have hc := crow t.l h8 (by omega)
                 have hne : t.l.map eLease ≠ [] := by simpa using h8
                 have hin := zsV z7N (t.l.map eLease) (eLease ⟨m, d⟩) (posL t.l m.id) hne (by simpa using hpl) (fun e he => by rcases List.mem_cons.1 he with rfl | he; rfl; obtain ⟨x, _, rfl⟩ := List.mem_map.1 he; rfl) (by simp; omega)
                 rw [List.length_map] at hin
                 simp only [eLease] at hin
                 rw [zie zk (by simp)]; simp -implicitDefEqProofs (maxSteps := 4000000) (disch := omega) only [zh, zl, getDT, go_sem, *] /-A4-/
             · simp only [h7, if_false]
               rw [zie zk (by simp)]; simp -implicitDefEqProofs (maxSteps := 4000000) (disch := omega) only [zh, zl, getDT, go_sem, *]; (try simp only [pA, pB, pC, pD, pE, pF, pG, pH, pI, pJ, pK, pL, pM, pN, pO, pP, if_true, if_false]); repeat' (first | done | rfl | ((first | refine iteC (fun hq => ?_) (fun hq => ?_) | refine iteP (fun hq => ?_) (fun hq => ?_)) <;> (try (first | (exfalso; omega) | contradiction)) <;> (try simp -implicitDefEqProofs (maxSteps := 4000000) (disch := omega) only [getDT, go_sem, *]) <;> (try simp only [pA, pB, pC, pD, pE, pF, pG, pH, pI, pJ, pK, pL, pM, pN, pO, pP, if_true, if_false]))); (all_goals try rfl); (all_goals try (repeat' (first | done | rfl | (exfalso; omega) | contradiction | (refine iteR (fun hq => ?_) (fun hq => ?_))))) /-A5-/
       · simp only [h4, not_false_eq_true, if_true, decide_false] at ht ⊢
         rw [zie zk (by simp)]; simp -implicitDefEqProofs (maxSteps := 4000000) (disch := omega) only [zh, zl, getDT, go_sem, *]; (try simp only [pA, pB, pC, pD, pE, pF, pG, pH, pI, pJ, pK, pL, pM, pN, pO, pP, if_true, if_false]); repeat' (first | done | rfl | ((first | refine iteC (fun hq => ?_) (fun hq => ?_) | refine iteP (fun hq => ?_) (fun hq => ?_)) <;> (try (first | (exfalso; omega) | contradiction)) <;> (try simp -implicitDefEqProofs (maxSteps := 4000000) (disch := omega) only [getDT, go_sem, *]) <;> (try simp only [pA, pB, pC, pD, pE, pF, pG, pH, pI, pJ, pK, pL, pM, pN, pO, pP, if_true, if_false]))); (all_goals try rfl); (all_goals try (repeat' (first | done | rfl | (exfalso; omega) | contradiction | (refine iteR (fun hq => ?_) (fun hq => ?_))))) /-A6-/
   · simp only [h2, not_false_eq_true, if_true, if_false]
     rw [zie zk (by simp)]; simp -implicitDefEqProofs (maxSteps := 4000000) (disch := omega) only [zh, zl, getDT, go_sem, *]; (try simp only [pA, pB, pC, pD, pE, pF, pG, pH, pI, pJ, pK, pL, pM, pN, pO, pP, if_true, if_false]); repeat' (first | done | rfl | ((first | refine iteC (fun hq => ?_) (fun hq => ?_) | refine iteP (fun hq => ?_) (fun hq => ?_)) <;> (try (first | (exfalso; omega) | contradiction)) <;> (try simp -implicitDefEqProofs (maxSteps := 4000000) (disch := omega) only [getDT, go_sem, *]) <;> (try simp only [pA, pB, pC, pD, pE, pF, pG, pH, pI, pJ, pK, pL, pM, pN, pO, pP, if_true, if_false]))); (all_goals try rfl); (all_goals try (repeat' (first | done | rfl | (exfalso; omega) | contradiction | (refine iteR (fun hq => ?_) (fun hq => ?_))))) /-A7-/
 · simp only [h1, ne_eq, not_false_eq_true, if_true, if_false]
   rw [zie zk (by simp)]; simp -implicitDefEqProofs (maxSteps := 4000000) (disch := omega) only [zh, zl, getDT, go_sem, *]; (try simp only [pA, pB, pC, pD, pE, pF, pG, pH, pI, pJ, pK, pL, pM, pN, pO, pP, if_true, if_false]); repeat' (first | done | rfl | ((first | refine iteC (fun hq => ?_) (fun hq => ?_) | refine iteP (fun hq => ?_) (fun hq => ?_)) <;> (try (first | (exfalso; omega) | contradiction)) <;> (try simp -implicitDefEqProofs (maxSteps := 4000000) (disch := omega) only [getDT, go_sem, *]) <;> (try simp only [pA, pB, pC, pD, pE, pF, pG, pH, pI, pJ, pK, pL, pM, pN, pO, pP, if_true, if_false]))); (all_goals try rfl); (all_goals try (repeat' (first | done | rfl | (exfalso; omega) | contradiction | (refine iteR (fun hq => ?_) (fun hq => ?_))))) /-A8-/
def findT (t : Table) (id : Int) : Lease × Bool := if tabV t = 0 ∧ 0 ≤ findL t.l id then (t.l.getD (findL t.l id).toNat zLease, true) else (zLease, false)
theorem find_ok (t : Table) (id : Int) (hL : t.l.length ≤ 4294967296) (hH : t.heap.length ≤ 4294967296) : callL G z1o [.d (eTable t), .d (.int .i64 id)] [] = some (.d (.tup [eLease (findT t id).1, .bool (findT t id).2]), []) := by
 have hv := zjA t hL hH
 unfold findT
 by_cases h1 : tabV t = 0
 · obtain ⟨h12, hE, hD, hM⟩ := zix h1
   have ha := ziu hE
   have hf := zk3 t id (by omega) ha
   by_cases h6 : 0 ≤ findL t.l id
   · obtain ⟨hp, e⟩ := (ziR ha id).1 h6
     have e2 := zjv ha h6
     simp only [h1, h6, and_self, if_true, decide_true] at hf ⊢
     rw [e2, Int.toNat_natCast, getDT hp]
     simp only [eTable, eLease] at hv hf ⊢
     rw [h1] at hv
     clear e e2 h6
     rw [zie z59 (by simp)]; simp -implicitDefEqProofs (maxSteps := 4000000) (disch := omega) only [z3b, z5V, eLease, getDT, go_sem, *] /-A9-/
   · simp only [h1, h6, and_false, if_false, decide_false] at hf ⊢
     simp only [eTable, eLease, zLease, zMessage] at hv hf ⊢
     rw [h1] at hv
     rw [zie z59 (by simp)]; simp -implicitDefEqProofs (maxSteps := 4000000) (disch := omega) only [z3b, z5V, getDT, go_sem, *] /-A10-/
 · simp only [h1, false_and, if_false]
   simp only [eTable, eLease, zLease, zMessage] at hv ⊢
   rw [zie z59 (by simp)]; simp -implicitDefEqProofs (maxSteps := 4000000) (disch := omega) only [z3b, z5V, getDT, go_sem, *] /-A11-/
def dropI (l : List Lease) (i : Nat) : List Lease := l.take i ++ l.drop (i + 1)
theorem zx3 (l : List Lease) (i : Nat) (hi : i < l.length) (hL : l.length ≤ 1000) : callL G z1u [.d (.sl (l.map eLease)), .d (.int .i64 i)] [] = some (.d (.sl ((dropI l i).map eLease)), []) := by
 have hne : l ≠ [] := by rintro rfl; simp at hi
 have hc := crow l hne hL
 have hd := zqO zbc (l.map eLease) i (i + 1) (by omega) (by simp; omega) (fun e he => by obtain ⟨x, _, rfl⟩ := List.mem_map.1 he; rfl) (by simp; omega)
 rw [List.length_map] at hd
 simp only [Int.natCast_add, Int.natCast_one] at hd
 simp only [dropI, List.map_append, List.map_take, List.map_drop]
 rw [zie zaw (by simp)]; simp -implicitDefEqProofs (maxSteps := 4000000) (disch := omega) only [z9l, zdu, getDT, go_sem, *] /-A12-/
def relE (t : Table) (id : Int) : Int := if tabV t ≠ 0 then tabV t else if ¬ 0 ≤ findL t.l id then 4 else (removeD t.heap id).2
def relD (t : Table) (id : Int) : Table × Message × Int := if relE t id = 0 then (⟨dropI t.l (findL t.l id).toNat, (removeD t.heap id).1⟩, (t.l.getD (findL t.l id).toNat zLease).msg, 0) else (zTable, zMessage, relE t id)
theorem rel_ok (t : Table) (id : Int) (hL : t.l.length ≤ 4294967296) (hH : t.heap.length ≤ 4294967296) : callL G z1r [.d (eTable t), .d (.int .i64 id)] [] = some (.d (.tup [eTable (relD t id).1, eMessage (relD t id).2.1, .int .i64 (relD t id).2.2]), []) := by
 have hv := zjA t hL hH
 have hr := zow t.heap id hH
 unfold relD relE
 simp only [eDE] at hr
 by_cases h1 : tabV t = 0
 · obtain ⟨h12, hE, hD, hM⟩ := zix h1
   have ha := ziu hE
   have hf := zk3 t id (by omega) ha
   simp only [h1, ne_eq, not_true_eq_false, if_false]
   by_cases h6 : 0 ≤ findL t.l id
   · obtain ⟨hp, e⟩ := (ziR ha id).1 h6
     have e2 := zjv ha h6
     have hw := zx3 t.l (posL t.l id) hp (by omega)
     simp only [h6, not_true_eq_false, if_false, decide_true] at hf ⊢
     by_cases h7 : (removeD t.heap id).2 = 0
     · simp only [h7, if_true]
       rw [e2, Int.toNat_natCast, getDT hp]
       simp only [eTable, eMessage] at hv hf ⊢
       rw [h1] at hv
       rw [h7] at hr
       clear e e2 h6
       rw [zie z2F (by simp)]; simp -implicitDefEqProofs (maxSteps := 4000000) (disch := omega) only [z2y, z34, eLease, getDT, go_sem, *] /-A13-/
     · simp only [h7, if_false]
       simp only [eTable, eMessage, zTable, zMessage] at hv hf ⊢
       rw [h1] at hv
       rw [zie z2F (by simp)]; simp -implicitDefEqProofs (maxSteps := 4000000) (disch := omega) only [z2y, z34, getDT, go_sem, *] /-A14-/
   · simp only [h6, not_false_eq_true, if_true, decide_false] at hf ⊢
     simp only [eTable, eMessage, zTable, zMessage] at hv hf ⊢
     rw [h1] at hv
     rw [zie z2F (by simp)]; simp -implicitDefEqProofs (maxSteps := 4000000) (disch := omega) only [z2y, z34, getDT, go_sem, *] /-A15-/
 · simp only [h1, ne_eq, not_false_eq_true, if_true, if_false]
   simp only [eTable, eMessage, zTable, zMessage] at hv ⊢
   rw [zie z2F (by simp)]; simp -implicitDefEqProofs (maxSteps := 4000000) (disch := omega) only [z2y, z34, getDT, go_sem, *] /-A16-/
def extE (t : Table) (id d : Int) : Int := if tabV t ≠ 0 then tabV t else if ¬ 0 ≤ findL t.l id then 4 else if ¬ (0 ≤ d ∧ d ≤ 1073741824) then 1 else if (removeD t.heap id).2 ≠ 0 then (removeD t.heap id).2 else (pushD (removeD t.heap id).1 (d, id)).2
def setD (l : List Lease) (i : Nat) (d : Int) : List Lease := l.set i { l.getD i zLease with deadline := d }
def extD (t : Table) (id d : Int) : Table × Int := if extE t id d = 0 then (⟨setD t.l (findL t.l id).toNat d, (pushD (removeD t.heap id).1 (d, id)).1⟩, 0) else (zTable, extE t id d)
theorem ext_ok (t : Table) (id d : Int) (hL : t.l.length ≤ 4294967296) (hH : t.heap.length ≤ 4294967296) : callL G z1n [.d (eTable t), .d (.int .i64 id), .d (.int .i64 d)] [] = some (.d (.tup [eTable (extD t id d).1, .int .i64 (extD t id d).2]), []) := by
 have hv := zjA t hL hH
 have hr := zow t.heap id hH
 have ht := zlG d
 unfold extD extE
 simp only [eDE] at hr
 by_cases h1 : tabV t = 0
 · obtain ⟨h12, hE, hD, hM⟩ := zix h1
   have ha := ziu hE
   have hf := zk3 t id (by omega) ha
   simp only [h1, ne_eq, not_true_eq_false, if_false]
   by_cases h6 : 0 ≤ findL t.l id
   · obtain ⟨hp, e⟩ := (ziR ha id).1 h6
     have e2 := zjv ha h6
     simp only [h6, not_true_eq_false, if_false, decide_true] at hf ⊢
     by_cases h4 : 0 ≤ d ∧ d ≤ 1073741824
     · simp only [h4, and_self, not_true_eq_false, if_false, decide_true] at ht ⊢
       by_cases h7 : (removeD t.heap id).2 = 0
       · have hrl : (removeD t.heap id).1.length ≤ 4294967296 := zov t.heap id hH
         have hp2 := zoi (removeD t.heap id).1 (d, id) hrl
         simp only [eDE, eD] at hp2
         simp only [h7, not_true_eq_false, if_false]
         by_cases h8 : (pushD (removeD t.heap id).1 (d, id)).2 = 0
         · simp only [h8, if_true]
           have hne : t.l ≠ [] := by rintro h; rw [h] at hp; simp at hp
           have hc := crow t.l hne (by omega)
           have hst : (setD t.l (posL t.l id) d).map eLease = (t.l.map eLease).set (posL t.l id) (eLease { t.l[posL t.l id] with deadline := d }) := by
             simp only [setD, List.map_set, getDT hp]
           rw [e2, Int.toNat_natCast]
           rw [h7] at hr
           rw [h8] at hp2
           simp only [eTable, hst] at hv hf ⊢
           rw [h1] at hv
           simp only [eLease]
           clear e e2 h6
           rw [zie z0g (by simp)]; simp -implicitDefEqProofs (maxSteps := 4000000) (disch := omega) only [z0a, z0i, eLease, getDT, go_sem, *] /-A17-/
         · simp only [h8, if_false]
           rw [h7] at hr
           simp only [eTable, zTable] at hv hf ⊢
           rw [h1] at hv
           rw [zie z0g (by simp)]; simp -implicitDefEqProofs (maxSteps := 4000000) (disch := omega) only [z0a, z0i, getDT, go_sem, *] /-A18-/
       · simp only [h7, not_false_eq_true, if_true, if_false]
         simp only [eTable, zTable] at hv hf ⊢
         rw [h1] at hv
         rw [zie z0g (by simp)]; simp -implicitDefEqProofs (maxSteps := 4000000) (disch := omega) only [z0a, z0i, getDT, go_sem, *] /-A19-/
     · simp only [h4, not_false_eq_true, if_true, decide_false] at ht ⊢
       simp only [eTable, zTable] at hv hf ⊢
       rw [h1] at hv
       rw [zie z0g (by simp)]; simp -implicitDefEqProofs (maxSteps := 4000000) (disch := omega) only [z0a, z0i, getDT, go_sem, *] /-A20-/
   · simp only [h6, not_false_eq_true, if_true, decide_false] at hf ⊢
     simp only [eTable, zTable] at hv hf ⊢
     rw [h1] at hv
     rw [zie z0g (by simp)]; simp -implicitDefEqProofs (maxSteps := 4000000) (disch := omega) only [z0a, z0i, getDT, go_sem, *] /-A21-/
 · simp only [h1, ne_eq, not_false_eq_true, if_true, if_false]
   simp only [eTable, zTable] at hv ⊢
   rw [zie z0g (by simp)]; simp -implicitDefEqProofs (maxSteps := 4000000) (disch := omega) only [z0a, z0i, getDT, go_sem, *] /-A22-/
end Go.Proofs.YtcjncbkhbllchaaGreat.L
