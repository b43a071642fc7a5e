/-
  The ids of a shard in order.
  The reader: handles; the numbers of the shard laws.
  The loop of ShardConserves that compares the ids.
  Ids in order: what the comparison of ShardConserves meets.
  What each lease that Take gives must meet.
  The loop of ShardLeases.
  What Take of a valid shard gives, for the law.
  The law Leases of shards (awake given).
  Shards: room, has (before the layer).
  Shards at the layered table: put, Put, New.
  awake of the shard laws, at the layered table.
  The law Conserves of shards.
-/
import Derived.Test.YtcjncbkhbllchaaGreatBe838963
import Derived.Test.YtcjncbkhbllchaaGreatB360f7d0
import Derived.Test.YtcjncbkhbllchaaGreatB9b25721
import Derived.Test.YtcjncbkhbllchaaGreatB532d97a
import Derived.Test.YtcjncbkhbllchaaGreatB6fdd320
set_option linter.unusedSimpArgs false
set_option linter.unusedVariables false
namespace Go.Proofs.YtcjncbkhbllchaaGreat
open Go Go.Sim
set_option linter.unusedSimpArgs false
set_option linter.unusedVariables false
set_option maxHeartbeats 10000000
set_option maxRecDepth 40000
def atI (out : List Int) (x : Int) : Nat → Nat
 | 0 => 0
 | k + 1 => if x < out.getD k 0 then atI out x k else k + 1
theorem atI_le (out : List Int) (x : Int) : ∀ k, atI out x k ≤ k := by
 intro k
 induction k with
 | zero => exact Nat.le_refl _
 | succ k ih => unfold atI; split <;> omega
def idS (o : Nat) (w : List Message) (out : List Int) (i k : Nat) : St := ⟨[(3, .acc o (ints out)), (4, .d (.sl (w.map eMessage))), (5, .d (.int .i64 i)), (6, .d (.int .i64 k))], [(o, .acc out.length)]⟩
theorem zsB (o : Nat) (w : List Message) (out : List Int) (i : Nat) (hi : i < w.length) (h1 : w.length ≤ 24) (h2 : out.length ≤ 24) : ∀ k, k ≤ out.length → loopL G [] zy (idS o w out i k) = some (.exit 2, idS o w out i (atI out w[i].id k)) := by
 refine zii (fun k => k) (fun k => k ≤ out.length) (idS o w out i) (fun k => some (.exit 2, idS o w out i (atI out w[i].id k))) fun k hk L ih => ?_
 cases k with
 | zero =>
   clear ih
   simp only [idS, atI, zy]
   simp -implicitDefEqProofs (maxSteps := 4000000) (disch := omega) only [getDT, go_sem, *] /-A0-/
 | succ k =>
   have i1 := ih k (by omega) (by omega)
   clear ih
   unfold atI
   have e : ((k : Int) + 1) - 1 = k := by omega
   have e2 : (((k : Int) + 1) - 1).toNat = k := by omega
   by_cases c : w[i].id < out.getD k 0
   · rw [if_pos c]
     generalize idS o w out i (atI out w[i].id k) = R at *
     rw [getDT (by omega)] at c
     simp only [idS, zy] at *
     simp -implicitDefEqProofs (maxSteps := 4000000) (disch := omega) only [eMessage, ints, getDT, go_sem, *] /-A1-/
   · rw [if_neg c]
     clear i1
     rw [getDT (by omega)] at c
     simp only [idS, zy]
     simp -implicitDefEqProofs (maxSteps := 4000000) (disch := omega) only [eMessage, ints, getDT, go_sem, *] /-A2-/
theorem zsC (w : List Message) (i : Nat) (hi : i < w.length) : loopL G [] zy ⟨[(3, .d (.sl [])), (4, .d (.sl (w.map eMessage))), (5, .d (.int .i64 i)), (6, .d (.int .i64 0))], []⟩ = some (.exit 2, ⟨[(3, .d (.sl [])), (4, .d (.sl (w.map eMessage))), (5, .d (.int .i64 i)), (6, .d (.int .i64 0))], []⟩) := by
 rw [ziy]
 simp only [zy]
 simp -implicitDefEqProofs (maxSteps := 4000000) (disch := omega) only [getDT, go_sem, *] /-A3-/
def insI (out : List Int) (x : Int) : List Int := out.take (atI out x out.length) ++ [x] ++ out.drop (atI out x out.length)
def idsF : List Message → List Int → List Int
 | [], out => out
 | m :: l, out => idsF l (insI out m.id)
theorem zsK (out : List Int) (x : Int) : (insI out x).length = out.length + 1 := by
 have h := atI_le out x out.length
 unfold insI
 simp only [List.length_append, List.length_take, List.length_drop, List.length_singleton]
 omega
def oS (w : List Message) (t : List Int × Nat) : St := ⟨[(3, .acc 37 (ints t.1)), (4, .d (.sl (w.map eMessage))), (5, .d (.int .i64 t.2))], [(37, .acc t.1.length)]⟩
theorem zsE (w : List Message) (h1 : w.length ≤ 24) : ∀ t : List Int × Nat, t.2 ≤ w.length ∧ t.1.length = t.2 ∧ t.1 ≠ [] → loopL G [] zf (oS w t) = some (.exit 0, ⟨[(3, .acc 37 (ints (idsF (w.drop t.2) t.1)))], [(37, .acc (idsF (w.drop t.2) t.1).length)]⟩) := by
 refine zii (fun t => w.length - t.2) (fun t : List Int × Nat => t.2 ≤ w.length ∧ t.1.length = t.2 ∧ t.1 ≠ []) (oS w) (fun t => some (.exit 0, ⟨[(3, .acc 37 (ints (idsF (w.drop t.2) t.1)))], [(37, .acc (idsF (w.drop t.2) t.1).length)]⟩)) fun t ht L ih => ?_
 obtain ⟨out, i⟩ := t
 obtain ⟨hi, h2, h0⟩ := ht
 simp only at hi h2 h0
 by_cases hlt : i < w.length
 · have hl := zsB 37 w out i hlt h1 (by omega) out.length (Nat.le_refl _)
   have ha := atI_le out w[i].id out.length
   have hn : out.length ≠ 0 := fun e => h0 (List.eq_nil_of_length_eq_zero e)
   have hh : Option.map AV.size (List.map AV.d (List.map (D.int IntKind.i64) out)).head? = some 1 := by
     cases out with
     | nil => exact absurd rfl h0
     | cons x l => rfl
   have hlen := zsK out w[i].id
   have i1 := ih ⟨insI out w[i].id, i + 1⟩ ⟨by simp only; omega, by simp only; omega, fun e => by simp only at e; rw [e] at hlen; cases hlen⟩ (by simp only; omega)
   clear ih
   have hx : idsF (w.drop i) out = idsF (w.drop (i + 1)) (insI out w[i].id) := by rw [List.drop_eq_getElem_cons hlt]; rfl
   simp only [hx]
   simp only [oS] at i1
   rw [hlen] at i1
   generalize idsF (w.drop (i + 1)) (insI out w[i].id) = R at *
   have h3 : out.length ≤ 24 := by omega
   clear hx hlen h2
   unfold insI at i1
   generalize atI out w[i].id out.length = k at *
   have hk : k ≤ 4294967296 := by omega
   have hk2 : (k : Int) ≤ out.length := by omega
   have hdr : (out.drop k).length = out.length - k := List.length_drop
   have htk : (out.drop k).take (out.length - k) = out.drop k := List.take_of_length_le (by rw [hdr]; exact Nat.le_refl _)
   by_cases c0 : k = 0
   · subst c0
     have e1 : 1 + out.length = out.length + 1 := by omega
     simp only [List.take_zero, List.drop_zero, List.nil_append, List.cons_append] at i1
     simp only [oS, idS, zf, ints, List.map_append, List.map_cons, List.map_nil] at *
     simp only [Int.natCast_add, Int.natCast_one, Int.natCast_zero, Int.natCast_mul, Int.cast_ofNat_Int, List.length_append, List.length_map, List.map_nil, List.length_nil, List.map_append, List.map_cons, List.length_cons, Nat.zero_add, srcO, mapSet] at i1
     simp -implicitDefEqProofs (maxSteps := 4000000) (disch := omega) only [eMessage, List.take_zero, List.drop_zero, List.nil_append, getDT, go_sem, *] /-A4-/
   · have hm : min k out.length = k := by omega
     by_cases c1 : k = out.length
     · subst c1
       simp only [List.take_length, List.drop_length, List.append_nil] at i1
       simp only [oS, idS, zf, ints, List.map_append, List.map_cons, List.map_nil] at *
       simp only [Int.natCast_add, Int.natCast_one, Int.natCast_zero, Int.natCast_mul, Int.cast_ofNat_Int, List.length_append, List.length_map, List.map_nil, List.length_nil, List.map_append, List.map_cons, List.length_cons, Nat.zero_add, srcO, mapSet] at i1
       simp -implicitDefEqProofs (maxSteps := 4000000) (disch := omega) only [eMessage, Nat.sub_zero, Nat.sub_self, List.take_nil, List.take_zero, allD, List.append_nil, Nat.min_self, getDT, go_sem, *] /-A5-/
     · have e1 : k + 1 + (out.length - k) = out.length + 1 := by omega
       have e2 : out.length + 1 ≤ 4294967296 := by omega
       simp only [oS, idS, zf, ints, List.map_append, List.map_cons, List.map_nil] at *
       simp only [Int.natCast_add, Int.natCast_one, Int.natCast_zero, Int.natCast_mul, Int.cast_ofNat_Int, List.length_append, List.length_map, List.map_nil, List.length_nil, List.map_append, List.map_cons, List.length_cons, Nat.zero_add, srcO, mapSet] at i1
       simp -implicitDefEqProofs (maxSteps := 4000000) (disch := omega) only [eMessage, Nat.sub_zero, Nat.sub_self, List.take_nil, List.take_zero, allD, List.append_nil, Nat.min_self, getDT, go_sem, *] /-A6-/
 · clear ih
   obtain rfl : i = w.length := by omega
   simp only [List.drop_length, idsF, oS, zf]
   simp -implicitDefEqProofs (maxSteps := 4000000) (disch := omega) only [getDT, go_sem, *] /-A7-/
theorem zsD (w : List Message) (R : List Int) (hl : w.length ≤ 24) (hp : 0 < w.length) (h2 : loopL G [] zf (oS w ([w[0].id], 1)) = some (.exit 0, ⟨[(3, .acc 37 (ints R))], [(37, .acc R.length)]⟩)) : loopL G [] zf ⟨[(3, .d (.sl [])), (4, .d (.sl (w.map eMessage))), (5, .d (.int .i64 0))], []⟩ = some (.exit 0, ⟨[(3, .acc 37 (ints R))], [(37, .acc R.length)]⟩) := by
 have h0 := zsC w 0 hp
 rw [ziy]
 generalize loopL G [] zf = L at *
 simp only [oS, ints, List.map_cons, List.map_nil, List.length_cons, List.length_nil, Int.natCast_zero, Int.natCast_one] at *
 simp only [Int.natCast_add, Int.natCast_one, Int.natCast_zero, Int.natCast_mul, Int.cast_ofNat_Int, List.length_append, List.length_map, List.map_nil, List.length_nil, List.map_append, List.map_cons, List.length_cons, Nat.zero_add, srcO, mapSet] at h2
 simp only [zf]
 simp -implicitDefEqProofs (maxSteps := 4000000) (disch := omega) only [eMessage, ints, Nat.sub_self, List.take_nil, List.take_zero, allD, List.append_nil, getDT, go_sem, *] /-A8-/
theorem ids_ok (s : Shard) (hr : ringV s.ready = 0) (h1 : s.leases.l.length ≤ 12) : callL G zg [.d (eShard s)] [] = some (.d (.sl (ints (idsF (shMsgs s) []))), []) := by
 have ha := zmm hr h1
 have hl := zjI hr h1
 generalize shMsgs s = w at *
 clear hr h1
 by_cases hp : 0 < w.length
 · have h2 := zsE w hl ⟨[w[0].id], 1⟩ ⟨by simp only; omega, by simp, by simp⟩
   have e : idsF w [] = idsF (w.drop 1) [w[0].id] := by
     cases w with
     | nil => cases hp
     | cons m w => rfl
   rw [e]
   simp only at h2
   generalize idsF (w.drop 1) [w[0].id] = R at *
   clear e
   have h3 := zsD w R hl hp h2
   clear h2
   simp only [eShard] at *
   rw [zie zas (by simp)]; simp -implicitDefEqProofs (maxSteps := 4000000) (disch := omega) only [z6n, z8C, getDT, go_sem, *] /-A9-/
 · have hw : w = [] := by cases w with
     | nil => rfl
     | cons m w => simp at hp
   subst hw
   simp only [idsF]
   simp only [eShard, List.map_nil] at *
   rw [zie zas (by simp)]; simp -implicitDefEqProofs (maxSteps := 4000000) (disch := omega) only [z6n, z8C, ziy, zf, getDT, go_sem, *] /-A10-/
end Go.Proofs.YtcjncbkhbllchaaGreat

namespace Go.Proofs.YtcjncbkhbllchaaGreat
open Go Go.Sim
set_option linter.unusedSimpArgs false
set_option linter.unusedVariables false
set_option maxHeartbeats 10000000
set_option maxRecDepth 40000
theorem zuc (l : List Int) (a : Nat) (hL : l.length ≤ 4000) : callL G zP [.d (.pd (.agg [.sl (ints l), .int .i64 a]))] [] = some (.d (.bool (decide ((a : Int) < l.length))), []) := by
 rw [zie zes (by simp)]; simp -implicitDefEqProofs (maxSteps := 4000000) (disch := omega) only [z8Z, zd8, getDT, go_sem, *] /-A0-/
theorem zlP (l : List Int) (a : Nat) (xs : List Int) (hL : l.length ≤ 4000) (h1 : 1 ≤ xs.length) (h2 : xs.length ≤ 1000) : callL G zQ [.ref 1000000 0 0, .d (.sl (ints xs))] [(1000000, srcO l a)] = some (.d (.int .i64 (xs.getD (nD l a xs.length).toNat 0)), [(1000000, srcO l (rawD l a).2)]) := by
 have hn := n_ok l a xs.length hL (by omega) (by omega)
 have hb := nD_in l a (n := xs.length) (by omega)
 obtain ⟨i, hi⟩ : ∃ i : Nat, nD l a xs.length = i := ⟨(nD l a xs.length).toNat, by omega⟩
 rw [hi] at hn hb ⊢
 have hlt : i < xs.length := by omega
 rw [show ((i : Int)).toNat = i by omega, getDT hlt]
 clear hb hi
 rw [zie zad (by simp)]; simp -implicitDefEqProofs (maxSteps := 4000000) (disch := omega) only [z6i, z8x, getDT, go_sem, *] /-A1-/
def handPhi (l : List Int) (r : Option (Go.Sim.AV × Heap)) : Prop := ∃ h a', r = some (.d (eHandle h), [(1000000, srcO l a')])
theorem zjW {l : List Int} {x1 x2 x3 x4 : Int} {a' : Nat} : Post (handPhi l) (some (.d (.agg [.int .i64 x1, .int .i64 x2, .int .i64 x3, .int .i64 x4]), [(1000000, srcO l a')])) := ⟨⟨x1, x2, x3, x4⟩, a', rfl⟩
theorem zst (l : List Int) (a : Nat) (x : Shard) (hL : l.length ≤ 4000) (h1 : x.leases.l.length ≤ 12) (hg : ∀ y ∈ x.leases.l, 0 ≤ y.msg.gen ∧ y.msg.gen ≤ 65536 ∧ 0 ≤ y.msg.route ∧ y.msg.route ≤ 65535) : Post (handPhi l) (callL G zO [.ref 1000000 0 0, .d (eShard x)] [(1000000, srcO l a)]) := by
 have q1 := zjj l a 1 20 hL (by omega) (by omega) (by omega) (by omega)
 obtain ⟨a1, z1⟩ : ∃ a1, (rawD l a).2 = a1 := ⟨_, rfl⟩
 rw [z1] at q1
 have q2 := zjj l a1 1 4 hL (by omega) (by omega) (by omega) (by omega)
 have b2 := nD_in l a1 (n := 4 - 1 + 1) (by omega)
 obtain ⟨a2, z2⟩ : ∃ a2, (rawD l a1).2 = a2 := ⟨_, rfl⟩
 rw [z2] at q2
 have q3 := n_ok l a2 65536 hL (by omega) (by omega)
 obtain ⟨a3, z3⟩ : ∃ a3, (rawD l a2).2 = a3 := ⟨_, rfl⟩
 rw [z3] at q3
 have q4 := n_ok l a3 6 hL (by omega) (by omega)
 obtain ⟨a4, z4⟩ : ∃ a4, (rawD l a3).2 = a4 := ⟨_, rfl⟩
 rw [z4] at q4
 generalize nD l a (20 - 1 + 1) = c1 at *
 generalize nD l a1 (4 - 1 + 1) = c2 at *
 generalize nD l a2 65536 = c3 at *
 generalize nD l a3 6 = c4 at *
 clear z1 z2 z3 z4
 by_cases h0 : x.leases.l.length = 0
 · have hn : x.leases.l = [] := List.eq_nil_of_length_eq_zero h0
   obtain ⟨lv, lo, hi, r, ⟨tl, th⟩⟩ := x
   simp only at hn
   subst hn
   clear hg h0 h1
   simp only [eShard, List.map_nil]
   rw [zie z2D (by simp)]; simp -implicitDefEqProofs (maxSteps := 4000000) (disch := omega) only [z0H, z0V, getDT, go_sem, *] /-A2-/
   all_goals exact zjW
 · have q5 := n_ok l a4 5 hL (by omega) (by omega)
   have b5 := nD_in l a4 (n := 5) (by omega)
   obtain ⟨a5, z5⟩ : ∃ a5, (rawD l a4).2 = a5 := ⟨_, rfl⟩
   rw [z5] at q5
   generalize nD l a4 5 = c5 at *
   clear z5
   have h01 : 0 < x.leases.l.length := by omega
   by_cases c0 : 0 < c5
   · have q6 := n_ok l a5 x.leases.l.length hL (by omega) (by omega)
     have b6 := nD_in l a5 (n := x.leases.l.length) (by omega)
     obtain ⟨i, hi⟩ : ∃ i : Nat, nD l a5 x.leases.l.length = i := ⟨(nD l a5 x.leases.l.length).toNat, by omega⟩
     rw [hi] at q6 b6
     obtain ⟨a6, z6⟩ : ∃ a6, (rawD l a5).2 = a6 := ⟨_, rfl⟩
     rw [z6] at q6
     have q7 := n_ok l a6 8 hL (by omega) (by omega)
     obtain ⟨a7, z7⟩ : ∃ a7, (rawD l a6).2 = a7 := ⟨_, rfl⟩
     rw [z7] at q7
     generalize nD l a6 8 = c7 at *
     have hlt : i < x.leases.l.length := by omega
     have hy := hg _ (List.getElem_mem hlt)
     clear z6 z7 hi hg b6 h0
     obtain ⟨lv, lo, hi, r, ⟨tl, th⟩⟩ := x
     simp only at *
     obtain ⟨y1, y2, y3, y4⟩ := hy
     simp only [eShard]
     by_cases k0 : c7 = 0
     · subst k0
       rw [zie z2D (by simp)]; simp -implicitDefEqProofs (maxSteps := 4000000) (disch := omega) only [z0H, z0V, eLease, getDT, go_sem, *] /-A3-/
       all_goals exact zjW
     · by_cases k1 : c7 = 1
       · subst k1
         rw [zie z2D (by simp)]; simp -implicitDefEqProofs (maxSteps := 4000000) (disch := omega) only [z0H, z0V, eLease, getDT, go_sem, *] /-A4-/
         all_goals exact zjW
       · rw [zie z2D (by simp)]; simp -implicitDefEqProofs (maxSteps := 4000000) (disch := omega) only [z0H, z0V, eLease, getDT, go_sem, *] /-A5-/
         all_goals exact zjW
   · clear hg
     simp only [eShard]
     rw [zie z2D (by simp)]; simp -implicitDefEqProofs (maxSteps := 4000000) (disch := omega) only [z0H, z0V, getDT, go_sem, *] /-A6-/
     all_goals exact zjW
def numPhi (l : List Int) (r : Option (Go.Sim.AV × Heap)) : Prop := ∃ x1 x2 x3 x4 x5 x6 x7 x8 a', r = some (.d (.agg [.int .i64 x1, .int .i64 x2, .int .i64 x3, .int .i64 x4, .int .i64 x5, .int .i64 x6, .int .i64 x7, .int .i64 x8]), [(1000000, srcO l a')])
theorem zux {l : List Int} {x1 x2 x3 x4 x5 x6 x7 x8 : Int} {a' : Nat} : Post (numPhi l) (some (.d (.agg [.int .i64 x1, .int .i64 x2, .int .i64 x3, .int .i64 x4, .int .i64 x5, .int .i64 x6, .int .i64 x7, .int .i64 x8]), [(1000000, srcO l a')])) := ⟨_, _, _, _, _, _, _, _, _, rfl⟩
theorem zuy (l : List Int) (a : Nat) (hL : l.length ≤ 4000) : Post (numPhi l) (callL G zV [.ref 1000000 0 0] [(1000000, srcO l a)]) := by
 have q1 := zjj l a 1 4 hL (by omega) (by omega) (by omega) (by omega)
 obtain ⟨a1, z1⟩ : ∃ a1, (rawD l a).2 = a1 := ⟨_, rfl⟩
 rw [z1] at q1
 have q2 := n_ok l a1 32 hL (by omega) (by omega)
 obtain ⟨a2, z2⟩ : ∃ a2, (rawD l a1).2 = a2 := ⟨_, rfl⟩
 rw [z2] at q2
 have q3 := zlP l a2 [0, 1, 10, 1000] hL (by simp) (by simp)
 obtain ⟨a3, z3⟩ : ∃ a3, (rawD l a2).2 = a3 := ⟨_, rfl⟩
 rw [z3] at q3
 have q4 := n_ok l a3 3 hL (by omega) (by omega)
 obtain ⟨a4, z4⟩ : ∃ a4, (rawD l a3).2 = a4 := ⟨_, rfl⟩
 rw [z4] at q4
 have q5 := zjj l a4 1 4 hL (by omega) (by omega) (by omega) (by omega)
 obtain ⟨a5, z5⟩ : ∃ a5, (rawD l a4).2 = a5 := ⟨_, rfl⟩
 rw [z5] at q5
 have q6 := zjj l a5 0 4 hL (by omega) (by omega) (by omega) (by omega)
 obtain ⟨a6, z6⟩ : ∃ a6, (rawD l a5).2 = a6 := ⟨_, rfl⟩
 rw [z6] at q6
 have q7 := zlP l a6 [0, 100, 20000, 32768, 40000] hL (by simp) (by simp)
 obtain ⟨a7, z7⟩ : ∃ a7, (rawD l a6).2 = a7 := ⟨_, rfl⟩
 rw [z7] at q7
 have q8 := n_ok l a7 65536 hL (by omega) (by omega)
 obtain ⟨a8, z8⟩ : ∃ a8, (rawD l a7).2 = a8 := ⟨_, rfl⟩
 rw [z8] at q8
 have q9 := n_ok l a8 16 hL (by omega) (by omega)
 have b9 := nD_in l a8 (n := 16) (by omega)
 obtain ⟨a9, z9⟩ : ∃ a9, (rawD l a8).2 = a9 := ⟨_, rfl⟩
 rw [z9] at q9
 generalize nD l a (4 - 1 + 1) = c1 at *
 generalize nD l a1 32 = c2 at *
 generalize List.getD [0, 1, 10, 1000] (nD l a2 (List.length [0, 1, 10, 1000])).toNat 0 = c3 at *
 generalize nD l a3 3 = c4 at *
 generalize nD l a4 (4 - 1 + 1) = c5 at *
 generalize nD l a5 (4 - 0 + 1) = c6 at *
 generalize List.getD [0, 100, 20000, 32768, 40000] (nD l a6 (List.length [0, 100, 20000, 32768, 40000])).toNat 0 = c7 at *
 generalize nD l a7 65536 = c8 at *
 generalize nD l a8 16 = c at *
 have hp := fun xs => zlP l a9 xs hL
 have p0 := hp [0, 6, 7] (by simp) (by simp)
 have p1 := hp [-1, 1073741824, 1073741825, 1073741814] (by simp) (by simp)
 have p2 := hp [-1, 1001] (by simp) (by simp)
 have p3 := hp [-1, 65536, 65537] (by simp) (by simp)
 have p4 := hp [0, 8, 9] (by simp) (by simp)
 have p5 := hp [-1, 12, 13] (by simp) (by simp)
 clear hp z1 z2 z3 z4 z5 z6 z7 z8 z9
 generalize List.getD _ _ _ = d0 at p0
 generalize List.getD _ _ _ = d1 at p1
 generalize List.getD _ _ _ = d2 at p2
 generalize List.getD _ _ _ = d3 at p3
 generalize List.getD _ _ _ = d4 at p4
 generalize List.getD _ _ _ = d5 at p5
 generalize (rawD l a9).2 = a10 at *
 simp only [ints, List.map_cons, List.map_nil] at p0 p1 p2 p3 p4 p5 q3 q7
 rcases (show c = 0 ∨ c = 1 ∨ c = 2 ∨ c = 3 ∨ c = 4 ∨ c = 5 ∨ 6 ≤ c by omega) with k | k | k | k | k | k | k
 all_goals (rw [zie zey (by simp)]; simp -implicitDefEqProofs (maxSteps := 4000000) (disch := omega) only [z9h, zdq, getDT, go_sem, *] /-A7-/)
 all_goals exact zux
end Go.Proofs.YtcjncbkhbllchaaGreat

namespace Go.Proofs.YtcjncbkhbllchaaGreat.L
open Go Go.Sim Go.Proofs.YtcjncbkhbllchaaGreat
set_option linter.unusedSimpArgs false
set_option linter.unusedVariables false
set_option maxHeartbeats 10000000
set_option maxRecDepth 40000
structure CKP where
 x : Shard
 y : Shard
 h : Handle
 t : List Int
 a : Nat
 i : Nat
 gone : Int
 B : List Int
 A : List Int
def ckS (p : CKP) (k j : Nat) : St := ⟨[(3, .ref 16 0 0), (4, .ref 4 0 0), (5, .d (.int .i64 p.i)), (7, .ref 7 0 0), (8, .d (.sl (ints p.B))), (9, .ref 9 0 0), (11, .d (.int .i64 p.gone)), (12, .d (.sl (ints p.A))), (13, .d (.int .i64 k)), (14, .d (.int .i64 j))], [(4, .row [.d (eShard p.x)]), (7, .row [.d (eHandle p.h)]), (9, .row [.d (eShard p.y)]), (16, srcO p.t p.a)]⟩
def ckE (p : CKP) : AExit × St := (.exit 3, ⟨[(3, .ref 16 0 0), (4, .ref 4 0 0), (5, .d (.int .i64 p.i)), (9, .ref 9 0 0)], [(4, .row [.d (eShard p.x)]), (9, .row [.d (eShard p.y)]), (16, srcO p.t p.a)]⟩)
def ckOK (p : CKP) (kk : Nat → Nat) : Prop := ∀ j (hj : j < p.B.length), (∃ hk : kk j < p.A.length, p.A[kk j] = p.B[j] ∧ kk (j + 1) = kk j + 1) ∨ ((∀ hk : kk j < p.A.length, p.A[kk j] ≠ p.B[j]) ∧ p.gone = 1 ∧ p.B[j] = p.h.id ∧ kk (j + 1) = kk j)
theorem zmK (p : CKP) (kk : Nat → Nat) (h1 : p.B.length ≤ 24) (h2 : p.A.length ≤ 24) (hkk : ∀ j, kk j ≤ j) (hok : ckOK p kk) : ∀ j, j ≤ p.B.length → loopL G [] zx (ckS p (kk j) j) = some (ckE p) := by
 refine zii (fun j => p.B.length - j) (fun j => j ≤ p.B.length) (fun j => ckS p (kk j) j) (fun _ => some (ckE p)) fun j hj L ih => ?_
 by_cases h0 : j < p.B.length
 · have i1 := ih (j + 1) (by omega) (by omega)
   have hk := hkk j
   have ho := hok j h0
   clear ih hok hkk
   have e : ((j + 1 : Nat) : Int) = (j : Int) + 1 := by omega
   obtain ⟨x, y, h, t, a, i, g, B, A⟩ := p
   simp only at *
   rcases ho with ⟨hlt, o1, o2⟩ | ⟨o1, o2, o3, o4⟩
   · rw [o2] at i1
     clear o2
     generalize kk j = k at *
     have e2 : ((k + 1 : Nat) : Int) = (k : Int) + 1 := by omega
     simp only [ckS, ckE, eShard, eHandle, zx] at *
     rw [e, e2] at i1
     clear e e2
     (try simp -implicitDefEqProofs (maxSteps := 4000000) (disch := omega) only [ints, getDT, go_sem, *]); (try simp only [pA, pB, pC, pD, pE, pF, pG, pH, pI, pJ, pK, pL, pM, pN, pO, pP, if_true, if_false]); repeat' (first | done | rfl | ((first | refine iteC (fun hq => ?_) (fun hq => ?_) | refine iteP (fun hq => ?_) (fun hq => ?_)) <;> (try (first | (exfalso; omega) | contradiction)) <;> (try simp -implicitDefEqProofs (maxSteps := 4000000) (disch := omega) only [ints, getDT, go_sem, *]) <;> (try simp only [pA, pB, pC, pD, pE, pF, pG, pH, pI, pJ, pK, pL, pM, pN, pO, pP, if_true, if_false]))); (all_goals try rfl); (all_goals try (repeat' (first | done | rfl | (exfalso; omega) | contradiction | (refine iteR (fun hq => ?_) (fun hq => ?_))))) /-A0-/
   · rw [o4] at i1
     clear o4
     subst o2
     generalize kk j = k at *
     by_cases hlt : k < A.length
     · have o1 := o1 hlt
       simp only [ckS, ckE, eShard, eHandle, zx] at *
       rw [e] at i1
       clear e
       (try simp -implicitDefEqProofs (maxSteps := 4000000) (disch := omega) only [ints, getDT, go_sem, *]); (try simp only [pA, pB, pC, pD, pE, pF, pG, pH, pI, pJ, pK, pL, pM, pN, pO, pP, if_true, if_false]); repeat' (first | done | rfl | ((first | refine iteC (fun hq => ?_) (fun hq => ?_) | refine iteP (fun hq => ?_) (fun hq => ?_)) <;> (try (first | (exfalso; omega) | contradiction)) <;> (try simp -implicitDefEqProofs (maxSteps := 4000000) (disch := omega) only [ints, getDT, go_sem, *]) <;> (try simp only [pA, pB, pC, pD, pE, pF, pG, pH, pI, pJ, pK, pL, pM, pN, pO, pP, if_true, if_false]))); (all_goals try rfl); (all_goals try (repeat' (first | done | rfl | (exfalso; omega) | contradiction | (refine iteR (fun hq => ?_) (fun hq => ?_))))) /-A1-/
     · clear o1
       simp only [ckS, ckE, eShard, eHandle, zx] at *
       rw [e] at i1
       clear e
       (try simp -implicitDefEqProofs (maxSteps := 4000000) (disch := omega) only [ints, getDT, go_sem, *]); (try simp only [pA, pB, pC, pD, pE, pF, pG, pH, pI, pJ, pK, pL, pM, pN, pO, pP, if_true, if_false]); repeat' (first | done | rfl | ((first | refine iteC (fun hq => ?_) (fun hq => ?_) | refine iteP (fun hq => ?_) (fun hq => ?_)) <;> (try (first | (exfalso; omega) | contradiction)) <;> (try simp -implicitDefEqProofs (maxSteps := 4000000) (disch := omega) only [ints, getDT, go_sem, *]) <;> (try simp only [pA, pB, pC, pD, pE, pF, pG, pH, pI, pJ, pK, pL, pM, pN, pO, pP, if_true, if_false]))); (all_goals try rfl); (all_goals try (repeat' (first | done | rfl | (exfalso; omega) | contradiction | (refine iteR (fun hq => ?_) (fun hq => ?_))))) /-A2-/
 · clear ih hok
   have hj2 : ¬ (j : Int) < p.B.length := by omega
   obtain ⟨x, y, h, t, a, i, g, B, A⟩ := p
   simp only [ckS, ckE, eShard, eHandle, zx] at *
   generalize kk j = k at *
   simp -implicitDefEqProofs (maxSteps := 4000000) (disch := omega) only [getDT, go_sem, *] /-A3-/
end Go.Proofs.YtcjncbkhbllchaaGreat.L

namespace Go.Proofs.YtcjncbkhbllchaaGreat.L
open Go Go.Sim Go.Proofs.YtcjncbkhbllchaaGreat
set_option linter.unusedSimpArgs false
set_option linter.unusedVariables false
set_option maxHeartbeats 10000000
set_option maxRecDepth 40000
theorem zpG (out : List Int) (x : Int) : ∀ k, k ≤ out.length → (∀ j (hj : j < out.length), atI out x k ≤ j → j < k → x < out[j]) ∧ (∀ j (hj : j < out.length), j + 1 = atI out x k → out[j] ≤ x) := by
 intro k
 induction k with
 | zero => intro _; exact ⟨fun j hj h1 h2 => by omega, fun j hj h => by unfold atI at h; omega⟩
 | succ k ih =>
   intro hk
   have ih := ih (by omega)
   have e : out.getD k 0 = out[k]'(by omega) := by rw [List.getD_eq_getElem?_getD, List.getElem?_eq_getElem (by omega)]; rfl
   unfold atI
   by_cases c : x < out.getD k 0
   · rw [if_pos c]
     refine ⟨fun j hj h1 h2 => ?_, ih.2⟩
     by_cases c2 : j = k
     · subst c2; rw [← e]; exact c
     · exact ih.1 j hj h1 (by omega)
   · rw [if_neg c]
     refine ⟨fun j hj h1 h2 => by omega, fun j hj h => ?_⟩
     obtain rfl : j = k := by omega
     rw [← e]; omega
theorem zsL (out : List Int) (x : Int) : (insI out x).Perm (x :: out) := by
 unfold insI
 have h := List.take_append_drop (atI out x out.length) out
 generalize out.take (atI out x out.length) = a at *
 generalize out.drop (atI out x out.length) = b at *
 rw [← h, List.append_assoc]
 exact List.perm_middle
theorem zsM {out : List Int} (h : out.Pairwise (· ≤ ·)) (x : Int) : (insI out x).Pairwise (· ≤ ·) := by
 obtain ⟨s1, s2⟩ := zpG out x out.length (Nat.le_refl _)
 have hle := atI_le out x out.length
 have hp := List.pairwise_iff_getElem.1 h
 unfold insI
 generalize atI out x out.length = k at *
 have ht : (out.take k).Pairwise (· ≤ ·) := h.sublist (List.take_sublist _ _)
 have hd : (out.drop k).Pairwise (· ≤ ·) := h.sublist (List.drop_sublist _ _)
 have a1 : ∀ a ∈ out.take k, a ≤ x := by
   intro a ha
   obtain ⟨j, hj, rfl⟩ := List.mem_iff_getElem.1 ha
   rw [List.length_take] at hj
   rw [List.getElem_take]
   have h1 := s2 (k - 1) (by omega) (by omega)
   by_cases c : j = k - 1
   · subst c; exact h1
   · exact Int.le_trans (hp j (k - 1) (by omega) (by omega) (by omega)) h1
 have a2 : ∀ b ∈ out.drop k, x ≤ b := by
   intro b hb
   obtain ⟨j, hj, rfl⟩ := List.mem_iff_getElem.1 hb
   rw [List.length_drop] at hj
   rw [List.getElem_drop]
   have := s1 (k + j) (by omega) (by omega) (by omega)
   omega
 rw [List.append_assoc, List.pairwise_append]
 refine ⟨ht, ?_, ?_⟩
 · rw [List.singleton_append, List.pairwise_cons]; exact ⟨a2, hd⟩
 · intro a ha b hb
   rcases List.mem_append.1 hb with hb | hb
   · rw [List.mem_singleton.1 hb]; exact a1 a ha
   · exact Int.le_trans (a1 a ha) (a2 b hb)
theorem znh : ∀ (w : List Message) (out : List Int), out.Pairwise (· ≤ ·) → (idsF w out).Pairwise (· ≤ ·) ∧ (idsF w out).Perm (w.map (·.id) ++ out) := by
 intro w
 induction w with
 | nil => intro out h; exact ⟨h, List.Perm.refl _⟩
 | cons m w ih =>
   intro out h
   obtain ⟨i1, i2⟩ := ih (insI out m.id) (zsM h m.id)
   refine ⟨i1, i2.trans ?_⟩
   rw [List.map_cons, List.cons_append]
   exact ((zsL out m.id).append_left _).trans List.perm_middle
theorem zoK {a b : List Int} (ha : a.Pairwise (· ≤ ·)) (hb : b.Pairwise (· ≤ ·)) (h : a.Perm b) : a = b :=
 List.Perm.eq_of_pairwise (le := fun x y => x ≤ y) (fun x y _ _ h1 h2 => Int.le_antisymm h1 h2) ha hb h
def idsO (s : Shard) : List Int := idsF (shMsgs s) []
theorem zjY (s : Shard) : (idsO s).Pairwise (· ≤ ·) := (znh (shMsgs s) [] List.Pairwise.nil).1
theorem zj1 (s : Shard) : (idsO s).Perm (allIds s) := by
 have := (znh (shMsgs s) [] List.Pairwise.nil).2
 rwa [List.append_nil] at this
theorem zmL {x y : Shard} (h : (allIds y).Perm (allIds x)) : idsO y = idsO x := zoK (zjY y) (zjY x) ((zj1 y).trans (h.trans (zj1 x).symm))
theorem zmJ {x y : Shard} {id : Int} (h : (id :: allIds y).Perm (allIds x)) (hn : (allIds x).Nodup) : ∃ p, ∃ hp : p < (idsO x).length, (idsO x)[p] = id ∧ idsO y = (idsO x).eraseIdx p ∧ (idsO x).Pairwise (· < ·) := by
 have hm : id ∈ idsO x := (zj1 x).mem_iff.2 (h.mem_iff.1 (.head _))
 obtain ⟨p, hp, e⟩ := List.mem_iff_getElem.1 hm
 refine ⟨p, hp, e, ?_, ?_⟩
 · refine zoK (zjY y) ((zjY x).sublist (List.eraseIdx_sublist _ _)) ?_
   have q := zkv (idsO x) p hp
   rw [e] at q
   have q2 : (id :: idsO y).Perm (id :: (idsO x).eraseIdx p) := ((zj1 y).cons id).trans (h.trans ((zj1 x).symm.trans q.symm))
   exact List.Perm.cons_inv q2
 · have hn2 : (idsO x).Nodup := (zj1 x).nodup_iff.2 hn
   refine List.pairwise_iff_getElem.2 fun i j hi hj hij => ?_
   have h1 := List.pairwise_iff_getElem.1 (zjY x) i j hi hj hij
   have h2 := List.pairwise_iff_getElem.1 hn2 i j hi hj hij
   omega
theorem zqf (p : CKP) (h : p.A = p.B) : ckOK p (fun j => j) := by
 intro j hj
 obtain ⟨x, y, hd, t, a, i, g, B, A⟩ := p
 simp only at h hj ⊢
 subst h
 exact .inl ⟨hj, rfl, trivial⟩
theorem zqe (p : CKP) (hg : p.gone = 1) {q : Nat} (hq : q < p.B.length) (e : p.B[q] = p.h.id) (h : p.A = p.B.eraseIdx q) (hs : p.B.Pairwise (· < ·)) : ckOK p (fun j => if j ≤ q then j else j - 1) := by
 intro j hj
 obtain ⟨x, y, hd, t, a, i, g, B, A⟩ := p
 simp only at *
 subst h hg
 have hlen : (B.eraseIdx q).length = B.length - 1 := by rw [List.length_eraseIdx, if_pos hq]
 rcases Nat.lt_trichotomy j q with c | c | c
 · left
   have hj : j < B.length := hj
   have hq : q < B.length := hq
   refine ⟨by rw [if_pos (by omega), hlen]; omega, ?_, by rw [if_pos (by omega), if_pos (by omega)]⟩
   simp only [if_pos (show j ≤ q by omega)]
   rw [List.getElem_eraseIdx, dif_pos c]
 · right
   subst c
   refine ⟨?_, rfl, e, by rw [if_neg (by omega), if_pos (by omega)]; omega⟩
   simp only [if_pos (Nat.le_refl j)]
   intro hk
   rw [List.getElem_eraseIdx, dif_neg (Nat.lt_irrefl j)]
   rw [hlen] at hk
   have := List.pairwise_iff_getElem.1 hs j (j + 1) hj (by omega) (by omega)
   omega
 · left
   have hj : j < B.length := hj
   have hq : q < B.length := hq
   refine ⟨by rw [if_neg (by omega), hlen]; omega, ?_, by rw [if_neg (by omega), if_neg (by omega)]; omega⟩
   simp only [if_neg (show ¬ j ≤ q by omega)]
   rw [List.getElem_eraseIdx, dif_neg (by omega)]
   congr 1; omega
end Go.Proofs.YtcjncbkhbllchaaGreat.L

namespace Go.Proofs.YtcjncbkhbllchaaGreat.L
open Go Go.Sim Go.Proofs.YtcjncbkhbllchaaGreat
set_option linter.unusedSimpArgs false
set_option linter.unusedVariables false
set_option maxHeartbeats 10000000
set_option maxRecDepth 40000
def hB (s : Shard) (h : Handle) (now ep : Int) : Bool := decide (usE s (tiQ now && epQ ep) = 0) && holdsB s h now ep
def lens12 (s : Shard) : Prop := s.ready.cells.length ≤ 12 ∧ s.leases.l.length ≤ 12 ∧ s.leases.heap.length ≤ 12
structure LP (x y : Shard) (now vis ep lim : Int) (v : Lease) : Prop where
 dl : v.deadline = now + vis
 late : hB y (hdOf v.msg) (now + vis) ep = false
 held : 0 < vis → hB y (hdOf v.msg) (now + vis - 1) ep = true
 old : hB y { hdOf v.msg with gen := v.msg.gen - 1 } now ep = false
 oth : hB y { hdOf v.msg with route := (v.msg.route + 1).tmod 65536 } now ep = false
 pre : hB x (hdOf v.msg) now ep = false
 gen : 1 ≤ v.msg.gen ∧ v.msg.gen ≤ 65536
 rt : 0 ≤ v.msg.route ∧ v.msg.route ≤ 65535
 ack : 0 < vis → ∃ z, ackD y (hdOf v.msg) now ep = (z, 0) ∧ lens12 z ∧ hB z (hdOf v.msg) now ep = false ∧ storD z = storD y - 1
 nack : 0 < vis → ∃ w, nackD y (hdOf v.msg) now ep lim = (w, 0) ∧ lens12 w ∧ hB w (hdOf v.msg) now ep = false ∧ storD w = storD y
end Go.Proofs.YtcjncbkhbllchaaGreat.L

namespace Go.Proofs.YtcjncbkhbllchaaGreat.L
open Go Go.Sim Go.Proofs.YtcjncbkhbllchaaGreat
set_option linter.unusedSimpArgs false
set_option linter.unusedVariables false
set_option maxHeartbeats 10000000
set_option maxRecDepth 40000
structure SLP where
 x : Shard
 y : Shard
 mx : Int
 now : Int
 vis : Int
 ep : Int
 lim : Int
 o : List Lease
theorem Holds_ok' (s : Shard) (h : Handle) (now ep : Int) (q : lens12 s) : callL G z0y [.d (eShard s), .d (eHandle h), .d (.int .i64 now), .d (.int .i64 ep)] [] = some (.d (.bool (hB s h now ep)), []) :=
 zp7 s h now ep (by have := q.1; omega) q.2.1 q.2.2
end Go.Proofs.YtcjncbkhbllchaaGreat.L

namespace Go.Proofs.YtcjncbkhbllchaaGreat.L
open Go Go.Sim Go.Proofs.YtcjncbkhbllchaaGreat
set_option linter.unusedSimpArgs false
set_option linter.unusedVariables false
set_option maxHeartbeats 10000000
set_option maxRecDepth 40000
end Go.Proofs.YtcjncbkhbllchaaGreat.L

namespace Go.Proofs.YtcjncbkhbllchaaGreat.L
open Go Go.Sim Go.Proofs.YtcjncbkhbllchaaGreat
set_option linter.unusedSimpArgs false
set_option linter.unusedVariables false
set_option maxHeartbeats 10000000
set_option maxRecDepth 40000
end Go.Proofs.YtcjncbkhbllchaaGreat.L

namespace Go.Proofs.YtcjncbkhbllchaaGreat
open Go Go.Sim
set_option linter.unusedSimpArgs false
set_option linter.unusedVariables false
set_option maxHeartbeats 10000000
set_option maxRecDepth 40000
theorem zwx (s : Shard) (h1 : s.leases.l.length ≤ 12) (h2 : 0 ≤ s.ready.size) (h3 : s.ready.size ≤ 12) (h4 : s.ready.cells.length ≤ 12) : callL G z06 [.d (eShard s)] [] = some (.d (.int .i64 (s.ready.cells.length - (s.ready.size + s.leases.l.length))), []) := by
 have h := zoQ s h1 h2 h3
 simp only [eShard] at h ⊢
 rw [zie zeG (by simp)]; simp -implicitDefEqProofs (maxSteps := 4000000) (disch := omega) only [z9Z, ze7, getDT, go_sem, *] /-A0-/
theorem hcl_ok (m : Message) (id : Int) : callL G z0A [.d (eMessage m), .d (.pd (.int .i64 id))] [] = some (.d (.bool (decide (m.id = id))), []) := by
 simp only [eMessage]
 rw [zie zb0 (by simp)]; simp -implicitDefEqProofs (maxSteps := 4000000) (disch := omega) only [z9S, ze0, getDT, go_sem, *] /-A1-/
theorem has_ok (s : Shard) (id : Int) (hr : ringV s.ready = 0) (h1 : s.leases.l.length ≤ 12) : callL G z03 [.d (eShard s), .d (.int .i64 id)] [] = some (.d (.bool ((shMsgs s).any fun m => decide (m.id = id))), []) := by
 have hm := znQ hr h1
 have hl := zjI hr h1
 have hc := zqB (shMsgs s) z0A [.pd (.int .i64 id)] (fun m => decide (m.id = id)) (by omega) (fun a _ => hcl_ok a id)
 generalize ((shMsgs s).any fun m => decide (m.id = id)) = q at *
 generalize shMsgs s = w at *
 clear hr h1
 simp only [eShard] at hm ⊢
 rw [zie zeE (by simp)]; simp -implicitDefEqProofs (maxSteps := 4000000) (disch := omega) only [z9R, zdZ, getDT, go_sem, *] /-A2-/
end Go.Proofs.YtcjncbkhbllchaaGreat

namespace Go.Proofs.YtcjncbkhbllchaaGreat.L
open Go Go.Sim Go.Proofs.YtcjncbkhbllchaaGreat
set_option linter.unusedSimpArgs false
set_option linter.unusedVariables false
set_option maxHeartbeats 10000000
set_option maxRecDepth 40000
theorem zv8 (lo hi : Int) (r : Ring) (m : Message) (hm : msgV m = 0) (hr : lo ≤ m.route ∧ m.route ≤ hi) (hv : ringV r = 0) (hs : r.size < r.cells.length) (hn : ((shMsgs ⟨true, lo, hi, r, zTable⟩).any fun x => decide (x.id = m.id)) = false) (hp : pushR r m = 0) :
   callL G z0B [.d (eShard ⟨true, lo, hi, r, zTable⟩), .d (eMessage m)] [] = some (.d (.tup [eShard ⟨true, lo, hi, (pbD r m).1, zTable⟩, .int .i64 0]), []) := by
 obtain ⟨b1, b2, b3, b4, b5, b6⟩ := zir hv
 have hv2 := zej.trans (zjC m)
 have hi1 := zeo.trans (sin_ok m.route lo hi)
 have hro := zeq.trans (zwx ⟨true, lo, hi, r, zTable⟩ (by simp [zTable]) b5 (by simp only; omega) b2)
 have hh := zen.trans (has_ok ⟨true, lo, hi, r, zTable⟩ m.id hv (by simp [zTable]))
 have hpb := zem.trans (zm1 r m (by omega))
 have he : (pbD r m).2 = 0 := by unfold pbD; rw [if_pos hp]
 rw [hn] at hh
 rw [hm] at hv2
 rw [decide_eq_true hr] at hi1
 rw [he] at hpb
 have ho := zkg ⟨true, lo, hi, r, zTable⟩ b1 b2 (by simp [zTable]) (by simp [zTable])
 generalize (pbD r m).1 = r2 at *
 clear hr hn hp he hv
 obtain ⟨c, h, z⟩ := r
 obtain ⟨c2, h2, z2⟩ := r2
 simp only [eShard, eMessage, eRing, zTable, List.map_nil, List.length_nil, Int.natCast_zero, Int.add_zero] at *
 rw [zie zb5 (by simp)]; simp -implicitDefEqProofs (maxSteps := 4000000) (disch := omega) only [z9Y, ze6, getDT, go_sem, *] /-A0-/
theorem zwt (s s2 : Shard) (m : Message) (e : Int) (h1 : s.ready.cells.length ≤ 4294967296) (h2 : s.leases.l.length ≤ 4294967296) (h3 : s.leases.heap.length ≤ 4294967296) (hl : liveV s = 0) (hp : callL G z0B [.d (eShard s), .d (eMessage m)] [] = some (.d (.tup [eShard s2, .int .i64 e]), [])) : callL G z29 [.d (eShard s), .d (eMessage m)] [] = some (.d (.tup [eShard s2, .int .i64 e]), []) := by
 have hv := zep.trans (znA s h1 h2 h3)
 rw [hl] at hv
 clear hl
 simp only [eShard, eMessage] at *
 rw [zie zaZ (by simp)]; simp -implicitDefEqProofs (maxSteps := 4000000) (disch := omega) only [z9Q, zdY, getDT, go_sem, *] /-A1-/
theorem zvN (k : Nat) (h1 : 1 ≤ k) (h2 : k ≤ 12) : callL G z1Z [.d (.int .i64 k)] [] = some (.d (.tup [eRing ⟨List.replicate k zMessage, 0, 0⟩, .int .i64 0]), []) := by
 have e : List.replicate k (Go.Sim.AV.d (eMessage zMessage)) = (List.replicate k (eMessage zMessage)).map Go.Sim.AV.d := by rw [List.map_replicate]
 simp only [eRing, List.map_replicate]
 simp only [eMessage, zMessage] at e ⊢
 rw [zie zaQ (by simp)]; simp -implicitDefEqProofs (maxSteps := 4000000) (disch := omega) only [z9I, zdQ, List.length_replicate, Nat.min_self, List.take_replicate, getDT, go_sem, *] /-A2-/
theorem zwn (k : Nat) (h1 : 1 ≤ k) (h2 : k ≤ 12) : callL G z0z [.d (.int .i64 k), .d (.int .i64 0), .d (.int .i64 65535)] [] = some (.d (.tup [eShard ⟨true, 0, 65535, ⟨List.replicate k zMessage, 0, 0⟩, zTable⟩, .int .i64 0]), []) := by
 have hr := zvN k h1 h2
 have hs := zer.trans (zoL 0 65535)
 simp only [show (decide ((0 : Int) ≤ 0 ∧ (0 : Int) ≤ 65535 ∧ (65535 : Int) < 65536)) = true from by decide] at hs
 simp only [eShard, eRing, zTable, List.map_nil] at *
 generalize (List.replicate k zMessage).map eMessage = c at *
 rw [zie zaY (by simp)]; simp -implicitDefEqProofs (maxSteps := 4000000) (disch := omega) only [z9P, zdX, getDT, go_sem, *] /-A3-/
end Go.Proofs.YtcjncbkhbllchaaGreat.L

namespace Go.Proofs.YtcjncbkhbllchaaGreat.L
open Go Go.Sim Go.Proofs.YtcjncbkhbllchaaGreat
set_option linter.unusedSimpArgs false
set_option linter.unusedVariables false
set_option maxHeartbeats 10000000
set_option maxRecDepth 40000
def awS0 : Shard := ⟨true, 0, 65535, ⟨List.replicate 3 zMessage, 0, 0⟩, zTable⟩
def awM : Message := ⟨1, 0, 0, 0, 0, 0, zMessage.body⟩
def awS1 : Shard := ⟨true, 0, 65535, (pbD ⟨List.replicate 3 zMessage, 0, 0⟩ awM).1, zTable⟩
theorem aw1 : liveV awS0 = 0 := by decide +kernel
theorem aw2 : (takeD awS1 1 10 5 0 3).2.2 = 0 ∧ (takeD awS1 1 10 5 0 3).2.1.length = 1 := by decide +kernel
theorem aw3 : hB (takeD awS1 1 10 5 0 3).1 ⟨1, 1, 0, 0⟩ 14 0 = true ∧ hB (takeD awS1 1 10 5 0 3).1 ⟨1, 1, 0, 0⟩ 15 0 = false := by decide +kernel
theorem aw4 : (expD (takeD awS1 1 10 5 0 3).1 15 0 3).2.2 = 0 ∧ (expD (takeD awS1 1 10 5 0 3).1 15 0 3).2.1.length = 1 := by decide +kernel
theorem aw5 : lens12 (takeD awS1 1 10 5 0 3).1 := by unfold lens12; decide +kernel
theorem aw6 : lens12 awS1 := by unfold lens12; decide +kernel
theorem zpJ : callL G z1m [] [] = some (.d (.bool true), []) := by
 have k1 := zwn 3 (by decide) (by decide)
 have kp := zv8 0 65535 ⟨List.replicate 3 zMessage, 0, 0⟩ awM (by decide +kernel) (by decide) (by decide +kernel) (by decide) (by decide +kernel) (by decide +kernel)
 have k2 := zwt awS0 awS1 awM 0 (by decide) (by decide) (by decide) aw1 kp
 have hs := aw6
 have k3 := zl4 awS1 1 10 5 0 3 (by have := hs.1; omega) (by have := hs.2.1; omega) (by have := hs.2.2; omega)
 have h2 := aw5
 have k4 := Holds_ok' (takeD awS1 1 10 5 0 3).1 ⟨1, 1, 0, 0⟩ 14 0 h2
 have k5 := Holds_ok' (takeD awS1 1 10 5 0 3).1 ⟨1, 1, 0, 0⟩ 15 0 h2
 have k6 := zmT (takeD awS1 1 10 5 0 3).1 15 0 3 (by have := h2.1; omega) (by have := h2.2.1; omega) (by have := h2.2.2; omega)
 rw [aw3.1] at k4
 rw [aw3.2] at k5
 rw [aw2.1] at k3
 rw [aw4.1] at k6
 have l1 := aw2.2
 have l2 := aw4.2
 generalize (expD (takeD awS1 1 10 5 0 3).1 15 0 3).2.1 = g2 at *
 generalize (expD (takeD awS1 1 10 5 0 3).1 15 0 3).1 = g1 at *
 generalize (takeD awS1 1 10 5 0 3).2.1 = g4 at *
 generalize (takeD awS1 1 10 5 0 3).1 = g3 at *
 generalize awS1 = g5 at *
 clear kp hs h2
 change callL G z0z _ _ = some (.d (.tup [eShard awS0, _]), []) at k1
 generalize awS0 = g6 at *
 simp only [eShard, eHandle, eMessage, awM, zMessage, Int.cast_ofNat_Int] at *
 rw [zie zar (by simp)]; simp -implicitDefEqProofs (maxSteps := 4000000) (disch := omega) only [z9g, zdp, getDT, go_sem, *] /-A0-/
end Go.Proofs.YtcjncbkhbllchaaGreat.L

namespace Go.Proofs.YtcjncbkhbllchaaGreat.L
open Go Go.Sim Go.Proofs.YtcjncbkhbllchaaGreat
set_option linter.unusedSimpArgs false
set_option linter.unusedVariables false
set_option maxHeartbeats 10000000
set_option maxRecDepth 40000
theorem zjn {x : Shard} (h : shardV x = 0) : ringV x.ready = 0 ∧ tabV x.leases = 0 := by
 have h1 : ringV x.ready = 0 := by
   unfold shardV at h
   split at h
   · rename_i c; exact absurd h c
   · rename_i c; exact Classical.not_not.1 c
 refine ⟨h1, ?_⟩
 unfold shardV at h
 rw [if_neg (fun c => c h1)] at h
 split at h
 · rename_i c; exact absurd h c
 · rename_i c; exact Classical.not_not.1 c
theorem sh_len {x : Shard} (h : shardV x = 0) : lens12 x := by
 obtain ⟨h1, h2⟩ := zjn h
 exact ⟨(zir h1).2.1, zjJ h2⟩
theorem sh_gen {x : Shard} (h : shardV x = 0) : ∀ y ∈ x.leases.l, 0 ≤ y.msg.gen ∧ y.msg.gen ≤ 65536 ∧ 0 ≤ y.msg.route ∧ y.msg.route ≤ 65535 := by
 intro y hy
 have hm : msgV y.msg = 0 := ((ziq x.leases.l).1 (zix (zjn h).2).2.1).2 y hy |>.1
 have := (zlL y.msg).1 hm
 omega
theorem zoH {x : Shard} (h : shardV x = 0) (hl : x.live = true) : (allIds x).Nodup := by
 obtain ⟨n, h', e, v⟩ := vs_of h hl
 rw [e, v.AI]
 exact v.2.2.2.2.2.2.2.2.2.2
theorem ck_use {x y : Shard} {h : Handle} {g : Int} (hx : shardV x = 0) (hy : shardV y = 0) (hc : g = 0 ∧ (allIds y).Perm (allIds x) ∨ g = 1 ∧ x.live = true ∧ (h.id :: allIds y).Perm (allIds x)) :
   callL Go.Proofs.YtcjncbkhbllchaaGreat.G zg [.d (eShard x)] [] = some (.d (.sl (ints (idsO x))), []) ∧ callL Go.Proofs.YtcjncbkhbllchaaGreat.G zg [.d (eShard y)] [] = some (.d (.sl (ints (idsO y))), []) ∧
   callL Go.Proofs.YtcjncbkhbllchaaGreat.G zF [.d (eShard y)] [] = some (.d (.int .i64 0), []) ∧ ((idsO y).length : Int) = (idsO x).length - g ∧ (idsO x).length ≤ 24 ∧
   ∀ t a i, loopL G [] zx (ckS ⟨x, y, h, t, a, i, g, idsO x, idsO y⟩ 0 0) = some (ckE ⟨x, y, h, t, a, i, g, idsO x, idsO y⟩) := by
 have lx := sh_len hx
 have ly := sh_len hy
 have k1 := ids_ok x (zjn hx).1 lx.2.1
 have k2 := ids_ok y (zjn hy).1 ly.2.1
 have k3 := zvf y (by have := ly.1; omega) (by have := ly.2.1; omega) (by have := ly.2.2; omega)
 rw [hy] at k3
 have bx : (idsO x).length ≤ 24 := by
   have := (zj1 x).length_eq
   have h2 := zjI (zjn hx).1 lx.2.1
   unfold allIds at this; rw [List.length_map] at this; omega
 have by_ : (idsO y).length ≤ 24 := by
   have := (zj1 y).length_eq
   have h2 := zjI (zjn hy).1 ly.2.1
   unfold allIds at this; rw [List.length_map] at this; omega
 refine ⟨k1, k2, k3, ?_, bx, fun t a i => ?_⟩
 · rcases hc with ⟨rfl, hc⟩ | ⟨rfl, hl, hc⟩
   · rw [zmL hc]; omega
   · obtain ⟨p, hp, _, e, _⟩ := zmJ hc (zoH hx hl)
     rw [e, List.length_eraseIdx, if_pos hp]; omega
 · rcases hc with ⟨rfl, hc⟩ | ⟨rfl, hl, hc⟩
   · exact zmK ⟨x, y, h, t, a, i, 0, idsO x, idsO y⟩ (fun j => j) bx by_ (fun j => Nat.le_refl j) (zqf _ (zmL hc)) 0 (Nat.zero_le _)
   · obtain ⟨p, hp, e1, e, hs⟩ := zmJ hc (zoH hx hl)
     exact zmK ⟨x, y, h, t, a, i, 1, idsO x, idsO y⟩ (fun j => if j ≤ p then j else j - 1) bx by_ (fun j => by show (if j ≤ p then j else j - 1) ≤ j; split <;> omega) (zqe ⟨x, y, h, t, a, i, 1, idsO x, idsO y⟩ rfl hp e1 e hs) 0 (Nat.zero_le _)
theorem zpj {x : Shard} {hd : Handle} {now ep : Int} (h : (ackD x hd now ep).2 = 0) : x.live = true := by
 unfold ackD at h
 split at h
 · rename_i c; exact absurd h c
 · rename_i c; exact (zjK (Classical.not_not.1 c)).2
structure CSP where
 x : Shard
 a : Nat
 i : Nat
def csS (t : List Int) (p : CSP) : St := ⟨[(3, .ref 16 0 0), (4, .ref 4 0 0), (5, .d (.int .i64 p.i))], [(4, .row [.d (eShard p.x)]), (16, srcO t p.a)]⟩
theorem zqD (t : List Int) (ht : t.length ≤ 4000) : ∀ p : CSP, p.i ≤ 16 ∧ shardV p.x = 0 → loopL G [] zb (csS t p) = some (.exit 0, ⟨[], []⟩) := by
 refine zii (fun p : CSP => 16 - p.i) (fun p : CSP => p.i ≤ 16 ∧ shardV p.x = 0) (csS t) (fun _ => some (.exit 0, ⟨[], []⟩)) fun p hp L ih => ?_
 obtain ⟨x, a, i⟩ := p
 obtain ⟨hi, hx⟩ := hp
 simp only at hi hx
 by_cases h0 : i < 16
 · have hm := zuc t a ht
   by_cases hgo : i < 3 ∨ a < t.length
   · obtain ⟨n1, n2, n3, n4, n5, n6, n7, n8, a2, q1⟩ := zuy t a ht
     have lx := sh_len hx
     obtain ⟨h, a3, q2⟩ := zst t a2 x ht lx.2.1 (sh_gen hx)
     have q7 := n_ok t a3 5 ht (by omega) (by omega)
     have b7 := nD_in t a3 (n := 5) (by omega)
     obtain ⟨a4, z4⟩ : ∃ a4, (rawD t a3).2 = a4 := ⟨_, rfl⟩
     rw [z4] at q7
     generalize nD t a3 5 = c at *
     clear z4
     have e : ((i + 1 : Nat) : Int) = (i : Int) + 1 := by omega
     have i0 := ih ⟨x, a4, i + 1⟩ ⟨by simp only; omega, hx⟩ (by simp only; omega)
     have kx : callL Go.Proofs.YtcjncbkhbllchaaGreat.G zg [.d (eShard x)] [] = some (.d (.sl (ints (idsO x))), []) := ids_ok x (zjn hx).1 lx.2.1
     have b1 : x.ready.cells.length ≤ 4294967296 := by have := lx.1; omega
     have b2 : x.leases.l.length ≤ 4294967296 := by have := lx.2.1; omega
     have b3 : x.leases.heap.length ≤ 4294967296 := by have := lx.2.2; omega
     have hgo2 : (i : Int) < 3 ∨ (a : Int) < t.length := by omega
     clear hgo lx
     rcases (show c = 0 ∨ c = 1 ∨ c = 2 ∨ c = 3 ∨ c = 4 by omega) with rfl | rfl | rfl | rfl | rfl
     · have k := zl4 x n1 n2 n3 n4 n5 b1 b2 b3
       by_cases he : (takeD x n1 n2 n3 n4 n5).2.2 = 0
       · obtain ⟨y1, y2⟩ := zqx he
         obtain ⟨u1, u2, u3, u4, u5, u6⟩ := ck_use (h := h) (g := 0) hx y1 (.inl ⟨rfl, y2⟩)
         have i1 := ih ⟨(takeD x n1 n2 n3 n4 n5).1, a4, i + 1⟩ ⟨by simp only; omega, y1⟩ (by simp only; omega)
         have u7 := u6 t a4 i
         rw [he] at k
         clear ih i0 kx he y1 y2 hx u6
         simp only [csS] at i1
         generalize (takeD x n1 n2 n3 n4 n5).1 = y at *
         generalize (takeD x n1 n2 n3 n4 n5).2.1 = o at *
         generalize idsO x = B at *
         generalize idsO y = A at *
         simp only [csS, ckS, ckE, eShard, eHandle, zb, Int.natCast_zero] at *
         rw [e] at i1
         clear e b1 b2 b3
         rcases hgo2 with hg | hg
         · simp -implicitDefEqProofs (maxSteps := 4000000) (disch := omega) only [getDT, go_sem, *] /-A0-/
         · by_cases hg3 : (i : Int) < 3
           · simp -implicitDefEqProofs (maxSteps := 4000000) (disch := omega) only [getDT, go_sem, *] /-A1-/
           · simp -implicitDefEqProofs (maxSteps := 4000000) (disch := omega) only [getDT, go_sem, *] /-A2-/
       · clear ih
         generalize (takeD x n1 n2 n3 n4 n5).1 = y at *
         generalize (takeD x n1 n2 n3 n4 n5).2.1 = o at *
         generalize (takeD x n1 n2 n3 n4 n5).2.2 = ee at *
         generalize idsO x = B at *
         simp only [csS, eShard, eHandle, zb] at *
         rw [e] at i0
         clear e b1 b2 b3 hx
         rcases hgo2 with hg | hg
         · simp -implicitDefEqProofs (maxSteps := 4000000) (disch := omega) only [getDT, go_sem, *] /-A3-/
         · by_cases hg3 : (i : Int) < 3
           · simp -implicitDefEqProofs (maxSteps := 4000000) (disch := omega) only [getDT, go_sem, *] /-A4-/
           · simp -implicitDefEqProofs (maxSteps := 4000000) (disch := omega) only [getDT, go_sem, *] /-A5-/
     · have k := zui x h n2 n4 n5 b1 b2 b3
       by_cases he : (nackD x h n2 n4 n5).2 = 0
       · obtain ⟨y1, y2⟩ := zqw he
         obtain ⟨u1, u2, u3, u4, u5, u6⟩ := ck_use (h := h) (g := 0) hx y1 (.inl ⟨rfl, y2⟩)
         have i1 := ih ⟨(nackD x h n2 n4 n5).1, a4, i + 1⟩ ⟨by simp only; omega, y1⟩ (by simp only; omega)
         have u7 := u6 t a4 i
         rw [he] at k
         clear ih i0 kx he y1 y2 hx u6
         simp only [csS] at i1
         generalize (nackD x h n2 n4 n5).1 = y at *
         generalize idsO x = B at *
         generalize idsO y = A at *
         simp only [csS, ckS, ckE, eShard, eHandle, zb, Int.natCast_zero] at *
         rw [e] at i1
         clear e b1 b2 b3
         rcases hgo2 with hg | hg
         · simp -implicitDefEqProofs (maxSteps := 4000000) (disch := omega) only [getDT, go_sem, *] /-A6-/
         · by_cases hg3 : (i : Int) < 3
           · simp -implicitDefEqProofs (maxSteps := 4000000) (disch := omega) only [getDT, go_sem, *] /-A7-/
           · simp -implicitDefEqProofs (maxSteps := 4000000) (disch := omega) only [getDT, go_sem, *] /-A8-/
       · clear ih
         generalize (nackD x h n2 n4 n5).1 = y at *
         generalize (nackD x h n2 n4 n5).2 = ee at *
         generalize idsO x = B at *
         simp only [csS, eShard, eHandle, zb] at *
         rw [e] at i0
         clear e b1 b2 b3 hx
         rcases hgo2 with hg | hg
         · simp -implicitDefEqProofs (maxSteps := 4000000) (disch := omega) only [getDT, go_sem, *] /-A9-/
         · by_cases hg3 : (i : Int) < 3
           · simp -implicitDefEqProofs (maxSteps := 4000000) (disch := omega) only [getDT, go_sem, *] /-A10-/
           · simp -implicitDefEqProofs (maxSteps := 4000000) (disch := omega) only [getDT, go_sem, *] /-A11-/
     · have k := zqc x h n2 n4 n3 b1 b2 b3
       by_cases he : (chgD x h n2 n4 n3).2 = 0
       · obtain ⟨y1, y2⟩ := zqu he
         obtain ⟨u1, u2, u3, u4, u5, u6⟩ := ck_use (h := h) (g := 0) hx y1 (.inl ⟨rfl, y2⟩)
         have i1 := ih ⟨(chgD x h n2 n4 n3).1, a4, i + 1⟩ ⟨by simp only; omega, y1⟩ (by simp only; omega)
         have u7 := u6 t a4 i
         rw [he] at k
         clear ih i0 kx he y1 y2 hx u6
         simp only [csS] at i1
         generalize (chgD x h n2 n4 n3).1 = y at *
         generalize idsO x = B at *
         generalize idsO y = A at *
         simp only [csS, ckS, ckE, eShard, eHandle, zb, Int.natCast_zero] at *
         rw [e] at i1
         clear e b1 b2 b3
         rcases hgo2 with hg | hg
         · simp -implicitDefEqProofs (maxSteps := 4000000) (disch := omega) only [getDT, go_sem, *] /-A12-/
         · by_cases hg3 : (i : Int) < 3
           · simp -implicitDefEqProofs (maxSteps := 4000000) (disch := omega) only [getDT, go_sem, *] /-A13-/
           · simp -implicitDefEqProofs (maxSteps := 4000000) (disch := omega) only [getDT, go_sem, *] /-A14-/
       · clear ih
         generalize (chgD x h n2 n4 n3).1 = y at *
         generalize (chgD x h n2 n4 n3).2 = ee at *
         generalize idsO x = B at *
         simp only [csS, eShard, eHandle, zb] at *
         rw [e] at i0
         clear e b1 b2 b3 hx
         rcases hgo2 with hg | hg
         · simp -implicitDefEqProofs (maxSteps := 4000000) (disch := omega) only [getDT, go_sem, *] /-A15-/
         · by_cases hg3 : (i : Int) < 3
           · simp -implicitDefEqProofs (maxSteps := 4000000) (disch := omega) only [getDT, go_sem, *] /-A16-/
           · simp -implicitDefEqProofs (maxSteps := 4000000) (disch := omega) only [getDT, go_sem, *] /-A17-/
     · have k := zmT x n2 n4 n5 b1 b2 b3
       by_cases he : (expD x n2 n4 n5).2.2 = 0
       · obtain ⟨y1, y2⟩ := zqv he
         obtain ⟨u1, u2, u3, u4, u5, u6⟩ := ck_use (h := h) (g := 0) hx y1 (.inl ⟨rfl, y2⟩)
         have i1 := ih ⟨(expD x n2 n4 n5).1, a4, i + 1⟩ ⟨by simp only; omega, y1⟩ (by simp only; omega)
         have u7 := u6 t a4 i
         rw [he] at k
         clear ih i0 kx he y1 y2 hx u6
         simp only [csS] at i1
         generalize (expD x n2 n4 n5).1 = y at *
         generalize (expD x n2 n4 n5).2.1 = o at *
         generalize idsO x = B at *
         generalize idsO y = A at *
         simp only [csS, ckS, ckE, eShard, eHandle, zb, Int.natCast_zero] at *
         rw [e] at i1
         clear e b1 b2 b3
         rcases hgo2 with hg | hg
         · simp -implicitDefEqProofs (maxSteps := 4000000) (disch := omega) only [getDT, go_sem, *] /-A18-/
         · by_cases hg3 : (i : Int) < 3
           · simp -implicitDefEqProofs (maxSteps := 4000000) (disch := omega) only [getDT, go_sem, *] /-A19-/
           · simp -implicitDefEqProofs (maxSteps := 4000000) (disch := omega) only [getDT, go_sem, *] /-A20-/
       · clear ih
         generalize (expD x n2 n4 n5).1 = y at *
         generalize (expD x n2 n4 n5).2.1 = o at *
         generalize (expD x n2 n4 n5).2.2 = ee at *
         generalize idsO x = B at *
         simp only [csS, eShard, eHandle, zb] at *
         rw [e] at i0
         clear e b1 b2 b3 hx
         rcases hgo2 with hg | hg
         · simp -implicitDefEqProofs (maxSteps := 4000000) (disch := omega) only [getDT, go_sem, *] /-A21-/
         · by_cases hg3 : (i : Int) < 3
           · simp -implicitDefEqProofs (maxSteps := 4000000) (disch := omega) only [getDT, go_sem, *] /-A22-/
           · simp -implicitDefEqProofs (maxSteps := 4000000) (disch := omega) only [getDT, go_sem, *] /-A23-/
     · have k := ack_ok x h n2 n4 b1 b2 b3
       by_cases he : (ackD x h n2 n4).2 = 0
       · obtain ⟨y1, y2⟩ := zqt he
         obtain ⟨u1, u2, u3, u4, u5, u6⟩ := ck_use (h := h) (g := 1) hx y1 (.inr ⟨rfl, zpj he, y2⟩)
         have i1 := ih ⟨(ackD x h n2 n4).1, a4, i + 1⟩ ⟨by simp only; omega, y1⟩ (by simp only; omega)
         have u7 := u6 t a4 i
         rw [he] at k
         clear ih i0 kx he y1 y2 hx u6
         simp only [csS] at i1
         generalize (ackD x h n2 n4).1 = y at *
         generalize idsO x = B at *
         generalize idsO y = A at *
         simp only [csS, ckS, ckE, eShard, eHandle, zb, Int.natCast_zero] at *
         rw [e] at i1
         clear e b1 b2 b3
         rcases hgo2 with hg | hg
         · simp -implicitDefEqProofs (maxSteps := 4000000) (disch := omega) only [getDT, go_sem, *] /-A24-/
         · by_cases hg3 : (i : Int) < 3
           · simp -implicitDefEqProofs (maxSteps := 4000000) (disch := omega) only [getDT, go_sem, *] /-A25-/
           · simp -implicitDefEqProofs (maxSteps := 4000000) (disch := omega) only [getDT, go_sem, *] /-A26-/
       · clear ih
         generalize (ackD x h n2 n4).1 = y at *
         generalize (ackD x h n2 n4).2 = ee at *
         generalize idsO x = B at *
         simp only [csS, eShard, eHandle, zb] at *
         rw [e] at i0
         clear e b1 b2 b3 hx
         rcases hgo2 with hg | hg
         · simp -implicitDefEqProofs (maxSteps := 4000000) (disch := omega) only [getDT, go_sem, *] /-A27-/
         · by_cases hg3 : (i : Int) < 3
           · simp -implicitDefEqProofs (maxSteps := 4000000) (disch := omega) only [getDT, go_sem, *] /-A28-/
           · simp -implicitDefEqProofs (maxSteps := 4000000) (disch := omega) only [getDT, go_sem, *] /-A29-/
   · clear ih
     have g1 : ¬ (i : Int) < 3 := by omega
     have g2 : ¬ (a : Int) < t.length := by omega
     clear hgo
     simp only [csS, eShard, zb]
     simp -implicitDefEqProofs (maxSteps := 4000000) (disch := omega) only [getDT, go_sem, *] /-A30-/
 · clear ih
   obtain rfl : i = 16 := by omega
   simp only [csS, eShard, zb]
   simp -implicitDefEqProofs (maxSteps := 4000000) (disch := omega) only [getDT, go_sem, *] /-A31-/
theorem sconserves (l : List Int) (h : l.length ≤ LIM) : callL G z1l [.d (.sl (ints l))] [] = some (.d (.bool true), []) := by
 have h1 := new_ok l h
 have ht : (l.take 4000).length ≤ 4000 := by simp; omega
 generalize l.take 4000 = t at *
 obtain ⟨x, a1, hx, hs⟩ := zw9 t 0 ht
 have hl := zqD t ht ⟨x, a1, 0⟩ ⟨by simp only; omega, hx.1⟩
 have hw := zpJ
 clear hx
 simp only [csS, srcO, eShard, Int.natCast_zero] at *
 rw [zie zaq (by simp)]; simp -implicitDefEqProofs (maxSteps := 4000000) (disch := omega) only [z9f, zdo, getDT, go_sem, *] /-A32-/
end Go.Proofs.YtcjncbkhbllchaaGreat.L
