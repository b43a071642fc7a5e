/-
  Walks towards a predicate of the result; arrays of numbers that are written at any place.
  The reader: messages.
  The reader: choices, odd messages.
  A table over the table: what is proved below stays, some lists come back as rows.
  lease.find: binary search.
  lease.Grant, Find, Release, Extend.
  Leases, in plain Lean: changes keep a table valid.
  The reference's Find, Release, Extend.
  Lapsed of both, first half; slices.DeleteFunc's loop.
  lease.Lapsed.
  The reference's Grant.
-/
import Derived.Test.YtibkpphblgfmbaaGreatB2c7cdb4
import Derived.Test.YtibkpphblgfmbaaGreatB18bfdd2
import Derived.Test.YtibkpphblgfmbaaGreatBb682e23
set_option linter.unusedSimpArgs false
set_option linter.unusedVariables false
namespace Go.Sim
def Post {α : Type} (φ : α → Prop) (r : α) : Prop := φ r
theorem iteP {α : Type} {φ : α → Prop} {c : Prop} [Decidable c] {A B : α} (h1 : c → Post φ A) (h2 : ¬ c → Post φ B) : Post φ (if c then A else B) := by split <;> simp_all
theorem Post.some {α : Type} {φ : Option α → Prop} {r : Option α} {a : α} (h : φ (some a)) (e : r = some a) : Post φ r := by rw [e]; exact h
theorem over_agg {cs : List D} {k : Nat} {k' : IntKind} {v : Int} (h : k < cs.length) (h1 : cs.length ≠ 1) : over (.d (.agg cs)) k (.d (.int k' v)) = some (.d (.agg (cs.set k (.int k' v)))) := by
  unfold over
  rw [if_neg (by simp [AV.size, D.size, D.cells]; omega), if_pos (by simp [AV.size, D.size, D.cells]; omega)]
  have : splice (AV.cells (.d (.agg cs))) k (AV.cells (.d (.int k' v))) = (cs.set k (.int k' v)).map .d := by
    simp only [AV.cells, D.cells, List.map_cons, List.map_nil]
    rw [splice, List.map_set, List.set_eq_take_append_cons_drop, if_pos (by simpa using h)]
    simp
  rw [this, AV.mkAgg, allD_map]
theorem over_ints {E : List Int} {k : Nat} {k' : IntKind} {v : Int} (h : k < E.length) (h1 : E.length ≠ 1) : over (.d (.agg (E.map (D.int k')))) k (.d (.int k' v)) = some (.d (.agg ((E.set k v).map (D.int k')))) := by
  rw [over_agg (by simpa using h) (by simpa using h1), List.map_set]
attribute [go_sem high] over_ints
attribute [go_sem] Nat.mul_one
end Go.Sim

namespace Go.Proofs.YtibkpphblgfmbaaGreat
open Go Go.Sim
set_option linter.unusedSimpArgs false
set_option linter.unusedVariables false
set_option maxHeartbeats 10000000
set_option maxRecDepth 40000
theorem and_in (a : Int) (m : Int) (h0 : 0 ≤ m) (h1 : m ≤ 4294967295) : 0 ≤ andI .i64 a m ∧ andI .i64 a m ≤ m := by
  unfold andI
  have e : (BitVec.ofInt IntKind.i64.bits m).toNat = m.toNat := by
    show (BitVec.ofInt 64 m).toNat = m.toNat
    rw [BitVec.toNat_ofInt]; omega
  have h2 : (BitVec.ofInt IntKind.i64.bits a &&& BitVec.ofInt IntKind.i64.bits m).toNat ≤ m.toNat := by
    rw [BitVec.toNat_and, e]; exact Nat.and_le_right
  rw [wr (by omega)]
  omega
theorem xor_in (a b : Int) (ha : 0 ≤ a ∧ a < 65536) (hb : 0 ≤ b ∧ b < 65536) : 0 ≤ xorI .i64 a b ∧ xorI .i64 a b < 65536 := by
  unfold xorI
  have e : ∀ m : Int, 0 ≤ m → m < 65536 → (BitVec.ofInt IntKind.i64.bits m).toNat = m.toNat := fun m h0 h1 => by
    show (BitVec.ofInt 64 m).toNat = m.toNat
    rw [BitVec.toNat_ofInt]; omega
  have h2 : (BitVec.ofInt IntKind.i64.bits a ^^^ BitVec.ofInt IntKind.i64.bits b).toNat < 65536 := by
    rw [BitVec.toNat_xor, e a ha.1 ha.2, e b hb.1 hb.2]; exact Nat.xor_lt_two_pow (n := 16) (by omega) (by omega)
  rw [wr (by omega)]
  omega
def sumS (b : List UInt8) (p : Nat × Int) : St := ⟨[(0, .d (.sl (byD b))), (3, .d (.int .i64 p.2)), (4, .d (.int .i64 p.1))], []⟩
def sumPhi (r : Option (AExit × St)) : Prop := ∃ h : Int, 0 ≤ h ∧ h ≤ 4294967295 ∧ r = some (.exit 0, ⟨[(3, .d (.int .i64 h))], []⟩)
theorem sum_loop (b : List UInt8) (hL : b.length ≤ 1000) : ∀ p : Nat × Int, p.1 ≤ b.length ∧ 0 ≤ p.2 ∧ p.2 ≤ 4294967295 → sumPhi (loopL G [] l_ref02_Sum_0 (sumS b p)) := by
  refine loop_indP (fun p : Nat × Int => b.length - p.1) _ (sumS b) (fun _ => Post sumPhi) fun ⟨i, h⟩ ⟨h1, h2, h3⟩ L ih => ?_
  simp only at h1 h2 h3
  simp only [sumS, l_ref02_Sum_0] at ih ⊢
  by_cases h0 : i < b.length
  · have hlt := b[i].toNat_lt
    have hg : (byD b)[i]? = some (.int .u8 b[i].toNat) := by unfold byD; simp [List.getElem?_eq_getElem h0]
    have hlen : (byD b).length = b.length := by unfold byD; simp
    have ha := fun a => and_in a 4294967295 (by omega) (by omega)
    simp -implicitDefEqProofs (maxSteps := 4000000) (disch := omega) only [getDT, go_sem, *] /-A0-/
    exact ih (i + 1, _) ⟨by simp only; omega, (ha _).1, (ha _).2⟩ (by simp only; omega)
  · have hlen : (byD b).length = b.length := by unfold byD; simp
    clear ih
    simp -implicitDefEqProofs (maxSteps := 4000000) (disch := omega) only [getDT, go_sem, *] /-A1-/
    exact ⟨h, h2, h3, rfl⟩
theorem sum_ex (b : List UInt8) (hL : b.length ≤ 1000) : ∃ h : Int, 0 ≤ h ∧ h ≤ 4294967295 ∧ callL G N_ref02_Sum [.d (.sl (byD b))] [] = some (.d (.int .i64 h), []) := by
  obtain ⟨h, h1, h2, hl⟩ := sum_loop b hL (0, 2166136261) ⟨by simp, by simp, by simp⟩
  simp only [sumS] at hl
  simp only [Int.natCast_add, Int.natCast_one, Int.natCast_zero, Int.natCast_mul, Int.cast_ofNat_Int, List.length_append, List.length_map, List.map_nil, List.length_nil, List.map_append, List.map_cons, List.length_cons, Nat.zero_add, srcO, mapSet] at hl
  refine ⟨h, h1, h2, ?_⟩
  rw [callL_code g_ref02_Sum (by simp)]; simp -implicitDefEqProofs (maxSteps := 4000000) (disch := omega) only [c_ref02_Sum, r_ref02_Sum, getDT, go_sem, *] /-A2-/
theorem u8_of (x : Int) : ∃ c : UInt8, IntKind.u8.wrap x = c.toNat := by
  have h := has_wrap .u8 x
  simp only [IntKind.has, IntKind.min, IntKind.max, IntKind.bits, IntKind.signed] at h
  simp at h
  exact ⟨UInt8.ofNat (IntKind.u8.wrap x).toNat, by rw [UInt8.toNat_ofNat']; omega⟩
theorem put_ex (n : Int) (h0 : 0 ≤ n) (h1 : n ≤ 1073741824) : ∃ b : List UInt8, b.length = 4 ∧ callL G N_ref01_Put [.d (.sl []), .d (.int .i64 n), .d (.int .i64 4)] [] = some (.d (.tup [.sl (byD b), .int .i64 0]), []) := by
  rw [callL_code g_ref01_Put (by simp)]; simp -implicitDefEqProofs (maxSteps := 4000000) (disch := omega) only [c_ref01_Put, r_ref01_Put, loopL_eq, l_ref01_Put_0, getDT, go_sem, *]; (try simp only [pA, pB, pC, pD, pE, pF, pG, pH, pI, pJ, pK, pL, pM, pN, pO, pP, if_true, if_false]); repeat' (first | done | rfl | ((first | refine iteC (fun hq => ?_) (fun hq => ?_) | refine iteP (fun hq => ?_) (fun hq => ?_)) <;> (try (first | (exfalso; omega) | contradiction)) <;> (try simp -implicitDefEqProofs (maxSteps := 4000000) (disch := omega) only [loopL_eq, l_ref01_Put_0, getDT, go_sem, *]) <;> (try simp only [pA, pB, pC, pD, pE, pF, pG, pH, pI, pJ, pK, pL, pM, pN, pO, pP, if_true, if_false]))); (all_goals try rfl); (all_goals try (repeat' (first | done | rfl | (exfalso; omega) | contradiction | (refine iteR (fun hq => ?_) (fun hq => ?_))))) /-A3-/
  obtain ⟨c1, e1⟩ := u8_of (n.fdiv (2 ^ (min 24 64 : Nat)))
  obtain ⟨c2, e2⟩ := u8_of (n.fdiv (2 ^ (min 16 64 : Nat)))
  obtain ⟨c3, e3⟩ := u8_of (n.fdiv (2 ^ (min 8 64 : Nat)))
  obtain ⟨c4, e4⟩ := u8_of (n.fdiv (2 ^ (min 0 64 : Nat)))
  refine ⟨[c1, c2, c3, c4], rfl, ?_⟩
  rw [if_neg (by have : IntKind.i64.wrap (1 * 2 ^ (min 32 64 : Nat)) = 4294967296 := by decide
                 omega), e1, e2, e3, e4]
  rfl
theorem route_ex (id : Int) : ∃ r : Int, 0 ≤ r ∧ r < 65536 ∧ callL G N_ref02_Route [.d (.int .i64 id)] [] = some (.d (.int .i64 r), []) := by
  by_cases h0 : id < 0
  · refine ⟨0, by omega, by omega, ?_⟩
    rw [callL_code g_ref02_Route (by simp)]; simp -implicitDefEqProofs (maxSteps := 4000000) (disch := omega) only [c_ref02_Route, r_ref02_Route, getDT, go_sem, *] /-A4-/
  · by_cases h1 : 1073741824 < id
    · refine ⟨0, by omega, by omega, ?_⟩
      rw [callL_code g_ref02_Route (by simp)]; simp -implicitDefEqProofs (maxSteps := 4000000) (disch := omega) only [c_ref02_Route, r_ref02_Route, getDT, go_sem, *] /-A5-/
    · obtain ⟨b, hb, hp⟩ := put_ex id (by omega) (by omega)
      obtain ⟨h, g0, g1, hs⟩ := sum_ex b (by omega)
      have hf : Int.fdiv h (2 ^ (min 16 64 : Nat)) = h / 65536 := by
        show Int.fdiv h 65536 = h / 65536
        rw [Int.fdiv_eq_ediv_of_nonneg _ (by omega)]
      have hx := xor_in (h / 65536) (andI .i64 h 65535) (by omega) (by have := and_in h 65535 (by omega) (by omega); omega)
      refine ⟨xorI .i64 (h / 65536) (andI .i64 h 65535), hx.1, hx.2, ?_⟩
      rw [callL_code g_ref02_Route (by simp)]; simp -implicitDefEqProofs (maxSteps := 4000000) (disch := omega) only [c_ref02_Route, r_ref02_Route, getDT, go_sem, *] /-A6-/
def intoD (r lo hi : Int) : Int := if lo ≤ r ∧ r ≤ hi then r else lo + r.tmod (hi - lo + 1)
theorem into_ok (r lo hi : Int) (h0 : 0 ≤ r) (h1 : r < 65536) (h2 : 0 ≤ lo) (h3 : lo ≤ hi) (h4 : hi < 65536) : callL G N_ref02_Into [.d (.int .i64 r), .d (.int .i64 lo), .d (.int .i64 hi)] [] = some (.d (.int .i64 (intoD r lo hi)), []) := by
  unfold intoD
  have hm := Int.tmod_lt_of_pos r (show 0 < hi - lo + 1 by omega)
  have hm2 := Int.tmod_nonneg (hi - lo + 1) h0
  have hne : ¬ hi - lo + 1 = 0 := by omega
  by_cases c : lo ≤ r ∧ r ≤ hi
  · rw [if_pos c]
    obtain ⟨c1, c2⟩ := c
    rw [callL_code g_ref02_Into (by simp)]; simp -implicitDefEqProofs (maxSteps := 4000000) (disch := omega) only [c_ref02_Into, r_ref02_Into, getDT, go_sem, *] /-A7-/
  · rw [if_neg c]
    by_cases c1 : lo ≤ r
    · have c2 : ¬ r ≤ hi := fun h => c ⟨c1, h⟩
      clear c
      rw [callL_code g_ref02_Into (by simp)]; simp -implicitDefEqProofs (maxSteps := 4000000) (disch := omega) only [c_ref02_Into, r_ref02_Into, getDT, go_sem, *] /-A8-/
    · clear c
      rw [callL_code g_ref02_Into (by simp)]; simp -implicitDefEqProofs (maxSteps := 4000000) (disch := omega) only [c_ref02_Into, r_ref02_Into, getDT, go_sem, *] /-A9-/
theorem into_in {r lo hi : Int} (h0 : 0 ≤ r) (h3 : lo ≤ hi) : lo ≤ intoD r lo hi ∧ intoD r lo hi ≤ hi := by
  unfold intoD
  have hm := Int.tmod_lt_of_pos r (show 0 < hi - lo + 1 by omega)
  have hm2 := Int.tmod_nonneg (hi - lo + 1) h0
  split <;> omega
def msgGood (m : Message) (id lo hi : Int) : Prop := m.id = id ∧ lo ≤ m.route ∧ m.route ≤ hi ∧ 0 ≤ m.epoch ∧ m.epoch ≤ 2 ∧ 0 ≤ m.count ∧ m.count ≤ 3 ∧ 0 ≤ m.sent ∧ m.sent ≤ 49 ∧ m.body.length ≤ 3 ∧ m.count ≤ m.gen ∧ m.gen ≤ 65536
theorem message_ex (l : List Int) (a : Nat) (id lo hi : Int) (hL : l.length ≤ 4000) (h2 : 0 ≤ lo) (h3 : lo ≤ hi) (h4 : hi < 65536) : ∃ m a', msgGood m id lo hi ∧ callL G N_base_Src_Message [.ref 1000000 0 0, .d (.int .i64 id), .d (.int .i64 lo), .d (.int .i64 hi)] [(1000000, srcO l a)] = some (.d (eMessage m), [(1000000, srcO l a')]) := by
  obtain ⟨r, r0, r1, hr⟩ := route_ex id
  have hi1 := into_ok r lo hi r0 r1 h2 h3 h4
  have hi2 := into_in (hi := hi) r0 h3
  generalize intoD r lo hi = ro at *
  have hn := fun at1 m => n_ok l at1 m hL
  obtain ⟨a1, q1⟩ : ∃ a1, (rawD l a).2 = a1 := ⟨_, rfl⟩
  obtain ⟨a2, q2⟩ : ∃ a2, (rawD l a1).2 = a2 := ⟨_, rfl⟩
  obtain ⟨a3, q3⟩ : ∃ a3, (rawD l a2).2 = a3 := ⟨_, rfl⟩
  obtain ⟨b1, hb⟩ := bodyF_ok l a3 hL
  obtain ⟨a4, q4⟩ : ∃ a4, (bodyF l a3).2 = a4 := ⟨_, rfl⟩
  generalize (bodyF l a3).1 = bd at *
  obtain ⟨a5, q5⟩ : ∃ a5, (rawD l a4).2 = a5 := ⟨_, rfl⟩
  obtain ⟨a6, q6⟩ : ∃ a6, (rawD l a5).2 = a6 := ⟨_, rfl⟩
  have n1 := nD_in l a (n := 3) (by omega)
  have n2 := nD_in l a1 (n := 4) (by omega)
  have n3 := nD_in l a2 (n := 50) (by omega)
  have n4 := nD_in l a4 (n := 3) (by omega)
  by_cases c : nD l a5 20 = 19
  · refine ⟨⟨id, ro, nD l a 3, nD l a1 4, 65536, nD l a2 50, bd⟩, a6, ⟨rfl, by simp only; omega, by simp only; omega, n1.1, by simp only; omega, n2.1, by simp only; omega, n3.1, by simp only; omega, b1, by simp only; omega, by simp⟩, ?_⟩
    simp only [eMessage]
    rw [callL_code g_base_Src_Message (by simp)]; simp -implicitDefEqProofs (maxSteps := 4000000) (disch := omega) only [c_base_Src_Message, r_base_Src_Message, getDT, go_sem, *] /-A10-/
  · refine ⟨⟨id, ro, nD l a 3, nD l a1 4, nD l a1 4 + nD l a4 3, nD l a2 50, bd⟩, a6, ⟨rfl, by simp only; omega, by simp only; omega, n1.1, by simp only; omega, n2.1, by simp only; omega, n3.1, by simp only; omega, b1, by simp only; omega, by simp only; omega⟩, ?_⟩
    simp only [eMessage]
    rw [callL_code g_base_Src_Message (by simp)]; simp -implicitDefEqProofs (maxSteps := 4000000) (disch := omega) only [c_base_Src_Message, r_base_Src_Message, getDT, go_sem, *] /-A11-/
end Go.Proofs.YtibkpphblgfmbaaGreat

namespace Go.Proofs.YtibkpphblgfmbaaGreat
open Go Go.Sim
set_option linter.unusedSimpArgs false
set_option linter.unusedVariables false
set_option maxHeartbeats 10000000
set_option maxRecDepth 40000
theorem pickF_ok (l : List Int) (a : Nat) (xs : List Int) (hL : l.length ≤ 4000) (h1 : 1 ≤ xs.length) (h2 : xs.length ≤ 1000) : callL G N_base_Src_Pick [.ref 1000000 0 0, .d (.sl (ints xs))] [(1000000, srcO l a)] = some (.d (.int .i64 (xs.getD (nD l a xs.length).toNat 0)), [(1000000, srcO l (rawD l a).2)]) := by
  have hn := n_ok l a xs.length hL (by omega) (by omega)
  have hb := nD_in l a (n := xs.length) (by omega)
  obtain ⟨i, hi⟩ : ∃ i : Nat, nD l a xs.length = i := ⟨(nD l a xs.length).toNat, by omega⟩
  rw [hi] at hn hb ⊢
  have hlt : i < xs.length := by omega
  rw [show ((i : Int)).toNat = i by omega, getDT hlt]
  clear hb hi
  rw [callL_code g_base_Src_Pick (by simp)]; simp -implicitDefEqProofs (maxSteps := 4000000) (disch := omega) only [c_base_Src_Pick, r_base_Src_Pick, getDT, go_sem, *] /-A0-/
def oddPhi (l : List Int) (r : Option (Go.Sim.AV × Heap)) : Prop := ∃ m a', r = some (.d (eMessage m), [(1000000, srcO l a')])
theorem odd_fin {l : List Int} {x1 x2 x3 x4 x5 x6 : Int} {s : List UInt8} {a' : Nat} : Post (oddPhi l) (some (.d (.agg [.int .i64 x1, .int .i64 x2, .int .i64 x3, .int .i64 x4, .int .i64 x5, .int .i64 x6, .str s]), [(1000000, srcO l a')])) := ⟨⟨x1, x2, x3, x4, x5, x6, s⟩, a', rfl⟩
theorem odd_post (l : List Int) (a : Nat) (id lo hi : Int) (hL : l.length ≤ 4000) (h2 : 0 ≤ lo) (h3 : lo ≤ hi) (h4 : hi < 65536) : Post (oddPhi l) (callL G N_base_Src_Odd [.ref 1000000 0 0, .d (.int .i64 id), .d (.int .i64 lo), .d (.int .i64 hi)] [(1000000, srcO l a)]) := by
  obtain ⟨m, a1, hm, hmc⟩ := message_ex l a id lo hi hL h2 h3 h4
  have hn := n_ok l a1 12 hL (by omega) (by omega)
  have hd := nD_in l a1 (n := 12) (by omega)
  obtain ⟨a2, q2⟩ : ∃ a2, (rawD l a1).2 = a2 := ⟨_, rfl⟩
  rw [q2] at hn
  generalize nD l a1 12 = c at *
  have hp := fun xs => pickF_ok l a2 xs hL
  have p0 := hp [0, 1073741824, 1073741825, -1] (by simp) (by simp)
  have p1 := hp [-1, 65535, 65536] (by simp) (by simp)
  have p2 := hp [m.count, m.count - 1, 65536, 65537] (by simp) (by simp)
  have p3 := hp [8, 9, -1] (by simp) (by simp)
  have p5 := hp [-1, 1073741824, 1073741825] (by simp) (by simp)
  have p6 := hp [-1, 65536, 65537] (by simp) (by simp)
  obtain ⟨s, a3, hs, hb⟩ := body_ok l a2 hL
  simp only [ints, List.map_cons, List.map_nil] at p0 p1 p2 p3 p5 p6
  obtain ⟨g1, g2, g3, g4, g5, g6, g7, g8, g9, g10, g11, g12⟩ := hm
  simp only [eMessage] at hmc
  clear hp q2
  rcases (show c = 0 ∨ c = 1 ∨ c = 2 ∨ c = 3 ∨ c = 4 ∨ c = 5 ∨ c = 6 ∨ 7 ≤ c by omega) with k | k | k | k | k | k | k | k
  all_goals (rw [callL_code g_base_Src_Odd (by simp)]; simp -implicitDefEqProofs (maxSteps := 4000000) (disch := omega) only [c_base_Src_Odd, r_base_Src_Odd, getDT, go_sem, *] /-A1-/)
  all_goals exact odd_fin
theorem odd_ex (l : List Int) (a : Nat) (id lo hi : Int) (hL : l.length ≤ 4000) (h2 : 0 ≤ lo) (h3 : lo ≤ hi) (h4 : hi < 65536) : ∃ m a', callL G N_base_Src_Odd [.ref 1000000 0 0, .d (.int .i64 id), .d (.int .i64 lo), .d (.int .i64 hi)] [(1000000, srcO l a)] = some (.d (eMessage m), [(1000000, srcO l a')]) := odd_post l a id lo hi hL h2 h3 h4
end Go.Proofs.YtibkpphblgfmbaaGreat

namespace Go.Proofs.YtibkpphblgfmbaaGreat
open Go Go.Sim
set_option linter.unusedSimpArgs false
set_option linter.unusedVariables false
set_option maxHeartbeats 10000000
set_option maxRecDepth 100000
def rowsL : List Nat := [N_slices_Clone_api_Lease, N_due_Until]
def doneL : List Nat := [N_base_Src_Message, N_base_Src_Odd, N_base_Src_Pick, N_due_Validate, N_due_Push, N_due_Remove, N_lease_Validate, N_lease_time, N_message_Validate, N_message_Purged, N_ref03_Validate, N_ref03_Purged, N_ref05_Validate, N_ref05_Push, N_ref05_Remove, N_ref05_Until, N_ref05_Same, N_ref05_SameInts, N_ref06_Validate, N_ref06_find, N_ref06_Same, N_ref06_SameLeases, N_base_New, N_base_Src_N, N_base_Src_Range, N_base_Src_Raw, N_base_Src_Body, N_ref02_Route, N_ref02_Into, N_cmp_Compare_int]
namespace L
noncomputable def G : FuncId → Option AFn := layer Go.Proofs.YtibkpphblgfmbaaGreat.G rowsL doneL
theorem g_law06_LeaseBuilt : G N_law06_LeaseBuilt = some fn_law06_LeaseBuilt := by kernel_rfl
theorem g_base_Src_Table : G N_base_Src_Table = some fn_base_Src_Table := by kernel_rfl
theorem g_ref01_Put : G N_ref01_Put = some fn_ref01_Put := by kernel_rfl
theorem g_ref02_Sum : G N_ref02_Sum = some fn_ref02_Sum := by kernel_rfl
theorem g_ref06_Grant : G N_ref06_Grant = some fn_ref06_Grant := by kernel_rfl
theorem g_ref03_in : G N_ref03_in = some fn_ref03_in := by kernel_rfl
theorem g_ref05_sound : G N_ref05_sound = some fn_ref05_sound := by kernel_rfl
theorem g_ref05_index : G N_ref05_index = some fn_ref05_index := by kernel_rfl
theorem g_ref05_before : G N_ref05_before = some fn_ref05_before := by kernel_rfl
theorem g_ref05_up : G N_ref05_up = some fn_ref05_up := by kernel_rfl
theorem g_ref05_swap : G N_ref05_swap = some fn_ref05_swap := by kernel_rfl
theorem g_law06_agrees : G N_law06_agrees = some fn_law06_agrees := by kernel_rfl
theorem g_message_in : G N_message_in = some fn_message_in := by kernel_rfl
theorem g_slices_ContainsFunc_api_Due : G N_slices_ContainsFunc_api_Due = some fn_slices_ContainsFunc_api_Due := by kernel_rfl
theorem g_slices_IndexFunc_api_Due : G N_slices_IndexFunc_api_Due = some fn_slices_IndexFunc_api_Due := by kernel_rfl
theorem g_due_Validate_1 : G N_due_Validate_1 = some fn_due_Validate_1 := by kernel_rfl
theorem g_due_valid : G N_due_valid = some fn_due_valid := by kernel_rfl
theorem g_due_find : G N_due_find = some fn_due_find := by kernel_rfl
theorem g_due_find_1 : G N_due_find_1 = some fn_due_find_1 := by kernel_rfl
theorem g_due_before : G N_due_before = some fn_due_before := by kernel_rfl
theorem g_due_compare : G N_due_compare = some fn_due_compare := by kernel_rfl
theorem g_cmp_isNaN_int : G N_cmp_isNaN_int = some fn_cmp_isNaN_int := by kernel_rfl
theorem g_cmp_Or_int : G N_cmp_Or_int = some fn_cmp_Or_int := by kernel_rfl
theorem g_lease_matches : G N_lease_matches = some fn_lease_matches := by kernel_rfl
theorem g_slices_Contains_api_Due : G N_slices_Contains_api_Due = some fn_slices_Contains_api_Due := by kernel_rfl
theorem g_slices_Index_api_Due : G N_slices_Index_api_Due = some fn_slices_Index_api_Due := by kernel_rfl
theorem g_lease_Lapsed : G N_lease_Lapsed = some fn_lease_Lapsed := by kernel_rfl
theorem g_slices_Clone_api_Due : G N_slices_Clone_api_Due = some fn_slices_Clone_api_Due := by kernel_rfl
theorem g_slices_SortFunc_api_Due : G N_slices_SortFunc_api_Due = some fn_slices_SortFunc_api_Due := by kernel_rfl
theorem g_math_bits_Len : G N_math_bits_Len = some fn_math_bits_Len := by kernel_rfl
theorem g_math_bits_Len32 : G N_math_bits_Len32 = some fn_math_bits_Len32 := by kernel_rfl
theorem g_math_bits_Len64 : G N_math_bits_Len64 = some fn_math_bits_Len64 := by kernel_rfl
theorem g_slices_pdqsortCmpFunc_api_Due : G N_slices_pdqsortCmpFunc_api_Due = some fn_slices_pdqsortCmpFunc_api_Due := by kernel_rfl
theorem g_slices_insertionSortCmpFunc_api_Due : G N_slices_insertionSortCmpFunc_api_Due = some fn_slices_insertionSortCmpFunc_api_Due := by kernel_rfl
theorem g_lease_Lapsed_1 : G N_lease_Lapsed_1 = some fn_lease_Lapsed_1 := by kernel_rfl
theorem g_lease_find : G N_lease_find = some fn_lease_find := by kernel_rfl
theorem g_slices_BinarySearchFunc_api_Lease : G N_slices_BinarySearchFunc_api_Lease = some fn_slices_BinarySearchFunc_api_Lease := by kernel_rfl
theorem g_lease_find_1 : G N_lease_find_1 = some fn_lease_find_1 := by kernel_rfl
theorem g_slices_DeleteFunc_int : G N_slices_DeleteFunc_int = some fn_slices_DeleteFunc_int := by kernel_rfl
theorem g_slices_IndexFunc_int : G N_slices_IndexFunc_int = some fn_slices_IndexFunc_int := by kernel_rfl
theorem g_ref06_Lapsed : G N_ref06_Lapsed = some fn_ref06_Lapsed := by kernel_rfl
theorem g_ref05_cut : G N_ref05_cut = some fn_ref05_cut := by kernel_rfl
theorem g_ref05_down : G N_ref05_down = some fn_ref05_down := by kernel_rfl
theorem g_ref06_Find : G N_ref06_Find = some fn_ref06_Find := by kernel_rfl
theorem g_lease_Find : G N_lease_Find = some fn_lease_Find := by kernel_rfl
theorem g_lease_Grant : G N_lease_Grant = some fn_lease_Grant := by kernel_rfl
theorem g_due_up : G N_due_up = some fn_due_up := by kernel_rfl
theorem g_slices_Insert_api_Lease : G N_slices_Insert_api_Lease = some fn_slices_Insert_api_Lease := by kernel_rfl
theorem g_lease_Release : G N_lease_Release = some fn_lease_Release := by kernel_rfl
theorem g_due_drop : G N_due_drop = some fn_due_drop := by kernel_rfl
theorem g_due_down : G N_due_down = some fn_due_down := by kernel_rfl
theorem g_lease_without_api_Lease : G N_lease_without_api_Lease = some fn_lease_without_api_Lease := by kernel_rfl
theorem g_slices_Delete_api_Lease : G N_slices_Delete_api_Lease = some fn_slices_Delete_api_Lease := by kernel_rfl
theorem g_ref06_Release : G N_ref06_Release = some fn_ref06_Release := by kernel_rfl
theorem g_lease_Extend : G N_lease_Extend = some fn_lease_Extend := by kernel_rfl
theorem g_ref06_Extend : G N_ref06_Extend = some fn_ref06_Extend := by kernel_rfl
theorem g_law06_awake : G N_law06_awake = some fn_law06_awake := by kernel_rfl
theorem up_base_Src_Message {args : List Go.Sim.AV} {os : Heap} : callL G N_base_Src_Message args os = callL Go.Proofs.YtibkpphblgfmbaaGreat.G N_base_Src_Message args os := layer_up (by kernel_rfl)
theorem up_base_Src_Odd {args : List Go.Sim.AV} {os : Heap} : callL G N_base_Src_Odd args os = callL Go.Proofs.YtibkpphblgfmbaaGreat.G N_base_Src_Odd args os := layer_up (by kernel_rfl)
theorem up_base_Src_Pick {args : List Go.Sim.AV} {os : Heap} : callL G N_base_Src_Pick args os = callL Go.Proofs.YtibkpphblgfmbaaGreat.G N_base_Src_Pick args os := layer_up (by kernel_rfl)
theorem up_due_Validate {args : List Go.Sim.AV} {os : Heap} : callL G N_due_Validate args os = callL Go.Proofs.YtibkpphblgfmbaaGreat.G N_due_Validate args os := layer_up (by kernel_rfl)
theorem up_due_Push {args : List Go.Sim.AV} {os : Heap} : callL G N_due_Push args os = callL Go.Proofs.YtibkpphblgfmbaaGreat.G N_due_Push args os := layer_up (by kernel_rfl)
theorem up_due_Remove {args : List Go.Sim.AV} {os : Heap} : callL G N_due_Remove args os = callL Go.Proofs.YtibkpphblgfmbaaGreat.G N_due_Remove args os := layer_up (by kernel_rfl)
theorem up_lease_Validate {args : List Go.Sim.AV} {os : Heap} : callL G N_lease_Validate args os = callL Go.Proofs.YtibkpphblgfmbaaGreat.G N_lease_Validate args os := layer_up (by kernel_rfl)
theorem up_lease_time {args : List Go.Sim.AV} {os : Heap} : callL G N_lease_time args os = callL Go.Proofs.YtibkpphblgfmbaaGreat.G N_lease_time args os := layer_up (by kernel_rfl)
theorem up_message_Validate {args : List Go.Sim.AV} {os : Heap} : callL G N_message_Validate args os = callL Go.Proofs.YtibkpphblgfmbaaGreat.G N_message_Validate args os := layer_up (by kernel_rfl)
theorem up_message_Purged {args : List Go.Sim.AV} {os : Heap} : callL G N_message_Purged args os = callL Go.Proofs.YtibkpphblgfmbaaGreat.G N_message_Purged args os := layer_up (by kernel_rfl)
theorem up_ref03_Validate {args : List Go.Sim.AV} {os : Heap} : callL G N_ref03_Validate args os = callL Go.Proofs.YtibkpphblgfmbaaGreat.G N_ref03_Validate args os := layer_up (by kernel_rfl)
theorem up_ref03_Purged {args : List Go.Sim.AV} {os : Heap} : callL G N_ref03_Purged args os = callL Go.Proofs.YtibkpphblgfmbaaGreat.G N_ref03_Purged args os := layer_up (by kernel_rfl)
theorem up_ref05_Validate {args : List Go.Sim.AV} {os : Heap} : callL G N_ref05_Validate args os = callL Go.Proofs.YtibkpphblgfmbaaGreat.G N_ref05_Validate args os := layer_up (by kernel_rfl)
theorem up_ref05_Push {args : List Go.Sim.AV} {os : Heap} : callL G N_ref05_Push args os = callL Go.Proofs.YtibkpphblgfmbaaGreat.G N_ref05_Push args os := layer_up (by kernel_rfl)
theorem up_ref05_Remove {args : List Go.Sim.AV} {os : Heap} : callL G N_ref05_Remove args os = callL Go.Proofs.YtibkpphblgfmbaaGreat.G N_ref05_Remove args os := layer_up (by kernel_rfl)
theorem up_ref05_Until {args : List Go.Sim.AV} {os : Heap} : callL G N_ref05_Until args os = callL Go.Proofs.YtibkpphblgfmbaaGreat.G N_ref05_Until args os := layer_up (by kernel_rfl)
theorem up_ref05_Same {args : List Go.Sim.AV} {os : Heap} : callL G N_ref05_Same args os = callL Go.Proofs.YtibkpphblgfmbaaGreat.G N_ref05_Same args os := layer_up (by kernel_rfl)
theorem up_ref05_SameInts {args : List Go.Sim.AV} {os : Heap} : callL G N_ref05_SameInts args os = callL Go.Proofs.YtibkpphblgfmbaaGreat.G N_ref05_SameInts args os := layer_up (by kernel_rfl)
theorem up_ref06_Validate {args : List Go.Sim.AV} {os : Heap} : callL G N_ref06_Validate args os = callL Go.Proofs.YtibkpphblgfmbaaGreat.G N_ref06_Validate args os := layer_up (by kernel_rfl)
theorem up_ref06_find {args : List Go.Sim.AV} {os : Heap} : callL G N_ref06_find args os = callL Go.Proofs.YtibkpphblgfmbaaGreat.G N_ref06_find args os := layer_up (by kernel_rfl)
theorem up_ref06_Same {args : List Go.Sim.AV} {os : Heap} : callL G N_ref06_Same args os = callL Go.Proofs.YtibkpphblgfmbaaGreat.G N_ref06_Same args os := layer_up (by kernel_rfl)
theorem up_ref06_SameLeases {args : List Go.Sim.AV} {os : Heap} : callL G N_ref06_SameLeases args os = callL Go.Proofs.YtibkpphblgfmbaaGreat.G N_ref06_SameLeases args os := layer_up (by kernel_rfl)
theorem up_base_New {args : List Go.Sim.AV} {os : Heap} : callL G N_base_New args os = callL Go.Proofs.YtibkpphblgfmbaaGreat.G N_base_New args os := layer_up (by kernel_rfl)
theorem up_base_Src_N {args : List Go.Sim.AV} {os : Heap} : callL G N_base_Src_N args os = callL Go.Proofs.YtibkpphblgfmbaaGreat.G N_base_Src_N args os := layer_up (by kernel_rfl)
theorem up_base_Src_Range {args : List Go.Sim.AV} {os : Heap} : callL G N_base_Src_Range args os = callL Go.Proofs.YtibkpphblgfmbaaGreat.G N_base_Src_Range args os := layer_up (by kernel_rfl)
theorem up_base_Src_Raw {args : List Go.Sim.AV} {os : Heap} : callL G N_base_Src_Raw args os = callL Go.Proofs.YtibkpphblgfmbaaGreat.G N_base_Src_Raw args os := layer_up (by kernel_rfl)
theorem up_base_Src_Body {args : List Go.Sim.AV} {os : Heap} : callL G N_base_Src_Body args os = callL Go.Proofs.YtibkpphblgfmbaaGreat.G N_base_Src_Body args os := layer_up (by kernel_rfl)
theorem up_ref02_Route {args : List Go.Sim.AV} {os : Heap} : callL G N_ref02_Route args os = callL Go.Proofs.YtibkpphblgfmbaaGreat.G N_ref02_Route args os := layer_up (by kernel_rfl)
theorem up_ref02_Into {args : List Go.Sim.AV} {os : Heap} : callL G N_ref02_Into args os = callL Go.Proofs.YtibkpphblgfmbaaGreat.G N_ref02_Into args os := layer_up (by kernel_rfl)
theorem up_cmp_Compare_int {args : List Go.Sim.AV} {os : Heap} : callL G N_cmp_Compare_int args os = callL Go.Proofs.YtibkpphblgfmbaaGreat.G N_cmp_Compare_int args os := layer_up (by kernel_rfl)
theorem row_slices_Clone_api_Lease : G N_slices_Clone_api_Lease = some (.ext (rowF (callL Go.Proofs.YtibkpphblgfmbaaGreat.G) N_slices_Clone_api_Lease)) := by kernel_rfl
theorem row_due_Until : G N_due_Until = some (.ext (rowF (callL Go.Proofs.YtibkpphblgfmbaaGreat.G) N_due_Until)) := by kernel_rfl
attribute [go_sem] up_base_Src_Message up_base_Src_Odd up_base_Src_Pick up_due_Validate up_due_Push up_due_Remove up_lease_Validate up_lease_time up_message_Validate up_message_Purged up_ref03_Validate up_ref03_Purged up_ref05_Validate up_ref05_Push up_ref05_Remove up_ref05_Until up_ref05_Same up_ref05_SameInts up_ref06_Validate up_ref06_find up_ref06_Same up_ref06_SameLeases up_base_New up_base_Src_N up_base_Src_Range up_base_Src_Raw up_base_Src_Body up_ref02_Route up_ref02_Into up_cmp_Compare_int
end L
end Go.Proofs.YtibkpphblgfmbaaGreat

namespace Go.Proofs.YtibkpphblgfmbaaGreat.L
open Go Go.Sim Go.Proofs.YtibkpphblgfmbaaGreat
set_option linter.unusedSimpArgs false
set_option linter.unusedVariables false
set_option maxHeartbeats 10000000
set_option maxRecDepth 40000
def posL (l : List Lease) (id : Int) : Nat := (l.filter fun x => decide (x.msg.id < id)).length
theorem posL_le (l : List Lease) (id : Int) : posL l id ≤ l.length := List.length_filter_le _ _
theorem pos_lt {l : List Lease} (h : l.Pairwise fun x y => x.msg.id < y.msg.id) {id : Int} : ∀ {k : Nat} (hk : k < l.length), k < posL l id ↔ l[k].msg.id < id := by
  induction l with
  | nil => intro k hk; exact absurd hk (by simp)
  | cons x l ih =>
    intro k hk
    obtain ⟨h1, h2⟩ := List.pairwise_cons.1 h
    by_cases hx : x.msg.id < id
    · have e : posL (x :: l) id = posL l id + 1 := by simp [posL, hx]
      rw [e]
      cases k with
      | zero => simp [hx]
      | succ k => have := ih h2 (k := k) (by simpa using hk); simp only [List.getElem_cons_succ]; rw [← this]; omega
    · have e : posL (x :: l) id = 0 := by
        unfold posL
        rw [List.length_eq_zero_iff, List.filter_eq_nil_iff]
        intro y hy
        simp only [decide_eq_true_eq]
        rcases List.mem_cons.1 hy with rfl | hy
        · exact hx
        · have := h1 y hy; omega
      rw [e]
      have hle : id ≤ ((x :: l)[k]).msg.id := by
        cases k with
        | zero => simp only [List.getElem_cons_zero]; omega
        | succ k => simp only [List.getElem_cons_succ]; have := h1 _ (List.getElem_mem (l := l) (n := k) (by simpa using hk)); omega
      omega
theorem fcmp_ok (x : Lease) (id : Int) : callL G N_lease_find_1 [.d (eLease x), .d (.int .i64 id)] [] = some (.d (.int .i64 (cmpI x.msg.id id)), []) := by
  have h := compare_ok x.msg.id id
  rw [callL_code g_lease_find_1 (by simp)]; simp -implicitDefEqProofs (maxSteps := 4000000) (disch := omega) only [c_lease_find_1, r_lease_find_1, getDT, go_sem, *] /-A0-/
theorem cmpI_lt (a b : Int) : (cmpI a b < 0) ↔ a < b := by unfold cmpI; split <;> (try split) <;> omega
theorem cmpI_eq (a b : Int) : (cmpI a b = 0) ↔ a = b := by unfold cmpI; split <;> (try split) <;> omega
def bsS (l : List Lease) (id : Int) (p : Nat × Nat) : St := ⟨[(0, .d (.sl (l.map eLease))), (1, .d (.int .i64 id)), (2, .d (.fn N_lease_find_1 [])), (8, .d (.int .i64 l.length)), (9, .d (.int .i64 p.1)), (10, .d (.int .i64 p.2))], []⟩
theorem bs_loop (l : List Lease) (id : Int) (hL : l.length ≤ 1000) (h : l.Pairwise fun x y => x.msg.id < y.msg.id) : ∀ p : Nat × Nat, p.1 ≤ posL l id ∧ posL l id ≤ p.2 ∧ p.2 ≤ l.length → loopL G [] l_slices_BinarySearchFunc_api_Lease_0 (bsS l id p) = some (.exit 0, ⟨[(0, .d (.sl (l.map eLease))), (1, .d (.int .i64 id)), (2, .d (.fn N_lease_find_1 [])), (8, .d (.int .i64 l.length)), (9, .d (.int .i64 (posL l id)))], []⟩) := by
  refine loop_ind (fun p : Nat × Nat => p.2 - p.1) (fun p : Nat × Nat => p.1 ≤ posL l id ∧ posL l id ≤ p.2 ∧ p.2 ≤ l.length) (bsS l id) _ fun ⟨i, j⟩ ⟨h1, h2, h3⟩ L ih => ?_
  simp only at h1 h2 h3
  simp only [bsS] at ih ⊢
  simp only [l_slices_BinarySearchFunc_api_Lease_0]
  by_cases hij : i < j
  · obtain ⟨m, hm⟩ : ∃ m, m = (i + j) / 2 := ⟨_, rfl⟩
    have hml : m < l.length := by omega
    have e1 : Int.fdiv ((i : Int) + j) (2 ^ (min 1 64 : Nat)) = (m : Int) := by show Int.fdiv ((i : Int) + j) 2 = m; rw [Int.fdiv_eq_ediv_of_nonneg _ (by omega)]; omega
    have hf := fcmp_ok (l[m]) id
    have hp := pos_lt h (id := id) hml
    by_cases hc : l[m].msg.id < id
    · have i1 := ih (m + 1, j) ⟨by simp only; omega, h2, h3⟩ (by simp only; omega)
      have hc2 := (cmpI_lt (l[m].msg.id) id).2 hc
      clear ih hm
      simp only [Int.natCast_add, Int.natCast_one, Int.natCast_zero, Int.natCast_mul, Int.cast_ofNat_Int, List.length_append, List.length_map, List.map_nil, List.length_nil, List.map_append, List.map_cons, List.length_cons, Nat.zero_add, srcO, mapSet] at i1
      simp -implicitDefEqProofs (maxSteps := 4000000) (disch := omega) only [getDT, go_sem, *] /-A1-/
    · have i2 := ih (i, m) ⟨h1, by simp only; omega, by simp only; omega⟩ (by simp only; omega)
      have hc2 : ¬ cmpI (l[m].msg.id) id < 0 := fun h => hc ((cmpI_lt _ _).1 h)
      clear ih hm
      simp -implicitDefEqProofs (maxSteps := 4000000) (disch := omega) only [getDT, go_sem, *] /-A2-/
  · have : i = posL l id := by omega
    subst this
    clear ih
    simp -implicitDefEqProofs (maxSteps := 4000000) (disch := omega) only [getDT, go_sem, *] /-A3-/
theorem findL_pos {l : List Lease} (h : l.Pairwise fun x y => x.msg.id < y.msg.id) (id : Int) : (0 ≤ findL l id) ↔ ∃ hp : posL l id < l.length, l[posL l id].msg.id = id := by
  constructor
  · intro h0
    obtain ⟨k, hk, e1, e2⟩ := findL_some h0
    have a1 := pos_lt h (id := id) hk
    have hle : posL l id ≤ k := by omega
    have hpl : posL l id < l.length := by omega
    have a2 := pos_lt h (id := id) hpl
    refine ⟨hpl, ?_⟩
    have : ¬ posL l id < k := fun hlt => by
      have := List.pairwise_iff_getElem.1 h (posL l id) k hpl hk hlt
      omega
    have : posL l id = k := by omega
    simp only [this, e2]
  · rintro ⟨hp, e⟩
    have := findL_at h hp
    rw [e] at this; omega
theorem findL_posL {l : List Lease} (h : l.Pairwise fun x y => x.msg.id < y.msg.id) {id : Int} (h0 : 0 ≤ findL l id) : findL l id = posL l id := by
  obtain ⟨hp, e⟩ := (findL_pos h id).1 h0
  have := findL_at h hp
  rwa [e] at this
theorem bs_ok (l : List Lease) (id : Int) (hL : l.length ≤ 1000) (h : l.Pairwise fun x y => x.msg.id < y.msg.id) : callL G N_slices_BinarySearchFunc_api_Lease [.d (.sl (l.map eLease)), .d (.int .i64 id), .d (.fn N_lease_find_1 [])] [] = some (.d (.tup [.int .i64 (posL l id), .bool (decide (0 ≤ findL l id))]), []) := by
  have hl := bs_loop l id hL h (0, l.length) ⟨by simp, posL_le l id, Nat.le_refl _⟩
  simp only [bsS] at hl
  simp only [Int.natCast_add, Int.natCast_one, Int.natCast_zero, Int.natCast_mul, Int.cast_ofNat_Int, List.length_append, List.length_map, List.map_nil, List.length_nil, List.map_append, List.map_cons, List.length_cons, Nat.zero_add, srcO, mapSet] at hl
  have hp := findL_pos h id
  by_cases hpl : posL l id < l.length
  · have hf := fcmp_ok l[posL l id] id
    by_cases he : l[posL l id].msg.id = id
    · have h0 : 0 ≤ findL l id := hp.2 ⟨hpl, he⟩
      have e0 : cmpI l[posL l id].msg.id id = 0 := (cmpI_eq _ _).2 he
      rw [e0] at hf
      simp only [h0, decide_true]
      clear he e0
      rw [callL_code g_slices_BinarySearchFunc_api_Lease (by simp)]; simp -implicitDefEqProofs (maxSteps := 4000000) (disch := omega) only [c_slices_BinarySearchFunc_api_Lease, r_slices_BinarySearchFunc_api_Lease, getDT, go_sem, *] /-A4-/
    · have h0 : ¬ 0 ≤ findL l id := fun h0 => he (hp.1 h0).2
      have e0 : ¬ cmpI l[posL l id].msg.id id = 0 := fun e => he ((cmpI_eq _ _).1 e)
      simp only [h0, decide_false]
      rw [callL_code g_slices_BinarySearchFunc_api_Lease (by simp)]; simp -implicitDefEqProofs (maxSteps := 4000000) (disch := omega) only [c_slices_BinarySearchFunc_api_Lease, r_slices_BinarySearchFunc_api_Lease, getDT, go_sem, *] /-A5-/
  · have h0 : ¬ 0 ≤ findL l id := fun h0 => hpl (hp.1 h0).1
    simp only [h0, decide_false]
    rw [callL_code g_slices_BinarySearchFunc_api_Lease (by simp)]; simp -implicitDefEqProofs (maxSteps := 4000000) (disch := omega) only [c_slices_BinarySearchFunc_api_Lease, r_slices_BinarySearchFunc_api_Lease, getDT, go_sem, *] /-A6-/
theorem lfind_ok (t : Table) (id : Int) (hL : t.l.length ≤ 1000) (h : t.l.Pairwise fun x y => x.msg.id < y.msg.id) : callL G N_lease_find [.d (eTable t), .d (.int .i64 id)] [] = some (.d (.tup [.int .i64 (posL t.l id), .bool (decide (0 ≤ findL t.l id))]), []) := by
  have hb := bs_ok t.l id hL h
  simp only [eTable]
  rw [callL_code g_lease_find (by simp)]; simp -implicitDefEqProofs (maxSteps := 4000000) (disch := omega) only [c_lease_find, r_lease_find, getDT, go_sem, *] /-A7-/
end Go.Proofs.YtibkpphblgfmbaaGreat.L

namespace Go.Proofs.YtibkpphblgfmbaaGreat.L
open Go Go.Sim Go.Proofs.YtibkpphblgfmbaaGreat
set_option linter.unusedSimpArgs false
set_option linter.unusedVariables false
set_option maxHeartbeats 10000000
set_option maxRecDepth 40000
theorem crow (l : List Lease) (h : l ≠ []) (hL : l.length ≤ 1000) : callL G N_slices_Clone_api_Lease [.d (.sl (l.map eLease))] [] = some (.osl 0 0 l.length, [(0, .row ((l.map eLease).map .d))]) := by
  have := layer_row row_slices_Clone_api_Lease (by simpa using h) (clone_api_Lease (l.map eLease) (allSize_Lease l) (by simp; omega))
  rw [List.length_map] at this
  exact this
theorem crow0 : callL G N_slices_Clone_api_Lease [.d (.sl [])] [] = some (.xsl [], []) := layer_row0 row_slices_Clone_api_Lease (clone_api_Lease [] rfl (by simp))
theorem tabV_zero {t : Table} (h : tabV t = 0) : t.l.length ≤ 12 ∧ leasesE t.l = 0 ∧ validateD t.heap = 0 ∧ matchP t = true := by
  unfold tabV at h
  split at h
  · cases h
  split at h
  · omega
  split at h
  · omega
  split at h
  · rename_i h1 h2 h3 h4; exact ⟨by omega, by simpa using h2, by simpa using h3, h4⟩
  · cases h
theorem remove_len (h : List Due) (id : Int) (hL : h.length ≤ 4294967296) : (removeD h id).1.length ≤ 4294967296 := by
  unfold removeD
  split
  · simp
  · rename_i h0
    have o := (validate_iff h).1 (by simpa using h0)
    split
    · simp
    · rename_i h1
      have hlt := findD_lt h id
      have := (drop_ok' o (findD h id).toNat (by omega)).2.length_eq
      simp only [List.length_cons] at this
      have hh := o.len
      show (dropL h (findD h id).toNat).length ≤ _
      omega
def insL (l : List Lease) (m : Message) (d : Int) : List Lease := l.take (posL l m.id) ++ [⟨m, d⟩] ++ l.drop (posL l m.id)
def grantE (t : Table) (m : Message) (d : Int) : Int :=
  if tabV t ≠ 0 then tabV t else if msgV m ≠ 0 then msgV m else if m.gen = 0 then 7 else if ¬ (0 ≤ d ∧ d ≤ 1073741824) then 1 else if t.l.length = 12 then 3 else if 0 ≤ findL t.l m.id then 10 else (pushD t.heap (d, m.id)).2
def grantD (t : Table) (m : Message) (d : Int) : Table × Int := if grantE t m d = 0 then (⟨insL t.l m d, (pushD t.heap (d, m.id)).1⟩, 0) else (zTable, grantE t m d)
theorem insL_map (l : List Lease) (m : Message) (d : Int) : (insL l m d).map eLease = (l.map eLease).take (posL l m.id) ++ [eLease ⟨m, d⟩] ++ (l.map eLease).drop (posL l m.id) := by
  simp only [insL, List.map_append, List.map_take, List.map_drop, List.map_cons, List.map_nil]
theorem grant_ok (t : Table) (m : Message) (d : Int) (hL : t.l.length ≤ 4294967296) (hH : t.heap.length ≤ 4294967296) : callL G N_lease_Grant [.d (eTable t), .d (eMessage m), .d (.int .i64 d)] [] = some (.d (.tup [eTable (grantD t m d).1, .int .i64 (grantD t m d).2]), []) := by
  have hv := lval_ok t hL hH
  have hm := mval_ok m
  have ht := ltime_ok d
  simp only [eTable, eMessage] at hv hm ⊢
  unfold grantD grantE
  by_cases h1 : tabV t = 0
  · obtain ⟨h12, hE, hD, hM⟩ := tabV_zero h1
    have ha := leases_asc hE
    have hf := lfind_ok t m.id (by omega) ha
    have hp := push_ok t.heap (d, m.id) hH
    have hpl := posL_le t.l m.id
    simp only [eTable, eD, eDE] at hf hp
    simp only [h1, ne_eq, not_true_eq_false, if_false]
    by_cases h2 : msgV m = 0
    · simp only [h2, not_true_eq_false, if_false]
      by_cases h3 : m.gen = 0
      · simp only [h3, if_true] at hm ⊢
        rw [callL_code g_lease_Grant (by simp)]; simp -implicitDefEqProofs (maxSteps := 4000000) (disch := omega) only [c_lease_Grant, r_lease_Grant, getDT, go_sem, *]; (try simp only [pA, pB, pC, pD, pE, pF, pG, pH, pI, pJ, pK, pL, pM, pN, pO, pP, if_true, if_false]); repeat' (first | done | rfl | ((first | refine iteC (fun hq => ?_) (fun hq => ?_) | refine iteP (fun hq => ?_) (fun hq => ?_)) <;> (try (first | (exfalso; omega) | contradiction)) <;> (try simp -implicitDefEqProofs (maxSteps := 4000000) (disch := omega) only [getDT, go_sem, *]) <;> (try simp only [pA, pB, pC, pD, pE, pF, pG, pH, pI, pJ, pK, pL, pM, pN, pO, pP, if_true, if_false]))); (all_goals try rfl); (all_goals try (repeat' (first | done | rfl | (exfalso; omega) | contradiction | (refine iteR (fun hq => ?_) (fun hq => ?_))))) /-A0-/
      · simp only [h3, if_false]
        by_cases h4 : 0 ≤ d ∧ d ≤ 1073741824
        · simp only [h4, and_self, not_true_eq_false, if_false, decide_true] at ht ⊢
          by_cases h5 : t.l.length = 12
          · simp only [h5, if_true]
            rw [callL_code g_lease_Grant (by simp)]; simp -implicitDefEqProofs (maxSteps := 4000000) (disch := omega) only [c_lease_Grant, r_lease_Grant, getDT, go_sem, *]; (try simp only [pA, pB, pC, pD, pE, pF, pG, pH, pI, pJ, pK, pL, pM, pN, pO, pP, if_true, if_false]); repeat' (first | done | rfl | ((first | refine iteC (fun hq => ?_) (fun hq => ?_) | refine iteP (fun hq => ?_) (fun hq => ?_)) <;> (try (first | (exfalso; omega) | contradiction)) <;> (try simp -implicitDefEqProofs (maxSteps := 4000000) (disch := omega) only [getDT, go_sem, *]) <;> (try simp only [pA, pB, pC, pD, pE, pF, pG, pH, pI, pJ, pK, pL, pM, pN, pO, pP, if_true, if_false]))); (all_goals try rfl); (all_goals try (repeat' (first | done | rfl | (exfalso; omega) | contradiction | (refine iteR (fun hq => ?_) (fun hq => ?_))))) /-A1-/
          · simp only [h5, if_false]
            by_cases h6 : 0 ≤ findL t.l m.id
            · simp only [h6, if_true, decide_true] at hf ⊢
              rw [callL_code g_lease_Grant (by simp)]; simp -implicitDefEqProofs (maxSteps := 4000000) (disch := omega) only [c_lease_Grant, r_lease_Grant, getDT, go_sem, *]; (try simp only [pA, pB, pC, pD, pE, pF, pG, pH, pI, pJ, pK, pL, pM, pN, pO, pP, if_true, if_false]); repeat' (first | done | rfl | ((first | refine iteC (fun hq => ?_) (fun hq => ?_) | refine iteP (fun hq => ?_) (fun hq => ?_)) <;> (try (first | (exfalso; omega) | contradiction)) <;> (try simp -implicitDefEqProofs (maxSteps := 4000000) (disch := omega) only [getDT, go_sem, *]) <;> (try simp only [pA, pB, pC, pD, pE, pF, pG, pH, pI, pJ, pK, pL, pM, pN, pO, pP, if_true, if_false]))); (all_goals try rfl); (all_goals try (repeat' (first | done | rfl | (exfalso; omega) | contradiction | (refine iteR (fun hq => ?_) (fun hq => ?_))))) /-A2-/
            · simp only [h6, if_false, decide_false] at hf ⊢
              by_cases h7 : (pushD t.heap (d, m.id)).2 = 0
              · simp only [h7, if_true]
                have hi := insL_map t.l m d
                rw [h7] at hp
                simp only [hi, eLease]
                by_cases h8 : t.l = []
                · have hc := crow0
                  have hpz : posL t.l m.id = 0 := by rw [h8]; rfl
                  have hin : callL G N_slices_Insert_api_Lease [.xsl [], .d (.int .i64 0), .d (.sl [.agg [.int .i64 m.id, .int .i64 m.route, .int .i64 m.epoch, .int .i64 m.count, .int .i64 m.gen, .int .i64 m.sent, .str m.body, .int .i64 d]])] [] = some (.d (.sl [.agg [.int .i64 m.id, .int .i64 m.route, .int .i64 m.epoch, .int .i64 m.count, .int .i64 m.gen, .int .i64 m.sent, .str m.body, .int .i64 d]]), []) := ins_call0 g_slices_Insert_api_Lease _ rfl
                  simp only [hpz, h8, List.map_nil, List.take_nil, List.drop_nil] at *
                  rw [callL_code g_lease_Grant (by simp)]; simp -implicitDefEqProofs (maxSteps := 4000000) (disch := omega) only [c_lease_Grant, r_lease_Grant, getDT, go_sem, *] /-A3-/
                · have hc := crow t.l h8 (by omega)
                  have hne : t.l.map eLease ≠ [] := by simpa using h8
                  have hin := ins_call g_slices_Insert_api_Lease (t.l.map eLease) (eLease ⟨m, d⟩) (posL t.l m.id) hne (by simpa using hpl) (fun e he => by rcases List.mem_cons.1 he with rfl | he; rfl; obtain ⟨x, _, rfl⟩ := List.mem_map.1 he; rfl) (by simp; omega)
                  rw [List.length_map] at hin
                  simp only [eLease] at hin
                  rw [callL_code g_lease_Grant (by simp)]; simp -implicitDefEqProofs (maxSteps := 4000000) (disch := omega) only [c_lease_Grant, r_lease_Grant, getDT, go_sem, *] /-A4-/
              · simp only [h7, if_false]
                rw [callL_code g_lease_Grant (by simp)]; simp -implicitDefEqProofs (maxSteps := 4000000) (disch := omega) only [c_lease_Grant, r_lease_Grant, getDT, go_sem, *]; (try simp only [pA, pB, pC, pD, pE, pF, pG, pH, pI, pJ, pK, pL, pM, pN, pO, pP, if_true, if_false]); repeat' (first | done | rfl | ((first | refine iteC (fun hq => ?_) (fun hq => ?_) | refine iteP (fun hq => ?_) (fun hq => ?_)) <;> (try (first | (exfalso; omega) | contradiction)) <;> (try simp -implicitDefEqProofs (maxSteps := 4000000) (disch := omega) only [getDT, go_sem, *]) <;> (try simp only [pA, pB, pC, pD, pE, pF, pG, pH, pI, pJ, pK, pL, pM, pN, pO, pP, if_true, if_false]))); (all_goals try rfl); (all_goals try (repeat' (first | done | rfl | (exfalso; omega) | contradiction | (refine iteR (fun hq => ?_) (fun hq => ?_))))) /-A5-/
        · simp only [h4, not_false_eq_true, if_true, decide_false] at ht ⊢
          rw [callL_code g_lease_Grant (by simp)]; simp -implicitDefEqProofs (maxSteps := 4000000) (disch := omega) only [c_lease_Grant, r_lease_Grant, getDT, go_sem, *]; (try simp only [pA, pB, pC, pD, pE, pF, pG, pH, pI, pJ, pK, pL, pM, pN, pO, pP, if_true, if_false]); repeat' (first | done | rfl | ((first | refine iteC (fun hq => ?_) (fun hq => ?_) | refine iteP (fun hq => ?_) (fun hq => ?_)) <;> (try (first | (exfalso; omega) | contradiction)) <;> (try simp -implicitDefEqProofs (maxSteps := 4000000) (disch := omega) only [getDT, go_sem, *]) <;> (try simp only [pA, pB, pC, pD, pE, pF, pG, pH, pI, pJ, pK, pL, pM, pN, pO, pP, if_true, if_false]))); (all_goals try rfl); (all_goals try (repeat' (first | done | rfl | (exfalso; omega) | contradiction | (refine iteR (fun hq => ?_) (fun hq => ?_))))) /-A6-/
    · simp only [h2, not_false_eq_true, if_true, if_false]
      rw [callL_code g_lease_Grant (by simp)]; simp -implicitDefEqProofs (maxSteps := 4000000) (disch := omega) only [c_lease_Grant, r_lease_Grant, getDT, go_sem, *]; (try simp only [pA, pB, pC, pD, pE, pF, pG, pH, pI, pJ, pK, pL, pM, pN, pO, pP, if_true, if_false]); repeat' (first | done | rfl | ((first | refine iteC (fun hq => ?_) (fun hq => ?_) | refine iteP (fun hq => ?_) (fun hq => ?_)) <;> (try (first | (exfalso; omega) | contradiction)) <;> (try simp -implicitDefEqProofs (maxSteps := 4000000) (disch := omega) only [getDT, go_sem, *]) <;> (try simp only [pA, pB, pC, pD, pE, pF, pG, pH, pI, pJ, pK, pL, pM, pN, pO, pP, if_true, if_false]))); (all_goals try rfl); (all_goals try (repeat' (first | done | rfl | (exfalso; omega) | contradiction | (refine iteR (fun hq => ?_) (fun hq => ?_))))) /-A7-/
  · simp only [h1, ne_eq, not_false_eq_true, if_true, if_false]
    rw [callL_code g_lease_Grant (by simp)]; simp -implicitDefEqProofs (maxSteps := 4000000) (disch := omega) only [c_lease_Grant, r_lease_Grant, getDT, go_sem, *]; (try simp only [pA, pB, pC, pD, pE, pF, pG, pH, pI, pJ, pK, pL, pM, pN, pO, pP, if_true, if_false]); repeat' (first | done | rfl | ((first | refine iteC (fun hq => ?_) (fun hq => ?_) | refine iteP (fun hq => ?_) (fun hq => ?_)) <;> (try (first | (exfalso; omega) | contradiction)) <;> (try simp -implicitDefEqProofs (maxSteps := 4000000) (disch := omega) only [getDT, go_sem, *]) <;> (try simp only [pA, pB, pC, pD, pE, pF, pG, pH, pI, pJ, pK, pL, pM, pN, pO, pP, if_true, if_false]))); (all_goals try rfl); (all_goals try (repeat' (first | done | rfl | (exfalso; omega) | contradiction | (refine iteR (fun hq => ?_) (fun hq => ?_))))) /-A8-/
def findT (t : Table) (id : Int) : Lease × Bool := if tabV t = 0 ∧ 0 ≤ findL t.l id then (t.l.getD (findL t.l id).toNat zLease, true) else (zLease, false)
theorem find_ok (t : Table) (id : Int) (hL : t.l.length ≤ 4294967296) (hH : t.heap.length ≤ 4294967296) : callL G N_lease_Find [.d (eTable t), .d (.int .i64 id)] [] = some (.d (.tup [eLease (findT t id).1, .bool (findT t id).2]), []) := by
  have hv := lval_ok t hL hH
  unfold findT
  by_cases h1 : tabV t = 0
  · obtain ⟨h12, hE, hD, hM⟩ := tabV_zero h1
    have ha := leases_asc hE
    have hf := lfind_ok t id (by omega) ha
    by_cases h6 : 0 ≤ findL t.l id
    · obtain ⟨hp, e⟩ := (findL_pos ha id).1 h6
      have e2 := findL_posL ha h6
      simp only [h1, h6, and_self, if_true, decide_true] at hf ⊢
      rw [e2, Int.toNat_natCast, getDT hp]
      simp only [eTable, eLease] at hv hf ⊢
      rw [h1] at hv
      clear e e2 h6
      rw [callL_code g_lease_Find (by simp)]; simp -implicitDefEqProofs (maxSteps := 4000000) (disch := omega) only [c_lease_Find, r_lease_Find, eLease, getDT, go_sem, *] /-A9-/
    · simp only [h1, h6, and_false, if_false, decide_false] at hf ⊢
      simp only [eTable, eLease, zLease, zMessage] at hv hf ⊢
      rw [h1] at hv
      rw [callL_code g_lease_Find (by simp)]; simp -implicitDefEqProofs (maxSteps := 4000000) (disch := omega) only [c_lease_Find, r_lease_Find, getDT, go_sem, *] /-A10-/
  · simp only [h1, false_and, if_false]
    simp only [eTable, eLease, zLease, zMessage] at hv ⊢
    rw [callL_code g_lease_Find (by simp)]; simp -implicitDefEqProofs (maxSteps := 4000000) (disch := omega) only [c_lease_Find, r_lease_Find, getDT, go_sem, *] /-A11-/
def dropI (l : List Lease) (i : Nat) : List Lease := l.take i ++ l.drop (i + 1)
theorem without_ok (l : List Lease) (i : Nat) (hi : i < l.length) (hL : l.length ≤ 1000) : callL G N_lease_without_api_Lease [.d (.sl (l.map eLease)), .d (.int .i64 i)] [] = some (.d (.sl ((dropI l i).map eLease)), []) := by
  have hne : l ≠ [] := by rintro rfl; simp at hi
  have hc := crow l hne hL
  have hd := del_call g_slices_Delete_api_Lease (l.map eLease) i (i + 1) (by omega) (by simp; omega) (fun e he => by obtain ⟨x, _, rfl⟩ := List.mem_map.1 he; rfl) (by simp; omega)
  rw [List.length_map] at hd
  simp only [Int.natCast_add, Int.natCast_one] at hd
  simp only [dropI, List.map_append, List.map_take, List.map_drop]
  rw [callL_code g_lease_without_api_Lease (by simp)]; simp -implicitDefEqProofs (maxSteps := 4000000) (disch := omega) only [c_lease_without_api_Lease, r_lease_without_api_Lease, getDT, go_sem, *] /-A12-/
def relE (t : Table) (id : Int) : Int := if tabV t ≠ 0 then tabV t else if ¬ 0 ≤ findL t.l id then 4 else (removeD t.heap id).2
def relD (t : Table) (id : Int) : Table × Message × Int := if relE t id = 0 then (⟨dropI t.l (findL t.l id).toNat, (removeD t.heap id).1⟩, (t.l.getD (findL t.l id).toNat zLease).msg, 0) else (zTable, zMessage, relE t id)
theorem rel_ok (t : Table) (id : Int) (hL : t.l.length ≤ 4294967296) (hH : t.heap.length ≤ 4294967296) : callL G N_lease_Release [.d (eTable t), .d (.int .i64 id)] [] = some (.d (.tup [eTable (relD t id).1, eMessage (relD t id).2.1, .int .i64 (relD t id).2.2]), []) := by
  have hv := lval_ok t hL hH
  have hr := remove_ok t.heap id hH
  unfold relD relE
  simp only [eDE] at hr
  by_cases h1 : tabV t = 0
  · obtain ⟨h12, hE, hD, hM⟩ := tabV_zero h1
    have ha := leases_asc hE
    have hf := lfind_ok t id (by omega) ha
    simp only [h1, ne_eq, not_true_eq_false, if_false]
    by_cases h6 : 0 ≤ findL t.l id
    · obtain ⟨hp, e⟩ := (findL_pos ha id).1 h6
      have e2 := findL_posL ha h6
      have hw := without_ok t.l (posL t.l id) hp (by omega)
      simp only [h6, not_true_eq_false, if_false, decide_true] at hf ⊢
      by_cases h7 : (removeD t.heap id).2 = 0
      · simp only [h7, if_true]
        rw [e2, Int.toNat_natCast, getDT hp]
        simp only [eTable, eMessage] at hv hf ⊢
        rw [h1] at hv
        rw [h7] at hr
        clear e e2 h6
        rw [callL_code g_lease_Release (by simp)]; simp -implicitDefEqProofs (maxSteps := 4000000) (disch := omega) only [c_lease_Release, r_lease_Release, eLease, getDT, go_sem, *] /-A13-/
      · simp only [h7, if_false]
        simp only [eTable, eMessage, zTable, zMessage] at hv hf ⊢
        rw [h1] at hv
        rw [callL_code g_lease_Release (by simp)]; simp -implicitDefEqProofs (maxSteps := 4000000) (disch := omega) only [c_lease_Release, r_lease_Release, getDT, go_sem, *] /-A14-/
    · simp only [h6, not_false_eq_true, if_true, decide_false] at hf ⊢
      simp only [eTable, eMessage, zTable, zMessage] at hv hf ⊢
      rw [h1] at hv
      rw [callL_code g_lease_Release (by simp)]; simp -implicitDefEqProofs (maxSteps := 4000000) (disch := omega) only [c_lease_Release, r_lease_Release, getDT, go_sem, *] /-A15-/
  · simp only [h1, ne_eq, not_false_eq_true, if_true, if_false]
    simp only [eTable, eMessage, zTable, zMessage] at hv ⊢
    rw [callL_code g_lease_Release (by simp)]; simp -implicitDefEqProofs (maxSteps := 4000000) (disch := omega) only [c_lease_Release, r_lease_Release, getDT, go_sem, *] /-A16-/
def extE (t : Table) (id d : Int) : Int := if tabV t ≠ 0 then tabV t else if ¬ 0 ≤ findL t.l id then 4 else if ¬ (0 ≤ d ∧ d ≤ 1073741824) then 1 else if (removeD t.heap id).2 ≠ 0 then (removeD t.heap id).2 else (pushD (removeD t.heap id).1 (d, id)).2
def setD (l : List Lease) (i : Nat) (d : Int) : List Lease := l.set i { l.getD i zLease with deadline := d }
def extD (t : Table) (id d : Int) : Table × Int := if extE t id d = 0 then (⟨setD t.l (findL t.l id).toNat d, (pushD (removeD t.heap id).1 (d, id)).1⟩, 0) else (zTable, extE t id d)
theorem ext_ok (t : Table) (id d : Int) (hL : t.l.length ≤ 4294967296) (hH : t.heap.length ≤ 4294967296) : callL G N_lease_Extend [.d (eTable t), .d (.int .i64 id), .d (.int .i64 d)] [] = some (.d (.tup [eTable (extD t id d).1, .int .i64 (extD t id d).2]), []) := by
  have hv := lval_ok t hL hH
  have hr := remove_ok t.heap id hH
  have ht := ltime_ok d
  unfold extD extE
  simp only [eDE] at hr
  by_cases h1 : tabV t = 0
  · obtain ⟨h12, hE, hD, hM⟩ := tabV_zero h1
    have ha := leases_asc hE
    have hf := lfind_ok t id (by omega) ha
    simp only [h1, ne_eq, not_true_eq_false, if_false]
    by_cases h6 : 0 ≤ findL t.l id
    · obtain ⟨hp, e⟩ := (findL_pos ha id).1 h6
      have e2 := findL_posL ha h6
      simp only [h6, not_true_eq_false, if_false, decide_true] at hf ⊢
      by_cases h4 : 0 ≤ d ∧ d ≤ 1073741824
      · simp only [h4, and_self, not_true_eq_false, if_false, decide_true] at ht ⊢
        by_cases h7 : (removeD t.heap id).2 = 0
        · have hrl : (removeD t.heap id).1.length ≤ 4294967296 := remove_len t.heap id hH
          have hp2 := push_ok (removeD t.heap id).1 (d, id) hrl
          simp only [eDE, eD] at hp2
          simp only [h7, not_true_eq_false, if_false]
          by_cases h8 : (pushD (removeD t.heap id).1 (d, id)).2 = 0
          · simp only [h8, if_true]
            have hne : t.l ≠ [] := by rintro h; rw [h] at hp; simp at hp
            have hc := crow t.l hne (by omega)
            have hst : (setD t.l (posL t.l id) d).map eLease = (t.l.map eLease).set (posL t.l id) (eLease { t.l[posL t.l id] with deadline := d }) := by
              simp only [setD, List.map_set, getDT hp]
            rw [e2, Int.toNat_natCast]
            rw [h7] at hr
            rw [h8] at hp2
            simp only [eTable, hst] at hv hf ⊢
            rw [h1] at hv
            simp only [eLease]
            clear e e2 h6
            rw [callL_code g_lease_Extend (by simp)]; simp -implicitDefEqProofs (maxSteps := 4000000) (disch := omega) only [c_lease_Extend, r_lease_Extend, eLease, getDT, go_sem, *] /-A17-/
          · simp only [h8, if_false]
            rw [h7] at hr
            simp only [eTable, zTable] at hv hf ⊢
            rw [h1] at hv
            rw [callL_code g_lease_Extend (by simp)]; simp -implicitDefEqProofs (maxSteps := 4000000) (disch := omega) only [c_lease_Extend, r_lease_Extend, getDT, go_sem, *] /-A18-/
        · simp only [h7, not_false_eq_true, if_true, if_false]
          simp only [eTable, zTable] at hv hf ⊢
          rw [h1] at hv
          rw [callL_code g_lease_Extend (by simp)]; simp -implicitDefEqProofs (maxSteps := 4000000) (disch := omega) only [c_lease_Extend, r_lease_Extend, getDT, go_sem, *] /-A19-/
      · simp only [h4, not_false_eq_true, if_true, decide_false] at ht ⊢
        simp only [eTable, zTable] at hv hf ⊢
        rw [h1] at hv
        rw [callL_code g_lease_Extend (by simp)]; simp -implicitDefEqProofs (maxSteps := 4000000) (disch := omega) only [c_lease_Extend, r_lease_Extend, getDT, go_sem, *] /-A20-/
    · simp only [h6, not_false_eq_true, if_true, decide_false] at hf ⊢
      simp only [eTable, zTable] at hv hf ⊢
      rw [h1] at hv
      rw [callL_code g_lease_Extend (by simp)]; simp -implicitDefEqProofs (maxSteps := 4000000) (disch := omega) only [c_lease_Extend, r_lease_Extend, getDT, go_sem, *] /-A21-/
  · simp only [h1, ne_eq, not_false_eq_true, if_true, if_false]
    simp only [eTable, zTable] at hv ⊢
    rw [callL_code g_lease_Extend (by simp)]; simp -implicitDefEqProofs (maxSteps := 4000000) (disch := omega) only [c_lease_Extend, r_lease_Extend, getDT, go_sem, *] /-A22-/
end Go.Proofs.YtibkpphblgfmbaaGreat.L

namespace Go.Proofs.YtibkpphblgfmbaaGreat.L
open Go Go.Sim Go.Proofs.YtibkpphblgfmbaaGreat
set_option linter.unusedSimpArgs false
set_option linter.unusedVariables false
set_option maxHeartbeats 10000000
set_option maxRecDepth 40000
theorem leasesE_iff (l : List Lease) : leasesE l = 0 ↔ (l.Pairwise fun x y => x.msg.id < y.msg.id) ∧ ∀ x ∈ l, msgV x.msg = 0 ∧ x.msg.gen ≠ 0 ∧ 0 ≤ x.deadline ∧ x.deadline ≤ 1073741824 := by
  have h0 : leasesE l = 0 ↔ ∀ i, i < l.length → leaseE l i = 0 := by
    rcases leasesE_cases l with ⟨k, h1, h2, h3⟩ | ⟨h1, h2⟩
    · constructor
      · intro h; omega
      · intro h
        have := List.mem_of_find?_eq_some h1
        exact absurd (h k (List.mem_range.1 this)) h2
    · refine ⟨fun _ i hi => ?_, fun _ => h2⟩
      have := List.find?_eq_none.1 h1 i (List.mem_range.2 hi)
      unfold leaseB at this
      simpa using this
  constructor
  · intro h
    refine ⟨leases_asc h, fun x hx => ?_⟩
    obtain ⟨i, hi, rfl⟩ := List.getElem_of_mem hx
    have := h0.1 h i hi
    unfold leaseE at this
    rw [getDT hi] at this
    split at this
    · omega
    split at this
    · omega
    split at this
    · omega
    rename_i q1 q2 q3
    exact ⟨by simpa using q1, q2, by omega, by omega⟩
  · rintro ⟨ha, hx⟩
    refine h0.2 fun i hi => ?_
    obtain ⟨p1, p2, p3, p4⟩ := hx _ (List.getElem_mem hi)
    unfold leaseE
    rw [getDT hi, if_neg (by simpa using p1), if_neg p2, if_neg (by omega), if_neg]
    rintro ⟨q1, q2⟩
    rw [getDT (show i - 1 < l.length by omega)] at q2
    have := List.pairwise_iff_getElem.1 ha (i - 1) i (by omega) hi (by omega)
    omega
theorem dueOf_nodup {l : List Lease} (h : l.Pairwise fun x y => x.msg.id < y.msg.id) : (l.map dueOf).Nodup := asc_nodup h
theorem tabV_iff (t : Table) : tabV t = 0 ↔ t.l.length ≤ 12 ∧ leasesE t.l = 0 ∧ Ok t.heap ∧ t.heap.Perm (t.l.map dueOf) := by
  constructor
  · intro h
    obtain ⟨h1, h2, h3, h4⟩ := tabV_zero h
    have o := (validate_iff _).1 h3
    have ha := leases_asc h2
    have hR : matchR t = true := by rw [← match_same h2 h3]; exact h4
    obtain ⟨e, q⟩ := (matchR_mem ha).1 hR
    obtain ⟨_, q2⟩ := matchP_mem.1 h4
    refine ⟨h1, h2, o, (List.perm_ext_iff_of_nodup ?_ (asc_nodup ha)).2 fun d => ⟨q d, q2 d⟩⟩
    exact List.Pairwise.of_map (fun d : Due => d.2) (fun a b hab e => hab (by rw [e])) o.ids
  · rintro ⟨h1, h2, o, hp⟩
    have h3 := (validate_iff _).2 o
    have h4 : matchP t = true := matchP_mem.2 ⟨by rw [hp.length_eq]; simp, fun d hd => hp.mem_iff.2 hd⟩
    unfold tabV
    rw [if_neg (by omega), if_neg (by simpa using h2), if_neg (by simpa using h3), if_pos h4]
theorem ids_of {t : Table} (h : t.heap.Perm (t.l.map dueOf)) (id : Int) : id ∈ t.heap.map (·.2) ↔ ∃ x ∈ t.l, x.msg.id = id := by
  constructor
  · intro hm
    obtain ⟨d, hd, e⟩ := List.mem_map.1 hm
    obtain ⟨x, hx, e2⟩ := List.mem_map.1 (h.mem_iff.1 hd)
    exact ⟨x, hx, by rw [← e, ← e2]; rfl⟩
  · rintro ⟨x, hx, e⟩
    exact List.mem_map.2 ⟨dueOf x, h.mem_iff.2 (List.mem_map.2 ⟨x, hx, rfl⟩), e⟩
theorem findL_iff {l : List Lease} (id : Int) : 0 ≤ findL l id ↔ ∃ x ∈ l, x.msg.id = id := by
  constructor
  · intro h
    obtain ⟨k, hk, _, e⟩ := findL_some h
    exact ⟨l[k], List.getElem_mem hk, e⟩
  · rintro ⟨x, hx, e⟩
    by_cases h : 0 ≤ findL l id
    · exact h
    · exact absurd e (findL_none (by omega) x hx)
theorem valid_due {m : Message} {d : Int} (hm : msgV m = 0) (h0 : 0 ≤ d) (h1 : d ≤ 1073741824) : validD (d, m.id) = true := by
  unfold msgV at hm
  split at hm
  · rename_i h
    unfold validD
    simp
    omega
  · cases hm
theorem push_succ {t : Table} {m : Message} {d : Int} (h : tabV t = 0) (hm : msgV m = 0) (h0 : 0 ≤ d) (h1 : d ≤ 1073741824) (hl : t.l.length ≠ 12) (hf : findL t.l m.id < 0) :
    pushD t.heap (d, m.id) = (pushL t.heap (d, m.id), 0) ∧ Ok (pushL t.heap (d, m.id)) ∧ (pushL t.heap (d, m.id)).Perm ((d, m.id) :: t.heap) := by
  obtain ⟨q1, q2, q3, q4⟩ := (tabV_iff t).1 h
  refine push_ok' q3 (valid_due hm h0 h1) (by have := q4.length_eq; simp at this; omega) fun hc => ?_
  have := (findL_iff m.id).2 ((ids_of q4 m.id).1 hc)
  omega
theorem insL_perm (l : List Lease) (m : Message) (d : Int) : (insL l m d).Perm (⟨m, d⟩ :: l) := by
  unfold insL
  have := List.perm_middle (a := (⟨m, d⟩ : Lease)) (l₁ := l.take (posL l m.id)) (l₂ := l.drop (posL l m.id))
  rw [List.take_append_drop] at this
  rw [List.append_assoc]
  exact this
theorem insL_asc {l : List Lease} (h : l.Pairwise fun x y => x.msg.id < y.msg.id) {m : Message} {d : Int} (hn : ∀ x ∈ l, x.msg.id ≠ m.id) : (insL l m d).Pairwise fun x y => x.msg.id < y.msg.id := by
  unfold insL
  have hlt : ∀ x ∈ l.take (posL l m.id), x.msg.id < m.id := fun x hx => by
    obtain ⟨k, hk, rfl⟩ := List.getElem_of_mem hx
    simp only [List.length_take] at hk
    rw [List.getElem_take]
    exact (pos_lt h (by omega)).1 (by omega)
  have hgt : ∀ x ∈ l.drop (posL l m.id), m.id < x.msg.id := fun x hx => by
    obtain ⟨k, hk, rfl⟩ := List.getElem_of_mem hx
    simp only [List.length_drop] at hk
    rw [List.getElem_drop]
    have h1 := pos_lt h (id := m.id) (k := posL l m.id + k) (by omega)
    have h2 := hn _ (List.getElem_mem (l := l) (n := posL l m.id + k) (by omega))
    omega
  rw [List.append_assoc, List.pairwise_append]
  refine ⟨h.sublist (List.take_sublist ..), ?_, fun a ha b hb => ?_⟩
  · rw [List.singleton_append, List.pairwise_cons]
    exact ⟨fun x hx => hgt x hx, h.sublist (List.drop_sublist ..)⟩
  · rw [List.singleton_append, List.mem_cons] at hb
    have h1 := hlt a ha
    rcases hb with rfl | hb
    · exact h1
    · have := hgt b hb; omega
theorem grant_valid {t : Table} {m : Message} {d : Int} (h : (grantD t m d).2 = 0) : tabV (grantD t m d).1 = 0 ∧ tabV t = 0 ∧ (grantD t m d).1.l = insL t.l m d ∧ findL t.l m.id < 0 := by
  have hE : grantE t m d = 0 := by
    unfold grantD at h
    split at h
    · assumption
    · rename_i hc; exact absurd h hc
  unfold grantD
  rw [if_pos hE]
  unfold grantE at hE
  split at hE
  · omega
  split at hE
  · omega
  split at hE
  · cases hE
  split at hE
  · cases hE
  split at hE
  · cases hE
  split at hE
  · cases hE
  rename_i h1 h2 h3 h4 h5 h6
  have h1 : tabV t = 0 := by simpa using h1
  have h2 : msgV m = 0 := by simpa using h2
  obtain ⟨p1, p2, p3⟩ := push_succ h1 h2 (by omega) (by omega : d ≤ 1073741824) h5 (by omega)
  obtain ⟨q1, q2, q3, q4⟩ := (tabV_iff t).1 h1
  obtain ⟨r1, r2⟩ := (leasesE_iff _).1 q2
  have hn : ∀ x ∈ t.l, x.msg.id ≠ m.id := findL_none (by omega)
  refine ⟨(tabV_iff _).2 ⟨?_, (leasesE_iff _).2 ⟨insL_asc r1 hn, fun x hx => ?_⟩, ?_, ?_⟩, h1, rfl, by omega⟩
  · have := (insL_perm t.l m d).length_eq
    simp only [List.length_cons] at this
    show (insL t.l m d).length ≤ 12
    omega
  · rcases List.mem_cons.1 ((insL_perm t.l m d).mem_iff.1 hx) with rfl | hx
    · exact ⟨h2, h3, by simp only; omega, by simp only; omega⟩
    · exact r2 x hx
  · rw [p1]; exact p2
  · rw [p1]
    show (pushL t.heap (d, m.id)).Perm ((insL t.l m d).map dueOf)
    exact p3.trans (((List.Perm.cons _ q4)).trans ((insL_perm t.l m d).map dueOf).symm)
theorem grant_iff {t : Table} {m : Message} {d : Int} (h : tabV t = 0) (hm : msgV m = 0) (hg : m.gen ≠ 0) (h0 : 0 ≤ d) (h1 : d ≤ 1073741824) (hl : t.l.length ≠ 12) (hf : findL t.l m.id < 0) : (grantD t m d).2 = 0 := by
  have hp := (push_succ h hm h0 h1 hl hf).1
  have : grantE t m d = 0 := by
    unfold grantE
    rw [if_neg (by simpa using h), if_neg (by simpa using hm), if_neg hg, if_neg (by omega), if_neg hl, if_neg (by omega), hp]
  unfold grantD
  rw [if_pos this]
theorem dropI_eq (l : List Lease) (i : Nat) : dropI l i = l.eraseIdx i := by rw [dropI, List.eraseIdx_eq_take_drop_succ]
theorem dropI_perm {l : List Lease} {i : Nat} (hi : i < l.length) : (l[i] :: dropI l i).Perm l := by
  have h1 := List.perm_middle (a := l[i]) (l₁ := l.take i) (l₂ := l.drop (i + 1))
  rw [← List.drop_eq_getElem_cons hi, List.take_append_drop] at h1
  exact h1.symm
theorem dueOf_at {t : Table} (h : tabV t = 0) {k : Nat} (hk : k < t.l.length) {d : Due} (hd : d ∈ t.heap) (e : d.2 = t.l[k].msg.id) : d = dueOf t.l[k] := by
  obtain ⟨q1, q2, q3, q4⟩ := (tabV_iff t).1 h
  obtain ⟨x, hx, e2⟩ := List.mem_map.1 (q4.mem_iff.1 hd)
  obtain ⟨j, hj, rfl⟩ := List.getElem_of_mem hx
  have : j = k := asc_inj (leases_asc q2) hj hk (by rw [← e, ← e2]; rfl)
  subst this
  exact e2.symm
theorem rem_succ {t : Table} {id : Int} (h : tabV t = 0) (hf : 0 ≤ findL t.l id) : ∃ k, ∃ hk : k < t.l.length, findL t.l id = k ∧ t.l[k].msg.id = id ∧ (removeD t.heap id).2 = 0 ∧ Ok (removeD t.heap id).1 ∧ (dueOf t.l[k] :: (removeD t.heap id).1).Perm t.heap := by
  obtain ⟨q1, q2, q3, q4⟩ := (tabV_iff t).1 h
  obtain ⟨k, hk, e1, e2⟩ := findL_some hf
  refine ⟨k, hk, e1, e2, ?_⟩
  have hin : id ∈ t.heap.map (·.2) := (ids_of q4 id).2 ⟨_, List.getElem_mem hk, e2⟩
  have h0 : ¬ findD t.heap id < 0 := fun hc => (findD_neg _ _).1 hc hin
  have hlt := findD_lt t.heap id
  obtain ⟨d1, d2⟩ := drop_ok' q3 (findD t.heap id).toNat (by omega)
  have hat := findD_at t.heap id (by omega)
  have hr : removeD t.heap id = (dropL t.heap (findD t.heap id).toNat, 0) := by
    unfold removeD
    rw [if_neg (by simpa using (validate_iff _).2 q3), if_neg h0]
  rw [hr]
  refine ⟨rfl, d1, ?_⟩
  have : t.heap.getD (findD t.heap id).toNat dz = dueOf t.l[k] := by
    refine dueOf_at h hk ?_ (by rw [hat, e2])
    rw [getDT (show (findD t.heap id).toNat < t.heap.length by omega)]
    exact List.getElem_mem _
  rw [← this]
  exact d2
theorem rel_iff {t : Table} {id : Int} (h : tabV t = 0) : (relD t id).2.2 = 0 ↔ 0 ≤ findL t.l id := by
  constructor
  · intro h0
    by_cases hf : 0 ≤ findL t.l id
    · exact hf
    · have e : relE t id = 4 := by unfold relE; rw [if_neg (by simpa using h), if_pos hf]
      unfold relD at h0
      rw [e, if_neg (by decide)] at h0
      cases h0
  · intro hf
    obtain ⟨k, hk, e1, e2, e3, _⟩ := rem_succ h hf
    have e : relE t id = 0 := by unfold relE; rw [if_neg (by simpa using h), if_neg (by omega), e3]
    unfold relD
    rw [if_pos e]
theorem rel_valid {t : Table} {id : Int} (h : (relD t id).2.2 = 0) : tabV (relD t id).1 = 0 ∧ tabV t = 0 ∧ ∃ k, ∃ hk : k < t.l.length, findL t.l id = k ∧ t.l[k].msg.id = id ∧ (relD t id).1.l = dropI t.l k ∧ (relD t id).2.1 = t.l[k].msg := by
  have hE : relE t id = 0 := by
    unfold relD at h
    split at h
    · assumption
    · rename_i hc; exact absurd h hc
  have h1 : tabV t = 0 := by
    unfold relE at hE
    split at hE
    · omega
    · rename_i hc; simpa using hc
  have hf : 0 ≤ findL t.l id := (rel_iff h1).1 h
  obtain ⟨k, hk, e1, e2, e3, e4, e5⟩ := rem_succ h1 hf
  obtain ⟨q1, q2, q3, q4⟩ := (tabV_iff t).1 h1
  obtain ⟨r1, r2⟩ := (leasesE_iff _).1 q2
  have hd : relD t id = (⟨dropI t.l k, (removeD t.heap id).1⟩, t.l[k].msg, 0) := by
    unfold relD
    rw [if_pos hE, e1, Int.toNat_natCast, getDT hk]
  rw [hd]
  refine ⟨(tabV_iff _).2 ⟨?_, (leasesE_iff _).2 ⟨?_, fun x hx => ?_⟩, e4, ?_⟩, h1, k, hk, e1, e2, rfl, rfl⟩
  · have := (dropI_perm hk).length_eq
    simp only [List.length_cons] at this
    show (dropI t.l k).length ≤ 12
    omega
  · show (dropI t.l k).Pairwise _
    rw [dropI_eq]; exact r1.sublist (List.eraseIdx_sublist ..)
  · exact r2 x ((dropI_perm hk).mem_iff.1 (List.mem_cons_of_mem _ hx))
  · show (removeD t.heap id).1.Perm ((dropI t.l k).map dueOf)
    have h1 := e5.trans (q4.trans ((dropI_perm hk).map dueOf).symm)
    exact List.Perm.cons_inv h1
theorem setD_eq {l : List Lease} {k : Nat} (hk : k < l.length) (d : Int) : setD l k d = l.set k ⟨l[k].msg, d⟩ := by
  unfold setD
  rw [getDT hk]
theorem set_perm2 {l : List Due} {k : Nat} (hk : k < l.length) (b : Due) : (l[k] :: l.set k b).Perm (b :: l) := by
  have := set_perm' l k b hk
  rwa [getDT hk] at this
theorem ext_iff {t : Table} {id d : Int} (h : tabV t = 0) : (extD t id d).2 = 0 ↔ 0 ≤ findL t.l id ∧ 0 ≤ d ∧ d ≤ 1073741824 := by
  constructor
  · intro h0
    by_cases hf : 0 ≤ findL t.l id
    · by_cases hd : 0 ≤ d ∧ d ≤ 1073741824
      · exact ⟨hf, hd⟩
      · have e : extE t id d = 1 := by unfold extE; rw [if_neg (by simpa using h), if_neg (by simpa using hf), if_pos hd]
        unfold extD at h0
        rw [e, if_neg (by decide)] at h0
        cases h0
    · have e : extE t id d = 4 := by unfold extE; rw [if_neg (by simpa using h), if_pos hf]
      unfold extD at h0
      rw [e, if_neg (by decide)] at h0
      cases h0
  · rintro ⟨hf, h0, h1⟩
    obtain ⟨k, hk, e1, e2, e3, e4, e5⟩ := rem_succ h hf
    obtain ⟨q1, q2, q3, q4⟩ := (tabV_iff t).1 h
    obtain ⟨r1, r2⟩ := (leasesE_iff _).1 q2
    have hlen := e5.length_eq
    simp only [List.length_cons] at hlen
    have hnod := (List.Perm.nodup_iff (e5.map (·.2))).2 q3.ids
    simp only [List.map_cons, List.nodup_cons] at hnod
    have hp := push_ok' e4 (d := (d, id)) (by have := valid_due (r2 _ (List.getElem_mem hk)).1 h0 h1; rwa [e2] at this) (by have := q4.length_eq; simp at this; omega) (by simpa [dueOf, e2] using hnod.1)
    have e : extE t id d = 0 := by unfold extE; rw [if_neg (by simpa using h), if_neg (by omega), if_neg (by omega), if_neg (by simpa using e3), hp.1]
    unfold extD
    rw [if_pos e]
theorem ext_valid {t : Table} {id d : Int} (h : (extD t id d).2 = 0) : tabV (extD t id d).1 = 0 ∧ tabV t = 0 ∧ ∃ k, ∃ hk : k < t.l.length, findL t.l id = k ∧ t.l[k].msg.id = id ∧ (extD t id d).1.l = t.l.set k ⟨t.l[k].msg, d⟩ := by
  have hE : extE t id d = 0 := by
    unfold extD at h
    split at h
    · assumption
    · rename_i hc; exact absurd h hc
  have h1 : tabV t = 0 := by
    unfold extE at hE
    split at hE
    · omega
    · rename_i hc; simpa using hc
  obtain ⟨hf, h0, h2⟩ := (ext_iff h1).1 h
  obtain ⟨k, hk, e1, e2, e3, e4, e5⟩ := rem_succ h1 hf
  obtain ⟨q1, q2, q3, q4⟩ := (tabV_iff t).1 h1
  obtain ⟨r1, r2⟩ := (leasesE_iff _).1 q2
  have hlen := e5.length_eq
  simp only [List.length_cons] at hlen
  have hnod := (List.Perm.nodup_iff (e5.map (·.2))).2 q3.ids
  simp only [List.map_cons, List.nodup_cons] at hnod
  have hp := push_ok' e4 (d := (d, id)) (by have := valid_due (r2 _ (List.getElem_mem hk)).1 h0 h2; rwa [e2] at this) (by have := q4.length_eq; simp at this; omega) (by simpa [dueOf, e2] using hnod.1)
  have hd : extD t id d = (⟨t.l.set k ⟨t.l[k].msg, d⟩, pushL (removeD t.heap id).1 (d, id)⟩, 0) := by
    unfold extD
    rw [if_pos hE, e1, Int.toNat_natCast, setD_eq hk, hp.1]
  rw [hd]
  refine ⟨(tabV_iff _).2 ⟨by simpa using q1, (leasesE_iff _).2 ⟨?_, fun x hx => ?_⟩, hp.2.1, ?_⟩, h1, k, hk, e1, e2, rfl⟩
  · show (t.l.set k ⟨t.l[k].msg, d⟩).Pairwise _
    have hm : (t.l.set k ⟨t.l[k].msg, d⟩).map (fun x => x.msg.id) = t.l.map fun x => x.msg.id := by
      rw [List.map_set]
      have : (t.l[k].msg.id) = (t.l.map fun x => x.msg.id)[k]'(by simpa using hk) := by simp
      rw [this, List.set_getElem_self]
    have := List.pairwise_map (f := fun x : Lease => x.msg.id) (R := fun a b => a < b) (l := t.l.set k ⟨t.l[k].msg, d⟩)
    rw [hm] at this
    exact this.1 (List.pairwise_map.2 r1)
  · rcases List.mem_or_eq_of_mem_set hx with hx | rfl
    · exact r2 x hx
    · obtain ⟨a1, a2, _, _⟩ := r2 _ (List.getElem_mem hk)
      exact ⟨a1, a2, h0, h2⟩
  · show (pushL (removeD t.heap id).1 (d, id)).Perm ((t.l.set k ⟨t.l[k].msg, d⟩).map dueOf)
    refine hp.2.2.trans ?_
    rw [List.map_set]
    have h3 := set_perm2 (l := t.l.map dueOf) (k := k) (by simpa using hk) (dueOf ⟨t.l[k].msg, d⟩)
    rw [List.getElem_map] at h3
    have h4 : (dueOf t.l[k] :: (d, id) :: (removeD t.heap id).1).Perm (dueOf t.l[k] :: (t.l.map dueOf).set k (dueOf ⟨t.l[k].msg, d⟩)) := by
      refine (List.Perm.swap ..).trans ?_
      refine (List.Perm.cons _ (e5.trans q4)).trans ?_
      have : ((d, id) : Due) = dueOf ⟨t.l[k].msg, d⟩ := by simp [dueOf, e2]
      rw [this]
      exact h3.symm
    exact List.Perm.cons_inv h4
end Go.Proofs.YtibkpphblgfmbaaGreat.L

namespace Go.Proofs.YtibkpphblgfmbaaGreat.L
open Go Go.Sim Go.Proofs.YtibkpphblgfmbaaGreat
set_option linter.unusedSimpArgs false
set_option linter.unusedVariables false
set_option maxHeartbeats 10000000
set_option maxRecDepth 40000
theorem r06Find_ok (t : Table) (id : Int) (hL : t.l.length ≤ 4294967296) (hH : t.heap.length ≤ 4294967296) : callL G N_ref06_Find [.d (eTable t), .d (.int .i64 id)] [] = some (.d (.tup [eLease (findT t id).1, .bool (findT t id).2]), []) := by
  have hv := r06val_ok t hL hH
  rw [tab_same] at hv
  have hf := r06find_ok t id hL
  have hlt := findL_lt t.l id
  unfold findT
  by_cases h1 : tabV t = 0
  · by_cases h6 : 0 ≤ findL t.l id
    · obtain ⟨k, hk⟩ : ∃ k : Nat, findL t.l id = k := ⟨(findL t.l id).toNat, by omega⟩
      have hkl : k < t.l.length := by omega
      simp only [h1, h6, and_self, if_true]
      rw [hk, Int.toNat_natCast, getDT hkl]
      rw [hk] at hf
      simp only [eTable, eLease] at hv hf ⊢
      rw [h1] at hv
      clear hk h6
      rw [callL_code g_ref06_Find (by simp)]; simp -implicitDefEqProofs (maxSteps := 4000000) (disch := omega) only [c_ref06_Find, r_ref06_Find, eLease, getDT, go_sem, *] /-A0-/
    · simp only [h1, h6, and_false, if_false]
      simp only [eTable, eLease, zLease, zMessage] at hv hf ⊢
      rw [h1] at hv
      rw [callL_code g_ref06_Find (by simp)]; simp -implicitDefEqProofs (maxSteps := 4000000) (disch := omega) only [c_ref06_Find, r_ref06_Find, getDT, go_sem, *] /-A1-/
  · simp only [h1, false_and, if_false]
    simp only [eTable, eLease, zLease, zMessage] at hv hf ⊢
    rw [callL_code g_ref06_Find (by simp)]; simp -implicitDefEqProofs (maxSteps := 4000000) (disch := omega) only [c_ref06_Find, r_ref06_Find, getDT, go_sem, *] /-A2-/
theorem r06rel_ok (t : Table) (id : Int) (hL : t.l.length ≤ 4294967296) (hH : t.heap.length ≤ 4294967296) : callL G N_ref06_Release [.d (eTable t), .d (.int .i64 id)] [] = some (.d (.tup [eTable (relD t id).1, eMessage (relD t id).2.1, .int .i64 (relD t id).2.2]), []) := by
  have hv := r06val_ok t hL hH
  rw [tab_same] at hv
  have hf := r06find_ok t id hL
  have hr := refRemove_ok t.heap id hH
  have hlt := findL_lt t.l id
  simp only [eDE] at hr
  by_cases h1 : tabV t = 0
  · by_cases h6 : 0 ≤ findL t.l id
    · obtain ⟨k, hk, e1, e2, e3, e4, e5⟩ := rem_succ h1 h6
      have h12 := ((tabV_iff t).1 h1).1
      have e : relD t id = (⟨dropI t.l k, (removeD t.heap id).1⟩, t.l[k].msg, 0) := by
        have : relE t id = 0 := by unfold relE; rw [if_neg (by simpa using h1), if_neg (by omega), e3]
        unfold relD
        rw [if_pos this, e1, Int.toNat_natCast, getDT hk]
      rw [e]
      rw [e1] at hf
      rw [e3] at hr
      have hz1 := allSize_Lease (t.l.take k)
      have hz2 := allSize_Lease (t.l.drop (k + 1))
      simp only [eTable, eMessage, dropI, List.map_append] at hv hf ⊢
      rw [h1] at hv
      clear e e1 e2 e3 e5 h6
      rw [callL_code g_ref06_Release (by simp)]; simp -implicitDefEqProofs (maxSteps := 4000000) (disch := omega) only [c_ref06_Release, r_ref06_Release, eLease, getDT, go_sem, *] /-A3-/
    · have e : relD t id = (zTable, zMessage, 4) := by simp [relD, relE, h1, h6]
      rw [e]
      simp only [eTable, eMessage, zTable, zMessage] at hv hf ⊢
      rw [h1] at hv
      rw [callL_code g_ref06_Release (by simp)]; simp -implicitDefEqProofs (maxSteps := 4000000) (disch := omega) only [c_ref06_Release, r_ref06_Release, getDT, go_sem, *] /-A4-/
  · have e : relD t id = (zTable, zMessage, tabV t) := by simp [relD, relE, h1]
    rw [e]
    simp only [eTable, eMessage, zTable, zMessage] at hv hf ⊢
    rw [callL_code g_ref06_Release (by simp)]; simp -implicitDefEqProofs (maxSteps := 4000000) (disch := omega) only [c_ref06_Release, r_ref06_Release, getDT, go_sem, *] /-A5-/
theorem r06ext_ok (t : Table) (id d : Int) (hL : t.l.length ≤ 4294967296) (hH : t.heap.length ≤ 4294967296) : callL G N_ref06_Extend [.d (eTable t), .d (.int .i64 id), .d (.int .i64 d)] [] = some (.d (.tup [eTable (extD t id d).1, .int .i64 (extD t id d).2]), []) := by
  have hv := r06val_ok t hL hH
  rw [tab_same] at hv
  have hf := r06find_ok t id hL
  have hr := refRemove_ok t.heap id hH
  have hlt := findL_lt t.l id
  simp only [eDE] at hr
  by_cases h1 : tabV t = 0
  · by_cases h6 : 0 ≤ findL t.l id
    · by_cases h4 : 0 ≤ d ∧ d ≤ 1073741824
      · obtain ⟨k, hk, e1, e2, e3, e4, e5⟩ := rem_succ h1 h6
        have h12 := ((tabV_iff t).1 h1).1
        have hs := (ext_iff (id := id) (d := d) h1).2 ⟨h6, h4.1, h4.2⟩
        have hE : extE t id d = 0 := by
          unfold extD at hs
          split at hs
          · assumption
          · rename_i hc; exact absurd hs hc
        have hp0 : (pushD (removeD t.heap id).1 (d, id)).2 = 0 := by
          unfold extE at hE
          rwa [if_neg (by simpa using h1), if_neg (by omega), if_neg (by omega), if_neg (by simpa using e3)] at hE
        have e : extD t id d = (⟨t.l.set k ⟨t.l[k].msg, d⟩, (pushD (removeD t.heap id).1 (d, id)).1⟩, 0) := by
          unfold extD
          rw [if_pos hE, e1, Int.toNat_natCast, setD_eq hk]
        have hp := refPush_ok (removeD t.heap id).1 (d, id) (remove_len _ _ hH)
        simp only [eDE, eD] at hp
        rw [e]
        rw [e1] at hf
        rw [e3] at hr
        rw [hp0] at hp
        have hz := allSize_Lease t.l
        simp only [eTable, List.map_set] at hv hf ⊢
        rw [h1] at hv
        clear e e1 e2 e3 e5 h6 hs hE hp0
        rw [callL_code g_ref06_Extend (by simp)]; simp -implicitDefEqProofs (maxSteps := 4000000) (disch := omega) only [c_ref06_Extend, r_ref06_Extend, eLease, getDT, go_sem, *]; (try simp only [pA, pB, pC, pD, pE, pF, pG, pH, pI, pJ, pK, pL, pM, pN, pO, pP, if_true, if_false]); repeat' (first | done | rfl | ((first | refine iteC (fun hq => ?_) (fun hq => ?_) | refine iteP (fun hq => ?_) (fun hq => ?_)) <;> (try (first | (exfalso; omega) | contradiction)) <;> (try simp -implicitDefEqProofs (maxSteps := 4000000) (disch := omega) only [eLease, getDT, go_sem, *]) <;> (try simp only [pA, pB, pC, pD, pE, pF, pG, pH, pI, pJ, pK, pL, pM, pN, pO, pP, if_true, if_false]))); (all_goals try rfl); (all_goals try (repeat' (first | done | rfl | (exfalso; omega) | contradiction | (refine iteR (fun hq => ?_) (fun hq => ?_))))) /-A6-/
      · have e : extD t id d = (zTable, 1) := by simp [extD, extE, h1, h6, h4]
        rw [e]
        simp only [eTable, zTable] at hv hf ⊢
        rw [h1] at hv
        by_cases h5 : d < 0
        · rw [callL_code g_ref06_Extend (by simp)]; simp -implicitDefEqProofs (maxSteps := 4000000) (disch := omega) only [c_ref06_Extend, r_ref06_Extend, getDT, go_sem, *] /-A7-/
        · have h7 : 1073741824 < d := by omega
          rw [callL_code g_ref06_Extend (by simp)]; simp -implicitDefEqProofs (maxSteps := 4000000) (disch := omega) only [c_ref06_Extend, r_ref06_Extend, getDT, go_sem, *] /-A8-/
    · have e : extD t id d = (zTable, 4) := by simp [extD, extE, h1, h6]
      rw [e]
      simp only [eTable, zTable] at hv hf ⊢
      rw [h1] at hv
      rw [callL_code g_ref06_Extend (by simp)]; simp -implicitDefEqProofs (maxSteps := 4000000) (disch := omega) only [c_ref06_Extend, r_ref06_Extend, getDT, go_sem, *] /-A9-/
  · have e : extD t id d = (zTable, tabV t) := by simp [extD, extE, h1]
    rw [e]
    simp only [eTable, zTable] at hv hf ⊢
    rw [callL_code g_ref06_Extend (by simp)]; simp -implicitDefEqProofs (maxSteps := 4000000) (disch := omega) only [c_ref06_Extend, r_ref06_Extend, getDT, go_sem, *] /-A10-/
end Go.Proofs.YtibkpphblgfmbaaGreat.L

namespace Go.Proofs.YtibkpphblgfmbaaGreat.L
open Go Go.Sim Go.Proofs.YtibkpphblgfmbaaGreat
set_option linter.unusedSimpArgs false
set_option linter.unusedVariables false
set_option maxHeartbeats 10000000
set_option maxRecDepth 40000
def msgOf (t : Table) (id : Int) : Message := (t.l.getD (findL t.l id).toNat zLease).msg
def keepP (t : Table) (ep : Int) (id : Int) : Bool := !decide ((msgOf t id).epoch < ep)
def lapsedD (t : Table) (now ep : Int) : List Int := if tabV t = 0 then (untilD t.heap now).filter (keepP t ep) else []
theorem until_mem {t : Table} (h : tabV t = 0) (now : Int) (id : Int) : id ∈ untilD t.heap now ↔ ∃ x ∈ t.l, x.msg.id = id ∧ x.deadline ≤ now := by
  obtain ⟨q1, q2, q3, q4⟩ := (tabV_iff t).1 h
  unfold untilD
  rw [if_pos ((validate_iff _).2 q3)]
  have hp := (sortG_spec t.heap 1 (fun p q hp hq => by omega)).2
  unfold dueIds
  constructor
  · intro hm
    obtain ⟨d, hd, e⟩ := List.mem_map.1 hm
    obtain ⟨hd, hn⟩ := List.mem_filter.1 hd
    obtain ⟨x, hx, e2⟩ := List.mem_map.1 (q4.mem_iff.1 (hp.mem_iff.1 hd))
    subst e2
    exact ⟨x, hx, e, of_decide_eq_true hn⟩
  · rintro ⟨x, hx, e, hn⟩
    exact List.mem_map.2 ⟨dueOf x, List.mem_filter.2 ⟨hp.mem_iff.2 (q4.mem_iff.2 (List.mem_map.2 ⟨x, hx, rfl⟩)), decide_eq_true hn⟩, e⟩
theorem until_find {t : Table} (h : tabV t = 0) {now id : Int} (hm : id ∈ untilD t.heap now) : 0 ≤ findL t.l id :=
  let ⟨x, hx, e, _⟩ := (until_mem h now id).1 hm
  (findL_iff id).2 ⟨x, hx, e⟩
theorem until_len {t : Table} (h : tabV t = 0) (now : Int) : (untilD t.heap now).length ≤ 12 := by
  obtain ⟨q1, q2, q3, q4⟩ := (tabV_iff t).1 h
  unfold untilD
  rw [if_pos ((validate_iff _).2 q3)]
  have hp := (sortG_spec t.heap 1 (fun p q hp hq => by omega)).2.length_eq
  have := q3.len
  unfold dueIds
  rw [List.length_map]
  exact Nat.le_trans (List.length_filter_le _ _) (by omega)
def rlS (t : Table) (ep : Int) (u : List Int) (i : Nat) : St := ⟨[(2, .d (.int .i64 ep)), (3, .ref 3 0 0), (7, .acc 7 (ints ((u.take i).filter (keepP t ep)))), (8, .d (.sl (ints u))), (9, .d (.int .i64 i))], [(3, .row [.d (eTable t)]), (7, .acc ((u.take i).filter (keepP t ep)).length)]⟩
theorem rl_loop (t : Table) (ep now : Int) (u : List Int) (hu : u.length ≤ 12) (h : tabV t = 0) (hf : ∀ id ∈ u, 0 ≤ findL t.l id) (hL : t.l.length ≤ 4294967296) (hH : t.heap.length ≤ 4294967296) : ∀ i : Nat, i ≤ u.length → loopL G [] l_ref06_Lapsed_0 (rlS t ep u i) = some (.exit 0, ⟨[(7, .acc 7 (ints (u.filter (keepP t ep))))], [(7, .acc (u.filter (keepP t ep)).length)]⟩) := by
  refine loop_ind (fun i => u.length - i) (fun i => i ≤ u.length) (rlS t ep u) _ fun i hi L ih => ?_
  simp only [rlS, eTable] at ih ⊢
  simp only [l_ref06_Lapsed_0]
  by_cases h0 : i < u.length
  · have i1 := ih (i + 1) (by omega) (by omega)
    clear ih
    have ht : u.take (i + 1) = u.take i ++ [u[i]] := by rw [List.take_add_one, List.getElem?_eq_getElem h0]; rfl
    rw [ht, List.filter_append] at i1
    have hF := r06Find_ok t u[i] hL hH
    have hfi := hf u[i] (List.getElem_mem h0)
    have e : findT t u[i] = (t.l.getD (findL t.l u[i]).toNat zLease, true) := by unfold findT; rw [if_pos ⟨h, hfi⟩]
    rw [e] at hF
    have hP := r03purged_ok (t.l.getD (findL t.l u[i]).toNat zLease).msg ep
    have hlen : ((u.take i).filter (keepP t ep)).length ≤ 12 := Nat.le_trans (List.length_filter_le _ _) (by simp; omega)
    by_cases hk : (t.l.getD (findL t.l u[i]).toNat zLease).msg.epoch < ep
    · have e2 : [u[i]].filter (keepP t ep) = [] := by
        have : keepP t ep u[i] = false := by unfold keepP msgOf; rw [decide_eq_true hk]; rfl
        rw [List.filter_cons, this]; rfl
      rw [e2, List.append_nil] at i1
      generalize (t.l.getD (findL t.l u[i]).toNat zLease) = x at *
      simp only [hk, decide_true, eTable, eLease, eMessage] at hF hP
      simp only [Int.natCast_add, Int.natCast_one, Int.natCast_zero, Int.natCast_mul, Int.cast_ofNat_Int, List.length_append, List.length_map, List.map_nil, List.length_nil, List.map_append, List.map_cons, List.length_cons, Nat.zero_add, srcO, mapSet] at i1
      clear e e2 hfi hf
      simp -implicitDefEqProofs (maxSteps := 4000000) (disch := omega) only [getDT, go_sem, *] /-A0-/
    · have e2 : [u[i]].filter (keepP t ep) = [u[i]] := by
        have : keepP t ep u[i] = true := by unfold keepP msgOf; rw [decide_eq_false hk]; rfl
        rw [List.filter_cons, this]; rfl
      rw [e2] at i1
      generalize (t.l.getD (findL t.l u[i]).toNat zLease) = x at *
      simp only [hk, decide_false, eTable, eLease, eMessage] at hF hP
      simp only [ints] at i1
      simp only [Int.natCast_add, Int.natCast_one, Int.natCast_zero, Int.natCast_mul, Int.cast_ofNat_Int, List.length_append, List.length_map, List.map_nil, List.length_nil, List.map_append, List.map_cons, List.length_cons, Nat.zero_add, srcO, mapSet] at i1
      clear e e2 hfi hf
      simp -implicitDefEqProofs (maxSteps := 4000000) (disch := omega) only [getDT, go_sem, *] /-A1-/
  · have : i = u.length := by omega
    subst this
    clear ih
    rw [List.take_length]
    simp -implicitDefEqProofs (maxSteps := 4000000) (disch := omega) only [getDT, go_sem, *] /-A2-/
theorem r06lapsed_ok (t : Table) (now ep : Int) (hL : t.l.length ≤ 4294967296) (hH : t.heap.length ≤ 4294967296) : callL G N_ref06_Lapsed [.d (eTable t), .d (.int .i64 now), .d (.int .i64 ep)] [] = some (.d (.sl (ints (lapsedD t now ep))), []) := by
  have hv := r06val_ok t hL hH
  rw [tab_same] at hv
  have hu := refUntil_ok t.heap now hH
  unfold lapsedD
  by_cases h1 : tabV t = 0
  · have hl := rl_loop t ep now (untilD t.heap now) (until_len h1 now) h1 (fun id hm => until_find h1 hm) hL hH 0 (by omega)
    simp only [rlS, List.take_zero, List.filter_nil, ints, List.map_nil, List.length_nil] at hl
    rw [if_pos h1]
    simp only [eTable] at hv hl ⊢
    rw [h1] at hv
    simp only [Int.natCast_add, Int.natCast_one, Int.natCast_zero, Int.natCast_mul, Int.cast_ofNat_Int, List.length_append, List.length_map, List.map_nil, List.length_nil, List.map_append, List.map_cons, List.length_cons, Nat.zero_add, srcO, mapSet] at hl
    rw [callL_code g_ref06_Lapsed (by simp)]; simp -implicitDefEqProofs (maxSteps := 4000000) (disch := omega) only [c_ref06_Lapsed, r_ref06_Lapsed, getDT, go_sem, *] /-A3-/
  · rw [if_neg h1]
    simp only [eTable] at hv ⊢
    rw [callL_code g_ref06_Lapsed (by simp)]; simp -implicitDefEqProofs (maxSteps := 4000000) (disch := omega) only [c_ref06_Lapsed, r_ref06_Lapsed, getDT, go_sem, *] /-A4-/
theorem lap1_ok (t : Table) (ep id : Int) (h : tabV t = 0) (hf : 0 ≤ findL t.l id) : callL G N_lease_Lapsed_1 [.d (.int .i64 id), .d (.pd (eTable t)), .d (.pd (.int .i64 ep))] [] = some (.d (.bool (!keepP t ep id)), []) := by
  obtain ⟨h12, hE, hD, hM⟩ := tabV_zero h
  have ha := leases_asc hE
  have hfd := lfind_ok t id (by omega) ha
  obtain ⟨hp, e⟩ := (findL_pos ha id).1 hf
  have e2 := findL_posL ha hf
  have hP := mpurged_ok t.l[posL t.l id].msg ep
  unfold keepP msgOf
  rw [e2, Int.toNat_natCast, getDT hp, Bool.not_not]
  simp only [hf, decide_true, eTable, eMessage] at hfd hP ⊢
  clear e e2 hf
  rw [callL_code g_lease_Lapsed_1 (by simp)]; simp -implicitDefEqProofs (maxSteps := 4000000) (disch := omega) only [c_lease_Lapsed_1, r_lease_Lapsed_1, eLease, getDT, go_sem, *] /-A5-/
theorem idx_int (l : List Int) (g : Nat) (cs : List D) (p : Int → Bool) (hL : l.length ≤ 4294967296) (hp : ∀ a ∈ l, callL G g (.d (.int .i64 a) :: cs.map .d) [] = some (.d (.bool (p a)), [])) : callL G N_slices_IndexFunc_int [.d (.sl (ints l)), .d (.fn g cs)] [] = some (.d (.int .i64 (idxI p l)), []) := by
  have := loop_find (G := G) (x := l_slices_IndexFunc_int_0) (ks := []) l.length (atB l p) (fun k => ⟨[(0, .d (.sl (ints l))), (1, .d (.fn g cs)), (7, .d (.int .i64 l.length)), (8, .d (.int .i64 k))], []⟩) (fun k => (.ret, ⟨[(4, .d (.int .i64 k))], []⟩)) (.exit 0, ⟨[], []⟩) (fun k hk L => by
    simp only [l_slices_IndexFunc_int_0]
    by_cases h0 : k < l.length
    · have h1 := hp l[k] (List.getElem_mem h0)
      simp only [atB_at h0]
      cases h2 : p l[k]
      · rw [h2] at h1
        simp -implicitDefEqProofs (maxSteps := 4000000) (disch := omega) only [go_sem, h1]
      · rw [h2] at h1
        simp -implicitDefEqProofs (maxSteps := 4000000) (disch := omega) only [go_sem, h1]
    · simp -implicitDefEqProofs (maxSteps := 4000000) (disch := omega) only [go_sem, Nat.zero_add])
  rw [findR_idx] at this
  simp only [Int.natCast_add, Int.natCast_one, Int.natCast_zero, Int.natCast_mul, Int.cast_ofNat_Int, List.length_append, List.length_map, List.map_nil, List.length_nil, List.map_append, List.map_cons, List.length_cons, Nat.zero_add, srcO, mapSet] at this
  unfold idxI
  cases h : l.findIdx? p with
  | none => rw [h] at this; rw [callL_code g_slices_IndexFunc_int (by simp)]; simp -implicitDefEqProofs (maxSteps := 4000000) (disch := omega) only [c_slices_IndexFunc_int, r_slices_IndexFunc_int, go_sem, this]
  | some i => rw [h] at this; rw [callL_code g_slices_IndexFunc_int (by simp)]; simp -implicitDefEqProofs (maxSteps := 4000000) (disch := omega) only [c_slices_IndexFunc_int, r_slices_IndexFunc_int, go_sem, this]
structure DF where
  i : Nat
  j : Nat
  R : List Int
def dfS (g : Nat) (cs : List D) (n : Nat) (s : DF) : St := ⟨[(0, .osl 1000000 0 n), (1, .d (.fn g cs)), (5, .d (.int .i64 s.i)), (6, .d (.int .i64 s.j)), (1000000, .ref 1000000 1 0)], [(1000000, .row ((ints s.R).map .d))]⟩
def dfInv (u : List Int) (p : Int → Bool) (s : DF) : Prop := s.i ≤ s.j ∧ s.j ≤ u.length ∧ s.R.length = u.length ∧ s.R.take s.i = (u.take s.j).filter (fun a => !p a) ∧ s.R.drop s.j = u.drop s.j
def dfPhi (g : Nat) (cs : List D) (u : List Int) (p : Int → Bool) (r : Option (AExit × St)) : Prop := ∃ R : List Int, ∃ i : Nat, R.length = u.length ∧ i ≤ u.length ∧ R.take i = u.filter (fun a => !p a) ∧ r = some (.exit 0, ⟨[(0, .osl 1000000 0 u.length), (5, .d (.int .i64 i)), (1000000, .ref 1000000 1 0)], [(1000000, .row ((ints R).map .d))]⟩)
theorem df_loop (g : Nat) (cs : List D) (u : List Int) (p : Int → Bool) (hL : u.length ≤ 1000) (hp : ∀ a ∈ u, callL G g (.d (.int .i64 a) :: cs.map .d) [] = some (.d (.bool (p a)), [])) : ∀ s : DF, dfInv u p s → dfPhi g cs u p (loopL G [] l_slices_DeleteFunc_int_0 (dfS g cs u.length s)) := by
  refine loop_indP (fun s : DF => u.length - s.j) (dfInv u p) (dfS g cs u.length) (fun _ => Post (dfPhi g cs u p)) fun ⟨i, j, R⟩ hinv L ih => ?_
  obtain ⟨h1, h2, h3, h4, h5⟩ := hinv
  simp only at h1 h2 h3 h4 h5
  by_cases h0 : j < u.length
  · have hRj : R[j]'(by omega) = u[j] := by
      have := congrArg (fun l => l[0]?) h5
      simp only [List.getElem?_drop, Nat.add_zero] at this
      rw [List.getElem?_eq_getElem (show j < R.length by omega), List.getElem?_eq_getElem h0] at this
      exact Option.some.inj this
    have hc := hp u[j] (List.getElem_mem h0)
    have hg : ((ints R).map AV.d)[j]? = some (.d (.int .i64 u[j])) := by simp [ints, List.getElem?_eq_getElem (show j < R.length by omega), hRj]
    have htk : u.take (j + 1) = u.take j ++ [u[j]] := by rw [List.take_add_one, List.getElem?_eq_getElem h0]; rfl
    by_cases hpj : p u[j] = true
    · have i1 := ih ⟨i, j + 1, R⟩ ⟨by simp only; omega, by simp only; omega, h3, by
        simp only
        rw [htk, List.filter_append, h4]
        simp [hpj], by
        simp only
        have := congrArg (List.drop 1) h5
        simpa [List.drop_drop, Nat.add_comm] using this⟩ (by simp only; omega)
      rw [hpj] at hc
      clear ih hp
      simp only [dfS, l_slices_DeleteFunc_int_0] at i1 ⊢
      simp only [Int.natCast_add, Int.natCast_one, Int.natCast_zero, Int.natCast_mul, Int.cast_ofNat_Int, List.length_append, List.length_map, List.map_nil, List.length_nil, List.map_append, List.map_cons, List.length_cons, Nat.zero_add, srcO, mapSet] at i1
      simp -implicitDefEqProofs (maxSteps := 4000000) (disch := omega) only [getDT, go_sem, *] /-A6-/
    · have hpj : p u[j] = false := by simpa using hpj
      have i1 := ih ⟨i + 1, j + 1, R.set i u[j]⟩ ⟨by simp only; omega, by simp only; omega, by simpa using h3, by
        simp only
        rw [htk, List.filter_append, ← h4, List.take_add_one, List.getElem?_set_self (by omega), List.take_set_of_le (by omega)]
        simp [hpj], by
        simp only
        rw [List.drop_set_of_lt (by omega)]
        have := congrArg (List.drop 1) h5
        simpa [List.drop_drop, Nat.add_comm] using this⟩ (by simp only; omega)
      rw [hpj] at hc
      have hst : ((ints R).map AV.d).set i (.d (.int .i64 u[j])) = (ints (R.set i u[j])).map AV.d := by simp [ints, List.map_set]
      have hgi : ((ints R).map AV.d)[i]? = some (.d (.int .i64 (R[i]'(by omega)))) := by simp [ints, List.getElem?_eq_getElem (show i < R.length by omega)]
      clear ih hp
      simp only [dfS, l_slices_DeleteFunc_int_0] at i1 ⊢
      simp only [Int.natCast_add, Int.natCast_one, Int.natCast_zero, Int.natCast_mul, Int.cast_ofNat_Int, List.length_append, List.length_map, List.map_nil, List.length_nil, List.map_append, List.map_cons, List.length_cons, Nat.zero_add, srcO, mapSet] at i1
      simp -implicitDefEqProofs (maxSteps := 4000000) (disch := omega) only [getDT, go_sem, *] /-A7-/
  · have : j = u.length := by omega
    subst this
    clear ih hp
    rw [List.take_length] at h4
    simp only [dfS, l_slices_DeleteFunc_int_0]
    simp -implicitDefEqProofs (maxSteps := 4000000) (disch := omega) only [getDT, go_sem, *] /-A8-/
    exact ⟨R, i, h3, by omega, h4, rfl⟩
end Go.Proofs.YtibkpphblgfmbaaGreat.L

namespace Go.Proofs.YtibkpphblgfmbaaGreat.L
open Go Go.Sim Go.Proofs.YtibkpphblgfmbaaGreat
set_option linter.unusedSimpArgs false
set_option linter.unusedVariables false
set_option maxHeartbeats 10000000
set_option maxRecDepth 40000
theorem filter_idx {u : List Int} {p : Int → Bool} {k : Nat} (hk : k < u.length) (h1 : p u[k] = true) (h2 : ∀ j (hj : j < k), p (u[j]'(by omega)) = false) : u.take k = (u.take (k + 1)).filter (fun a => !p a) := by
  have htk : u.take (k + 1) = u.take k ++ [u[k]] := by rw [List.take_add_one, List.getElem?_eq_getElem hk]; rfl
  rw [htk, List.filter_append]
  have e1 : (u.take k).filter (fun a => !p a) = u.take k := by
    rw [List.filter_eq_self]
    intro a ha
    obtain ⟨j, hj, rfl⟩ := List.getElem_of_mem ha
    simp only [List.length_take] at hj
    rw [List.getElem_take, h2 j (by omega)]
    rfl
  rw [e1]
  simp [h1]
theorem df_ok (g : Nat) (cs : List D) (u : List Int) (p : Int → Bool) (h : u ≠ []) (hL : u.length ≤ 1000) (hp : ∀ a ∈ u, callL G g (.d (.int .i64 a) :: cs.map .d) [] = some (.d (.bool (p a)), [])) :
    callL G N_slices_DeleteFunc_int [.osl 1000000 0 u.length, .d (.fn g cs)] [(1000000, .row ((ints u).map .d))] = some (.osl 1000000 0 (u.filter fun a => !p a).length, [(1000000, .row ((ints (u.filter fun a => !p a)).map .d))]) := by
  have hi := idx_int u g cs p (by omega) hp
  have hall : allD ((ints u).map AV.d) = some (ints u) := allD_map _
  have hlen : (ints u).length = u.length := by simp [ints]
  have htl : (ints u).take u.length = ints u := List.take_of_length_le (by omega)
  by_cases h1 : idxI p u = -1
  · have hn := (idxI_neg u p).1 (by omega)
    have hf : u.filter (fun a => !p a) = u := by
      rw [List.filter_eq_self]
      intro a ha
      rw [hn a ha]; rfl
    rw [hf]
    rw [h1] at hi
    clear hp
    rw [callL_code g_slices_DeleteFunc_int (by simp)]; simp -implicitDefEqProofs (maxSteps := 4000000) (disch := omega) only [c_slices_DeleteFunc_int, r_slices_DeleteFunc_int, getDT, go_sem, *] /-A0-/
  · have hlt := idxI_lt u p
    obtain ⟨k, hk⟩ : ∃ k : Nat, idxI p u = k := ⟨(idxI p u).toNat, by omega⟩
    obtain ⟨hku, k1, k2⟩ := idxI_some hk
    obtain ⟨R, i, r1, r2, r3, hl⟩ := df_loop g cs u p hL hp ⟨k, k + 1, u⟩ ⟨by simp, by simp only; omega, rfl, filter_idx hku k1 k2, rfl⟩
    have hil : (u.filter fun a => !p a).length = i := by rw [← r3]; simp; omega
    have hne : R ≠ [] := by rintro rfl; simp at r1; exact h (by rw [← List.length_eq_zero_iff]; omega)
    have hrow : ((ints R).map AV.d).take i = (ints (u.filter fun a => !p a)).map AV.d := by rw [← r3]; simp [ints, List.map_take]
    have hhd : (((ints R).map AV.d).head?).map AV.size = some 1 := by
      cases R with
      | nil => exact absurd rfl hne
      | cons a R => rfl
    simp only [dfS] at hl
    rw [hk] at hi
    rw [hil]
    simp only [Int.natCast_add, Int.natCast_one, Int.natCast_zero, Int.natCast_mul, Int.cast_ofNat_Int, List.length_append, List.length_map, List.map_nil, List.length_nil, List.map_append, List.map_cons, List.length_cons, Nat.zero_add, srcO, mapSet] at hl
    clear hp k2 hk h1
    have e5 : i + (u.length - i) = u.length := by omega
    rw [callL_code g_slices_DeleteFunc_int (by simp)]; simp -implicitDefEqProofs (maxSteps := 4000000) (disch := omega) only [c_slices_DeleteFunc_int, r_slices_DeleteFunc_int, getDT, go_sem, *]; (try simp only [pA, pB, pC, pD, pE, pF, pG, pH, pI, pJ, pK, pL, pM, pN, pO, pP, if_true, if_false]); repeat' (first | done | rfl | ((first | refine iteC (fun hq => ?_) (fun hq => ?_) | refine iteP (fun hq => ?_) (fun hq => ?_)) <;> (try (first | (exfalso; omega) | contradiction)) <;> (try simp -implicitDefEqProofs (maxSteps := 4000000) (disch := omega) only [getDT, go_sem, *]) <;> (try simp only [pA, pB, pC, pD, pE, pF, pG, pH, pI, pJ, pK, pL, pM, pN, pO, pP, if_true, if_false]))); (all_goals try rfl); (all_goals try (repeat' (first | done | rfl | (exfalso; omega) | contradiction | (refine iteR (fun hq => ?_) (fun hq => ?_))))) /-A1-/
theorem df0_ok (g : Nat) (cs : List D) : callL G N_slices_DeleteFunc_int [.xsl [], .d (.fn g cs)] [] = some (.xsl [], []) := by
  have hi := idx_int [] g cs (fun _ => false) (by simp) (by simp)
  have e : idxI (fun _ : Int => false) [] = -1 := rfl
  rw [e] at hi
  simp only [ints, List.map_nil] at hi
  rw [callL_code g_slices_DeleteFunc_int (by simp)]; simp -implicitDefEqProofs (maxSteps := 4000000) (disch := omega) only [c_slices_DeleteFunc_int, r_slices_DeleteFunc_int, getDT, go_sem, *] /-A2-/
theorem urow (h : List Due) (now : Int) (hL : h.length ≤ 4294967296) (h0 : validateD h = 0) (h1 : untilD h now ≠ []) : callL G N_due_Until [.d (.sl (h.map eD)), .d (.int .i64 now)] [] = some (.osl 0 0 (untilD h now).length, [(0, .row ((ints (untilD h now)).map .d))]) := by
  have := layer_row row_due_Until (es := ints (untilD h now)) (by simpa [ints] using h1) (by have := until_fr h now hL h0; simpa [ints] using this)
  rwa [show (ints (untilD h now)).length = (untilD h now).length by simp [ints]] at this
theorem urow0 (h : List Due) (now : Int) (hL : h.length ≤ 4294967296) (h0 : validateD h = 0) (h1 : untilD h now = []) : callL G N_due_Until [.d (.sl (h.map eD)), .d (.int .i64 now)] [] = some (.xsl [], []) := by
  have := until_fr h now hL h0
  rw [h1] at this
  exact layer_row0 row_due_Until this
theorem flat_ints : ∀ w : List Int, AV.flatL ((ints w).map AV.d) = true
  | [] => rfl
  | a :: w => by show (AV.flat (.d (.int .i64 a)) && AV.flatL ((ints w).map AV.d)) = true; rw [flat_ints w]; rfl
theorem lapsed_ok (t : Table) (now ep : Int) (hL : t.l.length ≤ 4294967296) (hH : t.heap.length ≤ 4294967296) : callL G N_lease_Lapsed [.d (eTable t), .d (.int .i64 now), .d (.int .i64 ep)] [] = some (.d (.sl (ints (lapsedD t now ep))), []) := by
  have hv := lval_ok t hL hH
  unfold lapsedD
  by_cases h1 : tabV t = 0
  · rw [if_pos h1]
    obtain ⟨h12, hE, hD, hM⟩ := tabV_zero h1
    rw [h1] at hv
    by_cases h2 : untilD t.heap now = []
    · have hu := urow0 t.heap now hH hD h2
      have hd := df0_ok N_lease_Lapsed_1 [.pd (eTable t), .pd (.int .i64 ep)]
      rw [h2]
      simp only [eTable, List.filter_nil, ints, List.map_nil] at hv hd ⊢
      rw [callL_code g_lease_Lapsed (by simp)]; simp -implicitDefEqProofs (maxSteps := 4000000) (disch := omega) only [c_lease_Lapsed, r_lease_Lapsed, getDT, go_sem, *] /-A3-/
    · have hu := urow t.heap now hH hD h2
      have hd := df_ok N_lease_Lapsed_1 [.pd (eTable t), .pd (.int .i64 ep)] (untilD t.heap now) (fun a => !keepP t ep a) h2 (by have := until_len h1 now; omega) (fun a ha => lap1_ok t ep a h1 (until_find h1 ha))
      simp only [Bool.not_not] at hd
      have e : (untilD t.heap now).filter (fun a => keepP t ep a) = (untilD t.heap now).filter (keepP t ep) := rfl
      rw [e] at hd
      have hall : allD ((ints ((untilD t.heap now).filter (keepP t ep))).map AV.d) = some (ints ((untilD t.heap now).filter (keepP t ep))) := allD_map _
      have hlen : (ints ((untilD t.heap now).filter (keepP t ep))).length = ((untilD t.heap now).filter (keepP t ep)).length := by simp [ints]
      have htl : (ints ((untilD t.heap now).filter (keepP t ep))).take ((untilD t.heap now).filter (keepP t ep)).length = ints ((untilD t.heap now).filter (keepP t ep)) := List.take_of_length_le (by omega)
      have hfl := flat_ints ((untilD t.heap now).filter (keepP t ep))
      generalize (untilD t.heap now).filter (keepP t ep) = w at *
      generalize untilD t.heap now = u at *
      simp only [eTable] at hv hd ⊢
      rw [callL_code g_lease_Lapsed (by simp)]; simp -implicitDefEqProofs (maxSteps := 4000000) (disch := omega) only [c_lease_Lapsed, r_lease_Lapsed, getDT, go_sem, *] /-A4-/
  · rw [if_neg h1]
    simp only [eTable] at hv ⊢
    rw [callL_code g_lease_Lapsed (by simp)]; simp -implicitDefEqProofs (maxSteps := 4000000) (disch := omega) only [c_lease_Lapsed, r_lease_Lapsed, getDT, go_sem, *] /-A5-/
end Go.Proofs.YtibkpphblgfmbaaGreat.L

namespace Go.Proofs.YtibkpphblgfmbaaGreat.L
open Go Go.Sim Go.Proofs.YtibkpphblgfmbaaGreat
set_option linter.unusedSimpArgs false
set_option linter.unusedVariables false
set_option maxHeartbeats 10000000
set_option maxRecDepth 40000
def gS (t : Table) (m : Message) (d : Int) (k : Nat) : St := ⟨[(2, .d (.int .i64 d)), (3, .ref 3 0 0), (4, .ref 4 0 0), (6, .ref 6 0 0), (10, .d (.int .i64 k))], [(3, .row [.d (eTable t)]), (4, .row [.d (eMessage m)]), (6, .row [.agg [.xsl [], .xsl []]])]⟩
theorem r06g_loop (t : Table) (m : Message) (d : Int) (hL : t.l.length ≤ 1000) (h : t.l.Pairwise fun x y => x.msg.id < y.msg.id) : ∀ k : Nat, k ≤ posL t.l m.id → loopL G [] l_ref06_Grant_0 (gS t m d k) = some (.exit 1, gS t m d (posL t.l m.id)) := by
  refine loop_ind (fun k => posL t.l m.id - k) (fun k => k ≤ posL t.l m.id) (gS t m d) _ fun k hk L ih => ?_
  have hpl := posL_le t.l m.id
  simp only [gS, eTable, eMessage] at ih ⊢
  simp only [l_ref06_Grant_0]
  by_cases h0 : k < t.l.length
  · have hp := pos_lt h (id := m.id) h0
    by_cases h1 : t.l[k].msg.id < m.id
    · have i1 := ih (k + 1) (by omega) (by omega)
      clear ih
      simp only [Int.natCast_add, Int.natCast_one, Int.natCast_zero, Int.natCast_mul, Int.cast_ofNat_Int, List.length_append, List.length_map, List.map_nil, List.length_nil, List.map_append, List.map_cons, List.length_cons, Nat.zero_add, srcO, mapSet] at i1
      simp -implicitDefEqProofs (maxSteps := 4000000) (disch := omega) only [eLease, getDT, go_sem, *] /-A0-/
    · have : k = posL t.l m.id := by omega
      subst this
      clear ih hp
      simp -implicitDefEqProofs (maxSteps := 4000000) (disch := omega) only [eLease, getDT, go_sem, *] /-A1-/
  · have : k = posL t.l m.id := by omega
    subst this
    clear ih
    simp -implicitDefEqProofs (maxSteps := 4000000) (disch := omega) only [eLease, getDT, go_sem, *] /-A2-/
theorem r06grant_ok (t : Table) (m : Message) (d : Int) (hL : t.l.length ≤ 4294967296) (hH : t.heap.length ≤ 4294967296) : callL G N_ref06_Grant [.d (eTable t), .d (eMessage m), .d (.int .i64 d)] [] = some (.d (.tup [eTable (grantD t m d).1, .int .i64 (grantD t m d).2]), []) := by
  have hv := r06val_ok t hL hH
  rw [tab_same] at hv
  have hm := r03val_ok m
  have hf := r06find_ok t m.id hL
  have hp := refPush_ok t.heap (d, m.id) hH
  simp only [eTable, eMessage, eD, eDE] at hv hm hf hp
  by_cases h1 : tabV t = 0
  · obtain ⟨h12, hE, hD, hM⟩ := tabV_zero h1
    have ha := leases_asc hE
    have hl := r06g_loop t m d (by omega) ha 0 (by omega)
    simp only [gS, eTable, eMessage] at hl
    simp only [Int.natCast_add, Int.natCast_one, Int.natCast_zero, Int.natCast_mul, Int.cast_ofNat_Int, List.length_append, List.length_map, List.map_nil, List.length_nil, List.map_append, List.map_cons, List.length_cons, Nat.zero_add, srcO, mapSet] at hl
    have hpl := posL_le t.l m.id
    by_cases h2 : msgV m = 0
    · by_cases h3 : m.gen = 0
      · have e : grantD t m d = (zTable, 7) := by simp [grantD, grantE, h1, h2, h3]
        rw [e]
        simp only [eTable, eMessage, zTable]
        rw [h1] at hv
        rw [h2] at hm
        simp only [h3] at hm ⊢
        clear hl
        rw [callL_code g_ref06_Grant (by simp)]; simp -implicitDefEqProofs (maxSteps := 4000000) (disch := omega) only [c_ref06_Grant, r_ref06_Grant, getDT, go_sem, *] /-A3-/
      · by_cases h4 : 0 ≤ d ∧ d ≤ 1073741824
        · by_cases h5 : t.l.length = 12
          · have e : grantD t m d = (zTable, 3) := by simp [grantD, grantE, h1, h2, h3, h4, h5]
            rw [e]
            simp only [eTable, eMessage, zTable]
            clear hl
            rw [callL_code g_ref06_Grant (by simp)]; simp -implicitDefEqProofs (maxSteps := 4000000) (disch := omega) only [c_ref06_Grant, r_ref06_Grant, getDT, go_sem, *] /-A4-/
          · by_cases h6 : 0 ≤ findL t.l m.id
            · have e : grantD t m d = (zTable, 10) := by simp [grantD, grantE, h1, h2, h3, h4, h5, h6]
              rw [e]
              simp only [eTable, eMessage, zTable]
              clear hl
              rw [callL_code g_ref06_Grant (by simp)]; simp -implicitDefEqProofs (maxSteps := 4000000) (disch := omega) only [c_ref06_Grant, r_ref06_Grant, getDT, go_sem, *] /-A5-/
            · have hps := (push_succ h1 h2 h4.1 h4.2 h5 (by omega)).1
              have e : grantD t m d = (⟨insL t.l m d, (pushD t.heap (d, m.id)).1⟩, 0) := by simp [grantD, grantE, h1, h2, h3, h4, h5, h6, hps]
              rw [e]
              simp only [hps] at hp
              simp only [hps, eTable, eMessage, insL, List.map_append, List.map_cons, List.map_nil]
              have hz1 := allSize_Lease (t.l.take (posL t.l m.id))
              have hz2 := allSize_Lease (t.l.drop (posL t.l m.id))
              clear hps e
              rw [callL_code g_ref06_Grant (by simp)]; simp -implicitDefEqProofs (maxSteps := 4000000) (disch := omega) only [c_ref06_Grant, r_ref06_Grant, eLease, getDT, go_sem, *] /-A6-/
        · have e : grantD t m d = (zTable, 1) := by simp [grantD, grantE, h1, h2, h3, h4]
          rw [e]
          simp only [eTable, eMessage, zTable]
          clear hl
          by_cases h5 : d < 0
          · rw [callL_code g_ref06_Grant (by simp)]; simp -implicitDefEqProofs (maxSteps := 4000000) (disch := omega) only [c_ref06_Grant, r_ref06_Grant, getDT, go_sem, *] /-A7-/
          · have h6 : 1073741824 < d := by omega
            rw [callL_code g_ref06_Grant (by simp)]; simp -implicitDefEqProofs (maxSteps := 4000000) (disch := omega) only [c_ref06_Grant, r_ref06_Grant, getDT, go_sem, *] /-A8-/
    · have e : grantD t m d = (zTable, msgV m) := by simp [grantD, grantE, h1, h2]
      rw [e]
      simp only [eTable, eMessage, zTable]
      clear hl
      rw [callL_code g_ref06_Grant (by simp)]; simp -implicitDefEqProofs (maxSteps := 4000000) (disch := omega) only [c_ref06_Grant, r_ref06_Grant, getDT, go_sem, *] /-A9-/
  · have e : grantD t m d = (zTable, tabV t) := by simp [grantD, grantE, h1]
    rw [e]
    simp only [eTable, eMessage, zTable]
    rw [callL_code g_ref06_Grant (by simp)]; simp -implicitDefEqProofs (maxSteps := 4000000) (disch := omega) only [c_ref06_Grant, r_ref06_Grant, getDT, go_sem, *] /-A10-/
end Go.Proofs.YtibkpphblgfmbaaGreat.L
