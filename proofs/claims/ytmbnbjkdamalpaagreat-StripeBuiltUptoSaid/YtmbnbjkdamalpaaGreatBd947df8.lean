/-
  The reader: messages.
  Rings that hold a list: in plain Lean.
  The reader: rings.
  lease.find: binary search.
  lease.Grant, Find, Release, Extend.
  Leases, in plain Lean: changes keep a table valid.
  The reference's Grant.
-/
import Derived.Test.YtmbnbjkdamalpaaGreatBa953a7a
import Derived.Test.YtmbnbjkdamalpaaGreatB6826dd9
set_option linter.unusedSimpArgs false
set_option linter.unusedVariables false
namespace Go.Proofs.YtmbnbjkdamalpaaGreat
open Go Go.Sim
set_option linter.unusedSimpArgs false
set_option linter.unusedVariables false
set_option maxHeartbeats 10000000
set_option maxRecDepth 40000
theorem and_in (a : Int) (m : Int) (h0 : 0 ≤ m) (h1 : m ≤ 4294967295) : 0 ≤ andI .i64 a m ∧ andI .i64 a m ≤ m := by
  unfold andI
  have e : (BitVec.ofInt IntKind.i64.bits m).toNat = m.toNat := by
    show (BitVec.ofInt 64 m).toNat = m.toNat
    rw [BitVec.toNat_ofInt]; omega
  have h2 : (BitVec.ofInt IntKind.i64.bits a &&& BitVec.ofInt IntKind.i64.bits m).toNat ≤ m.toNat := by
    rw [BitVec.toNat_and, e]; exact Nat.and_le_right
  rw [wr (by omega)]
  omega
theorem xor_in (a b : Int) (ha : 0 ≤ a ∧ a < 65536) (hb : 0 ≤ b ∧ b < 65536) : 0 ≤ xorI .i64 a b ∧ xorI .i64 a b < 65536 := by
  unfold xorI
  have e : ∀ m : Int, 0 ≤ m → m < 65536 → (BitVec.ofInt IntKind.i64.bits m).toNat = m.toNat := fun m h0 h1 => by
    show (BitVec.ofInt 64 m).toNat = m.toNat
    rw [BitVec.toNat_ofInt]; omega
  have h2 : (BitVec.ofInt IntKind.i64.bits a ^^^ BitVec.ofInt IntKind.i64.bits b).toNat < 65536 := by
    rw [BitVec.toNat_xor, e a ha.1 ha.2, e b hb.1 hb.2]; exact Nat.xor_lt_two_pow (n := 16) (by omega) (by omega)
  rw [wr (by omega)]
  omega
def sumS (b : List UInt8) (p : Nat × Int) : St := ⟨[(0, .d (.sl (byD b))), (3, .d (.int .i64 p.2)), (4, .d (.int .i64 p.1))], []⟩
def sumPhi (r : Option (AExit × St)) : Prop := ∃ h : Int, 0 ≤ h ∧ h ≤ 4294967295 ∧ r = some (.exit 0, ⟨[(3, .d (.int .i64 h))], []⟩)
theorem sum_loop (b : List UInt8) (hL : b.length ≤ 1000) : ∀ p : Nat × Int, p.1 ≤ b.length ∧ 0 ≤ p.2 ∧ p.2 ≤ 4294967295 → sumPhi (loopL G [] l_ref02_Sum_0 (sumS b p)) := by
  refine loop_indP (fun p : Nat × Int => b.length - p.1) _ (sumS b) (fun _ => Post sumPhi) fun ⟨i, h⟩ ⟨h1, h2, h3⟩ L ih => ?_
  simp only at h1 h2 h3
  simp only [sumS, l_ref02_Sum_0] at ih ⊢
  by_cases h0 : i < b.length
  · have hlt := b[i].toNat_lt
    have hg : (byD b)[i]? = some (.int .u8 b[i].toNat) := by unfold byD; simp [List.getElem?_eq_getElem h0]
    have hlen : (byD b).length = b.length := by unfold byD; simp
    have ha := fun a => and_in a 4294967295 (by omega) (by omega)
    simp -implicitDefEqProofs (maxSteps := 4000000) (disch := omega) only [getDT, go_sem, *] /-A0-/
    exact ih (i + 1, _) ⟨by simp only; omega, (ha _).1, (ha _).2⟩ (by simp only; omega)
  · have hlen : (byD b).length = b.length := by unfold byD; simp
    clear ih
    simp -implicitDefEqProofs (maxSteps := 4000000) (disch := omega) only [getDT, go_sem, *] /-A1-/
    exact ⟨h, h2, h3, rfl⟩
theorem sum_ex (b : List UInt8) (hL : b.length ≤ 1000) : ∃ h : Int, 0 ≤ h ∧ h ≤ 4294967295 ∧ callL G N_ref02_Sum [.d (.sl (byD b))] [] = some (.d (.int .i64 h), []) := by
  obtain ⟨h, h1, h2, hl⟩ := sum_loop b hL (0, 2166136261) ⟨by simp, by simp, by simp⟩
  simp only [sumS] at hl
  simp only [Int.natCast_add, Int.natCast_one, Int.natCast_zero, Int.natCast_mul, Int.cast_ofNat_Int, List.length_append, List.length_map, List.map_nil, List.length_nil, List.map_append, List.map_cons, List.length_cons, Nat.zero_add, srcO, mapSet] at hl
  refine ⟨h, h1, h2, ?_⟩
  rw [callL_code g_ref02_Sum (by simp)]; simp -implicitDefEqProofs (maxSteps := 4000000) (disch := omega) only [c_ref02_Sum, r_ref02_Sum, getDT, go_sem, *] /-A2-/
theorem u8_of (x : Int) : ∃ c : UInt8, IntKind.u8.wrap x = c.toNat := by
  have h := has_wrap .u8 x
  simp only [IntKind.has, IntKind.min, IntKind.max, IntKind.bits, IntKind.signed] at h
  simp at h
  exact ⟨UInt8.ofNat (IntKind.u8.wrap x).toNat, by rw [UInt8.toNat_ofNat']; omega⟩
theorem put_ex (n : Int) (h0 : 0 ≤ n) (h1 : n ≤ 1073741824) : ∃ b : List UInt8, b.length = 4 ∧ callL G N_ref01_Put [.d (.sl []), .d (.int .i64 n), .d (.int .i64 4)] [] = some (.d (.tup [.sl (byD b), .int .i64 0]), []) := by
  rw [callL_code g_ref01_Put (by simp)]; simp -implicitDefEqProofs (maxSteps := 4000000) (disch := omega) only [c_ref01_Put, r_ref01_Put, loopL_eq, l_ref01_Put_0, getDT, go_sem, *]; (try simp only [pA, pB, pC, pD, pE, pF, pG, pH, pI, pJ, pK, pL, pM, pN, pO, pP, if_true, if_false]); repeat' (first | done | rfl | ((first | refine iteC (fun hq => ?_) (fun hq => ?_) | refine iteP (fun hq => ?_) (fun hq => ?_)) <;> (try (first | (exfalso; omega) | contradiction)) <;> (try simp -implicitDefEqProofs (maxSteps := 4000000) (disch := omega) only [loopL_eq, l_ref01_Put_0, getDT, go_sem, *]) <;> (try simp only [pA, pB, pC, pD, pE, pF, pG, pH, pI, pJ, pK, pL, pM, pN, pO, pP, if_true, if_false]))); (all_goals try rfl); (all_goals try (repeat' (first | done | rfl | (exfalso; omega) | contradiction | (refine iteR (fun hq => ?_) (fun hq => ?_))))) /-A3-/
  obtain ⟨c1, e1⟩ := u8_of (n.fdiv (2 ^ (min 24 64 : Nat)))
  obtain ⟨c2, e2⟩ := u8_of (n.fdiv (2 ^ (min 16 64 : Nat)))
  obtain ⟨c3, e3⟩ := u8_of (n.fdiv (2 ^ (min 8 64 : Nat)))
  obtain ⟨c4, e4⟩ := u8_of (n.fdiv (2 ^ (min 0 64 : Nat)))
  refine ⟨[c1, c2, c3, c4], rfl, ?_⟩
  rw [if_neg (by have : IntKind.i64.wrap (1 * 2 ^ (min 32 64 : Nat)) = 4294967296 := by decide
                 omega), e1, e2, e3, e4]
  rfl
theorem route_ex (id : Int) : ∃ r : Int, 0 ≤ r ∧ r < 65536 ∧ callL G N_ref02_Route [.d (.int .i64 id)] [] = some (.d (.int .i64 r), []) := by
  by_cases h0 : id < 0
  · refine ⟨0, by omega, by omega, ?_⟩
    rw [callL_code g_ref02_Route (by simp)]; simp -implicitDefEqProofs (maxSteps := 4000000) (disch := omega) only [c_ref02_Route, r_ref02_Route, getDT, go_sem, *] /-A4-/
  · by_cases h1 : 1073741824 < id
    · refine ⟨0, by omega, by omega, ?_⟩
      rw [callL_code g_ref02_Route (by simp)]; simp -implicitDefEqProofs (maxSteps := 4000000) (disch := omega) only [c_ref02_Route, r_ref02_Route, getDT, go_sem, *] /-A5-/
    · obtain ⟨b, hb, hp⟩ := put_ex id (by omega) (by omega)
      obtain ⟨h, g0, g1, hs⟩ := sum_ex b (by omega)
      have hf : Int.fdiv h (2 ^ (min 16 64 : Nat)) = h / 65536 := by
        show Int.fdiv h 65536 = h / 65536
        rw [Int.fdiv_eq_ediv_of_nonneg _ (by omega)]
      have hx := xor_in (h / 65536) (andI .i64 h 65535) (by omega) (by have := and_in h 65535 (by omega) (by omega); omega)
      refine ⟨xorI .i64 (h / 65536) (andI .i64 h 65535), hx.1, hx.2, ?_⟩
      rw [callL_code g_ref02_Route (by simp)]; simp -implicitDefEqProofs (maxSteps := 4000000) (disch := omega) only [c_ref02_Route, r_ref02_Route, getDT, go_sem, *] /-A6-/
def intoD (r lo hi : Int) : Int := if lo ≤ r ∧ r ≤ hi then r else lo + r.tmod (hi - lo + 1)
theorem into_ok (r lo hi : Int) (h0 : 0 ≤ r) (h1 : r < 65536) (h2 : 0 ≤ lo) (h3 : lo ≤ hi) (h4 : hi < 65536) : callL G N_ref02_Into [.d (.int .i64 r), .d (.int .i64 lo), .d (.int .i64 hi)] [] = some (.d (.int .i64 (intoD r lo hi)), []) := by
  unfold intoD
  have hm := Int.tmod_lt_of_pos r (show 0 < hi - lo + 1 by omega)
  have hm2 := Int.tmod_nonneg (hi - lo + 1) h0
  have hne : ¬ hi - lo + 1 = 0 := by omega
  by_cases c : lo ≤ r ∧ r ≤ hi
  · rw [if_pos c]
    obtain ⟨c1, c2⟩ := c
    rw [callL_code g_ref02_Into (by simp)]; simp -implicitDefEqProofs (maxSteps := 4000000) (disch := omega) only [c_ref02_Into, r_ref02_Into, getDT, go_sem, *] /-A7-/
  · rw [if_neg c]
    by_cases c1 : lo ≤ r
    · have c2 : ¬ r ≤ hi := fun h => c ⟨c1, h⟩
      clear c
      rw [callL_code g_ref02_Into (by simp)]; simp -implicitDefEqProofs (maxSteps := 4000000) (disch := omega) only [c_ref02_Into, r_ref02_Into, getDT, go_sem, *] /-A8-/
    · clear c
      rw [callL_code g_ref02_Into (by simp)]; simp -implicitDefEqProofs (maxSteps := 4000000) (disch := omega) only [c_ref02_Into, r_ref02_Into, getDT, go_sem, *] /-A9-/
theorem into_in {r lo hi : Int} (h0 : 0 ≤ r) (h3 : lo ≤ hi) : lo ≤ intoD r lo hi ∧ intoD r lo hi ≤ hi := by
  unfold intoD
  have hm := Int.tmod_lt_of_pos r (show 0 < hi - lo + 1 by omega)
  have hm2 := Int.tmod_nonneg (hi - lo + 1) h0
  split <;> omega
def msgGood (m : Message) (id lo hi : Int) : Prop := m.id = id ∧ lo ≤ m.route ∧ m.route ≤ hi ∧ 0 ≤ m.epoch ∧ m.epoch ≤ 2 ∧ 0 ≤ m.count ∧ m.count ≤ 3 ∧ 0 ≤ m.sent ∧ m.sent ≤ 49 ∧ m.body.length ≤ 3 ∧ m.count ≤ m.gen ∧ m.gen ≤ 65536
theorem message_ex (l : List Int) (a : Nat) (id lo hi : Int) (hL : l.length ≤ 4000) (h2 : 0 ≤ lo) (h3 : lo ≤ hi) (h4 : hi < 65536) : ∃ m a', msgGood m id lo hi ∧ callL G N_base_Src_Message [.ref 1000000 0 0, .d (.int .i64 id), .d (.int .i64 lo), .d (.int .i64 hi)] [(1000000, srcO l a)] = some (.d (eMessage m), [(1000000, srcO l a')]) := by
  obtain ⟨r, r0, r1, hr⟩ := route_ex id
  have hi1 := into_ok r lo hi r0 r1 h2 h3 h4
  have hi2 := into_in (hi := hi) r0 h3
  generalize intoD r lo hi = ro at *
  have hn := fun at1 m => n_ok l at1 m hL
  obtain ⟨a1, q1⟩ : ∃ a1, (rawD l a).2 = a1 := ⟨_, rfl⟩
  obtain ⟨a2, q2⟩ : ∃ a2, (rawD l a1).2 = a2 := ⟨_, rfl⟩
  obtain ⟨a3, q3⟩ : ∃ a3, (rawD l a2).2 = a3 := ⟨_, rfl⟩
  obtain ⟨b1, hb⟩ := bodyF_ok l a3 hL
  obtain ⟨a4, q4⟩ : ∃ a4, (bodyF l a3).2 = a4 := ⟨_, rfl⟩
  generalize (bodyF l a3).1 = bd at *
  obtain ⟨a5, q5⟩ : ∃ a5, (rawD l a4).2 = a5 := ⟨_, rfl⟩
  obtain ⟨a6, q6⟩ : ∃ a6, (rawD l a5).2 = a6 := ⟨_, rfl⟩
  have n1 := nD_in l a (n := 3) (by omega)
  have n2 := nD_in l a1 (n := 4) (by omega)
  have n3 := nD_in l a2 (n := 50) (by omega)
  have n4 := nD_in l a4 (n := 3) (by omega)
  by_cases c : nD l a5 20 = 19
  · refine ⟨⟨id, ro, nD l a 3, nD l a1 4, 65536, nD l a2 50, bd⟩, a6, ⟨rfl, by simp only; omega, by simp only; omega, n1.1, by simp only; omega, n2.1, by simp only; omega, n3.1, by simp only; omega, b1, by simp only; omega, by simp⟩, ?_⟩
    simp only [eMessage]
    rw [callL_code g_base_Src_Message (by simp)]; simp -implicitDefEqProofs (maxSteps := 4000000) (disch := omega) only [c_base_Src_Message, r_base_Src_Message, getDT, go_sem, *] /-A10-/
  · refine ⟨⟨id, ro, nD l a 3, nD l a1 4, nD l a1 4 + nD l a4 3, nD l a2 50, bd⟩, a6, ⟨rfl, by simp only; omega, by simp only; omega, n1.1, by simp only; omega, n2.1, by simp only; omega, n3.1, by simp only; omega, b1, by simp only; omega, by simp only; omega⟩, ?_⟩
    simp only [eMessage]
    rw [callL_code g_base_Src_Message (by simp)]; simp -implicitDefEqProofs (maxSteps := 4000000) (disch := omega) only [c_base_Src_Message, r_base_Src_Message, getDT, go_sem, *] /-A11-/
end Go.Proofs.YtmbnbjkdamalpaaGreat

namespace Go.Proofs.YtmbnbjkdamalpaaGreat
open Go Go.Sim
set_option linter.unusedSimpArgs false
set_option linter.unusedVariables false
set_option maxHeartbeats 10000000
set_option maxRecDepth 40000
theorem getD_set {α : Type} (l : List α) (i j : Nat) (x d : α) (hi : i < l.length) : (l.set i x).getD j d = if i = j then x else l.getD j d := by
  rw [List.getD_eq_getElem?_getD, List.getD_eq_getElem?_getD, List.getElem?_set]
  split
  · rename_i e; subst e; simp
  · rfl
theorem modInj {n h i j : Nat} (hi : i < n) (hj : j < n) (e : (h + i) % n = (h + j) % n) : i = j := by
  have h1 := Nat.mod_lt h (show 0 < n by omega)
  rw [Nat.add_mod h i, Nat.add_mod h j, Nat.mod_eq_of_lt hi, Nat.mod_eq_of_lt hj] at e
  generalize h % n = a at *
  by_cases c1 : a + i < n
  · rw [Nat.mod_eq_of_lt c1] at e
    by_cases c2 : a + j < n
    · rw [Nat.mod_eq_of_lt c2] at e; omega
    · rw [show a + j = (a + j - n) + n by omega, Nat.add_mod_right, Nat.mod_eq_of_lt (by omega)] at e; omega
  · rw [show a + i = (a + i - n) + n by omega, Nat.add_mod_right, Nat.mod_eq_of_lt (by omega)] at e
    by_cases c2 : a + j < n
    · rw [Nat.mod_eq_of_lt c2] at e; omega
    · rw [show a + j = (a + j - n) + n by omega, Nat.add_mod_right, Nat.mod_eq_of_lt (by omega)] at e; omega
theorem wN_at {n h : Nat} {l : List Message} (hn : 1 ≤ n) : ∀ {i : Nat}, i ≤ n → ∀ {j : Nat}, j < n → (wN n h l i).getD ((h + j) % n) zMessage = if j < i then l.getD j zMessage else zMessage := by
  intro i
  induction i with
  | zero =>
    intro _ j hj
    rw [if_neg (by omega)]
    have : (h + j) % n < n := Nat.mod_lt _ (by omega)
    simp [wN, List.getD_eq_getElem?_getD, List.getElem?_replicate, this]
  | succ i ih =>
    intro hi j hj
    have hm : (h + i) % n < n := Nat.mod_lt _ (by omega)
    rw [wN_succ, getD_set _ _ _ _ _ (by rw [wN_len]; exact hm), ih (by omega) hj]
    by_cases e : (h + i) % n = (h + j) % n
    · obtain rfl := modInj (by omega) hj e
      rw [if_pos rfl, if_pos (by omega)]
    · rw [if_neg e]
      by_cases c : j < i
      · rw [if_pos c, if_pos (by omega)]
      · rw [if_neg c, if_neg]
        intro h2
        obtain rfl : j = i := by omega
        exact e rfl
def rg (n h : Nat) (l : List Message) : Ring := ⟨wN n h l l.length, h, l.length⟩
theorem ordN_rg {n h : Nat} {l : List Message} (hn : 1 ≤ n) (hl : l.length ≤ n) : ordN (wN n h l l.length) h l.length = l := by
  unfold ordN
  rw [wN_len]
  refine List.ext_getElem (by simp) fun j h1 h2 => ?_
  simp only [List.getElem_map, List.getElem_range]
  rw [wN_at hn hl (by omega), if_pos h2, getDT h2]
theorem firstE_zero {l : List Message} (h : ∀ m ∈ l, msgV m = 0) : firstE l = 0 := by
  induction l with
  | nil => rfl
  | cons m l ih =>
    unfold firstE
    rw [if_neg (by simpa using h m (by simp))]
    exact ih fun x hx => h x (by simp [hx])
theorem ringV_rg {n h : Nat} {l : List Message} (hn : 1 ≤ n) (hn2 : n ≤ 12) (hh : h < n) (hl : l.length ≤ n) (hm : ∀ m ∈ l, msgV m = 0) (hd : (l.map (·.id)).Nodup) : ringV (rg n h l) = 0 := by
  have ho : ordD (rg n h l) = l := by rw [rg, ordD_eq, ordN_rg hn hl]
  unfold ringV
  rw [ho]
  have hlen : (rg n h l).cells.length = n := wN_len _ _ _ _
  rw [if_neg (by rw [Classical.not_not]; exact ⟨by rw [hlen]; omega, by rw [hlen]; omega, by simp [rg], by rw [hlen]; simp [rg]; omega, by simp [rg], by rw [hlen]; simp [rg]; omega⟩)]
  rw [if_neg, if_neg (by rw [firstE_zero hm]; simp), if_neg (by unfold dupI; simpa using hd)]
  unfold restF
  rw [hlen]
  rw [List.any_eq_true]
  rintro ⟨j, h1, h2⟩
  rw [List.mem_range'_1] at h1
  have hz : (rg n h l).size.toNat = l.length := by simp [rg]
  have e := wN_at (h := h) (l := l) hn hl (show j < n by omega)
  rw [if_neg (by omega)] at e
  exact of_decide_eq_true h2 e
theorem pushR_rg {n h : Nat} {l : List Message} {m : Message} (hn : 1 ≤ n) (hn2 : n ≤ 12) (hh : h < n) (hl : l.length < n) (hm : ∀ m ∈ l, msgV m = 0) (hd : (l.map (·.id)).Nodup) (hv : msgV m = 0) (hi : ∀ x ∈ l, x.id ≠ m.id) : pushR (rg n h l) m = 0 := by
  unfold pushR
  rw [if_neg (by rw [ringV_rg hn hn2 hh (by omega) hm hd]; simp), if_neg (by rw [hv]; simp), if_neg (by simp [rg, wN_len]; omega), if_neg]
  rw [rg, ordD_eq, ordN_rg hn (by omega)]
  have : fstI l m.id < 0 := by
    unfold fstI
    rw [idxI_neg]
    intro x hx
    simpa using hi x hx
  omega
theorem good_val {m : Message} {id lo hi : Int} (h : msgGood m id lo hi) (h1 : 1 ≤ id) (h2 : id ≤ 1000) (h3 : 0 ≤ lo) (h4 : hi < 65536) : msgV m = 0 := by
  obtain ⟨g1, g2, g3, g4, g5, g6, g7, g8, g9, g10, g11, g12⟩ := h
  unfold msgV
  rw [if_pos ⟨by omega, by omega, by omega, by omega, by omega, by omega, by omega, by omega, by omega, by omega, by omega, by omega⟩, if_neg (by omega)]
theorem pb_rg {n h : Nat} {l : List Message} {m : Message} (hn : 1 ≤ n) (hn2 : n ≤ 12) (hh : h < n) (hl : l.length < n) (hm : ∀ m ∈ l, msgV m = 0) (hd : (l.map (·.id)).Nodup) (hv : msgV m = 0) (hi : ∀ x ∈ l, x.id ≠ m.id) : callL G N_ref04_PushBack [.d (eRing (rg n h l)), .d (eMessage m)] [] = some (.d (.tup [eRing (rg n h (l ++ [m])), .int .i64 0]), []) := by
  have hp := pushR_rg hn hn2 hh hl hm hd hv hi
  have := pushback_ok (wN n h l l.length) h l.length m hp
  rw [ordN_rg hn (by omega), wN_len] at this
  rw [show rg n h l = ⟨wN n h l l.length, h, l.length⟩ from rfl, this]
  unfold rg
  rw [List.length_append, List.length_singleton]
theorem pf_rg {n h : Nat} {l : List Message} {m : Message} (hn : 1 ≤ n) (hn2 : n ≤ 12) (hh : h < n) (hl : l.length < n) (hm : ∀ m ∈ l, msgV m = 0) (hd : (l.map (·.id)).Nodup) (hv : msgV m = 0) (hi : ∀ x ∈ l, x.id ≠ m.id) : callL G N_ref04_PushFront [.d (eRing (rg n h l)), .d (eMessage m)] [] = some (.d (.tup [eRing (rg n ((h + n - 1) % n) (m :: l)), .int .i64 0]), []) := by
  have hp := pushR_rg hn hn2 hh hl hm hd hv hi
  have := pushfront_ok (wN n h l l.length) h l.length m hp
  rw [ordN_rg hn (by omega), wN_len] at this
  rw [show rg n h l = ⟨wN n h l l.length, h, l.length⟩ from rfl, this]
  rfl
end Go.Proofs.YtmbnbjkdamalpaaGreat

namespace Go.Proofs.YtmbnbjkdamalpaaGreat
open Go Go.Sim
set_option linter.unusedSimpArgs false
set_option linter.unusedVariables false
set_option maxHeartbeats 10000000
set_option maxRecDepth 40000
structure RO where
  h : Nat
  L : List Message
  id : Int
  a : Nat
  i : Nat
def roS (l : List Int) (lo hi : Int) (n : Nat) (s : RO) : St := ⟨[(0, .ref 1000000 0 0), (3, .d (.int .i64 s.id)), (4, .d (.int .i64 lo)), (5, .d (.int .i64 hi)), (12, .ref 12 0 0), (13, .ref 13 0 0), (15, .d (.int .i64 s.i)), (1000000, .ref 1000000 1 0)], [(12, .row [.agg [.xsl [], .d (.int .i64 0), .d (.int .i64 0)]]), (13, .row [.d (eRing (rg n s.h s.L))]), (1000000, srcO l s.a)]⟩
def mOK (lo hi id0 : Int) (L : List Message) (id : Int) : Prop := (∀ m ∈ L, msgV m = 0 ∧ lo ≤ m.route ∧ m.route ≤ hi ∧ id0 ≤ m.id ∧ m.id < id ∧ m.count ≤ 3) ∧ (L.map (·.id)).Nodup
def roInv (lo hi id0 : Int) (n : Nat) (s : RO) : Prop := s.h < n ∧ s.L.length + s.i ≤ n ∧ s.L.length + s.i ≤ 6 ∧ id0 + s.L.length = s.id ∧ mOK lo hi id0 s.L s.id
theorem mOK_push {lo hi id0 id : Int} {L : List Message} {m : Message} (h : mOK lo hi id0 L id) (hg : msgGood m id lo hi) (hv : msgV m = 0) (h0 : id0 ≤ id) : mOK lo hi id0 (L ++ [m]) (id + 1) ∧ mOK lo hi id0 (m :: L) (id + 1) := by
  obtain ⟨h1, h2⟩ := h
  have hne : ∀ x ∈ L, x.id ≠ m.id := fun x hx => by have := h1 x hx; have := hg.1; omega
  have hm : msgV m = 0 ∧ lo ≤ m.route ∧ m.route ≤ hi ∧ id0 ≤ m.id ∧ m.id < id + 1 ∧ m.count ≤ 3 := ⟨hv, hg.2.1, hg.2.2.1, by have := hg.1; omega, by have := hg.1; omega, hg.2.2.2.2.2.2.1⟩
  have hall : ∀ x ∈ L, msgV x = 0 ∧ lo ≤ x.route ∧ x.route ≤ hi ∧ id0 ≤ x.id ∧ x.id < id + 1 ∧ x.count ≤ 3 := fun x hx => by
    obtain ⟨k1, k2, k3, k4, k5, k6⟩ := h1 x hx; exact ⟨k1, k2, k3, k4, by omega, k6⟩
  refine ⟨⟨fun x hx => ?_, ?_⟩, ⟨fun x hx => ?_, ?_⟩⟩
  · rcases List.mem_append.1 hx with hx | hx
    · exact hall x hx
    · rw [List.mem_singleton] at hx; subst hx; exact hm
  · rw [List.map_append, List.nodup_append]
    refine ⟨h2, by simp, fun a ha b hb => ?_⟩
    obtain ⟨x, hx, rfl⟩ := List.mem_map.1 ha
    simp at hb; subst hb
    exact hne x hx
  · rcases List.mem_cons.1 hx with rfl | hx
    · exact hm
    · exact hall x hx
  · rw [List.map_cons, List.nodup_cons]
    refine ⟨fun hc => ?_, h2⟩
    obtain ⟨x, hx, e⟩ := List.mem_map.1 hc
    exact hne x hx e
def roPhi (l : List Int) (lo hi id0 : Int) (n : Nat) (r : Option (AExit × St)) : Prop := ∃ h L a' id, h < n ∧ L.length ≤ n ∧ L.length ≤ 6 ∧ id ≤ id0 + 6 ∧ mOK lo hi id0 L id ∧ r = some (.exit 0, ⟨[(12, .ref 12 0 0), (13, .ref 13 0 0), (1000000, .ref 1000000 1 0)], [(12, .row [.agg [.xsl [], .d (.int .i64 0), .d (.int .i64 0)]]), (13, .row [.d (eRing (rg n h L))]), (1000000, srcO l a')]⟩)
theorem ro_loop (l : List Int) (lo hi id0 : Int) (n : Nat) (hL : l.length ≤ 4000) (h2 : 0 ≤ lo) (h3 : lo ≤ hi) (h4 : hi < 65536) (hid : 1 ≤ id0) (hid2 : id0 ≤ 900) (hn : 1 ≤ n) (hn2 : n ≤ 12) : ∀ s : RO, roInv lo hi id0 n s → roPhi l lo hi id0 n (loopL G [] l_base_Src_RingOf_0 (roS l lo hi n s)) := by
  refine loop_indP (fun s : RO => s.i) (roInv lo hi id0 n) (roS l lo hi n) (fun _ => Post (roPhi l lo hi id0 n)) fun ⟨h, L, id, a, i⟩ ⟨i1, i2, i3, i4, i5⟩ LL ih => ?_
  simp only at i1 i2 i3 i4 i5
  by_cases h0 : 0 < i
  · obtain ⟨c, a1, q1, c1, c2⟩ := ((⟨_, _, n_ok l a 2 hL (by omega) (by omega), nD_in l a (by omega)⟩ : ∃ y a', callL G N_base_Src_N [.ref 1000000 0 0, .d (.int .i64 2)] [(1000000, srcO l a)] = some (.d (.int .i64 y), [(1000000, srcO l a')]) ∧ 0 ≤ y ∧ y < 2))
    obtain ⟨m, a2, hg, hmc⟩ := message_ex l a1 id lo hi hL h2 h3 h4
    have hv := good_val hg (by omega) (by omega) h2 h4
    have hall : ∀ m ∈ L, msgV m = 0 := fun m hm => (i5.1 m hm).1
    have hne : ∀ x ∈ L, x.id ≠ m.id := fun x hx => by have := i5.1 x hx; have := hg.1; omega
    have p1 := pb_rg hn hn2 i1 (by omega) hall i5.2 hv hne
    have p2 := pf_rg hn hn2 i1 (by omega) hall i5.2 hv hne
    have hp := mOK_push i5 hg hv (by omega)
    have e : ((i - 1 : Nat) : Int) = (i : Int) - 1 := by omega
    have j1 := ih ⟨h, L ++ [m], id + 1, a2, i - 1⟩ ⟨i1, by simp only [List.length_append, List.length_singleton]; omega, by simp only [List.length_append, List.length_singleton]; omega, by simp only [List.length_append, List.length_singleton]; omega, hp.1⟩ (by simp only; omega)
    have j2 := ih ⟨(h + n - 1) % n, m :: L, id + 1, a2, i - 1⟩ ⟨Nat.mod_lt _ (by omega), by simp only [List.length_cons]; omega, by simp only [List.length_cons]; omega, by simp only [List.length_cons]; omega, hp.2⟩ (by simp only; omega)
    clear ih hp hv hall hne hg i5
    simp only [roS, e] at j1 j2
    simp only [roS, l_base_Src_RingOf_0]
    generalize rg n h (L ++ [m]) = r1 at *
    generalize rg n ((h + n - 1) % n) (m :: L) = r2 at *
    generalize rg n h L = r0 at *
    by_cases hc : c = 0
    · subst hc
      clear j2 p2
      simp only [eRing, eMessage] at p1 j1 hmc ⊢
      simp -implicitDefEqProofs (maxSteps := 4000000) (disch := omega) only [getDT, go_sem, *] /-A0-/
    · obtain rfl : c = 1 := by omega
      clear j1 p1
      simp only [eRing, eMessage] at p2 j2 hmc ⊢
      simp -implicitDefEqProofs (maxSteps := 4000000) (disch := omega) only [getDT, go_sem, *] /-A1-/
  · clear ih
    obtain rfl : i = 0 := by omega
    simp only [roS, l_base_Src_RingOf_0]
    generalize hr : rg n h L = r0
    simp only [eRing]
    simp -implicitDefEqProofs (maxSteps := 4000000) (disch := omega) only [getDT, go_sem, *] /-A2-/
    subst hr
    exact ⟨h, L, a, id, i1, by omega, by omega, by omega, i5, rfl⟩
theorem ringof_ex (l : List Int) (a : Nat) (n : Nat) (id lo hi : Int) (hL : l.length ≤ 4000) (h2 : 0 ≤ lo) (h3 : lo ≤ hi) (h4 : hi < 65536) (hid : 1 ≤ id) (hid2 : id ≤ 900) (hn : 1 ≤ n) (hn2 : n ≤ 12) : ∃ h L a' idn, h < n ∧ L.length ≤ n ∧ L.length ≤ 6 ∧ idn ≤ id + 6 ∧ mOK lo hi id L idn ∧
    callL G N_base_Src_RingOf [.ref 1000000 0 0, .d (.int .i64 n), .d (.int .i64 6), .d (.int .i64 id), .d (.int .i64 lo), .d (.int .i64 hi)] [(1000000, srcO l a)] = some (.d (eRing (rg n h L)), [(1000000, srcO l a')]) := by
  have hw := new4_ok n hn hn2
  have q1 := n_ok l a n hL (by omega) (by omega)
  have b1 := nD_in l a (n := n) (by omega)
  obtain ⟨h0, hh⟩ : ∃ h0 : Nat, nD l a n = h0 := ⟨(nD l a n).toNat, by omega⟩
  rw [hh] at q1 b1
  clear hh
  generalize (rawD l a).2 = a1 at *
  obtain ⟨k, hk, hk2⟩ : ∃ k : Nat, (n < 6 ∧ k = n + 1 ∨ ¬ n < 6 ∧ k = 7) ∧ 1 ≤ k := by
    by_cases hc : n < 6
    · exact ⟨n + 1, .inl ⟨hc, rfl⟩, by omega⟩
    · exact ⟨7, .inr ⟨hc, rfl⟩, by omega⟩
  have q2 := n_ok l a1 k hL (by omega) (by omega)
  have b2 := nD_in l a1 (n := k) (by omega)
  obtain ⟨i, hi0⟩ : ∃ i : Nat, nD l a1 k = i := ⟨(nD l a1 k).toNat, by omega⟩
  rw [hi0] at q2 b2
  clear hi0
  generalize (rawD l a1).2 = a2 at *
  obtain ⟨h, L, a', idn, g1, g2, g3, g4, g5, hl⟩ := ro_loop l lo hi id n hL h2 h3 h4 hid hid2 hn hn2 ⟨h0, [], id, a2, i⟩ ⟨by simp only; omega, by simp only [List.length_nil]; omega, by simp only [List.length_nil]; omega, by simp, by simp [mOK]⟩
  refine ⟨h, L, a', idn, g1, g2, g3, g4, g5, ?_⟩
  clear g5
  have ez : (List.replicate n zMessage).length = n := List.length_replicate
  have e0 : rg n h0 [] = ⟨List.replicate n zMessage, h0, 0⟩ := rfl
  simp only [roS, e0] at hl
  generalize hz : rg n h L = z at *
  clear hz e0
  generalize List.replicate n zMessage = c at *
  simp only [eRing] at hw hl ⊢
  rcases hk with ⟨hc, rfl⟩ | ⟨hc, rfl⟩
  · have hc2 : (n : Int) < 6 := by omega
    simp only [Int.natCast_add, Int.natCast_one, Int.natCast_zero, Int.natCast_mul, Int.cast_ofNat_Int, List.length_append, List.length_map, List.map_nil, List.length_nil, List.map_append, List.map_cons, List.length_cons, Nat.zero_add, srcO, mapSet] at q2
    rw [callL_code g_base_Src_RingOf (by simp)]; simp -implicitDefEqProofs (maxSteps := 4000000) (disch := omega) only [c_base_Src_RingOf, r_base_Src_RingOf, getDT, go_sem, *] /-A3-/
  · have hc2 : ¬ (n : Int) < 6 := by omega
    simp only [Int.natCast_add, Int.natCast_one, Int.natCast_zero, Int.natCast_mul, Int.cast_ofNat_Int, List.length_append, List.length_map, List.map_nil, List.length_nil, List.map_append, List.map_cons, List.length_cons, Nat.zero_add, srcO, mapSet] at q2
    rw [callL_code g_base_Src_RingOf (by simp)]; simp -implicitDefEqProofs (maxSteps := 4000000) (disch := omega) only [c_base_Src_RingOf, r_base_Src_RingOf, getDT, go_sem, *] /-A4-/
end Go.Proofs.YtmbnbjkdamalpaaGreat

namespace Go.Proofs.YtmbnbjkdamalpaaGreat
open Go Go.Sim
set_option linter.unusedSimpArgs false
set_option linter.unusedVariables false
set_option maxHeartbeats 10000000
set_option maxRecDepth 40000
def posL (l : List Lease) (id : Int) : Nat := (l.filter fun x => decide (x.msg.id < id)).length
theorem posL_le (l : List Lease) (id : Int) : posL l id ≤ l.length := List.length_filter_le _ _
theorem pos_lt {l : List Lease} (h : l.Pairwise fun x y => x.msg.id < y.msg.id) {id : Int} : ∀ {k : Nat} (hk : k < l.length), k < posL l id ↔ l[k].msg.id < id := by
  induction l with
  | nil => intro k hk; exact absurd hk (by simp)
  | cons x l ih =>
    intro k hk
    obtain ⟨h1, h2⟩ := List.pairwise_cons.1 h
    by_cases hx : x.msg.id < id
    · have e : posL (x :: l) id = posL l id + 1 := by simp [posL, hx]
      rw [e]
      cases k with
      | zero => simp [hx]
      | succ k => have := ih h2 (k := k) (by simpa using hk); simp only [List.getElem_cons_succ]; rw [← this]; omega
    · have e : posL (x :: l) id = 0 := by
        unfold posL
        rw [List.length_eq_zero_iff, List.filter_eq_nil_iff]
        intro y hy
        simp only [decide_eq_true_eq]
        rcases List.mem_cons.1 hy with rfl | hy
        · exact hx
        · have := h1 y hy; omega
      rw [e]
      have hle : id ≤ ((x :: l)[k]).msg.id := by
        cases k with
        | zero => simp only [List.getElem_cons_zero]; omega
        | succ k => simp only [List.getElem_cons_succ]; have := h1 _ (List.getElem_mem (l := l) (n := k) (by simpa using hk)); omega
      omega
theorem cmpI_lt (a b : Int) : (cmpI a b < 0) ↔ a < b := by unfold cmpI; split <;> (try split) <;> omega
theorem cmpI_eq (a b : Int) : (cmpI a b = 0) ↔ a = b := by unfold cmpI; split <;> (try split) <;> omega
theorem findL_pos {l : List Lease} (h : l.Pairwise fun x y => x.msg.id < y.msg.id) (id : Int) : (0 ≤ findL l id) ↔ ∃ hp : posL l id < l.length, l[posL l id].msg.id = id := by
  constructor
  · intro h0
    obtain ⟨k, hk, e1, e2⟩ := findL_some h0
    have a1 := pos_lt h (id := id) hk
    have hle : posL l id ≤ k := by omega
    have hpl : posL l id < l.length := by omega
    have a2 := pos_lt h (id := id) hpl
    refine ⟨hpl, ?_⟩
    have : ¬ posL l id < k := fun hlt => by
      have := List.pairwise_iff_getElem.1 h (posL l id) k hpl hk hlt
      omega
    have : posL l id = k := by omega
    simp only [this, e2]
  · rintro ⟨hp, e⟩
    have := findL_at h hp
    rw [e] at this; omega
theorem findL_posL {l : List Lease} (h : l.Pairwise fun x y => x.msg.id < y.msg.id) {id : Int} (h0 : 0 ≤ findL l id) : findL l id = posL l id := by
  obtain ⟨hp, e⟩ := (findL_pos h id).1 h0
  have := findL_at h hp
  rwa [e] at this
end Go.Proofs.YtmbnbjkdamalpaaGreat

namespace Go.Proofs.YtmbnbjkdamalpaaGreat
open Go Go.Sim
set_option linter.unusedSimpArgs false
set_option linter.unusedVariables false
set_option maxHeartbeats 10000000
set_option maxRecDepth 40000
theorem tabV_zero {t : Table} (h : tabV t = 0) : t.l.length ≤ 12 ∧ leasesE t.l = 0 ∧ validateD t.heap = 0 ∧ matchP t = true := by
  unfold tabV at h
  split at h
  · cases h
  split at h
  · omega
  split at h
  · omega
  split at h
  · rename_i h1 h2 h3 h4; exact ⟨by omega, by simpa using h2, by simpa using h3, h4⟩
  · cases h
theorem remove_len (h : List Due) (id : Int) (hL : h.length ≤ 4294967296) : (removeD h id).1.length ≤ 4294967296 := by
  unfold removeD
  split
  · simp
  · rename_i h0
    have o := (validate_iff h).1 (by simpa using h0)
    split
    · simp
    · rename_i h1
      have hlt := findD_lt h id
      have := (drop_ok' o (findD h id).toNat (by omega)).2.length_eq
      simp only [List.length_cons] at this
      have hh := o.len
      show (dropL h (findD h id).toNat).length ≤ _
      omega
def insLs (l : List Lease) (m : Message) (d : Int) : List Lease := l.take (posL l m.id) ++ [⟨m, d⟩] ++ l.drop (posL l m.id)
def grantE (t : Table) (m : Message) (d : Int) : Int :=
  if tabV t ≠ 0 then tabV t else if msgV m ≠ 0 then msgV m else if m.gen = 0 then 7 else if ¬ (0 ≤ d ∧ d ≤ 1073741824) then 1 else if t.l.length = 12 then 3 else if 0 ≤ findL t.l m.id then 10 else (pushD t.heap (d, m.id)).2
def grantD (t : Table) (m : Message) (d : Int) : Table × Int := if grantE t m d = 0 then (⟨insLs t.l m d, (pushD t.heap (d, m.id)).1⟩, 0) else (zTable, grantE t m d)
theorem insLs_map (l : List Lease) (m : Message) (d : Int) : (insLs l m d).map eLease = (l.map eLease).take (posL l m.id) ++ [eLease ⟨m, d⟩] ++ (l.map eLease).drop (posL l m.id) := by
  simp only [insLs, List.map_append, List.map_take, List.map_drop, List.map_cons, List.map_nil]
def findT (t : Table) (id : Int) : Lease × Bool := if tabV t = 0 ∧ 0 ≤ findL t.l id then (t.l.getD (findL t.l id).toNat zLease, true) else (zLease, false)
def dropI (l : List Lease) (i : Nat) : List Lease := l.take i ++ l.drop (i + 1)
def relE (t : Table) (id : Int) : Int := if tabV t ≠ 0 then tabV t else if ¬ 0 ≤ findL t.l id then 4 else (removeD t.heap id).2
def relD (t : Table) (id : Int) : Table × Message × Int := if relE t id = 0 then (⟨dropI t.l (findL t.l id).toNat, (removeD t.heap id).1⟩, (t.l.getD (findL t.l id).toNat zLease).msg, 0) else (zTable, zMessage, relE t id)
def extE (t : Table) (id d : Int) : Int := if tabV t ≠ 0 then tabV t else if ¬ 0 ≤ findL t.l id then 4 else if ¬ (0 ≤ d ∧ d ≤ 1073741824) then 1 else if (removeD t.heap id).2 ≠ 0 then (removeD t.heap id).2 else (pushD (removeD t.heap id).1 (d, id)).2
def setD (l : List Lease) (i : Nat) (d : Int) : List Lease := l.set i { l.getD i zLease with deadline := d }
def extD (t : Table) (id d : Int) : Table × Int := if extE t id d = 0 then (⟨setD t.l (findL t.l id).toNat d, (pushD (removeD t.heap id).1 (d, id)).1⟩, 0) else (zTable, extE t id d)
end Go.Proofs.YtmbnbjkdamalpaaGreat

namespace Go.Proofs.YtmbnbjkdamalpaaGreat
open Go Go.Sim
set_option linter.unusedSimpArgs false
set_option linter.unusedVariables false
set_option maxHeartbeats 10000000
set_option maxRecDepth 40000
theorem leasesE_iff (l : List Lease) : leasesE l = 0 ↔ (l.Pairwise fun x y => x.msg.id < y.msg.id) ∧ ∀ x ∈ l, msgV x.msg = 0 ∧ x.msg.gen ≠ 0 ∧ 0 ≤ x.deadline ∧ x.deadline ≤ 1073741824 := by
  have h0 : leasesE l = 0 ↔ ∀ i, i < l.length → leaseE l i = 0 := by
    rcases leasesE_cases l with ⟨k, h1, h2, h3⟩ | ⟨h1, h2⟩
    · constructor
      · intro h; omega
      · intro h
        have := List.mem_of_find?_eq_some h1
        exact absurd (h k (List.mem_range.1 this)) h2
    · refine ⟨fun _ i hi => ?_, fun _ => h2⟩
      have := List.find?_eq_none.1 h1 i (List.mem_range.2 hi)
      unfold leaseB at this
      simpa using this
  constructor
  · intro h
    refine ⟨leases_asc h, fun x hx => ?_⟩
    obtain ⟨i, hi, rfl⟩ := List.getElem_of_mem hx
    have := h0.1 h i hi
    unfold leaseE at this
    rw [getDT hi] at this
    split at this
    · omega
    split at this
    · omega
    split at this
    · omega
    rename_i q1 q2 q3
    exact ⟨by simpa using q1, q2, by omega, by omega⟩
  · rintro ⟨ha, hx⟩
    refine h0.2 fun i hi => ?_
    obtain ⟨p1, p2, p3, p4⟩ := hx _ (List.getElem_mem hi)
    unfold leaseE
    rw [getDT hi, if_neg (by simpa using p1), if_neg p2, if_neg (by omega), if_neg]
    rintro ⟨q1, q2⟩
    rw [getDT (show i - 1 < l.length by omega)] at q2
    have := List.pairwise_iff_getElem.1 ha (i - 1) i (by omega) hi (by omega)
    omega
theorem dueOf_nodup {l : List Lease} (h : l.Pairwise fun x y => x.msg.id < y.msg.id) : (l.map dueOf).Nodup := asc_nodup h
theorem tabV_iff (t : Table) : tabV t = 0 ↔ t.l.length ≤ 12 ∧ leasesE t.l = 0 ∧ Ok t.heap ∧ t.heap.Perm (t.l.map dueOf) := by
  constructor
  · intro h
    obtain ⟨h1, h2, h3, h4⟩ := tabV_zero h
    have o := (validate_iff _).1 h3
    have ha := leases_asc h2
    have hR : matchR t = true := by rw [← match_same h2 h3]; exact h4
    obtain ⟨e, q⟩ := (matchR_mem ha).1 hR
    obtain ⟨_, q2⟩ := matchP_mem.1 h4
    refine ⟨h1, h2, o, (List.perm_ext_iff_of_nodup ?_ (asc_nodup ha)).2 fun d => ⟨q d, q2 d⟩⟩
    exact List.Pairwise.of_map (fun d : Due => d.2) (fun a b hab e => hab (by rw [e])) o.ids
  · rintro ⟨h1, h2, o, hp⟩
    have h3 := (validate_iff _).2 o
    have h4 : matchP t = true := matchP_mem.2 ⟨by rw [hp.length_eq]; simp, fun d hd => hp.mem_iff.2 hd⟩
    unfold tabV
    rw [if_neg (by omega), if_neg (by simpa using h2), if_neg (by simpa using h3), if_pos h4]
theorem ids_of {t : Table} (h : t.heap.Perm (t.l.map dueOf)) (id : Int) : id ∈ t.heap.map (·.2) ↔ ∃ x ∈ t.l, x.msg.id = id := by
  constructor
  · intro hm
    obtain ⟨d, hd, e⟩ := List.mem_map.1 hm
    obtain ⟨x, hx, e2⟩ := List.mem_map.1 (h.mem_iff.1 hd)
    exact ⟨x, hx, by rw [← e, ← e2]; rfl⟩
  · rintro ⟨x, hx, e⟩
    exact List.mem_map.2 ⟨dueOf x, h.mem_iff.2 (List.mem_map.2 ⟨x, hx, rfl⟩), e⟩
theorem findL_iff {l : List Lease} (id : Int) : 0 ≤ findL l id ↔ ∃ x ∈ l, x.msg.id = id := by
  constructor
  · intro h
    obtain ⟨k, hk, _, e⟩ := findL_some h
    exact ⟨l[k], List.getElem_mem hk, e⟩
  · rintro ⟨x, hx, e⟩
    by_cases h : 0 ≤ findL l id
    · exact h
    · exact absurd e (findL_none (by omega) x hx)
theorem valid_due {m : Message} {d : Int} (hm : msgV m = 0) (h0 : 0 ≤ d) (h1 : d ≤ 1073741824) : validD (d, m.id) = true := by
  unfold msgV at hm
  split at hm
  · rename_i h
    unfold validD
    simp
    omega
  · cases hm
theorem push_succ {t : Table} {m : Message} {d : Int} (h : tabV t = 0) (hm : msgV m = 0) (h0 : 0 ≤ d) (h1 : d ≤ 1073741824) (hl : t.l.length ≠ 12) (hf : findL t.l m.id < 0) :
    pushD t.heap (d, m.id) = (pushL t.heap (d, m.id), 0) ∧ Ok (pushL t.heap (d, m.id)) ∧ (pushL t.heap (d, m.id)).Perm ((d, m.id) :: t.heap) := by
  obtain ⟨q1, q2, q3, q4⟩ := (tabV_iff t).1 h
  refine push_ok' q3 (valid_due hm h0 h1) (by have := q4.length_eq; simp at this; omega) fun hc => ?_
  have := (findL_iff m.id).2 ((ids_of q4 m.id).1 hc)
  omega
theorem insLs_perm (l : List Lease) (m : Message) (d : Int) : (insLs l m d).Perm (⟨m, d⟩ :: l) := by
  unfold insLs
  have := List.perm_middle (a := (⟨m, d⟩ : Lease)) (l₁ := l.take (posL l m.id)) (l₂ := l.drop (posL l m.id))
  rw [List.take_append_drop] at this
  rw [List.append_assoc]
  exact this
theorem insLs_asc {l : List Lease} (h : l.Pairwise fun x y => x.msg.id < y.msg.id) {m : Message} {d : Int} (hn : ∀ x ∈ l, x.msg.id ≠ m.id) : (insLs l m d).Pairwise fun x y => x.msg.id < y.msg.id := by
  unfold insLs
  have hlt : ∀ x ∈ l.take (posL l m.id), x.msg.id < m.id := fun x hx => by
    obtain ⟨k, hk, rfl⟩ := List.getElem_of_mem hx
    simp only [List.length_take] at hk
    rw [List.getElem_take]
    exact (pos_lt h (by omega)).1 (by omega)
  have hgt : ∀ x ∈ l.drop (posL l m.id), m.id < x.msg.id := fun x hx => by
    obtain ⟨k, hk, rfl⟩ := List.getElem_of_mem hx
    simp only [List.length_drop] at hk
    rw [List.getElem_drop]
    have h1 := pos_lt h (id := m.id) (k := posL l m.id + k) (by omega)
    have h2 := hn _ (List.getElem_mem (l := l) (n := posL l m.id + k) (by omega))
    omega
  rw [List.append_assoc, List.pairwise_append]
  refine ⟨h.sublist (List.take_sublist ..), ?_, fun a ha b hb => ?_⟩
  · rw [List.singleton_append, List.pairwise_cons]
    exact ⟨fun x hx => hgt x hx, h.sublist (List.drop_sublist ..)⟩
  · rw [List.singleton_append, List.mem_cons] at hb
    have h1 := hlt a ha
    rcases hb with rfl | hb
    · exact h1
    · have := hgt b hb; omega
theorem grant_valid {t : Table} {m : Message} {d : Int} (h : (grantD t m d).2 = 0) : tabV (grantD t m d).1 = 0 ∧ tabV t = 0 ∧ (grantD t m d).1.l = insLs t.l m d ∧ findL t.l m.id < 0 := by
  have hE : grantE t m d = 0 := by
    unfold grantD at h
    split at h
    · assumption
    · rename_i hc; exact absurd h hc
  unfold grantD
  rw [if_pos hE]
  unfold grantE at hE
  split at hE
  · omega
  split at hE
  · omega
  split at hE
  · cases hE
  split at hE
  · cases hE
  split at hE
  · cases hE
  split at hE
  · cases hE
  rename_i h1 h2 h3 h4 h5 h6
  have h1 : tabV t = 0 := by simpa using h1
  have h2 : msgV m = 0 := by simpa using h2
  obtain ⟨p1, p2, p3⟩ := push_succ h1 h2 (by omega) (by omega : d ≤ 1073741824) h5 (by omega)
  obtain ⟨q1, q2, q3, q4⟩ := (tabV_iff t).1 h1
  obtain ⟨r1, r2⟩ := (leasesE_iff _).1 q2
  have hn : ∀ x ∈ t.l, x.msg.id ≠ m.id := findL_none (by omega)
  refine ⟨(tabV_iff _).2 ⟨?_, (leasesE_iff _).2 ⟨insLs_asc r1 hn, fun x hx => ?_⟩, ?_, ?_⟩, h1, rfl, by omega⟩
  · have := (insLs_perm t.l m d).length_eq
    simp only [List.length_cons] at this
    show (insLs t.l m d).length ≤ 12
    omega
  · rcases List.mem_cons.1 ((insLs_perm t.l m d).mem_iff.1 hx) with rfl | hx
    · exact ⟨h2, h3, by simp only; omega, by simp only; omega⟩
    · exact r2 x hx
  · rw [p1]; exact p2
  · rw [p1]
    show (pushL t.heap (d, m.id)).Perm ((insLs t.l m d).map dueOf)
    exact p3.trans (((List.Perm.cons _ q4)).trans ((insLs_perm t.l m d).map dueOf).symm)
theorem grant_iff {t : Table} {m : Message} {d : Int} (h : tabV t = 0) (hm : msgV m = 0) (hg : m.gen ≠ 0) (h0 : 0 ≤ d) (h1 : d ≤ 1073741824) (hl : t.l.length ≠ 12) (hf : findL t.l m.id < 0) : (grantD t m d).2 = 0 := by
  have hp := (push_succ h hm h0 h1 hl hf).1
  have : grantE t m d = 0 := by
    unfold grantE
    rw [if_neg (by simpa using h), if_neg (by simpa using hm), if_neg hg, if_neg (by omega), if_neg hl, if_neg (by omega), hp]
  unfold grantD
  rw [if_pos this]
theorem dropI_eq (l : List Lease) (i : Nat) : dropI l i = l.eraseIdx i := by rw [dropI, List.eraseIdx_eq_take_drop_succ]
theorem dropI_perm {l : List Lease} {i : Nat} (hi : i < l.length) : (l[i] :: dropI l i).Perm l := by
  have h1 := List.perm_middle (a := l[i]) (l₁ := l.take i) (l₂ := l.drop (i + 1))
  rw [← List.drop_eq_getElem_cons hi, List.take_append_drop] at h1
  exact h1.symm
theorem dueOf_at {t : Table} (h : tabV t = 0) {k : Nat} (hk : k < t.l.length) {d : Due} (hd : d ∈ t.heap) (e : d.2 = t.l[k].msg.id) : d = dueOf t.l[k] := by
  obtain ⟨q1, q2, q3, q4⟩ := (tabV_iff t).1 h
  obtain ⟨x, hx, e2⟩ := List.mem_map.1 (q4.mem_iff.1 hd)
  obtain ⟨j, hj, rfl⟩ := List.getElem_of_mem hx
  have : j = k := asc_inj (leases_asc q2) hj hk (by rw [← e, ← e2]; rfl)
  subst this
  exact e2.symm
theorem rem_succ {t : Table} {id : Int} (h : tabV t = 0) (hf : 0 ≤ findL t.l id) : ∃ k, ∃ hk : k < t.l.length, findL t.l id = k ∧ t.l[k].msg.id = id ∧ (removeD t.heap id).2 = 0 ∧ Ok (removeD t.heap id).1 ∧ (dueOf t.l[k] :: (removeD t.heap id).1).Perm t.heap := by
  obtain ⟨q1, q2, q3, q4⟩ := (tabV_iff t).1 h
  obtain ⟨k, hk, e1, e2⟩ := findL_some hf
  refine ⟨k, hk, e1, e2, ?_⟩
  have hin : id ∈ t.heap.map (·.2) := (ids_of q4 id).2 ⟨_, List.getElem_mem hk, e2⟩
  have h0 : ¬ findD t.heap id < 0 := fun hc => (findD_neg _ _).1 hc hin
  have hlt := findD_lt t.heap id
  obtain ⟨d1, d2⟩ := drop_ok' q3 (findD t.heap id).toNat (by omega)
  have hat := findD_at t.heap id (by omega)
  have hr : removeD t.heap id = (dropL t.heap (findD t.heap id).toNat, 0) := by
    unfold removeD
    rw [if_neg (by simpa using (validate_iff _).2 q3), if_neg h0]
  rw [hr]
  refine ⟨rfl, d1, ?_⟩
  have : t.heap.getD (findD t.heap id).toNat dz = dueOf t.l[k] := by
    refine dueOf_at h hk ?_ (by rw [hat, e2])
    rw [getDT (show (findD t.heap id).toNat < t.heap.length by omega)]
    exact List.getElem_mem _
  rw [← this]
  exact d2
theorem rel_iff {t : Table} {id : Int} (h : tabV t = 0) : (relD t id).2.2 = 0 ↔ 0 ≤ findL t.l id := by
  constructor
  · intro h0
    by_cases hf : 0 ≤ findL t.l id
    · exact hf
    · have e : relE t id = 4 := by unfold relE; rw [if_neg (by simpa using h), if_pos hf]
      unfold relD at h0
      rw [e, if_neg (by decide)] at h0
      cases h0
  · intro hf
    obtain ⟨k, hk, e1, e2, e3, _⟩ := rem_succ h hf
    have e : relE t id = 0 := by unfold relE; rw [if_neg (by simpa using h), if_neg (by omega), e3]
    unfold relD
    rw [if_pos e]
theorem rel_valid {t : Table} {id : Int} (h : (relD t id).2.2 = 0) : tabV (relD t id).1 = 0 ∧ tabV t = 0 ∧ ∃ k, ∃ hk : k < t.l.length, findL t.l id = k ∧ t.l[k].msg.id = id ∧ (relD t id).1.l = dropI t.l k ∧ (relD t id).2.1 = t.l[k].msg := by
  have hE : relE t id = 0 := by
    unfold relD at h
    split at h
    · assumption
    · rename_i hc; exact absurd h hc
  have h1 : tabV t = 0 := by
    unfold relE at hE
    split at hE
    · omega
    · rename_i hc; simpa using hc
  have hf : 0 ≤ findL t.l id := (rel_iff h1).1 h
  obtain ⟨k, hk, e1, e2, e3, e4, e5⟩ := rem_succ h1 hf
  obtain ⟨q1, q2, q3, q4⟩ := (tabV_iff t).1 h1
  obtain ⟨r1, r2⟩ := (leasesE_iff _).1 q2
  have hd : relD t id = (⟨dropI t.l k, (removeD t.heap id).1⟩, t.l[k].msg, 0) := by
    unfold relD
    rw [if_pos hE, e1, Int.toNat_natCast, getDT hk]
  rw [hd]
  refine ⟨(tabV_iff _).2 ⟨?_, (leasesE_iff _).2 ⟨?_, fun x hx => ?_⟩, e4, ?_⟩, h1, k, hk, e1, e2, rfl, rfl⟩
  · have := (dropI_perm hk).length_eq
    simp only [List.length_cons] at this
    show (dropI t.l k).length ≤ 12
    omega
  · show (dropI t.l k).Pairwise _
    rw [dropI_eq]; exact r1.sublist (List.eraseIdx_sublist ..)
  · exact r2 x ((dropI_perm hk).mem_iff.1 (List.mem_cons_of_mem _ hx))
  · show (removeD t.heap id).1.Perm ((dropI t.l k).map dueOf)
    have h1 := e5.trans (q4.trans ((dropI_perm hk).map dueOf).symm)
    exact List.Perm.cons_inv h1
theorem setD_eq {l : List Lease} {k : Nat} (hk : k < l.length) (d : Int) : setD l k d = l.set k ⟨l[k].msg, d⟩ := by
  unfold setD
  rw [getDT hk]
theorem set_perm2 {l : List Due} {k : Nat} (hk : k < l.length) (b : Due) : (l[k] :: l.set k b).Perm (b :: l) := by
  have := set_perm' l k b hk
  rwa [getDT hk] at this
theorem ext_iff {t : Table} {id d : Int} (h : tabV t = 0) : (extD t id d).2 = 0 ↔ 0 ≤ findL t.l id ∧ 0 ≤ d ∧ d ≤ 1073741824 := by
  constructor
  · intro h0
    by_cases hf : 0 ≤ findL t.l id
    · by_cases hd : 0 ≤ d ∧ d ≤ 1073741824
      · exact ⟨hf, hd⟩
      · have e : extE t id d = 1 := by unfold extE; rw [if_neg (by simpa using h), if_neg (by simpa using hf), if_pos hd]
        unfold extD at h0
        rw [e, if_neg (by decide)] at h0
        cases h0
    · have e : extE t id d = 4 := by unfold extE; rw [if_neg (by simpa using h), if_pos hf]
      unfold extD at h0
      rw [e, if_neg (by decide)] at h0
      cases h0
  · rintro ⟨hf, h0, h1⟩
    obtain ⟨k, hk, e1, e2, e3, e4, e5⟩ := rem_succ h hf
    obtain ⟨q1, q2, q3, q4⟩ := (tabV_iff t).1 h
    obtain ⟨r1, r2⟩ := (leasesE_iff _).1 q2
    have hlen := e5.length_eq
    simp only [List.length_cons] at hlen
    have hnod := (List.Perm.nodup_iff (e5.map (·.2))).2 q3.ids
    simp only [List.map_cons, List.nodup_cons] at hnod
    have hp := push_ok' e4 (d := (d, id)) (by have := valid_due (r2 _ (List.getElem_mem hk)).1 h0 h1; rwa [e2] at this) (by have := q4.length_eq; simp at this; omega) (by simpa [dueOf, e2] using hnod.1)
    have e : extE t id d = 0 := by unfold extE; rw [if_neg (by simpa using h), if_neg (by omega), if_neg (by omega), if_neg (by simpa using e3), hp.1]
    unfold extD
    rw [if_pos e]
theorem ext_valid {t : Table} {id d : Int} (h : (extD t id d).2 = 0) : tabV (extD t id d).1 = 0 ∧ tabV t = 0 ∧ ∃ k, ∃ hk : k < t.l.length, findL t.l id = k ∧ t.l[k].msg.id = id ∧ (extD t id d).1.l = t.l.set k ⟨t.l[k].msg, d⟩ := by
  have hE : extE t id d = 0 := by
    unfold extD at h
    split at h
    · assumption
    · rename_i hc; exact absurd h hc
  have h1 : tabV t = 0 := by
    unfold extE at hE
    split at hE
    · omega
    · rename_i hc; simpa using hc
  obtain ⟨hf, h0, h2⟩ := (ext_iff h1).1 h
  obtain ⟨k, hk, e1, e2, e3, e4, e5⟩ := rem_succ h1 hf
  obtain ⟨q1, q2, q3, q4⟩ := (tabV_iff t).1 h1
  obtain ⟨r1, r2⟩ := (leasesE_iff _).1 q2
  have hlen := e5.length_eq
  simp only [List.length_cons] at hlen
  have hnod := (List.Perm.nodup_iff (e5.map (·.2))).2 q3.ids
  simp only [List.map_cons, List.nodup_cons] at hnod
  have hp := push_ok' e4 (d := (d, id)) (by have := valid_due (r2 _ (List.getElem_mem hk)).1 h0 h2; rwa [e2] at this) (by have := q4.length_eq; simp at this; omega) (by simpa [dueOf, e2] using hnod.1)
  have hd : extD t id d = (⟨t.l.set k ⟨t.l[k].msg, d⟩, pushL (removeD t.heap id).1 (d, id)⟩, 0) := by
    unfold extD
    rw [if_pos hE, e1, Int.toNat_natCast, setD_eq hk, hp.1]
  rw [hd]
  refine ⟨(tabV_iff _).2 ⟨by simpa using q1, (leasesE_iff _).2 ⟨?_, fun x hx => ?_⟩, hp.2.1, ?_⟩, h1, k, hk, e1, e2, rfl⟩
  · show (t.l.set k ⟨t.l[k].msg, d⟩).Pairwise _
    have hm : (t.l.set k ⟨t.l[k].msg, d⟩).map (fun x => x.msg.id) = t.l.map fun x => x.msg.id := by
      rw [List.map_set]
      have : (t.l[k].msg.id) = (t.l.map fun x => x.msg.id)[k]'(by simpa using hk) := by simp
      rw [this, List.set_getElem_self]
    have := List.pairwise_map (f := fun x : Lease => x.msg.id) (R := fun a b => a < b) (l := t.l.set k ⟨t.l[k].msg, d⟩)
    rw [hm] at this
    exact this.1 (List.pairwise_map.2 r1)
  · rcases List.mem_or_eq_of_mem_set hx with hx | rfl
    · exact r2 x hx
    · obtain ⟨a1, a2, _, _⟩ := r2 _ (List.getElem_mem hk)
      exact ⟨a1, a2, h0, h2⟩
  · show (pushL (removeD t.heap id).1 (d, id)).Perm ((t.l.set k ⟨t.l[k].msg, d⟩).map dueOf)
    refine hp.2.2.trans ?_
    rw [List.map_set]
    have h3 := set_perm2 (l := t.l.map dueOf) (k := k) (by simpa using hk) (dueOf ⟨t.l[k].msg, d⟩)
    rw [List.getElem_map] at h3
    have h4 : (dueOf t.l[k] :: (d, id) :: (removeD t.heap id).1).Perm (dueOf t.l[k] :: (t.l.map dueOf).set k (dueOf ⟨t.l[k].msg, d⟩)) := by
      refine (List.Perm.swap ..).trans ?_
      refine (List.Perm.cons _ (e5.trans q4)).trans ?_
      have : ((d, id) : Due) = dueOf ⟨t.l[k].msg, d⟩ := by simp [dueOf, e2]
      rw [this]
      exact h3.symm
    exact List.Perm.cons_inv h4
end Go.Proofs.YtmbnbjkdamalpaaGreat

namespace Go.Proofs.YtmbnbjkdamalpaaGreat
open Go Go.Sim
set_option linter.unusedSimpArgs false
set_option linter.unusedVariables false
set_option maxHeartbeats 10000000
set_option maxRecDepth 40000
def gS (t : Table) (m : Message) (d : Int) (k : Nat) : St := ⟨[(2, .d (.int .i64 d)), (3, .ref 3 0 0), (4, .ref 4 0 0), (6, .ref 6 0 0), (10, .d (.int .i64 k))], [(3, .row [.d (eTable t)]), (4, .row [.d (eMessage m)]), (6, .row [.agg [.xsl [], .xsl []]])]⟩
theorem r06g_loop (t : Table) (m : Message) (d : Int) (hL : t.l.length ≤ 1000) (h : t.l.Pairwise fun x y => x.msg.id < y.msg.id) : ∀ k : Nat, k ≤ posL t.l m.id → loopL G [] l_ref06_Grant_0 (gS t m d k) = some (.exit 1, gS t m d (posL t.l m.id)) := by
  refine loop_ind (fun k => posL t.l m.id - k) (fun k => k ≤ posL t.l m.id) (gS t m d) _ fun k hk L ih => ?_
  have hpl := posL_le t.l m.id
  simp only [gS, eTable, eMessage] at ih ⊢
  simp only [l_ref06_Grant_0]
  by_cases h0 : k < t.l.length
  · have hp := pos_lt h (id := m.id) h0
    by_cases h1 : t.l[k].msg.id < m.id
    · have i1 := ih (k + 1) (by omega) (by omega)
      clear ih
      simp only [Int.natCast_add, Int.natCast_one, Int.natCast_zero, Int.natCast_mul, Int.cast_ofNat_Int, List.length_append, List.length_map, List.map_nil, List.length_nil, List.map_append, List.map_cons, List.length_cons, Nat.zero_add, srcO, mapSet] at i1
      simp -implicitDefEqProofs (maxSteps := 4000000) (disch := omega) only [eLease, getDT, go_sem, *] /-A0-/
    · have : k = posL t.l m.id := by omega
      subst this
      clear ih hp
      simp -implicitDefEqProofs (maxSteps := 4000000) (disch := omega) only [eLease, getDT, go_sem, *] /-A1-/
  · have : k = posL t.l m.id := by omega
    subst this
    clear ih
    simp -implicitDefEqProofs (maxSteps := 4000000) (disch := omega) only [eLease, getDT, go_sem, *] /-A2-/
theorem r06grant_ok (t : Table) (m : Message) (d : Int) (hL : t.l.length ≤ 4294967296) (hH : t.heap.length ≤ 4294967296) : callL G N_ref06_Grant [.d (eTable t), .d (eMessage m), .d (.int .i64 d)] [] = some (.d (.tup [eTable (grantD t m d).1, .int .i64 (grantD t m d).2]), []) := by
  have hv := r06val_ok t hL hH
  rw [tab_same] at hv
  have hm := r03val_ok m
  have hf := r06find_ok t m.id hL
  have hp := refPush_ok t.heap (d, m.id) hH
  simp only [eTable, eMessage, eD, eDE] at hv hm hf hp
  by_cases h1 : tabV t = 0
  · obtain ⟨h12, hE, hD, hM⟩ := tabV_zero h1
    have ha := leases_asc hE
    have hl := r06g_loop t m d (by omega) ha 0 (by omega)
    simp only [gS, eTable, eMessage] at hl
    simp only [Int.natCast_add, Int.natCast_one, Int.natCast_zero, Int.natCast_mul, Int.cast_ofNat_Int, List.length_append, List.length_map, List.map_nil, List.length_nil, List.map_append, List.map_cons, List.length_cons, Nat.zero_add, srcO, mapSet] at hl
    have hpl := posL_le t.l m.id
    by_cases h2 : msgV m = 0
    · by_cases h3 : m.gen = 0
      · have e : grantD t m d = (zTable, 7) := by simp [grantD, grantE, h1, h2, h3]
        rw [e]
        simp only [eTable, eMessage, zTable]
        rw [h1] at hv
        rw [h2] at hm
        simp only [h3] at hm ⊢
        clear hl
        rw [callL_code g_ref06_Grant (by simp)]; simp -implicitDefEqProofs (maxSteps := 4000000) (disch := omega) only [c_ref06_Grant, r_ref06_Grant, getDT, go_sem, *] /-A3-/
      · by_cases h4 : 0 ≤ d ∧ d ≤ 1073741824
        · by_cases h5 : t.l.length = 12
          · have e : grantD t m d = (zTable, 3) := by simp [grantD, grantE, h1, h2, h3, h4, h5]
            rw [e]
            simp only [eTable, eMessage, zTable]
            clear hl
            rw [callL_code g_ref06_Grant (by simp)]; simp -implicitDefEqProofs (maxSteps := 4000000) (disch := omega) only [c_ref06_Grant, r_ref06_Grant, getDT, go_sem, *] /-A4-/
          · by_cases h6 : 0 ≤ findL t.l m.id
            · have e : grantD t m d = (zTable, 10) := by simp [grantD, grantE, h1, h2, h3, h4, h5, h6]
              rw [e]
              simp only [eTable, eMessage, zTable]
              clear hl
              rw [callL_code g_ref06_Grant (by simp)]; simp -implicitDefEqProofs (maxSteps := 4000000) (disch := omega) only [c_ref06_Grant, r_ref06_Grant, getDT, go_sem, *] /-A5-/
            · have hps := (push_succ h1 h2 h4.1 h4.2 h5 (by omega)).1
              have e : grantD t m d = (⟨insLs t.l m d, (pushD t.heap (d, m.id)).1⟩, 0) := by simp [grantD, grantE, h1, h2, h3, h4, h5, h6, hps]
              rw [e]
              simp only [hps] at hp
              simp only [hps, eTable, eMessage, insLs, List.map_append, List.map_cons, List.map_nil]
              have hz1 := allSize_Lease (t.l.take (posL t.l m.id))
              have hz2 := allSize_Lease (t.l.drop (posL t.l m.id))
              clear hps e
              rw [callL_code g_ref06_Grant (by simp)]; simp -implicitDefEqProofs (maxSteps := 4000000) (disch := omega) only [c_ref06_Grant, r_ref06_Grant, eLease, getDT, go_sem, *] /-A6-/
        · have e : grantD t m d = (zTable, 1) := by simp [grantD, grantE, h1, h2, h3, h4]
          rw [e]
          simp only [eTable, eMessage, zTable]
          clear hl
          by_cases h5 : d < 0
          · rw [callL_code g_ref06_Grant (by simp)]; simp -implicitDefEqProofs (maxSteps := 4000000) (disch := omega) only [c_ref06_Grant, r_ref06_Grant, getDT, go_sem, *] /-A7-/
          · have h6 : 1073741824 < d := by omega
            rw [callL_code g_ref06_Grant (by simp)]; simp -implicitDefEqProofs (maxSteps := 4000000) (disch := omega) only [c_ref06_Grant, r_ref06_Grant, getDT, go_sem, *] /-A8-/
    · have e : grantD t m d = (zTable, msgV m) := by simp [grantD, grantE, h1, h2]
      rw [e]
      simp only [eTable, eMessage, zTable]
      clear hl
      rw [callL_code g_ref06_Grant (by simp)]; simp -implicitDefEqProofs (maxSteps := 4000000) (disch := omega) only [c_ref06_Grant, r_ref06_Grant, getDT, go_sem, *] /-A9-/
  · have e : grantD t m d = (zTable, tabV t) := by simp [grantD, grantE, h1]
    rw [e]
    simp only [eTable, eMessage, zTable]
    rw [callL_code g_ref06_Grant (by simp)]; simp -implicitDefEqProofs (maxSteps := 4000000) (disch := omega) only [c_ref06_Grant, r_ref06_Grant, getDT, go_sem, *] /-A10-/
end Go.Proofs.YtmbnbjkdamalpaaGreat
