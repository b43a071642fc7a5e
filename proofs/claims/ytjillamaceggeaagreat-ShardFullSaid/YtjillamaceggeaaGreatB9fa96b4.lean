/-
  Full shards: the law.
-/
import Derived.Test.YtjillamaceggeaaGreatB13418d3
import Derived.Test.YtjillamaceggeaaGreatB4858270
import Derived.Test.YtjillamaceggeaaGreatB5596da9
set_option linter.unusedSimpArgs false
set_option linter.unusedVariables false
namespace Go.Proofs.YtjillamaceggeaaGreat
open Go Go.Sim
set_option linter.unusedSimpArgs false
set_option linter.unusedVariables false
set_option maxHeartbeats 10000000
set_option maxRecDepth 40000
def mi (i : Int) : Message := ⟨i, 0, 0, 0, 0, 0, []⟩
def ms (k : Nat) : List Message := (List.range k).map fun (j : Nat) => mi ((j : Int) + 1)
def sF (c k : Nat) : Shard := ⟨true, 0, 65535, rg c 0 (ms k), zTable⟩
theorem ms_len (k : Nat) : (ms k).length = k := by simp [ms]
theorem ms_succ (k : Nat) : ms (k + 1) = ms k ++ [mi ((k : Int) + 1)] := by simp [ms, List.range_succ]
theorem mi_val {i : Int} (h : 1 ≤ i) (h2 : i ≤ 1000) : msgV (mi i) = 0 := by
  unfold msgV mi
  rw [if_pos (by simp only; omega)]
  rfl
theorem ms_val {k : Nat} (hk : k ≤ 100) : ∀ m ∈ ms k, msgV m = 0 := by
  intro m hm
  obtain ⟨j, hj, rfl⟩ := List.mem_map.1 hm
  have := List.mem_range.1 hj
  exact mi_val (by omega) (by omega)
theorem ms_nodup (k : Nat) : ((ms k).map (·.id)).Nodup := by
  have : (ms k).map (·.id) = (List.range k).map fun j : Nat => (j : Int) + 1 := by simp [ms, mi]
  rw [this, List.Nodup, List.pairwise_map]
  exact List.nodup_range.imp fun {a b} h => by omega
theorem ms_new {k : Nat} {i : Int} (h : (k : Int) < i) : ∀ x ∈ ms k, x.id ≠ i := by
  intro m hm
  obtain ⟨j, hj, rfl⟩ := List.mem_map.1 hm
  have := List.mem_range.1 hj
  simp only [mi]; omega
theorem sF_ring {c k : Nat} (h1 : 1 ≤ c) (h2 : c ≤ 12) (hk : k ≤ c) : ringV (rg c 0 (ms k)) = 0 :=
  ringV_rg h1 h2 (by omega) (by rw [ms_len]; exact hk) (ms_val (by omega)) (ms_nodup k)
theorem sF_ord {c k : Nat} (h1 : 1 ≤ c) (hk : k ≤ c) : ordD (rg c 0 (ms k)) = ms k := by
  rw [rg, ordD_eq]; exact ordN_rg h1 (by rw [ms_len]; exact hk)
theorem sF_msgs {c k : Nat} (h1 : 1 ≤ c) (hk : k ≤ c) : shMsgs (sF c k) = ms k := by
  unfold shMsgs sF
  rw [sF_ord h1 hk]; simp [zTable]
theorem sF_val {c k : Nat} (h1 : 1 ≤ c) (h2 : c ≤ 12) (hk : k ≤ c) : shardV (sF c k) = 0 := by
  have hr : ringV (sF c k).ready = 0 := sF_ring h1 h2 hk
  have ht : tabV (sF c k).leases = 0 := by show tabV zTable = 0; decide
  rw [shardV_rest hr ht, sF_msgs h1 hk]
  rw [if_neg (by simp [sF]), if_neg (by simp [sF]), if_neg, if_neg, if_neg]
  · unfold dupI; simpa using ms_nodup k
  · unfold movE
    simp only [Bool.not_eq_true, List.any_eq_false, decide_eq_true_eq, Classical.not_not]
    intro m hm
    obtain ⟨j, _, rfl⟩ := List.mem_map.1 hm
    simp [sF, mi]
  · simp only [sF, rg, wN_len, ms_len, zTable, List.length_nil]; omega
theorem sF_live {c k : Nat} (h1 : 1 ≤ c) (h2 : c ≤ 12) (hk : k ≤ c) : liveV (sF c k) = 0 := by
  unfold liveV
  rw [if_neg (fun h => h (sF_val h1 h2 hk))]; rfl
theorem sF_cells (c k : Nat) : (sF c k).ready.cells.length = c := wN_len _ _ _ _
theorem put1 {c k : Nat} (h1 : 1 ≤ c) (h2 : c ≤ 12) (hk : k < c) : callL G N_shard_Put [.d (eShard (sF c k)), .d (eMessage (mi ((k : Int) + 1)))] [] = some (.d (.tup [eShard (sF c (k + 1)), .int .i64 0]), []) := by
  have hr := sF_ring h1 h2 (Nat.le_of_lt hk)
  have hp : pushR (rg c 0 (ms k)) (mi ((k : Int) + 1)) = 0 := pushR_rg h1 h2 (by omega) (by rw [ms_len]; exact hk) (ms_val (by omega)) (ms_nodup k) (mi_val (by omega) (by omega)) (fun x hx => ms_new (k := k) (i := (k : Int) + 1) (by omega) x hx)
  have hb : (pbD (rg c 0 (ms k)) (mi ((k : Int) + 1))).1 = rg c 0 (ms (k + 1)) := by
    unfold pbD
    rw [if_pos hp, sF_ord h1 (Nat.le_of_lt hk), ms_succ]
    show rg (wN c 0 (ms k) (ms k).length).length _ _ = _
    rw [wN_len]; rfl
  have hput := put_new 0 65535 (rg c 0 (ms k)) (mi ((k : Int) + 1)) (mi_val (by omega) (by omega)) (by simp [mi]) hr (by simp only [rg, wN_len, ms_len]; omega) (by
    have := sF_msgs h1 (Nat.le_of_lt hk)
    unfold sF at this
    rw [this, List.any_eq_false]
    intro x hx
    exact fun hc => ms_new (k := k) (i := (k : Int) + 1) (by omega) x hx (of_decide_eq_true hc)) hp
  rw [hb] at hput
  exact sput_ok (sF c k) (sF c (k + 1)) _ 0 (by rw [sF_cells]; omega) (by simp [sF, zTable]) (by simp [sF, zTable]) (sF_live h1 h2 (Nat.le_of_lt hk)) hput
theorem put2 {c : Nat} (h1 : 1 ≤ c) (h2 : c ≤ 12) {i : Int} (hi : 1 ≤ i) (hi2 : i ≤ 1000) : callL G N_shard_Put [.d (eShard (sF c c)), .d (eMessage (mi i))] [] = some (.d (.tup [eShard zShard, .int .i64 3]), []) := by
  have hput := put_full 0 65535 0 (ms c).length (wN c 0 (ms c) (ms c).length) (mi i) (mi_val hi hi2) (by simp [mi]) (by omega) (by rw [wN_len]; exact h2) (by rw [wN_len, ms_len])
  exact sput_ok (sF c c) zShard _ 3 (by rw [sF_cells]; omega) (by simp [sF, zTable]) (by simp [sF, zTable]) (sF_live h1 h2 (Nat.le_refl c)) hput
theorem stored_sF {c k : Nat} (h1 : 1 ≤ c) (h2 : c ≤ 12) (hk : k ≤ c) : callL G N_shard_Stored [.d (eShard (sF c k))] [] = some (.d (.int .i64 k), []) := by
  have h := sstored_ok (sF c k) (sF_val h1 h2 hk) (by rw [sF_cells]; exact h2) (by simp [sF, zTable]) (by simp [sF, zTable]) (by simp [sF, rg]) (by simp only [sF, rg, ms_len]; omega)
  simpa [sF, rg, ms_len, zTable] using h
def fuS (c n k i : Nat) : St := ⟨[(0, .d (.int .i64 c)), (1, .d (.int .i64 n)), (5, .ref 5 0 0), (7, .d (.int .i64 i))], [(5, .row [.d (eShard (sF c k))])]⟩
theorem fu_loop (c n : Nat) (h1 : 1 ≤ c) (h2 : c ≤ 12) (hn : n ≤ 31) : ∀ i, i ≤ n → loopL G [] l_law07_ShardFull_0 (fuS c n (if i ≤ c then i else c) (i + 1)) = some (.exit 0, ⟨[(0, .d (.int .i64 c)), (1, .d (.int .i64 n)), (5, .ref 5 0 0)], [(5, .row [.d (eShard (sF c (if n ≤ c then n else c)))])]⟩) := by
  refine loop_ind (fun i => n - i) (fun i => i ≤ n) (fun i => fuS c n (if i ≤ c then i else c) (i + 1)) _ fun i hi L ih => ?_
  by_cases h0 : i < n
  · have i1 := ih (i + 1) (by omega) (by omega)
    clear ih
    by_cases hc : i < c
    · rw [if_pos (show i + 1 ≤ c by omega)] at i1
      rw [if_pos (show i ≤ c by omega)]
      have hp := put1 h1 h2 hc
      simp only [fuS] at i1 ⊢
      generalize sF c (if n ≤ c then n else c) = z at *
      generalize sF c (i + 1) = s2 at *
      generalize sF c i = s1 at *
      simp only [mi, eMessage, eShard, l_law07_ShardFull_0] at *
      simp only [Int.natCast_add, Int.natCast_one, Int.natCast_zero, Int.natCast_mul, Int.cast_ofNat_Int, List.length_append, List.length_map, List.map_nil, List.length_nil, List.map_append, List.map_cons, List.length_cons, Nat.zero_add, srcO, mapSet] at i1
      (try simp -implicitDefEqProofs (maxSteps := 4000000) (disch := omega) only [getDT, go_sem, *]); (try simp only [pA, pB, pC, pD, pE, pF, pG, pH, pI, pJ, pK, pL, pM, pN, pO, pP, if_true, if_false]); repeat' (first | done | rfl | ((first | refine iteC (fun hq => ?_) (fun hq => ?_) | refine iteP (fun hq => ?_) (fun hq => ?_)) <;> (try (first | (exfalso; omega) | contradiction)) <;> (try simp -implicitDefEqProofs (maxSteps := 4000000) (disch := omega) only [getDT, go_sem, *]) <;> (try simp only [pA, pB, pC, pD, pE, pF, pG, pH, pI, pJ, pK, pL, pM, pN, pO, pP, if_true, if_false]))); (all_goals try rfl); (all_goals try (repeat' (first | done | rfl | (exfalso; omega) | contradiction | (refine iteR (fun hq => ?_) (fun hq => ?_)))))
    · rw [if_neg (show ¬ i + 1 ≤ c by omega)] at i1
      have e : (if i ≤ c then i else c) = c := by split <;> omega
      rw [e]
      have hp := put2 h1 h2 (i := (i : Int) + 1) (by omega) (by omega)
      have hs := stored_sF h1 h2 (Nat.le_refl c)
      simp only [fuS] at i1 ⊢
      generalize sF c (if n ≤ c then n else c) = z at *
      generalize sF c c = s1 at *
      simp only [mi, eMessage, eShard, zShard, l_law07_ShardFull_0] at *
      simp only [Int.natCast_add, Int.natCast_one, Int.natCast_zero, Int.natCast_mul, Int.cast_ofNat_Int, List.length_append, List.length_map, List.map_nil, List.length_nil, List.map_append, List.map_cons, List.length_cons, Nat.zero_add, srcO, mapSet] at i1
      (try simp -implicitDefEqProofs (maxSteps := 4000000) (disch := omega) only [getDT, go_sem, *]); (try simp only [pA, pB, pC, pD, pE, pF, pG, pH, pI, pJ, pK, pL, pM, pN, pO, pP, if_true, if_false]); repeat' (first | done | rfl | ((first | refine iteC (fun hq => ?_) (fun hq => ?_) | refine iteP (fun hq => ?_) (fun hq => ?_)) <;> (try (first | (exfalso; omega) | contradiction)) <;> (try simp -implicitDefEqProofs (maxSteps := 4000000) (disch := omega) only [getDT, go_sem, *]) <;> (try simp only [pA, pB, pC, pD, pE, pF, pG, pH, pI, pJ, pK, pL, pM, pN, pO, pP, if_true, if_false]))); (all_goals try rfl); (all_goals try (repeat' (first | done | rfl | (exfalso; omega) | contradiction | (refine iteR (fun hq => ?_) (fun hq => ?_)))))
  · clear ih
    obtain rfl : i = n := by omega
    simp only [fuS]
    generalize sF c (if i ≤ c then i else c) = z at *
    simp only [eShard, l_law07_ShardFull_0]
    (try simp -implicitDefEqProofs (maxSteps := 4000000) (disch := omega) only [getDT, go_sem, *]); (try simp only [pA, pB, pC, pD, pE, pF, pG, pH, pI, pJ, pK, pL, pM, pN, pO, pP, if_true, if_false]); repeat' (first | done | rfl | ((first | refine iteC (fun hq => ?_) (fun hq => ?_) | refine iteP (fun hq => ?_) (fun hq => ?_)) <;> (try (first | (exfalso; omega) | contradiction)) <;> (try simp -implicitDefEqProofs (maxSteps := 4000000) (disch := omega) only [getDT, go_sem, *]) <;> (try simp only [pA, pB, pC, pD, pE, pF, pG, pH, pI, pJ, pK, pL, pM, pN, pO, pP, if_true, if_false]))); (all_goals try rfl); (all_goals try (repeat' (first | done | rfl | (exfalso; omega) | contradiction | (refine iteR (fun hq => ?_) (fun hq => ?_)))))
theorem full_ok (a b : Int) : callL G N_law07_ShardFull [.d (.int .i64 a), .d (.int .i64 b)] [] = some (.d (.bool true), []) := by
  have hw := cl awake_c
  have ha := and_in a 65535 (by omega) (by omega)
  have hb := and_in b 31 (by omega) (by omega)
  obtain ⟨c, hc, c1, c2⟩ : ∃ c : Nat, 1 + (andI .i64 a 65535).tmod 12 = c ∧ 1 ≤ c ∧ c ≤ 12 := by
    rw [Int.tmod_eq_emod_of_nonneg (by omega)]
    exact ⟨(1 + andI .i64 a 65535 % 12).toNat, by omega, by omega, by omega⟩
  obtain ⟨n, hn⟩ : ∃ n : Nat, andI .i64 b 31 = n := ⟨(andI .i64 b 31).toNat, by omega⟩
  have hn2 : n ≤ 31 := by omega
  have hnew := snew_ok c c1 c2
  have hl := fu_loop c n c1 c2 hn2 0 (by omega)
  have hst := stored_sF c1 c2 (k := if n ≤ c then n else c) (by split <;> omega)
  have e0 : sF c 0 = ⟨true, 0, 65535, ⟨List.replicate c zMessage, 0, 0⟩, zTable⟩ := by simp [sF, rg, ms, wN]
  have ht : 0 ≤ (andI .i64 a 65535).tmod 12 ∧ (andI .i64 a 65535).tmod 12 ≤ 11 := by omega
  rw [← e0] at hnew
  rw [if_pos (by omega)] at hl
  clear e0 ha hb
  obtain ⟨k, hk, hk2⟩ : ∃ k : Nat, (if n ≤ c then n else c) = k ∧ (n ≤ c ∧ k = n ∨ c < n ∧ k = c) := ⟨_, rfl, by split <;> omega⟩
  rw [hk] at hl hst
  clear hk
  simp only [fuS] at hl
  generalize sF c k = z at *
  generalize sF c 0 = s0 at *
  simp only [eShard] at *
  simp only [Int.natCast_add, Int.natCast_one, Int.natCast_zero, Int.natCast_mul, Int.cast_ofNat_Int, List.length_append, List.length_map, List.map_nil, List.length_nil, List.map_append, List.map_cons, List.length_cons, Nat.zero_add, srcO, mapSet] at hl
  rcases hk2 with ⟨q1, rfl⟩ | ⟨q1, rfl⟩
  · rcases Nat.lt_or_eq_of_le q1 with q2 | rfl
    · rw [callL_code g_law07_ShardFull (by simp)]; simp -implicitDefEqProofs (maxSteps := 4000000) (disch := omega) only [c_law07_ShardFull, r_law07_ShardFull, getDT, go_sem, *]; (try simp only [pA, pB, pC, pD, pE, pF, pG, pH, pI, pJ, pK, pL, pM, pN, pO, pP, if_true, if_false]); repeat' (first | done | rfl | ((first | refine iteC (fun hq => ?_) (fun hq => ?_) | refine iteP (fun hq => ?_) (fun hq => ?_)) <;> (try (first | (exfalso; omega) | contradiction)) <;> (try simp -implicitDefEqProofs (maxSteps := 4000000) (disch := omega) only [getDT, go_sem, *]) <;> (try simp only [pA, pB, pC, pD, pE, pF, pG, pH, pI, pJ, pK, pL, pM, pN, pO, pP, if_true, if_false]))); (all_goals try rfl); (all_goals try (repeat' (first | done | rfl | (exfalso; omega) | contradiction | (refine iteR (fun hq => ?_) (fun hq => ?_)))))
    · rw [callL_code g_law07_ShardFull (by simp)]; simp -implicitDefEqProofs (maxSteps := 4000000) (disch := omega) only [c_law07_ShardFull, r_law07_ShardFull, getDT, go_sem, *]; (try simp only [pA, pB, pC, pD, pE, pF, pG, pH, pI, pJ, pK, pL, pM, pN, pO, pP, if_true, if_false]); repeat' (first | done | rfl | ((first | refine iteC (fun hq => ?_) (fun hq => ?_) | refine iteP (fun hq => ?_) (fun hq => ?_)) <;> (try (first | (exfalso; omega) | contradiction)) <;> (try simp -implicitDefEqProofs (maxSteps := 4000000) (disch := omega) only [getDT, go_sem, *]) <;> (try simp only [pA, pB, pC, pD, pE, pF, pG, pH, pI, pJ, pK, pL, pM, pN, pO, pP, if_true, if_false]))); (all_goals try rfl); (all_goals try (repeat' (first | done | rfl | (exfalso; omega) | contradiction | (refine iteR (fun hq => ?_) (fun hq => ?_)))))
  · rw [callL_code g_law07_ShardFull (by simp)]; simp -implicitDefEqProofs (maxSteps := 4000000) (disch := omega) only [c_law07_ShardFull, r_law07_ShardFull, getDT, go_sem, *]; (try simp only [pA, pB, pC, pD, pE, pF, pG, pH, pI, pJ, pK, pL, pM, pN, pO, pP, if_true, if_false]); repeat' (first | done | rfl | ((first | refine iteC (fun hq => ?_) (fun hq => ?_) | refine iteP (fun hq => ?_) (fun hq => ?_)) <;> (try (first | (exfalso; omega) | contradiction)) <;> (try simp -implicitDefEqProofs (maxSteps := 4000000) (disch := omega) only [getDT, go_sem, *]) <;> (try simp only [pA, pB, pC, pD, pE, pF, pG, pH, pI, pJ, pK, pL, pM, pN, pO, pP, if_true, if_false]))); (all_goals try rfl); (all_goals try (repeat' (first | done | rfl | (exfalso; omega) | contradiction | (refine iteR (fun hq => ?_) (fun hq => ?_)))))
end Go.Proofs.YtjillamaceggeaaGreat
