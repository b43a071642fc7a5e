/-
  Rings of the program: find, room, PushBack.
  Shards: messages.
  Shards: Validate.
  Shards: the reference's Validate.
  Shards: parts of Counts.
-/
import Derived.Test.YtjillamaceggeaaGreatB4858270
set_option linter.unusedSimpArgs false
set_option linter.unusedVariables false
namespace Go.Proofs.YtjillamaceggeaaGreat
open Go Go.Sim
set_option linter.unusedSimpArgs false
set_option linter.unusedVariables false
set_option maxHeartbeats 10000000
set_option maxRecDepth 40000
theorem clone_api_Message (es : List D) (hs : allSize 7 es = true) (hL : es.length ≤ 4294967296) : callL G N_slices_Clone_api_Message [.d (.sl es)] [] = some (.acc 0 es, [(0, .acc es.length)]) := by
  cases es with
  | nil =>
    refine callL_nils0 g_slices_Clone_api_Message (by decide) ?_ ?_
    · simp -implicitDefEqProofs only [c_slices_Clone_api_Message, r_slices_Clone_api_Message, go_sem]
    · simp -implicitDefEqProofs only [c_slices_Clone_api_Message, r_slices_Clone_api_Message, Nat.zero_le, go_sem]
  | cons e es =>
    rw [callL_nils g_slices_Clone_api_Message (by simp) (by decide)]
    simp only [allSize_cons] at hs
    simp only [List.length_cons] at hL
    simp -implicitDefEqProofs (maxSteps := 4000000) (disch := omega) only [c_slices_Clone_api_Message, r_slices_Clone_api_Message, go_sem, *]
theorem idx_api_Message (l : List Message) (g : Nat) (cs : List D) (p : Message → Bool) (hL : l.length ≤ 4294967296) (hp : ∀ a ∈ l, callL G g (.d (eMessage a) :: cs.map .d) [] = some (.d (.bool (p a)), [])) : callL G N_slices_IndexFunc_api_Message [.d (.sl (l.map eMessage)), .d (.fn g cs)] [] = some (.d (.int .i64 (idxI p l)), []) := by
  have := loop_find (G := G) (x := l_slices_IndexFunc_api_Message_0) (ks := []) l.length (atB l p) (fun k => ⟨[(0, .d (.sl (l.map eMessage))), (1, .d (.fn g cs)), (7, .d (.int .i64 l.length)), (8, .d (.int .i64 k))], []⟩) (fun k => (.ret, ⟨[(4, .d (.int .i64 k))], []⟩)) (.exit 0, ⟨[], []⟩) (fun k hk L => by
    simp only [l_slices_IndexFunc_api_Message_0]
    by_cases h0 : k < l.length
    · have h1 := hp l[k] (List.getElem_mem h0)
      simp only [eMessage] at h1
      simp only [atB_at h0]
      cases h2 : p l[k]
      · rw [h2] at h1
        simp -implicitDefEqProofs (maxSteps := 4000000) (disch := omega) only [go_sem, h1, eMessage]
      · rw [h2] at h1
        simp -implicitDefEqProofs (maxSteps := 4000000) (disch := omega) only [go_sem, h1, eMessage]
    · simp -implicitDefEqProofs (maxSteps := 4000000) (disch := omega) only [go_sem, Nat.zero_add])
  rw [findR_idx] at this
  simp only [Int.natCast_add, Int.natCast_one, Int.natCast_zero, Int.natCast_mul, Int.cast_ofNat_Int, List.length_append, List.length_map, List.map_nil, List.length_nil, List.map_append, List.map_cons, List.length_cons, Nat.zero_add, srcO, mapSet] at this
  unfold idxI
  cases h : l.findIdx? p with
  | none => rw [h] at this; rw [callL_code g_slices_IndexFunc_api_Message (by simp)]; simp -implicitDefEqProofs (maxSteps := 4000000) (disch := omega) only [c_slices_IndexFunc_api_Message, r_slices_IndexFunc_api_Message, go_sem, this]
  | some i => rw [h] at this; rw [callL_code g_slices_IndexFunc_api_Message (by simp)]; simp -implicitDefEqProofs (maxSteps := 4000000) (disch := omega) only [c_slices_IndexFunc_api_Message, r_slices_IndexFunc_api_Message, go_sem, this]
theorem contains_api_Message (l : List Message) (g : Nat) (cs : List D) (p : Message → Bool) (hL : l.length ≤ 4294967296) (hp : ∀ a ∈ l, callL G g (.d (eMessage a) :: cs.map .d) [] = some (.d (.bool (p a)), [])) : callL G N_slices_ContainsFunc_api_Message [.d (.sl (l.map eMessage)), .d (.fn g cs)] [] = some (.d (.bool (l.any p)), []) := by
  rw [callL_code g_slices_ContainsFunc_api_Message (by simp)]; simp -implicitDefEqProofs (maxSteps := 4000000) (disch := omega) only [c_slices_ContainsFunc_api_Message, r_slices_ContainsFunc_api_Message, go_sem, idx_api_Message l g cs p hL hp, idxI_any]
theorem fcl_ok (m : Message) (id : Int) : callL G N_ring_find_1 [.d (eMessage m), .d (.pd (.int .i64 id))] [] = some (.d (.bool (decide (m.id = id))), []) := by
  simp only [eMessage]
  rw [callL_code g_ring_find_1 (by simp)]; simp -implicitDefEqProofs (maxSteps := 4000000) (disch := omega) only [c_ring_find_1, r_ring_find_1, getDT, go_sem, *]; (try simp only [pA, pB, pC, pD, pE, pF, pG, pH, pI, pJ, pK, pL, pM, pN, pO, pP, if_true, if_false]); repeat' (first | done | rfl | ((first | refine iteC (fun hq => ?_) (fun hq => ?_) | refine iteP (fun hq => ?_) (fun hq => ?_)) <;> (try (first | (exfalso; omega) | contradiction)) <;> (try simp -implicitDefEqProofs (maxSteps := 4000000) (disch := omega) only [getDT, go_sem, *]) <;> (try simp only [pA, pB, pC, pD, pE, pF, pG, pH, pI, pJ, pK, pL, pM, pN, pO, pP, if_true, if_false]))); (all_goals try rfl); (all_goals try (repeat' (first | done | rfl | (exfalso; omega) | contradiction | (refine iteR (fun hq => ?_) (fun hq => ?_)))))
theorem rfind_ok (c : List Message) (h z : Nat) (id : Int) (h1 : c.length ≤ 12) (h2 : h < c.length) (h3 : z ≤ c.length) : callL G N_ring_find [.d (.agg [.sl (c.map eMessage), .int .i64 h, .int .i64 z]), .d (.int .i64 id)] [] = some (.d (.int .i64 (fstI (ordN c h z) id)), []) := by
  have hl := list_ok c h z h1 h2 h3
  have hn := ordN_len c h z
  have hi := idx_api_Message (ordN c h z) N_ring_find_1 [.pd (.int .i64 id)] (fun m => decide (m.id = id)) (by omega) (fun a _ => fcl_ok a id)
  unfold fstI
  generalize idxI (fun m : Message => decide (m.id = id)) (ordN c h z) = q at *
  generalize ordN c h z = w at *
  rw [callL_code g_ring_find (by simp)]; simp -implicitDefEqProofs (maxSteps := 4000000) (disch := omega) only [c_ring_find, r_ring_find, getDT, go_sem, *]; (try simp only [pA, pB, pC, pD, pE, pF, pG, pH, pI, pJ, pK, pL, pM, pN, pO, pP, if_true, if_false]); repeat' (first | done | rfl | ((first | refine iteC (fun hq => ?_) (fun hq => ?_) | refine iteP (fun hq => ?_) (fun hq => ?_)) <;> (try (first | (exfalso; omega) | contradiction)) <;> (try simp -implicitDefEqProofs (maxSteps := 4000000) (disch := omega) only [getDT, go_sem, *]) <;> (try simp only [pA, pB, pC, pD, pE, pF, pG, pH, pI, pJ, pK, pL, pM, pN, pO, pP, if_true, if_false]))); (all_goals try rfl); (all_goals try (repeat' (first | done | rfl | (exfalso; omega) | contradiction | (refine iteR (fun hq => ?_) (fun hq => ?_)))))
theorem room_ok (r : Ring) (m : Message) (hL : r.cells.length ≤ 4294967296) : callL G N_ring_room [.d (eRing r), .d (eMessage m)] [] = some (.d (.int .i64 (pushR r m)), []) := by
  have hv := ringval_ok r hL
  have hm := mval_ok m
  unfold pushR
  by_cases e1 : ringV r = 0
  · rw [e1] at hv
    obtain ⟨c, h, z, rfl, h1, h2, h3, h4⟩ := ringOK_nat (ringV_zero e1)
    have hi := rfind_ok c h z m.id h2 h3 h4
    simp only [e1, ne_eq, not_true_eq_false, if_false]
    rw [ordD_eq]
    clear e1
    generalize fstI (ordN c h z) m.id = q at *
    by_cases e2 : msgV m = 0
    · rw [e2] at hm
      simp only [e2, ne_eq, not_true_eq_false, if_false]
      simp only [eRing, eMessage] at hv hm hi ⊢
      by_cases e3 : (z : Int) = c.length
      · rw [if_pos e3]
        obtain rfl : z = c.length := by omega
        clear e3
        rw [callL_code g_ring_room (by simp)]; simp -implicitDefEqProofs (maxSteps := 4000000) (disch := omega) only [c_ring_room, r_ring_room, getDT, go_sem, *]; (try simp only [pA, pB, pC, pD, pE, pF, pG, pH, pI, pJ, pK, pL, pM, pN, pO, pP, if_true, if_false]); repeat' (first | done | rfl | ((first | refine iteC (fun hq => ?_) (fun hq => ?_) | refine iteP (fun hq => ?_) (fun hq => ?_)) <;> (try (first | (exfalso; omega) | contradiction)) <;> (try simp -implicitDefEqProofs (maxSteps := 4000000) (disch := omega) only [getDT, go_sem, *]) <;> (try simp only [pA, pB, pC, pD, pE, pF, pG, pH, pI, pJ, pK, pL, pM, pN, pO, pP, if_true, if_false]))); (all_goals try rfl); (all_goals try (repeat' (first | done | rfl | (exfalso; omega) | contradiction | (refine iteR (fun hq => ?_) (fun hq => ?_)))))
      · simp only [e3, if_false]
        by_cases e4 : 0 ≤ q
        · simp only [e4, if_true]
          rw [callL_code g_ring_room (by simp)]; simp -implicitDefEqProofs (maxSteps := 4000000) (disch := omega) only [c_ring_room, r_ring_room, eMessage, getDT, go_sem, *]; (try simp only [pA, pB, pC, pD, pE, pF, pG, pH, pI, pJ, pK, pL, pM, pN, pO, pP, if_true, if_false]); repeat' (first | done | rfl | ((first | refine iteC (fun hq => ?_) (fun hq => ?_) | refine iteP (fun hq => ?_) (fun hq => ?_)) <;> (try (first | (exfalso; omega) | contradiction)) <;> (try simp -implicitDefEqProofs (maxSteps := 4000000) (disch := omega) only [eMessage, getDT, go_sem, *]) <;> (try simp only [pA, pB, pC, pD, pE, pF, pG, pH, pI, pJ, pK, pL, pM, pN, pO, pP, if_true, if_false]))); (all_goals try rfl); (all_goals try (repeat' (first | done | rfl | (exfalso; omega) | contradiction | (refine iteR (fun hq => ?_) (fun hq => ?_)))))
        · simp only [e4, if_false]
          rw [callL_code g_ring_room (by simp)]; simp -implicitDefEqProofs (maxSteps := 4000000) (disch := omega) only [c_ring_room, r_ring_room, eMessage, getDT, go_sem, *]; (try simp only [pA, pB, pC, pD, pE, pF, pG, pH, pI, pJ, pK, pL, pM, pN, pO, pP, if_true, if_false]); repeat' (first | done | rfl | ((first | refine iteC (fun hq => ?_) (fun hq => ?_) | refine iteP (fun hq => ?_) (fun hq => ?_)) <;> (try (first | (exfalso; omega) | contradiction)) <;> (try simp -implicitDefEqProofs (maxSteps := 4000000) (disch := omega) only [eMessage, getDT, go_sem, *]) <;> (try simp only [pA, pB, pC, pD, pE, pF, pG, pH, pI, pJ, pK, pL, pM, pN, pO, pP, if_true, if_false]))); (all_goals try rfl); (all_goals try (repeat' (first | done | rfl | (exfalso; omega) | contradiction | (refine iteR (fun hq => ?_) (fun hq => ?_)))))
    · simp only [e2, ne_eq, not_false_eq_true, if_true]
      generalize msgV m = v at *
      simp only [eRing, eMessage] at hv hm ⊢
      rw [callL_code g_ring_room (by simp)]; simp -implicitDefEqProofs (maxSteps := 4000000) (disch := omega) only [c_ring_room, r_ring_room, getDT, go_sem, *]; (try simp only [pA, pB, pC, pD, pE, pF, pG, pH, pI, pJ, pK, pL, pM, pN, pO, pP, if_true, if_false]); repeat' (first | done | rfl | ((first | refine iteC (fun hq => ?_) (fun hq => ?_) | refine iteP (fun hq => ?_) (fun hq => ?_)) <;> (try (first | (exfalso; omega) | contradiction)) <;> (try simp -implicitDefEqProofs (maxSteps := 4000000) (disch := omega) only [getDT, go_sem, *]) <;> (try simp only [pA, pB, pC, pD, pE, pF, pG, pH, pI, pJ, pK, pL, pM, pN, pO, pP, if_true, if_false]))); (all_goals try rfl); (all_goals try (repeat' (first | done | rfl | (exfalso; omega) | contradiction | (refine iteR (fun hq => ?_) (fun hq => ?_)))))
  · simp only [e1, ne_eq, not_false_eq_true, if_true]
    generalize ringV r = v at *
    simp only [eRing, eMessage] at hv ⊢
    rw [callL_code g_ring_room (by simp)]; simp -implicitDefEqProofs (maxSteps := 4000000) (disch := omega) only [c_ring_room, r_ring_room, getDT, go_sem, *]; (try simp only [pA, pB, pC, pD, pE, pF, pG, pH, pI, pJ, pK, pL, pM, pN, pO, pP, if_true, if_false]); repeat' (first | done | rfl | ((first | refine iteC (fun hq => ?_) (fun hq => ?_) | refine iteP (fun hq => ?_) (fun hq => ?_)) <;> (try (first | (exfalso; omega) | contradiction)) <;> (try simp -implicitDefEqProofs (maxSteps := 4000000) (disch := omega) only [getDT, go_sem, *]) <;> (try simp only [pA, pB, pC, pD, pE, pF, pG, pH, pI, pJ, pK, pL, pM, pN, pO, pP, if_true, if_false]))); (all_goals try rfl); (all_goals try (repeat' (first | done | rfl | (exfalso; omega) | contradiction | (refine iteR (fun hq => ?_) (fun hq => ?_)))))
theorem own_ok (c : List Message) (h z : Int) (h0 : 1 ≤ c.length) (h1 : c.length ≤ 12) : callL G N_ring_own [.d (.agg [.sl (c.map eMessage), .int .i64 h, .int .i64 z])] [] = some (.agg [.acc 0 (c.map eMessage), .d (.int .i64 h), .d (.int .i64 z)], [(0, .acc c.length)]) := by
  have hc := clone_api_Message (c.map eMessage) (allSize_Message c) (by simp; omega)
  simp only [Int.natCast_add, Int.natCast_one, Int.natCast_zero, Int.natCast_mul, Int.cast_ofNat_Int, List.length_append, List.length_map, List.map_nil, List.length_nil, List.map_append, List.map_cons, List.length_cons, Nat.zero_add, srcO, mapSet] at hc
  rw [callL_code g_ring_own (by simp)]; simp -implicitDefEqProofs (maxSteps := 4000000) (disch := omega) only [c_ring_own, r_ring_own, getDT, go_sem, *]; (try simp only [pA, pB, pC, pD, pE, pF, pG, pH, pI, pJ, pK, pL, pM, pN, pO, pP, if_true, if_false]); repeat' (first | done | rfl | ((first | refine iteC (fun hq => ?_) (fun hq => ?_) | refine iteP (fun hq => ?_) (fun hq => ?_)) <;> (try (first | (exfalso; omega) | contradiction)) <;> (try simp -implicitDefEqProofs (maxSteps := 4000000) (disch := omega) only [getDT, go_sem, *]) <;> (try simp only [pA, pB, pC, pD, pE, pF, pG, pH, pI, pJ, pK, pL, pM, pN, pO, pP, if_true, if_false]))); (all_goals try rfl); (all_goals try (repeat' (first | done | rfl | (exfalso; omega) | contradiction | (refine iteR (fun hq => ?_) (fun hq => ?_)))))
def pbD (r : Ring) (m : Message) : Ring × Int := if pushR r m = 0 then (rg r.cells.length r.head.toNat (ordD r ++ [m]), 0) else (zRing, pushR r m)
theorem pushback_ok (r : Ring) (m : Message) (hL : r.cells.length ≤ 4294967296) : callL G N_ring_PushBack [.d (eRing r), .d (eMessage m)] [] = some (.d (.tup [eRing (pbD r m).1, .int .i64 (pbD r m).2]), []) := by
  have hr := room_ok r m hL
  unfold pbD
  by_cases e1 : pushR r m = 0
  · rw [if_pos e1]
    rw [e1] at hr
    have e2 := pushR_zero e1
    clear e1
    obtain ⟨n, h, hrg, h1, h2, h3, h4, h5, h6⟩ := rg_of e2.1
    have e3 := e2.2.2.1
    clear e2 h5 h6
    have hc : r.cells.length = n := by rw [hrg]; exact wN_len _ _ _ _
    have hh : r.head.toNat = h := by rw [hrg]; rfl
    rw [hc, hh]
    rw [hc] at e3
    have hz : r.size = ((ordD r).length : Int) := by rw [ordD_len]; have := congrArg Ring.size hrg; simp only [rg] at this; omega
    generalize ordD r = L at *
    subst hrg
    clear hh
    simp only [rg, eRing, List.length_append, List.length_singleton] at hr e3 hz ⊢
    have hl : L.length < n := by omega
    rw [wN_snoc hl]
    have hcl := cell_ok
    have ho := own_ok (wN n h L L.length) h L.length (by rw [wN_len]; omega) (by rw [wN_len]; omega)
    have hce := cell_ok (wN n h L L.length) h L.length L.length (by rw [wN_len]; omega) (by rw [wN_len]; omega) (by omega) (by omega)
    have hj : (h + L.length) % n < n := mod_lt' (by omega)
    rw [wN_len] at hce ho
    have hwl := wN_len n h L L.length
    clear hcl e3 hz hc
    generalize (h + L.length) % n = j at *
    rw [List.map_set]
    generalize wN n h L L.length = w at *
    rw [callL_code g_ring_PushBack (by simp)]; simp -implicitDefEqProofs (maxSteps := 4000000) (disch := omega) only [c_ring_PushBack, r_ring_PushBack, getDT, go_sem, *]; (try simp only [pA, pB, pC, pD, pE, pF, pG, pH, pI, pJ, pK, pL, pM, pN, pO, pP, if_true, if_false]); repeat' (first | done | rfl | ((first | refine iteC (fun hq => ?_) (fun hq => ?_) | refine iteP (fun hq => ?_) (fun hq => ?_)) <;> (try (first | (exfalso; omega) | contradiction)) <;> (try simp -implicitDefEqProofs (maxSteps := 4000000) (disch := omega) only [getDT, go_sem, *]) <;> (try simp only [pA, pB, pC, pD, pE, pF, pG, pH, pI, pJ, pK, pL, pM, pN, pO, pP, if_true, if_false]))); (all_goals try rfl); (all_goals try (repeat' (first | done | rfl | (exfalso; omega) | contradiction | (refine iteR (fun hq => ?_) (fun hq => ?_)))))
  · rw [if_neg e1]
    generalize pushR r m = v at *
    simp only [eRing, zRing, eMessage] at *
    rw [callL_code g_ring_PushBack (by simp)]; simp -implicitDefEqProofs (maxSteps := 4000000) (disch := omega) only [c_ring_PushBack, r_ring_PushBack, getDT, go_sem, *]; (try simp only [pA, pB, pC, pD, pE, pF, pG, pH, pI, pJ, pK, pL, pM, pN, pO, pP, if_true, if_false]); repeat' (first | done | rfl | ((first | refine iteC (fun hq => ?_) (fun hq => ?_) | refine iteP (fun hq => ?_) (fun hq => ?_)) <;> (try (first | (exfalso; omega) | contradiction)) <;> (try simp -implicitDefEqProofs (maxSteps := 4000000) (disch := omega) only [getDT, go_sem, *]) <;> (try simp only [pA, pB, pC, pD, pE, pF, pG, pH, pI, pJ, pK, pL, pM, pN, pO, pP, if_true, if_false]))); (all_goals try rfl); (all_goals try (repeat' (first | done | rfl | (exfalso; omega) | contradiction | (refine iteR (fun hq => ?_) (fun hq => ?_)))))
end Go.Proofs.YtjillamaceggeaaGreat

namespace Go.Proofs.YtjillamaceggeaaGreat
open Go Go.Sim
set_option linter.unusedSimpArgs false
set_option linter.unusedVariables false
set_option maxHeartbeats 10000000
set_option maxRecDepth 40000
theorem ringlist_ok {r : Ring} (hr : ringV r = 0) : callL G N_ring_List [.d (eRing r)] [] = some (.acc 0 ((ordD r).map eMessage), [(0, .acc (ordD r).length)]) := by
  have hv := ringval_ok r (by have := (ringV_zero hr).2.1; omega)
  obtain ⟨c, h, z, rfl, h1, h2, h3, h4⟩ := ringOK_nat (ringV_zero hr)
  have hl := list_ok c h z h2 h3 h4
  rw [hr] at hv
  rw [ordD_eq]
  clear hr
  simp only [eRing] at hv ⊢
  generalize ordN c h z = w at *
  rw [callL_code g_ring_List (by simp)]; simp -implicitDefEqProofs (maxSteps := 4000000) (disch := omega) only [c_ring_List, r_ring_List, getDT, go_sem, *] /-A0-/
def msgN (b : List Message) (l : List Lease) (i : Nat) : List Message := b ++ (l.take i).map (·.msg)
theorem msgN_succ (b : List Message) {l : List Lease} {i : Nat} (h : i < l.length) : msgN b l (i + 1) = msgN b l i ++ [l[i].msg] := by
  unfold msgN; rw [List.take_add_one, List.getElem?_eq_getElem h, List.map_append, List.append_assoc]; rfl
theorem msgN_len (b : List Message) {l : List Lease} {i : Nat} (h : i ≤ l.length) : (msgN b l i).length = b.length + i := by
  simp [msgN]; omega
def smS (b : List Message) (l : List Lease) (i : Nat) : St := ⟨[(3, .acc 8 ((msgN b l i).map eMessage)), (11, .d (.sl (l.map eLease))), (12, .d (.int .i64 l.length)), (13, .d (.int .i64 i))], [(8, .acc (msgN b l i).length)]⟩
theorem sm_loop (b : List Message) (l : List Lease) (h1 : l.length ≤ 12) (h2 : b.length ≤ 12) : ∀ i, i ≤ l.length → loopL G [] l_shard_messages_0 (smS b l i) = some (.exit 0, ⟨[(3, .acc 8 ((msgN b l l.length).map eMessage))], [(8, .acc (msgN b l l.length).length)]⟩) := by
  refine loop_ind (fun i => l.length - i) (fun i => i ≤ l.length) (smS b l) _ fun i hi L ih => ?_
  by_cases h0 : i < l.length
  · have i1 := ih (i + 1) (by omega) (by omega)
    clear ih
    have hl := msgN_len b (l := l) (i := i) (by omega)
    rw [smS, msgN_succ b h0] at i1
    generalize msgN b l l.length = z at *
    simp only [List.map_append, List.map_cons, List.map_nil, List.length_append, List.length_singleton, hl] at i1
    simp only [smS, hl, l_shard_messages_0]
    generalize msgN b l i = w at *
    simp only [eMessage] at i1
    simp only [Int.natCast_add, Int.natCast_one, Int.natCast_zero, Int.natCast_mul, Int.cast_ofNat_Int, List.length_append, List.length_map, List.map_nil, List.length_nil, List.map_append, List.map_cons, List.length_cons, Nat.zero_add, srcO, mapSet] at i1
    simp -implicitDefEqProofs (maxSteps := 4000000) (disch := omega) only [eLease, eMessage, getDT, go_sem, *] /-A1-/
  · clear ih
    have : i = l.length := by omega
    subst this
    simp only [smS, l_shard_messages_0]
    simp -implicitDefEqProofs (maxSteps := 4000000) (disch := omega) only [getDT, go_sem, *] /-A2-/
theorem messages_ok {s : Shard} (hr : ringV s.ready = 0) (h1 : s.leases.l.length ≤ 12) : callL G N_shard_messages [.d (eShard s)] [] = some (.d (.sl ((shMsgs s).map eMessage)), []) := by
  have hl := ringlist_ok hr
  have hb : (ordD s.ready).length ≤ 12 := by
    rw [ordD_len]
    have := ringV_zero hr
    obtain ⟨a1, a2, a3, a4, a5, a6⟩ := this
    omega
  have hm := sm_loop (ordD s.ready) s.leases.l h1 hb 0 (by omega)
  have e : msgN (ordD s.ready) s.leases.l s.leases.l.length = shMsgs s := by simp [msgN, shMsgs]
  rw [e] at hm
  simp only [smS, msgN, List.take_zero, List.map_nil, List.append_nil] at hm
  generalize shMsgs s = w at *
  generalize ordD s.ready = w2 at *
  simp only [eRing, eShard] at hl ⊢
  simp only [Int.natCast_add, Int.natCast_one, Int.natCast_zero, Int.natCast_mul, Int.cast_ofNat_Int, List.length_append, List.length_map, List.map_nil, List.length_nil, List.map_append, List.map_cons, List.length_cons, Nat.zero_add, srcO, mapSet] at hm
  rw [callL_code g_shard_messages (by simp)]; simp -implicitDefEqProofs (maxSteps := 4000000) (disch := omega) only [c_shard_messages, r_shard_messages, getDT, go_sem, *] /-A3-/
def l7S (s : Shard) (i : Nat) : St := ⟨[(1, .ref 1 0 0), (3, .acc 3 ((msgN [] s.leases.l i).map eMessage)), (4, .d (.int .i64 i))], [(1, .row [.d (eShard s)]), (3, .acc (msgN [] s.leases.l i).length)]⟩
end Go.Proofs.YtjillamaceggeaaGreat

namespace Go.Proofs.YtjillamaceggeaaGreat
open Go Go.Sim
set_option linter.unusedSimpArgs false
set_option linter.unusedVariables false
set_option maxHeartbeats 10000000
set_option maxRecDepth 40000
theorem tl_len {t : Table} (h : tabV t = 0) : t.l.length ≤ 12 := by
  refine Classical.byContradiction fun hc => ?_
  unfold tabV at h
  rw [if_pos (by omega)] at h
  exact absurd h (by decide)
def movE (lo hi : Int) (l : List Message) : Bool := l.any fun m => decide (¬ (lo ≤ m.route ∧ m.route ≤ hi))
theorem movE_drop (lo hi : Int) {l : List Message} {k : Nat} (h : k < l.length) : movE lo hi (l.drop k) = (decide (¬ (lo ≤ l[k].route ∧ l[k].route ≤ hi)) || movE lo hi (l.drop (k + 1))) := by
  rw [List.drop_eq_getElem_cons h]; rfl
theorem sin_ok (n lo hi : Int) : callL G N_shard_in [.d (.int .i64 n), .d (.int .i64 lo), .d (.int .i64 hi)] [] = some (.d (.bool (decide (lo ≤ n ∧ n ≤ hi))), []) := by
  by_cases h : lo ≤ n
  · by_cases h2 : n ≤ hi
    · rw [decide_eq_true ⟨h, h2⟩]
      rw [callL_code g_shard_in (by simp)]; simp -implicitDefEqProofs (maxSteps := 4000000) (disch := omega) only [c_shard_in, r_shard_in, getDT, go_sem, *] /-A0-/
    · rw [decide_eq_false (by omega)]
      rw [callL_code g_shard_in (by simp)]; simp -implicitDefEqProofs (maxSteps := 4000000) (disch := omega) only [c_shard_in, r_shard_in, getDT, go_sem, *] /-A1-/
  · rw [decide_eq_false (by omega)]
    rw [callL_code g_shard_in (by simp)]; simp -implicitDefEqProofs (maxSteps := 4000000) (disch := omega) only [c_shard_in, r_shard_in, getDT, go_sem, *] /-A2-/
theorem spans_ok (lo hi : Int) : callL G N_shard_spans [.d (.int .i64 lo), .d (.int .i64 hi)] [] = some (.d (.bool (decide (0 ≤ lo ∧ lo ≤ hi ∧ hi < 65536))), []) := by
  by_cases h : 0 ≤ lo ∧ lo ≤ hi ∧ hi < 65536
  · rw [decide_eq_true h]
    rw [callL_code g_shard_spans (by simp)]; simp -implicitDefEqProofs (maxSteps := 4000000) (disch := omega) only [c_shard_spans, r_shard_spans, getDT, go_sem, *] /-A3-/
  · rw [decide_eq_false h]
    have e : (decide (0 ≤ lo) && (decide (lo ≤ hi) && decide (hi < 65536))) = false := by simp; omega
    rw [callL_code g_shard_spans (by simp)]; simp -implicitDefEqProofs (maxSteps := 4000000) (disch := omega) only [c_shard_spans, r_shard_spans, e, getDT, go_sem, *] /-A4-/
theorem stored_ok (s : Shard) (h1 : s.leases.l.length ≤ 12) (h2 : 0 ≤ s.ready.size) (h3 : s.ready.size ≤ 12) : callL G N_shard_stored [.d (eShard s)] [] = some (.d (.int .i64 (s.ready.size + s.leases.l.length)), []) := by
  simp only [eShard]
  rw [callL_code g_shard_stored (by simp)]; simp -implicitDefEqProofs (maxSteps := 4000000) (disch := omega) only [c_shard_stored, r_shard_stored, getDT, go_sem, *] /-A5-/
def svS (s : Shard) (l : List Message) (i : Nat) : St := ⟨[(1, .ref 1 0 0), (5, .mpr 52), (6, .d (.bool (dupI (idsN l i)))), (54, .d (.sl (l.map eMessage))), (55, .d (.int .i64 l.length)), (56, .d (.int .i64 i))], [(1, .row [.d (eShard s)]), (52, .mp (seenM (idsN l i)))]⟩
def svR (s : Shard) (l : List Message) (i : Nat) : AExit × St := if movE s.low s.high (l.drop i) = true then (.ret, ⟨[(2, .d (.int .i64 12))], []⟩) else (.exit 1, ⟨[(6, .d (.bool (dupI (l.map (·.id)))))], []⟩)
theorem sv_loop (s : Shard) (l : List Message) (h1 : l.length ≤ 24) : ∀ i, i ≤ l.length → loopL G [] l_shard_Validate_0 (svS s l i) = some (svR s l i) := by
  refine loop_ind (fun i => l.length - i) (fun i => i ≤ l.length) (svS s l) (fun i => some (svR s l i)) fun i hi L ih => ?_
  by_cases h0 : i < l.length
  · have i1 := ih (i + 1) (by omega) (by omega)
    clear ih
    have hm := sin_ok l[i].route s.low s.high
    unfold svR at i1 ⊢
    rw [movE_drop _ _ h0]
    unfold svS at i1
    rw [idsN_succ h0, seenM_snoc, dupI_snoc] at i1
    have hg := mget_seen l[i].id (idsN l i)
    generalize movE s.low s.high (l.drop (i + 1)) = fe at *
    generalize dupI (l.map (·.id)) = dd at *
    simp only [svS, eShard, l_shard_Validate_0] at i1 ⊢
    generalize seenM (idsN l i) = sm at *
    by_cases hv : s.low ≤ l[i].route ∧ l[i].route ≤ s.high
    · rw [decide_eq_true hv] at hm
      simp only [hv, not_true_eq_false, and_self, decide_false, Bool.false_or]
      by_cases hmem : l[i].id ∈ idsN l i
      · simp only [hmem, if_true, decide_true, Bool.or_true] at hg i1
        generalize dupI (idsN l i) = d0 at *
        generalize idsN l i = w at *
        simp only [Int.natCast_add, Int.natCast_one, Int.natCast_zero, Int.natCast_mul, Int.cast_ofNat_Int, List.length_append, List.length_map, List.map_nil, List.length_nil, List.map_append, List.map_cons, List.length_cons, Nat.zero_add, srcO, mapSet] at i1
        cases d0
        · simp -implicitDefEqProofs (maxSteps := 4000000) (disch := omega) only [eMessage, getDT, go_sem, *] /-A6-/
        · simp -implicitDefEqProofs (maxSteps := 4000000) (disch := omega) only [eMessage, getDT, go_sem, *] /-A7-/
      · simp only [hmem, if_false, decide_false, Bool.or_false] at hg i1
        generalize dupI (idsN l i) = d0 at *
        generalize idsN l i = w at *
        simp only [Int.natCast_add, Int.natCast_one, Int.natCast_zero, Int.natCast_mul, Int.cast_ofNat_Int, List.length_append, List.length_map, List.map_nil, List.length_nil, List.map_append, List.map_cons, List.length_cons, Nat.zero_add, srcO, mapSet] at i1
        cases d0
        · simp -implicitDefEqProofs (maxSteps := 4000000) (disch := omega) only [eMessage, getDT, go_sem, *] /-A8-/
        · simp -implicitDefEqProofs (maxSteps := 4000000) (disch := omega) only [eMessage, getDT, go_sem, *] /-A9-/
    · rw [decide_eq_false hv] at hm
      simp only [hv, not_false_eq_true, decide_true, Bool.true_or, if_true]
      clear i1 hg
      simp -implicitDefEqProofs (maxSteps := 4000000) (disch := omega) only [eMessage, getDT, go_sem, *] /-A10-/
  · clear ih
    have : i = l.length := by omega
    subst this
    unfold svR
    rw [List.drop_length]
    simp only [svS, idsN, List.take_length, movE, List.any_nil, Bool.false_eq_true, if_false, l_shard_Validate_0, eShard]
    simp -implicitDefEqProofs (maxSteps := 4000000) (disch := omega) only [getDT, go_sem, *] /-A11-/
theorem shMsgs_len {s : Shard} (hr : ringV s.ready = 0) (h1 : s.leases.l.length ≤ 12) : (shMsgs s).length ≤ 24 := by
  obtain ⟨a1, a2, a3, a4, a5, a6⟩ := ringV_zero hr
  simp only [shMsgs, List.length_append, List.length_map, ordD_len]
  omega
theorem shardV_rest {s : Shard} (hr : ringV s.ready = 0) (ht : tabV s.leases = 0) : shardV s = if s.live = false then (if s.low ≠ 0 ∨ s.high ≠ 0 ∨ 0 < s.ready.size + s.leases.l.length then 7 else 0)
  else if ¬ (0 ≤ s.low ∧ s.low ≤ s.high ∧ s.high < 65536) then 1
  else if s.ready.cells.length < s.ready.size + s.leases.l.length then 3
  else if movE s.low s.high (shMsgs s) = true then 12
  else if dupI ((shMsgs s).map (·.id)) = true then 10 else 0 := by
  unfold shardV
  rw [if_neg (fun hc => hc hr), if_neg (fun hc => hc ht)]
  rfl
theorem shval_ok (s : Shard) (h1 : s.ready.cells.length ≤ 4294967296) (h2 : s.leases.l.length ≤ 4294967296) (h3 : s.leases.heap.length ≤ 4294967296) : callL G N_shard_Validate [.d (eShard s)] [] = some (.d (.int .i64 (shardV s)), []) := by
  have hv := ringval_ok s.ready h1
  have ht := lval_ok s.leases h2 h3
  by_cases e1 : ringV s.ready = 0
  · by_cases e2 : tabV s.leases = 0
    · rw [shardV_rest e1 e2]
      rw [e1] at hv
      rw [e2] at ht
      have hl := tl_len e2
      obtain ⟨a1, a2, a3, a4, a5, a6⟩ := ringV_zero e1
      have hs := stored_ok s hl a5 (by omega)
      have hsp := spans_ok s.low s.high
      have hm := messages_ok e1 hl
      have hml := shMsgs_len e1 hl
      have hlp := sv_loop s (shMsgs s) hml 0 (by omega)
      unfold svR at hlp
      simp only [svS, idsN, List.take_zero, List.map_nil, seenM, List.foldl_nil, show dupI [] = false by decide, List.drop_zero] at hlp
      generalize movE s.low s.high (shMsgs s) = b1 at *
      generalize dupI ((shMsgs s).map (·.id)) = b2 at *
      generalize shMsgs s = w at *
      clear e1 e2
      obtain ⟨lv, lo, hi, ⟨c, h, z⟩, ⟨tl, th⟩⟩ := s
      simp only [eShard, eRing, eTable] at hv ht hs hsp hm hlp a1 a2 a3 a4 a5 a6 hl h1 h2 h3 ⊢
      simp only [Int.natCast_add, Int.natCast_one, Int.natCast_zero, Int.natCast_mul, Int.cast_ofNat_Int, List.length_append, List.length_map, List.map_nil, List.length_nil, List.map_append, List.map_cons, List.length_cons, Nat.zero_add, srcO, mapSet] at hlp
      cases lv with
      | false =>
        simp only [if_true]
        by_cases c1 : lo ≠ 0 ∨ hi ≠ 0 ∨ 0 < z + tl.length
        · rw [if_pos c1]
          rw [callL_code g_shard_Validate (by simp)]; simp -implicitDefEqProofs (maxSteps := 4000000) (disch := omega) only [c_shard_Validate, r_shard_Validate, getDT, go_sem, *]; (try simp only [pA, pB, pC, pD, pE, pF, pG, pH, pI, pJ, pK, pL, pM, pN, pO, pP, if_true, if_false]); repeat' (first | done | rfl | ((first | refine iteC (fun hq => ?_) (fun hq => ?_) | refine iteP (fun hq => ?_) (fun hq => ?_)) <;> (try (first | (exfalso; omega) | contradiction)) <;> (try simp -implicitDefEqProofs (maxSteps := 4000000) (disch := omega) only [getDT, go_sem, *]) <;> (try simp only [pA, pB, pC, pD, pE, pF, pG, pH, pI, pJ, pK, pL, pM, pN, pO, pP, if_true, if_false]))); (all_goals try rfl); (all_goals try (repeat' (first | done | rfl | (exfalso; omega) | contradiction | (refine iteR (fun hq => ?_) (fun hq => ?_))))) /-A12-/
        · rw [if_neg c1]
          rw [callL_code g_shard_Validate (by simp)]; simp -implicitDefEqProofs (maxSteps := 4000000) (disch := omega) only [c_shard_Validate, r_shard_Validate, getDT, go_sem, *] /-A13-/
      | true =>
        simp only [Bool.true_eq_false, if_false]
        by_cases c1 : 0 ≤ lo ∧ lo ≤ hi ∧ hi < 65536
        · rw [decide_eq_true c1] at hsp
          rw [if_neg (fun hc => hc c1)]
          by_cases c2 : (c.length : Int) < z + tl.length
          · rw [if_pos c2]
            rw [callL_code g_shard_Validate (by simp)]; simp -implicitDefEqProofs (maxSteps := 4000000) (disch := omega) only [c_shard_Validate, r_shard_Validate, getDT, go_sem, *]; (try simp only [pA, pB, pC, pD, pE, pF, pG, pH, pI, pJ, pK, pL, pM, pN, pO, pP, if_true, if_false]); repeat' (first | done | rfl | ((first | refine iteC (fun hq => ?_) (fun hq => ?_) | refine iteP (fun hq => ?_) (fun hq => ?_)) <;> (try (first | (exfalso; omega) | contradiction)) <;> (try simp -implicitDefEqProofs (maxSteps := 4000000) (disch := omega) only [getDT, go_sem, *]) <;> (try simp only [pA, pB, pC, pD, pE, pF, pG, pH, pI, pJ, pK, pL, pM, pN, pO, pP, if_true, if_false]))); (all_goals try rfl); (all_goals try (repeat' (first | done | rfl | (exfalso; omega) | contradiction | (refine iteR (fun hq => ?_) (fun hq => ?_))))) /-A14-/
          · rw [if_neg c2]
            cases b1
            · cases b2
              · simp only [Bool.false_eq_true, if_false] at hlp ⊢
                rw [callL_code g_shard_Validate (by simp)]; simp -implicitDefEqProofs (maxSteps := 4000000) (disch := omega) only [c_shard_Validate, r_shard_Validate, getDT, go_sem, *] /-A15-/
              · simp only [Bool.false_eq_true, if_false, if_true] at hlp ⊢
                rw [callL_code g_shard_Validate (by simp)]; simp -implicitDefEqProofs (maxSteps := 4000000) (disch := omega) only [c_shard_Validate, r_shard_Validate, getDT, go_sem, *] /-A16-/
            · simp only [if_true] at hlp ⊢
              rw [callL_code g_shard_Validate (by simp)]; simp -implicitDefEqProofs (maxSteps := 4000000) (disch := omega) only [c_shard_Validate, r_shard_Validate, getDT, go_sem, *] /-A17-/
        · rw [decide_eq_false c1] at hsp
          rw [if_pos c1]
          rw [callL_code g_shard_Validate (by simp)]; simp -implicitDefEqProofs (maxSteps := 4000000) (disch := omega) only [c_shard_Validate, r_shard_Validate, getDT, go_sem, *] /-A18-/
    · unfold shardV
      rw [if_neg (fun hc => hc e1), if_pos e2]
      rw [e1] at hv
      generalize tabV s.leases = v at *
      obtain ⟨lv, lo, hi, ⟨c, h, z⟩, ⟨tl, th⟩⟩ := s
      simp only [eShard, eRing, eTable] at hv ht h1 h2 h3 ⊢
      rw [callL_code g_shard_Validate (by simp)]; simp -implicitDefEqProofs (maxSteps := 4000000) (disch := omega) only [c_shard_Validate, r_shard_Validate, getDT, go_sem, *] /-A19-/
  · unfold shardV
    rw [if_pos e1]
    clear ht
    generalize ringV s.ready = v at *
    obtain ⟨lv, lo, hi, ⟨c, h, z⟩, ⟨tl, th⟩⟩ := s
    simp only [eShard, eRing] at hv h1 h2 h3 ⊢
    rw [callL_code g_shard_Validate (by simp)]; simp -implicitDefEqProofs (maxSteps := 4000000) (disch := omega) only [c_shard_Validate, r_shard_Validate, getDT, go_sem, *] /-A20-/
end Go.Proofs.YtjillamaceggeaaGreat

namespace Go.Proofs.YtjillamaceggeaaGreat
open Go Go.Sim
set_option linter.unusedSimpArgs false
set_option linter.unusedVariables false
set_option maxHeartbeats 10000000
set_option maxRecDepth 40000
def m7S (s : Shard) (l : List Message) (i : Nat) : St := ⟨[(1, .ref 1 0 0), (6, .d (.sl (l.map eMessage))), (7, .d (.int .i64 i))], [(1, .row [.d (eShard s)])]⟩
def m7R (s : Shard) (l : List Message) (i : Nat) : AExit × St := if movE s.low s.high (l.drop i) = true then (.ret, ⟨[(2, .d (.int .i64 12))], []⟩) else (.exit 0, ⟨[(6, .d (.sl (l.map eMessage)))], []⟩)
def d7S (l : List Message) (i : Nat) : St := ⟨[(6, .d (.sl (l.map eMessage))), (8, .d (.int .i64 i))], []⟩
def d7R (l : List Message) (i : Nat) : AExit × St := if lateF l i = true then (.ret, ⟨[(2, .d (.int .i64 10))], []⟩) else (.exit 2, ⟨[], []⟩)
end Go.Proofs.YtjillamaceggeaaGreat

namespace Go.Proofs.YtjillamaceggeaaGreat
open Go Go.Sim
set_option linter.unusedSimpArgs false
set_option linter.unusedVariables false
set_option maxHeartbeats 10000000
set_option maxRecDepth 40000
def cntN {α : Type} (p : α → Bool) (l : List α) (i : Nat) : Nat := ((l.take i).filter p).length
theorem cntN_succ {α : Type} (p : α → Bool) {l : List α} {i : Nat} (h : i < l.length) : cntN p l (i + 1) = cntN p l i + (if p l[i] = true then 1 else 0) := by
  unfold cntN
  rw [List.take_add_one, List.getElem?_eq_getElem h, List.filter_append, List.length_append]
  congr 1
  simp only [Option.toList, List.filter_cons]
  split <;> rfl
theorem cntN_le {α : Type} (p : α → Bool) (l : List α) (i : Nat) : cntN p l i ≤ i := Nat.le_trans (List.length_filter_le _ _) (by simp; omega)
def rdQ (ep lim : Int) (m : Message) : Bool := decide (¬ m.epoch < ep) && decide (¬ lim ≤ m.count)
def lsQ (ep : Int) (x : Lease) : Bool := decide (¬ x.msg.epoch < ep)
theorem idxb_ok (b1 b2 : Bool) : callL G N_slices_Index_bool [.d (.sl [.bool b1, .bool b2]), .d (.bool false)] [] = some (.d (.int .i64 (if b1 = true then (if b2 = true then -1 else 1) else 0)), []) := by
  cases b1
  · cases b2
    · rw [callL_code g_slices_Index_bool (by simp)]; simp -implicitDefEqProofs (maxSteps := 4000000) (disch := omega) only [c_slices_Index_bool, r_slices_Index_bool, loopL_eq, l_slices_Index_bool_0, getDT, go_sem, *] /-A0-/
    · rw [callL_code g_slices_Index_bool (by simp)]; simp -implicitDefEqProofs (maxSteps := 4000000) (disch := omega) only [c_slices_Index_bool, r_slices_Index_bool, loopL_eq, l_slices_Index_bool_0, getDT, go_sem, *] /-A1-/
  · cases b2
    · rw [callL_code g_slices_Index_bool (by simp)]; simp -implicitDefEqProofs (maxSteps := 4000000) (disch := omega) only [c_slices_Index_bool, r_slices_Index_bool, loopL_eq, l_slices_Index_bool_0, getDT, go_sem, *] /-A2-/
    · rw [callL_code g_slices_Index_bool (by simp)]; simp -implicitDefEqProofs (maxSteps := 4000000) (disch := omega) only [c_slices_Index_bool, r_slices_Index_bool, loopL_eq, l_slices_Index_bool_0, getDT, go_sem, *] /-A3-/
theorem contb_ok (b1 b2 : Bool) : callL G N_slices_Contains_bool [.d (.sl [.bool b1, .bool b2]), .d (.bool false)] [] = some (.d (.bool (!(b1 && b2))), []) := by
  have h := idxb_ok b1 b2
  cases b1
  · cases b2
    · simp only [Bool.false_eq_true, if_false] at h
      rw [callL_code g_slices_Contains_bool (by simp)]; simp -implicitDefEqProofs (maxSteps := 4000000) (disch := omega) only [c_slices_Contains_bool, r_slices_Contains_bool, getDT, go_sem, *] /-A4-/
    · simp only [Bool.false_eq_true, if_false] at h
      rw [callL_code g_slices_Contains_bool (by simp)]; simp -implicitDefEqProofs (maxSteps := 4000000) (disch := omega) only [c_slices_Contains_bool, r_slices_Contains_bool, getDT, go_sem, *] /-A5-/
  · cases b2
    · simp only [Bool.false_eq_true, if_false, if_true] at h
      rw [callL_code g_slices_Contains_bool (by simp)]; simp -implicitDefEqProofs (maxSteps := 4000000) (disch := omega) only [c_slices_Contains_bool, r_slices_Contains_bool, getDT, go_sem, *] /-A6-/
    · simp only [if_true] at h
      rw [callL_code g_slices_Contains_bool (by simp)]; simp -implicitDefEqProofs (maxSteps := 4000000) (disch := omega) only [c_slices_Contains_bool, r_slices_Contains_bool, getDT, go_sem, *] /-A7-/
def liveV (s : Shard) : Int := if shardV s ≠ 0 then shardV s else if s.live = true then 0 else 7
theorem live_ok (s : Shard) (h1 : s.ready.cells.length ≤ 4294967296) (h2 : s.leases.l.length ≤ 4294967296) (h3 : s.leases.heap.length ≤ 4294967296) : callL G N_shard_live [.d (eShard s)] [] = some (.d (.int .i64 (liveV s)), []) := by
  have hv := shval_ok s h1 h2 h3
  unfold liveV
  generalize shardV s = v at *
  obtain ⟨lv, lo, hi, ⟨c, h, z⟩, ⟨tl, th⟩⟩ := s
  simp only [eShard] at hv ⊢
  by_cases e : v = 0
  · subst e
    cases lv
    · rw [callL_code g_shard_live (by simp)]; simp -implicitDefEqProofs (maxSteps := 4000000) (disch := omega) only [c_shard_live, r_shard_live, getDT, go_sem, *] /-A8-/
    · rw [callL_code g_shard_live (by simp)]; simp -implicitDefEqProofs (maxSteps := 4000000) (disch := omega) only [c_shard_live, r_shard_live, getDT, go_sem, *] /-A9-/
  · rw [if_pos e]
    rw [callL_code g_shard_live (by simp)]; simp -implicitDefEqProofs (maxSteps := 4000000) (disch := omega) only [c_shard_live, r_shard_live, getDT, go_sem, *] /-A10-/
theorem usable_ok (s : Shard) (b1 b2 : Bool) (h1 : s.ready.cells.length ≤ 4294967296) (h2 : s.leases.l.length ≤ 4294967296) (h3 : s.leases.heap.length ≤ 4294967296) : callL G N_shard_usable [.d (eShard s), .d (.sl [.bool b1, .bool b2])] [] = some (.d (.int .i64 (if liveV s ≠ 0 then liveV s else if (b1 && b2) = true then 0 else 1)), []) := by
  have hv := live_ok s h1 h2 h3
  have hc := contb_ok b1 b2
  generalize liveV s = v at *
  simp only [eShard] at hv ⊢
  generalize (b1 && b2) = b at *
  by_cases e : v = 0
  · subst e
    cases b
    · rw [callL_code g_shard_usable (by simp)]; simp -implicitDefEqProofs (maxSteps := 4000000) (disch := omega) only [c_shard_usable, r_shard_usable, getDT, go_sem, *] /-A11-/
    · rw [callL_code g_shard_usable (by simp)]; simp -implicitDefEqProofs (maxSteps := 4000000) (disch := omega) only [c_shard_usable, r_shard_usable, getDT, go_sem, *] /-A12-/
  · rw [if_pos e]
    clear hc
    rw [callL_code g_shard_usable (by simp)]; simp -implicitDefEqProofs (maxSteps := 4000000) (disch := omega) only [c_shard_usable, r_shard_usable, getDT, go_sem, *] /-A13-/
def c0S (s : Shard) (l : List Message) (ep lim : Int) (i : Nat) : St := ⟨[(1, .d (.int .i64 ep)), (2, .d (.int .i64 lim)), (3, .ref 3 0 0), (6, .d (.int .i64 (cntN (rdQ ep lim) l i))), (7, .d (.int .i64 0)), (22, .acc 22 (l.map eMessage)), (23, .d (.int .i64 l.length)), (24, .d (.int .i64 i))], [(3, .row [.d (eShard s)]), (22, .acc l.length)]⟩
theorem purged_ok (m : Message) (ep : Int) : callL G N_message_Purged [.d (eMessage m), .d (.int .i64 ep)] [] = some (.d (.bool (decide (m.epoch < ep))), []) := by
  simp only [eMessage]
  rw [callL_code g_message_Purged (by simp)]; simp -implicitDefEqProofs (maxSteps := 4000000) (disch := omega) only [c_message_Purged, r_message_Purged, getDT, go_sem, *] /-A14-/
theorem spent_ok (m : Message) (lim : Int) : callL G N_message_Spent [.d (eMessage m), .d (.int .i64 lim)] [] = some (.d (.bool (decide (lim ≤ m.count))), []) := by
  simp only [eMessage]
  rw [callL_code g_message_Spent (by simp)]; simp -implicitDefEqProofs (maxSteps := 4000000) (disch := omega) only [c_message_Spent, r_message_Spent, getDT, go_sem, *] /-A15-/
def c1S (l : List Lease) (ep n : Int) (i : Nat) : St := ⟨[(1, .d (.int .i64 ep)), (6, .d (.int .i64 n)), (7, .d (.int .i64 (cntN (lsQ ep) l i))), (43, .d (.sl (l.map eLease))), (44, .d (.int .i64 l.length)), (45, .d (.int .i64 i))], []⟩
end Go.Proofs.YtjillamaceggeaaGreat
