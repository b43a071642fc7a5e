/-
  lease.Lapsed.
  Shards: numbers in range, whatever their number.
  Shards: leases that are released; what a handle holds; Ack.
  Shards: Nack, Change, deliver.
  Shards: Change, deliver.
  Shards: deliver.
  Shards: Take, its loop.
  Shards: Take.
  Shards: Expire.
  Shards: Expire, whole; Stored.
-/
import Derived.Test.YtcjncbkhbllchaaGreatBf5b0ec2
import Derived.Test.YtcjncbkhbllchaaGreatBe059124
import Derived.Test.YtcjncbkhbllchaaGreatB10b2fe7
set_option linter.unusedSimpArgs false
set_option linter.unusedVariables false
namespace Go.Proofs.YtcjncbkhbllchaaGreat.L
open Go Go.Sim Go.Proofs.YtcjncbkhbllchaaGreat
set_option linter.unusedSimpArgs false
set_option linter.unusedVariables false
set_option maxHeartbeats 10000000
set_option maxRecDepth 40000
theorem filter_idx {u : List Int} {p : Int → Bool} {k : Nat} (hk : k < u.length) (h1 : p u[k] = true) (h2 : ∀ j (hj : j < k), p (u[j]'(by omega)) = false) : u.take k = (u.take (k + 1)).filter (fun a => !p a) := by
  have htk : u.take (k + 1) = u.take k ++ [u[k]] := by rw [List.take_add_one, List.getElem?_eq_getElem hk]; rfl
  rw [htk, List.filter_append]
  have e1 : (u.take k).filter (fun a => !p a) = u.take k := by
    rw [List.filter_eq_self]
    intro a ha
    obtain ⟨j, hj, rfl⟩ := List.getElem_of_mem ha
    simp only [List.length_take] at hj
    rw [List.getElem_take, h2 j (by omega)]
    rfl
  rw [e1]
  simp [h1]
theorem df_ok (g : Nat) (cs : List D) (u : List Int) (p : Int → Bool) (h : u ≠ []) (hL : u.length ≤ 1000) (hp : ∀ a ∈ u, callL G g (.d (.int .i64 a) :: cs.map .d) [] = some (.d (.bool (p a)), [])) :
    callL G z0o [.osl 1000000 0 u.length, .d (.fn g cs)] [(1000000, .row ((ints u).map .d))] = some (.osl 1000000 0 (u.filter fun a => !p a).length, [(1000000, .row ((ints (u.filter fun a => !p a)).map .d))]) := by
  have hi := idx_int u g cs p (by omega) hp
  have hall : allD ((ints u).map AV.d) = some (ints u) := allD_map _
  have hlen : (ints u).length = u.length := by simp [ints]
  have htl : (ints u).take u.length = ints u := List.take_of_length_le (by omega)
  by_cases h1 : idxI p u = -1
  · have hn := (idxI_neg u p).1 (by omega)
    have hf : u.filter (fun a => !p a) = u := by
      rw [List.filter_eq_self]
      intro a ha
      rw [hn a ha]; rfl
    rw [hf]
    rw [h1] at hi
    clear hp
    rw [callL_code z4D (by simp)]; simp -implicitDefEqProofs (maxSteps := 4000000) (disch := omega) only [z2U, z5w, getDT, go_sem, *] /-A0-/
  · have hlt := idxI_lt u p
    obtain ⟨k, hk⟩ : ∃ k : Nat, idxI p u = k := ⟨(idxI p u).toNat, by omega⟩
    obtain ⟨hku, k1, k2⟩ := idxI_some hk
    obtain ⟨R, i, r1, r2, r3, hl⟩ := df_loop g cs u p hL hp ⟨k, k + 1, u⟩ ⟨by simp, by simp only; omega, rfl, filter_idx hku k1 k2, rfl⟩
    have hil : (u.filter fun a => !p a).length = i := by rw [← r3]; simp; omega
    have hne : R ≠ [] := by rintro rfl; simp at r1; exact h (by rw [← List.length_eq_zero_iff]; omega)
    have hrow : ((ints R).map AV.d).take i = (ints (u.filter fun a => !p a)).map AV.d := by rw [← r3]; simp [ints, List.map_take]
    have hhd : (((ints R).map AV.d).head?).map AV.size = some 1 := by
      cases R with
      | nil => exact absurd rfl hne
      | cons a R => rfl
    simp only [dfS] at hl
    rw [hk] at hi
    rw [hil]
    simp only [Int.natCast_add, Int.natCast_one, Int.natCast_zero, Int.natCast_mul, Int.cast_ofNat_Int, List.length_append, List.length_map, List.map_nil, List.length_nil, List.map_append, List.map_cons, List.length_cons, Nat.zero_add, srcO, mapSet] at hl
    clear hp k2 hk h1
    have e5 : i + (u.length - i) = u.length := by omega
    rw [callL_code z4D (by simp)]; simp -implicitDefEqProofs (maxSteps := 4000000) (disch := omega) only [z2U, z5w, getDT, go_sem, *]; (try simp only [pA, pB, pC, pD, pE, pF, pG, pH, pI, pJ, pK, pL, pM, pN, pO, pP, if_true, if_false]); repeat' (first | done | rfl | ((first | refine iteC (fun hq => ?_) (fun hq => ?_) | refine iteP (fun hq => ?_) (fun hq => ?_)) <;> (try (first | (exfalso; omega) | contradiction)) <;> (try simp -implicitDefEqProofs (maxSteps := 4000000) (disch := omega) only [getDT, go_sem, *]) <;> (try simp only [pA, pB, pC, pD, pE, pF, pG, pH, pI, pJ, pK, pL, pM, pN, pO, pP, if_true, if_false]))); (all_goals try rfl); (all_goals try (repeat' (first | done | rfl | (exfalso; omega) | contradiction | (refine iteR (fun hq => ?_) (fun hq => ?_))))) /-A1-/
theorem df0_ok (g : Nat) (cs : List D) : callL G z0o [.xsl [], .d (.fn g cs)] [] = some (.xsl [], []) := by
  have hi := idx_int [] g cs (fun _ => false) (by simp) (by simp)
  have e : idxI (fun _ : Int => false) [] = -1 := rfl
  rw [e] at hi
  simp only [ints, List.map_nil] at hi
  rw [callL_code z4D (by simp)]; simp -implicitDefEqProofs (maxSteps := 4000000) (disch := omega) only [z2U, z5w, getDT, go_sem, *] /-A2-/
theorem urow (h : List Due) (now : Int) (hL : h.length ≤ 4294967296) (h0 : validateD h = 0) (h1 : untilD h now ≠ []) : callL G zd [.d (.sl (h.map eD)), .d (.int .i64 now)] [] = some (.osl 0 0 (untilD h now).length, [(0, .row ((ints (untilD h now)).map .d))]) := by
  have := layer_row zcY (es := ints (untilD h now)) (by simpa [ints] using h1) (by have := until_fr h now hL h0; simpa [ints] using this)
  rwa [show (ints (untilD h now)).length = (untilD h now).length by simp [ints]] at this
theorem urow0 (h : List Due) (now : Int) (hL : h.length ≤ 4294967296) (h0 : validateD h = 0) (h1 : untilD h now = []) : callL G zd [.d (.sl (h.map eD)), .d (.int .i64 now)] [] = some (.xsl [], []) := by
  have := until_fr h now hL h0
  rw [h1] at this
  exact layer_row0 zcY this
theorem flat_ints : ∀ w : List Int, AV.flatL ((ints w).map AV.d) = true
  | [] => rfl
  | a :: w => by show (AV.flat (.d (.int .i64 a)) && AV.flatL ((ints w).map AV.d)) = true; rw [flat_ints w]; rfl
theorem lapsed_ok (t : Table) (now ep : Int) (hL : t.l.length ≤ 4294967296) (hH : t.heap.length ≤ 4294967296) : callL G z13 [.d (eTable t), .d (.int .i64 now), .d (.int .i64 ep)] [] = some (.d (.sl (ints (lapsedD t now ep))), []) := by
  have hv := lval_ok t hL hH
  unfold lapsedD
  by_cases h1 : tabV t = 0
  · rw [if_pos h1]
    obtain ⟨h12, hE, hD, hM⟩ := tabV_zero h1
    rw [h1] at hv
    by_cases h2 : untilD t.heap now = []
    · have hu := urow0 t.heap now hH hD h2
      have hd := df0_ok zC [.pd (eTable t), .pd (.int .i64 ep)]
      rw [h2]
      simp only [eTable, List.filter_nil, ints, List.map_nil] at hv hd ⊢
      rw [callL_code z4w (by simp)]; simp -implicitDefEqProofs (maxSteps := 4000000) (disch := omega) only [z2D, z5f, getDT, go_sem, *] /-A3-/
    · have hu := urow t.heap now hH hD h2
      have hd := df_ok zC [.pd (eTable t), .pd (.int .i64 ep)] (untilD t.heap now) (fun a => !keepP t ep a) h2 (by have := until_len h1 now; omega) (fun a ha => lap1_ok t ep a h1 (until_find h1 ha))
      simp only [Bool.not_not] at hd
      have e : (untilD t.heap now).filter (fun a => keepP t ep a) = (untilD t.heap now).filter (keepP t ep) := rfl
      rw [e] at hd
      have hall : allD ((ints ((untilD t.heap now).filter (keepP t ep))).map AV.d) = some (ints ((untilD t.heap now).filter (keepP t ep))) := allD_map _
      have hlen : (ints ((untilD t.heap now).filter (keepP t ep))).length = ((untilD t.heap now).filter (keepP t ep)).length := by simp [ints]
      have htl : (ints ((untilD t.heap now).filter (keepP t ep))).take ((untilD t.heap now).filter (keepP t ep)).length = ints ((untilD t.heap now).filter (keepP t ep)) := List.take_of_length_le (by omega)
      have hfl := flat_ints ((untilD t.heap now).filter (keepP t ep))
      generalize (untilD t.heap now).filter (keepP t ep) = w at *
      generalize untilD t.heap now = u at *
      simp only [eTable] at hv hd ⊢
      rw [callL_code z4w (by simp)]; simp -implicitDefEqProofs (maxSteps := 4000000) (disch := omega) only [z2D, z5f, getDT, go_sem, *] /-A4-/
  · rw [if_neg h1]
    simp only [eTable] at hv ⊢
    rw [callL_code z4w (by simp)]; simp -implicitDefEqProofs (maxSteps := 4000000) (disch := omega) only [z2D, z5f, getDT, go_sem, *] /-A5-/
end Go.Proofs.YtcjncbkhbllchaaGreat.L

namespace Go.Proofs.YtcjncbkhbllchaaGreat
open Go Go.Sim
set_option linter.unusedSimpArgs false
set_option linter.unusedVariables false
set_option maxHeartbeats 10000000
set_option maxRecDepth 40000
theorem idxB_ok (l : List Bool) (hL : l.length ≤ 1000) : callL G z20 [.d (.sl (l.map D.bool)), .d (.bool false)] [] = some (.d (.int .i64 (idxI (fun b : Bool => !b) l)), []) := by
  have := loop_find (G := G) (x := z59) (ks := []) l.length (atB l fun b : Bool => !b) (fun k => ⟨[(0, .d (.sl (l.map D.bool))), (1, .d (.bool false)), (7, .d (.int .i64 l.length)), (8, .d (.int .i64 k))], []⟩) (fun k => (.ret, ⟨[(4, .d (.int .i64 k))], []⟩)) (.exit 0, ⟨[], []⟩) (fun k hk L => by
    simp only [z59]
    by_cases h0 : k < l.length
    · rw [if_pos h0]
      simp only [atB_at h0]
      cases h1 : l[k]
      · simp only [Bool.not_false, if_true]
        simp -implicitDefEqProofs (maxSteps := 4000000) (disch := omega) only [getDT, go_sem, *] /-A0-/
      · simp only [Bool.not_true, Bool.false_eq_true, if_false]
        simp -implicitDefEqProofs (maxSteps := 4000000) (disch := omega) only [getDT, go_sem, *] /-A1-/
    · rw [if_neg h0]
      simp -implicitDefEqProofs (maxSteps := 4000000) (disch := omega) only [getDT, go_sem, *] /-A2-/)
  rw [findR_idx] at this
  simp only [Int.natCast_add, Int.natCast_one, Int.natCast_zero, Int.natCast_mul, Int.cast_ofNat_Int, List.length_append, List.length_map, List.map_nil, List.length_nil, List.map_append, List.map_cons, List.length_cons, Nat.zero_add, srcO, mapSet] at this
  unfold idxI
  cases h : l.findIdx? (fun b : Bool => !b) with
  | none => rw [h] at this; rw [callL_code z6Z (by simp)]; simp -implicitDefEqProofs (maxSteps := 4000000) (disch := omega) only [z5U, z81, getDT, go_sem, *] /-A3-/
  | some i => rw [h] at this; rw [callL_code z6Z (by simp)]; simp -implicitDefEqProofs (maxSteps := 4000000) (disch := omega) only [z5U, z81, getDT, go_sem, *] /-A4-/
theorem contB_ok (l : List Bool) (hL : l.length ≤ 1000) : callL G z1V [.d (.sl (l.map D.bool)), .d (.bool false)] [] = some (.d (.bool (l.any fun b => !b)), []) := by
  have h := idxB_ok l hL
  rw [callL_code za8 (by simp)]; simp -implicitDefEqProofs (maxSteps := 4000000) (disch := omega) only [z97, zcW, idxI_any, getDT, go_sem, *] /-A5-/
theorem anyAll (l : List Bool) : (l.any fun b => !b) = !(l.all id) := by
  induction l with
  | nil => rfl
  | cons b l ih => simp only [List.any_cons, List.all_cons, ih]; cases b <;> simp
def usE (s : Shard) (b : Bool) : Int := if liveV s ≠ 0 then liveV s else if b = true then 0 else 1
theorem usableL_ok (s : Shard) (l : List Bool) (hL : l.length ≤ 1000) (h1 : s.ready.cells.length ≤ 4294967296) (h2 : s.leases.l.length ≤ 4294967296) (h3 : s.leases.heap.length ≤ 4294967296) : callL G zS [.d (eShard s), .d (.sl (l.map D.bool))] [] = some (.d (.int .i64 (usE s (l.all id))), []) := by
  have hv := live_ok s h1 h2 h3
  have hc := contB_ok l hL
  rw [anyAll] at hc
  unfold usE
  generalize l.all id = b at *
  generalize l.map D.bool = w at *
  by_cases c : liveV s = 0
  · rw [c] at hv
    simp only [c, ne_eq, not_true_eq_false, if_false]
    simp only [eShard] at *
    cases b
    · rw [callL_code z6V (by simp)]; simp -implicitDefEqProofs (maxSteps := 4000000) (disch := omega) only [z2R, z5t, getDT, go_sem, *] /-A6-/
    · rw [callL_code z6V (by simp)]; simp -implicitDefEqProofs (maxSteps := 4000000) (disch := omega) only [z2R, z5t, getDT, go_sem, *] /-A7-/
  · simp only [c, ne_eq, not_false_eq_true, if_true]
    generalize liveV s = v at *
    simp only [eShard] at *
    rw [callL_code z6V (by simp)]; simp -implicitDefEqProofs (maxSteps := 4000000) (disch := omega) only [z2R, z5t, getDT, go_sem, *] /-A8-/
end Go.Proofs.YtcjncbkhbllchaaGreat

namespace Go.Proofs.YtcjncbkhbllchaaGreat.L
open Go Go.Sim
set_option linter.unusedSimpArgs false
set_option linter.unusedVariables false
set_option maxHeartbeats 10000000
set_option maxRecDepth 40000
theorem clone_api_Message (es : List D) (hs : allSize 7 es = true) (hL : es.length ≤ 4294967296) : callL G z0n [.d (.sl es)] [] = some (.acc 0 es, [(0, .acc es.length)]) := by
  cases es with
  | nil =>
    refine callL_nils0 z2h (by decide) ?_ ?_
    · simp -implicitDefEqProofs only [zY, z02, go_sem]
    · simp -implicitDefEqProofs only [zY, z02, Nat.zero_le, go_sem]
  | cons e es =>
    rw [callL_nils z2h (by simp) (by decide)]
    simp only [allSize_cons] at hs
    simp only [List.length_cons] at hL
    simp -implicitDefEqProofs (maxSteps := 4000000) (disch := omega) only [zY, z02, go_sem, *]
theorem clone_api_Due (es : List D) (hs : allSize 2 es = true) (hL : es.length ≤ 4294967296) : callL G zT [.d (.sl es)] [] = some (.acc 0 es, [(0, .acc es.length)]) := by
  cases es with
  | nil =>
    refine callL_nils0 z2g (by decide) ?_ ?_
    · simp -implicitDefEqProofs only [zX, z01, go_sem]
    · simp -implicitDefEqProofs only [zX, z01, Nat.zero_le, go_sem]
  | cons e es =>
    rw [callL_nils z2g (by simp) (by decide)]
    simp only [allSize_cons] at hs
    simp only [List.length_cons] at hL
    simp -implicitDefEqProofs (maxSteps := 4000000) (disch := omega) only [zX, z01, go_sem, *]
def epQ (n : Int) : Bool := decide (0 ≤ n ∧ n ≤ 65536)
def liQ (n : Int) : Bool := decide (1 ≤ n ∧ n ≤ 8)
def tiQ (n : Int) : Bool := decide (0 ≤ n ∧ n ≤ 1073741824)
def viQ (n : Int) : Bool := decide (0 ≤ n ∧ n ≤ 1000)
theorem isEp_ok (n : Int) : callL G z1K [.d (.int .i64 n)] [] = some (.d (.bool (epQ n)), []) := by
  have h := sin_ok n 0 65536
  unfold epQ
  generalize decide (0 ≤ n ∧ n ≤ 65536) = b at *
  rw [callL_code z9Y (by simp)]; simp -implicitDefEqProofs (maxSteps := 4000000) (disch := omega) only [z8W, zcL, getDT, go_sem, *] /-A0-/
theorem isLi_ok (n : Int) : callL G z1L [.d (.int .i64 n)] [] = some (.d (.bool (liQ n)), []) := by
  have h := sin_ok n 1 8
  unfold liQ
  generalize decide (1 ≤ n ∧ n ≤ 8) = b at *
  rw [callL_code z9Z (by simp)]; simp -implicitDefEqProofs (maxSteps := 4000000) (disch := omega) only [z8X, zcM, getDT, go_sem, *] /-A1-/
theorem isTi_ok (n : Int) : callL G z1M [.d (.int .i64 n)] [] = some (.d (.bool (tiQ n)), []) := by
  have h := sin_ok n 0 1073741824
  unfold tiQ
  generalize decide (0 ≤ n ∧ n ≤ 1073741824) = b at *
  rw [callL_code za0 (by simp)]; simp -implicitDefEqProofs (maxSteps := 4000000) (disch := omega) only [z8Y, zcN, getDT, go_sem, *] /-A2-/
theorem isVi_ok (n : Int) : callL G z1N [.d (.int .i64 n)] [] = some (.d (.bool (viQ n)), []) := by
  have h := sin_ok n 0 1000
  unfold viQ
  generalize decide (0 ≤ n ∧ n ≤ 1000) = b at *
  rw [callL_code za1 (by simp)]; simp -implicitDefEqProofs (maxSteps := 4000000) (disch := omega) only [z8Z, zcO, getDT, go_sem, *] /-A3-/
theorem sownL_ok (s : Shard) (h0 : 1 ≤ s.ready.cells.length) (h1 : s.ready.cells.length ≤ 12) (h2 : s.leases.l.length ≤ 12) (h3 : s.leases.heap.length ≤ 12) : callL G z1P [.d (eShard s)] [] = some (.d (eShard s), []) := by
  have hc := clone_api_Message (s.ready.cells.map eMessage) (allSize_Message _) (by simp; omega)
  have hd := clone_api_Due (s.leases.heap.map eD) (allSize_eD _) (by simp; omega)
  obtain ⟨lv, lo, hi, ⟨c, h, z⟩, ⟨tl, th⟩⟩ := s
  simp only [eShard] at *
  simp only [Int.natCast_add, Int.natCast_one, Int.natCast_zero, Int.natCast_mul, Int.cast_ofNat_Int, List.length_append, List.length_map, List.map_nil, List.length_nil, List.map_append, List.map_cons, List.length_cons, Nat.zero_add, srcO, mapSet] at hc hd
  by_cases e : tl = []
  · subst e
    have hr := crow0
    simp only [List.map_nil]
    rw [callL_code z6T (by simp)]; simp -implicitDefEqProofs (maxSteps := 4000000) (disch := omega) only [z5P, z7V, getDT, go_sem, *] /-A4-/
  · have hr := crow tl e (by omega)
    have hw : (tl.map eLease).length = tl.length := List.length_map ..
    have ht : (tl.map eLease).take tl.length = tl.map eLease := List.take_of_length_le (by omega)
    generalize tl.map eLease = w at *
    rw [callL_code z6T (by simp)]; simp -implicitDefEqProofs (maxSteps := 4000000) (disch := omega) only [z5P, z7V, Nat.min_self, getDT, go_sem, *] /-A5-/
def relS (s : Shard) (id : Int) : Shard × Message × Int := if (relD s.leases id).2.2 = 0 then ({ s with leases := (relD s.leases id).1 }, (relD s.leases id).2.1, 0) else (zShard, zMessage, (relD s.leases id).2.2)
theorem release_ok (s : Shard) (id : Int) (h0 : 1 ≤ s.ready.cells.length) (h1 : s.ready.cells.length ≤ 12) (h2 : s.leases.l.length ≤ 12) (h3 : s.leases.heap.length ≤ 12) : callL G z1Q [.d (eShard s), .d (.int .i64 id)] [] = some (.d (.tup [eShard (relS s id).1, eMessage (relS s id).2.1, .int .i64 (relS s id).2.2]), []) := by
  have hr := rel_ok s.leases id (by omega) (by omega)
  have ho := sownL_ok s h0 h1 h2 h3
  unfold relS
  generalize relD s.leases id = r at *
  obtain ⟨t, m, e⟩ := r
  obtain ⟨lv, lo, hi, ⟨c, h, z⟩, ⟨tl, th⟩⟩ := s
  by_cases c0 : e = 0
  · subst c0
    simp only [if_true]
    simp only [eShard, eTable, eMessage] at *
    rw [callL_code z6U (by simp)]; simp -implicitDefEqProofs (maxSteps := 4000000) (disch := omega) only [z5Q, z7W, getDT, go_sem, *] /-A6-/
  · simp only [c0, if_false]
    clear ho
    simp only [eShard, eTable, eMessage, zShard, zMessage, List.map_nil] at *
    rw [callL_code z6U (by simp)]; simp -implicitDefEqProofs (maxSteps := 4000000) (disch := omega) only [z5Q, z7W, getDT, go_sem, *] /-A7-/
theorem mpurge_ok (m : Message) (ep : Int) : callL G ze [.d (eMessage m), .d (.int .i64 ep)] [] = some (.d (.bool (decide (m.epoch < ep))), []) := by
  rw [zd1]; exact purged_ok m ep
def holdsB (s : Shard) (h : Handle) (now ep : Int) : Bool := (findT s.leases h.id).2 && (decide ((findT s.leases h.id).1.msg.gen = h.gen) && (decide ((findT s.leases h.id).1.msg.route = h.route) && (!decide ((findT s.leases h.id).1.msg.epoch < ep) && decide (now < (findT s.leases h.id).1.deadline))))
theorem holds_ok (s : Shard) (h : Handle) (now ep : Int) (h2 : s.leases.l.length ≤ 12) (h3 : s.leases.heap.length ≤ 12) : callL G z1J [.d (eShard s), .d (eHandle h), .d (.int .i64 now), .d (.int .i64 ep)] [] = some (.d (.bool (holdsB s h now ep)), []) := by
  have hf := L.find_ok s.leases h.id (by omega) (by omega)
  unfold holdsB
  generalize findT s.leases h.id = f at *
  obtain ⟨x, b⟩ := f
  have hp := mpurge_ok x.msg ep
  simp only [eShard, eTable, eHandle, eLease, eMessage] at *
  cases b
  · simp only [Bool.false_and]
    rw [callL_code z6Q (by simp)]; simp -implicitDefEqProofs (maxSteps := 4000000) (disch := omega) only [z5O, z7U, getDT, go_sem, *] /-A8-/
  · simp only [Bool.true_and]
    rw [callL_code z6Q (by simp)]; simp -implicitDefEqProofs (maxSteps := 4000000) (disch := omega) only [z5O, z7U, getDT, go_sem, *] /-A9-/
theorem Holds_ok (s : Shard) (h : Handle) (now ep : Int) (h1 : s.ready.cells.length ≤ 4294967296) (h2 : s.leases.l.length ≤ 12) (h3 : s.leases.heap.length ≤ 12) : callL G z0i [.d (eShard s), .d (eHandle h), .d (.int .i64 now), .d (.int .i64 ep)] [] = some (.d (.bool (decide (usE s (tiQ now && epQ ep) = 0) && holdsB s h now ep)), []) := by
  have hu := usableL_ok s [tiQ now, epQ ep] (by simp) h1 (by omega) (by omega)
  have hh := holds_ok s h now ep h2 h3
  have e1 := isTi_ok now
  have e2 := isEp_ok ep
  simp only [List.map_cons, List.map_nil, List.all_cons, List.all_nil, id, Bool.and_true] at hu
  generalize usE s (tiQ now && epQ ep) = u at *
  generalize tiQ now = b1 at *
  generalize epQ ep = b2 at *
  generalize holdsB s h now ep = b3 at *
  simp only [eShard, eHandle] at *
  by_cases c : u = 0
  · subst c
    simp only [decide_true, Bool.true_and]
    rw [callL_code z6O (by simp)]; simp -implicitDefEqProofs (maxSteps := 4000000) (disch := omega) only [z5M, z7S, getDT, go_sem, *] /-A10-/
  · rw [decide_eq_false c, Bool.false_and]
    rw [callL_code z6O (by simp)]; simp -implicitDefEqProofs (maxSteps := 4000000) (disch := omega) only [z5M, z7S, getDT, go_sem, *] /-A11-/
def ackD (s : Shard) (h : Handle) (now ep : Int) : Shard × Int := if usE s (tiQ now && epQ ep) ≠ 0 then (zShard, usE s (tiQ now && epQ ep)) else if holdsB s h now ep = true then ((relS s h.id).1, (relS s h.id).2.2) else (zShard, 5)
theorem us_cells {s : Shard} {b : Bool} (h : usE s b = 0) : 1 ≤ s.ready.cells.length ∧ s.ready.cells.length ≤ 12 ∧ s.leases.l.length ≤ 12 ∧ s.leases.heap.length ≤ 12 := by
  have hl : liveV s = 0 := by
    unfold usE at h
    split at h
    · rename_i q; exact absurd h q
    · rename_i q; exact Classical.not_not.1 q
  have hv : shardV s = 0 := by
    unfold liveV at hl
    split at hl
    · rename_i q; exact absurd hl q
    · rename_i q; exact Classical.not_not.1 q
  unfold shardV at hv
  split at hv
  · rename_i q; exact absurd hv q
  · rename_i q1
    split at hv
    · rename_i q; exact absurd hv q
    · rename_i q2
      obtain ⟨a1, a2, _⟩ := ringV_zero (Classical.not_not.1 q1)
      obtain ⟨b1, b2⟩ := tab_len (Classical.not_not.1 q2)
      exact ⟨a1, a2, b1, b2⟩
theorem ack_ok (s : Shard) (h : Handle) (now ep : Int) (h1 : s.ready.cells.length ≤ 4294967296) (h2 : s.leases.l.length ≤ 4294967296) (h3 : s.leases.heap.length ≤ 4294967296) : callL G z1D [.d (eShard s), .d (eHandle h), .d (.int .i64 now), .d (.int .i64 ep)] [] = some (.d (.tup [eShard (ackD s h now ep).1, .int .i64 (ackD s h now ep).2]), []) := by
  have hu := usableL_ok s [tiQ now, epQ ep] (by simp) h1 h2 h3
  have e1 := isTi_ok now
  have e2 := isEp_ok ep
  simp only [List.map_cons, List.map_nil, List.all_cons, List.all_nil, id, Bool.and_true] at hu
  unfold ackD
  by_cases c : usE s (tiQ now && epQ ep) = 0
  · obtain ⟨d1, d2, d3, d4⟩ := us_cells c
    have hh := holds_ok s h now ep d3 d4
    have hr := release_ok s h.id d1 d2 d3 d4
    rw [c] at hu
    rw [if_neg (fun q => q c)]
    clear c
    generalize tiQ now = b1 at *
    generalize epQ ep = b2 at *
    generalize holdsB s h now ep = b3 at *
    generalize relS s h.id = r at *
    obtain ⟨s2, m, e⟩ := r
    cases b3
    · clear hr
      simp only [eShard, eHandle, zShard, List.map_nil, Bool.false_eq_true, if_false] at *
      rw [callL_code z4A (by simp)]; simp -implicitDefEqProofs (maxSteps := 4000000) (disch := omega) only [z2N, z5p, getDT, go_sem, *] /-A12-/
    · simp only [eShard, eHandle, eMessage, if_true] at *
      rw [callL_code z4A (by simp)]; simp -implicitDefEqProofs (maxSteps := 4000000) (disch := omega) only [z2N, z5p, getDT, go_sem, *] /-A13-/
  · rw [if_pos c]
    generalize usE s (tiQ now && epQ ep) = u at *
    generalize tiQ now = b1 at *
    generalize epQ ep = b2 at *
    simp only [eShard, eHandle, zShard, List.map_nil] at *
    rw [callL_code z4A (by simp)]; simp -implicitDefEqProofs (maxSteps := 4000000) (disch := omega) only [z2N, z5p, getDT, go_sem, *] /-A14-/
end Go.Proofs.YtcjncbkhbllchaaGreat.L

namespace Go.Proofs.YtcjncbkhbllchaaGreat.L
open Go Go.Sim
set_option linter.unusedSimpArgs false
set_option linter.unusedVariables false
set_option maxHeartbeats 10000000
set_option maxRecDepth 40000
theorem mspent_ok (m : Message) (lim : Int) : callL G zm [.d (eMessage m), .d (.int .i64 lim)] [] = some (.d (.bool (decide (lim ≤ m.count))), []) := by
  rw [zd2]; exact spent_ok m lim
def backD (s : Shard) (m : Message) (lim : Int) : Ring × Int := if lim ≤ m.count then pbD s.ready m else pfD s.ready m
def nackD (s : Shard) (h : Handle) (now ep lim : Int) : Shard × Int :=
  if usE s (tiQ now && (epQ ep && liQ lim)) ≠ 0 then (zShard, usE s (tiQ now && (epQ ep && liQ lim)))
  else if holdsB s h now ep = true then (if (relS s h.id).2.2 ≠ 0 then (zShard, (relS s h.id).2.2)
    else if (backD (relS s h.id).1 (relS s h.id).2.1 lim).2 ≠ 0 then (zShard, (backD (relS s h.id).1 (relS s h.id).2.1 lim).2)
    else ({ (relS s h.id).1 with ready := (backD (relS s h.id).1 (relS s h.id).2.1 lim).1 }, 0)) else (zShard, 5)
theorem relS_cells (s : Shard) (id : Int) : (relS s id).1.ready.cells.length ≤ s.ready.cells.length := by
  unfold relS
  split
  · exact Nat.le_refl _
  · simp [zShard]
theorem nack_ok (s : Shard) (h : Handle) (now ep lim : Int) (h1 : s.ready.cells.length ≤ 4294967296) (h2 : s.leases.l.length ≤ 4294967296) (h3 : s.leases.heap.length ≤ 4294967296) : callL G z1F [.d (eShard s), .d (eHandle h), .d (.int .i64 now), .d (.int .i64 ep), .d (.int .i64 lim)] [] = some (.d (.tup [eShard (nackD s h now ep lim).1, .int .i64 (nackD s h now ep lim).2]), []) := by
  have hu := usableL_ok s [tiQ now, epQ ep, liQ lim] (by simp) h1 h2 h3
  have e1 := isTi_ok now
  have e2 := isEp_ok ep
  have e3 := isLi_ok lim
  simp only [List.map_cons, List.map_nil, List.all_cons, List.all_nil, id, Bool.and_true] at hu
  unfold nackD
  by_cases c : usE s (tiQ now && (epQ ep && liQ lim)) = 0
  · obtain ⟨d1, d2, d3, d4⟩ := us_cells c
    have hh := holds_ok s h now ep d3 d4
    have hr := release_ok s h.id d1 d2 d3 d4
    have hrc := relS_cells s h.id
    rw [c] at hu
    rw [if_neg (fun q => q c)]
    clear c
    generalize tiQ now = b1 at *
    generalize epQ ep = b2 at *
    generalize liQ lim = b4 at *
    generalize holdsB s h now ep = b3 at *
    generalize relS s h.id = r at *
    obtain ⟨s2, m, e⟩ := r
    cases b3
    · clear hr hrc
      simp only [eShard, eHandle, zShard, List.map_nil, Bool.false_eq_true, if_false] at *
      rw [callL_code zp (by simp)]; simp -implicitDefEqProofs (maxSteps := 4000000) (disch := omega) only [zo, zr, getDT, go_sem, *] /-A0-/
    · rw [if_pos rfl]
      by_cases c2 : e = 0
      · subst c2
        rw [if_neg (by simp)]
        have hb := rpush_ok s2.ready m (by simp only at hrc; omega)
        have hf := rpushf_ok s2.ready m (by simp only at hrc; omega)
        have hs := mspent_ok m lim
        unfold backD
        by_cases c3 : lim ≤ m.count
        · simp only [if_pos c3]
          rw [decide_eq_true c3] at hs
          clear c3 hf
          generalize pbD s2.ready m = p at *
          obtain ⟨r2, e4⟩ := p
          by_cases c4 : e4 = 0
          · subst c4
            simp only [ne_eq, not_true_eq_false, if_false]
            simp only [eShard, eHandle, eMessage, eRing] at *
            rw [callL_code zp (by simp)]; simp -implicitDefEqProofs (maxSteps := 4000000) (disch := omega) only [zo, zr, getDT, go_sem, *] /-A1-/
          · rw [if_pos c4]
            simp only [eShard, eHandle, eMessage, eRing, zShard, List.map_nil] at *
            rw [callL_code zp (by simp)]; simp -implicitDefEqProofs (maxSteps := 4000000) (disch := omega) only [zo, zr, getDT, go_sem, *] /-A2-/
        · simp only [if_neg c3]
          rw [decide_eq_false c3] at hs
          clear c3 hb
          generalize pfD s2.ready m = p at *
          obtain ⟨r2, e4⟩ := p
          by_cases c4 : e4 = 0
          · subst c4
            simp only [ne_eq, not_true_eq_false, if_false]
            simp only [eShard, eHandle, eMessage, eRing] at *
            rw [callL_code zp (by simp)]; simp -implicitDefEqProofs (maxSteps := 4000000) (disch := omega) only [zo, zr, getDT, go_sem, *] /-A3-/
          · rw [if_pos c4]
            simp only [eShard, eHandle, eMessage, eRing, zShard, List.map_nil] at *
            rw [callL_code zp (by simp)]; simp -implicitDefEqProofs (maxSteps := 4000000) (disch := omega) only [zo, zr, getDT, go_sem, *] /-A4-/
      · rw [if_pos c2]
        clear hrc
        simp only [eShard, eHandle, eMessage, zShard, List.map_nil] at *
        rw [callL_code zp (by simp)]; simp -implicitDefEqProofs (maxSteps := 4000000) (disch := omega) only [zo, zr, getDT, go_sem, *] /-A5-/
  · rw [if_pos c]
    generalize usE s (tiQ now && (epQ ep && liQ lim)) = u at *
    generalize tiQ now = b1 at *
    generalize epQ ep = b2 at *
    generalize liQ lim = b4 at *
    simp only [eShard, eHandle, zShard, List.map_nil] at *
    rw [callL_code zp (by simp)]; simp -implicitDefEqProofs (maxSteps := 4000000) (disch := omega) only [zo, zr, getDT, go_sem, *] /-A6-/
end Go.Proofs.YtcjncbkhbllchaaGreat.L

namespace Go.Proofs.YtcjncbkhbllchaaGreat.L
open Go Go.Sim
set_option linter.unusedSimpArgs false
set_option linter.unusedVariables false
set_option maxHeartbeats 10000000
set_option maxRecDepth 40000
theorem us_num {s : Shard} {b : Bool} (h : usE s b = 0) : b = true := by
  unfold usE at h
  split at h
  · rename_i q; exact absurd h q
  · split at h
    · assumption
    · cases h
def delM (m : Message) : Message × Int := if msgV m ≠ 0 then (zMessage, msgV m) else if m.gen = 65536 then (zMessage, 6) else if m.count = 8 then (zMessage, 7) else ({ m with count := m.count + 1, gen := m.gen + 1 }, 0)
theorem mdel_ok (m : Message) : callL G z1a [.d (eMessage m)] [] = some (.d (.tup [eMessage (delM m).1, .int .i64 (delM m).2]), []) := by
  have hv := mval_ok m
  unfold delM
  by_cases c : msgV m = 0
  · rw [c] at hv
    rw [if_neg (fun q => q c)]
    have hb : m.count ≤ 8 ∧ 0 ≤ m.count ∧ m.gen ≤ 65536 ∧ 0 ≤ m.gen := by
      unfold msgV at c
      split at c
      · omega
      · cases c
    clear c
    by_cases c1 : m.gen = 65536
    · rw [if_pos c1]
      replace c1 := eq_true c1
      simp only [eMessage, zMessage] at hv ⊢
      rw [callL_code z2b (by simp)]; simp -implicitDefEqProofs (maxSteps := 4000000) (disch := omega) only [z24, z2w, getDT, go_sem, *] /-A5-/
    · rw [if_neg c1]
      by_cases c2 : m.count = 8
      · rw [if_pos c2]
        replace c2 := eq_true c2
        simp only [eMessage, zMessage] at hv ⊢
        rw [callL_code z2b (by simp)]; simp -implicitDefEqProofs (maxSteps := 4000000) (disch := omega) only [z24, z2w, getDT, go_sem, *] /-A6-/
      · rw [if_neg c2]
        simp only [eMessage] at *
        rw [callL_code z2b (by simp)]; simp -implicitDefEqProofs (maxSteps := 4000000) (disch := omega) only [z24, z2w, getDT, go_sem, *] /-A7-/
  · rw [if_pos c]
    generalize msgV m = v at *
    simp only [eMessage, zMessage] at *
    rw [callL_code z2b (by simp)]; simp -implicitDefEqProofs (maxSteps := 4000000) (disch := omega) only [z24, z2w, getDT, go_sem, *] /-A8-/
def rcvQ (ep lim : Int) (m : Message) : Bool := !decide (m.epoch < ep) && (!decide (lim ≤ m.count) && decide (m.gen < 65536))
theorem mrcv_ok (m : Message) (ep lim : Int) : callL G z1b [.d (eMessage m), .d (.int .i64 ep), .d (.int .i64 lim)] [] = some (.d (.bool (rcvQ ep lim m)), []) := by
  have hp := mpurge_ok m ep
  have hs := mspent_ok m lim
  unfold rcvQ
  simp only [eMessage] at *
  rw [callL_code z9z (by simp)]; simp -implicitDefEqProofs (maxSteps := 4000000) (disch := omega) only [z8v, zck, getDT, go_sem, *] /-A9-/
end Go.Proofs.YtcjncbkhbllchaaGreat.L

namespace Go.Proofs.YtcjncbkhbllchaaGreat.L
open Go Go.Sim
set_option linter.unusedSimpArgs false
set_option linter.unusedVariables false
set_option maxHeartbeats 10000000
set_option maxRecDepth 40000
def dlvD (s : Shard) (m : Message) (d : Int) : Shard × Lease × Int :=
  if (rmD s.ready m.id).2.2 ≠ 0 then (s, zLease, (rmD s.ready m.id).2.2)
  else if (delM (rmD s.ready m.id).2.1).2 ≠ 0 then (s, zLease, (delM (rmD s.ready m.id).2.1).2)
  else if (grantD s.leases (delM (rmD s.ready m.id).2.1).1 d).2 ≠ 0 then (s, zLease, (grantD s.leases (delM (rmD s.ready m.id).2.1).1 d).2)
  else ({ s with ready := (rmD s.ready m.id).1, leases := (grantD s.leases (delM (rmD s.ready m.id).2.1).1 d).1 }, ⟨(delM (rmD s.ready m.id).2.1).1, d⟩, 0)
theorem deliver_ok (s : Shard) (m : Message) (d : Int) (h1 : s.ready.cells.length ≤ 4294967296) (h2 : s.leases.l.length ≤ 4294967296) (h3 : s.leases.heap.length ≤ 4294967296) : callL G z1I [.ref 1000000 0 0, .d (eMessage m), .d (.int .i64 d)] [(1000000, .row [.d (eShard s)])] = some (.d (.tup [eLease (dlvD s m d).2.1, .int .i64 (dlvD s m d).2.2]), [(1000000, .row [.d (eShard (dlvD s m d).1)])]) := by
  have hr := rremove_ok s.ready m.id h1
  have hd := mdel_ok (rmD s.ready m.id).2.1
  have hg := grant_ok s.leases (delM (rmD s.ready m.id).2.1).1 d h2 h3
  unfold dlvD
  generalize grantD s.leases (delM (rmD s.ready m.id).2.1).1 d = g at *
  generalize delM (rmD s.ready m.id).2.1 = q at *
  generalize rmD s.ready m.id = r at *
  obtain ⟨r, m1, e1⟩ := r
  obtain ⟨m2, e2⟩ := q
  obtain ⟨t, e3⟩ := g
  by_cases c1 : e1 = 0
  · subst c1
    by_cases c2 : e2 = 0
    · subst c2
      by_cases c3 : e3 = 0
      · subst c3
        simp only [ne_eq, not_true_eq_false, if_false]
        simp only [eShard, eMessage, eLease, eRing, eTable] at *
        rw [callL_code z2f (by simp)]; simp -implicitDefEqProofs (maxSteps := 4000000) (disch := omega) only [z26, z2y, getDT, go_sem, *] /-A0-/
      · simp only [ne_eq, not_true_eq_false, if_false]
        rw [if_pos c3]
        simp only [eShard, eMessage, eLease, eRing, eTable, zLease] at *
        rw [callL_code z2f (by simp)]; simp -implicitDefEqProofs (maxSteps := 4000000) (disch := omega) only [z26, z2y, getDT, go_sem, *] /-A1-/
    · clear hg
      simp only [ne_eq, not_true_eq_false, if_false]
      rw [if_pos c2]
      simp only [eShard, eMessage, eLease, eRing, zLease] at *
      rw [callL_code z2f (by simp)]; simp -implicitDefEqProofs (maxSteps := 4000000) (disch := omega) only [z26, z2y, getDT, go_sem, *] /-A2-/
  · clear hg hd
    rw [if_pos c1]
    simp only [eShard, eMessage, eLease, eRing, zLease] at *
    rw [callL_code z2f (by simp)]; simp -implicitDefEqProofs (maxSteps := 4000000) (disch := omega) only [z26, z2y, getDT, go_sem, *] /-A3-/
end Go.Proofs.YtcjncbkhbllchaaGreat.L

namespace Go.Proofs.YtcjncbkhbllchaaGreat.L
open Go Go.Sim
set_option linter.unusedSimpArgs false
set_option linter.unusedVariables false
set_option maxHeartbeats 10000000
set_option maxRecDepth 40000
def tkF (mx d ep lim : Int) : List Message → Shard → List Lease → Shard × List Lease × Int
  | [], s, out => (s, out, 0)
  | m :: l, s, out => if (out.length : Int) = mx ∨ rcvQ ep lim m = false then tkF mx d ep lim l s out else if (dlvD s m d).2.2 ≠ 0 then (zShard, [], (dlvD s m d).2.2) else tkF mx d ep lim l (dlvD s m d).1 (out ++ [(dlvD s m d).2.1])
def shB (s : Shard) : Prop := s.ready.cells.length ≤ 4294967296 ∧ s.leases.l.length ≤ 4294967296 ∧ s.leases.heap.length ≤ 4294967296
theorem grant_lens (t : Table) (m : Message) (d : Int) : (grantD t m d).1.l.length ≤ 12 ∧ (grantD t m d).1.heap.length ≤ 12 := by
  by_cases h : (grantD t m d).2 = 0
  · exact tab_len (grant_valid h).1
  · have : grantD t m d = (zTable, grantE t m d) := by
      unfold grantD at h ⊢
      split at h
      · exact absurd rfl h
      · rename_i hc; rw [if_neg hc]
    rw [this]; simp [zTable]
theorem dlv_B {s : Shard} (h : shB s) (m : Message) (d : Int) : shB (dlvD s m d).1 := by
  unfold dlvD
  split
  · exact h
  · split
    · exact h
    · split
      · exact h
      · obtain ⟨g1, g2⟩ := grant_lens s.leases (delM (rmD s.ready m.id).2.1).1 d
        refine ⟨?_, by simp only; omega, by simp only; omega⟩
        unfold rmD
        split
        · simp only [rg, wN_len]; exact h.1
        · simp [zRing]
structure TK where
  s : Shard
  out : List Lease
  i : Nat
def shZ : Go.Sim.AV := .agg [.d (.bool false), .d (.int .i64 0), .d (.int .i64 0), .xsl [], .d (.int .i64 0), .d (.int .i64 0), .xsl [], .xsl []]
def tkS (l : List Message) (mx now vis ep lim : Int) (t : TK) : St := ⟨[(1, .d (.int .i64 mx)), (2, .d (.int .i64 now)), (3, .d (.int .i64 vis)), (4, .d (.int .i64 ep)), (5, .d (.int .i64 lim)), (6, .ref 6 0 0), (12, .ref 12 0 0), (16, .acc 16 (t.out.map eLease)), (47, .acc 47 (l.map eMessage)), (48, .d (.int .i64 l.length)), (49, .d (.int .i64 t.i))], [(6, .row [.d (eShard t.s)]), (12, .row [shZ]), (16, .acc t.out.length), (47, .acc l.length)]⟩
def tkR (x : Shard × List Lease × Int) : AExit × St := if x.2.2 = 0 then (.exit 0, ⟨[(6, .ref 6 0 0), (12, .ref 12 0 0), (16, .acc 16 (x.2.1.map eLease))], [(6, .row [.d (eShard x.1)]), (12, .row [shZ]), (16, .acc x.2.1.length)]⟩) else (.ret, ⟨[(12, .ref 12 0 0), (13, .xsl []), (14, .d (.int .i64 x.2.2))], [(12, .row [shZ])]⟩)
theorem take_loop (l : List Message) (mx now vis ep lim : Int) (hl : l.length ≤ 12) (hn : 0 ≤ now ∧ now ≤ 1073741824) (hv : 0 ≤ vis ∧ vis ≤ 1000) : ∀ t : TK, t.i ≤ l.length ∧ t.out.length ≤ t.i ∧ shB t.s → loopL G [] zq (tkS l mx now vis ep lim t) = some (tkR (tkF mx (now + vis) ep lim (l.drop t.i) t.s t.out)) := by
  refine loop_ind (fun t => l.length - t.i) (fun t : TK => t.i ≤ l.length ∧ t.out.length ≤ t.i ∧ shB t.s) (tkS l mx now vis ep lim) (fun t => some (tkR (tkF mx (now + vis) ep lim (l.drop t.i) t.s t.out))) fun ⟨s, out, i⟩ ⟨hi, ho, hs⟩ L ih => ?_
  simp only at hi ho hs
  by_cases h0 : i < l.length
  · simp only
    rw [List.drop_eq_getElem_cons h0, tkF]
    have hq := mrcv_ok l[i] ep lim
    have hd := deliver_ok s l[i] (now + vis) hs.1 hs.2.1 hs.2.2
    have hb := dlv_B hs l[i] (now + vis)
    by_cases c1 : (out.length : Int) = mx
    · rw [if_pos (.inl c1)]
      have i1 := ih ⟨s, out, i + 1⟩ ⟨by simp only; omega, by simp only; omega, hs⟩ (by simp only; omega)
      clear ih hd hb
      simp only at i1
      generalize tkR (tkF mx (now + vis) ep lim (l.drop (i + 1)) s out) = R at *
      simp only [tkS, shZ, zq] at *
      replace c1 := eq_true c1
      simp only [eShard, eMessage] at *
      simp only [Int.natCast_add, Int.natCast_one, Int.natCast_zero, Int.natCast_mul, Int.cast_ofNat_Int, List.length_append, List.length_map, List.map_nil, List.length_nil, List.map_append, List.map_cons, List.length_cons, Nat.zero_add, srcO, mapSet] at i1
      simp -implicitDefEqProofs (maxSteps := 4000000) (disch := omega) only [eMessage, getDT, go_sem, *] /-A0-/
    · by_cases c2 : rcvQ ep lim l[i] = false
      · rw [if_pos (.inr c2)]
        have i1 := ih ⟨s, out, i + 1⟩ ⟨by simp only; omega, by simp only; omega, hs⟩ (by simp only; omega)
        clear ih hd hb
        rw [c2] at hq
        simp only at i1
        generalize tkR (tkF mx (now + vis) ep lim (l.drop (i + 1)) s out) = R at *
        simp only [tkS, shZ, zq] at *
        simp only [eShard, eMessage] at *
        simp only [Int.natCast_add, Int.natCast_one, Int.natCast_zero, Int.natCast_mul, Int.cast_ofNat_Int, List.length_append, List.length_map, List.map_nil, List.length_nil, List.map_append, List.map_cons, List.length_cons, Nat.zero_add, srcO, mapSet] at i1
        simp -implicitDefEqProofs (maxSteps := 4000000) (disch := omega) only [eMessage, getDT, go_sem, *] /-A1-/
      · rw [if_neg (by intro hc; rcases hc with hc | hc; exact c1 hc; exact c2 hc)]
        rw [show rcvQ ep lim l[i] = true by simpa using c2] at hq
        by_cases c3 : (dlvD s l[i] (now + vis)).2.2 = 0
        · rw [if_neg (fun q => q c3)]
          have i1 := ih ⟨(dlvD s l[i] (now + vis)).1, out ++ [(dlvD s l[i] (now + vis)).2.1], i + 1⟩ ⟨by simp only; omega, by simp only [List.length_append, List.length_singleton]; omega, hb⟩ (by simp only; omega)
          clear ih hb
          simp only at i1
          generalize tkR (tkF mx (now + vis) ep lim (l.drop (i + 1)) (dlvD s l[i] (now + vis)).1 (out ++ [(dlvD s l[i] (now + vis)).2.1])) = R at *
          generalize dlvD s l[i] (now + vis) = dv at *
          obtain ⟨s2, x, e⟩ := dv
          simp only at c3
          subst c3
          simp only [tkS, shZ, zq, List.map_append, List.map_cons, List.map_nil] at *
          simp only [eShard, eMessage, eLease] at *
          simp only [Int.natCast_add, Int.natCast_one, Int.natCast_zero, Int.natCast_mul, Int.cast_ofNat_Int, List.length_append, List.length_map, List.map_nil, List.length_nil, List.map_append, List.map_cons, List.length_cons, Nat.zero_add, srcO, mapSet] at i1
          simp -implicitDefEqProofs (maxSteps := 4000000) (disch := omega) only [eMessage, getDT, go_sem, *] /-A2-/
        · rw [if_pos c3]
          clear ih hb
          generalize dlvD s l[i] (now + vis) = dv at *
          obtain ⟨s2, x, e⟩ := dv
          simp only at c3
          unfold tkR
          rw [if_neg c3]
          simp only [tkS, shZ, zq] at *
          simp only [eShard, eMessage, eLease] at *
          simp -implicitDefEqProofs (maxSteps := 4000000) (disch := omega) only [eMessage, getDT, go_sem, *] /-A3-/
  · clear ih
    obtain rfl : i = l.length := by omega
    simp only [List.drop_length, tkF, tkR, if_true]
    simp only [tkS, shZ, eShard, zq]
    simp -implicitDefEqProofs (maxSteps := 4000000) (disch := omega) only [getDT, go_sem, *] /-A4-/
end Go.Proofs.YtcjncbkhbllchaaGreat.L

namespace Go.Proofs.YtcjncbkhbllchaaGreat.L
open Go Go.Sim
set_option linter.unusedSimpArgs false
set_option linter.unusedVariables false
set_option maxHeartbeats 10000000
set_option maxRecDepth 40000
def takeU (s : Shard) (mx now vis ep lim : Int) : Int := usE s (epQ ep && (liQ lim && (tiQ now && (viQ vis && decide (1 ≤ mx ∧ mx ≤ 6)))))
def takeD (s : Shard) (mx now vis ep lim : Int) : Shard × List Lease × Int := if takeU s mx now vis ep lim ≠ 0 then (zShard, [], takeU s mx now vis ep lim) else if 1073741824 < now + vis then (zShard, [], 6) else tkF mx (now + vis) ep lim (ordD s.ready) s []
theorem us_ring {s : Shard} {b : Bool} (h : usE s b = 0) : ringV s.ready = 0 := by
  have hl : liveV s = 0 := by
    unfold usE at h
    split at h
    · rename_i q; exact absurd h q
    · rename_i q; exact Classical.not_not.1 q
  have hv : shardV s = 0 := by
    unfold liveV at hl
    split at hl
    · rename_i q; exact absurd hl q
    · rename_i q; exact Classical.not_not.1 q
  unfold shardV at hv
  split at hv
  · rename_i q; exact absurd hv q
  · rename_i q1; exact Classical.not_not.1 q1
theorem tkF_err (mx d ep lim : Int) : ∀ (l : List Message) (s : Shard) (out : List Lease), (tkF mx d ep lim l s out).2.2 ≠ 0 → (tkF mx d ep lim l s out).1 = zShard ∧ (tkF mx d ep lim l s out).2.1 = [] := by
  intro l
  induction l with
  | nil => intro s out h; exact absurd rfl h
  | cons m l ih =>
    intro s out h
    rw [tkF] at h ⊢
    split at h
    · rename_i q; rw [if_pos q]; exact ih _ _ h
    · rename_i q
      rw [if_neg q]
      split at h
      · rename_i q2; rw [if_pos q2]; exact ⟨rfl, rfl⟩
      · rename_i q2; rw [if_neg q2]; exact ih _ _ h
theorem take_ok (s : Shard) (mx now vis ep lim : Int) (h1 : s.ready.cells.length ≤ 4294967296) (h2 : s.leases.l.length ≤ 4294967296) (h3 : s.leases.heap.length ≤ 4294967296) : callL G z1H [.d (eShard s), .d (.int .i64 mx), .d (.int .i64 now), .d (.int .i64 vis), .d (.int .i64 ep), .d (.int .i64 lim)] [] = some (.d (.tup [eShard (takeD s mx now vis ep lim).1, .sl ((takeD s mx now vis ep lim).2.1.map eLease), .int .i64 (takeD s mx now vis ep lim).2.2]), []) := by
  have hu := usableL_ok s [epQ ep, liQ lim, tiQ now, viQ vis, decide (1 ≤ mx ∧ mx ≤ 6)] (by simp) h1 h2 h3
  have e1 := isTi_ok now
  have e2 := isEp_ok ep
  have e3 := isVi_ok vis
  have e4 := isLi_ok lim
  have e5 := sin_ok mx 1 6
  simp only [List.map_cons, List.map_nil, List.all_cons, List.all_nil, id, Bool.and_true] at hu
  unfold takeD takeU
  by_cases c : usE s (epQ ep && (liQ lim && (tiQ now && (viQ vis && decide (1 ≤ mx ∧ mx ≤ 6))))) = 0
  · obtain ⟨d1, d2, d3, d4⟩ := us_cells c
    have hr := us_ring c
    have hn := us_num c
    simp only [Bool.and_eq_true, tiQ, viQ, decide_eq_true_eq] at hn
    obtain ⟨nn1, nn2, n1, n2, nn3⟩ := hn
    clear nn1 nn2 nn3
    have ho := sownL_ok s d1 d2 d3 d4
    have hl := ringlist_ok hr
    have hln : (ordD s.ready).length ≤ 12 := by
      obtain ⟨b1, b2, b3, b4, b5, b6⟩ := ringV_zero hr
      rw [ordD_len]; omega
    have hlp := take_loop (ordD s.ready) mx now vis ep lim hln n1 n2 ⟨s, [], 0⟩ ⟨by simp, by simp, ⟨h1, h2, h3⟩⟩
    rw [c] at hu
    rw [if_neg (fun q => q c)]
    clear c hr
    simp only [List.drop_zero] at hlp
    generalize tiQ now = b1 at *
    generalize epQ ep = b2 at *
    generalize viQ vis = b4 at *
    generalize liQ lim = b5 at *
    generalize decide (1 ≤ mx ∧ mx ≤ 6) = b6 at *
    by_cases c2 : 1073741824 < now + vis
    · rw [if_pos c2]
      clear hlp ho hl
      simp only [eShard, zShard, List.map_nil] at *
      rw [callL_code z2e (by simp)]; simp -implicitDefEqProofs (maxSteps := 4000000) (disch := omega) only [z25, z2x, getDT, go_sem, *] /-A0-/
    · rw [if_neg c2]
      have herr := tkF_err mx (now + vis) ep lim (ordD s.ready) s []
      generalize tkF mx (now + vis) ep lim (ordD s.ready) s [] = x at *
      generalize ordD s.ready = w at *
      obtain ⟨s2, out, e⟩ := x
      unfold tkR at hlp
      by_cases c3 : e = 0
      · subst c3
        clear herr
        simp only [if_true, tkS, shZ, List.map_nil, List.length_nil, Int.natCast_zero] at hlp
        simp only [eShard, eRing] at *
        rw [callL_code z2e (by simp)]; simp -implicitDefEqProofs (maxSteps := 4000000) (disch := omega) only [z25, z2x, getDT, go_sem, *] /-A1-/
      · simp only [if_neg c3, tkS, shZ, List.map_nil, List.length_nil, Int.natCast_zero] at hlp
        obtain ⟨q1, q2⟩ := herr c3
        simp only at q1 q2
        subst q1 q2
        clear herr
        simp only [eShard, eRing, zShard, List.map_nil] at *
        rw [callL_code z2e (by simp)]; simp -implicitDefEqProofs (maxSteps := 4000000) (disch := omega) only [z25, z2x, getDT, go_sem, *] /-A2-/
  · rw [if_pos c]
    generalize usE s (epQ ep && (liQ lim && (tiQ now && (viQ vis && decide (1 ≤ mx ∧ mx ≤ 6))))) = u at *
    generalize tiQ now = b1 at *
    generalize epQ ep = b2 at *
    generalize viQ vis = b4 at *
    generalize liQ lim = b5 at *
    generalize decide (1 ≤ mx ∧ mx ≤ 6) = b6 at *
    simp only [eShard, zShard, List.map_nil] at *
    rw [callL_code z2e (by simp)]; simp -implicitDefEqProofs (maxSteps := 4000000) (disch := omega) only [z25, z2x, getDT, go_sem, *] /-A3-/
end Go.Proofs.YtcjncbkhbllchaaGreat.L

namespace Go.Proofs.YtcjncbkhbllchaaGreat.L
open Go Go.Sim
set_option linter.unusedSimpArgs false
set_option linter.unusedVariables false
set_option maxHeartbeats 10000000
set_option maxRecDepth 40000
def expF : List Int → Shard → Shard × Int
  | [], s => (s, 0)
  | id :: l, s => if (relS s id).2.2 ≠ 0 then (zShard, (relS s id).2.2) else if (pbD (relS s id).1.ready (relS s id).2.1).2 ≠ 0 then (zShard, (pbD (relS s id).1.ready (relS s id).2.1).2) else expF l { (relS s id).1 with ready := (pbD (relS s id).1.ready (relS s id).2.1).1 }
def shC (s : Shard) : Prop := 1 ≤ s.ready.cells.length ∧ s.ready.cells.length ≤ 12 ∧ s.leases.l.length ≤ 12 ∧ s.leases.heap.length ≤ 12
theorem rel_C {s : Shard} (h : shC s) {id : Int} (h0 : (relS s id).2.2 = 0) : shC (relS s id).1 := by
  unfold relS at h0 ⊢
  split at h0
  · rename_i q
    rw [if_pos q]
    obtain ⟨a, b⟩ := tab_len (rel_valid q).1
    exact ⟨h.1, h.2.1, a, b⟩
  · rename_i q; exact absurd h0 q
theorem pb_cells {r : Ring} {m : Message} (h : (pbD r m).2 = 0) : (pbD r m).1.cells.length = r.cells.length := by
  unfold pbD at h ⊢
  split at h
  · rename_i q; rw [if_pos q]; exact wN_len _ _ _ _
  · rename_i q; exact absurd h q
theorem expF_err : ∀ (l : List Int) (s : Shard), (expF l s).2 ≠ 0 → (expF l s).1 = zShard := by
  intro l
  induction l with
  | nil => intro s h; exact absurd rfl h
  | cons id l ih =>
    intro s h
    rw [expF] at h ⊢
    split at h
    · rename_i q; rw [if_pos q]
    · rename_i q
      rw [if_neg q]
      split at h
      · rename_i q2; rw [if_pos q2]
      · rename_i q2; rw [if_neg q2]; exact ih _ h
def exS (u : List Int) (t : Shard × Nat) : St := ⟨[(4, .ref 4 0 0), (8, .ref 8 0 0), (12, .d (.sl (ints u))), (37, .d (.sl (ints u))), (38, .d (.int .i64 u.length)), (39, .d (.int .i64 t.2))], [(4, .row [.d (eShard t.1)]), (8, .row [shZ])]⟩
def exR (u : List Int) (x : Shard × Int) : AExit × St := if x.2 = 0 then (.exit 0, ⟨[(4, .ref 4 0 0), (8, .ref 8 0 0), (12, .d (.sl (ints u)))], [(4, .row [.d (eShard x.1)]), (8, .row [shZ])]⟩) else (.ret, ⟨[(8, .ref 8 0 0), (9, .xsl []), (10, .d (.int .i64 x.2))], [(8, .row [shZ])]⟩)
theorem exp_loop (u : List Int) (hl : u.length ≤ 12) : ∀ t : Shard × Nat, t.2 ≤ u.length ∧ shC t.1 → loopL G [] zZ (exS u t) = some (exR u (expF (u.drop t.2) t.1)) := by
  refine loop_ind (fun t => u.length - t.2) (fun t : Shard × Nat => t.2 ≤ u.length ∧ shC t.1) (exS u) (fun t => some (exR u (expF (u.drop t.2) t.1))) fun ⟨s, i⟩ ⟨hi, hs⟩ L ih => ?_
  simp only at hi hs
  by_cases h0 : i < u.length
  · simp only
    rw [List.drop_eq_getElem_cons h0, expF]
    have hr := release_ok s u[i] hs.1 hs.2.1 hs.2.2.1 hs.2.2.2
    by_cases c1 : (relS s u[i]).2.2 = 0
    · have hC := rel_C hs c1
      have hp := rpush_ok (relS s u[i]).1.ready (relS s u[i]).2.1 (by have := hC.2.1; omega)
      rw [if_neg (fun q => q c1)]
      by_cases c2 : (pbD (relS s u[i]).1.ready (relS s u[i]).2.1).2 = 0
      · have hpc := pb_cells c2
        rw [if_neg (fun q => q c2)]
        have i1 := ih ⟨{ (relS s u[i]).1 with ready := (pbD (relS s u[i]).1.ready (relS s u[i]).2.1).1 }, i + 1⟩ ⟨by simp only; omega, ⟨by simp only; rw [hpc]; exact hC.1, by simp only; rw [hpc]; exact hC.2.1, hC.2.2⟩⟩ (by simp only; omega)
        clear ih hC hpc
        simp only at i1
        generalize exR u (expF (u.drop (i + 1)) { (relS s u[i]).1 with ready := (pbD (relS s u[i]).1.ready (relS s u[i]).2.1).1 }) = R at *
        generalize pbD (relS s u[i]).1.ready (relS s u[i]).2.1 = p at *
        generalize relS s u[i] = r at *
        obtain ⟨s2, m, e⟩ := r
        obtain ⟨r2, e2⟩ := p
        simp only at c1 c2
        subst c1 c2
        simp only [exS, shZ, zZ] at *
        simp only [eShard, eMessage, eRing] at *
        simp only [Int.natCast_add, Int.natCast_one, Int.natCast_zero, Int.natCast_mul, Int.cast_ofNat_Int, List.length_append, List.length_map, List.map_nil, List.length_nil, List.map_append, List.map_cons, List.length_cons, Nat.zero_add, srcO, mapSet] at i1
        simp -implicitDefEqProofs (maxSteps := 4000000) (disch := omega) only [getDT, go_sem, *] /-A0-/
      · rw [if_pos c2]
        clear ih hC
        generalize pbD (relS s u[i]).1.ready (relS s u[i]).2.1 = p at *
        generalize relS s u[i] = r at *
        obtain ⟨s2, m, e⟩ := r
        obtain ⟨r2, e2⟩ := p
        simp only at c1 c2
        subst c1
        unfold exR
        rw [if_neg c2]
        simp only [exS, shZ, zZ] at *
        simp only [eShard, eMessage, eRing, zShard, List.map_nil] at *
        simp -implicitDefEqProofs (maxSteps := 4000000) (disch := omega) only [getDT, go_sem, *] /-A1-/
    · rw [if_pos c1]
      clear ih
      generalize relS s u[i] = r at *
      obtain ⟨s2, m, e⟩ := r
      simp only at c1
      unfold exR
      rw [if_neg c1]
      simp only [exS, shZ, zZ] at *
      simp only [eShard, eMessage, zShard, List.map_nil] at *
      simp -implicitDefEqProofs (maxSteps := 4000000) (disch := omega) only [getDT, go_sem, *] /-A2-/
  · clear ih
    obtain rfl : i = u.length := by omega
    simp only [List.drop_length, expF, exR, if_true]
    simp only [exS, shZ, eShard, zZ]
    simp -implicitDefEqProofs (maxSteps := 4000000) (disch := omega) only [getDT, go_sem, *] /-A3-/
end Go.Proofs.YtcjncbkhbllchaaGreat.L

namespace Go.Proofs.YtcjncbkhbllchaaGreat.L
open Go Go.Sim
set_option linter.unusedSimpArgs false
set_option linter.unusedVariables false
set_option maxHeartbeats 10000000
set_option maxRecDepth 40000
def expD (s : Shard) (now ep lim : Int) : Shard × List Int × Int :=
  if usE s (tiQ now && (epQ ep && liQ lim)) ≠ 0 then (zShard, [], usE s (tiQ now && (epQ ep && liQ lim)))
  else if (expF (lapsedD s.leases now ep) s).2 = 0 then ((expF (lapsedD s.leases now ep) s).1, lapsedD s.leases now ep, 0) else (zShard, [], (expF (lapsedD s.leases now ep) s).2)
theorem lapsed_le (t : Table) (now ep : Int) : (lapsedD t now ep).length ≤ 12 := by
  unfold lapsedD
  split
  · rename_i h; exact Nat.le_trans (List.length_filter_le _ _) (until_len h now)
  · simp
theorem expire_ok (s : Shard) (now ep lim : Int) (h1 : s.ready.cells.length ≤ 4294967296) (h2 : s.leases.l.length ≤ 4294967296) (h3 : s.leases.heap.length ≤ 4294967296) : callL G z1E [.d (eShard s), .d (.int .i64 now), .d (.int .i64 ep), .d (.int .i64 lim)] [] = some (.d (.tup [eShard (expD s now ep lim).1, .sl (ints (expD s now ep lim).2.1), .int .i64 (expD s now ep lim).2.2]), []) := by
  have hu := usableL_ok s [tiQ now, epQ ep, liQ lim] (by simp) h1 h2 h3
  have e1 := isTi_ok now
  have e2 := isEp_ok ep
  have e3 := isLi_ok lim
  simp only [List.map_cons, List.map_nil, List.all_cons, List.all_nil, id, Bool.and_true] at hu
  unfold expD
  by_cases c : usE s (tiQ now && (epQ ep && liQ lim)) = 0
  · obtain ⟨d1, d2, d3, d4⟩ := us_cells c
    have ho := sownL_ok s d1 d2 d3 d4
    have hl := lapsed_ok s.leases now ep (by omega) (by omega)
    have hlp := exp_loop (lapsedD s.leases now ep) (lapsed_le _ _ _) ⟨s, 0⟩ ⟨by simp, ⟨d1, d2, d3, d4⟩⟩
    have herr := expF_err (lapsedD s.leases now ep) s
    have hle := lapsed_le s.leases now ep
    rw [c] at hu
    rw [if_neg (fun q => q c)]
    clear c
    simp only [List.drop_zero] at hlp
    generalize expF (lapsedD s.leases now ep) s = x at *
    generalize lapsedD s.leases now ep = w at *
    generalize tiQ now = b1 at *
    generalize epQ ep = b2 at *
    generalize liQ lim = b4 at *
    obtain ⟨s2, e⟩ := x
    unfold exR at hlp
    by_cases c3 : e = 0
    · subst c3
      clear herr
      simp only [if_true, exS, shZ, Int.natCast_zero] at hlp ⊢
      simp only [eShard, eTable] at *
      rw [callL_code z4B (by simp)]; simp -implicitDefEqProofs (maxSteps := 4000000) (disch := omega) only [z2O, z5q, getDT, go_sem, *] /-A0-/
    · have q1 := herr c3
      simp only at q1
      subst q1
      clear herr
      simp only [if_neg c3, exS, shZ, Int.natCast_zero] at hlp ⊢
      simp only [eShard, eTable, zShard, List.map_nil, ints] at *
      rw [callL_code z4B (by simp)]; simp -implicitDefEqProofs (maxSteps := 4000000) (disch := omega) only [z2O, z5q, getDT, go_sem, *] /-A1-/
  · rw [if_pos c]
    generalize usE s (tiQ now && (epQ ep && liQ lim)) = u at *
    generalize tiQ now = b1 at *
    generalize epQ ep = b2 at *
    generalize liQ lim = b4 at *
    simp only [eShard, zShard, List.map_nil, ints] at *
    rw [callL_code z4B (by simp)]; simp -implicitDefEqProofs (maxSteps := 4000000) (disch := omega) only [z2O, z5q, getDT, go_sem, *] /-A2-/
def storD (s : Shard) : Int := if shardV s = 0 then s.ready.size + s.leases.l.length else 0
theorem Stored_ok (s : Shard) (h1 : s.ready.cells.length ≤ 4294967296) (h2 : s.leases.l.length ≤ 4294967296) (h3 : s.leases.heap.length ≤ 4294967296) : callL G z0k [.d (eShard s)] [] = some (.d (.int .i64 (storD s)), []) := by
  have h := shval_ok s h1 h2 h3
  unfold storD
  by_cases c : shardV s = 0
  · have hc : usE s true = 0 ∨ s.live = false := by
      cases hl : s.live
      · exact .inr rfl
      · left; unfold usE liveV; rw [if_neg, if_pos rfl]
        rw [if_neg (fun q => q c), if_pos hl]; simp
    have hb : 0 ≤ s.ready.size ∧ s.ready.size ≤ 12 ∧ s.leases.l.length ≤ 12 := by
      have hv := c
      unfold shardV at hv
      split at hv
      · rename_i q; exact absurd hv q
      · rename_i q1
        split at hv
        · rename_i q; exact absurd hv q
        · rename_i q2
          obtain ⟨a1, a2, a3, a4, a5, a6⟩ := ringV_zero (Classical.not_not.1 q1)
          obtain ⟨b1, b2⟩ := tab_len (Classical.not_not.1 q2)
          exact ⟨a5, by omega, b1⟩
    have hs := stored_ok s hb.2.2 hb.1 hb.2.1
    rw [c] at h
    rw [if_pos c]
    clear c hc
    simp only [eShard] at *
    rw [callL_code z6P (by simp)]; simp -implicitDefEqProofs (maxSteps := 4000000) (disch := omega) only [z5N, z7T, getDT, go_sem, *] /-A3-/
  · rw [if_neg c]
    generalize shardV s = v at *
    simp only [eShard] at *
    rw [callL_code z6P (by simp)]; simp -implicitDefEqProofs (maxSteps := 4000000) (disch := omega) only [z5N, z7T, getDT, go_sem, *] /-A4-/
end Go.Proofs.YtcjncbkhbllchaaGreat.L
