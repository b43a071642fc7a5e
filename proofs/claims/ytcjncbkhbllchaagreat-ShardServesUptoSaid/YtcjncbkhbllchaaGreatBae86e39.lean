/-
  Part of the calculus in which the claim is proved: Shards: Take
-/
import Derived.Test.YtcjncbkhbllchaaGreatBb3af376
import Derived.Test.YtcjncbkhbllchaaGreatB67c0517
set_option linter.unusedSimpArgs false
set_option linter.unusedVariables false
set_option maxHeartbeats 10000000
set_option maxRecDepth 100000
namespace Go.Proofs.YtcjncbkhbllchaaGreat.L
open Go Go.Sim Go.Proofs.YtcjncbkhbllchaaGreat
def msgOf (t : Table) (id : Int) : Message := (t.l.getD (findL t.l id).toNat zLease).msg
def keepP (t : Table) (ep : Int) (id : Int) : Bool := !decide ((msgOf t id).epoch < ep)
def lapsedD (t : Table) (now ep : Int) : List Int := if tabV t = 0 then (untilD t.heap now).filter (keepP t ep) else []
theorem zAW {t : Table} (h : tabV t = 0) (now : Int) (id : Int) : id ∈ untilD t.heap now ↔ ∃ x ∈ t.l, x.msg.id = id ∧ x.deadline ≤ now := by
 obtain ⟨q1, q2, q3, q4⟩ := (zk1 t).1 h
 unfold untilD
 rw [if_pos ((zla _).2 q3)]
 have hp := (zqd t.heap 1 (fun p q hp hq => by omega)).2
 unfold dueIds
 constructor
 · intro hm
   obtain ⟨d, hd, e⟩ := List.mem_map.1 hm
   obtain ⟨hd, hn⟩ := List.mem_filter.1 hd
   obtain ⟨x, hx, e2⟩ := List.mem_map.1 (q4.mem_iff.1 (hp.mem_iff.1 hd))
   subst e2
   exact ⟨x, hx, e, of_decide_eq_true hn⟩
 · rintro ⟨x, hx, e, hn⟩
   exact List.mem_map.2 ⟨dueOf x, List.mem_filter.2 ⟨hp.mem_iff.2 (q4.mem_iff.2 (List.mem_map.2 ⟨x, hx, rfl⟩)), decide_eq_true hn⟩, e⟩
theorem zAU {t : Table} (h : tabV t = 0) {now id : Int} (hm : id ∈ untilD t.heap now) : 0 ≤ findL t.l id :=
 let ⟨x, hx, e, _⟩ := (zAW h now id).1 hm
 (zl0 id).2 ⟨x, hx, e⟩
theorem ztm {t : Table} (h : tabV t = 0) (now : Int) : (untilD t.heap now).length ≤ 12 := by
 obtain ⟨q1, q2, q3, q4⟩ := (zk1 t).1 h
 unfold untilD
 rw [if_pos ((zla _).2 q3)]
 have hp := (zqd t.heap 1 (fun p q hp hq => by omega)).2.length_eq
 have := q3.len
 unfold dueIds
 rw [List.length_map]
 exact Nat.le_trans (List.length_filter_le _ _) (by omega)
theorem zxj (t : Table) (ep id : Int) (h : tabV t = 0) (hf : 0 ≤ findL t.l id) : callL G zZ [.d (.int .i64 id), .d (.pd (eTable t)), .d (.pd (.int .i64 ep))] [] = some (.d (.bool (!keepP t ep id)), []) := by
 obtain ⟨h12, hE, hD, hM⟩ := zk6 h
 have ha := zk8 hE
 have hfd := zo4 t id (by omega) ha
 obtain ⟨hp, e⟩ := (znc ha id).1 hf
 have e2 := znV ha hf
 have hP := zy8 t.l[posL t.l id].msg ep
 unfold keepP msgOf
 rw [e2, Int.toNat_natCast, getDT hp, Bool.not_not]
 simp only [hf, decide_true, eTable, eMessage] at hfd hP ⊢
 clear e e2 hf
 rw [zjI zbo (by simp)]; simp -implicitDefEqProofs (disch := omega) only [zab, eLease, getDT, go_sem, *]
theorem zrv (l : List Int) (g : Nat) (cs : List D) (p : Int → Bool) (hL : l.length ≤ 4294967296) (hp : ∀ a ∈ l, callL G g (.d (.int .i64 a) :: cs.map .d) [] = some (.d (.bool (p a)), [])) : callL G z2Y [.d (.sl (ints l)), .d (.fn g cs)] [] = some (.d (.int .i64 (idxI p l)), []) := by
 have := zl3 (G := G) (x := l_slices_IndexFunc_int_0) (ks := []) l.length (atB l p) (fun k => ⟨[(0, .d (.sl (ints l))), (1, .d (.fn g cs)), (7, .d (.int .i64 l.length)), (8, .d (.int .i64 k))], []⟩) (fun k => (.ret, ⟨[(4, .d (.int .i64 k))], []⟩)) (.exit 0, ⟨[], []⟩) (fun k hk L => by
  simp only [l_slices_IndexFunc_int_0]
  by_cases h0 : k < l.length
  · have h1 := hp l[k] (List.getElem_mem h0)
    simp only [atB_at h0]
    cases h2 : p l[k]
    · rw [h2] at h1
      simp -implicitDefEqProofs (disch := omega) only [go_sem, h1]
    · rw [h2] at h1
      simp -implicitDefEqProofs (disch := omega) only [go_sem, h1]
  · simp -implicitDefEqProofs (disch := omega) only [go_sem, Nat.zero_add])
 rw [znu] at this
 simp only [Int.natCast_add, Int.natCast_one, Int.natCast_zero, Int.natCast_mul, Int.cast_ofNat_Int, List.length_append, List.length_map, List.map_nil, List.length_nil, List.map_append, List.map_cons, List.length_cons, Nat.zero_add, srcO, mapSet] at this
 unfold idxI
 cases h : l.findIdx? p with
 | none => rw [h] at this; rw [zjI z8L (by simp)]; simp -implicitDefEqProofs (disch := omega) only [z78, go_sem, this]
 | some i => rw [h] at this; rw [zjI z8L (by simp)]; simp -implicitDefEqProofs (disch := omega) only [z78, go_sem, this]
structure DF where
 i : Nat
 j : Nat
 R : List Int
def dfS (g : Nat) (cs : List D) (n : Nat) (s : DF) : St := ⟨[(0, .osl 1000000 0 n), (1, .d (.fn g cs)), (5, .d (.int .i64 s.i)), (6, .d (.int .i64 s.j)), (1000000, .ref 1000000 1 0)], [(1000000, .row ((ints s.R).map .d))]⟩
def dfInv (u : List Int) (p : Int → Bool) (s : DF) : Prop := s.i ≤ s.j ∧ s.j ≤ u.length ∧ s.R.length = u.length ∧ s.R.take s.i = (u.take s.j).filter (fun a => !p a) ∧ s.R.drop s.j = u.drop s.j
def dfPhi (g : Nat) (cs : List D) (u : List Int) (p : Int → Bool) (r : Option (AExit × St)) : Prop := ∃ R : List Int, ∃ i : Nat, R.length = u.length ∧ i ≤ u.length ∧ R.take i = u.filter (fun a => !p a) ∧ r = some (.exit 0, ⟨[(0, .osl 1000000 0 u.length), (5, .d (.int .i64 i)), (1000000, .ref 1000000 1 0)], [(1000000, .row ((ints R).map .d))]⟩)
theorem zuY (g : Nat) (cs : List D) (u : List Int) (p : Int → Bool) (hL : u.length ≤ 1000) (hp : ∀ a ∈ u, callL G g (.d (.int .i64 a) :: cs.map .d) [] = some (.d (.bool (p a)), [])) : ∀ s : DF, dfInv u p s → dfPhi g cs u p (loopL G [] l_slices_DeleteFunc_int_0 (dfS g cs u.length s)) := by
 refine znh (fun s : DF => u.length - s.j) (dfInv u p) (dfS g cs u.length) (fun _ => Post (dfPhi g cs u p)) fun ⟨i, j, R⟩ hinv L ih => ?_
 obtain ⟨h1, h2, h3, h4, h5⟩ := hinv
 simp only at h1 h2 h3 h4 h5
 by_cases h0 : j < u.length
 · have hRj : R[j]'(by omega) = u[j] := by
    have := congrArg (fun l => l[0]?) h5
    simp only [List.getElem?_drop, Nat.add_zero] at this
    rw [List.getElem?_eq_getElem (show j < R.length by omega), List.getElem?_eq_getElem h0] at this
    exact Option.some.inj this
   have hc := hp u[j] (List.getElem_mem h0)
   have hg : ((ints R).map AV.d)[j]? = some (.d (.int .i64 u[j])) := by simp [ints, List.getElem?_eq_getElem (show j < R.length by omega), hRj]
   have htk : u.take (j + 1) = u.take j ++ [u[j]] := by rw [List.take_add_one, List.getElem?_eq_getElem h0]; rfl
   by_cases hpj : p u[j] = true
   · have i1 := ih ⟨i, j + 1, R⟩ ⟨by simp only; omega, by simp only; omega, h3, by
      simp only
      rw [htk, List.filter_append, h4]
      simp [hpj], by
      simp only
      have := congrArg (List.drop 1) h5
      simpa [List.drop_drop, Nat.add_comm] using this⟩ (by simp only; omega)
     rw [hpj] at hc
     clear ih hp
     simp only [dfS, l_slices_DeleteFunc_int_0] at i1 ⊢
     simp only [Int.natCast_add, Int.natCast_one, Int.natCast_zero, Int.natCast_mul, Int.cast_ofNat_Int, List.length_append, List.length_map, List.map_nil, List.length_nil, List.map_append, List.map_cons, List.length_cons, Nat.zero_add, srcO, mapSet] at i1
     simp -implicitDefEqProofs (disch := omega) only [getDT, go_sem, *]
   · have hpj : p u[j] = false := by simpa using hpj
     have i1 := ih ⟨i + 1, j + 1, R.set i u[j]⟩ ⟨by simp only; omega, by simp only; omega, by simpa using h3, by
      simp only
      rw [htk, List.filter_append, ← h4, List.take_add_one, List.getElem?_set_self (by omega), List.take_set_of_le (by omega)]
      simp [hpj], by
      simp only
      rw [List.drop_set_of_lt (by omega)]
      have := congrArg (List.drop 1) h5
      simpa [List.drop_drop, Nat.add_comm] using this⟩ (by simp only; omega)
     rw [hpj] at hc
     have hst : ((ints R).map AV.d).set i (.d (.int .i64 u[j])) = (ints (R.set i u[j])).map AV.d := by simp [ints, List.map_set]
     have hgi : ((ints R).map AV.d)[i]? = some (.d (.int .i64 (R[i]'(by omega)))) := by simp [ints, List.getElem?_eq_getElem (show i < R.length by omega)]
     clear ih hp
     simp only [dfS, l_slices_DeleteFunc_int_0] at i1 ⊢
     simp only [Int.natCast_add, Int.natCast_one, Int.natCast_zero, Int.natCast_mul, Int.cast_ofNat_Int, List.length_append, List.length_map, List.map_nil, List.length_nil, List.map_append, List.map_cons, List.length_cons, Nat.zero_add, srcO, mapSet] at i1
     simp -implicitDefEqProofs (disch := omega) only [getDT, go_sem, *]
 · have : j = u.length := by omega
   subst this
   clear ih hp
   rw [List.take_length] at h4
   simp only [dfS, l_slices_DeleteFunc_int_0]
   simp -implicitDefEqProofs (disch := omega) only [getDT, go_sem, *]
   exact ⟨R, i, h3, by omega, h4, rfl⟩
theorem zvR {u : List Int} {p : Int → Bool} {k : Nat} (hk : k < u.length) (h1 : p u[k] = true) (h2 : ∀ j (hj : j < k), p (u[j]'(by omega)) = false) : u.take k = (u.take (k + 1)).filter (fun a => !p a) := by
 have htk : u.take (k + 1) = u.take k ++ [u[k]] := by rw [List.take_add_one, List.getElem?_eq_getElem hk]; rfl
 rw [htk, List.filter_append]
 have e1 : (u.take k).filter (fun a => !p a) = u.take k := by
  rw [List.filter_eq_self]
  intro a ha
  obtain ⟨j, hj, rfl⟩ := List.getElem_of_mem ha
  simp only [List.length_take] at hj
  rw [List.getElem_take, h2 j (by omega)]
  rfl
 rw [e1]
 simp [h1]
theorem df_ok (g : Nat) (cs : List D) (u : List Int) (p : Int → Bool) (h : u ≠ []) (hL : u.length ≤ 1000) (hp : ∀ a ∈ u, callL G g (.d (.int .i64 a) :: cs.map .d) [] = some (.d (.bool (p a)), [])) :
    callL G z13 [.osl 1000000 0 u.length, .d (.fn g cs)] [(1000000, .row ((ints u).map .d))] = some (.osl 1000000 0 (u.filter fun a => !p a).length, [(1000000, .row ((ints (u.filter fun a => !p a)).map .d))]) := by
 have hi := zrv u g cs p (by omega) hp
 have hall : allD ((ints u).map AV.d) = some (ints u) := zlb _
 have hlen : (ints u).length = u.length := by simp [ints]
 have htl : (ints u).take u.length = ints u := List.take_of_length_le (by omega)
 by_cases h1 : idxI p u = -1
 · have hn := (znv u p).1 (by omega)
   have hf : u.filter (fun a => !p a) = u := by
    rw [List.filter_eq_self]
    intro a ha
    rw [hn a ha]; rfl
   rw [hf]
   rw [h1] at hi
   clear hp
   rw [zjI z6k (by simp)]; simp -implicitDefEqProofs (disch := omega) only [z45, getDT, go_sem, *]
 · have hlt := zrt u p
   obtain ⟨k, hk⟩ : ∃ k : Nat, idxI p u = k := ⟨(idxI p u).toNat, by omega⟩
   obtain ⟨hku, k1, k2⟩ := zwH hk
   obtain ⟨R, i, r1, r2, r3, hl⟩ := zuY g cs u p hL hp ⟨k, k + 1, u⟩ ⟨by simp, by simp only; omega, rfl, zvR hku k1 k2, rfl⟩
   have hil : (u.filter fun a => !p a).length = i := by rw [← r3]; simp; omega
   have hne : R ≠ [] := by rintro rfl; simp at r1; exact h (by rw [← List.length_eq_zero_iff]; omega)
   have hrow : ((ints R).map AV.d).take i = (ints (u.filter fun a => !p a)).map AV.d := by rw [← r3]; simp [ints, List.map_take]
   have hhd : (((ints R).map AV.d).head?).map AV.size = some 1 := by
    cases R with
    | nil => exact absurd rfl hne
    | cons a R => rfl
   simp only [dfS] at hl
   rw [hk] at hi
   rw [hil]
   simp only [Int.natCast_add, Int.natCast_one, Int.natCast_zero, Int.natCast_mul, Int.cast_ofNat_Int, List.length_append, List.length_map, List.map_nil, List.length_nil, List.map_append, List.map_cons, List.length_cons, Nat.zero_add, srcO, mapSet] at hl
   clear hp k2 hk h1
   have e5 : i + (u.length - i) = u.length := by omega
   rw [zjI z6k (by simp)]; simp -implicitDefEqProofs (disch := omega) only [z45, getDT, go_sem, *]; (try simp only [pA, pB, pC, pD, pE, pF, pG, pH, pI, pJ, pK, pL, pM, pN, pO, pP, if_true, if_false]); repeat' (first | done | rfl | ((first | refine iteC (fun hq => ?_) (fun hq => ?_) | refine iteP (fun hq => ?_) (fun hq => ?_)) <;> (try (first | (exfalso; omega) | contradiction)) <;> (try simp -implicitDefEqProofs (disch := omega) only [getDT, go_sem, *]) <;> (try simp only [pA, pB, pC, pD, pE, pF, pG, pH, pI, pJ, pK, pL, pM, pN, pO, pP, if_true, if_false]))); (all_goals try rfl); (all_goals try (repeat' (first | done | rfl | (exfalso; omega) | contradiction | (refine iteR (fun hq => ?_) (fun hq => ?_)))))
theorem df0_ok (g : Nat) (cs : List D) : callL G z13 [.xsl [], .d (.fn g cs)] [] = some (.xsl [], []) := by
 have hi := zrv [] g cs (fun _ => false) (by simp) (by simp)
 have e : idxI (fun _ : Int => false) [] = -1 := rfl
 rw [e] at hi
 simp only [ints, List.map_nil] at hi
 rw [zjI z6k (by simp)]; simp -implicitDefEqProofs (disch := omega) only [z45, getDT, go_sem, *]
theorem urow (h : List Due) (now : Int) (hL : h.length ≤ 4294967296) (h0 : validateD h = 0) (h1 : untilD h now ≠ []) : callL G zn [.d (.sl (h.map eD)), .d (.int .i64 now)] [] = some (.osl 0 0 (untilD h now).length, [(0, .row ((ints (untilD h now)).map .d))]) := by
 have := zrF zeA (es := ints (untilD h now)) (by simpa [ints] using h1) (by have := ztl h now hL h0; simpa [ints] using this)
 rwa [show (ints (untilD h now)).length = (untilD h now).length by simp [ints]] at this
theorem urow0 (h : List Due) (now : Int) (hL : h.length ≤ 4294967296) (h0 : validateD h = 0) (h1 : untilD h now = []) : callL G zn [.d (.sl (h.map eD)), .d (.int .i64 now)] [] = some (.xsl [], []) := by
 have := ztl h now hL h0
 rw [h1] at this
 exact zrG zeA this
theorem zrd : ∀ w : List Int, AV.flatL ((ints w).map AV.d) = true
 | [] => rfl
 | a :: w => by show (AV.flat (.d (.int .i64 a)) && AV.flatL ((ints w).map AV.d)) = true; rw [zrd w]; rfl
theorem zxk (t : Table) (now ep : Int) (hL : t.l.length ≤ 4294967296) (hH : t.heap.length ≤ 4294967296) : callL G z1J [.d (eTable t), .d (.int .i64 now), .d (.int .i64 ep)] [] = some (.d (.sl (ints (lapsedD t now ep))), []) := by
 have hv := znz t hL hH
 unfold lapsedD
 by_cases h1 : tabV t = 0
 · rw [if_pos h1]
   obtain ⟨h12, hE, hD, hM⟩ := zk6 h1
   rw [h1] at hv
   by_cases h2 : untilD t.heap now = []
   · have hu := urow0 t.heap now hH hD h2
     have hd := df0_ok zZ [.pd (eTable t), .pd (.int .i64 ep)]
     rw [h2]
     simp only [eTable, List.filter_nil, ints, List.map_nil] at hv hd ⊢
     rw [zjI z64 (by simp)]; simp -implicitDefEqProofs (disch := omega) only [z3E, getDT, go_sem, *]
   · have hu := urow t.heap now hH hD h2
     have hd := df_ok zZ [.pd (eTable t), .pd (.int .i64 ep)] (untilD t.heap now) (fun a => !keepP t ep a) h2 (by have := ztm h1 now; omega) (fun a ha => zxj t ep a h1 (zAU h1 ha))
     simp only [Bool.not_not] at hd
     have e : (untilD t.heap now).filter (fun a => keepP t ep a) = (untilD t.heap now).filter (keepP t ep) := rfl
     rw [e] at hd
     have hall : allD ((ints ((untilD t.heap now).filter (keepP t ep))).map AV.d) = some (ints ((untilD t.heap now).filter (keepP t ep))) := zlb _
     have hlen : (ints ((untilD t.heap now).filter (keepP t ep))).length = ((untilD t.heap now).filter (keepP t ep)).length := by simp [ints]
     have htl : (ints ((untilD t.heap now).filter (keepP t ep))).take ((untilD t.heap now).filter (keepP t ep)).length = ints ((untilD t.heap now).filter (keepP t ep)) := List.take_of_length_le (by omega)
     have hfl := zrd ((untilD t.heap now).filter (keepP t ep))
     generalize (untilD t.heap now).filter (keepP t ep) = w at *
     generalize untilD t.heap now = u at *
     simp only [eTable] at hv hd ⊢
     rw [zjI z64 (by simp)]; simp -implicitDefEqProofs (disch := omega) only [z3E, getDT, go_sem, *]
 · rw [if_neg h1]
   simp only [eTable] at hv ⊢
   rw [zjI z64 (by simp)]; simp -implicitDefEqProofs (disch := omega) only [z3E, getDT, go_sem, *]
end Go.Proofs.YtcjncbkhbllchaaGreat.L

namespace Go.Proofs.YtcjncbkhbllchaaGreat
open Go Go.Sim
theorem zwF (l : List Bool) (hL : l.length ≤ 1000) : callL G z14 [.d (.sl (l.map D.bool)), .d (.bool false)] [] = some (.d (.int .i64 (idxI (fun b : Bool => !b) l)), []) := by
 have := zl3 (G := G) (x := l_slices_Index_bool_0) (ks := []) l.length (atB l fun b : Bool => !b) (fun k => ⟨[(0, .d (.sl (l.map D.bool))), (1, .d (.bool false)), (7, .d (.int .i64 l.length)), (8, .d (.int .i64 k))], []⟩) (fun k => (.ret, ⟨[(4, .d (.int .i64 k))], []⟩)) (.exit 0, ⟨[], []⟩) (fun k hk L => by
  simp only [l_slices_Index_bool_0]
  by_cases h0 : k < l.length
  · rw [if_pos h0]
    simp only [atB_at h0]
    cases h1 : l[k]
    · simp only [Bool.not_false, if_true]
      simp -implicitDefEqProofs (disch := omega) only [getDT, go_sem, *]
    · simp only [Bool.not_true, Bool.false_eq_true, if_false]
      simp -implicitDefEqProofs (disch := omega) only [getDT, go_sem, *]
  · rw [if_neg h0]
    simp -implicitDefEqProofs (disch := omega) only [getDT, go_sem, *])
 rw [znu] at this
 simp only [Int.natCast_add, Int.natCast_one, Int.natCast_zero, Int.natCast_mul, Int.cast_ofNat_Int, List.length_append, List.length_map, List.map_nil, List.length_nil, List.map_append, List.map_cons, List.length_cons, Nat.zero_add, srcO, mapSet] at this
 unfold idxI
 cases h : l.findIdx? (fun b : Bool => !b) with
 | none => rw [h] at this; rw [zjI z0I (by simp)]; simp -implicitDefEqProofs (disch := omega) only [z0D, getDT, go_sem, *]
 | some i => rw [h] at this; rw [zjI z0I (by simp)]; simp -implicitDefEqProofs (disch := omega) only [z0D, getDT, go_sem, *]
theorem zuD (l : List Bool) (hL : l.length ≤ 1000) : callL G z12 [.d (.sl (l.map D.bool)), .d (.bool false)] [] = some (.d (.bool (l.any fun b => !b)), []) := by
 have h := zwF l hL
 rw [zjI z1n (by simp)]; simp -implicitDefEqProofs (disch := omega) only [z1g, zoF, getDT, go_sem, *]
theorem anyAll (l : List Bool) : (l.any fun b => !b) = !(l.all id) := by
 induction l with
 | nil => rfl
 | cons b l ih => simp only [List.any_cons, List.all_cons, ih]; cases b <;> simp
def usE (s : Shard) (b : Bool) : Int := if liveV s ≠ 0 then liveV s else if b = true then 0 else 1
theorem znM (s : Shard) (l : List Bool) (hL : l.length ≤ 1000) (h1 : s.ready.cells.length ≤ 4294967296) (h2 : s.leases.l.length ≤ 4294967296) (h3 : s.leases.heap.length ≤ 4294967296) : callL G zN [.d (eShard s), .d (.sl (l.map D.bool))] [] = some (.d (.int .i64 (usE s (l.all id))), []) := by
 have hv := zo5 s h1 h2 h3
 have hc := zuD l hL
 rw [anyAll] at hc
 unfold usE
 generalize l.all id = b at *
 generalize l.map D.bool = w at *
 by_cases c : liveV s = 0
 · rw [c] at hv
   simp only [c, ne_eq, not_true_eq_false, if_false]
   simp only [eShard] at *
   cases b
   · rw [zjI z1m (by simp)]; simp -implicitDefEqProofs (disch := omega) only [z0A, getDT, go_sem, *]
   · rw [zjI z1m (by simp)]; simp -implicitDefEqProofs (disch := omega) only [z0A, getDT, go_sem, *]
 · simp only [c, ne_eq, not_false_eq_true, if_true]
   generalize liveV s = v at *
   simp only [eShard] at *
   rw [zjI z1m (by simp)]; simp -implicitDefEqProofs (disch := omega) only [z0A, getDT, go_sem, *]
end Go.Proofs.YtcjncbkhbllchaaGreat

namespace Go.Proofs.YtcjncbkhbllchaaGreat.L
open Go Go.Sim
theorem zpk (es : List D) (hs : allSize 7 es = true) (hL : es.length ≤ 4294967296) : callL G z11 [.d (.sl es)] [] = some (.acc 0 es, [(0, .acc es.length)]) := by
 cases es with
 | nil =>
  refine znQ z3y (by decide) ?_ ?_
  · simp -implicitDefEqProofs only [z0C, go_sem]
  · simp -implicitDefEqProofs only [z0C, Nat.zero_le, go_sem]
 | cons e es =>
  rw [znP z3y (by simp) (by decide)]
  simp only [znq] at hs
  simp only [List.length_cons] at hL
  simp -implicitDefEqProofs (disch := omega) only [z0C, go_sem, *]
theorem zpj (es : List D) (hs : allSize 2 es = true) (hL : es.length ≤ 4294967296) : callL G z0s [.d (.sl es)] [] = some (.acc 0 es, [(0, .acc es.length)]) := by
 cases es with
 | nil =>
  refine znQ z3x (by decide) ?_ ?_
  · simp -implicitDefEqProofs only [z0B, go_sem]
  · simp -implicitDefEqProofs only [z0B, Nat.zero_le, go_sem]
 | cons e es =>
  rw [znP z3x (by simp) (by decide)]
  simp only [znq] at hs
  simp only [List.length_cons] at hL
  simp -implicitDefEqProofs (disch := omega) only [z0B, go_sem, *]
def epQ (n : Int) : Bool := decide (0 ≤ n ∧ n ≤ 65536)
def liQ (n : Int) : Bool := decide (1 ≤ n ∧ n ≤ 8)
def tiQ (n : Int) : Bool := decide (0 ≤ n ∧ n ≤ 1073741824)
def viQ (n : Int) : Bool := decide (0 ≤ n ∧ n ≤ 1000)
theorem zl1 (n : Int) : callL G z0Z [.d (.int .i64 n)] [] = some (.d (.bool (epQ n)), []) := by
 have h := sin_ok n 0 65536
 unfold epQ
 generalize decide (0 ≤ n ∧ n ≤ 65536) = b at *
 rw [zjI z8F (by simp)]; simp -implicitDefEqProofs (disch := omega) only [z72, getDT, go_sem, *]
theorem zpA (n : Int) : callL G z10 [.d (.int .i64 n)] [] = some (.d (.bool (liQ n)), []) := by
 have h := sin_ok n 1 8
 unfold liQ
 generalize decide (1 ≤ n ∧ n ≤ 8) = b at *
 rw [zjI z8G (by simp)]; simp -implicitDefEqProofs (disch := omega) only [z73, getDT, go_sem, *]
theorem znw (n : Int) : callL G z2N [.d (.int .i64 n)] [] = some (.d (.bool (tiQ n)), []) := by
 have h := sin_ok n 0 1073741824
 unfold tiQ
 generalize decide (0 ≤ n ∧ n ≤ 1073741824) = b at *
 rw [zjI zc0 (by simp)]; simp -implicitDefEqProofs (disch := omega) only [zaP, getDT, go_sem, *]
theorem zry (n : Int) : callL G z2O [.d (.int .i64 n)] [] = some (.d (.bool (viQ n)), []) := by
 have h := sin_ok n 0 1000
 unfold viQ
 generalize decide (0 ≤ n ∧ n ≤ 1000) = b at *
 rw [zjI zc1 (by simp)]; simp -implicitDefEqProofs (disch := omega) only [zaQ, getDT, go_sem, *]
theorem znK (s : Shard) (h0 : 1 ≤ s.ready.cells.length) (h1 : s.ready.cells.length ≤ 12) (h2 : s.leases.l.length ≤ 12) (h3 : s.leases.heap.length ≤ 12) : callL G z2Q [.d (eShard s)] [] = some (.d (eShard s), []) := by
 have hc := zpk (s.ready.cells.map eMessage) (zkh _) (by simp; omega)
 have hd := zpj (s.leases.heap.map eD) (zjT _) (by simp; omega)
 obtain ⟨lv, lo, hi, ⟨c, h, z⟩, ⟨tl, th⟩⟩ := s
 simp only [eShard] at *
 simp only [Int.natCast_add, Int.natCast_one, Int.natCast_zero, Int.natCast_mul, Int.cast_ofNat_Int, List.length_append, List.length_map, List.map_nil, List.length_nil, List.map_append, List.map_cons, List.length_cons, Nat.zero_add, srcO, mapSet] at hc hd
 by_cases e : tl = []
 · subst e
   have hr := crow0
   simp only [List.map_nil]
   rw [zjI z8I (by simp)]; simp -implicitDefEqProofs (disch := omega) only [z74, getDT, go_sem, *]
 · have hr := crow tl e (by omega)
   have hw : (tl.map eLease).length = tl.length := List.length_map ..
   have ht : (tl.map eLease).take tl.length = tl.map eLease := List.take_of_length_le (by omega)
   generalize tl.map eLease = w at *
   rw [zjI z8I (by simp)]; simp -implicitDefEqProofs (disch := omega) only [z74, Nat.min_self, getDT, go_sem, *]
def relS (s : Shard) (id : Int) : Shard × Message × Int := if (relD s.leases id).2.2 = 0 then ({ s with leases := (relD s.leases id).1 }, (relD s.leases id).2.1, 0) else (zShard, zMessage, (relD s.leases id).2.2)
theorem zq4 (s : Shard) (id : Int) (h0 : 1 ≤ s.ready.cells.length) (h1 : s.ready.cells.length ≤ 12) (h2 : s.leases.l.length ≤ 12) (h3 : s.leases.heap.length ≤ 12) : callL G z2R [.d (eShard s), .d (.int .i64 id)] [] = some (.d (.tup [eShard (relS s id).1, eMessage (relS s id).2.1, .int .i64 (relS s id).2.2]), []) := by
 have hr := rel_ok s.leases id (by omega) (by omega)
 have ho := znK s h0 h1 h2 h3
 unfold relS
 generalize relD s.leases id = r at *
 obtain ⟨t, m, e⟩ := r
 obtain ⟨lv, lo, hi, ⟨c, h, z⟩, ⟨tl, th⟩⟩ := s
 by_cases c0 : e = 0
 · subst c0
   simp only [if_true]
   simp only [eShard, eTable, eMessage] at *
   rw [zjI z8J (by simp)]; simp -implicitDefEqProofs (disch := omega) only [z75, getDT, go_sem, *]
 · simp only [c0, if_false]
   clear ho
   simp only [eShard, eTable, eMessage, zShard, zMessage, List.map_nil] at *
   rw [zjI z8J (by simp)]; simp -implicitDefEqProofs (disch := omega) only [z75, getDT, go_sem, *]
theorem zs8 (m : Message) (ep : Int) : callL G zp [.d (eMessage m), .d (.int .i64 ep)] [] = some (.d (.bool (decide (m.epoch < ep))), []) := by
 rw [zeD]; exact zpS m ep
def holdsB (s : Shard) (h : Handle) (now ep : Int) : Bool := (findT s.leases h.id).2 && (decide ((findT s.leases h.id).1.msg.gen = h.gen) && (decide ((findT s.leases h.id).1.msg.route = h.route) && (!decide ((findT s.leases h.id).1.msg.epoch < ep) && decide (now < (findT s.leases h.id).1.deadline))))
theorem zoE (s : Shard) (h : Handle) (now ep : Int) (h2 : s.leases.l.length ≤ 12) (h3 : s.leases.heap.length ≤ 12) : callL G z2M [.d (eShard s), .d (eHandle h), .d (.int .i64 now), .d (.int .i64 ep)] [] = some (.d (.bool (holdsB s h now ep)), []) := by
 have hf := L.find_ok s.leases h.id (by omega) (by omega)
 unfold holdsB
 generalize findT s.leases h.id = f at *
 obtain ⟨x, b⟩ := f
 have hp := zs8 x.msg ep
 simp only [eShard, eTable, eHandle, eLease, eMessage] at *
 cases b
 · simp only [Bool.false_and]
   rw [zjI z8D (by simp)]; simp -implicitDefEqProofs (disch := omega) only [z71, getDT, go_sem, *]
 · simp only [Bool.true_and]
   rw [zjI z8D (by simp)]; simp -implicitDefEqProofs (disch := omega) only [z71, getDT, go_sem, *]
theorem ztt (s : Shard) (h : Handle) (now ep : Int) (h1 : s.ready.cells.length ≤ 4294967296) (h2 : s.leases.l.length ≤ 12) (h3 : s.leases.heap.length ≤ 12) : callL G z0V [.d (eShard s), .d (eHandle h), .d (.int .i64 now), .d (.int .i64 ep)] [] = some (.d (.bool (decide (usE s (tiQ now && epQ ep) = 0) && holdsB s h now ep)), []) := by
 have hu := znM s [tiQ now, epQ ep] (by simp) h1 (by omega) (by omega)
 have hh := zoE s h now ep h2 h3
 have e1 := znw now
 have e2 := zl1 ep
 simp only [List.map_cons, List.map_nil, List.all_cons, List.all_nil, id, Bool.and_true] at hu
 generalize usE s (tiQ now && epQ ep) = u at *
 generalize tiQ now = b1 at *
 generalize epQ ep = b2 at *
 generalize holdsB s h now ep = b3 at *
 simp only [eShard, eHandle] at *
 by_cases c : u = 0
 · subst c
   simp only [decide_true, Bool.true_and]
   rw [zjI z8A (by simp)]; simp -implicitDefEqProofs (disch := omega) only [z6Y, getDT, go_sem, *]
 · rw [decide_eq_false c, Bool.false_and]
   rw [zjI z8A (by simp)]; simp -implicitDefEqProofs (disch := omega) only [z6Y, getDT, go_sem, *]
def ackD (s : Shard) (h : Handle) (now ep : Int) : Shard × Int := if usE s (tiQ now && epQ ep) ≠ 0 then (zShard, usE s (tiQ now && epQ ep)) else if holdsB s h now ep = true then ((relS s h.id).1, (relS s h.id).2.2) else (zShard, 5)
theorem zkv {s : Shard} {b : Bool} (h : usE s b = 0) : 1 ≤ s.ready.cells.length ∧ s.ready.cells.length ≤ 12 ∧ s.leases.l.length ≤ 12 ∧ s.leases.heap.length ≤ 12 := by
 have hl : liveV s = 0 := by
  unfold usE at h
  split at h
  · rename_i q; exact absurd h q
  · rename_i q; exact Classical.not_not.1 q
 have hv : shardV s = 0 := by
  unfold liveV at hl
  split at hl
  · rename_i q; exact absurd hl q
  · rename_i q; exact Classical.not_not.1 q
 unfold shardV at hv
 split at hv
 · rename_i q; exact absurd hv q
 · rename_i q1
   split at hv
   · rename_i q; exact absurd hv q
   · rename_i q2
     obtain ⟨a1, a2, _⟩ := zjR (Classical.not_not.1 q1)
     obtain ⟨b1, b2⟩ := zl8 (Classical.not_not.1 q2)
     exact ⟨a1, a2, b1, b2⟩
theorem ack_ok (s : Shard) (h : Handle) (now ep : Int) (h1 : s.ready.cells.length ≤ 4294967296) (h2 : s.leases.l.length ≤ 4294967296) (h3 : s.leases.heap.length ≤ 4294967296) : callL G z2E [.d (eShard s), .d (eHandle h), .d (.int .i64 now), .d (.int .i64 ep)] [] = some (.d (.tup [eShard (ackD s h now ep).1, .int .i64 (ackD s h now ep).2]), []) := by
 have hu := znM s [tiQ now, epQ ep] (by simp) h1 h2 h3
 have e1 := znw now
 have e2 := zl1 ep
 simp only [List.map_cons, List.map_nil, List.all_cons, List.all_nil, id, Bool.and_true] at hu
 unfold ackD
 by_cases c : usE s (tiQ now && epQ ep) = 0
 · obtain ⟨d1, d2, d3, d4⟩ := zkv c
   have hh := zoE s h now ep d3 d4
   have hr := zq4 s h.id d1 d2 d3 d4
   rw [c] at hu
   rw [if_neg (fun q => q c)]
   clear c
   generalize tiQ now = b1 at *
   generalize epQ ep = b2 at *
   generalize holdsB s h now ep = b3 at *
   generalize relS s h.id = r at *
   obtain ⟨s2, m, e⟩ := r
   cases b3
   · clear hr
     simp only [eShard, eHandle, zShard, List.map_nil, Bool.false_eq_true, if_false] at *
     rw [zjI z6g (by simp)]; simp -implicitDefEqProofs (disch := omega) only [z3Y, getDT, go_sem, *]
   · simp only [eShard, eHandle, eMessage, if_true] at *
     rw [zjI z6g (by simp)]; simp -implicitDefEqProofs (disch := omega) only [z3Y, getDT, go_sem, *]
 · rw [if_pos c]
   generalize usE s (tiQ now && epQ ep) = u at *
   generalize tiQ now = b1 at *
   generalize epQ ep = b2 at *
   simp only [eShard, eHandle, zShard, List.map_nil] at *
   rw [zjI z6g (by simp)]; simp -implicitDefEqProofs (disch := omega) only [z3Y, getDT, go_sem, *]
theorem zsb (m : Message) (lim : Int) : callL G zE [.d (eMessage m), .d (.int .i64 lim)] [] = some (.d (.bool (decide (lim ≤ m.count))), []) := by
 rw [zeE]; exact zt6 m lim
def backD (s : Shard) (m : Message) (lim : Int) : Ring × Int := if lim ≤ m.count then pbD s.ready m else pfD s.ready m
def nackD (s : Shard) (h : Handle) (now ep lim : Int) : Shard × Int :=
 if usE s (tiQ now && (epQ ep && liQ lim)) ≠ 0 then (zShard, usE s (tiQ now && (epQ ep && liQ lim)))
 else if holdsB s h now ep = true then (if (relS s h.id).2.2 ≠ 0 then (zShard, (relS s h.id).2.2)
  else if (backD (relS s h.id).1 (relS s h.id).2.1 lim).2 ≠ 0 then (zShard, (backD (relS s h.id).1 (relS s h.id).2.1 lim).2)
  else ({ (relS s h.id).1 with ready := (backD (relS s h.id).1 (relS s h.id).2.1 lim).1 }, 0)) else (zShard, 5)
theorem zzv (s : Shard) (id : Int) : (relS s id).1.ready.cells.length ≤ s.ready.cells.length := by
 unfold relS
 split
 · exact Nat.le_refl _
 · simp [zShard]
theorem zye (s : Shard) (h : Handle) (now ep lim : Int) (h1 : s.ready.cells.length ≤ 4294967296) (h2 : s.leases.l.length ≤ 4294967296) (h3 : s.leases.heap.length ≤ 4294967296) : callL G z2H [.d (eShard s), .d (eHandle h), .d (.int .i64 now), .d (.int .i64 ep), .d (.int .i64 lim)] [] = some (.d (.tup [eShard (nackD s h now ep lim).1, .int .i64 (nackD s h now ep lim).2]), []) := by
 have hu := znM s [tiQ now, epQ ep, liQ lim] (by simp) h1 h2 h3
 have e1 := znw now
 have e2 := zl1 ep
 have e3 := zpA lim
 simp only [List.map_cons, List.map_nil, List.all_cons, List.all_nil, id, Bool.and_true] at hu
 unfold nackD
 by_cases c : usE s (tiQ now && (epQ ep && liQ lim)) = 0
 · obtain ⟨d1, d2, d3, d4⟩ := zkv c
   have hh := zoE s h now ep d3 d4
   have hr := zq4 s h.id d1 d2 d3 d4
   have hrc := zzv s h.id
   rw [c] at hu
   rw [if_neg (fun q => q c)]
   clear c
   generalize tiQ now = b1 at *
   generalize epQ ep = b2 at *
   generalize liQ lim = b4 at *
   generalize holdsB s h now ep = b3 at *
   generalize relS s h.id = r at *
   obtain ⟨s2, m, e⟩ := r
   cases b3
   · clear hr hrc
     simp only [eShard, eHandle, zShard, List.map_nil, Bool.false_eq_true, if_false] at *
     rw [zjI zS (by simp)]; simp -implicitDefEqProofs (disch := omega) only [zP, getDT, go_sem, *]
   · rw [if_pos rfl]
     by_cases c2 : e = 0
     · subst c2
       rw [if_neg (by simp)]
       have hb := zp2 s2.ready m (by simp only at hrc; omega)
       have hf := zzW s2.ready m (by simp only at hrc; omega)
       have hs := zsb m lim
       unfold backD
       by_cases c3 : lim ≤ m.count
       · simp only [if_pos c3]
         rw [decide_eq_true c3] at hs
         clear c3 hf
         generalize pbD s2.ready m = p at *
         obtain ⟨r2, e4⟩ := p
         by_cases c4 : e4 = 0
         · subst c4
           simp only [ne_eq, not_true_eq_false, if_false]
           simp only [eShard, eHandle, eMessage, eRing] at *
           rw [zjI zS (by simp)]; simp -implicitDefEqProofs (disch := omega) only [zP, getDT, go_sem, *]
         · rw [if_pos c4]
           simp only [eShard, eHandle, eMessage, eRing, zShard, List.map_nil] at *
           rw [zjI zS (by simp)]; simp -implicitDefEqProofs (disch := omega) only [zP, getDT, go_sem, *]
       · simp only [if_neg c3]
         rw [decide_eq_false c3] at hs
         clear c3 hb
         generalize pfD s2.ready m = p at *
         obtain ⟨r2, e4⟩ := p
         by_cases c4 : e4 = 0
         · subst c4
           simp only [ne_eq, not_true_eq_false, if_false]
           simp only [eShard, eHandle, eMessage, eRing] at *
           rw [zjI zS (by simp)]; simp -implicitDefEqProofs (disch := omega) only [zP, getDT, go_sem, *]
         · rw [if_pos c4]
           simp only [eShard, eHandle, eMessage, eRing, zShard, List.map_nil] at *
           rw [zjI zS (by simp)]; simp -implicitDefEqProofs (disch := omega) only [zP, getDT, go_sem, *]
     · rw [if_pos c2]
       clear hrc
       simp only [eShard, eHandle, eMessage, zShard, List.map_nil] at *
       rw [zjI zS (by simp)]; simp -implicitDefEqProofs (disch := omega) only [zP, getDT, go_sem, *]
 · rw [if_pos c]
   generalize usE s (tiQ now && (epQ ep && liQ lim)) = u at *
   generalize tiQ now = b1 at *
   generalize epQ ep = b2 at *
   generalize liQ lim = b4 at *
   simp only [eShard, eHandle, zShard, List.map_nil] at *
   rw [zjI zS (by simp)]; simp -implicitDefEqProofs (disch := omega) only [zP, getDT, go_sem, *]
theorem us_num {s : Shard} {b : Bool} (h : usE s b = 0) : b = true := by
 unfold usE at h
 split at h
 · rename_i q; exact absurd h q
 · split at h
   · assumption
   · cases h
def chgD (s : Shard) (h : Handle) (now ep vis : Int) : Shard × Int :=
 if usE s (tiQ now && (epQ ep && viQ vis)) ≠ 0 then (zShard, usE s (tiQ now && (epQ ep && viQ vis)))
 else if holdsB s h now ep = true then (if 1073741824 < now + vis then (zShard, 6) else if (extD s.leases h.id (now + vis)).2 ≠ 0 then (zShard, (extD s.leases h.id (now + vis)).2)
  else ({ s with leases := (extD s.leases h.id (now + vis)).1 }, 0)) else (zShard, 5)
theorem zul (s : Shard) (h : Handle) (now ep vis : Int) (h1 : s.ready.cells.length ≤ 4294967296) (h2 : s.leases.l.length ≤ 4294967296) (h3 : s.leases.heap.length ≤ 4294967296) : callL G z2F [.d (eShard s), .d (eHandle h), .d (.int .i64 now), .d (.int .i64 ep), .d (.int .i64 vis)] [] = some (.d (.tup [eShard (chgD s h now ep vis).1, .int .i64 (chgD s h now ep vis).2]), []) := by
 have hu := znM s [tiQ now, epQ ep, viQ vis] (by simp) h1 h2 h3
 have e1 := znw now
 have e2 := zl1 ep
 have e3 := zry vis
 simp only [List.map_cons, List.map_nil, List.all_cons, List.all_nil, id, Bool.and_true] at hu
 unfold chgD
 by_cases c : usE s (tiQ now && (epQ ep && viQ vis)) = 0
 · obtain ⟨d1, d2, d3, d4⟩ := zkv c
   have hn := us_num c
   simp only [Bool.and_eq_true, tiQ, viQ, decide_eq_true_eq] at hn
   obtain ⟨n1, nn, n2⟩ := hn
   clear nn
   have hh := zoE s h now ep d3 d4
   have ho := znK s d1 d2 d3 d4
   have hx := ext_ok s.leases h.id (now + vis) (by omega) (by omega)
   rw [c] at hu
   rw [if_neg (fun q => q c)]
   clear c
   generalize tiQ now = b1 at *
   generalize epQ ep = b2 at *
   generalize viQ vis = b4 at *
   generalize holdsB s h now ep = b3 at *
   cases b3
   · clear hx ho
     simp only [eShard, eHandle, zShard, List.map_nil, Bool.false_eq_true, if_false] at *
     rw [zjI z1l (by simp)]; simp -implicitDefEqProofs (disch := omega) only [z1f, getDT, go_sem, *]
   · rw [if_pos rfl]
     by_cases c2 : 1073741824 < now + vis
     · rw [if_pos c2]
       clear hx ho
       simp only [eShard, eHandle, zShard, List.map_nil] at *
       rw [zjI z1l (by simp)]; simp -implicitDefEqProofs (disch := omega) only [z1f, getDT, go_sem, *]
     · rw [if_neg c2]
       generalize extD s.leases h.id (now + vis) = t at *
       obtain ⟨t, e⟩ := t
       by_cases c3 : e = 0
       · subst c3
         simp only [ne_eq, not_true_eq_false, if_false]
         simp only [eShard, eHandle, eTable] at *
         rw [zjI z1l (by simp)]; simp -implicitDefEqProofs (disch := omega) only [z1f, getDT, go_sem, *]
       · rw [if_pos c3]
         simp only [eShard, eHandle, eTable, zShard, List.map_nil] at *
         rw [zjI z1l (by simp)]; simp -implicitDefEqProofs (disch := omega) only [z1f, getDT, go_sem, *]
 · rw [if_pos c]
   generalize usE s (tiQ now && (epQ ep && viQ vis)) = u at *
   generalize tiQ now = b1 at *
   generalize epQ ep = b2 at *
   generalize viQ vis = b4 at *
   simp only [eShard, eHandle, zShard, List.map_nil] at *
   rw [zjI z1l (by simp)]; simp -implicitDefEqProofs (disch := omega) only [z1f, getDT, go_sem, *]
def delM (m : Message) : Message × Int := if msgV m ≠ 0 then (zMessage, msgV m) else if m.gen = 65536 then (zMessage, 6) else if m.count = 8 then (zMessage, 7) else ({ m with count := m.count + 1, gen := m.gen + 1 }, 0)
theorem zxW (m : Message) : callL G z1Q [.d (eMessage m)] [] = some (.d (.tup [eMessage (delM m).1, .int .i64 (delM m).2]), []) := by
 have hv := znk m
 unfold delM
 by_cases c : msgV m = 0
 · rw [c] at hv
   rw [if_neg (fun q => q c)]
   have hb : m.count ≤ 8 ∧ 0 ≤ m.count ∧ m.gen ≤ 65536 ∧ 0 ≤ m.gen := by
    unfold msgV at c
    split at c
    · omega
    · cases c
   clear c
   by_cases c1 : m.gen = 65536
   · rw [if_pos c1]
     replace c1 := eq_true c1
     simp only [eMessage, zMessage] at hv ⊢
     rw [zjI z3n (by simp)]; simp -implicitDefEqProofs (disch := omega) only [z35, getDT, go_sem, *]
   · rw [if_neg c1]
     by_cases c2 : m.count = 8
     · rw [if_pos c2]
       replace c2 := eq_true c2
       simp only [eMessage, zMessage] at hv ⊢
       rw [zjI z3n (by simp)]; simp -implicitDefEqProofs (disch := omega) only [z35, getDT, go_sem, *]
     · rw [if_neg c2]
       simp only [eMessage] at *
       rw [zjI z3n (by simp)]; simp -implicitDefEqProofs (disch := omega) only [z35, getDT, go_sem, *]
 · rw [if_pos c]
   generalize msgV m = v at *
   simp only [eMessage, zMessage] at *
   rw [zjI z3n (by simp)]; simp -implicitDefEqProofs (disch := omega) only [z35, getDT, go_sem, *]
def rcvQ (ep lim : Int) (m : Message) : Bool := !decide (m.epoch < ep) && (!decide (lim ≤ m.count) && decide (m.gen < 65536))
theorem zy9 (m : Message) (ep lim : Int) : callL G z1R [.d (eMessage m), .d (.int .i64 ep), .d (.int .i64 lim)] [] = some (.d (.bool (rcvQ ep lim m)), []) := by
 have hp := zs8 m ep
 have hs := zsb m lim
 unfold rcvQ
 simp only [eMessage] at *
 rw [zjI zbu (by simp)]; simp -implicitDefEqProofs (disch := omega) only [zah, getDT, go_sem, *]
def dlvD (s : Shard) (m : Message) (d : Int) : Shard × Lease × Int :=
 if (rmD s.ready m.id).2.2 ≠ 0 then (s, zLease, (rmD s.ready m.id).2.2)
 else if (delM (rmD s.ready m.id).2.1).2 ≠ 0 then (s, zLease, (delM (rmD s.ready m.id).2.1).2)
 else if (grantD s.leases (delM (rmD s.ready m.id).2.1).1 d).2 ≠ 0 then (s, zLease, (grantD s.leases (delM (rmD s.ready m.id).2.1).1 d).2)
 else ({ s with ready := (rmD s.ready m.id).1, leases := (grantD s.leases (delM (rmD s.ready m.id).2.1).1 d).1 }, ⟨(delM (rmD s.ready m.id).2.1).1, d⟩, 0)
theorem zuX (s : Shard) (m : Message) (d : Int) (h1 : s.ready.cells.length ≤ 4294967296) (h2 : s.leases.l.length ≤ 4294967296) (h3 : s.leases.heap.length ≤ 4294967296) : callL G z2L [.ref 1000000 0 0, .d (eMessage m), .d (.int .i64 d)] [(1000000, .row [.d (eShard s)])] = some (.d (.tup [eLease (dlvD s m d).2.1, .int .i64 (dlvD s m d).2.2]), [(1000000, .row [.d (eShard (dlvD s m d).1)])]) := by
 have hr := zzX s.ready m.id h1
 have hd := zxW (rmD s.ready m.id).2.1
 have hg := zwy s.leases (delM (rmD s.ready m.id).2.1).1 d h2 h3
 unfold dlvD
 generalize grantD s.leases (delM (rmD s.ready m.id).2.1).1 d = g at *
 generalize delM (rmD s.ready m.id).2.1 = q at *
 generalize rmD s.ready m.id = r at *
 obtain ⟨r, m1, e1⟩ := r
 obtain ⟨m2, e2⟩ := q
 obtain ⟨t, e3⟩ := g
 by_cases c1 : e1 = 0
 · subst c1
   by_cases c2 : e2 = 0
   · subst c2
     by_cases c3 : e3 = 0
     · subst c3
       simp only [ne_eq, not_true_eq_false, if_false]
       simp only [eShard, eMessage, eLease, eRing, eTable] at *
       rw [zjI z3w (by simp)]; simp -implicitDefEqProofs (disch := omega) only [z3g, getDT, go_sem, *]
     · simp only [ne_eq, not_true_eq_false, if_false]
       rw [if_pos c3]
       simp only [eShard, eMessage, eLease, eRing, eTable, zLease] at *
       rw [zjI z3w (by simp)]; simp -implicitDefEqProofs (disch := omega) only [z3g, getDT, go_sem, *]
   · clear hg
     simp only [ne_eq, not_true_eq_false, if_false]
     rw [if_pos c2]
     simp only [eShard, eMessage, eLease, eRing, zLease] at *
     rw [zjI z3w (by simp)]; simp -implicitDefEqProofs (disch := omega) only [z3g, getDT, go_sem, *]
 · clear hg hd
   rw [if_pos c1]
   simp only [eShard, eMessage, eLease, eRing, zLease] at *
   rw [zjI z3w (by simp)]; simp -implicitDefEqProofs (disch := omega) only [z3g, getDT, go_sem, *]
def tkF (mx d ep lim : Int) : List Message → Shard → List Lease → Shard × List Lease × Int
 | [], s, out => (s, out, 0)
 | m :: l, s, out => if (out.length : Int) = mx ∨ rcvQ ep lim m = false then tkF mx d ep lim l s out else if (dlvD s m d).2.2 ≠ 0 then (zShard, [], (dlvD s m d).2.2) else tkF mx d ep lim l (dlvD s m d).1 (out ++ [(dlvD s m d).2.1])
def shB (s : Shard) : Prop := s.ready.cells.length ≤ 4294967296 ∧ s.leases.l.length ≤ 4294967296 ∧ s.leases.heap.length ≤ 4294967296
theorem zwx (t : Table) (m : Message) (d : Int) : (grantD t m d).1.l.length ≤ 12 ∧ (grantD t m d).1.heap.length ≤ 12 := by
 by_cases h : (grantD t m d).2 = 0
 · exact zl8 (zpu h).1
 · have : grantD t m d = (zTable, grantE t m d) := by
    unfold grantD at h ⊢
    split at h
    · exact absurd rfl h
    · rename_i hc; rw [if_neg hc]
   rw [this]; simp [zTable]
theorem dlv_B {s : Shard} (h : shB s) (m : Message) (d : Int) : shB (dlvD s m d).1 := by
 unfold dlvD
 split
 · exact h
 · split
   · exact h
   · split
     · exact h
     · obtain ⟨g1, g2⟩ := zwx s.leases (delM (rmD s.ready m.id).2.1).1 d
       refine ⟨?_, by simp only; omega, by simp only; omega⟩
       unfold rmD
       split
       · simp only [rg, wN_len]; exact h.1
       · simp [zRing]
structure TK where
 s : Shard
 out : List Lease
 i : Nat
def shZ : Go.Sim.AV := .agg [.d (.bool false), .d (.int .i64 0), .d (.int .i64 0), .xsl [], .d (.int .i64 0), .d (.int .i64 0), .xsl [], .xsl []]
def tkS (l : List Message) (mx now vis ep lim : Int) (t : TK) : St := ⟨[(1, .d (.int .i64 mx)), (2, .d (.int .i64 now)), (3, .d (.int .i64 vis)), (4, .d (.int .i64 ep)), (5, .d (.int .i64 lim)), (6, .ref 6 0 0), (12, .ref 12 0 0), (16, .acc 16 (t.out.map eLease)), (47, .acc 47 (l.map eMessage)), (48, .d (.int .i64 l.length)), (49, .d (.int .i64 t.i))], [(6, .row [.d (eShard t.s)]), (12, .row [shZ]), (16, .acc t.out.length), (47, .acc l.length)]⟩
def tkR (x : Shard × List Lease × Int) : AExit × St := if x.2.2 = 0 then (.exit 0, ⟨[(6, .ref 6 0 0), (12, .ref 12 0 0), (16, .acc 16 (x.2.1.map eLease))], [(6, .row [.d (eShard x.1)]), (12, .row [shZ]), (16, .acc x.2.1.length)]⟩) else (.ret, ⟨[(12, .ref 12 0 0), (13, .xsl []), (14, .d (.int .i64 x.2.2))], [(12, .row [shZ])]⟩)
theorem zAE (l : List Message) (mx now vis ep lim : Int) (hl : l.length ≤ 12) (hn : 0 ≤ now ∧ now ≤ 1073741824) (hv : 0 ≤ vis ∧ vis ≤ 1000) : ∀ t : TK, t.i ≤ l.length ∧ t.out.length ≤ t.i ∧ shB t.s → loopL G [] l_shard_Take_0 (tkS l mx now vis ep lim t) = some (tkR (tkF mx (now + vis) ep lim (l.drop t.i) t.s t.out)) := by
 refine zjM (fun t => l.length - t.i) (fun t : TK => t.i ≤ l.length ∧ t.out.length ≤ t.i ∧ shB t.s) (tkS l mx now vis ep lim) (fun t => some (tkR (tkF mx (now + vis) ep lim (l.drop t.i) t.s t.out))) fun ⟨s, out, i⟩ ⟨hi, ho, hs⟩ L ih => ?_
 simp only at hi ho hs
 by_cases h0 : i < l.length
 · simp only
   rw [List.drop_eq_getElem_cons h0, tkF]
   have hq := zy9 l[i] ep lim
   have hd := zuX s l[i] (now + vis) hs.1 hs.2.1 hs.2.2
   have hb := dlv_B hs l[i] (now + vis)
   by_cases c1 : (out.length : Int) = mx
   · rw [if_pos (.inl c1)]
     have i1 := ih ⟨s, out, i + 1⟩ ⟨by simp only; omega, by simp only; omega, hs⟩ (by simp only; omega)
     clear ih hd hb
     simp only at i1
     generalize tkR (tkF mx (now + vis) ep lim (l.drop (i + 1)) s out) = R at *
     simp only [tkS, shZ, l_shard_Take_0] at *
     replace c1 := eq_true c1
     simp only [eShard, eMessage] at *
     simp only [Int.natCast_add, Int.natCast_one, Int.natCast_zero, Int.natCast_mul, Int.cast_ofNat_Int, List.length_append, List.length_map, List.map_nil, List.length_nil, List.map_append, List.map_cons, List.length_cons, Nat.zero_add, srcO, mapSet] at i1
     simp -implicitDefEqProofs (disch := omega) only [eMessage, getDT, go_sem, *]
   · by_cases c2 : rcvQ ep lim l[i] = false
     · rw [if_pos (.inr c2)]
       have i1 := ih ⟨s, out, i + 1⟩ ⟨by simp only; omega, by simp only; omega, hs⟩ (by simp only; omega)
       clear ih hd hb
       rw [c2] at hq
       simp only at i1
       generalize tkR (tkF mx (now + vis) ep lim (l.drop (i + 1)) s out) = R at *
       simp only [tkS, shZ, l_shard_Take_0] at *
       simp only [eShard, eMessage] at *
       simp only [Int.natCast_add, Int.natCast_one, Int.natCast_zero, Int.natCast_mul, Int.cast_ofNat_Int, List.length_append, List.length_map, List.map_nil, List.length_nil, List.map_append, List.map_cons, List.length_cons, Nat.zero_add, srcO, mapSet] at i1
       simp -implicitDefEqProofs (disch := omega) only [eMessage, getDT, go_sem, *]
     · rw [if_neg (by intro hc; rcases hc with hc | hc; exact c1 hc; exact c2 hc)]
       rw [show rcvQ ep lim l[i] = true by simpa using c2] at hq
       by_cases c3 : (dlvD s l[i] (now + vis)).2.2 = 0
       · rw [if_neg (fun q => q c3)]
         have i1 := ih ⟨(dlvD s l[i] (now + vis)).1, out ++ [(dlvD s l[i] (now + vis)).2.1], i + 1⟩ ⟨by simp only; omega, by simp only [List.length_append, List.length_singleton]; omega, hb⟩ (by simp only; omega)
         clear ih hb
         simp only at i1
         generalize tkR (tkF mx (now + vis) ep lim (l.drop (i + 1)) (dlvD s l[i] (now + vis)).1 (out ++ [(dlvD s l[i] (now + vis)).2.1])) = R at *
         generalize dlvD s l[i] (now + vis) = dv at *
         obtain ⟨s2, x, e⟩ := dv
         simp only at c3
         subst c3
         simp only [tkS, shZ, l_shard_Take_0, List.map_append, List.map_cons, List.map_nil] at *
         simp only [eShard, eMessage, eLease] at *
         simp only [Int.natCast_add, Int.natCast_one, Int.natCast_zero, Int.natCast_mul, Int.cast_ofNat_Int, List.length_append, List.length_map, List.map_nil, List.length_nil, List.map_append, List.map_cons, List.length_cons, Nat.zero_add, srcO, mapSet] at i1
         simp -implicitDefEqProofs (disch := omega) only [eMessage, getDT, go_sem, *]
       · rw [if_pos c3]
         clear ih hb
         generalize dlvD s l[i] (now + vis) = dv at *
         obtain ⟨s2, x, e⟩ := dv
         simp only at c3
         unfold tkR
         rw [if_neg c3]
         simp only [tkS, shZ, l_shard_Take_0] at *
         simp only [eShard, eMessage, eLease] at *
         simp -implicitDefEqProofs (disch := omega) only [eMessage, getDT, go_sem, *]
 · clear ih
   obtain rfl : i = l.length := by omega
   simp only [List.drop_length, tkF, tkR, if_true]
   simp only [tkS, shZ, eShard, l_shard_Take_0]
   simp -implicitDefEqProofs (disch := omega) only [getDT, go_sem, *]
def takeU (s : Shard) (mx now vis ep lim : Int) : Int := usE s (epQ ep && (liQ lim && (tiQ now && (viQ vis && decide (1 ≤ mx ∧ mx ≤ 6)))))
def takeD (s : Shard) (mx now vis ep lim : Int) : Shard × List Lease × Int := if takeU s mx now vis ep lim ≠ 0 then (zShard, [], takeU s mx now vis ep lim) else if 1073741824 < now + vis then (zShard, [], 6) else tkF mx (now + vis) ep lim (ordD s.ready) s []
theorem znL {s : Shard} {b : Bool} (h : usE s b = 0) : ringV s.ready = 0 := by
 have hl : liveV s = 0 := by
  unfold usE at h
  split at h
  · rename_i q; exact absurd h q
  · rename_i q; exact Classical.not_not.1 q
 have hv : shardV s = 0 := by
  unfold liveV at hl
  split at hl
  · rename_i q; exact absurd hl q
  · rename_i q; exact Classical.not_not.1 q
 unfold shardV at hv
 split at hv
 · rename_i q; exact absurd hv q
 · rename_i q1; exact Classical.not_not.1 q1
theorem zte (mx d ep lim : Int) : ∀ (l : List Message) (s : Shard) (out : List Lease), (tkF mx d ep lim l s out).2.2 ≠ 0 → (tkF mx d ep lim l s out).1 = zShard ∧ (tkF mx d ep lim l s out).2.1 = [] := by
 intro l
 induction l with
 | nil => intro s out h; exact absurd rfl h
 | cons m l ih =>
  intro s out h
  rw [tkF] at h ⊢
  split at h
  · rename_i q; rw [if_pos q]; exact ih _ _ h
  · rename_i q
    rw [if_neg q]
    split at h
    · rename_i q2; rw [if_pos q2]; exact ⟨rfl, rfl⟩
    · rename_i q2; rw [if_neg q2]; exact ih _ _ h
theorem zp8 (s : Shard) (mx now vis ep lim : Int) (h1 : s.ready.cells.length ≤ 4294967296) (h2 : s.leases.l.length ≤ 4294967296) (h3 : s.leases.heap.length ≤ 4294967296) : callL G z2K [.d (eShard s), .d (.int .i64 mx), .d (.int .i64 now), .d (.int .i64 vis), .d (.int .i64 ep), .d (.int .i64 lim)] [] = some (.d (.tup [eShard (takeD s mx now vis ep lim).1, .sl ((takeD s mx now vis ep lim).2.1.map eLease), .int .i64 (takeD s mx now vis ep lim).2.2]), []) := by
 have hu := znM s [epQ ep, liQ lim, tiQ now, viQ vis, decide (1 ≤ mx ∧ mx ≤ 6)] (by simp) h1 h2 h3
 have e1 := znw now
 have e2 := zl1 ep
 have e3 := zry vis
 have e4 := zpA lim
 have e5 := sin_ok mx 1 6
 simp only [List.map_cons, List.map_nil, List.all_cons, List.all_nil, id, Bool.and_true] at hu
 unfold takeD takeU
 by_cases c : usE s (epQ ep && (liQ lim && (tiQ now && (viQ vis && decide (1 ≤ mx ∧ mx ≤ 6))))) = 0
 · obtain ⟨d1, d2, d3, d4⟩ := zkv c
   have hr := znL c
   have hn := us_num c
   simp only [Bool.and_eq_true, tiQ, viQ, decide_eq_true_eq] at hn
   obtain ⟨nn1, nn2, n1, n2, nn3⟩ := hn
   clear nn1 nn2 nn3
   have ho := znK s d1 d2 d3 d4
   have hl := zq7 hr
   have hln : (ordD s.ready).length ≤ 12 := by
    obtain ⟨b1, b2, b3, b4, b5, b6⟩ := zjR hr
    rw [zke]; omega
   have hlp := zAE (ordD s.ready) mx now vis ep lim hln n1 n2 ⟨s, [], 0⟩ ⟨by simp, by simp, ⟨h1, h2, h3⟩⟩
   rw [c] at hu
   rw [if_neg (fun q => q c)]
   clear c hr
   simp only [List.drop_zero] at hlp
   generalize tiQ now = b1 at *
   generalize epQ ep = b2 at *
   generalize viQ vis = b4 at *
   generalize liQ lim = b5 at *
   generalize decide (1 ≤ mx ∧ mx ≤ 6) = b6 at *
   by_cases c2 : 1073741824 < now + vis
   · rw [if_pos c2]
     clear hlp ho hl
     simp only [eShard, zShard, List.map_nil] at *
     rw [zjI z3v (by simp)]; simp -implicitDefEqProofs (disch := omega) only [z3f, getDT, go_sem, *]
   · rw [if_neg c2]
     have herr := zte mx (now + vis) ep lim (ordD s.ready) s []
     generalize tkF mx (now + vis) ep lim (ordD s.ready) s [] = x at *
     generalize ordD s.ready = w at *
     obtain ⟨s2, out, e⟩ := x
     unfold tkR at hlp
     by_cases c3 : e = 0
     · subst c3
       clear herr
       simp only [if_true, tkS, shZ, List.map_nil, List.length_nil, Int.natCast_zero] at hlp
       simp only [eShard, eRing] at *
       rw [zjI z3v (by simp)]; simp -implicitDefEqProofs (disch := omega) only [z3f, getDT, go_sem, *]
     · simp only [if_neg c3, tkS, shZ, List.map_nil, List.length_nil, Int.natCast_zero] at hlp
       obtain ⟨q1, q2⟩ := herr c3
       simp only at q1 q2
       subst q1 q2
       clear herr
       simp only [eShard, eRing, zShard, List.map_nil] at *
       rw [zjI z3v (by simp)]; simp -implicitDefEqProofs (disch := omega) only [z3f, getDT, go_sem, *]
 · rw [if_pos c]
   generalize usE s (epQ ep && (liQ lim && (tiQ now && (viQ vis && decide (1 ≤ mx ∧ mx ≤ 6))))) = u at *
   generalize tiQ now = b1 at *
   generalize epQ ep = b2 at *
   generalize viQ vis = b4 at *
   generalize liQ lim = b5 at *
   generalize decide (1 ≤ mx ∧ mx ≤ 6) = b6 at *
   simp only [eShard, zShard, List.map_nil] at *
   rw [zjI z3v (by simp)]; simp -implicitDefEqProofs (disch := omega) only [z3f, getDT, go_sem, *]
end Go.Proofs.YtcjncbkhbllchaaGreat.L
