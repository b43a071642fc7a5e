/-
  The law Sums of stripes.
-/
import Derived.Test.YtmbnbjkdamalpaaB5774db1
set_option linter.unusedSimpArgs false
set_option linter.unusedVariables false
namespace Go.Proofs.Ytmbnbjkdamalpaa
open Go Go.Sim
set_option linter.unusedSimpArgs false
set_option linter.unusedVariables false
set_option maxHeartbeats 10000000
set_option maxRecDepth 40000
theorem cntN_all {α : Type} {p : α → Bool} {l : List α} (h : ∀ x ∈ l, p x = true) : cntN p l l.length = l.length := by
  unfold cntN
  rw [List.take_length, List.filter_eq_self.2 h]
theorem SG_cnt {x : Shard} (h : SG x) : cntD x 0 8 = (x.ready.size, (x.leases.l.length : Int)) := by
  obtain ⟨h1, h2, h3, h4⟩ := h
  unfold cntD liveV
  cases hl : x.live with
  | false =>
    obtain ⟨e1, e2⟩ := h4 hl
    rw [if_neg]
    · rw [e1, e2]; rfl
    · simp [h1, hl]
  | true =>
    rw [if_pos (by simp [h1, hl])]
    have hr : ringOK x.ready := by
      refine ringV_zero ?_
      unfold shardV at h1
      split at h1
      · rename_i hc; exact absurd h1 hc
      · rename_i hc; exact Classical.not_not.1 hc
    rw [cntN_all (fun m hm => by have := h2 m hm; unfold rdQ; simp; omega), cntN_all (fun y hy => by have := h3 y hy; unfold lsQ; simp; omega), ordD_len]
    have := hr.2.2.2.2.1
    rw [show ((x.ready.size.toNat : Nat) : Int) = x.ready.size by omega]
structure SS where
  S : List Stripe
  a : Nat
  i : Nat
def sR (S : List Stripe) : Int := (S.map (·.ready)).sum
def sLd (S : List Stripe) : Int := (S.map (·.leased)).sum
def ssS (l : List Int) (s : SS) : St := ⟨[(3, .ref 18 0 0), (4, .acc 4 (s.S.map eStripe)), (5, .d (.int .i64 (sR s.S))), (6, .d (.int .i64 (sLd s.S))), (7, .d (.int .i64 s.i))], [(4, .acc s.S.length), (18, srcO l s.a)]⟩
def stOK (s : Stripe) : Prop := s.seq = 2 ∧ s.epoch = 0 ∧ 0 ≤ s.ready ∧ s.ready ≤ 12 ∧ 0 ≤ s.leased ∧ s.leased ≤ 12
def ssInv (s : SS) : Prop := (∀ x ∈ s.S, stOK x) ∧ s.S.length + s.i ≤ 4
theorem sums_le {S : List Stripe} (h : ∀ x ∈ S, stOK x) : 0 ≤ sR S ∧ sR S ≤ 12 * S.length ∧ 0 ≤ sLd S ∧ sLd S ≤ 12 * S.length := by
  induction S with
  | nil => simp [sR, sLd]
  | cons s S ih =>
    have := h s (by simp)
    have hh := ih fun x hx => h x (by simp [hx])
    simp only [sR, sLd, List.map_cons, List.sum_cons, List.length_cons] at hh ⊢
    obtain ⟨k1, k2, k3, k4, k5, k6⟩ := this
    refine ⟨by omega, by omega, by omega, by omega⟩
def ssPhi (l : List Int) (r : Option (AExit × St)) : Prop := ∃ S, (∀ x ∈ S, stOK x) ∧ S.length ≤ 4 ∧ r = some (.exit 0, ⟨[(4, .acc 4 (S.map eStripe)), (5, .d (.int .i64 (sR S))), (6, .d (.int .i64 (sLd S)))], [(4, .acc S.length)]⟩)
theorem ss_loop (l : List Int) (hL : l.length ≤ 4000) : ∀ s : SS, ssInv s → ssPhi l (loopL G [] l_law11_StripeSums_0 (ssS l s)) := by
  refine loop_indP (fun s : SS => s.i) ssInv (ssS l) (fun _ => Post (ssPhi l)) fun ⟨S, a, i⟩ ⟨h1, h2⟩ L ih => ?_
  simp only at h1 h2
  by_cases h0 : 0 < i
  · obtain ⟨x, a1, hx, hs⟩ := shard_ex l a hL
    obtain ⟨x1, x2, x3⟩ := SG_len hx
    have hb := begin_ok zStripe
    rw [show beginD zStripe = (⟨1, 0, 0, 0⟩, 0) by decide +kernel] at hb
    have he := end_ok ⟨1, 0, 0, 0⟩ x 0 8 (by omega) (by omega) (by omega)
    rw [show endD ⟨1, 0, 0, 0⟩ x 0 8 = (⟨2, 0, x.ready.size, x.leases.l.length⟩, 0) by
      unfold endD numQ; rw [if_neg (by simp only; omega), if_neg (by simp only; decide), if_neg (by simpa using hx.1), if_neg (by omega), SG_cnt hx]; rfl] at he
    have hro : ringOK x.ready := by
      refine ringV_zero ?_
      have h1 := hx.1
      unfold shardV at h1
      split at h1
      · rename_i hc; exact absurd h1 hc
      · rename_i hc; exact Classical.not_not.1 hc
    obtain ⟨r1, r2, r3, r4, r5, r6⟩ := hro
    have hst : stOK ⟨2, 0, x.ready.size, x.leases.l.length⟩ := ⟨rfl, rfl, r5, by simp only; omega, by simp only; omega, by simp only; omega⟩
    have i1 := ih ⟨S ++ [⟨2, 0, x.ready.size, x.leases.l.length⟩], a1, i - 1⟩ ⟨fun y hy => by
      rcases List.mem_append.1 hy with hy | hy
      · exact h1 y hy
      · rw [List.mem_singleton] at hy; subst hy; exact hst, by simp only [List.length_append, List.length_singleton]; omega⟩ (by simp only; omega)
    have e : ((i - 1 : Nat) : Int) = (i : Int) - 1 := by omega
    have s1 : sR (S ++ [⟨2, 0, x.ready.size, x.leases.l.length⟩]) = sR S + x.ready.size := by simp [sR, List.sum_append]
    have s2 : sLd (S ++ [⟨2, 0, x.ready.size, x.leases.l.length⟩]) = sLd S + x.leases.l.length := by simp [sLd, List.sum_append]
    have hle := sums_le h1
    obtain ⟨b1, b2, b3, b4⟩ := hle
    clear ih hst hx h1
    simp only [ssS, s1, s2, e, List.map_append, List.map_cons, List.map_nil, List.length_append, List.length_singleton] at i1
    simp only [ssS, l_law11_StripeSums_0]
    generalize sR S = p at *
    generalize sLd S = q at *
    clear s1 s2
    have hall : allSize 4 (S.map eStripe) = true := allSize_Stripe _
    simp only [eStripe, zStripe, eShard] at hb he hs i1 ⊢
    simp -implicitDefEqProofs (maxSteps := 4000000) (disch := omega) only [getDT, go_sem, *] /-A0-/
  · clear ih
    obtain rfl : i = 0 := by omega
    simp only [ssS, l_law11_StripeSums_0]
    simp -implicitDefEqProofs (maxSteps := 4000000) (disch := omega) only [getDT, go_sem, *] /-A1-/
    exact ⟨S, h1, by omega, rfl⟩
theorem sumN_ok {S : List Stripe} (h : ∀ x ∈ S, stOK x) (hl : S.length ≤ 4) : sumN S 0 S.length = (sR S, sLd S) ∧ sumN S 1 S.length = (0, 0) := by
  have key : ∀ i, i ≤ S.length → sumN S 0 i = (sR (S.take i), sLd (S.take i)) ∧ sumN S 1 i = (0, 0) := by
    intro i
    induction i with
    | zero => intro _; exact ⟨rfl, rfl⟩
    | succ i ih =>
      intro hi
      obtain ⟨k1, k2⟩ := ih (by omega)
      have hlt : i < S.length := by omega
      obtain ⟨e1, e2, e3, e4, e5, e6⟩ := h _ (List.getElem_mem hlt)
      have hle := sums_le (S := S.take i) fun x hx => h x (List.mem_of_mem_take hx)
      rw [List.length_take] at hle
      rw [sumN_succ 0 hlt, sumN_succ 1 hlt, k1, k2]
      unfold stepQ
      rw [if_pos ⟨e2, by unfold numQ; omega, by unfold numQ; omega, by unfold numQ; omega⟩, if_neg (by rw [e2]; rintro ⟨h, _⟩; cases h)]
      refine ⟨?_, rfl⟩
      rw [List.take_succ_eq_append_getElem hlt]
      simp only [sR, sLd, List.map_append, List.map_cons, List.map_nil, List.sum_append, List.sum_cons, List.sum_nil, Int.add_zero] at hle ⊢
      rw [wrapN (by omega) (by omega), wrapN (by omega) (by omega)]
  have := key S.length (Nat.le_refl _)
  rwa [List.take_length] at this
theorem ssums_ok (l : List Int) (h : l.length ≤ LIM) : callL G N_law11_StripeSums [.d (.sl (ints l))] [] = some (.d (.bool true), []) := by
  have h1 := new_ok l h
  have ht : (l.take 4000).length ≤ 4000 := by simp; omega
  generalize l.take 4000 = t at *
  have q1 := n_ok t 0 5 ht (by omega) (by omega)
  have b1 := nD_in t 0 (n := 5) (by omega)
  obtain ⟨k, hk⟩ : ∃ k : Nat, nD t 0 5 = k := ⟨(nD t 0 5).toNat, by omega⟩
  rw [hk] at q1 b1
  clear hk
  generalize (rawD t 0).2 = a1 at *
  obtain ⟨S, g1, g2, hl⟩ := ss_loop t ht ⟨[], a1, k⟩ ⟨by simp, by simp only [List.length_nil]; omega⟩
  obtain ⟨e1, e2⟩ := sumN_ok g1 g2
  have k1 := sum_ok S 0 (by omega)
  have k2 := sum_ok S 1 (by omega)
  rw [e1] at k1
  rw [e2] at k2
  have ha := awake11_ok
  clear g1 e1 e2
  simp only [ssS, sR, sLd, List.map_nil, List.sum_nil, List.length_nil] at hl
  simp only [sR, sLd] at k1
  generalize (S.map (·.ready)).sum = p at *
  generalize (S.map (·.leased)).sum = q at *
  simp only [srcO, Int.natCast_zero] at h1 q1 hl
  rw [callL_code g_law11_StripeSums (by simp)]; simp -implicitDefEqProofs (maxSteps := 4000000) (disch := omega) only [c_law11_StripeSums, r_law11_StripeSums, getDT, go_sem, *] /-A2-/
end Go.Proofs.Ytmbnbjkdamalpaa
