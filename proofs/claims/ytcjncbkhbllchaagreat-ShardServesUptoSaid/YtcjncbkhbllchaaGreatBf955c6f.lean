/-
  Part of the calculus in which the claim is proved: A list that was just made, handed back as a row that can be 
-/
import Derived.Test.YtcjncbkhbllchaaGreatB0058325
import Derived.Test.YtcjncbkhbllchaaGreatB8368d65
import Derived.Test.YtcjncbkhbllchaaGreatB0d8e8c9
import Derived.Test.YtcjncbkhbllchaaGreatB21f0e28
set_option linter.unusedSimpArgs false
set_option linter.unusedVariables false
set_option maxHeartbeats 10000000
set_option maxRecDepth 100000
namespace Go.Proofs.YtcjncbkhbllchaaGreat
open Go Go.Sim
theorem zAd (h : List Due) (d : Due) (hL : h.length ≤ 4294967296) : callL G z2Z [.d (.sl (h.map eD)), .d (eD d)] [] = some (.d (.int .i64 (idxI (fun x => decide (x = d)) h)), []) := by
 have hl := zl3 (G := G) (x := z9u) (ks := []) h.length (atB h fun x => decide (x = d)) (fun k => ⟨[(0, .d (.sl (h.map eD))), (3, .ref 3 0 0), (7, .d (.int .i64 h.length)), (8, .d (.int .i64 k))], [(3, .row [.d (eD d)])]⟩) (fun k => (.ret, ⟨[(4, .d (.int .i64 k))], []⟩)) (.exit 0, ⟨[], []⟩) (fun k hk L => by
  simp only [z9u]
  by_cases h0 : k < h.length
  · simp only [h0, if_true, atB_at h0]
    have e : decide (h[k] = d) = (decide (h[k].1 = d.1) && decide (h[k].2 = d.2)) := by
     rw [← Bool.decide_and]
     congr 1
     exact propext ⟨fun e => by rw [e]; exact ⟨rfl, rfl⟩, fun ⟨a, b⟩ => Prod.ext a b⟩
    rw [e]
    clear e
    by_cases q1 : h[k].1 = d.1
    · by_cases q2 : h[k].2 = d.2
      · simp only [q1, q2, decide_true, Bool.and_self, if_true]
        simp only [eD]
        simp -implicitDefEqProofs (disch := omega) only [eD, getDT, go_sem, *]
      · simp only [q1, q2, decide_true, decide_false, Bool.and_false, Bool.false_eq_true, if_false]
        simp only [eD]
        simp -implicitDefEqProofs (disch := omega) only [eD, getDT, go_sem, *]
    · simp only [q1, decide_false, Bool.false_and, Bool.false_eq_true, if_false]
      simp only [eD]
      simp -implicitDefEqProofs (disch := omega) only [eD, getDT, go_sem, *]
  · simp -implicitDefEqProofs (disch := omega) only [getDT, go_sem, *])
 rw [znu] at hl
 simp only [Int.natCast_add, Int.natCast_one, Int.natCast_zero, Int.natCast_mul, Int.cast_ofNat_Int, List.length_append, List.length_map, List.map_nil, List.length_nil, List.map_append, List.map_cons, List.length_cons, Nat.zero_add, srcO, mapSet] at hl
 unfold idxI
 cases hf : h.findIdx? (fun x => decide (x = d)) with
 | none => rw [hf] at hl; clear hf; rw [zjI z8M (by simp)]; simp -implicitDefEqProofs (disch := omega) only [z46, getDT, go_sem, *]
 | some i => rw [hf] at hl; clear hf; rw [zjI z8M (by simp)]; simp -implicitDefEqProofs (disch := omega) only [z46, getDT, go_sem, *]
theorem zA6 (h : List Due) (d : Due) (hL : h.length ≤ 4294967296) : callL G z2V [.d (.sl (h.map eD)), .d (eD d)] [] = some (.d (.bool (h.any fun x => decide (x = d))), []) := by
 have hi := zAd h d hL
 rw [← zoF]
 rw [zjI zc6 (by simp)]; simp -implicitDefEqProofs (disch := omega) only [zaW, getDT, go_sem, *]
def findL (l : List Lease) (id : Int) : Int := idxI (fun x => decide (x.msg.id = id)) l
theorem zoc (t : Table) (id : Int) (hL : t.l.length ≤ 4294967296) : callL G z2j [.d (eTable t), .d (.int .i64 id)] [] = some (.d (.int .i64 (findL t.l id)), []) := by
 have hl := zl3 (G := G) (x := l_ref06_find_0) (ks := []) t.l.length (atB t.l fun x => decide (x.msg.id = id)) (fun k => ⟨[(1, .d (.int .i64 id)), (2, .ref 2 0 0), (5, .d (.int .i64 k))], [obT 2 t]⟩) (fun k => (.ret, ⟨[(4, .d (.int .i64 k))], []⟩)) (.exit 0, ⟨[], []⟩) (fun k hk L => by
  simp only [l_ref06_find_0, obT]
  by_cases h0 : k < t.l.length
  · simp only [h0, if_true, atB_at h0]
    simp -implicitDefEqProofs (disch := omega) only [getDT, go_sem, *]
  · simp -implicitDefEqProofs (disch := omega) only [getDT, go_sem, *])
 rw [znu] at hl
 simp only [obT] at hl
 simp only [Int.natCast_add, Int.natCast_one, Int.natCast_zero, Int.natCast_mul, Int.cast_ofNat_Int, List.length_append, List.length_map, List.map_nil, List.length_nil, List.map_append, List.map_cons, List.length_cons, Nat.zero_add, srcO, mapSet] at hl
 unfold findL idxI
 cases hf : t.l.findIdx? (fun x => decide (x.msg.id = id)) with
 | none => rw [hf] at hl; clear hf; rw [zjI zbK (by simp)]; simp -implicitDefEqProofs (disch := omega) only [z6Q, getDT, go_sem, *]
 | some i => rw [hf] at hl; clear hf; rw [zjI zbK (by simp)]; simp -implicitDefEqProofs (disch := omega) only [z6Q, getDT, go_sem, *]
def matchP (t : Table) : Bool := decide (t.heap.length = t.l.length) && t.l.all fun x => t.heap.any fun d => decide (d = (x.deadline, x.msg.id))
theorem zxV (t : Table) (hL : t.l.length ≤ 4294967296) (hH : t.heap.length ≤ 4294967296) : callL G z1M [.d (eTable t)] [] = some (.d (.bool (matchP t)), []) := by
 unfold matchP
 by_cases c : t.heap.length = t.l.length
 · rw [decide_eq_true c]
   have hl := zo6 (G := G) (x := l_lease_matches_0) (ks := []) t.l.length (atB t.l fun x => t.heap.any fun d => decide (d = (x.deadline, x.msg.id))) (fun k => ⟨[(1, .ref 1 0 0), (13, .d (.sl (t.l.map eLease))), (14, .d (.int .i64 t.l.length)), (15, .d (.int .i64 k))], [obT 1 t]⟩) (.ret, ⟨[(2, .d (.bool false))], []⟩) (.exit 0, ⟨[], []⟩) (fun k hk L => by
    simp only [l_lease_matches_0, obT]
    by_cases h0 : k < t.l.length
    · simp only [h0, if_true, atB_at h0]
      have hc := zA6 t.heap (t.l[k].deadline, t.l[k].msg.id) hH
      simp only [eD] at hc
      generalize (t.heap.any fun d => decide (d = (t.l[k].deadline, t.l[k].msg.id))) = z at *
      cases z
      · simp -implicitDefEqProofs (disch := omega) only [getDT, go_sem, *]
      · simp -implicitDefEqProofs (disch := omega) only [getDT, go_sem, *]
    · simp -implicitDefEqProofs (disch := omega) only [getDT, go_sem, *])
   have e : (List.range t.l.length).all (atB t.l fun x => t.heap.any fun d => decide (d = (x.deadline, x.msg.id))) = t.l.all fun x => t.heap.any fun d => decide (d = (x.deadline, x.msg.id)) := by
    rw [Bool.eq_iff_iff, List.all_eq_true, List.all_eq_true]
    constructor
    · intro h x hx
      obtain ⟨i, hi, rfl⟩ := List.getElem_of_mem hx
      have := h i (List.mem_range.2 hi)
      rwa [atB_at hi] at this
    · intro h i hi
      rw [atB_at (List.mem_range.1 hi)]
      exact h _ (List.getElem_mem _)
   rw [e] at hl
   simp only [obT] at hl
   simp only [Int.natCast_add, Int.natCast_one, Int.natCast_zero, Int.natCast_mul, Int.cast_ofNat_Int, List.length_append, List.length_map, List.map_nil, List.length_nil, List.map_append, List.map_cons, List.length_cons, Nat.zero_add, srcO, mapSet] at hl
   generalize (t.l.all fun x => t.heap.any fun d => decide (d = (x.deadline, x.msg.id))) = z at *
   cases z
   · simp only [Bool.false_eq_true, if_false] at hl
     rw [zjI z65 (by simp)]; simp -implicitDefEqProofs (disch := omega) only [z3F, getDT, go_sem, *]
   · simp only [if_true] at hl
     rw [zjI z65 (by simp)]; simp -implicitDefEqProofs (disch := omega) only [z3F, getDT, go_sem, *]
 · rw [decide_eq_false c]
   rw [zjI z65 (by simp)]; simp -implicitDefEqProofs (disch := omega) only [z3F, getDT, go_sem, *]
def leasesE (l : List Lease) : Int := findR l.length (leaseB l) (leaseE l) 0
def tabV (t : Table) : Int :=
 if 12 < t.l.length then 2 else if leasesE t.l ≠ 0 then leasesE t.l else if validateD t.heap ≠ 0 then validateD t.heap else if matchP t = true then 0 else 7
theorem zoH (l : List Lease) : (∃ k, (List.range l.length).find? (leaseB l) = some k ∧ leaseE l k ≠ 0 ∧ leasesE l = leaseE l k) ∨ ((List.range l.length).find? (leaseB l) = none ∧ leasesE l = 0) := by
 unfold leasesE findR
 cases h : (List.range l.length).find? (leaseB l) with
 | none => exact .inr ⟨rfl, rfl⟩
 | some k =>
  refine .inl ⟨k, rfl, ?_, rfl⟩
  have := List.find?_some h
  unfold leaseB at this
  simpa using this
theorem znz (t : Table) (hL : t.l.length ≤ 4294967296) (hH : t.heap.length ≤ 4294967296) : callL G z00 [.d (eTable t)] [] = some (.d (.int .i64 (tabV t)), []) := by
 unfold tabV
 by_cases c0 : 12 < t.l.length
 · rw [if_pos c0]
   rw [zjI z3m (by simp)]; simp -implicitDefEqProofs (disch := omega) only [z1a, getDT, go_sem, *]
 · rw [if_neg c0]
   have hl := zxK t (by omega)
   have hv := zpa t.heap hH
   have hm := zxV t hL hH
   simp only [obT] at hl
   unfold findR at hl
   rcases zoH t.l with ⟨k, h1, h2, h3⟩ | ⟨h1, h3⟩
   · rw [h1] at hl
     simp only at hl
     rw [h3, if_pos h2]
     generalize leaseE t.l k = z at *
     clear h1 h3 hv hm
     rw [zjI z3m (by simp)]; simp -implicitDefEqProofs (disch := omega) only [z1a, getDT, go_sem, *]
   · rw [h1] at hl
     rw [h3, if_neg (by simp)]
     clear h1 h3
     generalize validateD t.heap = z at *
     by_cases c1 : z = 0
     · subst c1
       rw [if_neg (by simp)]
       cases h : matchP t
       · rw [h] at hm
         simp only [Bool.false_eq_true, if_false]
         clear h
         rw [zjI z3m (by simp)]; simp -implicitDefEqProofs (disch := omega) only [z1a, getDT, go_sem, *]
       · rw [h] at hm
         simp only [if_true]
         clear h
         rw [zjI z3m (by simp)]; simp -implicitDefEqProofs (disch := omega) only [z1a, getDT, go_sem, *]
     · rw [if_pos c1]
       clear hm
       rw [zjI z3m (by simp)]; simp -implicitDefEqProofs (disch := omega) only [z1a, getDT, go_sem, *]
def matchR (t : Table) : Bool := decide (t.heap.length = t.l.length) && t.heap.all fun d => decide (0 ≤ findL t.l d.2) && decide ((t.l.getD (findL t.l d.2).toNat zLease).deadline = d.1)
def tabR (t : Table) : Int :=
 if 12 < t.l.length then 2 else if leasesE t.l ≠ 0 then leasesE t.l else if validateD t.heap ≠ 0 then validateD t.heap else if matchR t = true then 0 else 7
theorem zoC (l : List Lease) (id : Int) : -1 ≤ findL l id ∧ findL l id < l.length := zrt _ _
theorem zzd (t : Table) (hL : t.l.length ≤ 4294967296) (hH : t.heap.length ≤ 4294967296) : loopL G [] l_ref06_Validate_1 ⟨[(1, .ref 1 0 0), (7, .d (.int .i64 0))], [obT 1 t]⟩ = some (if (t.heap.all fun d => decide (0 ≤ findL t.l d.2) && decide ((t.l.getD (findL t.l d.2).toNat zLease).deadline = d.1)) = true then (.exit 3, ⟨[], []⟩) else (.ret, ⟨[(2, .d (.int .i64 7))], []⟩)) := by
 have hl := zo6 (G := G) (x := l_ref06_Validate_1) (ks := []) t.heap.length (atB t.heap fun d => decide (0 ≤ findL t.l d.2) && decide ((t.l.getD (findL t.l d.2).toNat zLease).deadline = d.1)) (fun k => ⟨[(1, .ref 1 0 0), (7, .d (.int .i64 k))], [obT 1 t]⟩) (.ret, ⟨[(2, .d (.int .i64 7))], []⟩) (.exit 3, ⟨[], []⟩) (fun k hk L => by
  simp only [l_ref06_Validate_1, obT]
  by_cases h0 : k < t.heap.length
  · simp only [h0, if_true, atB_at h0]
    have hf := zoc t t.heap[k].2 hL
    have hb := zoC t.l t.heap[k].2
    generalize findL t.l t.heap[k].2 = i at *
    by_cases c1 : 0 ≤ i
    · obtain ⟨n, rfl⟩ : ∃ n : Nat, i = n := ⟨i.toNat, by omega⟩
      have hn : n < t.l.length := by omega
      rw [Int.toNat_natCast, getDT hn, decide_eq_true c1, Bool.true_and]
      by_cases c2 : t.l[n].deadline = t.heap[k].1
      · rw [decide_eq_true c2]
        simp only [if_true]
        simp -implicitDefEqProofs (disch := omega) only [getDT, go_sem, *]
      · rw [decide_eq_false c2]
        simp only [Bool.false_eq_true, if_false]
        simp -implicitDefEqProofs (disch := omega) only [getDT, go_sem, *]
    · rw [decide_eq_false c1]
      simp only [Bool.false_and, Bool.false_eq_true, if_false]
      simp -implicitDefEqProofs (disch := omega) only [getDT, go_sem, *]
  · simp -implicitDefEqProofs (disch := omega) only [getDT, go_sem, *])
 have e : (List.range t.heap.length).all (atB t.heap fun d => decide (0 ≤ findL t.l d.2) && decide ((t.l.getD (findL t.l d.2).toNat zLease).deadline = d.1)) = t.heap.all fun d => decide (0 ≤ findL t.l d.2) && decide ((t.l.getD (findL t.l d.2).toNat zLease).deadline = d.1) := by
  rw [Bool.eq_iff_iff, List.all_eq_true, List.all_eq_true]
  constructor
  · intro h x hx
    obtain ⟨i, hi, rfl⟩ := List.getElem_of_mem hx
    have := h i (List.mem_range.2 hi)
    rwa [atB_at hi] at this
  · intro h i hi
    rw [atB_at (List.mem_range.1 hi)]
    exact h _ (List.getElem_mem _)
 rw [e] at hl
 exact hl
theorem zod (t : Table) (hL : t.l.length ≤ 4294967296) (hH : t.heap.length ≤ 4294967296) : callL G z2i [.d (eTable t)] [] = some (.d (.int .i64 (tabR t)), []) := by
 unfold tabR
 by_cases c0 : 12 < t.l.length
 · rw [if_pos c0]
   rw [zjI z1j (by simp)]; simp -implicitDefEqProofs (disch := omega) only [z0v, getDT, go_sem, *]
 · rw [if_neg c0]
   have hl := zzg t (by omega)
   have hv := zpY t.heap hH
   have hm := zzd t hL hH
   simp only [obT] at hl hm
   unfold findR at hl
   rcases zoH t.l with ⟨k, h1, h2, h3⟩ | ⟨h1, h3⟩
   · rw [h1] at hl
     simp only at hl
     rw [h3, if_pos h2]
     generalize leaseE t.l k = z at *
     clear h1 h3 hv hm
     rw [zjI z1j (by simp)]; simp -implicitDefEqProofs (disch := omega) only [z0v, getDT, go_sem, *]
   · rw [h1] at hl
     rw [h3, if_neg (by simp)]
     clear h1 h3
     generalize validateD t.heap = z at *
     by_cases c1 : z = 0
     · subst c1
       rw [if_neg (by simp)]
       unfold matchR
       by_cases c2 : t.heap.length = t.l.length
       · rw [decide_eq_true c2, Bool.true_and]
         generalize (t.heap.all fun d => decide (0 ≤ findL t.l d.2) && decide ((t.l.getD (findL t.l d.2).toNat zLease).deadline = d.1)) = q at *
         cases q
         · simp only [Bool.false_eq_true, if_false] at hm ⊢
           rw [zjI z1j (by simp)]; simp -implicitDefEqProofs (disch := omega) only [z0v, getDT, go_sem, *]
         · simp only [if_true] at hm ⊢
           rw [zjI z1j (by simp)]; simp -implicitDefEqProofs (disch := omega) only [z0v, getDT, go_sem, *]
       · rw [decide_eq_false c2, Bool.false_and]
         simp only [Bool.false_eq_true, if_false]
         clear hm
         rw [zjI z1j (by simp)]; simp -implicitDefEqProofs (disch := omega) only [z0v, getDT, go_sem, *]
     · rw [if_pos c1]
       clear hm
       rw [zjI z1j (by simp)]; simp -implicitDefEqProofs (disch := omega) only [z0v, getDT, go_sem, *]
theorem zsl {α : Type} [DecidableEq α] : ∀ (A B : List α), A.Nodup → (∀ a ∈ A, a ∈ B) → A.length ≤ B.length
 | [], _, _, _ => Nat.zero_le _
 | a :: A, B, h, hs => by
  have ha := hs a (by simp)
  rw [List.nodup_cons] at h
  have := zsl A (B.erase a) h.2 fun x hx => (List.mem_erase_of_ne (by rintro rfl; exact h.1 hx)).2 (hs x (by simp [hx]))
  rw [List.length_erase_of_mem ha] at this
  have hp := List.length_pos_of_mem ha
  simp only [List.length_cons]; omega
theorem zsk {α : Type} [DecidableEq α] {A B : List α} (h : A.Nodup) (hs : ∀ a ∈ A, a ∈ B) (hl : B.length ≤ A.length) : ∀ b ∈ B, b ∈ A := by
 intro b hb
 by_cases c : b ∈ A
 · exact c
 · have := zsl A (B.erase b) h fun x hx => (List.mem_erase_of_ne (by rintro rfl; exact c hx)).2 (hs x hx)
   rw [List.length_erase_of_mem hb] at this
   have hp := List.length_pos_of_mem hb
   omega
theorem zk8 {l : List Lease} (h : leasesE l = 0) : l.Pairwise fun x y => x.msg.id < y.msg.id := by
 have h0 : ∀ i, i < l.length → leaseE l i = 0 := by
  rcases zoH l with ⟨k, _, h2, h3⟩ | ⟨h1, _⟩
  · omega
  · intro i hi
    have := List.find?_eq_none.1 h1 i (List.mem_range.2 hi)
    unfold leaseB at this
    simpa using this
 have step : ∀ i (hi : i + 1 < l.length), l[i].msg.id < l[i + 1].msg.id := fun i hi => by
  have := h0 (i + 1) hi
  unfold leaseE at this
  rw [getDT hi, Nat.add_sub_cancel, getDT (show i < l.length by omega)] at this
  split at this
  · omega
  split at this
  · omega
  split at this
  · omega
  split at this
  · cases this
  · omega
 refine List.pairwise_iff_getElem.2 fun i j hi hj hij => ?_
 obtain ⟨m, rfl⟩ : ∃ m, j = i + 1 + m := ⟨j - (i + 1), by omega⟩
 induction m with
 | zero => exact step i hj
 | succ m ih => exact Int.lt_trans (ih (by omega) (by omega)) (step (i + 1 + m) (by omega))
def dueOf (x : Lease) : Due := (x.deadline, x.msg.id)
theorem znW {l : List Lease} {id : Int} (h : 0 ≤ findL l id) : ∃ k, ∃ hk : k < l.length, findL l id = k ∧ l[k].msg.id = id := by
 unfold findL idxI at h ⊢
 cases hf : l.findIdx? (fun x => decide (x.msg.id = id)) with
 | none => rw [hf] at h; exact absurd h (by simp)
 | some i =>
  obtain ⟨hi, hp, _⟩ := List.findIdx?_eq_some_iff_getElem.1 hf
  exact ⟨i, hi, rfl, by simpa using hp⟩
theorem zpr {l : List Lease} {id : Int} (h : findL l id < 0) : ∀ x ∈ l, x.msg.id ≠ id := by
 unfold findL idxI at h
 cases hf : l.findIdx? (fun x => decide (x.msg.id = id)) with
 | none => intro x hx; have := List.findIdx?_eq_none_iff.1 hf x hx; simpa using this
 | some i => rw [hf] at h; simp only at h; omega
theorem zqD {l : List Lease} (h : l.Pairwise fun x y => x.msg.id < y.msg.id) {i j : Nat} (hi : i < l.length) (hj : j < l.length) (e : l[i].msg.id = l[j].msg.id) : i = j := by
 rw [List.pairwise_iff_getElem] at h
 rcases Nat.lt_trichotomy i j with q | q | q
 · have := h i j hi hj q; omega
 · exact q
 · have := h j i hj hi q; omega
theorem zpq {l : List Lease} (h : l.Pairwise fun x y => x.msg.id < y.msg.id) {k : Nat} (hk : k < l.length) : findL l l[k].msg.id = k := by
 by_cases c : 0 ≤ findL l l[k].msg.id
 · obtain ⟨j, hj, e, q⟩ := znW c
   rw [e, zqD h hj hk q]
 · exact absurd rfl (zpr (by omega) l[k] (List.getElem_mem _))
theorem zqE {l : List Lease} (h : l.Pairwise fun x y => x.msg.id < y.msg.id) : (l.map dueOf).Nodup := by
 refine List.Pairwise.map _ ?_ h
 intro a b hab e
 have := congrArg Prod.snd e
 simp only [dueOf] at this
 omega
theorem zs1 {t : Table} (h : t.l.Pairwise fun x y => x.msg.id < y.msg.id) : matchR t = true ↔ t.heap.length = t.l.length ∧ ∀ d ∈ t.heap, d ∈ t.l.map dueOf := by
 unfold matchR
 rw [Bool.and_eq_true, decide_eq_true_eq, List.all_eq_true]
 refine and_congr_right fun _ => forall_congr' fun d => forall_congr' fun hd => ?_
 rw [Bool.and_eq_true, decide_eq_true_eq, decide_eq_true_eq, List.mem_map]
 constructor
 · rintro ⟨h0, h1⟩
   obtain ⟨k, hk, e, q⟩ := znW h0
   rw [e, Int.toNat_natCast, getDT hk] at h1
   exact ⟨t.l[k], List.getElem_mem _, Prod.ext h1 q⟩
 · rintro ⟨x, hx, rfl⟩
   obtain ⟨k, hk, rfl⟩ := List.getElem_of_mem hx
   simp only [dueOf, zpq h hk]
   rw [Int.toNat_natCast, getDT hk]
   exact ⟨by omega, rfl⟩
theorem zpJ {t : Table} : matchP t = true ↔ t.heap.length = t.l.length ∧ ∀ d ∈ t.l.map dueOf, d ∈ t.heap := by
 unfold matchP
 rw [Bool.and_eq_true, decide_eq_true_eq, List.all_eq_true]
 refine and_congr_right fun _ => ?_
 constructor
 · intro h d hd
   obtain ⟨x, hx, rfl⟩ := List.mem_map.1 hd
   obtain ⟨y, hy, e⟩ := List.any_eq_true.1 (h x hx)
   rw [decide_eq_true_eq] at e
   rw [show dueOf x = y from e.symm]; exact hy
 · intro h x hx
   exact List.any_eq_true.2 ⟨_, h _ (List.mem_map.2 ⟨x, hx, rfl⟩), by simp [dueOf]⟩
theorem zs2 {t : Table} (h : leasesE t.l = 0) (hv : validateD t.heap = 0) : matchP t = matchR t := by
 have ha := zk8 h
 have hn := ((zla _).1 hv).ids
 have hh : t.heap.Nodup := List.Pairwise.of_map (fun d : Due => d.2) (fun a b h e => h (by rw [e])) hn
 rw [Bool.eq_iff_iff, zs1 ha, zpJ]
 refine and_congr_right fun e => ⟨fun q => ?_, fun q => ?_⟩
 · exact zsk (zqE ha) q (by simp [e])
 · exact zsk hh q (by simp [e])
theorem zoi (t : Table) : tabR t = tabV t := by
 unfold tabR tabV
 by_cases h : leasesE t.l = 0
 · by_cases hv : validateD t.heap = 0
   · rw [zs2 h hv]
   · simp only [hv, ne_eq, not_false_eq_true, if_true]
 · simp only [h, ne_eq, not_false_eq_true, if_true]
theorem zqX (es : List D) (hs : allSize 8 es = true) (hL : es.length ≤ 4294967296) : callL G zt [.d (.sl es)] [] = some (.acc 0 es, [(0, .acc es.length)]) := by
 cases es with
 | nil =>
  refine znQ zc3 (by decide) ?_ ?_
  · simp -implicitDefEqProofs only [z44, go_sem]
  · simp -implicitDefEqProofs only [z44, Nat.zero_le, go_sem]
 | cons e es =>
  rw [znP zc3 (by simp) (by decide)]
  simp only [znq] at hs
  simp only [List.length_cons] at hL
  simp -implicitDefEqProofs (disch := omega) only [z44, go_sem, *]
theorem zA4 (a b : List Message) (hL : a.length ≤ 4294967296) : callL G z1Y [.d (.sl (a.map eMessage)), .d (.sl (b.map eMessage))] [] = some (.d (.bool (decide (a = b))), []) := by
 by_cases hab : a.length = b.length
 · have := zo6 (G := G) (x := z9r) (ks := []) a.length (fun k => decide (a[k]? = b[k]?)) (fun k => ⟨[(0, .d (.sl (a.map eMessage))), (1, .d (.sl (b.map eMessage))), (5, .d (.int .i64 k))], []⟩) (.ret, ⟨[(4, .d (.bool false))], []⟩) (.exit 0, ⟨[], []⟩) (fun k hk L => by
    simp only [z9r]
    by_cases h0 : k < a.length
    · have hk2 : k < b.length := by omega
      simp only [get_eq h0 hk2]
      by_cases hc : a[k] = b[k]
      · simp -implicitDefEqProofs (disch := omega) only [go_sem, hc, zkl, zlE, zlF, zlR, zjU, zjV, eD_isT, zjT, zmU, zkU, zmT, zmV, zly, zlZ, zkB, zlY, zm0, zlh, zm2, zkC, zm1, zm3, zli, zmI, zkQ, zmH, zmJ, zlu, zmq, zkK, zmp, zmr, zkh, zmC, zkO, zmB, zmD, zls, zmk, zkI, zmj, zml, zk7, zn0, zkW, zmZ, zn1, zlA, zmL, zkR, zmK, zmM, zlv, zmO, zkS, zmN, zmP, zlw, zmX, zkV, zmW, zmY, zlz, zlW, zkA, zlV, zlX, zlf, zlT, zkz, zlS, zlU, zlg, zlJ, zkw, zlI, zlK, zlc, zmR, zkT, zmQ, zmS, zlx, zme, zkG, zmd, zmf, zlm, zmz, zkN, zmy, zmA, zlr, zmn, zkJ, zmm, zmo, zlo, zmt, zkL, zms, zmu, zlp, zmF, zkP, zmE, zmG, zlt, zn6, zkY, zn5, zn7, zlC, zmb, zkF, zma, zmc, zll, zn3, zkX, zn2, zn4, zlB, zmh, zkH, zmg, zmi, zln, zlM, zkx, zlL, zlN, zld, zm8, zkE, zm7, zm9, zlk, zm5, zkD, zm4, zm6, zlj, zn9, zkZ, zn8, zna, zlD, zmw, zkM, zmv, zmx, zlq, zlP, zky, zlO, zlQ, zle]
      · simp -implicitDefEqProofs (disch := omega) only [go_sem, hc, zkl, zlE, zlF, zlR, zjU, zjV, eD_isT, zjT, zmU, zkU, zmT, zmV, zly, zlZ, zkB, zlY, zm0, zlh, zm2, zkC, zm1, zm3, zli, zmI, zkQ, zmH, zmJ, zlu, zmq, zkK, zmp, zmr, zkh, zmC, zkO, zmB, zmD, zls, zmk, zkI, zmj, zml, zk7, zn0, zkW, zmZ, zn1, zlA, zmL, zkR, zmK, zmM, zlv, zmO, zkS, zmN, zmP, zlw, zmX, zkV, zmW, zmY, zlz, zlW, zkA, zlV, zlX, zlf, zlT, zkz, zlS, zlU, zlg, zlJ, zkw, zlI, zlK, zlc, zmR, zkT, zmQ, zmS, zlx, zme, zkG, zmd, zmf, zlm, zmz, zkN, zmy, zmA, zlr, zmn, zkJ, zmm, zmo, zlo, zmt, zkL, zms, zmu, zlp, zmF, zkP, zmE, zmG, zlt, zn6, zkY, zn5, zn7, zlC, zmb, zkF, zma, zmc, zll, zn3, zkX, zn2, zn4, zlB, zmh, zkH, zmg, zmi, zln, zlM, zkx, zlL, zlN, zld, zm8, zkE, zm7, zm9, zlk, zm5, zkD, zm4, zm6, zlj, zn9, zkZ, zn8, zna, zlD, zmw, zkM, zmv, zmx, zlq, zlP, zky, zlO, zlQ, zle]
    · simp -implicitDefEqProofs (disch := omega) only [go_sem, Nat.zero_add])
   simp only [all_eq hab, Int.natCast_zero] at this
   by_cases e : a = b
   · subst e
     simp only [decide_true, if_true] at this
     rw [zjI z68 (by simp)]; simp -implicitDefEqProofs (disch := omega) only [z38, go_sem, this]
   · simp only [e, decide_false, Bool.false_eq_true, if_false] at this
     rw [zjI z68 (by simp)]; simp -implicitDefEqProofs (disch := omega) only [z38, go_sem, hab, this, e]
 · have e : a ≠ b := fun e => hab (by rw [e])
   rw [zjI z68 (by simp)]; simp -implicitDefEqProofs (disch := omega) only [z38, go_sem, e]
theorem zsX (a b : List Lease) (hL : a.length ≤ 4294967296) : callL G z08 [.d (.sl (a.map eLease)), .d (.sl (b.map eLease))] [] = some (.d (.bool (decide (a = b))), []) := by
 by_cases hab : a.length = b.length
 · have := zo6 (G := G) (x := z9t) (ks := []) a.length (fun k => decide (a[k]? = b[k]?)) (fun k => ⟨[(0, .d (.sl (a.map eLease))), (1, .d (.sl (b.map eLease))), (5, .d (.int .i64 k))], []⟩) (.ret, ⟨[(4, .d (.bool false))], []⟩) (.exit 0, ⟨[], []⟩) (fun k hk L => by
    simp only [z9t]
    by_cases h0 : k < a.length
    · have hk2 : k < b.length := by omega
      simp only [get_eq h0 hk2]
      by_cases hc : a[k] = b[k]
      · simp -implicitDefEqProofs (disch := omega) only [go_sem, hc, zkl, zlE, zlF, zlR, zjU, zjV, eD_isT, zjT, zmU, zkU, zmT, zmV, zly, zlZ, zkB, zlY, zm0, zlh, zm2, zkC, zm1, zm3, zli, zmI, zkQ, zmH, zmJ, zlu, zmq, zkK, zmp, zmr, zkh, zmC, zkO, zmB, zmD, zls, zmk, zkI, zmj, zml, zk7, zn0, zkW, zmZ, zn1, zlA, zmL, zkR, zmK, zmM, zlv, zmO, zkS, zmN, zmP, zlw, zmX, zkV, zmW, zmY, zlz, zlW, zkA, zlV, zlX, zlf, zlT, zkz, zlS, zlU, zlg, zlJ, zkw, zlI, zlK, zlc, zmR, zkT, zmQ, zmS, zlx, zme, zkG, zmd, zmf, zlm, zmz, zkN, zmy, zmA, zlr, zmn, zkJ, zmm, zmo, zlo, zmt, zkL, zms, zmu, zlp, zmF, zkP, zmE, zmG, zlt, zn6, zkY, zn5, zn7, zlC, zmb, zkF, zma, zmc, zll, zn3, zkX, zn2, zn4, zlB, zmh, zkH, zmg, zmi, zln, zlM, zkx, zlL, zlN, zld, zm8, zkE, zm7, zm9, zlk, zm5, zkD, zm4, zm6, zlj, zn9, zkZ, zn8, zna, zlD, zmw, zkM, zmv, zmx, zlq, zlP, zky, zlO, zlQ, zle]
      · simp -implicitDefEqProofs (disch := omega) only [go_sem, hc, zkl, zlE, zlF, zlR, zjU, zjV, eD_isT, zjT, zmU, zkU, zmT, zmV, zly, zlZ, zkB, zlY, zm0, zlh, zm2, zkC, zm1, zm3, zli, zmI, zkQ, zmH, zmJ, zlu, zmq, zkK, zmp, zmr, zkh, zmC, zkO, zmB, zmD, zls, zmk, zkI, zmj, zml, zk7, zn0, zkW, zmZ, zn1, zlA, zmL, zkR, zmK, zmM, zlv, zmO, zkS, zmN, zmP, zlw, zmX, zkV, zmW, zmY, zlz, zlW, zkA, zlV, zlX, zlf, zlT, zkz, zlS, zlU, zlg, zlJ, zkw, zlI, zlK, zlc, zmR, zkT, zmQ, zmS, zlx, zme, zkG, zmd, zmf, zlm, zmz, zkN, zmy, zmA, zlr, zmn, zkJ, zmm, zmo, zlo, zmt, zkL, zms, zmu, zlp, zmF, zkP, zmE, zmG, zlt, zn6, zkY, zn5, zn7, zlC, zmb, zkF, zma, zmc, zll, zn3, zkX, zn2, zn4, zlB, zmh, zkH, zmg, zmi, zln, zlM, zkx, zlL, zlN, zld, zm8, zkE, zm7, zm9, zlk, zm5, zkD, zm4, zm6, zlj, zn9, zkZ, zn8, zna, zlD, zmw, zkM, zmv, zmx, zlq, zlP, zky, zlO, zlQ, zle]
    · simp -implicitDefEqProofs (disch := omega) only [go_sem, Nat.zero_add])
   simp only [all_eq hab, Int.natCast_zero] at this
   by_cases e : a = b
   · subst e
     simp only [decide_true, if_true] at this
     rw [zjI z8v (by simp)]; simp -implicitDefEqProofs (disch := omega) only [z3c, go_sem, this]
   · simp only [e, decide_false, Bool.false_eq_true, if_false] at this
     rw [zjI z8v (by simp)]; simp -implicitDefEqProofs (disch := omega) only [z3c, go_sem, hab, this, e]
 · have e : a ≠ b := fun e => hab (by rw [e])
   rw [zjI z8v (by simp)]; simp -implicitDefEqProofs (disch := omega) only [z3c, go_sem, e]
theorem zA5 (a b : List Due) (hL : a.length ≤ 4294967296) : callL G z29 [.d (.sl (a.map eD)), .d (.sl (b.map eD))] [] = some (.d (.bool (decide (a = b))), []) := by
 by_cases hab : a.length = b.length
 · have := zo6 (G := G) (x := z9s) (ks := []) a.length (fun k => decide (a[k]? = b[k]?)) (fun k => ⟨[(0, .d (.sl (a.map eD))), (1, .d (.sl (b.map eD))), (5, .d (.int .i64 k))], []⟩) (.ret, ⟨[(4, .d (.bool false))], []⟩) (.exit 0, ⟨[], []⟩) (fun k hk L => by
    simp only [z9s]
    by_cases h0 : k < a.length
    · have hk2 : k < b.length := by omega
      simp only [get_eq h0 hk2]
      by_cases hc : a[k] = b[k]
      · simp -implicitDefEqProofs (disch := omega) only [go_sem, hc, zkl, zlE, zlF, zlR, zjU, zjV, eD_isT, zjT, zmU, zkU, zmT, zmV, zly, zlZ, zkB, zlY, zm0, zlh, zm2, zkC, zm1, zm3, zli, zmI, zkQ, zmH, zmJ, zlu, zmq, zkK, zmp, zmr, zkh, zmC, zkO, zmB, zmD, zls, zmk, zkI, zmj, zml, zk7, zn0, zkW, zmZ, zn1, zlA, zmL, zkR, zmK, zmM, zlv, zmO, zkS, zmN, zmP, zlw, zmX, zkV, zmW, zmY, zlz, zlW, zkA, zlV, zlX, zlf, zlT, zkz, zlS, zlU, zlg, zlJ, zkw, zlI, zlK, zlc, zmR, zkT, zmQ, zmS, zlx, zme, zkG, zmd, zmf, zlm, zmz, zkN, zmy, zmA, zlr, zmn, zkJ, zmm, zmo, zlo, zmt, zkL, zms, zmu, zlp, zmF, zkP, zmE, zmG, zlt, zn6, zkY, zn5, zn7, zlC, zmb, zkF, zma, zmc, zll, zn3, zkX, zn2, zn4, zlB, zmh, zkH, zmg, zmi, zln, zlM, zkx, zlL, zlN, zld, zm8, zkE, zm7, zm9, zlk, zm5, zkD, zm4, zm6, zlj, zn9, zkZ, zn8, zna, zlD, zmw, zkM, zmv, zmx, zlq, zlP, zky, zlO, zlQ, zle]
      · simp -implicitDefEqProofs (disch := omega) only [go_sem, hc, zkl, zlE, zlF, zlR, zjU, zjV, eD_isT, zjT, zmU, zkU, zmT, zmV, zly, zlZ, zkB, zlY, zm0, zlh, zm2, zkC, zm1, zm3, zli, zmI, zkQ, zmH, zmJ, zlu, zmq, zkK, zmp, zmr, zkh, zmC, zkO, zmB, zmD, zls, zmk, zkI, zmj, zml, zk7, zn0, zkW, zmZ, zn1, zlA, zmL, zkR, zmK, zmM, zlv, zmO, zkS, zmN, zmP, zlw, zmX, zkV, zmW, zmY, zlz, zlW, zkA, zlV, zlX, zlf, zlT, zkz, zlS, zlU, zlg, zlJ, zkw, zlI, zlK, zlc, zmR, zkT, zmQ, zmS, zlx, zme, zkG, zmd, zmf, zlm, zmz, zkN, zmy, zmA, zlr, zmn, zkJ, zmm, zmo, zlo, zmt, zkL, zms, zmu, zlp, zmF, zkP, zmE, zmG, zlt, zn6, zkY, zn5, zn7, zlC, zmb, zkF, zma, zmc, zll, zn3, zkX, zn2, zn4, zlB, zmh, zkH, zmg, zmi, zln, zlM, zkx, zlL, zlN, zld, zm8, zkE, zm7, zm9, zlk, zm5, zkD, zm4, zm6, zlj, zn9, zkZ, zn8, zna, zlD, zmw, zkM, zmv, zmx, zlq, zlP, zky, zlO, zlQ, zle]
    · simp -implicitDefEqProofs (disch := omega) only [go_sem, Nat.zero_add])
   simp only [all_eq hab, Int.natCast_zero] at this
   by_cases e : a = b
   · subst e
     simp only [decide_true, if_true] at this
     rw [zjI z8r (by simp)]; simp -implicitDefEqProofs (disch := omega) only [z3a, go_sem, this]
   · simp only [e, decide_false, Bool.false_eq_true, if_false] at this
     rw [zjI z8r (by simp)]; simp -implicitDefEqProofs (disch := omega) only [z3a, go_sem, hab, this, e]
 · have e : a ≠ b := fun e => hab (by rw [e])
   rw [zjI z8r (by simp)]; simp -implicitDefEqProofs (disch := omega) only [z3a, go_sem, e]
theorem zA1 (a b : Ring) (hL : a.cells.length ≤ 4294967296) : callL G z23 [.d (eRing a), .d (eRing b)] [] = some (.d (.bool (decide (a = b))), []) := by
 have h1 := zA4 a.cells b.cells hL
 have e : decide (a = b) = (decide (a.head = b.head) && (decide (a.size = b.size) && decide (a.cells = b.cells))) := by
  cases a; cases b
  apply Bool.eq_iff_iff.2
  simp only [Ring.mk.injEq, decide_eq_true_eq, Bool.and_eq_true]
  exact ⟨fun ⟨p, q, r⟩ => ⟨q, r, p⟩, fun ⟨p, q, r⟩ => ⟨r, p, q⟩⟩
 rw [e]
 rw [zjI zbC (by simp)]; simp -implicitDefEqProofs (disch := omega) only [zap, getDT, go_sem, *]; (try simp only [pA, pB, pC, pD, pE, pF, pG, pH, pI, pJ, pK, pL, pM, pN, pO, pP, if_true, if_false]); repeat' (first | done | rfl | ((first | refine iteC (fun hq => ?_) (fun hq => ?_) | refine iteP (fun hq => ?_) (fun hq => ?_)) <;> (try (first | (exfalso; omega) | contradiction)) <;> (try simp -implicitDefEqProofs (disch := omega) only [getDT, go_sem, *]) <;> (try simp only [pA, pB, pC, pD, pE, pF, pG, pH, pI, pJ, pK, pL, pM, pN, pO, pP, if_true, if_false]))); (all_goals try rfl); (all_goals try (repeat' (first | done | rfl | (exfalso; omega) | contradiction | (refine iteR (fun hq => ?_) (fun hq => ?_)))))
theorem zA3 (a b : Table) (h1 : a.l.length ≤ 4294967296) (h2 : a.heap.length ≤ 4294967296) : callL G z2h [.d (eTable a), .d (eTable b)] [] = some (.d (.bool (decide (a = b))), []) := by
 have h1 := zsX a.l b.l h1
 have h2 := zA5 a.heap b.heap h2
 have e : decide (a = b) = (decide (a.l = b.l) && decide (a.heap = b.heap)) := by
  cases a; cases b
  apply Bool.eq_iff_iff.2
  simp only [Table.mk.injEq, decide_eq_true_eq, Bool.and_eq_true]
 rw [e]
 rw [zjI zf9 (by simp)]; simp -implicitDefEqProofs (disch := omega) only [zay, getDT, go_sem, *]; (try simp only [pA, pB, pC, pD, pE, pF, pG, pH, pI, pJ, pK, pL, pM, pN, pO, pP, if_true, if_false]); repeat' (first | done | rfl | ((first | refine iteC (fun hq => ?_) (fun hq => ?_) | refine iteP (fun hq => ?_) (fun hq => ?_)) <;> (try (first | (exfalso; omega) | contradiction)) <;> (try simp -implicitDefEqProofs (disch := omega) only [getDT, go_sem, *]) <;> (try simp only [pA, pB, pC, pD, pE, pF, pG, pH, pI, pJ, pK, pL, pM, pN, pO, pP, if_true, if_false]))); (all_goals try rfl); (all_goals try (repeat' (first | done | rfl | (exfalso; omega) | contradiction | (refine iteR (fun hq => ?_) (fun hq => ?_)))))
structure FitS (s : Shard) : Prop where
 a : s.ready.cells.length ≤ 4294967296
 b : s.leases.l.length ≤ 4294967296
 c : s.leases.heap.length ≤ 4294967296
theorem zA2 (a b : Shard) (h : FitS a) : callL G z0d [.d (eShard a), .d (eShard b)] [] = some (.d (.bool (decide (a = b))), []) := by
 obtain ⟨f1, f2, f3⟩ := h
 have h1 := zA1 a.ready b.ready f1
 have h2 := zA3 a.leases b.leases f2 f3
 have e : decide (a = b) = (decide (a.live = b.live) && (decide (a.low = b.low) && (decide (a.high = b.high) && (decide (a.ready = b.ready) && decide (a.leases = b.leases))))) := by
  cases a; cases b
  apply Bool.eq_iff_iff.2
  simp only [Shard.mk.injEq, decide_eq_true_eq, Bool.and_eq_true]
 rw [e]
 simp only [eRing, eTable] at h1 h2
 rw [zjI zfc (by simp)]; simp -implicitDefEqProofs (disch := omega) only [zaD, getDT, go_sem, *]; (try simp only [pA, pB, pC, pD, pE, pF, pG, pH, pI, pJ, pK, pL, pM, pN, pO, pP, if_true, if_false]); repeat' (first | done | rfl | ((first | refine iteC (fun hq => ?_) (fun hq => ?_) | refine iteP (fun hq => ?_) (fun hq => ?_)) <;> (try (first | (exfalso; omega) | contradiction)) <;> (try simp -implicitDefEqProofs (disch := omega) only [getDT, go_sem, *]) <;> (try simp only [pA, pB, pC, pD, pE, pF, pG, pH, pI, pJ, pK, pL, pM, pN, pO, pP, if_true, if_false]))); (all_goals try rfl); (all_goals try (repeat' (first | done | rfl | (exfalso; omega) | contradiction | (refine iteR (fun hq => ?_) (fun hq => ?_)))))
structure FitA (a : Arena) : Prop where
 sl : a.slots.length ≤ 1000
 sh : ∀ i (h : i < a.slots.length), FitS (a.slots[i]).shard
 st : a.stripes.length ≤ 4294967296
 de : a.dead.dead.l.length ≤ 4294967296
 dl : a.dir.l.length ≤ 4294967296
 df : a.dir.forward.length ≤ 4294967296
theorem zpe (s : List UInt8) : bytesD (byD s) = some s := by
 unfold byD
 induction s with
 | nil => rfl
 | cons b s ih =>
  simp only [List.map_cons, bytesD, ih, Option.map_some, Int.toNat_natCast]
  simp
theorem zu0 (l : List Int) (hL : l.length ≤ 4000) (n : Nat) (hn : n ≤ 3) : ∀ p : Nat × Nat × List UInt8, p.1 ≤ n ∧ p.2.2.length = n → ∃ a' bs, bs.length = n ∧ loopL G [] l_base_Src_Body_0 ⟨[(0, .ref 1000000 0 0), (3, .osl 7 0 n), (4, .d (.int .i64 p.1)), (1000000, .ref 1000000 1 0)], [(7, .row ((byD p.2.2).map .d)), (1000000, srcO l p.2.1)]⟩ = some (.exit 0, ⟨[(3, .osl 7 0 n), (1000000, .ref 1000000 1 0)], [(7, .row ((byD bs).map .d)), (1000000, srcO l a')]⟩) := by
 refine znh (fun p : Nat × Nat × List UInt8 => n - p.1) (fun p : Nat × Nat × List UInt8 => p.1 ≤ n ∧ p.2.2.length = n) (fun p : Nat × Nat × List UInt8 => ⟨[(0, .ref 1000000 0 0), (3, .osl 7 0 n), (4, .d (.int .i64 p.1)), (1000000, .ref 1000000 1 0)], [(7, .row ((byD p.2.2).map .d)), (1000000, srcO l p.2.1)]⟩) (fun p r => ∃ a' bs, bs.length = n ∧ r = some (.exit 0, ⟨[(3, .osl 7 0 n), (1000000, .ref 1000000 1 0)], [(7, .row ((byD bs).map .d)), (1000000, srcO l a')]⟩)) fun ⟨k, a, bs⟩ ⟨hk, hb⟩ L ih => ?_
 simp only at ih hk hb
 simp only [l_base_Src_Body_0]
 by_cases h0 : k < n
 · have n1 := nD_in l a (n := 3) (by omega)
   obtain ⟨c, hc⟩ : ∃ c : UInt8, (c.toNat : Int) = 97 + nD l a 3 := ⟨UInt8.ofNat (97 + nD l a 3).toNat, by rw [UInt8.toNat_ofNat']; omega⟩
   have hg : ((byD bs).map AV.d)[k]? = some (.d (.int .u8 (bs.getD k 0).toNat)) := by
    unfold byD
    simp [List.getElem?_eq_getElem (show k < bs.length by omega), show k < bs.length by omega]
   have hs : ((byD bs).map AV.d).set k (.d (.int .u8 (97 + nD l a 3))) = (byD (bs.set k c)).map AV.d := by
    unfold byD
    rw [← hc, List.map_set, List.map_set]
   obtain ⟨a', bs', h1, h2⟩ := ih (k + 1, (rawD l a).2, bs.set k c) ⟨by simp only; omega, by simp only [List.length_set]; exact hb⟩ (by simp only; omega)
   refine ⟨a', bs', h1, ?_⟩
   simp only [Int.natCast_add, Int.natCast_one, Int.natCast_zero, Int.natCast_mul, Int.cast_ofNat_Int, List.length_append, List.length_map, List.map_nil, List.length_nil, List.map_append, List.map_cons, List.length_cons, Nat.zero_add, srcO, mapSet] at h2
   simp -implicitDefEqProofs (disch := omega) only [go_sem, n_ok, hg, hs, h0]
   exact h2
 · refine ⟨a, bs, hb, ?_⟩
   simp -implicitDefEqProofs (disch := omega) only [go_sem, h0]
theorem zom (l : List Int) (a : Nat) (hL : l.length ≤ 4000) : ∃ s a', s.length ≤ 3 ∧ callL G zB [.ref 1000000 0 0] [(1000000, srcO l a)] = some (.d (.str s), [(1000000, srcO l a')]) := by
 have n1 := nD_in l a (n := 4) (by omega)
 obtain ⟨n, hn⟩ : ∃ n, n = (nD l a 4).toNat := ⟨_, rfl⟩
 have e : nD l a 4 = (n : Int) := by omega
 obtain ⟨a', bs, h1, h2⟩ := zu0 l hL n (by omega) (0, (rawD l a).2, List.replicate n 0) ⟨by omega, by simp⟩
 have hz : List.replicate n (AV.d (.int .u8 0)) = (byD (List.replicate n 0)).map AV.d := by unfold byD; simp
 refine ⟨bs, a', by omega, ?_⟩
 have hl : (byD bs).length = n := by unfold byD; simpa using h1
 have ht : List.take n ((byD bs).map AV.d) = (byD bs).map AV.d := List.take_of_length_le (by simp [hl])
 simp only [Int.natCast_add, Int.natCast_one, Int.natCast_zero, Int.natCast_mul, Int.cast_ofNat_Int, List.length_append, List.length_map, List.map_nil, List.length_nil, List.map_append, List.map_cons, List.length_cons, Nat.zero_add, srcO, mapSet] at h2
 by_cases h0 : n = 0
 · subst h0
   have : bs = [] := List.length_eq_zero_iff.1 h1
   subst this
   simp only [List.replicate_zero, show byD [] = [] from rfl, List.map_nil] at h2
   rw [zjI zb5 (by simp)]; simp -implicitDefEqProofs (disch := omega) only [z6D, go_sem, n_ok, e, List.replicate_zero, h2]
 · have hne : ¬ (List.map AV.d (byD bs) = []) := by
    intro e2
    have := congrArg List.length e2
    simp [hl] at this
    exact h0 this
   rw [zjI zb5 (by simp)]; simp -implicitDefEqProofs (disch := omega) only [z6D, go_sem, n_ok, e, hz, h2, hl, ht, zpe, hne]
theorem zqK : ∃ f : List Int → Nat → List UInt8 × Nat, ∀ l a, l.length ≤ 4000 → (f l a).1.length ≤ 3 ∧ callL G zB [.ref 1000000 0 0] [(1000000, srcO l a)] = some (.d (.str (f l a).1), [(1000000, srcO l (f l a).2)]) := by
 refine ⟨fun l a => if h : l.length ≤ 4000 then (Classical.choose (zom l a h), Classical.choose (Classical.choose_spec (zom l a h))) else ([], 0), fun l a h => ?_⟩
 simp only [h, dif_pos]
 exact Classical.choose_spec (Classical.choose_spec (zom l a h))
noncomputable def bodyF : List Int → Nat → List UInt8 × Nat := Classical.choose zqK
theorem zqJ (l : List Int) (a : Nat) (hL : l.length ≤ 4000) : (bodyF l a).1.length ≤ 3 ∧ callL G zB [.ref 1000000 0 0] [(1000000, srcO l a)] = some (.d (.str (bodyF l a).1), [(1000000, srcO l (bodyF l a).2)]) := Classical.choose_spec zqK l a hL
end Go.Proofs.YtcjncbkhbllchaaGreat

namespace Go.Sim
open Go (World Value Addr TypeId Act Ending Program)
variable {P : Program}
def accRow : AV × Heap → Option (AV × Heap)
 | (.acc 0 [], [(0, .acc 0)]) => some (.xsl [], [])
 | (.acc 0 (e :: es), [(0, .acc n)]) => if n = (e :: es).length then some (.osl 0 0 n, [(0, .row ((e :: es).map .d))]) else none
 | _ => none
def rowed (G0 : FuncId → Option AFn) (k : Nat) (f : FuncId) (args : List AV) (os : Heap) : Option (AV × Heap) :=
 if os.isEmpty = true then (callF G0 k f args os).bind accRow else none
theorem gf_row {f : FuncId} {args : List AV} {os : Heap} {es : List D} (h0 : es ≠ []) (h : GF P f args os (.acc 0 es) [(0, .acc es.length)]) : GF P f args os (.osl 0 0 es.length) [(0, .row (es.map .d))] := by
 intro w R ι us hR hι hinj hob hv
 refine (h w R ι us hR hι hinj hob hv).mono fun e w' => ?_
 rintro ⟨u, ι', R', rfl, p1, p2, p3, p4, p5, p6, p7, p8, p9, p10, p11, p12, p13⟩
 have hob := p12 _ _ (.head _)
 have hm0 : es.length ≠ 0 := fun e => h0 (List.length_eq_zero_iff.1 e)
 have hmk : mark [(0, Obj.acc es.length)] 0 = some es.length := by simp [mark, look]
 have hmk' : mark [(0, Obj.row (es.map .d))] 0 = none := by simp [mark, look]
 have key : OB w' R' ι' (mark [(0, .row (es.map .d))]) 0 (.row (es.map .d)) ∧ VA w' R' ι' (mark [(0, .row (es.map .d))]) (.osl 0 0 es.length) u := by
  generalize hme : mark [(0, Obj.acc es.length)] = me at *
  generalize hde : es = ds at p13
  cases p13 with
  | accR _ _ _ _ _ _ hlt => have := hlt _ hmk; rw [hde] at this; omega
  | acc0 => exact absurd hde h0
  | @accC _ b s m' cap _ c T hι2 hmk2 _ hL hcap hsz hb hc hel =>
   subst hde
   cases hob with
   | accN hι' => rw [hι2] at hι'; cases hι'
   | acc _ hι' hR2 hb' hs0 _ =>
    rw [hι2] at hι'; cases hι'
    refine ⟨.row hι2 hR2 hb hs0 (fun e he => ?_) ?_ fun i e hi j x hj => ?_, ?_⟩
    · obtain ⟨d, hd, rfl⟩ := List.mem_map.1 he; exact hsz d hd
    · rw [List.length_map]; exact Nat.le_trans (Nat.mul_le_mul_right _ hcap) hc
    · rw [List.getElem?_map] at hi
      obtain ⟨d, hd, rfl⟩ := Option.map_eq_some_iff.1 hi
      simp only [AV.cells, List.getElem?_map] at hj
      obtain ⟨cd, hcd, rfl⟩ := Option.map_eq_some_iff.1 hj
      obtain ⟨k1, q, k2, k3⟩ := (hel i d hd).v_of_cells j cd hcd
      exact ⟨k1, q, by rw [zjN hb] at k2; exact k2, .d k3⟩
    · have := VA.osl (w := w') (R := R') (mk := mark [(0, Obj.row (es.map .d))]) (off := 0) (len := es.length) (cap := cap) hι2 hmk' hb hcap (by simpa using hc) hL
      simpa only [Nat.zero_mul] using this
 refine ⟨u, ι', R', rfl, p1, p2, p3, p4, p5, p6, p7, fun b hb => ?_, p9, p10, p11, fun o ob hm => ?_, key.2⟩
 · obtain ⟨q1, q2⟩ := p8 b hb
   refine ⟨q1, ?_⟩
   rcases q2 with q | q | ⟨o, s, qa, qb⟩
   · exact .inl q
   · exact .inr (.inl q)
   · exfalso
     simp only [look] at qb
     split at qb
     · cases qb
     · cases qb
 · simp only [List.mem_singleton, Prod.mk.injEq] at hm
   obtain ⟨rfl, rfl⟩ := hm
   exact key.1
theorem zrj {f : FuncId} {args : List AV} {os : Heap} (h : GF P f args os (.acc 0 []) [(0, .acc 0)]) : GF P f args os (.xsl []) [] := by
 intro w R ι us hR hι hinj hob hv
 refine (h w R ι us hR hι hinj hob hv).mono fun e w' => ?_
 rintro ⟨u, ι', R', rfl, p1, p2, p3, p4, p5, p6, p7, p8, p9, p10, p11, p12, p13⟩
 have hmk : mark [(0, Obj.acc 0)] 0 = some 0 := by simp [mark, look]
 have hob := p12 _ _ (.head _)
 have key : ∃ a, u = .slice a 0 0 := by
  generalize hme : mark [(0, Obj.acc 0)] = me at *
  generalize hde : ([] : List D) = ds at p13
  cases p13 with
  | accR _ _ _ _ _ _ hlt => have := hlt _ hmk; omega
  | acc0 => exact ⟨_, rfl⟩
  | @accC _ b s m' cap _ c T hι2 hmk2 _ hL hcap hsz hb hc hel =>
   cases hob with
   | accN hι' => rw [hι2] at hι'; cases hι'
   | acc hpos _ _ _ _ _ => omega
 obtain ⟨a, rfl⟩ := key
 refine ⟨_, ι', R', rfl, p1, p2, p3, p4, p5, p6, p7, fun b hb => ?_, p9, p10, p11, fun o ob hm => (by simp at hm), .xsl .sl0⟩
 obtain ⟨q1, q2⟩ := p8 b hb
 refine ⟨q1, ?_⟩
 rcases q2 with q | q | ⟨o, s, qa, qb⟩
 · exact .inl q
 · exact .inr (.inl q)
 · exfalso
   simp only [look] at qb
   split at qb
   · cases qb
   · cases qb
theorem zB9 {G0 : FuncId → Option AFn} (hG : GOK P G0) (k : Nat) (f : FuncId) : FnOK P f (.ext (rowed G0 k f)) := by
 intro args os r os' h h1 h2
 unfold rowed at h
 split at h
 · rename_i hos
   have hos : os = [] := List.isEmpty_iff.1 hos
   subst hos
   obtain ⟨p, hp, hr⟩ := Option.bind_eq_some_iff.1 h
   obtain ⟨p1, p2⟩ := p
   obtain ⟨q1, q2, q3⟩ := zqS hG k f args [] p1 p2 hp h1 h2
   refine ⟨q1, ?_⟩
   unfold accRow at hr
   split at hr
   · cases hr
     rename_i he
     cases he
     exact ⟨zrj q2, ⟨fun n hn => by simp [look] at hn, fun i hi => absurd hi (by simp), fun q hq => by simp [AV.refs] at hq, fun n ob h => by simp at h⟩⟩
   · rename_i e es n he
     cases he
     split at hr
     · rename_i hn
       cases hr
       subst hn
       refine ⟨gf_row (by simp) q2, ⟨fun n hn => ?_, fun i hi => absurd hi (by simp), fun q hq => ?_, fun n ob hm q hq => ?_⟩⟩
       · simp only [look] at hn
         split at hn
         · omega
         · cases hn
       · have : q = 0 := by
          simp only [AV.refs] at hq
          first | exact of_decide_eq_true hq | exact (of_decide_eq_true hq).symm | exact (beq_iff_eq.1 hq) | exact (beq_iff_eq.1 hq).symm
         subst this; simp [look]
       · simp only [List.mem_singleton, Prod.mk.injEq] at hm
         obtain ⟨rfl, rfl⟩ := hm
         exfalso
         simp only [Obj.refs] at hq
         generalize (e :: es) = l at hq
         induction l with
         | nil => simp [AV.refsL] at hq
         | cons x l ih => simp only [List.map_cons, AV.refsL, AV.refs, Bool.false_or] at hq; exact ih hq
     · cases hr
   · cases hr
 · cases h
def rowF (F : Sem1) (f : FuncId) (args : List AV) (os : Heap) : Option (AV × Heap) :=
 if os.isEmpty = true then (F f args os).bind accRow else none
theorem zzV {F : Sem1} (hF : FOK P F) (f : FuncId) : FnOK P f (.ext (rowF F f)) := by
 intro args os r os' h h1 h2
 unfold rowF at h
 split at h
 · rename_i hos
   have hos : os = [] := List.isEmpty_iff.1 hos
   subst hos
   obtain ⟨p, hp, hr⟩ := Option.bind_eq_some_iff.1 h
   obtain ⟨p1, p2⟩ := p
   obtain ⟨q1, q2, q3⟩ := hF f args [] p1 p2 hp h1 h2
   refine ⟨q1, ?_⟩
   unfold accRow at hr
   split at hr
   · cases hr
     rename_i he
     cases he
     exact ⟨zrj q2, ⟨fun n hn => by simp [look] at hn, fun i hi => absurd hi (by simp), fun q hq => by simp [AV.refs] at hq, fun n ob h => by simp at h⟩⟩
   · rename_i e es n he
     cases he
     split at hr
     · rename_i hn
       cases hr
       subst hn
       refine ⟨gf_row (by simp) q2, ⟨fun n hn => ?_, fun i hi => absurd hi (by simp), fun q hq => ?_, fun n ob hm q hq => ?_⟩⟩
       · simp only [look] at hn
         split at hn
         · omega
         · cases hn
       · have : q = 0 := by
          simp only [AV.refs] at hq
          first | exact of_decide_eq_true hq | exact (of_decide_eq_true hq).symm | exact (beq_iff_eq.1 hq) | exact (beq_iff_eq.1 hq).symm
         subst this; simp [look]
       · simp only [List.mem_singleton, Prod.mk.injEq] at hm
         obtain ⟨rfl, rfl⟩ := hm
         exfalso
         simp only [Obj.refs] at hq
         generalize (e :: es) = l at hq
         induction l with
         | nil => simp [AV.refsL] at hq
         | cons x l ih => simp only [List.map_cons, AV.refsL, AV.refs, Bool.false_or] at hq; exact ih hq
     · cases hr
   · cases hr
 · cases h
noncomputable def layer (G : FuncId → Option AFn) (rows done : List FuncId) (f : FuncId) : Option AFn :=
 if rows.contains f then some (.ext (rowF (callL G) f)) else if done.contains f then some (.ext (callL G f)) else G f
theorem zxm {G : FuncId → Option AFn} (hG : GOK P G) (rows done : List FuncId) : GOK P (layer G rows done) := by
 intro f fn h
 unfold layer at h
 split at h
 · cases h; exact zzV (zph hG) f
 · split at h
   · cases h; exact fun args os r os' h1 h2 h3 => zph hG f args os r os' h1 h2 h3
   · exact hG f fn h
theorem zjK {G : FuncId → Option AFn} {rows done : List FuncId} {f : FuncId} {args : List AV} {os : Heap} (h : layer G rows done f = some (.ext (callL G f))) : callL (layer G rows done) f args os = callL G f args os := by
 rw [zns h]
theorem zrF {G : FuncId → Option AFn} {rows done : List FuncId} {f : FuncId} {args : List AV} {es : List D} (h : layer G rows done f = some (.ext (rowF (callL G) f))) (h0 : es ≠ []) (hc : callL G f args [] = some (.acc 0 es, [(0, .acc es.length)])) :
    callL (layer G rows done) f args [] = some (.osl 0 0 es.length, [(0, .row (es.map .d))]) := by
 rw [zns h]
 unfold rowF
 rw [if_pos (by rfl), hc]
 cases es with
 | nil => exact absurd rfl h0
 | cons e es => simp [accRow]
theorem zrG {G : FuncId → Option AFn} {rows done : List FuncId} {f : FuncId} {args : List AV} (h : layer G rows done f = some (.ext (rowF (callL G) f))) (hc : callL G f args [] = some (.acc 0 [], [(0, .acc 0)])) :
    callL (layer G rows done) f args [] = some (.xsl [], []) := by
 rw [zns h]
 unfold rowF
 rw [if_pos (by rfl), hc]
 simp [accRow]
end Go.Sim
