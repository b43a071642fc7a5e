/-
  Part of the calculus in which the claim is proved: The reader: shards
-/
import Derived.Test.YtcjncbkhbllchaaGreatB67c0517
import Derived.Test.YtcjncbkhbllchaaGreatB70c8139
set_option linter.unusedSimpArgs false
set_option linter.unusedVariables false
set_option maxHeartbeats 10000000
set_option maxRecDepth 100000
namespace Go.Proofs.YtcjncbkhbllchaaGreat
open Go Go.Sim
theorem zkj (l : List Lease) : leasesE l = 0 ↔ (l.Pairwise fun x y => x.msg.id < y.msg.id) ∧ ∀ x ∈ l, msgV x.msg = 0 ∧ x.msg.gen ≠ 0 ∧ 0 ≤ x.deadline ∧ x.deadline ≤ 1073741824 := by
 have h0 : leasesE l = 0 ↔ ∀ i, i < l.length → leaseE l i = 0 := by
  rcases zoH l with ⟨k, h1, h2, h3⟩ | ⟨h1, h2⟩
  · constructor
    · intro h; omega
    · intro h
      have := List.mem_of_find?_eq_some h1
      exact absurd (h k (List.mem_range.1 this)) h2
  · refine ⟨fun _ i hi => ?_, fun _ => h2⟩
    have := List.find?_eq_none.1 h1 i (List.mem_range.2 hi)
    unfold leaseB at this
    simpa using this
 constructor
 · intro h
   refine ⟨zk8 h, fun x hx => ?_⟩
   obtain ⟨i, hi, rfl⟩ := List.getElem_of_mem hx
   have := h0.1 h i hi
   unfold leaseE at this
   rw [getDT hi] at this
   split at this
   · omega
   split at this
   · omega
   split at this
   · omega
   rename_i q1 q2 q3
   exact ⟨by simpa using q1, q2, by omega, by omega⟩
 · rintro ⟨ha, hx⟩
   refine h0.2 fun i hi => ?_
   obtain ⟨p1, p2, p3, p4⟩ := hx _ (List.getElem_mem hi)
   unfold leaseE
   rw [getDT hi, if_neg (by simpa using p1), if_neg p2, if_neg (by omega), if_neg]
   rintro ⟨q1, q2⟩
   rw [getDT (show i - 1 < l.length by omega)] at q2
   have := List.pairwise_iff_getElem.1 ha (i - 1) i (by omega) hi (by omega)
   omega
theorem zk1 (t : Table) : tabV t = 0 ↔ t.l.length ≤ 12 ∧ leasesE t.l = 0 ∧ Ok t.heap ∧ t.heap.Perm (t.l.map dueOf) := by
 constructor
 · intro h
   obtain ⟨h1, h2, h3, h4⟩ := zk6 h
   have o := (zla _).1 h3
   have ha := zk8 h2
   have hR : matchR t = true := by rw [← zs2 h2 h3]; exact h4
   obtain ⟨e, q⟩ := (zs1 ha).1 hR
   obtain ⟨_, q2⟩ := zpJ.1 h4
   refine ⟨h1, h2, o, (List.perm_ext_iff_of_nodup ?_ (zqE ha)).2 fun d => ⟨q d, q2 d⟩⟩
   exact List.Pairwise.of_map (fun d : Due => d.2) (fun a b hab e => hab (by rw [e])) o.ids
 · rintro ⟨h1, h2, o, hp⟩
   have h3 := (zla _).2 o
   have h4 : matchP t = true := zpJ.2 ⟨by rw [hp.length_eq]; simp, fun d hd => hp.mem_iff.2 hd⟩
   unfold tabV
   rw [if_neg (by omega), if_neg (by simpa using h2), if_neg (by simpa using h3), if_pos h4]
theorem ids_of {t : Table} (h : t.heap.Perm (t.l.map dueOf)) (id : Int) : id ∈ t.heap.map (·.2) ↔ ∃ x ∈ t.l, x.msg.id = id := by
 constructor
 · intro hm
   obtain ⟨d, hd, e⟩ := List.mem_map.1 hm
   obtain ⟨x, hx, e2⟩ := List.mem_map.1 (h.mem_iff.1 hd)
   exact ⟨x, hx, by rw [← e, ← e2]; rfl⟩
 · rintro ⟨x, hx, e⟩
   exact List.mem_map.2 ⟨dueOf x, h.mem_iff.2 (List.mem_map.2 ⟨x, hx, rfl⟩), e⟩
theorem zl0 {l : List Lease} (id : Int) : 0 ≤ findL l id ↔ ∃ x ∈ l, x.msg.id = id := by
 constructor
 · intro h
   obtain ⟨k, hk, _, e⟩ := znW h
   exact ⟨l[k], List.getElem_mem hk, e⟩
 · rintro ⟨x, hx, e⟩
   by_cases h : 0 ≤ findL l id
   · exact h
   · exact absurd e (zpr (by omega) x hx)
theorem zqp {m : Message} {d : Int} (hm : msgV m = 0) (h0 : 0 ≤ d) (h1 : d ≤ 1073741824) : validD (d, m.id) = true := by
 unfold msgV at hm
 split at hm
 · rename_i h
   unfold validD
   simp
   omega
 · cases hm
theorem zpU {t : Table} {m : Message} {d : Int} (h : tabV t = 0) (hm : msgV m = 0) (h0 : 0 ≤ d) (h1 : d ≤ 1073741824) (hl : t.l.length ≠ 12) (hf : findL t.l m.id < 0) :
    pushD t.heap (d, m.id) = (pushL t.heap (d, m.id), 0) ∧ Ok (pushL t.heap (d, m.id)) ∧ (pushL t.heap (d, m.id)).Perm ((d, m.id) :: t.heap) := by
 obtain ⟨q1, q2, q3, q4⟩ := (zk1 t).1 h
 refine push_ok' q3 (zqp hm h0 h1) (by have := q4.length_eq; simp at this; omega) fun hc => ?_
 have := (zl0 m.id).2 ((ids_of q4 m.id).1 hc)
 omega
theorem zkm (l : List Lease) (m : Message) (d : Int) : (insLs l m d).Perm (⟨m, d⟩ :: l) := by
 unfold insLs
 have := List.perm_middle (a := (⟨m, d⟩ : Lease)) (l₁ := l.take (posL l m.id)) (l₂ := l.drop (posL l m.id))
 rw [List.take_append_drop] at this
 rw [List.append_assoc]
 exact this
theorem zwL {l : List Lease} (h : l.Pairwise fun x y => x.msg.id < y.msg.id) {m : Message} {d : Int} (hn : ∀ x ∈ l, x.msg.id ≠ m.id) : (insLs l m d).Pairwise fun x y => x.msg.id < y.msg.id := by
 unfold insLs
 have hlt : ∀ x ∈ l.take (posL l m.id), x.msg.id < m.id := fun x hx => by
  obtain ⟨k, hk, rfl⟩ := List.getElem_of_mem hx
  simp only [List.length_take] at hk
  rw [List.getElem_take]
  exact (pos_lt h (by omega)).1 (by omega)
 have hgt : ∀ x ∈ l.drop (posL l m.id), m.id < x.msg.id := fun x hx => by
  obtain ⟨k, hk, rfl⟩ := List.getElem_of_mem hx
  simp only [List.length_drop] at hk
  rw [List.getElem_drop]
  have h1 := pos_lt h (id := m.id) (k := posL l m.id + k) (by omega)
  have h2 := hn _ (List.getElem_mem (l := l) (n := posL l m.id + k) (by omega))
  omega
 rw [List.append_assoc, List.pairwise_append]
 refine ⟨h.sublist (List.take_sublist ..), ?_, fun a ha b hb => ?_⟩
 · rw [List.singleton_append, List.pairwise_cons]
   exact ⟨fun x hx => hgt x hx, h.sublist (List.drop_sublist ..)⟩
 · rw [List.singleton_append, List.mem_cons] at hb
   have h1 := hlt a ha
   rcases hb with rfl | hb
   · exact h1
   · have := hgt b hb; omega
theorem zpu {t : Table} {m : Message} {d : Int} (h : (grantD t m d).2 = 0) : tabV (grantD t m d).1 = 0 ∧ tabV t = 0 ∧ (grantD t m d).1.l = insLs t.l m d ∧ findL t.l m.id < 0 := by
 have hE : grantE t m d = 0 := by
  unfold grantD at h
  split at h
  · assumption
  · rename_i hc; exact absurd h hc
 unfold grantD
 rw [if_pos hE]
 unfold grantE at hE
 split at hE
 · omega
 split at hE
 · omega
 split at hE
 · cases hE
 split at hE
 · cases hE
 split at hE
 · cases hE
 split at hE
 · cases hE
 rename_i h1 h2 h3 h4 h5 h6
 have h1 : tabV t = 0 := by simpa using h1
 have h2 : msgV m = 0 := by simpa using h2
 obtain ⟨p1, p2, p3⟩ := zpU h1 h2 (by omega) (by omega : d ≤ 1073741824) h5 (by omega)
 obtain ⟨q1, q2, q3, q4⟩ := (zk1 t).1 h1
 obtain ⟨r1, r2⟩ := (zkj _).1 q2
 have hn : ∀ x ∈ t.l, x.msg.id ≠ m.id := zpr (by omega)
 refine ⟨(zk1 _).2 ⟨?_, (zkj _).2 ⟨zwL r1 hn, fun x hx => ?_⟩, ?_, ?_⟩, h1, rfl, by omega⟩
 · have := (zkm t.l m d).length_eq
   simp only [List.length_cons] at this
   show (insLs t.l m d).length ≤ 12
   omega
 · rcases List.mem_cons.1 ((zkm t.l m d).mem_iff.1 hx) with rfl | hx
   · exact ⟨h2, h3, by simp only; omega, by simp only; omega⟩
   · exact r2 x hx
 · rw [p1]; exact p2
 · rw [p1]
   show (pushL t.heap (d, m.id)).Perm ((insLs t.l m d).map dueOf)
   exact p3.trans (((List.Perm.cons _ q4)).trans ((zkm t.l m d).map dueOf).symm)
theorem zrn {t : Table} {m : Message} {d : Int} (h : tabV t = 0) (hm : msgV m = 0) (hg : m.gen ≠ 0) (h0 : 0 ≤ d) (h1 : d ≤ 1073741824) (hl : t.l.length ≠ 12) (hf : findL t.l m.id < 0) : (grantD t m d).2 = 0 := by
 have hp := (zpU h hm h0 h1 hl hf).1
 have : grantE t m d = 0 := by
  unfold grantE
  rw [if_neg (by simpa using h), if_neg (by simpa using hm), if_neg hg, if_neg (by omega), if_neg hl, if_neg (by omega), hp]
 unfold grantD
 rw [if_pos this]
theorem zr2 (l : List Lease) (i : Nat) : dropI l i = l.eraseIdx i := by rw [dropI, List.eraseIdx_eq_take_drop_succ]
theorem zpo {l : List Lease} {i : Nat} (hi : i < l.length) : (l[i] :: dropI l i).Perm l := by
 have h1 := List.perm_middle (a := l[i]) (l₁ := l.take i) (l₂ := l.drop (i + 1))
 rw [← List.drop_eq_getElem_cons hi, List.take_append_drop] at h1
 exact h1.symm
theorem zvc {t : Table} (h : tabV t = 0) {k : Nat} (hk : k < t.l.length) {d : Due} (hd : d ∈ t.heap) (e : d.2 = t.l[k].msg.id) : d = dueOf t.l[k] := by
 obtain ⟨q1, q2, q3, q4⟩ := (zk1 t).1 h
 obtain ⟨x, hx, e2⟩ := List.mem_map.1 (q4.mem_iff.1 hd)
 obtain ⟨j, hj, rfl⟩ := List.getElem_of_mem hx
 have : j = k := zqD (zk8 q2) hj hk (by rw [← e, ← e2]; rfl)
 subst this
 exact e2.symm
theorem znI {t : Table} {id : Int} (h : tabV t = 0) (hf : 0 ≤ findL t.l id) : ∃ k, ∃ hk : k < t.l.length, findL t.l id = k ∧ t.l[k].msg.id = id ∧ (removeD t.heap id).2 = 0 ∧ Ok (removeD t.heap id).1 ∧ (dueOf t.l[k] :: (removeD t.heap id).1).Perm t.heap := by
 obtain ⟨q1, q2, q3, q4⟩ := (zk1 t).1 h
 obtain ⟨k, hk, e1, e2⟩ := znW hf
 refine ⟨k, hk, e1, e2, ?_⟩
 have hin : id ∈ t.heap.map (·.2) := (ids_of q4 id).2 ⟨_, List.getElem_mem hk, e2⟩
 have h0 : ¬ findD t.heap id < 0 := fun hc => (zr9 _ _).1 hc hin
 have hlt := zr8 t.heap id
 obtain ⟨d1, d2⟩ := drop_ok' q3 (findD t.heap id).toNat (by omega)
 have hat := zvU t.heap id (by omega)
 have hr : removeD t.heap id = (dropL t.heap (findD t.heap id).toNat, 0) := by
  unfold removeD
  rw [if_neg (by simpa using (zla _).2 q3), if_neg h0]
 rw [hr]
 refine ⟨rfl, d1, ?_⟩
 have : t.heap.getD (findD t.heap id).toNat dz = dueOf t.l[k] := by
  refine zvc h hk ?_ (by rw [hat, e2])
  rw [getDT (show (findD t.heap id).toNat < t.heap.length by omega)]
  exact List.getElem_mem _
 rw [← this]
 exact d2
theorem zq3 {t : Table} {id : Int} (h : tabV t = 0) : (relD t id).2.2 = 0 ↔ 0 ≤ findL t.l id := by
 constructor
 · intro h0
   by_cases hf : 0 ≤ findL t.l id
   · exact hf
   · have e : relE t id = 4 := by unfold relE; rw [if_neg (by simpa using h), if_pos hf]
     unfold relD at h0
     rw [e, if_neg (by decide)] at h0
     cases h0
 · intro hf
   obtain ⟨k, hk, e1, e2, e3, _⟩ := znI h hf
   have e : relE t id = 0 := by unfold relE; rw [if_neg (by simpa using h), if_neg (by omega), e3]
   unfold relD
   rw [if_pos e]
theorem zsM {t : Table} {id : Int} (h : (relD t id).2.2 = 0) : tabV (relD t id).1 = 0 ∧ tabV t = 0 ∧ ∃ k, ∃ hk : k < t.l.length, findL t.l id = k ∧ t.l[k].msg.id = id ∧ (relD t id).1.l = dropI t.l k ∧ (relD t id).2.1 = t.l[k].msg := by
 have hE : relE t id = 0 := by
  unfold relD at h
  split at h
  · assumption
  · rename_i hc; exact absurd h hc
 have h1 : tabV t = 0 := by
  unfold relE at hE
  split at hE
  · omega
  · rename_i hc; simpa using hc
 have hf : 0 ≤ findL t.l id := (zq3 h1).1 h
 obtain ⟨k, hk, e1, e2, e3, e4, e5⟩ := znI h1 hf
 obtain ⟨q1, q2, q3, q4⟩ := (zk1 t).1 h1
 obtain ⟨r1, r2⟩ := (zkj _).1 q2
 have hd : relD t id = (⟨dropI t.l k, (removeD t.heap id).1⟩, t.l[k].msg, 0) := by
  unfold relD
  rw [if_pos hE, e1, Int.toNat_natCast, getDT hk]
 rw [hd]
 refine ⟨(zk1 _).2 ⟨?_, (zkj _).2 ⟨?_, fun x hx => ?_⟩, e4, ?_⟩, h1, k, hk, e1, e2, rfl, rfl⟩
 · have := (zpo hk).length_eq
   simp only [List.length_cons] at this
   show (dropI t.l k).length ≤ 12
   omega
 · show (dropI t.l k).Pairwise _
   rw [zr2]; exact r1.sublist (List.eraseIdx_sublist ..)
 · exact r2 x ((zpo hk).mem_iff.1 (List.mem_cons_of_mem _ hx))
 · show (removeD t.heap id).1.Perm ((dropI t.l k).map dueOf)
   have h1 := e5.trans (q4.trans ((zpo hk).map dueOf).symm)
   exact List.Perm.cons_inv h1
theorem zt1 {l : List Lease} {k : Nat} (hk : k < l.length) (d : Int) : setD l k d = l.set k ⟨l[k].msg, d⟩ := by
 unfold setD
 rw [getDT hk]
theorem zA8 {l : List Due} {k : Nat} (hk : k < l.length) (b : Due) : (l[k] :: l.set k b).Perm (b :: l) := by
 have := set_perm' l k b hk
 rwa [getDT hk] at this
theorem zpp {t : Table} {id d : Int} (h : tabV t = 0) : (extD t id d).2 = 0 ↔ 0 ≤ findL t.l id ∧ 0 ≤ d ∧ d ≤ 1073741824 := by
 constructor
 · intro h0
   by_cases hf : 0 ≤ findL t.l id
   · by_cases hd : 0 ≤ d ∧ d ≤ 1073741824
     · exact ⟨hf, hd⟩
     · have e : extE t id d = 1 := by unfold extE; rw [if_neg (by simpa using h), if_neg (by simpa using hf), if_pos hd]
       unfold extD at h0
       rw [e, if_neg (by decide)] at h0
       cases h0
   · have e : extE t id d = 4 := by unfold extE; rw [if_neg (by simpa using h), if_pos hf]
     unfold extD at h0
     rw [e, if_neg (by decide)] at h0
     cases h0
 · rintro ⟨hf, h0, h1⟩
   obtain ⟨k, hk, e1, e2, e3, e4, e5⟩ := znI h hf
   obtain ⟨q1, q2, q3, q4⟩ := (zk1 t).1 h
   obtain ⟨r1, r2⟩ := (zkj _).1 q2
   have hlen := e5.length_eq
   simp only [List.length_cons] at hlen
   have hnod := (List.Perm.nodup_iff (e5.map (·.2))).2 q3.ids
   simp only [List.map_cons, List.nodup_cons] at hnod
   have hp := push_ok' e4 (d := (d, id)) (by have := zqp (r2 _ (List.getElem_mem hk)).1 h0 h1; rwa [e2] at this) (by have := q4.length_eq; simp at this; omega) (by simpa [dueOf, e2] using hnod.1)
   have e : extE t id d = 0 := by unfold extE; rw [if_neg (by simpa using h), if_neg (by omega), if_neg (by omega), if_neg (by simpa using e3), hp.1]
   unfold extD
   rw [if_pos e]
theorem zvK {t : Table} {id d : Int} (h : (extD t id d).2 = 0) : tabV (extD t id d).1 = 0 ∧ tabV t = 0 ∧ ∃ k, ∃ hk : k < t.l.length, findL t.l id = k ∧ t.l[k].msg.id = id ∧ (extD t id d).1.l = t.l.set k ⟨t.l[k].msg, d⟩ := by
 have hE : extE t id d = 0 := by
  unfold extD at h
  split at h
  · assumption
  · rename_i hc; exact absurd h hc
 have h1 : tabV t = 0 := by
  unfold extE at hE
  split at hE
  · omega
  · rename_i hc; simpa using hc
 obtain ⟨hf, h0, h2⟩ := (zpp h1).1 h
 obtain ⟨k, hk, e1, e2, e3, e4, e5⟩ := znI h1 hf
 obtain ⟨q1, q2, q3, q4⟩ := (zk1 t).1 h1
 obtain ⟨r1, r2⟩ := (zkj _).1 q2
 have hlen := e5.length_eq
 simp only [List.length_cons] at hlen
 have hnod := (List.Perm.nodup_iff (e5.map (·.2))).2 q3.ids
 simp only [List.map_cons, List.nodup_cons] at hnod
 have hp := push_ok' e4 (d := (d, id)) (by have := zqp (r2 _ (List.getElem_mem hk)).1 h0 h2; rwa [e2] at this) (by have := q4.length_eq; simp at this; omega) (by simpa [dueOf, e2] using hnod.1)
 have hd : extD t id d = (⟨t.l.set k ⟨t.l[k].msg, d⟩, pushL (removeD t.heap id).1 (d, id)⟩, 0) := by
  unfold extD
  rw [if_pos hE, e1, Int.toNat_natCast, zt1 hk, hp.1]
 rw [hd]
 refine ⟨(zk1 _).2 ⟨by simpa using q1, (zkj _).2 ⟨?_, fun x hx => ?_⟩, hp.2.1, ?_⟩, h1, k, hk, e1, e2, rfl⟩
 · show (t.l.set k ⟨t.l[k].msg, d⟩).Pairwise _
   have hm : (t.l.set k ⟨t.l[k].msg, d⟩).map (fun x => x.msg.id) = t.l.map fun x => x.msg.id := by
    rw [List.map_set]
    have : (t.l[k].msg.id) = (t.l.map fun x => x.msg.id)[k]'(by simpa using hk) := by simp
    rw [this, List.set_getElem_self]
   have := List.pairwise_map (f := fun x : Lease => x.msg.id) (R := fun a b => a < b) (l := t.l.set k ⟨t.l[k].msg, d⟩)
   rw [hm] at this
   exact this.1 (List.pairwise_map.2 r1)
 · rcases List.mem_or_eq_of_mem_set hx with hx | rfl
   · exact r2 x hx
   · obtain ⟨a1, a2, _, _⟩ := r2 _ (List.getElem_mem hk)
     exact ⟨a1, a2, h0, h2⟩
 · show (pushL (removeD t.heap id).1 (d, id)).Perm ((t.l.set k ⟨t.l[k].msg, d⟩).map dueOf)
   refine hp.2.2.trans ?_
   rw [List.map_set]
   have h3 := zA8 (l := t.l.map dueOf) (k := k) (by simpa using hk) (dueOf ⟨t.l[k].msg, d⟩)
   rw [List.getElem_map] at h3
   have h4 : (dueOf t.l[k] :: (d, id) :: (removeD t.heap id).1).Perm (dueOf t.l[k] :: (t.l.map dueOf).set k (dueOf ⟨t.l[k].msg, d⟩)) := by
    refine (List.Perm.swap ..).trans ?_
    refine (List.Perm.cons _ (e5.trans q4)).trans ?_
    have : ((d, id) : Due) = dueOf ⟨t.l[k].msg, d⟩ := by simp [dueOf, e2]
    rw [this]
    exact h3.symm
   exact List.Perm.cons_inv h4
def gS (t : Table) (m : Message) (d : Int) (k : Nat) : St := ⟨[(2, .d (.int .i64 d)), (3, .ref 3 0 0), (4, .ref 4 0 0), (6, .ref 6 0 0), (10, .d (.int .i64 k))], [(3, .row [.d (eTable t)]), (4, .row [.d (eMessage m)]), (6, .row [.agg [.xsl [], .xsl []]])]⟩
theorem zzf (t : Table) (m : Message) (d : Int) (hL : t.l.length ≤ 1000) (h : t.l.Pairwise fun x y => x.msg.id < y.msg.id) : ∀ k : Nat, k ≤ posL t.l m.id → loopL G [] l_ref06_Grant_0 (gS t m d k) = some (.exit 1, gS t m d (posL t.l m.id)) := by
 refine zjM (fun k => posL t.l m.id - k) (fun k => k ≤ posL t.l m.id) (gS t m d) _ fun k hk L ih => ?_
 have hpl := zoQ t.l m.id
 simp only [gS, eTable, eMessage] at ih ⊢
 simp only [l_ref06_Grant_0]
 by_cases h0 : k < t.l.length
 · have hp := pos_lt h (id := m.id) h0
   by_cases h1 : t.l[k].msg.id < m.id
   · have i1 := ih (k + 1) (by omega) (by omega)
     clear ih
     simp only [Int.natCast_add, Int.natCast_one, Int.natCast_zero, Int.natCast_mul, Int.cast_ofNat_Int, List.length_append, List.length_map, List.map_nil, List.length_nil, List.map_append, List.map_cons, List.length_cons, Nat.zero_add, srcO, mapSet] at i1
     simp -implicitDefEqProofs (disch := omega) only [eLease, getDT, go_sem, *]
   · have : k = posL t.l m.id := by omega
     subst this
     clear ih hp
     simp -implicitDefEqProofs (disch := omega) only [eLease, getDT, go_sem, *]
 · have : k = posL t.l m.id := by omega
   subst this
   clear ih
   simp -implicitDefEqProofs (disch := omega) only [eLease, getDT, go_sem, *]
theorem zsz (t : Table) (m : Message) (d : Int) (hL : t.l.length ≤ 4294967296) (hH : t.heap.length ≤ 4294967296) : callL G z06 [.d (eTable t), .d (eMessage m), .d (.int .i64 d)] [] = some (.d (.tup [eTable (grantD t m d).1, .int .i64 (grantD t m d).2]), []) := by
 have hv := zod t hL hH
 rw [zoi] at hv
 have hm := znG m
 have hf := zoc t m.id hL
 have hp := zsE t.heap (d, m.id) hH
 simp only [eTable, eMessage, eD, eDE] at hv hm hf hp
 by_cases h1 : tabV t = 0
 · obtain ⟨h12, hE, hD, hM⟩ := zk6 h1
   have ha := zk8 hE
   have hl := zzf t m d (by omega) ha 0 (by omega)
   simp only [gS, eTable, eMessage] at hl
   simp only [Int.natCast_add, Int.natCast_one, Int.natCast_zero, Int.natCast_mul, Int.cast_ofNat_Int, List.length_append, List.length_map, List.map_nil, List.length_nil, List.map_append, List.map_cons, List.length_cons, Nat.zero_add, srcO, mapSet] at hl
   have hpl := zoQ t.l m.id
   by_cases h2 : msgV m = 0
   · by_cases h3 : m.gen = 0
     · have e : grantD t m d = (zTable, 7) := by simp [grantD, grantE, h1, h2, h3]
       rw [e]
       simp only [eTable, eMessage, zTable]
       rw [h1] at hv
       rw [h2] at hm
       simp only [h3] at hm ⊢
       clear hl
       rw [zjI zQ (by simp)]; simp -implicitDefEqProofs (disch := omega) only [zw, getDT, go_sem, *]
     · by_cases h4 : 0 ≤ d ∧ d ≤ 1073741824
       · by_cases h5 : t.l.length = 12
         · have e : grantD t m d = (zTable, 3) := by simp [grantD, grantE, h1, h2, h3, h4, h5]
           rw [e]
           simp only [eTable, eMessage, zTable]
           clear hl
           rw [zjI zQ (by simp)]; simp -implicitDefEqProofs (disch := omega) only [zw, getDT, go_sem, *]
         · by_cases h6 : 0 ≤ findL t.l m.id
           · have e : grantD t m d = (zTable, 10) := by simp [grantD, grantE, h1, h2, h3, h4, h5, h6]
             rw [e]
             simp only [eTable, eMessage, zTable]
             clear hl
             rw [zjI zQ (by simp)]; simp -implicitDefEqProofs (disch := omega) only [zw, getDT, go_sem, *]
           · have hps := (zpU h1 h2 h4.1 h4.2 h5 (by omega)).1
             have e : grantD t m d = (⟨insLs t.l m d, (pushD t.heap (d, m.id)).1⟩, 0) := by simp [grantD, grantE, h1, h2, h3, h4, h5, h6, hps]
             rw [e]
             simp only [hps] at hp
             simp only [hps, eTable, eMessage, insLs, List.map_append, List.map_cons, List.map_nil]
             have hz1 := zk7 (t.l.take (posL t.l m.id))
             have hz2 := zk7 (t.l.drop (posL t.l m.id))
             clear hps e
             rw [zjI zQ (by simp)]; simp -implicitDefEqProofs (disch := omega) only [zw, eLease, getDT, go_sem, *]
       · have e : grantD t m d = (zTable, 1) := by simp [grantD, grantE, h1, h2, h3, h4]
         rw [e]
         simp only [eTable, eMessage, zTable]
         clear hl
         by_cases h5 : d < 0
         · rw [zjI zQ (by simp)]; simp -implicitDefEqProofs (disch := omega) only [zw, getDT, go_sem, *]
         · have h6 : 1073741824 < d := by omega
           rw [zjI zQ (by simp)]; simp -implicitDefEqProofs (disch := omega) only [zw, getDT, go_sem, *]
   · have e : grantD t m d = (zTable, msgV m) := by simp [grantD, grantE, h1, h2]
     rw [e]
     simp only [eTable, eMessage, zTable]
     clear hl
     rw [zjI zQ (by simp)]; simp -implicitDefEqProofs (disch := omega) only [zw, getDT, go_sem, *]
 · have e : grantD t m d = (zTable, tabV t) := by simp [grantD, grantE, h1]
   rw [e]
   simp only [eTable, eMessage, zTable]
   rw [zjI zQ (by simp)]; simp -implicitDefEqProofs (disch := omega) only [zw, getDT, go_sem, *]
theorem zl8 {t : Table} (h : tabV t = 0) : t.l.length ≤ 12 ∧ t.heap.length ≤ 12 := by
 obtain ⟨q1, q2, q3, q4⟩ := (zk1 t).1 h
 exact ⟨q1, q3.len⟩
def tabA (t : Table) (b : Bool) : Go.Sim.AV := if b then .agg [.xsl [], .xsl []] else .d (eTable t)
structure TB where
 t : Table
 id : Int
 a : Nat
 i : Nat
 b : Bool
def tbS (l : List Int) (lo hi : Int) (s : TB) : St := ⟨[(0, .ref 1000000 0 0), (2, .d (.int .i64 s.id)), (3, .d (.int .i64 lo)), (4, .d (.int .i64 hi)), (10, .ref 10 0 0), (11, .ref 11 0 0), (12, .d (.int .i64 s.i)), (1000000, .ref 1000000 1 0)], [(10, .row [.agg [.xsl [], .xsl []]]), (11, .row [tabA s.t s.b]), (1000000, srcO l s.a)]⟩
def tOK (lo hi id0 : Int) (t : Table) (id : Int) : Prop := tabV t = 0 ∧ ∀ x ∈ t.l, lo ≤ x.msg.route ∧ x.msg.route ≤ hi ∧ id0 ≤ x.msg.id ∧ x.msg.id < id ∧ 0 ≤ x.msg.epoch
def tbInv (lo hi id0 : Int) (n : Nat) (s : TB) : Prop := tOK lo hi id0 s.t s.id ∧ id0 ≤ s.id ∧ s.id ≤ id0 + 3 * ((n : Int) - (s.i : Int)) ∧ s.t.l.length + s.i ≤ n ∧ (s.b = true → s.t = zTable)
def tbPhi (l : List Int) (lo hi id0 : Int) (n : Nat) (r : Option (AExit × St)) : Prop := ∃ t a' b id, tOK lo hi id0 t id ∧ t.l.length ≤ n ∧ (b = true → t = zTable) ∧ r = some (.exit 0, ⟨[(10, .ref 10 0 0), (11, .ref 11 0 0), (1000000, .ref 1000000 1 0)], [(10, .row [.agg [.xsl [], .xsl []]]), (11, .row [tabA t b]), (1000000, srcO l a')]⟩)
theorem zAF (l : List Int) (lo hi id0 : Int) (n : Nat) (hL : l.length ≤ 4000) (h2 : 0 ≤ lo) (h3 : lo ≤ hi) (h4 : hi < 65536) (hid : 1 ≤ id0) (hid2 : id0 ≤ 900) (hn : n ≤ 12) : ∀ s : TB, tbInv lo hi id0 n s → tbPhi l lo hi id0 n (loopL G [] l_base_Src_Table_0 (tbS l lo hi s)) := by
 refine znh (fun s : TB => s.i) (tbInv lo hi id0 n) (tbS l lo hi) (fun _ => Post (tbPhi l lo hi id0 n)) fun ⟨t, id, a, i, b⟩ ⟨h1, hi1, hi2, hi3, hb⟩ L ih => ?_
 simp only at h1 hi1 hi2 hi3 hb
 have hn0 := fun at1 m => n_ok l at1 m hL
 have hr := fun at1 lo hi => zl5 l at1 lo hi hL
 by_cases h0 : 0 < i
 · obtain ⟨m, a1, hm, hmc⟩ := zpK l a id lo hi hL h2 h3 h4
   obtain ⟨m2, hm2⟩ : ∃ m2, m2 = { m with gen := if m.gen < 1 then 1 else m.gen } := ⟨_, rfl⟩
   obtain ⟨t1, t2⟩ := zl8 h1.1
   have hg := zsz t m2 (nD l a1 30) (by omega) (by omega)
   have hd30 := nD_in l a1 (n := 30) (by omega)
   have hmv : msgV m2 = 0 := by
    have hg2 : msgGood m2 id lo hi := by
     obtain ⟨g1, g2, g3, g4, g5, g6, g7, g8, g9, g10, g11, g12⟩ := hm
     subst hm2
     exact ⟨g1, g2, g3, g4, g5, g6, g7, g8, g9, g10, by simp only; split <;> omega, by simp only; split <;> omega⟩
    exact zrm hg2 (by omega) (by omega) h2 h4
   have hfind : findL t.l m2.id < 0 := by
    unfold findL
    rw [znv]
    intro x hx
    have := (h1.2 x hx)
    have : x.msg.id ≠ m2.id := by rw [hm2]; simp only; rw [hm.1]; omega
    simpa using this
   have hok := zrn (t := t) (m := m2) (d := nD l a1 30) h1.1 hmv (by rw [hm2]; simp only; split <;> omega) (by omega) (by omega) (by omega) hfind
   obtain ⟨v1, _, v3, _⟩ := zpu hok
   obtain ⟨t', ht'⟩ : ∃ t', t' = (grantD t m2 (nD l a1 30)).1 := ⟨_, rfl⟩
   rw [hok] at hg
   rw [← ht'] at v1 v3 hg
   have hd := nD_in l (rawD l a1).2 (n := 3) (by omega)
   have hlen : t'.l.length = t.l.length + 1 := by rw [v3]; have := (zkm t.l m2 (nD l a1 30)).length_eq; simpa using this
   have i1 := ih ⟨t', id + (1 + nD l (rawD l a1).2 3), (rawD l (rawD l a1).2).2, i - 1, false⟩ ⟨⟨v1, fun x hx => by
    simp only at hx ⊢
    rw [v3] at hx
    rcases List.mem_cons.1 ((zkm t.l m2 (nD l a1 30)).mem_iff.1 hx) with rfl | hx
    · rw [hm2]; exact ⟨hm.2.1, hm.2.2.1, by simp only; rw [hm.1]; omega, by simp only; rw [hm.1]; omega, hm.2.2.2.1⟩
    · obtain ⟨k1, k2, k3, k4, k5⟩ := h1.2 x hx; exact ⟨k1, k2, k3, by omega, k5⟩⟩, by simp only; omega, by simp only; omega, by simp only; omega, fun h => by cases h⟩ (by simp only; omega)
   clear ih hm ht' v1 v3 hlen hok hfind hmv h1
   have e : ((i - 1 : Nat) : Int) = (i : Int) - 1 := by omega
   simp only [tbS, tabA, Bool.false_eq_true, if_false, e] at i1
   subst hm2
   cases b with
   | true =>
    obtain rfl := hb rfl
    simp only [zTable, eTable, eMessage, List.map_nil] at hg i1 hmc
    simp only [tbS, tabA, if_true, l_base_Src_Table_0]
    by_cases hgen : m.gen < 1
    · simp only [hgen, if_true] at hg
      simp -implicitDefEqProofs (disch := omega) only [getDT, go_sem, *]
    · simp only [hgen, if_false] at hg
      simp -implicitDefEqProofs (disch := omega) only [getDT, go_sem, *]
   | false =>
    simp only [eTable, eMessage] at hg i1 hmc
    simp only [tbS, tabA, eTable, Bool.false_eq_true, if_false, l_base_Src_Table_0]
    by_cases hgen : m.gen < 1
    · simp only [hgen, if_true] at hg
      simp -implicitDefEqProofs (disch := omega) only [getDT, go_sem, *]
    · simp only [hgen, if_false] at hg
      simp -implicitDefEqProofs (disch := omega) only [getDT, go_sem, *]
 · clear ih
   simp only [tbS, l_base_Src_Table_0]
   simp -implicitDefEqProofs (disch := omega) only [getDT, go_sem, *]
   exact ⟨t, a, b, id, h1, by omega, hb, rfl⟩
theorem zAB (l : List Int) (a n : Nat) (id lo hi : Int) (hL : l.length ≤ 4000) (h1 : n ≤ 12) (hid : 1 ≤ id) (hid2 : id ≤ 900) (h2 : 0 ≤ lo) (h3 : lo ≤ hi) (h4 : hi < 65536) : ∃ t a' idn, tOK lo hi id t idn ∧ t.l.length ≤ n ∧
    callL G z1u [.ref 1000000 0 0, .d (.int .i64 n), .d (.int .i64 id), .d (.int .i64 lo), .d (.int .i64 hi)] [(1000000, srcO l a)] = some (.d (eTable t), [(1000000, srcO l a')]) := by
 have hn := n_ok l a (n + 1) hL (by omega) (by omega)
 have hd := nD_in l a (n := (n : Int) + 1) (by omega)
 obtain ⟨k, hk⟩ : ∃ k : Nat, nD l a ((n : Int) + 1) = k := ⟨(nD l a ((n : Int) + 1)).toNat, by omega⟩
 rw [hk] at hn hd
 clear hk
 generalize (rawD l a).2 = a1 at *
 obtain ⟨t, a', b, idn, g1, g2, g3, hl⟩ := zAF l lo hi id n hL h2 h3 h4 hid hid2 h1 ⟨zTable, id, a1, k, true⟩ ⟨⟨by show tabV zTable = 0; decide, by simp [zTable]⟩, by simp only; omega, by simp only; omega, by simp only [zTable, List.length_nil]; omega, fun _ => rfl⟩
 refine ⟨t, a', idn, g1, g2, ?_⟩
 clear g1
 simp only [tbS, tabA, if_true] at hl
 cases b with
 | true =>
  obtain rfl := g3 rfl
  simp only [if_true] at hl
  simp only [zTable, eTable, List.map_nil]
  rw [zjI z8j (by simp)]; simp -implicitDefEqProofs (disch := omega) only [z6J, getDT, go_sem, *]
 | false =>
  clear g3
  simp only [Bool.false_eq_true, if_false, eTable] at hl
  simp only [eTable]
  rw [zjI z8j (by simp)]; simp -implicitDefEqProofs (disch := omega) only [z6J, getDT, go_sem, *]
theorem zq7 {r : Ring} (hr : ringV r = 0) : callL G z0f [.d (eRing r)] [] = some (.acc 0 ((ordD r).map eMessage), [(0, .acc (ordD r).length)]) := by
 have hv := zp0 r (by have := (zjR hr).2.1; omega)
 obtain ⟨c, h, z, rfl, h1, h2, h3, h4⟩ := zno (zjR hr)
 have hl := zpD c h z h2 h3 h4
 rw [hr] at hv
 rw [zkq]
 clear hr
 simp only [eRing] at hv ⊢
 generalize ordN c h z = w at *
 rw [zjI zfd (by simp)]; simp -implicitDefEqProofs (disch := omega) only [zaE, getDT, go_sem, *]
theorem zz9 {r : Ring} (hr : ringV r = 0) : callL G z21 [.d (eRing r)] [] = some (.d (.sl ((ordD r).map eMessage)), []) := by
 have hv := zoS r (by have := (zjR hr).2.1; omega)
 obtain ⟨c, h, z, rfl, h1, h2, h3, h4⟩ := zno (zjR hr)
 have hl := znC c h z h2 h3 h4
 rw [hr] at hv
 rw [zkq]
 clear hr
 simp only [eRing] at hv ⊢
 generalize ordN c h z = w at *
 rw [zjI zf7 (by simp)]; simp -implicitDefEqProofs (disch := omega) only [zan, getDT, go_sem, *]
theorem zpV {s : Shard} (hr : ringV s.ready = 0) : callL G z0c [.d (eShard s)] [] = some (.d (.sl ((ordD s.ready).map eMessage)), []) := by
 have hl := zz9 hr
 generalize ordD s.ready = w at *
 simp only [eRing, eShard] at hl ⊢
 rw [zjI zfb (by simp)]; simp -implicitDefEqProofs (disch := omega) only [zaC, getDT, go_sem, *]
def msgN (b : List Message) (l : List Lease) (i : Nat) : List Message := b ++ (l.take i).map (·.msg)
theorem zsa (b : List Message) {l : List Lease} {i : Nat} (h : i < l.length) : msgN b l (i + 1) = msgN b l i ++ [l[i].msg] := by
 unfold msgN; rw [List.take_add_one, List.getElem?_eq_getElem h, List.map_append, List.append_assoc]; rfl
theorem zs9 (b : List Message) {l : List Lease} {i : Nat} (h : i ≤ l.length) : (msgN b l i).length = b.length + i := by
 simp [msgN]; omega
def smS (b : List Message) (l : List Lease) (i : Nat) : St := ⟨[(3, .acc 8 ((msgN b l i).map eMessage)), (11, .d (.sl (l.map eLease))), (12, .d (.int .i64 l.length)), (13, .d (.int .i64 i))], [(8, .acc (msgN b l i).length)]⟩
theorem zAl (b : List Message) (l : List Lease) (h1 : l.length ≤ 12) (h2 : b.length ≤ 12) : ∀ i, i ≤ l.length → loopL G [] l_shard_messages_0 (smS b l i) = some (.exit 0, ⟨[(3, .acc 8 ((msgN b l l.length).map eMessage))], [(8, .acc (msgN b l l.length).length)]⟩) := by
 refine zjM (fun i => l.length - i) (fun i => i ≤ l.length) (smS b l) _ fun i hi L ih => ?_
 by_cases h0 : i < l.length
 · have i1 := ih (i + 1) (by omega) (by omega)
   clear ih
   have hl := zs9 b (l := l) (i := i) (by omega)
   rw [smS, zsa b h0] at i1
   generalize msgN b l l.length = z at *
   simp only [List.map_append, List.map_cons, List.map_nil, List.length_append, List.length_singleton, hl] at i1
   simp only [smS, hl, l_shard_messages_0]
   generalize msgN b l i = w at *
   simp only [eMessage] at i1
   simp only [Int.natCast_add, Int.natCast_one, Int.natCast_zero, Int.natCast_mul, Int.cast_ofNat_Int, List.length_append, List.length_map, List.map_nil, List.length_nil, List.map_append, List.map_cons, List.length_cons, Nat.zero_add, srcO, mapSet] at i1
   simp -implicitDefEqProofs (disch := omega) only [eLease, eMessage, getDT, go_sem, *]
 · clear ih
   have : i = l.length := by omega
   subst this
   simp only [smS, l_shard_messages_0]
   simp -implicitDefEqProofs (disch := omega) only [getDT, go_sem, *]
theorem zs4 {s : Shard} (hr : ringV s.ready = 0) (h1 : s.leases.l.length ≤ 12) : callL G z2P [.d (eShard s)] [] = some (.d (.sl ((shMsgs s).map eMessage)), []) := by
 have hl := zq7 hr
 have hb : (ordD s.ready).length ≤ 12 := by
  rw [zke]
  have := zjR hr
  obtain ⟨a1, a2, a3, a4, a5, a6⟩ := this
  omega
 have hm := zAl (ordD s.ready) s.leases.l h1 hb 0 (by omega)
 have e : msgN (ordD s.ready) s.leases.l s.leases.l.length = shMsgs s := by simp [msgN, shMsgs]
 rw [e] at hm
 simp only [smS, msgN, List.take_zero, List.map_nil, List.append_nil] at hm
 generalize shMsgs s = w at *
 generalize ordD s.ready = w2 at *
 simp only [eRing, eShard] at hl ⊢
 simp only [Int.natCast_add, Int.natCast_one, Int.natCast_zero, Int.natCast_mul, Int.cast_ofNat_Int, List.length_append, List.length_map, List.map_nil, List.length_nil, List.map_append, List.map_cons, List.length_cons, Nat.zero_add, srcO, mapSet] at hm
 rw [zjI zfg (by simp)]; simp -implicitDefEqProofs (disch := omega) only [zaR, getDT, go_sem, *]
def l7S (s : Shard) (i : Nat) : St := ⟨[(1, .ref 1 0 0), (3, .acc 3 ((msgN [] s.leases.l i).map eMessage)), (4, .d (.int .i64 i))], [(1, .row [.d (eShard s)]), (3, .acc (msgN [] s.leases.l i).length)]⟩
theorem zxi (s : Shard) (h1 : s.leases.l.length ≤ 12) : ∀ i, i ≤ s.leases.l.length → loopL G [] l_ref07_Leased_0 (l7S s i) = some (.exit 0, ⟨[(3, .acc 3 ((msgN [] s.leases.l s.leases.l.length).map eMessage))], [(3, .acc (msgN [] s.leases.l s.leases.l.length).length)]⟩) := by
 refine zjM (fun i => s.leases.l.length - i) (fun i => i ≤ s.leases.l.length) (l7S s) _ fun i hi L ih => ?_
 by_cases h0 : i < s.leases.l.length
 · have i1 := ih (i + 1) (by omega) (by omega)
   clear ih
   have hl := zs9 [] (l := s.leases.l) (i := i) (by omega)
   rw [l7S, zsa [] h0] at i1
   generalize msgN [] s.leases.l s.leases.l.length = z at *
   simp only [List.map_append, List.map_cons, List.map_nil, List.length_append, List.length_singleton, hl] at i1
   simp only [l7S, hl, l_ref07_Leased_0]
   generalize msgN [] s.leases.l i = w at *
   simp only [eMessage, eShard] at i1 ⊢
   simp only [Int.natCast_add, Int.natCast_one, Int.natCast_zero, Int.natCast_mul, Int.cast_ofNat_Int, List.length_append, List.length_map, List.map_nil, List.length_nil, List.map_append, List.map_cons, List.length_cons, Nat.zero_add, srcO, mapSet] at i1
   simp -implicitDefEqProofs (disch := omega) only [eLease, eMessage, getDT, go_sem, *]
 · clear ih
   have : i = s.leases.l.length := by omega
   subst this
   simp only [l7S, eShard, l_ref07_Leased_0]
   simp -implicitDefEqProofs (disch := omega) only [getDT, go_sem, *]
theorem zrI {s : Shard} (h1 : s.leases.l.length ≤ 12) : callL G z2o [.d (eShard s)] [] = some (.d (.sl ((s.leases.l.map (·.msg)).map eMessage)), []) := by
 have hm := zxi s h1 0 (by omega)
 have e : msgN [] s.leases.l s.leases.l.length = s.leases.l.map (·.msg) := by simp [msgN]
 rw [e] at hm
 generalize s.leases.l.map (·.msg) = w at *
 simp only [l7S, msgN, List.take_zero, List.map_nil, List.append_nil, eShard] at hm
 simp only [eShard]
 simp only [Int.natCast_add, Int.natCast_one, Int.natCast_zero, Int.natCast_mul, Int.cast_ofNat_Int, List.length_append, List.length_map, List.map_nil, List.length_nil, List.map_append, List.map_cons, List.length_cons, Nat.zero_add, srcO, mapSet] at hm
 rw [zjI zbM (by simp)]; simp -implicitDefEqProofs (disch := omega) only [zaB, getDT, go_sem, *]
theorem zqy {s : Shard} (hr : ringV s.ready = 0) (h1 : s.leases.l.length ≤ 12) : callL G z09 [.d (eShard s)] [] = some (.d (.sl ((shMsgs s).map eMessage)), []) := by
 have h2 := zpV hr
 have h3 := zrI h1
 have hb : (ordD s.ready).length ≤ 12 := by
  rw [zke]
  have := zjR hr
  obtain ⟨a1, a2, a3, a4, a5, a6⟩ := this
  omega
 have hc : (s.leases.l.map (·.msg)).length ≤ 12 := by simpa using h1
 simp only [shMsgs, List.map_append]
 generalize s.leases.l.map (·.msg) = w at *
 generalize ordD s.ready = w2 at *
 simp only [eShard] at h2 h3 ⊢
 rw [zjI zfa (by simp)]; simp -implicitDefEqProofs (disch := omega) only [zaz, getDT, go_sem, *]
theorem tl_len {t : Table} (h : tabV t = 0) : t.l.length ≤ 12 := by
 refine Classical.byContradiction fun hc => ?_
 unfold tabV at h
 rw [if_pos (by omega)] at h
 exact absurd h (by decide)
def movE (lo hi : Int) (l : List Message) : Bool := l.any fun m => decide (¬ (lo ≤ m.route ∧ m.route ≤ hi))
theorem zs7 (lo hi : Int) {l : List Message} {k : Nat} (h : k < l.length) : movE lo hi (l.drop k) = (decide (¬ (lo ≤ l[k].route ∧ l[k].route ≤ hi)) || movE lo hi (l.drop (k + 1))) := by
 rw [List.drop_eq_getElem_cons h]; rfl
theorem sin_ok (n lo hi : Int) : callL G z0m [.d (.int .i64 n), .d (.int .i64 lo), .d (.int .i64 hi)] [] = some (.d (.bool (decide (lo ≤ n ∧ n ≤ hi))), []) := by
 by_cases h : lo ≤ n
 · by_cases h2 : n ≤ hi
   · rw [decide_eq_true ⟨h, h2⟩]
     rw [zjI z8E (by simp)]; simp -implicitDefEqProofs (disch := omega) only [z41, getDT, go_sem, *]
   · rw [decide_eq_false (by omega)]
     rw [zjI z8E (by simp)]; simp -implicitDefEqProofs (disch := omega) only [z41, getDT, go_sem, *]
 · rw [decide_eq_false (by omega)]
   rw [zjI z8E (by simp)]; simp -implicitDefEqProofs (disch := omega) only [z41, getDT, go_sem, *]
theorem zt5 (lo hi : Int) : callL G z0q [.d (.int .i64 lo), .d (.int .i64 hi)] [] = some (.d (.bool (decide (0 ≤ lo ∧ lo ≤ hi ∧ hi < 65536))), []) := by
 by_cases h : 0 ≤ lo ∧ lo ≤ hi ∧ hi < 65536
 · rw [decide_eq_true h]
   rw [zjI zc2 (by simp)]; simp -implicitDefEqProofs (disch := omega) only [z76, getDT, go_sem, *]
 · rw [decide_eq_false h]
   have e : (decide (0 ≤ lo) && (decide (lo ≤ hi) && decide (hi < 65536))) = false := by simp; omega
   rw [zjI zc2 (by simp)]; simp -implicitDefEqProofs (disch := omega) only [z76, e, getDT, go_sem, *]
theorem zAp (lo hi : Int) : callL G z2v [.d (.int .i64 lo), .d (.int .i64 hi)] [] = some (.d (.bool (decide (0 ≤ lo ∧ lo ≤ hi ∧ hi < 65536))), []) := by
 by_cases h : 0 ≤ lo ∧ lo ≤ hi ∧ hi < 65536
 · rw [decide_eq_true h]
   rw [zjI z8y (by simp)]; simp -implicitDefEqProofs (disch := omega) only [z6U, getDT, go_sem, *]
 · rw [decide_eq_false h]
   have e : (decide (0 ≤ lo) && (decide (lo ≤ hi) && decide (hi < 65536))) = false := by simp; omega
   rw [zjI z8y (by simp)]; simp -implicitDefEqProofs (disch := omega) only [z6U, e, getDT, go_sem, *]
theorem zqg (s : Shard) (h1 : s.leases.l.length ≤ 12) (h2 : 0 ≤ s.ready.size) (h3 : s.ready.size ≤ 12) : callL G z0r [.d (eShard s)] [] = some (.d (.int .i64 (s.ready.size + s.leases.l.length)), []) := by
 simp only [eShard]
 rw [zjI zfi (by simp)]; simp -implicitDefEqProofs (disch := omega) only [zaT, getDT, go_sem, *]
def svS (s : Shard) (l : List Message) (i : Nat) : St := ⟨[(1, .ref 1 0 0), (5, .mpr 52), (6, .d (.bool (dupI (idsN l i)))), (54, .d (.sl (l.map eMessage))), (55, .d (.int .i64 l.length)), (56, .d (.int .i64 i))], [(1, .row [.d (eShard s)]), (52, .mp (seenM (idsN l i)))]⟩
def svR (s : Shard) (l : List Message) (i : Nat) : AExit × St := if movE s.low s.high (l.drop i) = true then (.ret, ⟨[(2, .d (.int .i64 12))], []⟩) else (.exit 1, ⟨[(6, .d (.bool (dupI (l.map (·.id)))))], []⟩)
theorem zqi (s : Shard) (l : List Message) (h1 : l.length ≤ 24) : ∀ i, i ≤ l.length → loopL G [] l_shard_Validate_0 (svS s l i) = some (svR s l i) := by
 refine zjM (fun i => l.length - i) (fun i => i ≤ l.length) (svS s l) (fun i => some (svR s l i)) fun i hi L ih => ?_
 by_cases h0 : i < l.length
 · have i1 := ih (i + 1) (by omega) (by omega)
   clear ih
   have hm := sin_ok l[i].route s.low s.high
   unfold svR at i1 ⊢
   rw [zs7 _ _ h0]
   unfold svS at i1
   rw [zrs h0, zsY, zr4] at i1
   have hg := zs5 l[i].id (idsN l i)
   generalize movE s.low s.high (l.drop (i + 1)) = fe at *
   generalize dupI (l.map (·.id)) = dd at *
   simp only [svS, eShard, l_shard_Validate_0] at i1 ⊢
   generalize seenM (idsN l i) = sm at *
   by_cases hv : s.low ≤ l[i].route ∧ l[i].route ≤ s.high
   · rw [decide_eq_true hv] at hm
     simp only [hv, not_true_eq_false, and_self, decide_false, Bool.false_or]
     by_cases hmem : l[i].id ∈ idsN l i
     · simp only [hmem, if_true, decide_true, Bool.or_true] at hg i1
       generalize dupI (idsN l i) = d0 at *
       generalize idsN l i = w at *
       simp only [Int.natCast_add, Int.natCast_one, Int.natCast_zero, Int.natCast_mul, Int.cast_ofNat_Int, List.length_append, List.length_map, List.map_nil, List.length_nil, List.map_append, List.map_cons, List.length_cons, Nat.zero_add, srcO, mapSet] at i1
       cases d0
       · simp -implicitDefEqProofs (disch := omega) only [eMessage, getDT, go_sem, *]
       · simp -implicitDefEqProofs (disch := omega) only [eMessage, getDT, go_sem, *]
     · simp only [hmem, if_false, decide_false, Bool.or_false] at hg i1
       generalize dupI (idsN l i) = d0 at *
       generalize idsN l i = w at *
       simp only [Int.natCast_add, Int.natCast_one, Int.natCast_zero, Int.natCast_mul, Int.cast_ofNat_Int, List.length_append, List.length_map, List.map_nil, List.length_nil, List.map_append, List.map_cons, List.length_cons, Nat.zero_add, srcO, mapSet] at i1
       cases d0
       · simp -implicitDefEqProofs (disch := omega) only [eMessage, getDT, go_sem, *]
       · simp -implicitDefEqProofs (disch := omega) only [eMessage, getDT, go_sem, *]
   · rw [decide_eq_false hv] at hm
     simp only [hv, not_false_eq_true, decide_true, Bool.true_or, if_true]
     clear i1 hg
     simp -implicitDefEqProofs (disch := omega) only [eMessage, getDT, go_sem, *]
 · clear ih
   have : i = l.length := by omega
   subst this
   unfold svR
   rw [List.drop_length]
   simp only [svS, idsN, List.take_length, movE, List.any_nil, Bool.false_eq_true, if_false, l_shard_Validate_0, eShard]
   simp -implicitDefEqProofs (disch := omega) only [getDT, go_sem, *]
theorem zp3 {s : Shard} (hr : ringV s.ready = 0) (h1 : s.leases.l.length ≤ 12) : (shMsgs s).length ≤ 24 := by
 obtain ⟨a1, a2, a3, a4, a5, a6⟩ := zjR hr
 simp only [shMsgs, List.length_append, List.length_map, zke]
 omega
theorem znJ {s : Shard} (hr : ringV s.ready = 0) (ht : tabV s.leases = 0) : shardV s = if s.live = false then (if s.low ≠ 0 ∨ s.high ≠ 0 ∨ 0 < s.ready.size + s.leases.l.length then 7 else 0)
 else if ¬ (0 ≤ s.low ∧ s.low ≤ s.high ∧ s.high < 65536) then 1
 else if s.ready.cells.length < s.ready.size + s.leases.l.length then 3
 else if movE s.low s.high (shMsgs s) = true then 12
 else if dupI ((shMsgs s).map (·.id)) = true then 10 else 0 := by
 unfold shardV
 rw [if_neg (fun hc => hc hr), if_neg (fun hc => hc ht)]
 rfl
theorem zqa (s : Shard) (h1 : s.ready.cells.length ≤ 4294967296) (h2 : s.leases.l.length ≤ 4294967296) (h3 : s.leases.heap.length ≤ 4294967296) : callL G z0k [.d (eShard s)] [] = some (.d (.int .i64 (shardV s)), []) := by
 have hv := zp0 s.ready h1
 have ht := znz s.leases h2 h3
 by_cases e1 : ringV s.ready = 0
 · by_cases e2 : tabV s.leases = 0
   · rw [znJ e1 e2]
     rw [e1] at hv
     rw [e2] at ht
     have hl := tl_len e2
     obtain ⟨a1, a2, a3, a4, a5, a6⟩ := zjR e1
     have hs := zqg s hl a5 (by omega)
     have hsp := zt5 s.low s.high
     have hm := zs4 e1 hl
     have hml := zp3 e1 hl
     have hlp := zqi s (shMsgs s) hml 0 (by omega)
     unfold svR at hlp
     simp only [svS, idsN, List.take_zero, List.map_nil, seenM, List.foldl_nil, show dupI [] = false by decide, List.drop_zero] at hlp
     generalize movE s.low s.high (shMsgs s) = b1 at *
     generalize dupI ((shMsgs s).map (·.id)) = b2 at *
     generalize shMsgs s = w at *
     clear e1 e2
     obtain ⟨lv, lo, hi, ⟨c, h, z⟩, ⟨tl, th⟩⟩ := s
     simp only [eShard, eRing, eTable] at hv ht hs hsp hm hlp a1 a2 a3 a4 a5 a6 hl h1 h2 h3 ⊢
     simp only [Int.natCast_add, Int.natCast_one, Int.natCast_zero, Int.natCast_mul, Int.cast_ofNat_Int, List.length_append, List.length_map, List.map_nil, List.length_nil, List.map_append, List.map_cons, List.length_cons, Nat.zero_add, srcO, mapSet] at hlp
     cases lv with
     | false =>
      simp only [if_true]
      by_cases c1 : lo ≠ 0 ∨ hi ≠ 0 ∨ 0 < z + tl.length
      · rw [if_pos c1]
        rw [zjI zA (by simp)]; simp -implicitDefEqProofs (disch := omega) only [zi, getDT, go_sem, *]; (try simp only [pA, pB, pC, pD, pE, pF, pG, pH, pI, pJ, pK, pL, pM, pN, pO, pP, if_true, if_false]); repeat' (first | done | rfl | ((first | refine iteC (fun hq => ?_) (fun hq => ?_) | refine iteP (fun hq => ?_) (fun hq => ?_)) <;> (try (first | (exfalso; omega) | contradiction)) <;> (try simp -implicitDefEqProofs (disch := omega) only [getDT, go_sem, *]) <;> (try simp only [pA, pB, pC, pD, pE, pF, pG, pH, pI, pJ, pK, pL, pM, pN, pO, pP, if_true, if_false]))); (all_goals try rfl); (all_goals try (repeat' (first | done | rfl | (exfalso; omega) | contradiction | (refine iteR (fun hq => ?_) (fun hq => ?_)))))
      · rw [if_neg c1]
        rw [zjI zA (by simp)]; simp -implicitDefEqProofs (disch := omega) only [zi, getDT, go_sem, *]
     | true =>
      simp only [Bool.true_eq_false, if_false]
      by_cases c1 : 0 ≤ lo ∧ lo ≤ hi ∧ hi < 65536
      · rw [decide_eq_true c1] at hsp
        rw [if_neg (fun hc => hc c1)]
        by_cases c2 : (c.length : Int) < z + tl.length
        · rw [if_pos c2]
          rw [zjI zA (by simp)]; simp -implicitDefEqProofs (disch := omega) only [zi, getDT, go_sem, *]
        · rw [if_neg c2]
          cases b1
          · cases b2
            · simp only [Bool.false_eq_true, if_false] at hlp ⊢
              rw [zjI zA (by simp)]; simp -implicitDefEqProofs (disch := omega) only [zi, getDT, go_sem, *]
            · simp only [Bool.false_eq_true, if_false, if_true] at hlp ⊢
              rw [zjI zA (by simp)]; simp -implicitDefEqProofs (disch := omega) only [zi, getDT, go_sem, *]
          · simp only [if_true] at hlp ⊢
            rw [zjI zA (by simp)]; simp -implicitDefEqProofs (disch := omega) only [zi, getDT, go_sem, *]
      · rw [decide_eq_false c1] at hsp
        rw [if_pos c1]
        rw [zjI zA (by simp)]; simp -implicitDefEqProofs (disch := omega) only [zi, getDT, go_sem, *]
   · unfold shardV
     rw [if_neg (fun hc => hc e1), if_pos e2]
     rw [e1] at hv
     generalize tabV s.leases = v at *
     obtain ⟨lv, lo, hi, ⟨c, h, z⟩, ⟨tl, th⟩⟩ := s
     simp only [eShard, eRing, eTable] at hv ht h1 h2 h3 ⊢
     rw [zjI zA (by simp)]; simp -implicitDefEqProofs (disch := omega) only [zi, getDT, go_sem, *]
 · unfold shardV
   rw [if_pos e1]
   clear ht
   generalize ringV s.ready = v at *
   obtain ⟨lv, lo, hi, ⟨c, h, z⟩, ⟨tl, th⟩⟩ := s
   simp only [eShard, eRing] at hv h1 h2 h3 ⊢
   rw [zjI zA (by simp)]; simp -implicitDefEqProofs (disch := omega) only [zi, getDT, go_sem, *]
theorem zyW (l : List Int) (a : Nat) (xs : List Int) (hL : l.length ≤ 4000) (h1 : 1 ≤ xs.length) (h2 : xs.length ≤ 1000) : ∃ i : Nat, ∃ hi : i < xs.length, ∃ a', callL G zd [.ref 1000000 0 0, .d (.sl (ints xs))] [(1000000, srcO l a)] = some (.d (.int .i64 xs[i]), [(1000000, srcO l a')]) := by
 have hn := n_ok l a xs.length hL (by omega) (by omega)
 have hb := nD_in l a (n := xs.length) (by omega)
 obtain ⟨i, hi⟩ : ∃ i : Nat, nD l a xs.length = i := ⟨(nD l a xs.length).toNat, by omega⟩
 rw [hi] at hn hb
 have hlt : i < xs.length := by omega
 refine ⟨i, hlt, (rawD l a).2, ?_⟩
 clear hb hi
 rw [zjI zb8 (by simp)]; simp -implicitDefEqProofs (disch := omega) only [z6G, getDT, go_sem, *]
theorem zst (l : List Int) (a : Nat) (xs : List Int) (lo hi : Int) (hL : l.length ≤ 4000) (h1 : 1 ≤ xs.length) (h2 : xs.length ≤ 1000) (hx : ∀ x ∈ xs, lo ≤ x ∧ x ≤ hi) : ∃ y a', callL G zd [.ref 1000000 0 0, .d (.sl (ints xs))] [(1000000, srcO l a)] = some (.d (.int .i64 y), [(1000000, srcO l a')]) ∧ lo ≤ y ∧ y ≤ hi := by
 obtain ⟨i, hi, a', h⟩ := zyW l a xs hL h1 h2
 exact ⟨_, a', h, hx _ (List.getElem_mem hi)⟩
theorem zAq (l : List Int) (a : Nat) (hL : l.length ≤ 4000) : ∃ lo hi a', 0 ≤ lo ∧ lo ≤ hi ∧ hi < 65536 ∧ callL G z1t [.ref 1000000 0 0] [(1000000, srcO l a)] = some (.d (.tup [.int .i64 lo, .int .i64 hi]), [(1000000, srcO l a')]) := by
 obtain ⟨y, a1, q1, y1, y2⟩ := zst l a [0, 0, 100, 32768, 65535] 0 65535 hL (by simp) (by simp) (by simp)
 obtain ⟨z, a2, q2, z1, z2⟩ := zst l a1 [65535, 65535, 40000, 101, 32768] 0 65535 hL (by simp) (by simp) (by simp)
 simp only [ints, List.map_cons, List.map_nil] at q1 q2
 rcases (show z < y ∨ y < z ∨ y = z by omega) with h | h | h
 · refine ⟨z, y, a2, by omega, by omega, by omega, ?_⟩
   rw [zjI z61 (by simp)]; simp -implicitDefEqProofs (disch := omega) only [z3B, getDT, go_sem, *]
 · refine ⟨y, z, a2, by omega, by omega, by omega, ?_⟩
   rw [zjI z61 (by simp)]; simp -implicitDefEqProofs (disch := omega) only [z3B, getDT, go_sem, *]
 · subst h
   refine ⟨y, y, a2, by omega, by omega, by omega, ?_⟩
   rw [zjI z61 (by simp)]; simp -implicitDefEqProofs (disch := omega) only [z3B, getDT, go_sem, *]
def SG (x : Shard) : Prop := shardV x = 0 ∧ (∀ m ∈ ordD x.ready, 0 ≤ m.epoch ∧ m.count ≤ 3) ∧ (∀ y ∈ x.leases.l, 0 ≤ y.msg.epoch) ∧ (x.live = false → x.ready.size = 0 ∧ x.leases.l = [])
theorem zwg (n : Nat) (h1 : 1 ≤ n) (h2 : n ≤ 12) : SG ⟨false, 0, 0, ⟨List.replicate n zMessage, 0, 0⟩, zTable⟩ := by
 have hr : ringV ⟨List.replicate n zMessage, 0, 0⟩ = 0 := zoZ (n := n) (h := 0) (l := []) h1 h2 (by omega) (by simp) (by simp) (by simp)
 refine ⟨?_, by simp [ordD], by simp [zTable], fun _ => ⟨rfl, rfl⟩⟩
 unfold shardV
 rw [if_neg (by simpa using hr), if_neg (by show ¬ tabV zTable ≠ 0; decide), if_pos rfl, if_neg (by simp [storedD, zTable])]
theorem zxy {n h : Nat} {L : List Message} {t : Table} {lo hi i1 i2 : Int} (hn : 1 ≤ n) (hn2 : n ≤ 12) (hh : h < n) (h2 : 0 ≤ lo) (h3 : lo ≤ hi) (h4 : hi < 65536) (hm : mOK lo hi 1 L i1) (hi1 : i1 ≤ 7) (ht : tOK lo hi 11 t i2) (hl : L.length + t.l.length ≤ n) : SG ⟨true, lo, hi, rg n h L, t⟩ := by
 have ho : ordD (rg n h L) = L := by rw [rg, zkq, zl4 hn (by omega)]
 have hr := zoZ hn hn2 hh (by omega) (fun m hx => (hm.1 m hx).1) hm.2
 have htv := (zk1 t).1 ht.1
 refine ⟨?_, fun m hx => ?_, fun y hy => (ht.2 y hy).2.2.2.2, fun h => by cases h⟩
 · unfold shardV
   rw [if_neg (by simpa using hr), if_neg (by simpa using ht.1), if_neg (by simp), if_neg (by simp only; omega), if_neg (by simp [storedD, rg, wN_len]; omega), if_neg, if_neg]
   · unfold dupI shMsgs
     simp only [ho, decide_eq_true_eq, Classical.not_not, List.map_append, List.map_map]
     rw [List.nodup_append]
     refine ⟨hm.2, ?_, fun a ha b hb => ?_⟩
     · have : (t.l.map ((fun m : Message => m.id) ∘ fun x => x.msg)).Pairwise (· ≠ ·) := by
        rw [List.pairwise_map]
        exact (zk8 htv.2.1).imp fun {x y} hxy => by simp only [Function.comp]; omega
       exact this
     · obtain ⟨x, hx, rfl⟩ := List.mem_map.1 ha
       obtain ⟨y, hy, rfl⟩ := List.mem_map.1 hb
       have k1 := hm.1 x hx
       have k2 := ht.2 y hy
       simp only [Function.comp]; omega
   · unfold movedF shMsgs
     simp only [ho, Bool.not_eq_true, List.any_eq_false, List.mem_append, List.mem_map, decide_eq_true_eq, Classical.not_not]
     rintro m (hx | ⟨y, hy, rfl⟩)
     · have k1 := hm.1 m hx; exact ⟨k1.2.1, k1.2.2.1⟩
     · have k1 := ht.2 y hy; exact ⟨k1.1, k1.2.1⟩
 · simp only [ho] at hx
   have k1 := hm.1 m hx
   refine ⟨?_, k1.2.2.2.2.2⟩
   have := k1.1
   unfold msgV at this
   split at this
   · rename_i hc; exact hc.2.2.2.2.1
   · cases this
theorem zwh (n : Nat) (h1 : 1 ≤ n) (h2 : n ≤ 12) : callL G z2m [.d (.int .i64 n)] [] = some (.d (.tup [eShard ⟨false, 0, 0, ⟨List.replicate n zMessage, 0, 0⟩, zTable⟩, .int .i64 0]), []) := by
 have hw := zsf n h1 h2
 generalize List.replicate n zMessage = c at *
 simp only [eRing, eShard, zTable, List.map_nil] at hw ⊢
 rw [zjI zbL (by simp)]; simp -implicitDefEqProofs (disch := omega) only [zaA, getDT, go_sem, *]
theorem zwm (l : List Int) (a n : Nat) (lo hi : Int) (hL : l.length ≤ 4000) (h2 : 0 ≤ lo) (h3 : lo ≤ hi) (h4 : hi < 65536) (hn : 1 ≤ n) (hn2 : n ≤ 12) : ∃ x a', SG x ∧ callL G z1q [.ref 1000000 0 0, .d (.int .i64 n), .d (.int .i64 1), .d (.int .i64 lo), .d (.int .i64 hi)] [(1000000, srcO l a)] = some (.d (eShard x), [(1000000, srcO l a')]) := by
 have q1 := n_ok l a 12 hL (by omega) (by omega)
 have b1 := nD_in l a (n := 12) (by omega)
 generalize nD l a 12 = c at *
 generalize (rawD l a).2 = a1 at *
 by_cases hc : c = 11
 · subst hc
   have hf := zwh n hn hn2
   refine ⟨_, a1, zwg n hn hn2, ?_⟩
   generalize List.replicate n zMessage = cs at *
   simp only [eShard, zTable, List.map_nil] at hf ⊢
   rw [zjI z3h (by simp)]; simp -implicitDefEqProofs (disch := omega) only [z31, getDT, go_sem, *]
 · obtain ⟨h, L, a2, idn, g1, g2, g3, g4, g5, hr⟩ := zzK l a1 n 1 lo hi hL h2 h3 h4 (by omega) (by omega) hn hn2
   obtain ⟨k, hk⟩ : ∃ k : Nat, (n - L.length < 4 ∧ k = n - L.length ∨ ¬ n - L.length < 4 ∧ k = 4) := by
    by_cases hc : n - L.length < 4
    · exact ⟨_, .inl ⟨hc, rfl⟩⟩
    · exact ⟨4, .inr ⟨hc, rfl⟩⟩
   obtain ⟨t, a3, idt, t1, t2, ht⟩ := zAB l a2 k 11 lo hi hL (by omega) (by omega) (by omega) h2 h3 h4
   refine ⟨⟨true, lo, hi, rg n h L, t⟩, a3, zxy hn hn2 g1 h2 h3 h4 g5 g4 t1 (by omega), ?_⟩
   have hlen : (rg n h L).cells.length = n := wN_len _ _ _ _
   have hsz : (rg n h L).size = (L.length : Int) := rfl
   clear t1 g5
   generalize rg n h L = r at *
   simp only [eRing, hsz] at hr
   simp only [eShard, eTable, hsz] at ht ⊢
   rcases hk with ⟨hk, rfl⟩ | ⟨hk, rfl⟩
   · have e : ((n - L.length : Nat) : Int) = (n : Int) - L.length := by omega
     rw [e] at ht
     have hlt : (n : Int) - L.length < 4 := by omega
     rw [zjI z3h (by simp)]; simp -implicitDefEqProofs (disch := omega) only [z31, getDT, go_sem, *]
   · by_cases e4 : (n : Int) - L.length = 4
     · have e4' := e4
       simp only [Int.cast_ofNat_Int] at ht
       rw [zjI z3h (by simp)]; simp -implicitDefEqProofs (disch := omega) only [z31, getDT, go_sem, *]
     · have hlt : (4 : Int) < (n : Int) - L.length := by omega
       simp only [Int.cast_ofNat_Int] at ht
       rw [zjI z3h (by simp)]; simp -implicitDefEqProofs (disch := omega) only [z31, getDT, go_sem, *]
theorem zAb (l : List Int) (a : Nat) (hL : l.length ≤ 4000) : ∃ x a', SG x ∧ callL G zV [.ref 1000000 0 0] [(1000000, srcO l a)] = some (.d (eShard x), [(1000000, srcO l a')]) := by
 obtain ⟨lo, hi, a1, h2, h3, h4, hs⟩ := zAq l a hL
 have q1 := zl5 l a1 1 12 hL (by omega) (by omega) (by omega) (by omega)
 have b1 := nD_in l a1 (n := 12 - 1 + 1) (by omega)
 obtain ⟨n, hn⟩ : ∃ n : Nat, 1 + nD l a1 (12 - 1 + 1) = n := ⟨(1 + nD l a1 (12 - 1 + 1)).toNat, by omega⟩
 rw [hn] at q1
 have hn1 : 1 ≤ n ∧ n ≤ 12 := by omega
 clear b1 hn
 generalize (rawD l a1).2 = a2 at *
 obtain ⟨x, a3, hx, hf⟩ := zwm l a2 n lo hi hL h2 h3 h4 hn1.1 hn1.2
 refine ⟨x, a3, hx, ?_⟩
 clear hx
 simp only [eShard] at hf ⊢
 have hfrom : callL G z1p [.ref 1000000 0 0, .d (.int .i64 1), .d (.int .i64 lo), .d (.int .i64 hi)] [(1000000, srcO l a1)] = some (.d (eShard x), [(1000000, srcO l a3)]) := by
  simp only [eShard]
  rw [zjI zb6 (by simp)]; simp -implicitDefEqProofs (disch := omega) only [z9R, getDT, go_sem, *]
 clear hf q1
 have hbet : callL G z1o [.ref 1000000 0 0, .d (.int .i64 lo), .d (.int .i64 hi)] [(1000000, srcO l a1)] = some (.d (eShard x), [(1000000, srcO l a3)]) := by
  simp only [eShard] at hfrom ⊢
  rw [zjI zb4 (by simp)]; simp -implicitDefEqProofs (disch := omega) only [z9Q, getDT, go_sem, *]
 clear hfrom
 simp only [eShard] at hbet
 rw [zjI zf0 (by simp)]; simp -implicitDefEqProofs (disch := omega) only [z9T, getDT, go_sem, *]
end Go.Proofs.YtcjncbkhbllchaaGreat
