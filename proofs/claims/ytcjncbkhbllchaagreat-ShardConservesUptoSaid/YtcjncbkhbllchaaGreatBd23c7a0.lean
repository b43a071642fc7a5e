/-
  Leases, in plain Lean: changes keep a table valid.
  The reference's Find, Release, Extend.
  Lapsed of both, first half; slices.DeleteFunc's loop.
  lease.Lapsed.
  Shards: numbers in range, whatever their number.
  Shards: leases that are released; what a handle holds; Ack.
  Shards: Nack, Change, deliver.
  Shards: Change, deliver.
-/
import Derived.Test.YtcjncbkhbllchaaGreatBe838963
import Derived.Test.YtcjncbkhbllchaaGreatB6fdd320
set_option linter.unusedSimpArgs false
set_option linter.unusedVariables false
namespace Go.Proofs.YtcjncbkhbllchaaGreat.L
open Go Go.Sim Go.Proofs.YtcjncbkhbllchaaGreat
set_option linter.unusedSimpArgs false
set_option linter.unusedVariables false
set_option maxHeartbeats 10000000
set_option maxRecDepth 40000
theorem ziq (l : List Lease) : leasesE l = 0 ↔ (l.Pairwise fun x y => x.msg.id < y.msg.id) ∧ ∀ x ∈ l, msgV x.msg = 0 ∧ x.msg.gen ≠ 0 ∧ 0 ≤ x.deadline ∧ x.deadline ≤ 1073741824 := by
 have h0 : leasesE l = 0 ↔ ∀ i, i < l.length → leaseE l i = 0 := by
   rcases zk2 l with ⟨k, h1, h2, h3⟩ | ⟨h1, h2⟩
   · constructor
     · intro h; omega
     · intro h
       have := List.mem_of_find?_eq_some h1
       exact absurd (h k (List.mem_range.1 this)) h2
   · refine ⟨fun _ i hi => ?_, fun _ => h2⟩
     have := List.find?_eq_none.1 h1 i (List.mem_range.2 hi)
     unfold leaseB at this
     simpa using this
 constructor
 · intro h
   refine ⟨ziu h, fun x hx => ?_⟩
   obtain ⟨i, hi, rfl⟩ := List.getElem_of_mem hx
   have := h0.1 h i hi
   unfold leaseE at this
   rw [getDT hi] at this
   split at this
   · omega
   split at this
   · omega
   split at this
   · omega
   rename_i q1 q2 q3
   exact ⟨by simpa using q1, q2, by omega, by omega⟩
 · rintro ⟨ha, hx⟩
   refine h0.2 fun i hi => ?_
   obtain ⟨p1, p2, p3, p4⟩ := hx _ (List.getElem_mem hi)
   unfold leaseE
   rw [getDT hi, if_neg (by simpa using p1), if_neg p2, if_neg (by omega), if_neg]
   rintro ⟨q1, q2⟩
   rw [getDT (show i - 1 < l.length by omega)] at q2
   have := List.pairwise_iff_getElem.1 ha (i - 1) i (by omega) hi (by omega)
   omega
theorem zin (t : Table) : tabV t = 0 ↔ t.l.length ≤ 12 ∧ leasesE t.l = 0 ∧ Ok t.heap ∧ t.heap.Perm (t.l.map dueOf) := by
 constructor
 · intro h
   obtain ⟨h1, h2, h3, h4⟩ := zix h
   have o := (ziI _).1 h3
   have ha := ziu h2
   have hR : matchR t = true := by rw [← zlJ h2 h3]; exact h4
   obtain ⟨e, q⟩ := (zlI ha).1 hR
   obtain ⟨_, q2⟩ := zk6.1 h4
   refine ⟨h1, h2, o, (List.perm_ext_iff_of_nodup ?_ (zlb ha)).2 fun d => ⟨q d, q2 d⟩⟩
   exact List.Pairwise.of_map (fun d : Due => d.2) (fun a b hab e => hab (by rw [e])) o.ids
 · rintro ⟨h1, h2, o, hp⟩
   have h3 := (ziI _).2 o
   have h4 : matchP t = true := zk6.2 ⟨by rw [hp.length_eq]; simp, fun d hd => hp.mem_iff.2 hd⟩
   unfold tabV
   rw [if_neg (by omega), if_neg (by simpa using h2), if_neg (by simpa using h3), if_pos h4]
theorem ids_of {t : Table} (h : t.heap.Perm (t.l.map dueOf)) (id : Int) : id ∈ t.heap.map (·.2) ↔ ∃ x ∈ t.l, x.msg.id = id := by
 constructor
 · intro hm
   obtain ⟨d, hd, e⟩ := List.mem_map.1 hm
   obtain ⟨x, hx, e2⟩ := List.mem_map.1 (h.mem_iff.1 hd)
   exact ⟨x, hx, by rw [← e, ← e2]; rfl⟩
 · rintro ⟨x, hx, e⟩
   exact List.mem_map.2 ⟨dueOf x, h.mem_iff.2 (List.mem_map.2 ⟨x, hx, rfl⟩), e⟩
theorem ziZ {l : List Lease} (id : Int) : 0 ≤ findL l id ↔ ∃ x ∈ l, x.msg.id = id := by
 constructor
 · intro h
   obtain ⟨k, hk, _, e⟩ := zj0 h
   exact ⟨l[k], List.getElem_mem hk, e⟩
 · rintro ⟨x, hx, e⟩
   by_cases h : 0 ≤ findL l id
   · exact h
   · exact absurd e (zjV (by omega) x hx)
theorem zjo {m : Message} {d : Int} (hm : msgV m = 0) (h0 : 0 ≤ d) (h1 : d ≤ 1073741824) : validD (d, m.id) = true := by
 unfold msgV at hm
 split at hm
 · rename_i h
   unfold validD
   simp
   omega
 · cases hm
theorem zjF {t : Table} {m : Message} {d : Int} (h : tabV t = 0) (hm : msgV m = 0) (h0 : 0 ≤ d) (h1 : d ≤ 1073741824) (hl : t.l.length ≠ 12) (hf : findL t.l m.id < 0) :
   pushD t.heap (d, m.id) = (pushL t.heap (d, m.id), 0) ∧ Ok (pushL t.heap (d, m.id)) ∧ (pushL t.heap (d, m.id)).Perm ((d, m.id) :: t.heap) := by
 obtain ⟨q1, q2, q3, q4⟩ := (zin t).1 h
 refine push_ok' q3 (zjo hm h0 h1) (by have := q4.length_eq; simp at this; omega) fun hc => ?_
 have := (ziZ m.id).2 ((ids_of q4 m.id).1 hc)
 omega
theorem zj2 (l : List Lease) (m : Message) (d : Int) : (insL l m d).Perm (⟨m, d⟩ :: l) := by
 unfold insL
 have := List.perm_middle (a := (⟨m, d⟩ : Lease)) (l₁ := l.take (posL l m.id)) (l₂ := l.drop (posL l m.id))
 rw [List.take_append_drop] at this
 rw [List.append_assoc]
 exact this
theorem zsN {l : List Lease} (h : l.Pairwise fun x y => x.msg.id < y.msg.id) {m : Message} {d : Int} (hn : ∀ x ∈ l, x.msg.id ≠ m.id) : (insL l m d).Pairwise fun x y => x.msg.id < y.msg.id := by
 unfold insL
 have hlt : ∀ x ∈ l.take (posL l m.id), x.msg.id < m.id := fun x hx => by
   obtain ⟨k, hk, rfl⟩ := List.getElem_of_mem hx
   simp only [List.length_take] at hk
   rw [List.getElem_take]
   exact (pos_lt h (by omega)).1 (by omega)
 have hgt : ∀ x ∈ l.drop (posL l m.id), m.id < x.msg.id := fun x hx => by
   obtain ⟨k, hk, rfl⟩ := List.getElem_of_mem hx
   simp only [List.length_drop] at hk
   rw [List.getElem_drop]
   have h1 := pos_lt h (id := m.id) (k := posL l m.id + k) (by omega)
   have h2 := hn _ (List.getElem_mem (l := l) (n := posL l m.id + k) (by omega))
   omega
 rw [List.append_assoc, List.pairwise_append]
 refine ⟨h.sublist (List.take_sublist ..), ?_, fun a ha b hb => ?_⟩
 · rw [List.singleton_append, List.pairwise_cons]
   exact ⟨fun x hx => hgt x hx, h.sublist (List.drop_sublist ..)⟩
 · rw [List.singleton_append, List.mem_cons] at hb
   have h1 := hlt a ha
   rcases hb with rfl | hb
   · exact h1
   · have := hgt b hb; omega
theorem zkB {t : Table} {m : Message} {d : Int} (h : (grantD t m d).2 = 0) : tabV (grantD t m d).1 = 0 ∧ tabV t = 0 ∧ (grantD t m d).1.l = insL t.l m d ∧ findL t.l m.id < 0 := by
 have hE : grantE t m d = 0 := by
   unfold grantD at h
   split at h
   · assumption
   · rename_i hc; exact absurd h hc
 unfold grantD
 rw [if_pos hE]
 unfold grantE at hE
 split at hE
 · omega
 split at hE
 · omega
 split at hE
 · cases hE
 split at hE
 · cases hE
 split at hE
 · cases hE
 split at hE
 · cases hE
 rename_i h1 h2 h3 h4 h5 h6
 have h1 : tabV t = 0 := by simpa using h1
 have h2 : msgV m = 0 := by simpa using h2
 obtain ⟨p1, p2, p3⟩ := zjF h1 h2 (by omega) (by omega : d ≤ 1073741824) h5 (by omega)
 obtain ⟨q1, q2, q3, q4⟩ := (zin t).1 h1
 obtain ⟨r1, r2⟩ := (ziq _).1 q2
 have hn : ∀ x ∈ t.l, x.msg.id ≠ m.id := zjV (by omega)
 refine ⟨(zin _).2 ⟨?_, (ziq _).2 ⟨zsN r1 hn, fun x hx => ?_⟩, ?_, ?_⟩, h1, rfl, by omega⟩
 · have := (zj2 t.l m d).length_eq
   simp only [List.length_cons] at this
   show (insL t.l m d).length ≤ 12
   omega
 · rcases List.mem_cons.1 ((zj2 t.l m d).mem_iff.1 hx) with rfl | hx
   · exact ⟨h2, h3, by simp only; omega, by simp only; omega⟩
   · exact r2 x hx
 · rw [p1]; exact p2
 · rw [p1]
   show (pushL t.heap (d, m.id)).Perm ((insL t.l m d).map dueOf)
   exact p3.trans (((List.Perm.cons _ q4)).trans ((zj2 t.l m d).map dueOf).symm)
theorem zlv {t : Table} {m : Message} {d : Int} (h : tabV t = 0) (hm : msgV m = 0) (hg : m.gen ≠ 0) (h0 : 0 ≤ d) (h1 : d ≤ 1073741824) (hl : t.l.length ≠ 12) (hf : findL t.l m.id < 0) : (grantD t m d).2 = 0 := by
 have hp := (zjF h hm h0 h1 hl hf).1
 have : grantE t m d = 0 := by
   unfold grantE
   rw [if_neg (by simpa using h), if_neg (by simpa using hm), if_neg hg, if_neg (by omega), if_neg hl, if_neg (by omega), hp]
 unfold grantD
 rw [if_pos this]
theorem zku (l : List Lease) (i : Nat) : dropI l i = l.eraseIdx i := by rw [dropI, List.eraseIdx_eq_take_drop_succ]
theorem zj9 {l : List Lease} {i : Nat} (hi : i < l.length) : (l[i] :: dropI l i).Perm l := by
 have h1 := List.perm_middle (a := l[i]) (l₁ := l.take i) (l₂ := l.drop (i + 1))
 rw [← List.drop_eq_getElem_cons hi, List.take_append_drop] at h1
 exact h1.symm
theorem zlr {t : Table} (h : tabV t = 0) {k : Nat} (hk : k < t.l.length) {d : Due} (hd : d ∈ t.heap) (e : d.2 = t.l[k].msg.id) : d = dueOf t.l[k] := by
 obtain ⟨q1, q2, q3, q4⟩ := (zin t).1 h
 obtain ⟨x, hx, e2⟩ := List.mem_map.1 (q4.mem_iff.1 hd)
 obtain ⟨j, hj, rfl⟩ := List.getElem_of_mem hx
 have : j = k := zla (ziu q2) hj hk (by rw [← e, ← e2]; rfl)
 subst this
 exact e2.symm
theorem ziV {t : Table} {id : Int} (h : tabV t = 0) (hf : 0 ≤ findL t.l id) : ∃ k, ∃ hk : k < t.l.length, findL t.l id = k ∧ t.l[k].msg.id = id ∧ (removeD t.heap id).2 = 0 ∧ Ok (removeD t.heap id).1 ∧ (dueOf t.l[k] :: (removeD t.heap id).1).Perm t.heap := by
 obtain ⟨q1, q2, q3, q4⟩ := (zin t).1 h
 obtain ⟨k, hk, e1, e2⟩ := zj0 hf
 refine ⟨k, hk, e1, e2, ?_⟩
 have hin : id ∈ t.heap.map (·.2) := (ids_of q4 id).2 ⟨_, List.getElem_mem hk, e2⟩
 have h0 : ¬ findD t.heap id < 0 := fun hc => (zlt _ _).1 hc hin
 have hlt := zkA t.heap id
 obtain ⟨d1, d2⟩ := drop_ok' q3 (findD t.heap id).toNat (by omega)
 have hat := zmZ t.heap id (by omega)
 have hr : removeD t.heap id = (dropL t.heap (findD t.heap id).toNat, 0) := by
   unfold removeD
   rw [if_neg (by simpa using (ziI _).2 q3), if_neg h0]
 rw [hr]
 refine ⟨rfl, d1, ?_⟩
 have : t.heap.getD (findD t.heap id).toNat dz = dueOf t.l[k] := by
   refine zlr h hk ?_ (by rw [hat, e2])
   rw [getDT (show (findD t.heap id).toNat < t.heap.length by omega)]
   exact List.getElem_mem _
 rw [← this]
 exact d2
theorem zkU {t : Table} {id : Int} (h : tabV t = 0) : (relD t id).2.2 = 0 ↔ 0 ≤ findL t.l id := by
 constructor
 · intro h0
   by_cases hf : 0 ≤ findL t.l id
   · exact hf
   · have e : relE t id = 4 := by unfold relE; rw [if_neg (by simpa using h), if_pos hf]
     unfold relD at h0
     rw [e, if_neg (by decide)] at h0
     cases h0
 · intro hf
   obtain ⟨k, hk, e1, e2, e3, _⟩ := ziV h hf
   have e : relE t id = 0 := by unfold relE; rw [if_neg (by simpa using h), if_neg (by omega), e3]
   unfold relD
   rw [if_pos e]
theorem zkV {t : Table} {id : Int} (h : (relD t id).2.2 = 0) : tabV (relD t id).1 = 0 ∧ tabV t = 0 ∧ ∃ k, ∃ hk : k < t.l.length, findL t.l id = k ∧ t.l[k].msg.id = id ∧ (relD t id).1.l = dropI t.l k ∧ (relD t id).2.1 = t.l[k].msg := by
 have hE : relE t id = 0 := by
   unfold relD at h
   split at h
   · assumption
   · rename_i hc; exact absurd h hc
 have h1 : tabV t = 0 := by
   unfold relE at hE
   split at hE
   · omega
   · rename_i hc; simpa using hc
 have hf : 0 ≤ findL t.l id := (zkU h1).1 h
 obtain ⟨k, hk, e1, e2, e3, e4, e5⟩ := ziV h1 hf
 obtain ⟨q1, q2, q3, q4⟩ := (zin t).1 h1
 obtain ⟨r1, r2⟩ := (ziq _).1 q2
 have hd : relD t id = (⟨dropI t.l k, (removeD t.heap id).1⟩, t.l[k].msg, 0) := by
   unfold relD
   rw [if_pos hE, e1, Int.toNat_natCast, getDT hk]
 rw [hd]
 refine ⟨(zin _).2 ⟨?_, (ziq _).2 ⟨?_, fun x hx => ?_⟩, e4, ?_⟩, h1, k, hk, e1, e2, rfl, rfl⟩
 · have := (zj9 hk).length_eq
   simp only [List.length_cons] at this
   show (dropI t.l k).length ≤ 12
   omega
 · show (dropI t.l k).Pairwise _
   rw [zku]; exact r1.sublist (List.eraseIdx_sublist ..)
 · exact r2 x ((zj9 hk).mem_iff.1 (List.mem_cons_of_mem _ hx))
 · show (removeD t.heap id).1.Perm ((dropI t.l k).map dueOf)
   have h1 := e5.trans (q4.trans ((zj9 hk).map dueOf).symm)
   exact List.Perm.cons_inv h1
theorem zm3 {l : List Lease} {k : Nat} (hk : k < l.length) (d : Int) : setD l k d = l.set k ⟨l[k].msg, d⟩ := by
 unfold setD
 rw [getDT hk]
theorem zm4 {l : List Due} {k : Nat} (hk : k < l.length) (b : Due) : (l[k] :: l.set k b).Perm (b :: l) := by
 have := set_perm' l k b hk
 rwa [getDT hk] at this
theorem zls {t : Table} {id d : Int} (h : tabV t = 0) : (extD t id d).2 = 0 ↔ 0 ≤ findL t.l id ∧ 0 ≤ d ∧ d ≤ 1073741824 := by
 constructor
 · intro h0
   by_cases hf : 0 ≤ findL t.l id
   · by_cases hd : 0 ≤ d ∧ d ≤ 1073741824
     · exact ⟨hf, hd⟩
     · have e : extE t id d = 1 := by unfold extE; rw [if_neg (by simpa using h), if_neg (by simpa using hf), if_pos hd]
       unfold extD at h0
       rw [e, if_neg (by decide)] at h0
       cases h0
   · have e : extE t id d = 4 := by unfold extE; rw [if_neg (by simpa using h), if_pos hf]
     unfold extD at h0
     rw [e, if_neg (by decide)] at h0
     cases h0
 · rintro ⟨hf, h0, h1⟩
   obtain ⟨k, hk, e1, e2, e3, e4, e5⟩ := ziV h hf
   obtain ⟨q1, q2, q3, q4⟩ := (zin t).1 h
   obtain ⟨r1, r2⟩ := (ziq _).1 q2
   have hlen := e5.length_eq
   simp only [List.length_cons] at hlen
   have hnod := (List.Perm.nodup_iff (e5.map (·.2))).2 q3.ids
   simp only [List.map_cons, List.nodup_cons] at hnod
   have hp := push_ok' e4 (d := (d, id)) (by have := zjo (r2 _ (List.getElem_mem hk)).1 h0 h1; rwa [e2] at this) (by have := q4.length_eq; simp at this; omega) (by simpa [dueOf, e2] using hnod.1)
   have e : extE t id d = 0 := by unfold extE; rw [if_neg (by simpa using h), if_neg (by omega), if_neg (by omega), if_neg (by simpa using e3), hp.1]
   unfold extD
   rw [if_pos e]
theorem zmU {t : Table} {id d : Int} (h : (extD t id d).2 = 0) : tabV (extD t id d).1 = 0 ∧ tabV t = 0 ∧ ∃ k, ∃ hk : k < t.l.length, findL t.l id = k ∧ t.l[k].msg.id = id ∧ (extD t id d).1.l = t.l.set k ⟨t.l[k].msg, d⟩ := by
 have hE : extE t id d = 0 := by
   unfold extD at h
   split at h
   · assumption
   · rename_i hc; exact absurd h hc
 have h1 : tabV t = 0 := by
   unfold extE at hE
   split at hE
   · omega
   · rename_i hc; simpa using hc
 obtain ⟨hf, h0, h2⟩ := (zls h1).1 h
 obtain ⟨k, hk, e1, e2, e3, e4, e5⟩ := ziV h1 hf
 obtain ⟨q1, q2, q3, q4⟩ := (zin t).1 h1
 obtain ⟨r1, r2⟩ := (ziq _).1 q2
 have hlen := e5.length_eq
 simp only [List.length_cons] at hlen
 have hnod := (List.Perm.nodup_iff (e5.map (·.2))).2 q3.ids
 simp only [List.map_cons, List.nodup_cons] at hnod
 have hp := push_ok' e4 (d := (d, id)) (by have := zjo (r2 _ (List.getElem_mem hk)).1 h0 h2; rwa [e2] at this) (by have := q4.length_eq; simp at this; omega) (by simpa [dueOf, e2] using hnod.1)
 have hd : extD t id d = (⟨t.l.set k ⟨t.l[k].msg, d⟩, pushL (removeD t.heap id).1 (d, id)⟩, 0) := by
   unfold extD
   rw [if_pos hE, e1, Int.toNat_natCast, zm3 hk, hp.1]
 rw [hd]
 refine ⟨(zin _).2 ⟨by simpa using q1, (ziq _).2 ⟨?_, fun x hx => ?_⟩, hp.2.1, ?_⟩, h1, k, hk, e1, e2, rfl⟩
 · show (t.l.set k ⟨t.l[k].msg, d⟩).Pairwise _
   have hm : (t.l.set k ⟨t.l[k].msg, d⟩).map (fun x => x.msg.id) = t.l.map fun x => x.msg.id := by
     rw [List.map_set]
     have : (t.l[k].msg.id) = (t.l.map fun x => x.msg.id)[k]'(by simpa using hk) := by simp
     rw [this, List.set_getElem_self]
   have := List.pairwise_map (f := fun x : Lease => x.msg.id) (R := fun a b => a < b) (l := t.l.set k ⟨t.l[k].msg, d⟩)
   rw [hm] at this
   exact this.1 (List.pairwise_map.2 r1)
 · rcases List.mem_or_eq_of_mem_set hx with hx | rfl
   · exact r2 x hx
   · obtain ⟨a1, a2, _, _⟩ := r2 _ (List.getElem_mem hk)
     exact ⟨a1, a2, h0, h2⟩
 · show (pushL (removeD t.heap id).1 (d, id)).Perm ((t.l.set k ⟨t.l[k].msg, d⟩).map dueOf)
   refine hp.2.2.trans ?_
   rw [List.map_set]
   have h3 := zm4 (l := t.l.map dueOf) (k := k) (by simpa using hk) (dueOf ⟨t.l[k].msg, d⟩)
   rw [List.getElem_map] at h3
   have h4 : (dueOf t.l[k] :: (d, id) :: (removeD t.heap id).1).Perm (dueOf t.l[k] :: (t.l.map dueOf).set k (dueOf ⟨t.l[k].msg, d⟩)) := by
     refine (List.Perm.swap ..).trans ?_
     refine (List.Perm.cons _ (e5.trans q4)).trans ?_
     have : ((d, id) : Due) = dueOf ⟨t.l[k].msg, d⟩ := by simp [dueOf, e2]
     rw [this]
     exact h3.symm
   exact List.Perm.cons_inv h4
end Go.Proofs.YtcjncbkhbllchaaGreat.L

namespace Go.Proofs.YtcjncbkhbllchaaGreat.L
open Go Go.Sim Go.Proofs.YtcjncbkhbllchaaGreat
set_option linter.unusedSimpArgs false
set_option linter.unusedVariables false
set_option maxHeartbeats 10000000
set_option maxRecDepth 40000
end Go.Proofs.YtcjncbkhbllchaaGreat.L

namespace Go.Proofs.YtcjncbkhbllchaaGreat.L
open Go Go.Sim Go.Proofs.YtcjncbkhbllchaaGreat
set_option linter.unusedSimpArgs false
set_option linter.unusedVariables false
set_option maxHeartbeats 10000000
set_option maxRecDepth 40000
def msgOf (t : Table) (id : Int) : Message := (t.l.getD (findL t.l id).toNat zLease).msg
def keepP (t : Table) (ep : Int) (id : Int) : Bool := !decide ((msgOf t id).epoch < ep)
def lapsedD (t : Table) (now ep : Int) : List Int := if tabV t = 0 then (untilD t.heap now).filter (keepP t ep) else []
theorem zwW {t : Table} (h : tabV t = 0) (now : Int) (id : Int) : id ∈ untilD t.heap now ↔ ∃ x ∈ t.l, x.msg.id = id ∧ x.deadline ≤ now := by
 obtain ⟨q1, q2, q3, q4⟩ := (zin t).1 h
 unfold untilD
 rw [if_pos ((ziI _).2 q3)]
 have hp := (zm7 t.heap 1 (fun p q hp hq => by omega)).2
 unfold dueIds
 constructor
 · intro hm
   obtain ⟨d, hd, e⟩ := List.mem_map.1 hm
   obtain ⟨hd, hn⟩ := List.mem_filter.1 hd
   obtain ⟨x, hx, e2⟩ := List.mem_map.1 (q4.mem_iff.1 (hp.mem_iff.1 hd))
   subst e2
   exact ⟨x, hx, e, of_decide_eq_true hn⟩
 · rintro ⟨x, hx, e, hn⟩
   exact List.mem_map.2 ⟨dueOf x, List.mem_filter.2 ⟨hp.mem_iff.2 (q4.mem_iff.2 (List.mem_map.2 ⟨x, hx, rfl⟩)), decide_eq_true hn⟩, e⟩
theorem zwU {t : Table} (h : tabV t = 0) {now id : Int} (hm : id ∈ untilD t.heap now) : 0 ≤ findL t.l id :=
 let ⟨x, hx, e, _⟩ := (zwW h now id).1 hm
 (ziZ id).2 ⟨x, hx, e⟩
theorem zoZ {t : Table} (h : tabV t = 0) (now : Int) : (untilD t.heap now).length ≤ 12 := by
 obtain ⟨q1, q2, q3, q4⟩ := (zin t).1 h
 unfold untilD
 rw [if_pos ((ziI _).2 q3)]
 have hp := (zm7 t.heap 1 (fun p q hp hq => by omega)).2.length_eq
 have := q3.len
 unfold dueIds
 rw [List.length_map]
 exact Nat.le_trans (List.length_filter_le _ _) (by omega)
theorem ztn (t : Table) (ep id : Int) (h : tabV t = 0) (hf : 0 ≤ findL t.l id) : callL G zW [.d (.int .i64 id), .d (.pd (eTable t)), .d (.pd (.int .i64 ep))] [] = some (.d (.bool (!keepP t ep id)), []) := by
 obtain ⟨h12, hE, hD, hM⟩ := zix h
 have ha := ziu hE
 have hfd := zk3 t id (by omega) ha
 obtain ⟨hp, e⟩ := (ziR ha id).1 hf
 have e2 := zjv ha hf
 have hP := zud t.l[posL t.l id].msg ep
 unfold keepP msgOf
 rw [e2, Int.toNat_natCast, getDT hp, Bool.not_not]
 simp only [hf, decide_true, eTable, eMessage] at hfd hP ⊢
 clear e e2 hf
 rw [zie zat (by simp)]; simp -implicitDefEqProofs (maxSteps := 4000000) (disch := omega) only [z9i, zdr, eLease, getDT, go_sem, *] /-A5-/
theorem znl (l : List Int) (g : Nat) (cs : List D) (p : Int → Bool) (hL : l.length ≤ 4294967296) (hp : ∀ a ∈ l, callL G g (.d (.int .i64 a) :: cs.map .d) [] = some (.d (.bool (p a)), [])) : callL G z2t [.d (.sl (ints l)), .d (.fn g cs)] [] = some (.d (.int .i64 (idxI p l)), []) := by
 have := zj4 (G := G) (x := z5P) (ks := []) l.length (atB l p) (fun k => ⟨[(0, .d (.sl (ints l))), (1, .d (.fn g cs)), (7, .d (.int .i64 l.length)), (8, .d (.int .i64 k))], []⟩) (fun k => (.ret, ⟨[(4, .d (.int .i64 k))], []⟩)) (.exit 0, ⟨[], []⟩) (fun k hk L => by
   simp only [z5P]
   by_cases h0 : k < l.length
   · have h1 := hp l[k] (List.getElem_mem h0)
     simp only [atB_at h0]
     cases h2 : p l[k]
     · rw [h2] at h1
       simp -implicitDefEqProofs (maxSteps := 4000000) (disch := omega) only [go_sem, h1]
     · rw [h2] at h1
       simp -implicitDefEqProofs (maxSteps := 4000000) (disch := omega) only [go_sem, h1]
   · simp -implicitDefEqProofs (maxSteps := 4000000) (disch := omega) only [go_sem, Nat.zero_add])
 rw [zjw] at this
 simp only [Int.natCast_add, Int.natCast_one, Int.natCast_zero, Int.natCast_mul, Int.cast_ofNat_Int, List.length_append, List.length_map, List.map_nil, List.length_nil, List.map_append, List.map_cons, List.length_cons, Nat.zero_add, srcO, mapSet] at this
 unfold idxI
 cases h : l.findIdx? p with
 | none => rw [h] at this; rw [zie z7K (by simp)]; simp -implicitDefEqProofs (maxSteps := 4000000) (disch := omega) only [z6B, z8Q, go_sem, this]
 | some i => rw [h] at this; rw [zie z7K (by simp)]; simp -implicitDefEqProofs (maxSteps := 4000000) (disch := omega) only [z6B, z8Q, go_sem, this]
structure DF where
 i : Nat
 j : Nat
 R : List Int
def dfS (g : Nat) (cs : List D) (n : Nat) (s : DF) : St := ⟨[(0, .osl 1000000 0 n), (1, .d (.fn g cs)), (5, .d (.int .i64 s.i)), (6, .d (.int .i64 s.j)), (1000000, .ref 1000000 1 0)], [(1000000, .row ((ints s.R).map .d))]⟩
def dfInv (u : List Int) (p : Int → Bool) (s : DF) : Prop := s.i ≤ s.j ∧ s.j ≤ u.length ∧ s.R.length = u.length ∧ s.R.take s.i = (u.take s.j).filter (fun a => !p a) ∧ s.R.drop s.j = u.drop s.j
def dfPhi (g : Nat) (cs : List D) (u : List Int) (p : Int → Bool) (r : Option (AExit × St)) : Prop := ∃ R : List Int, ∃ i : Nat, R.length = u.length ∧ i ≤ u.length ∧ R.take i = u.filter (fun a => !p a) ∧ r = some (.exit 0, ⟨[(0, .osl 1000000 0 u.length), (5, .d (.int .i64 i)), (1000000, .ref 1000000 1 0)], [(1000000, .row ((ints R).map .d))]⟩)
theorem zqQ (g : Nat) (cs : List D) (u : List Int) (p : Int → Bool) (hL : u.length ≤ 1000) (hp : ∀ a ∈ u, callL G g (.d (.int .i64 a) :: cs.map .d) [] = some (.d (.bool (p a)), [])) : ∀ s : DF, dfInv u p s → dfPhi g cs u p (loopL G [] z0U (dfS g cs u.length s)) := by
 refine zk4 (fun s : DF => u.length - s.j) (dfInv u p) (dfS g cs u.length) (fun _ => Post (dfPhi g cs u p)) fun ⟨i, j, R⟩ hinv L ih => ?_
 obtain ⟨h1, h2, h3, h4, h5⟩ := hinv
 simp only at h1 h2 h3 h4 h5
 by_cases h0 : j < u.length
 · have hRj : R[j]'(by omega) = u[j] := by
     have := congrArg (fun l => l[0]?) h5
     simp only [List.getElem?_drop, Nat.add_zero] at this
     rw [List.getElem?_eq_getElem (show j < R.length by omega), List.getElem?_eq_getElem h0] at this
     exact Option.some.inj this
   have hc := hp u[j] (List.getElem_mem h0)
   have hg : ((ints R).map AV.d)[j]? = some (.d (.int .i64 u[j])) := by simp [ints, List.getElem?_eq_getElem (show j < R.length by omega), hRj]
   have htk : u.take (j + 1) = u.take j ++ [u[j]] := by rw [List.take_add_one, List.getElem?_eq_getElem h0]; rfl
   by_cases hpj : p u[j] = true
   · have i1 := ih ⟨i, j + 1, R⟩ ⟨by simp only; omega, by simp only; omega, h3, by
       simp only
       rw [htk, List.filter_append, h4]
       simp [hpj], by
       simp only
       have := congrArg (List.drop 1) h5
       simpa [List.drop_drop, Nat.add_comm] using this⟩ (by simp only; omega)
     rw [hpj] at hc
     clear ih hp
     simp only [dfS, z0U] at i1 ⊢
     simp only [Int.natCast_add, Int.natCast_one, Int.natCast_zero, Int.natCast_mul, Int.cast_ofNat_Int, List.length_append, List.length_map, List.map_nil, List.length_nil, List.map_append, List.map_cons, List.length_cons, Nat.zero_add, srcO, mapSet] at i1
     simp -implicitDefEqProofs (maxSteps := 4000000) (disch := omega) only [getDT, go_sem, *] /-A6-/
   · have hpj : p u[j] = false := by simpa using hpj
     have i1 := ih ⟨i + 1, j + 1, R.set i u[j]⟩ ⟨by simp only; omega, by simp only; omega, by simpa using h3, by
       simp only
       rw [htk, List.filter_append, ← h4, List.take_add_one, List.getElem?_set_self (by omega), List.take_set_of_le (by omega)]
       simp [hpj], by
       simp only
       rw [List.drop_set_of_lt (by omega)]
       have := congrArg (List.drop 1) h5
       simpa [List.drop_drop, Nat.add_comm] using this⟩ (by simp only; omega)
     rw [hpj] at hc
     have hst : ((ints R).map AV.d).set i (.d (.int .i64 u[j])) = (ints (R.set i u[j])).map AV.d := by simp [ints, List.map_set]
     have hgi : ((ints R).map AV.d)[i]? = some (.d (.int .i64 (R[i]'(by omega)))) := by simp [ints, List.getElem?_eq_getElem (show i < R.length by omega)]
     clear ih hp
     simp only [dfS, z0U] at i1 ⊢
     simp only [Int.natCast_add, Int.natCast_one, Int.natCast_zero, Int.natCast_mul, Int.cast_ofNat_Int, List.length_append, List.length_map, List.map_nil, List.length_nil, List.map_append, List.map_cons, List.length_cons, Nat.zero_add, srcO, mapSet] at i1
     simp -implicitDefEqProofs (maxSteps := 4000000) (disch := omega) only [getDT, go_sem, *] /-A7-/
 · have : j = u.length := by omega
   subst this
   clear ih hp
   rw [List.take_length] at h4
   simp only [dfS, z0U]
   simp -implicitDefEqProofs (maxSteps := 4000000) (disch := omega) only [getDT, go_sem, *] /-A8-/
   exact ⟨R, i, h3, by omega, h4, rfl⟩
end Go.Proofs.YtcjncbkhbllchaaGreat.L

namespace Go.Proofs.YtcjncbkhbllchaaGreat.L
open Go Go.Sim Go.Proofs.YtcjncbkhbllchaaGreat
set_option linter.unusedSimpArgs false
set_option linter.unusedVariables false
set_option maxHeartbeats 10000000
set_option maxRecDepth 40000
theorem zrN {u : List Int} {p : Int → Bool} {k : Nat} (hk : k < u.length) (h1 : p u[k] = true) (h2 : ∀ j (hj : j < k), p (u[j]'(by omega)) = false) : u.take k = (u.take (k + 1)).filter (fun a => !p a) := by
 have htk : u.take (k + 1) = u.take k ++ [u[k]] := by rw [List.take_add_one, List.getElem?_eq_getElem hk]; rfl
 rw [htk, List.filter_append]
 have e1 : (u.take k).filter (fun a => !p a) = u.take k := by
   rw [List.filter_eq_self]
   intro a ha
   obtain ⟨j, hj, rfl⟩ := List.getElem_of_mem ha
   simp only [List.length_take] at hj
   rw [List.getElem_take, h2 j (by omega)]
   rfl
 rw [e1]
 simp [h1]
theorem df_ok (g : Nat) (cs : List D) (u : List Int) (p : Int → Bool) (h : u ≠ []) (hL : u.length ≤ 1000) (hp : ∀ a ∈ u, callL G g (.d (.int .i64 a) :: cs.map .d) [] = some (.d (.bool (p a)), [])) :
   callL G z0D [.osl 1000000 0 u.length, .d (.fn g cs)] [(1000000, .row ((ints u).map .d))] = some (.osl 1000000 0 (u.filter fun a => !p a).length, [(1000000, .row ((ints (u.filter fun a => !p a)).map .d))]) := by
 have hi := znl u g cs p (by omega) hp
 have hall : allD ((ints u).map AV.d) = some (ints u) := ziX _
 have hlen : (ints u).length = u.length := by simp [ints]
 have htl : (ints u).take u.length = ints u := List.take_of_length_le (by omega)
 by_cases h1 : idxI p u = -1
 · have hn := (zly u p).1 (by omega)
   have hf : u.filter (fun a => !p a) = u := by
     rw [List.filter_eq_self]
     intro a ha
     rw [hn a ha]; rfl
   rw [hf]
   rw [h1] at hi
   clear hp
   rw [zie z5h (by simp)]; simp -implicitDefEqProofs (maxSteps := 4000000) (disch := omega) only [z3t, z6d, getDT, go_sem, *] /-A0-/
 · have hlt := znj u p
   obtain ⟨k, hk⟩ : ∃ k : Nat, idxI p u = k := ⟨(idxI p u).toNat, by omega⟩
   obtain ⟨hku, k1, k2⟩ := zsH hk
   obtain ⟨R, i, r1, r2, r3, hl⟩ := zqQ g cs u p hL hp ⟨k, k + 1, u⟩ ⟨by simp, by simp only; omega, rfl, zrN hku k1 k2, rfl⟩
   have hil : (u.filter fun a => !p a).length = i := by rw [← r3]; simp; omega
   have hne : R ≠ [] := by rintro rfl; simp at r1; exact h (by rw [← List.length_eq_zero_iff]; omega)
   have hrow : ((ints R).map AV.d).take i = (ints (u.filter fun a => !p a)).map AV.d := by rw [← r3]; simp [ints, List.map_take]
   have hhd : (((ints R).map AV.d).head?).map AV.size = some 1 := by
     cases R with
     | nil => exact absurd rfl hne
     | cons a R => rfl
   simp only [dfS] at hl
   rw [hk] at hi
   rw [hil]
   simp only [Int.natCast_add, Int.natCast_one, Int.natCast_zero, Int.natCast_mul, Int.cast_ofNat_Int, List.length_append, List.length_map, List.map_nil, List.length_nil, List.map_append, List.map_cons, List.length_cons, Nat.zero_add, srcO, mapSet] at hl
   clear hp k2 hk h1
   have e5 : i + (u.length - i) = u.length := by omega
   rw [zie z5h (by simp)]; simp -implicitDefEqProofs (maxSteps := 4000000) (disch := omega) only [z3t, z6d, getDT, go_sem, *]; (try simp only [pA, pB, pC, pD, pE, pF, pG, pH, pI, pJ, pK, pL, pM, pN, pO, pP, if_true, if_false]); repeat' (first | done | rfl | ((first | refine iteC (fun hq => ?_) (fun hq => ?_) | refine iteP (fun hq => ?_) (fun hq => ?_)) <;> (try (first | (exfalso; omega) | contradiction)) <;> (try simp -implicitDefEqProofs (maxSteps := 4000000) (disch := omega) only [getDT, go_sem, *]) <;> (try simp only [pA, pB, pC, pD, pE, pF, pG, pH, pI, pJ, pK, pL, pM, pN, pO, pP, if_true, if_false]))); (all_goals try rfl); (all_goals try (repeat' (first | done | rfl | (exfalso; omega) | contradiction | (refine iteR (fun hq => ?_) (fun hq => ?_))))) /-A1-/
theorem df0_ok (g : Nat) (cs : List D) : callL G z0D [.xsl [], .d (.fn g cs)] [] = some (.xsl [], []) := by
 have hi := znl [] g cs (fun _ => false) (by simp) (by simp)
 have e : idxI (fun _ : Int => false) [] = -1 := rfl
 rw [e] at hi
 simp only [ints, List.map_nil] at hi
 rw [zie z5h (by simp)]; simp -implicitDefEqProofs (maxSteps := 4000000) (disch := omega) only [z3t, z6d, getDT, go_sem, *] /-A2-/
theorem urow (h : List Due) (now : Int) (hL : h.length ≤ 4294967296) (h0 : validateD h = 0) (h1 : untilD h now ≠ []) : callL G zo [.d (.sl (h.map eD)), .d (.int .i64 now)] [] = some (.osl 0 0 (untilD h now).length, [(0, .row ((ints (untilD h now)).map .d))]) := by
 have := znu zee (es := ints (untilD h now)) (by simpa [ints] using h1) (by have := zoY h now hL h0; simpa [ints] using this)
 rwa [show (ints (untilD h now)).length = (untilD h now).length by simp [ints]] at this
theorem urow0 (h : List Due) (now : Int) (hL : h.length ≤ 4294967296) (h0 : validateD h = 0) (h1 : untilD h now = []) : callL G zo [.d (.sl (h.map eD)), .d (.int .i64 now)] [] = some (.xsl [], []) := by
 have := zoY h now hL h0
 rw [h1] at this
 exact znv zee this
theorem zn3 : ∀ w : List Int, AV.flatL ((ints w).map AV.d) = true
 | [] => rfl
 | a :: w => by show (AV.flat (.d (.int .i64 a)) && AV.flatL ((ints w).map AV.d)) = true; rw [zn3 w]; rfl
theorem zto (t : Table) (now ep : Int) (hL : t.l.length ≤ 4294967296) (hH : t.heap.length ≤ 4294967296) : callL G z1q [.d (eTable t), .d (.int .i64 now), .d (.int .i64 ep)] [] = some (.d (.sl (ints (lapsedD t now ep))), []) := by
 have hv := zjA t hL hH
 unfold lapsedD
 by_cases h1 : tabV t = 0
 · rw [if_pos h1]
   obtain ⟨h12, hE, hD, hM⟩ := zix h1
   rw [h1] at hv
   by_cases h2 : untilD t.heap now = []
   · have hu := urow0 t.heap now hH hD h2
     have hd := df0_ok zW [.pd (eTable t), .pd (.int .i64 ep)]
     rw [h2]
     simp only [eTable, List.filter_nil, ints, List.map_nil] at hv hd ⊢
     rw [zie z5a (by simp)]; simp -implicitDefEqProofs (maxSteps := 4000000) (disch := omega) only [z3c, z5W, getDT, go_sem, *] /-A3-/
   · have hu := urow t.heap now hH hD h2
     have hd := df_ok zW [.pd (eTable t), .pd (.int .i64 ep)] (untilD t.heap now) (fun a => !keepP t ep a) h2 (by have := zoZ h1 now; omega) (fun a ha => ztn t ep a h1 (zwU h1 ha))
     simp only [Bool.not_not] at hd
     have e : (untilD t.heap now).filter (fun a => keepP t ep a) = (untilD t.heap now).filter (keepP t ep) := rfl
     rw [e] at hd
     have hall : allD ((ints ((untilD t.heap now).filter (keepP t ep))).map AV.d) = some (ints ((untilD t.heap now).filter (keepP t ep))) := ziX _
     have hlen : (ints ((untilD t.heap now).filter (keepP t ep))).length = ((untilD t.heap now).filter (keepP t ep)).length := by simp [ints]
     have htl : (ints ((untilD t.heap now).filter (keepP t ep))).take ((untilD t.heap now).filter (keepP t ep)).length = ints ((untilD t.heap now).filter (keepP t ep)) := List.take_of_length_le (by omega)
     have hfl := zn3 ((untilD t.heap now).filter (keepP t ep))
     generalize (untilD t.heap now).filter (keepP t ep) = w at *
     generalize untilD t.heap now = u at *
     simp only [eTable] at hv hd ⊢
     rw [zie z5a (by simp)]; simp -implicitDefEqProofs (maxSteps := 4000000) (disch := omega) only [z3c, z5W, getDT, go_sem, *] /-A4-/
 · rw [if_neg h1]
   simp only [eTable] at hv ⊢
   rw [zie z5a (by simp)]; simp -implicitDefEqProofs (maxSteps := 4000000) (disch := omega) only [z3c, z5W, getDT, go_sem, *] /-A5-/
end Go.Proofs.YtcjncbkhbllchaaGreat.L

namespace Go.Proofs.YtcjncbkhbllchaaGreat
open Go Go.Sim
set_option linter.unusedSimpArgs false
set_option linter.unusedVariables false
set_option maxHeartbeats 10000000
set_option maxRecDepth 40000
theorem zsF (l : List Bool) (hL : l.length ≤ 1000) : callL G z2v [.d (.sl (l.map D.bool)), .d (.bool false)] [] = some (.d (.int .i64 (idxI (fun b : Bool => !b) l)), []) := by
 have := zj4 (G := G) (x := z5Q) (ks := []) l.length (atB l fun b : Bool => !b) (fun k => ⟨[(0, .d (.sl (l.map D.bool))), (1, .d (.bool false)), (7, .d (.int .i64 l.length)), (8, .d (.int .i64 k))], []⟩) (fun k => (.ret, ⟨[(4, .d (.int .i64 k))], []⟩)) (.exit 0, ⟨[], []⟩) (fun k hk L => by
   simp only [z5Q]
   by_cases h0 : k < l.length
   · rw [if_pos h0]
     simp only [atB_at h0]
     cases h1 : l[k]
     · simp only [Bool.not_false, if_true]
       simp -implicitDefEqProofs (maxSteps := 4000000) (disch := omega) only [getDT, go_sem, *] /-A0-/
     · simp only [Bool.not_true, Bool.false_eq_true, if_false]
       simp -implicitDefEqProofs (maxSteps := 4000000) (disch := omega) only [getDT, go_sem, *] /-A1-/
   · rw [if_neg h0]
     simp -implicitDefEqProofs (maxSteps := 4000000) (disch := omega) only [getDT, go_sem, *] /-A2-/)
 rw [zjw] at this
 simp only [Int.natCast_add, Int.natCast_one, Int.natCast_zero, Int.natCast_mul, Int.cast_ofNat_Int, List.length_append, List.length_map, List.map_nil, List.length_nil, List.map_append, List.map_cons, List.length_cons, Nat.zero_add, srcO, mapSet] at this
 unfold idxI
 cases h : l.findIdx? (fun b : Bool => !b) with
 | none => rw [h] at this; rw [zie z7M (by simp)]; simp -implicitDefEqProofs (maxSteps := 4000000) (disch := omega) only [z6C, z8S, getDT, go_sem, *] /-A3-/
 | some i => rw [h] at this; rw [zie z7M (by simp)]; simp -implicitDefEqProofs (maxSteps := 4000000) (disch := omega) only [z6C, z8S, getDT, go_sem, *] /-A4-/
theorem zqA (l : List Bool) (hL : l.length ≤ 1000) : callL G z2q [.d (.sl (l.map D.bool)), .d (.bool false)] [] = some (.d (.bool (l.any fun b => !b)), []) := by
 have h := zsF l hL
 rw [zie zbb (by simp)]; simp -implicitDefEqProofs (maxSteps := 4000000) (disch := omega) only [za4, zec, zkD, getDT, go_sem, *] /-A5-/
theorem anyAll (l : List Bool) : (l.any fun b => !b) = !(l.all id) := by
 induction l with
 | nil => rfl
 | cons b l ih => simp only [List.any_cons, List.all_cons, ih]; cases b <;> simp
def usE (s : Shard) (b : Bool) : Int := if liveV s ≠ 0 then liveV s else if b = true then 0 else 1
theorem zjL (s : Shard) (l : List Bool) (hL : l.length ≤ 1000) (h1 : s.ready.cells.length ≤ 4294967296) (h2 : s.leases.l.length ≤ 4294967296) (h3 : s.leases.heap.length ≤ 4294967296) : callL G z08 [.d (eShard s), .d (.sl (l.map D.bool))] [] = some (.d (.int .i64 (usE s (l.all id))), []) := by
 have hv := znA s h1 h2 h3
 have hc := zqA l hL
 rw [anyAll] at hc
 unfold usE
 generalize l.all id = b at *
 generalize l.map D.bool = w at *
 by_cases c : liveV s = 0
 · rw [c] at hv
   simp only [c, ne_eq, not_true_eq_false, if_false]
   simp only [eShard] at *
   cases b
   · rw [zie z7I (by simp)]; simp -implicitDefEqProofs (maxSteps := 4000000) (disch := omega) only [z3q, z6a, getDT, go_sem, *] /-A6-/
   · rw [zie z7I (by simp)]; simp -implicitDefEqProofs (maxSteps := 4000000) (disch := omega) only [z3q, z6a, getDT, go_sem, *] /-A7-/
 · simp only [c, ne_eq, not_false_eq_true, if_true]
   generalize liveV s = v at *
   simp only [eShard] at *
   rw [zie z7I (by simp)]; simp -implicitDefEqProofs (maxSteps := 4000000) (disch := omega) only [z3q, z6a, getDT, go_sem, *] /-A8-/
end Go.Proofs.YtcjncbkhbllchaaGreat

namespace Go.Proofs.YtcjncbkhbllchaaGreat.L
open Go Go.Sim
set_option linter.unusedSimpArgs false
set_option linter.unusedVariables false
set_option maxHeartbeats 10000000
set_option maxRecDepth 40000
theorem zll (es : List D) (hs : allSize 7 es = true) (hL : es.length ≤ 4294967296) : callL G z0C [.d (.sl es)] [] = some (.acc 0 es, [(0, .acc es.length)]) := by
 cases es with
 | nil =>
   refine zjP z2N (by decide) ?_ ?_
   · simp -implicitDefEqProofs only [z0f, z0l, go_sem]
   · simp -implicitDefEqProofs only [z0f, z0l, Nat.zero_le, go_sem]
 | cons e es =>
   rw [zjO z2N (by simp) (by decide)]
   simp only [zjq] at hs
   simp only [List.length_cons] at hL
   simp -implicitDefEqProofs (maxSteps := 4000000) (disch := omega) only [z0f, z0l, go_sem, *]
theorem zlk (es : List D) (hs : allSize 2 es = true) (hL : es.length ≤ 4294967296) : callL G z09 [.d (.sl es)] [] = some (.acc 0 es, [(0, .acc es.length)]) := by
 cases es with
 | nil =>
   refine zjP z2M (by decide) ?_ ?_
   · simp -implicitDefEqProofs only [z0e, z0k, go_sem]
   · simp -implicitDefEqProofs only [z0e, z0k, Nat.zero_le, go_sem]
 | cons e es =>
   rw [zjO z2M (by simp) (by decide)]
   simp only [zjq] at hs
   simp only [List.length_cons] at hL
   simp -implicitDefEqProofs (maxSteps := 4000000) (disch := omega) only [z0e, z0k, go_sem, *]
def epQ (n : Int) : Bool := decide (0 ≤ n ∧ n ≤ 65536)
def liQ (n : Int) : Bool := decide (1 ≤ n ∧ n ≤ 8)
def tiQ (n : Int) : Bool := decide (0 ≤ n ∧ n ≤ 1073741824)
def viQ (n : Int) : Bool := decide (0 ≤ n ∧ n ≤ 1000)
theorem zjx (n : Int) : callL G z2e [.d (.int .i64 n)] [] = some (.d (.bool (epQ n)), []) := by
 have h := sin_ok n 0 65536
 unfold epQ
 generalize decide (0 ≤ n ∧ n ≤ 65536) = b at *
 rw [zie zb1 (by simp)]; simp -implicitDefEqProofs (maxSteps := 4000000) (disch := omega) only [z9T, ze1, getDT, go_sem, *] /-A0-/
theorem zlA (n : Int) : callL G z2f [.d (.int .i64 n)] [] = some (.d (.bool (liQ n)), []) := by
 have h := sin_ok n 1 8
 unfold liQ
 generalize decide (1 ≤ n ∧ n ≤ 8) = b at *
 rw [zie zb2 (by simp)]; simp -implicitDefEqProofs (maxSteps := 4000000) (disch := omega) only [z9U, ze2, getDT, go_sem, *] /-A1-/
theorem zjy (n : Int) : callL G z2g [.d (.int .i64 n)] [] = some (.d (.bool (tiQ n)), []) := by
 have h := sin_ok n 0 1073741824
 unfold tiQ
 generalize decide (0 ≤ n ∧ n ≤ 1073741824) = b at *
 rw [zie zb3 (by simp)]; simp -implicitDefEqProofs (maxSteps := 4000000) (disch := omega) only [z9V, ze3, getDT, go_sem, *] /-A2-/
theorem znn (n : Int) : callL G z2h [.d (.int .i64 n)] [] = some (.d (.bool (viQ n)), []) := by
 have h := sin_ok n 0 1000
 unfold viQ
 generalize decide (0 ≤ n ∧ n ≤ 1000) = b at *
 rw [zie zb4 (by simp)]; simp -implicitDefEqProofs (maxSteps := 4000000) (disch := omega) only [z9W, ze4, getDT, go_sem, *] /-A3-/
theorem zkg (s : Shard) (h0 : 1 ≤ s.ready.cells.length) (h1 : s.ready.cells.length ≤ 12) (h2 : s.leases.l.length ≤ 12) (h3 : s.leases.heap.length ≤ 12) : callL G z2j [.d (eShard s)] [] = some (.d (eShard s), []) := by
 have hc := zll (s.ready.cells.map eMessage) (zl9 _) (by simp; omega)
 have hd := zlk (s.leases.heap.map eD) (ziK _) (by simp; omega)
 obtain ⟨lv, lo, hi, ⟨c, h, z⟩, ⟨tl, th⟩⟩ := s
 simp only [eShard] at *
 simp only [Int.natCast_add, Int.natCast_one, Int.natCast_zero, Int.natCast_mul, Int.cast_ofNat_Int, List.length_append, List.length_map, List.map_nil, List.length_nil, List.map_append, List.map_cons, List.length_cons, Nat.zero_add, srcO, mapSet] at hc hd
 by_cases e : tl = []
 · subst e
   have hr := crow0
   simp only [List.map_nil]
   rw [zie z7G (by simp)]; simp -implicitDefEqProofs (maxSteps := 4000000) (disch := omega) only [z6x, z8M, getDT, go_sem, *] /-A4-/
 · have hr := crow tl e (by omega)
   have hw : (tl.map eLease).length = tl.length := List.length_map ..
   have ht : (tl.map eLease).take tl.length = tl.map eLease := List.take_of_length_le (by omega)
   generalize tl.map eLease = w at *
   rw [zie z7G (by simp)]; simp -implicitDefEqProofs (maxSteps := 4000000) (disch := omega) only [z6x, z8M, Nat.min_self, getDT, go_sem, *] /-A5-/
def relS (s : Shard) (id : Int) : Shard × Message × Int := if (relD s.leases id).2.2 = 0 then ({ s with leases := (relD s.leases id).1 }, (relD s.leases id).2.1, 0) else (zShard, zMessage, (relD s.leases id).2.2)
theorem zlW (s : Shard) (id : Int) (h0 : 1 ≤ s.ready.cells.length) (h1 : s.ready.cells.length ≤ 12) (h2 : s.leases.l.length ≤ 12) (h3 : s.leases.heap.length ≤ 12) : callL G z2k [.d (eShard s), .d (.int .i64 id)] [] = some (.d (.tup [eShard (relS s id).1, eMessage (relS s id).2.1, .int .i64 (relS s id).2.2]), []) := by
 have hr := rel_ok s.leases id (by omega) (by omega)
 have ho := zkg s h0 h1 h2 h3
 unfold relS
 generalize relD s.leases id = r at *
 obtain ⟨t, m, e⟩ := r
 obtain ⟨lv, lo, hi, ⟨c, h, z⟩, ⟨tl, th⟩⟩ := s
 by_cases c0 : e = 0
 · subst c0
   simp only [if_true]
   simp only [eShard, eTable, eMessage] at *
   rw [zie z7H (by simp)]; simp -implicitDefEqProofs (maxSteps := 4000000) (disch := omega) only [z6y, z8N, getDT, go_sem, *] /-A6-/
 · simp only [c0, if_false]
   clear ho
   simp only [eShard, eTable, eMessage, zShard, zMessage, List.map_nil] at *
   rw [zie z7H (by simp)]; simp -implicitDefEqProofs (maxSteps := 4000000) (disch := omega) only [z6y, z8N, getDT, go_sem, *] /-A7-/
theorem znU (m : Message) (ep : Int) : callL G zp [.d (eMessage m), .d (.int .i64 ep)] [] = some (.d (.bool (decide (m.epoch < ep))), []) := by
 rw [zeh]; exact zv5 m ep
def holdsB (s : Shard) (h : Handle) (now ep : Int) : Bool := (findT s.leases h.id).2 && (decide ((findT s.leases h.id).1.msg.gen = h.gen) && (decide ((findT s.leases h.id).1.msg.route = h.route) && (!decide ((findT s.leases h.id).1.msg.epoch < ep) && decide (now < (findT s.leases h.id).1.deadline))))
theorem zkC (s : Shard) (h : Handle) (now ep : Int) (h2 : s.leases.l.length ≤ 12) (h3 : s.leases.heap.length ≤ 12) : callL G z2d [.d (eShard s), .d (eHandle h), .d (.int .i64 now), .d (.int .i64 ep)] [] = some (.d (.bool (holdsB s h now ep)), []) := by
 have hf := L.find_ok s.leases h.id (by omega) (by omega)
 unfold holdsB
 generalize findT s.leases h.id = f at *
 obtain ⟨x, b⟩ := f
 have hp := znU x.msg ep
 simp only [eShard, eTable, eHandle, eLease, eMessage] at *
 cases b
 · simp only [Bool.false_and]
   rw [zie z7D (by simp)]; simp -implicitDefEqProofs (maxSteps := 4000000) (disch := omega) only [z6w, z8L, getDT, go_sem, *] /-A8-/
 · simp only [Bool.true_and]
   rw [zie z7D (by simp)]; simp -implicitDefEqProofs (maxSteps := 4000000) (disch := omega) only [z6w, z8L, getDT, go_sem, *] /-A9-/
theorem zp7 (s : Shard) (h : Handle) (now ep : Int) (h1 : s.ready.cells.length ≤ 4294967296) (h2 : s.leases.l.length ≤ 12) (h3 : s.leases.heap.length ≤ 12) : callL G z0y [.d (eShard s), .d (eHandle h), .d (.int .i64 now), .d (.int .i64 ep)] [] = some (.d (.bool (decide (usE s (tiQ now && epQ ep) = 0) && holdsB s h now ep)), []) := by
 have hu := zjL s [tiQ now, epQ ep] (by simp) h1 (by omega) (by omega)
 have hh := zkC s h now ep h2 h3
 have e1 := zjy now
 have e2 := zjx ep
 simp only [List.map_cons, List.map_nil, List.all_cons, List.all_nil, id, Bool.and_true] at hu
 generalize usE s (tiQ now && epQ ep) = u at *
 generalize tiQ now = b1 at *
 generalize epQ ep = b2 at *
 generalize holdsB s h now ep = b3 at *
 simp only [eShard, eHandle] at *
 by_cases c : u = 0
 · subst c
   simp only [decide_true, Bool.true_and]
   rw [zie z7C (by simp)]; simp -implicitDefEqProofs (maxSteps := 4000000) (disch := omega) only [z6v, z8K, getDT, go_sem, *] /-A10-/
 · rw [decide_eq_false c, Bool.false_and]
   rw [zie z7C (by simp)]; simp -implicitDefEqProofs (maxSteps := 4000000) (disch := omega) only [z6v, z8K, getDT, go_sem, *] /-A11-/
def ackD (s : Shard) (h : Handle) (now ep : Int) : Shard × Int := if usE s (tiQ now && epQ ep) ≠ 0 then (zShard, usE s (tiQ now && epQ ep)) else if holdsB s h now ep = true then ((relS s h.id).1, (relS s h.id).2.2) else (zShard, 5)
theorem zki {s : Shard} {b : Bool} (h : usE s b = 0) : 1 ≤ s.ready.cells.length ∧ s.ready.cells.length ≤ 12 ∧ s.leases.l.length ≤ 12 ∧ s.leases.heap.length ≤ 12 := by
 have hl : liveV s = 0 := by
   unfold usE at h
   split at h
   · rename_i q; exact absurd h q
   · rename_i q; exact Classical.not_not.1 q
 have hv : shardV s = 0 := by
   unfold liveV at hl
   split at hl
   · rename_i q; exact absurd hl q
   · rename_i q; exact Classical.not_not.1 q
 unfold shardV at hv
 split at hv
 · rename_i q; exact absurd hv q
 · rename_i q1
   split at hv
   · rename_i q; exact absurd hv q
   · rename_i q2
     obtain ⟨a1, a2, _⟩ := zir (Classical.not_not.1 q1)
     obtain ⟨b1, b2⟩ := zjJ (Classical.not_not.1 q2)
     exact ⟨a1, a2, b1, b2⟩
theorem ack_ok (s : Shard) (h : Handle) (now ep : Int) (h1 : s.ready.cells.length ≤ 4294967296) (h2 : s.leases.l.length ≤ 4294967296) (h3 : s.leases.heap.length ≤ 4294967296) : callL G z25 [.d (eShard s), .d (eHandle h), .d (.int .i64 now), .d (.int .i64 ep)] [] = some (.d (.tup [eShard (ackD s h now ep).1, .int .i64 (ackD s h now ep).2]), []) := by
 have hu := zjL s [tiQ now, epQ ep] (by simp) h1 h2 h3
 have e1 := zjy now
 have e2 := zjx ep
 simp only [List.map_cons, List.map_nil, List.all_cons, List.all_nil, id, Bool.and_true] at hu
 unfold ackD
 by_cases c : usE s (tiQ now && epQ ep) = 0
 · obtain ⟨d1, d2, d3, d4⟩ := zki c
   have hh := zkC s h now ep d3 d4
   have hr := zlW s h.id d1 d2 d3 d4
   rw [c] at hu
   rw [if_neg (fun q => q c)]
   clear c
   generalize tiQ now = b1 at *
   generalize epQ ep = b2 at *
   generalize holdsB s h now ep = b3 at *
   generalize relS s h.id = r at *
   obtain ⟨s2, m, e⟩ := r
   cases b3
   · clear hr
     simp only [eShard, eHandle, zShard, List.map_nil, Bool.false_eq_true, if_false] at *
     rw [zie z5e (by simp)]; simp -implicitDefEqProofs (maxSteps := 4000000) (disch := omega) only [z3m, z66, getDT, go_sem, *] /-A12-/
   · simp only [eShard, eHandle, eMessage, if_true] at *
     rw [zie z5e (by simp)]; simp -implicitDefEqProofs (maxSteps := 4000000) (disch := omega) only [z3m, z66, getDT, go_sem, *] /-A13-/
 · rw [if_pos c]
   generalize usE s (tiQ now && epQ ep) = u at *
   generalize tiQ now = b1 at *
   generalize epQ ep = b2 at *
   simp only [eShard, eHandle, zShard, List.map_nil] at *
   rw [zie z5e (by simp)]; simp -implicitDefEqProofs (maxSteps := 4000000) (disch := omega) only [z3m, z66, getDT, go_sem, *] /-A14-/
end Go.Proofs.YtcjncbkhbllchaaGreat.L

namespace Go.Proofs.YtcjncbkhbllchaaGreat.L
open Go Go.Sim
set_option linter.unusedSimpArgs false
set_option linter.unusedVariables false
set_option maxHeartbeats 10000000
set_option maxRecDepth 40000
theorem znX (m : Message) (lim : Int) : callL G zD [.d (eMessage m), .d (.int .i64 lim)] [] = some (.d (.bool (decide (lim ≤ m.count))), []) := by
 rw [zei]; exact zws m lim
def backD (s : Shard) (m : Message) (lim : Int) : Ring × Int := if lim ≤ m.count then pbD s.ready m else pfD s.ready m
def nackD (s : Shard) (h : Handle) (now ep lim : Int) : Shard × Int :=
 if usE s (tiQ now && (epQ ep && liQ lim)) ≠ 0 then (zShard, usE s (tiQ now && (epQ ep && liQ lim)))
 else if holdsB s h now ep = true then (if (relS s h.id).2.2 ≠ 0 then (zShard, (relS s h.id).2.2)
   else if (backD (relS s h.id).1 (relS s h.id).2.1 lim).2 ≠ 0 then (zShard, (backD (relS s h.id).1 (relS s h.id).2.1 lim).2)
   else ({ (relS s h.id).1 with ready := (backD (relS s h.id).1 (relS s h.id).2.1 lim).1 }, 0)) else (zShard, 5)
theorem zvv (s : Shard) (id : Int) : (relS s id).1.ready.cells.length ≤ s.ready.cells.length := by
 unfold relS
 split
 · exact Nat.le_refl _
 · simp [zShard]
theorem zui (s : Shard) (h : Handle) (now ep lim : Int) (h1 : s.ready.cells.length ≤ 4294967296) (h2 : s.leases.l.length ≤ 4294967296) (h3 : s.leases.heap.length ≤ 4294967296) : callL G z28 [.d (eShard s), .d (eHandle h), .d (.int .i64 now), .d (.int .i64 ep), .d (.int .i64 lim)] [] = some (.d (.tup [eShard (nackD s h now ep lim).1, .int .i64 (nackD s h now ep lim).2]), []) := by
 have hu := zjL s [tiQ now, epQ ep, liQ lim] (by simp) h1 h2 h3
 have e1 := zjy now
 have e2 := zjx ep
 have e3 := zlA lim
 simp only [List.map_cons, List.map_nil, List.all_cons, List.all_nil, id, Bool.and_true] at hu
 unfold nackD
 by_cases c : usE s (tiQ now && (epQ ep && liQ lim)) = 0
 · obtain ⟨d1, d2, d3, d4⟩ := zki c
   have hh := zkC s h now ep d3 d4
   have hr := zlW s h.id d1 d2 d3 d4
   have hrc := zvv s h.id
   rw [c] at hu
   rw [if_neg (fun q => q c)]
   clear c
   generalize tiQ now = b1 at *
   generalize epQ ep = b2 at *
   generalize liQ lim = b4 at *
   generalize holdsB s h now ep = b3 at *
   generalize relS s h.id = r at *
   obtain ⟨s2, m, e⟩ := r
   cases b3
   · clear hr hrc
     simp only [eShard, eHandle, zShard, List.map_nil, Bool.false_eq_true, if_false] at *
     rw [zie zI (by simp)]; simp -implicitDefEqProofs (maxSteps := 4000000) (disch := omega) only [zG, zK, getDT, go_sem, *] /-A0-/
   · rw [if_pos rfl]
     by_cases c2 : e = 0
     · subst c2
       rw [if_neg (by simp)]
       have hb := zm1 s2.ready m (by simp only at hrc; omega)
       have hf := zvZ s2.ready m (by simp only at hrc; omega)
       have hs := znX m lim
       unfold backD
       by_cases c3 : lim ≤ m.count
       · simp only [if_pos c3]
         rw [decide_eq_true c3] at hs
         clear c3 hf
         generalize pbD s2.ready m = p at *
         obtain ⟨r2, e4⟩ := p
         by_cases c4 : e4 = 0
         · subst c4
           simp only [ne_eq, not_true_eq_false, if_false]
           simp only [eShard, eHandle, eMessage, eRing] at *
           rw [zie zI (by simp)]; simp -implicitDefEqProofs (maxSteps := 4000000) (disch := omega) only [zG, zK, getDT, go_sem, *] /-A1-/
         · rw [if_pos c4]
           simp only [eShard, eHandle, eMessage, eRing, zShard, List.map_nil] at *
           rw [zie zI (by simp)]; simp -implicitDefEqProofs (maxSteps := 4000000) (disch := omega) only [zG, zK, getDT, go_sem, *] /-A2-/
       · simp only [if_neg c3]
         rw [decide_eq_false c3] at hs
         clear c3 hb
         generalize pfD s2.ready m = p at *
         obtain ⟨r2, e4⟩ := p
         by_cases c4 : e4 = 0
         · subst c4
           simp only [ne_eq, not_true_eq_false, if_false]
           simp only [eShard, eHandle, eMessage, eRing] at *
           rw [zie zI (by simp)]; simp -implicitDefEqProofs (maxSteps := 4000000) (disch := omega) only [zG, zK, getDT, go_sem, *] /-A3-/
         · rw [if_pos c4]
           simp only [eShard, eHandle, eMessage, eRing, zShard, List.map_nil] at *
           rw [zie zI (by simp)]; simp -implicitDefEqProofs (maxSteps := 4000000) (disch := omega) only [zG, zK, getDT, go_sem, *] /-A4-/
     · rw [if_pos c2]
       clear hrc
       simp only [eShard, eHandle, eMessage, zShard, List.map_nil] at *
       rw [zie zI (by simp)]; simp -implicitDefEqProofs (maxSteps := 4000000) (disch := omega) only [zG, zK, getDT, go_sem, *] /-A5-/
 · rw [if_pos c]
   generalize usE s (tiQ now && (epQ ep && liQ lim)) = u at *
   generalize tiQ now = b1 at *
   generalize epQ ep = b2 at *
   generalize liQ lim = b4 at *
   simp only [eShard, eHandle, zShard, List.map_nil] at *
   rw [zie zI (by simp)]; simp -implicitDefEqProofs (maxSteps := 4000000) (disch := omega) only [zG, zK, getDT, go_sem, *] /-A6-/
end Go.Proofs.YtcjncbkhbllchaaGreat.L

namespace Go.Proofs.YtcjncbkhbllchaaGreat.L
open Go Go.Sim
set_option linter.unusedSimpArgs false
set_option linter.unusedVariables false
set_option maxHeartbeats 10000000
set_option maxRecDepth 40000
theorem us_num {s : Shard} {b : Bool} (h : usE s b = 0) : b = true := by
 unfold usE at h
 split at h
 · rename_i q; exact absurd h q
 · split at h
   · assumption
   · cases h
def chgD (s : Shard) (h : Handle) (now ep vis : Int) : Shard × Int :=
 if usE s (tiQ now && (epQ ep && viQ vis)) ≠ 0 then (zShard, usE s (tiQ now && (epQ ep && viQ vis)))
 else if holdsB s h now ep = true then (if 1073741824 < now + vis then (zShard, 6) else if (extD s.leases h.id (now + vis)).2 ≠ 0 then (zShard, (extD s.leases h.id (now + vis)).2)
   else ({ s with leases := (extD s.leases h.id (now + vis)).1 }, 0)) else (zShard, 5)
theorem zqc (s : Shard) (h : Handle) (now ep vis : Int) (h1 : s.ready.cells.length ≤ 4294967296) (h2 : s.leases.l.length ≤ 4294967296) (h3 : s.leases.heap.length ≤ 4294967296) : callL G z26 [.d (eShard s), .d (eHandle h), .d (.int .i64 now), .d (.int .i64 ep), .d (.int .i64 vis)] [] = some (.d (.tup [eShard (chgD s h now ep vis).1, .int .i64 (chgD s h now ep vis).2]), []) := by
 have hu := zjL s [tiQ now, epQ ep, viQ vis] (by simp) h1 h2 h3
 have e1 := zjy now
 have e2 := zjx ep
 have e3 := znn vis
 simp only [List.map_cons, List.map_nil, List.all_cons, List.all_nil, id, Bool.and_true] at hu
 unfold chgD
 by_cases c : usE s (tiQ now && (epQ ep && viQ vis)) = 0
 · obtain ⟨d1, d2, d3, d4⟩ := zki c
   have hn := us_num c
   simp only [Bool.and_eq_true, tiQ, viQ, decide_eq_true_eq] at hn
   obtain ⟨n1, nn, n2⟩ := hn
   clear nn
   have hh := zkC s h now ep d3 d4
   have ho := zkg s d1 d2 d3 d4
   have hx := ext_ok s.leases h.id (now + vis) (by omega) (by omega)
   rw [c] at hu
   rw [if_neg (fun q => q c)]
   clear c
   generalize tiQ now = b1 at *
   generalize epQ ep = b2 at *
   generalize viQ vis = b4 at *
   generalize holdsB s h now ep = b3 at *
   cases b3
   · clear hx ho
     simp only [eShard, eHandle, zShard, List.map_nil, Bool.false_eq_true, if_false] at *
     rw [zie z0S (by simp)]; simp -implicitDefEqProofs (maxSteps := 4000000) (disch := omega) only [z0N, z13, getDT, go_sem, *] /-A0-/
   · rw [if_pos rfl]
     by_cases c2 : 1073741824 < now + vis
     · rw [if_pos c2]
       clear hx ho
       simp only [eShard, eHandle, zShard, List.map_nil] at *
       rw [zie z0S (by simp)]; simp -implicitDefEqProofs (maxSteps := 4000000) (disch := omega) only [z0N, z13, getDT, go_sem, *] /-A1-/
     · rw [if_neg c2]
       generalize extD s.leases h.id (now + vis) = t at *
       obtain ⟨t, e⟩ := t
       by_cases c3 : e = 0
       · subst c3
         simp only [ne_eq, not_true_eq_false, if_false]
         simp only [eShard, eHandle, eTable] at *
         rw [zie z0S (by simp)]; simp -implicitDefEqProofs (maxSteps := 4000000) (disch := omega) only [z0N, z13, getDT, go_sem, *] /-A2-/
       · rw [if_pos c3]
         simp only [eShard, eHandle, eTable, zShard, List.map_nil] at *
         rw [zie z0S (by simp)]; simp -implicitDefEqProofs (maxSteps := 4000000) (disch := omega) only [z0N, z13, getDT, go_sem, *] /-A3-/
 · rw [if_pos c]
   generalize usE s (tiQ now && (epQ ep && viQ vis)) = u at *
   generalize tiQ now = b1 at *
   generalize epQ ep = b2 at *
   generalize viQ vis = b4 at *
   simp only [eShard, eHandle, zShard, List.map_nil] at *
   rw [zie z0S (by simp)]; simp -implicitDefEqProofs (maxSteps := 4000000) (disch := omega) only [z0N, z13, getDT, go_sem, *] /-A4-/
def delM (m : Message) : Message × Int := if msgV m ≠ 0 then (zMessage, msgV m) else if m.gen = 65536 then (zMessage, 6) else if m.count = 8 then (zMessage, 7) else ({ m with count := m.count + 1, gen := m.gen + 1 }, 0)
theorem zu1 (m : Message) : callL G z1x [.d (eMessage m)] [] = some (.d (.tup [eMessage (delM m).1, .int .i64 (delM m).2]), []) := by
 have hv := zjC m
 unfold delM
 by_cases c : msgV m = 0
 · rw [c] at hv
   rw [if_neg (fun q => q c)]
   have hb : m.count ≤ 8 ∧ 0 ≤ m.count ∧ m.gen ≤ 65536 ∧ 0 ≤ m.gen := by
     unfold msgV at c
     split at c
     · omega
     · cases c
   clear c
   by_cases c1 : m.gen = 65536
   · rw [if_pos c1]
     replace c1 := eq_true c1
     simp only [eMessage, zMessage] at hv ⊢
     rw [zie z2H (by simp)]; simp -implicitDefEqProofs (maxSteps := 4000000) (disch := omega) only [z2z, z35, getDT, go_sem, *] /-A5-/
   · rw [if_neg c1]
     by_cases c2 : m.count = 8
     · rw [if_pos c2]
       replace c2 := eq_true c2
       simp only [eMessage, zMessage] at hv ⊢
       rw [zie z2H (by simp)]; simp -implicitDefEqProofs (maxSteps := 4000000) (disch := omega) only [z2z, z35, getDT, go_sem, *] /-A6-/
     · rw [if_neg c2]
       simp only [eMessage] at *
       rw [zie z2H (by simp)]; simp -implicitDefEqProofs (maxSteps := 4000000) (disch := omega) only [z2z, z35, getDT, go_sem, *] /-A7-/
 · rw [if_pos c]
   generalize msgV m = v at *
   simp only [eMessage, zMessage] at *
   rw [zie z2H (by simp)]; simp -implicitDefEqProofs (maxSteps := 4000000) (disch := omega) only [z2z, z35, getDT, go_sem, *] /-A8-/
def rcvQ (ep lim : Int) (m : Message) : Bool := !decide (m.epoch < ep) && (!decide (lim ≤ m.count) && decide (m.gen < 65536))
theorem zue (m : Message) (ep lim : Int) : callL G z1y [.d (eMessage m), .d (.int .i64 ep), .d (.int .i64 lim)] [] = some (.d (.bool (rcvQ ep lim m)), []) := by
 have hp := znU m ep
 have hs := znX m lim
 unfold rcvQ
 simp only [eMessage] at *
 rw [zie zaz (by simp)]; simp -implicitDefEqProofs (maxSteps := 4000000) (disch := omega) only [z9o, zdw, getDT, go_sem, *] /-A9-/
end Go.Proofs.YtcjncbkhbllchaaGreat.L
