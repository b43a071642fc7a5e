/-
  Rings that hold a list.
-/
import Derived.Test.YtfggldgdejjlnaaGreatB2b3f220
import Derived.Test.YtfggldgdejjlnaaGreatB5f7df0b
set_option linter.unusedSimpArgs false
set_option linter.unusedVariables false
set_option maxHeartbeats 10000000
set_option maxRecDepth 100000
namespace Go.Sim
def zc0 {α : Type} (φ : α -> Prop) (r : α) : Prop := φ r
theorem zM {α : Type} {φ : α -> Prop} {c : Prop} [Decidable c] {A B : α} (h1 : c -> zc0 φ A) (h2 : ¬ c -> zc0 φ B) : zc0 φ (if c then A else B) := by split <;> simp_all
theorem zc0.some {α : Type} {φ : Option α -> Prop} {r : Option α} {a : α} (h : φ (some a)) (e : r = some a) : zc0 φ r := by rw [e]; exact h
attribute [go_sem] Nat.mul_one
end Go.Sim

namespace Go.Proofs.YtfggldgdejjlnaaGreat
open Go Go.Sim
theorem zul (a : Int) (m : Int) (h0 : 0 <= m) (h1 : m <= 4294967295) : 0 <= zgp .i64 a m /\ zgp .i64 a m <= m := by
 unfold zgp;have e : (BitVec.ofInt IntKind.i64.bits m).toNat = m.toNat := by
  show (BitVec.ofInt 64 m).toNat = m.toNat;rw [BitVec.toNat_ofInt]; omega
 have h2 : (BitVec.ofInt IntKind.i64.bits a &&& BitVec.ofInt IntKind.i64.bits m).toNat <= m.toNat := by
  rw [BitVec.toNat_and, e]; exact Nat.and_le_right
 rw [wr (by omega)];omega
theorem zQi (a b : Int) (ha : 0 <= a /\ a < 65536) (hb : 0 <= b /\ b < 65536) : 0 <= zkG .i64 a b /\ zkG .i64 a b < 65536 := by
 unfold zkG;have e : ∀ m : Int, 0 <= m -> m < 65536 -> (BitVec.ofInt IntKind.i64.bits m).toNat = m.toNat := fun m h0 h1 => by
  show (BitVec.ofInt 64 m).toNat = m.toNat;rw [BitVec.toNat_ofInt]; omega
 have h2 : (BitVec.ofInt IntKind.i64.bits a ^^^ BitVec.ofInt IntKind.i64.bits b).toNat < 65536 := by
  rw [BitVec.toNat_xor, e a ha.1 ha.2, e b hb.1 hb.2]; exact Nat.xor_lt_two_pow (n := 16) (by omega) (by omega)
 rw [wr (by omega)];omega
def zoE (b : List UInt8) (p : Nat × Int) : St := ⟨[(0, .d (.sl (byD b))), (3, .d (.int .i64 p.2)), (4, .d (.int .i64 p.1))], []⟩
def zBu (r : Option (zJ × St)) : Prop := ∃ h : Int, 0 <= h /\ h <= 4294967295 /\ r = some (.exit 0, ⟨[(3, .d (.int .i64 h))], []⟩)
theorem zO8 (b : List UInt8) (hL : b.length <= 1000) : ∀ p : Nat × Int, p.1 <= b.length /\ 0 <= p.2 /\ p.2 <= 4294967295 -> zBu (zT G [] zsw (zoE b p)) := by
 refine zfG (fun p : Nat × Int => b.length - p.1) _ (zoE b) (fun _ => zc0 zBu) fun ⟨i, h⟩ ⟨h1, h2, h3⟩ L ih => ?_;simp only at h1 h2 h3;simp only [zoE, zsw] at ih ⊢
 by_cases h0 : i < b.length
 · have hlt := b[i].toNat_lt;have hg : (byD b)[i]? = some (.int .u8 b[i].toNat) := by unfold byD; simp [zQ4 h0]
   have hlen : (byD b).length = b.length := by unfold byD; simp
   have ha := fun a => zul a 4294967295 (by omega) (by omega);simp -implicitDefEqProofs (disch := omega) only [za, go_sem, *];exact ih (i + 1, _) ⟨by simp only; omega, (ha _).1, (ha _).2⟩ (by simp only; omega)
 · have hlen : (byD b).length = b.length := by unfold byD; simp
   clear ih;simp -implicitDefEqProofs (disch := omega) only [za, go_sem, *];exact ⟨h, h2, h3, rfl⟩
theorem zO7 (b : List UInt8) (hL : b.length <= 1000) : ∃ h : Int, 0 <= h /\ h <= 4294967295 /\ zd G zic [.d (.sl (byD b))] [] = some (.d (.int .i64 h), []) := by
 obtain ⟨h, h1, h2, hl⟩ := zO8 b hL (0, 2166136261) ⟨by simp, by simp, by simp⟩;simp only [zoE] at hl;simp only [zQ2, zQZ, zQW, zQ5, zQ0, zQT, zQV, zQR, zQ1, zQY, zQS, zQX, zQU, zo, zC] at hl;refine ⟨h, h1, h2, ?_⟩;rw [ze zw2 (by simp)]; simp -implicitDefEqProofs (disch := omega) only [zu3, za, go_sem, *]
theorem zoL (x : Int) : ∃ c : UInt8, IntKind.u8.wrap x = c.toNat := by
 have h := zcH .u8 x;simp only [IntKind.has, IntKind.min, IntKind.max, IntKind.bits, IntKind.signed] at h;simp at h;exact ⟨UInt8.ofNat (IntKind.u8.wrap x).toNat, by rw [UInt8.toNat_ofNat']; omega⟩
theorem zMz (n : Int) (h0 : 0 <= n) (h1 : n <= 1073741824) : ∃ b : List UInt8, b.length = 4 /\ zd G zh9 [.d (.sl []), .d (.int .i64 n), .d (.int .i64 4)] [] = some (.d (.tup [.sl (byD b), .int .i64 0]), []) := by
 rw [ze zw1 (by simp)]; simp -implicitDefEqProofs (disch := omega) only [zu2, zbj, zsv, za, go_sem, *]; (try simp only [pA, pB, pC, pD, pE, pF, pG, pH, pI, pJ, pK, pL, pM, pN, pO, pP, if_true, if_false]); repeat' (first | done | rfl | ((first | refine zK (fun hq => ?_) (fun hq => ?_) | refine zM (fun hq => ?_) (fun hq => ?_)) <;> (try (first | (exfalso; omega) | contradiction)) <;> (try simp -implicitDefEqProofs (disch := omega) only [zbj, zsv, za, go_sem, *]) <;> (try simp only [pA, pB, pC, pD, pE, pF, pG, pH, pI, pJ, pK, pL, pM, pN, pO, pP, if_true, if_false]))); (all_goals try rfl); (all_goals try (repeat' (first | done | rfl | (exfalso; omega) | contradiction | (refine zN (fun hq => ?_) (fun hq => ?_)))))
 obtain ⟨c1, e1⟩ := zoL (n.fdiv (2 ^ (min 24 64 : Nat)));obtain ⟨c2, e2⟩ := zoL (n.fdiv (2 ^ (min 16 64 : Nat)));obtain ⟨c3, e3⟩ := zoL (n.fdiv (2 ^ (min 8 64 : Nat)));obtain ⟨c4, e4⟩ := zoL (n.fdiv (2 ^ (min 0 64 : Nat)));refine ⟨[c1, c2, c3, c4], rfl, ?_⟩;have hw : ¬ IntKind.i64.wrap (1 * 2 ^ (min 32 64 : Nat)) <= n := by
  have : IntKind.i64.wrap (1 * 2 ^ (min 32 64 : Nat)) = 4294967296 := by decide
  omega
 rw [zQN hw, e1, e2, e3, e4];rfl
theorem zNL (id : Int) : ∃ r : Int, 0 <= r /\ r < 65536 /\ zd G zib [.d (.int .i64 id)] [] = some (.d (.int .i64 r), []) := by
 by_cases h0 : id < 0
 · refine ⟨0, by omega, by omega, ?_⟩;rw [ze zrg (by simp)]; simp -implicitDefEqProofs (disch := omega) only [zk5, za, go_sem, *]
 · by_cases h1 : 1073741824 < id
   · refine ⟨0, by omega, by omega, ?_⟩;rw [ze zrg (by simp)]; simp -implicitDefEqProofs (disch := omega) only [zk5, za, go_sem, *]
   · obtain ⟨b, hb, hp⟩ := zMz id (by omega) (by omega);obtain ⟨h, g0, g1, hs⟩ := zO7 b (by omega);have hf : Int.fdiv h (2 ^ (min 16 64 : Nat)) = h / 65536 := by
      show Int.fdiv h 65536 = h / 65536;rw [zTM _ (by omega)]
     have hx := zQi (h / 65536) (zgp .i64 h 65535) (by omega) (by have := zul h 65535 (by omega) (by omega); omega);refine ⟨zkG .i64 (h / 65536) (zgp .i64 h 65535), hx.1, hx.2, ?_⟩;rw [ze zrg (by simp)]; simp -implicitDefEqProofs (disch := omega) only [zk5, za, go_sem, *]
def zg1 (r lo hi : Int) : Int := if lo <= r /\ r <= hi then r else lo + r.tmod (hi - lo + 1)
theorem zHh (r lo hi : Int) (h0 : 0 <= r) (h1 : r < 65536) (h2 : 0 <= lo) (h3 : lo <= hi) (h4 : hi < 65536) : zd G zia [.d (.int .i64 r), .d (.int .i64 lo), .d (.int .i64 hi)] [] = some (.d (.int .i64 (zg1 r lo hi)), []) := by
 unfold zg1;have hm := zTz r (show 0 < hi - lo + 1 by omega);have hm2 := zTy (hi - lo + 1) h0;have hne : ¬ hi - lo + 1 = 0 := by omega
 by_cases c : lo <= r /\ r <= hi
 · rw [zQO c];obtain ⟨c1, c2⟩ := c;rw [ze zrf (by simp)]; simp -implicitDefEqProofs (disch := omega) only [zk4, za, go_sem, *]
 · rw [zQN c]
   by_cases c1 : lo <= r
   · have c2 : ¬ r <= hi := fun h => c ⟨c1, h⟩;clear c;rw [ze zrf (by simp)]; simp -implicitDefEqProofs (disch := omega) only [zk4, za, go_sem, *]
   · clear c;rw [ze zrf (by simp)]; simp -implicitDefEqProofs (disch := omega) only [zk4, za, go_sem, *]
theorem zHg {r lo hi : Int} (h0 : 0 <= r) (h3 : lo <= hi) : lo <= zg1 r lo hi /\ zg1 r lo hi <= hi := by
 unfold zg1;have hm := zTz r (show 0 < hi - lo + 1 by omega);have hm2 := zTy (hi - lo + 1) h0
 split <;> omega
def zn3 (m : Message) (id lo hi : Int) : Prop := m.id = id /\ lo <= m.route /\ m.route <= hi /\ 0 <= m.epoch /\ m.epoch <= 2 /\ 0 <= m.count /\ m.count <= 3 /\ 0 <= m.sent /\ m.sent <= 49 /\ m.body.length <= 3 /\ m.count <= m.gen /\ m.gen <= 65536
theorem zzV (l : List Int) (a : Nat) (id lo hi : Int) (hL : l.length <= 4000) (h2 : 0 <= lo) (h3 : lo <= hi) (h4 : hi < 65536) : ∃ m a', zn3 m id lo hi /\ zd G zhJ [.ref 1000000 0 0, .d (.int .i64 id), .d (.int .i64 lo), .d (.int .i64 hi)] [(1000000, zo l a)] = some (.d (zg m), [(1000000, zo l a')]) := by
 obtain ⟨r, r0, r1, hr⟩ := zNL id;have hi1 := zHh r lo hi r0 r1 h2 h3 h4;have hi2 := zHg (hi := hi) r0 h3;generalize zg1 r lo hi = ro at *;have hn := fun at1 m => zcN l at1 m hL;obtain ⟨a1, q1⟩ : ∃ a1, (zaB l a).2 = a1 := ⟨_, rfl⟩;obtain ⟨a2, q2⟩ : ∃ a2, (zaB l a1).2 = a2 := ⟨_, rfl⟩;obtain ⟨a3, q3⟩ : ∃ a3, (zaB l a2).2 = a3 := ⟨_, rfl⟩;obtain ⟨b1, hb⟩ := zCN l a3 hL;obtain ⟨a4, q4⟩ : ∃ a4, (zi2 l a3).2 = a4 := ⟨_, rfl⟩;generalize (zi2 l a3).1 = bd at *;obtain ⟨a5, q5⟩ : ∃ a5, (zaB l a4).2 = a5 := ⟨_, rfl⟩;obtain ⟨a6, q6⟩ : ∃ a6, (zaB l a5).2 = a6 := ⟨_, rfl⟩;have n1 := zbL l a (n := 3) (by omega);have n2 := zbL l a1 (n := 4) (by omega);have n3 := zbL l a2 (n := 50) (by omega);have n4 := zbL l a4 (n := 3) (by omega)
 by_cases c : nD l a5 20 = 19
 · refine ⟨⟨id, ro, nD l a 3, nD l a1 4, 65536, nD l a2 50, bd⟩, a6, ⟨rfl, by simp only; omega, by simp only; omega, n1.1, by simp only; omega, n2.1, by simp only; omega, n3.1, by simp only; omega, b1, by simp only; omega, by simp⟩, ?_⟩;simp only [zg];rw [ze zwE (by simp)]; simp -implicitDefEqProofs (disch := omega) only [zpv, za, go_sem, *]
 · refine ⟨⟨id, ro, nD l a 3, nD l a1 4, nD l a1 4 + nD l a4 3, nD l a2 50, bd⟩, a6, ⟨rfl, by simp only; omega, by simp only; omega, n1.1, by simp only; omega, n2.1, by simp only; omega, n3.1, by simp only; omega, b1, by simp only; omega, by simp only; omega⟩, ?_⟩;simp only [zg];rw [ze zwE (by simp)]; simp -implicitDefEqProofs (disch := omega) only [zpv, za, go_sem, *]
theorem zID (n k : Int) (x : D) (es : List (Int × D)) : zbr n (zbY k x es) = if k = n then some x else zbr n es := by
 induction es with
 | nil => simp only [zbY, zbr]
 | cons p es ih =>
  obtain ⟨j, y⟩ := p;simp only [zbY]
  by_cases h : j = k
  · subst h;simp only [if_true, zbr]
    by_cases h2 : j = n
    · simp only [h2, if_true]
    · simp only [h2, if_false]
  · simp only [h, if_false, zbr, ih]
    by_cases h2 : j = n
    · subst h2; simp only [if_true, show ¬ k = j from fun e => h e.symm, if_false]
    · simp only [h2, if_false]
def zdj (ids : List Int) : List (Int × D) := ids.foldl (fun es n => zbY n (.bool true) es) []
theorem zBj (ids : List Int) (n : Int) : zdj (ids ++ [n]) = zbY n (.bool true) (zdj ids) := by simp [zdj, List.foldl_append]
theorem zIC (n : Int) (ids : List Int) (es : List (Int × D)) : zbr n (ids.foldl (fun es n => zbY n (.bool true) es) es) = if n ∈ ids then some (.bool true) else zbr n es := by
 induction ids generalizing es with
 | nil => simp
 | cons a ids ih =>
  rw [zTZ, ih, zID]
  by_cases h : n ∈ ids
  · simp [h]
  · by_cases h2 : a = n
    · simp [h2]
    · simp [h, h2, show ¬ n = a from fun e => h2 e.symm]
theorem zzW (n : Int) (ids : List Int) : zbr n (zdj ids) = if n ∈ ids then some (.bool true) else none := by
 unfold zdj; rw [zIC]; rfl
def zaz (ids : List Int) : Bool := decide (¬ ids.Nodup)
theorem zwd (ids : List Int) (n : Int) : zaz (ids ++ [n]) = (zaz ids || decide (n ∈ ids)) := by
 unfold zaz;apply zSc.2;simp only [zRM, decide_eq_true_eq, zRQ, zSj, List.not_mem_nil, zRh, List.nodup_nil, zSd, zS6, zRr, forall_eq];constructor
 · intro h
   by_cases h1 : ids.Nodup
   · right;refine Classical.byContradiction fun h2 => h ⟨h1, fun a ha e => h2 (e ▸ ha)⟩
   · exact .inl h1
 · rintro (h | h) ⟨h1, h2⟩
   · exact h h1
   · exact h2 n h rfl
def za2 (l : List Message) : Int := match l with
 | [] => 0
 | m :: l => if zD m ≠ 0 then zD m else za2 l
def zw (r : z9) : List Message := (List.range r.size.toNat).map fun i => r.cells.getD ((r.head.toNat + i) % r.cells.length) zu
def zdN (r : z9) : Prop := 1 <= r.cells.length /\ r.cells.length <= 12 /\ 0 <= r.head /\ r.head < r.cells.length /\ 0 <= r.size /\ r.size <= r.cells.length
instance (r : z9) : Decidable (zdN r) := by unfold zdN; exact inferInstance
def restF (r : z9) (i n : Nat) : Bool := (List.range' i (n - i)).any fun j => decide (r.cells.getD ((r.head.toNat + j) % r.cells.length) zu ≠ zu)
def zW (r : z9) : Int := if ¬ zdN r then 1 else if restF r r.size.toNat r.cells.length = true then 7 else if za2 (zw r) ≠ 0 then za2 (zw r) else if zaz ((zw r).map (·.id)) = true then 10 else 0
theorem zNC (r : z9) {i n : Nat} (h : i < n) : restF r i n = (decide (r.cells.getD ((r.head.toNat + i) % r.cells.length) zu ≠ zu) || restF r (i + 1) n) := by
 unfold restF;rw [show n - i = (n - (i + 1)) + 1 by omega, zR4, zSl]
theorem zA3 (r : z9) {i n : Nat} (h : ¬ i < n) : restF r i n = false := by
 unfold restF;rw [show n - i = 0 by omega]; rfl
theorem zwp {l : List Message} {k : Nat} (h : k < l.length) : za2 (l.drop k) = if zD l[k] ≠ 0 then zD l[k] else za2 (l.drop (k + 1)) := by
 rw [zRH h]; rfl
def z5 (l : List Message) (id : Int) : Int := zU (fun m : Message => decide (m.id = id)) l
theorem zwz {l : List Message} {k : Nat} (h : k < l.length) : z5 l l[k].id = k ↔ ∀ j (hj : j < k), l[j].id ≠ l[k].id := by
 unfold z5 zU
 cases hf : l.findIdx? (fun m : Message => decide (m.id = l[k].id)) with
 | none =>
  have := zTl.1 hf l[k] (zRe h);simp at this
 | some i =>
  obtain ⟨hi, e, hn⟩ := zRR.1 hf;simp only [decide_eq_true_eq] at e hn;constructor
  · intro e2 j hj;have : i = k := by simp at e2; omega
    subst this;exact hn j hj
  · intro ha
    by_cases h1 : i < k
    · exact absurd e (ha i h1)
    · by_cases h2 : k < i
      · exact absurd rfl (hn k h2)
      · simp; omega
def lateF (l : List Message) (k : Nat) : Bool := (List.range' k (l.length - k)).any fun i => decide (z5 l (l.getD i zu).id ≠ i)
theorem zHI (l : List Message) {k : Nat} (h : k < l.length) : lateF l k = (decide (z5 l l[k].id ≠ k) || lateF l (k + 1)) := by
 unfold lateF;rw [show l.length - k = (l.length - (k + 1)) + 1 by omega, zR4, zSl, za h]
theorem zHH (l : List Message) {k : Nat} (h : ¬ k < l.length) : lateF l k = false := by
 unfold lateF;rw [show l.length - k = 0 by omega]; rfl
theorem zHG (l : List Message) : lateF l 0 = zaz (l.map (·.id)) := by
 apply zSc.2;unfold lateF zaz;simp only [zR5, zR9, zSD, decide_eq_true_eq, List.nodup_iff_pairwise_ne, zRV, zQV, zTO];constructor
 · rintro ⟨i, ⟨_, hi⟩, hne⟩ hall;simp only [zQU] at hi;rw [za hi] at hne;exact hne ((zwz hi).2 fun j hj => hall j i (by omega) hi hj)
 · intro hn;refine Classical.byContradiction fun hc => hn fun i j hi hj hij => ?_;have : z5 l l[j].id = j := Classical.byContradiction fun hc2 => hc ⟨j, ⟨by omega, by omega⟩, by rw [za hj]; exact hc2⟩;exact (zwz hj).1 this i hij
def zG (s : Shard) : List Message := zw s.ready ++ s.leases.l.map (·.msg)
def zzZ (s : Shard) (l : List Message) : Bool := l.any fun m => decide (¬ (s.low <= m.route /\ m.route <= s.high))
def zoC (s : Shard) : Int := s.ready.size + s.leases.l.length
def zaG (s : Shard) : Int :=
 if zW s.ready ≠ 0 then zW s.ready
 else if zF s.leases ≠ 0 then zF s.leases
 else if s.live = false then (if s.low ≠ 0 \/ s.high ≠ 0 \/ 0 < zoC s then 7 else 0)
 else if ¬ (0 <= s.low /\ s.low <= s.high /\ s.high < 65536) then 1
 else if s.ready.cells.length < zoC s then 3
 else if zzZ s (zG s) = true then 12
 else if zaz ((zG s).map (·.id)) = true then 10 else 0
theorem zeQ (r : z9) : (zw r).length = r.size.toNat := by simp [zw]
theorem zba {r : z9} (h : zW r = 0) : zdN r := by
 unfold zW at h
 split at h
 · exact absurd h (by decide)
 · rename_i hc; exact zRm.1 hc
def zS (c : List Message) (h k : Nat) : List Message := (List.range k).map fun i => c.getD ((h + i) % c.length) zu
theorem zAo (c : List Message) (h k : Nat) : zS c h (k + 1) = zS c h k ++ [c.getD ((h + k) % c.length) zu] := by
 simp [zS, List.range_succ]
theorem zdK (c : List Message) (h k : Nat) : (zS c h k).length = k := by simp [zS]
theorem zer (c : List Message) (h z i : Nat) (h0 : 0 < c.length) (h1 : c.length <= 12) (h2 : h <= 12) (h3 : i <= 12) : zd G zf7 [.d (.agg [.sl (c.map zg), .int .i64 h, .int .i64 z]), .d (.int .i64 i)] [] = some (.d (.int .i64 ((h + i) % c.length : Nat)), []) := by
 have e : ((h : Int) + i).tmod c.length = (((h + i) % c.length : Nat) : Int) := by rw [<- zQ2, <- zTg]
 rw [ze zGc (by simp)]; simp -implicitDefEqProofs (disch := omega) only [zvl, za, go_sem, *]
def zg8 (c : List Message) (h z i : Nat) : St := ⟨[(1, .ref 1 0 0), (3, .acc 3 ((zS c h i).map zg)), (6, .d (.int .i64 z)), (7, .d (.int .i64 i))], [(1, .row [.d (.agg [.sl (c.map zg), .int .i64 h, .int .i64 z])]), (3, .acc (zS c h i).length)]⟩
theorem zH2 (c : List Message) (h z : Nat) (h1 : c.length <= 12) (h2 : h < c.length) (h3 : z <= c.length) : ∀ i, i <= z -> zT G [] znS (zg8 c h z i) = some (.exit 0, ⟨[(3, .acc 3 ((zS c h z).map zg))], [(3, .acc (zS c h z).length)]⟩) := by
 refine zap (fun i => z - i) (fun i => i <= z) (zg8 c h z) _ fun i hi L ih => ?_
 by_cases h0 : i < z
 · have i1 := ih (i + 1) (by omega) (by omega);clear ih;have hc := zer c h z i (by omega) h1 (by omega) (by omega);have hj : (h + i) % c.length < c.length := zRK _ (by omega);have hl := zdK c h i;rw [zg8, zAo] at i1;generalize (h + i) % c.length = j at *;rw [za hj] at i1;simp only [zQY, zQS, zQR, zQT, zRI, hl] at i1;simp only [zg8, hl, znS];generalize zS c h i = w at *;simp only [zQ2, zQZ, zQW, zQ5, zQ0, zQT, zQV, zQR, zQ1, zQY, zQS, zQX, zQU, zo, zC] at i1;simp -implicitDefEqProofs (disch := omega) only [za, go_sem, *]
 · clear ih;have : i = z := by omega
   subst this;simp only [zg8, znS];simp -implicitDefEqProofs (disch := omega) only [za, go_sem, *]
theorem zsU (c : List Message) (h z : Nat) (h1 : c.length <= 12) (h2 : h < c.length) (h3 : z <= c.length) : zd G zf9 [.d (.agg [.sl (c.map zg), .int .i64 h, .int .i64 z])] [] = some (.acc 0 ((zS c h z).map zg), [(0, .acc (zS c h z).length)]) := by
 have hl := zH2 c h z h1 h2 h3 0 (by omega);simp only [zg8, zS, zT6, zQR, zQ1] at hl;simp only [zQ2, zQZ, zQW, zQ5, zQ0, zQT, zQV, zQR, zQ1, zQY, zQS, zQX, zQU, zo, zC] at hl;rw [ze zxk (by simp)]; simp -implicitDefEqProofs (disch := omega) only [zvo, zS, za, go_sem, *]
theorem znz (l : List Message) (id : Int) (hL : l.length <= 4294967296) : zd G zci [.d (.sl (l.map zg)), .d (.int .i64 id)] [] = some (.d (.int .i64 (z5 l id)), []) := by
 have := zdJ (G := G) (x := zsx) (ks := []) l.length (atB l fun m : Message => decide (m.id = id)) (fun k => ⟨[(0, .d (.sl (l.map zg))), (1, .d (.int .i64 id)), (5, .d (.int .i64 k))], []⟩) (fun k => (.ret, ⟨[(4, .d (.int .i64 k))], []⟩)) (.exit 0, ⟨[], []⟩) (fun k hk L => by
  simp only [zsx]
  by_cases h0 : k < l.length
  · rw [zQO h0];simp only [zb3 h0]
    by_cases h1 : l[k].id = id
    · simp only [h1, decide_true, if_true];simp -implicitDefEqProofs (disch := omega) only [zg, za, go_sem, *]
    · simp only [h1, decide_false, zRa, if_false];simp -implicitDefEqProofs (disch := omega) only [zg, za, go_sem, *]
  · rw [zQN h0];simp -implicitDefEqProofs (disch := omega) only [za, go_sem, *])
 rw [zeF] at this;simp only [zQ2, zQZ, zQW, zQ5, zQ0, zQT, zQV, zQR, zQ1, zQY, zQS, zQX, zQU, zo, zC] at this;unfold z5 zU
 cases h : l.findIdx? (fun m : Message => decide (m.id = id)) with
 | none => rw [h] at this; rw [ze zw3 (by simp)]; simp -implicitDefEqProofs (disch := omega) only [zpD, za, go_sem, *]
 | some i => rw [h] at this; rw [ze zw3 (by simp)]; simp -implicitDefEqProofs (disch := omega) only [zpD, za, go_sem, *]
def zhn (c : List Message) (h z i : Nat) : St := ⟨[(1, .ref 1 0 0), (3, .acc 3 ((zS c h i).map zg)), (4, .d (.int .i64 i))], [(1, .row [.d (.agg [.sl (c.map zg), .int .i64 h, .int .i64 z])]), (3, .acc (zS c h i).length)]⟩
theorem zMa (c : List Message) (h z : Nat) (h1 : c.length <= 12) (h2 : h < c.length) (h3 : z <= c.length) : ∀ i, i <= z -> zT G [] znM (zhn c h z i) = some (.exit 0, ⟨[(3, .acc 3 ((zS c h z).map zg))], [(3, .acc (zS c h z).length)]⟩) := by
 refine zap (fun i => z - i) (fun i => i <= z) (zhn c h z) _ fun i hi L ih => ?_
 by_cases h0 : i < z
 · have i1 := ih (i + 1) (by omega) (by omega);clear ih;have e : ((h : Int) + i).tmod c.length = (((h + i) % c.length : Nat) : Int) := by rw [<- zQ2, <- zTg]
   have hj : (h + i) % c.length < c.length := zRK _ (by omega);have hl := zdK c h i;rw [zhn, zAo] at i1;generalize (h + i) % c.length = j at *;rw [za hj] at i1;simp only [zQY, zQS, zQR, zQT, zRI, hl] at i1;simp only [zhn, hl, znM];generalize zS c h i = w at *;simp only [zQ2, zQZ, zQW, zQ5, zQ0, zQT, zQV, zQR, zQ1, zQY, zQS, zQX, zQU, zo, zC] at i1;simp -implicitDefEqProofs (disch := omega) only [za, go_sem, *]
 · clear ih;have : i = z := by omega
   subst this;simp only [zhn, znM];simp -implicitDefEqProofs (disch := omega) only [za, go_sem, *]
theorem zkn (c : List Message) (h z : Nat) (h1 : c.length <= 12) (h2 : h < c.length) (h3 : z <= c.length) : zd G zf6 [.d (.agg [.sl (c.map zg), .int .i64 h, .int .i64 z])] [] = some (.acc 0 ((zS c h z).map zg), [(0, .acc (zS c h z).length)]) := by
 have hl := zMa c h z h1 h2 h3 0 (by omega);simp only [zhn, zS, zT6, zQR, zQ1] at hl;simp only [zQ2, zQZ, zQW, zQ5, zQ0, zQT, zQV, zQR, zQ1, zQY, zQS, zQX, zQU, zo, zC] at hl;rw [ze zw6 (by simp)]; simp -implicitDefEqProofs (disch := omega) only [zu7, zS, za, go_sem, *]
theorem zB2 {m : Message} (h : ¬(¬m.id = 0 \/ ¬m.route = 0 \/ ¬m.epoch = 0 \/ ¬m.count = 0 \/ ¬m.gen = 0 \/ ¬m.sent = 0 \/ ¬m.body = [])) : m = zu := by
 simp only [not_or, zRm] at h;obtain ⟨a, b, c, d, e, f, g⟩ := h
 cases m
 simp only at a b c d e f g;subst a b c d e f g;rfl
theorem zA4 (c : List Message) (h : Nat) (z : Int) {i n : Nat} (h0 : i < n) : restF ⟨c, h, z⟩ i n = (decide (c.getD ((h + i) % c.length) zu ≠ zu) || restF ⟨c, h, z⟩ (i + 1) n) := zNC ⟨c, h, z⟩ h0
def rgS (c : List Message) (h z i : Nat) : St := ⟨[(1, .ref 1 0 0), (3, .d (.int .i64 c.length)), (4, .d (.int .i64 i))], [(1, .row [.d (.agg [.sl (c.map zg), .int .i64 h, .int .i64 z])])]⟩
def rgR (c : List Message) (h z i : Nat) : zJ × St := if restF ⟨c, h, z⟩ i c.length = true then (.ret, ⟨[(2, .d (.int .i64 7))], []⟩) else (.exit 0, ⟨[(1, .ref 1 0 0)], [(1, .row [.d (.agg [.sl (c.map zg), .int .i64 h, .int .i64 z])])]⟩)
theorem zND (c : List Message) (h z : Nat) (h1 : c.length <= 12) (h2 : h < c.length) : ∀ i, i <= c.length -> zT G [] znQ (rgS c h z i) = some (rgR c h z i) := by
 refine zap (fun i => c.length - i) (fun i => i <= c.length) (rgS c h z) (fun i => some (rgR c h z i)) fun i hi L ih => ?_
 by_cases h0 : i < c.length
 · have i1 := ih (i + 1) (by omega) (by omega);clear ih;have hc := zer c h z i (by omega) h1 (by omega) (by omega);have hj : (h + i) % c.length < c.length := zRK _ (by omega);unfold rgR at i1 ⊢;rw [zA4 _ _ _ h0];generalize (h + i) % c.length = j at *;rw [za hj];generalize restF ⟨c, h, z⟩ (i + 1) c.length = bb at *;simp only [rgS] at i1;simp only [zQ2, zQZ, zQW, zQ5, zQ0, zQT, zQV, zQR, zQ1, zQY, zQS, zQX, zQU, zo, zC] at i1;simp only [rgS, znQ]
   by_cases hm : c[j] = zu
   · rw [hm];simp only [ne_eq, zRf, decide_false, zR6];simp -implicitDefEqProofs (disch := omega) only [hm, zu, zg, za, go_sem, *]
   · simp only [ne_eq, hm, zRh, decide_true, zSP, if_true]
     (try simp -implicitDefEqProofs (disch := omega) only [zg, za, go_sem, *]); (try simp only [pA, pB, pC, pD, pE, pF, pG, pH, pI, pJ, pK, pL, pM, pN, pO, pP, if_true, if_false]); repeat' (first | done | rfl | ((first | refine zK (fun hq => ?_) (fun hq => ?_) | refine zM (fun hq => ?_) (fun hq => ?_)) <;> (try (first | (exfalso; omega) | contradiction)) <;> (try simp -implicitDefEqProofs (disch := omega) only [zg, za, go_sem, *]) <;> (try simp only [pA, pB, pC, pD, pE, pF, pG, pH, pI, pJ, pK, pL, pM, pN, pO, pP, if_true, if_false]))); (all_goals try rfl); (all_goals try (repeat' (first | done | rfl | (exfalso; omega) | contradiction | (refine zN (fun hq => ?_) (fun hq => ?_)))))
     exact absurd (zB2 (by assumption)) hm
 · clear ih;unfold rgR;rw [zA3 _ h0];simp only [rgS, znQ, zRa, if_false];simp -implicitDefEqProofs (disch := omega) only [za, go_sem, *]
def zaT (l : List Message) (i : Nat) : List Int := (l.take i).map (·.id)
theorem zzm {l : List Message} {i : Nat} (h : i < l.length) : zaT l (i + 1) = zaT l i ++ [l[i].id] := by
 unfold zaT; rw [zSb, zQ4 h, zQY]; rfl
def rvS (l : List Message) (i : Nat) : St := ⟨[(5, .mpr 57), (6, .d (.bool (zaz (zaT l i)))), (59, .acc 59 (l.map zg)), (60, .d (.int .i64 l.length)), (61, .d (.int .i64 i))], [(57, .mp (zdj (zaT l i))), (59, .acc l.length)]⟩
def rvR (l : List Message) (i : Nat) : zJ × St := if za2 (l.drop i) ≠ 0 then (.ret, ⟨[(2, .d (.int .i64 (za2 (l.drop i))))], []⟩) else (.exit 2, ⟨[(6, .d (.bool (zaz (l.map (·.id)))))], []⟩)
theorem zNW (l : List Message) (h1 : l.length <= 12) : ∀ i, i <= l.length -> zT G [] znR (rvS l i) = some (rvR l i) := by
 refine zap (fun i => l.length - i) (fun i => i <= l.length) (rvS l) (fun i => some (rvR l i)) fun i hi L ih => ?_
 by_cases h0 : i < l.length
 · have i1 := ih (i + 1) (by omega) (by omega);clear ih;have hm := zhd l[i];unfold rvR at i1 ⊢;rw [zwp h0];unfold rvS at i1;rw [zzm h0, zBj, zwd] at i1;have hg := zzW l[i].id (zaT l i);generalize za2 (l.drop (i + 1)) = fe at *;generalize zaz (l.map (·.id)) = dd at *;simp only [rvS, znR];generalize zdj (zaT l i) = sm at *;simp only [zg] at hm
   by_cases hv : zD l[i] = 0
   · rw [hv] at hm;simp only [hv, ne_eq, zRf, if_false]
     by_cases hmem : l[i].id ∈ zaT l i
     · simp only [hmem, if_true, decide_true, zTp] at hg i1;generalize zaz (zaT l i) = d0 at *;generalize zaT l i = w at *;simp only [zQ2, zQZ, zQW, zQ5, zQ0, zQT, zQV, zQR, zQ1, zQY, zQS, zQX, zQU, zo, zC] at i1
       cases d0
       · simp -implicitDefEqProofs (disch := omega) only [zg, za, go_sem, *]
       · simp -implicitDefEqProofs (disch := omega) only [zg, za, go_sem, *]
     · simp only [hmem, if_false, decide_false, zTq] at hg i1;generalize zaz (zaT l i) = d0 at *;generalize zaT l i = w at *;simp only [zQ2, zQZ, zQW, zQ5, zQ0, zQT, zQV, zQR, zQ1, zQY, zQS, zQX, zQU, zo, zC] at i1
       cases d0
       · simp -implicitDefEqProofs (disch := omega) only [zg, za, go_sem, *]
       · simp -implicitDefEqProofs (disch := omega) only [zg, za, go_sem, *]
   · simp only [ne_eq, hv, zRh, if_true];clear i1 hg;simp -implicitDefEqProofs (disch := omega) only [zg, za, go_sem, *]
 · clear ih;have : i = l.length := by omega
   subst this;unfold rvR;rw [zRZ];simp only [rvS, zaT, zSy, za2, ne_eq, zRf, if_false, znR];simp -implicitDefEqProofs (disch := omega) only [zg, za, go_sem, *]
theorem zea (c : List Message) (h z : Nat) : zw ⟨c, h, z⟩ = zS c h z := rfl
theorem zfT {r : z9} (hr : zdN r) : ∃ (c : List Message) (h z : Nat), r = ⟨c, h, z⟩ /\ 1 <= c.length /\ c.length <= 12 /\ h < c.length /\ z <= c.length := by
 obtain ⟨c, h, z⟩ := r;obtain ⟨h1, h2, h3, h4, h5, h6⟩ := hr;simp only at h1 h2 h3 h4 h5 h6;exact ⟨c, h.toNat, z.toNat, by rw [zTe h3, zTe h5], h1, h2, by omega, by omega⟩
theorem ztx {c : List Message} {h z : Nat} (hok : zdN ⟨c, h, z⟩) : zW ⟨c, h, z⟩ = if restF ⟨c, h, z⟩ z c.length = true then 7 else if za2 (zS c h z) ≠ 0 then za2 (zS c h z) else if zaz ((zS c h z).map (·.id)) = true then 10 else 0 := by
 unfold zW; rw [zQN (fun hc => hc hok)]; rfl
theorem zot (r : z9) (hL : r.cells.length <= 4294967296) : zd G ziy [.d (zA r)] [] = some (.d (.int .i64 (zW r)), []) := by
 by_cases hok : zdN r
 · obtain ⟨c, h, z, rfl, h1, h2, h3, h4⟩ := zfT hok;have hr := zND c h z h2 h3 z h4;have hl := zsU c h z h2 h3 h4;have hv := zNW (zS c h z) (by rw [zdK]; omega) 0 (by omega);have hn := zdK c h z;rw [ztx hok];unfold rgR at hr;unfold rvR at hv;simp only [zRB] at hv;simp only [rgS] at hr;simp only [rvS, zaT, zRW, zQR, zdj, zT7, show zaz [] = false by decide, hn] at hv;rw [hn] at hl;simp only [zA];generalize restF ⟨c, h, z⟩ z c.length = b1 at *;generalize za2 (zS c h z) = fe at *;generalize zaz ((zS c h z).map (·.id)) = dd at *;generalize zS c h z = w at *;clear hok;simp only [zQ2, zQZ, zQW, zQ5, zQ0, zQT, zQV, zQR, zQ1, zQY, zQS, zQX, zQU, zo, zC] at hv
   cases b1 with
   | true =>
    simp only [if_true] at hr ⊢;rw [ze zjJ (by simp)]; simp -implicitDefEqProofs (disch := omega) only [zfn, za, go_sem, *]
   | false =>
    simp only [zRa, if_false] at hr ⊢
    by_cases e : fe = 0
    · subst e;simp only [ne_eq, zRf, if_false] at hv ⊢
      cases dd
      · rw [ze zjJ (by simp)]; simp -implicitDefEqProofs (disch := omega) only [zfn, za, go_sem, *]
      · rw [ze zjJ (by simp)]; simp -implicitDefEqProofs (disch := omega) only [zfn, za, go_sem, *]
    · simp only [ne_eq, e, zRh, if_true] at hv ⊢;rw [ze zjJ (by simp)]; simp -implicitDefEqProofs (disch := omega) only [zfn, za, go_sem, *]
 · unfold zW;rw [zQO hok];obtain ⟨c, h, z⟩ := r;simp only [zdN] at hok hL;simp only [zA];rw [ze zjJ (by simp)]; simp -implicitDefEqProofs (disch := omega) only [zfn, za, go_sem, *]; (try simp only [pA, pB, pC, pD, pE, pF, pG, pH, pI, pJ, pK, pL, pM, pN, pO, pP, if_true, if_false]); repeat' (first | done | rfl | ((first | refine zK (fun hq => ?_) (fun hq => ?_) | refine zM (fun hq => ?_) (fun hq => ?_)) <;> (try (first | (exfalso; omega) | contradiction)) <;> (try simp -implicitDefEqProofs (disch := omega) only [za, go_sem, *]) <;> (try simp only [pA, pB, pC, pD, pE, pF, pG, pH, pI, pJ, pK, pL, pM, pN, pO, pP, if_true, if_false]))); (all_goals try rfl); (all_goals try (repeat' (first | done | rfl | (exfalso; omega) | contradiction | (refine zN (fun hq => ?_) (fun hq => ?_)))))
def r4S (c : List Message) (h z i : Nat) : St := ⟨[(1, .ref 1 0 0), (3, .d (.int .i64 c.length)), (4, .d (.int .i64 i))], [(1, .row [.d (.agg [.sl (c.map zg), .int .i64 h, .int .i64 z])])]⟩
theorem zNB (c : List Message) (h z : Nat) (h1 : c.length <= 12) (h2 : h < c.length) : ∀ i, i <= c.length -> zT G [] znJ (r4S c h z i) = some (rgR c h z i) := by
 refine zap (fun i => c.length - i) (fun i => i <= c.length) (r4S c h z) (fun i => some (rgR c h z i)) fun i hi L ih => ?_
 by_cases h0 : i < c.length
 · have i1 := ih (i + 1) (by omega) (by omega);clear ih;have e : ((h : Int) + i).tmod c.length = (((h + i) % c.length : Nat) : Int) := by rw [<- zQ2, <- zTg]
   have hj : (h + i) % c.length < c.length := zRK _ (by omega);unfold rgR at i1 ⊢;rw [zA4 _ _ _ h0];generalize (h + i) % c.length = j at *;rw [za hj];generalize restF ⟨c, h, z⟩ (i + 1) c.length = bb at *;simp only [r4S] at i1;simp only [zQ2, zQZ, zQW, zQ5, zQ0, zQT, zQV, zQR, zQ1, zQY, zQS, zQX, zQU, zo, zC] at i1;simp only [r4S, znJ]
   by_cases hm : c[j] = zu
   · rw [hm];simp only [ne_eq, zRf, decide_false, zR6];simp -implicitDefEqProofs (disch := omega) only [hm, zu, zg, za, go_sem, *]
   · simp only [ne_eq, hm, zRh, decide_true, zSP, if_true]
     (try simp -implicitDefEqProofs (disch := omega) only [zg, za, go_sem, *]); (try simp only [pA, pB, pC, pD, pE, pF, pG, pH, pI, pJ, pK, pL, pM, pN, pO, pP, if_true, if_false]); repeat' (first | done | rfl | ((first | refine zK (fun hq => ?_) (fun hq => ?_) | refine zM (fun hq => ?_) (fun hq => ?_)) <;> (try (first | (exfalso; omega) | contradiction)) <;> (try simp -implicitDefEqProofs (disch := omega) only [zg, za, go_sem, *]) <;> (try simp only [pA, pB, pC, pD, pE, pF, pG, pH, pI, pJ, pK, pL, pM, pN, pO, pP, if_true, if_false]))); (all_goals try rfl); (all_goals try (repeat' (first | done | rfl | (exfalso; omega) | contradiction | (refine zN (fun hq => ?_) (fun hq => ?_)))))
     exact absurd (zB2 (by assumption)) hm
 · clear ih;unfold rgR;rw [zA3 _ h0];simp only [r4S, znJ, zRa, if_false];simp -implicitDefEqProofs (disch := omega) only [za, go_sem, *]
def f4S (l : List Message) (i : Nat) : St := ⟨[(5, .acc 60 (l.map zg)), (6, .d (.int .i64 i))], [(60, .acc l.length)]⟩
def f4R (l : List Message) (i : Nat) : zJ × St := if za2 (l.drop i) ≠ 0 then (.ret, ⟨[(2, .d (.int .i64 (za2 (l.drop i))))], []⟩) else (.exit 2, ⟨[(5, .acc 60 (l.map zg))], [(60, .acc l.length)]⟩)
theorem zFy (l : List Message) (h1 : l.length <= 12) : ∀ i, i <= l.length -> zT G [] znK (f4S l i) = some (f4R l i) := by
 refine zap (fun i => l.length - i) (fun i => i <= l.length) (f4S l) (fun i => some (f4R l i)) fun i hi L ih => ?_
 by_cases h0 : i < l.length
 · have i1 := ih (i + 1) (by omega) (by omega);clear ih;have hm := zoh l[i];unfold f4R at i1 ⊢;rw [zwp h0];unfold f4S at i1;generalize za2 (l.drop (i + 1)) = fe at *;simp only [f4S, znK];simp only [zg] at hm;simp only [zQ2, zQZ, zQW, zQ5, zQ0, zQT, zQV, zQR, zQ1, zQY, zQS, zQX, zQU, zo, zC] at i1
   by_cases hv : zD l[i] = 0
   · rw [hv] at hm;simp only [hv, ne_eq, zRf, if_false];simp -implicitDefEqProofs (disch := omega) only [zg, za, go_sem, *]
   · simp only [ne_eq, hv, zRh, if_true];clear i1;simp -implicitDefEqProofs (disch := omega) only [zg, za, go_sem, *]
 · clear ih;have : i = l.length := by omega
   subst this;unfold f4R;rw [zRZ];simp only [f4S, za2, ne_eq, zRf, if_false, znK];simp -implicitDefEqProofs (disch := omega) only [za, go_sem, *]
def d4S (l : List Message) (i : Nat) : St := ⟨[(5, .acc 60 (l.map zg)), (8, .d (.int .i64 i))], [(60, .acc l.length)]⟩
def d4R (l : List Message) (i : Nat) : zJ × St := if lateF l i = true then (.ret, ⟨[(2, .d (.int .i64 10))], []⟩) else (.exit 4, ⟨[], []⟩)
theorem zEi (l : List Message) (h1 : l.length <= 12) : ∀ i, i <= l.length -> zT G [] znL (d4S l i) = some (d4R l i) := by
 refine zap (fun i => l.length - i) (fun i => i <= l.length) (d4S l) (fun i => some (d4R l i)) fun i hi L ih => ?_
 by_cases h0 : i < l.length
 · have i1 := ih (i + 1) (by omega) (by omega);clear ih;have hx := znz l l[i].id (by omega);unfold d4R at i1 ⊢;rw [zHI _ h0];unfold d4S at i1;generalize lateF l (i + 1) = fe at *;simp only [d4S, znL];simp only [zQ2, zQZ, zQW, zQ5, zQ0, zQT, zQV, zQR, zQ1, zQY, zQS, zQX, zQU, zo, zC] at i1;generalize z5 l l[i].id = q at *
   by_cases hv : q = i
   · subst hv;simp only [ne_eq, zRf, decide_false, zR6];simp -implicitDefEqProofs (disch := omega) only [zg, za, go_sem, *]
   · simp only [ne_eq, hv, zRh, decide_true, zSP, if_true];clear i1;simp -implicitDefEqProofs (disch := omega) only [zg, za, go_sem, *]
 · clear ih;unfold d4R;rw [zHH _ h0];simp only [d4S, znL, zRa, if_false];simp -implicitDefEqProofs (disch := omega) only [za, go_sem, *]
theorem zAO (r : z9) (hL : r.cells.length <= 4294967296) : zd G zig [.d (zA r)] [] = some (.d (.int .i64 (zW r)), []) := by
 by_cases hok : zdN r
 · obtain ⟨c, h, z, rfl, h1, h2, h3, h4⟩ := zfT hok;have hr := zNB c h z h2 h3 z h4;have hl := zkn c h z h2 h3 h4;have hn := zdK c h z;have hv := zFy (zS c h z) (by omega) 0 (by omega);have hd := zEi (zS c h z) (by omega) 0 (by omega);rw [ztx hok];unfold rgR at hr;unfold f4R at hv;unfold d4R at hd;rw [zHG] at hd;simp only [zRB] at hv;simp only [r4S] at hr;simp only [f4S, zQW, hn] at hv;simp only [d4S, zQW, hn] at hd;rw [hn] at hl;simp only [zA];generalize restF ⟨c, h, z⟩ z c.length = b1 at *;generalize za2 (zS c h z) = fe at *;generalize zaz ((zS c h z).map (·.id)) = dd at *;generalize zS c h z = w at *;clear hok
   cases b1 with
   | true =>
    simp only [if_true] at hr ⊢;rw [ze zgQ (by simp)]; simp -implicitDefEqProofs (disch := omega) only [zfl, za, go_sem, *]
   | false =>
    simp only [zRa, if_false] at hr ⊢
    by_cases e : fe = 0
    · subst e;simp only [ne_eq, zRf, if_false] at hv ⊢
      cases dd
      · simp only [zRa, if_false] at hd ⊢;rw [ze zgQ (by simp)]; simp -implicitDefEqProofs (disch := omega) only [zfl, za, go_sem, *]
      · simp only [if_true] at hd ⊢;rw [ze zgQ (by simp)]; simp -implicitDefEqProofs (disch := omega) only [zfl, za, go_sem, *]
    · simp only [ne_eq, e, zRh, if_true] at hv ⊢;rw [ze zgQ (by simp)]; simp -implicitDefEqProofs (disch := omega) only [zfl, za, go_sem, *]
 · unfold zW;rw [zQO hok];obtain ⟨c, h, z⟩ := r;simp only [zdN] at hok hL;simp only [zA];rw [ze zgQ (by simp)]; simp -implicitDefEqProofs (disch := omega) only [zfl, za, go_sem, *]; (try simp only [pA, pB, pC, pD, pE, pF, pG, pH, pI, pJ, pK, pL, pM, pN, pO, pP, if_true, if_false]); repeat' (first | done | rfl | ((first | refine zK (fun hq => ?_) (fun hq => ?_) | refine zM (fun hq => ?_) (fun hq => ?_)) <;> (try (first | (exfalso; omega) | contradiction)) <;> (try simp -implicitDefEqProofs (disch := omega) only [za, go_sem, *]) <;> (try simp only [pA, pB, pC, pD, pE, pF, pG, pH, pI, pJ, pK, pL, pM, pN, pO, pP, if_true, if_false]))); (all_goals try rfl); (all_goals try (repeat' (first | done | rfl | (exfalso; omega) | contradiction | (refine zN (fun hq => ?_) (fun hq => ?_)))))
def zbl (r : z9) (m : Message) : Int := if zW r ≠ 0 then zW r else if zD m ≠ 0 then zD m else if r.size = r.cells.length then 3 else if 0 <= z5 (zw r) m.id then 10 else 0
theorem zAx (r : z9) (m : Message) (hL : r.cells.length <= 4294967296) : zd G zih [.d (zA r), .d (zg m)] [] = some (.d (.int .i64 (zbl r m)), []) := by
 have hv := zAO r hL;have hm := zoh m;unfold zbl
 by_cases e1 : zW r = 0
 · rw [e1] at hv;obtain ⟨c, h, z, rfl, h1, h2, h3, h4⟩ := zfT (zba e1);have hl := zkn c h z h2 h3 h4;have hi := znz (zS c h z) m.id (by rw [zdK]; omega);simp only [e1, ne_eq, zRf, if_false];rw [zea];clear e1;generalize z5 (zS c h z) m.id = q at *;generalize zS c h z = w at *
   by_cases e2 : zD m = 0
   · rw [e2] at hm;simp only [e2, ne_eq, zRf, if_false];simp only [zA, zg] at hv hm hl hi ⊢
     by_cases e3 : (z : Int) = c.length
     · rw [zQO e3];obtain rfl : z = c.length := by omega
       clear e3;rw [ze zgR (by simp)]; simp -implicitDefEqProofs (disch := omega) only [zgv, za, go_sem, *]
     · simp only [e3, if_false]
       by_cases e4 : 0 <= q
       · simp only [e4, if_true];rw [ze zgR (by simp)]; simp -implicitDefEqProofs (disch := omega) only [zgv, zg, za, go_sem, *]
       · simp only [e4, if_false];rw [ze zgR (by simp)]; simp -implicitDefEqProofs (disch := omega) only [zgv, zg, za, go_sem, *]
   · simp only [e2, ne_eq, zRh, if_true];generalize zD m = v at *;simp only [zA, zg] at hv hm ⊢;rw [ze zgR (by simp)]; simp -implicitDefEqProofs (disch := omega) only [zgv, za, go_sem, *]
 · simp only [e1, ne_eq, zRh, if_true];generalize zW r = v at *;simp only [zA, zg] at hv ⊢;rw [ze zgR (by simp)]; simp -implicitDefEqProofs (disch := omega) only [zgv, za, go_sem, *]
theorem zz7 (k : Nat) (h1 : 1 <= k) (h2 : k <= 12) : zd G zif [.d (.int .i64 k)] [] = some (.d (.tup [zA ⟨List.replicate k zu, 0, 0⟩, .int .i64 0]), []) := by
 have e : List.replicate k (Go.Sim.AV.d (zg zu)) = (List.replicate k (zg zu)).map Go.Sim.AV.d := by rw [zSW]
 simp only [zA, zSW];simp only [zg, zu] at e ⊢;rw [ze zw4 (by simp)]; simp -implicitDefEqProofs (disch := omega) only [zu5, zTc, zS1, List.take_replicate, za, go_sem, *]
def wN (n h : Nat) (l : List Message) (i : Nat) : List Message := (List.range i).foldl (fun cs j => cs.set ((h + j) % n) (l.getD j zu)) (List.replicate n zu)
theorem zt4 (n h : Nat) (l : List Message) (i : Nat) : wN n h l (i + 1) = (wN n h l i).set ((h + i) % n) (l.getD i zu) := by
 unfold wN; rw [List.range_succ, List.foldl_append]; rfl
theorem z8 (n h : Nat) (l : List Message) (i : Nat) : (wN n h l i).length = n := by
 induction i with
 | zero => simp [wN]
 | succ i ih => rw [zt4, zRS, ih]
def wiS (n h : Nat) (l : List Message) (i : Nat) : St := ⟨[(1, .d (.int .i64 h)), (2, .d (.sl (l.map zg))), (6, .ref 6 0 0), (7, .ref 7 0 0), (8, .d (.int .i64 i))], [(6, .row [.agg [.xsl [], .d (.int .i64 0), .d (.int .i64 0)]]), (7, .row [.agg [.osl 12 0 n, .d (.int .i64 h), .d (.int .i64 l.length)]]), (12, .row (((wN n h l i).map zg).map .d))]⟩
theorem zP4 (n h : Nat) (l : List Message) (h1 : 1 <= n) (h2 : n <= 12) (h3 : h <= 12) (h4 : l.length <= n) : ∀ i, i <= l.length -> zT G [] znN (wiS n h l i) = some (.exit 0, ⟨[(6, .ref 6 0 0), (7, .ref 7 0 0)], [(6, .row [.agg [.xsl [], .d (.int .i64 0), .d (.int .i64 0)]]), (7, .row [.agg [.osl 12 0 n, .d (.int .i64 h), .d (.int .i64 l.length)]]), (12, .row (((wN n h l l.length).map zg).map .d))]⟩) := by
 refine zap (fun i => l.length - i) (fun i => i <= l.length) (wiS n h l) _ fun i hi L ih => ?_
 by_cases h0 : i < l.length
 · have i1 := ih (i + 1) (by omega) (by omega);clear ih;have e : ((h : Int) + i).tmod n = (((h + i) % n : Nat) : Int) := by rw [<- zQ2, <- zTg]
   have hj : (h + i) % n < n := zRK _ (by omega);have hl := z8 n h l i;generalize wN n h l l.length = z at *;rw [wiS, zt4, za h0] at i1;generalize (h + i) % n = j at *;rw [zRN] at i1;simp only [wiS, znN];generalize wN n h l i = w at *;simp only [zQ2, zQZ, zQW, zQ5, zQ0, zQT, zQV, zQR, zQ1, zQY, zQS, zQX, zQU, zo, zC] at i1;simp -implicitDefEqProofs (disch := omega) only [za, go_sem, *]
 · clear ih;have : i = l.length := by omega
   subst this;simp only [wiS, znN];simp -implicitDefEqProofs (disch := omega) only [za, go_sem, *]
theorem zBX (c : List Message) (h0 z h : Nat) (l : List Message) (h1 : 1 <= c.length) (h2 : c.length <= 12) (h3 : h <= 12) (h4 : l.length <= c.length) : zd G zii [.d (.agg [.sl (c.map zg), .int .i64 h0, .int .i64 z]), .d (.int .i64 h), .d (.sl (l.map zg))] [] = some (.d (zA ⟨wN c.length h l l.length, h, l.length⟩), []) := by
 have hl := zP4 c.length h l h1 h2 h3 h4 0 (by omega);have hn := z8 c.length h l l.length;simp only [zA];generalize wN c.length h l l.length = w at *;have ez : (List.replicate c.length zu).map zg = List.replicate c.length (zg zu) := zSW;have e : List.replicate c.length (Go.Sim.AV.d (zg zu)) = (List.replicate c.length (zg zu)).map Go.Sim.AV.d := by rw [zSW]
 simp only [wiS, wN, zT6, zT7, ez, zQW] at hl;clear ez;simp only [show zg zu = .agg [.int .i64 0, .int .i64 0, .int .i64 0, .int .i64 0, .int .i64 0, .int .i64 0, .str []] from rfl] at hl e;rw [ze zw7 (by simp)]; simp -implicitDefEqProofs (disch := omega) only [zu8, zg, za, go_sem, *]
theorem ztk {r : z9} {m : Message} (h : zbl r m = 0) : zW r = 0 /\ zD m = 0 /\ r.size ≠ r.cells.length /\ z5 (zw r) m.id < 0 := by
 unfold zbl at h
 by_cases e1 : zW r = 0
 · rw [zQN (fun hc => hc e1)] at h
   by_cases e2 : zD m = 0
   · rw [zQN (fun hc => hc e2)] at h
     by_cases e3 : r.size = r.cells.length
     · rw [zQO e3] at h; exact absurd h (by decide)
     · rw [zQN e3] at h
       by_cases e4 : 0 <= z5 (zw r) m.id
       · rw [zQO e4] at h; exact absurd h (by decide)
       · exact ⟨e1, e2, e3, by omega⟩
   · rw [zQO e2] at h; exact absurd h e2
 · rw [zQO e1] at h; exact absurd h e1
theorem zMv (c : List Message) (h z : Nat) (m : Message) (hp : zbl ⟨c, h, z⟩ m = 0) : zd G zf4 [.d (zA ⟨c, h, z⟩), .d (zg m)] [] = some (.d (.tup [zA ⟨wN c.length h (zS c h z ++ [m]) (z + 1), h, (z + 1 : Nat)⟩, .int .i64 0]), []) := by
 obtain ⟨p1, p2, p3, p4⟩ := ztk hp;obtain ⟨a1, a2, a3, a4, a5, a6⟩ := zba p1;simp only at a1 a2 a3 a4 a5 a6 p3;have hpu := zAx ⟨c, h, z⟩ m (by simp only; omega);have hl := zkn c h z a2 (by omega) (by omega);have hn := zdK c h z;have hw := zBX c h z h (zS c h z ++ [m]) a1 a2 (by omega) (by rw [zQT, hn]; simp; omega);rw [hp] at hpu;rw [zQT, hn, zRI, zQY] at hw;rw [hn] at hl;clear p1 p2 p4 hp;generalize wN c.length h (zS c h z ++ [m]) (z + 1) = q at *;generalize zS c h z = w at *;simp only [zA, zg, zQS, zQR] at hpu hw hl ⊢;rw [ze zF7 (by simp)]; simp -implicitDefEqProofs (disch := omega) only [zu6, za, go_sem, *]
theorem zMw (c : List Message) (h z : Nat) (m : Message) (hp : zbl ⟨c, h, z⟩ m = 0) : zd G zf5 [.d (zA ⟨c, h, z⟩), .d (zg m)] [] = some (.d (.tup [zA ⟨wN c.length ((h + c.length - 1) % c.length) (m :: zS c h z) (z + 1), ((h + c.length - 1) % c.length : Nat), (z + 1 : Nat)⟩, .int .i64 0]), []) := by
 obtain ⟨p1, p2, p3, p4⟩ := ztk hp;obtain ⟨a1, a2, a3, a4, a5, a6⟩ := zba p1;simp only at a1 a2 a3 a4 a5 a6 p3;have hpu := zAx ⟨c, h, z⟩ m (by simp only; omega);have hl := zkn c h z a2 (by omega) (by omega);have hn := zdK c h z;have hj : (h + c.length - 1) % c.length < c.length := zRK _ (by omega);have e : ((h : Int) + c.length - 1).tmod c.length = (((h + c.length - 1) % c.length : Nat) : Int) := by
  rw [show (h : Int) + c.length - 1 = ((h + c.length - 1 : Nat) : Int) by omega, <- zTg]
 have hw := zBX c h z ((h + c.length - 1) % c.length) (m :: zS c h z) a1 a2 (by omega) (by rw [zQX, hn]; omega);rw [hp] at hpu;rw [zQX, hn, zQS] at hw;rw [hn] at hl;clear p1 p2 p4 hp;generalize (h + c.length - 1) % c.length = j at *;generalize wN c.length j (m :: zS c h z) (z + 1) = q at *;generalize zS c h z = w at *
 by_cases h0 : w = []
 · subst h0;simp only [zA, zg, zQR] at hpu hw hl ⊢;rw [ze zw5 (by simp)]; simp -implicitDefEqProofs (disch := omega) only [zpE, za, go_sem, *]
 · have he : (w.map zg).isEmpty = false := by cases w with | nil => exact absurd rfl h0 | cons x w => rfl
   simp only [zA, zg] at hpu hw hl he ⊢;rw [ze zw5 (by simp)]; simp -implicitDefEqProofs (disch := omega) only [zpE, za, go_sem, *]
theorem zgX {α : Type} (l : List α) (i j : Nat) (x d : α) (hi : i < l.length) : (l.set i x).getD j d = if i = j then x else l.getD j d := by
 rw [zRl, zRl, zSC]
 split
 · rename_i e; subst e; simp
 · rfl
theorem zn2 {n h i j : Nat} (hi : i < n) (hj : j < n) (e : (h + i) % n = (h + j) % n) : i = j := by
 have h1 := zRK h (show 0 < n by omega);rw [Nat.add_mod h i, Nat.add_mod h j, zRX hi, zRX hj] at e;generalize h % n = a at *
 by_cases c1 : a + i < n
 · rw [zRX c1] at e
   by_cases c2 : a + j < n
   · rw [zRX c2] at e; omega
   · rw [show a + j = (a + j - n) + n by omega, zTA, zRX (by omega)] at e; omega
 · rw [show a + i = (a + i - n) + n by omega, zTA, zRX (by omega)] at e
   by_cases c2 : a + j < n
   · rw [zRX c2] at e; omega
   · rw [show a + j = (a + j - n) + n by omega, zTA, zRX (by omega)] at e; omega
theorem zdk {n h : Nat} {l : List Message} (hn : 1 <= n) : ∀ {i : Nat}, i <= n -> ∀ {j : Nat}, j < n -> (wN n h l i).getD ((h + j) % n) zu = if j < i then l.getD j zu else zu := by
 intro i
 induction i with
 | zero =>
  intro _ j hj;rw [zQN (by omega)];have : (h + j) % n < n := zRK _ (by omega);simp [wN, zRl, zUe, this]
 | succ i ih =>
  intro hi j hj;have hm : (h + i) % n < n := zRK _ (by omega);rw [zt4, zgX _ _ _ _ _ (by rw [z8]; exact hm), ih (by omega) hj]
  by_cases e : (h + i) % n = (h + j) % n
  · obtain rfl := zn2 (by omega) hj e;rw [zQO rfl, zQO (by omega)]
  · rw [zQN e]
    by_cases c : j < i
    · rw [zQO c, zQO (by omega)]
    · rw [zQN c, zQN];intro h2;obtain rfl : j = i := by omega
      exact e rfl
def rg (n h : Nat) (l : List Message) : z9 := ⟨wN n h l l.length, h, l.length⟩
theorem zfP {n h : Nat} {l : List Message} (hn : 1 <= n) (hl : l.length <= n) : zS (wN n h l l.length) h l.length = l := by
 unfold zS;rw [z8];refine zTf (by simp) fun j h1 h2 => ?_;simp only [zTO, List.getElem_range];rw [zdk hn hl (by omega), zQO h2, za h2]
theorem zFA {l : List Message} (h : ∀ m ∈ l, zD m = 0) : za2 l = 0 := by
 induction l with
 | nil => rfl
 | cons m l ih =>
  unfold za2;rw [zQN (by simpa using h m (by simp))];exact ih fun x hx => h x (by simp [hx])
theorem zor {n h : Nat} {l : List Message} (hn : 1 <= n) (hn2 : n <= 12) (hh : h < n) (hl : l.length <= n) (hm : ∀ m ∈ l, zD m = 0) (hd : (l.map (·.id)).Nodup) : zW (rg n h l) = 0 := by
 have ho : zw (rg n h l) = l := by rw [rg, zea, zfP hn hl]
 unfold zW;rw [ho];have hlen : (rg n h l).cells.length = n := z8 _ _ _ _;rw [zQN (by rw [zRm]; exact ⟨by rw [hlen]; omega, by rw [hlen]; omega, by simp [rg], by rw [hlen]; simp [rg]; omega, by simp [rg], by rw [hlen]; simp [rg]; omega⟩)];rw [zQN, zQN (by rw [zFA hm]; simp), zQN (by unfold zaz; simpa using hd)];unfold restF;rw [hlen];rw [zR9];rintro ⟨j, h1, h2⟩;rw [zSD] at h1;have hz : (rg n h l).size.toNat = l.length := by simp [rg]
 have e := zdk (h := h) (l := l) hn hl (show j < n by omega);rw [zQN (by omega)] at e;exact of_decide_eq_true h2 e
theorem zof {n h : Nat} {l : List Message} {m : Message} (hn : 1 <= n) (hn2 : n <= 12) (hh : h < n) (hl : l.length < n) (hm : ∀ m ∈ l, zD m = 0) (hd : (l.map (·.id)).Nodup) (hv : zD m = 0) (hi : ∀ x ∈ l, x.id ≠ m.id) : zbl (rg n h l) m = 0 := by
 unfold zbl;rw [zQN (by rw [zor hn hn2 hh (by omega) hm hd]; simp), zQN (by rw [hv]; simp), zQN (by simp [rg, z8]; omega), zQN];rw [rg, zea, zfP hn (by omega)];have : z5 l m.id < 0 := by
  unfold z5;rw [zjU];intro x hx;simpa using hi x hx
 omega
theorem zxE {m : Message} {id lo hi : Int} (h : zn3 m id lo hi) (h1 : 1 <= id) (h2 : id <= 1000) (h3 : 0 <= lo) (h4 : hi < 65536) : zD m = 0 := by
 obtain ⟨g1, g2, g3, g4, g5, g6, g7, g8, g9, g10, g11, g12⟩ := h;unfold zD;rw [zQO ⟨by omega, by omega, by omega, by omega, by omega, by omega, by omega, by omega, by omega, by omega, by omega, by omega⟩, zQN (by omega)]
theorem zMj {n h : Nat} {l : List Message} {m : Message} (hn : 1 <= n) (hn2 : n <= 12) (hh : h < n) (hl : l.length < n) (hm : ∀ m ∈ l, zD m = 0) (hd : (l.map (·.id)).Nodup) (hv : zD m = 0) (hi : ∀ x ∈ l, x.id ≠ m.id) : zd G zf4 [.d (zA (rg n h l)), .d (zg m)] [] = some (.d (.tup [zA (rg n h (l ++ [m])), .int .i64 0]), []) := by
 have hp := zof hn hn2 hh hl hm hd hv hi;have := zMv (wN n h l l.length) h l.length m hp;rw [zfP hn (by omega), z8] at this;rw [show rg n h l = ⟨wN n h l l.length, h, l.length⟩ from rfl, this];unfold rg;rw [zQT, zRI]
theorem zMm {n h : Nat} {l : List Message} {m : Message} (hn : 1 <= n) (hn2 : n <= 12) (hh : h < n) (hl : l.length < n) (hm : ∀ m ∈ l, zD m = 0) (hd : (l.map (·.id)).Nodup) (hv : zD m = 0) (hi : ∀ x ∈ l, x.id ≠ m.id) : zd G zf5 [.d (zA (rg n h l)), .d (zg m)] [] = some (.d (.tup [zA (rg n ((h + n - 1) % n) (m :: l)), .int .i64 0]), []) := by
 have hp := zof hn hn2 hh hl hm hd hv hi;have := zMw (wN n h l l.length) h l.length m hp;rw [zfP hn (by omega), z8] at this;rw [show rg n h l = ⟨wN n h l l.length, h, l.length⟩ from rfl, this];rfl
end Go.Proofs.YtfggldgdejjlnaaGreat
