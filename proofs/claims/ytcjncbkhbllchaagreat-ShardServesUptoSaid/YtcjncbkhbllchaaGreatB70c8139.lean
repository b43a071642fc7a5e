/-
  Part of the calculus in which the claim is proved: Rings of the reference: PushBack, PushFront
-/
import Derived.Test.YtcjncbkhbllchaaGreatB3242e06
import Derived.Test.YtcjncbkhbllchaaGreatBf955c6f
set_option linter.unusedSimpArgs false
set_option linter.unusedVariables false
set_option maxHeartbeats 10000000
set_option maxRecDepth 100000
namespace Go.Sim
def Post {α : Type} (φ : α → Prop) (r : α) : Prop := φ r
theorem iteP {α : Type} {φ : α → Prop} {c : Prop} [Decidable c] {A B : α} (h1 : c → Post φ A) (h2 : ¬ c → Post φ B) : Post φ (if c then A else B) := by split <;> simp_all
theorem Post.some {α : Type} {φ : Option α → Prop} {r : Option α} {a : α} (h : φ (some a)) (e : r = some a) : Post φ r := by rw [e]; exact h
attribute [go_sem] Nat.mul_one
end Go.Sim

namespace Go.Proofs.YtcjncbkhbllchaaGreat
open Go Go.Sim
theorem and_in (a : Int) (m : Int) (h0 : 0 ≤ m) (h1 : m ≤ 4294967295) : 0 ≤ andI .i64 a m ∧ andI .i64 a m ≤ m := by
 unfold andI
 have e : (BitVec.ofInt IntKind.i64.bits m).toNat = m.toNat := by
  show (BitVec.ofInt 64 m).toNat = m.toNat
  rw [BitVec.toNat_ofInt]; omega
 have h2 : (BitVec.ofInt IntKind.i64.bits a &&& BitVec.ofInt IntKind.i64.bits m).toNat ≤ m.toNat := by
  rw [BitVec.toNat_and, e]; exact Nat.and_le_right
 rw [wr (by omega)]
 omega
theorem xor_in (a b : Int) (ha : 0 ≤ a ∧ a < 65536) (hb : 0 ≤ b ∧ b < 65536) : 0 ≤ xorI .i64 a b ∧ xorI .i64 a b < 65536 := by
 unfold xorI
 have e : ∀ m : Int, 0 ≤ m → m < 65536 → (BitVec.ofInt IntKind.i64.bits m).toNat = m.toNat := fun m h0 h1 => by
  show (BitVec.ofInt 64 m).toNat = m.toNat
  rw [BitVec.toNat_ofInt]; omega
 have h2 : (BitVec.ofInt IntKind.i64.bits a ^^^ BitVec.ofInt IntKind.i64.bits b).toNat < 65536 := by
  rw [BitVec.toNat_xor, e a ha.1 ha.2, e b hb.1 hb.2]; exact Nat.xor_lt_two_pow (n := 16) (by omega) (by omega)
 rw [wr (by omega)]
 omega
def sumS (b : List UInt8) (p : Nat × Int) : St := ⟨[(0, .d (.sl (byD b))), (3, .d (.int .i64 p.2)), (4, .d (.int .i64 p.1))], []⟩
def sumPhi (r : Option (AExit × St)) : Prop := ∃ h : Int, 0 ≤ h ∧ h ≤ 4294967295 ∧ r = some (.exit 0, ⟨[(3, .d (.int .i64 h))], []⟩)
theorem zAz (b : List UInt8) (hL : b.length ≤ 1000) : ∀ p : Nat × Int, p.1 ≤ b.length ∧ 0 ≤ p.2 ∧ p.2 ≤ 4294967295 → sumPhi (loopL G [] l_ref02_Sum_0 (sumS b p)) := by
 refine znh (fun p : Nat × Int => b.length - p.1) _ (sumS b) (fun _ => Post sumPhi) fun ⟨i, h⟩ ⟨h1, h2, h3⟩ L ih => ?_
 simp only at h1 h2 h3
 simp only [sumS, l_ref02_Sum_0] at ih ⊢
 by_cases h0 : i < b.length
 · have hlt := b[i].toNat_lt
   have hg : (byD b)[i]? = some (.int .u8 b[i].toNat) := by unfold byD; simp [List.getElem?_eq_getElem h0]
   have hlen : (byD b).length = b.length := by unfold byD; simp
   have ha := fun a => and_in a 4294967295 (by omega) (by omega)
   simp -implicitDefEqProofs (disch := omega) only [getDT, go_sem, *]
   exact ih (i + 1, _) ⟨by simp only; omega, (ha _).1, (ha _).2⟩ (by simp only; omega)
 · have hlen : (byD b).length = b.length := by unfold byD; simp
   clear ih
   simp -implicitDefEqProofs (disch := omega) only [getDT, go_sem, *]
   exact ⟨h, h2, h3, rfl⟩
theorem sum_ex (b : List UInt8) (hL : b.length ≤ 1000) : ∃ h : Int, 0 ≤ h ∧ h ≤ 4294967295 ∧ callL G z1V [.d (.sl (byD b))] [] = some (.d (.int .i64 h), []) := by
 obtain ⟨h, h1, h2, hl⟩ := zAz b hL (0, 2166136261) ⟨by simp, by simp, by simp⟩
 simp only [sumS] at hl
 simp only [Int.natCast_add, Int.natCast_one, Int.natCast_zero, Int.natCast_mul, Int.cast_ofNat_Int, List.length_append, List.length_map, List.map_nil, List.length_nil, List.map_append, List.map_cons, List.length_cons, Nat.zero_add, srcO, mapSet] at hl
 refine ⟨h, h1, h2, ?_⟩
 rw [zjI zbw (by simp)]; simp -implicitDefEqProofs (disch := omega) only [zak, getDT, go_sem, *]
theorem u8_of (x : Int) : ∃ c : UInt8, IntKind.u8.wrap x = c.toNat := by
 have h := zkb .u8 x
 simp only [IntKind.has, IntKind.min, IntKind.max, IntKind.bits, IntKind.signed] at h
 simp at h
 exact ⟨UInt8.ofNat (IntKind.u8.wrap x).toNat, by rw [UInt8.toNat_ofNat']; omega⟩
theorem put_ex (n : Int) (h0 : 0 ≤ n) (h1 : n ≤ 1073741824) : ∃ b : List UInt8, b.length = 4 ∧ callL G z1T [.d (.sl []), .d (.int .i64 n), .d (.int .i64 4)] [] = some (.d (.tup [.sl (byD b), .int .i64 0]), []) := by
 rw [zjI zbv (by simp)]; simp -implicitDefEqProofs (disch := omega) only [zaj, zk0, l_ref01_Put_0, getDT, go_sem, *]; (try simp only [pA, pB, pC, pD, pE, pF, pG, pH, pI, pJ, pK, pL, pM, pN, pO, pP, if_true, if_false]); repeat' (first | done | rfl | ((first | refine iteC (fun hq => ?_) (fun hq => ?_) | refine iteP (fun hq => ?_) (fun hq => ?_)) <;> (try (first | (exfalso; omega) | contradiction)) <;> (try simp -implicitDefEqProofs (disch := omega) only [zk0, l_ref01_Put_0, getDT, go_sem, *]) <;> (try simp only [pA, pB, pC, pD, pE, pF, pG, pH, pI, pJ, pK, pL, pM, pN, pO, pP, if_true, if_false]))); (all_goals try rfl); (all_goals try (repeat' (first | done | rfl | (exfalso; omega) | contradiction | (refine iteR (fun hq => ?_) (fun hq => ?_)))))
 obtain ⟨c1, e1⟩ := u8_of (n.fdiv (2 ^ (min 24 64 : Nat)))
 obtain ⟨c2, e2⟩ := u8_of (n.fdiv (2 ^ (min 16 64 : Nat)))
 obtain ⟨c3, e3⟩ := u8_of (n.fdiv (2 ^ (min 8 64 : Nat)))
 obtain ⟨c4, e4⟩ := u8_of (n.fdiv (2 ^ (min 0 64 : Nat)))
 refine ⟨[c1, c2, c3, c4], rfl, ?_⟩
 rw [if_neg (by have : IntKind.i64.wrap (1 * 2 ^ (min 32 64 : Nat)) = 4294967296 := by decide
                omega), e1, e2, e3, e4]
 rfl
theorem zsV (id : Int) : ∃ r : Int, 0 ≤ r ∧ r < 65536 ∧ callL G z1U [.d (.int .i64 id)] [] = some (.d (.int .i64 r), []) := by
 by_cases h0 : id < 0
 · refine ⟨0, by omega, by omega, ?_⟩
   rw [zjI z8m (by simp)]; simp -implicitDefEqProofs (disch := omega) only [z3J, getDT, go_sem, *]
 · by_cases h1 : 1073741824 < id
   · refine ⟨0, by omega, by omega, ?_⟩
     rw [zjI z8m (by simp)]; simp -implicitDefEqProofs (disch := omega) only [z3J, getDT, go_sem, *]
   · obtain ⟨b, hb, hp⟩ := put_ex id (by omega) (by omega)
     obtain ⟨h, g0, g1, hs⟩ := sum_ex b (by omega)
     have hf : Int.fdiv h (2 ^ (min 16 64 : Nat)) = h / 65536 := by
      show Int.fdiv h 65536 = h / 65536
      rw [Int.fdiv_eq_ediv_of_nonneg _ (by omega)]
     have hx := xor_in (h / 65536) (andI .i64 h 65535) (by omega) (by have := and_in h 65535 (by omega) (by omega); omega)
     refine ⟨xorI .i64 (h / 65536) (andI .i64 h 65535), hx.1, hx.2, ?_⟩
     rw [zjI z8m (by simp)]; simp -implicitDefEqProofs (disch := omega) only [z3J, getDT, go_sem, *]
def intoD (r lo hi : Int) : Int := if lo ≤ r ∧ r ≤ hi then r else lo + r.tmod (hi - lo + 1)
theorem zrx (r lo hi : Int) (h0 : 0 ≤ r) (h1 : r < 65536) (h2 : 0 ≤ lo) (h3 : lo ≤ hi) (h4 : hi < 65536) : callL G z0P [.d (.int .i64 r), .d (.int .i64 lo), .d (.int .i64 hi)] [] = some (.d (.int .i64 (intoD r lo hi)), []) := by
 unfold intoD
 have hm := Int.tmod_lt_of_pos r (show 0 < hi - lo + 1 by omega)
 have hm2 := Int.tmod_nonneg (hi - lo + 1) h0
 have hne : ¬ hi - lo + 1 = 0 := by omega
 by_cases c : lo ≤ r ∧ r ≤ hi
 · rw [if_pos c]
   obtain ⟨c1, c2⟩ := c
   rw [zjI z67 (by simp)]; simp -implicitDefEqProofs (disch := omega) only [z36, getDT, go_sem, *]
 · rw [if_neg c]
   by_cases c1 : lo ≤ r
   · have c2 : ¬ r ≤ hi := fun h => c ⟨c1, h⟩
     clear c
     rw [zjI z67 (by simp)]; simp -implicitDefEqProofs (disch := omega) only [z36, getDT, go_sem, *]
   · clear c
     rw [zjI z67 (by simp)]; simp -implicitDefEqProofs (disch := omega) only [z36, getDT, go_sem, *]
theorem zwX {r lo hi : Int} (h0 : 0 ≤ r) (h3 : lo ≤ hi) : lo ≤ intoD r lo hi ∧ intoD r lo hi ≤ hi := by
 unfold intoD
 have hm := Int.tmod_lt_of_pos r (show 0 < hi - lo + 1 by omega)
 have hm2 := Int.tmod_nonneg (hi - lo + 1) h0
 split <;> omega
def msgGood (m : Message) (id lo hi : Int) : Prop := m.id = id ∧ lo ≤ m.route ∧ m.route ≤ hi ∧ 0 ≤ m.epoch ∧ m.epoch ≤ 2 ∧ 0 ≤ m.count ∧ m.count ≤ 3 ∧ 0 ≤ m.sent ∧ m.sent ≤ 49 ∧ m.body.length ≤ 3 ∧ m.count ≤ m.gen ∧ m.gen ≤ 65536
theorem zpK (l : List Int) (a : Nat) (id lo hi : Int) (hL : l.length ≤ 4000) (h2 : 0 ≤ lo) (h3 : lo ≤ hi) (h4 : hi < 65536) : ∃ m a', msgGood m id lo hi ∧ callL G ze [.ref 1000000 0 0, .d (.int .i64 id), .d (.int .i64 lo), .d (.int .i64 hi)] [(1000000, srcO l a)] = some (.d (eMessage m), [(1000000, srcO l a')]) := by
 obtain ⟨r, r0, r1, hr⟩ := zsV id
 have hi1 := zrx r lo hi r0 r1 h2 h3 h4
 have hi2 := zwX (hi := hi) r0 h3
 generalize intoD r lo hi = ro at *
 have hn := fun at1 m => n_ok l at1 m hL
 obtain ⟨a1, q1⟩ : ∃ a1, (rawD l a).2 = a1 := ⟨_, rfl⟩
 obtain ⟨a2, q2⟩ : ∃ a2, (rawD l a1).2 = a2 := ⟨_, rfl⟩
 obtain ⟨a3, q3⟩ : ∃ a3, (rawD l a2).2 = a3 := ⟨_, rfl⟩
 obtain ⟨b1, hb⟩ := zqJ l a3 hL
 obtain ⟨a4, q4⟩ : ∃ a4, (bodyF l a3).2 = a4 := ⟨_, rfl⟩
 generalize (bodyF l a3).1 = bd at *
 obtain ⟨a5, q5⟩ : ∃ a5, (rawD l a4).2 = a5 := ⟨_, rfl⟩
 obtain ⟨a6, q6⟩ : ∃ a6, (rawD l a5).2 = a6 := ⟨_, rfl⟩
 have n1 := nD_in l a (n := 3) (by omega)
 have n2 := nD_in l a1 (n := 4) (by omega)
 have n3 := nD_in l a2 (n := 50) (by omega)
 have n4 := nD_in l a4 (n := 3) (by omega)
 by_cases c : nD l a5 20 = 19
 · refine ⟨⟨id, ro, nD l a 3, nD l a1 4, 65536, nD l a2 50, bd⟩, a6, ⟨rfl, by simp only; omega, by simp only; omega, n1.1, by simp only; omega, n2.1, by simp only; omega, n3.1, by simp only; omega, b1, by simp only; omega, by simp⟩, ?_⟩
   simp only [eMessage]
   rw [zjI z60 (by simp)]; simp -implicitDefEqProofs (disch := omega) only [z32, getDT, go_sem, *]
 · refine ⟨⟨id, ro, nD l a 3, nD l a1 4, nD l a1 4 + nD l a4 3, nD l a2 50, bd⟩, a6, ⟨rfl, by simp only; omega, by simp only; omega, n1.1, by simp only; omega, n2.1, by simp only; omega, n3.1, by simp only; omega, b1, by simp only; omega, by simp only; omega⟩, ?_⟩
   simp only [eMessage]
   rw [zjI z60 (by simp)]; simp -implicitDefEqProofs (disch := omega) only [z32, getDT, go_sem, *]
theorem zy6 (n k : Int) (x : D) (es : List (Int × D)) : mget n (mset k x es) = if k = n then some x else mget n es := by
 induction es with
 | nil => simp only [mset, mget]
 | cons p es ih =>
  obtain ⟨j, y⟩ := p
  simp only [mset]
  by_cases h : j = k
  · subst h
    simp only [if_true, mget]
    by_cases h2 : j = n
    · simp only [h2, if_true]
    · simp only [h2, if_false]
  · simp only [h, if_false, mget, ih]
    by_cases h2 : j = n
    · subst h2; simp only [if_true, show ¬ k = j from fun e => h e.symm, if_false]
    · simp only [h2, if_false]
def seenM (ids : List Int) : List (Int × D) := ids.foldl (fun es n => mset n (.bool true) es) []
theorem zsY (ids : List Int) (n : Int) : seenM (ids ++ [n]) = mset n (.bool true) (seenM ids) := by simp [seenM, List.foldl_append]
theorem zy5 (n : Int) (ids : List Int) (es : List (Int × D)) : mget n (ids.foldl (fun es n => mset n (.bool true) es) es) = if n ∈ ids then some (.bool true) else mget n es := by
 induction ids generalizing es with
 | nil => simp
 | cons a ids ih =>
  rw [List.foldl_cons, ih, zy6]
  by_cases h : n ∈ ids
  · simp [h]
  · by_cases h2 : a = n
    · simp [h2]
    · simp [h, h2, show ¬ n = a from fun e => h2 e.symm]
theorem zs5 (n : Int) (ids : List Int) : mget n (seenM ids) = if n ∈ ids then some (.bool true) else none := by
 unfold seenM; rw [zy5]; rfl
def dupI (ids : List Int) : Bool := decide (¬ ids.Nodup)
theorem zr4 (ids : List Int) (n : Int) : dupI (ids ++ [n]) = (dupI ids || decide (n ∈ ids)) := by
 unfold dupI
 apply Bool.eq_iff_iff.2
 simp only [Bool.or_eq_true, decide_eq_true_eq, List.nodup_append, List.nodup_cons, List.not_mem_nil, not_false_eq_true, List.nodup_nil, and_self, true_and, List.mem_singleton, forall_eq]
 constructor
 · intro h
   by_cases h1 : ids.Nodup
   · right
     refine Classical.byContradiction fun h2 => h ⟨h1, fun a ha e => h2 (e ▸ ha)⟩
   · exact .inl h1
 · rintro (h | h) ⟨h1, h2⟩
   · exact h h1
   · exact h2 n h rfl
def firstE (l : List Message) : Int := match l with
 | [] => 0
 | m :: l => if msgV m ≠ 0 then msgV m else firstE l
def ordD (r : Ring) : List Message := (List.range r.size.toNat).map fun i => r.cells.getD ((r.head.toNat + i) % r.cells.length) zMessage
def ringOK (r : Ring) : Prop := 1 ≤ r.cells.length ∧ r.cells.length ≤ 12 ∧ 0 ≤ r.head ∧ r.head < r.cells.length ∧ 0 ≤ r.size ∧ r.size ≤ r.cells.length
instance (r : Ring) : Decidable (ringOK r) := by unfold ringOK; exact inferInstance
def restF (r : Ring) (i n : Nat) : Bool := (List.range' i (n - i)).any fun j => decide (r.cells.getD ((r.head.toNat + j) % r.cells.length) zMessage ≠ zMessage)
def ringV (r : Ring) : Int := if ¬ ringOK r then 1 else if restF r r.size.toNat r.cells.length = true then 7 else if firstE (ordD r) ≠ 0 then firstE (ordD r) else if dupI ((ordD r).map (·.id)) = true then 10 else 0
theorem zzG (r : Ring) {i n : Nat} (h : i < n) : restF r i n = (decide (r.cells.getD ((r.head.toNat + i) % r.cells.length) zMessage ≠ zMessage) || restF r (i + 1) n) := by
 unfold restF
 rw [show n - i = (n - (i + 1)) + 1 by omega, List.range'_succ, List.any_cons]
theorem zsR (r : Ring) {i n : Nat} (h : ¬ i < n) : restF r i n = false := by
 unfold restF
 rw [show n - i = 0 by omega]; rfl
theorem zrc {l : List Message} {k : Nat} (h : k < l.length) : firstE (l.drop k) = if msgV l[k] ≠ 0 then msgV l[k] else firstE (l.drop (k + 1)) := by
 rw [List.drop_eq_getElem_cons h]; rfl
def fstI (l : List Message) (id : Int) : Int := idxI (fun m : Message => decide (m.id = id)) l
theorem fst_at {l : List Message} {k : Nat} (h : k < l.length) : fstI l l[k].id = k ↔ ∀ j (hj : j < k), l[j].id ≠ l[k].id := by
 unfold fstI idxI
 cases hf : l.findIdx? (fun m : Message => decide (m.id = l[k].id)) with
 | none =>
  have := List.findIdx?_eq_none_iff.1 hf l[k] (List.getElem_mem h)
  simp at this
 | some i =>
  obtain ⟨hi, e, hn⟩ := List.findIdx?_eq_some_iff_getElem.1 hf
  simp only [decide_eq_true_eq] at e hn
  constructor
  · intro e2 j hj
    have : i = k := by simp at e2; omega
    subst this
    exact hn j hj
  · intro ha
    by_cases h1 : i < k
    · exact absurd e (ha i h1)
    · by_cases h2 : k < i
      · exact absurd rfl (hn k h2)
      · simp; omega
def lateF (l : List Message) (k : Nat) : Bool := (List.range' k (l.length - k)).any fun i => decide (fstI l (l.getD i zMessage).id ≠ i)
theorem zrC (l : List Message) {k : Nat} (h : k < l.length) : lateF l k = (decide (fstI l l[k].id ≠ k) || lateF l (k + 1)) := by
 unfold lateF
 rw [show l.length - k = (l.length - (k + 1)) + 1 by omega, List.range'_succ, List.any_cons, getDT h]
theorem zrB (l : List Message) {k : Nat} (h : ¬ k < l.length) : lateF l k = false := by
 unfold lateF
 rw [show l.length - k = 0 by omega]; rfl
theorem zrA (l : List Message) : lateF l 0 = dupI (l.map (·.id)) := by
 apply Bool.eq_iff_iff.2
 unfold lateF dupI
 simp only [Nat.sub_zero, List.any_eq_true, List.mem_range'_1, decide_eq_true_eq, List.nodup_iff_pairwise_ne, List.pairwise_iff_getElem, List.length_map, List.getElem_map]
 constructor
 · rintro ⟨i, ⟨_, hi⟩, hne⟩ hall
   simp only [Nat.zero_add] at hi
   rw [getDT hi] at hne
   exact hne ((fst_at hi).2 fun j hj => hall j i (by omega) hi hj)
 · intro hn
   refine Classical.byContradiction fun hc => hn fun i j hi hj hij => ?_
   have : fstI l l[j].id = j := Classical.byContradiction fun hc2 => hc ⟨j, ⟨by omega, by omega⟩, by rw [getDT hj]; exact hc2⟩
   exact (fst_at hj).1 this i hij
def shMsgs (s : Shard) : List Message := ordD s.ready ++ s.leases.l.map (·.msg)
def movedF (s : Shard) (l : List Message) : Bool := l.any fun m => decide (¬ (s.low ≤ m.route ∧ m.route ≤ s.high))
def storedD (s : Shard) : Int := s.ready.size + s.leases.l.length
def shardV (s : Shard) : Int :=
 if ringV s.ready ≠ 0 then ringV s.ready
 else if tabV s.leases ≠ 0 then tabV s.leases
 else if s.live = false then (if s.low ≠ 0 ∨ s.high ≠ 0 ∨ 0 < storedD s then 7 else 0)
 else if ¬ (0 ≤ s.low ∧ s.low ≤ s.high ∧ s.high < 65536) then 1
 else if s.ready.cells.length < storedD s then 3
 else if movedF s (shMsgs s) = true then 12
 else if dupI ((shMsgs s).map (·.id)) = true then 10 else 0
theorem zke (r : Ring) : (ordD r).length = r.size.toNat := by simp [ordD]
theorem zjR {r : Ring} (h : ringV r = 0) : ringOK r := by
 unfold ringV at h
 split at h
 · exact absurd h (by decide)
 · rename_i hc; exact Classical.not_not.1 hc
def ordN (c : List Message) (h k : Nat) : List Message := (List.range k).map fun i => c.getD ((h + i) % c.length) zMessage
theorem zsq (c : List Message) (h k : Nat) : ordN c h (k + 1) = ordN c h k ++ [c.getD ((h + k) % c.length) zMessage] := by
 simp [ordN, List.range_succ]
theorem zkn (c : List Message) (h k : Nat) : (ordN c h k).length = k := by simp [ordN]
theorem zkp (c : List Message) (h z i : Nat) (h0 : 0 < c.length) (h1 : c.length ≤ 12) (h2 : h ≤ 12) (h3 : i ≤ 12) : callL G z0S [.d (.agg [.sl (c.map eMessage), .int .i64 h, .int .i64 z]), .d (.int .i64 i)] [] = some (.d (.int .i64 ((h + i) % c.length : Nat)), []) := by
 have e : ((h : Int) + i).tmod c.length = (((h + i) % c.length : Nat) : Int) := by rw [← Int.natCast_add, ← Int.ofNat_tmod]
 rw [zjI zfe (by simp)]; simp -implicitDefEqProofs (disch := omega) only [zaG, getDT, go_sem, *]
def listS (c : List Message) (h z i : Nat) : St := ⟨[(1, .ref 1 0 0), (3, .acc 3 ((ordN c h i).map eMessage)), (6, .d (.int .i64 z)), (7, .d (.int .i64 i))], [(1, .row [.d (.agg [.sl (c.map eMessage), .int .i64 h, .int .i64 z])]), (3, .acc (ordN c h i).length)]⟩
theorem zxx (c : List Message) (h z : Nat) (h1 : c.length ≤ 12) (h2 : h < c.length) (h3 : z ≤ c.length) : ∀ i, i ≤ z → loopL G [] l_ring_list_0 (listS c h z i) = some (.exit 0, ⟨[(3, .acc 3 ((ordN c h z).map eMessage))], [(3, .acc (ordN c h z).length)]⟩) := by
 refine zjM (fun i => z - i) (fun i => i ≤ z) (listS c h z) _ fun i hi L ih => ?_
 by_cases h0 : i < z
 · have i1 := ih (i + 1) (by omega) (by omega)
   clear ih
   have hc := zkp c h z i (by omega) h1 (by omega) (by omega)
   have hj : (h + i) % c.length < c.length := Nat.mod_lt _ (by omega)
   have hl := zkn c h i
   rw [listS, zsq] at i1
   generalize (h + i) % c.length = j at *
   rw [getDT hj] at i1
   simp only [List.map_append, List.map_cons, List.map_nil, List.length_append, List.length_singleton, hl] at i1
   simp only [listS, hl, l_ring_list_0]
   generalize ordN c h i = w at *
   simp only [Int.natCast_add, Int.natCast_one, Int.natCast_zero, Int.natCast_mul, Int.cast_ofNat_Int, List.length_append, List.length_map, List.map_nil, List.length_nil, List.map_append, List.map_cons, List.length_cons, Nat.zero_add, srcO, mapSet] at i1
   simp -implicitDefEqProofs (disch := omega) only [getDT, go_sem, *]
 · clear ih
   have : i = z := by omega
   subst this
   simp only [listS, l_ring_list_0]
   simp -implicitDefEqProofs (disch := omega) only [getDT, go_sem, *]
theorem zpD (c : List Message) (h z : Nat) (h1 : c.length ≤ 12) (h2 : h < c.length) (h3 : z ≤ c.length) : callL G z0U [.d (.agg [.sl (c.map eMessage), .int .i64 h, .int .i64 z])] [] = some (.acc 0 ((ordN c h z).map eMessage), [(0, .acc (ordN c h z).length)]) := by
 have hl := zxx c h z h1 h2 h3 0 (by omega)
 simp only [listS, ordN, List.range_zero, List.map_nil, List.length_nil] at hl
 simp only [Int.natCast_add, Int.natCast_one, Int.natCast_zero, Int.natCast_mul, Int.cast_ofNat_Int, List.length_append, List.length_map, List.map_nil, List.length_nil, List.map_append, List.map_cons, List.length_cons, Nat.zero_add, srcO, mapSet] at hl
 rw [zjI zbU (by simp)]; simp -implicitDefEqProofs (disch := omega) only [zaJ, ordN, getDT, go_sem, *]
theorem zo1 (l : List Message) (id : Int) (hL : l.length ≤ 4294967296) : callL G zG [.d (.sl (l.map eMessage)), .d (.int .i64 id)] [] = some (.d (.int .i64 (fstI l id)), []) := by
 have := zl3 (G := G) (x := l_ref03_Index_0) (ks := []) l.length (atB l fun m : Message => decide (m.id = id)) (fun k => ⟨[(0, .d (.sl (l.map eMessage))), (1, .d (.int .i64 id)), (5, .d (.int .i64 k))], []⟩) (fun k => (.ret, ⟨[(4, .d (.int .i64 k))], []⟩)) (.exit 0, ⟨[], []⟩) (fun k hk L => by
  simp only [l_ref03_Index_0]
  by_cases h0 : k < l.length
  · rw [if_pos h0]
    simp only [atB_at h0]
    by_cases h1 : l[k].id = id
    · simp only [h1, decide_true, if_true]
      simp -implicitDefEqProofs (disch := omega) only [eMessage, getDT, go_sem, *]
    · simp only [h1, decide_false, Bool.false_eq_true, if_false]
      simp -implicitDefEqProofs (disch := omega) only [eMessage, getDT, go_sem, *]
  · rw [if_neg h0]
    simp -implicitDefEqProofs (disch := omega) only [getDT, go_sem, *])
 rw [znu] at this
 simp only [Int.natCast_add, Int.natCast_one, Int.natCast_zero, Int.natCast_mul, Int.cast_ofNat_Int, List.length_append, List.length_map, List.map_nil, List.length_nil, List.map_append, List.map_cons, List.length_cons, Nat.zero_add, srcO, mapSet] at this
 unfold fstI idxI
 cases h : l.findIdx? (fun m : Message => decide (m.id = id)) with
 | none => rw [h] at this; rw [zjI zbx (by simp)]; simp -implicitDefEqProofs (disch := omega) only [z6M, getDT, go_sem, *]
 | some i => rw [h] at this; rw [zjI zbx (by simp)]; simp -implicitDefEqProofs (disch := omega) only [z6M, getDT, go_sem, *]
def orderS (c : List Message) (h z i : Nat) : St := ⟨[(1, .ref 1 0 0), (3, .acc 3 ((ordN c h i).map eMessage)), (4, .d (.int .i64 i))], [(1, .row [.d (.agg [.sl (c.map eMessage), .int .i64 h, .int .i64 z])]), (3, .acc (ordN c h i).length)]⟩
theorem zyL (c : List Message) (h z : Nat) (h1 : c.length ≤ 12) (h2 : h < c.length) (h3 : z ≤ c.length) : ∀ i, i ≤ z → loopL G [] l_ref04_order_0 (orderS c h z i) = some (.exit 0, ⟨[(3, .acc 3 ((ordN c h z).map eMessage))], [(3, .acc (ordN c h z).length)]⟩) := by
 refine zjM (fun i => z - i) (fun i => i ≤ z) (orderS c h z) _ fun i hi L ih => ?_
 by_cases h0 : i < z
 · have i1 := ih (i + 1) (by omega) (by omega)
   clear ih
   have e : ((h : Int) + i).tmod c.length = (((h + i) % c.length : Nat) : Int) := by rw [← Int.natCast_add, ← Int.ofNat_tmod]
   have hj : (h + i) % c.length < c.length := Nat.mod_lt _ (by omega)
   have hl := zkn c h i
   rw [orderS, zsq] at i1
   generalize (h + i) % c.length = j at *
   rw [getDT hj] at i1
   simp only [List.map_append, List.map_cons, List.map_nil, List.length_append, List.length_singleton, hl] at i1
   simp only [orderS, hl, l_ref04_order_0]
   generalize ordN c h i = w at *
   simp only [Int.natCast_add, Int.natCast_one, Int.natCast_zero, Int.natCast_mul, Int.cast_ofNat_Int, List.length_append, List.length_map, List.map_nil, List.length_nil, List.map_append, List.map_cons, List.length_cons, Nat.zero_add, srcO, mapSet] at i1
   simp -implicitDefEqProofs (disch := omega) only [getDT, go_sem, *]
 · clear ih
   have : i = z := by omega
   subst this
   simp only [orderS, l_ref04_order_0]
   simp -implicitDefEqProofs (disch := omega) only [getDT, go_sem, *]
theorem znC (c : List Message) (h z : Nat) (h1 : c.length ≤ 12) (h2 : h < c.length) (h3 : z ≤ c.length) : callL G z0Q [.d (.agg [.sl (c.map eMessage), .int .i64 h, .int .i64 z])] [] = some (.acc 0 ((ordN c h z).map eMessage), [(0, .acc (ordN c h z).length)]) := by
 have hl := zyL c h z h1 h2 h3 0 (by omega)
 simp only [orderS, ordN, List.range_zero, List.map_nil, List.length_nil] at hl
 simp only [Int.natCast_add, Int.natCast_one, Int.natCast_zero, Int.natCast_mul, Int.cast_ofNat_Int, List.length_append, List.length_map, List.map_nil, List.length_nil, List.map_append, List.map_cons, List.length_cons, Nat.zero_add, srcO, mapSet] at hl
 rw [zjI zbD (by simp)]; simp -implicitDefEqProofs (disch := omega) only [zaq, ordN, getDT, go_sem, *]
theorem zm_of {m : Message} (h : ¬(¬m.id = 0 ∨ ¬m.route = 0 ∨ ¬m.epoch = 0 ∨ ¬m.count = 0 ∨ ¬m.gen = 0 ∨ ¬m.sent = 0 ∨ ¬m.body = [])) : m = zMessage := by
 simp only [not_or, Classical.not_not] at h
 obtain ⟨a, b, c, d, e, f, g⟩ := h
 cases m
 simp only at a b c d e f g
 subst a b c d e f g
 rfl
theorem restF_step' (c : List Message) (h : Nat) (z : Int) {i n : Nat} (h0 : i < n) : restF ⟨c, h, z⟩ i n = (decide (c.getD ((h + i) % c.length) zMessage ≠ zMessage) || restF ⟨c, h, z⟩ (i + 1) n) := zzG ⟨c, h, z⟩ h0
def rgS (c : List Message) (h z i : Nat) : St := ⟨[(1, .ref 1 0 0), (3, .d (.int .i64 c.length)), (4, .d (.int .i64 i))], [(1, .row [.d (.agg [.sl (c.map eMessage), .int .i64 h, .int .i64 z])])]⟩
def rgR (c : List Message) (h z i : Nat) : AExit × St := if restF ⟨c, h, z⟩ i c.length = true then (.ret, ⟨[(2, .d (.int .i64 7))], []⟩) else (.exit 0, ⟨[(1, .ref 1 0 0)], [(1, .row [.d (.agg [.sl (c.map eMessage), .int .i64 h, .int .i64 z])])]⟩)
theorem zzH (c : List Message) (h z : Nat) (h1 : c.length ≤ 12) (h2 : h < c.length) : ∀ i, i ≤ c.length → loopL G [] z6w (rgS c h z i) = some (rgR c h z i) := by
 refine zjM (fun i => c.length - i) (fun i => i ≤ c.length) (rgS c h z) (fun i => some (rgR c h z i)) fun i hi L ih => ?_
 by_cases h0 : i < c.length
 · have i1 := ih (i + 1) (by omega) (by omega)
   clear ih
   have hc := zkp c h z i (by omega) h1 (by omega) (by omega)
   have hj : (h + i) % c.length < c.length := Nat.mod_lt _ (by omega)
   unfold rgR at i1 ⊢
   rw [restF_step' _ _ _ h0]
   generalize (h + i) % c.length = j at *
   rw [getDT hj]
   generalize restF ⟨c, h, z⟩ (i + 1) c.length = bb at *
   simp only [rgS] at i1
   simp only [Int.natCast_add, Int.natCast_one, Int.natCast_zero, Int.natCast_mul, Int.cast_ofNat_Int, List.length_append, List.length_map, List.map_nil, List.length_nil, List.map_append, List.map_cons, List.length_cons, Nat.zero_add, srcO, mapSet] at i1
   simp only [rgS, z6w]
   by_cases hm : c[j] = zMessage
   · rw [hm]
     simp only [ne_eq, not_true_eq_false, decide_false, Bool.false_or]
     simp -implicitDefEqProofs (disch := omega) only [hm, zMessage, eMessage, getDT, go_sem, *]
   · simp only [ne_eq, hm, not_false_eq_true, decide_true, Bool.true_or, if_true]
     (try simp -implicitDefEqProofs (disch := omega) only [eMessage, getDT, go_sem, *]); (try simp only [pA, pB, pC, pD, pE, pF, pG, pH, pI, pJ, pK, pL, pM, pN, pO, pP, if_true, if_false]); repeat' (first | done | rfl | ((first | refine iteC (fun hq => ?_) (fun hq => ?_) | refine iteP (fun hq => ?_) (fun hq => ?_)) <;> (try (first | (exfalso; omega) | contradiction)) <;> (try simp -implicitDefEqProofs (disch := omega) only [eMessage, getDT, go_sem, *]) <;> (try simp only [pA, pB, pC, pD, pE, pF, pG, pH, pI, pJ, pK, pL, pM, pN, pO, pP, if_true, if_false]))); (all_goals try rfl); (all_goals try (repeat' (first | done | rfl | (exfalso; omega) | contradiction | (refine iteR (fun hq => ?_) (fun hq => ?_)))))
     exact absurd (zm_of (by assumption)) hm
 · clear ih
   unfold rgR
   rw [zsR _ h0]
   simp only [rgS, z6w, Bool.false_eq_true, if_false]
   simp -implicitDefEqProofs (disch := omega) only [getDT, go_sem, *]
def idsN (l : List Message) (i : Nat) : List Int := (l.take i).map (·.id)
theorem zrs {l : List Message} {i : Nat} (h : i < l.length) : idsN l (i + 1) = idsN l i ++ [l[i].id] := by
 unfold idsN; rw [List.take_add_one, List.getElem?_eq_getElem h, List.map_append]; rfl
def rvS (l : List Message) (i : Nat) : St := ⟨[(5, .mpr 57), (6, .d (.bool (dupI (idsN l i)))), (59, .acc 59 (l.map eMessage)), (60, .d (.int .i64 l.length)), (61, .d (.int .i64 i))], [(57, .mp (seenM (idsN l i))), (59, .acc l.length)]⟩
def rvR (l : List Message) (i : Nat) : AExit × St := if firstE (l.drop i) ≠ 0 then (.ret, ⟨[(2, .d (.int .i64 (firstE (l.drop i))))], []⟩) else (.exit 2, ⟨[(6, .d (.bool (dupI (l.map (·.id)))))], []⟩)
theorem zzY (l : List Message) (h1 : l.length ≤ 12) : ∀ i, i ≤ l.length → loopL G [] z6x (rvS l i) = some (rvR l i) := by
 refine zjM (fun i => l.length - i) (fun i => i ≤ l.length) (rvS l) (fun i => some (rvR l i)) fun i hi L ih => ?_
 by_cases h0 : i < l.length
 · have i1 := ih (i + 1) (by omega) (by omega)
   clear ih
   have hm := znk l[i]
   unfold rvR at i1 ⊢
   rw [zrc h0]
   unfold rvS at i1
   rw [zrs h0, zsY, zr4] at i1
   have hg := zs5 l[i].id (idsN l i)
   generalize firstE (l.drop (i + 1)) = fe at *
   generalize dupI (l.map (·.id)) = dd at *
   simp only [rvS, z6x]
   generalize seenM (idsN l i) = sm at *
   simp only [eMessage] at hm
   by_cases hv : msgV l[i] = 0
   · rw [hv] at hm
     simp only [hv, ne_eq, not_true_eq_false, if_false]
     by_cases hmem : l[i].id ∈ idsN l i
     · simp only [hmem, if_true, decide_true, Bool.or_true] at hg i1
       generalize dupI (idsN l i) = d0 at *
       generalize idsN l i = w at *
       simp only [Int.natCast_add, Int.natCast_one, Int.natCast_zero, Int.natCast_mul, Int.cast_ofNat_Int, List.length_append, List.length_map, List.map_nil, List.length_nil, List.map_append, List.map_cons, List.length_cons, Nat.zero_add, srcO, mapSet] at i1
       cases d0
       · simp -implicitDefEqProofs (disch := omega) only [eMessage, getDT, go_sem, *]
       · simp -implicitDefEqProofs (disch := omega) only [eMessage, getDT, go_sem, *]
     · simp only [hmem, if_false, decide_false, Bool.or_false] at hg i1
       generalize dupI (idsN l i) = d0 at *
       generalize idsN l i = w at *
       simp only [Int.natCast_add, Int.natCast_one, Int.natCast_zero, Int.natCast_mul, Int.cast_ofNat_Int, List.length_append, List.length_map, List.map_nil, List.length_nil, List.map_append, List.map_cons, List.length_cons, Nat.zero_add, srcO, mapSet] at i1
       cases d0
       · simp -implicitDefEqProofs (disch := omega) only [eMessage, getDT, go_sem, *]
       · simp -implicitDefEqProofs (disch := omega) only [eMessage, getDT, go_sem, *]
   · simp only [ne_eq, hv, not_false_eq_true, if_true]
     clear i1 hg
     simp -implicitDefEqProofs (disch := omega) only [eMessage, getDT, go_sem, *]
 · clear ih
   have : i = l.length := by omega
   subst this
   unfold rvR
   rw [List.drop_length]
   simp only [rvS, idsN, List.take_length, firstE, ne_eq, not_true_eq_false, if_false, z6x]
   simp -implicitDefEqProofs (disch := omega) only [eMessage, getDT, go_sem, *]
theorem zkq (c : List Message) (h z : Nat) : ordD ⟨c, h, z⟩ = ordN c h z := rfl
theorem zno {r : Ring} (hr : ringOK r) : ∃ (c : List Message) (h z : Nat), r = ⟨c, h, z⟩ ∧ 1 ≤ c.length ∧ c.length ≤ 12 ∧ h < c.length ∧ z ≤ c.length := by
 obtain ⟨c, h, z⟩ := r
 obtain ⟨h1, h2, h3, h4, h5, h6⟩ := hr
 simp only at h1 h2 h3 h4 h5 h6
 exact ⟨c, h.toNat, z.toNat, by rw [Int.toNat_of_nonneg h3, Int.toNat_of_nonneg h5], h1, h2, by omega, by omega⟩
theorem zq6 {c : List Message} {h z : Nat} (hok : ringOK ⟨c, h, z⟩) : ringV ⟨c, h, z⟩ = if restF ⟨c, h, z⟩ z c.length = true then 7 else if firstE (ordN c h z) ≠ 0 then firstE (ordN c h z) else if dupI ((ordN c h z).map (·.id)) = true then 10 else 0 := by
 unfold ringV; rw [if_neg (fun hc => hc hok)]; rfl
theorem zp0 (r : Ring) (hL : r.cells.length ≤ 4294967296) : callL G z2z [.d (eRing r)] [] = some (.d (.int .i64 (ringV r)), []) := by
 by_cases hok : ringOK r
 · obtain ⟨c, h, z, rfl, h1, h2, h3, h4⟩ := zno hok
   have hr := zzH c h z h2 h3 z h4
   have hl := zpD c h z h2 h3 h4
   have hv := zzY (ordN c h z) (by rw [zkn]; omega) 0 (by omega)
   have hn := zkn c h z
   rw [zq6 hok]
   unfold rgR at hr
   unfold rvR at hv
   simp only [List.drop_zero] at hv
   simp only [rgS] at hr
   simp only [rvS, idsN, List.take_zero, List.map_nil, seenM, List.foldl_nil, show dupI [] = false by decide, hn] at hv
   rw [hn] at hl
   simp only [eRing]
   generalize restF ⟨c, h, z⟩ z c.length = b1 at *
   generalize firstE (ordN c h z) = fe at *
   generalize dupI ((ordN c h z).map (·.id)) = dd at *
   generalize ordN c h z = w at *
   clear hok
   simp only [Int.natCast_add, Int.natCast_one, Int.natCast_zero, Int.natCast_mul, Int.cast_ofNat_Int, List.length_append, List.length_map, List.map_nil, List.length_nil, List.map_append, List.map_cons, List.length_cons, Nat.zero_add, srcO, mapSet] at hv
   cases b1 with
   | true =>
    simp only [if_true] at hr ⊢
    rw [zjI z3u (by simp)]; simp -implicitDefEqProofs (disch := omega) only [z0y, getDT, go_sem, *]
   | false =>
    simp only [Bool.false_eq_true, if_false] at hr ⊢
    by_cases e : fe = 0
    · subst e
      simp only [ne_eq, not_true_eq_false, if_false] at hv ⊢
      cases dd
      · rw [zjI z3u (by simp)]; simp -implicitDefEqProofs (disch := omega) only [z0y, getDT, go_sem, *]
      · rw [zjI z3u (by simp)]; simp -implicitDefEqProofs (disch := omega) only [z0y, getDT, go_sem, *]
    · simp only [ne_eq, e, not_false_eq_true, if_true] at hv ⊢
      rw [zjI z3u (by simp)]; simp -implicitDefEqProofs (disch := omega) only [z0y, getDT, go_sem, *]
 · unfold ringV
   rw [if_pos hok]
   obtain ⟨c, h, z⟩ := r
   simp only [ringOK] at hok hL
   simp only [eRing]
   rw [zjI z3u (by simp)]; simp -implicitDefEqProofs (disch := omega) only [z0y, getDT, go_sem, *]; (try simp only [pA, pB, pC, pD, pE, pF, pG, pH, pI, pJ, pK, pL, pM, pN, pO, pP, if_true, if_false]); repeat' (first | done | rfl | ((first | refine iteC (fun hq => ?_) (fun hq => ?_) | refine iteP (fun hq => ?_) (fun hq => ?_)) <;> (try (first | (exfalso; omega) | contradiction)) <;> (try simp -implicitDefEqProofs (disch := omega) only [getDT, go_sem, *]) <;> (try simp only [pA, pB, pC, pD, pE, pF, pG, pH, pI, pJ, pK, pL, pM, pN, pO, pP, if_true, if_false]))); (all_goals try rfl); (all_goals try (repeat' (first | done | rfl | (exfalso; omega) | contradiction | (refine iteR (fun hq => ?_) (fun hq => ?_)))))
def r4S (c : List Message) (h z i : Nat) : St := ⟨[(1, .ref 1 0 0), (3, .d (.int .i64 c.length)), (4, .d (.int .i64 i))], [(1, .row [.d (.agg [.sl (c.map eMessage), .int .i64 h, .int .i64 z])])]⟩
theorem zzF (c : List Message) (h z : Nat) (h1 : c.length ≤ 12) (h2 : h < c.length) : ∀ i, i ≤ c.length → loopL G [] z6t (r4S c h z i) = some (rgR c h z i) := by
 refine zjM (fun i => c.length - i) (fun i => i ≤ c.length) (r4S c h z) (fun i => some (rgR c h z i)) fun i hi L ih => ?_
 by_cases h0 : i < c.length
 · have i1 := ih (i + 1) (by omega) (by omega)
   clear ih
   have e : ((h : Int) + i).tmod c.length = (((h + i) % c.length : Nat) : Int) := by rw [← Int.natCast_add, ← Int.ofNat_tmod]
   have hj : (h + i) % c.length < c.length := Nat.mod_lt _ (by omega)
   unfold rgR at i1 ⊢
   rw [restF_step' _ _ _ h0]
   generalize (h + i) % c.length = j at *
   rw [getDT hj]
   generalize restF ⟨c, h, z⟩ (i + 1) c.length = bb at *
   simp only [r4S] at i1
   simp only [Int.natCast_add, Int.natCast_one, Int.natCast_zero, Int.natCast_mul, Int.cast_ofNat_Int, List.length_append, List.length_map, List.map_nil, List.length_nil, List.map_append, List.map_cons, List.length_cons, Nat.zero_add, srcO, mapSet] at i1
   simp only [r4S, z6t]
   by_cases hm : c[j] = zMessage
   · rw [hm]
     simp only [ne_eq, not_true_eq_false, decide_false, Bool.false_or]
     simp -implicitDefEqProofs (disch := omega) only [hm, zMessage, eMessage, getDT, go_sem, *]
   · simp only [ne_eq, hm, not_false_eq_true, decide_true, Bool.true_or, if_true]
     (try simp -implicitDefEqProofs (disch := omega) only [eMessage, getDT, go_sem, *]); (try simp only [pA, pB, pC, pD, pE, pF, pG, pH, pI, pJ, pK, pL, pM, pN, pO, pP, if_true, if_false]); repeat' (first | done | rfl | ((first | refine iteC (fun hq => ?_) (fun hq => ?_) | refine iteP (fun hq => ?_) (fun hq => ?_)) <;> (try (first | (exfalso; omega) | contradiction)) <;> (try simp -implicitDefEqProofs (disch := omega) only [eMessage, getDT, go_sem, *]) <;> (try simp only [pA, pB, pC, pD, pE, pF, pG, pH, pI, pJ, pK, pL, pM, pN, pO, pP, if_true, if_false]))); (all_goals try rfl); (all_goals try (repeat' (first | done | rfl | (exfalso; omega) | contradiction | (refine iteR (fun hq => ?_) (fun hq => ?_)))))
     exact absurd (zm_of (by assumption)) hm
 · clear ih
   unfold rgR
   rw [zsR _ h0]
   simp only [r4S, z6t, Bool.false_eq_true, if_false]
   simp -implicitDefEqProofs (disch := omega) only [getDT, go_sem, *]
def f4S (l : List Message) (i : Nat) : St := ⟨[(5, .acc 60 (l.map eMessage)), (6, .d (.int .i64 i))], [(60, .acc l.length)]⟩
def f4R (l : List Message) (i : Nat) : AExit × St := if firstE (l.drop i) ≠ 0 then (.ret, ⟨[(2, .d (.int .i64 (firstE (l.drop i))))], []⟩) else (.exit 2, ⟨[(5, .acc 60 (l.map eMessage))], [(60, .acc l.length)]⟩)
theorem zw5 (l : List Message) (h1 : l.length ≤ 12) : ∀ i, i ≤ l.length → loopL G [] z6u (f4S l i) = some (f4R l i) := by
 refine zjM (fun i => l.length - i) (fun i => i ≤ l.length) (f4S l) (fun i => some (f4R l i)) fun i hi L ih => ?_
 by_cases h0 : i < l.length
 · have i1 := ih (i + 1) (by omega) (by omega)
   clear ih
   have hm := znG l[i]
   unfold f4R at i1 ⊢
   rw [zrc h0]
   unfold f4S at i1
   generalize firstE (l.drop (i + 1)) = fe at *
   simp only [f4S, z6u]
   simp only [eMessage] at hm
   simp only [Int.natCast_add, Int.natCast_one, Int.natCast_zero, Int.natCast_mul, Int.cast_ofNat_Int, List.length_append, List.length_map, List.map_nil, List.length_nil, List.map_append, List.map_cons, List.length_cons, Nat.zero_add, srcO, mapSet] at i1
   by_cases hv : msgV l[i] = 0
   · rw [hv] at hm
     simp only [hv, ne_eq, not_true_eq_false, if_false]
     simp -implicitDefEqProofs (disch := omega) only [eMessage, getDT, go_sem, *]
   · simp only [ne_eq, hv, not_false_eq_true, if_true]
     clear i1
     simp -implicitDefEqProofs (disch := omega) only [eMessage, getDT, go_sem, *]
 · clear ih
   have : i = l.length := by omega
   subst this
   unfold f4R
   rw [List.drop_length]
   simp only [f4S, firstE, ne_eq, not_true_eq_false, if_false, z6u]
   simp -implicitDefEqProofs (disch := omega) only [getDT, go_sem, *]
def d4S (l : List Message) (i : Nat) : St := ⟨[(5, .acc 60 (l.map eMessage)), (8, .d (.int .i64 i))], [(60, .acc l.length)]⟩
def d4R (l : List Message) (i : Nat) : AExit × St := if lateF l i = true then (.ret, ⟨[(2, .d (.int .i64 10))], []⟩) else (.exit 4, ⟨[], []⟩)
theorem zvd (l : List Message) (h1 : l.length ≤ 12) : ∀ i, i ≤ l.length → loopL G [] z6v (d4S l i) = some (d4R l i) := by
 refine zjM (fun i => l.length - i) (fun i => i ≤ l.length) (d4S l) (fun i => some (d4R l i)) fun i hi L ih => ?_
 by_cases h0 : i < l.length
 · have i1 := ih (i + 1) (by omega) (by omega)
   clear ih
   have hx := zo1 l l[i].id (by omega)
   unfold d4R at i1 ⊢
   rw [zrC _ h0]
   unfold d4S at i1
   generalize lateF l (i + 1) = fe at *
   simp only [d4S, z6v]
   simp only [Int.natCast_add, Int.natCast_one, Int.natCast_zero, Int.natCast_mul, Int.cast_ofNat_Int, List.length_append, List.length_map, List.map_nil, List.length_nil, List.map_append, List.map_cons, List.length_cons, Nat.zero_add, srcO, mapSet] at i1
   generalize fstI l l[i].id = q at *
   by_cases hv : q = i
   · subst hv
     simp only [ne_eq, not_true_eq_false, decide_false, Bool.false_or]
     simp -implicitDefEqProofs (disch := omega) only [eMessage, getDT, go_sem, *]
   · simp only [ne_eq, hv, not_false_eq_true, decide_true, Bool.true_or, if_true]
     clear i1
     simp -implicitDefEqProofs (disch := omega) only [eMessage, getDT, go_sem, *]
 · clear ih
   unfold d4R
   rw [zrB _ h0]
   simp only [d4S, z6v, Bool.false_eq_true, if_false]
   simp -implicitDefEqProofs (disch := omega) only [getDT, go_sem, *]
theorem zoS (r : Ring) (hL : r.cells.length ≤ 4294967296) : callL G z24 [.d (eRing r)] [] = some (.d (.int .i64 (ringV r)), []) := by
 by_cases hok : ringOK r
 · obtain ⟨c, h, z, rfl, h1, h2, h3, h4⟩ := zno hok
   have hr := zzF c h z h2 h3 z h4
   have hl := znC c h z h2 h3 h4
   have hn := zkn c h z
   have hv := zw5 (ordN c h z) (by omega) 0 (by omega)
   have hd := zvd (ordN c h z) (by omega) 0 (by omega)
   rw [zq6 hok]
   unfold rgR at hr
   unfold f4R at hv
   unfold d4R at hd
   rw [zrA] at hd
   simp only [List.drop_zero] at hv
   simp only [r4S] at hr
   simp only [f4S, Int.natCast_zero, hn] at hv
   simp only [d4S, Int.natCast_zero, hn] at hd
   rw [hn] at hl
   simp only [eRing]
   generalize restF ⟨c, h, z⟩ z c.length = b1 at *
   generalize firstE (ordN c h z) = fe at *
   generalize dupI ((ordN c h z).map (·.id)) = dd at *
   generalize ordN c h z = w at *
   clear hok
   cases b1 with
   | true =>
    simp only [if_true] at hr ⊢
    rw [zjI z1h (by simp)]; simp -implicitDefEqProofs (disch := omega) only [z0u, getDT, go_sem, *]
   | false =>
    simp only [Bool.false_eq_true, if_false] at hr ⊢
    by_cases e : fe = 0
    · subst e
      simp only [ne_eq, not_true_eq_false, if_false] at hv ⊢
      cases dd
      · simp only [Bool.false_eq_true, if_false] at hd ⊢
        rw [zjI z1h (by simp)]; simp -implicitDefEqProofs (disch := omega) only [z0u, getDT, go_sem, *]
      · simp only [if_true] at hd ⊢
        rw [zjI z1h (by simp)]; simp -implicitDefEqProofs (disch := omega) only [z0u, getDT, go_sem, *]
    · simp only [ne_eq, e, not_false_eq_true, if_true] at hv ⊢
      rw [zjI z1h (by simp)]; simp -implicitDefEqProofs (disch := omega) only [z0u, getDT, go_sem, *]
 · unfold ringV
   rw [if_pos hok]
   obtain ⟨c, h, z⟩ := r
   simp only [ringOK] at hok hL
   simp only [eRing]
   rw [zjI z1h (by simp)]; simp -implicitDefEqProofs (disch := omega) only [z0u, getDT, go_sem, *]; (try simp only [pA, pB, pC, pD, pE, pF, pG, pH, pI, pJ, pK, pL, pM, pN, pO, pP, if_true, if_false]); repeat' (first | done | rfl | ((first | refine iteC (fun hq => ?_) (fun hq => ?_) | refine iteP (fun hq => ?_) (fun hq => ?_)) <;> (try (first | (exfalso; omega) | contradiction)) <;> (try simp -implicitDefEqProofs (disch := omega) only [getDT, go_sem, *]) <;> (try simp only [pA, pB, pC, pD, pE, pF, pG, pH, pI, pJ, pK, pL, pM, pN, pO, pP, if_true, if_false]))); (all_goals try rfl); (all_goals try (repeat' (first | done | rfl | (exfalso; omega) | contradiction | (refine iteR (fun hq => ?_) (fun hq => ?_)))))
def pushR (r : Ring) (m : Message) : Int := if ringV r ≠ 0 then ringV r else if msgV m ≠ 0 then msgV m else if r.size = r.cells.length then 3 else if 0 ≤ fstI (ordD r) m.id then 10 else 0
theorem zoR (r : Ring) (m : Message) (hL : r.cells.length ≤ 4294967296) : callL G z25 [.d (eRing r), .d (eMessage m)] [] = some (.d (.int .i64 (pushR r m)), []) := by
 have hv := zoS r hL
 have hm := znG m
 unfold pushR
 by_cases e1 : ringV r = 0
 · rw [e1] at hv
   obtain ⟨c, h, z, rfl, h1, h2, h3, h4⟩ := zno (zjR e1)
   have hl := znC c h z h2 h3 h4
   have hi := zo1 (ordN c h z) m.id (by rw [zkn]; omega)
   simp only [e1, ne_eq, not_true_eq_false, if_false]
   rw [zkq]
   clear e1
   generalize fstI (ordN c h z) m.id = q at *
   generalize ordN c h z = w at *
   by_cases e2 : msgV m = 0
   · rw [e2] at hm
     simp only [e2, ne_eq, not_true_eq_false, if_false]
     simp only [eRing, eMessage] at hv hm hl hi ⊢
     by_cases e3 : (z : Int) = c.length
     · rw [if_pos e3]
       obtain rfl : z = c.length := by omega
       clear e3
       rw [zjI z1i (by simp)]; simp -implicitDefEqProofs (disch := omega) only [z1b, getDT, go_sem, *]
     · simp only [e3, if_false]
       by_cases e4 : 0 ≤ q
       · simp only [e4, if_true]
         rw [zjI z1i (by simp)]; simp -implicitDefEqProofs (disch := omega) only [z1b, eMessage, getDT, go_sem, *]
       · simp only [e4, if_false]
         rw [zjI z1i (by simp)]; simp -implicitDefEqProofs (disch := omega) only [z1b, eMessage, getDT, go_sem, *]
   · simp only [e2, ne_eq, not_false_eq_true, if_true]
     generalize msgV m = v at *
     simp only [eRing, eMessage] at hv hm ⊢
     rw [zjI z1i (by simp)]; simp -implicitDefEqProofs (disch := omega) only [z1b, getDT, go_sem, *]
 · simp only [e1, ne_eq, not_false_eq_true, if_true]
   generalize ringV r = v at *
   simp only [eRing, eMessage] at hv ⊢
   rw [zjI z1i (by simp)]; simp -implicitDefEqProofs (disch := omega) only [z1b, getDT, go_sem, *]
theorem zsf (k : Nat) (h1 : 1 ≤ k) (h2 : k ≤ 12) : callL G z22 [.d (.int .i64 k)] [] = some (.d (.tup [eRing ⟨List.replicate k zMessage, 0, 0⟩, .int .i64 0]), []) := by
 have e : List.replicate k (Go.Sim.AV.d (eMessage zMessage)) = (List.replicate k (eMessage zMessage)).map Go.Sim.AV.d := by rw [List.map_replicate]
 simp only [eRing, List.map_replicate]
 simp only [eMessage, zMessage] at e ⊢
 rw [zjI zbA (by simp)]; simp -implicitDefEqProofs (disch := omega) only [zao, List.length_replicate, Nat.min_self, List.take_replicate, getDT, go_sem, *]
def wN (n h : Nat) (l : List Message) (i : Nat) : List Message := (List.range i).foldl (fun cs j => cs.set ((h + j) % n) (l.getD j zMessage)) (List.replicate n zMessage)
theorem zqq (n h : Nat) (l : List Message) (i : Nat) : wN n h l (i + 1) = (wN n h l i).set ((h + i) % n) (l.getD i zMessage) := by
 unfold wN; rw [List.range_succ, List.foldl_append]; rfl
theorem wN_len (n h : Nat) (l : List Message) (i : Nat) : (wN n h l i).length = n := by
 induction i with
 | zero => simp [wN]
 | succ i ih => rw [zqq, List.length_set, ih]
def wiS (n h : Nat) (l : List Message) (i : Nat) : St := ⟨[(1, .d (.int .i64 h)), (2, .d (.sl (l.map eMessage))), (6, .ref 6 0 0), (7, .ref 7 0 0), (8, .d (.int .i64 i))], [(6, .row [.agg [.xsl [], .d (.int .i64 0), .d (.int .i64 0)]]), (7, .row [.agg [.osl 12 0 n, .d (.int .i64 h), .d (.int .i64 l.length)]]), (12, .row (((wN n h l i).map eMessage).map .d))]⟩
theorem zB2 (n h : Nat) (l : List Message) (h1 : 1 ≤ n) (h2 : n ≤ 12) (h3 : h ≤ 12) (h4 : l.length ≤ n) : ∀ i, i ≤ l.length → loopL G [] l_ref04_with_0 (wiS n h l i) = some (.exit 0, ⟨[(6, .ref 6 0 0), (7, .ref 7 0 0)], [(6, .row [.agg [.xsl [], .d (.int .i64 0), .d (.int .i64 0)]]), (7, .row [.agg [.osl 12 0 n, .d (.int .i64 h), .d (.int .i64 l.length)]]), (12, .row (((wN n h l l.length).map eMessage).map .d))]⟩) := by
 refine zjM (fun i => l.length - i) (fun i => i ≤ l.length) (wiS n h l) _ fun i hi L ih => ?_
 by_cases h0 : i < l.length
 · have i1 := ih (i + 1) (by omega) (by omega)
   clear ih
   have e : ((h : Int) + i).tmod n = (((h + i) % n : Nat) : Int) := by rw [← Int.natCast_add, ← Int.ofNat_tmod]
   have hj : (h + i) % n < n := Nat.mod_lt _ (by omega)
   have hl := wN_len n h l i
   generalize wN n h l l.length = z at *
   rw [wiS, zqq, getDT h0] at i1
   generalize (h + i) % n = j at *
   rw [List.map_set] at i1
   simp only [wiS, l_ref04_with_0]
   generalize wN n h l i = w at *
   simp only [Int.natCast_add, Int.natCast_one, Int.natCast_zero, Int.natCast_mul, Int.cast_ofNat_Int, List.length_append, List.length_map, List.map_nil, List.length_nil, List.map_append, List.map_cons, List.length_cons, Nat.zero_add, srcO, mapSet] at i1
   simp -implicitDefEqProofs (disch := omega) only [getDT, go_sem, *]
 · clear ih
   have : i = l.length := by omega
   subst this
   simp only [wiS, l_ref04_with_0]
   simp -implicitDefEqProofs (disch := omega) only [getDT, go_sem, *]
theorem zqr (c : List Message) (h0 z h : Nat) (l : List Message) (h1 : 1 ≤ c.length) (h2 : c.length ≤ 12) (h3 : h ≤ 12) (h4 : l.length ≤ c.length) : callL G z26 [.d (.agg [.sl (c.map eMessage), .int .i64 h0, .int .i64 z]), .d (.int .i64 h), .d (.sl (l.map eMessage))] [] = some (.d (eRing ⟨wN c.length h l l.length, h, l.length⟩), []) := by
 have hl := zB2 c.length h l h1 h2 h3 h4 0 (by omega)
 have hn := wN_len c.length h l l.length
 simp only [eRing]
 generalize wN c.length h l l.length = w at *
 have ez : (List.replicate c.length zMessage).map eMessage = List.replicate c.length (eMessage zMessage) := List.map_replicate
 have e : List.replicate c.length (Go.Sim.AV.d (eMessage zMessage)) = (List.replicate c.length (eMessage zMessage)).map Go.Sim.AV.d := by rw [List.map_replicate]
 simp only [wiS, wN, List.range_zero, List.foldl_nil, ez, Int.natCast_zero] at hl
 clear ez
 simp only [show eMessage zMessage = .agg [.int .i64 0, .int .i64 0, .int .i64 0, .int .i64 0, .int .i64 0, .int .i64 0, .str []] from rfl] at hl e
 rw [zjI zbE (by simp)]; simp -implicitDefEqProofs (disch := omega) only [zar, eMessage, getDT, go_sem, *]
theorem znE {r : Ring} {m : Message} (h : pushR r m = 0) : ringV r = 0 ∧ msgV m = 0 ∧ r.size ≠ r.cells.length ∧ fstI (ordD r) m.id < 0 := by
 unfold pushR at h
 by_cases e1 : ringV r = 0
 · rw [if_neg (fun hc => hc e1)] at h
   by_cases e2 : msgV m = 0
   · rw [if_neg (fun hc => hc e2)] at h
     by_cases e3 : r.size = r.cells.length
     · rw [if_pos e3] at h; exact absurd h (by decide)
     · rw [if_neg e3] at h
       by_cases e4 : 0 ≤ fstI (ordD r) m.id
       · rw [if_pos e4] at h; exact absurd h (by decide)
       · exact ⟨e1, e2, e3, by omega⟩
   · rw [if_pos e2] at h; exact absurd h e2
 · rw [if_pos e1] at h; exact absurd h e1
theorem zz2 (c : List Message) (h z : Nat) (m : Message) (hp : pushR ⟨c, h, z⟩ m = 0) : callL G zq [.d (eRing ⟨c, h, z⟩), .d (eMessage m)] [] = some (.d (.tup [eRing ⟨wN c.length h (ordN c h z ++ [m]) (z + 1), h, (z + 1 : Nat)⟩, .int .i64 0]), []) := by
 obtain ⟨p1, p2, p3, p4⟩ := znE hp
 obtain ⟨a1, a2, a3, a4, a5, a6⟩ := zjR p1
 simp only at a1 a2 a3 a4 a5 a6 p3
 have hpu := zoR ⟨c, h, z⟩ m (by simp only; omega)
 have hl := znC c h z a2 (by omega) (by omega)
 have hn := zkn c h z
 have hw := zqr c h z h (ordN c h z ++ [m]) a1 a2 (by omega) (by rw [List.length_append, hn]; simp; omega)
 rw [hp] at hpu
 rw [List.length_append, hn, List.length_singleton, List.map_append] at hw
 rw [hn] at hl
 clear p1 p2 p4 hp
 generalize wN c.length h (ordN c h z ++ [m]) (z + 1) = q at *
 generalize ordN c h z = w at *
 simp only [eRing, eMessage, List.map_cons, List.map_nil] at hpu hw hl ⊢
 rw [zjI zbB (by simp)]; simp -implicitDefEqProofs (disch := omega) only [z6O, getDT, go_sem, *]
theorem zz3 (c : List Message) (h z : Nat) (m : Message) (hp : pushR ⟨c, h, z⟩ m = 0) : callL G zr [.d (eRing ⟨c, h, z⟩), .d (eMessage m)] [] = some (.d (.tup [eRing ⟨wN c.length ((h + c.length - 1) % c.length) (m :: ordN c h z) (z + 1), ((h + c.length - 1) % c.length : Nat), (z + 1 : Nat)⟩, .int .i64 0]), []) := by
 obtain ⟨p1, p2, p3, p4⟩ := znE hp
 obtain ⟨a1, a2, a3, a4, a5, a6⟩ := zjR p1
 simp only at a1 a2 a3 a4 a5 a6 p3
 have hpu := zoR ⟨c, h, z⟩ m (by simp only; omega)
 have hl := znC c h z a2 (by omega) (by omega)
 have hn := zkn c h z
 have hj : (h + c.length - 1) % c.length < c.length := Nat.mod_lt _ (by omega)
 have e : ((h : Int) + c.length - 1).tmod c.length = (((h + c.length - 1) % c.length : Nat) : Int) := by
  rw [show (h : Int) + c.length - 1 = ((h + c.length - 1 : Nat) : Int) by omega, ← Int.ofNat_tmod]
 have hw := zqr c h z ((h + c.length - 1) % c.length) (m :: ordN c h z) a1 a2 (by omega) (by rw [List.length_cons, hn]; omega)
 rw [hp] at hpu
 rw [List.length_cons, hn, List.map_cons] at hw
 rw [hn] at hl
 clear p1 p2 p4 hp
 generalize (h + c.length - 1) % c.length = j at *
 generalize wN c.length j (m :: ordN c h z) (z + 1) = q at *
 generalize ordN c h z = w at *
 by_cases h0 : w = []
 · subst h0
   simp only [eRing, eMessage, List.map_nil] at hpu hw hl ⊢
   rw [zjI z8o (by simp)]; simp -implicitDefEqProofs (disch := omega) only [z3M, getDT, go_sem, *]
 · have he : (w.map eMessage).isEmpty = false := by cases w with | nil => exact absurd rfl h0 | cons x w => rfl
   simp only [eRing, eMessage] at hpu hw hl he ⊢
   rw [zjI z8o (by simp)]; simp -implicitDefEqProofs (disch := omega) only [z3M, getDT, go_sem, *]
end Go.Proofs.YtcjncbkhbllchaaGreat
