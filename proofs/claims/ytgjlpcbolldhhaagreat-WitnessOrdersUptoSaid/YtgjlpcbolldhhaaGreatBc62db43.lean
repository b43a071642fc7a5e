/-
  Sorting events.
-/
import Derived.Test.YtgjlpcbolldhhaaGreatB4a61b47
import Derived.Test.YtgjlpcbolldhhaaGreatB6dfdb13
set_option linter.unusedSimpArgs false
set_option linter.unusedVariables false
set_option maxHeartbeats 10000000
set_option maxRecDepth 100000
namespace Go.Sim
def zd0 {α : Type} (φ : α -> Prop) (r : α) : Prop := φ r
theorem zq {α : Type} {φ : α -> Prop} {c : Prop} [Decidable c] {A B : α} (h1 : c -> zd0 φ A) (h2 : ¬ c -> zd0 φ B) : zd0 φ (if c then A else B) := by split <;> simp_all
theorem zd0.some {α : Type} {φ : Option α -> Prop} {r : Option α} {a : α} (h : φ (some a)) (e : r = some a) : zd0 φ r := by rw [e]; exact h
attribute [go_sem] Nat.mul_one
end Go.Sim

namespace Go.Proofs.YtgjlpcbolldhhaaGreat
open Go Go.Sim
def zg (R : List Event) : za := [(1000000, .row ((R.map zm).map .d))]
def swS (R : List Event) (a b n i : Nat) : St := ⟨[(0, .osl 1000000 0 R.length), (1, .d (.int .i64 a)), (2, .d (.int .i64 b)), (3, .d (.int .i64 n)), (10, .d (.int .i64 i)), (1000000, .ref 1000000 1 0)], zg R⟩
def gE1 : Env := [(1000000, .ref 1000000 1 0)]
theorem zJr (a b n : Nat) (hab : a + n <= b) : ∀ p : Nat × List Event, p.1 <= n /\ p.2.length <= 4294967296 /\ b + n <= p.2.length -> zad G [] zfN (swS p.2 a b n p.1) = some (.exit 0, ⟨gE1, zg (Sort.swpR (n - p.1) (a + p.1) (b + p.1) p.2)⟩) := by
 refine zaI (fun p : Nat × List Event => n - p.1) _ (fun p => swS p.2 a b n p.1) _ fun p hp L ih => ?_;obtain ⟨i, R⟩ := p;obtain ⟨p1, p2, p4⟩ := hp;simp only at p1 p2 p4
 by_cases h0 : i < n
 · have i1 := ih (i + 1, Sort.swapL R (a + i) (b + i)) (by simp only [Sort.swapL_len]; omega) (by simp only; omega);clear ih;rw [show n - i = (n - (i + 1)) + 1 by omega, Sort.swpR];simp only [swS, zg, Sort.swapL_len] at i1;rw [Sort.swapL_eq (show a + i < R.length by omega) (show b + i < R.length by omega)] at i1 ⊢;rw [show ((R.set (a + i) R[b + i]).set (b + i) R[a + i]).map zm = ((R.map zm).set (a + i) (zm R[b + i])).set (b + i) (zm R[a + i]) by rw [zLx, zLx]] at i1;simp only [gE1] at i1;simp only [swS, zg, gE1, zfN];rw [show a + i + 1 = a + (i + 1) by omega, show b + i + 1 = b + (i + 1) by omega];have e1 : ((a : Int) + i).toNat = a + i := by omega
   have e2 : ((b : Int) + i).toNat = b + i := by omega
   have hs : ∀ X, (((R.map zm).set (a + i) X).map AV.d)[b + i]? = some (.d (zm R[b + i])) := by
    intro X;rw [zKQ, zMg (by omega), zKQ, zKR (by omega)]; rfl
   simp only [zLe, zK8, zK9, zLf, zLa, zKO, zKY, zK1, zK2, zK3, zKS, zK0, zKT, zN, zW] at i1
   (try simp -implicitDefEqProofs (disch := omega) only [e1, e2, hs, zf, go_sem, *]); (try simp only [pA, pB, pC, pD, pE, pF, pG, pH, pI, pJ, pK, pL, pM, pN, pO, pP, if_true, if_false]); repeat' (first | done | rfl | ((first | refine zp (fun hq => ?_) (fun hq => ?_) | refine zq (fun hq => ?_) (fun hq => ?_)) <;> (try (first | (exfalso; omega) | contradiction)) <;> (try simp -implicitDefEqProofs (disch := omega) only [e1, e2, hs, zf, go_sem, *]) <;> (try simp only [pA, pB, pC, pD, pE, pF, pG, pH, pI, pJ, pK, pL, pM, pN, pO, pP, if_true, if_false]))); (all_goals try rfl); (all_goals try (repeat' (first | done | rfl | (exfalso; omega) | contradiction | (refine zr (fun hq => ?_) (fun hq => ?_)))))
 · clear ih;obtain rfl : i = n := by omega
   rw [zLM, Sort.swpR];simp only [swS, zg, gE1, zfN]
   (try simp -implicitDefEqProofs (disch := omega) only [zf, go_sem, *]); (try simp only [pA, pB, pC, pD, pE, pF, pG, pH, pI, pJ, pK, pL, pM, pN, pO, pP, if_true, if_false]); repeat' (first | done | rfl | ((first | refine zp (fun hq => ?_) (fun hq => ?_) | refine zq (fun hq => ?_) (fun hq => ?_)) <;> (try (first | (exfalso; omega) | contradiction)) <;> (try simp -implicitDefEqProofs (disch := omega) only [zf, go_sem, *]) <;> (try simp only [pA, pB, pC, pD, pE, pF, pG, pH, pI, pJ, pK, pL, pM, pN, pO, pP, if_true, if_false]))); (all_goals try rfl); (all_goals try (repeat' (first | done | rfl | (exfalso; omega) | contradiction | (refine zr (fun hq => ?_) (fun hq => ?_)))))
theorem zif (R : List Event) (a b n : Nat) (f : Nat) (cs : List D) (hL : R.length <= 4294967296) (hab : a + n <= b) (hb : b + n <= R.length) : zt G ze4 [.osl 1000000 0 R.length, .d (.int .i64 a), .d (.int .i64 b), .d (.int .i64 n), .d (.fn f cs)] (zg R) = some (.d (.tup []), zg (Sort.swpR n a b R)) := by
 have hl := zJr a b n hab (0, R) ⟨by simp, hL, hb⟩;simp only [swS, zg, gE1, zL6, zLL] at hl ⊢;simp only [zLe, zK8, zK9, zLf, zLa, zKO, zKY, zK1, zK2, zK3, zKS, zK0, zKT, zN, zW] at hl;rw [zac zzL (by simp)]; simp -implicitDefEqProofs (disch := omega) only [zmN, zf, go_sem, *]; (try simp only [pA, pB, pC, pD, pE, pF, pG, pH, pI, pJ, pK, pL, pM, pN, pO, pP, if_true, if_false]); repeat' (first | done | rfl | ((first | refine zp (fun hq => ?_) (fun hq => ?_) | refine zq (fun hq => ?_) (fun hq => ?_)) <;> (try (first | (exfalso; omega) | contradiction)) <;> (try simp -implicitDefEqProofs (disch := omega) only [zf, go_sem, *]) <;> (try simp only [pA, pB, pC, pD, pE, pF, pG, pH, pI, pJ, pK, pL, pM, pN, pO, pP, if_true, if_false]))); (all_goals try rfl); (all_goals try (repeat' (first | done | rfl | (exfalso; omega) | contradiction | (refine zr (fun hq => ?_) (fun hq => ?_)))))
theorem zcz : ∀ (n a b : Nat) (R : List Event), (Sort.swpR n a b R).length = R.length := by
 intro n
 induction n with
 | zero => intro a b R; rfl
 | succ n ih => intro a b R; rw [Sort.swpR, ih, Sort.swapL_len]
def zaZ (m : Nat) : Nat -> Nat -> Nat -> List Event -> Nat × List Event
 | 0, i, _, R => (i, R)
 | k + 1, i, j, R => if i = j then (i, R) else if j < i then zaZ m k (i - j) j (Sort.swpR j (m - i) m R) else zaZ m k i (j - i) (Sort.swpR i (m - i) (m + j - i) R)
theorem zIl (m : Nat) : ∀ (k i j : Nat) (R : List Event), Sort.rotR m k i j R = Sort.swpR (zaZ m k i j R).1 (m - (zaZ m k i j R).1) m (zaZ m k i j R).2 := by
 intro k
 induction k with
 | zero => intro i j R; rfl
 | succ k ih =>
  intro i j R;rw [Sort.rotR, zaZ]
  split
  · rfl
  split
  · exact ih _ _ _
  · exact ih _ _ _
theorem zIk (m : Nat) : ∀ (k i j : Nat) (R : List Event), 0 < i -> 0 < j -> i <= m -> m + j <= R.length -> i + j <= k -> (zaZ m k i j R).1 <= m /\ m + (zaZ m k i j R).1 <= R.length /\ (zaZ m k i j R).2.length = R.length := by
 intro k
 induction k with
 | zero => intro i j R h1 h2 h3 h4 h5; omega
 | succ k ih =>
  intro i j R h1 h2 h3 h4 h5;rw [zaZ]
  split
  · exact ⟨h3, by omega, rfl⟩
  split
  · have := ih (i - j) j (Sort.swpR j (m - i) m R) (by omega) h2 (by omega) (by rw [zcz]; exact h4) (by omega);rw [zcz] at this; exact this
  · have := ih i (j - i) (Sort.swpR i (m - i) (m + j - i) R) h1 (by omega) h3 (by rw [zcz]; omega) (by omega);rw [zcz] at this; exact this
def roS (m : Nat) (f : Nat) (cs : List D) (i j : Nat) (R : List Event) : St := ⟨[(0, .osl 1000000 0 R.length), (2, .d (.int .i64 m)), (4, .d (.fn f cs)), (10, .d (.int .i64 i)), (11, .d (.int .i64 j)), (1000000, .ref 1000000 1 0)], zg R⟩
def roX (m : Nat) (f : Nat) (cs : List D) (i : Nat) (R : List Event) : St := ⟨[(0, .osl 1000000 0 R.length), (2, .d (.int .i64 m)), (4, .d (.fn f cs)), (10, .d (.int .i64 i)), (1000000, .ref 1000000 1 0)], zg R⟩
theorem zIi (m : Nat) (f : Nat) (cs : List D) : ∀ p : Nat × Nat × Nat × List Event, p.2.2.2.length <= 4294967296 /\ 0 < p.2.1 /\ 0 < p.2.2.1 /\ p.2.1 <= m /\ m + p.2.2.1 <= p.2.2.2.length /\ p.2.1 + p.2.2.1 <= p.1 ->
    zad G [] zes (roS m f cs p.2.1 p.2.2.1 p.2.2.2) = some (.exit 0, roX m f cs (zaZ m p.1 p.2.1 p.2.2.1 p.2.2.2).1 (zaZ m p.1 p.2.1 p.2.2.1 p.2.2.2).2) := by
 refine zaI (fun p : Nat × Nat × Nat × List Event => p.1) _ (fun p => roS m f cs p.2.1 p.2.2.1 p.2.2.2) _ fun p hp L ih => ?_;obtain ⟨k, i, j, R⟩ := p;obtain ⟨p1, p2, p3, p4, p5, p6⟩ := hp;simp only at p1 p2 p3 p4 p5 p6
 cases k with
 | zero => omega
 | succ k =>
  simp only [zaZ]
  by_cases c : i = j
  · clear ih;rw [zKN c];simp only [roS, roX, zg, zes];subst c
    (try simp -implicitDefEqProofs (disch := omega) only [zf, go_sem, *]); (try simp only [pA, pB, pC, pD, pE, pF, pG, pH, pI, pJ, pK, pL, pM, pN, pO, pP, if_true, if_false]); repeat' (first | done | rfl | ((first | refine zp (fun hq => ?_) (fun hq => ?_) | refine zq (fun hq => ?_) (fun hq => ?_)) <;> (try (first | (exfalso; omega) | contradiction)) <;> (try simp -implicitDefEqProofs (disch := omega) only [zf, go_sem, *]) <;> (try simp only [pA, pB, pC, pD, pE, pF, pG, pH, pI, pJ, pK, pL, pM, pN, pO, pP, if_true, if_false]))); (all_goals try rfl); (all_goals try (repeat' (first | done | rfl | (exfalso; omega) | contradiction | (refine zr (fun hq => ?_) (fun hq => ?_)))))
  · rw [zKM c]
    by_cases c2 : j < i
    · have i1 := ih (k, i - j, j, Sort.swpR j (m - i) m R) (by simp only [zcz]; omega) (by simp only; omega);clear ih;rw [zKN c2];have hw := zif R (m - i) m j f cs p1 (by omega) (by omega);rw [show ((m - i : Nat) : Int) = (m : Int) - i by omega] at hw;simp only [roS, zg, zcz] at i1 hw;rw [show ((i - j : Nat) : Int) = (i : Int) - j by omega] at i1;simp only [roS, zg, zes];generalize Sort.swpR j (m - i) m R = R2 at *;skip
      (try simp -implicitDefEqProofs (disch := omega) only [zf, go_sem, *]); (try simp only [pA, pB, pC, pD, pE, pF, pG, pH, pI, pJ, pK, pL, pM, pN, pO, pP, if_true, if_false]); repeat' (first | done | rfl | ((first | refine zp (fun hq => ?_) (fun hq => ?_) | refine zq (fun hq => ?_) (fun hq => ?_)) <;> (try (first | (exfalso; omega) | contradiction)) <;> (try simp -implicitDefEqProofs (disch := omega) only [zf, go_sem, *]) <;> (try simp only [pA, pB, pC, pD, pE, pF, pG, pH, pI, pJ, pK, pL, pM, pN, pO, pP, if_true, if_false]))); (all_goals try rfl); (all_goals try (repeat' (first | done | rfl | (exfalso; omega) | contradiction | (refine zr (fun hq => ?_) (fun hq => ?_)))))
    · have i1 := ih (k, i, j - i, Sort.swpR i (m - i) (m + j - i) R) (by simp only [zcz]; omega) (by simp only; omega);clear ih;rw [zKM c2];have hw := zif R (m - i) (m + j - i) i f cs p1 (by omega) (by omega);rw [show ((m - i : Nat) : Int) = (m : Int) - i by omega, show ((m + j - i : Nat) : Int) = (m : Int) + j - i by omega] at hw;simp only [roS, zg, zcz] at i1 hw;rw [show ((j - i : Nat) : Int) = (j : Int) - i by omega] at i1;simp only [roS, zg, zes];generalize Sort.swpR i (m - i) (m + j - i) R = R2 at *;skip
      (try simp -implicitDefEqProofs (disch := omega) only [zf, go_sem, *]); (try simp only [pA, pB, pC, pD, pE, pF, pG, pH, pI, pJ, pK, pL, pM, pN, pO, pP, if_true, if_false]); repeat' (first | done | rfl | ((first | refine zp (fun hq => ?_) (fun hq => ?_) | refine zq (fun hq => ?_) (fun hq => ?_)) <;> (try (first | (exfalso; omega) | contradiction)) <;> (try simp -implicitDefEqProofs (disch := omega) only [zf, go_sem, *]) <;> (try simp only [pA, pB, pC, pD, pE, pF, pG, pH, pI, pJ, pK, pL, pM, pN, pO, pP, if_true, if_false]))); (all_goals try rfl); (all_goals try (repeat' (first | done | rfl | (exfalso; omega) | contradiction | (refine zr (fun hq => ?_) (fun hq => ?_)))))
theorem zIm (R : List Event) (a m b : Nat) (f : Nat) (cs : List D) (hL : R.length <= 4294967296) (h1 : a < m) (h2 : m < b) (h3 : b <= R.length) : zt G zc5 [.osl 1000000 0 R.length, .d (.int .i64 a), .d (.int .i64 m), .d (.int .i64 b), .d (.fn f cs)] (zg R) = some (.d (.tup []), zg (Sort.rotR m (b - a) (m - a) (b - m) R)) := by
 have hl := zIi m f cs (b - a, m - a, b - m, R) ⟨hL, by simp only; omega, by simp only; omega, by simp only; omega, by simp only; omega, by simp only; omega⟩;have hb := zIk m (b - a) (m - a) (b - m) R (by omega) (by omega) (by omega) (by omega) (by omega);rw [zIl];simp only at hl;generalize zaZ m (b - a) (m - a) (b - m) R = p at *;obtain ⟨i, R2⟩ := p;simp only at hl hb ⊢;have hw := zif R2 (m - i) m i f cs (by omega) (by omega) (by omega);rw [show ((m - i : Nat) : Int) = (m : Int) - i by omega] at hw;rw [hb.2.2] at hw;simp only [roS, roX, zg, hb.2.2] at hl hw ⊢;rw [show ((m - a : Nat) : Int) = (m : Int) - a by omega, show ((b - m : Nat) : Int) = (b : Int) - m by omega] at hl;generalize Sort.swpR i (m - i) m R2 = R3 at *;skip;rw [zac zzK (by simp)]; simp -implicitDefEqProofs (disch := omega) only [zmM, zf, go_sem, *]; (try simp only [pA, pB, pC, pD, pE, pF, pG, pH, pI, pJ, pK, pL, pM, pN, pO, pP, if_true, if_false]); repeat' (first | done | rfl | ((first | refine zp (fun hq => ?_) (fun hq => ?_) | refine zq (fun hq => ?_) (fun hq => ?_)) <;> (try (first | (exfalso; omega) | contradiction)) <;> (try simp -implicitDefEqProofs (disch := omega) only [zf, go_sem, *]) <;> (try simp only [pA, pB, pC, pD, pE, pF, pG, pH, pI, pJ, pK, pL, pM, pN, pO, pP, if_true, if_false]))); (all_goals try rfl); (all_goals try (repeat' (first | done | rfl | (exfalso; omega) | contradiction | (refine zr (fun hq => ?_) (fun hq => ?_)))))
theorem zgn (x y : Event) : zt G z8 [.d (zm x), .d (zm y)] [] = some (.d (.int .i64 (z5 x.stamp y.stamp)), []) := by
 have h := zxY x.stamp y.stamp;simp only [zm];rw [zac zzM (by simp)]; simp -implicitDefEqProofs (disch := omega) only [zmO, zf, go_sem, *]; (try simp only [pA, pB, pC, pD, pE, pF, pG, pH, pI, pJ, pK, pL, pM, pN, pO, pP, if_true, if_false]); repeat' (first | done | rfl | ((first | refine zp (fun hq => ?_) (fun hq => ?_) | refine zq (fun hq => ?_) (fun hq => ?_)) <;> (try (first | (exfalso; omega) | contradiction)) <;> (try simp -implicitDefEqProofs (disch := omega) only [zf, go_sem, *]) <;> (try simp only [pA, pB, pC, pD, pE, pF, pG, pH, pI, pJ, pK, pL, pM, pN, pO, pP, if_true, if_false]))); (all_goals try rfl); (all_goals try (repeat' (first | done | rfl | (exfalso; omega) | contradiction | (refine zr (fun hq => ?_) (fun hq => ?_)))))
def stF (e : Event) : Int := e.stamp
def inS (N : Nat) (R : List Event) (a b i j : Nat) : St := ⟨[(0, .osl 1000000 0 N), (1, .d (.int .i64 a)), (2, .d (.int .i64 b)), (3, .d (.fn z8 [])), (8, .d (.int .i64 i)), (9, .d (.int .i64 j)), (1000000, .ref 1000000 1 0)], zg R⟩
def inX (N : Nat) (R : List Event) (a b i : Nat) : St := ⟨[(0, .osl 1000000 0 N), (1, .d (.int .i64 a)), (2, .d (.int .i64 b)), (3, .d (.fn z8 [])), (8, .d (.int .i64 i)), (1000000, .ref 1000000 1 0)], zg R⟩
theorem zz8 (x : Event) (X P Y : List Event) (b N : Nat) (hN : N = X.length + P.length + 1 + Y.length) (hL : N <= 4294967296) : ∀ j, j <= P.length -> zad G [] zdq (inS N (Sort.insR x X P Y j) X.length b (X.length + P.length) (X.length + j)) = some (.exit 2, inX N (Sort.insR x X P Y (Sort.insJ stF x P j)) X.length b (X.length + P.length)) := by
 refine zaI (fun j => j) (fun j => j <= P.length) (fun j => inS N (Sort.insR x X P Y j) X.length b (X.length + P.length) (X.length + j)) (fun j => some (.exit 2, inX N (Sort.insR x X P Y (Sort.insJ stF x P j)) X.length b (X.length + P.length))) fun j hj L ih => ?_;have hlen := Sort.insR_len x X P Y hj;rw [<- hN] at hlen
 cases j with
 | zero =>
  clear ih;simp only [inS, inX, zg, Sort.insJ, zdq];generalize Sort.insR x X P Y 0 = R at *
  (try simp -implicitDefEqProofs (disch := omega) only [zf, go_sem, *]); (try simp only [pA, pB, pC, pD, pE, pF, pG, pH, pI, pJ, pK, pL, pM, pN, pO, pP, if_true, if_false]); repeat' (first | done | rfl | ((first | refine zp (fun hq => ?_) (fun hq => ?_) | refine zq (fun hq => ?_) (fun hq => ?_)) <;> (try (first | (exfalso; omega) | contradiction)) <;> (try simp -implicitDefEqProofs (disch := omega) only [zf, go_sem, *]) <;> (try simp only [pA, pB, pC, pD, pE, pF, pG, pH, pI, pJ, pK, pL, pM, pN, pO, pP, if_true, if_false]))); (all_goals try rfl); (all_goals try (repeat' (first | done | rfl | (exfalso; omega) | contradiction | (refine zr (fun hq => ?_) (fun hq => ?_)))))
 | succ j =>
  have i1 := ih j (by omega) (by omega);clear ih;have h1 := Sort.insR_at x X P Y hj;have h2 := Sort.insR_below x X P Y (show j < P.length by omega);have h3 := Sort.insR_swap x X P Y (show j < P.length by omega);have hc := zgn x P[j];have hJ : Sort.insJ stF x P (j + 1) = if x.stamp < P[j].stamp then Sort.insJ stF x P j else j + 1 := by
   rw [Sort.insJ, zKR (by omega)]
   by_cases q : x.stamp < P[j].stamp
   · rw [zKN q, zKN (by simp [stF, q])]
   · rw [zKM q, zKM (by simp [stF, q])]
  rw [hJ];rw [<- h3] at i1;rw [<- zLA] at h1;have e1 : ((X.length : Int) + ((j : Int) + 1)).toNat = X.length + j + 1 := by omega
  have e2 : ((X.length : Int) + ((j : Int) + 1) - 1).toNat = X.length + j := by omega
  have e4 : ((X.length : Int) + (j : Int)).toNat = X.length + j := by omega
  have e3 : (X.length : Int) + ((j : Int) + 1) - 1 = X.length + j := by omega
  have hcm : z5 x.stamp P[j].stamp < 0 ↔ x.stamp < P[j].stamp := by unfold z5; split <;> (try split) <;> omega
  generalize hy : P[j] = y at *;clear h3 hJ hy;generalize hR : Sort.insR x X P Y (j + 1) = R at *;have ew : ((R.set (X.length + j + 1) y).set (X.length + j) x).map zm = ((R.map zm).set (X.length + j + 1) (zm y)).set (X.length + j) (zm x) := by rw [zLx, zLx]
  simp only [inS, inX, zg] at i1;rw [ew] at i1;have g1 : ((R.map zm).map AV.d)[X.length + j + 1]? = some (.d (zm x)) := by rw [zKQ, zKQ, h1]; rfl
  have g2 : ((R.map zm).map AV.d)[X.length + j]? = some (.d (zm y)) := by rw [zKQ, zKQ, h2]; rfl
  have g3 : ∀ Z, (((R.map zm).set (X.length + j + 1) Z).map AV.d)[X.length + j]? = some (.d (zm y)) := by
   intro Z;rw [zKQ, zMg (by omega), zKQ, h2]; rfl
  have hb : X.length + j + 1 < N := by omega
  clear hN
  by_cases c : x.stamp < y.stamp
  · rw [zKN c];have c2 := hcm.2 c;clear hR ew hcm;generalize z5 x.stamp y.stamp = q at *;generalize Sort.insR x X P Y (Sort.insJ stF x P j) = R2 at *;simp only [inS, inX, zg, zdq];simp only [zLe, zK8, zK9, zLf, zLa, zKO, zKY, zK1, zK2, zK3, zKS, zK0, zKT, zN, zW] at i1
    (try simp -implicitDefEqProofs (disch := omega) only [e1, e2, e3, e4, g1, g2, g3, zf, go_sem, *]); (try simp only [pA, pB, pC, pD, pE, pF, pG, pH, pI, pJ, pK, pL, pM, pN, pO, pP, if_true, if_false]); repeat' (first | done | rfl | ((first | refine zp (fun hq => ?_) (fun hq => ?_) | refine zq (fun hq => ?_) (fun hq => ?_)) <;> (try (first | (exfalso; omega) | contradiction)) <;> (try simp -implicitDefEqProofs (disch := omega) only [e1, e2, e3, e4, g1, g2, g3, zf, go_sem, *]) <;> (try simp only [pA, pB, pC, pD, pE, pF, pG, pH, pI, pJ, pK, pL, pM, pN, pO, pP, if_true, if_false]))); (all_goals try rfl); (all_goals try (repeat' (first | done | rfl | (exfalso; omega) | contradiction | (refine zr (fun hq => ?_) (fun hq => ?_)))))
  · rw [zKM c, hR];have c2 : ¬ z5 x.stamp y.stamp < 0 := fun q => c (hcm.1 q);clear hR ew hcm i1;generalize z5 x.stamp y.stamp = q at *;simp only [inS, inX, zg, zdq]
    (try simp -implicitDefEqProofs (disch := omega) only [e1, e2, e3, e4, g1, g2, g3, zf, go_sem, *]); (try simp only [pA, pB, pC, pD, pE, pF, pG, pH, pI, pJ, pK, pL, pM, pN, pO, pP, if_true, if_false]); repeat' (first | done | rfl | ((first | refine zp (fun hq => ?_) (fun hq => ?_) | refine zq (fun hq => ?_) (fun hq => ?_)) <;> (try (first | (exfalso; omega) | contradiction)) <;> (try simp -implicitDefEqProofs (disch := omega) only [e1, e2, e3, e4, g1, g2, g3, zf, go_sem, *]) <;> (try simp only [pA, pB, pC, pD, pE, pF, pG, pH, pI, pJ, pK, pL, pM, pN, pO, pP, if_true, if_false]))); (all_goals try rfl); (all_goals try (repeat' (first | done | rfl | (exfalso; omega) | contradiction | (refine zr (fun hq => ?_) (fun hq => ?_)))))
def zbp (X D Y : List Event) (k : Nat) : List Event := X ++ (Sort.sortS stF (D.take k) ++ (D.drop k ++ Y))
theorem zIX (X D Y : List Event) {k : Nat} (h : k < D.length) : zbp X D Y k = Sort.insR D[k] X (Sort.sortS stF (D.take k)) (D.drop (k + 1) ++ Y) (Sort.sortS stF (D.take k)).length := by
 rw [Sort.insR_end];unfold zbp;rw [zMr h]; rfl
theorem zIY (X D Y : List Event) {k : Nat} (h : k < D.length) : Sort.insR D[k] X (Sort.sortS stF (D.take k)) (D.drop (k + 1) ++ Y) (Sort.insJ stF D[k] (Sort.sortS stF (D.take k)) (Sort.sortS stF (D.take k)).length) = zbp X D Y (k + 1) := by
 unfold zbp;rw [zMG, zKR h];simp only [Option.toList];rw [Sort.sortS_snoc, Sort.insB_J];simp only [Sort.insR, zK5, zLW]
def ioS (N : Nat) (R : List Event) (a b i : Nat) : St := ⟨[(0, .osl 1000000 0 N), (1, .d (.int .i64 a)), (2, .d (.int .i64 b)), (3, .d (.fn z8 [])), (8, .d (.int .i64 i)), (1000000, .ref 1000000 1 0)], zg R⟩
theorem zAn (X D Y : List Event) (N : Nat) (hN : N = X.length + D.length + Y.length) (hL : N <= 4294967296) : ∀ k, 1 <= k /\ (k <= D.length \/ k = 1) -> zad G [] zco (ioS N (zbp X D Y k) X.length (X.length + D.length) (X.length + k)) = some (.exit 0, ⟨gE1, zg (X ++ (Sort.sortS stF D ++ Y))⟩) := by
 refine zaI (fun k => D.length - k) (fun k => 1 <= k /\ (k <= D.length \/ k = 1)) (fun k => ioS N (zbp X D Y k) X.length (X.length + D.length) (X.length + k)) (fun _ => some (.exit 0, ⟨gE1, zg (X ++ (Sort.sortS stF D ++ Y))⟩)) fun k hk L ih => ?_
 by_cases c : k < D.length
 · have i1 := ih (k + 1) (by omega) (by omega);clear ih;have hP : (Sort.sortS stF (D.take k)).length = k := by rw [Sort.sortS_len, zLc]; omega
   have hl := zz8 D[k] X (Sort.sortS stF (D.take k)) (D.drop (k + 1) ++ Y) (X.length + D.length) N (by rw [hP, zKO, zKZ]; omega) hL _ (zKV _);rw [<- zIX X D Y c, zIY X D Y c, hP] at hl;generalize zbp X D Y k = R1 at *;generalize zbp X D Y (k + 1) = R2 at *;generalize X ++ (Sort.sortS stF D ++ Y) = R3 at *;have hb : X.length + k + 1 <= 4294967296 := by omega
   clear hN hP;rw [<- zLA] at i1;simp only [ioS, inS, inX, zg, gE1] at i1 hl;simp only [ioS, zg, gE1, zco];simp only [zLe, zK8, zK9, zLf, zLa, zKO, zKY, zK1, zK2, zK3, zKS, zK0, zKT, zN, zW] at i1 hl
   (try simp -implicitDefEqProofs (disch := omega) only [zf, go_sem, *]); (try simp only [pA, pB, pC, pD, pE, pF, pG, pH, pI, pJ, pK, pL, pM, pN, pO, pP, if_true, if_false]); repeat' (first | done | rfl | ((first | refine zp (fun hq => ?_) (fun hq => ?_) | refine zq (fun hq => ?_) (fun hq => ?_)) <;> (try (first | (exfalso; omega) | contradiction)) <;> (try simp -implicitDefEqProofs (disch := omega) only [zf, go_sem, *]) <;> (try simp only [pA, pB, pC, pD, pE, pF, pG, pH, pI, pJ, pK, pL, pM, pN, pO, pP, if_true, if_false]))); (all_goals try rfl); (all_goals try (repeat' (first | done | rfl | (exfalso; omega) | contradiction | (refine zr (fun hq => ?_) (fun hq => ?_)))))
 · clear ih;have e : zbp X D Y k = X ++ (Sort.sortS stF D ++ Y) := by
    unfold zbp;rw [zLK (by omega), zLU (by omega), zLT]
   rw [e];generalize X ++ (Sort.sortS stF D ++ Y) = R at *;clear hN e;simp only [ioS, zg, gE1, zco]
   (try simp -implicitDefEqProofs (disch := omega) only [zf, go_sem, *]); (try simp only [pA, pB, pC, pD, pE, pF, pG, pH, pI, pJ, pK, pL, pM, pN, pO, pP, if_true, if_false]); repeat' (first | done | rfl | ((first | refine zp (fun hq => ?_) (fun hq => ?_) | refine zq (fun hq => ?_) (fun hq => ?_)) <;> (try (first | (exfalso; omega) | contradiction)) <;> (try simp -implicitDefEqProofs (disch := omega) only [zf, go_sem, *]) <;> (try simp only [pA, pB, pC, pD, pE, pF, pG, pH, pI, pJ, pK, pL, pM, pN, pO, pP, if_true, if_false]))); (all_goals try rfl); (all_goals try (repeat' (first | done | rfl | (exfalso; omega) | contradiction | (refine zr (fun hq => ?_) (fun hq => ?_)))))
theorem zrL (X D Y : List Event) (hL : X.length + D.length + Y.length <= 4294967296) : zt G zc4 [.osl 1000000 0 (X.length + D.length + Y.length), .d (.int .i64 X.length), .d (.int .i64 ((X.length + D.length : Nat) : Int)), .d (.fn z8 [])] (zg (X ++ (D ++ Y))) = some (.d (.tup []), zg (X ++ (Sort.sortS stF D ++ Y))) := by
 have hl := zAn X D Y _ rfl hL 1 ⟨zKV _, .inr rfl⟩;have e : zbp X D Y 1 = X ++ (D ++ Y) := by
  unfold zbp
  congr 1
  cases D with
  | nil => rfl
  | cons d D => rfl
 rw [e] at hl;have hb : X.length <= 4294967296 := by omega
 generalize X ++ (D ++ Y) = R at *;generalize X ++ (Sort.sortS stF D ++ Y) = R2 at *;generalize X.length + D.length + Y.length = N at *;generalize X.length + D.length = b at *;simp only [ioS, zg, gE1] at hl ⊢;simp only [zLe, zK8, zK9, zLf, zLa, zKO, zKY, zK1, zK2, zK3, zKS, zK0, zKT, zN, zW] at hl;rw [zac zht (by simp)]; simp -implicitDefEqProofs (disch := omega) only [zff, zf, go_sem, *]; (try simp only [pA, pB, pC, pD, pE, pF, pG, pH, pI, pJ, pK, pL, pM, pN, pO, pP, if_true, if_false]); repeat' (first | done | rfl | ((first | refine zp (fun hq => ?_) (fun hq => ?_) | refine zq (fun hq => ?_) (fun hq => ?_)) <;> (try (first | (exfalso; omega) | contradiction)) <;> (try simp -implicitDefEqProofs (disch := omega) only [zf, go_sem, *]) <;> (try simp only [pA, pB, pC, pD, pE, pF, pG, pH, pI, pJ, pK, pL, pM, pN, pO, pP, if_true, if_false]))); (all_goals try rfl); (all_goals try (repeat' (first | done | rfl | (exfalso; omega) | contradiction | (refine zr (fun hq => ?_) (fun hq => ?_)))))
theorem zbT {R : List Event} {i : Nat} {x : Event} (h : R[i]? = some x) : ((R.map zm).map AV.d)[i]? = some (.d (zm x)) := by rw [zKQ, zKQ, h]; rfl
theorem zc1 {R : List Event} {i : Nat} {x : Event} (h : R[i]? = some x) : i < R.length := by
 rcases zLV i R.length with c | c
 · exact c
 · rw [zMh c] at h; cases h
theorem zfH {x y : Int} (h0 : 0 <= x) (h1 : x <= 8589934592) (h : x / 2 = y) : IntKind.i64.wrap (x.fdiv (2 ^ min 1 64)) = y := by
 rw [show (2 : Int) ^ min 1 64 = 2 from rfl, zMZ _ (by omega), h];exact wr (by omega)
def s0P (B : List Event) (x : Event) (h : Nat) : Bool := (B[h]?).any fun y => decide (y.stamp < x.stamp)
def s0S (N : Nat) (R : List Event) (a i j : Nat) : St := ⟨[(0, .osl 1000000 0 N), (1, .d (.int .i64 a)), (4, .d (.fn z8 [])), (10, .d (.int .i64 i)), (11, .d (.int .i64 j)), (1000000, .ref 1000000 1 0)], zg R⟩
def s0X (N : Nat) (R : List Event) (a i : Nat) : St := ⟨[(0, .osl 1000000 0 N), (1, .d (.int .i64 a)), (10, .d (.int .i64 i)), (1000000, .ref 1000000 1 0)], zg R⟩
theorem zIu (R B : List Event) (x : Event) (a m N : Nat) (hN : R.length = N) (hL : N <= 4294967296) (hx : R[a]? = some x) (hB : ∀ t (h : t < B.length), R[m + t]? = some B[t]) : ∀ p : Nat × Nat × Nat, p.2.1 <= p.2.2 /\ p.2.2 <= B.length /\ p.2.2 - p.2.1 <= p.1 ->
    zad G [] zfO (s0S N R a (m + p.2.1) (m + p.2.2)) = some (.exit 0, s0X N R a (m + Sort.bs (s0P B x) p.1 p.2.1 p.2.2)) := by
 refine zaI (fun p : Nat × Nat × Nat => p.1 + (p.2.2 - p.2.1)) _ (fun p => s0S N R a (m + p.2.1) (m + p.2.2)) _ fun p hp L ih => ?_;obtain ⟨k, i, j⟩ := p;obtain ⟨p1, p2, p3⟩ := hp;simp only at p1 p2 p3;have hxl := zc1 hx;have gx := zbT hx
 by_cases c : i < j
 · cases k with
   | zero => omega
   | succ k =>
    have hm : (i + j) / 2 < B.length := by omega
    have hy := hB _ hm;have hyl := zc1 hy;have gy := zbT hy;have hc := zgn B[(i + j) / 2] x;have e1 : IntKind.i64.wrap (((m : Int) + i + ((m : Int) + j)).fdiv (2 ^ min 1 64)) = (m : Int) + ((i + j) / 2 : Nat) := zfH (by omega) (by omega) (by omega);have e5 : ((m : Int) + ((i + j) / 2 : Nat)).toNat = m + (i + j) / 2 := by omega
    have hP : s0P B x ((i + j) / 2) = decide (B[(i + j) / 2].stamp < x.stamp) := by unfold s0P; rw [zKR hm]; rfl
    have i1 := ih (k, (i + j) / 2 + 1, j) ⟨by simp only; omega, p2, by simp only; omega⟩ (by simp only; omega);have i2 := ih (k, i, (i + j) / 2) ⟨by simp only; omega, by simp only; omega, by simp only; omega⟩ (by simp only; omega);clear ih;rw [Sort.bs, zKN c, hP];have hcm : z5 B[(i + j) / 2].stamp x.stamp < 0 ↔ B[(i + j) / 2].stamp < x.stamp := by unfold z5; split <;> (try split) <;> omega
    generalize B[(i + j) / 2] = y at *;have hmm : m + (i + j) / 2 < N := by omega
    have haa : a < N := by omega
    have hij : m + i + (m + j) <= 8589934592 := by omega
    generalize hq : (i + j) / 2 = q at *;simp only [s0S, s0X, zg] at i1 i2;clear hP hB hy hx hm hN;simp only [s0S, s0X, zg, zfO]
    by_cases c2 : y.stamp < x.stamp
    · rw [zKN (decide_eq_true c2)];have c3 := hcm.2 c2;clear hcm i2;generalize z5 y.stamp x.stamp = z at *;generalize Sort.bs (s0P B x) k (q + 1) j = r at *;rw [show m + (q + 1) = m + q + 1 from rfl] at i1;simp only [zLe, zK8, zK9, zLf, zLa, zKO, zKY, zK1, zK2, zK3, zKS, zK0, zKT, zN, zW] at i1
      (try simp -implicitDefEqProofs (disch := omega) only [gx, gy, e1, e5, zf, go_sem, *]); (try simp only [pA, pB, pC, pD, pE, pF, pG, pH, pI, pJ, pK, pL, pM, pN, pO, pP, if_true, if_false]); repeat' (first | done | rfl | ((first | refine zp (fun hq => ?_) (fun hq => ?_) | refine zq (fun hq => ?_) (fun hq => ?_)) <;> (try (first | (exfalso; omega) | contradiction)) <;> (try simp -implicitDefEqProofs (disch := omega) only [gx, gy, e1, e5, zf, go_sem, *]) <;> (try simp only [pA, pB, pC, pD, pE, pF, pG, pH, pI, pJ, pK, pL, pM, pN, pO, pP, if_true, if_false]))); (all_goals try rfl); (all_goals try (repeat' (first | done | rfl | (exfalso; omega) | contradiction | (refine zr (fun hq => ?_) (fun hq => ?_)))))
    · rw [zKM (by rw [decide_eq_true_eq]; exact c2)];have c3 : ¬ z5 y.stamp x.stamp < 0 := fun h => c2 (hcm.1 h);clear hcm i1;generalize z5 y.stamp x.stamp = z at *;generalize Sort.bs (s0P B x) k i q = r at *;simp only [zLe, zK8, zK9, zLf, zLa, zKO, zKY, zK1, zK2, zK3, zKS, zK0, zKT, zN, zW] at i2
      (try simp -implicitDefEqProofs (disch := omega) only [gx, gy, e1, e5, zf, go_sem, *]); (try simp only [pA, pB, pC, pD, pE, pF, pG, pH, pI, pJ, pK, pL, pM, pN, pO, pP, if_true, if_false]); repeat' (first | done | rfl | ((first | refine zp (fun hq => ?_) (fun hq => ?_) | refine zq (fun hq => ?_) (fun hq => ?_)) <;> (try (first | (exfalso; omega) | contradiction)) <;> (try simp -implicitDefEqProofs (disch := omega) only [gx, gy, e1, e5, zf, go_sem, *]) <;> (try simp only [pA, pB, pC, pD, pE, pF, pG, pH, pI, pJ, pK, pL, pM, pN, pO, pP, if_true, if_false]))); (all_goals try rfl); (all_goals try (repeat' (first | done | rfl | (exfalso; omega) | contradiction | (refine zr (fun hq => ?_) (fun hq => ?_)))))
 · clear ih;have e : Sort.bs (s0P B x) k i j = i := by
    cases k with
    | zero => rfl
    | succ k => rw [Sort.bs, zKM c]
   rw [e];simp only [s0S, s0X, zg, zfO];clear hB e
   (try simp -implicitDefEqProofs (disch := omega) only [zf, go_sem, *]); (try simp only [pA, pB, pC, pD, pE, pF, pG, pH, pI, pJ, pK, pL, pM, pN, pO, pP, if_true, if_false]); repeat' (first | done | rfl | ((first | refine zp (fun hq => ?_) (fun hq => ?_) | refine zq (fun hq => ?_) (fun hq => ?_)) <;> (try (first | (exfalso; omega) | contradiction)) <;> (try simp -implicitDefEqProofs (disch := omega) only [zf, go_sem, *]) <;> (try simp only [pA, pB, pC, pD, pE, pF, pG, pH, pI, pJ, pK, pL, pM, pN, pO, pP, if_true, if_false]))); (all_goals try rfl); (all_goals try (repeat' (first | done | rfl | (exfalso; omega) | contradiction | (refine zr (fun hq => ?_) (fun hq => ?_)))))
def s2P (B : List Event) (x : Event) (h : Nat) : Bool := (B[h]?).any fun y => !decide (x.stamp < y.stamp)
def s2S (N : Nat) (R : List Event) (a i j : Nat) : St := ⟨[(0, .osl 1000000 0 N), (2, .d (.int .i64 a)), (4, .d (.fn z8 [])), (14, .d (.int .i64 i)), (15, .d (.int .i64 j)), (1000000, .ref 1000000 1 0)], zg R⟩
def s2X (N : Nat) (R : List Event) (a i : Nat) : St := ⟨[(0, .osl 1000000 0 N), (2, .d (.int .i64 a)), (14, .d (.int .i64 i)), (1000000, .ref 1000000 1 0)], zg R⟩
theorem zIw (R B : List Event) (x : Event) (a m N : Nat) (hN : R.length = N) (hL : N <= 4294967296) (hx : R[a]? = some x) (hB : ∀ t (h : t < B.length), R[m + t]? = some B[t]) : ∀ p : Nat × Nat × Nat, p.2.1 <= p.2.2 /\ p.2.2 <= B.length /\ p.2.2 - p.2.1 <= p.1 ->
    zad G [] zfQ (s2S N R a (m + p.2.1) (m + p.2.2)) = some (.exit 4, s2X N R a (m + Sort.bs (s2P B x) p.1 p.2.1 p.2.2)) := by
 refine zaI (fun p : Nat × Nat × Nat => p.1 + (p.2.2 - p.2.1)) _ (fun p => s2S N R a (m + p.2.1) (m + p.2.2)) _ fun p hp L ih => ?_;obtain ⟨k, i, j⟩ := p;obtain ⟨p1, p2, p3⟩ := hp;simp only at p1 p2 p3;have hxl := zc1 hx;have gx := zbT hx
 by_cases c : i < j
 · cases k with
   | zero => omega
   | succ k =>
    have hm : (i + j) / 2 < B.length := by omega
    have hy := hB _ hm;have hyl := zc1 hy;have gy := zbT hy;have hc := zgn x B[(i + j) / 2];have e1 : IntKind.i64.wrap (((m : Int) + i + ((m : Int) + j)).fdiv (2 ^ min 1 64)) = (m : Int) + ((i + j) / 2 : Nat) := zfH (by omega) (by omega) (by omega);have e5 : ((m : Int) + ((i + j) / 2 : Nat)).toNat = m + (i + j) / 2 := by omega
    have hP : s2P B x ((i + j) / 2) = !decide (x.stamp < B[(i + j) / 2].stamp) := by unfold s2P; rw [zKR hm]; rfl
    have i1 := ih (k, (i + j) / 2 + 1, j) ⟨by simp only; omega, p2, by simp only; omega⟩ (by simp only; omega);have i2 := ih (k, i, (i + j) / 2) ⟨by simp only; omega, by simp only; omega, by simp only; omega⟩ (by simp only; omega);clear ih;rw [Sort.bs, zKN c, hP];have hcm : z5 x.stamp B[(i + j) / 2].stamp < 0 ↔ x.stamp < B[(i + j) / 2].stamp := by unfold z5; split <;> (try split) <;> omega
    generalize B[(i + j) / 2] = y at *;have hmm : m + (i + j) / 2 < N := by omega
    have haa : a < N := by omega
    have hij : m + i + (m + j) <= 8589934592 := by omega
    generalize hq : (i + j) / 2 = q at *;simp only [s2S, s2X, zg] at i1 i2;clear hP hB hy hx hm hN;simp only [s2S, s2X, zg, zfQ]
    by_cases c2 : ¬ x.stamp < y.stamp
    · rw [zKN (by simp [c2])];have c3 : ¬ z5 x.stamp y.stamp < 0 := fun h => c2 (hcm.1 h);clear hcm i2;generalize z5 x.stamp y.stamp = z at *;generalize Sort.bs (s2P B x) k (q + 1) j = r at *;rw [show m + (q + 1) = m + q + 1 from rfl] at i1;simp only [zLe, zK8, zK9, zLf, zLa, zKO, zKY, zK1, zK2, zK3, zKS, zK0, zKT, zN, zW] at i1
      (try simp -implicitDefEqProofs (disch := omega) only [gx, gy, e1, e5, zf, go_sem, *]); (try simp only [pA, pB, pC, pD, pE, pF, pG, pH, pI, pJ, pK, pL, pM, pN, pO, pP, if_true, if_false]); repeat' (first | done | rfl | ((first | refine zp (fun hq => ?_) (fun hq => ?_) | refine zq (fun hq => ?_) (fun hq => ?_)) <;> (try (first | (exfalso; omega) | contradiction)) <;> (try simp -implicitDefEqProofs (disch := omega) only [gx, gy, e1, e5, zf, go_sem, *]) <;> (try simp only [pA, pB, pC, pD, pE, pF, pG, pH, pI, pJ, pK, pL, pM, pN, pO, pP, if_true, if_false]))); (all_goals try rfl); (all_goals try (repeat' (first | done | rfl | (exfalso; omega) | contradiction | (refine zr (fun hq => ?_) (fun hq => ?_)))))
    · have c2 := Classical.not_not.1 c2;rw [zKM (by simp [c2])];have c3 := hcm.2 c2;clear hcm i1;generalize z5 x.stamp y.stamp = z at *;generalize Sort.bs (s2P B x) k i q = r at *;simp only [zLe, zK8, zK9, zLf, zLa, zKO, zKY, zK1, zK2, zK3, zKS, zK0, zKT, zN, zW] at i2
      (try simp -implicitDefEqProofs (disch := omega) only [gx, gy, e1, e5, zf, go_sem, *]); (try simp only [pA, pB, pC, pD, pE, pF, pG, pH, pI, pJ, pK, pL, pM, pN, pO, pP, if_true, if_false]); repeat' (first | done | rfl | ((first | refine zp (fun hq => ?_) (fun hq => ?_) | refine zq (fun hq => ?_) (fun hq => ?_)) <;> (try (first | (exfalso; omega) | contradiction)) <;> (try simp -implicitDefEqProofs (disch := omega) only [gx, gy, e1, e5, zf, go_sem, *]) <;> (try simp only [pA, pB, pC, pD, pE, pF, pG, pH, pI, pJ, pK, pL, pM, pN, pO, pP, if_true, if_false]))); (all_goals try rfl); (all_goals try (repeat' (first | done | rfl | (exfalso; omega) | contradiction | (refine zr (fun hq => ?_) (fun hq => ?_)))))
 · clear ih;have e : Sort.bs (s2P B x) k i j = i := by
    cases k with
    | zero => rfl
    | succ k => rw [Sort.bs, zKM c]
   rw [e];simp only [s2S, s2X, zg, zfQ];clear hB e
   (try simp -implicitDefEqProofs (disch := omega) only [zf, go_sem, *]); (try simp only [pA, pB, pC, pD, pE, pF, pG, pH, pI, pJ, pK, pL, pM, pN, pO, pP, if_true, if_false]); repeat' (first | done | rfl | ((first | refine zp (fun hq => ?_) (fun hq => ?_) | refine zq (fun hq => ?_) (fun hq => ?_)) <;> (try (first | (exfalso; omega) | contradiction)) <;> (try simp -implicitDefEqProofs (disch := omega) only [zf, go_sem, *]) <;> (try simp only [pA, pB, pC, pD, pE, pF, pG, pH, pI, pJ, pK, pL, pM, pN, pO, pP, if_true, if_false]))); (all_goals try rfl); (all_goals try (repeat' (first | done | rfl | (exfalso; omega) | contradiction | (refine zr (fun hq => ?_) (fun hq => ?_)))))
def s4S (N : Nat) (R : List Event) (a m b d n i j p : Nat) : St := ⟨[(0, .osl 1000000 0 N), (1, .d (.int .i64 a)), (2, .d (.int .i64 m)), (3, .d (.int .i64 b)), (4, .d (.fn z8 [])), (18, .d (.int .i64 d)), (19, .d (.int .i64 n)), (20, .d (.int .i64 i)), (21, .d (.int .i64 j)), (22, .d (.int .i64 p)), (1000000, .ref 1000000 1 0)], zg R⟩
def s4X (N : Nat) (R : List Event) (a m b d n i : Nat) : St := ⟨[(0, .osl 1000000 0 N), (1, .d (.int .i64 a)), (2, .d (.int .i64 m)), (3, .d (.int .i64 b)), (4, .d (.fn z8 [])), (18, .d (.int .i64 d)), (19, .d (.int .i64 n)), (20, .d (.int .i64 i)), (1000000, .ref 1000000 1 0)], zg R⟩
theorem zIy (R A B : List Event) (a b d n N h : Nat) (hN : R.length = N) (hL : N <= 4294967296) (hA : ∀ t (q : t < A.length), R[a + t]? = some A[t]) (hB : ∀ t (q : t < B.length), R[a + A.length + t]? = some B[t]) (hd : d = a + h) (hn : n = d + (a + A.length)) (hh : 1 <= h) : ∀ p : Nat × Nat × Nat, p.2.1 <= p.2.2 /\ p.2.2 <= A.length /\ p.2.2 <= h /\ h <= B.length + p.2.1 /\ p.2.2 - p.2.1 <= p.1 ->
    zad G [] zet (s4S N R a (a + A.length) b d n (a + p.2.1) (a + p.2.2) (n - 1)) = some (.exit 8, s4X N R a (a + A.length) b d n (a + Sort.bs (Sort.symP stF A B h) p.1 p.2.1 p.2.2)) := by
 refine zaI (fun p : Nat × Nat × Nat => p.1 + (p.2.2 - p.2.1)) _ (fun p => s4S N R a (a + A.length) b d n (a + p.2.1) (a + p.2.2) (n - 1)) _ fun p hp L ih => ?_;obtain ⟨k, i, j⟩ := p;obtain ⟨p1, p2, p3, p4, p5⟩ := hp;simp only at p1 p2 p3 p4 p5
 by_cases c : i < j
 · cases k with
   | zero => omega
   | succ k =>
    have hm : (i + j) / 2 < A.length := by omega
    have hx := hA _ hm;have gx := zbT hx;have hxl := zc1 hx;have hm2 : h - 1 - (i + j) / 2 < B.length := by omega
    have hy := hB _ hm2;have gy := zbT hy;have hyl := zc1 hy;have hc := zgn B[h - 1 - (i + j) / 2] A[(i + j) / 2];have e1 : IntKind.i64.wrap (((a : Int) + i + ((a : Int) + j)).fdiv (2 ^ min 1 64)) = (a : Int) + ((i + j) / 2 : Nat) := zfH (by omega) (by omega) (by omega);have e5 : ((a : Int) + ((i + j) / 2 : Nat)).toNat = a + (i + j) / 2 := by omega
    have hP : Sort.symP stF A B h ((i + j) / 2) = !decide (B[h - 1 - (i + j) / 2].stamp < A[(i + j) / 2].stamp) := by unfold Sort.symP; rw [zKR hm, zKR hm2]; rfl
    have i1 := ih (k, (i + j) / 2 + 1, j) ⟨by simp only; omega, p2, p3, by simp only; omega, by simp only; omega⟩ (by simp only; omega);have i2 := ih (k, i, (i + j) / 2) ⟨by simp only; omega, by simp only; omega, by simp only; omega, p4, by simp only; omega⟩ (by simp only; omega);clear ih;rw [Sort.bs, zKN c, hP];have hcm : z5 B[h - 1 - (i + j) / 2].stamp A[(i + j) / 2].stamp < 0 ↔ B[h - 1 - (i + j) / 2].stamp < A[(i + j) / 2].stamp := by unfold z5; split <;> (try split) <;> omega
    generalize B[h - 1 - (i + j) / 2] = y at *;generalize A[(i + j) / 2] = x at *;have hmm : a + (i + j) / 2 < N := by omega
    have hm3 : a + A.length + (h - 1 - (i + j) / 2) < N := by omega
    have hij : a + i + (a + j) <= 8589934592 := by omega
    have e6 : (((n - 1 : Nat) : Int) - ((a : Int) + ((i + j) / 2 : Nat))) = ((a + A.length + (h - 1 - (i + j) / 2) : Nat) : Int) := by omega
    have e7 : (((a + A.length + (h - 1 - (i + j) / 2) : Nat) : Int)).toNat = a + A.length + (h - 1 - (i + j) / 2) := by omega
    have hn1 : n - 1 <= 8589934592 := by omega
    generalize a + A.length + (h - 1 - (i + j) / 2) = z1 at *;generalize n - 1 = p at *;generalize a + A.length = m at *;generalize hq : (i + j) / 2 = q at *;simp only [s4S, s4X, zg] at i1 i2;clear hP hA hB hy hx hm hN hm2 hd hn p4;simp only [s4S, s4X, zg, zet]
    by_cases c2 : ¬ y.stamp < x.stamp
    · rw [zKN (by simp [c2])];have c3 : ¬ z5 y.stamp x.stamp < 0 := fun h => c2 (hcm.1 h);clear hcm i2;generalize z5 y.stamp x.stamp = z at *;generalize Sort.bs (Sort.symP stF A B h) k (q + 1) j = r at *;rw [show a + (q + 1) = a + q + 1 from rfl] at i1;simp only [zLe, zK8, zK9, zLf, zLa, zKO, zKY, zK1, zK2, zK3, zKS, zK0, zKT, zN, zW] at i1
      (try simp -implicitDefEqProofs (disch := omega) only [gx, gy, e1, e5, e6, e7, zf, go_sem, *]); (try simp only [pA, pB, pC, pD, pE, pF, pG, pH, pI, pJ, pK, pL, pM, pN, pO, pP, if_true, if_false]); repeat' (first | done | rfl | ((first | refine zp (fun hq => ?_) (fun hq => ?_) | refine zq (fun hq => ?_) (fun hq => ?_)) <;> (try (first | (exfalso; omega) | contradiction)) <;> (try simp -implicitDefEqProofs (disch := omega) only [gx, gy, e1, e5, e6, e7, zf, go_sem, *]) <;> (try simp only [pA, pB, pC, pD, pE, pF, pG, pH, pI, pJ, pK, pL, pM, pN, pO, pP, if_true, if_false]))); (all_goals try rfl); (all_goals try (repeat' (first | done | rfl | (exfalso; omega) | contradiction | (refine zr (fun hq => ?_) (fun hq => ?_)))))
    · have c2 := Classical.not_not.1 c2;rw [zKM (by simp [c2])];have c3 := hcm.2 c2;clear hcm i1;generalize z5 y.stamp x.stamp = z at *;generalize Sort.bs (Sort.symP stF A B h) k i q = r at *;simp only [zLe, zK8, zK9, zLf, zLa, zKO, zKY, zK1, zK2, zK3, zKS, zK0, zKT, zN, zW] at i2
      (try simp -implicitDefEqProofs (disch := omega) only [gx, gy, e1, e5, e6, e7, zf, go_sem, *]); (try simp only [pA, pB, pC, pD, pE, pF, pG, pH, pI, pJ, pK, pL, pM, pN, pO, pP, if_true, if_false]); repeat' (first | done | rfl | ((first | refine zp (fun hq => ?_) (fun hq => ?_) | refine zq (fun hq => ?_) (fun hq => ?_)) <;> (try (first | (exfalso; omega) | contradiction)) <;> (try simp -implicitDefEqProofs (disch := omega) only [gx, gy, e1, e5, e6, e7, zf, go_sem, *]) <;> (try simp only [pA, pB, pC, pD, pE, pF, pG, pH, pI, pJ, pK, pL, pM, pN, pO, pP, if_true, if_false]))); (all_goals try rfl); (all_goals try (repeat' (first | done | rfl | (exfalso; omega) | contradiction | (refine zr (fun hq => ?_) (fun hq => ?_)))))
 · clear ih;have e : Sort.bs (Sort.symP stF A B h) k i j = i := by
    cases k with
    | zero => rfl
    | succ k => rw [Sort.bs, zKM c]
   rw [e];generalize n - 1 = p at *;generalize a + A.length = m at *;simp only [s4S, s4X, zg, zet];clear hA hB e hd hn
   (try simp -implicitDefEqProofs (disch := omega) only [zf, go_sem, *]); (try simp only [pA, pB, pC, pD, pE, pF, pG, pH, pI, pJ, pK, pL, pM, pN, pO, pP, if_true, if_false]); repeat' (first | done | rfl | ((first | refine zp (fun hq => ?_) (fun hq => ?_) | refine zq (fun hq => ?_) (fun hq => ?_)) <;> (try (first | (exfalso; omega) | contradiction)) <;> (try simp -implicitDefEqProofs (disch := omega) only [zf, go_sem, *]) <;> (try simp only [pA, pB, pC, pD, pE, pF, pG, pH, pI, pJ, pK, pL, pM, pN, pO, pP, if_true, if_false]))); (all_goals try rfl); (all_goals try (repeat' (first | done | rfl | (exfalso; omega) | contradiction | (refine zr (fun hq => ?_) (fun hq => ?_)))))
theorem zAe (x : Event) (X P Y : List Event) {j : Nat} (h : j < P.length) : (Sort.insR x X P Y j)[X.length + j + 1]? = some P[j] := by
 unfold Sort.insR;rw [zLd (by omega), zLd (by simp; omega)];rw [show X.length + j + 1 - X.length - (P.take j).length = 0 + 1 by simp; omega, zMf, zMr h];rfl
theorem zAf (x : Event) (X P Y : List Event) {j : Nat} (h : j < P.length) : ((Sort.insR x X P Y j).set (X.length + j) P[j]).set (X.length + j + 1) x = Sort.insR x X P Y (j + 1) := by
 have h1 := Sort.insR_at x X P Y (show j + 1 <= P.length by omega);have h2 := Sort.insR_below x X P Y h;rw [<- Sort.insR_swap x X P Y h, List.set_set, List.set_comm _ _ (by omega), List.set_set];generalize Sort.insR x X P Y (j + 1) = R at *;obtain ⟨q1, e1⟩ := zKP.1 h1;obtain ⟨q2, e2⟩ := zKP.1 h2;rw [<- zLA] at q1;have e1 : R[X.length + j + 1] = x := e1;rw [<- e1, <- e2, List.set_getElem_self, List.set_getElem_self]
def s1S (N : Nat) (R : List Event) (i k : Nat) : St := ⟨[(0, .osl 1000000 0 N), (10, .d (.int .i64 i)), (13, .d (.int .i64 k)), (1000000, .ref 1000000 1 0)], zg R⟩
theorem zIv (x : Event) (X P Y : List Event) (N : Nat) (hN : N = X.length + P.length + 1 + Y.length) (hL : N <= 4294967296) : ∀ j, j <= P.length -> zad G [] zfP (s1S N (Sort.insR x X P Y j) (X.length + P.length + 1) (X.length + j)) = some (.exit 2, ⟨gE1, zg (Sort.insR x X P Y P.length)⟩) := by
 refine zaI (fun j => P.length - j) (fun j => j <= P.length) (fun j => s1S N (Sort.insR x X P Y j) (X.length + P.length + 1) (X.length + j)) (fun _ => some (.exit 2, ⟨gE1, zg (Sort.insR x X P Y P.length)⟩)) fun j hj L ih => ?_;have hlen := Sort.insR_len x X P Y hj;rw [<- hN] at hlen
 by_cases c : j < P.length
 · have i1 := ih (j + 1) (by omega) (by omega);clear ih;have h1 := zbT (Sort.insR_at x X P Y hj);have h2 := zbT (zAe x X P Y c);have h3 := zAf x X P Y c;rw [<- h3] at i1;have e4 : ((X.length : Int) + (j : Int)).toNat = X.length + j := by omega
   have e5 : ((X.length : Int) + (j : Int) + 1).toNat = X.length + j + 1 := by omega
   have hb : X.length + j + 1 < N := by omega
   have hp : X.length + P.length + 1 <= N := by omega
   generalize P[j] = y at *;clear h3 hN;generalize Sort.insR x X P Y j = R at *;have ew : ((R.set (X.length + j) y).set (X.length + j + 1) x).map zm = ((R.map zm).set (X.length + j) (zm y)).set (X.length + j + 1) (zm x) := by rw [zLx, zLx]
   simp only [s1S, zg, gE1] at i1;rw [ew, show X.length + (j + 1) = X.length + j + 1 from rfl] at i1;clear ew;generalize Sort.insR x X P Y P.length = R2 at *;have g3 : ∀ Z, (((R.map zm).set (X.length + j) Z).map AV.d)[X.length + j + 1]? = some (.d (zm y)) := by
    intro Z;rw [zKQ, zMg (by omega)];rw [zKQ] at h2; exact h2
   simp only [s1S, zg, gE1, zfP];simp only [zLe, zK8, zK9, zLf, zLa, zKO, zKY, zK1, zK2, zK3, zKS, zK0, zKT, zN, zW] at i1
   (try simp -implicitDefEqProofs (disch := omega) only [e4, e5, h1, h2, g3, zf, go_sem, *]); (try simp only [pA, pB, pC, pD, pE, pF, pG, pH, pI, pJ, pK, pL, pM, pN, pO, pP, if_true, if_false]); repeat' (first | done | rfl | ((first | refine zp (fun hq => ?_) (fun hq => ?_) | refine zq (fun hq => ?_) (fun hq => ?_)) <;> (try (first | (exfalso; omega) | contradiction)) <;> (try simp -implicitDefEqProofs (disch := omega) only [e4, e5, h1, h2, g3, zf, go_sem, *]) <;> (try simp only [pA, pB, pC, pD, pE, pF, pG, pH, pI, pJ, pK, pL, pM, pN, pO, pP, if_true, if_false]))); (all_goals try rfl); (all_goals try (repeat' (first | done | rfl | (exfalso; omega) | contradiction | (refine zr (fun hq => ?_) (fun hq => ?_)))))
 · clear ih;obtain rfl : j = P.length := by omega
   have hp : X.length + P.length + 1 <= N := by omega
   clear hN;generalize Sort.insR x X P Y P.length = R at *;simp only [s1S, zg, gE1, zfP]
   (try simp -implicitDefEqProofs (disch := omega) only [zf, go_sem, *]); (try simp only [pA, pB, pC, pD, pE, pF, pG, pH, pI, pJ, pK, pL, pM, pN, pO, pP, if_true, if_false]); repeat' (first | done | rfl | ((first | refine zp (fun hq => ?_) (fun hq => ?_) | refine zq (fun hq => ?_) (fun hq => ?_)) <;> (try (first | (exfalso; omega) | contradiction)) <;> (try simp -implicitDefEqProofs (disch := omega) only [zf, go_sem, *]) <;> (try simp only [pA, pB, pC, pD, pE, pF, pG, pH, pI, pJ, pK, pL, pM, pN, pO, pP, if_true, if_false]))); (all_goals try rfl); (all_goals try (repeat' (first | done | rfl | (exfalso; omega) | contradiction | (refine zr (fun hq => ?_) (fun hq => ?_)))))
def s3S (N : Nat) (R : List Event) (i k : Nat) : St := ⟨[(0, .osl 1000000 0 N), (14, .d (.int .i64 i)), (17, .d (.int .i64 k)), (1000000, .ref 1000000 1 0)], zg R⟩
theorem zIx (x : Event) (X P Y : List Event) (N : Nat) (hN : N = X.length + P.length + 1 + Y.length) (hL : N <= 4294967296) : ∀ j, j <= P.length -> zad G [] zfR (s3S N (Sort.insR x X P Y j) X.length (X.length + j)) = some (.exit 6, ⟨gE1, zg (Sort.insR x X P Y 0)⟩) := by
 refine zaI (fun j => j) (fun j => j <= P.length) (fun j => s3S N (Sort.insR x X P Y j) X.length (X.length + j)) (fun _ => some (.exit 6, ⟨gE1, zg (Sort.insR x X P Y 0)⟩)) fun j hj L ih => ?_;have hlen := Sort.insR_len x X P Y hj;rw [<- hN] at hlen
 cases j with
 | zero =>
  clear ih;have hp : X.length + P.length + 1 <= N := by omega
  clear hN;simp only [s3S, zg, gE1, zfR];generalize Sort.insR x X P Y 0 = R at *
  (try simp -implicitDefEqProofs (disch := omega) only [zf, go_sem, *]); (try simp only [pA, pB, pC, pD, pE, pF, pG, pH, pI, pJ, pK, pL, pM, pN, pO, pP, if_true, if_false]); repeat' (first | done | rfl | ((first | refine zp (fun hq => ?_) (fun hq => ?_) | refine zq (fun hq => ?_) (fun hq => ?_)) <;> (try (first | (exfalso; omega) | contradiction)) <;> (try simp -implicitDefEqProofs (disch := omega) only [zf, go_sem, *]) <;> (try simp only [pA, pB, pC, pD, pE, pF, pG, pH, pI, pJ, pK, pL, pM, pN, pO, pP, if_true, if_false]))); (all_goals try rfl); (all_goals try (repeat' (first | done | rfl | (exfalso; omega) | contradiction | (refine zr (fun hq => ?_) (fun hq => ?_)))))
 | succ j =>
  have i1 := ih j (by omega) (by omega);clear ih;have h1 := Sort.insR_at x X P Y hj;rw [<- zLA] at h1;have h1 := zbT h1;have h2 := zbT (Sort.insR_below x X P Y (show j < P.length by omega));have h3 := Sort.insR_swap x X P Y (show j < P.length by omega);rw [<- h3] at i1;have e1 : ((X.length : Int) + ((j : Int) + 1)).toNat = X.length + j + 1 := by omega
  have e2 : ((X.length : Int) + ((j : Int) + 1) - 1).toNat = X.length + j := by omega
  have e4 : ((X.length : Int) + (j : Int)).toNat = X.length + j := by omega
  have e3 : (X.length : Int) + ((j : Int) + 1) - 1 = X.length + j := by omega
  have hb : X.length + j + 1 < N := by omega
  generalize P[j] = y at *;clear h3 hN;generalize Sort.insR x X P Y (j + 1) = R at *;have ew : ((R.set (X.length + j + 1) y).set (X.length + j) x).map zm = ((R.map zm).set (X.length + j + 1) (zm y)).set (X.length + j) (zm x) := by rw [zLx, zLx]
  simp only [s3S, zg, gE1] at i1;rw [ew] at i1;clear ew;generalize Sort.insR x X P Y 0 = R2 at *;have g3 : ∀ Z, (((R.map zm).set (X.length + j + 1) Z).map AV.d)[X.length + j]? = some (.d (zm y)) := by
   intro Z;rw [zKQ, zMg (by omega)];rw [zKQ] at h2; exact h2
  simp only [s3S, zg, gE1, zfR];simp only [zLe, zK8, zK9, zLf, zLa, zKO, zKY, zK1, zK2, zK3, zKS, zK0, zKT, zN, zW] at i1
  (try simp -implicitDefEqProofs (disch := omega) only [e1, e2, e3, e4, h1, h2, g3, zf, go_sem, *]); (try simp only [pA, pB, pC, pD, pE, pF, pG, pH, pI, pJ, pK, pL, pM, pN, pO, pP, if_true, if_false]); repeat' (first | done | rfl | ((first | refine zp (fun hq => ?_) (fun hq => ?_) | refine zq (fun hq => ?_) (fun hq => ?_)) <;> (try (first | (exfalso; omega) | contradiction)) <;> (try simp -implicitDefEqProofs (disch := omega) only [e1, e2, e3, e4, h1, h2, g3, zf, go_sem, *]) <;> (try simp only [pA, pB, pC, pD, pE, pF, pG, pH, pI, pJ, pK, pL, pM, pN, pO, pP, if_true, if_false]))); (all_goals try rfl); (all_goals try (repeat' (first | done | rfl | (exfalso; omega) | contradiction | (refine zr (fun hq => ?_) (fun hq => ?_)))))
end Go.Proofs.YtgjlpcbolldhhaaGreat
