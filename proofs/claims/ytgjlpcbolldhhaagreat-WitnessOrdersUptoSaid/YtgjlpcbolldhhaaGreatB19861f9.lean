/-
  Sorting events.
-/
import Derived.Test.YtgjlpcbolldhhaaGreatBc62db43
set_option linter.unusedSimpArgs false
set_option linter.unusedVariables false
set_option maxHeartbeats 10000000
set_option maxRecDepth 100000
namespace Go.Proofs.YtgjlpcbolldhhaaGreat
open Go Go.Sim
theorem zgh (k : Nat) (A B : List Event) (h : A = [] \/ B = []) : Sort.symL stF k A B = A ++ B := by
 cases k with
 | zero => rfl
 | succ k => rw [Sort.symL, zKN h]
theorem zJt (k : Nat) (X : List Event) (x : Event) (B Y : List Event) (hB : 0 < B.length) (hL : X.length + 1 + B.length + Y.length <= 4294967296) :
    zt G zbK [.osl 1000000 0 (X.length + 1 + B.length + Y.length), .d (.int .i64 X.length), .d (.int .i64 ((X.length + 1 : Nat) : Int)), .d (.int .i64 ((X.length + 1 + B.length : Nat) : Int)), .d (.fn z8 [])] (zg (X ++ ([x] ++ (B ++ Y)))) = some (.d (.tup []), zg (X ++ (Sort.symL stF (k + 1) [x] B ++ Y))) := by
 have hR : (X ++ ([x] ++ (B ++ Y))).length = X.length + 1 + B.length + Y.length := by simp only [zKO, zMc]; omega
 have hl := zIu (X ++ ([x] ++ (B ++ Y))) B x X.length (X.length + 1) _ hR hL (by simp) (fun t h => by
  rw [zLd (by omega), show X.length + 1 + t - X.length = t + 1 by omega];show (B ++ Y)[t]? = some B[t];rw [zLk h, zKR h]) (B.length, 0, B.length) ⟨by simp, by simp, by simp⟩
 have hb := Sort.bs_ok (s0P B x) 0 B.length B.length 0 B.length (zKV _) (by omega) (zKV _) (by omega) (.inl rfl) (.inl rfl);have hs : Sort.symL stF (k + 1) [x] B = B.take (Sort.bs (s0P B x) B.length 0 B.length) ++ [x] ++ B.drop (Sort.bs (s0P B x) B.length 0 B.length) := by
  rw [Sort.symL, zKM (by
   rintro (h | h)
   · cases h
   · rw [h] at hB; simp at hB), zKN (by simp)]
  have : (fun h => [x].any fun x => (B[h]?).any fun y => decide (stF y < stF x)) = s0P B x := by
   funext h
   simp only [zMd, zMe, zL5];rfl
  rw [this]
 rw [hs];simp only at hl;generalize hr : Sort.bs (s0P B x) B.length 0 B.length = r at *;have hP : (B.take r).length = r := by rw [zLc]; omega
 have hl1 := zIv x X (B.take r) (B.drop r ++ Y) (X.length + 1 + B.length + Y.length) (by rw [hP, zKO, zKZ]; omega) hL 0 (by omega);have e0 : Sort.insR x X (B.take r) (B.drop r ++ Y) 0 = X ++ ([x] ++ (B ++ Y)) := by
  simp only [Sort.insR, zMJ, List.drop_zero, zLT, zMK];rw [<- zK5, zLr]
 have e1 : Sort.insR x X (B.take r) (B.drop r ++ Y) (B.take r).length = X ++ (B.take r ++ [x] ++ B.drop r ++ Y) := by
  rw [Sort.insR_end];simp
 rw [e0, e1, hP] at hl1;generalize X ++ ([x] ++ (B ++ Y)) = R at *;generalize X ++ (B.take r ++ [x] ++ B.drop r ++ Y) = R2 at *;have hbb : X.length + 1 + B.length <= 4294967296 := by omega
 have hr2 := hb.2.1;clear hr hs hP e0 e1 hb;rw [show X.length + r + 1 = X.length + 1 + r by omega] at hl1;generalize hN : X.length + 1 + B.length + Y.length = N at *;clear hN;generalize X.length = a at *;simp only [s0S, s0X, s1S, zg, gE1, zLL] at hl hl1 ⊢;simp only [zLe, zK8, zK9, zLf, zLa, zKO, zKY, zK1, zK2, zK3, zKS, zK0, zKT, zN, zW] at hl hl1;rw [zac zfD (by simp)]; simp -implicitDefEqProofs (disch := omega) only [zea, zf, go_sem, *]; (try simp only [pA, pB, pC, pD, pE, pF, pG, pH, pI, pJ, pK, pL, pM, pN, pO, pP, if_true, if_false]); repeat' (first | done | rfl | ((first | refine zp (fun hq => ?_) (fun hq => ?_) | refine zq (fun hq => ?_) (fun hq => ?_)) <;> (try (first | (exfalso; omega) | contradiction)) <;> (try simp -implicitDefEqProofs (disch := omega) only [zf, go_sem, *]) <;> (try simp only [pA, pB, pC, pD, pE, pF, pG, pH, pI, pJ, pK, pL, pM, pN, pO, pP, if_true, if_false]))); (all_goals try rfl); (all_goals try (repeat' (first | done | rfl | (exfalso; omega) | contradiction | (refine zr (fun hq => ?_) (fun hq => ?_)))))
theorem zJu (k : Nat) (X A : List Event) (y : Event) (Y : List Event) (hA : 0 < A.length) (hA1 : A.length ≠ 1) (hL : X.length + A.length + 1 + Y.length <= 4294967296) :
    zt G zbK [.osl 1000000 0 (X.length + A.length + 1 + Y.length), .d (.int .i64 X.length), .d (.int .i64 ((X.length + A.length : Nat) : Int)), .d (.int .i64 ((X.length + A.length + 1 : Nat) : Int)), .d (.fn z8 [])] (zg (X ++ (A ++ ([y] ++ Y)))) = some (.d (.tup []), zg (X ++ (Sort.symL stF (k + 1) A [y] ++ Y))) := by
 have hR : (X ++ (A ++ ([y] ++ Y))).length = X.length + A.length + 1 + Y.length := by simp only [zKO, zMc]; omega
 have hl := zIw (X ++ (A ++ ([y] ++ Y))) A y (X.length + A.length) X.length _ hR hL (by
  rw [zLd (by omega), show X.length + A.length - X.length = A.length by omega, zLd (zKV _)];simp) (fun t h => by
  rw [zLd (by omega), show X.length + t - X.length = t by omega, zLk h];simp [h]) (A.length, 0, A.length) ⟨by simp, by simp, by simp⟩
 have hb := Sort.bs_ok (s2P A y) 0 A.length A.length 0 A.length (zKV _) (by omega) (zKV _) (by omega) (.inl rfl) (.inl rfl);have hs : Sort.symL stF (k + 1) A [y] = A.take (Sort.bs (s2P A y) A.length 0 A.length) ++ [y] ++ A.drop (Sort.bs (s2P A y) A.length 0 A.length) := by
  rw [Sort.symL, zKM (by
   rintro (h | h)
   · rw [h] at hA; simp at hA
   · cases h), zKM hA1, zKN (by simp)]
  have : (fun h => [y].any fun y => (A[h]?).any fun x => !decide (stF y < stF x)) = s2P A y := by
   funext h
   simp only [zMd, zMe, zL5];rfl
  rw [this]
 rw [hs];simp only at hl;generalize hr : Sort.bs (s2P A y) A.length 0 A.length = r at *;have hP : (A.drop r).length = A.length - r := zKZ;have hX : (X ++ A.take r).length = X.length + r := by rw [zKO, zLc]; omega
 have hl1 := zIx y (X ++ A.take r) (A.drop r) Y (X.length + A.length + 1 + Y.length) (by rw [hP, hX]; omega) hL _ (zKV _);have e0 : Sort.insR y (X ++ A.take r) (A.drop r) Y (A.drop r).length = X ++ (A ++ ([y] ++ Y)) := by
  rw [Sort.insR_end, zK5, <- zK5 (A.take r), zLr];rfl
 have e1 : Sort.insR y (X ++ A.take r) (A.drop r) Y 0 = X ++ (A.take r ++ [y] ++ A.drop r ++ Y) := by
  simp [Sort.insR]
 rw [e0, e1, hP, hX, show X.length + r + (A.length - r) = X.length + A.length by omega] at hl1;generalize X ++ (A ++ ([y] ++ Y)) = R at *;generalize X ++ (A.take r ++ [y] ++ A.drop r ++ Y) = R2 at *;have hbb : X.length + A.length + 1 <= 4294967296 := by omega
 have hr2 := hb.2.1;clear hr hs hP hX e0 e1 hb;generalize hN : X.length + A.length + 1 + Y.length = N at *;clear hN;generalize X.length = a at *;have hz : ¬ ((a : Int) + A.length - a = 1) := by omega
 simp only [s2S, s2X, s3S, zg, gE1, zLL] at hl hl1 ⊢;simp only [zLe, zK8, zK9, zLf, zLa, zKO, zKY, zK1, zK2, zK3, zKS, zK0, zKT, zN, zW] at hl hl1;rw [zac zfD (by simp)]; simp -implicitDefEqProofs (disch := omega) only [zea, zf, go_sem, *]; (try simp only [pA, pB, pC, pD, pE, pF, pG, pH, pI, pJ, pK, pL, pM, pN, pO, pP, if_true, if_false]); repeat' (first | done | rfl | ((first | refine zp (fun hq => ?_) (fun hq => ?_) | refine zq (fun hq => ?_) (fun hq => ?_)) <;> (try (first | (exfalso; omega) | contradiction)) <;> (try simp -implicitDefEqProofs (disch := omega) only [zf, go_sem, *]) <;> (try simp only [pA, pB, pC, pD, pE, pF, pG, pH, pI, pJ, pK, pL, pM, pN, pO, pP, if_true, if_false]))); (all_goals try rfl); (all_goals try (repeat' (first | done | rfl | (exfalso; omega) | contradiction | (refine zr (fun hq => ?_) (fun hq => ?_)))))
theorem zJv : ∀ (k : Nat) (A B : List Event), (Sort.symL stF k A B).length = A.length + B.length := by
 intro k
 induction k with
 | zero => intro A B; exact zKO
 | succ k ih =>
  intro A B;rw [Sort.symL]
  split
  · exact zKO
  split
  · simp only [zKO, zLc, zKZ]; omega
  split
  · simp only [zKO, zLc, zKZ]; omega
  · rw [zKO, ih, ih];simp only [zLc, zKZ]; omega
def mgC (N a m b : Nat) : List Go.Sim.AV := [.osl 1000000 0 N, .d (.int .i64 a), .d (.int .i64 m), .d (.int .i64 b), .d (.fn z8 [])]
theorem zJA (N a m b d st en n lo hi : Nat) (R R2 R3 R4 : List Event) (hb : a + 1 < m /\ m + 1 < b /\ b <= 4294967296) (hd : a <= d /\ d < b) (hdm : IntKind.i64.wrap (((a : Int) + b).fdiv (2 ^ min 1 64)) = (d : Int)) (hn : n = d + m)
    (hlo : (d < m -> (lo : Int) = (d : Int) + m - b /\ hi = d) /\ (¬ d < m -> lo = a /\ hi = m))
    (hl : zad G [] zet (s4S N R a m b d n lo hi (n - 1)) = some (.exit 8, s4X N R a m b d n st)) (hst : a <= st /\ st <= m /\ st <= d) (hen : (en : Int) = (d : Int) + m - st) (heb : m <= en /\ en <= b /\ d <= en)
    (hr : (st < m /\ m < en) /\ zt G zc5 (mgC N st m en) (zg R) = some (.d (.tup []), zg R2) \/ m <= st /\ R2 = R \/ en <= m /\ R2 = R)
    (h1 : (a < st /\ st < d) /\ zt G zbK (mgC N a st d) (zg R2) = some (.d (.tup []), zg R3) \/ st <= a /\ R3 = R2 \/ d <= st /\ R3 = R2)
    (h2 : (d < en /\ en < b) /\ zt G zbK (mgC N d en b) (zg R3) = some (.d (.tup []), zg R4) \/ en <= d /\ R4 = R3 \/ b <= en /\ R4 = R3) :
    zt G zbK (mgC N a m b) (zg R) = some (.d (.tup []), zg R4) := by
 have e1 : (((n - 1 : Nat) : Int)) = (d : Int) + m - 1 := by omega
 have e2 : ((n : Nat) : Int) = (d : Int) + m := by omega
 have z1 : ¬ ((m : Int) - a = 1) := by omega
 have z2 : ¬ ((b : Int) - m = 1) := by omega
 simp only [s4S, s4X, zg, e1, e2] at hl;simp only [mgC, zg] at *;have hen' := hen.symm;clear e1 e2 hn hen
 by_cases c0 : d < m
 · obtain ⟨q1, q2⟩ := hlo.1 c0;subst q2;rw [q1] at hl;clear hlo q1
   rcases hr with ⟨⟨c1, d1⟩, hr⟩ | ⟨c1, rfl⟩ | ⟨c1, rfl⟩ <;> rcases h1 with ⟨⟨c2, d2⟩, h1⟩ | ⟨c2, rfl⟩ | ⟨c2, rfl⟩ <;> rcases h2 with ⟨⟨c3, d3⟩, h2⟩ | ⟨c3, rfl⟩ | ⟨c3, rfl⟩
   all_goals try (exfalso; omega)
   all_goals (rw [zac zfD (by simp)]; simp -implicitDefEqProofs (disch := omega) only [zea, zf, go_sem, *]; (try simp only [pA, pB, pC, pD, pE, pF, pG, pH, pI, pJ, pK, pL, pM, pN, pO, pP, if_true, if_false]); repeat' (first | done | rfl | ((first | refine zp (fun hq => ?_) (fun hq => ?_) | refine zq (fun hq => ?_) (fun hq => ?_)) <;> (try (first | (exfalso; omega) | contradiction)) <;> (try simp -implicitDefEqProofs (disch := omega) only [zf, go_sem, *]) <;> (try simp only [pA, pB, pC, pD, pE, pF, pG, pH, pI, pJ, pK, pL, pM, pN, pO, pP, if_true, if_false]))); (all_goals try rfl); (all_goals try (repeat' (first | done | rfl | (exfalso; omega) | contradiction | (refine zr (fun hq => ?_) (fun hq => ?_))))))
 · obtain ⟨q1, q2⟩ := hlo.2 c0;subst q1 q2;clear hlo
   rcases hr with ⟨⟨c1, d1⟩, hr⟩ | ⟨c1, rfl⟩ | ⟨c1, rfl⟩ <;> rcases h1 with ⟨⟨c2, d2⟩, h1⟩ | ⟨c2, rfl⟩ | ⟨c2, rfl⟩ <;> rcases h2 with ⟨⟨c3, d3⟩, h2⟩ | ⟨c3, rfl⟩ | ⟨c3, rfl⟩
   all_goals try (exfalso; omega)
   all_goals (rw [zac zfD (by simp)]; simp -implicitDefEqProofs (disch := omega) only [zea, zf, go_sem, *]; (try simp only [pA, pB, pC, pD, pE, pF, pG, pH, pI, pJ, pK, pL, pM, pN, pO, pP, if_true, if_false]); repeat' (first | done | rfl | ((first | refine zp (fun hq => ?_) (fun hq => ?_) | refine zq (fun hq => ?_) (fun hq => ?_)) <;> (try (first | (exfalso; omega) | contradiction)) <;> (try simp -implicitDefEqProofs (disch := omega) only [zf, go_sem, *]) <;> (try simp only [pA, pB, pC, pD, pE, pF, pG, pH, pI, pJ, pK, pL, pM, pN, pO, pP, if_true, if_false]))); (all_goals try rfl); (all_goals try (repeat' (first | done | rfl | (exfalso; omega) | contradiction | (refine zr (fun hq => ?_) (fun hq => ?_))))))
theorem zJz : ∀ (k : Nat) (X A B Y : List Event), 0 < A.length -> 0 < B.length -> A.length + B.length <= k -> X.length + A.length + B.length + Y.length <= 4294967296 ->
    zt G zbK (mgC (X.length + A.length + B.length + Y.length) X.length (X.length + A.length) (X.length + A.length + B.length)) (zg (X ++ (A ++ (B ++ Y)))) = some (.d (.tup []), zg (X ++ (Sort.symL stF k A B ++ Y))) := by
 intro k
 induction k with
 | zero => intro X A B Y h1 h2 h3; omega
 | succ k ih =>
  intro X A B Y h1 h2 h3 hL
  by_cases cA : A.length = 1
  · obtain ⟨x, rfl⟩ := zMq.1 cA;exact zJt k X x B Y h2 hL
  by_cases cB : B.length = 1
  · obtain ⟨y, rfl⟩ := zMq.1 cB;exact zJu k X A y Y h1 cA hL
  have hR : (X ++ (A ++ (B ++ Y))).length = X.length + A.length + B.length + Y.length := by simp only [zKO]; omega
  have hl := zIy (X ++ (A ++ (B ++ Y))) A B X.length (X.length + A.length + B.length) (X.length + (A.length + B.length) / 2) (X.length + (A.length + B.length) / 2 + (X.length + A.length)) _ ((A.length + B.length) / 2) hR hL (fun t q => by
   rw [zLd (by omega), show X.length + t - X.length = t by omega, zLk q, zKR q]) (fun t q => by
   rw [zLd (by omega), zLd (by omega), show X.length + A.length + t - X.length - A.length = t by omega, zLk q, zKR q]) rfl rfl (by omega) (A.length + B.length, (A.length + B.length) / 2 - B.length, min A.length ((A.length + B.length) / 2)) ⟨by simp only; omega, by simp only; omega, by simp only; omega, by simp only; omega, by simp only; omega⟩
  have hb := Sort.bs_ok (Sort.symP stF A B ((A.length + B.length) / 2)) ((A.length + B.length) / 2 - B.length) (min A.length ((A.length + B.length) / 2)) (A.length + B.length) ((A.length + B.length) / 2 - B.length) (min A.length ((A.length + B.length) / 2)) (zKV _) (by omega) (zKV _) (by omega) (.inl rfl) (.inl rfl);have hs : Sort.symL stF (k + 1) A B = Sort.symL stF k (A.take (Sort.symS stF A B)) (B.take ((A.length + B.length) / 2 - Sort.symS stF A B)) ++ Sort.symL stF k (A.drop (Sort.symS stF A B)) (B.drop ((A.length + B.length) / 2 - Sort.symS stF A B)) := by
   rw [Sort.symL, zKM (by
    rintro (h | h)
    · rw [h] at h1; simp at h1
    · rw [h] at h2; simp at h2), zKM cA, zKM cB]
  have hsd : Sort.symS stF A B = Sort.bs (Sort.symP stF A B ((A.length + B.length) / 2)) (A.length + B.length) ((A.length + B.length) / 2 - B.length) (min A.length ((A.length + B.length) / 2)) := rfl;rw [<- hsd] at hb;simp only [<- hsd] at hl;rw [hs];clear hs hsd;generalize Sort.symS stF A B = s at *;generalize hh : (A.length + B.length) / 2 = h at *;have l1 : (A.take s).length = s := by rw [zLc]; omega
  have l2 : (A.drop s).length = A.length - s := zKZ;have l3 : (B.take (h - s)).length = h - s := by rw [zLc]; omega
  have l4 : (B.drop (h - s)).length = B.length - (h - s) := zKZ;have eA : A.take s ++ A.drop s = A := zLr _ _;have eB : B.take (h - s) ++ B.drop (h - s) = B := zLr _ _;generalize A.take s = A1 at *;generalize A.drop s = A2 at *;generalize B.take (h - s) = B1 at *;generalize B.drop (h - s) = B2 at *;have lM : (Sort.symL stF k A1 B1).length = h := by rw [zJv]; omega
  have i1 := fun q1 q2 => ih X A1 B1 (A2 ++ (B2 ++ Y)) q1 q2 (by omega) (by simp only [zKO]; omega);have i2 := fun q1 q2 => ih (X ++ Sort.symL stF k A1 B1) A2 B2 Y q1 q2 (by omega) (by rw [zKO, lM]; omega);have eR : X ++ (A ++ (B ++ Y)) = X ++ (A1 ++ (A2 ++ (B1 ++ (B2 ++ Y)))) := by rw [<- eA, <- eB]; simp only [zK5]
  rw [zKO, lM] at i2;have eN1 : X.length + A1.length + B1.length + (A2 ++ (B2 ++ Y)).length = X.length + A.length + B.length + Y.length := by simp only [zKO]; omega
  have eN2 : X.length + h + A2.length + B2.length + Y.length = X.length + A.length + B.length + Y.length := by omega
  rw [eN1, l1, l3, show X.length + s + (h - s) = X.length + h by omega] at i1;rw [eN2, l2, l4, show X.length + h + (A.length - s) = X.length + A.length + (h - s) by omega, show X.length + A.length + (h - s) + (B.length - (h - s)) = X.length + A.length + B.length by omega] at i2;have hrot : (X.length + s < X.length + A.length /\ X.length + A.length < X.length + A.length + (h - s)) -> zt G zc5 (mgC (X.length + A.length + B.length + Y.length) (X.length + s) (X.length + A.length) (X.length + A.length + (h - s))) (zg (X ++ (A ++ (B ++ Y)))) = some (.d (.tup []), zg (X ++ (A1 ++ (B1 ++ (A2 ++ (B2 ++ Y)))))) := by
   intro q;have := zIm (X ++ (A ++ (B ++ Y))) (X.length + s) (X.length + A.length) (X.length + A.length + (h - s)) z8 [] (by rw [hR]; exact hL) q.1 q.2 (by rw [hR]; omega);rw [hR] at this;have hq := Sort.rotR_ok (A2.length + B1.length) (X ++ A1) A2 B1 (B2 ++ Y) (by omega) (by omega) (zKV _);rw [zKO, l1, l2, l3, show X.length + s + (A.length - s) = X.length + A.length by omega] at hq;rw [show X.length + A.length + (h - s) - (X.length + s) = A.length - s + (h - s) by omega, show X.length + A.length - (X.length + s) = A.length - s by omega, show X.length + A.length + (h - s) - (X.length + A.length) = h - s by omega, eR] at this;rw [zK5, zK5] at hq;rw [hq] at this;rw [eR];exact this
  have e5 : X ++ (Sort.symL stF k A1 B1 ++ Sort.symL stF k A2 B2 ++ Y) = X ++ Sort.symL stF k A1 B1 ++ (Sort.symL stF k A2 B2 ++ Y) := by simp only [zK5]
  rw [e5];refine zJA (X.length + A.length + B.length + Y.length) X.length (X.length + A.length) (X.length + A.length + B.length) (X.length + h) (X.length + s) (X.length + A.length + (h - s)) (X.length + h + (X.length + A.length)) (X.length + (h - B.length)) (X.length + min A.length h) (X ++ (A ++ (B ++ Y))) (X ++ (A1 ++ (B1 ++ (A2 ++ (B2 ++ Y))))) (X ++ (Sort.symL stF k A1 B1 ++ (A2 ++ (B2 ++ Y)))) (X ++ Sort.symL stF k A1 B1 ++ (Sort.symL stF k A2 B2 ++ Y))
   ⟨by omega, by omega, by omega⟩ ⟨by omega, by omega⟩ (zfH (by omega) (by omega) (by omega)) rfl ⟨fun _ => ⟨by omega, by omega⟩, fun _ => ⟨by omega, by omega⟩⟩ hl ⟨by omega, by omega, by omega⟩ (by omega) ⟨by omega, by omega, by omega⟩ ?_ ?_ ?_
  · by_cases c : X.length + s < X.length + A.length /\ X.length + A.length < X.length + A.length + (h - s)
    · exact .inl ⟨c, hrot c⟩
    · by_cases c2 : X.length + A.length <= X.length + s
      · refine .inr (.inl ⟨c2, ?_⟩);have : A2 = [] := zLh.1 (by omega);rw [eR, this]; simp
      · refine .inr (.inr ⟨by omega, ?_⟩);have : B1 = [] := zLh.1 (by omega);rw [eR, this]; simp
  · by_cases c : X.length < X.length + s /\ X.length + s < X.length + h
    · exact .inl ⟨c, i1 (by omega) (by omega)⟩
    · by_cases c2 : X.length + s <= X.length
      · refine .inr (.inl ⟨c2, ?_⟩);rw [zgh k A1 B1 (.inl (zLh.1 (by omega)))]; simp only [zK5]
      · refine .inr (.inr ⟨by omega, ?_⟩);rw [zgh k A1 B1 (.inr (zLh.1 (by omega)))]; simp only [zK5]
  · have e6 : X ++ (Sort.symL stF k A1 B1 ++ (A2 ++ (B2 ++ Y))) = X ++ Sort.symL stF k A1 B1 ++ (A2 ++ (B2 ++ Y)) := by simp only [zK5]
    rw [e6]
    by_cases c : X.length + h < X.length + A.length + (h - s) /\ X.length + A.length + (h - s) < X.length + A.length + B.length
    · exact .inl ⟨c, i2 (by omega) (by omega)⟩
    · by_cases c2 : X.length + A.length + (h - s) <= X.length + h
      · refine .inr (.inl ⟨c2, ?_⟩);rw [zgh k A2 B2 (.inl (zLh.1 (by omega)))]; simp only [zK5]
      · refine .inr (.inr ⟨by omega, ?_⟩);rw [zgh k A2 B2 (.inr (zLh.1 (by omega)))]; simp only [zK5]
def za3 (n s a b : Nat) (R : List Event) : St := ⟨[(0, .osl 1000000 0 n), (1, .d (.int .i64 n)), (2, .d (.fn z8 [])), (6, .d (.int .i64 s)), (7, .d (.int .i64 a)), (8, .d (.int .i64 b)), (1000000, .ref 1000000 1 0)], zg R⟩
def za4 (n s a : Nat) (R : List Event) : St := ⟨[(0, .osl 1000000 0 n), (1, .d (.int .i64 n)), (2, .d (.fn z8 [])), (6, .d (.int .i64 s)), (7, .d (.int .i64 a)), (1000000, .ref 1000000 1 0)], zg R⟩
def zcy (n s : Nat) (R : List Event) : St := ⟨[(0, .osl 1000000 0 n), (1, .d (.int .i64 n)), (2, .d (.fn z8 [])), (6, .d (.int .i64 s)), (1000000, .ref 1000000 1 0)], zg R⟩
def blR (l : List Event) (q : Nat) : List Event := Sort.bkF stF 20 q l ++ l.drop (20 * q)
theorem zJi (l : List Event) (hL : l.length <= 4294967296) : ∀ q, 20 * q <= l.length -> zad G [] zdr (za3 l.length 20 (20 * q) (20 * q + 20) (blR l q)) = some (.exit 0, za4 l.length 20 (20 * (l.length / 20)) (blR l (l.length / 20))) := by
 refine zaI (fun q => l.length - 20 * q) (fun q => 20 * q <= l.length) (fun q => za3 l.length 20 (20 * q) (20 * q + 20) (blR l q)) (fun _ => some (.exit 0, za4 l.length 20 (20 * (l.length / 20)) (blR l (l.length / 20)))) fun q hq L ih => ?_
 by_cases c : 20 * q + 20 <= l.length
 · have i1 := ih (q + 1) (by omega) (by omega);clear ih;have hX : (Sort.bkF stF 20 q l).length = 20 * q := Sort.bkF_len 20 q l hq;have hD : ((l.drop (20 * q)).take 20).length = 20 := by rw [zLc, zKZ]; omega
   have hs := zrL (Sort.bkF stF 20 q l) ((l.drop (20 * q)).take 20) (l.drop (20 * (q + 1))) (by rw [hX, hD, zKZ]; omega);have e1 : Sort.bkF stF 20 q l ++ ((l.drop (20 * q)).take 20 ++ l.drop (20 * (q + 1))) = blR l q := by
    unfold blR
    congr 1
    rw [show 20 * (q + 1) = 20 * q + 20 by omega, <- zMb, zLr]
   have e2 : Sort.bkF stF 20 q l ++ (Sort.sortS stF ((l.drop (20 * q)).take 20) ++ l.drop (20 * (q + 1))) = blR l (q + 1) := by
    unfold blR;rw [Sort.bkF_snoc, zK5]
   rw [e1, e2, hX, hD, zKZ, show 20 * q + 20 + (l.length - 20 * (q + 1)) = l.length by omega] at hs;rw [show 20 * (q + 1) = 20 * q + 20 by omega] at i1;generalize blR l (l.length / 20) = R3 at *;generalize blR l q = R at *;generalize blR l (q + 1) = R2 at *;generalize 20 * (l.length / 20) = z at *;clear hX hD e1 e2;generalize l.length = n at *;generalize 20 * q = a at *;simp only [za3, za4, zg] at hs i1;simp only [za3, za4, zg, zdr];simp only [zLe, zK8, zK9, zLf, zLa, zKO, zKY, zK1, zK2, zK3, zKS, zK0, zKT, zN, zW] at hs i1
   (try simp -implicitDefEqProofs (disch := omega) only [zf, go_sem, *]); (try simp only [pA, pB, pC, pD, pE, pF, pG, pH, pI, pJ, pK, pL, pM, pN, pO, pP, if_true, if_false]); repeat' (first | done | rfl | ((first | refine zp (fun hq => ?_) (fun hq => ?_) | refine zq (fun hq => ?_) (fun hq => ?_)) <;> (try (first | (exfalso; omega) | contradiction)) <;> (try simp -implicitDefEqProofs (disch := omega) only [zf, go_sem, *]) <;> (try simp only [pA, pB, pC, pD, pE, pF, pG, pH, pI, pJ, pK, pL, pM, pN, pO, pP, if_true, if_false]))); (all_goals try rfl); (all_goals try (repeat' (first | done | rfl | (exfalso; omega) | contradiction | (refine zr (fun hq => ?_) (fun hq => ?_)))))
 · clear ih;have e : l.length / 20 = q := by omega
   rw [e];generalize blR l q = R at *;clear e;generalize l.length = n at *;generalize 20 * q = a at *;simp only [za3, za4, zg, zdr]
   (try simp -implicitDefEqProofs (disch := omega) only [zf, go_sem, *]); (try simp only [pA, pB, pC, pD, pE, pF, pG, pH, pI, pJ, pK, pL, pM, pN, pO, pP, if_true, if_false]); repeat' (first | done | rfl | ((first | refine zp (fun hq => ?_) (fun hq => ?_) | refine zq (fun hq => ?_) (fun hq => ?_)) <;> (try (first | (exfalso; omega) | contradiction)) <;> (try simp -implicitDefEqProofs (disch := omega) only [zf, go_sem, *]) <;> (try simp only [pA, pB, pC, pD, pE, pF, pG, pH, pI, pJ, pK, pL, pM, pN, pO, pP, if_true, if_false]))); (all_goals try rfl); (all_goals try (repeat' (first | done | rfl | (exfalso; omega) | contradiction | (refine zr (fun hq => ?_) (fun hq => ?_)))))
theorem zsc (l : List Event) (s q : Nat) (hs : 1 <= s) (hq : 2 * s * q + s < l.length) (hL : l.length <= 4294967296) :
    zt G zbK (mgC l.length (2 * s * q) (2 * s * q + s) (min (2 * s * q + 2 * s) l.length)) (zg (Sort.mgF stF s (l.length + 2) q l)) = some (.d (.tup []), zg (Sort.mgF stF s (l.length + 2) (q + 1) l)) := by
 have hX : (Sort.bkF stF (2 * s) q l).length = 2 * s * q := Sort.bkF_len (2 * s) q l (by omega);have hA : (Sort.sortS stF ((l.drop (2 * s * q)).take s)).length = s := by rw [Sort.sortS_len, zLc, zKZ]; omega
 have hB : (Sort.sortS stF (((l.drop (2 * s * q)).drop s).take s)).length = min s (l.length - (2 * s * q + s)) := by rw [Sort.sortS_len, zLc, zKZ, zKZ]; omega
 have hm := Sort.mgF_parts (f := stF) s l.length q l;have hmul : 2 * s * (q + 1) = 2 * s * q + 2 * s := zLz _ _;have hn : l.length <= s * l.length := Nat.le_mul_of_pos_left _ (by omega);have hY : (l.drop (2 * s * (q + 1))).length <= s * l.length := by rw [zKZ]; omega
 have hYl : (Sort.bkF stF s l.length (l.drop (2 * s * (q + 1)))).length = l.length - (2 * s * q + 2 * s) := by
  rw [(Sort.bkF_all (f := stF) s l.length _ hY).length_eq, zKZ, hmul]
 have h := zJz (2 * s) (Sort.bkF stF (2 * s) q l) (Sort.sortS stF ((l.drop (2 * s * q)).take s)) (Sort.sortS stF (((l.drop (2 * s * q)).drop s).take s)) (Sort.bkF stF s l.length (l.drop (2 * s * (q + 1)))) (by omega) (by omega) (by omega) (by rw [hX, hA, hB, hYl]; omega);rw [<- hm, hX, hA, hB, hYl, Sort.merge_two s (2 * s) _ (zKV _), Sort.mgF_next] at h;have hN : Sort.mgF stF s l.length (q + 1) l = Sort.mgF stF s (l.length + 2) (q + 1) l := by
  unfold Sort.mgF;rw [Sort.bkF_more s l.length 2 _ hY]
 rw [hN] at h;rw [show 2 * s * q + s + min s (l.length - (2 * s * q + s)) = min (2 * s * q + 2 * s) l.length by omega, show min (2 * s * q + 2 * s) l.length + (l.length - (2 * s * q + 2 * s)) = l.length by omega] at h;exact h
theorem zJj (l : List Event) (s : Nat) (hs : 1 <= s) (hs2 : s < l.length) (hL : l.length <= 4294967296) : ∀ q, 2 * s * q <= l.length -> ∃ Q, 2 * s * Q <= l.length /\ l.length < 2 * s * Q + 2 * s /\ zad G [] zds (za3 l.length s (2 * s * q) (2 * s * q + 2 * s) (Sort.mgF stF s (l.length + 2) q l)) = some (.exit 4, za4 l.length s (2 * s * Q) (Sort.mgF stF s (l.length + 2) Q l)) := by
 have key : ∀ Q, 2 * s * Q <= l.length -> l.length < 2 * s * Q + 2 * s -> ∀ q, q <= Q -> zad G [] zds (za3 l.length s (2 * s * q) (2 * s * q + 2 * s) (Sort.mgF stF s (l.length + 2) q l)) = some (.exit 4, za4 l.length s (2 * s * Q) (Sort.mgF stF s (l.length + 2) Q l)) := by
  intro Q h1 h2;refine zaI (fun q => Q - q) (fun q => q <= Q) (fun q => za3 l.length s (2 * s * q) (2 * s * q + 2 * s) (Sort.mgF stF s (l.length + 2) q l)) (fun _ => some (.exit 4, za4 l.length s (2 * s * Q) (Sort.mgF stF s (l.length + 2) Q l))) fun q hq L ih => ?_
  by_cases c : q < Q
  · have i1 := ih (q + 1) (by omega) (by omega);clear ih;have hmul : 2 * s * (q + 1) = 2 * s * q + 2 * s := zLz _ _;have hle : 2 * s * (q + 1) <= 2 * s * Q := Nat.mul_le_mul_left _ (by omega);have hm := zsc l s q hs (by omega) hL;rw [show min (2 * s * q + 2 * s) l.length = 2 * s * q + 2 * s by omega] at hm;rw [hmul] at i1 hle;generalize Sort.mgF stF s (l.length + 2) Q l = R3 at *;generalize Sort.mgF stF s (l.length + 2) q l = R at *;generalize Sort.mgF stF s (l.length + 2) (q + 1) l = R2 at *;clear hmul;generalize l.length = n at *;generalize 2 * s * Q = z at *;generalize 2 * s * q = a at *;simp only [mgC, za3, za4, zg] at hm i1;simp only [za3, za4, zg, zds];simp only [zLe, zK8, zK9, zLf, zLa, zKO, zKY, zK1, zK2, zK3, zKS, zK0, zKT, zN, zW] at hm i1
    (try simp -implicitDefEqProofs (disch := omega) only [zf, go_sem, *]); (try simp only [pA, pB, pC, pD, pE, pF, pG, pH, pI, pJ, pK, pL, pM, pN, pO, pP, if_true, if_false]); repeat' (first | done | rfl | ((first | refine zp (fun hq => ?_) (fun hq => ?_) | refine zq (fun hq => ?_) (fun hq => ?_)) <;> (try (first | (exfalso; omega) | contradiction)) <;> (try simp -implicitDefEqProofs (disch := omega) only [zf, go_sem, *]) <;> (try simp only [pA, pB, pC, pD, pE, pF, pG, pH, pI, pJ, pK, pL, pM, pN, pO, pP, if_true, if_false]))); (all_goals try rfl); (all_goals try (repeat' (first | done | rfl | (exfalso; omega) | contradiction | (refine zr (fun hq => ?_) (fun hq => ?_)))))
  · clear ih;obtain rfl : q = Q := by omega
    generalize Sort.mgF stF s (l.length + 2) q l = R at *;generalize l.length = n at *;generalize 2 * s * q = a at *;simp only [za3, za4, zg, zds]
    (try simp -implicitDefEqProofs (disch := omega) only [zf, go_sem, *]); (try simp only [pA, pB, pC, pD, pE, pF, pG, pH, pI, pJ, pK, pL, pM, pN, pO, pP, if_true, if_false]); repeat' (first | done | rfl | ((first | refine zp (fun hq => ?_) (fun hq => ?_) | refine zq (fun hq => ?_) (fun hq => ?_)) <;> (try (first | (exfalso; omega) | contradiction)) <;> (try simp -implicitDefEqProofs (disch := omega) only [zf, go_sem, *]) <;> (try simp only [pA, pB, pC, pD, pE, pF, pG, pH, pI, pJ, pK, pL, pM, pN, pO, pP, if_true, if_false]))); (all_goals try rfl); (all_goals try (repeat' (first | done | rfl | (exfalso; omega) | contradiction | (refine zr (fun hq => ?_) (fun hq => ?_)))))
 intro q hq;have hp : 0 < 2 * s := by omega
 have d1 : 2 * s * (l.length / (2 * s)) <= l.length := Nat.mul_div_le _ _;have d2 : l.length < 2 * s * (l.length / (2 * s)) + 2 * s := by
  have := Nat.lt_mul_div_succ l.length hp;rw [zLz] at this; exact this
 refine ⟨l.length / (2 * s), d1, d2, key _ d1 d2 q ?_⟩;exact (Nat.le_div_iff_mul_le hp).2 (by rw [zL4]; exact hq)
theorem zmE (l : List Event) (s Q : Nat) (hs : 1 <= s) (h1 : l.length <= s * (Q + 1)) (h2 : Q + 1 <= l.length) : Sort.bkF stF s (Q + 1) l = Sort.bkF stF s l.length l := by
 rw [show l.length = Q + 1 + (l.length - (Q + 1)) by omega, Sort.bkF_more s (Q + 1) _ l h1]
theorem zIn (l : List Event) (s Q : Nat) (hs : 1 <= s) (hs2 : s < l.length) (h1 : 2 * s * Q <= l.length) (h2 : l.length < 2 * s * Q + 2 * s) :
    (2 * s * Q + s < l.length -> Sort.mgF stF s (l.length + 2) (Q + 1) l = Sort.bkF stF (2 * s) l.length l) /\ (¬ 2 * s * Q + s < l.length -> Sort.mgF stF s (l.length + 2) Q l = Sort.bkF stF (2 * s) l.length l) := by
 have hmul : 2 * s * (Q + 1) = 2 * s * Q + 2 * s := zLz _ _;have hQ : Q + 1 <= l.length := by
  have : 2 * Q <= 2 * s * Q := zK6 _ (by omega);omega
 have hall := zmE l (2 * s) Q (by omega) (by omega) hQ;refine ⟨fun _ => ?_, fun c => ?_⟩
 · unfold Sort.mgF;rw [zLU (by omega), Sort.bkF_nil, zLt, hall]
 · rw [<- hall, Sort.bkF_snoc];unfold Sort.mgF
   congr 1
   have hl : (l.drop (2 * s * Q)).length <= s := by rw [zKZ]; omega
   rw [show l.length + 2 = l.length + 1 + 1 by omega, Sort.bkF_one s _ hl, zLK (by omega)]
theorem zJk (l : List Event) (hn : 1 <= l.length) (hL : l.length <= 4294967296) : ∀ s, 1 <= s /\ s <= 8589934592 -> zad G [] zcQ (zcy l.length s (Sort.bkF stF s l.length l)) = some (.exit 2, ⟨gE1, zg (Sort.sortS stF l)⟩) := by
 refine zaI (fun s => l.length - s) (fun s => 1 <= s /\ s <= 8589934592) (fun s => zcy l.length s (Sort.bkF stF s l.length l)) (fun _ => some (.exit 2, ⟨gE1, zg (Sort.sortS stF l)⟩)) fun s hs L ih => ?_
 by_cases c : s < l.length
 · have i1 := ih (2 * s) (by omega) (by omega);clear ih;obtain ⟨Q, h1, h2, hl⟩ := zJj l s hs.1 c hL 0 (by omega);rw [Sort.mgF_zero, Nat.mul_zero, zKT, show Sort.bkF stF s (l.length + 2) l = Sort.bkF stF s l.length l from Sort.bkF_more s l.length 2 l (Nat.le_mul_of_pos_left _ (by omega))] at hl;obtain ⟨r1, r2⟩ := zIn l s Q hs.1 c h1 h2;have hm := zsc l s Q hs.1
   by_cases c2 : 2 * s * Q + s < l.length
   · have hm := hm c2 hL;rw [show min (2 * s * Q + 2 * s) l.length = l.length by omega, r1 c2] at hm;clear r1 r2;generalize Sort.sortS stF l = R4 at *;generalize Sort.mgF stF s (l.length + 2) Q l = R2 at *;generalize Sort.bkF stF s l.length l = R at *;generalize Sort.bkF stF (2 * s) l.length l = R3 at *;generalize l.length = n at *;generalize 2 * s * Q = a at *;rw [show 2 * s = s * 2 by omega] at i1;simp only [mgC, za3, za4, zcy, zg, gE1] at hm hl i1;simp only [zcy, zg, gE1, zcQ];simp only [zLe, zK8, zK9, zLf, zLa, zKO, zKY, zK1, zK2, zK3, zKS, zK0, zKT, zN, zW] at hm hl i1
     (try simp -implicitDefEqProofs (disch := omega) only [zf, go_sem, *]); (try simp only [pA, pB, pC, pD, pE, pF, pG, pH, pI, pJ, pK, pL, pM, pN, pO, pP, if_true, if_false]); repeat' (first | done | rfl | ((first | refine zp (fun hq => ?_) (fun hq => ?_) | refine zq (fun hq => ?_) (fun hq => ?_)) <;> (try (first | (exfalso; omega) | contradiction)) <;> (try simp -implicitDefEqProofs (disch := omega) only [zf, go_sem, *]) <;> (try simp only [pA, pB, pC, pD, pE, pF, pG, pH, pI, pJ, pK, pL, pM, pN, pO, pP, if_true, if_false]))); (all_goals try rfl); (all_goals try (repeat' (first | done | rfl | (exfalso; omega) | contradiction | (refine zr (fun hq => ?_) (fun hq => ?_)))))
   · rw [r2 c2] at hl;clear r1 r2 hm;generalize Sort.sortS stF l = R4 at *;generalize Sort.bkF stF s l.length l = R at *;generalize Sort.bkF stF (2 * s) l.length l = R3 at *;generalize l.length = n at *;generalize 2 * s * Q = a at *;rw [show 2 * s = s * 2 by omega] at i1;simp only [za3, za4, zcy, zg, gE1] at hl i1;simp only [zcy, zg, gE1, zcQ];simp only [zLe, zK8, zK9, zLf, zLa, zKO, zKY, zK1, zK2, zK3, zKS, zK0, zKT, zN, zW] at hl i1
     (try simp -implicitDefEqProofs (disch := omega) only [zf, go_sem, *]); (try simp only [pA, pB, pC, pD, pE, pF, pG, pH, pI, pJ, pK, pL, pM, pN, pO, pP, if_true, if_false]); repeat' (first | done | rfl | ((first | refine zp (fun hq => ?_) (fun hq => ?_) | refine zq (fun hq => ?_) (fun hq => ?_)) <;> (try (first | (exfalso; omega) | contradiction)) <;> (try simp -implicitDefEqProofs (disch := omega) only [zf, go_sem, *]) <;> (try simp only [pA, pB, pC, pD, pE, pF, pG, pH, pI, pJ, pK, pL, pM, pN, pO, pP, if_true, if_false]))); (all_goals try rfl); (all_goals try (repeat' (first | done | rfl | (exfalso; omega) | contradiction | (refine zr (fun hq => ?_) (fun hq => ?_)))))
 · clear ih;have e : Sort.bkF stF s l.length l = Sort.sortS stF l := by
    rw [show l.length = l.length - 1 + 1 by omega];exact Sort.bkF_one s _ (by omega)
   rw [e];generalize Sort.sortS stF l = R at *;clear e;generalize l.length = n at *;simp only [zcy, zg, gE1, zcQ]
   (try simp -implicitDefEqProofs (disch := omega) only [zf, go_sem, *]); (try simp only [pA, pB, pC, pD, pE, pF, pG, pH, pI, pJ, pK, pL, pM, pN, pO, pP, if_true, if_false]); repeat' (first | done | rfl | ((first | refine zp (fun hq => ?_) (fun hq => ?_) | refine zq (fun hq => ?_) (fun hq => ?_)) <;> (try (first | (exfalso; omega) | contradiction)) <;> (try simp -implicitDefEqProofs (disch := omega) only [zf, go_sem, *]) <;> (try simp only [pA, pB, pC, pD, pE, pF, pG, pH, pI, pJ, pK, pL, pM, pN, pO, pP, if_true, if_false]))); (all_goals try rfl); (all_goals try (repeat' (first | done | rfl | (exfalso; omega) | contradiction | (refine zr (fun hq => ?_) (fun hq => ?_)))))
theorem zJn (l : List Event) (hn : 1 <= l.length) (hL : l.length <= 4294967296) : zt G zdW [.osl 1000000 0 l.length, .d (.int .i64 l.length), .d (.fn z8 [])] (zg l) = some (.d (.tup []), zg (Sort.sortS stF l)) := by
 have h0 := zJi l hL 0 (by omega);have h2 := zJk l hn hL 20 (by omega);have e0 : blR l 0 = l := by unfold blR; simp [Sort.bkF]
 have hq : 20 * (l.length / 20) <= l.length := Nat.mul_div_le _ _;have hX : (Sort.bkF stF 20 (l.length / 20) l).length = 20 * (l.length / 20) := Sort.bkF_len 20 _ l hq;have h1 := zrL (Sort.bkF stF 20 (l.length / 20) l) (l.drop (20 * (l.length / 20))) [] (by rw [hX, zKZ]; simp; omega);have e1 : Sort.bkF stF 20 (l.length / 20) l ++ (l.drop (20 * (l.length / 20)) ++ []) = blR l (l.length / 20) := by unfold blR; rw [zLt]
 have e2 : Sort.bkF stF 20 (l.length / 20) l ++ (Sort.sortS stF (l.drop (20 * (l.length / 20))) ++ []) = Sort.bkF stF 20 l.length l := by
  rw [<- zmE l 20 (l.length / 20) (by omega) (by omega) (by omega), Sort.bkF_snoc, zLt, zLK (by rw [zKZ]; omega)]
 rw [e1, e2, hX, zKZ, show 20 * (l.length / 20) + (l.length - 20 * (l.length / 20)) = l.length by omega, zK2, zLL] at h1;rw [e0, Nat.mul_zero, zKT] at h0;clear e0 e1 e2 hX;generalize Sort.sortS stF l = R4 at *;generalize blR l (l.length / 20) = R at *;generalize Sort.bkF stF 20 l.length l = R3 at *;generalize 20 * (l.length / 20) = a at *;generalize l.length = n at *;simp only [za3, za4, zcy, zg, gE1] at h0 h1 h2 ⊢;simp only [zLe, zK8, zK9, zLf, zLa, zKO, zKY, zK1, zK2, zK3, zKS, zK0, zKT, zN, zW] at h0 h1 h2;rw [zac zri (by simp)]; simp -implicitDefEqProofs (disch := omega) only [zgW, zf, go_sem, *]; (try simp only [pA, pB, pC, pD, pE, pF, pG, pH, pI, pJ, pK, pL, pM, pN, pO, pP, if_true, if_false]); repeat' (first | done | rfl | ((first | refine zp (fun hq => ?_) (fun hq => ?_) | refine zq (fun hq => ?_) (fun hq => ?_)) <;> (try (first | (exfalso; omega) | contradiction)) <;> (try simp -implicitDefEqProofs (disch := omega) only [zf, go_sem, *]) <;> (try simp only [pA, pB, pC, pD, pE, pF, pG, pH, pI, pJ, pK, pL, pM, pN, pO, pP, if_true, if_false]))); (all_goals try rfl); (all_goals try (repeat' (first | done | rfl | (exfalso; omega) | contradiction | (refine zr (fun hq => ?_) (fun hq => ?_)))))
theorem zJe (l : List Event) (hn : 1 <= l.length) (hL : l.length <= 4294967296) : zt G zdV [.osl 1000000 0 l.length, .d (.fn z8 [])] (zg l) = some (.d (.tup []), zg (Sort.sortS stF l)) := by
 have h := zJn l hn hL;generalize Sort.sortS stF l = R4 at *;simp only [zg] at h ⊢;rw [zac zrh (by simp)]; simp -implicitDefEqProofs (disch := omega) only [zgV, zf, go_sem, *]; (try simp only [pA, pB, pC, pD, pE, pF, pG, pH, pI, pJ, pK, pL, pM, pN, pO, pP, if_true, if_false]); repeat' (first | done | rfl | ((first | refine zp (fun hq => ?_) (fun hq => ?_) | refine zq (fun hq => ?_) (fun hq => ?_)) <;> (try (first | (exfalso; omega) | contradiction)) <;> (try simp -implicitDefEqProofs (disch := omega) only [zf, go_sem, *]) <;> (try simp only [pA, pB, pC, pD, pE, pF, pG, pH, pI, pJ, pK, pL, pM, pN, pO, pP, if_true, if_false]))); (all_goals try rfl); (all_goals try (repeat' (first | done | rfl | (exfalso; omega) | contradiction | (refine zr (fun hq => ?_) (fun hq => ?_)))))
theorem zz9 : zt G zc4 [.d (.sl []), .d (.int .i64 0), .d (.int .i64 0), .d (.fn z8 [])] [] = some (.d (.tup []), []) := by
 rw [zac zht (by simp)]; simp -implicitDefEqProofs (disch := omega) only [zff, zb1, zco, zf, go_sem, *]; (try simp only [pA, pB, pC, pD, pE, pF, pG, pH, pI, pJ, pK, pL, pM, pN, pO, pP, if_true, if_false]); repeat' (first | done | rfl | ((first | refine zp (fun hq => ?_) (fun hq => ?_) | refine zq (fun hq => ?_) (fun hq => ?_)) <;> (try (first | (exfalso; omega) | contradiction)) <;> (try simp -implicitDefEqProofs (disch := omega) only [zb1, zco, zf, go_sem, *]) <;> (try simp only [pA, pB, pC, pD, pE, pF, pG, pH, pI, pJ, pK, pL, pM, pN, pO, pP, if_true, if_false]))); (all_goals try rfl); (all_goals try (repeat' (first | done | rfl | (exfalso; omega) | contradiction | (refine zr (fun hq => ?_) (fun hq => ?_)))))
theorem zAa : zt G zc4 [.xsl [], .d (.int .i64 0), .d (.int .i64 0), .d (.fn z8 [])] [] = some (.d (.tup []), []) := by
 rw [zac zht (by simp)]; simp -implicitDefEqProofs (disch := omega) only [zff, zb1, zco, zf, go_sem, *]; (try simp only [pA, pB, pC, pD, pE, pF, pG, pH, pI, pJ, pK, pL, pM, pN, pO, pP, if_true, if_false]); repeat' (first | done | rfl | ((first | refine zp (fun hq => ?_) (fun hq => ?_) | refine zq (fun hq => ?_) (fun hq => ?_)) <;> (try (first | (exfalso; omega) | contradiction)) <;> (try simp -implicitDefEqProofs (disch := omega) only [zb1, zco, zf, go_sem, *]) <;> (try simp only [pA, pB, pC, pD, pE, pF, pG, pH, pI, pJ, pK, pL, pM, pN, pO, pP, if_true, if_false]))); (all_goals try rfl); (all_goals try (repeat' (first | done | rfl | (exfalso; omega) | contradiction | (refine zr (fun hq => ?_) (fun hq => ?_)))))
theorem zJm : zt G zdW [.xsl [], .d (.int .i64 0), .d (.fn z8 [])] [] = some (.d (.tup []), []) := by
 have h := zz9;have h2 := zAa;rw [zac zri (by simp)]; simp -implicitDefEqProofs (disch := omega) only [zgW, zb1, zdr, zcQ, zf, go_sem, *]; (try simp only [pA, pB, pC, pD, pE, pF, pG, pH, pI, pJ, pK, pL, pM, pN, pO, pP, if_true, if_false]); repeat' (first | done | rfl | ((first | refine zp (fun hq => ?_) (fun hq => ?_) | refine zq (fun hq => ?_) (fun hq => ?_)) <;> (try (first | (exfalso; omega) | contradiction)) <;> (try simp -implicitDefEqProofs (disch := omega) only [zb1, zdr, zcQ, zf, go_sem, *]) <;> (try simp only [pA, pB, pC, pD, pE, pF, pG, pH, pI, pJ, pK, pL, pM, pN, pO, pP, if_true, if_false]))); (all_goals try rfl); (all_goals try (repeat' (first | done | rfl | (exfalso; omega) | contradiction | (refine zr (fun hq => ?_) (fun hq => ?_)))))
theorem zJd : zt G zdV [.xsl [], .d (.fn z8 [])] [] = some (.d (.tup []), []) := by
 have h := zJm;rw [zac zrh (by simp)]; simp -implicitDefEqProofs (disch := omega) only [zgV, zf, go_sem, *]; (try simp only [pA, pB, pC, pD, pE, pF, pG, pH, pI, pJ, pK, pL, pM, pN, pO, pP, if_true, if_false]); repeat' (first | done | rfl | ((first | refine zp (fun hq => ?_) (fun hq => ?_) | refine zq (fun hq => ?_) (fun hq => ?_)) <;> (try (first | (exfalso; omega) | contradiction)) <;> (try simp -implicitDefEqProofs (disch := omega) only [zf, go_sem, *]) <;> (try simp only [pA, pB, pC, pD, pE, pF, pG, pH, pI, pJ, pK, pL, pM, pN, pO, pP, if_true, if_false]))); (all_goals try rfl); (all_goals try (repeat' (first | done | rfl | (exfalso; omega) | contradiction | (refine zr (fun hq => ?_) (fun hq => ?_)))))
theorem zxS (es : List D) (hs : zab 10 es = true) (hL : es.length <= 4294967296) : zt G ze3 [.d (.sl es)] [] = some (.acc 0 es, [(0, .acc es.length)]) := by
 cases es with
 | nil =>
  refine zxJ zrg (by decide) ?_ ?_
  · simp -implicitDefEqProofs only [zfe, go_sem]
  · simp -implicitDefEqProofs only [zfe, zMp, go_sem]
 | cons e es =>
  rw [zxI zrg (by simp) (by decide)];simp only [zmx] at hs;simp only [zK0] at hL;simp -implicitDefEqProofs (disch := omega) only [zfe, go_sem, *]
theorem zs0 (l : List Event) (hL : l.length <= 4294967296) : zt G zcC [.d (.sl (l.map zm))] [] = some (.d (.sl ((Sort.sortS stF l).map zm)), []) := by
 have hc := zxS (l.map zm) (zmw _) (by simp only [zKY]; omega);have hlen : (Sort.sortS stF l).length = l.length := Sort.sortS_len l
 cases l with
 | nil =>
  have e : Sort.sortS stF ([] : List Event) = [] := rfl;have h := zJd;rw [e];simp only [zK1, zK2] at hc;rw [zac zrj (by simp)]; simp -implicitDefEqProofs (disch := omega) only [zgX, zf, go_sem, *]; (try simp only [pA, pB, pC, pD, pE, pF, pG, pH, pI, pJ, pK, pL, pM, pN, pO, pP, if_true, if_false]); repeat' (first | done | rfl | ((first | refine zp (fun hq => ?_) (fun hq => ?_) | refine zq (fun hq => ?_) (fun hq => ?_)) <;> (try (first | (exfalso; omega) | contradiction)) <;> (try simp -implicitDefEqProofs (disch := omega) only [zf, go_sem, *]) <;> (try simp only [pA, pB, pC, pD, pE, pF, pG, pH, pI, pJ, pK, pL, pM, pN, pO, pP, if_true, if_false]))); (all_goals try rfl); (all_goals try (repeat' (first | done | rfl | (exfalso; omega) | contradiction | (refine zr (fun hq => ?_) (fun hq => ?_)))))
 | cons x l =>
  have h := zJe (x :: l) (by simp) hL;generalize hz : x :: l = z at *;have hne : ¬ z.length = 0 := by rw [<- hz]; simp
  have hne2 : ¬ z = [] := by rw [<- hz]; simp
  clear hz;generalize Sort.sortS stF z = R at *;simp only [zg] at h;rw [zac zrj (by simp)]; simp -implicitDefEqProofs (disch := omega) only [zgX, zf, go_sem, *]; (try simp only [pA, pB, pC, pD, pE, pF, pG, pH, pI, pJ, pK, pL, pM, pN, pO, pP, if_true, if_false]); repeat' (first | done | rfl | ((first | refine zp (fun hq => ?_) (fun hq => ?_) | refine zq (fun hq => ?_) (fun hq => ?_)) <;> (try (first | (exfalso; omega) | contradiction)) <;> (try simp -implicitDefEqProofs (disch := omega) only [zf, go_sem, *]) <;> (try simp only [pA, pB, pC, pD, pE, pF, pG, pH, pI, pJ, pK, pL, pM, pN, pO, pP, if_true, if_false]))); (all_goals try rfl); (all_goals try (repeat' (first | done | rfl | (exfalso; omega) | contradiction | (refine zr (fun hq => ?_) (fun hq => ?_)))))
def zcu (l R : List Event) (i j : Nat) : St := ⟨[(0, .d (.sl (l.map zm))), (3, .acc 35 (R.map zm)), (4, .d (.int .i64 i)), (5, .d (.int .i64 j))], [(35, .acc R.length)]⟩
theorem zIf (l R : List Event) (x : Event) (i : Nat) (hl : l.length <= 4294967296) (hL : R.length <= 4294967296) (hx : l[i]? = some x) : ∀ j, j <= R.length -> zad G [] zcP (zcu l R i j) = some (.exit 2, zcu l R i (Sort.insJ stF x R j)) := by
 have hi := zc1 hx;have g : (l.map zm)[i]? = some (zm x) := by rw [zKQ, hx]; rfl
 clear hx;refine zaI (fun j => j) (fun j => j <= R.length) (fun j => zcu l R i j) (fun j => some (.exit 2, zcu l R i (Sort.insJ stF x R j))) fun j hj L ih => ?_
 cases j with
 | zero =>
  clear ih;simp only [Sort.insJ, zcu, zcP]
  (try simp -implicitDefEqProofs (disch := omega) only [zf, go_sem, *]); (try simp only [pA, pB, pC, pD, pE, pF, pG, pH, pI, pJ, pK, pL, pM, pN, pO, pP, if_true, if_false]); repeat' (first | done | rfl | ((first | refine zp (fun hq => ?_) (fun hq => ?_) | refine zq (fun hq => ?_) (fun hq => ?_)) <;> (try (first | (exfalso; omega) | contradiction)) <;> (try simp -implicitDefEqProofs (disch := omega) only [zf, go_sem, *]) <;> (try simp only [pA, pB, pC, pD, pE, pF, pG, pH, pI, pJ, pK, pL, pM, pN, pO, pP, if_true, if_false]))); (all_goals try rfl); (all_goals try (repeat' (first | done | rfl | (exfalso; omega) | contradiction | (refine zr (fun hq => ?_) (fun hq => ?_)))))
 | succ j =>
  have i1 := ih j (by omega) (by omega);clear ih;have hJ : Sort.insJ stF x R (j + 1) = if x.stamp < R[j].stamp then Sort.insJ stF x R j else j + 1 := by
   rw [Sort.insJ, zKR (by omega)]
   by_cases q : x.stamp < R[j].stamp
   · rw [zKN q, zKN (by simp [stF, q])]
   · rw [zKM q, zKM (by simp [stF, q])]
  rw [hJ];clear hJ;have e1 : ((j : Int) + 1 - 1).toNat = j := by omega
  have e2 : (j : Int) + 1 - 1 = j := by omega
  simp only [zcu, zcP] at i1 ⊢
  by_cases c : x.stamp < R[j].stamp
  · rw [zKN c];generalize Sort.insJ stF x R j = z at *
    (try simp -implicitDefEqProofs (disch := omega) only [e1, e2, g, zf, go_sem, *]); (try simp only [pA, pB, pC, pD, pE, pF, pG, pH, pI, pJ, pK, pL, pM, pN, pO, pP, if_true, if_false]); repeat' (first | done | rfl | ((first | refine zp (fun hq => ?_) (fun hq => ?_) | refine zq (fun hq => ?_) (fun hq => ?_)) <;> (try (first | (exfalso; omega) | contradiction)) <;> (try simp -implicitDefEqProofs (disch := omega) only [e1, e2, g, zf, go_sem, *]) <;> (try simp only [pA, pB, pC, pD, pE, pF, pG, pH, pI, pJ, pK, pL, pM, pN, pO, pP, if_true, if_false]))); (all_goals try rfl); (all_goals try (repeat' (first | done | rfl | (exfalso; omega) | contradiction | (refine zr (fun hq => ?_) (fun hq => ?_)))))
  · rw [zKM c]
    (try simp -implicitDefEqProofs (disch := omega) only [e1, e2, g, zf, go_sem, *]); (try simp only [pA, pB, pC, pD, pE, pF, pG, pH, pI, pJ, pK, pL, pM, pN, pO, pP, if_true, if_false]); repeat' (first | done | rfl | ((first | refine zp (fun hq => ?_) (fun hq => ?_) | refine zq (fun hq => ?_) (fun hq => ?_)) <;> (try (first | (exfalso; omega) | contradiction)) <;> (try simp -implicitDefEqProofs (disch := omega) only [e1, e2, g, zf, go_sem, *]) <;> (try simp only [pA, pB, pC, pD, pE, pF, pG, pH, pI, pJ, pK, pL, pM, pN, pO, pP, if_true, if_false]))); (all_goals try rfl); (all_goals try (repeat' (first | done | rfl | (exfalso; omega) | contradiction | (refine zr (fun hq => ?_) (fun hq => ?_)))))
def zc0 (l R : List Event) (i : Nat) : St := if R.length = 0 then ⟨[(0, .d (.sl (l.map zm))), (3, .d (.sl [])), (4, .d (.int .i64 i))], []⟩ else ⟨[(0, .d (.sl (l.map zm))), (3, .acc 35 (R.map zm)), (4, .d (.int .i64 i))], [(35, .acc R.length)]⟩
def zeM (R : List Event) : St := if R.length = 0 then ⟨[(3, .d (.sl []))], []⟩ else ⟨[(3, .acc 35 (R.map zm))], [(35, .acc R.length)]⟩
theorem zIh (l : List Event) (hl : l.length <= 4294967296) : ∀ i, i <= l.length -> zad G [] zer (zc0 l (Sort.sortS stF (l.take i)) i) = some (.exit 0, zeM (Sort.sortS stF l)) := by
 refine zaI (fun i => l.length - i) (fun i => i <= l.length) (fun i => zc0 l (Sort.sortS stF (l.take i)) i) (fun _ => some (.exit 0, zeM (Sort.sortS stF l))) fun i hi L ih => ?_
 by_cases c : i < l.length
 · have i1 := ih (i + 1) (by omega) (by omega);clear ih;have hlen : (Sort.sortS stF (l.take i)).length = i := by rw [Sort.sortS_len, zLc]; omega
   have hs : Sort.sortS stF (l.take (i + 1)) = Sort.insB stF (Sort.sortS stF (l.take i)) l[i] := by
    rw [zMG, zKR c];simp only [Option.toList];rw [Sort.sortS_snoc]
   have hJ := Sort.insB_J (f := stF) l[i] (Sort.sortS stF (l.take i));have hle := Sort.insJ_le (f := stF) l[i] (Sort.sortS stF (l.take i)) (Sort.sortS stF (l.take i)).length;have hx : l[i]? = some l[i] := zKR c;have hri := zIf l (Sort.sortS stF (l.take i)) l[i] i hl (by omega) hx _ (zKV _);have hnl : (Sort.sortS stF (l.take (i + 1))).length = i + 1 := by rw [Sort.sortS_len, zLc]; omega
   generalize zeM (Sort.sortS stF l) = Z at *;rw [hs] at i1 hnl;rw [hJ] at i1 hnl;clear hs hJ;have g : (l.map zm)[i]? = some (zm l[i]) := by rw [zKQ, hx]; rfl
   generalize l[i] = x at *;generalize Sort.sortS stF (l.take i) = R at *;generalize Sort.insJ stF x R R.length = j at *;have hn0 : ¬ (R.take j ++ x :: R.drop j).length = 0 := by omega
   subst hlen;simp only [zc0, hn0, if_false] at i1;clear hn0
   by_cases c0 : R.length = 0
   · have hR : R = [] := zLh.1 c0;subst hR;obtain rfl : j = 0 := by simpa using hle
     simp only [zcu, zc0, zK2, if_true, zer] at *;simp only [zMH, zMI, zLT, zKS, zK1, zK0, zK2] at i1 hri;clear hnl;simp only [zLe, zK8, zK9, zLf, zLa, zKO, zKY, zK1, zK2, zK3, zKS, zK0, zKT, zN, zW] at i1 hri
     (try simp -implicitDefEqProofs (disch := omega) only [g, zb1, zcP, zf, go_sem, *]); (try simp only [pA, pB, pC, pD, pE, pF, pG, pH, pI, pJ, pK, pL, pM, pN, pO, pP, if_true, if_false]); repeat' (first | done | rfl | ((first | refine zp (fun hq => ?_) (fun hq => ?_) | refine zq (fun hq => ?_) (fun hq => ?_)) <;> (try (first | (exfalso; omega) | contradiction)) <;> (try simp -implicitDefEqProofs (disch := omega) only [g, zb1, zcP, zf, go_sem, *]) <;> (try simp only [pA, pB, pC, pD, pE, pF, pG, pH, pI, pJ, pK, pL, pM, pN, pO, pP, if_true, if_false]))); (all_goals try rfl); (all_goals try (repeat' (first | done | rfl | (exfalso; omega) | contradiction | (refine zr (fun hq => ?_) (fun hq => ?_)))))
   · simp only [zcu, zc0, c0, if_false, zer] at *;clear hnl;rw [show R.take j ++ x :: R.drop j = R.take j ++ [x] ++ R.drop j by simp] at i1;simp only [zK3, zKS, zK1, zKO, zLc, zK0, zK2, zKZ, zKT] at i1;simp only [zLe, zK8, zK9, zLf, zLa, zKO, zKY, zK1, zK2, zK3, zKS, zK0, zKT, zN, zW] at i1
     (try simp -implicitDefEqProofs (disch := omega) only [g, zf, go_sem, *]); (try simp only [pA, pB, pC, pD, pE, pF, pG, pH, pI, pJ, pK, pL, pM, pN, pO, pP, if_true, if_false]); repeat' (first | done | rfl | ((first | refine zp (fun hq => ?_) (fun hq => ?_) | refine zq (fun hq => ?_) (fun hq => ?_)) <;> (try (first | (exfalso; omega) | contradiction)) <;> (try simp -implicitDefEqProofs (disch := omega) only [g, zf, go_sem, *]) <;> (try simp only [pA, pB, pC, pD, pE, pF, pG, pH, pI, pJ, pK, pL, pM, pN, pO, pP, if_true, if_false]))); (all_goals try rfl); (all_goals try (repeat' (first | done | rfl | (exfalso; omega) | contradiction | (refine zr (fun hq => ?_) (fun hq => ?_)))))
 · clear ih;obtain rfl : i = l.length := by omega
   rw [List.take_length];generalize Sort.sortS stF l = R at *;simp only [zc0, zeM, zer]
   by_cases c0 : R.length = 0
   · rw [zKN c0, zKN c0]
     (try simp -implicitDefEqProofs (disch := omega) only [zf, go_sem, *]); (try simp only [pA, pB, pC, pD, pE, pF, pG, pH, pI, pJ, pK, pL, pM, pN, pO, pP, if_true, if_false]); repeat' (first | done | rfl | ((first | refine zp (fun hq => ?_) (fun hq => ?_) | refine zq (fun hq => ?_) (fun hq => ?_)) <;> (try (first | (exfalso; omega) | contradiction)) <;> (try simp -implicitDefEqProofs (disch := omega) only [zf, go_sem, *]) <;> (try simp only [pA, pB, pC, pD, pE, pF, pG, pH, pI, pJ, pK, pL, pM, pN, pO, pP, if_true, if_false]))); (all_goals try rfl); (all_goals try (repeat' (first | done | rfl | (exfalso; omega) | contradiction | (refine zr (fun hq => ?_) (fun hq => ?_)))))
   · rw [zKM c0, zKM c0]
     (try simp -implicitDefEqProofs (disch := omega) only [zf, go_sem, *]); (try simp only [pA, pB, pC, pD, pE, pF, pG, pH, pI, pJ, pK, pL, pM, pN, pO, pP, if_true, if_false]); repeat' (first | done | rfl | ((first | refine zp (fun hq => ?_) (fun hq => ?_) | refine zq (fun hq => ?_) (fun hq => ?_)) <;> (try (first | (exfalso; omega) | contradiction)) <;> (try simp -implicitDefEqProofs (disch := omega) only [zf, go_sem, *]) <;> (try simp only [pA, pB, pC, pD, pE, pF, pG, pH, pI, pJ, pK, pL, pM, pN, pO, pP, if_true, if_false]))); (all_goals try rfl); (all_goals try (repeat' (first | done | rfl | (exfalso; omega) | contradiction | (refine zr (fun hq => ?_) (fun hq => ?_)))))
theorem zIj (l : List Event) (hL : l.length <= 4294967296) : zt G ze2 [.d (.sl (l.map zm))] [] = some (.d (.sl ((Sort.sortS stF l).map zm)), []) := by
 have h := zIh l hL 0 (zMp _);have e : Sort.sortS stF (l.take 0) = [] := rfl;rw [e] at h;generalize Sort.sortS stF l = R at *;simp only [zc0, zeM, zK2, if_true] at h
 by_cases c0 : R.length = 0
 · rw [zKN c0] at h;rw [zLh.1 c0];simp only [zLe, zK8, zK9, zLf, zLa, zKO, zKY, zK1, zK2, zK3, zKS, zK0, zKT, zN, zW] at h;rw [zac zrf (by simp)]; simp -implicitDefEqProofs (disch := omega) only [zgU, zf, go_sem, *]; (try simp only [pA, pB, pC, pD, pE, pF, pG, pH, pI, pJ, pK, pL, pM, pN, pO, pP, if_true, if_false]); repeat' (first | done | rfl | ((first | refine zp (fun hq => ?_) (fun hq => ?_) | refine zq (fun hq => ?_) (fun hq => ?_)) <;> (try (first | (exfalso; omega) | contradiction)) <;> (try simp -implicitDefEqProofs (disch := omega) only [zf, go_sem, *]) <;> (try simp only [pA, pB, pC, pD, pE, pF, pG, pH, pI, pJ, pK, pL, pM, pN, pO, pP, if_true, if_false]))); (all_goals try rfl); (all_goals try (repeat' (first | done | rfl | (exfalso; omega) | contradiction | (refine zr (fun hq => ?_) (fun hq => ?_)))))
 · rw [zKM c0] at h;simp only [zLe, zK8, zK9, zLf, zLa, zKO, zKY, zK1, zK2, zK3, zKS, zK0, zKT, zN, zW] at h;rw [zac zrf (by simp)]; simp -implicitDefEqProofs (disch := omega) only [zgU, zf, go_sem, *]; (try simp only [pA, pB, pC, pD, pE, pF, pG, pH, pI, pJ, pK, pL, pM, pN, pO, pP, if_true, if_false]); repeat' (first | done | rfl | ((first | refine zp (fun hq => ?_) (fun hq => ?_) | refine zq (fun hq => ?_) (fun hq => ?_)) <;> (try (first | (exfalso; omega) | contradiction)) <;> (try simp -implicitDefEqProofs (disch := omega) only [zf, go_sem, *]) <;> (try simp only [pA, pB, pC, pD, pE, pF, pG, pH, pI, pJ, pK, pL, pM, pN, pO, pP, if_true, if_false]))); (all_goals try rfl); (all_goals try (repeat' (first | done | rfl | (exfalso; omega) | contradiction | (refine zr (fun hq => ?_) (fun hq => ?_)))))
end Go.Proofs.YtgjlpcbolldhhaaGreat
