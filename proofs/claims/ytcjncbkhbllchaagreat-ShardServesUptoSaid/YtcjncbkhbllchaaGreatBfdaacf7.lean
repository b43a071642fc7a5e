/-
  Part of the calculus in which the claim is proved: The law Serves of shards
-/
import Derived.Test.YtcjncbkhbllchaaGreatB55161c0
import Derived.Test.YtcjncbkhbllchaaGreatBb3af376
import Derived.Test.YtcjncbkhbllchaaGreatB70c8139
import Derived.Test.YtcjncbkhbllchaaGreatB597af17
set_option linter.unusedSimpArgs false
set_option linter.unusedVariables false
set_option maxHeartbeats 10000000
set_option maxRecDepth 100000
namespace Go.Proofs.YtcjncbkhbllchaaGreat.L
open Go Go.Sim Go.Proofs.YtcjncbkhbllchaaGreat
theorem zzh (m : Message) (ep lim : Int) : callL G z1X [.d (eMessage m), .d (.int .i64 ep), .d (.int .i64 lim)] [] = some (.d (.bool (rcvQ ep lim m)), []) := by
 have hp := zeI.trans (zz8 m ep)
 have hs := z9D.trans (zqe m lim)
 unfold rcvQ
 simp only [eMessage] at *
 rw [zjI zbz (by simp)]; simp -implicitDefEqProofs (disch := omega) only [zal, getDT, go_sem, *]
theorem zuS (m : Message) : callL G z1W [.d (eMessage m)] [] = some (.d (.tup [eMessage (delM m).1, .int .i64 (delM m).2]), []) := by
 have hv := z9E.trans (znG m)
 unfold delM
 by_cases c : msgV m = 0
 · rw [c] at hv
   rw [if_neg (fun q => q c)]
   have hb : m.count ≤ 8 ∧ 0 ≤ m.count ∧ m.gen ≤ 65536 ∧ 0 ≤ m.gen := by
    unfold msgV at c
    split at c
    · omega
    · cases c
   clear c
   by_cases c1 : m.gen = 65536
   · rw [if_pos c1]
     replace c1 := eq_true c1
     simp only [eMessage, zMessage] at hv ⊢
     rw [zjI z3o (by simp)]; simp -implicitDefEqProofs (disch := omega) only [z37, getDT, go_sem, *]
   · rw [if_neg c1]
     by_cases c2 : m.count = 8
     · rw [if_pos c2]
       replace c2 := eq_true c2
       simp only [eMessage, zMessage] at hv ⊢
       rw [zjI z3o (by simp)]; simp -implicitDefEqProofs (disch := omega) only [z37, getDT, go_sem, *]
     · rw [if_neg c2]
       simp only [eMessage] at *
       rw [zjI z3o (by simp)]; simp -implicitDefEqProofs (disch := omega) only [z37, getDT, go_sem, *]
 · rw [if_pos c]
   generalize msgV m = v at *
   simp only [eMessage, zMessage] at *
   rw [zjI z3o (by simp)]; simp -implicitDefEqProofs (disch := omega) only [z37, getDT, go_sem, *]
theorem zAG {mx d ep lim : Int} : ∀ (l : List Message) (s : Shard) (out : List Lease), (out.length : Int) = mx → tkF mx d ep lim l s out = (s, out, 0) := by
 intro l
 induction l with
 | nil => intro s out _; rfl
 | cons m l ih => intro s out h; rw [tkF, if_pos (.inl h)]; exact ih s out h
structure T7 where
 L : List Message
 t : Table
 out : List Lease
 i : Nat
def t7S (n h : Nat) (lo hi : Int) (l : List Message) (mx now vis ep lim : Int) (p : T7) : St := ⟨[(1, .d (.int .i64 mx)), (2, .d (.int .i64 now)), (3, .d (.int .i64 vis)), (4, .d (.int .i64 ep)), (5, .d (.int .i64 lim)), (6, .ref 6 0 0), (12, .ref 12 0 0), (16, .acc 16 (p.out.map eLease)), (17, .d (.sl (l.map eMessage))), (18, .d (.int .i64 p.i))], [(6, .row [.d (eShard (mkS n h p.L p.t lo hi))]), (12, .row [shZ]), (16, .acc p.out.length)]⟩
def t7R (x : Shard × List Lease × Int) : AExit × St := (.exit 0, ⟨[(6, .ref 6 0 0), (12, .ref 12 0 0), (16, .acc 16 (x.2.1.map eLease))], [(6, .row [.d (eShard x.1)]), (12, .row [shZ]), (16, .acc x.2.1.length)]⟩)
def t7I (n h : Nat) (lo hi : Int) (l : List Message) (mx : Int) (p : T7) : Prop := VS n h p.L p.t lo hi ∧ p.i ≤ l.length ∧ p.out.length ≤ p.i ∧ (p.out.length : Int) ≤ mx ∧ (∀ m ∈ l.drop p.i, m ∈ p.L) ∧ ((l.drop p.i).map (·.id)).Nodup
theorem zAA (n h : Nat) (lo hi : Int) (l : List Message) (mx now vis ep lim : Int) (hl : l.length ≤ 12) (hlim : lim ≤ 8) (h1 : 0 ≤ now ∧ now ≤ 1073741824) (h2 : 0 ≤ vis ∧ vis ≤ 1000) (h3 : now + vis ≤ 1073741824) : ∀ p, t7I n h lo hi l mx p → loopL G [] l_ref07_Take_0 (t7S n h lo hi l mx now vis ep lim p) = some (t7R (tkF mx (now + vis) ep lim (l.drop p.i) (mkS n h p.L p.t lo hi) p.out)) := by
 refine zjM (fun p : T7 => l.length - p.i) (t7I n h lo hi l mx) (t7S n h lo hi l mx now vis ep lim) (fun p => some (t7R (tkF mx (now + vis) ep lim (l.drop p.i) (mkS n h p.L p.t lo hi) p.out))) fun p hp L ih => ?_
 obtain ⟨LL, t, out, i⟩ := p
 obtain ⟨v, hi1, ho, hmx, hm, hn⟩ := hp
 simp only at v hi1 ho hmx hm hn
 by_cases h0 : i < l.length
 · have hd := List.drop_eq_getElem_cons h0
   rw [hd] at hm hn
   simp only [List.map_cons, List.nodup_cons] at hn
   by_cases c0 : (out.length : Int) = mx
   · simp only
     rw [zAG _ _ _ c0]
     have c1 : ¬ (out.length : Int) < mx := by omega
     clear ih hm hn hd v c0 hmx
     simp only [t7S, t7R, l_ref07_Take_0]
     generalize mkS n h LL t lo hi = s at *
     simp only [eShard, shZ] at *
     simp -implicitDefEqProofs (disch := omega) only [getDT, go_sem, *]
   · have c1 : (out.length : Int) < mx := by omega
     have hr := zzh l[i] ep lim
     have hml := hm l[i] (.head _)
     simp only
     rw [hd, tkF]
     cases hq : rcvQ ep lim l[i] with
     | false =>
      rw [if_pos (.inr rfl)]
      rw [hq] at hr
      have i1 := ih ⟨LL, t, out, i + 1⟩ ⟨v, by simp only; omega, by simp only; omega, hmx, fun m q => hm m (.tail _ q), hn.2⟩ (by simp only; omega)
      clear ih hm hn hd v c0 hmx hml
      simp only at i1
      generalize t7R (tkF mx (now + vis) ep lim (l.drop (i + 1)) (mkS n h LL t lo hi) out) = R at *
      simp only [t7S, l_ref07_Take_0] at *
      generalize mkS n h LL t lo hi = s at *
      simp only [eShard, eMessage, shZ] at *
      simp only [Int.natCast_add, Int.natCast_one, Int.natCast_zero, Int.natCast_mul, Int.cast_ofNat_Int, List.length_append, List.length_map, List.map_nil, List.length_nil, List.map_append, List.map_cons, List.length_cons, Nat.zero_add, srcO, mapSet] at i1
      simp -implicitDefEqProofs (disch := omega) only [eMessage, getDT, go_sem, *]
     | true =>
      rw [if_neg (by rintro (q | q); exact c0 q; cases q)]
      rw [hq] at hr
      obtain ⟨k, hk, ek, e1, e2, v2⟩ := v.dlv hml hq hlim (d := now + vis) (by omega) (by omega)
      obtain ⟨k2, hk2, ek2, hrm⟩ := v.rem hml
      obtain ⟨q1, q2, q3⟩ := (zsC ep lim l[i]).1 hq
      have hdel := del_ok (v.2.2.2.2.2.2.2.1 l[i] hml).1 q3 (by omega)
      have hp := zox LL k hk
      rw [ek] at hp
      have hl2 : ∀ x ∈ l.drop (i + 1), x ∈ LL.eraseIdx k := by
       intro x hx
       rcases List.mem_cons.1 (hp.mem_iff.2 (hm x (.tail _ hx))) with rfl | hx2
       · exact absurd (List.mem_map.2 ⟨_, hx, rfl⟩) hn.1
       · exact hx2
      have c3 := zuS l[i]
      have c4 := zeK.trans (zzb (rg n h LL) l[i].id (by have := v.lens.1; show (mkS n h LL t lo hi).ready.cells.length ≤ _; omega))
      have tl := zl8 v.2.2.2.2.2.2.2.2.1
      have c5 := zsz t (upM l[i]) (now + vis) (by omega) (by omega)
      have hlen := v.lens
      rw [e1]
      rw [if_neg (by simp)]
      rw [hrm] at c4
      rw [show delM l[i] = (upM l[i], 0) from hdel] at c3
      have ekk : rg n h (LL.eraseIdx k2) = rg n h (LL.eraseIdx k) := by
       have a1 : dlvD (mkS n h LL t lo hi) l[i] (now + vis) = _ := e1
       have a2 := congrArg (fun p : Shard × Lease × Int => p.1.ready) a1
       unfold dlvD at a2
       rw [show rmD (mkS n h LL t lo hi).ready l[i].id = (rg n h (LL.eraseIdx k2), l[i], 0) from hrm] at a2
       have hg : (grantD t (upM l[i]) (now + vis)).2 = 0 := by
        have a3 := congrArg (fun p : Shard × Lease × Int => p.2.2) a1
        unfold dlvD at a3
        rw [show rmD (mkS n h LL t lo hi).ready l[i].id = (rg n h (LL.eraseIdx k2), l[i], 0) from hrm] at a3
        simp only [show delM l[i] = (upM l[i], 0) from hdel, ne_eq, not_true_eq_false, if_false] at a3
        by_cases hz : (grantD t (upM l[i]) (now + vis)).2 = 0
        · exact hz
        · rw [if_pos (show ¬ (grantD (mkS n h LL t lo hi).leases (upM l[i]) (now + vis)).2 = 0 from hz)] at a3
          exact absurd a3 hz
       simp only [show delM l[i] = (upM l[i], 0) from hdel, ne_eq, not_true_eq_false, if_false] at a2
       rw [if_neg (fun q => q (show (grantD (mkS n h LL t lo hi).leases (upM l[i]) (now + vis)).2 = 0 from hg))] at a2
       exact a2
      rw [ekk] at c4
      have i1 := ih ⟨LL.eraseIdx k, (grantD t (upM l[i]) (now + vis)).1, out ++ [⟨upM l[i], now + vis⟩], i + 1⟩ ⟨v2, by simp only; omega, by simp only [List.length_append, List.length_singleton]; omega, by simp only [List.length_append, List.length_singleton]; omega, hl2, hn.2⟩ (by simp only; omega)
      clear ih hm hn hd v v2 c0 hml e1 e2 hrm hdel hp hl2 ekk hk hk2 ek ek2
      simp only at i1 ⊢
      generalize t7R (tkF mx (now + vis) ep lim (l.drop (i + 1)) (mkS n h (LL.eraseIdx k) (grantD t (upM l[i]) (now + vis)).1 lo hi) (out ++ [⟨upM l[i], now + vis⟩])) = R at *
      simp only [t7S, mkS, l_ref07_Take_0, List.map_append, List.map_cons, List.map_nil] at *
      generalize grantD t (upM l[i]) (now + vis) = g at *
      generalize rg n h (LL.eraseIdx k) = r2 at *
      generalize rg n h LL = r1 at *
      obtain ⟨t2, ge⟩ := g
      obtain ⟨c2, hh2, z2⟩ := r2
      obtain ⟨c1', hh1, z1⟩ := r1
      obtain ⟨tl1, th1⟩ := t
      obtain ⟨tl2, th2⟩ := t2
      simp only [eShard, eMessage, eLease, eTable, eRing, upM, shZ] at *
      simp only [Int.natCast_add, Int.natCast_one, Int.natCast_zero, Int.natCast_mul, Int.cast_ofNat_Int, List.length_append, List.length_map, List.map_nil, List.length_nil, List.map_append, List.map_cons, List.length_cons, Nat.zero_add, srcO, mapSet] at i1
      simp -implicitDefEqProofs (disch := omega) only [eMessage, getDT, go_sem, *]
 · clear ih
   obtain rfl : i = l.length := by omega
   simp only [List.drop_length, tkF, t7R, t7S, l_ref07_Take_0]
   generalize mkS n h LL t lo hi = s at *
   simp only [eShard, shZ] at *
   simp -implicitDefEqProofs (disch := omega) only [getDT, go_sem, *]
theorem zAC (s : Shard) (mx now vis ep lim : Int) (q : bigS s) : callL G z2t [.d (eShard s), .d (.int .i64 mx), .d (.int .i64 now), .d (.int .i64 vis), .d (.int .i64 ep), .d (.int .i64 lim)] [] = some (.d (.tup [eShard (takeD s mx now vis ep lim).1, .sl ((takeD s mx now vis ep lim).2.1.map eLease), .int .i64 (takeD s mx now vis ep lim).2.2]), []) := by
 have hl := z6z.trans (zng s q.1 q.2.1 q.2.2)
 have e1 := z9G.trans (e7_ok ep)
 have e2 := z9H.trans (l7_ok lim)
 have e3 := ti7_ok now
 have e4 := vi7_ok vis
 unfold takeD
 by_cases c : takeU s mx now vis ep lim = 0
 · rw [if_neg (fun q => q c)]
   obtain ⟨hv, hlv⟩ := zkf (s := s) c
   have hn := us_num (s := s) c
   have hring := znL (s := s) c
   have hrd := zeO.trans (zpV hring)
   have hl0 : liveV s = 0 := by unfold liveV; rw [if_neg (fun q => q hv), hlv]; rfl
   rw [hl0] at hl
   simp only [Bool.and_eq_true] at hn
   obtain ⟨n1, n2, n3, n4, n5⟩ := hn
   rw [n1] at e1
   rw [n2] at e2
   rw [n3] at e3
   rw [n4] at e4
   simp only [liQ, tiQ, viQ, decide_eq_true_eq] at n2 n3 n4 n5
   obtain ⟨m1, m2⟩ := n3
   obtain ⟨m3, m4⟩ := n4
   obtain ⟨m5, m6⟩ := n5
   by_cases c2 : 1073741824 < now + vis
   · rw [if_pos c2]
     clear hrd hl0 c hv hring n1 n2 q hlv
     simp only [eShard, zShard, List.map_nil] at *
     rw [zjI zk (by simp)]; simp -implicitDefEqProofs (disch := omega) only [zg, getDT, go_sem, *]
   · rw [if_neg c2]
     obtain ⟨n, h, e, v⟩ := vs_of hv hlv
     have hnd := (List.nodup_append.1 v.2.2.2.2.2.2.2.2.2.2).1
     have hLn : (ordD s.ready).length ≤ 12 := by have := v.2.2.2.1; have := v.2.1; omega
     have hlp := zAA n h s.low s.high (ordD s.ready) mx now vis ep lim hLn n2.2 ⟨m1, m2⟩ ⟨m3, m4⟩ (by omega) ⟨ordD s.ready, s.leases, [], 0⟩ ⟨v, by simp only; omega, by simp only [List.length_nil]; omega, by simp only [List.length_nil]; omega, fun m hm => hm, hnd⟩
     obtain ⟨L', t', o', r1, _, _, _, _⟩ := VS.take (mx := mx) (d := now + vis) (ep := ep) (lim := lim) n2.2 (by omega) (by omega) (ordD s.ready) (ordD s.ready) s.leases [] v (fun m hm => hm) hnd
     simp only [t7S, t7R, List.drop_zero] at hlp
     rw [← e] at hlp r1
     rw [r1] at hlp ⊢
     clear e v r1 hl0 c hv hring n1 n2 q hnd hLn hlv
     generalize mkS n h L' t' s.low s.high = s2 at *
     generalize ordD s.ready = W at *
     simp only [List.nil_append, List.map_nil, List.length_nil, Int.natCast_zero] at *
     simp only [eShard, shZ] at *
     rw [zjI zk (by simp)]; simp -implicitDefEqProofs (disch := omega) only [zg, getDT, go_sem, *]
 · rw [if_pos c]
   have hu : takeU s mx now vis ep lim = if liveV s ≠ 0 then liveV s else if (epQ ep && (liQ lim && (tiQ now && (viQ vis && decide (1 ≤ mx ∧ mx ≤ 6))))) = true then 0 else 1 := rfl
   rw [hu] at c ⊢
   clear hu q
   by_cases c0 : liveV s = 0
   · rw [if_neg (fun q => q c0)] at c ⊢
     rw [c0] at hl
     rw [if_neg (fun q => c (by rw [if_pos q]))]
     have hb : (epQ ep && (liQ lim && (tiQ now && (viQ vis && decide (1 ≤ mx ∧ mx ≤ 6))))) = false := Bool.eq_false_iff.2 fun q => c (by rw [if_pos q])
     clear c c0
     generalize epQ ep = b1 at *
     generalize liQ lim = b2 at *
     generalize tiQ now = b3 at *
     generalize viQ vis = b4 at *
     simp only [eShard, zShard, List.map_nil] at *
     cases b1
     · clear hb; rw [zjI zk (by simp)]; simp -implicitDefEqProofs (disch := omega) only [zg, getDT, go_sem, *]
     · cases b2
       · clear hb; rw [zjI zk (by simp)]; simp -implicitDefEqProofs (disch := omega) only [zg, getDT, go_sem, *]
       · cases b3
         · clear hb; rw [zjI zk (by simp)]; simp -implicitDefEqProofs (disch := omega) only [zg, getDT, go_sem, *]
         · cases b4
           · clear hb; rw [zjI zk (by simp)]; simp -implicitDefEqProofs (disch := omega) only [zg, getDT, go_sem, *]
           · simp only [Bool.true_and, decide_eq_false_iff_not] at hb
             by_cases c1 : mx < 1
             · clear hb; rw [zjI zk (by simp)]; simp -implicitDefEqProofs (disch := omega) only [zg, getDT, go_sem, *]
             · have c2 : 6 < mx := by omega
               clear hb; rw [zjI zk (by simp)]; simp -implicitDefEqProofs (disch := omega) only [zg, getDT, go_sem, *]
   · rw [if_pos c0]
     clear c e1 e2 e3 e4
     generalize liveV s = v at *
     simp only [eShard, zShard, List.map_nil] at *
     rw [zjI zk (by simp)]; simp -implicitDefEqProofs (disch := omega) only [zg, getDT, go_sem, *]
end Go.Proofs.YtcjncbkhbllchaaGreat.L

namespace Go.Proofs.YtcjncbkhbllchaaGreat
open Go Go.Sim
theorem zoP (l : List Int) (a : Nat) (xs : List Int) (hL : l.length ≤ 4000) (h1 : 1 ≤ xs.length) (h2 : xs.length ≤ 1000) : callL G zd [.ref 1000000 0 0, .d (.sl (ints xs))] [(1000000, srcO l a)] = some (.d (.int .i64 (xs.getD (nD l a xs.length).toNat 0)), [(1000000, srcO l (rawD l a).2)]) := by
 have hn := n_ok l a xs.length hL (by omega) (by omega)
 have hb := nD_in l a (n := xs.length) (by omega)
 obtain ⟨i, hi⟩ : ∃ i : Nat, nD l a xs.length = i := ⟨(nD l a xs.length).toNat, by omega⟩
 rw [hi] at hn hb ⊢
 have hlt : i < xs.length := by omega
 rw [show ((i : Int)).toNat = i by omega, getDT hlt]
 clear hb hi
 rw [zjI zb8 (by simp)]; simp -implicitDefEqProofs (disch := omega) only [z6G, getDT, go_sem, *]
def handPhi (l : List Int) (r : Option (Go.Sim.AV × Heap)) : Prop := ∃ h a', r = some (.d (eHandle h), [(1000000, srcO l a')])
theorem znX {l : List Int} {x1 x2 x3 x4 : Int} {a' : Nat} : Post (handPhi l) (some (.d (.agg [.int .i64 x1, .int .i64 x2, .int .i64 x3, .int .i64 x4]), [(1000000, srcO l a')])) := ⟨⟨x1, x2, x3, x4⟩, a', rfl⟩
theorem zpv (l : List Int) (a : Nat) (x : Shard) (hL : l.length ≤ 4000) (h1 : x.leases.l.length ≤ 12) (hg : ∀ y ∈ x.leases.l, 0 ≤ y.msg.gen ∧ y.msg.gen ≤ 65536 ∧ 0 ≤ y.msg.route ∧ y.msg.route ≤ 65535) : Post (handPhi l) (callL G zl [.ref 1000000 0 0, .d (eShard x)] [(1000000, srcO l a)]) := by
 have q1 := zl5 l a 1 20 hL (by omega) (by omega) (by omega) (by omega)
 obtain ⟨a1, z1⟩ : ∃ a1, (rawD l a).2 = a1 := ⟨_, rfl⟩
 rw [z1] at q1
 have q2 := zl5 l a1 1 4 hL (by omega) (by omega) (by omega) (by omega)
 have b2 := nD_in l a1 (n := 4 - 1 + 1) (by omega)
 obtain ⟨a2, z2⟩ : ∃ a2, (rawD l a1).2 = a2 := ⟨_, rfl⟩
 rw [z2] at q2
 have q3 := n_ok l a2 65536 hL (by omega) (by omega)
 obtain ⟨a3, z3⟩ : ∃ a3, (rawD l a2).2 = a3 := ⟨_, rfl⟩
 rw [z3] at q3
 have q4 := n_ok l a3 6 hL (by omega) (by omega)
 obtain ⟨a4, z4⟩ : ∃ a4, (rawD l a3).2 = a4 := ⟨_, rfl⟩
 rw [z4] at q4
 generalize nD l a (20 - 1 + 1) = c1 at *
 generalize nD l a1 (4 - 1 + 1) = c2 at *
 generalize nD l a2 65536 = c3 at *
 generalize nD l a3 6 = c4 at *
 clear z1 z2 z3 z4
 by_cases h0 : x.leases.l.length = 0
 · have hn : x.leases.l = [] := List.eq_nil_of_length_eq_zero h0
   obtain ⟨lv, lo, hi, r, ⟨tl, th⟩⟩ := x
   simp only at hn
   subst hn
   clear hg h0 h1
   simp only [eShard, List.map_nil]
   rw [zjI z3i (by simp)]; simp -implicitDefEqProofs (disch := omega) only [z18, getDT, go_sem, *]
   all_goals exact znX
 · have q5 := n_ok l a4 5 hL (by omega) (by omega)
   have b5 := nD_in l a4 (n := 5) (by omega)
   obtain ⟨a5, z5⟩ : ∃ a5, (rawD l a4).2 = a5 := ⟨_, rfl⟩
   rw [z5] at q5
   generalize nD l a4 5 = c5 at *
   clear z5
   have h01 : 0 < x.leases.l.length := by omega
   by_cases c0 : 0 < c5
   · have q6 := n_ok l a5 x.leases.l.length hL (by omega) (by omega)
     have b6 := nD_in l a5 (n := x.leases.l.length) (by omega)
     obtain ⟨i, hi⟩ : ∃ i : Nat, nD l a5 x.leases.l.length = i := ⟨(nD l a5 x.leases.l.length).toNat, by omega⟩
     rw [hi] at q6 b6
     obtain ⟨a6, z6⟩ : ∃ a6, (rawD l a5).2 = a6 := ⟨_, rfl⟩
     rw [z6] at q6
     have q7 := n_ok l a6 8 hL (by omega) (by omega)
     obtain ⟨a7, z7⟩ : ∃ a7, (rawD l a6).2 = a7 := ⟨_, rfl⟩
     rw [z7] at q7
     generalize nD l a6 8 = c7 at *
     have hlt : i < x.leases.l.length := by omega
     have hy := hg _ (List.getElem_mem hlt)
     clear z6 z7 hi hg b6 h0
     obtain ⟨lv, lo, hi, r, ⟨tl, th⟩⟩ := x
     simp only at *
     obtain ⟨y1, y2, y3, y4⟩ := hy
     simp only [eShard]
     by_cases k0 : c7 = 0
     · subst k0
       rw [zjI z3i (by simp)]; simp -implicitDefEqProofs (disch := omega) only [z18, eLease, getDT, go_sem, *]
       all_goals exact znX
     · by_cases k1 : c7 = 1
       · subst k1
         rw [zjI z3i (by simp)]; simp -implicitDefEqProofs (disch := omega) only [z18, eLease, getDT, go_sem, *]
         all_goals exact znX
       · rw [zjI z3i (by simp)]; simp -implicitDefEqProofs (disch := omega) only [z18, eLease, getDT, go_sem, *]
         all_goals exact znX
   · clear hg
     simp only [eShard]
     rw [zjI z3i (by simp)]; simp -implicitDefEqProofs (disch := omega) only [z18, getDT, go_sem, *]
     all_goals exact znX
def numPhi (l : List Int) (r : Option (Go.Sim.AV × Heap)) : Prop := ∃ x1 x2 x3 x4 x5 x6 x7 x8 a', r = some (.d (.agg [.int .i64 x1, .int .i64 x2, .int .i64 x3, .int .i64 x4, .int .i64 x5, .int .i64 x6, .int .i64 x7, .int .i64 x8]), [(1000000, srcO l a')])
theorem zyt {l : List Int} {x1 x2 x3 x4 x5 x6 x7 x8 : Int} {a' : Nat} : Post (numPhi l) (some (.d (.agg [.int .i64 x1, .int .i64 x2, .int .i64 x3, .int .i64 x4, .int .i64 x5, .int .i64 x6, .int .i64 x7, .int .i64 x8]), [(1000000, srcO l a')])) := ⟨_, _, _, _, _, _, _, _, _, rfl⟩
theorem zpP (l : List Int) (a : Nat) (hL : l.length ≤ 4000) : Post (numPhi l) (callL G zo [.ref 1000000 0 0] [(1000000, srcO l a)]) := by
 have q1 := zl5 l a 1 4 hL (by omega) (by omega) (by omega) (by omega)
 obtain ⟨a1, z1⟩ : ∃ a1, (rawD l a).2 = a1 := ⟨_, rfl⟩
 rw [z1] at q1
 have q2 := n_ok l a1 32 hL (by omega) (by omega)
 obtain ⟨a2, z2⟩ : ∃ a2, (rawD l a1).2 = a2 := ⟨_, rfl⟩
 rw [z2] at q2
 have q3 := zoP l a2 [0, 1, 10, 1000] hL (by simp) (by simp)
 obtain ⟨a3, z3⟩ : ∃ a3, (rawD l a2).2 = a3 := ⟨_, rfl⟩
 rw [z3] at q3
 have q4 := n_ok l a3 3 hL (by omega) (by omega)
 obtain ⟨a4, z4⟩ : ∃ a4, (rawD l a3).2 = a4 := ⟨_, rfl⟩
 rw [z4] at q4
 have q5 := zl5 l a4 1 4 hL (by omega) (by omega) (by omega) (by omega)
 obtain ⟨a5, z5⟩ : ∃ a5, (rawD l a4).2 = a5 := ⟨_, rfl⟩
 rw [z5] at q5
 have q6 := zl5 l a5 0 4 hL (by omega) (by omega) (by omega) (by omega)
 obtain ⟨a6, z6⟩ : ∃ a6, (rawD l a5).2 = a6 := ⟨_, rfl⟩
 rw [z6] at q6
 have q7 := zoP l a6 [0, 100, 20000, 32768, 40000] hL (by simp) (by simp)
 obtain ⟨a7, z7⟩ : ∃ a7, (rawD l a6).2 = a7 := ⟨_, rfl⟩
 rw [z7] at q7
 have q8 := n_ok l a7 65536 hL (by omega) (by omega)
 obtain ⟨a8, z8⟩ : ∃ a8, (rawD l a7).2 = a8 := ⟨_, rfl⟩
 rw [z8] at q8
 have q9 := n_ok l a8 16 hL (by omega) (by omega)
 have b9 := nD_in l a8 (n := 16) (by omega)
 obtain ⟨a9, z9⟩ : ∃ a9, (rawD l a8).2 = a9 := ⟨_, rfl⟩
 rw [z9] at q9
 generalize nD l a (4 - 1 + 1) = c1 at *
 generalize nD l a1 32 = c2 at *
 generalize List.getD [0, 1, 10, 1000] (nD l a2 (List.length [0, 1, 10, 1000])).toNat 0 = c3 at *
 generalize nD l a3 3 = c4 at *
 generalize nD l a4 (4 - 1 + 1) = c5 at *
 generalize nD l a5 (4 - 0 + 1) = c6 at *
 generalize List.getD [0, 100, 20000, 32768, 40000] (nD l a6 (List.length [0, 100, 20000, 32768, 40000])).toNat 0 = c7 at *
 generalize nD l a7 65536 = c8 at *
 generalize nD l a8 16 = c at *
 have hp := fun xs => zoP l a9 xs hL
 have p0 := hp [0, 6, 7] (by simp) (by simp)
 have p1 := hp [-1, 1073741824, 1073741825, 1073741814] (by simp) (by simp)
 have p2 := hp [-1, 1001] (by simp) (by simp)
 have p3 := hp [-1, 65536, 65537] (by simp) (by simp)
 have p4 := hp [0, 8, 9] (by simp) (by simp)
 have p5 := hp [-1, 12, 13] (by simp) (by simp)
 clear hp z1 z2 z3 z4 z5 z6 z7 z8 z9
 generalize List.getD _ _ _ = d0 at p0
 generalize List.getD _ _ _ = d1 at p1
 generalize List.getD _ _ _ = d2 at p2
 generalize List.getD _ _ _ = d3 at p3
 generalize List.getD _ _ _ = d4 at p4
 generalize List.getD _ _ _ = d5 at p5
 generalize (rawD l a9).2 = a10 at *
 simp only [ints, List.map_cons, List.map_nil] at p0 p1 p2 p3 p4 p5 q3 q7
 rcases (show c = 0 ∨ c = 1 ∨ c = 2 ∨ c = 3 ∨ c = 4 ∨ c = 5 ∨ 6 ≤ c by omega) with k | k | k | k | k | k | k
 all_goals (rw [zjI zf4 (by simp)]; simp -implicitDefEqProofs (disch := omega) only [zaa, getDT, go_sem, *])
 all_goals exact zyt
theorem zwW (r lo hi : Int) (h0 : 0 ≤ r) (h1 : r < 65536) (h2 : 0 ≤ lo) (h3 : lo ≤ hi) (h4 : hi ≤ 65536) : ∃ v, callL G z0P [.d (.int .i64 r), .d (.int .i64 lo), .d (.int .i64 hi)] [] = some (.d (.int .i64 v), []) := by
 by_cases c : hi < 65536
 · exact ⟨_, zrx r lo hi h0 h1 h2 h3 c⟩
 · refine ⟨0, ?_⟩
   have e : hi = 65536 := by omega
   subst e
   clear h4 c
   rw [zjI z67 (by simp)]; simp -implicitDefEqProofs (disch := omega) only [z36, getDT, go_sem, *]
theorem zy4 (l : List Int) (a : Nat) (id lo hi : Int) (hL : l.length ≤ 4000) (h2 : 0 ≤ lo) (h3 : lo ≤ hi) (h4 : hi ≤ 65536) : ∃ m a', callL G ze [.ref 1000000 0 0, .d (.int .i64 id), .d (.int .i64 lo), .d (.int .i64 hi)] [(1000000, srcO l a)] = some (.d (eMessage m), [(1000000, srcO l a')]) := by
 obtain ⟨r, r0, r1, hr⟩ := zsV id
 obtain ⟨ro, hi1⟩ := zwW r lo hi r0 r1 h2 h3 h4
 have hn := fun at1 m => n_ok l at1 m hL
 obtain ⟨a1, q1⟩ : ∃ a1, (rawD l a).2 = a1 := ⟨_, rfl⟩
 obtain ⟨a2, q2⟩ : ∃ a2, (rawD l a1).2 = a2 := ⟨_, rfl⟩
 obtain ⟨a3, q3⟩ : ∃ a3, (rawD l a2).2 = a3 := ⟨_, rfl⟩
 obtain ⟨b1, hb⟩ := zqJ l a3 hL
 obtain ⟨a4, q4⟩ : ∃ a4, (bodyF l a3).2 = a4 := ⟨_, rfl⟩
 generalize (bodyF l a3).1 = bd at *
 obtain ⟨a5, q5⟩ : ∃ a5, (rawD l a4).2 = a5 := ⟨_, rfl⟩
 obtain ⟨a6, q6⟩ : ∃ a6, (rawD l a5).2 = a6 := ⟨_, rfl⟩
 have n1 := nD_in l a (n := 3) (by omega)
 have n2 := nD_in l a1 (n := 4) (by omega)
 have n3 := nD_in l a2 (n := 50) (by omega)
 have n4 := nD_in l a4 (n := 3) (by omega)
 by_cases c : nD l a5 20 = 19
 · refine ⟨⟨id, ro, nD l a 3, nD l a1 4, 65536, nD l a2 50, bd⟩, a6, ?_⟩
   simp only [eMessage]
   rw [zjI z60 (by simp)]; simp -implicitDefEqProofs (disch := omega) only [z32, getDT, go_sem, *]
 · refine ⟨⟨id, ro, nD l a 3, nD l a1 4, nD l a1 4 + nD l a4 3, nD l a2 50, bd⟩, a6, ?_⟩
   simp only [eMessage]
   rw [zjI z60 (by simp)]; simp -implicitDefEqProofs (disch := omega) only [z32, getDT, go_sem, *]
def oddPhi (l : List Int) (r : Option (Go.Sim.AV × Heap)) : Prop := ∃ m a', r = some (.d (eMessage m), [(1000000, srcO l a')])
theorem zyw {l : List Int} {x1 x2 x3 x4 x5 x6 : Int} {s : List UInt8} {a' : Nat} : Post (oddPhi l) (some (.d (.agg [.int .i64 x1, .int .i64 x2, .int .i64 x3, .int .i64 x4, .int .i64 x5, .int .i64 x6, .str s]), [(1000000, srcO l a')])) := ⟨⟨x1, x2, x3, x4, x5, x6, s⟩, a', rfl⟩
theorem zyx (l : List Int) (a : Nat) (id lo hi : Int) (hL : l.length ≤ 4000) (h2 : 0 ≤ lo) (h3 : lo ≤ hi) (h4 : hi < 65536) : Post (oddPhi l) (callL G zC [.ref 1000000 0 0, .d (.int .i64 id), .d (.int .i64 lo), .d (.int .i64 hi)] [(1000000, srcO l a)]) := by
 obtain ⟨m, a1, hm, hmc⟩ := zpK l a id lo hi hL h2 h3 h4
 have hn := n_ok l a1 12 hL (by omega) (by omega)
 have hd := nD_in l a1 (n := 12) (by omega)
 obtain ⟨a2, q2⟩ : ∃ a2, (rawD l a1).2 = a2 := ⟨_, rfl⟩
 rw [q2] at hn
 generalize nD l a1 12 = c at *
 have hp := fun xs => zoP l a2 xs hL
 have p0 := hp [0, 1073741824, 1073741825, -1] (by simp) (by simp)
 have p1 := hp [-1, 65535, 65536] (by simp) (by simp)
 have p2 := hp [m.count, m.count - 1, 65536, 65537] (by simp) (by simp)
 have p3 := hp [8, 9, -1] (by simp) (by simp)
 have p5 := hp [-1, 1073741824, 1073741825] (by simp) (by simp)
 have p6 := hp [-1, 65536, 65537] (by simp) (by simp)
 obtain ⟨s, a3, hs, hb⟩ := zom l a2 hL
 simp only [ints, List.map_cons, List.map_nil] at p0 p1 p2 p3 p5 p6
 obtain ⟨g1, g2, g3, g4, g5, g6, g7, g8, g9, g10, g11, g12⟩ := hm
 simp only [eMessage] at hmc
 clear hp q2
 rcases (show c = 0 ∨ c = 1 ∨ c = 2 ∨ c = 3 ∨ c = 4 ∨ c = 5 ∨ c = 6 ∨ 7 ≤ c by omega) with k | k | k | k | k | k | k | k
 all_goals (rw [zjI zeY (by simp)]; simp -implicitDefEqProofs (disch := omega) only [z6F, getDT, go_sem, *])
 all_goals exact zyw
theorem odd_ex (l : List Int) (a : Nat) (id lo hi : Int) (hL : l.length ≤ 4000) (h2 : 0 ≤ lo) (h3 : lo ≤ hi) (h4 : hi < 65536) : ∃ m a', callL G zC [.ref 1000000 0 0, .d (.int .i64 id), .d (.int .i64 lo), .d (.int .i64 hi)] [(1000000, srcO l a)] = some (.d (eMessage m), [(1000000, srcO l a')]) := zyx l a id lo hi hL h2 h3 h4
end Go.Proofs.YtcjncbkhbllchaaGreat

namespace Go.Proofs.YtcjncbkhbllchaaGreat.L
open Go Go.Sim Go.Proofs.YtcjncbkhbllchaaGreat
theorem fit_z : FitS zShard := ⟨by simp [zShard], by simp [zShard], by simp [zShard]⟩
theorem fit_12 {s : Shard} (h : lens12 s) : FitS s := ⟨by have := h.1; omega, by have := h.2.1; omega, by have := h.2.2; omega⟩
theorem znx {s : Shard} (h : shardV s = 0) : lens12 s := by
 have h1 : ringV s.ready = 0 := by
  have q := h
  unfold shardV at q
  split at q
  · rename_i c; exact absurd q c
  · rename_i c; exact Classical.not_not.1 c
 have h2 : tabV s.leases = 0 := by
  have q := h
  unfold shardV at q
  rw [if_neg (fun c => c h1)] at q
  split at q
  · rename_i c; exact absurd q c
  · rename_i c; exact Classical.not_not.1 c
 exact ⟨(zjR h1).2.1, zl8 h2⟩
theorem zwb {s : Shard} (q : bigS s) (m : Message) : FitS (putD s m).1 := by
 unfold putD
 repeat' split
 all_goals first | exact fit_z | skip
 refine ⟨?_, q.2.1, q.2.2⟩
 show (pbD s.ready m).1.cells.length ≤ _
 unfold pbD
 split
 · show (wN _ _ _ _).length ≤ _; rw [wN_len]; exact q.1
 · simp [zRing]
theorem zwc (s : Shard) (mx now vis ep lim : Int) : FitS (takeD s mx now vis ep lim).1 := by
 by_cases c : (takeD s mx now vis ep lim).2.2 = 0
 · exact fit_12 (znx (zuA c).1)
 · have e : (takeD s mx now vis ep lim).1 = zShard := by
    unfold takeD at c ⊢
    split
    · rfl
    · rename_i c1
      rw [if_neg c1] at c
      split
      · rfl
      · rename_i c2
        rw [if_neg c2] at c
        exact (zte mx (now + vis) ep lim (ordD s.ready) s [] c).1
   rw [e]; exact fit_z
theorem zw8 (s : Shard) (h : Handle) (now ep : Int) : FitS (ackD s h now ep).1 := by
 by_cases c : (ackD s h now ep).2 = 0
 · exact fit_12 (znx (zux c).1)
 · have e : (ackD s h now ep).1 = zShard := by
    rw [zqv] at c ⊢
    split
    · rename_i c1
      rw [if_pos c1] at c
      simp only at c ⊢
      unfold relS at c ⊢
      split
      · rename_i c2; rw [if_pos c2] at c; exact absurd rfl c
      · rfl
    · rfl
   rw [e]; exact fit_z
theorem zwa (s : Shard) (h : Handle) (now ep lim : Int) : FitS (nackD s h now ep lim).1 := by
 by_cases c : (nackD s h now ep lim).2 = 0
 · exact fit_12 (znx (zuz c).1)
 · have e : (nackD s h now ep lim).1 = zShard := by
    rw [zsc] at c ⊢
    split
    · rename_i c1; rw [if_pos c1] at c; exact absurd rfl c
    · rfl
   rw [e]; exact fit_z
theorem zw9 (s : Shard) (h : Handle) (now ep vis : Int) : FitS (chgD s h now ep vis).1 := by
 by_cases c : (chgD s h now ep vis).2 = 0
 · exact fit_12 (znx (zuy c).1)
 · have e : (chgD s h now ep vis).1 = zShard := by
    rw [zqW] at c ⊢
    split
    · rename_i c1
      rw [if_pos c1] at c
      split
      · rfl
      · rename_i c2; rw [if_neg c2] at c; exact absurd rfl c
    · rfl
   rw [e]; exact fit_z
theorem bad_ok (a : Shard) (e : Int) (f : FitS a) : callL G z1F [.d (eShard a), .d (.int .i64 e), .d (eShard a), .d (.int .i64 e)] [] = some (.d (.bool false), []) := by
 have h := zeP.trans (zA2 a a f)
 rw [decide_eq_true rfl] at h
 simp only [eShard] at *
 rw [zjI zbm (by simp)]; simp -implicitDefEqProofs (disch := omega) only [za8, getDT, go_sem, *]
def eN8 (n1 n2 n3 n4 n5 n6 n7 n8 : Int) : D := .agg [.int .i64 n1, .int .i64 n2, .int .i64 n3, .int .i64 n4, .int .i64 n5, .int .i64 n6, .int .i64 n7, .int .i64 n8]
theorem big12 {s : Shard} (q : lens12 s) : bigS s := ⟨by have := q.1; omega, by have := q.2.1; omega, by have := q.2.2; omega⟩
theorem ztd (s : Shard) (h : Handle) (n1 n2 n3 n4 n5 n6 n7 n8 : Int) (ql : lens12 s) : callL G z0O [.d (eShard s), .d (eHandle h), .d (eN8 n1 n2 n3 n4 n5 n6 n7 n8)] [] = some (.d (.bool true), []) := by
 have q := big12 ql
 have k1 := zeR.trans (zuI s n4 n5 q.1 q.2.1 q.2.2)
 have k2 := zeN.trans (zuH s n4 n5 q.1 q.2.1 q.2.2)
 have k3 := zeS.trans (zqa s q.1 q.2.1 q.2.2)
 have k4 := zeQ.trans (zsB s q.1 q.2.1 q.2.2)
 have k5 := ztu s q.1 q.2.1 q.2.2
 have k6 := ztc s q
 have k7 := zyR s n8 q
 have k8 := zyQ s n8 q
 have k9 := zrr s h n2 n4 q
 have k10 := Holds_ok' s h n2 n4 ql
 generalize cntD s n4 n5 = c at *
 generalize shardV s = v at *
 generalize storD s = st at *
 generalize ownsB s n8 = ow at *
 generalize hB s h n2 n4 = hb at *
 simp only [eShard, eHandle, eN8] at *
 cases ow
 · cases hb
   · rw [zjI z3k (by simp)]; simp -implicitDefEqProofs (disch := omega) only [z33, getDT, go_sem, *]
   · rw [zjI z3k (by simp)]; simp -implicitDefEqProofs (disch := omega) only [z33, getDT, go_sem, *]
 · cases hb
   · rw [zjI z3k (by simp)]; simp -implicitDefEqProofs (disch := omega) only [z33, getDT, go_sem, *]
   · rw [zjI z3k (by simp)]; simp -implicitDefEqProofs (disch := omega) only [z33, getDT, go_sem, *]
theorem zt0 (s : Shard) (m : Message) (h : Handle) (n1 n2 n3 n4 n5 n6 n7 n8 : Int) (ql : lens12 s) : callL G z0N [.d (eShard s), .d (eMessage m), .d (eHandle h), .d (eN8 n1 n2 n3 n4 n5 n6 n7 n8)] [] = some (.d (.bool true), []) := by
 have q := big12 ql
 have p1 := put_ok s m q
 have p2 := zz4 s m q
 have p3 := bad_ok (putD s m).1 (putD s m).2 (zwb q m)
 have t1 := zp8 s n1 n2 n3 n4 n5 q.1 q.2.1 q.2.2
 have t2 := zAC s n1 n2 n3 n4 n5 q
 have t3 := bad_ok (takeD s n1 n2 n3 n4 n5).1 (takeD s n1 n2 n3 n4 n5).2.2 (zwc s n1 n2 n3 n4 n5)
 have hlen : (takeD s n1 n2 n3 n4 n5).2.1.length ≤ 4294967296 := by
  unfold takeD
  split
  · simp
  · split
    · simp
    · rename_i c1 _
      have hz := zjR (znL (s := s) (Classical.not_not.1 c1))
      have := zAH n1 (n2 + n3) n4 n5 (ordD s.ready) s []
      have h2 : (ordD s.ready).length ≤ 12 := by
       obtain ⟨b1, b2, b3, b4, b5, b6⟩ := hz
       rw [zke]; omega
      simp only [List.length_nil] at this
      omega
 have t4 := zeL.trans (zsX (takeD s n1 n2 n3 n4 n5).2.1 (takeD s n1 n2 n3 n4 n5).2.1 hlen)
 have a1 := ack_ok s h n2 n4 q.1 q.2.1 q.2.2
 have a2 := ztD s h n2 n4 q
 have a3 := bad_ok (ackD s h n2 n4).1 (ackD s h n2 n4).2 (zw8 s h n2 n4)
 have b1 := zye s h n2 n4 n5 q.1 q.2.1 q.2.2
 have b2 := zyd s h n2 n4 n5 q
 have b3 := bad_ok (nackD s h n2 n4 n5).1 (nackD s h n2 n4 n5).2 (zwa s h n2 n4 n5)
 have c1 := zul s h n2 n4 n3 q.1 q.2.1 q.2.2
 have c2 := zum s h n2 n4 n3 q
 have c3 := bad_ok (chgD s h n2 n4 n3).1 (chgD s h n2 n4 n3).2 (zw9 s h n2 n4 n3)
 rw [decide_eq_true rfl] at t4
 clear hlen q ql
 generalize putD s m = r1 at *
 generalize takeD s n1 n2 n3 n4 n5 = r2 at *
 generalize ackD s h n2 n4 = r3 at *
 generalize nackD s h n2 n4 n5 = r4 at *
 generalize chgD s h n2 n4 n3 = r5 at *
 obtain ⟨x1, e1⟩ := r1
 obtain ⟨x2, l2, e2⟩ := r2
 obtain ⟨x3, e3⟩ := r3
 obtain ⟨x4, e4⟩ := r4
 obtain ⟨x5, e5⟩ := r5
 simp only [eShard, eHandle, eMessage, eN8] at *
 rw [zjI zbn (by simp)]; simp -implicitDefEqProofs (disch := omega) only [za9, getDT, go_sem, *]
def awS0 : Shard := ⟨true, 0, 65535, ⟨List.replicate 3 zMessage, 0, 0⟩, zTable⟩
def awM : Message := ⟨1, 0, 0, 0, 0, 0, zMessage.body⟩
def awS1 : Shard := ⟨true, 0, 65535, (pbD ⟨List.replicate 3 zMessage, 0, 0⟩ awM).1, zTable⟩
theorem aw1 : liveV awS0 = 0 := by decide +kernel
theorem aw2 : (takeD awS1 1 10 5 0 3).2.2 = 0 ∧ (takeD awS1 1 10 5 0 3).2.1.length = 1 := by decide +kernel
theorem aw3 : hB (takeD awS1 1 10 5 0 3).1 ⟨1, 1, 0, 0⟩ 14 0 = true ∧ hB (takeD awS1 1 10 5 0 3).1 ⟨1, 1, 0, 0⟩ 15 0 = false := by decide +kernel
theorem aw4 : (expD (takeD awS1 1 10 5 0 3).1 15 0 3).2.2 = 0 ∧ (expD (takeD awS1 1 10 5 0 3).1 15 0 3).2.1.length = 1 := by decide +kernel
theorem aw5 : lens12 (takeD awS1 1 10 5 0 3).1 := by unfold lens12; decide +kernel
theorem aw6 : lens12 awS1 := by unfold lens12; decide +kernel
theorem ztV : callL G z1E [] [] = some (.d (.bool true), []) := by
 have k1 := zAm 3 (by decide) (by decide)
 have kp := zz5 0 65535 ⟨List.replicate 3 zMessage, 0, 0⟩ awM (by decide +kernel) (by decide) (by decide +kernel) (by decide) (by decide +kernel) (by decide +kernel)
 have k2 := zAr awS0 awS1 awM 0 (by decide) (by decide) (by decide) aw1 kp
 have hs := aw6
 have k3 := zp8 awS1 1 10 5 0 3 (by have := hs.1; omega) (by have := hs.2.1; omega) (by have := hs.2.2; omega)
 have h2 := aw5
 have k4 := Holds_ok' (takeD awS1 1 10 5 0 3).1 ⟨1, 1, 0, 0⟩ 14 0 h2
 have k5 := Holds_ok' (takeD awS1 1 10 5 0 3).1 ⟨1, 1, 0, 0⟩ 15 0 h2
 have k6 := zvJ (takeD awS1 1 10 5 0 3).1 15 0 3 (by have := h2.1; omega) (by have := h2.2.1; omega) (by have := h2.2.2; omega)
 rw [aw3.1] at k4
 rw [aw3.2] at k5
 rw [aw2.1] at k3
 rw [aw4.1] at k6
 have l1 := aw2.2
 have l2 := aw4.2
 generalize (expD (takeD awS1 1 10 5 0 3).1 15 0 3).2.1 = g2 at *
 generalize (expD (takeD awS1 1 10 5 0 3).1 15 0 3).1 = g1 at *
 generalize (takeD awS1 1 10 5 0 3).2.1 = g4 at *
 generalize (takeD awS1 1 10 5 0 3).1 = g3 at *
 generalize awS1 = g5 at *
 clear kp hs h2
 change callL G z0W _ _ = some (.d (.tup [eShard awS0, _]), []) at k1
 generalize awS0 = g6 at *
 simp only [eShard, eHandle, eMessage, awM, zMessage, Int.cast_ofNat_Int] at *
 rw [zjI zbl (by simp)]; simp -implicitDefEqProofs (disch := omega) only [za7, getDT, go_sem, *]
theorem zrH {x : Shard} (h : shardV x = 0) : ∀ y ∈ x.leases.l, 0 ≤ y.msg.gen ∧ y.msg.gen ≤ 65536 ∧ 0 ≤ y.msg.route ∧ y.msg.route ≤ 65535 := by
 intro y hy
 have h2 : tabV x.leases = 0 := by
  have q := h
  unfold shardV at q
  split at q
  · rename_i c; exact absurd q c
  · split at q
    · rename_i c; exact absurd q c
    · rename_i c; exact Classical.not_not.1 c
 have hm : msgV y.msg = 0 := ((zkj x.leases.l).1 (zk6 h2).2.1).2 y hy |>.1
 have := (zpM y.msg).1 hm
 omega
theorem zt4 {x : Shard} (h : shardV x = 0) : 0 ≤ x.low ∧ x.low ≤ x.high ∧ x.high < 65536 := by
 have h1 : ringV x.ready = 0 := by
  have q := h
  unfold shardV at q
  split at q
  · rename_i c; exact absurd q c
  · rename_i c; exact Classical.not_not.1 c
 have h2 : tabV x.leases = 0 := by
  have q := h
  unfold shardV at q
  rw [if_neg (fun c => c h1)] at q
  split at q
  · rename_i c; exact absurd q c
  · rename_i c; exact Classical.not_not.1 c
 rw [znJ h1 h2] at h
 split at h
 · split at h
   · cases h
   · rename_i c; omega
 · split at h
   · cases h
   · rename_i c; exact Classical.not_not.1 c
def svS (t : List Int) (x : Shard) (p : Nat × Nat) : St := ⟨[(3, .ref 9 0 0), (4, .ref 4 0 0), (5, .d (.int .i64 p.2))], [(4, .row [.d (eShard x)]), (9, srcO t p.1)]⟩
def svPhi (t : List Int) (x : Shard) (r : Option (AExit × St)) : Prop := ∃ a', r = some (.exit 0, ⟨[(3, .ref 9 0 0), (4, .ref 4 0 0)], [(4, .row [.d (eShard x)]), (9, srcO t a')]⟩)
theorem zqi (t : List Int) (x : Shard) (ht : t.length ≤ 4000) (hx : shardV x = 0) : ∀ p : Nat × Nat, p.2 ≤ 4 → svPhi t x (loopL G [] l_law07_ShardServes_0 (svS t x p)) := by
 refine znh (fun p : Nat × Nat => 4 - p.2) (fun p : Nat × Nat => p.2 ≤ 4) (svS t x) (fun _ => Post (svPhi t x)) fun p hi L ih => ?_
 obtain ⟨a, i⟩ := p
 simp only at hi
 by_cases h0 : i < 4
 · have ql := znx hx
   have hsp := zt4 hx
   obtain ⟨h, a1, q1⟩ := zpv t a x ht ql.2.1 (zrH hx)
   obtain ⟨n1, n2, n3, n4, n5, n6, n7, n8, a2, q2⟩ := zpP t a1 ht
   have k1 := ztd x h n1 n2 n3 n4 n5 n6 n7 n8 ql
   have q3 := zl5 t a2 1 30 ht (by omega) (by omega) (by omega) (by omega)
   obtain ⟨id, hid⟩ : ∃ id, 1 + nD t a2 (30 - 1 + 1) = id := ⟨_, rfl⟩
   obtain ⟨a3, ha3⟩ : ∃ a3, (rawD t a2).2 = a3 := ⟨_, rfl⟩
   rw [hid, ha3] at q3
   obtain ⟨m, a4, q4⟩ := odd_ex t a3 id x.low x.high ht hsp.1 hsp.2.1 hsp.2.2
   have k2 := zt0 x m h n1 n2 n3 n4 n5 n6 n7 n8 ql
   have i1 := ih ⟨a4, i + 1⟩ (by simp only; omega) (by simp only; omega)
   have e : ((i + 1 : Nat) : Int) = (i : Int) + 1 := by omega
   clear ih ql hx hid ha3 hsp
   simp only [svS, eShard, eHandle, eMessage, eN8, l_law07_ShardServes_0] at *
   rw [e] at i1
   clear e
   simp -implicitDefEqProofs (disch := omega) only [getDT, go_sem, *]
 · clear ih
   obtain rfl : i = 4 := by omega
   simp only [svS, eShard, l_law07_ShardServes_0]
   simp -implicitDefEqProofs (disch := omega) only [getDT, go_sem, *]
   exact ⟨a, rfl⟩
theorem zp7 (t : List Int) (y : Shard) (a : Nat) (ht : t.length ≤ 4000) (ql : lens12 y) (hg : ∀ z ∈ y.leases.l, 0 ≤ z.msg.gen ∧ z.msg.gen ≤ 65536 ∧ 0 ≤ z.msg.route ∧ z.msg.route ≤ 65535) (hM : Int) (h1 : 0 ≤ y.low) (h2 : y.low ≤ hM) (h3 : hM ≤ 65536) :
    ∃ h a1 n1 n2 n3 n4 n5 n6 n7 n8 a2 m a3 h' a4 m1 m2 m3 m4 m5 m6 m7 m8 a5,
     callL Go.Proofs.YtcjncbkhbllchaaGreat.G zl [.ref 1000000 0 0, .d (eShard y)] [(1000000, srcO t a)] = some (.d (eHandle h), [(1000000, srcO t a1)]) ∧
     callL Go.Proofs.YtcjncbkhbllchaaGreat.G zo [.ref 1000000 0 0] [(1000000, srcO t a1)] = some (.d (.agg [.int .i64 n1, .int .i64 n2, .int .i64 n3, .int .i64 n4, .int .i64 n5, .int .i64 n6, .int .i64 n7, .int .i64 n8]), [(1000000, srcO t a2)]) ∧
     callL G z0O [.d (eShard y), .d (eHandle h), .d (eN8 n1 n2 n3 n4 n5 n6 n7 n8)] [] = some (.d (.bool true), []) ∧
     callL Go.Proofs.YtcjncbkhbllchaaGreat.G ze [.ref 1000000 0 0, .d (.int .i64 77), .d (.int .i64 y.low), .d (.int .i64 hM)] [(1000000, srcO t a2)] = some (.d (eMessage m), [(1000000, srcO t a3)]) ∧
     callL Go.Proofs.YtcjncbkhbllchaaGreat.G zl [.ref 1000000 0 0, .d (eShard y)] [(1000000, srcO t a3)] = some (.d (eHandle h'), [(1000000, srcO t a4)]) ∧
     callL Go.Proofs.YtcjncbkhbllchaaGreat.G zo [.ref 1000000 0 0] [(1000000, srcO t a4)] = some (.d (.agg [.int .i64 m1, .int .i64 m2, .int .i64 m3, .int .i64 m4, .int .i64 m5, .int .i64 m6, .int .i64 m7, .int .i64 m8]), [(1000000, srcO t a5)]) ∧
     callL G z0N [.d (eShard y), .d (eMessage m), .d (eHandle h'), .d (eN8 m1 m2 m3 m4 m5 m6 m7 m8)] [] = some (.d (.bool true), []) := by
 obtain ⟨h, a1, q1⟩ := zpv t a y ht ql.2.1 hg
 obtain ⟨n1, n2, n3, n4, n5, n6, n7, n8, a2, q2⟩ := zpP t a1 ht
 obtain ⟨m, a3, q3⟩ := zy4 t a2 77 y.low hM ht h1 h2 h3
 obtain ⟨h', a4, q4⟩ := zpv t a3 y ht ql.2.1 hg
 obtain ⟨m1, m2, m3, m4, m5, m6, m7, m8, a5, q5⟩ := zpP t a4 ht
 exact ⟨h, a1, n1, n2, n3, n4, n5, n6, n7, n8, a2, m, a3, h', a4, m1, m2, m3, m4, m5, m6, m7, m8, a5, q1, q2, ztd y h n1 n2 n3 n4 n5 n6 n7 n8 ql, q3, q4, q5, zt0 y m h' m1 m2 m3 m4 m5 m6 m7 m8 ql⟩
theorem sserves (l : List Int) (h : l.length ≤ LIM) : callL G z1D [.d (.sl (ints l))] [] = some (.d (.bool true), []) := by
 have h1 := new_ok l h
 have ht : (l.take 4000).length ≤ 4000 := by simp; omega
 generalize l.take 4000 = t at *
 obtain ⟨x, a1, hx, hs⟩ := zAb t 0 ht
 have hv := hx.1
 obtain ⟨a2, hl⟩ := zqi t x ht hv ⟨a1, 0⟩ (by simp only; omega)
 have hw := ztV
 have ql := znx hv
 have hg := zrH hv
 have hsp := zt4 hv
 have q4 := n_ok t a2 4 ht (by omega) (by omega)
 have b4 := nD_in t a2 (n := 4) (by omega)
 obtain ⟨a3, ha3⟩ : ∃ a3, (rawD t a2).2 = a3 := ⟨_, rfl⟩
 rw [ha3] at q4
 generalize nD t a2 4 = c at *
 clear hx hv ha3
 rcases (show c = 0 ∨ c = 1 ∨ c = 2 ∨ c = 3 by omega) with rfl | rfl | rfl | rfl
 · obtain ⟨M, hM⟩ : ∃ M, (x.low < x.high ∧ M = x.high) ∨ (¬ x.low < x.high ∧ M = x.low) := by
    by_cases c : x.low < x.high
    · exact ⟨_, .inl ⟨c, rfl⟩⟩
    · exact ⟨_, .inr ⟨c, rfl⟩⟩
   obtain ⟨hd, z1, n1, n2, n3, n4, n5, n6, n7, n8, z2, m, z3, hd2, z4, m1, m2, m3, m4, m5, m6, m7, m8, z5, k1, k2, k3, k4, k5, k6, k7⟩ := zp7 t { x with live := !x.live } a3 ht ql hg M (by first | omega | (simp only; omega)) (by first | omega | (simp only; omega)) (by omega)
   obtain ⟨s1, s2, s3⟩ := hsp
   clear ql hg
   rcases hM with ⟨g, rfl⟩ | ⟨g, rfl⟩
   · simp only [svS, srcO, eShard, eHandle, eMessage, eN8, Int.natCast_zero] at *
     rw [zjI zx (by simp)]; simp -implicitDefEqProofs (disch := omega) only [zu, getDT, go_sem, *]
   · simp only [svS, srcO, eShard, eHandle, eMessage, eN8, Int.natCast_zero] at *
     rw [zjI zx (by simp)]; simp -implicitDefEqProofs (disch := omega) only [zu, getDT, go_sem, *]
 · obtain ⟨M, hM⟩ : ∃ M, (x.low + 1 < x.high ∧ M = x.high) ∨ (¬ x.low + 1 < x.high ∧ M = x.low + 1) := by
    by_cases c : x.low + 1 < x.high
    · exact ⟨_, .inl ⟨c, rfl⟩⟩
    · exact ⟨_, .inr ⟨c, rfl⟩⟩
   obtain ⟨hd, z1, n1, n2, n3, n4, n5, n6, n7, n8, z2, m, z3, hd2, z4, m1, m2, m3, m4, m5, m6, m7, m8, z5, k1, k2, k3, k4, k5, k6, k7⟩ := zp7 t { x with low := x.low + 1 } a3 ht ql hg M (by first | omega | (simp only; omega)) (by first | omega | (simp only; omega)) (by omega)
   obtain ⟨s1, s2, s3⟩ := hsp
   clear ql hg
   rcases hM with ⟨g, rfl⟩ | ⟨g, rfl⟩
   · simp only [svS, srcO, eShard, eHandle, eMessage, eN8, Int.natCast_zero] at *
     rw [zjI zx (by simp)]; simp -implicitDefEqProofs (disch := omega) only [zu, getDT, go_sem, *]
   · simp only [svS, srcO, eShard, eHandle, eMessage, eN8, Int.natCast_zero] at *
     rw [zjI zx (by simp)]; simp -implicitDefEqProofs (disch := omega) only [zu, getDT, go_sem, *]
 · have q5 := n_ok t a3 65536 ht (by omega) (by omega)
   have b5 := nD_in t a3 (n := 65536) (by omega)
   obtain ⟨a4, ha4⟩ : ∃ a4, (rawD t a3).2 = a4 := ⟨_, rfl⟩
   rw [ha4] at q5
   generalize nD t a3 65536 = hn at *
   clear ha4
   obtain ⟨M, hM⟩ : ∃ M, (x.low < hn ∧ M = hn) ∨ (¬ x.low < hn ∧ M = x.low) := by
    by_cases c : x.low < hn
    · exact ⟨_, .inl ⟨c, rfl⟩⟩
    · exact ⟨_, .inr ⟨c, rfl⟩⟩
   obtain ⟨hd, z1, n1, n2, n3, n4, n5, n6, n7, n8, z2, m, z3, hd2, z4, m1, m2, m3, m4, m5, m6, m7, m8, z5, k1, k2, k3, k4, k5, k6, k7⟩ := zp7 t { x with high := hn } a4 ht ql hg M (by first | omega | (simp only; omega)) (by first | omega | (simp only; omega)) (by omega)
   obtain ⟨s1, s2, s3⟩ := hsp
   clear ql hg
   rcases hM with ⟨g, rfl⟩ | ⟨g, rfl⟩
   · simp only [svS, srcO, eShard, eHandle, eMessage, eN8, Int.natCast_zero] at *
     rw [zjI zx (by simp)]; simp -implicitDefEqProofs (disch := omega) only [zu, getDT, go_sem, *]
   · simp only [svS, srcO, eShard, eHandle, eMessage, eN8, Int.natCast_zero] at *
     rw [zjI zx (by simp)]; simp -implicitDefEqProofs (disch := omega) only [zu, getDT, go_sem, *]
 · obtain ⟨M, hM⟩ : ∃ M, (x.low < x.high ∧ M = x.high) ∨ (¬ x.low < x.high ∧ M = x.low) := by
    by_cases c : x.low < x.high
    · exact ⟨_, .inl ⟨c, rfl⟩⟩
    · exact ⟨_, .inr ⟨c, rfl⟩⟩
   obtain ⟨hd, z1, n1, n2, n3, n4, n5, n6, n7, n8, z2, m, z3, hd2, z4, m1, m2, m3, m4, m5, m6, m7, m8, z5, k1, k2, k3, k4, k5, k6, k7⟩ := zp7 t x a3 ht ql hg M (by first | omega | (simp only; omega)) (by first | omega | (simp only; omega)) (by omega)
   obtain ⟨s1, s2, s3⟩ := hsp
   clear ql hg
   rcases hM with ⟨g, rfl⟩ | ⟨g, rfl⟩
   · simp only [svS, srcO, eShard, eHandle, eMessage, eN8, Int.natCast_zero] at *
     rw [zjI zx (by simp)]; simp -implicitDefEqProofs (disch := omega) only [zu, getDT, go_sem, *]
   · simp only [svS, srcO, eShard, eHandle, eMessage, eN8, Int.natCast_zero] at *
     rw [zjI zx (by simp)]; simp -implicitDefEqProofs (disch := omega) only [zu, getDT, go_sem, *]
end Go.Proofs.YtcjncbkhbllchaaGreat.L
