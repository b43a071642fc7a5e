/-
  Composite values.
-/
import Derived.Test.YtgjlpcbolldhhaaGreatB0e58413
set_option linter.unusedSimpArgs false
set_option linter.unusedVariables false
set_option maxHeartbeats 10000000
set_option maxRecDepth 100000
namespace Go.Sim
open Go (World Value Addr TypeId Act)
variable {P : Program} {C : Ctx} {S : St} {a : Act} {w : World} {ι : Inj} {R : Nat -> Prop}
theorem zE.append {n : Nat} {es ys : List D} {olds news : List Value} (h1 : zE w R n es olds) (h2 : zE w R n ys news) (hz : ∀ e ∈ es ++ ys, e.size = n) : zE w R n (es ++ ys) (olds ++ news) := by
 refine ⟨by simp [h1.1, h2.1, zLm], fun i e hi j c hc => ?_⟩;have hj : j < n := by
  have := hz e (zKU hi);have h3 := (zKP.1 hc).1;unfold D.size at this; omega
 by_cases hlt : i < es.length
 · rw [zLk hlt] at hi;obtain ⟨k1, q, k2, k3⟩ := h1.2 i e hi j c hc;exact ⟨k1, q, by rw [zLk (zKP.1 k2).1]; exact k2, k3⟩
 · rw [zLd (by omega)] at hi;obtain ⟨k1, q, k2, k3⟩ := h2.2 _ e hi j c hc;refine ⟨k1, q, ?_, k3⟩;have : (i - es.length) * n + es.length * n = i * n := by rw [<- zLm]; congr 1; omega
   rw [zLd (by rw [h1.1]; omega), h1.1, <- k2]
   congr 1; omega
theorem zE.el {w' : World} {R' : Nat -> Prop} {n b off : Nat} {es : List D} {cs : List Value} (h : zE w R n es cs) (hz : ∀ e ∈ es, e.size = n) (hn : 0 < n) (hR : ∀ b, R b -> R' b) (hw : zU R w w')
    (hr : ∀ j v, cs[j]? = some v -> w'.cell? ⟨b, off + j, none⟩ = some v) (i : Nat) (e : D) (hi : es[i]? = some e) : Rd w' R' (.el e b (off + i * n)) := by
 refine Rd.el_of_cells (fun vs hvs => ?_) fun j c hc => ?_
 · subst hvs;have h1 := (h.2 i _ hi 0 (.tup vs) rfl).1;simp [D.cell] at h1
 · obtain ⟨k1, q, k2, k3⟩ := h.2 i e hi j c hc;refine ⟨k1, q, ?_, k3.mono_v hR hw⟩;rw [zLA]; exact hr _ _ k2
theorem zHG {n : Nat} {es : List D} {ao : Option Addr} {cap : Nat} (h : Rd w R (.v (.sl es) (.slice ao es.length cap))) (hn : 0 < n) (hz : ∀ e ∈ es, e.size = n) :
    ∃ olds, zE w R n es olds /\ (Builtin.firstCells n es.length (.slice ao es.length cap)).run P w.drew = .ok olds.toArray w.drew := by
 by_cases h0 : es = []
 · subst h0;refine ⟨[], ⟨by simp, fun i e hi => by simp at hi⟩, ?_⟩
   cases ao with
   | none => exact run_firstCells_none w.drew n 0 0 cap
   | some b => exact run_firstCells_some w.drew n 0 b 0 cap [] (by simp) (by simp)
 · obtain ⟨b, off, s, cap', he, hR, hs, hl, hc, hsz, hel⟩ := h.sl_inv h0
   cases he
   obtain ⟨e0, he0⟩ : ∃ e, e ∈ es := zL2 _ h0;have hns : s = n := by rw [<- hsz e0 he0]; exact hz e0 he0
   subst hns;obtain ⟨olds, h1, h2⟩ := zeh hn hz hel;exact ⟨olds, h1, run_firstCells_some w.drew s es.length _ es.length cap olds h1.1 (fun j v hj => by rw [Addr.add_mid]; exact h2 j v hj)⟩
theorem zHF {n b : Nat} {es : List D} {cap : Nat} (h : ∀ (i : Nat) (e : D), es[i]? = some e -> Rd w R (.el e b (i * n))) (hn : 0 < n) (hz : ∀ e ∈ es, e.size = n) :
    ∃ olds, zE w R n es olds /\ w.rangeAt b 0 olds /\ (Builtin.firstCells n es.length (.slice (some ⟨b, 0, none⟩) es.length cap)).run P w.drew = .ok olds.toArray w.drew := by
 obtain ⟨olds, h1, h2⟩ := zeh (w := w) (R := R) (b := b) (off := 0) hn hz (fun i e hi => by rw [zKT]; exact h i e hi);exact ⟨olds, h1, h2, run_firstCells_some w.drew n es.length _ es.length cap olds h1.1 (fun j v hj => by rw [Addr.add_mid]; exact h2 j v hj)⟩
theorem zH0 {it : It} (h : Rd w R it) : Rd w.drew R it := h.mono (fun _ h => h) (fun _ _ => rfl) (by cases it with | v => trivial | el x b off => exact fun j _ => rfl)
theorem zE.drew {n : Nat} {es : List D} {cs : List Value} (h : zE w R n es cs) : zE w.drew R n es cs :=
 ⟨h.1, fun i e hi j c hc => let ⟨k1, q, k2, k3⟩ := h.2 i e hi j c hc; ⟨k1, q, k2, zH0 k3⟩⟩
theorem Rel.newAcc (h : Rel C S a w ι R) {o n cap : Nat} {es : List D} {cs : List Value} {zs : Array Value} (T : TypeId) (hu : zb6 o S) (hn : 0 < n) (hc : zE w R n es cs) (hz : ∀ e ∈ es, e.size = n)
    (h0 : 0 < es.length) (hL : es.length <= LIM) (hcap : es.length <= cap) (hsz : cap * n <= (cs.toArray ++ zs).size) :
    Rel C ⟨S.env, zj o (.acc es.length) S.heap⟩ a (w.alloc (.cells (cs.toArray ++ zs) T)) (upd ι o (w.heap.size, n)) R /\
    VA (w.alloc (.cells (cs.toArray ++ zs) T)) R (upd ι o (w.heap.size, n)) (mark (zj o (.acc es.length) S.heap)) (.acc o es) (.slice (some ⟨w.heap.size, 0, none⟩) es.length cap) := by
 have hb := heap_alloc_new w (.cells (cs.toArray ++ zs) T);refine ⟨h.new _ T hu (.acc h0 zav (fun hR => by have := h.rlt _ hR; omega) hb hn (by
  have : es.length * n <= cap * n := zK6 _ hcap;omega)), ?_⟩
 refine .accC zav (by rw [zaN]) (zKV _) hL hcap hz hb hsz fun i e hi => ?_;have := hc.el (w' := w.alloc (.cells (cs.toArray ++ zs) T)) (R' := R) (b := w.heap.size) (off := 0) hz hn (fun _ h => h) (zU.alloc h _) (fun j v hj => by
  rw [zK hb, zKT, zMk (by simpa using (zKP.1 hj).1)];simpa using hj) i e hi
 rwa [zKT] at this
theorem zx1 {v : Value} {x : AV} (h : zbw v = some x) : x.size = v.cells.size := by
 unfold zbw at h
 split at h
 · obtain ⟨ds, h1, h2⟩ := zKL.1 h;subst h2;rw [(zsd ds).2, (zbc h1).1]; simp [Value.cells]
 · rename_i v' hv;have h1 : v.cells.size = 1 := by
    cases v <;> first | rfl | (rename_i cs; exact absurd rfl (hv cs))
   rw [h1];have := (zfj h ⟨#[], fun _ _ => 0, 0, default, #[]⟩ (fun _ => False) (fun _ => none) (fun _ => none)).2
   cases x with
   | d y => exact D.size_cell this
   | agg => simp [AV.cell] at this
   | _ => rfl
theorem zs2 (z : Array Value) (k : Nat) : (Builtin.zeroCells z k).size = k * z.size := by simp [Builtin.zeroCells]
theorem zrl (need old : Nat) (e : TypeId) : need <= grownCap w need old e := by
 exact Nat.le_add_right _ _
theorem VA.regrow {w' : World} {o m m' nb n bo so : Nat} {mk mk' : Nat -> Option Nat} {R' : Nat -> Prop} {x : AV} {u : Value} (h : VA w R ι mk x u) (hmo : mk o = some m) (hm' : mk' o = some m') (hlt : m < m') (hmk : ∀ p, p ≠ o -> mk' p = mk p)
    (hR : ∀ b, R b -> R' b) (hw : zU R w w') (hold : ∀ b s, ι o = some (b, s) -> R' b /\ 0 < s) (hheap : ∀ p b s, ι p = some (b, s) -> w'.heap[b]? = w.heap[b]?) : VA w' R' (upd ι o (nb, n)) mk' x u := by
 have ne : ∀ {p : Nat}, mk p = none -> p ≠ o := fun {p} h e => by subst e; rw [hmo] at h; cases h
 induction h with
 | d h => exact .d (h.mono_v hR hw)
 | ref h hk => exact .ref (by rw [zQ (ne hk)]; exact h) (by rw [hmk _ (ne hk)]; exact hk)
 | osl h hk hb hl hc hL => exact .osl (by rw [zQ (ne hk)]; exact h) (by rw [hmk _ (ne hk)]; exact hk) (by rw [hheap _ _ _ h]; exact hb) hl hc hL
 | osl0 => exact .osl0
 | @accR p _ _ _ _ _ hr hs hL hl hsz h hm =>
  refine .accR (hR _ hr) hs hL hl hsz (fun i e hi => (h i e hi).mono hR hw fun j _ => World.cell?_of_block (hw _ hr)) fun m2 hm2 => ?_
  by_cases e : p = o
  · subst e;rw [hm'] at hm2; cases hm2;have := hm m hmo; omega
  · rw [hmk _ e] at hm2; exact hm m2 hm2
 | @accC p b s m1 cap es c T hι hk hm hL hl hsz hb hc h =>
  by_cases e : p = o
  · subst e;rw [hmo] at hk; cases hk;obtain ⟨h1, h2⟩ := hold _ _ hι;refine .accR h1 h2 hL hl hsz (fun i e hi => ?_) fun m2 hm2 => ?_
    · rw [zKT]; exact (h i e hi).mono hR hw fun j _ => World.cell?_of_block (hheap _ _ _ hι)
    · rw [hm'] at hm2; cases hm2; omega
  · exact .accC (by rw [zQ e]; exact hι) (by rw [hmk _ e]; exact hk) hm hL hl hsz (by rw [hheap _ _ _ hι]; exact hb) hc
     (fun i e hi => (h i e hi).mono hR hw fun j _ => World.cell?_of_block (hheap _ _ _ hι))
 | peR hr h => exact .peR (hR _ hr) (h.mono hR hw fun j _ => World.cell?_of_block (hw _ hr))
 | @peC p b s m1 off x c T hι hk hb hoff h =>
  by_cases e : p = o
  · subst e;exact .peR (hold _ _ hι).1 (h.mono hR hw fun j _ => World.cell?_of_block (hheap _ _ _ hι))
  · exact .peC (by rw [zQ e]; exact hι) (by rw [hmk _ e]; exact hk) (by rw [hheap _ _ _ hι]; exact hb) hoff (h.mono hR hw fun j _ => World.cell?_of_block (hheap _ _ _ hι))
 | acc0 => exact .acc0
 | xsl h => exact .xsl (h.mono_v hR hw)
 | agg hl hc _ ih => exact .agg hl hc ih
 | tup hl _ ih => exact .tup hl ih
 | fn hl _ ih => exact .fn hl ih
 | nl1 => exact .nl1
 | nl2 => exact .nl2
 | @mpr p b s hι hk =>
  have hne : p ≠ o := fun e => by subst e; rw [hmo] at hk; cases hk
  exact .mpr (by rw [zQ hne]; exact hι) (by rw [hmk _ hne]; exact hk)
 | undef => exact .undef
theorem Rel.regrow (h : Rel C S a w ι R) {o m n cap : Nat} {es : List D} {cs : List Value} {zs : Array Value} (T : TypeId) (hlook : look o S.heap = some (.acc m)) (hlt : m < es.length) (hn : 0 < n) (hc : zE w R n es cs) (hz : ∀ e ∈ es, e.size = n)
    (hL : es.length <= LIM) (hcap : es.length <= cap) (hsz : cap * n <= (cs.toArray ++ zs).size) :
    Rel C ⟨S.env, zj o (.acc es.length) S.heap⟩ a (w.alloc (.cells (cs.toArray ++ zs) T)) (upd ι o (w.heap.size, n)) (fun b => R b \/ ∃ s, ι o = some (b, s)) /\
    VA (w.alloc (.cells (cs.toArray ++ zs) T)) (fun b => R b \/ ∃ s, ι o = some (b, s)) (upd ι o (w.heap.size, n)) (mark (zj o (.acc es.length) S.heap)) (.acc o es) (.slice (some ⟨w.heap.size, 0, none⟩) es.length cap) := by
 have hb := heap_alloc_new w (.cells (cs.toArray ++ zs) T);have hheap : ∀ p b s, ι p = some (b, s) -> (w.alloc (.cells (cs.toArray ++ zs) T)).heap[b]? = w.heap[b]? := fun p b s hp => zay (h.own p b s hp).2;have hmo' : mark (zj o (.acc es.length) S.heap) o = some es.length := by rw [zaN]
 have hmk : ∀ p, p ≠ o -> mark (zj o (.acc es.length) S.heap) p = mark S.heap p := fun p hp => zaO hp;have hK : zU R w (w.alloc (.cells (cs.toArray ++ zs) T)) := zU.alloc h _;have hm : mark S.heap o = some m := by unfold mark; rw [hlook]
 have hold : ∀ b s, ι o = some (b, s) -> (R b \/ ∃ s, ι o = some (b, s)) /\ 0 < s := fun b s hbs => by
  refine ⟨.inr ⟨s, hbs⟩, ?_⟩;have hob := h.heap _ _ (zu hlook)
  cases hob with
  | acc _ hι' _ _ hs _ => rw [hbs] at hι'; cases hι'; exact hs
  | accN hι' => rw [hbs] at hι'; cases hι'
 have hva : ∀ {x : AV} {u : Value}, VA w R ι (mark S.heap) x u -> VA (w.alloc (.cells (cs.toArray ++ zs) T)) (fun b => R b \/ ∃ s, ι o = some (b, s)) (upd ι o (w.heap.size, n)) (mark (zj o (.acc es.length) S.heap)) x u :=
  fun hv => hv.regrow (bo := 0) (so := 0) hm hmo' hlt hmk (fun _ h => .inl h) hK hold hheap
 have hob : OB (w.alloc (.cells (cs.toArray ++ zs) T)) (fun b => R b \/ ∃ s, ι o = some (b, s)) (upd ι o (w.heap.size, n)) (mark (zj o (.acc es.length) S.heap)) o (.acc es.length) := by
  refine .acc (by omega) zav ?_ hb hn (by
   have : es.length * n <= cap * n := zK6 _ hcap;omega)
  rintro (hr | ⟨s, hr⟩)
  · have := h.rlt _ hr; omega
  · have := (h.own _ _ _ hr).2; omega
 refine ⟨⟨h.defers, h.size, h.os, h.tape, h.output, by have := h.grow; simp; omega, fun b hb => (h.len b hb).trans (Blk.of_eq (zay (zLo hb h.grow))), fun b hb => (zay (zLo (h.keepLt b hb) h.grow)).trans (h.keep b hb), h.keepLt, ?_, ?_, fun b hb => .inl (h.r0 b hb), ?_, ?_, ?_, ?_⟩, ?_⟩
 · rintro b (hr | ⟨s, hr⟩)
   · have := h.rlt _ hr; simp; omega
   · have := (h.own _ _ _ hr).2; simp; omega
 · rintro b (hr | ⟨s, hr⟩)
   · exact h.rok b hr
   · exact .inr (h.own _ _ _ hr).1
 · intro q b s hq
   by_cases e : q = o
   · subst e;rw [zav] at hq; cases hq;exact ⟨fun hk => by have := h.keepLt _ hk; have := h.grow; omega, by simp⟩
   · rw [zQ e] at hq;have := h.own q b s hq;exact ⟨this.1, by simp; omega⟩
 · intro q q' b s1 s2 h1 h2
   by_cases e : q = o <;> by_cases e' : q' = o
   · rw [e, e']
   · subst e; rw [zav] at h1; rw [zQ e'] at h2; cases h1;have := (h.own _ _ _ h2).2; omega
   · subst e'; rw [zav] at h2; rw [zQ e] at h1; cases h2;have := (h.own _ _ _ h1).2; omega
   · rw [zQ e] at h1; rw [zQ e'] at h2; exact h.inj _ _ _ _ _ h1 h2
 · intro t x hx;obtain ⟨u, h1, h2⟩ := h.env t x hx;exact ⟨u, h1, hva h2⟩
 · intro q ob hq
   rcases zbU hq with hq | ⟨hq, hne⟩
   · cases hq; exact hob
   · cases h.heap q ob hq with
     | row hι' hr hb' hs' hsz' hc' hh =>
      refine .row (by rw [zQ hne]; exact hι') ?_ (by rw [hheap _ _ _ hι']; exact hb') hs' hsz' hc' fun i e hi j x hj => ?_
      · rintro (hr' | ⟨s, hr'⟩)
        · exact hr hr'
        · exact hne (h.inj _ _ _ _ _ hι' hr')
      · obtain ⟨k1, q, k2, k3⟩ := hh i e hi j x hj;exact ⟨k1, q, k2, hva k3⟩
     | acc hpos hι' hr hb' hs' hc' =>
      refine .acc hpos (by rw [zQ hne]; exact hι') ?_ (by rw [hheap _ _ _ hι']; exact hb') hs' hc';rintro (hr' | ⟨s, hr'⟩)
      · exact hr hr'
      · exact hne (h.inj _ _ _ _ _ hι' hr')
     | accN hι' => exact .accN (by rw [zQ hne]; exact hι')
     | frz hh => exact .frz fun b s hb' => have k := hh b s (by rwa [zQ hne] at hb'); ⟨.inl k.1, k.2⟩
     | mp hι' hr hb' hs' hl' hh =>
      refine .mp (by rw [zQ hne]; exact hι') ?_ (by rw [hheap _ _ _ hι']; exact hb') hs' hl' fun i k x hi => ?_
      · rintro (hr' | ⟨s, hr'⟩)
        · exact hr hr'
        · exact hne (h.inj _ _ _ _ _ hι' hr')
      · obtain ⟨e, k1, k2, k3⟩ := hh i k x hi;exact ⟨e, k1, k2, k3.mono_v (fun _ h => .inl h) hK⟩
 · refine .accC zav hmo' (zKV _) hL hcap hz hb hsz fun i e hi => ?_;have := hc.el (w' := w.alloc (.cells (cs.toArray ++ zs) T)) (R' := fun b => R b \/ ∃ s, ι o = some (b, s)) (b := w.heap.size) (off := 0) hz hn (fun _ h => .inl h) hK (fun j v hj => by
    rw [zK hb, zKT, zMk (by simpa using (zKP.1 hj).1)];simpa using hj) i e hi
   rwa [zKT] at this
theorem Rel.inplace (h : Rel C S a w ι R) {o m b n cap : Nat} {es ys : List D} {news : List Value} {c : Array Value} {T : TypeId} (hlook : look o S.heap = some (.acc m)) (hes : es.length = m) (hι : ι o = some (b, n)) (hb : w.heap[b]? = some (.cells c T (0, 0)))
    (hn : 0 < n) (hy : zE w R n ys news) (hz : ∀ e ∈ es ++ ys, e.size = n) (hL : (es ++ ys).length <= LIM) (hcap : m + ys.length <= cap) (hsz : cap * n <= c.size) (hR : ¬ R b)
    (hold : ∀ (i : Nat) (e : D), es[i]? = some e -> Rd w R (.el e b (i * n))) :
    Rel C ⟨S.env, zj o (.acc (m + ys.length)) S.heap⟩ a (w.setCells b (0 + m * n) news) ι R /\
    VA (w.setCells b (0 + m * n) news) R ι (mark (zj o (.acc (m + ys.length)) S.heap)) (.acc o (es ++ ys)) (.slice (some ⟨b, 0, none⟩) (m + ys.length) cap) := by
 have hm : mark S.heap o = some m := by unfold mark; rw [hlook]
 obtain ⟨c', hc1, hc2, hc3⟩ := zcv w b (0 + m * n) news hb;obtain ⟨r1, r2, r3, r4⟩ := zcw w b (0 + m * n) news;have hK : zU R w (w.setCells b (0 + m * n) news) := fun b' hb' => zaq _ _ _ _ (fun e => hR (e ▸ hb'));have hmo' : mark (zj o (.acc (m + ys.length)) S.heap) o = some (m + ys.length) := by rw [zaN]
 have hstep : ∀ p, Step w (w.setCells b (0 + m * n) news) ι ι (mark S.heap) (mark (zj o (.acc (m + ys.length)) S.heap)) p := fun p => by
  by_cases e : p = o
  · subst e;refine ⟨fun _ _ h => h, fun b1 s1 hb1 => ?_, fun m1 h1 => ⟨_, hmo', by rw [hm] at h1; cases h1; omega⟩, fun m1 h1 => ⟨m, hm, by rw [hmo'] at h1; cases h1; omega⟩⟩;rw [hι] at hb1; cases hb1;rw [hm];intro c1 T1 hc1';rw [hb] at hc1'; cases hc1';refine ⟨c', hc1, hc2, fun j hj => ?_⟩;simp only [zLX] at hj;rw [hc3, zKM (by omega)]
  · exact Step.other rfl (zaO e) fun b1 s1 hb1 => zaq _ _ _ _ fun e' => e (h.inj _ _ _ _ _ (e' ▸ hb1) hι)
 refine ⟨?_, ?_⟩
 · refine h.change r1 r2 r3 (by omega) (fun b' _ => by
       by_cases e : b' = b
       · subst e; intro c1 T1 hc1'; rw [hb] at hc1'; cases hc1'; exact ⟨c', hc1, hc2, fun j hj => by simp at hj⟩
       · exact Blk.of_eq (zaq _ _ _ _ e)) (fun b' hb' => zaq _ _ _ _ (fun e => (h.own o b n hι).1 (e ▸ hb'))) (fun _ h => h) (fun b' hb' => by rw [r4]; exact h.rlt b' hb') h.rok hK
    (fun q b1 s1 hq => by rw [r4]; exact h.own q b1 s1 hq) h.inj (fun q _ => hstep q) ?_
   intro q ob hq
   rcases zbU hq with hq | ⟨hq, hne⟩
   · cases hq
     have hm0 : 0 < m := by
      cases h.heap _ _ (zu hlook) with
      | acc hpos _ _ _ _ _ => exact hpos
      | accN hι' => rw [hι] at hι'; cases hι'
     refine .acc (by omega) hι hR hc1 hn ?_;have : (m + ys.length) * n <= cap * n := zK6 _ hcap;omega
   · refine (h.heap q ob hq).mono (fun _ h => h) hK (fun b1 s1 hb1 => ⟨hb1, ?_, fun h => h⟩) (fun h => h) fun p _ => hstep p;exact zaq _ _ _ _ fun e => hne (h.inj _ _ _ _ _ (e ▸ hb1) hι)
 · have hlen : (es ++ ys).length = m + ys.length := by rw [zKO, hes]
   have := VA.accC (w := w.setCells b (0 + m * n) news) (R := R) (ι := ι) (mk := mark (zj o (.acc (m + ys.length)) S.heap)) (o := o) (es := es ++ ys) (cap := cap) hι hmo' (by omega) hL (by omega) hz hc1 (by omega) (fun i e hi => ?_)
   · rwa [hlen] at this
   · by_cases hlt : i < es.length
     · rw [zLk hlt] at hi;refine (hold i e hi).mono (fun _ h => h) hK fun j hj => ?_;rw [zK hc1, zK hb, hc3, zKM];have hez := hz e (zLE _ (zKU hi));have : (i + 1) * n <= m * n := zK6 _ (by omega);rw [zLp] at this;omega
     · rw [zLd (by omega)] at hi;have key := hy.el (w' := w.setCells b (0 + m * n) news) (R' := R) (b := b) (off := m * n) (fun e he => hz e (zL8 _ he)) hn (fun _ h => h) hK (fun j v hj => by
        have hjl := (zKP.1 hj).1;rw [hy.1] at hjl;have : (m + ys.length) * n <= cap * n := zK6 _ hcap;rw [zLm] at this;rw [zK hc1, hc3, zKN ⟨by omega, by rw [hy.1]; omega, by omega⟩];rw [show m * n + j - (0 + m * n) = j by omega]; exact hj) _ e hi
       rwa [show m * n + (i - es.length) * n = i * n by rw [<- zLm]; congr 1; omega] at key
theorem Rel.sameAcc (h : Rel C S a w ι R) {o m : Nat} (hl : look o S.heap = some (.acc m)) : Rel C ⟨S.env, zj o (.acc m) S.heap⟩ a w ι R := by
 have hmk : mark (zj o (.acc m) S.heap) = mark S.heap := funext fun p => by
  by_cases e : p = o
  · subst e; rw [zaN]; simp [mark, hl]
  · exact zaO e
 refine ⟨h.defers, h.size, h.os, h.tape, h.output, h.grow, h.len, h.keep, h.keepLt, h.rlt, h.rok, h.r0, h.own, h.inj, ?_, ?_⟩
 · rw [hmk]; exact h.env
 · rw [hmk];intro q ob hq
   rcases zbU hq with hq | ⟨hq, _⟩
   · cases hq; exact h.heap _ _ (zu hl)
   · exact h.heap q ob hq
theorem zmA {n dst : Nat} {t tx ty e : TypeId} {i : TypeInfo} {z : Value} {x v : AV} {ux uy : Value} {ys : List D} {news : List Value} {H' : za} (hr : Rel C S a w ι R) (hx : VA w R ι (mark S.heap) x ux)
    (hs : Src P n tx uy ys.length news w) (hy : zE w R n ys news) (ht : P.underlying t = some (.slice e)) (hi : P.info? e = some i) (hin : i.size = n) (hz : i.zero = some z) (hzn : z.cells.size = n) (hby : i.bytes <= 32768) (hn : 0 < n)
    (hp : zah S.env S.heap dst n ys x = some (v, H')) :
    ∃ u w' ι' R', (Builtin.append_ #[t, tx] ty #[ux, uy]).run P w = .ok u w' /\ Rel C ⟨S.env, H'⟩ a w' ι' R' /\ VA w' R' ι' (mark H') v u := by
 subst hin;have fits : ∀ {len cap : Nat}, len + ys.length <= LIM -> cap < len + ys.length -> ((len + ys.length : Nat) : Int) <= 9223372036854775807 /\ Builtin.nextslicecap (len + ys.length) cap * i.bytes <= 281474976710656 := by
  intro len cap hL hc;refine ⟨by unfold LIM at hL; omega, growslice_fits hc ?_⟩
  calc (len + ys.length) * i.bytes <= 4294967296 * 32768 := Nat.mul_le_mul hL hby
   _ = 140737488355328 := by decide
 cases x with
 | xsl es =>
  simp only [zah] at hp
  split at hp
  · rename_i hh
    split at hp
    · cases hp
      have h0 : ys = [] := by simp at hh; exact hh.1
      subst h0;have hnn : news = [] := zLh.1 (by rw [hy.1]; simp);subst hnn
      cases hx with
      | @xsl _ ao k h =>
       obtain ⟨ao', cap, he, hc, hLe⟩ := h.sl_len
       cases he
       exact ⟨_, w, ι, R, run_append_nothing w t tx ty e i ht hi ao es.length es.length (zKV _) uy hs, hr, .xsl h⟩
    · cases hp
  split at hp
  · rename_i hne' hh;obtain ⟨hsz, hL, hu1, hu2⟩ := hh;have hne : (es.isEmpty || !ys.isEmpty) = true := by
     cases h1 : es.isEmpty <;> cases h2 : ys.isEmpty <;> simp_all
    cases hp
    have hz' := zc9 hsz
    cases hx with
    | @xsl _ ao k h =>
     obtain ⟨ao', cap, he, hc, hLe⟩ := h.sl_len
     cases he
     by_cases h0 : ys = []
     · subst h0;have hnn : news = [] := zLh.1 (by rw [hy.1]; simp);subst hnn;refine ⟨_, w, clr ι dst, R, run_append_nothing w t tx ty e i ht hi ao es.length es.length (zKV _) uy hs, hr.newNone ⟨hu1, hu2⟩, ?_⟩;rw [zLt];have h1 : es = [] := by simpa using hne
       subst h1; exact .acc0
     · have hlt : es.length < es.length + ys.length := by have := zLP.2 h0; omega
       rw [zKO] at hL;obtain ⟨f1, f2⟩ := fits hL hlt;obtain ⟨olds, ho1, ho2⟩ := zHG h hn (fun e he => hz' e (zLE _ he));have hrun := run_append_grow_src (ty := ty) w t tx e i z ht hi hz ao es.length es.length olds ho2 uy ys.length news hs hlt f1 f2;have hall := (ho1.append hy hz').drew;have hg := zrl (w := w) (es.length + ys.length) es.length e;have := hr.drew.newAcc (o := dst) (n := i.size) (cap := grownCap w (es.length + ys.length) es.length e) (zs := Builtin.zeroCells z.cells (grownCap w (es.length + ys.length) es.length e - (es.length + ys.length))) e ⟨hu1, hu2⟩ hn hall hz'
        (by rw [zKO]; omega) (by rw [zKO]; exact hL) (by rw [zKO]; exact hg) (by
         rw [zMA, zs2, hzn, zMB, hall.1, <- zLm, zKO];exact zK6 _ (by omega))
       rw [zKO] at this;exact ⟨_, _, _, _, hrun, this.1, this.2⟩
  · cases hp
 | acc o es =>
  simp only [zah] at hp
  split at hp
  · rename_i m hlk
    split at hp
    · rename_i hh;obtain ⟨hm, hsz, hL⟩ := hh
      cases hp
      have hz' := zc9 hsz;have hmk : mark S.heap o = some m := by simp [mark, hlk]
      rw [zKO] at hL;have noth : ∀ (ao : Option Addr) (cap : Nat), ys = [] -> ux = .slice ao es.length cap -> es.length <= cap -> VA w R ι (mark S.heap) (.acc o es) (.slice ao es.length cap) ->
          ∃ u w' ι' R', (Builtin.append_ #[t, tx] ty #[ux, uy]).run P w = .ok u w' /\ Rel C ⟨S.env, zj o (.acc (m + ys.length)) S.heap⟩ a w' ι' R' /\ VA w' R' ι' (mark (zj o (.acc (m + ys.length)) S.heap)) (.acc o (es ++ ys)) u := by
       rintro ao cap rfl rfl hc hva;have hnn : news = [] := zLh.1 (by rw [hy.1]; simp);subst hnn;refine ⟨_, w, ι, R, run_append_nothing w t tx ty e i ht hi ao es.length cap hc uy hs, hr.sameAcc hlk, ?_⟩;rw [zLt];have hmkf : mark (zj o (.acc (m + ([] : List D).length)) S.heap) = mark S.heap := funext fun p => by
        by_cases e : p = o
        · subst e; rw [zaN]; simp [mark, hlk]
        · exact zaO e
       rw [hmkf]; exact hva
      have grow : ∀ (ao : Option Addr) (cap : Nat) (olds : List Value), ys ≠ [] -> ux = .slice ao es.length cap -> cap < es.length + ys.length -> zE w R i.size es olds ->
          (Builtin.firstCells i.size es.length (.slice ao es.length cap)).run P w.drew = .ok olds.toArray w.drew ->
          ∃ u w' ι' R', (Builtin.append_ #[t, tx] ty #[ux, uy]).run P w = .ok u w' /\ Rel C ⟨S.env, zj o (.acc (m + ys.length)) S.heap⟩ a w' ι' R' /\ VA w' R' ι' (mark (zj o (.acc (m + ys.length)) S.heap)) (.acc o (es ++ ys)) u := by
       rintro ao cap olds h0 rfl hc ho1 ho2;obtain ⟨f1, f2⟩ := fits hL hc;have hrun := run_append_grow_src (ty := ty) w t tx e i z ht hi hz ao es.length cap olds ho2 uy ys.length news hs hc f1 f2;have hall := (ho1.append hy hz').drew;have hg := zrl (w := w) (es.length + ys.length) cap e;have hpos := zLP.2 h0;have := hr.drew.regrow (o := o) (m := m) (n := i.size) (cap := grownCap w (es.length + ys.length) cap e) (zs := Builtin.zeroCells z.cells (grownCap w (es.length + ys.length) cap e - (es.length + ys.length))) e hlk (by rw [zKO]; omega) hn hall hz'
        (by rw [zKO]; exact hL) (by rw [zKO]; exact hg) (by
         rw [zMA, zs2, hzn, zMB, hall.1, <- zLm, zKO];exact zK6 _ (by omega))
       rw [zKO, hm] at this;rw [hm] at hrun;rw [hm];exact ⟨_, _, _, _, hrun, this.1, this.2⟩
      by_cases h0 : ys = []
      · cases hx with
        | accR hR hs' hL' hl hsz' hh hm' => exact noth _ _ h0 rfl hl (.accR hR hs' hL' hl hsz' hh hm')
        | accC a1 a2 a3 a4 a5 a6 a7 a8 a9 => exact noth _ _ h0 rfl a5 (.accC a1 a2 a3 a4 a5 a6 a7 a8 a9)
        | acc0 => exact noth _ 0 h0 rfl (by simp) .acc0
      · have hpos := zLP.2 h0
        cases hx with
        | @accR _ b off s cap _ hR hs' hL' hl hsz' hh hm' => have := hm' m hmk; omega
        | @accC _ b s m1 cap _ c T hι hmk' hm1 hL' hl hsz' hb hc hh =>
         rw [hmk] at hmk'; cases hmk';have hob := hr.heap _ _ (zu hlk);have hns : s = i.size \/ es = [] := by
          by_cases he : es = []
          · exact .inr he
          · obtain ⟨e0, he0⟩ := zL2 _ he;left; rw [<- hsz' e0 he0]; exact hz' e0 (zLE _ he0)
         cases hob with
         | accN hι' => rw [hι] at hι'; cases hι'
         | acc hpos' hι' hRb hb' hsp hc' =>
          rw [hι] at hι'; cases hι';rw [hb] at hb'; cases hb';have hns : s = i.size := hns.resolve_right (by rintro rfl; simp at hm; omega);subst hns
          by_cases hroom : es.length + ys.length <= cap
          · have hlen : ∀ j, j < news.length -> 0 + es.length * i.size + j < c.size := fun j hj => by
             rw [hy.1] at hj;have : (es.length + ys.length) * i.size <= cap * i.size := zK6 _ hroom;rw [zLm] at this; omega
            have hrun := run_append_room_src (ty := ty) w t tx e i ht hi b 0 es.length cap uy ys.length news hs hroom (fun j hj => by rw [zK hb]; have := hlen j hj; simp; omega) (fun j _ => frozen_of_row w b _ c T hb);have := hr.inplace (o := o) (m := m) (cap := cap) hlk hm hι hb hn hy hz' (by rw [zKO]; exact hL) (by omega) hc hRb hh;rw [hm] at hrun;rw [hm];exact ⟨_, _, _, _, hrun, this.1, this.2⟩
          · obtain ⟨olds, ho1, _, ho2⟩ := zHF (cap := cap) hh hn (fun e he => hz' e (zLE _ he));exact grow _ cap olds h0 rfl (by omega) ho1 ho2
        | acc0 =>
         refine grow _ 0 [] h0 rfl (by omega) ⟨by simp, fun i e hi => by simp at hi⟩ ?_;rename_i ao
         cases ao with
         | none => exact run_firstCells_none w.drew _ 0 0 0
         | some b => exact run_firstCells_some w.drew _ 0 b 0 0 [] (by simp) (by simp)
    · cases hp
  · cases hp
 | _ => simp [zah] at hp
end Go.Sim

namespace Go.Sim
open Go (World Value Addr TypeId Act)
variable {P : Program} {C : Ctx} {S : St} {a : Act} {w : World} {ι : Inj} {R : Nat -> Prop}
def zaK (w : World) (R : Nat -> Prop) (ι : Inj) (mk : Nat -> Option Nat) (zs : List AV) (c : Array Value) : Prop :=
 c.size = zs.length /\ ∀ (i : Nat) (z : AV), zs[i]? = some z -> z.cell = true /\ ∃ q, c[i]? = some q /\ VA w R ι mk z q
theorem zrT (vs : List (Value × Nat)) (off : Nat) (c : Array Value) : (vs.foldl (fun cs p => cs.setIfInBounds (off + p.2) p.1) c).size = c.size := by
 induction vs generalizing c with
 | nil => rfl
 | cons p l ih => rw [List.foldl_cons, ih]; simp
theorem zBW (vs : List Value) (k off : Nat) (c : Array Value) (h : off + k + vs.length <= c.size) (j : Nat) :
    ((vs.zipIdx k).foldl (fun cs p => cs.setIfInBounds (off + p.2) p.1) c)[j]? = if off + k <= j /\ j < off + k + vs.length then vs[j - (off + k)]? else c[j]? := by
 induction vs generalizing k c with
 | nil => rw [zKM (by simp only [zK2]; omega)]; rfl
 | cons v vs ih =>
  rw [List.zipIdx_cons, List.foldl_cons, ih (k + 1) _ (by simp at h ⊢; omega)];simp only [zK0] at h ⊢
  by_cases hj : j = off + k
  · subst hj;rw [zKM (by omega), zKN (by omega), zMT (by omega), zLM];rfl
  · rw [zMU (Ne.symm hj)]
    by_cases hh : off + (k + 1) <= j /\ j < off + (k + 1) + vs.length
    · rw [zKN hh, zKN (by omega)];have : j - (off + k) = (j - (off + (k + 1))) + 1 := by omega
      rw [this, zMf]
    · rw [zKM hh, zKM (by omega)]
theorem zrS (u : Value) (off : Nat) (c : Array Value) (h : off + u.cells.size <= c.size) (j : Nat) :
    (u.cells.zipIdx.foldl (fun cs (x, j) => cs.setIfInBounds (off + j) x) c)[j]? = if off <= j /\ j < off + u.cells.size then u.cells[j - off]? else c[j]? := by
 have e : u.cells.zipIdx.foldl (fun cs (x, j) => cs.setIfInBounds (off + j) x) c = (u.cells.toList.zipIdx 0).foldl (fun cs p => cs.setIfInBounds (off + p.2) p.1) c := by
  rw [<- zMV]; simp
 rw [e, zBW _ _ _ _ (by simpa using h)];simp
theorem zaK.lay {mk : Nat -> Option Nat} {zs : List AV} {c : Array Value} (h : zaK w R ι mk zs c) {v : AV} {u : Value} (hv : VA w R ι mk v u) (ht : zae v = false) {off : Nat} (ho : off + v.size <= zs.length) :
    zaK w R ι mk (zbq zs off v.cells) (u.cells.zipIdx.foldl (fun cs (x, j) => cs.setIfInBounds (off + j) x) c) := by
 obtain ⟨h1, h2⟩ := hv.cells ht;have hlen : off + v.cells.length <= zs.length := by rw [AV.size_cells]; exact ho
 refine ⟨?_, fun i z hi => ?_⟩
 · rw [zsP _ _ _ hlen, <- h.1];have e : u.cells.zipIdx.foldl (fun cs (x, j) => cs.setIfInBounds (off + j) x) c = (u.cells.toList.zipIdx 0).foldl (fun cs p => cs.setIfInBounds (off + p.2) p.1) c := by
    rw [<- zMV]; simp
   rw [e, zrT]
 · rw [zsO _ _ _ _ hlen] at hi;rw [zrS u off c (by rw [h1, h.1]; exact ho), h1, <- AV.size_cells]
   split at hi
   · rename_i hh; rw [zKN hh]; exact h2 _ _ hi
   · rename_i hh; rw [zKM hh]; exact h.2 _ _ hi
theorem zzc {mk : Nat -> Option Nat} {place : Nat -> Option (Nat × Nat)} : ∀ {ps : List (Nat × Value)} {qs : List (Nat × Nat × AV)} {zs cs : List AV} {c : Array Value}, zaK w R ι mk zs c -> qs.length = ps.length ->
    (∀ (k i : Nat) (u : Value) (off n : Nat) (v : AV), ps[k]? = some (i, u) -> qs[k]? = some (off, n, v) -> place i = some (off, n) /\ VA w R ι mk v u) -> zbh zs qs = some cs ->
    ∃ c', Instr.fill place c ps = some c' /\ zaK w R ι mk cs c' := by
 intro ps
 induction ps with
 | nil =>
  intro qs zs cs c h hl _ hf;have : qs = [] := zLh.1 hl;subst this;simp only [zbh, Option.some.injEq] at hf; subst hf;exact ⟨c, rfl, h⟩
 | cons p ps ih =>
  intro qs zs cs c h hl hp hf;obtain ⟨i, u⟩ := p
  cases qs with
  | nil => simp at hl
  | cons q qs =>
   obtain ⟨off, n, v⟩ := q;simp only [zbh] at hf
   split at hf
   · rename_i hh;obtain ⟨h1, h2⟩ := hp 0 i u off n v rfl rfl;have hsz := (h2.cells hh.2.2).1;have hlay := h.lay h2 hh.2.2 (off := off) (by omega);obtain ⟨c', h3, h4⟩ := ih hlay (by simpa using hl) (fun k i u off n v k1 k2 => hp (k + 1) i u off n v (by simpa using k1) (by simpa using k2)) hf;refine ⟨c', ?_, h4⟩;have e1 : ¬ (u.cells.size ≠ n) := by omega
     have e2 : ¬ (c.size < off + u.cells.size) := by rw [h.1]; omega
     simp only [Instr.fill, h1];rw [zKM (by simp; omega)];exact h3
   · cases hf
theorem zeV {t : TypeId} {z : AV} (h : zan P t = some z) (hz : zae z = false) (w : World) (R : Nat -> Prop) (ι : Inj) (mk : Nat -> Option Nat) :
    ∃ zv, (zeroValue t).run P w = .ok zv w /\ VA w R ι mk z zv /\ zaK w R ι mk z.cells zv.cells := by
 unfold zan at h;obtain ⟨zv, h1, h2⟩ := zKK.1 h;obtain ⟨i, h3, h4⟩ := zKK.1 h1;have hv := zfl h2 w R ι mk;obtain ⟨k1, k2⟩ := hv.cells hz;exact ⟨zv, by simp [zeroValue, typeInfo, h3, h4], hv, by rw [AV.size_cells]; exact k1, k2⟩
theorem zx0 {v : Value} {x : AV} (h : zbw v = some x) : zae x = false := by
 unfold zbw at h
 split at h
 · obtain ⟨ds, h1, h2⟩ := zKL.1 h;subst h2;unfold AV.mkAgg
   split <;> rfl
 · unfold zcb at h
   split at h
   · split at h
     · cases h; rfl
     · cases h
   · cases h; rfl
   · split at h
     · cases h; rfl
     · cases h
   · cases h; rfl
   · split at h
     · cases h; rfl
     · cases h
theorem zc3 {t : TypeId} {z : AV} (h : zan P t = some z) : zae z = false := by
 unfold zan at h;obtain ⟨zv, h1, h2⟩ := zKK.1 h;exact zx0 h2
theorem zCo {α β : Type} {f : α -> Sem β} {g : α -> Option β} (w : World) (l : Array α) (h : ∀ x ∈ l, ∀ y, g x = some y -> (f x).run P w = .ok y w) : ∀ {m : List β}, l.toList.mapM g = some m -> (l.mapM f).run P w = .ok m.toArray w := by
 have go : ∀ (l : List α), (∀ x ∈ l, ∀ y, g x = some y -> (f x).run P w = .ok y w) -> ∀ {m : List β}, l.mapM g = some m -> (l.mapM f).run P w = .ok m w := by
  intro l
  induction l with
  | nil => intro _ m hm; simp at hm; subst hm; simp
  | cons x l ih =>
   intro h m hm;simp only [zLN, zK7, zLg] at hm;obtain ⟨y, hy, hm⟩ := zKK.1 hm;obtain ⟨ys, hys, hm⟩ := zKK.1 hm
   cases hm
   simp [zLN, h x (by simp) y hy, ih (fun x hx => h x (by simp [hx])) hys]
 intro m hm;rw [zM0];simp [go l.toList (fun x hx => h x (by simpa using hx)) hm]
theorem zhQ {mk : Nat -> Option Nat} {cs : List AV} {c : Array Value} (h : zaK w R ι mk cs c) : VA w R ι mk (AV.mkAgg cs) (.agg c) := by
 have := VA.mkAgg (w := w) (R := R) (ι := ι) (mk := mk) (cs := cs) (vs := c.toList) (by simpa using h.1) (fun x hx => by
  obtain ⟨i, hi⟩ := zLl hx;exact (h.2 i x hi).1) (fun i x u h1 h2 => by
  obtain ⟨_, q, k1, k2⟩ := h.2 i x h1;rw [zMW, k1] at h2; cases h2; exact k2)
 simpa using this
theorem ztB {t : TypeId} {op : AOp} {ps : Array (Nat × Operand)} {v : AV} {H' : za} {dst : Nat} (hr : Rel C S a w ι R) (hc : zn P (.build t ps) = some op) (hs : ze S.env S.heap dst op = some (v, H')) :
    H' = S.heap /\ ∃ u, (Instr.build t (ps.map fun (i, x) => (i, a.eval x))).run P w = .ok u w /\ VA w R ι (mark S.heap) v u := by
 simp only [zn] at hc;have parts : ∀ (place : Nat -> Option (Nat × Nat)) (f : Nat × Operand -> Option (Nat × Nat × Opd)) (qs : List (Nat × Nat × Opd)) (z : List AV) (cs : List AV) (c : Array Value),
     ps.toList.mapM f = some qs -> (∀ p q, f p = some q -> place p.1 = some (q.1, q.2.1) /\ opd p.2 = some q.2.2) -> zaK w R ι (mark S.heap) z c -> zbh z (qs.map fun p => (p.1, p.2.1, p.2.2.ev S.env)) = some cs ->
     ∃ c', Instr.fill place c (ps.map fun (i, x) => (i, a.eval x)).toList = some c' /\ zaK w R ι (mark S.heap) cs c' := by
  intro place f qs z cs c hm hf hz hfi;obtain ⟨hl, hg⟩ := zbc hm;refine zzc hz (by simp [hl]) (fun k i u off n v h1 h2 => ?_) hfi;rw [zMn, zKQ] at h1;rw [zKQ] at h2;obtain ⟨p, hp, h1⟩ := zKL.1 h1;obtain ⟨q, hq, h2⟩ := zKL.1 h2;obtain ⟨k1, k2⟩ := hf p q (hg k p q hp hq)
  cases h1; cases h2
  exact ⟨k1, hr.ev k2⟩
 split at hc
 · rename_i fs hu;simp only [zK7] at hc;obtain ⟨z, hz, hc⟩ := zKK.1 hc;obtain ⟨szs, hsz, hc⟩ := zKK.1 hc;obtain ⟨qs, hqs, hc⟩ := zKK.1 hc
   cases hc
   simp only [ze] at hs;obtain ⟨cs, hcs, hs⟩ := zKL.1 hs
   cases hs
   refine ⟨rfl, ?_⟩;obtain ⟨zv, hz1, _, hz2⟩ := zeV hz (zc3 hz) w R ι (mark S.heap);have hpl : (fs.mapM fun f => (do pure (f.offset, <- sizeOf f.type) : Sem (Nat × Nat))).run P w = .ok ((fs.toList.zip szs).map fun (f, s) => (f.offset, s)).toArray w := by
    refine zCo w fs (g := fun f => (zA P f.type).map fun s => (f.offset, s)) (fun f _ y hy => ?_) ?_
    · obtain ⟨s, h1, h2⟩ := zKL.1 hy;subst h2; simp [za1 h1]
    · have : ∀ (l : List Field) (m : List Nat), l.mapM (fun f => zA P f.type) = some m -> l.mapM (fun f => (zA P f.type).map fun s => (f.offset, s)) = some ((l.zip m).map fun (f, s) => (f.offset, s)) := by
       intro l
       induction l with
       | nil => intro m hm; simp at hm; subst hm; simp
       | cons f l ih =>
        intro m hm;simp only [zLN, zK7, zLg] at hm;obtain ⟨y, hy, hm⟩ := zKK.1 hm;obtain ⟨ys, hys, hm⟩ := zKK.1 hm
        cases hm
        simp [zLN, hy, ih ys hys]
      exact this _ _ hsz
   obtain ⟨c', h1, h2⟩ := parts (((fs.toList.zip szs).map fun (f, s) => (f.offset, s)).toArray[·]?) _ qs z.cells cs zv.cells hqs (fun p q hf => by
    obtain ⟨fd, h1, hf⟩ := zKK.1 hf;obtain ⟨n, h2, hf⟩ := zKK.1 hf;obtain ⟨x, h3, hf⟩ := zKK.1 hf
    cases hf
    refine ⟨?_, h3⟩;obtain ⟨hl, hg⟩ := zbc hsz;have hlt : p.1 < fs.toList.length := by simpa using (zLj.1 h1).1
    have hs : szs[p.1]? = some n := by
     have hx : szs[p.1]? = some (szs[p.1]'(by omega)) := zKR _;have := hg p.1 fd _ (by simpa using h1) hx;rw [h2] at this; rw [hx, Option.some.inj this]
    have hf' : fs.toList[p.1]? = some fd := by simpa using h1
    have hzip : (fs.toList.zip szs)[p.1]? = some (fd, n) := List.getElem?_zip_eq_some.2 ⟨hf', hs⟩;show ((fs.toList.zip szs).map fun (f, s) => (f.offset, s)).toArray[p.1]? = some (fd.offset, n);rw [zMl, zKQ, hzip]; rfl) hz2 hcs
   refine ⟨.agg c', ?_, zhQ h2⟩;simp only [Instr.build, Sem.run_bind, hz1, Result.andThen_ok, run_underlying hu, hpl, h1, Sem.run_pure]
 · rename_i len e hu;simp only [zK7] at hc;obtain ⟨z, hz, hc⟩ := zKK.1 hc;obtain ⟨n, hn, hc⟩ := zKK.1 hc;obtain ⟨qs, hqs, hc⟩ := zKK.1 hc
   cases hc
   simp only [ze] at hs;obtain ⟨cs, hcs, hs⟩ := zKL.1 hs
   cases hs
   refine ⟨rfl, ?_⟩;obtain ⟨zv, hz1, _, hz2⟩ := zeV hz (zc3 hz) w R ι (mark S.heap);obtain ⟨c', h1, h2⟩ := parts (fun i => some (i * n, n)) _ qs z.cells cs zv.cells hqs (fun p q hf => by
    obtain ⟨x, h3, hf⟩ := zKK.1 hf
    cases hf
    exact ⟨rfl, h3⟩) hz2 hcs
   refine ⟨.agg c', ?_, zhQ h2⟩;simp only [Instr.build, Sem.run_bind, hz1, Result.andThen_ok, run_underlying hu, za1 hn, h1, Sem.run_pure]
 · cases hc
def zbL (w : World) (R : Nat -> Prop) (ι : Inj) (mk : Nat -> Option Nat) (n : Nat) (es : List AV) (c : Array Value) : Prop :=
 c.size = es.length * n /\ ∀ (i : Nat) (e : AV), es[i]? = some e -> ∀ (j : Nat) (x : AV), e.cells[j]? = some x -> x.cell = true /\ ∃ q, c[i * n + j]? = some q /\ VA w R ι mk x q
theorem zs4 {mk : Nat -> Option Nat} {z : AV} {zc : Array Value} {n : Nat} (hz : zaK w R ι mk z.cells zc) (hn : z.size = n) (h0 : 0 < n) (k : Nat) :
    zbL w R ι mk n (List.replicate k z) ((Array.range (k * n)).map (zc[· % zc.size]!)) := by
 have hzs : zc.size = n := by rw [hz.1, AV.size_cells, hn]
 refine ⟨by simp, fun i e hi j x hj => ?_⟩;have hik : i < k := by have := (zKP.1 hi).1; simpa using this
 rw [List.getElem?_replicate, zKN hik] at hi
 cases hi
 obtain ⟨k1, q, k2, k3⟩ := hz.2 j x hj;have hjn : j < n := by rw [<- hzs]; exact (zLj.1 k2).1
 refine ⟨k1, q, ?_, k3⟩;have hlt : i * n + j < k * n := by
  have : (i + 1) * n <= k * n := zK6 _ hik;rw [zLp] at this; omega
 rw [Array.getElem?_map, Array.getElem?_range, zKN hlt];simp only [zLn, Option.some.injEq];rw [hzs, zL4 i n, Nat.mul_add_mod, Nat.mod_eq_of_lt hjn];simp [getElem!_def, k2]
theorem zbL.lay {mk : Nat -> Option Nat} {n : Nat} {es : List AV} {c : Array Value} (h : zbL w R ι mk n es c) (hsz : ∀ e ∈ es, e.size = n) {v : AV} {u : Value} (hv : VA w R ι mk v u) (ht : zae v = false) (hvn : v.size = n) {i : Nat} (hi : i < es.length) :
    zbL w R ι mk n (es.set i v) (u.cells.zipIdx.foldl (fun cs (x, j) => cs.setIfInBounds (i * n + j) x) c) := by
 obtain ⟨h1, h2⟩ := hv.cells ht;have hb : i * n + u.cells.size <= c.size := by
  have : (i + 1) * n <= es.length * n := zK6 _ hi;rw [zLp] at this; rw [h.1]; omega
 have hjb : ∀ {e : AV} {j : Nat} {x : AV}, e.size = n -> e.cells[j]? = some x -> j < n := fun {e j x} he hj => by
  have := (zKP.1 hj).1; rw [AV.size_cells, he] at this; exact this
 refine ⟨?_, fun k e hk j x hj => ?_⟩
 · have e : u.cells.zipIdx.foldl (fun cs (x, j) => cs.setIfInBounds (i * n + j) x) c = (u.cells.toList.zipIdx 0).foldl (fun cs p => cs.setIfInBounds (i * n + p.2) p.1) c := by
    rw [<- zMV]; simp
   rw [e, zrT, h.1, zMX]
 · rw [zrS u _ c hb];rw [zMQ] at hk
   by_cases hik : i = k
   · subst hik;rw [zKN rfl, zKN hi] at hk
     cases hk
     have := hjb hvn hj;rw [zKN ⟨by omega, by omega⟩, show i * n + j - i * n = j by omega];exact h2 j x hj
   · rw [zKM hik] at hk;have hjn := hjb (hsz e (zKU hk)) hj;rw [zKM]
     · exact h.2 k e hk j x hj
     · rintro ⟨g1, g2⟩
       rcases Nat.lt_or_gt_of_ne hik with hlt | hgt
       · have : (i + 1) * n <= k * n := zK6 _ hlt;rw [zLp] at this; omega
       · have : (k + 1) * n <= i * n := zK6 _ hgt;rw [zLp] at this; omega
theorem zJT {mk : Nat -> Option Nat} {v : AV} {u : Value} (h : VA w R ι mk v u) : VA w R ι mk (unX v) u := by
 have one : ∀ {v : AV} {u : Value}, VA w R ι mk v u -> VA w R ι mk (zc2 v) u := fun {v u} h => by
  cases v with
  | xsl es => cases h with | xsl h => exact .d h
  | _ => exact h
 cases v with
 | xsl es => cases h with | xsl h => exact .d h
 | agg cs =>
  cases h with
  | agg hl hc hh =>
   simp only [unX, zeU];refine VA.mkAgg (by simpa using hl) (fun c hm => ?_) fun i c q h1 h2 => ?_
   · obtain ⟨y, hy, rfl⟩ := zKX.1 hm;have := hc y hy
     cases y <;> simp_all [zc2, AV.cell, D.cell]
   · rw [zKQ] at h1;obtain ⟨y, hy, rfl⟩ := zKL.1 h1;exact one (hh i y q hy h2)
 | _ => exact h
theorem zzb {mk : Nat -> Option Nat} {n : Nat} : ∀ {ps : List (Nat × Value)} {qs : List (Nat × AV)} {es cs : List AV} {c : Array Value}, zbL w R ι mk n es c -> (∀ e ∈ es, e.size = n) -> qs.length = ps.length ->
    (∀ (k i : Nat) (u : Value) (i' : Nat) (v : AV), ps[k]? = some (i, u) -> qs[k]? = some (i', v) -> i = i' /\ VA w R ι mk v u) -> (∀ q ∈ qs, q.2.size = n) -> zaU es qs = some cs ->
    ∃ c', Instr.fill (fun i => some (i * n, n)) c ps = some c' /\ zbL w R ι mk n cs c' /\ (∀ e ∈ cs, e.size = n) /\ cs.length = es.length := by
 intro ps
 induction ps with
 | nil =>
  intro qs es cs c h hsz hl _ _ hf;have : qs = [] := zLh.1 hl;subst this;simp only [zaU, Option.some.injEq] at hf; subst hf;exact ⟨c, rfl, h, hsz, rfl⟩
 | cons p ps ih =>
  intro qs es cs c h hsz hl hp hqn hf;obtain ⟨i, u⟩ := p
  cases qs with
  | nil => simp at hl
  | cons q qs =>
   obtain ⟨i', v⟩ := q;simp only [zaU] at hf
   split at hf
   · rename_i hh;obtain ⟨rfl, h2⟩ := hp 0 i u i' v rfl rfl;have hvn : v.size = n := hqn (i, v) (.head _);have hsz1 := (h2.cells hh.2).1;have hlay := h.lay hsz (zJT h2) (zJS hh.2) ((zsY v).trans hvn) hh.1;obtain ⟨c', h3, h4, h5, h6⟩ := ih hlay (fun e he => by
      rcases zL9 he with he | rfl
      · exact hsz e he
      · exact (zsY v).trans hvn) (by simpa using hl) (fun k i u i' v k1 k2 => hp (k + 1) i u i' v (by simpa using k1) (by simpa using k2)) (fun q hq => hqn q (.tail _ hq)) hf
     refine ⟨c', ?_, h4, h5, by rw [h6, zMX]⟩;have hb : i * n + u.cells.size <= c.size := by
      have : (i + 1) * n <= es.length * n := zK6 _ hh.1;rw [zLp] at this; rw [h.1]; omega
     simp only [Instr.fill];rw [zKM (by simp; omega)];exact h3
   · cases hf
theorem zbL.data {mk : Nat -> Option Nat} {n : Nat} {ds : List D} {c : Array Value} (h : zbL w R ι mk n (ds.map .d) c) (i : Nat) (e : D) (hi : ds[i]? = some e) (j : Nat) (x : D) (hj : e.cells[j]? = some x) :
    x.cell = true /\ ∃ q, c[i * n + j]? = some q /\ Rd w R (.v x q) := by
 obtain ⟨k1, q, k2, k3⟩ := h.2 i (.d e) (by simp [hi]) j (.d x) (by simp [AV.cells, hj]);exact ⟨k1, q, k2, k3.of_d⟩
theorem Rel.newData (h : Rel C S a w ι R) {n : Nat} {ds : List D} {c : Array Value} (T : TypeId) (hrow : zbL w R ι (mark S.heap) n (ds.map .d) c) (hn : 0 < n) (hsz : ∀ e ∈ ds, e.size = n) (hL : ds.length <= LIM) :
    Rel C S a (w.alloc (.cells c T)) ι (fun b => R b \/ b = w.heap.size) /\
    VA (w.alloc (.cells c T)) (fun b => R b \/ b = w.heap.size) ι (mark S.heap) (.xsl ds) (.slice (some ⟨w.heap.size, 0, none⟩) ds.length ds.length) := by
 refine ⟨h.newRO _, .xsl ?_⟩;have hb := heap_alloc_new w (.cells c T)
 by_cases h0 : ds = []
 · subst h0; exact .sl0
 · refine .sl (.inr rfl) h0 hn hL (zKV _) hsz fun i e hi => Rd.el_of_cells (fun vs hvs => ?_) fun j x hj => ?_
   · subst hvs;have := (hrow.data i _ hi 0 (.tup vs) rfl).1;simp [D.cell] at this
   · obtain ⟨k1, q, k2, k3⟩ := hrow.data i e hi j x hj;refine ⟨k1, q, ?_, k3.mono_v (fun _ h => .inl h) (zU.alloc h _)⟩;rw [zK hb, zKT]; exact k2
theorem Rel.newOwn (h : Rel C S a w ι R) {n o : Nat} {es : List AV} {c : Array Value} (T : TypeId) (hu : zb6 o S) (hrow : zbL w R ι (mark S.heap) n es c) (hn : 0 < n) (hsz : ∀ e ∈ es, e.size = n) (hL : es.length <= LIM) (hr : ∀ e ∈ es, e.refs o = false) :
    Rel C ⟨S.env, zj o (.row es) S.heap⟩ a (w.alloc (.cells c T)) (upd ι o (w.heap.size, n)) R /\
    VA (w.alloc (.cells c T)) R (upd ι o (w.heap.size, n)) (mark (zj o (.row es) S.heap)) (.osl o 0 es.length) (.slice (some ⟨w.heap.size, 0, none⟩) es.length es.length) := by
 refine ⟨h.newRow T hu hn hsz (by rw [hrow.1]; exact zKV _) hr hrow.2, ?_⟩;have := VA.osl (w := w.alloc (.cells c T)) (R := R) (ι := upd ι o (w.heap.size, n)) (mk := mark (zj o (.row es) S.heap)) (o := o) (off := 0) (len := es.length) (cap := es.length) zav (by rw [zaN]) (heap_alloc_new w _) (zKV _) (by rw [hrow.1]; simp) hL;simpa using this
end Go.Sim
