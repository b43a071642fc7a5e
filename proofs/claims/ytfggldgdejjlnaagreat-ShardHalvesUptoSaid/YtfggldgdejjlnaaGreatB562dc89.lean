/-
  Composite values.
-/
import Derived.Test.YtfggldgdejjlnaaGreatB10fb131
set_option linter.unusedSimpArgs false
set_option linter.unusedVariables false
set_option maxHeartbeats 10000000
set_option maxRecDepth 100000
namespace Go.Sim
open Go (World Value Addr TypeId Act)
variable {P : Program} {C : Ctx} {S : St} {a : Act} {w : World} {ι : Inj} {R : Nat -> Prop}
theorem zag.append {n : Nat} {es ys : List D} {olds news : List Value} (h1 : zag w R n es olds) (h2 : zag w R n ys news) (hz : ∀ e ∈ es ++ ys, e.size = n) : zag w R n (es ++ ys) (olds ++ news) := by
 refine ⟨by simp [h1.1, h2.1, zRv], fun i e hi j c hc => ?_⟩;have hj : j < n := by
  have := hz e (zQ9 hi);have h3 := (zQ6.1 hc).1;unfold D.size at this; omega
 by_cases hlt : i < es.length
 · rw [zRE hlt] at hi;obtain ⟨k1, q, k2, k3⟩ := h1.2 i e hi j c hc;exact ⟨k1, q, by rw [zRE (zQ6.1 k2).1]; exact k2, k3⟩
 · rw [zRJ (by omega)] at hi;obtain ⟨k1, q, k2, k3⟩ := h2.2 _ e hi j c hc;refine ⟨k1, q, ?_, k3⟩;have : (i - es.length) * n + es.length * n = i * n := by rw [<- zRv]; congr 1; omega
   rw [zRJ (by rw [h1.1]; omega), h1.1, <- k2]
   congr 1; omega
theorem zag.el {w' : World} {R' : Nat -> Prop} {n b off : Nat} {es : List D} {cs : List Value} (h : zag w R n es cs) (hz : ∀ e ∈ es, e.size = n) (hn : 0 < n) (hR : ∀ b, R b -> R' b) (hw : zaD R w w')
    (hr : ∀ j v, cs[j]? = some v -> w'.cell? ⟨b, off + j, none⟩ = some v) (i : Nat) (e : D) (hi : es[i]? = some e) : Rd w' R' (.el e b (off + i * n)) := by
 refine Rd.el_of_cells (fun vs hvs => ?_) fun j c hc => ?_
 · subst hvs;have h1 := (h.2 i _ hi 0 (.tup vs) rfl).1;simp [D.cell] at h1
 · obtain ⟨k1, q, k2, k3⟩ := h.2 i e hi j c hc;refine ⟨k1, q, ?_, k3.mono_v hR hw⟩;rw [zSR]; exact hr _ _ k2
theorem zL4 {n : Nat} {es : List D} {ao : Option Addr} {cap : Nat} (h : Rd w R (.v (.sl es) (.slice ao es.length cap))) (hn : 0 < n) (hz : ∀ e ∈ es, e.size = n) :
    ∃ olds, zag w R n es olds /\ (Builtin.firstCells n es.length (.slice ao es.length cap)).run P w.drew = .ok olds.toArray w.drew := by
 by_cases h0 : es = []
 · subst h0;refine ⟨[], ⟨by simp, fun i e hi => by simp at hi⟩, ?_⟩
   cases ao with
   | none => exact run_firstCells_none w.drew n 0 0 cap
   | some b => exact run_firstCells_some w.drew n 0 b 0 cap [] (by simp) (by simp)
 · obtain ⟨b, off, s, cap', he, hR, hs, hl, hc, hsz, hel⟩ := h.sl_inv h0
   cases he
   obtain ⟨e0, he0⟩ : ∃ e, e ∈ es := zSI _ h0;have hns : s = n := by rw [<- hsz e0 he0]; exact hz e0 he0
   subst hns;obtain ⟨olds, h1, h2⟩ := zji hn hz hel;exact ⟨olds, h1, run_firstCells_some w.drew s es.length _ es.length cap olds h1.1 (fun j v hj => by rw [Addr.add_mid]; exact h2 j v hj)⟩
theorem zL3 {n b : Nat} {es : List D} {cap : Nat} (h : ∀ (i : Nat) (e : D), es[i]? = some e -> Rd w R (.el e b (i * n))) (hn : 0 < n) (hz : ∀ e ∈ es, e.size = n) :
    ∃ olds, zag w R n es olds /\ w.rangeAt b 0 olds /\ (Builtin.firstCells n es.length (.slice (some ⟨b, 0, none⟩) es.length cap)).run P w.drew = .ok olds.toArray w.drew := by
 obtain ⟨olds, h1, h2⟩ := zji (w := w) (R := R) (b := b) (off := 0) hn hz (fun i e hi => by rw [zQU]; exact h i e hi);exact ⟨olds, h1, h2, run_firstCells_some w.drew n es.length _ es.length cap olds h1.1 (fun j v hj => by rw [Addr.add_mid]; exact h2 j v hj)⟩
theorem zM8 {it : It} (h : Rd w R it) : Rd w.drew R it := h.mono (fun _ h => h) (fun _ _ => rfl) (by cases it with | v => trivial | el x b off => exact fun j _ => rfl)
theorem zag.drew {n : Nat} {es : List D} {cs : List Value} (h : zag w R n es cs) : zag w.drew R n es cs :=
 ⟨h.1, fun i e hi j c hc => let ⟨k1, q, k2, k3⟩ := h.2 i e hi j c hc; ⟨k1, q, k2, zM8 k3⟩⟩
theorem Rel.newAcc (h : Rel C S a w ι R) {o n cap : Nat} {es : List D} {cs : List Value} {zs : Array Value} (T : TypeId) (hu : zeg o S) (hn : 0 < n) (hc : zag w R n es cs) (hz : ∀ e ∈ es, e.size = n)
    (h0 : 0 < es.length) (hL : es.length <= LIM) (hcap : es.length <= cap) (hsz : cap * n <= (cs.toArray ++ zs).size) :
    Rel C ⟨S.env, zr o (.acc es.length) S.heap⟩ a (w.alloc (.cells (cs.toArray ++ zs) T)) (upd ι o (w.heap.size, n)) R /\
    VA (w.alloc (.cells (cs.toArray ++ zs) T)) R (upd ι o (w.heap.size, n)) (zf (zr o (.acc es.length) S.heap)) (.acc o es) (.slice (some ⟨w.heap.size, 0, none⟩) es.length cap) := by
 have hb := heap_alloc_new w (.cells (cs.toArray ++ zs) T);refine ⟨h.new _ T hu (.acc h0 zbv (fun hR => by have := h.rlt _ hR; omega) hb hn (by
  have : es.length * n <= cap * n := zRg _ hcap;omega)), ?_⟩
 refine .accC zbv (by rw [zbV]) (zRd _) hL hcap hz hb hsz fun i e hi => ?_;have := hc.el (w' := w.alloc (.cells (cs.toArray ++ zs) T)) (R' := R) (b := w.heap.size) (off := 0) hz hn (fun _ h => h) (zaD.alloc h _) (fun j v hj => by
  rw [zan hb, zQU, zS9 (by simpa using (zQ6.1 hj).1)];simpa using hj) i e hi
 rwa [zQU] at this
theorem zDj {v : Value} {x : AV} (h : zc4 v = some x) : x.size = v.cells.size := by
 unfold zc4 at h
 split at h
 · obtain ⟨ds, h1, h2⟩ := zQQ.1 h;subst h2;rw [(zzX ds).2, (zcr h1).1]; simp [Value.cells]
 · rename_i v' hv;have h1 : v.cells.size = 1 := by
    cases v <;> first | rfl | (rename_i cs; exact absurd rfl (hv cs))
   rw [h1];have := (zln h ⟨#[], fun _ _ => 0, 0, default, #[]⟩ (fun _ => False) (fun _ => none) (fun _ => none)).2
   cases x with
   | d y => exact D.size_cell this
   | agg => simp [AV.cell] at this
   | _ => rfl
theorem zBZ (z : Array Value) (k : Nat) : (Builtin.zeroCells z k).size = k * z.size := by simp [Builtin.zeroCells]
theorem zxG (need old : Nat) (e : TypeId) : need <= grownCap w need old e := by
 exact Nat.le_add_right _ _
theorem VA.regrow {w' : World} {o m m' nb n bo so : Nat} {mk mk' : Nat -> Option Nat} {R' : Nat -> Prop} {x : AV} {u : Value} (h : VA w R ι mk x u) (hmo : mk o = some m) (hm' : mk' o = some m') (hlt : m < m') (hmk : ∀ p, p ≠ o -> mk' p = mk p)
    (hR : ∀ b, R b -> R' b) (hw : zaD R w w') (hold : ∀ b s, ι o = some (b, s) -> R' b /\ 0 < s) (hheap : ∀ p b s, ι p = some (b, s) -> w'.heap[b]? = w.heap[b]?) : VA w' R' (upd ι o (nb, n)) mk' x u := by
 have ne : ∀ {p : Nat}, mk p = none -> p ≠ o := fun {p} h e => by subst e; rw [hmo] at h; cases h
 induction h with
 | d h => exact .d (h.mono_v hR hw)
 | ref h hk => exact .ref (by rw [zav (ne hk)]; exact h) (by rw [hmk _ (ne hk)]; exact hk)
 | osl h hk hb hl hc hL => exact .osl (by rw [zav (ne hk)]; exact h) (by rw [hmk _ (ne hk)]; exact hk) (by rw [hheap _ _ _ h]; exact hb) hl hc hL
 | osl0 => exact .osl0
 | @accR p _ _ _ _ _ hr hs hL hl hsz h hm =>
  refine .accR (hR _ hr) hs hL hl hsz (fun i e hi => (h i e hi).mono hR hw fun j _ => World.cell?_of_block (hw _ hr)) fun m2 hm2 => ?_
  by_cases e : p = o
  · subst e;rw [hm'] at hm2; cases hm2;have := hm m hmo; omega
  · rw [hmk _ e] at hm2; exact hm m2 hm2
 | @accC p b s m1 cap es c T hι hk hm hL hl hsz hb hc h =>
  by_cases e : p = o
  · subst e;rw [hmo] at hk; cases hk;obtain ⟨h1, h2⟩ := hold _ _ hι;refine .accR h1 h2 hL hl hsz (fun i e hi => ?_) fun m2 hm2 => ?_
    · rw [zQU]; exact (h i e hi).mono hR hw fun j _ => World.cell?_of_block (hheap _ _ _ hι)
    · rw [hm'] at hm2; cases hm2; omega
  · exact .accC (by rw [zav e]; exact hι) (by rw [hmk _ e]; exact hk) hm hL hl hsz (by rw [hheap _ _ _ hι]; exact hb) hc
     (fun i e hi => (h i e hi).mono hR hw fun j _ => World.cell?_of_block (hheap _ _ _ hι))
 | peR hr h => exact .peR (hR _ hr) (h.mono hR hw fun j _ => World.cell?_of_block (hw _ hr))
 | @peC p b s m1 off x c T hι hk hb hoff h =>
  by_cases e : p = o
  · subst e;exact .peR (hold _ _ hι).1 (h.mono hR hw fun j _ => World.cell?_of_block (hheap _ _ _ hι))
  · exact .peC (by rw [zav e]; exact hι) (by rw [hmk _ e]; exact hk) (by rw [hheap _ _ _ hι]; exact hb) hoff (h.mono hR hw fun j _ => World.cell?_of_block (hheap _ _ _ hι))
 | acc0 => exact .acc0
 | xsl h => exact .xsl (h.mono_v hR hw)
 | agg hl hc _ ih => exact .agg hl hc ih
 | tup hl _ ih => exact .tup hl ih
 | fn hl _ ih => exact .fn hl ih
 | nl1 => exact .nl1
 | nl2 => exact .nl2
 | @mpr p b s hι hk =>
  have hne : p ≠ o := fun e => by subst e; rw [hmo] at hk; cases hk
  exact .mpr (by rw [zav hne]; exact hι) (by rw [hmk _ hne]; exact hk)
 | undef => exact .undef
theorem Rel.regrow (h : Rel C S a w ι R) {o m n cap : Nat} {es : List D} {cs : List Value} {zs : Array Value} (T : TypeId) (hlook : look o S.heap = some (.acc m)) (hlt : m < es.length) (hn : 0 < n) (hc : zag w R n es cs) (hz : ∀ e ∈ es, e.size = n)
    (hL : es.length <= LIM) (hcap : es.length <= cap) (hsz : cap * n <= (cs.toArray ++ zs).size) :
    Rel C ⟨S.env, zr o (.acc es.length) S.heap⟩ a (w.alloc (.cells (cs.toArray ++ zs) T)) (upd ι o (w.heap.size, n)) (fun b => R b \/ ∃ s, ι o = some (b, s)) /\
    VA (w.alloc (.cells (cs.toArray ++ zs) T)) (fun b => R b \/ ∃ s, ι o = some (b, s)) (upd ι o (w.heap.size, n)) (zf (zr o (.acc es.length) S.heap)) (.acc o es) (.slice (some ⟨w.heap.size, 0, none⟩) es.length cap) := by
 have hb := heap_alloc_new w (.cells (cs.toArray ++ zs) T);have hheap : ∀ p b s, ι p = some (b, s) -> (w.alloc (.cells (cs.toArray ++ zs) T)).heap[b]? = w.heap[b]? := fun p b s hp => zby (h.own p b s hp).2;have hmo' : zf (zr o (.acc es.length) S.heap) o = some es.length := by rw [zbV]
 have hmk : ∀ p, p ≠ o -> zf (zr o (.acc es.length) S.heap) p = zf S.heap p := fun p hp => zbW hp;have hK : zaD R w (w.alloc (.cells (cs.toArray ++ zs) T)) := zaD.alloc h _;have hm : zf S.heap o = some m := by unfold zf; rw [hlook]
 have hold : ∀ b s, ι o = some (b, s) -> (R b \/ ∃ s, ι o = some (b, s)) /\ 0 < s := fun b s hbs => by
  refine ⟨.inr ⟨s, hbs⟩, ?_⟩;have hob := h.heap _ _ (zV hlook)
  cases hob with
  | acc _ hι' _ _ hs _ => rw [hbs] at hι'; cases hι'; exact hs
  | accN hι' => rw [hbs] at hι'; cases hι'
 have hva : ∀ {x : AV} {u : Value}, VA w R ι (zf S.heap) x u -> VA (w.alloc (.cells (cs.toArray ++ zs) T)) (fun b => R b \/ ∃ s, ι o = some (b, s)) (upd ι o (w.heap.size, n)) (zf (zr o (.acc es.length) S.heap)) x u :=
  fun hv => hv.regrow (bo := 0) (so := 0) hm hmo' hlt hmk (fun _ h => .inl h) hK hold hheap
 have hob : OB (w.alloc (.cells (cs.toArray ++ zs) T)) (fun b => R b \/ ∃ s, ι o = some (b, s)) (upd ι o (w.heap.size, n)) (zf (zr o (.acc es.length) S.heap)) o (.acc es.length) := by
  refine .acc (by omega) zbv ?_ hb hn (by
   have : es.length * n <= cap * n := zRg _ hcap;omega)
  rintro (hr | ⟨s, hr⟩)
  · have := h.rlt _ hr; omega
  · have := (h.own _ _ _ hr).2; omega
 refine ⟨⟨h.defers, h.size, h.os, h.tape, h.output, by have := h.grow; simp; omega, fun b hb => (h.len b hb).trans (Blk.of_eq (zby (zRD hb h.grow))), fun b hb => (zby (zRD (h.keepLt b hb) h.grow)).trans (h.keep b hb), h.keepLt, ?_, ?_, fun b hb => .inl (h.r0 b hb), ?_, ?_, ?_, ?_⟩, ?_⟩
 · rintro b (hr | ⟨s, hr⟩)
   · have := h.rlt _ hr; simp; omega
   · have := (h.own _ _ _ hr).2; simp; omega
 · rintro b (hr | ⟨s, hr⟩)
   · exact h.rok b hr
   · exact .inr (h.own _ _ _ hr).1
 · intro q b s hq
   by_cases e : q = o
   · subst e;rw [zbv] at hq; cases hq;exact ⟨fun hk => by have := h.keepLt _ hk; have := h.grow; omega, by simp⟩
   · rw [zav e] at hq;have := h.own q b s hq;exact ⟨this.1, by simp; omega⟩
 · intro q q' b s1 s2 h1 h2
   by_cases e : q = o <;> by_cases e' : q' = o
   · rw [e, e']
   · subst e; rw [zbv] at h1; rw [zav e'] at h2; cases h1;have := (h.own _ _ _ h2).2; omega
   · subst e'; rw [zbv] at h2; rw [zav e] at h1; cases h2;have := (h.own _ _ _ h1).2; omega
   · rw [zav e] at h1; rw [zav e'] at h2; exact h.inj _ _ _ _ _ h1 h2
 · intro t x hx;obtain ⟨u, h1, h2⟩ := h.env t x hx;exact ⟨u, h1, hva h2⟩
 · intro q ob hq
   rcases zdQ hq with hq | ⟨hq, hne⟩
   · cases hq; exact hob
   · cases h.heap q ob hq with
     | row hι' hr hb' hs' hsz' hc' hh =>
      refine .row (by rw [zav hne]; exact hι') ?_ (by rw [hheap _ _ _ hι']; exact hb') hs' hsz' hc' fun i e hi j x hj => ?_
      · rintro (hr' | ⟨s, hr'⟩)
        · exact hr hr'
        · exact hne (h.inj _ _ _ _ _ hι' hr')
      · obtain ⟨k1, q, k2, k3⟩ := hh i e hi j x hj;exact ⟨k1, q, k2, hva k3⟩
     | acc hpos hι' hr hb' hs' hc' =>
      refine .acc hpos (by rw [zav hne]; exact hι') ?_ (by rw [hheap _ _ _ hι']; exact hb') hs' hc';rintro (hr' | ⟨s, hr'⟩)
      · exact hr hr'
      · exact hne (h.inj _ _ _ _ _ hι' hr')
     | accN hι' => exact .accN (by rw [zav hne]; exact hι')
     | frz hh => exact .frz fun b s hb' => have k := hh b s (by rwa [zav hne] at hb'); ⟨.inl k.1, k.2⟩
     | mp hι' hr hb' hs' hl' hh =>
      refine .mp (by rw [zav hne]; exact hι') ?_ (by rw [hheap _ _ _ hι']; exact hb') hs' hl' fun i k x hi => ?_
      · rintro (hr' | ⟨s, hr'⟩)
        · exact hr hr'
        · exact hne (h.inj _ _ _ _ _ hι' hr')
      · obtain ⟨e, k1, k2, k3⟩ := hh i k x hi;exact ⟨e, k1, k2, k3.mono_v (fun _ h => .inl h) hK⟩
 · refine .accC zbv hmo' (zRd _) hL hcap hz hb hsz fun i e hi => ?_;have := hc.el (w' := w.alloc (.cells (cs.toArray ++ zs) T)) (R' := fun b => R b \/ ∃ s, ι o = some (b, s)) (b := w.heap.size) (off := 0) hz hn (fun _ h => .inl h) hK (fun j v hj => by
    rw [zan hb, zQU, zS9 (by simpa using (zQ6.1 hj).1)];simpa using hj) i e hi
   rwa [zQU] at this
theorem Rel.inplace (h : Rel C S a w ι R) {o m b n cap : Nat} {es ys : List D} {news : List Value} {c : Array Value} {T : TypeId} (hlook : look o S.heap = some (.acc m)) (hes : es.length = m) (hι : ι o = some (b, n)) (hb : w.heap[b]? = some (.cells c T (0, 0)))
    (hn : 0 < n) (hy : zag w R n ys news) (hz : ∀ e ∈ es ++ ys, e.size = n) (hL : (es ++ ys).length <= LIM) (hcap : m + ys.length <= cap) (hsz : cap * n <= c.size) (hR : ¬ R b)
    (hold : ∀ (i : Nat) (e : D), es[i]? = some e -> Rd w R (.el e b (i * n))) :
    Rel C ⟨S.env, zr o (.acc (m + ys.length)) S.heap⟩ a (w.setCells b (0 + m * n) news) ι R /\
    VA (w.setCells b (0 + m * n) news) R ι (zf (zr o (.acc (m + ys.length)) S.heap)) (.acc o (es ++ ys)) (.slice (some ⟨b, 0, none⟩) (m + ys.length) cap) := by
 have hm : zf S.heap o = some m := by unfold zf; rw [hlook]
 obtain ⟨c', hc1, hc2, hc3⟩ := zeU w b (0 + m * n) news hb;obtain ⟨r1, r2, r3, r4⟩ := zeV w b (0 + m * n) news;have hK : zaD R w (w.setCells b (0 + m * n) news) := fun b' hb' => zbe _ _ _ _ (fun e => hR (e ▸ hb'));have hmo' : zf (zr o (.acc (m + ys.length)) S.heap) o = some (m + ys.length) := by rw [zbV]
 have hstep : ∀ p, zal w (w.setCells b (0 + m * n) news) ι ι (zf S.heap) (zf (zr o (.acc (m + ys.length)) S.heap)) p := fun p => by
  by_cases e : p = o
  · subst e;refine ⟨fun _ _ h => h, fun b1 s1 hb1 => ?_, fun m1 h1 => ⟨_, hmo', by rw [hm] at h1; cases h1; omega⟩, fun m1 h1 => ⟨m, hm, by rw [hmo'] at h1; cases h1; omega⟩⟩;rw [hι] at hb1; cases hb1;rw [hm];intro c1 T1 hc1';rw [hb] at hc1'; cases hc1';refine ⟨c', hc1, hc2, fun j hj => ?_⟩;simp only [zSk] at hj;rw [hc3, zQN (by omega)]
  · exact zal.other rfl (zbW e) fun b1 s1 hb1 => zbe _ _ _ _ fun e' => e (h.inj _ _ _ _ _ (e' ▸ hb1) hι)
 refine ⟨?_, ?_⟩
 · refine h.change r1 r2 r3 (by omega) (fun b' _ => by
       by_cases e : b' = b
       · subst e; intro c1 T1 hc1'; rw [hb] at hc1'; cases hc1'; exact ⟨c', hc1, hc2, fun j hj => by simp at hj⟩
       · exact Blk.of_eq (zbe _ _ _ _ e)) (fun b' hb' => zbe _ _ _ _ (fun e => (h.own o b n hι).1 (e ▸ hb'))) (fun _ h => h) (fun b' hb' => by rw [r4]; exact h.rlt b' hb') h.rok hK
    (fun q b1 s1 hq => by rw [r4]; exact h.own q b1 s1 hq) h.inj (fun q _ => hstep q) ?_
   intro q ob hq
   rcases zdQ hq with hq | ⟨hq, hne⟩
   · cases hq
     have hm0 : 0 < m := by
      cases h.heap _ _ (zV hlook) with
      | acc hpos _ _ _ _ _ => exact hpos
      | accN hι' => rw [hι] at hι'; cases hι'
     refine .acc (by omega) hι hR hc1 hn ?_;have : (m + ys.length) * n <= cap * n := zRg _ hcap;omega
   · refine (h.heap q ob hq).mono (fun _ h => h) hK (fun b1 s1 hb1 => ⟨hb1, ?_, fun h => h⟩) (fun h => h) fun p _ => hstep p;exact zbe _ _ _ _ fun e => hne (h.inj _ _ _ _ _ (e ▸ hb1) hι)
 · have hlen : (es ++ ys).length = m + ys.length := by rw [zQT, hes]
   have := VA.accC (w := w.setCells b (0 + m * n) news) (R := R) (ι := ι) (mk := zf (zr o (.acc (m + ys.length)) S.heap)) (o := o) (es := es ++ ys) (cap := cap) hι hmo' (by omega) hL (by omega) hz hc1 (by omega) (fun i e hi => ?_)
   · rwa [hlen] at this
   · by_cases hlt : i < es.length
     · rw [zRE hlt] at hi;refine (hold i e hi).mono (fun _ h => h) hK fun j hj => ?_;rw [zan hc1, zan hb, hc3, zQN];have hez := hz e (zSf _ (zQ9 hi));have : (i + 1) * n <= m * n := zRg _ (by omega);rw [zRF] at this;omega
     · rw [zRJ (by omega)] at hi;have key := hy.el (w' := w.setCells b (0 + m * n) news) (R' := R) (b := b) (off := m * n) (fun e he => hz e (zSS _ he)) hn (fun _ h => h) hK (fun j v hj => by
        have hjl := (zQ6.1 hj).1;rw [hy.1] at hjl;have : (m + ys.length) * n <= cap * n := zRg _ hcap;rw [zRv] at this;rw [zan hc1, hc3, zQO ⟨by omega, by rw [hy.1]; omega, by omega⟩];rw [show m * n + j - (0 + m * n) = j by omega]; exact hj) _ e hi
       rwa [show m * n + (i - es.length) * n = i * n by rw [<- zRv]; congr 1; omega] at key
theorem Rel.sameAcc (h : Rel C S a w ι R) {o m : Nat} (hl : look o S.heap = some (.acc m)) : Rel C ⟨S.env, zr o (.acc m) S.heap⟩ a w ι R := by
 have hmk : zf (zr o (.acc m) S.heap) = zf S.heap := funext fun p => by
  by_cases e : p = o
  · subst e; rw [zbV]; simp [zf, hl]
  · exact zbW e
 refine ⟨h.defers, h.size, h.os, h.tape, h.output, h.grow, h.len, h.keep, h.keepLt, h.rlt, h.rok, h.r0, h.own, h.inj, ?_, ?_⟩
 · rw [hmk]; exact h.env
 · rw [hmk];intro q ob hq
   rcases zdQ hq with hq | ⟨hq, _⟩
   · cases hq; exact h.heap _ _ (zV hl)
   · exact h.heap q ob hq
theorem zuo {n dst : Nat} {t tx ty e : TypeId} {i : TypeInfo} {z : Value} {x v : AV} {ux uy : Value} {ys : List D} {news : List Value} {H' : zb} (hr : Rel C S a w ι R) (hx : VA w R ι (zf S.heap) x ux)
    (hs : Src P n tx uy ys.length news w) (hy : zag w R n ys news) (ht : P.underlying t = some (.slice e)) (hi : P.info? e = some i) (hin : i.size = n) (hz : i.zero = some z) (hzn : z.cells.size = n) (hby : i.bytes <= 32768) (hn : 0 < n)
    (hp : zaZ S.env S.heap dst n ys x = some (v, H')) :
    ∃ u w' ι' R', (Builtin.append_ #[t, tx] ty #[ux, uy]).run P w = .ok u w' /\ Rel C ⟨S.env, H'⟩ a w' ι' R' /\ VA w' R' ι' (zf H') v u := by
 subst hin;have fits : ∀ {len cap : Nat}, len + ys.length <= LIM -> cap < len + ys.length -> ((len + ys.length : Nat) : Int) <= 9223372036854775807 /\ Builtin.nextslicecap (len + ys.length) cap * i.bytes <= 281474976710656 := by
  intro len cap hL hc;refine ⟨by unfold LIM at hL; omega, growslice_fits hc ?_⟩
  calc (len + ys.length) * i.bytes <= 4294967296 * 32768 := Nat.mul_le_mul hL hby
   _ = 140737488355328 := by decide
 cases x with
 | xsl es =>
  simp only [zaZ] at hp
  split at hp
  · rename_i hh
    split at hp
    · cases hp
      have h0 : ys = [] := by simp at hh; exact hh.1
      subst h0;have hnn : news = [] := zRq.1 (by rw [hy.1]; simp);subst hnn
      cases hx with
      | @xsl _ ao k h =>
       obtain ⟨ao', cap, he, hc, hLe⟩ := h.sl_len
       cases he
       exact ⟨_, w, ι, R, run_append_nothing w t tx ty e i ht hi ao es.length es.length (zRd _) uy hs, hr, .xsl h⟩
    · cases hp
  split at hp
  · rename_i hne' hh;obtain ⟨hsz, hL, hu1, hu2⟩ := hh;have hne : (es.isEmpty || !ys.isEmpty) = true := by
     cases h1 : es.isEmpty <;> cases h2 : ys.isEmpty <;> simp_all
    cases hp
    have hz' := zgo hsz
    cases hx with
    | @xsl _ ao k h =>
     obtain ⟨ao', cap, he, hc, hLe⟩ := h.sl_len
     cases he
     by_cases h0 : ys = []
     · subst h0;have hnn : news = [] := zRq.1 (by rw [hy.1]; simp);subst hnn;refine ⟨_, w, clr ι dst, R, run_append_nothing w t tx ty e i ht hi ao es.length es.length (zRd _) uy hs, hr.newNone ⟨hu1, hu2⟩, ?_⟩;rw [zRG];have h1 : es = [] := by simpa using hne
       subst h1; exact .acc0
     · have hlt : es.length < es.length + ys.length := by have := zSB.2 h0; omega
       rw [zQT] at hL;obtain ⟨f1, f2⟩ := fits hL hlt;obtain ⟨olds, ho1, ho2⟩ := zL4 h hn (fun e he => hz' e (zSf _ he));have hrun := run_append_grow_src (ty := ty) w t tx e i z ht hi hz ao es.length es.length olds ho2 uy ys.length news hs hlt f1 f2;have hall := (ho1.append hy hz').drew;have hg := zxG (w := w) (es.length + ys.length) es.length e;have := hr.drew.newAcc (o := dst) (n := i.size) (cap := grownCap w (es.length + ys.length) es.length e) (zs := Builtin.zeroCells z.cells (grownCap w (es.length + ys.length) es.length e - (es.length + ys.length))) e ⟨hu1, hu2⟩ hn hall hz'
        (by rw [zQT]; omega) (by rw [zQT]; exact hL) (by rw [zQT]; exact hg) (by
         rw [zTw, zBZ, hzn, zTx, hall.1, <- zRv, zQT];exact zRg _ (by omega))
       rw [zQT] at this;exact ⟨_, _, _, _, hrun, this.1, this.2⟩
  · cases hp
 | acc o es =>
  simp only [zaZ] at hp
  split at hp
  · rename_i m hlk
    split at hp
    · rename_i hh;obtain ⟨hm, hsz, hL⟩ := hh
      cases hp
      have hz' := zgo hsz;have hmk : zf S.heap o = some m := by simp [zf, hlk]
      rw [zQT] at hL;have noth : ∀ (ao : Option Addr) (cap : Nat), ys = [] -> ux = .slice ao es.length cap -> es.length <= cap -> VA w R ι (zf S.heap) (.acc o es) (.slice ao es.length cap) ->
          ∃ u w' ι' R', (Builtin.append_ #[t, tx] ty #[ux, uy]).run P w = .ok u w' /\ Rel C ⟨S.env, zr o (.acc (m + ys.length)) S.heap⟩ a w' ι' R' /\ VA w' R' ι' (zf (zr o (.acc (m + ys.length)) S.heap)) (.acc o (es ++ ys)) u := by
       rintro ao cap rfl rfl hc hva;have hnn : news = [] := zRq.1 (by rw [hy.1]; simp);subst hnn;refine ⟨_, w, ι, R, run_append_nothing w t tx ty e i ht hi ao es.length cap hc uy hs, hr.sameAcc hlk, ?_⟩;rw [zRG];have hmkf : zf (zr o (.acc (m + ([] : List D).length)) S.heap) = zf S.heap := funext fun p => by
        by_cases e : p = o
        · subst e; rw [zbV]; simp [zf, hlk]
        · exact zbW e
       rw [hmkf]; exact hva
      have grow : ∀ (ao : Option Addr) (cap : Nat) (olds : List Value), ys ≠ [] -> ux = .slice ao es.length cap -> cap < es.length + ys.length -> zag w R i.size es olds ->
          (Builtin.firstCells i.size es.length (.slice ao es.length cap)).run P w.drew = .ok olds.toArray w.drew ->
          ∃ u w' ι' R', (Builtin.append_ #[t, tx] ty #[ux, uy]).run P w = .ok u w' /\ Rel C ⟨S.env, zr o (.acc (m + ys.length)) S.heap⟩ a w' ι' R' /\ VA w' R' ι' (zf (zr o (.acc (m + ys.length)) S.heap)) (.acc o (es ++ ys)) u := by
       rintro ao cap olds h0 rfl hc ho1 ho2;obtain ⟨f1, f2⟩ := fits hL hc;have hrun := run_append_grow_src (ty := ty) w t tx e i z ht hi hz ao es.length cap olds ho2 uy ys.length news hs hc f1 f2;have hall := (ho1.append hy hz').drew;have hg := zxG (w := w) (es.length + ys.length) cap e;have hpos := zSB.2 h0;have := hr.drew.regrow (o := o) (m := m) (n := i.size) (cap := grownCap w (es.length + ys.length) cap e) (zs := Builtin.zeroCells z.cells (grownCap w (es.length + ys.length) cap e - (es.length + ys.length))) e hlk (by rw [zQT]; omega) hn hall hz'
        (by rw [zQT]; exact hL) (by rw [zQT]; exact hg) (by
         rw [zTw, zBZ, hzn, zTx, hall.1, <- zRv, zQT];exact zRg _ (by omega))
       rw [zQT, hm] at this;rw [hm] at hrun;rw [hm];exact ⟨_, _, _, _, hrun, this.1, this.2⟩
      by_cases h0 : ys = []
      · cases hx with
        | accR hR hs' hL' hl hsz' hh hm' => exact noth _ _ h0 rfl hl (.accR hR hs' hL' hl hsz' hh hm')
        | accC a1 a2 a3 a4 a5 a6 a7 a8 a9 => exact noth _ _ h0 rfl a5 (.accC a1 a2 a3 a4 a5 a6 a7 a8 a9)
        | acc0 => exact noth _ 0 h0 rfl (by simp) .acc0
      · have hpos := zSB.2 h0
        cases hx with
        | @accR _ b off s cap _ hR hs' hL' hl hsz' hh hm' => have := hm' m hmk; omega
        | @accC _ b s m1 cap _ c T hι hmk' hm1 hL' hl hsz' hb hc hh =>
         rw [hmk] at hmk'; cases hmk';have hob := hr.heap _ _ (zV hlk);have hns : s = i.size \/ es = [] := by
          by_cases he : es = []
          · exact .inr he
          · obtain ⟨e0, he0⟩ := zSI _ he;left; rw [<- hsz' e0 he0]; exact hz' e0 (zSf _ he0)
         cases hob with
         | accN hι' => rw [hι] at hι'; cases hι'
         | acc hpos' hι' hRb hb' hsp hc' =>
          rw [hι] at hι'; cases hι';rw [hb] at hb'; cases hb';have hns : s = i.size := hns.resolve_right (by rintro rfl; simp at hm; omega);subst hns
          by_cases hroom : es.length + ys.length <= cap
          · have hlen : ∀ j, j < news.length -> 0 + es.length * i.size + j < c.size := fun j hj => by
             rw [hy.1] at hj;have : (es.length + ys.length) * i.size <= cap * i.size := zRg _ hroom;rw [zRv] at this; omega
            have hrun := run_append_room_src (ty := ty) w t tx e i ht hi b 0 es.length cap uy ys.length news hs hroom (fun j hj => by rw [zan hb]; have := hlen j hj; simp; omega) (fun j _ => frozen_of_row w b _ c T hb);have := hr.inplace (o := o) (m := m) (cap := cap) hlk hm hι hb hn hy hz' (by rw [zQT]; exact hL) (by omega) hc hRb hh;rw [hm] at hrun;rw [hm];exact ⟨_, _, _, _, hrun, this.1, this.2⟩
          · obtain ⟨olds, ho1, _, ho2⟩ := zL3 (cap := cap) hh hn (fun e he => hz' e (zSf _ he));exact grow _ cap olds h0 rfl (by omega) ho1 ho2
        | acc0 =>
         refine grow _ 0 [] h0 rfl (by omega) ⟨by simp, fun i e hi => by simp at hi⟩ ?_;rename_i ao
         cases ao with
         | none => exact run_firstCells_none w.drew _ 0 0 0
         | some b => exact run_firstCells_some w.drew _ 0 b 0 0 [] (by simp) (by simp)
    · cases hp
  · cases hp
 | _ => simp [zaZ] at hp
end Go.Sim

namespace Go.Sim
open Go (World Value Addr TypeId Act)
variable {P : Program} {C : Ctx} {S : St} {a : Act} {w : World} {ι : Inj} {R : Nat -> Prop}
def zbO (w : World) (R : Nat -> Prop) (ι : Inj) (mk : Nat -> Option Nat) (zs : List AV) (c : Array Value) : Prop :=
 c.size = zs.length /\ ∀ (i : Nat) (z : AV), zs[i]? = some z -> z.cell = true /\ ∃ q, c[i]? = some q /\ VA w R ι mk z q
theorem zzw (vs : List (Value × Nat)) (off : Nat) (c : Array Value) : (vs.foldl (fun cs p => cs.setIfInBounds (off + p.2) p.1) c).size = c.size := by
 induction vs generalizing c with
 | nil => rfl
 | cons p l ih => rw [zTZ, ih]; simp
theorem zHJ (vs : List Value) (k off : Nat) (c : Array Value) (h : off + k + vs.length <= c.size) (j : Nat) :
    ((vs.zipIdx k).foldl (fun cs p => cs.setIfInBounds (off + p.2) p.1) c)[j]? = if off + k <= j /\ j < off + k + vs.length then vs[j - (off + k)]? else c[j]? := by
 induction vs generalizing k c with
 | nil => rw [zQN (by simp only [zQ1]; omega)]; rfl
 | cons v vs ih =>
  rw [List.zipIdx_cons, zTZ, ih (k + 1) _ (by simp at h ⊢; omega)];simp only [zQX] at h ⊢
  by_cases hj : j = off + k
  · subst hj;rw [zQN (by omega), zQO (by omega), zT0 (by omega), zSw];rfl
  · rw [zT1 (Ne.symm hj)]
    by_cases hh : off + (k + 1) <= j /\ j < off + (k + 1) + vs.length
    · rw [zQO hh, zQO (by omega)];have : j - (off + k) = (j - (off + (k + 1))) + 1 := by omega
      rw [this, zTT]
    · rw [zQN hh, zQN (by omega)]
theorem zzv (u : Value) (off : Nat) (c : Array Value) (h : off + u.cells.size <= c.size) (j : Nat) :
    (u.cells.zipIdx.foldl (fun cs (x, j) => cs.setIfInBounds (off + j) x) c)[j]? = if off <= j /\ j < off + u.cells.size then u.cells[j - off]? else c[j]? := by
 have e : u.cells.zipIdx.foldl (fun cs (x, j) => cs.setIfInBounds (off + j) x) c = (u.cells.toList.zipIdx 0).foldl (fun cs p => cs.setIfInBounds (off + p.2) p.1) c := by
  rw [<- zT2]; simp
 rw [e, zHJ _ _ _ _ (by simpa using h)];simp
theorem zbO.lay {mk : Nat -> Option Nat} {zs : List AV} {c : Array Value} (h : zbO w R ι mk zs c) {v : AV} {u : Value} (hv : VA w R ι mk v u) (ht : zaQ v = false) {off : Nat} (ho : off + v.size <= zs.length) :
    zbO w R ι mk (zcT zs off v.cells) (u.cells.zipIdx.foldl (fun cs (x, j) => cs.setIfInBounds (off + j) x) c) := by
 obtain ⟨h1, h2⟩ := hv.cells ht;have hlen : off + v.cells.length <= zs.length := by rw [AV.size_cells]; exact ho
 refine ⟨?_, fun i z hi => ?_⟩
 · rw [zBq _ _ _ hlen, <- h.1];have e : u.cells.zipIdx.foldl (fun cs (x, j) => cs.setIfInBounds (off + j) x) c = (u.cells.toList.zipIdx 0).foldl (fun cs p => cs.setIfInBounds (off + p.2) p.1) c := by
    rw [<- zT2]; simp
   rw [e, zzw]
 · rw [zBp _ _ _ _ hlen] at hi;rw [zzv u off c (by rw [h1, h.1]; exact ho), h1, <- AV.size_cells]
   split at hi
   · rename_i hh; rw [zQO hh]; exact h2 _ _ hi
   · rename_i hh; rw [zQN hh]; exact h.2 _ _ hi
theorem zlF {mk : Nat -> Option Nat} {place : Nat -> Option (Nat × Nat)} : ∀ {ps : List (Nat × Value)} {qs : List (Nat × Nat × AV)} {zs cs : List AV} {c : Array Value}, zbO w R ι mk zs c -> qs.length = ps.length ->
    (∀ (k i : Nat) (u : Value) (off n : Nat) (v : AV), ps[k]? = some (i, u) -> qs[k]? = some (off, n, v) -> place i = some (off, n) /\ VA w R ι mk v u) -> zcD zs qs = some cs ->
    ∃ c', Instr.fill place c ps = some c' /\ zbO w R ι mk cs c' := by
 intro ps
 induction ps with
 | nil =>
  intro qs zs cs c h hl _ hf;have : qs = [] := zRq.1 hl;subst this;simp only [zcD, Option.some.injEq] at hf; subst hf;exact ⟨c, rfl, h⟩
 | cons p ps ih =>
  intro qs zs cs c h hl hp hf;obtain ⟨i, u⟩ := p
  cases qs with
  | nil => simp at hl
  | cons q qs =>
   obtain ⟨off, n, v⟩ := q;simp only [zcD] at hf
   split at hf
   · rename_i hh;obtain ⟨h1, h2⟩ := hp 0 i u off n v rfl rfl;have hsz := (h2.cells hh.2.2).1;have hlay := h.lay h2 hh.2.2 (off := off) (by omega);obtain ⟨c', h3, h4⟩ := ih hlay (by simpa using hl) (fun k i u off n v k1 k2 => hp (k + 1) i u off n v (by simpa using k1) (by simpa using k2)) hf;refine ⟨c', ?_, h4⟩;have e1 : ¬ (u.cells.size ≠ n) := by omega
     have e2 : ¬ (c.size < off + u.cells.size) := by rw [h.1]; omega
     simp only [Instr.fill, h1];rw [zQN (by simp; omega)];exact h3
   · cases hf
theorem zkH {t : TypeId} {z : AV} (h : zbc P t = some z) (hz : zaQ z = false) (w : World) (R : Nat -> Prop) (ι : Inj) (mk : Nat -> Option Nat) :
    ∃ zv, (zeroValue t).run P w = .ok zv w /\ VA w R ι mk z zv /\ zbO w R ι mk z.cells zv.cells := by
 unfold zbc at h;obtain ⟨zv, h1, h2⟩ := zQP.1 h;obtain ⟨i, h3, h4⟩ := zQP.1 h1;have hv := zlq h2 w R ι mk;obtain ⟨k1, k2⟩ := hv.cells hz;exact ⟨zv, by simp [zeroValue, typeInfo, h3, h4], hv, by rw [AV.size_cells]; exact k1, k2⟩
theorem zDi {v : Value} {x : AV} (h : zc4 v = some x) : zaQ x = false := by
 unfold zc4 at h
 split at h
 · obtain ⟨ds, h1, h2⟩ := zQQ.1 h;subst h2;unfold AV.mkAgg
   split <;> rfl
 · unfold zeq at h
   split at h
   · split at h
     · cases h; rfl
     · cases h
   · cases h; rfl
   · split at h
     · cases h; rfl
     · cases h
   · cases h; rfl
   · split at h
     · cases h; rfl
     · cases h
theorem zfW {t : TypeId} {z : AV} (h : zbc P t = some z) : zaQ z = false := by
 unfold zbc at h;obtain ⟨zv, h1, h2⟩ := zQP.1 h;exact zDi h2
theorem zIm {α β : Type} {f : α -> Sem β} {g : α -> Option β} (w : World) (l : Array α) (h : ∀ x ∈ l, ∀ y, g x = some y -> (f x).run P w = .ok y w) : ∀ {m : List β}, l.toList.mapM g = some m -> (l.mapM f).run P w = .ok m.toArray w := by
 have go : ∀ (l : List α), (∀ x ∈ l, ∀ y, g x = some y -> (f x).run P w = .ok y w) -> ∀ {m : List β}, l.mapM g = some m -> (l.mapM f).run P w = .ok m w := by
  intro l
  induction l with
  | nil => intro _ m hm; simp at hm; subst hm; simp
  | cons x l ih =>
   intro h m hm;simp only [zSn, zRi, zRj] at hm;obtain ⟨y, hy, hm⟩ := zQP.1 hm;obtain ⟨ys, hys, hm⟩ := zQP.1 hm
   cases hm
   simp [zSn, h x (by simp) y hy, ih (fun x hx => h x (by simp [hx])) hys]
 intro m hm;rw [zUc];simp [go l.toList (fun x hx => h x (by simpa using hx)) hm]
theorem zs6 {mk : Nat -> Option Nat} {cs : List AV} {c : Array Value} (h : zbO w R ι mk cs c) : VA w R ι mk (AV.mkAgg cs) (.agg c) := by
 have := VA.mkAgg (w := w) (R := R) (ι := ι) (mk := mk) (cs := cs) (vs := c.toList) (by simpa using h.1) (fun x hx => by
  obtain ⟨i, hi⟩ := zRu hx;exact (h.2 i x hi).1) (fun i x u h1 h2 => by
  obtain ⟨_, q, k1, k2⟩ := h.2 i x h1;rw [zT3, k1] at h2; cases h2; exact k2)
 simpa using this
theorem zCR {t : TypeId} {op : AOp} {ps : Array (Nat × Operand)} {v : AV} {H' : zb} {dst : Nat} (hr : Rel C S a w ι R) (hc : zI P (.build t ps) = some op) (hs : zi S.env S.heap dst op = some (v, H')) :
    H' = S.heap /\ ∃ u, (Instr.build t (ps.map fun (i, x) => (i, a.eval x))).run P w = .ok u w /\ VA w R ι (zf S.heap) v u := by
 simp only [zI] at hc;have parts : ∀ (place : Nat -> Option (Nat × Nat)) (f : Nat × Operand -> Option (Nat × Nat × Opd)) (qs : List (Nat × Nat × Opd)) (z : List AV) (cs : List AV) (c : Array Value),
     ps.toList.mapM f = some qs -> (∀ p q, f p = some q -> place p.1 = some (q.1, q.2.1) /\ opd p.2 = some q.2.2) -> zbO w R ι (zf S.heap) z c -> zcD z (qs.map fun p => (p.1, p.2.1, p.2.2.ev S.env)) = some cs ->
     ∃ c', Instr.fill place c (ps.map fun (i, x) => (i, a.eval x)).toList = some c' /\ zbO w R ι (zf S.heap) cs c' := by
  intro place f qs z cs c hm hf hz hfi;obtain ⟨hl, hg⟩ := zcr hm;refine zlF hz (by simp [hl]) (fun k i u off n v h1 h2 => ?_) hfi;rw [zSU, zQ7] at h1;rw [zQ7] at h2;obtain ⟨p, hp, h1⟩ := zQQ.1 h1;obtain ⟨q, hq, h2⟩ := zQQ.1 h2;obtain ⟨k1, k2⟩ := hf p q (hg k p q hp hq)
  cases h1; cases h2
  exact ⟨k1, hr.ev k2⟩
 split at hc
 · rename_i fs hu;simp only [zRi] at hc;obtain ⟨z, hz, hc⟩ := zQP.1 hc;obtain ⟨szs, hsz, hc⟩ := zQP.1 hc;obtain ⟨qs, hqs, hc⟩ := zQP.1 hc
   cases hc
   simp only [zi] at hs;obtain ⟨cs, hcs, hs⟩ := zQQ.1 hs
   cases hs
   refine ⟨rfl, ?_⟩;obtain ⟨zv, hz1, _, hz2⟩ := zkH hz (zfW hz) w R ι (zf S.heap);have hpl : (fs.mapM fun f => (do pure (f.offset, <- sizeOf f.type) : Sem (Nat × Nat))).run P w = .ok ((fs.toList.zip szs).map fun (f, s) => (f.offset, s)).toArray w := by
    refine zIm w fs (g := fun f => (zac P f.type).map fun s => (f.offset, s)) (fun f _ y hy => ?_) ?_
    · obtain ⟨s, h1, h2⟩ := zQQ.1 hy;subst h2; simp [zcf h1]
    · have : ∀ (l : List Field) (m : List Nat), l.mapM (fun f => zac P f.type) = some m -> l.mapM (fun f => (zac P f.type).map fun s => (f.offset, s)) = some ((l.zip m).map fun (f, s) => (f.offset, s)) := by
       intro l
       induction l with
       | nil => intro m hm; simp at hm; subst hm; simp
       | cons f l ih =>
        intro m hm;simp only [zSn, zRi, zRj] at hm;obtain ⟨y, hy, hm⟩ := zQP.1 hm;obtain ⟨ys, hys, hm⟩ := zQP.1 hm
        cases hm
        simp [zSn, hy, ih ys hys]
      exact this _ _ hsz
   obtain ⟨c', h1, h2⟩ := parts (((fs.toList.zip szs).map fun (f, s) => (f.offset, s)).toArray[·]?) _ qs z.cells cs zv.cells hqs (fun p q hf => by
    obtain ⟨fd, h1, hf⟩ := zQP.1 hf;obtain ⟨n, h2, hf⟩ := zQP.1 hf;obtain ⟨x, h3, hf⟩ := zQP.1 hf
    cases hf
    refine ⟨?_, h3⟩;obtain ⟨hl, hg⟩ := zcr hsz;have hlt : p.1 < fs.toList.length := by simpa using (zRn.1 h1).1
    have hs : szs[p.1]? = some n := by
     have hx : szs[p.1]? = some (szs[p.1]'(by omega)) := zQ4 _;have := hg p.1 fd _ (by simpa using h1) hx;rw [h2] at this; rw [hx, Option.some.inj this]
    have hf' : fs.toList[p.1]? = some fd := by simpa using h1
    have hzip : (fs.toList.zip szs)[p.1]? = some (fd, n) := List.getElem?_zip_eq_some.2 ⟨hf', hs⟩;show ((fs.toList.zip szs).map fun (f, s) => (f.offset, s)).toArray[p.1]? = some (fd.offset, n);rw [zTa, zQ7, hzip]; rfl) hz2 hcs
   refine ⟨.agg c', ?_, zs6 h2⟩;simp only [Instr.build, Sem.run_bind, hz1, Result.andThen_ok, run_underlying hu, hpl, h1, Sem.run_pure]
 · rename_i len e hu;simp only [zRi] at hc;obtain ⟨z, hz, hc⟩ := zQP.1 hc;obtain ⟨n, hn, hc⟩ := zQP.1 hc;obtain ⟨qs, hqs, hc⟩ := zQP.1 hc
   cases hc
   simp only [zi] at hs;obtain ⟨cs, hcs, hs⟩ := zQQ.1 hs
   cases hs
   refine ⟨rfl, ?_⟩;obtain ⟨zv, hz1, _, hz2⟩ := zkH hz (zfW hz) w R ι (zf S.heap);obtain ⟨c', h1, h2⟩ := parts (fun i => some (i * n, n)) _ qs z.cells cs zv.cells hqs (fun p q hf => by
    obtain ⟨x, h3, hf⟩ := zQP.1 hf
    cases hf
    exact ⟨rfl, h3⟩) hz2 hcs
   refine ⟨.agg c', ?_, zs6 h2⟩;simp only [Instr.build, Sem.run_bind, hz1, Result.andThen_ok, run_underlying hu, zcf hn, h1, Sem.run_pure]
 · cases hc
def zdv (w : World) (R : Nat -> Prop) (ι : Inj) (mk : Nat -> Option Nat) (n : Nat) (es : List AV) (c : Array Value) : Prop :=
 c.size = es.length * n /\ ∀ (i : Nat) (e : AV), es[i]? = some e -> ∀ (j : Nat) (x : AV), e.cells[j]? = some x -> x.cell = true /\ ∃ q, c[i * n + j]? = some q /\ VA w R ι mk x q
theorem zB1 {mk : Nat -> Option Nat} {z : AV} {zc : Array Value} {n : Nat} (hz : zbO w R ι mk z.cells zc) (hn : z.size = n) (h0 : 0 < n) (k : Nat) :
    zdv w R ι mk n (List.replicate k z) ((Array.range (k * n)).map (zc[· % zc.size]!)) := by
 have hzs : zc.size = n := by rw [hz.1, AV.size_cells, hn]
 refine ⟨by simp, fun i e hi j x hj => ?_⟩;have hik : i < k := by have := (zQ6.1 hi).1; simpa using this
 rw [zUe, zQO hik] at hi
 cases hi
 obtain ⟨k1, q, k2, k3⟩ := hz.2 j x hj;have hjn : j < n := by rw [<- hzs]; exact (zRn.1 k2).1
 refine ⟨k1, q, ?_, k3⟩;have hlt : i * n + j < k * n := by
  have : (i + 1) * n <= k * n := zRg _ hik;rw [zRF] at this; omega
 rw [Array.getElem?_map, Array.getElem?_range, zQO hlt];simp only [zRt, Option.some.injEq];rw [hzs, zTd i n, Nat.mul_add_mod, zRX hjn];simp [getElem!_def, k2]
theorem zdv.lay {mk : Nat -> Option Nat} {n : Nat} {es : List AV} {c : Array Value} (h : zdv w R ι mk n es c) (hsz : ∀ e ∈ es, e.size = n) {v : AV} {u : Value} (hv : VA w R ι mk v u) (ht : zaQ v = false) (hvn : v.size = n) {i : Nat} (hi : i < es.length) :
    zdv w R ι mk n (es.set i v) (u.cells.zipIdx.foldl (fun cs (x, j) => cs.setIfInBounds (i * n + j) x) c) := by
 obtain ⟨h1, h2⟩ := hv.cells ht;have hb : i * n + u.cells.size <= c.size := by
  have : (i + 1) * n <= es.length * n := zRg _ hi;rw [zRF] at this; rw [h.1]; omega
 have hjb : ∀ {e : AV} {j : Nat} {x : AV}, e.size = n -> e.cells[j]? = some x -> j < n := fun {e j x} he hj => by
  have := (zQ6.1 hj).1; rw [AV.size_cells, he] at this; exact this
 refine ⟨?_, fun k e hk j x hj => ?_⟩
 · have e : u.cells.zipIdx.foldl (fun cs (x, j) => cs.setIfInBounds (i * n + j) x) c = (u.cells.toList.zipIdx 0).foldl (fun cs p => cs.setIfInBounds (i * n + p.2) p.1) c := by
    rw [<- zT2]; simp
   rw [e, zzw, h.1, zRS]
 · rw [zzv u _ c hb];rw [zSC] at hk
   by_cases hik : i = k
   · subst hik;rw [zQO rfl, zQO hi] at hk
     cases hk
     have := hjb hvn hj;rw [zQO ⟨by omega, by omega⟩, show i * n + j - i * n = j by omega];exact h2 j x hj
   · rw [zQN hik] at hk;have hjn := hjb (hsz e (zQ9 hk)) hj;rw [zQN]
     · exact h.2 k e hk j x hj
     · rintro ⟨g1, g2⟩
       rcases Nat.lt_or_gt_of_ne hik with hlt | hgt
       · have : (i + 1) * n <= k * n := zRg _ hlt;rw [zRF] at this; omega
       · have : (k + 1) * n <= i * n := zRg _ hgt;rw [zRF] at this; omega
theorem zPE {mk : Nat -> Option Nat} {v : AV} {u : Value} (h : VA w R ι mk v u) : VA w R ι mk (unX v) u := by
 have one : ∀ {v : AV} {u : Value}, VA w R ι mk v u -> VA w R ι mk (zfV v) u := fun {v u} h => by
  cases v with
  | xsl es => cases h with | xsl h => exact .d h
  | _ => exact h
 cases v with
 | xsl es => cases h with | xsl h => exact .d h
 | agg cs =>
  cases h with
  | agg hl hc hh =>
   simp only [unX, zkE];refine VA.mkAgg (by simpa using hl) (fun c hm => ?_) fun i c q h1 h2 => ?_
   · obtain ⟨y, hy, rfl⟩ := zQ3.1 hm;have := hc y hy
     cases y <;> simp_all [zfV, AV.cell, D.cell]
   · rw [zQ7] at h1;obtain ⟨y, hy, rfl⟩ := zQQ.1 h1;exact one (hh i y q hy h2)
 | _ => exact h
theorem zFi {mk : Nat -> Option Nat} {n : Nat} : ∀ {ps : List (Nat × Value)} {qs : List (Nat × AV)} {es cs : List AV} {c : Array Value}, zdv w R ι mk n es c -> (∀ e ∈ es, e.size = n) -> qs.length = ps.length ->
    (∀ (k i : Nat) (u : Value) (i' : Nat) (v : AV), ps[k]? = some (i, u) -> qs[k]? = some (i', v) -> i = i' /\ VA w R ι mk v u) -> (∀ q ∈ qs, q.2.size = n) -> zb6 es qs = some cs ->
    ∃ c', Instr.fill (fun i => some (i * n, n)) c ps = some c' /\ zdv w R ι mk n cs c' /\ (∀ e ∈ cs, e.size = n) /\ cs.length = es.length := by
 intro ps
 induction ps with
 | nil =>
  intro qs es cs c h hsz hl _ _ hf;have : qs = [] := zRq.1 hl;subst this;simp only [zb6, Option.some.injEq] at hf; subst hf;exact ⟨c, rfl, h, hsz, rfl⟩
 | cons p ps ih =>
  intro qs es cs c h hsz hl hp hqn hf;obtain ⟨i, u⟩ := p
  cases qs with
  | nil => simp at hl
  | cons q qs =>
   obtain ⟨i', v⟩ := q;simp only [zb6] at hf
   split at hf
   · rename_i hh;obtain ⟨rfl, h2⟩ := hp 0 i u i' v rfl rfl;have hvn : v.size = n := hqn (i, v) (.head _);have hsz1 := (h2.cells hh.2).1;have hlay := h.lay hsz (zPE h2) (zPD hh.2) ((zBG v).trans hvn) hh.1;obtain ⟨c', h3, h4, h5, h6⟩ := ih hlay (fun e he => by
      rcases zSV he with he | rfl
      · exact hsz e he
      · exact (zBG v).trans hvn) (by simpa using hl) (fun k i u i' v k1 k2 => hp (k + 1) i u i' v (by simpa using k1) (by simpa using k2)) (fun q hq => hqn q (.tail _ hq)) hf
     refine ⟨c', ?_, h4, h5, by rw [h6, zRS]⟩;have hb : i * n + u.cells.size <= c.size := by
      have : (i + 1) * n <= es.length * n := zRg _ hh.1;rw [zRF] at this; rw [h.1]; omega
     simp only [Instr.fill];rw [zQN (by simp; omega)];exact h3
   · cases hf
theorem zdv.data {mk : Nat -> Option Nat} {n : Nat} {ds : List D} {c : Array Value} (h : zdv w R ι mk n (ds.map .d) c) (i : Nat) (e : D) (hi : ds[i]? = some e) (j : Nat) (x : D) (hj : e.cells[j]? = some x) :
    x.cell = true /\ ∃ q, c[i * n + j]? = some q /\ Rd w R (.v x q) := by
 obtain ⟨k1, q, k2, k3⟩ := h.2 i (.d e) (by simp [hi]) j (.d x) (by simp [AV.cells, hj]);exact ⟨k1, q, k2, k3.of_d⟩
theorem Rel.newData (h : Rel C S a w ι R) {n : Nat} {ds : List D} {c : Array Value} (T : TypeId) (hrow : zdv w R ι (zf S.heap) n (ds.map .d) c) (hn : 0 < n) (hsz : ∀ e ∈ ds, e.size = n) (hL : ds.length <= LIM) :
    Rel C S a (w.alloc (.cells c T)) ι (fun b => R b \/ b = w.heap.size) /\
    VA (w.alloc (.cells c T)) (fun b => R b \/ b = w.heap.size) ι (zf S.heap) (.xsl ds) (.slice (some ⟨w.heap.size, 0, none⟩) ds.length ds.length) := by
 refine ⟨h.newRO _, .xsl ?_⟩;have hb := heap_alloc_new w (.cells c T)
 by_cases h0 : ds = []
 · subst h0; exact .sl0
 · refine .sl (.inr rfl) h0 hn hL (zRd _) hsz fun i e hi => Rd.el_of_cells (fun vs hvs => ?_) fun j x hj => ?_
   · subst hvs;have := (hrow.data i _ hi 0 (.tup vs) rfl).1;simp [D.cell] at this
   · obtain ⟨k1, q, k2, k3⟩ := hrow.data i e hi j x hj;refine ⟨k1, q, ?_, k3.mono_v (fun _ h => .inl h) (zaD.alloc h _)⟩;rw [zan hb, zQU]; exact k2
theorem Rel.newOwn (h : Rel C S a w ι R) {n o : Nat} {es : List AV} {c : Array Value} (T : TypeId) (hu : zeg o S) (hrow : zdv w R ι (zf S.heap) n es c) (hn : 0 < n) (hsz : ∀ e ∈ es, e.size = n) (hL : es.length <= LIM) (hr : ∀ e ∈ es, e.refs o = false) :
    Rel C ⟨S.env, zr o (.row es) S.heap⟩ a (w.alloc (.cells c T)) (upd ι o (w.heap.size, n)) R /\
    VA (w.alloc (.cells c T)) R (upd ι o (w.heap.size, n)) (zf (zr o (.row es) S.heap)) (.osl o 0 es.length) (.slice (some ⟨w.heap.size, 0, none⟩) es.length es.length) := by
 refine ⟨h.newRow T hu hn hsz (by rw [hrow.1]; exact zRd _) hr hrow.2, ?_⟩;have := VA.osl (w := w.alloc (.cells c T)) (R := R) (ι := upd ι o (w.heap.size, n)) (mk := zf (zr o (.row es) S.heap)) (o := o) (off := 0) (len := es.length) (cap := es.length) zbv (by rw [zbV]) (heap_alloc_new w _) (zRd _) (by rw [hrow.1]; simp) hL;simpa using this
end Go.Sim
