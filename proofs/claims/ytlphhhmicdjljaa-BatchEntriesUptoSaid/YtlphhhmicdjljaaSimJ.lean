/-
  Appends.
-/
import Derived.Test.YtlphhhmicdjljaaSimI
namespace Go.Sim
set_option linter.unusedSimpArgs false
set_option linter.unusedVariables false
open Go (World Value Addr TypeId Act)

variable {P : Program} {C : Ctx} {S : St} {a : Act} {w : World} {ι : Inj} {R : Nat → Prop}

/-- The cells of old elements and of new ones, one behind the other. -/
theorem CellsOf.append {n : Nat} {es ys : List D} {olds news : List Value} (h1 : CellsOf w R n es olds) (h2 : CellsOf w R n ys news) (hz : ∀ e ∈ es ++ ys, e.size = n) : CellsOf w R n (es ++ ys) (olds ++ news) := by
  refine ⟨by simp [h1.1, h2.1, Nat.add_mul], fun i e hi j c hc => ?_⟩
  have hj : j < n := by
    have := hz e (List.mem_of_getElem? hi)
    have h3 := (List.getElem?_eq_some_iff.1 hc).1
    unfold D.size at this; omega
  by_cases hlt : i < es.length
  · rw [List.getElem?_append_left hlt] at hi
    obtain ⟨k1, q, k2, k3⟩ := h1.2 i e hi j c hc
    exact ⟨k1, q, by rw [List.getElem?_append_left (List.getElem?_eq_some_iff.1 k2).1]; exact k2, k3⟩
  · rw [List.getElem?_append_right (by omega)] at hi
    obtain ⟨k1, q, k2, k3⟩ := h2.2 _ e hi j c hc
    refine ⟨k1, q, ?_, k3⟩
    have : (i - es.length) * n + es.length * n = i * n := by rw [← Nat.add_mul]; congr 1; omega
    rw [List.getElem?_append_right (by rw [h1.1]; omega), h1.1, ← k2]
    congr 1; omega

/-- Elements that lie in a row of cells. -/
theorem CellsOf.el {w' : World} {R' : Nat → Prop} {n b off : Nat} {es : List D} {cs : List Value} (h : CellsOf w R n es cs) (hz : ∀ e ∈ es, e.size = n) (hn : 0 < n) (hR : ∀ b, R b → R' b) (hw : Keeps R w w')
    (hr : ∀ j v, cs[j]? = some v → w'.cell? ⟨b, off + j, none⟩ = some v) (i : Nat) (e : D) (hi : es[i]? = some e) : Rd w' R' (.el e b (off + i * n)) := by
  refine Rd.el_of_cells (fun vs hvs => ?_) fun j c hc => ?_
  · subst hvs
    have h1 := (h.2 i _ hi 0 (.tup vs) rfl).1
    simp [D.cell] at h1
  · obtain ⟨k1, q, k2, k3⟩ := h.2 i e hi j c hc
    refine ⟨k1, q, ?_, k3.mono_v hR hw⟩
    rw [Nat.add_assoc]; exact hr _ _ k2

/-- The cells of a list that a slice holds: as the first argument of an append gives them. -/
theorem olds_of {n : Nat} {es : List D} {ao : Option Addr} {cap : Nat} (h : Rd w R (.v (.sl es) (.slice ao es.length cap))) (hn : 0 < n) (hz : ∀ e ∈ es, e.size = n) :
    ∃ olds, CellsOf w R n es olds ∧ (Builtin.firstCells n es.length (.slice ao es.length cap)).run P w.drew = .ok olds.toArray w.drew := by
  by_cases h0 : es = []
  · subst h0
    refine ⟨[], ⟨by simp, fun i e hi => by simp at hi⟩, ?_⟩
    cases ao with
    | none => exact run_firstCells_none w.drew n 0 0 cap
    | some b => exact run_firstCells_some w.drew n 0 b 0 cap [] (by simp) (by simp)
  · obtain ⟨b, off, s, cap', he, hR, hs, hl, hc, hsz, hel⟩ := h.sl_inv h0
    cases he
    obtain ⟨e0, he0⟩ : ∃ e, e ∈ es := List.exists_mem_of_ne_nil _ h0
    have hns : s = n := by rw [← hsz e0 he0]; exact hz e0 he0
    subst hns
    obtain ⟨olds, h1, h2⟩ := elems_cells hn hz hel
    exact ⟨olds, h1, run_firstCells_some w.drew s es.length _ es.length cap olds h1.1 (fun j v hj => by rw [Addr.add_mid]; exact h2 j v hj)⟩

theorem olds_at {n b : Nat} {es : List D} {cap : Nat} (h : ∀ (i : Nat) (e : D), es[i]? = some e → Rd w R (.el e b (i * n))) (hn : 0 < n) (hz : ∀ e ∈ es, e.size = n) :
    ∃ olds, CellsOf w R n es olds ∧ w.rangeAt b 0 olds ∧ (Builtin.firstCells n es.length (.slice (some ⟨b, 0, none⟩) es.length cap)).run P w.drew = .ok olds.toArray w.drew := by
  obtain ⟨olds, h1, h2⟩ := elems_cells (w := w) (R := R) (b := b) (off := 0) hn hz (fun i e hi => by rw [Nat.zero_add]; exact h i e hi)
  exact ⟨olds, h1, h2, run_firstCells_some w.drew n es.length _ es.length cap olds h1.1 (fun j v hj => by rw [Addr.add_mid]; exact h2 j v hj)⟩

theorem rd_drew {it : It} (h : Rd w R it) : Rd w.drew R it := h.mono (fun _ h => h) (fun _ _ => rfl) (by cases it with | v => trivial | el x b off => exact fun j _ => rfl)

theorem CellsOf.drew {n : Nat} {es : List D} {cs : List Value} (h : CellsOf w R n es cs) : CellsOf w.drew R n es cs :=
  ⟨h.1, fun i e hi j c hc => let ⟨k1, q, k2, k3⟩ := h.2 i e hi j c hc; ⟨k1, q, k2, rd_drew k3⟩⟩

/-- The array that an append makes, for a new object. -/
theorem Rel.newAcc (h : Rel C S a w ι R) {o n cap : Nat} {es : List D} {cs : List Value} {zs : Array Value} (T : TypeId) (hu : unref o S) (hn : 0 < n) (hc : CellsOf w R n es cs) (hz : ∀ e ∈ es, e.size = n)
    (h0 : 0 < es.length) (hL : es.length ≤ LIM) (hcap : es.length ≤ cap) (hsz : cap * n ≤ (cs.toArray ++ zs).size) :
    Rel C ⟨S.env, setAt o (.acc es.length) S.heap⟩ a (w.alloc (.cells (cs.toArray ++ zs) T)) (upd ι o (w.heap.size, n)) R ∧
    VA (w.alloc (.cells (cs.toArray ++ zs) T)) R (upd ι o (w.heap.size, n)) (mark (setAt o (.acc es.length) S.heap)) (.acc o es) (.slice (some ⟨w.heap.size, 0, none⟩) es.length cap) := by
  have hb := heap_alloc_new w (.cells (cs.toArray ++ zs) T)
  refine ⟨h.new _ T hu (.acc h0 upd_same (fun hR => by have := h.rlt _ hR; omega) hb hn (by
    have : es.length * n ≤ cap * n := Nat.mul_le_mul_right _ hcap
    omega)), ?_⟩
  refine .accC upd_same (by rw [mark_setAt]) (Nat.le_refl _) hL hcap hz hb hsz fun i e hi => ?_
  have := hc.el (w' := w.alloc (.cells (cs.toArray ++ zs) T)) (R' := R) (b := w.heap.size) (off := 0) hz hn (fun _ h => h) (Keeps.alloc h _) (fun j v hj => by
    rw [cell_of hb, Nat.zero_add, Array.getElem?_append_left (by simpa using (List.getElem?_eq_some_iff.1 hj).1)]
    simpa using hj) i e hi
  rwa [Nat.zero_add] at this

theorem constV_size {v : Value} {x : AV} (h : constV v = some x) : x.size = v.cells.size := by
  unfold constV at h
  split at h
  · obtain ⟨ds, h1, h2⟩ := Option.map_eq_some_iff.1 h
    subst h2
    rw [(mkAgg_cells ds).2, (mapM_get h1).1]; simp [Value.cells]
  · rename_i v' hv
    have h1 : v.cells.size = 1 := by
      cases v <;> first | rfl | (rename_i cs; exact absurd rfl (hv cs))
    rw [h1]
    have := (cell1_ok h ⟨#[], fun _ _ => 0, 0, default, #[]⟩ (fun _ => False) (fun _ => none) (fun _ => none)).2
    cases x with
    | d y => exact D.size_cell this
    | agg => simp [AV.cell] at this
    | _ => rfl

theorem zeroCells_size (z : Array Value) (k : Nat) : (Builtin.zeroCells z k).size = k * z.size := by simp [Builtin.zeroCells]

theorem grown_ge (need old : Nat) (e : TypeId) : need ≤ grownCap w need old e := by
  exact Nat.le_add_right _ _

/-- The array of an object is left behind for a greater one. -/
theorem VA.regrow {w' : World} {o m m' nb n bo so : Nat} {mk mk' : Nat → Option Nat} {R' : Nat → Prop} {x : AV} {u : Value} (h : VA w R ι mk x u) (hmo : mk o = some m) (hm' : mk' o = some m') (hlt : m < m') (hmk : ∀ p, p ≠ o → mk' p = mk p)
    (hR : ∀ b, R b → R' b) (hw : Keeps R w w') (hold : ∀ b s, ι o = some (b, s) → R' b ∧ 0 < s) (hheap : ∀ p b s, ι p = some (b, s) → w'.heap[b]? = w.heap[b]?) : VA w' R' (upd ι o (nb, n)) mk' x u := by
  have ne : ∀ {p : Nat}, mk p = none → p ≠ o := fun {p} h e => by subst e; rw [hmo] at h; cases h
  induction h with
  | d h => exact .d (h.mono_v hR hw)
  | ref h hk => exact .ref (by rw [upd_ne (ne hk)]; exact h) (by rw [hmk _ (ne hk)]; exact hk)
  | osl h hk hb hl hc hL => exact .osl (by rw [upd_ne (ne hk)]; exact h) (by rw [hmk _ (ne hk)]; exact hk) (by rw [hheap _ _ _ h]; exact hb) hl hc hL
  | osl0 => exact .osl0
  | @accR p _ _ _ _ _ hr hs hL hl hsz h hm =>
    refine .accR (hR _ hr) hs hL hl hsz (fun i e hi => (h i e hi).mono hR hw fun j _ => World.cell?_of_block (hw _ hr)) fun m2 hm2 => ?_
    by_cases e : p = o
    · subst e
      rw [hm'] at hm2; cases hm2
      have := hm m hmo; omega
    · rw [hmk _ e] at hm2; exact hm m2 hm2
  | @accC p b s m1 cap es c T hι hk hm hL hl hsz hb hc h =>
    by_cases e : p = o
    · subst e
      rw [hmo] at hk; cases hk
      obtain ⟨h1, h2⟩ := hold _ _ hι
      refine .accR h1 h2 hL hl hsz (fun i e hi => ?_) fun m2 hm2 => ?_
      · rw [Nat.zero_add]; exact (h i e hi).mono hR hw fun j _ => World.cell?_of_block (hheap _ _ _ hι)
      · rw [hm'] at hm2; cases hm2; omega
    · exact .accC (by rw [upd_ne e]; exact hι) (by rw [hmk _ e]; exact hk) hm hL hl hsz (by rw [hheap _ _ _ hι]; exact hb) hc
        (fun i e hi => (h i e hi).mono hR hw fun j _ => World.cell?_of_block (hheap _ _ _ hι))
  | peR hr h => exact .peR (hR _ hr) (h.mono hR hw fun j _ => World.cell?_of_block (hw _ hr))
  | @peC p b s m1 off x c T hι hk hb hoff h =>
    by_cases e : p = o
    · subst e
      exact .peR (hold _ _ hι).1 (h.mono hR hw fun j _ => World.cell?_of_block (hheap _ _ _ hι))
    · exact .peC (by rw [upd_ne e]; exact hι) (by rw [hmk _ e]; exact hk) (by rw [hheap _ _ _ hι]; exact hb) hoff (h.mono hR hw fun j _ => World.cell?_of_block (hheap _ _ _ hι))
  | acc0 => exact .acc0
  | xsl h => exact .xsl (h.mono_v hR hw)
  | agg hl hc _ ih => exact .agg hl hc ih
  | tup hl _ ih => exact .tup hl ih
  | fn hl _ ih => exact .fn hl ih
  | nl1 => exact .nl1
  | nl2 => exact .nl2
  | undef => exact .undef

theorem Rel.regrow (h : Rel C S a w ι R) {o m n cap : Nat} {es : List D} {cs : List Value} {zs : Array Value} (T : TypeId) (hlook : look o S.heap = some (.acc m)) (hlt : m < es.length) (hn : 0 < n) (hc : CellsOf w R n es cs) (hz : ∀ e ∈ es, e.size = n)
    (hL : es.length ≤ LIM) (hcap : es.length ≤ cap) (hsz : cap * n ≤ (cs.toArray ++ zs).size) :
    Rel C ⟨S.env, setAt o (.acc es.length) S.heap⟩ a (w.alloc (.cells (cs.toArray ++ zs) T)) (upd ι o (w.heap.size, n)) (fun b => R b ∨ ∃ s, ι o = some (b, s)) ∧
    VA (w.alloc (.cells (cs.toArray ++ zs) T)) (fun b => R b ∨ ∃ s, ι o = some (b, s)) (upd ι o (w.heap.size, n)) (mark (setAt o (.acc es.length) S.heap)) (.acc o es) (.slice (some ⟨w.heap.size, 0, none⟩) es.length cap) := by
  have hb := heap_alloc_new w (.cells (cs.toArray ++ zs) T)
  have hheap : ∀ p b s, ι p = some (b, s) → (w.alloc (.cells (cs.toArray ++ zs) T)).heap[b]? = w.heap[b]? := fun p b s hp => alloc_old (h.own p b s hp).2
  have hmo' : mark (setAt o (.acc es.length) S.heap) o = some es.length := by rw [mark_setAt]
  have hmk : ∀ p, p ≠ o → mark (setAt o (.acc es.length) S.heap) p = mark S.heap p := fun p hp => mark_setAt_ne hp
  have hK : Keeps R w (w.alloc (.cells (cs.toArray ++ zs) T)) := Keeps.alloc h _
  have hm : mark S.heap o = some m := by unfold mark; rw [hlook]
  have hold : ∀ b s, ι o = some (b, s) → (R b ∨ ∃ s, ι o = some (b, s)) ∧ 0 < s := fun b s hbs => by
    refine ⟨.inr ⟨s, hbs⟩, ?_⟩
    have hob := h.heap _ _ (look_mem hlook)
    cases hob with
    | acc _ hι' _ _ hs _ => rw [hbs] at hι'; cases hι'; exact hs
    | accN hι' => rw [hbs] at hι'; cases hι'
  have hva : ∀ {x : AV} {u : Value}, VA w R ι (mark S.heap) x u → VA (w.alloc (.cells (cs.toArray ++ zs) T)) (fun b => R b ∨ ∃ s, ι o = some (b, s)) (upd ι o (w.heap.size, n)) (mark (setAt o (.acc es.length) S.heap)) x u :=
    fun hv => hv.regrow (bo := 0) (so := 0) hm hmo' hlt hmk (fun _ h => .inl h) hK hold hheap
  have hob : OB (w.alloc (.cells (cs.toArray ++ zs) T)) (fun b => R b ∨ ∃ s, ι o = some (b, s)) (upd ι o (w.heap.size, n)) (mark (setAt o (.acc es.length) S.heap)) o (.acc es.length) := by
    refine .acc (by omega) upd_same ?_ hb hn (by
      have : es.length * n ≤ cap * n := Nat.mul_le_mul_right _ hcap
      omega)
    rintro (hr | ⟨s, hr⟩)
    · have := h.rlt _ hr; omega
    · have := (h.own _ _ _ hr).2; omega
  refine ⟨⟨h.defers, h.size, h.os, h.tape, h.output, by have := h.grow; simp; omega, fun b hb => (h.len b hb).trans (Blk.of_eq (alloc_old (Nat.lt_of_lt_of_le hb h.grow))), fun b hb => (alloc_old (Nat.lt_of_lt_of_le (h.keepLt b hb) h.grow)).trans (h.keep b hb), h.keepLt, ?_, ?_, fun b hb => .inl (h.r0 b hb), ?_, ?_, ?_, ?_⟩, ?_⟩
  · rintro b (hr | ⟨s, hr⟩)
    · have := h.rlt _ hr; simp; omega
    · have := (h.own _ _ _ hr).2; simp; omega
  · rintro b (hr | ⟨s, hr⟩)
    · exact h.rok b hr
    · exact .inr (h.own _ _ _ hr).1
  · intro q b s hq
    by_cases e : q = o
    · subst e
      rw [upd_same] at hq; cases hq
      exact ⟨fun hk => by have := h.keepLt _ hk; have := h.grow; omega, by simp⟩
    · rw [upd_ne e] at hq
      have := h.own q b s hq
      exact ⟨this.1, by simp; omega⟩
  · intro q q' b s1 s2 h1 h2
    by_cases e : q = o <;> by_cases e' : q' = o
    · rw [e, e']
    · subst e; rw [upd_same] at h1; rw [upd_ne e'] at h2; cases h1
      have := (h.own _ _ _ h2).2; omega
    · subst e'; rw [upd_same] at h2; rw [upd_ne e] at h1; cases h2
      have := (h.own _ _ _ h1).2; omega
    · rw [upd_ne e] at h1; rw [upd_ne e'] at h2; exact h.inj _ _ _ _ _ h1 h2
  · intro t x hx
    obtain ⟨u, h1, h2⟩ := h.env t x hx
    exact ⟨u, h1, hva h2⟩
  · intro q ob hq
    rcases setAt_mem hq with hq | ⟨hq, hne⟩
    · cases hq; exact hob
    · cases h.heap q ob hq with
      | row hι' hr hb' hs' hsz' hc' hh =>
        refine .row (by rw [upd_ne hne]; exact hι') ?_ (by rw [hheap _ _ _ hι']; exact hb') hs' hsz' hc' fun i e hi j x hj => ?_
        · rintro (hr' | ⟨s, hr'⟩)
          · exact hr hr'
          · exact hne (h.inj _ _ _ _ _ hι' hr')
        · obtain ⟨k1, q, k2, k3⟩ := hh i e hi j x hj
          exact ⟨k1, q, k2, hva k3⟩
      | acc hpos hι' hr hb' hs' hc' =>
        refine .acc hpos (by rw [upd_ne hne]; exact hι') ?_ (by rw [hheap _ _ _ hι']; exact hb') hs' hc'
        rintro (hr' | ⟨s, hr'⟩)
        · exact hr hr'
        · exact hne (h.inj _ _ _ _ _ hι' hr')
      | accN hι' => exact .accN (by rw [upd_ne hne]; exact hι')
      | frz hh => exact .frz fun b s hb' => have k := hh b s (by rwa [upd_ne hne] at hb'); ⟨.inl k.1, k.2⟩
  · refine .accC upd_same hmo' (Nat.le_refl _) hL hcap hz hb hsz fun i e hi => ?_
    have := hc.el (w' := w.alloc (.cells (cs.toArray ++ zs) T)) (R' := fun b => R b ∨ ∃ s, ι o = some (b, s)) (b := w.heap.size) (off := 0) hz hn (fun _ h => .inl h) hK (fun j v hj => by
      rw [cell_of hb, Nat.zero_add, Array.getElem?_append_left (by simpa using (List.getElem?_eq_some_iff.1 hj).1)]
      simpa using hj) i e hi
    rwa [Nat.zero_add] at this

/-- There is room. -/
theorem Rel.inplace (h : Rel C S a w ι R) {o m b n cap : Nat} {es ys : List D} {news : List Value} {c : Array Value} {T : TypeId} (hlook : look o S.heap = some (.acc m)) (hes : es.length = m) (hι : ι o = some (b, n)) (hb : w.heap[b]? = some (.cells c T (0, 0)))
    (hn : 0 < n) (hy : CellsOf w R n ys news) (hz : ∀ e ∈ es ++ ys, e.size = n) (hL : (es ++ ys).length ≤ LIM) (hcap : m + ys.length ≤ cap) (hsz : cap * n ≤ c.size) (hR : ¬ R b)
    (hold : ∀ (i : Nat) (e : D), es[i]? = some e → Rd w R (.el e b (i * n))) :
    Rel C ⟨S.env, setAt o (.acc (m + ys.length)) S.heap⟩ a (w.setCells b (0 + m * n) news) ι R ∧
    VA (w.setCells b (0 + m * n) news) R ι (mark (setAt o (.acc (m + ys.length)) S.heap)) (.acc o (es ++ ys)) (.slice (some ⟨b, 0, none⟩) (m + ys.length) cap) := by
  have hm : mark S.heap o = some m := by unfold mark; rw [hlook]
  obtain ⟨c', hc1, hc2, hc3⟩ := setCells_block w b (0 + m * n) news hb
  obtain ⟨r1, r2, r3, r4⟩ := setCells_rest w b (0 + m * n) news
  have hK : Keeps R w (w.setCells b (0 + m * n) news) := fun b' hb' => setCells_other _ _ _ _ (fun e => hR (e ▸ hb'))
  have hmo' : mark (setAt o (.acc (m + ys.length)) S.heap) o = some (m + ys.length) := by rw [mark_setAt]
  have hstep : ∀ p, Step w (w.setCells b (0 + m * n) news) ι ι (mark S.heap) (mark (setAt o (.acc (m + ys.length)) S.heap)) p := fun p => by
    by_cases e : p = o
    · subst e
      refine ⟨fun _ _ h => h, fun b1 s1 hb1 => ?_, fun m1 h1 => ⟨_, hmo', by rw [hm] at h1; cases h1; omega⟩, fun m1 h1 => ⟨m, hm, by rw [hmo'] at h1; cases h1; omega⟩⟩
      rw [hι] at hb1; cases hb1
      rw [hm]
      intro c1 T1 hc1'
      rw [hb] at hc1'; cases hc1'
      refine ⟨c', hc1, hc2, fun j hj => ?_⟩
      simp only [Option.getD_some] at hj
      rw [hc3, if_neg (by omega)]
    · exact Step.other rfl (mark_setAt_ne e) fun b1 s1 hb1 => setCells_other _ _ _ _ fun e' => e (h.inj _ _ _ _ _ (e' ▸ hb1) hι)
  refine ⟨?_, ?_⟩
  · refine h.change r1 r2 r3 (by omega) (fun b' _ => by
        by_cases e : b' = b
        · subst e; intro c1 T1 hc1'; rw [hb] at hc1'; cases hc1'; exact ⟨c', hc1, hc2, fun j hj => by simp at hj⟩
        · exact Blk.of_eq (setCells_other _ _ _ _ e)) (fun b' hb' => setCells_other _ _ _ _ (fun e => (h.own o b n hι).1 (e ▸ hb'))) (fun _ h => h) (fun b' hb' => by rw [r4]; exact h.rlt b' hb') h.rok hK
      (fun q b1 s1 hq => by rw [r4]; exact h.own q b1 s1 hq) h.inj (fun q _ => hstep q) ?_
    intro q ob hq
    rcases setAt_mem hq with hq | ⟨hq, hne⟩
    · cases hq
      have hm0 : 0 < m := by
        cases h.heap _ _ (look_mem hlook) with
        | acc hpos _ _ _ _ _ => exact hpos
        | accN hι' => rw [hι] at hι'; cases hι'
      refine .acc (by omega) hι hR hc1 hn ?_
      have : (m + ys.length) * n ≤ cap * n := Nat.mul_le_mul_right _ hcap
      omega
    · refine (h.heap q ob hq).mono (fun _ h => h) hK (fun b1 s1 hb1 => ⟨hb1, ?_, fun h => h⟩) (fun h => h) fun p _ => hstep p
      exact setCells_other _ _ _ _ fun e => hne (h.inj _ _ _ _ _ (e ▸ hb1) hι)
  · have hlen : (es ++ ys).length = m + ys.length := by rw [List.length_append, hes]
    have := VA.accC (w := w.setCells b (0 + m * n) news) (R := R) (ι := ι) (mk := mark (setAt o (.acc (m + ys.length)) S.heap)) (o := o) (es := es ++ ys) (cap := cap) hι hmo' (by omega) hL (by omega) hz hc1 (by omega) (fun i e hi => ?_)
    · rwa [hlen] at this
    · by_cases hlt : i < es.length
      · rw [List.getElem?_append_left hlt] at hi
        refine (hold i e hi).mono (fun _ h => h) hK fun j hj => ?_
        rw [cell_of hc1, cell_of hb, hc3, if_neg]
        have hez := hz e (List.mem_append_left _ (List.mem_of_getElem? hi))
        have : (i + 1) * n ≤ m * n := Nat.mul_le_mul_right _ (by omega)
        rw [Nat.succ_mul] at this
        omega
      · rw [List.getElem?_append_right (by omega)] at hi
        have key := hy.el (w' := w.setCells b (0 + m * n) news) (R' := R) (b := b) (off := m * n) (fun e he => hz e (List.mem_append_right _ he)) hn (fun _ h => h) hK (fun j v hj => by
          have hjl := (List.getElem?_eq_some_iff.1 hj).1
          rw [hy.1] at hjl
          have : (m + ys.length) * n ≤ cap * n := Nat.mul_le_mul_right _ hcap
          rw [Nat.add_mul] at this
          rw [cell_of hc1, hc3, if_pos ⟨by omega, by rw [hy.1]; omega, by omega⟩]
          rw [show m * n + j - (0 + m * n) = j by omega]; exact hj) _ e hi
        rwa [show m * n + (i - es.length) * n = i * n by rw [← Nat.add_mul]; congr 1; omega] at key

theorem Rel.sameAcc (h : Rel C S a w ι R) {o m : Nat} (hl : look o S.heap = some (.acc m)) : Rel C ⟨S.env, setAt o (.acc m) S.heap⟩ a w ι R := by
  have hmk : mark (setAt o (.acc m) S.heap) = mark S.heap := funext fun p => by
    by_cases e : p = o
    · subst e; rw [mark_setAt]; simp [mark, hl]
    · exact mark_setAt_ne e
  refine ⟨h.defers, h.size, h.os, h.tape, h.output, h.grow, h.len, h.keep, h.keepLt, h.rlt, h.rok, h.r0, h.own, h.inj, ?_, ?_⟩
  · rw [hmk]; exact h.env
  · rw [hmk]
    intro q ob hq
    rcases setAt_mem hq with hq | ⟨hq, _⟩
    · cases hq; exact h.heap _ _ (look_mem hl)
    · exact h.heap q ob hq

theorem app_ok {n dst : Nat} {t tx ty e : TypeId} {i : TypeInfo} {z : Value} {x v : AV} {ux uy : Value} {ys : List D} {news : List Value} {H' : Heap} (hr : Rel C S a w ι R) (hx : VA w R ι (mark S.heap) x ux)
    (hs : Src P n tx uy ys.length news w) (hy : CellsOf w R n ys news) (ht : P.underlying t = some (.slice e)) (hi : P.info? e = some i) (hin : i.size = n) (hz : i.zero = some z) (hzn : z.cells.size = n) (hby : i.bytes ≤ 32768) (hn : 0 < n)
    (hp : appA S.env S.heap dst n ys x = some (v, H')) :
    ∃ u w' ι' R', (Builtin.append_ #[t, tx] ty #[ux, uy]).run P w = .ok u w' ∧ Rel C ⟨S.env, H'⟩ a w' ι' R' ∧ VA w' R' ι' (mark H') v u := by
  subst hin
  have fits : ∀ {len cap : Nat}, len + ys.length ≤ LIM → cap < len + ys.length → ((len + ys.length : Nat) : Int) ≤ 9223372036854775807 ∧ Builtin.nextslicecap (len + ys.length) cap * i.bytes ≤ 281474976710656 := by
    intro len cap hL hc
    refine ⟨by unfold LIM at hL; omega, growslice_fits hc ?_⟩
    calc (len + ys.length) * i.bytes ≤ 4294967296 * 32768 := Nat.mul_le_mul hL hby
      _ = 140737488355328 := by decide
  cases x with
  | xsl es =>
    simp only [appA] at hp
    split at hp
    · rename_i hh
      obtain ⟨hsz, hL, hu1, hu2, hne⟩ := hh
      cases hp
      have hz' := allSize_spec hsz
      cases hx with
      | @xsl _ ao k h =>
        obtain ⟨ao', cap, he, hc, hLe⟩ := h.sl_len
        cases he
        by_cases h0 : ys = []
        · subst h0
          have hnn : news = [] := List.length_eq_zero_iff.1 (by rw [hy.1]; simp)
          subst hnn
          refine ⟨_, w, clr ι dst, R, run_append_nothing w t tx ty e i ht hi ao es.length es.length (Nat.le_refl _) uy hs, hr.newNone ⟨hu1, hu2⟩, ?_⟩
          rw [List.append_nil]
          have h1 : es = [] := by simpa using hne
          subst h1; exact .acc0
        · have hlt : es.length < es.length + ys.length := by have := List.length_pos_iff.2 h0; omega
          rw [List.length_append] at hL
          obtain ⟨f1, f2⟩ := fits hL hlt
          obtain ⟨olds, ho1, ho2⟩ := olds_of h hn (fun e he => hz' e (List.mem_append_left _ he))
          have hrun := run_append_grow_src (ty := ty) w t tx e i z ht hi hz ao es.length es.length olds ho2 uy ys.length news hs hlt f1 f2
          have hall := (ho1.append hy hz').drew
          have hg := grown_ge (w := w) (es.length + ys.length) es.length e
          have := hr.drew.newAcc (o := dst) (n := i.size) (cap := grownCap w (es.length + ys.length) es.length e) (zs := Builtin.zeroCells z.cells (grownCap w (es.length + ys.length) es.length e - (es.length + ys.length))) e ⟨hu1, hu2⟩ hn hall hz'
            (by rw [List.length_append]; omega) (by rw [List.length_append]; exact hL) (by rw [List.length_append]; exact hg) (by
              rw [Array.size_append, zeroCells_size, hzn, List.size_toArray, hall.1, ← Nat.add_mul, List.length_append]
              exact Nat.mul_le_mul_right _ (by omega))
          rw [List.length_append] at this
          exact ⟨_, _, _, _, hrun, this.1, this.2⟩
    · cases hp
  | acc o es =>
    simp only [appA] at hp
    split at hp
    · rename_i m hlk
      split at hp
      · rename_i hh
        obtain ⟨hm, hsz, hL⟩ := hh
        cases hp
        have hz' := allSize_spec hsz
        have hmk : mark S.heap o = some m := by simp [mark, hlk]
        rw [List.length_append] at hL
        have noth : ∀ (ao : Option Addr) (cap : Nat), ys = [] → ux = .slice ao es.length cap → es.length ≤ cap → VA w R ι (mark S.heap) (.acc o es) (.slice ao es.length cap) →
            ∃ u w' ι' R', (Builtin.append_ #[t, tx] ty #[ux, uy]).run P w = .ok u w' ∧ Rel C ⟨S.env, setAt o (.acc (m + ys.length)) S.heap⟩ a w' ι' R' ∧ VA w' R' ι' (mark (setAt o (.acc (m + ys.length)) S.heap)) (.acc o (es ++ ys)) u := by
          rintro ao cap rfl rfl hc hva
          have hnn : news = [] := List.length_eq_zero_iff.1 (by rw [hy.1]; simp)
          subst hnn
          refine ⟨_, w, ι, R, run_append_nothing w t tx ty e i ht hi ao es.length cap hc uy hs, hr.sameAcc hlk, ?_⟩
          rw [List.append_nil]
          have hmkf : mark (setAt o (.acc (m + ([] : List D).length)) S.heap) = mark S.heap := funext fun p => by
            by_cases e : p = o
            · subst e; rw [mark_setAt]; simp [mark, hlk]
            · exact mark_setAt_ne e
          rw [hmkf]; exact hva
        have grow : ∀ (ao : Option Addr) (cap : Nat) (olds : List Value), ys ≠ [] → ux = .slice ao es.length cap → cap < es.length + ys.length → CellsOf w R i.size es olds →
            (Builtin.firstCells i.size es.length (.slice ao es.length cap)).run P w.drew = .ok olds.toArray w.drew →
            ∃ u w' ι' R', (Builtin.append_ #[t, tx] ty #[ux, uy]).run P w = .ok u w' ∧ Rel C ⟨S.env, setAt o (.acc (m + ys.length)) S.heap⟩ a w' ι' R' ∧ VA w' R' ι' (mark (setAt o (.acc (m + ys.length)) S.heap)) (.acc o (es ++ ys)) u := by
          rintro ao cap olds h0 rfl hc ho1 ho2
          obtain ⟨f1, f2⟩ := fits hL hc
          have hrun := run_append_grow_src (ty := ty) w t tx e i z ht hi hz ao es.length cap olds ho2 uy ys.length news hs hc f1 f2
          have hall := (ho1.append hy hz').drew
          have hg := grown_ge (w := w) (es.length + ys.length) cap e
          have hpos := List.length_pos_iff.2 h0
          have := hr.drew.regrow (o := o) (m := m) (n := i.size) (cap := grownCap w (es.length + ys.length) cap e) (zs := Builtin.zeroCells z.cells (grownCap w (es.length + ys.length) cap e - (es.length + ys.length))) e hlk (by rw [List.length_append]; omega) hn hall hz'
            (by rw [List.length_append]; exact hL) (by rw [List.length_append]; exact hg) (by
              rw [Array.size_append, zeroCells_size, hzn, List.size_toArray, hall.1, ← Nat.add_mul, List.length_append]
              exact Nat.mul_le_mul_right _ (by omega))
          rw [List.length_append, hm] at this
          rw [hm] at hrun
          rw [hm]
          exact ⟨_, _, _, _, hrun, this.1, this.2⟩
        by_cases h0 : ys = []
        · cases hx with
          | accR hR hs' hL' hl hsz' hh hm' => exact noth _ _ h0 rfl hl (.accR hR hs' hL' hl hsz' hh hm')
          | accC a1 a2 a3 a4 a5 a6 a7 a8 a9 => exact noth _ _ h0 rfl a5 (.accC a1 a2 a3 a4 a5 a6 a7 a8 a9)
          | acc0 => exact noth _ 0 h0 rfl (by simp) .acc0
        · have hpos := List.length_pos_iff.2 h0
          cases hx with
          | @accR _ b off s cap _ hR hs' hL' hl hsz' hh hm' => have := hm' m hmk; omega
          | @accC _ b s m1 cap _ c T hι hmk' hm1 hL' hl hsz' hb hc hh =>
            rw [hmk] at hmk'; cases hmk'
            have hob := hr.heap _ _ (look_mem hlk)
            have hns : s = i.size ∨ es = [] := by
              by_cases he : es = []
              · exact .inr he
              · obtain ⟨e0, he0⟩ := List.exists_mem_of_ne_nil _ he
                left; rw [← hsz' e0 he0]; exact hz' e0 (List.mem_append_left _ he0)
            cases hob with
            | accN hι' => rw [hι] at hι'; cases hι'
            | acc hpos' hι' hRb hb' hsp hc' =>
              rw [hι] at hι'; cases hι'
              rw [hb] at hb'; cases hb'
              have hns : s = i.size := hns.resolve_right (by rintro rfl; simp at hm; omega)
              subst hns
              by_cases hroom : es.length + ys.length ≤ cap
              · have hlen : ∀ j, j < news.length → 0 + es.length * i.size + j < c.size := fun j hj => by
                  rw [hy.1] at hj
                  have : (es.length + ys.length) * i.size ≤ cap * i.size := Nat.mul_le_mul_right _ hroom
                  rw [Nat.add_mul] at this; omega
                have hrun := run_append_room_src (ty := ty) w t tx e i ht hi b 0 es.length cap uy ys.length news hs hroom (fun j hj => by rw [cell_of hb]; have := hlen j hj; simp; omega) (fun j _ => frozen_of_row w b _ c T hb)
                have := hr.inplace (o := o) (m := m) (cap := cap) hlk hm hι hb hn hy hz' (by rw [List.length_append]; exact hL) (by omega) hc hRb hh
                rw [hm] at hrun
                rw [hm]
                exact ⟨_, _, _, _, hrun, this.1, this.2⟩
              · obtain ⟨olds, ho1, _, ho2⟩ := olds_at (cap := cap) hh hn (fun e he => hz' e (List.mem_append_left _ he))
                exact grow _ cap olds h0 rfl (by omega) ho1 ho2
          | acc0 =>
            refine grow _ 0 [] h0 rfl (by omega) ⟨by simp, fun i e hi => by simp at hi⟩ ?_
            rename_i ao
            cases ao with
            | none => exact run_firstCells_none w.drew _ 0 0 0
            | some b => exact run_firstCells_some w.drew _ 0 b 0 0 [] (by simp) (by simp)
      · cases hp
    · cases hp
  | _ => simp [appA] at hp

end Go.Sim
