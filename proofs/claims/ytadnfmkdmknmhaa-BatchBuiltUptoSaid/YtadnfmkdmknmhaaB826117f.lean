/-
  New variables, parts of slices, appends.
  Parts of slices; what an append takes; appends.
  Appends.
-/
import Derived.Test.YtadnfmkdmknmhaaB3ca87c7
import Derived.Deep.Upon
import Derived.Laws.OwnMore
set_option linter.unusedSimpArgs false
set_option linter.unusedVariables false
namespace Go.Sim
open Go (World Value Addr TypeId Act)
variable {P : Program} {C : Ctx} {S : St} {a : Act} {w : World} {ι : Inj} {R : Nat → Prop}
theorem Rel.newRow (h : Rel C S a w ι R) {o s : Nat} {es : List AV} {c : Array Value} (T : TypeId) (hu : unref o S) (hs : 0 < s) (hsz : ∀ e ∈ es, e.size = s) (hc : es.length * s ≤ c.size)
    (hr : ∀ e ∈ es, e.refs o = false)
    (hcell : ∀ (i : Nat) (e : AV), es[i]? = some e → ∀ (j : Nat) (x : AV), e.cells[j]? = some x → x.cell = true ∧ ∃ q, c[i * s + j]? = some q ∧ VA w R ι (mark S.heap) x q) :
    Rel C ⟨S.env, setAt o (.row es) S.heap⟩ a (w.alloc (.cells c T)) (upd ι o (w.heap.size, s)) R := by
  refine h.new c T hu (.row upd_same (fun hR => ?_) (heap_alloc_new w _) hs hsz hc fun i e hi j x hj => ?_)
  · have := h.rlt _ hR; omega
  · obtain ⟨k1, q, k2, k3⟩ := hcell i e hi j x hj
    refine ⟨k1, q, k2, k3.mono (fun _ h => h) (Keeps.alloc h _) fun p hp => ?_⟩
    have hpo : p ≠ o := fun e' => by
      subst e'
      have h1 := AV.cells_refs hj hp
      rw [hr e (List.mem_of_getElem? hi)] at h1; cases h1
    exact Step.other (upd_ne hpo) (mark_setAt_ne hpo) fun b s hb => alloc_old (h.own p b s hb).2
theorem Rel.newVar (h : Rel C S a w ι R) {o : Nat} {x : AV} {u : Value} (T : TypeId) (hu : unref o S) (hv : VA w R ι (mark S.heap) x u) (hx : isTup x = false) (h0 : x.size ≠ 0) (hr : x.refs o = false) :
    Rel C ⟨S.env, setAt o (.row [x]) S.heap⟩ a (w.alloc (.cells u.cells T)) (upd ι o (w.heap.size, x.size)) R ∧
    VA (w.alloc (.cells u.cells T)) R (upd ι o (w.heap.size, x.size)) (mark (setAt o (.row [x]) S.heap)) (.ref o 0 0) (.pointer (some ⟨w.heap.size, 0, none⟩)) := by
  obtain ⟨k1, k2⟩ := hv.cells hx
  refine ⟨h.newRow T hu (by omega) (by simp) (by simp [k1]) (by simpa using hr) ?_, ?_⟩
  · intro i e hi j y hj
    match i, hi with
    | 0, hi =>
      simp at hi; subst hi
      obtain ⟨k3, q, k4, k5⟩ := k2 j y hj
      exact ⟨k3, q, by simpa using k4, k5⟩
    | n + 1, hi => simp at hi
  · have := VA.ref (w := w.alloc (.cells u.cells T)) (R := R) (ι := upd ι o (w.heap.size, x.size)) (mk := mark (setAt o (.row [x]) S.heap)) (o := o) (i := 0) (off := 0) (b := w.heap.size) (s := x.size) upd_same (by rw [mark_setAt])
    simpa using this
def clr (ι : Inj) (o : Nat) : Inj := fun q => if q = o then none else ι q
theorem clr_same {o : Nat} : clr ι o o = none := by simp [clr]
theorem clr_ne {o q : Nat} (h : q ≠ o) : clr ι o q = ι q := by simp [clr, h]
theorem Rel.newNone (h : Rel C S a w ι R) {o n : Nat} (hu : unref o S) : Rel C ⟨S.env, setAt o (.acc n) S.heap⟩ a w (clr ι o) R := by
  have hst : ∀ p, p ≠ o → Step w w ι (clr ι o) (mark S.heap) (mark (setAt o (.acc n) S.heap)) p := fun p hp => Step.other (clr_ne hp) (mark_setAt_ne hp) fun _ _ _ => rfl
  refine h.change rfl rfl rfl (Nat.le_refl _) (fun _ _ => Blk.of_eq rfl) (fun _ _ => rfl) (fun _ h => h) h.rlt h.rok (fun _ _ => rfl) ?_ ?_ ?_ ?_
  · intro q b s hq
    by_cases e : q = o
    · subst e; rw [clr_same] at hq; cases hq
    · rw [clr_ne e] at hq; exact h.own q b s hq
  · intro q q' b s s' h1 h2
    by_cases e : q = o
    · subst e; rw [clr_same] at h1; cases h1
    · by_cases e' : q' = o
      · subst e'; rw [clr_same] at h2; cases h2
      · rw [clr_ne e] at h1; rw [clr_ne e'] at h2; exact h.inj _ _ _ _ _ h1 h2
  · intro p hp
    refine hst p fun e => ?_
    subst e; rw [hu.1] at hp; cases hp
  · intro q ob hq
    rcases setAt_mem hq with hq | ⟨hq1, hne⟩
    · cases hq; exact .accN clr_same
    · refine (h.heap q ob hq1).mono (fun _ h => h) (fun _ _ => rfl) (fun b s hb => ⟨by rw [clr_ne hne, hb], rfl, fun h => h⟩) (fun h0 => by rw [clr_ne hne, h0]) fun p hp => ?_
      refine hst p fun e => ?_
      subst e
      have := refsHeap_mem (l := S.heap) hq1 hu.2
      rw [hp] at this; cases this
theorem idx_inv {mk : Nat → Option Nat} {x : AV} {k : Int} {u : Value} (h : VA w R ι mk x u) (hx : idxOf x = some k) : ∃ kd, u = .int kd k := by
  cases x with
  | d y => cases y with
    | int kd n => simp only [idxOf, Option.some.injEq] at hx; subst hx; exact ⟨kd, h.int_inv.1⟩
    | _ => simp [idxOf] at hx
  | _ => simp [idxOf] at hx
theorem sliceBound_ok {mk : Nat → Option Nat} {x : AV} {k : Int} {u : Value} {y : Nat} {code : BoundsCode} (h : VA w R ι mk x u) (hx : idxOf x = some k) (h0 : 0 ≤ k) (hy : k ≤ y) (w' : World) :
    (Instr.sliceBound u y code).run P w' = .ok k.toNat w' := by
  obtain ⟨kd, rfl⟩ := idx_inv h hx
  simp [Instr.sliceBound, asIntOf, h0, hy]
def VAo (w : World) (R : Nat → Prop) (ι : Inj) (mk : Nat → Option Nat) : Option AV → Option Value → Prop
  | none, none => True
  | some x, some u => VA w R ι mk x u
  | _, _ => False
theorem bound_spec {x : Option AV} {d y k : Nat} (h : bound x d y = some k) : (x = none ∧ k = d) ∨ ∃ v i, x = some v ∧ idxOf v = some i ∧ 0 ≤ i ∧ i ≤ y ∧ k = i.toNat := by
  cases x with
  | none => simp only [bound, Option.some.injEq] at h; exact .inl ⟨rfl, h.symm⟩
  | some v =>
    simp only [bound] at h
    obtain ⟨i, h1, h2⟩ := Option.bind_eq_some_iff.1 h
    split at h2
    · rename_i h3; cases h2; exact .inr ⟨v, i, rfl, h1, h3.1, h3.2, rfl⟩
    · cases h2
theorem sliceBounds_ok {mk : Nat → Option Nat} {lo hi mx : Option AV} {ulo uhi umx : Option Value} {len cap l h : Nat} (hlo : VAo w R ι mk lo ulo) (hhi : VAo w R ι mk hi uhi) (hmx : VAo w R ι mk mx umx)
    (hb1 : bound hi len len = some h) (hb2 : bound lo 0 h = some l) (hlc : len ≤ cap) (hm : ∀ m, mx = some m → idxOf m = some (h : Int) ∧ hi ≠ none) (isSlice : Bool) (w' : World) :
    h ≤ len ∧ l ≤ h ∧ (Instr.sliceBounds isSlice len cap ulo uhi umx).run P w' = .ok (l, h, if mx = none then cap else h) w' := by
  have e1 : h ≤ len := by
    rcases bound_spec hb1 with ⟨_, rfl⟩ | ⟨v, i, _, _, h1, h2, rfl⟩ <;> omega
  have e2 : l ≤ h := by
    rcases bound_spec hb2 with ⟨_, rfl⟩ | ⟨v, i, _, _, h1, h2, rfl⟩ <;> omega
  refine ⟨e1, e2, ?_⟩
  have fM : ∀ m u, mx = some m → umx = some u → ∀ code, (Instr.sliceBound u cap code).run P w' = .ok h w' := fun m u h1 h2 code => by
    subst h1 h2
    have := hm m rfl
    have := sliceBound_ok (P := P) (code := code) (y := cap) hmx this.1 (by omega) (by omega) w'
    simpa using this
  have fH : ∀ v u (y : Nat), hi = some v → uhi = some u → h ≤ y → ∀ code, (Instr.sliceBound u y code).run P w' = .ok h w' := fun v u y h1 h2 h3 code => by
    subst h1 h2
    rcases bound_spec hb1 with ⟨h4, _⟩ | ⟨v', i, h4, h5, h6, h7, rfl⟩
    · cases h4
    · cases h4
      exact sliceBound_ok (P := P) (code := code) (y := y) hhi h5 h6 (by omega) w'
  have fL : ∀ v u, lo = some v → ulo = some u → ∀ code, (Instr.sliceBound u h code).run P w' = .ok l w' := fun v u h1 h2 code => by
    subst h1 h2
    rcases bound_spec hb2 with ⟨h4, _⟩ | ⟨v', i, h4, h5, h6, h7, rfl⟩
    · cases h4
    · cases h4
      exact sliceBound_ok (P := P) (code := code) (y := h) hlo h5 h6 (by omega) w'
  have zH : hi = none → h = len := fun e => by rcases bound_spec hb1 with ⟨_, h⟩ | ⟨v, _, h, _⟩; exact h; rw [e] at h; cases h
  have zL : lo = none → l = 0 := fun e => by rcases bound_spec hb2 with ⟨_, h⟩ | ⟨v, _, h, _⟩; exact h; rw [e] at h; cases h
  cases mx with
  | none =>
    cases umx with
    | some _ => exact hmx.elim
    | none =>
      cases hi with
      | none =>
        cases uhi with
        | some _ => exact hhi.elim
        | none =>
          have := zH rfl; subst this
          cases lo with
          | none => cases ulo with
            | some _ => exact hlo.elim
            | none => have := zL rfl; subst this; simp [Instr.sliceBounds]
          | some v => cases ulo with
            | none => exact hlo.elim
            | some u => simp [Instr.sliceBounds, fL v u rfl rfl]
      | some v1 =>
        cases uhi with
        | none => exact hhi.elim
        | some u1 =>
          have f1 := fH v1 u1 cap rfl rfl (by omega)
          cases lo with
          | none => cases ulo with
            | some _ => exact hlo.elim
            | none => have := zL rfl; subst this; simp [Instr.sliceBounds, f1]
          | some v => cases ulo with
            | none => exact hlo.elim
            | some u => simp [Instr.sliceBounds, f1, fL v u rfl rfl]
  | some m =>
    cases umx with
    | none => exact hmx.elim
    | some um =>
      have f0 := fM m um rfl rfl
      cases hi with
      | none => exact absurd rfl (hm m rfl).2
      | some v1 =>
        cases uhi with
        | none => exact hhi.elim
        | some u1 =>
          have f1 := fH v1 u1 h rfl rfl (Nat.le_refl _)
          cases lo with
          | none => cases ulo with
            | some _ => exact hlo.elim
            | none => have := zL rfl; subst this; simp [Instr.sliceBounds, f0, f1]
          | some v => cases ulo with
            | none => exact hlo.elim
            | some u => simp [Instr.sliceBounds, f0, f1, fL v u rfl rfl]
end Go.Sim

namespace Go.Sim
open Go (World Value Addr TypeId Act)
variable {P : Program} {C : Ctx} {S : St} {a : Act} {w : World} {ι : Inj} {R : Nat → Prop}
theorem allSize_spec {n : Nat} {es : List D} (h : allSize n es = true) : ∀ e ∈ es, e.size = n := by
  intro e he
  have := List.all_eq_true.1 h e he
  simpa using this
theorem cut_get {es : List D} {l h i : Nat} {e : D} (hi : ((es.take h).drop l)[i]? = some e) : es[l + i]? = some e ∧ l + i < h := by
  rw [List.getElem?_drop] at hi
  have hlt : l + i < h := by have := (List.getElem?_eq_some_iff.1 hi).1; simp at this; omega
  rw [List.getElem?_take_of_lt hlt] at hi
  exact ⟨hi, hlt⟩
theorem cut_mem {es : List D} {l h : Nat} {e : D} (he : e ∈ (es.take h).drop l) : e ∈ es := List.mem_of_mem_take (List.mem_of_mem_drop he)
theorem cut_len {es : List D} {l h : Nat} (hh : h ≤ es.length) : ((es.take h).drop l).length = h - l := by simp; omega
theorem Rd.cut {es : List D} {ao : Option Addr} {cap n l h m : Nat} (hr : Rd w R (.v (.sl es) (.slice ao es.length cap))) (hz : ∀ e ∈ es, e.size = n) (hh : h ≤ es.length) (hlh : l ≤ h) (hm : h ≤ m) :
    Rd w R (.v (.sl ((es.take h).drop l)) (.slice (if m = l then ao else ao.map (·.add (l * n))) (h - l) (m - l))) := by
  by_cases h0 : h = l
  · subst h0
    have : (es.take h).drop h = [] := by simp
    rw [this, Nat.sub_self]; exact .sl0
  · have hne : es ≠ [] := by rintro rfl; simp at hh; omega
    obtain ⟨b, off, s, cap', he, hR, hs, hl, hc, hsz, hel⟩ := hr.sl_inv hne
    cases he
    obtain ⟨e0, he0⟩ : ∃ e, e ∈ es := List.exists_mem_of_ne_nil _ hne
    have hns : s = n := by rw [← hsz e0 he0]; exact hz e0 he0
    subst hns
    rw [if_neg (by omega)]
    have hlen := cut_len (es := es) (l := l) hh
    have key := Rd.sl (w := w) (R := R) (es := (es.take h).drop l) (b := b) (off := off + l * s) (s := s) (cap := m - l) hR (by intro e; rw [e] at hlen; simp at hlen; omega) hs (by omega) (by omega)
      (fun e he => hsz e (cut_mem he)) (fun i e hi => by
        obtain ⟨h1, _⟩ := cut_get hi
        have := hel _ _ h1
        rwa [show off + l * s + i * s = off + (l + i) * s by rw [Nat.add_mul]; omega])
    rw [hlen] at key
    simpa [Addr.add_mid] using key
theorem slice_run {t e : TypeId} {n : Nat} {ao : Option Addr} {len cap l h m : Nat} {ulo uhi umx : Option Value} (hu : P.underlying t = some (.slice e)) (hn : sizeT P e = some n)
    (hb : (Instr.sliceBounds true len cap ulo uhi umx).run P w = .ok (l, h, m) w) :
    (Instr.sliceAt t (.slice ao len cap) ulo uhi umx).run P w = .ok (.slice (if m = l then ao else ao.map (·.add (l * n))) (h - l) (m - l)) w := by
  simp only [Instr.sliceAt, Sem.run_bind, run_underlying hu, Result.andThen_ok, Instr.slice, hb, sizeT_run hn, Sem.run_pure]
theorem slcA_ok {mk : Nat → Option Nat} {t e : TypeId} {n : Nat} {x v : AV} {u : Value} {lo hi mx : Option AV} {ulo uhi umx : Option Value} (hr : Rel C S a w ι R) (hmk : mk = mark S.heap) (h : VA w R ι mk x u)
    (hlo : VAo w R ι mk lo ulo) (hhi : VAo w R ι mk hi uhi) (hmx : VAo w R ι mk mx umx) (hp : slcA S.heap n lo hi mx x = some v) (hu : P.underlying t = some (.slice e)) (hn : sizeT P e = some n) :
    ∃ u', (Instr.sliceAt t u ulo uhi umx).run P w = .ok u' w ∧ VA w R ι mk v u' := by
  have hsl : ∀ (es : List D) (h l : Nat), bound hi es.length es.length = some h → bound lo 0 h = some l → ∀ cap, es.length ≤ cap → (∀ m, mx = some m → idxOf m = some (h : Int) ∧ hi ≠ none) →
      h ≤ es.length ∧ l ≤ h ∧ ∀ ao, (Instr.sliceAt t (.slice ao es.length cap) ulo uhi umx).run P w = .ok (.slice (if (if mx = none then cap else h) = l then ao else ao.map (·.add (l * n))) (h - l) ((if mx = none then cap else h) - l)) w := by
    intro es h l h1 h2 cap hc hm
    obtain ⟨k1, k2, k3⟩ := sliceBounds_ok (P := P) hlo hhi hmx h1 h2 hc hm true w
    exact ⟨k1, k2, fun ao => slice_run hu hn k3⟩
  cases x with
  | d y =>
    cases y with
    | sl es =>
      simp only [slcA] at hp
      split at hp
      · rename_i hz
        obtain ⟨hh, h1, hp⟩ := Option.bind_eq_some_iff.1 hp
        obtain ⟨l, h2, hp⟩ := Option.bind_eq_some_iff.1 hp
        obtain ⟨ao, cap, rfl, hc, hL⟩ := h.of_d.sl_len
        have hz := allSize_spec hz
        split at hp
        · cases hp
          obtain ⟨k1, k2, k3⟩ := hsl es hh l h1 h2 cap hc (fun m hm => by cases hm)
          exact ⟨_, k3 ao, .d (h.of_d.cut hz k1 k2 (by simp; omega))⟩
        · rename_i m
          split at hp
          · rename_i hm; cases hp
            obtain ⟨k1, k2, k3⟩ := hsl es hh l h1 h2 cap hc (fun m' hm' => by cases hm'; exact ⟨hm.1, by intro e; simp [e] at hm⟩)
            refine ⟨_, k3 ao, ?_⟩
            simp only [reduceCtorEq, if_false]
            exact .xsl (h.of_d.cut hz k1 k2 (Nat.le_refl _))
          · cases hp
      · cases hp
    | _ => simp [slcA] at hp
  | xsl es =>
    simp only [slcA] at hp
    split at hp
    · rename_i hz
      obtain ⟨hh, h1, hp⟩ := Option.bind_eq_some_iff.1 hp
      obtain ⟨l, h2, hp⟩ := Option.bind_eq_some_iff.1 hp
      cases h with
      | @xsl _ ao k h =>
        obtain ⟨ao', cap, he, hc, hL⟩ := h.sl_len
        cases he
        have hz := allSize_spec hz
        split at hp
        · cases hp
          obtain ⟨k1, k2, k3⟩ := hsl es hh l h1 h2 es.length hc (fun m hm => by cases hm)
          refine ⟨_, k3 ao, ?_⟩
          have := h.cut hz k1 k2 k1
          simp only [if_true]
          split
          · rename_i e; subst e; exact .xsl this
          · exact .d this
        · rename_i m
          split at hp
          · rename_i hm; cases hp
            obtain ⟨k1, k2, k3⟩ := hsl es hh l h1 h2 es.length hc (fun m' hm' => by cases hm'; exact ⟨hm.1, by intro e; simp [e] at hm⟩)
            refine ⟨_, k3 ao, ?_⟩
            simp only [reduceCtorEq, if_false]
            exact .xsl (h.cut hz k1 k2 (Nat.le_refl _))
          · cases hp
    · cases hp
  | acc o es =>
    simp only [slcA] at hp
    split at hp
    · rename_i hz
      obtain ⟨hh, h1, hp⟩ := Option.bind_eq_some_iff.1 hp
      obtain ⟨l, h2, hp⟩ := Option.bind_eq_some_iff.1 hp
      split at hp
      · rename_i hl0; subst hl0
        have hv : v = .acc o (es.take hh) ∧ ∀ m, mx = some m → idxOf m = some (hh : Int) ∧ hi ≠ none := by
          split at hp
          · cases hp; exact ⟨rfl, fun m hm => by cases hm⟩
          · split at hp
            · rename_i hm; cases hp; exact ⟨rfl, fun m' hm' => by cases hm'; exact ⟨hm.1, by intro e; simp [e] at hm⟩⟩
            · cases hp
        obtain ⟨rfl, hm⟩ := hv
        have tk : ∀ {i : Nat} {e : D}, (es.take hh)[i]? = some e → es[i]? = some e := fun {i e} hi => by
          have hlt : i < hh := by have := (List.getElem?_eq_some_iff.1 hi).1; simp at this; omega
          rwa [List.getElem?_take_of_lt hlt] at hi
        have fin : ∀ (b off cap : Nat), es.length ≤ cap → (∀ cap', hh ≤ cap' → cap' ≤ cap → (mx = none → cap' = cap) → (mx ≠ none → cap' = hh) → VA w R ι mk (.acc o (es.take hh)) (.slice (some ⟨b, off, none⟩) hh cap')) →
            ∃ u', (Instr.sliceAt t (.slice (some ⟨b, off, none⟩) es.length cap) ulo uhi umx).run P w = .ok u' w ∧ VA w R ι mk (.acc o (es.take hh)) u' := by
          intro b off cap hc hk
          obtain ⟨k1, k2, k3⟩ := hsl es hh 0 h1 h2 cap hc hm
          refine ⟨_, k3 _, ?_⟩
          have e1 : (if (if mx = none then cap else hh) = 0 then (some ⟨b, off, none⟩ : Option Addr) else (some ⟨b, off, none⟩ : Option Addr).map (·.add (0 * n))) = some ⟨b, off, none⟩ := by
            split <;> simp [Addr.add]
          rw [e1, Nat.sub_zero, Nat.sub_zero]
          refine hk _ ?_ ?_ ?_ ?_
          · split <;> omega
          · split <;> omega
          · intro e; rw [if_pos e]
          · intro e; rw [if_neg e]
        have hlen : hh ≤ es.length := by rcases bound_spec h1 with ⟨_, rfl⟩ | ⟨v, i, _, _, _, h2, rfl⟩ <;> omega
        have htl : (es.take hh).length = hh := by simp; omega
        cases h with
        | accR hR hs hL hl hsz hh' hm' =>
          refine fin _ _ _ hl fun cap' c1 c2 c3 c4 => ?_
          have := VA.accR (w := w) (R := R) (ι := ι) (mk := mk) (o := o) (es := es.take hh) (cap := cap') hR hs (by omega) (by omega) (fun e he => hsz e (List.mem_of_mem_take he)) (fun i e hi => hh' i e (tk hi)) (fun m hmm => by have := hm' m hmm; omega)
          rwa [htl] at this
        | @accC _ b s m cap _ c T hι hmk' hm' hL hl hsz hb hc hh' =>
          refine fin _ _ _ hl fun cap' c1 c2 c3 c4 => ?_
          have := VA.accC (w := w) (R := R) (ι := ι) (mk := mk) (o := o) (es := es.take hh) (cap := cap') hι hmk' (by omega) (by omega) (by omega) (fun e he => hsz e (List.mem_of_mem_take he)) hb
            (Nat.le_trans (Nat.mul_le_mul_right _ c2) hc) (fun i e hi => hh' i e (tk hi))
          rwa [htl] at this
        | acc0 =>
          obtain ⟨k1, k2, k3⟩ := hsl [] hh 0 h1 h2 0 (by simp) hm
          have h0 : hh = 0 := by simp at hlen; exact hlen
          subst h0
          refine ⟨_, k3 _, ?_⟩
          have : (if mx = none then 0 else 0) = 0 := by split <;> rfl
          rw [this]; simp only [if_true, Nat.sub_zero, List.take_nil]
          exact .acc0
      · cases hp
    · cases hp
  | osl o off len =>
    simp only [slcA] at hp
    split at hp
    · obtain ⟨hh, h1, hp⟩ := Option.bind_eq_some_iff.1 hp
      obtain ⟨l, h2, hp⟩ := Option.bind_eq_some_iff.1 hp
      split at hp
      · rename_i es hes
        split at hp
        · rename_i hl; cases hp
          cases h with
          | osl0 =>
            obtain ⟨k1, k2, k3⟩ := sliceBounds_ok (P := P) (cap := 0) hlo hhi hmx h1 h2 (Nat.le_refl _) (fun m hm => by cases hm) true w
            refine ⟨_, slice_run hu hn k3, ?_⟩
            have e1 : hh = 0 := by omega
            have e2 : l = 0 := by omega
            subst e1 e2
            simp only [if_true, Nat.sub_zero, Nat.sub_self]
            exact .osl0
          | @osl _ _ _ cap b s c T hι hmk0 hb hlc hc hL =>
            obtain ⟨k1, k2, k3⟩ := sliceBounds_ok (P := P) (cap := cap) hlo hhi hmx h1 h2 hlc (fun m hm => by cases hm) true w
            refine ⟨_, slice_run hu hn k3, ?_⟩
            simp only [if_true]
            by_cases hcl : cap = l
            · rw [if_pos hcl]
              have e1 : hh - l = 0 := by omega
              have e2 : cap - l = 0 := by omega
              rw [e1, e2]; exact .osl0
            · rw [if_neg hcl]
              have hns : l * n = l * s := by
                rcases hl with rfl | hl
                · simp
                · cases es with
                  | nil => simp at hl
                  | cons e0 es' =>
                    simp only [List.head?_cons, Option.map_some, Option.some.injEq] at hl
                    have hob := hr.heap _ _ (look_mem hes)
                    cases hob with
                    | row hι' _ _ _ hsz _ _ =>
                      rw [hι] at hι'; cases hι'
                      rw [← hl, hsz e0 (.head _)]
              simp only [Option.map_some, Addr.add_mid]
              rw [hns, show off * s + l * s = (off + l) * s by rw [Nat.add_mul]]
              refine .osl hι hmk0 hb (by omega) ?_ (by omega)
              rwa [show off + l + (cap - l) = off + cap by omega]
        · cases hp
      · cases hp
    · cases hp
  | _ => simp [slcA] at hp
def CellsOf (w : World) (R : Nat → Prop) (n : Nat) (ys : List D) (news : List Value) : Prop :=
  news.length = ys.length * n ∧ ∀ (i : Nat) (e : D), ys[i]? = some e → ∀ (j : Nat) (c : D), e.cells[j]? = some c → c.cell = true ∧ ∃ q, news[i * n + j]? = some q ∧ Rd w R (.v c q)
theorem elems_cells {n b off : Nat} {ys : List D} (hn : 0 < n) (hz : ∀ e ∈ ys, e.size = n) (h : ∀ (i : Nat) (e : D), ys[i]? = some e → Rd w R (.el e b (off + i * n))) :
    ∃ news, CellsOf w R n ys news ∧ w.rangeAt b off news := by
  obtain ⟨qs, hl, hr, hq⟩ := choose_cells (w := w) (b := b) (off := off) (n := ys.length * n) (Q := fun j q => ∀ e c, ys[j / n]? = some e → e.cells[j % n]? = some c → c.cell = true ∧ Rd w R (.v c q)) fun j hj => by
    have h1 : j / n < ys.length := by rw [Nat.div_lt_iff_lt_mul hn]; exact hj
    have he : ys[j / n]? = some ys[j / n] := List.getElem?_eq_getElem h1
    have h2 : j % n < (ys[j / n]).cells.length := by
      have := hz _ (List.getElem_mem h1); unfold D.size at this; rw [this]; exact Nat.mod_lt _ hn
    have hc : (ys[j / n]).cells[j % n]? = some (ys[j / n]).cells[j % n] := List.getElem?_eq_getElem h2
    obtain ⟨k1, q, k2, k3⟩ := (h _ _ he).v_of_cells _ _ hc
    refine ⟨q, ?_, fun e c h3 h4 => by rw [he] at h3; cases h3; rw [hc] at h4; cases h4; exact ⟨k1, k3⟩⟩
    rw [← k2]; congr 2
    have := Nat.div_add_mod j n
    rw [Nat.mul_comm] at this; omega
  refine ⟨qs, ⟨hl, fun i e hi j c hc => ?_⟩, hr⟩
  have hi' : i < ys.length := (List.getElem?_eq_some_iff.1 hi).1
  have hj' : j < n := by have := (List.getElem?_eq_some_iff.1 hc).1; have h2 := hz e (List.mem_of_getElem? hi); unfold D.size at h2; omega
  have hlt : i * n + j < qs.length := by
    rw [hl]
    have : (i + 1) * n ≤ ys.length * n := Nat.mul_le_mul_right _ hi'
    rw [Nat.succ_mul] at this; omega
  have hd : (i * n + j) / n = i := by rw [Nat.mul_comm, Nat.mul_add_div hn, Nat.div_eq_of_lt hj']; rfl
  have hm : (i * n + j) % n = j := by rw [Nat.mul_comm, Nat.mul_add_mod, Nat.mod_eq_of_lt hj']
  have hx := List.getElem?_eq_getElem hlt
  obtain ⟨k1, k2⟩ := hq _ _ hx e c (by rw [hd]; exact hi) (by rw [hm]; exact hc)
  exact ⟨k1, _, hx, k2⟩
theorem CellsOf.one {n : Nat} {ys : List D} {news : List Value} (h : CellsOf w R n ys news) (hn : 0 < n) (hz : ∀ e ∈ ys, e.size = n) : ∀ u ∈ news, u.oneCell' = true := by
  intro u hu
  obtain ⟨j, hj⟩ := List.getElem?_of_mem hu
  have hlt := (List.getElem?_eq_some_iff.1 hj).1
  rw [h.1] at hlt
  have h1 : j / n < ys.length := by rw [Nat.div_lt_iff_lt_mul hn]; exact hlt
  have he : ys[j / n]? = some ys[j / n] := List.getElem?_eq_getElem h1
  have h2 : j % n < (ys[j / n]).cells.length := by
    have := hz _ (List.getElem_mem h1); unfold D.size at this; rw [this]; exact Nat.mod_lt _ hn
  obtain ⟨k1, q, k2, k3⟩ := h.2 _ _ he _ _ (List.getElem?_eq_getElem h2)
  have hjj : j / n * n + j % n = j := by rw [Nat.mul_comm]; exact Nat.div_add_mod j n
  rw [hjj, hj] at k2
  cases k2
  exact one_of_va (mk := fun _ => none) (ι := fun _ => none) (.d k3) k1
theorem allD_get {xs : List AV} {ds : List D} (h : allD xs = some ds) {i : Nat} {d : D} (hi : ds[i]? = some d) : xs[i]? = some (.d d) := by
  rw [allD_spec h, List.getElem?_map, hi]; rfl
theorem srcD_ok {n : Nat} {tx e' : TypeId} {y : AV} {u : Value} {ys : List D} (hr : Rel C S a w ι R) (h : VA w R ι (mark S.heap) y u) (hs : srcD S.heap y = some ys) (hn : 0 < n) (hz : ∀ e ∈ ys, e.size = n)
    (hk : P.underlying tx = some (.slice e')) : ∃ news, Src P n tx u ys.length news w ∧ CellsOf w R n ys news := by
  have slice : ∀ (es : List D) (b off cap : Nat), u = .slice (some ⟨b, off, none⟩) es.length cap → (∀ e ∈ es, e.size = n) → (∀ (i : Nat) (e : D), es[i]? = some e → Rd w R (.el e b (off + i * n))) →
      ∃ news, Src P n tx u es.length news w ∧ CellsOf w R n es news := by
    rintro es b off cap rfl hz hh
    obtain ⟨news, h1, h2⟩ := elems_cells hn hz hh
    exact ⟨news, Src.ofSlice w hk _ _ _ _ h1.1 (fun j u hj => by rw [Addr.add_mid]; exact h2 j u hj) (h1.one hn hz), h1⟩
  have nothing : ∀ (ao : Option Addr) (cap : Nat), u = .slice ao 0 cap → ∃ news, Src P n tx u ([] : List D).length news w ∧ CellsOf w R n [] news := by
    rintro ao cap rfl
    have h0 : CellsOf w R n [] [] := ⟨by simp, fun i e hi => by simp at hi⟩
    cases ao with
    | none => exact ⟨[], Src.ofNil w hk cap, h0⟩
    | some b => exact ⟨[], Src.ofSlice w hk b 0 cap [] (by simp) (by simp) (by simp), h0⟩
  have data : ∀ (es : List D), Rd w R (.v (.sl es) u) → (∀ e ∈ es, e.size = n) → ∃ news, Src P n tx u es.length news w ∧ CellsOf w R n es news := by
    intro es hrd hz
    by_cases h0 : es = []
    · subst h0
      obtain ⟨ao, cap, rfl, _, _⟩ := hrd.sl_len
      exact nothing ao cap rfl
    · obtain ⟨b, off, s, cap, hu, hR, hs', hl, hc, hsz, hel⟩ := hrd.sl_inv h0
      obtain ⟨e0, he0⟩ : ∃ e, e ∈ es := List.exists_mem_of_ne_nil _ h0
      have hns : s = n := by rw [← hsz e0 he0]; exact hz e0 he0
      subst hns
      exact slice es b off cap hu hz hel
  cases y with
  | d x =>
    cases x with
    | sl es => simp only [srcD, slD, Option.some.injEq] at hs; subst hs; exact data es h.of_d hz
    | _ => simp [srcD, slD] at hs
  | nl b =>
    simp only [srcD, Option.some.injEq] at hs; subst hs
    cases h with
    | nl1 => exact nothing _ _ rfl
    | nl2 => exact nothing _ _ rfl
  | xsl es =>
    simp only [srcD, slD, Option.some.injEq] at hs; subst hs
    cases h with
    | xsl h => exact data es h hz
  | acc o es =>
    simp only [srcD, slD, Option.some.injEq] at hs; subst hs
    have go : ∀ (b off s cap : Nat), u = .slice (some ⟨b, off, none⟩) es.length cap → (∀ e ∈ es, e.size = s) → (∀ (i : Nat) (e : D), es[i]? = some e → Rd w R (.el e b (off + i * s))) → ∃ news, Src P n tx u es.length news w ∧ CellsOf w R n es news := by
      intro b off s cap hu hsz hh
      by_cases h0 : es = []
      · subst h0; exact nothing _ cap hu
      · obtain ⟨e0, he0⟩ : ∃ e, e ∈ es := List.exists_mem_of_ne_nil _ h0
        have hns : s = n := by rw [← hsz e0 he0]; exact hz e0 he0
        subst hns
        exact slice es b off cap hu hz hh
    cases h with
    | accR hR hs hL hl hsz hh hm => exact go _ _ _ _ rfl hsz hh
    | accC hι hmk hm hL hl hsz hb hc hh => exact go _ 0 _ _ rfl hsz fun i e hi => by rw [Nat.zero_add]; exact hh i e hi
    | acc0 => exact nothing _ 0 rfl
  | osl o off len =>
    simp only [srcD] at hs
    split at hs
    · rename_i es hes
      obtain ⟨ds, hd, hs⟩ := Option.bind_eq_some_iff.1 hs
      split at hs
      · rename_i hlen; cases hs
        cases h with
        | osl0 =>
          have : ys = [] := List.length_eq_zero_iff.1 hlen
          subst this
          exact nothing _ 0 rfl
        | @osl _ _ _ cap b s c T hι hmk0 hb hl hc hL =>
          have hob := hr.heap _ _ (look_mem hes)
          cases hob with
          | row hι' hR hb' hs' hsz _ hcell =>
            rw [hι] at hι'; cases hι'
            rw [hb] at hb'; cases hb'
            by_cases h0 : ys = []
            · subst h0; simp at hlen; subst hlen; exact nothing _ cap rfl
            · have hget : ∀ (i : Nat) (d : D), ys[i]? = some d → es[off + i]? = some (.d d) := fun i d hi => by
                have h1 := allD_get hd hi
                have hlt : i < len := by rw [← hlen]; exact (List.getElem?_eq_some_iff.1 hi).1
                rw [List.getElem?_take_of_lt hlt, List.getElem?_drop] at h1; exact h1
              obtain ⟨e0, he0⟩ : ∃ e, e ∈ ys := List.exists_mem_of_ne_nil _ h0
              obtain ⟨i0, hi0⟩ := List.getElem?_of_mem he0
              have hns : s = n := by
                have h1 := hsz _ (List.mem_of_getElem? (hget i0 e0 hi0))
                have h2 := hz e0 he0
                simp only [AV.size] at h1; omega
              subst hns
              refine slice ys b (off * s) cap (by rw [hlen]) hz fun i d hi => ?_
              have hd' := hget i d hi
              have htup : ∀ vs, d ≠ .tup vs := fun vs e => by
                subst e
                have := (hcell _ _ hd' 0 (.d (.tup vs)) rfl).1
                simp [AV.cell, D.cell] at this
              refine Rd.el_of_cells htup fun j c' hj => ?_
              obtain ⟨k1, q, k2, k3⟩ := hcell _ _ hd' j (.d c') (by simp [AV.cells, hj])
              refine ⟨k1, q, ?_, k3.of_d⟩
              rw [cell_of hb, ← k2]
              congr 1
              rw [Nat.add_mul]
      · cases hs
    · cases hs
  | _ => simp [srcD, slD] at hs
end Go.Sim

namespace Go.Sim
open Go (World Value Addr TypeId Act)
variable {P : Program} {C : Ctx} {S : St} {a : Act} {w : World} {ι : Inj} {R : Nat → Prop}
theorem CellsOf.append {n : Nat} {es ys : List D} {olds news : List Value} (h1 : CellsOf w R n es olds) (h2 : CellsOf w R n ys news) (hz : ∀ e ∈ es ++ ys, e.size = n) : CellsOf w R n (es ++ ys) (olds ++ news) := by
  refine ⟨by simp [h1.1, h2.1, Nat.add_mul], fun i e hi j c hc => ?_⟩
  have hj : j < n := by
    have := hz e (List.mem_of_getElem? hi)
    have h3 := (List.getElem?_eq_some_iff.1 hc).1
    unfold D.size at this; omega
  by_cases hlt : i < es.length
  · rw [List.getElem?_append_left hlt] at hi
    obtain ⟨k1, q, k2, k3⟩ := h1.2 i e hi j c hc
    exact ⟨k1, q, by rw [List.getElem?_append_left (List.getElem?_eq_some_iff.1 k2).1]; exact k2, k3⟩
  · rw [List.getElem?_append_right (by omega)] at hi
    obtain ⟨k1, q, k2, k3⟩ := h2.2 _ e hi j c hc
    refine ⟨k1, q, ?_, k3⟩
    have : (i - es.length) * n + es.length * n = i * n := by rw [← Nat.add_mul]; congr 1; omega
    rw [List.getElem?_append_right (by rw [h1.1]; omega), h1.1, ← k2]
    congr 1; omega
theorem CellsOf.el {w' : World} {R' : Nat → Prop} {n b off : Nat} {es : List D} {cs : List Value} (h : CellsOf w R n es cs) (hz : ∀ e ∈ es, e.size = n) (hn : 0 < n) (hR : ∀ b, R b → R' b) (hw : Keeps R w w')
    (hr : ∀ j v, cs[j]? = some v → w'.cell? ⟨b, off + j, none⟩ = some v) (i : Nat) (e : D) (hi : es[i]? = some e) : Rd w' R' (.el e b (off + i * n)) := by
  refine Rd.el_of_cells (fun vs hvs => ?_) fun j c hc => ?_
  · subst hvs
    have h1 := (h.2 i _ hi 0 (.tup vs) rfl).1
    simp [D.cell] at h1
  · obtain ⟨k1, q, k2, k3⟩ := h.2 i e hi j c hc
    refine ⟨k1, q, ?_, k3.mono_v hR hw⟩
    rw [Nat.add_assoc]; exact hr _ _ k2
theorem olds_of {n : Nat} {es : List D} {ao : Option Addr} {cap : Nat} (h : Rd w R (.v (.sl es) (.slice ao es.length cap))) (hn : 0 < n) (hz : ∀ e ∈ es, e.size = n) :
    ∃ olds, CellsOf w R n es olds ∧ (Builtin.firstCells n es.length (.slice ao es.length cap)).run P w.drew = .ok olds.toArray w.drew := by
  by_cases h0 : es = []
  · subst h0
    refine ⟨[], ⟨by simp, fun i e hi => by simp at hi⟩, ?_⟩
    cases ao with
    | none => exact run_firstCells_none w.drew n 0 0 cap
    | some b => exact run_firstCells_some w.drew n 0 b 0 cap [] (by simp) (by simp)
  · obtain ⟨b, off, s, cap', he, hR, hs, hl, hc, hsz, hel⟩ := h.sl_inv h0
    cases he
    obtain ⟨e0, he0⟩ : ∃ e, e ∈ es := List.exists_mem_of_ne_nil _ h0
    have hns : s = n := by rw [← hsz e0 he0]; exact hz e0 he0
    subst hns
    obtain ⟨olds, h1, h2⟩ := elems_cells hn hz hel
    exact ⟨olds, h1, run_firstCells_some w.drew s es.length _ es.length cap olds h1.1 (fun j v hj => by rw [Addr.add_mid]; exact h2 j v hj)⟩
theorem olds_at {n b : Nat} {es : List D} {cap : Nat} (h : ∀ (i : Nat) (e : D), es[i]? = some e → Rd w R (.el e b (i * n))) (hn : 0 < n) (hz : ∀ e ∈ es, e.size = n) :
    ∃ olds, CellsOf w R n es olds ∧ w.rangeAt b 0 olds ∧ (Builtin.firstCells n es.length (.slice (some ⟨b, 0, none⟩) es.length cap)).run P w.drew = .ok olds.toArray w.drew := by
  obtain ⟨olds, h1, h2⟩ := elems_cells (w := w) (R := R) (b := b) (off := 0) hn hz (fun i e hi => by rw [Nat.zero_add]; exact h i e hi)
  exact ⟨olds, h1, h2, run_firstCells_some w.drew n es.length _ es.length cap olds h1.1 (fun j v hj => by rw [Addr.add_mid]; exact h2 j v hj)⟩
theorem rd_drew {it : It} (h : Rd w R it) : Rd w.drew R it := h.mono (fun _ h => h) (fun _ _ => rfl) (by cases it with | v => trivial | el x b off => exact fun j _ => rfl)
theorem CellsOf.drew {n : Nat} {es : List D} {cs : List Value} (h : CellsOf w R n es cs) : CellsOf w.drew R n es cs :=
  ⟨h.1, fun i e hi j c hc => let ⟨k1, q, k2, k3⟩ := h.2 i e hi j c hc; ⟨k1, q, k2, rd_drew k3⟩⟩
theorem Rel.newAcc (h : Rel C S a w ι R) {o n cap : Nat} {es : List D} {cs : List Value} {zs : Array Value} (T : TypeId) (hu : unref o S) (hn : 0 < n) (hc : CellsOf w R n es cs) (hz : ∀ e ∈ es, e.size = n)
    (h0 : 0 < es.length) (hL : es.length ≤ LIM) (hcap : es.length ≤ cap) (hsz : cap * n ≤ (cs.toArray ++ zs).size) :
    Rel C ⟨S.env, setAt o (.acc es.length) S.heap⟩ a (w.alloc (.cells (cs.toArray ++ zs) T)) (upd ι o (w.heap.size, n)) R ∧
    VA (w.alloc (.cells (cs.toArray ++ zs) T)) R (upd ι o (w.heap.size, n)) (mark (setAt o (.acc es.length) S.heap)) (.acc o es) (.slice (some ⟨w.heap.size, 0, none⟩) es.length cap) := by
  have hb := heap_alloc_new w (.cells (cs.toArray ++ zs) T)
  refine ⟨h.new _ T hu (.acc h0 upd_same (fun hR => by have := h.rlt _ hR; omega) hb hn (by
    have : es.length * n ≤ cap * n := Nat.mul_le_mul_right _ hcap
    omega)), ?_⟩
  refine .accC upd_same (by rw [mark_setAt]) (Nat.le_refl _) hL hcap hz hb hsz fun i e hi => ?_
  have := hc.el (w' := w.alloc (.cells (cs.toArray ++ zs) T)) (R' := R) (b := w.heap.size) (off := 0) hz hn (fun _ h => h) (Keeps.alloc h _) (fun j v hj => by
    rw [cell_of hb, Nat.zero_add, Array.getElem?_append_left (by simpa using (List.getElem?_eq_some_iff.1 hj).1)]
    simpa using hj) i e hi
  rwa [Nat.zero_add] at this
theorem constV_size {v : Value} {x : AV} (h : constV v = some x) : x.size = v.cells.size := by
  unfold constV at h
  split at h
  · obtain ⟨ds, h1, h2⟩ := Option.map_eq_some_iff.1 h
    subst h2
    rw [(mkAgg_cells ds).2, (mapM_get h1).1]; simp [Value.cells]
  · rename_i v' hv
    have h1 : v.cells.size = 1 := by
      cases v <;> first | rfl | (rename_i cs; exact absurd rfl (hv cs))
    rw [h1]
    have := (cell1_ok h ⟨#[], fun _ _ => 0, 0, default, #[]⟩ (fun _ => False) (fun _ => none) (fun _ => none)).2
    cases x with
    | d y => exact D.size_cell this
    | agg => simp [AV.cell] at this
    | _ => rfl
theorem zeroCells_size (z : Array Value) (k : Nat) : (Builtin.zeroCells z k).size = k * z.size := by simp [Builtin.zeroCells]
theorem grown_ge (need old : Nat) (e : TypeId) : need ≤ grownCap w need old e := by
  exact Nat.le_add_right _ _
theorem VA.regrow {w' : World} {o m m' nb n bo so : Nat} {mk mk' : Nat → Option Nat} {R' : Nat → Prop} {x : AV} {u : Value} (h : VA w R ι mk x u) (hmo : mk o = some m) (hm' : mk' o = some m') (hlt : m < m') (hmk : ∀ p, p ≠ o → mk' p = mk p)
    (hR : ∀ b, R b → R' b) (hw : Keeps R w w') (hold : ∀ b s, ι o = some (b, s) → R' b ∧ 0 < s) (hheap : ∀ p b s, ι p = some (b, s) → w'.heap[b]? = w.heap[b]?) : VA w' R' (upd ι o (nb, n)) mk' x u := by
  have ne : ∀ {p : Nat}, mk p = none → p ≠ o := fun {p} h e => by subst e; rw [hmo] at h; cases h
  induction h with
  | d h => exact .d (h.mono_v hR hw)
  | ref h hk => exact .ref (by rw [upd_ne (ne hk)]; exact h) (by rw [hmk _ (ne hk)]; exact hk)
  | osl h hk hb hl hc hL => exact .osl (by rw [upd_ne (ne hk)]; exact h) (by rw [hmk _ (ne hk)]; exact hk) (by rw [hheap _ _ _ h]; exact hb) hl hc hL
  | osl0 => exact .osl0
  | @accR p _ _ _ _ _ hr hs hL hl hsz h hm =>
    refine .accR (hR _ hr) hs hL hl hsz (fun i e hi => (h i e hi).mono hR hw fun j _ => World.cell?_of_block (hw _ hr)) fun m2 hm2 => ?_
    by_cases e : p = o
    · subst e
      rw [hm'] at hm2; cases hm2
      have := hm m hmo; omega
    · rw [hmk _ e] at hm2; exact hm m2 hm2
  | @accC p b s m1 cap es c T hι hk hm hL hl hsz hb hc h =>
    by_cases e : p = o
    · subst e
      rw [hmo] at hk; cases hk
      obtain ⟨h1, h2⟩ := hold _ _ hι
      refine .accR h1 h2 hL hl hsz (fun i e hi => ?_) fun m2 hm2 => ?_
      · rw [Nat.zero_add]; exact (h i e hi).mono hR hw fun j _ => World.cell?_of_block (hheap _ _ _ hι)
      · rw [hm'] at hm2; cases hm2; omega
    · exact .accC (by rw [upd_ne e]; exact hι) (by rw [hmk _ e]; exact hk) hm hL hl hsz (by rw [hheap _ _ _ hι]; exact hb) hc
        (fun i e hi => (h i e hi).mono hR hw fun j _ => World.cell?_of_block (hheap _ _ _ hι))
  | peR hr h => exact .peR (hR _ hr) (h.mono hR hw fun j _ => World.cell?_of_block (hw _ hr))
  | @peC p b s m1 off x c T hι hk hb hoff h =>
    by_cases e : p = o
    · subst e
      exact .peR (hold _ _ hι).1 (h.mono hR hw fun j _ => World.cell?_of_block (hheap _ _ _ hι))
    · exact .peC (by rw [upd_ne e]; exact hι) (by rw [hmk _ e]; exact hk) (by rw [hheap _ _ _ hι]; exact hb) hoff (h.mono hR hw fun j _ => World.cell?_of_block (hheap _ _ _ hι))
  | acc0 => exact .acc0
  | xsl h => exact .xsl (h.mono_v hR hw)
  | agg hl hc _ ih => exact .agg hl hc ih
  | tup hl _ ih => exact .tup hl ih
  | fn hl _ ih => exact .fn hl ih
  | nl1 => exact .nl1
  | nl2 => exact .nl2
  | @mpr p b s hι hk =>
    have hne : p ≠ o := fun e => by subst e; rw [hmo] at hk; cases hk
    exact .mpr (by rw [upd_ne hne]; exact hι) (by rw [hmk _ hne]; exact hk)
  | undef => exact .undef
theorem Rel.regrow (h : Rel C S a w ι R) {o m n cap : Nat} {es : List D} {cs : List Value} {zs : Array Value} (T : TypeId) (hlook : look o S.heap = some (.acc m)) (hlt : m < es.length) (hn : 0 < n) (hc : CellsOf w R n es cs) (hz : ∀ e ∈ es, e.size = n)
    (hL : es.length ≤ LIM) (hcap : es.length ≤ cap) (hsz : cap * n ≤ (cs.toArray ++ zs).size) :
    Rel C ⟨S.env, setAt o (.acc es.length) S.heap⟩ a (w.alloc (.cells (cs.toArray ++ zs) T)) (upd ι o (w.heap.size, n)) (fun b => R b ∨ ∃ s, ι o = some (b, s)) ∧
    VA (w.alloc (.cells (cs.toArray ++ zs) T)) (fun b => R b ∨ ∃ s, ι o = some (b, s)) (upd ι o (w.heap.size, n)) (mark (setAt o (.acc es.length) S.heap)) (.acc o es) (.slice (some ⟨w.heap.size, 0, none⟩) es.length cap) := by
  have hb := heap_alloc_new w (.cells (cs.toArray ++ zs) T)
  have hheap : ∀ p b s, ι p = some (b, s) → (w.alloc (.cells (cs.toArray ++ zs) T)).heap[b]? = w.heap[b]? := fun p b s hp => alloc_old (h.own p b s hp).2
  have hmo' : mark (setAt o (.acc es.length) S.heap) o = some es.length := by rw [mark_setAt]
  have hmk : ∀ p, p ≠ o → mark (setAt o (.acc es.length) S.heap) p = mark S.heap p := fun p hp => mark_setAt_ne hp
  have hK : Keeps R w (w.alloc (.cells (cs.toArray ++ zs) T)) := Keeps.alloc h _
  have hm : mark S.heap o = some m := by unfold mark; rw [hlook]
  have hold : ∀ b s, ι o = some (b, s) → (R b ∨ ∃ s, ι o = some (b, s)) ∧ 0 < s := fun b s hbs => by
    refine ⟨.inr ⟨s, hbs⟩, ?_⟩
    have hob := h.heap _ _ (look_mem hlook)
    cases hob with
    | acc _ hι' _ _ hs _ => rw [hbs] at hι'; cases hι'; exact hs
    | accN hι' => rw [hbs] at hι'; cases hι'
  have hva : ∀ {x : AV} {u : Value}, VA w R ι (mark S.heap) x u → VA (w.alloc (.cells (cs.toArray ++ zs) T)) (fun b => R b ∨ ∃ s, ι o = some (b, s)) (upd ι o (w.heap.size, n)) (mark (setAt o (.acc es.length) S.heap)) x u :=
    fun hv => hv.regrow (bo := 0) (so := 0) hm hmo' hlt hmk (fun _ h => .inl h) hK hold hheap
  have hob : OB (w.alloc (.cells (cs.toArray ++ zs) T)) (fun b => R b ∨ ∃ s, ι o = some (b, s)) (upd ι o (w.heap.size, n)) (mark (setAt o (.acc es.length) S.heap)) o (.acc es.length) := by
    refine .acc (by omega) upd_same ?_ hb hn (by
      have : es.length * n ≤ cap * n := Nat.mul_le_mul_right _ hcap
      omega)
    rintro (hr | ⟨s, hr⟩)
    · have := h.rlt _ hr; omega
    · have := (h.own _ _ _ hr).2; omega
  refine ⟨⟨h.defers, h.size, h.os, h.tape, h.output, by have := h.grow; simp; omega, fun b hb => (h.len b hb).trans (Blk.of_eq (alloc_old (Nat.lt_of_lt_of_le hb h.grow))), fun b hb => (alloc_old (Nat.lt_of_lt_of_le (h.keepLt b hb) h.grow)).trans (h.keep b hb), h.keepLt, ?_, ?_, fun b hb => .inl (h.r0 b hb), ?_, ?_, ?_, ?_⟩, ?_⟩
  · rintro b (hr | ⟨s, hr⟩)
    · have := h.rlt _ hr; simp; omega
    · have := (h.own _ _ _ hr).2; simp; omega
  · rintro b (hr | ⟨s, hr⟩)
    · exact h.rok b hr
    · exact .inr (h.own _ _ _ hr).1
  · intro q b s hq
    by_cases e : q = o
    · subst e
      rw [upd_same] at hq; cases hq
      exact ⟨fun hk => by have := h.keepLt _ hk; have := h.grow; omega, by simp⟩
    · rw [upd_ne e] at hq
      have := h.own q b s hq
      exact ⟨this.1, by simp; omega⟩
  · intro q q' b s1 s2 h1 h2
    by_cases e : q = o <;> by_cases e' : q' = o
    · rw [e, e']
    · subst e; rw [upd_same] at h1; rw [upd_ne e'] at h2; cases h1
      have := (h.own _ _ _ h2).2; omega
    · subst e'; rw [upd_same] at h2; rw [upd_ne e] at h1; cases h2
      have := (h.own _ _ _ h1).2; omega
    · rw [upd_ne e] at h1; rw [upd_ne e'] at h2; exact h.inj _ _ _ _ _ h1 h2
  · intro t x hx
    obtain ⟨u, h1, h2⟩ := h.env t x hx
    exact ⟨u, h1, hva h2⟩
  · intro q ob hq
    rcases setAt_mem hq with hq | ⟨hq, hne⟩
    · cases hq; exact hob
    · cases h.heap q ob hq with
      | row hι' hr hb' hs' hsz' hc' hh =>
        refine .row (by rw [upd_ne hne]; exact hι') ?_ (by rw [hheap _ _ _ hι']; exact hb') hs' hsz' hc' fun i e hi j x hj => ?_
        · rintro (hr' | ⟨s, hr'⟩)
          · exact hr hr'
          · exact hne (h.inj _ _ _ _ _ hι' hr')
        · obtain ⟨k1, q, k2, k3⟩ := hh i e hi j x hj
          exact ⟨k1, q, k2, hva k3⟩
      | acc hpos hι' hr hb' hs' hc' =>
        refine .acc hpos (by rw [upd_ne hne]; exact hι') ?_ (by rw [hheap _ _ _ hι']; exact hb') hs' hc'
        rintro (hr' | ⟨s, hr'⟩)
        · exact hr hr'
        · exact hne (h.inj _ _ _ _ _ hι' hr')
      | accN hι' => exact .accN (by rw [upd_ne hne]; exact hι')
      | frz hh => exact .frz fun b s hb' => have k := hh b s (by rwa [upd_ne hne] at hb'); ⟨.inl k.1, k.2⟩
      | mp hι' hr hb' hs' hl' hh =>
        refine .mp (by rw [upd_ne hne]; exact hι') ?_ (by rw [hheap _ _ _ hι']; exact hb') hs' hl' fun i k x hi => ?_
        · rintro (hr' | ⟨s, hr'⟩)
          · exact hr hr'
          · exact hne (h.inj _ _ _ _ _ hι' hr')
        · obtain ⟨e, k1, k2, k3⟩ := hh i k x hi
          exact ⟨e, k1, k2, k3.mono_v (fun _ h => .inl h) hK⟩
  · refine .accC upd_same hmo' (Nat.le_refl _) hL hcap hz hb hsz fun i e hi => ?_
    have := hc.el (w' := w.alloc (.cells (cs.toArray ++ zs) T)) (R' := fun b => R b ∨ ∃ s, ι o = some (b, s)) (b := w.heap.size) (off := 0) hz hn (fun _ h => .inl h) hK (fun j v hj => by
      rw [cell_of hb, Nat.zero_add, Array.getElem?_append_left (by simpa using (List.getElem?_eq_some_iff.1 hj).1)]
      simpa using hj) i e hi
    rwa [Nat.zero_add] at this
theorem Rel.inplace (h : Rel C S a w ι R) {o m b n cap : Nat} {es ys : List D} {news : List Value} {c : Array Value} {T : TypeId} (hlook : look o S.heap = some (.acc m)) (hes : es.length = m) (hι : ι o = some (b, n)) (hb : w.heap[b]? = some (.cells c T (0, 0)))
    (hn : 0 < n) (hy : CellsOf w R n ys news) (hz : ∀ e ∈ es ++ ys, e.size = n) (hL : (es ++ ys).length ≤ LIM) (hcap : m + ys.length ≤ cap) (hsz : cap * n ≤ c.size) (hR : ¬ R b)
    (hold : ∀ (i : Nat) (e : D), es[i]? = some e → Rd w R (.el e b (i * n))) :
    Rel C ⟨S.env, setAt o (.acc (m + ys.length)) S.heap⟩ a (w.setCells b (0 + m * n) news) ι R ∧
    VA (w.setCells b (0 + m * n) news) R ι (mark (setAt o (.acc (m + ys.length)) S.heap)) (.acc o (es ++ ys)) (.slice (some ⟨b, 0, none⟩) (m + ys.length) cap) := by
  have hm : mark S.heap o = some m := by unfold mark; rw [hlook]
  obtain ⟨c', hc1, hc2, hc3⟩ := setCells_block w b (0 + m * n) news hb
  obtain ⟨r1, r2, r3, r4⟩ := setCells_rest w b (0 + m * n) news
  have hK : Keeps R w (w.setCells b (0 + m * n) news) := fun b' hb' => setCells_other _ _ _ _ (fun e => hR (e ▸ hb'))
  have hmo' : mark (setAt o (.acc (m + ys.length)) S.heap) o = some (m + ys.length) := by rw [mark_setAt]
  have hstep : ∀ p, Step w (w.setCells b (0 + m * n) news) ι ι (mark S.heap) (mark (setAt o (.acc (m + ys.length)) S.heap)) p := fun p => by
    by_cases e : p = o
    · subst e
      refine ⟨fun _ _ h => h, fun b1 s1 hb1 => ?_, fun m1 h1 => ⟨_, hmo', by rw [hm] at h1; cases h1; omega⟩, fun m1 h1 => ⟨m, hm, by rw [hmo'] at h1; cases h1; omega⟩⟩
      rw [hι] at hb1; cases hb1
      rw [hm]
      intro c1 T1 hc1'
      rw [hb] at hc1'; cases hc1'
      refine ⟨c', hc1, hc2, fun j hj => ?_⟩
      simp only [Option.getD_some] at hj
      rw [hc3, if_neg (by omega)]
    · exact Step.other rfl (mark_setAt_ne e) fun b1 s1 hb1 => setCells_other _ _ _ _ fun e' => e (h.inj _ _ _ _ _ (e' ▸ hb1) hι)
  refine ⟨?_, ?_⟩
  · refine h.change r1 r2 r3 (by omega) (fun b' _ => by
        by_cases e : b' = b
        · subst e; intro c1 T1 hc1'; rw [hb] at hc1'; cases hc1'; exact ⟨c', hc1, hc2, fun j hj => by simp at hj⟩
        · exact Blk.of_eq (setCells_other _ _ _ _ e)) (fun b' hb' => setCells_other _ _ _ _ (fun e => (h.own o b n hι).1 (e ▸ hb'))) (fun _ h => h) (fun b' hb' => by rw [r4]; exact h.rlt b' hb') h.rok hK
      (fun q b1 s1 hq => by rw [r4]; exact h.own q b1 s1 hq) h.inj (fun q _ => hstep q) ?_
    intro q ob hq
    rcases setAt_mem hq with hq | ⟨hq, hne⟩
    · cases hq
      have hm0 : 0 < m := by
        cases h.heap _ _ (look_mem hlook) with
        | acc hpos _ _ _ _ _ => exact hpos
        | accN hι' => rw [hι] at hι'; cases hι'
      refine .acc (by omega) hι hR hc1 hn ?_
      have : (m + ys.length) * n ≤ cap * n := Nat.mul_le_mul_right _ hcap
      omega
    · refine (h.heap q ob hq).mono (fun _ h => h) hK (fun b1 s1 hb1 => ⟨hb1, ?_, fun h => h⟩) (fun h => h) fun p _ => hstep p
      exact setCells_other _ _ _ _ fun e => hne (h.inj _ _ _ _ _ (e ▸ hb1) hι)
  · have hlen : (es ++ ys).length = m + ys.length := by rw [List.length_append, hes]
    have := VA.accC (w := w.setCells b (0 + m * n) news) (R := R) (ι := ι) (mk := mark (setAt o (.acc (m + ys.length)) S.heap)) (o := o) (es := es ++ ys) (cap := cap) hι hmo' (by omega) hL (by omega) hz hc1 (by omega) (fun i e hi => ?_)
    · rwa [hlen] at this
    · by_cases hlt : i < es.length
      · rw [List.getElem?_append_left hlt] at hi
        refine (hold i e hi).mono (fun _ h => h) hK fun j hj => ?_
        rw [cell_of hc1, cell_of hb, hc3, if_neg]
        have hez := hz e (List.mem_append_left _ (List.mem_of_getElem? hi))
        have : (i + 1) * n ≤ m * n := Nat.mul_le_mul_right _ (by omega)
        rw [Nat.succ_mul] at this
        omega
      · rw [List.getElem?_append_right (by omega)] at hi
        have key := hy.el (w' := w.setCells b (0 + m * n) news) (R' := R) (b := b) (off := m * n) (fun e he => hz e (List.mem_append_right _ he)) hn (fun _ h => h) hK (fun j v hj => by
          have hjl := (List.getElem?_eq_some_iff.1 hj).1
          rw [hy.1] at hjl
          have : (m + ys.length) * n ≤ cap * n := Nat.mul_le_mul_right _ hcap
          rw [Nat.add_mul] at this
          rw [cell_of hc1, hc3, if_pos ⟨by omega, by rw [hy.1]; omega, by omega⟩]
          rw [show m * n + j - (0 + m * n) = j by omega]; exact hj) _ e hi
        rwa [show m * n + (i - es.length) * n = i * n by rw [← Nat.add_mul]; congr 1; omega] at key
theorem Rel.sameAcc (h : Rel C S a w ι R) {o m : Nat} (hl : look o S.heap = some (.acc m)) : Rel C ⟨S.env, setAt o (.acc m) S.heap⟩ a w ι R := by
  have hmk : mark (setAt o (.acc m) S.heap) = mark S.heap := funext fun p => by
    by_cases e : p = o
    · subst e; rw [mark_setAt]; simp [mark, hl]
    · exact mark_setAt_ne e
  refine ⟨h.defers, h.size, h.os, h.tape, h.output, h.grow, h.len, h.keep, h.keepLt, h.rlt, h.rok, h.r0, h.own, h.inj, ?_, ?_⟩
  · rw [hmk]; exact h.env
  · rw [hmk]
    intro q ob hq
    rcases setAt_mem hq with hq | ⟨hq, _⟩
    · cases hq; exact h.heap _ _ (look_mem hl)
    · exact h.heap q ob hq
theorem app_ok {n dst : Nat} {t tx ty e : TypeId} {i : TypeInfo} {z : Value} {x v : AV} {ux uy : Value} {ys : List D} {news : List Value} {H' : Heap} (hr : Rel C S a w ι R) (hx : VA w R ι (mark S.heap) x ux)
    (hs : Src P n tx uy ys.length news w) (hy : CellsOf w R n ys news) (ht : P.underlying t = some (.slice e)) (hi : P.info? e = some i) (hin : i.size = n) (hz : i.zero = some z) (hzn : z.cells.size = n) (hby : i.bytes ≤ 32768) (hn : 0 < n)
    (hp : appA S.env S.heap dst n ys x = some (v, H')) :
    ∃ u w' ι' R', (Builtin.append_ #[t, tx] ty #[ux, uy]).run P w = .ok u w' ∧ Rel C ⟨S.env, H'⟩ a w' ι' R' ∧ VA w' R' ι' (mark H') v u := by
  subst hin
  have fits : ∀ {len cap : Nat}, len + ys.length ≤ LIM → cap < len + ys.length → ((len + ys.length : Nat) : Int) ≤ 9223372036854775807 ∧ Builtin.nextslicecap (len + ys.length) cap * i.bytes ≤ 281474976710656 := by
    intro len cap hL hc
    refine ⟨by unfold LIM at hL; omega, growslice_fits hc ?_⟩
    calc (len + ys.length) * i.bytes ≤ 4294967296 * 32768 := Nat.mul_le_mul hL hby
      _ = 140737488355328 := by decide
  cases x with
  | xsl es =>
    simp only [appA] at hp
    split at hp
    · rename_i hh
      split at hp
      · cases hp
        have h0 : ys = [] := by simp at hh; exact hh.1
        subst h0
        have hnn : news = [] := List.length_eq_zero_iff.1 (by rw [hy.1]; simp)
        subst hnn
        cases hx with
        | @xsl _ ao k h =>
          obtain ⟨ao', cap, he, hc, hLe⟩ := h.sl_len
          cases he
          exact ⟨_, w, ι, R, run_append_nothing w t tx ty e i ht hi ao es.length es.length (Nat.le_refl _) uy hs, hr, .xsl h⟩
      · cases hp
    split at hp
    · rename_i hne' hh
      obtain ⟨hsz, hL, hu1, hu2⟩ := hh
      have hne : (es.isEmpty || !ys.isEmpty) = true := by
        cases h1 : es.isEmpty <;> cases h2 : ys.isEmpty <;> simp_all
      cases hp
      have hz' := allSize_spec hsz
      cases hx with
      | @xsl _ ao k h =>
        obtain ⟨ao', cap, he, hc, hLe⟩ := h.sl_len
        cases he
        by_cases h0 : ys = []
        · subst h0
          have hnn : news = [] := List.length_eq_zero_iff.1 (by rw [hy.1]; simp)
          subst hnn
          refine ⟨_, w, clr ι dst, R, run_append_nothing w t tx ty e i ht hi ao es.length es.length (Nat.le_refl _) uy hs, hr.newNone ⟨hu1, hu2⟩, ?_⟩
          rw [List.append_nil]
          have h1 : es = [] := by simpa using hne
          subst h1; exact .acc0
        · have hlt : es.length < es.length + ys.length := by have := List.length_pos_iff.2 h0; omega
          rw [List.length_append] at hL
          obtain ⟨f1, f2⟩ := fits hL hlt
          obtain ⟨olds, ho1, ho2⟩ := olds_of h hn (fun e he => hz' e (List.mem_append_left _ he))
          have hrun := run_append_grow_src (ty := ty) w t tx e i z ht hi hz ao es.length es.length olds ho2 uy ys.length news hs hlt f1 f2
          have hall := (ho1.append hy hz').drew
          have hg := grown_ge (w := w) (es.length + ys.length) es.length e
          have := hr.drew.newAcc (o := dst) (n := i.size) (cap := grownCap w (es.length + ys.length) es.length e) (zs := Builtin.zeroCells z.cells (grownCap w (es.length + ys.length) es.length e - (es.length + ys.length))) e ⟨hu1, hu2⟩ hn hall hz'
            (by rw [List.length_append]; omega) (by rw [List.length_append]; exact hL) (by rw [List.length_append]; exact hg) (by
              rw [Array.size_append, zeroCells_size, hzn, List.size_toArray, hall.1, ← Nat.add_mul, List.length_append]
              exact Nat.mul_le_mul_right _ (by omega))
          rw [List.length_append] at this
          exact ⟨_, _, _, _, hrun, this.1, this.2⟩
    · cases hp
  | acc o es =>
    simp only [appA] at hp
    split at hp
    · rename_i m hlk
      split at hp
      · rename_i hh
        obtain ⟨hm, hsz, hL⟩ := hh
        cases hp
        have hz' := allSize_spec hsz
        have hmk : mark S.heap o = some m := by simp [mark, hlk]
        rw [List.length_append] at hL
        have noth : ∀ (ao : Option Addr) (cap : Nat), ys = [] → ux = .slice ao es.length cap → es.length ≤ cap → VA w R ι (mark S.heap) (.acc o es) (.slice ao es.length cap) →
            ∃ u w' ι' R', (Builtin.append_ #[t, tx] ty #[ux, uy]).run P w = .ok u w' ∧ Rel C ⟨S.env, setAt o (.acc (m + ys.length)) S.heap⟩ a w' ι' R' ∧ VA w' R' ι' (mark (setAt o (.acc (m + ys.length)) S.heap)) (.acc o (es ++ ys)) u := by
          rintro ao cap rfl rfl hc hva
          have hnn : news = [] := List.length_eq_zero_iff.1 (by rw [hy.1]; simp)
          subst hnn
          refine ⟨_, w, ι, R, run_append_nothing w t tx ty e i ht hi ao es.length cap hc uy hs, hr.sameAcc hlk, ?_⟩
          rw [List.append_nil]
          have hmkf : mark (setAt o (.acc (m + ([] : List D).length)) S.heap) = mark S.heap := funext fun p => by
            by_cases e : p = o
            · subst e; rw [mark_setAt]; simp [mark, hlk]
            · exact mark_setAt_ne e
          rw [hmkf]; exact hva
        have grow : ∀ (ao : Option Addr) (cap : Nat) (olds : List Value), ys ≠ [] → ux = .slice ao es.length cap → cap < es.length + ys.length → CellsOf w R i.size es olds →
            (Builtin.firstCells i.size es.length (.slice ao es.length cap)).run P w.drew = .ok olds.toArray w.drew →
            ∃ u w' ι' R', (Builtin.append_ #[t, tx] ty #[ux, uy]).run P w = .ok u w' ∧ Rel C ⟨S.env, setAt o (.acc (m + ys.length)) S.heap⟩ a w' ι' R' ∧ VA w' R' ι' (mark (setAt o (.acc (m + ys.length)) S.heap)) (.acc o (es ++ ys)) u := by
          rintro ao cap olds h0 rfl hc ho1 ho2
          obtain ⟨f1, f2⟩ := fits hL hc
          have hrun := run_append_grow_src (ty := ty) w t tx e i z ht hi hz ao es.length cap olds ho2 uy ys.length news hs hc f1 f2
          have hall := (ho1.append hy hz').drew
          have hg := grown_ge (w := w) (es.length + ys.length) cap e
          have hpos := List.length_pos_iff.2 h0
          have := hr.drew.regrow (o := o) (m := m) (n := i.size) (cap := grownCap w (es.length + ys.length) cap e) (zs := Builtin.zeroCells z.cells (grownCap w (es.length + ys.length) cap e - (es.length + ys.length))) e hlk (by rw [List.length_append]; omega) hn hall hz'
            (by rw [List.length_append]; exact hL) (by rw [List.length_append]; exact hg) (by
              rw [Array.size_append, zeroCells_size, hzn, List.size_toArray, hall.1, ← Nat.add_mul, List.length_append]
              exact Nat.mul_le_mul_right _ (by omega))
          rw [List.length_append, hm] at this
          rw [hm] at hrun
          rw [hm]
          exact ⟨_, _, _, _, hrun, this.1, this.2⟩
        by_cases h0 : ys = []
        · cases hx with
          | accR hR hs' hL' hl hsz' hh hm' => exact noth _ _ h0 rfl hl (.accR hR hs' hL' hl hsz' hh hm')
          | accC a1 a2 a3 a4 a5 a6 a7 a8 a9 => exact noth _ _ h0 rfl a5 (.accC a1 a2 a3 a4 a5 a6 a7 a8 a9)
          | acc0 => exact noth _ 0 h0 rfl (by simp) .acc0
        · have hpos := List.length_pos_iff.2 h0
          cases hx with
          | @accR _ b off s cap _ hR hs' hL' hl hsz' hh hm' => have := hm' m hmk; omega
          | @accC _ b s m1 cap _ c T hι hmk' hm1 hL' hl hsz' hb hc hh =>
            rw [hmk] at hmk'; cases hmk'
            have hob := hr.heap _ _ (look_mem hlk)
            have hns : s = i.size ∨ es = [] := by
              by_cases he : es = []
              · exact .inr he
              · obtain ⟨e0, he0⟩ := List.exists_mem_of_ne_nil _ he
                left; rw [← hsz' e0 he0]; exact hz' e0 (List.mem_append_left _ he0)
            cases hob with
            | accN hι' => rw [hι] at hι'; cases hι'
            | acc hpos' hι' hRb hb' hsp hc' =>
              rw [hι] at hι'; cases hι'
              rw [hb] at hb'; cases hb'
              have hns : s = i.size := hns.resolve_right (by rintro rfl; simp at hm; omega)
              subst hns
              by_cases hroom : es.length + ys.length ≤ cap
              · have hlen : ∀ j, j < news.length → 0 + es.length * i.size + j < c.size := fun j hj => by
                  rw [hy.1] at hj
                  have : (es.length + ys.length) * i.size ≤ cap * i.size := Nat.mul_le_mul_right _ hroom
                  rw [Nat.add_mul] at this; omega
                have hrun := run_append_room_src (ty := ty) w t tx e i ht hi b 0 es.length cap uy ys.length news hs hroom (fun j hj => by rw [cell_of hb]; have := hlen j hj; simp; omega) (fun j _ => frozen_of_row w b _ c T hb)
                have := hr.inplace (o := o) (m := m) (cap := cap) hlk hm hι hb hn hy hz' (by rw [List.length_append]; exact hL) (by omega) hc hRb hh
                rw [hm] at hrun
                rw [hm]
                exact ⟨_, _, _, _, hrun, this.1, this.2⟩
              · obtain ⟨olds, ho1, _, ho2⟩ := olds_at (cap := cap) hh hn (fun e he => hz' e (List.mem_append_left _ he))
                exact grow _ cap olds h0 rfl (by omega) ho1 ho2
          | acc0 =>
            refine grow _ 0 [] h0 rfl (by omega) ⟨by simp, fun i e hi => by simp at hi⟩ ?_
            rename_i ao
            cases ao with
            | none => exact run_firstCells_none w.drew _ 0 0 0
            | some b => exact run_firstCells_some w.drew _ 0 b 0 0 [] (by simp) (by simp)
      · cases hp
    · cases hp
  | _ => simp [appA] at hp
end Go.Sim
