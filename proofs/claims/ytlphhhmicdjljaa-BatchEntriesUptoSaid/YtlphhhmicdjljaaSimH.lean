/-
  New variables, parts of slices, appends.
-/
import Derived.Test.YtlphhhmicdjljaaSimG
namespace Go.Sim
set_option linter.unusedSimpArgs false
set_option linter.unusedVariables false
open Go (World Value Addr TypeId Act)

variable {P : Program} {C : Ctx} {S : St} {a : Act} {w : World} {ι : Inj} {R : Nat → Prop}

theorem unref_of {o : Nat} {S : St} (h1 : refsEnv o S.env = false) (h2 : refsHeap o S.heap = false) : unref o S := ⟨h1, h2⟩

/-- Cells in a block of its own. -/
theorem Rel.newRow (h : Rel C S a w ι R) {o s : Nat} {es : List AV} {c : Array Value} (T : TypeId) (hu : unref o S) (hs : 0 < s) (hsz : ∀ e ∈ es, e.size = s) (hc : es.length * s ≤ c.size)
    (hr : ∀ e ∈ es, e.refs o = false)
    (hcell : ∀ (i : Nat) (e : AV), es[i]? = some e → ∀ (j : Nat) (x : AV), e.cells[j]? = some x → x.cell = true ∧ ∃ q, c[i * s + j]? = some q ∧ VA w R ι (mark S.heap) x q) :
    Rel C ⟨S.env, setAt o (.row es) S.heap⟩ a (w.alloc (.cells c T)) (upd ι o (w.heap.size, s)) R := by
  refine h.new c T hu (.row upd_same (fun hR => ?_) (heap_alloc_new w _) hs hsz hc fun i e hi j x hj => ?_)
  · have := h.rlt _ hR; omega
  · obtain ⟨k1, q, k2, k3⟩ := hcell i e hi j x hj
    refine ⟨k1, q, k2, k3.mono (fun _ h => h) (Keeps.alloc h _) fun p hp => ?_⟩
    have hpo : p ≠ o := fun e' => by
      subst e'
      have h1 := AV.cells_refs hj hp
      rw [hr e (List.mem_of_getElem? hi)] at h1; cases h1
    exact Step.other (upd_ne hpo) (mark_setAt_ne hpo) fun b s hb => alloc_old (h.own p b s hb).2

theorem Rel.newVar (h : Rel C S a w ι R) {o : Nat} {x : AV} {u : Value} (T : TypeId) (hu : unref o S) (hv : VA w R ι (mark S.heap) x u) (hx : isTup x = false) (h0 : x.size ≠ 0) (hr : x.refs o = false) :
    Rel C ⟨S.env, setAt o (.row [x]) S.heap⟩ a (w.alloc (.cells u.cells T)) (upd ι o (w.heap.size, x.size)) R ∧
    VA (w.alloc (.cells u.cells T)) R (upd ι o (w.heap.size, x.size)) (mark (setAt o (.row [x]) S.heap)) (.ref o 0 0) (.pointer (some ⟨w.heap.size, 0, none⟩)) := by
  obtain ⟨k1, k2⟩ := hv.cells hx
  refine ⟨h.newRow T hu (by omega) (by simp) (by simp [k1]) (by simpa using hr) ?_, ?_⟩
  · intro i e hi j y hj
    match i, hi with
    | 0, hi =>
      simp at hi; subst hi
      obtain ⟨k3, q, k4, k5⟩ := k2 j y hj
      exact ⟨k3, q, by simpa using k4, k5⟩
    | n + 1, hi => simp at hi
  · have := VA.ref (w := w.alloc (.cells u.cells T)) (R := R) (ι := upd ι o (w.heap.size, x.size)) (mk := mark (setAt o (.row [x]) S.heap)) (o := o) (i := 0) (off := 0) (b := w.heap.size) (s := x.size) upd_same (by rw [mark_setAt])
    simpa using this

/-- An object that is named and has no block. -/
def clr (ι : Inj) (o : Nat) : Inj := fun q => if q = o then none else ι q
theorem clr_same {o : Nat} : clr ι o o = none := by simp [clr]
theorem clr_ne {o q : Nat} (h : q ≠ o) : clr ι o q = ι q := by simp [clr, h]

theorem Rel.newNone (h : Rel C S a w ι R) {o n : Nat} (hu : unref o S) : Rel C ⟨S.env, setAt o (.acc n) S.heap⟩ a w (clr ι o) R := by
  have hst : ∀ p, p ≠ o → Step w w ι (clr ι o) (mark S.heap) (mark (setAt o (.acc n) S.heap)) p := fun p hp => Step.other (clr_ne hp) (mark_setAt_ne hp) fun _ _ _ => rfl
  refine h.change rfl rfl rfl (Nat.le_refl _) (fun _ _ => Blk.of_eq rfl) (fun _ _ => rfl) (fun _ h => h) h.rlt h.rok (fun _ _ => rfl) ?_ ?_ ?_ ?_
  · intro q b s hq
    by_cases e : q = o
    · subst e; rw [clr_same] at hq; cases hq
    · rw [clr_ne e] at hq; exact h.own q b s hq
  · intro q q' b s s' h1 h2
    by_cases e : q = o
    · subst e; rw [clr_same] at h1; cases h1
    · by_cases e' : q' = o
      · subst e'; rw [clr_same] at h2; cases h2
      · rw [clr_ne e] at h1; rw [clr_ne e'] at h2; exact h.inj _ _ _ _ _ h1 h2
  · intro p hp
    refine hst p fun e => ?_
    subst e; rw [hu.1] at hp; cases hp
  · intro q ob hq
    rcases setAt_mem hq with hq | ⟨hq1, hne⟩
    · cases hq; exact .accN clr_same
    · refine (h.heap q ob hq1).mono (fun _ h => h) (fun _ _ => rfl) (fun b s hb => ⟨by rw [clr_ne hne, hb], rfl, fun h => h⟩) (fun h0 => by rw [clr_ne hne, h0]) fun p hp => ?_
      refine hst p fun e => ?_
      subst e
      have := refsHeap_mem (l := S.heap) hq1 hu.2
      rw [hp] at this; cases this

/-! ### Slices of slices -/
theorem idx_inv {mk : Nat → Option Nat} {x : AV} {k : Int} {u : Value} (h : VA w R ι mk x u) (hx : idxOf x = some k) : ∃ kd, u = .int kd k := by
  cases x with
  | d y => cases y with
    | int kd n => simp only [idxOf, Option.some.injEq] at hx; subst hx; exact ⟨kd, h.int_inv.1⟩
    | _ => simp [idxOf] at hx
  | _ => simp [idxOf] at hx

theorem sliceBound_ok {mk : Nat → Option Nat} {x : AV} {k : Int} {u : Value} {y : Nat} {code : BoundsCode} (h : VA w R ι mk x u) (hx : idxOf x = some k) (h0 : 0 ≤ k) (hy : k ≤ y) (w' : World) :
    (Instr.sliceBound u y code).run P w' = .ok k.toNat w' := by
  obtain ⟨kd, rfl⟩ := idx_inv h hx
  simp [Instr.sliceBound, asIntOf, h0, hy]

def VAo (w : World) (R : Nat → Prop) (ι : Inj) (mk : Nat → Option Nat) : Option AV → Option Value → Prop
  | none, none => True
  | some x, some u => VA w R ι mk x u
  | _, _ => False

theorem bound_spec {x : Option AV} {d y k : Nat} (h : bound x d y = some k) : (x = none ∧ k = d) ∨ ∃ v i, x = some v ∧ idxOf v = some i ∧ 0 ≤ i ∧ i ≤ y ∧ k = i.toNat := by
  cases x with
  | none => simp only [bound, Option.some.injEq] at h; exact .inl ⟨rfl, h.symm⟩
  | some v =>
    simp only [bound] at h
    obtain ⟨i, h1, h2⟩ := Option.bind_eq_some_iff.1 h
    split at h2
    · rename_i h3; cases h2; exact .inr ⟨v, i, rfl, h1, h3.1, h3.2, rfl⟩
    · cases h2

/-- The bounds of 'x[lo:hi:mx]': the bounds of the calculus lie within the length, the model's within the capacity. -/
theorem sliceBounds_ok {mk : Nat → Option Nat} {lo hi mx : Option AV} {ulo uhi umx : Option Value} {len cap l h : Nat} (hlo : VAo w R ι mk lo ulo) (hhi : VAo w R ι mk hi uhi) (hmx : VAo w R ι mk mx umx)
    (hb1 : bound hi len len = some h) (hb2 : bound lo 0 h = some l) (hlc : len ≤ cap) (hm : ∀ m, mx = some m → idxOf m = some (h : Int) ∧ hi ≠ none) (isSlice : Bool) (w' : World) :
    h ≤ len ∧ l ≤ h ∧ (Instr.sliceBounds isSlice len cap ulo uhi umx).run P w' = .ok (l, h, if mx = none then cap else h) w' := by
  have e1 : h ≤ len := by
    rcases bound_spec hb1 with ⟨_, rfl⟩ | ⟨v, i, _, _, h1, h2, rfl⟩ <;> omega
  have e2 : l ≤ h := by
    rcases bound_spec hb2 with ⟨_, rfl⟩ | ⟨v, i, _, _, h1, h2, rfl⟩ <;> omega
  refine ⟨e1, e2, ?_⟩
  have fM : ∀ m u, mx = some m → umx = some u → ∀ code, (Instr.sliceBound u cap code).run P w' = .ok h w' := fun m u h1 h2 code => by
    subst h1 h2
    have := hm m rfl
    have := sliceBound_ok (P := P) (code := code) (y := cap) hmx this.1 (by omega) (by omega) w'
    simpa using this
  have fH : ∀ v u (y : Nat), hi = some v → uhi = some u → h ≤ y → ∀ code, (Instr.sliceBound u y code).run P w' = .ok h w' := fun v u y h1 h2 h3 code => by
    subst h1 h2
    rcases bound_spec hb1 with ⟨h4, _⟩ | ⟨v', i, h4, h5, h6, h7, rfl⟩
    · cases h4
    · cases h4
      exact sliceBound_ok (P := P) (code := code) (y := y) hhi h5 h6 (by omega) w'
  have fL : ∀ v u, lo = some v → ulo = some u → ∀ code, (Instr.sliceBound u h code).run P w' = .ok l w' := fun v u h1 h2 code => by
    subst h1 h2
    rcases bound_spec hb2 with ⟨h4, _⟩ | ⟨v', i, h4, h5, h6, h7, rfl⟩
    · cases h4
    · cases h4
      exact sliceBound_ok (P := P) (code := code) (y := h) hlo h5 h6 (by omega) w'
  have zH : hi = none → h = len := fun e => by rcases bound_spec hb1 with ⟨_, h⟩ | ⟨v, _, h, _⟩; exact h; rw [e] at h; cases h
  have zL : lo = none → l = 0 := fun e => by rcases bound_spec hb2 with ⟨_, h⟩ | ⟨v, _, h, _⟩; exact h; rw [e] at h; cases h
  cases mx with
  | none =>
    cases umx with
    | some _ => exact hmx.elim
    | none =>
      cases hi with
      | none =>
        cases uhi with
        | some _ => exact hhi.elim
        | none =>
          have := zH rfl; subst this
          cases lo with
          | none => cases ulo with
            | some _ => exact hlo.elim
            | none => have := zL rfl; subst this; simp [Instr.sliceBounds]
          | some v => cases ulo with
            | none => exact hlo.elim
            | some u => simp [Instr.sliceBounds, fL v u rfl rfl]
      | some v1 =>
        cases uhi with
        | none => exact hhi.elim
        | some u1 =>
          have f1 := fH v1 u1 cap rfl rfl (by omega)
          cases lo with
          | none => cases ulo with
            | some _ => exact hlo.elim
            | none => have := zL rfl; subst this; simp [Instr.sliceBounds, f1]
          | some v => cases ulo with
            | none => exact hlo.elim
            | some u => simp [Instr.sliceBounds, f1, fL v u rfl rfl]
  | some m =>
    cases umx with
    | none => exact hmx.elim
    | some um =>
      have f0 := fM m um rfl rfl
      cases hi with
      | none => exact absurd rfl (hm m rfl).2
      | some v1 =>
        cases uhi with
        | none => exact hhi.elim
        | some u1 =>
          have f1 := fH v1 u1 h rfl rfl (Nat.le_refl _)
          cases lo with
          | none => cases ulo with
            | some _ => exact hlo.elim
            | none => have := zL rfl; subst this; simp [Instr.sliceBounds, f0, f1]
          | some v => cases ulo with
            | none => exact hlo.elim
            | some u => simp [Instr.sliceBounds, f0, f1, fL v u rfl rfl]

end Go.Sim
