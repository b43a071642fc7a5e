/-
  Contracts of functions, and calls.
-/
import Derived.Test.YtlphhhmicdjljaaSimL
namespace Go.Sim
set_option linter.unusedSimpArgs false
set_option linter.unusedVariables false
open Go (World Value Addr TypeId Act)

variable {P : Program} {C : Ctx} {S : St} {a : Act} {w : World} {ι : Inj} {R : Nat → Prop}

def VAs (w : World) (R : Nat → Prop) (ι : Inj) (mk : Nat → Option Nat) (xs : List AV) (us : List Value) : Prop :=
  us.length = xs.length ∧ ∀ (i : Nat) (x : AV) (u : Value), xs[i]? = some x → us[i]? = some u → VA w R ι mk x u

/-- A contract: called with 'args', in a memory with the objects 'os', which the callee may write, 'f' hands back 'r', and the objects are 'os''. -/
def GF (P : Program) (f : FuncId) (args : List AV) (os : Heap) (r : AV) (os' : Heap) : Prop :=
  ∀ (w : World) (R : Nat → Prop) (ι : Inj) (us : List Value), (∀ b, R b → b < w.heap.size) → (∀ o b s, ι o = some (b, s) → b < w.heap.size ∧ ¬ R b ∧ (look o os).isSome = true) →
    (∀ o o' b s s', ι o = some (b, s) → ι o' = some (b, s') → o = o') → (∀ o ob, (o, ob) ∈ os → OB w R ι (mark os) o ob) → VAs w R ι (mark os) args us →
    Calls P f us.toArray w fun e w' => ∃ (u : Value) (ι' : Inj) (R' : Nat → Prop), e = .returned u ∧ w'.os = w.os ∧ w'.tape = w.tape ∧ w'.output = w.output ∧ w.heap.size ≤ w'.heap.size ∧
      (∀ b, b < w.heap.size → Blk w w' b 0) ∧ (∀ b, b < w.heap.size → (∀ o s, ι o ≠ some (b, s)) → w'.heap[b]? = w.heap[b]?) ∧ (∀ b, R b → R' b) ∧ (∀ b, R' b → b < w'.heap.size ∧ (R b ∨ w.heap.size ≤ b)) ∧
      (∀ o b s, ι o = some (b, s) → ι' o = some (b, s)) ∧ (∀ o b s, ι' o = some (b, s) → b < w'.heap.size ∧ (ι o = some (b, s) ∨ w.heap.size ≤ b)) ∧ (∀ o o' b s s', ι' o = some (b, s) → ι' o' = some (b, s') → o = o') ∧
      (∀ o ob, (o, ob) ∈ os' → OB w' R' ι' (mark os') o ob) ∧ VA w' R' ι' (mark os') r u

/-- A contract on data alone. -/
def PF (P : Program) (f : FuncId) (args : List D) (r : D) : Prop :=
  ∀ (w : World) (R : Nat → Prop) (us : List Value), (∀ b, R b → b < w.heap.size) → us.length = args.length → (∀ (i : Nat) (x : D) (u : Value), args[i]? = some x → us[i]? = some u → Rd w R (.v x u)) →
    Calls P f us.toArray w fun e w' => ∃ u : Value, e = .returned u ∧ w'.os = w.os ∧ w'.tape = w.tape ∧ w'.output = w.output ∧ w.heap.size ≤ w'.heap.size ∧
      (∀ b, b < w.heap.size → w'.heap[b]? = w.heap[b]?) ∧ Rd w' (fun b => R b ∨ (w.heap.size ≤ b ∧ b < w'.heap.size)) (.v r u)

/-! ### What a value reads as, where its objects will not be written any more -/
def Sealed (R : Nat → Prop) (ι : Inj) (os : List Nat) : Nat → Prop := fun b => R b ∨ ∃ o s, o ∈ os ∧ ι o = some (b, s)

theorem AV.objsL_mem {o : Nat} {x : AV} {xs : List AV} (h : x ∈ xs) (ho : o ∈ x.objs) : o ∈ AV.objsL xs := by
  induction xs with
  | nil => cases h
  | cons y ys ih =>
    simp only [AV.objsL, List.mem_append]
    cases h with
    | head => exact .inl ho
    | tail _ h => exact .inr (ih h)

theorem toDs_get {H : Heap} : ∀ {xs : List AV} {ds : List D}, toD.toDs H xs = some ds → ds.length = xs.length ∧ ∀ (i : Nat) (x : AV) (d : D), xs[i]? = some x → ds[i]? = some d → toD H x = some d := by
  intro xs
  induction xs with
  | nil => intro ds h; simp only [toD.toDs, Option.some.injEq] at h; subst h; simp
  | cons x xs ih =>
    intro ds h
    simp only [toD.toDs] at h
    split at h
    · rename_i y ys h1 h2
      cases h
      obtain ⟨h3, h4⟩ := ih h2
      refine ⟨by simp [h3], fun i a b ha hb => ?_⟩
      match i, ha, hb with
      | 0, ha, hb => simp at ha hb; subst ha hb; exact h1
      | n + 1, ha, hb => exact h4 n a b (by simpa using ha) (by simpa using hb)
    · cases h

theorem Rd.sealed {os : List Nat} {it : It} (h : Rd w R it) : Rd w (Sealed R ι os) it := h.mono (fun _ h => .inl h) (fun _ _ => rfl) (by cases it with | v => trivial | el => exact fun _ _ => rfl)

theorem toD_cell {H : Heap} {x : AV} {d : D} (h : toD H x = some d) (hx : x.cell = true) : d.cell = true := by
  cases x with
  | d y => simp only [toD, Option.some.injEq] at h; subst h; exact hx
  | xsl es => simp only [toD, Option.some.injEq] at h; subst h; rfl
  | acc o es => simp only [toD, Option.some.injEq] at h; subst h; rfl
  | osl o off len =>
    simp only [toD] at h
    split at h
    · obtain ⟨ds, _, h⟩ := Option.bind_eq_some_iff.1 h
      split at h
      · cases h; rfl
      · cases h
    · cases h
  | fn f cs => simp only [toD, Option.map_eq_some_iff] at h; obtain ⟨_, _, rfl⟩ := h; rfl
  | ref o i off =>
    cases off with
    | zero =>
      simp only [toD] at h
      split at h
      · obtain ⟨e, _, h⟩ := Option.bind_eq_some_iff.1 h
        split at h
        · cases h; rfl
        · cases h
      · cases h
    | succ n => simp [toD] at h
  | pe o x => simp [toD] at h
  | nl b => simp [toD] at h
  | agg => simp [AV.cell] at hx
  | tup => simp [AV.cell] at hx
  | undef => simp [AV.cell] at hx

theorem toD_ok (hr : Rel C S a w ι R) {x : AV} {u : Value} (h : VA w R ι (mark S.heap) x u) : ∀ {d : D} {os : List Nat}, toD S.heap x = some d → (∀ o ∈ x.objs, o ∈ os) → Rd w (Sealed R ι os) (.v d u) := by
  induction h with
  | d h => intro d os hd _; simp only [toD, Option.some.injEq] at hd; subst hd; exact h.sealed
  | xsl h => intro d os hd _; simp only [toD, Option.some.injEq] at hd; subst hd; exact h.sealed
  | @ref o i off b s hι hmk =>
    intro d os hd ho
    cases off with
    | succ n => simp [toD] at hd
    | zero =>
      simp only [toD] at hd
      split at hd
      · rename_i es hes
        obtain ⟨e, he, hd⟩ := Option.bind_eq_some_iff.1 hd
        split at hd
        · rename_i y
          cases hd
          have hob := hr.heap _ _ (look_mem hes)
          cases hob with
          | row hι' hR hb hs hsz _ hcell =>
            rw [hι] at hι'; cases hι'
            refine .pd (.inr ⟨o, s, ho o (by simp [AV.objs]), hι⟩) (Rd.el_of_cells (fun vs hvs => ?_) fun j c hj => ?_)
            · subst hvs
              have := (hcell _ _ he 0 (.d (.tup vs)) rfl).1
              simp [AV.cell, D.cell] at this
            · obtain ⟨k1, q, k2, k3⟩ := hcell _ _ he j (.d c) (by simp [AV.cells, hj])
              exact ⟨k1, q, by rw [cell_of hb]; exact k2, k3.of_d.sealed⟩
        · cases hd
      · cases hd
  | @osl o off len cap b s c T hι hmk hb hl hc hL =>
    intro d os hd ho
    simp only [toD] at hd
    split at hd
    · rename_i es hes
      obtain ⟨ds, hds, hd⟩ := Option.bind_eq_some_iff.1 hd
      split at hd
      · rename_i hlen
        cases hd
        have hob := hr.heap _ _ (look_mem hes)
        cases hob with
        | row hι' hR hb' hs hsz _ hcell =>
          rw [hι] at hι'; cases hι'
          rw [hb] at hb'; cases hb'
          by_cases h0 : ds = []
          · subst h0; simp at hlen; subst hlen; exact .sl0
          · have hget : ∀ (i : Nat) (d : D), ds[i]? = some d → es[off + i]? = some (.d d) := fun i d hi => by
              have h1 := allD_get hds hi
              have hlt : i < len := by rw [← hlen]; exact (List.getElem?_eq_some_iff.1 hi).1
              rw [List.getElem?_take_of_lt hlt, List.getElem?_drop] at h1; exact h1
            have := Rd.sl (w := w) (R := Sealed R ι os) (es := ds) (b := b) (off := off * s) (s := s) (cap := cap) (.inr ⟨o, s, ho o (by simp [AV.objs]), hι⟩) h0 hs (by omega) (by omega) (fun e he => by
              obtain ⟨i, hi⟩ := List.getElem?_of_mem he
              have := hsz _ (List.mem_of_getElem? (hget i e hi))
              exact this) (fun i e hi => by
              have he := hget i e hi
              refine Rd.el_of_cells (fun vs hvs => ?_) fun j c' hj => ?_
              · subst hvs
                have := (hcell _ _ he 0 (.d (.tup vs)) rfl).1
                simp [AV.cell, D.cell] at this
              · obtain ⟨k1, q, k2, k3⟩ := hcell _ _ he j (.d c') (by simp [AV.cells, hj])
                refine ⟨k1, q, ?_, k3.of_d.sealed⟩
                rw [cell_of hb, ← k2, Nat.add_mul])
            rwa [hlen] at this
      · cases hd
    · cases hd
  | osl0 =>
    intro d os hd _
    simp only [toD] at hd
    split at hd
    · obtain ⟨ds, hds, hd⟩ := Option.bind_eq_some_iff.1 hd
      split at hd
      · rename_i hlen
        cases hd
        have : ds = [] := List.length_eq_zero_iff.1 hlen
        subst this; exact .sl0
      · cases hd
    · cases hd
  | @accR o b off s cap es hR hs hL hl hsz hh hm =>
    intro d os hd _
    simp only [toD, Option.some.injEq] at hd; subst hd
    by_cases h0 : es = []
    · subst h0; exact .sl0
    · exact .sl (.inl hR) h0 hs hL hl hsz fun i e hi => (hh i e hi).sealed
  | @accC o b s m cap es c T hι hmk hm hL hl hsz hb hc hh =>
    intro d os hd ho
    simp only [toD, Option.some.injEq] at hd; subst hd
    by_cases h0 : es = []
    · subst h0; exact .sl0
    · unfold mark at hmk
      split at hmk
      · rename_i q hq
        cases hmk
        cases hr.heap _ _ (look_mem hq) with
        | accN hι' => rw [hι] at hι'; cases hι'
        | acc _ hι' _ _ hs _ =>
          rw [hι] at hι'; cases hι'
          exact .sl (.inr ⟨o, s, ho o (by simp [AV.objs]), hι⟩) h0 hs hL hl hsz fun i e hi => by rw [Nat.zero_add]; exact (hh i e hi).sealed
      · rename_i q hq
        cases hr.heap _ _ (look_mem hq) with
        | frz hf =>
          obtain ⟨hR, hs⟩ := hf _ _ hι
          exact .sl (.inl hR) h0 hs hL hl hsz fun i e hi => by rw [Nat.zero_add]; exact (hh i e hi).sealed
      · cases hmk
  | acc0 => intro d os hd _; simp only [toD, Option.some.injEq] at hd; subst hd; exact .sl0
  | agg hl hc _ ih =>
    intro d os hd ho
    simp only [toD, Option.map_eq_some_iff] at hd
    obtain ⟨ds, hds, rfl⟩ := hd
    obtain ⟨h1, h2⟩ := toDs_get hds
    refine .agg (by omega) (fun c hc' => ?_) fun i c u k1 k2 => ?_
    · obtain ⟨i, hi⟩ := List.getElem?_of_mem hc'
      have hlt := (List.getElem?_eq_some_iff.1 hi).1
      rw [h1] at hlt
      exact toD_cell (h2 i _ c (List.getElem?_eq_getElem hlt) hi) (hc _ (List.getElem_mem hlt))
    · have hlt := (List.getElem?_eq_some_iff.1 k1).1
      rw [h1] at hlt
      have hx := List.getElem?_eq_getElem hlt
      exact ih i _ u hx k2 (h2 i _ c hx k1) fun o ho' => ho o (by simp only [AV.objs]; exact AV.objsL_mem (List.getElem_mem hlt) ho')
  | tup hl _ ih =>
    intro d os hd ho
    simp only [toD, Option.map_eq_some_iff] at hd
    obtain ⟨ds, hds, rfl⟩ := hd
    obtain ⟨h1, h2⟩ := toDs_get hds
    refine .tup (by omega) fun i c u k1 k2 => ?_
    have hlt := (List.getElem?_eq_some_iff.1 k1).1
    rw [h1] at hlt
    have hx := List.getElem?_eq_getElem hlt
    exact ih i _ u hx k2 (h2 i _ c hx k1) fun o ho' => ho o (by simp only [AV.objs]; exact AV.objsL_mem (List.getElem_mem hlt) ho')
  | fn hl _ ih =>
    intro d os hd ho
    simp only [toD, Option.map_eq_some_iff] at hd
    obtain ⟨ds, hds, rfl⟩ := hd
    obtain ⟨h1, h2⟩ := toDs_get hds
    refine .fn (by omega) fun i c u k1 k2 => ?_
    have hlt := (List.getElem?_eq_some_iff.1 k1).1
    rw [h1] at hlt
    have hx := List.getElem?_eq_getElem hlt
    exact ih i _ u hx k2 (h2 i _ c hx k1) fun o ho' => ho o (by simp only [AV.objs]; exact AV.objsL_mem (List.getElem_mem hlt) ho')
  | _ => intro d os hd _; simp [toD] at hd

mutual
/-- Nothing in memory belongs to it. -/
def D.flat : D → Bool
  | .int _ _ => true
  | .bool _ => true
  | .str _ => true
  | .agg cs => D.flatL cs
  | .tup cs => D.flatL cs
  | .sl _ => false
  | .pd _ => false
  | .fn _ cs => D.flatL cs
def D.flatL : List D → Bool
  | [] => true
  | x :: xs => D.flat x && D.flatL xs
end

end Go.Sim
