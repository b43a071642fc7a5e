/-
  Contracts of functions, and calls.
  What an operation looks at: its outcome depends on its operands and on the objects that these name alone.
  An operation brings in no object but its operands' and its own.
-/
import Derived.Test.YtadnfmkdmknmhaaBea34f08
import Derived.Test.YtadnfmkdmknmhaaBe9a4064
set_option linter.unusedSimpArgs false
set_option linter.unusedVariables false
namespace Go.Sim
open Go (World Value Addr TypeId Act)
variable {P : Program} {C : Ctx} {S : St} {a : Act} {w : World} {ι : Inj} {R : Nat → Prop}
def VAs (w : World) (R : Nat → Prop) (ι : Inj) (mk : Nat → Option Nat) (xs : List AV) (us : List Value) : Prop :=
  us.length = xs.length ∧ ∀ (i : Nat) (x : AV) (u : Value), xs[i]? = some x → us[i]? = some u → VA w R ι mk x u
def GF (P : Program) (f : FuncId) (args : List AV) (os : Heap) (r : AV) (os' : Heap) : Prop :=
  ∀ (w : World) (R : Nat → Prop) (ι : Inj) (us : List Value), (∀ b, R b → b < w.heap.size) → (∀ o b s, ι o = some (b, s) → b < w.heap.size ∧ ¬ R b ∧ (look o os).isSome = true) →
    (∀ o o' b s s', ι o = some (b, s) → ι o' = some (b, s') → o = o') → (∀ o ob, (o, ob) ∈ os → OB w R ι (mark os) o ob) → VAs w R ι (mark os) args us →
    Calls P f us.toArray w fun e w' => ∃ (u : Value) (ι' : Inj) (R' : Nat → Prop), e = .returned u ∧ w'.os = w.os ∧ w'.tape = w.tape ∧ w'.output = w.output ∧ w.heap.size ≤ w'.heap.size ∧
      (∀ b, b < w.heap.size → Blk w w' b 0) ∧ (∀ b, b < w.heap.size → (∀ o s, ι o ≠ some (b, s)) → w'.heap[b]? = w.heap[b]?) ∧ (∀ b, R b → R' b) ∧ (∀ b, R' b → b < w'.heap.size ∧ (R b ∨ w.heap.size ≤ b ∨ ∃ o s, ι o = some (b, s) ∧ look o os' = some (.frz none))) ∧
      (∀ o b s, ι o = some (b, s) → ι' o = some (b, s)) ∧ (∀ o b s, ι' o = some (b, s) → b < w'.heap.size ∧ (ι o = some (b, s) ∨ w.heap.size ≤ b)) ∧ (∀ o o' b s s', ι' o = some (b, s) → ι' o' = some (b, s') → o = o') ∧
      (∀ o ob, (o, ob) ∈ os' → OB w' R' ι' (mark os') o ob) ∧ VA w' R' ι' (mark os') r u
def Sealed (R : Nat → Prop) (ι : Inj) (os : List Nat) : Nat → Prop := fun b => R b ∨ ∃ o s, o ∈ os ∧ ι o = some (b, s)
theorem AV.objsL_mem {o : Nat} {x : AV} {xs : List AV} (h : x ∈ xs) (ho : o ∈ x.objs) : o ∈ AV.objsL xs := by
  induction xs with
  | nil => cases h
  | cons y ys ih =>
    simp only [AV.objsL, List.mem_append]
    cases h with
    | head => exact .inl ho
    | tail _ h => exact .inr (ih h)
theorem toDs_get {H : Heap} : ∀ {xs : List AV} {ds : List D}, toD.toDs H xs = some ds → ds.length = xs.length ∧ ∀ (i : Nat) (x : AV) (d : D), xs[i]? = some x → ds[i]? = some d → toD H x = some d := by
  intro xs
  induction xs with
  | nil => intro ds h; simp only [toD.toDs, Option.some.injEq] at h; subst h; simp
  | cons x xs ih =>
    intro ds h
    simp only [toD.toDs] at h
    split at h
    · rename_i y ys h1 h2
      cases h
      obtain ⟨h3, h4⟩ := ih h2
      refine ⟨by simp [h3], fun i a b ha hb => ?_⟩
      match i, ha, hb with
      | 0, ha, hb => simp at ha hb; subst ha hb; exact h1
      | n + 1, ha, hb => exact h4 n a b (by simpa using ha) (by simpa using hb)
    · cases h
theorem Rd.sealed {os : List Nat} {it : It} (h : Rd w R it) : Rd w (Sealed R ι os) it := h.mono (fun _ h => .inl h) (fun _ _ => rfl) (by cases it with | v => trivial | el => exact fun _ _ => rfl)
theorem toD_cell {H : Heap} {x : AV} {d : D} (h : toD H x = some d) (hx : x.cell = true) : d.cell = true := by
  cases x with
  | d y => simp only [toD, Option.some.injEq] at h; subst h; exact hx
  | xsl es => simp only [toD, Option.some.injEq] at h; subst h; rfl
  | acc o es => simp only [toD, Option.some.injEq] at h; subst h; rfl
  | osl o off len =>
    simp only [toD] at h
    split at h
    · obtain ⟨ds, _, h⟩ := Option.bind_eq_some_iff.1 h
      split at h
      · cases h; rfl
      · cases h
    · cases h
  | fn f cs => simp only [toD, Option.map_eq_some_iff] at h; obtain ⟨_, _, rfl⟩ := h; rfl
  | ref o i off =>
    cases off with
    | zero =>
      simp only [toD] at h
      split at h
      · obtain ⟨e, _, h⟩ := Option.bind_eq_some_iff.1 h
        split at h
        · cases h; rfl
        · cases h
      · cases h
    | succ n => simp [toD] at h
  | pe o x => simp [toD] at h
  | nl b => simp [toD] at h
  | mpr b => simp [toD] at h
  | agg => simp [AV.cell] at hx
  | tup => simp [AV.cell] at hx
  | undef => simp [AV.cell] at hx
theorem toD_ok (hr : Rel C S a w ι R) {x : AV} {u : Value} (h : VA w R ι (mark S.heap) x u) : ∀ {d : D} {os : List Nat}, toD S.heap x = some d → (∀ o ∈ x.objs, o ∈ os) → Rd w (Sealed R ι os) (.v d u) := by
  induction h with
  | d h => intro d os hd _; simp only [toD, Option.some.injEq] at hd; subst hd; exact h.sealed
  | xsl h => intro d os hd _; simp only [toD, Option.some.injEq] at hd; subst hd; exact h.sealed
  | @ref o i off b s hι hmk =>
    intro d os hd ho
    cases off with
    | succ n => simp [toD] at hd
    | zero =>
      simp only [toD] at hd
      split at hd
      · rename_i es hes
        obtain ⟨e, he, hd⟩ := Option.bind_eq_some_iff.1 hd
        split at hd
        · rename_i y
          cases hd
          have hob := hr.heap _ _ (look_mem hes)
          cases hob with
          | row hι' hR hb hs hsz _ hcell =>
            rw [hι] at hι'; cases hι'
            refine .pd (.inr ⟨o, s, ho o (by simp [AV.objs]), hι⟩) (Rd.el_of_cells (fun vs hvs => ?_) fun j c hj => ?_)
            · subst hvs
              have := (hcell _ _ he 0 (.d (.tup vs)) rfl).1
              simp [AV.cell, D.cell] at this
            · obtain ⟨k1, q, k2, k3⟩ := hcell _ _ he j (.d c) (by simp [AV.cells, hj])
              exact ⟨k1, q, by rw [cell_of hb]; exact k2, k3.of_d.sealed⟩
        · cases hd
      · cases hd
  | @osl o off len cap b s c T hι hmk hb hl hc hL =>
    intro d os hd ho
    simp only [toD] at hd
    split at hd
    · rename_i es hes
      obtain ⟨ds, hds, hd⟩ := Option.bind_eq_some_iff.1 hd
      split at hd
      · rename_i hlen
        cases hd
        have hob := hr.heap _ _ (look_mem hes)
        cases hob with
        | row hι' hR hb' hs hsz _ hcell =>
          rw [hι] at hι'; cases hι'
          rw [hb] at hb'; cases hb'
          by_cases h0 : ds = []
          · subst h0; simp at hlen; subst hlen; exact .sl0
          · have hget : ∀ (i : Nat) (d : D), ds[i]? = some d → es[off + i]? = some (.d d) := fun i d hi => by
              have h1 := allD_get hds hi
              have hlt : i < len := by rw [← hlen]; exact (List.getElem?_eq_some_iff.1 hi).1
              rw [List.getElem?_take_of_lt hlt, List.getElem?_drop] at h1; exact h1
            have := Rd.sl (w := w) (R := Sealed R ι os) (es := ds) (b := b) (off := off * s) (s := s) (cap := cap) (.inr ⟨o, s, ho o (by simp [AV.objs]), hι⟩) h0 hs (by omega) (by omega) (fun e he => by
              obtain ⟨i, hi⟩ := List.getElem?_of_mem he
              have := hsz _ (List.mem_of_getElem? (hget i e hi))
              exact this) (fun i e hi => by
              have he := hget i e hi
              refine Rd.el_of_cells (fun vs hvs => ?_) fun j c' hj => ?_
              · subst hvs
                have := (hcell _ _ he 0 (.d (.tup vs)) rfl).1
                simp [AV.cell, D.cell] at this
              · obtain ⟨k1, q, k2, k3⟩ := hcell _ _ he j (.d c') (by simp [AV.cells, hj])
                refine ⟨k1, q, ?_, k3.of_d.sealed⟩
                rw [cell_of hb, ← k2, Nat.add_mul])
            rwa [hlen] at this
      · cases hd
    · cases hd
  | osl0 =>
    intro d os hd _
    simp only [toD] at hd
    split at hd
    · obtain ⟨ds, hds, hd⟩ := Option.bind_eq_some_iff.1 hd
      split at hd
      · rename_i hlen
        cases hd
        have : ds = [] := List.length_eq_zero_iff.1 hlen
        subst this; exact .sl0
      · cases hd
    · cases hd
  | @accR o b off s cap es hR hs hL hl hsz hh hm =>
    intro d os hd _
    simp only [toD, Option.some.injEq] at hd; subst hd
    by_cases h0 : es = []
    · subst h0; exact .sl0
    · exact .sl (.inl hR) h0 hs hL hl hsz fun i e hi => (hh i e hi).sealed
  | @accC o b s m cap es c T hι hmk hm hL hl hsz hb hc hh =>
    intro d os hd ho
    simp only [toD, Option.some.injEq] at hd; subst hd
    by_cases h0 : es = []
    · subst h0; exact .sl0
    · unfold mark at hmk
      split at hmk
      · rename_i q hq
        cases hmk
        cases hr.heap _ _ (look_mem hq) with
        | accN hι' => rw [hι] at hι'; cases hι'
        | acc _ hι' _ _ hs _ =>
          rw [hι] at hι'; cases hι'
          exact .sl (.inr ⟨o, s, ho o (by simp [AV.objs]), hι⟩) h0 hs hL hl hsz fun i e hi => by rw [Nat.zero_add]; exact (hh i e hi).sealed
      · rename_i q hq
        cases hr.heap _ _ (look_mem hq) with
        | frz hf =>
          obtain ⟨hR, hs⟩ := hf _ _ hι
          exact .sl (.inl hR) h0 hs hL hl hsz fun i e hi => by rw [Nat.zero_add]; exact (hh i e hi).sealed
      · cases hmk
  | acc0 => intro d os hd _; simp only [toD, Option.some.injEq] at hd; subst hd; exact .sl0
  | agg hl hc _ ih =>
    intro d os hd ho
    simp only [toD, Option.map_eq_some_iff] at hd
    obtain ⟨ds, hds, rfl⟩ := hd
    obtain ⟨h1, h2⟩ := toDs_get hds
    refine .agg (by omega) (fun c hc' => ?_) fun i c u k1 k2 => ?_
    · obtain ⟨i, hi⟩ := List.getElem?_of_mem hc'
      have hlt := (List.getElem?_eq_some_iff.1 hi).1
      rw [h1] at hlt
      exact toD_cell (h2 i _ c (List.getElem?_eq_getElem hlt) hi) (hc _ (List.getElem_mem hlt))
    · have hlt := (List.getElem?_eq_some_iff.1 k1).1
      rw [h1] at hlt
      have hx := List.getElem?_eq_getElem hlt
      exact ih i _ u hx k2 (h2 i _ c hx k1) fun o ho' => ho o (by simp only [AV.objs]; exact AV.objsL_mem (List.getElem_mem hlt) ho')
  | tup hl _ ih =>
    intro d os hd ho
    simp only [toD, Option.map_eq_some_iff] at hd
    obtain ⟨ds, hds, rfl⟩ := hd
    obtain ⟨h1, h2⟩ := toDs_get hds
    refine .tup (by omega) fun i c u k1 k2 => ?_
    have hlt := (List.getElem?_eq_some_iff.1 k1).1
    rw [h1] at hlt
    have hx := List.getElem?_eq_getElem hlt
    exact ih i _ u hx k2 (h2 i _ c hx k1) fun o ho' => ho o (by simp only [AV.objs]; exact AV.objsL_mem (List.getElem_mem hlt) ho')
  | fn hl _ ih =>
    intro d os hd ho
    simp only [toD, Option.map_eq_some_iff] at hd
    obtain ⟨ds, hds, rfl⟩ := hd
    obtain ⟨h1, h2⟩ := toDs_get hds
    refine .fn (by omega) fun i c u k1 k2 => ?_
    have hlt := (List.getElem?_eq_some_iff.1 k1).1
    rw [h1] at hlt
    have hx := List.getElem?_eq_getElem hlt
    exact ih i _ u hx k2 (h2 i _ c hx k1) fun o ho' => ho o (by simp only [AV.objs]; exact AV.objsL_mem (List.getElem_mem hlt) ho')
  | _ => intro d os hd _; simp [toD] at hd
mutual
def D.flat : D → Bool
  | .int _ _ => true
  | .bool _ => true
  | .str _ => true
  | .agg cs => D.flatL cs
  | .tup cs => D.flatL cs
  | .sl _ => false
  | .pd _ => false
  | .fn _ cs => D.flatL cs
def D.flatL : List D → Bool
  | [] => true
  | x :: xs => D.flat x && D.flatL xs
end
end Go.Sim

namespace Go.Sim
open Go (World Value Addr TypeId Act)
def AOp.opds : AOp → List Opd
  | .mv x => [x]
  | .pick c a b => [c, a, b]
  | .alloc _ => []
  | .box x => [x]
  | .build _ ps => ps.map (·.2.2)
  | .bsl _ _ _ ps => ps.map (·.2)
  | .ld _ _ p => [p]
  | .st _ p x => [p, x]
  | .nilc x => [x]
  | .bin _ x y => [x, y]
  | .eqb _ x y => [x, y]
  | .eqs _ _ _ x y => [x, y]
  | .nacc => []
  | .un _ x => [x]
  | .cvi _ x => [x]
  | .s2b x => [x]
  | .b2s x => [x]
  | .mkfn _ cs => cs
  | .fad _ _ _ x => [x]
  | .fld _ _ _ x => [x]
  | .iad _ x i => [x, i]
  | .iada _ _ _ x i => [x, i]
  | .idx x i => [x, i]
  | .idxa _ _ _ x i => [x, i]
  | .slc _ x lo hi mx => x :: (lo.toList ++ hi.toList ++ mx.toList)
  | .sls x lo hi => x :: (lo.toList ++ hi.toList)
  | .ext x _ => [x]
  | .len x => [x]
  | .lens x => [x]
  | .app _ x y => [x, y]
  | .apps x y => [x, y]
  | .clr _ x => [x]
  | .mm _ xs => xs
  | .mks _ _ l c => [l, c]
  | .nileq _ x => [x]
  | .call _ _ xs => xs
  | .callv f _ xs => f :: xs
  | .atl p => [p]
  | .ats p x => [p, x]
  | .atc p x y => [p, x, y]
  | .mkm => []
  | .lkp _ _ x k => [x, k]
  | .mup x k v => [x, k, v]
def AOp.looks : AOp → Bool
  | .ld .. | .st .. | .clr .. | .iad .. | .slc .. | .app .. | .apps .. | .call .. | .callv .. | .lkp .. | .mup .. | .atl .. | .ats .. | .atc .. => true
  | _ => false
def AOp.stores : AOp → Bool
  | .st .. | .clr .. | .mup .. | .ats .. | .atc .. => true
  | _ => false
def AOp.news : AOp → Bool
  | .alloc .. | .box .. | .bsl .. | .mks .. | .app .. | .apps .. | .nacc | .mkm => true
  | _ => false
def objsOf (E : Env) : List Opd → List Nat
  | [] => []
  | y :: l => (y.ev E).objs ++ objsOf E l
theorem mem_objsOf {E : Env} {o : Nat} : ∀ {l : List Opd}, o ∈ objsOf E l ↔ ∃ y ∈ l, o ∈ (y.ev E).objs := by
  intro l
  induction l with
  | nil => simp [objsOf]
  | cons y l ih => simp [objsOf, ih]
def AOp.foot (E : Env) (dst : Nat) (op : AOp) : List Nat := (if op.looks then objsOf E op.opds else []) ++ (if op.news then [dst] else [])
def AOp.wr (E : Env) (dst : Nat) : AOp → List Nat
  | .st _ p _ => (p.ev E).objs
  | .clr _ x => (x.ev E).objs
  | .app _ x _ => (x.ev E).objs ++ [dst]
  | .apps x _ => (x.ev E).objs ++ [dst]
  | .mup x _ _ => (x.ev E).objs
  | .ats p _ => (p.ev E).objs
  | .atc p _ _ => (p.ev E).objs
  | .alloc _ | .box _ | .bsl .. | .mks .. | .nacc | .mkm => [dst]
  | _ => []
theorem AOp.wr_foot {E : Env} {dst o : Nat} {op : AOp} (h : o ∈ op.wr E dst) : o ∈ op.foot E dst := by
  cases op <;> simp_all [AOp.wr, AOp.foot, AOp.looks, AOp.news, AOp.opds, objsOf]
  · rcases h with h | h <;> simp [h]
  · rcases h with h | h <;> simp [h]
def putsH : Heap → Heap → Heap
  | [], H => H
  | (o, ob) :: δ, H => setAt o ob (putsH δ H)
theorem look_setAt_if {α : Type} {k j : Nat} {x : α} {l : List (Nat × α)} : look j (setAt k x l) = if j = k then some x else look j l := by
  split
  · rename_i h; subst h; simp
  · rename_i h; exact look_setAt_ne h
theorem look_putsH {o : Nat} {δ H : Heap} : look o (putsH δ H) = (look o δ).or (look o H) := by
  induction δ with
  | nil => simp [putsH, look]
  | cons p δ ih =>
    obtain ⟨q, ob⟩ := p
    rw [putsH, look_setAt_if, look]
    by_cases h : o = q
    · simp [h]
    · rw [if_neg h, if_neg (Ne.symm h), ih]
structure Local (op : AOp) (E : Env) (H : Heap) (dst : Nat) (v : AV) (H' : Heap) (δ : Heap) : Prop where
  eq : H' = putsH δ H
  sub : ∀ o ob, (o, ob) ∈ δ → o ∈ op.wr E dst
  same : ∀ E2 H2, (∀ y ∈ op.opds, y.ev E2 = y.ev E) → (∀ o ∈ op.foot E dst, look o H2 = look o H) → (op.news = true → refsEnv dst E2 = false ∧ refsHeap dst H2 = false) → astep E2 H2 dst op = some (v, putsH δ H2)
theorem Local.quiet {op : AOp} {E : Env} {H : Heap} {dst : Nat} {v : AV} {H' : Heap} (hn : op.news = false)
    (h : ∀ E2 H2, (∀ y ∈ op.opds, y.ev E2 = y.ev E) → (op.looks = true → ∀ o ∈ objsOf E op.opds, look o H2 = look o H) → astep E2 H2 dst op = some (v, H2)) (he : H' = H) : Local op E H dst v H' [] := by
  refine ⟨he, (fun o ob h => nomatch h), fun E2 H2 h1 h2 _ => h E2 H2 h1 fun hl o ho => h2 o ?_⟩
  simp [AOp.foot, hl, ho]
theorem opds_map {E E2 : Env} {α : Type} {l : List α} {g : α → Opd} (h : ∀ y ∈ l.map g, y.ev E2 = y.ev E) : ∀ p ∈ l, (g p).ev E2 = (g p).ev E := fun p hp => h _ (List.mem_map_of_mem hp)
theorem map_ev {E E2 : Env} {l : List Opd} (h : ∀ y ∈ l, y.ev E2 = y.ev E) : l.map (·.ev E2) = l.map (·.ev E) := List.map_congr_left h
theorem ldA_same {E : Env} {H H2 : Heap} {ag : Bool} {n : Nat} {x : AV} (h : ∀ o ∈ x.objs, look o H2 = look o H) : ldA H2 ag n x = ldA H ag n x := by
  cases x with
  | d y => cases y <;> rfl
  | ref o i off => simp only [ldA]; try rw [h _ (by simp [AV.objs])]
  | osl o off len => simp only [ldA]; try rw [h _ (by simp [AV.objs])]
  | _ => rfl
theorem iadA_same {H H2 : Heap} {n : Nat} {i : Int} {x : AV} (h : ∀ o ∈ x.objs, look o H2 = look o H) : iadA H2 n i x = iadA H n i x := by
  cases x with
  | d y => cases y <;> rfl
  | ref o i off => simp only [iadA]; try rw [h _ (by simp [AV.objs])]
  | osl o off len => simp only [iadA]; try rw [h _ (by simp [AV.objs])]
  | _ => rfl
theorem slcA_same {H H2 : Heap} {n : Nat} {lo hi mx : Option AV} {x : AV} (h : ∀ o ∈ x.objs, look o H2 = look o H) : slcA H2 n lo hi mx x = slcA H n lo hi mx x := by
  cases x with
  | d y => cases y <;> rfl
  | ref o i off => simp only [slcA]; try rw [h _ (by simp [AV.objs])]
  | osl o off len => simp only [slcA]; try rw [h _ (by simp [AV.objs])]
  | _ => rfl
theorem srcD_same {H H2 : Heap} {x : AV} (h : ∀ o ∈ x.objs, look o H2 = look o H) : srcD H2 x = srcD H x := by
  cases x with
  | d y => cases y <;> rfl
  | ref o i off => simp only [srcD]; try rw [h _ (by simp [AV.objs])]
  | osl o off len => simp only [srcD]; try rw [h _ (by simp [AV.objs])]
  | _ => rfl
theorem atlA_same {H H2 : Heap} {x : AV} (h : ∀ o ∈ x.objs, look o H2 = look o H) : atlA H2 x = atlA H x := by
  cases x with
  | ref o i off => simp only [atlA]; rw [h _ (by simp [AV.objs])]
  | _ => rfl
theorem atsA_spec {H H1 : Heap} {n : Int} {p : AV} (h : atsA H n p = some H1) : ∃ o ob, o ∈ p.objs ∧ H1 = setAt o ob H ∧ ∀ H2 : Heap, look o H2 = look o H → atsA H2 n p = some (setAt o ob H2) := by
  unfold atsA at h
  split at h
  · rename_i o i off
    split at h
    · rename_i es hes
      obtain ⟨e, he, h⟩ := Option.bind_eq_some_iff.1 h
      obtain ⟨m, hm, h⟩ := Option.bind_eq_some_iff.1 h
      obtain ⟨e', he', h⟩ := Option.map_eq_some_iff.1 h
      cases h
      refine ⟨o, _, by simp [AV.objs], rfl, fun H2 h2 => ?_⟩
      simp only [atsA, h2, hes, he, Option.bind_some, hm, he', Option.map_some]
    · cases h
  · cases h
theorem lkpA_same {H H2 : Heap} {ok : Bool} {z : D} {x k : AV} (h : ∀ o ∈ x.objs, look o H2 = look o H) : lkpA H2 ok z x k = lkpA H ok z x k := by
  cases x with
  | mpr o =>
    cases k with
    | d y => unfold lkpA; have := h o (by simp [AV.objs]); split <;> simp_all
    | _ => rfl
  | _ => rfl
theorem Local.new {op : AOp} {E : Env} {H : Heap} {dst : Nat} {v : AV} {ob : Obj} (hn : op.news = true)
    (h : ∀ E2 H2, (∀ y ∈ op.opds, y.ev E2 = y.ev E) → (∀ o ∈ op.foot E dst, look o H2 = look o H) → refsEnv dst E2 = false → refsHeap dst H2 = false → astep E2 H2 dst op = some (v, setAt dst ob H2)) : Local op E H dst v (setAt dst ob H) [(dst, ob)] := by
  refine ⟨rfl, fun o ob' h' => ?_, fun E2 H2 h1 h2 h3 => h E2 H2 h1 h2 (h3 hn).1 (h3 hn).2⟩
  simp only [List.mem_singleton, Prod.mk.injEq] at h'
  rw [h'.1]
  cases op <;> simp_all [AOp.wr, AOp.news]
theorem appA_local {op : AOp} {E : Env} {H : Heap} {dst n : Nat} {x : Opd} {ys : List D} {v : AV} {H' : Heap} (hn : op.news = true) (hl : op.looks = true) (hx : x ∈ op.opds) (hw : ∀ o ∈ (x.ev E).objs, o ∈ op.wr E dst) (h : appA E H dst n ys (x.ev E) = some (v, H'))
    (hop : ∀ E2 H2, (∀ y ∈ op.opds, y.ev E2 = y.ev E) → (∀ o ∈ op.foot E dst, look o H2 = look o H) → astep E2 H2 dst op = appA E2 H2 dst n ys (x.ev E)) : ∃ δ, Local op E H dst v H' δ := by
  cases hxv : x.ev E with
  | xsl es =>
    rw [hxv] at h
    simp only [appA] at h
    split at h
    · rename_i h0
      split at h
      · rename_i h1
        cases h
        refine ⟨[], rfl, fun p ob hp => (by cases hp), fun E2 H2 k1 k2 _ => ?_⟩
        rw [hop E2 H2 k1 k2, hxv]
        simp only [appA]
        rw [if_pos h0, if_pos h1]; rfl
      · cases h
    rename_i h0
    split at h
    · rename_i hc
      cases h
      refine ⟨_, Local.new hn fun E2 H2 h1 h2 h3 h4 => ?_⟩
      rw [hop E2 H2 h1 h2, hxv]
      simp only [appA]
      rw [if_neg h0, if_pos ⟨hc.1, hc.2.1, h3, h4⟩]
    · cases h
  | acc o es =>
    rw [hxv] at h
    simp only [appA] at h
    have hmem : o ∈ op.foot E dst := by
      simp only [AOp.foot, hl, if_true, List.mem_append]
      exact .inl (mem_objsOf.2 ⟨x, hx, by rw [hxv]; simp [AV.objs]⟩)
    split at h
    · rename_i m hm
      split at h
      · rename_i hc
        cases h
        refine ⟨[(o, .acc (m + ys.length))], rfl, ?_, fun E2 H2 h1 h2 _ => ?_⟩
        · intro p ob hp
          simp only [List.mem_singleton, Prod.mk.injEq] at hp
          rw [hp.1]; exact hw _ (by rw [hxv]; simp [AV.objs])
        · rw [hop E2 H2 h1 h2, hxv]
          simp only [appA]
          rw [h2 _ hmem, hm]
          simp only [hc, and_self, if_true, putsH]
      · cases h
    · cases h
  | _ => rw [hxv] at h; simp [appA] at h
theorem astep_quiet_eq {op : AOp} {E : Env} {H : Heap} {dst : Nat} {r : AV × Heap} (hn : op.news = false) (hs : op.stores = false) (h : astep E H dst op = some r) : r.2 = H := by
  obtain ⟨v, H'⟩ := r
  cases op with
  | st n p x => cases hs
  | clr n x => cases hs
  | mup x k v => cases hs
  | ats p x => cases hs
  | atc p x y => cases hs
  | atl p =>
    simp only [astep] at h
    obtain ⟨q, _, h⟩ := Option.map_eq_some_iff.1 h
    cases h; rfl
  | lkp ok z x k =>
    simp only [astep] at h
    obtain ⟨q, _, h⟩ := Option.map_eq_some_iff.1 h
    cases h; rfl
  | sls x lo hi =>
    simp only [astep] at h
    split at h
    · obtain ⟨q, _, h⟩ := Option.bind_eq_some_iff.1 h
      obtain ⟨l, _, h⟩ := Option.map_eq_some_iff.1 h
      cases h; rfl
    · cases h
  | _ =>
    first
      | (exfalso; revert hn; simp [AOp.news]; done)
      | (revert h
         simp only [astep]
         (repeat' split) <;> intro h <;> simp_all [Option.map_eq_some_iff, Option.bind_eq_some_iff] <;> grind)
theorem astep_local {op : AOp} {E : Env} {H : Heap} {dst : Nat} {v : AV} {H' : Heap} (h : astep E H dst op = some (v, H')) : ∃ δ, Local op E H dst v H' δ := by
  cases op with
  | mv x =>
    simp only [astep, Option.some.injEq, Prod.mk.injEq] at h
    obtain ⟨rfl, rfl⟩ := h
    refine ⟨[], Local.quiet rfl (fun E2 H2 he _ => ?_) rfl⟩
    simp [astep, he x (by simp [AOp.opds])]
  | pick c a b =>
    simp only [astep] at h
    split at h
    · rename_i t ht
      simp only [Option.some.injEq, Prod.mk.injEq] at h
      obtain ⟨rfl, rfl⟩ := h
      refine ⟨[], Local.quiet rfl (fun E2 H2 he _ => ?_) rfl⟩
      simp only [astep, he c (by simp [AOp.opds]), he a (by simp [AOp.opds]), he b (by simp [AOp.opds]), ht]
    · cases h
  | nilc x =>
    refine ⟨[], Local.quiet rfl (fun E2 H2 he _ => ?_) (astep_quiet_eq rfl rfl h)⟩
    have hq := astep_quiet_eq rfl rfl h
    dsimp only at hq; subst hq
    revert h
    simp only [astep, he x (by simp [AOp.opds])]
    (repeat' split) <;> intro h <;> simp_all [Option.map_eq_some_iff, Option.bind_eq_some_iff]
  | bin op x y =>
    refine ⟨[], Local.quiet rfl (fun E2 H2 he _ => ?_) (astep_quiet_eq rfl rfl h)⟩
    have hq := astep_quiet_eq rfl rfl h
    dsimp only at hq; subst hq
    revert h
    simp only [astep, he x (by simp [AOp.opds]), he y (by simp [AOp.opds])]
    (repeat' split) <;> intro h <;> simp_all [Option.map_eq_some_iff, Option.bind_eq_some_iff]
  | eqb ng x y =>
    refine ⟨[], Local.quiet rfl (fun E2 H2 he _ => ?_) (astep_quiet_eq rfl rfl h)⟩
    have hq := astep_quiet_eq rfl rfl h
    dsimp only at hq; subst hq
    revert h
    simp only [astep, he x (by simp [AOp.opds]), he y (by simp [AOp.opds])]
    (repeat' split) <;> intro h <;> simp_all [Option.map_eq_some_iff, Option.bind_eq_some_iff]
  | eqs ng n ls x y =>
    refine ⟨[], Local.quiet rfl (fun E2 H2 he _ => ?_) (astep_quiet_eq rfl rfl h)⟩
    have hq := astep_quiet_eq rfl rfl h
    dsimp only at hq; subst hq
    revert h
    simp only [astep, he x (by simp [AOp.opds]), he y (by simp [AOp.opds])]
    (repeat' split) <;> intro h <;> simp_all [Option.map_eq_some_iff, Option.bind_eq_some_iff]
  | nacc =>
    simp only [astep] at h
    split at h
    · rename_i hc
      cases h
      exact ⟨_, Local.new rfl fun E2 H2 _ _ h1 h2 => by simp only [astep]; rw [if_pos ⟨h1, h2⟩]⟩
    · cases h
  | un op x =>
    refine ⟨[], Local.quiet rfl (fun E2 H2 he _ => ?_) (astep_quiet_eq rfl rfl h)⟩
    have hq := astep_quiet_eq rfl rfl h
    dsimp only at hq; subst hq
    revert h
    simp only [astep, he x (by simp [AOp.opds])]
    (repeat' split) <;> intro h <;> simp_all [Option.map_eq_some_iff, Option.bind_eq_some_iff]
  | cvi k x =>
    refine ⟨[], Local.quiet rfl (fun E2 H2 he _ => ?_) (astep_quiet_eq rfl rfl h)⟩
    have hq := astep_quiet_eq rfl rfl h
    dsimp only at hq; subst hq
    revert h
    simp only [astep, he x (by simp [AOp.opds])]
    (repeat' split) <;> intro h <;> simp_all [Option.map_eq_some_iff, Option.bind_eq_some_iff]
  | s2b x =>
    refine ⟨[], Local.quiet rfl (fun E2 H2 he _ => ?_) (astep_quiet_eq rfl rfl h)⟩
    have hq := astep_quiet_eq rfl rfl h
    dsimp only at hq; subst hq
    revert h
    simp only [astep, he x (by simp [AOp.opds])]
    (repeat' split) <;> intro h <;> simp_all [Option.map_eq_some_iff, Option.bind_eq_some_iff]
  | b2s x =>
    refine ⟨[], Local.quiet rfl (fun E2 H2 he _ => ?_) (astep_quiet_eq rfl rfl h)⟩
    have hq := astep_quiet_eq rfl rfl h
    dsimp only at hq; subst hq
    revert h
    simp only [astep, he x (by simp [AOp.opds])]
    (repeat' split) <;> intro h <;> simp_all [Option.map_eq_some_iff, Option.bind_eq_some_iff]
  | fad ag off n x =>
    refine ⟨[], Local.quiet rfl (fun E2 H2 he _ => ?_) (astep_quiet_eq rfl rfl h)⟩
    have hq := astep_quiet_eq rfl rfl h
    dsimp only at hq; subst hq
    revert h
    simp only [astep, he x (by simp [AOp.opds])]
    (repeat' split) <;> intro h <;> simp_all [Option.map_eq_some_iff, Option.bind_eq_some_iff]
  | fld ag off n x =>
    refine ⟨[], Local.quiet rfl (fun E2 H2 he _ => ?_) (astep_quiet_eq rfl rfl h)⟩
    have hq := astep_quiet_eq rfl rfl h
    dsimp only at hq; subst hq
    revert h
    simp only [astep, he x (by simp [AOp.opds])]
    (repeat' split) <;> intro h <;> simp_all [Option.map_eq_some_iff, Option.bind_eq_some_iff]
  | iada ag len n x i =>
    refine ⟨[], Local.quiet rfl (fun E2 H2 he _ => ?_) (astep_quiet_eq rfl rfl h)⟩
    have hq := astep_quiet_eq rfl rfl h
    dsimp only at hq; subst hq
    revert h
    simp only [astep, he x (by simp [AOp.opds]), he i (by simp [AOp.opds])]
    (repeat' split) <;> intro h <;> simp_all [Option.map_eq_some_iff, Option.bind_eq_some_iff]
  | idx x i =>
    refine ⟨[], Local.quiet rfl (fun E2 H2 he _ => ?_) (astep_quiet_eq rfl rfl h)⟩
    have hq := astep_quiet_eq rfl rfl h
    dsimp only at hq; subst hq
    revert h
    simp only [astep, he x (by simp [AOp.opds]), he i (by simp [AOp.opds])]
    (repeat' split) <;> intro h <;> simp_all [Option.map_eq_some_iff, Option.bind_eq_some_iff]
  | idxa ag len n x i =>
    refine ⟨[], Local.quiet rfl (fun E2 H2 he _ => ?_) (astep_quiet_eq rfl rfl h)⟩
    have hq := astep_quiet_eq rfl rfl h
    dsimp only at hq; subst hq
    revert h
    simp only [astep, he x (by simp [AOp.opds]), he i (by simp [AOp.opds])]
    (repeat' split) <;> intro h <;> simp_all [Option.map_eq_some_iff, Option.bind_eq_some_iff]
  | ext x i =>
    refine ⟨[], Local.quiet rfl (fun E2 H2 he _ => ?_) (astep_quiet_eq rfl rfl h)⟩
    have hq := astep_quiet_eq rfl rfl h
    dsimp only at hq; subst hq
    revert h
    simp only [astep, he x (by simp [AOp.opds])]
    (repeat' split) <;> intro h <;> simp_all [Option.map_eq_some_iff, Option.bind_eq_some_iff]
  | len x =>
    refine ⟨[], Local.quiet rfl (fun E2 H2 he _ => ?_) (astep_quiet_eq rfl rfl h)⟩
    have hq := astep_quiet_eq rfl rfl h
    dsimp only at hq; subst hq
    revert h
    simp only [astep, he x (by simp [AOp.opds])]
    (repeat' split) <;> intro h <;> simp_all [Option.map_eq_some_iff, Option.bind_eq_some_iff]
  | lens x =>
    refine ⟨[], Local.quiet rfl (fun E2 H2 he _ => ?_) (astep_quiet_eq rfl rfl h)⟩
    have hq := astep_quiet_eq rfl rfl h
    dsimp only at hq; subst hq
    revert h
    simp only [astep, he x (by simp [AOp.opds])]
    (repeat' split) <;> intro h <;> simp_all [Option.map_eq_some_iff, Option.bind_eq_some_iff]
  | build z ps =>
    refine ⟨[], Local.quiet rfl (fun E2 H2 he _ => ?_) (astep_quiet_eq rfl rfl h)⟩
    have hq := astep_quiet_eq rfl rfl h
    dsimp only at hq; subst hq
    have hm : (ps.map fun p => (p.1, p.2.1, p.2.2.ev E2)) = ps.map fun p => (p.1, p.2.1, p.2.2.ev E) := List.map_congr_left fun p hp => by rw [opds_map (g := fun p : Nat × Nat × Opd => p.2.2) he p hp]
    simp only [astep, hm] at h ⊢
    obtain ⟨q, h1, h2⟩ := Option.map_eq_some_iff.1 h
    rw [h1]; simp at h2; simp [h2]
  | mkfn f cs =>
    refine ⟨[], Local.quiet rfl (fun E2 H2 he _ => ?_) (astep_quiet_eq rfl rfl h)⟩
    have hm : cs.map (·.ev E2) = cs.map (·.ev E) := map_ev he
    simp only [astep] at h ⊢
    cases h
    rw [hm]
  | mm mx xs =>
    refine ⟨[], Local.quiet rfl (fun E2 H2 he _ => ?_) (astep_quiet_eq rfl rfl h)⟩
    have hm : xs.map (·.ev E2) = xs.map (·.ev E) := map_ev he
    simp only [astep] at h ⊢
    rw [hm]
    split at h
    · cases h
    · obtain ⟨q, h1, h2⟩ := Option.map_eq_some_iff.1 h
      cases h2; simp [h1]
  | ld ag n p =>
    refine ⟨[], Local.quiet rfl (fun E2 H2 he hh => ?_) (astep_quiet_eq rfl rfl h)⟩
    have hp := he p (by simp [AOp.opds])
    have hs : ldA H2 ag n (p.ev E) = ldA H ag n (p.ev E) := ldA_same (E := E) fun o ho => hh rfl o (mem_objsOf.2 ⟨p, by simp [AOp.opds], ho⟩)
    simp only [astep, hp, hs] at h ⊢
    obtain ⟨q, h1, h2⟩ := Option.map_eq_some_iff.1 h
    cases h2; simp [h1]
  | iad n x i =>
    refine ⟨[], Local.quiet rfl (fun E2 H2 he hh => ?_) (astep_quiet_eq rfl rfl h)⟩
    have hp := he x (by simp [AOp.opds])
    have hi := he i (by simp [AOp.opds])
    have hs : ∀ k, iadA H2 n k (x.ev E) = iadA H n k (x.ev E) := fun k => iadA_same fun o ho => hh rfl o (mem_objsOf.2 ⟨x, by simp [AOp.opds], ho⟩)
    simp only [astep, hp, hi, hs] at h ⊢
    obtain ⟨k, h1, h2⟩ := Option.bind_eq_some_iff.1 h
    rw [h1]
    simp only [Option.bind_some]
    split at h2
    · rename_i hk
      obtain ⟨q, h3, h4⟩ := Option.map_eq_some_iff.1 h2
      cases h4; simp [hk, h3]
    · cases h2
  | slc n x lo hi mx =>
    refine ⟨[], Local.quiet rfl (fun E2 H2 he hh => ?_) (astep_quiet_eq rfl rfl h)⟩
    have hp := he x (by simp [AOp.opds])
    have h1 : lo.map (·.ev E2) = lo.map (·.ev E) := by cases lo with | none => rfl | some y => simp [he y (by simp [AOp.opds])]
    have h2 : hi.map (·.ev E2) = hi.map (·.ev E) := by cases hi with | none => rfl | some y => simp [he y (by simp [AOp.opds])]
    have h3 : mx.map (·.ev E2) = mx.map (·.ev E) := by cases mx with | none => rfl | some y => simp [he y (by simp [AOp.opds])]
    have hs : slcA H2 n (lo.map (·.ev E)) (hi.map (·.ev E)) (mx.map (·.ev E)) (x.ev E) = slcA H n (lo.map (·.ev E)) (hi.map (·.ev E)) (mx.map (·.ev E)) (x.ev E) := slcA_same fun o ho => hh rfl o (mem_objsOf.2 ⟨x, by simp [AOp.opds], ho⟩)
    simp only [astep, hp, h1, h2, h3, hs] at h ⊢
    obtain ⟨q, h4, h5⟩ := Option.map_eq_some_iff.1 h
    cases h5; simp [h4]
  | sls x lo hi =>
    refine ⟨[], Local.quiet rfl (fun E2 H2 he hh => ?_) (astep_quiet_eq rfl rfl h)⟩
    have hp := he x (by simp [AOp.opds])
    have h1 : lo.map (·.ev E2) = lo.map (·.ev E) := by cases lo with | none => rfl | some y => simp [he y (by simp [AOp.opds])]
    have h2 : hi.map (·.ev E2) = hi.map (·.ev E) := by cases hi with | none => rfl | some y => simp [he y (by simp [AOp.opds])]
    simp only [astep, hp, h1, h2] at h ⊢
    split at h
    · obtain ⟨q, h4, h5⟩ := Option.bind_eq_some_iff.1 h
      obtain ⟨l, h6, h7⟩ := Option.map_eq_some_iff.1 h5
      cases h7; simp [h4, h6]
    · cases h
  | alloc z =>
    simp only [astep] at h
    split at h
    · cases h
      refine ⟨_, Local.new rfl fun E2 H2 h1 h2 h3 h4 => ?_⟩
      simp [astep, h3, h4]
    · cases h
  | box x =>
    simp only [astep] at h
    split at h
    · rename_i hc
      cases h
      refine ⟨_, Local.new rfl fun E2 H2 h1 h2 h3 h4 => ?_⟩
      simp only [astep, h1 x (by simp [AOp.opds]), h3, h4]
      rw [if_pos ⟨trivial, trivial, hc.2.2⟩]
    · cases h
  | bsl len n z ps =>
    have hm : ∀ E2 : Env, (∀ y ∈ (AOp.bsl len n z ps).opds, y.ev E2 = y.ev E) → (ps.map fun p => (p.1, p.2.ev E2)) = ps.map fun p => (p.1, p.2.ev E) := fun E2 he => List.map_congr_left fun p hp => by rw [opds_map (g := fun p : Nat × Opd => p.2) he p hp]
    have ha : ∀ E2 : Env, (∀ y ∈ (AOp.bsl len n z ps).opds, y.ev E2 = y.ev E) → (ps.all fun p => (p.2.ev E2).size == n) = ps.all fun p => (p.2.ev E).size == n := fun E2 he => by
      rw [Bool.eq_iff_iff, List.all_eq_true, List.all_eq_true]
      constructor
      · intro h p hp; rw [← opds_map (g := fun p : Nat × Opd => p.2) he p hp]; exact h p hp
      · intro h p hp; rw [opds_map (g := fun p : Nat × Opd => p.2) he p hp]; exact h p hp
    simp only [astep] at h
    split at h
    · rename_i hc
      obtain ⟨es, h1, h2⟩ := Option.bind_eq_some_iff.1 h
      split at h2
      · rename_i ds hds
        cases h2
        refine ⟨[], rfl, (fun o ob h => nomatch h), fun E2 H2 he _ _ => ?_⟩
        simp only [astep, hm E2 he, ha E2 he]
        rw [if_pos hc, h1]
        simp [hds, putsH]
      · rename_i hds
        split at h2
        · cases h2
          refine ⟨_, Local.new rfl fun E2 H2 he _ h3 h4 => ?_⟩
          simp only [astep, hm E2 he, ha E2 he]
          rw [if_pos hc, h1]
          simp [hds, h3, h4]
        · cases h2
    · cases h
  | mks n z l c =>
    simp only [astep] at h
    split at h
    · rename_i a b hl hc
      split at h
      · rename_i hh
        cases h
        refine ⟨_, Local.new rfl fun E2 H2 h1 h2 h3 h4 => ?_⟩
        simp only [astep, h1 l (by simp [AOp.opds]), h1 c (by simp [AOp.opds]), hl, hc, h3, h4]
        rw [if_pos ⟨hh.1, hh.2.1, hh.2.2.1, hh.2.2.2.1, trivial, trivial⟩]
      · cases h
    · cases h
  | st n p x =>
    simp only [astep] at h
    split at h
    · rename_i o i off hp
      split at h
      · rename_i hc
        split at h
        · rename_i es hes
          obtain ⟨e, h1, h2⟩ := Option.bind_eq_some_iff.1 h
          obtain ⟨e', h3, h4⟩ := Option.map_eq_some_iff.1 h2
          cases h4
          have hmem : o ∈ (AOp.st n p x).foot E dst := by
            simp only [AOp.foot, AOp.looks, if_true, List.mem_append]
            exact .inl (mem_objsOf.2 ⟨p, by simp [AOp.opds], by rw [hp]; simp [AV.objs]⟩)
          refine ⟨[(o, .row (es.set i e'))], rfl, ?_, fun E2 H2 he hh _ => ?_⟩
          · intro q ob hq
            simp only [List.mem_singleton, Prod.mk.injEq] at hq
            rw [hq.1]; simp [AOp.wr, hp, AV.objs]
          · simp only [astep, he p (by simp [AOp.opds]), he x (by simp [AOp.opds]), hp, hh o hmem, hes]
            rw [if_pos hc, h1]
            simp [h3, putsH]
        · cases h
      · cases h
    · cases h
  | clr n x =>
    simp only [astep] at h
    split at h
    · rename_i o off len hp
      split at h
      · rename_i es hes
        split at h
        · rename_i hc
          cases h
          have hmem : o ∈ (AOp.clr n x).foot E dst := by
            simp only [AOp.foot, AOp.looks, if_true, List.mem_append]
            exact .inl (mem_objsOf.2 ⟨x, by simp [AOp.opds], by rw [hp]; simp [AV.objs]⟩)
          refine ⟨[(o, .row (es.take off))], rfl, ?_, fun E2 H2 he hh _ => ?_⟩
          · intro q ob hq
            simp only [List.mem_singleton, Prod.mk.injEq] at hq
            rw [hq.1]; simp [AOp.wr, hp, AV.objs]
          · simp only [astep, he x (by simp [AOp.opds]), hp, hh o hmem, hes]
            rw [if_pos hc]
            simp [putsH]
        · cases h
      · cases h
    · cases h
  | app n x y =>
    simp only [astep] at h
    obtain ⟨ys, h1, h2⟩ := Option.bind_eq_some_iff.1 h
    refine appA_local (x := x) rfl rfl (by simp [AOp.opds]) (fun o ho => by simp [AOp.wr, ho]) h2 fun E2 H2 he hh => ?_
    have hs : srcD H2 (y.ev E) = srcD H (y.ev E) := srcD_same fun o ho => hh o (by
      simp only [AOp.foot, AOp.looks, if_true, List.mem_append]
      exact .inl (mem_objsOf.2 ⟨y, by simp [AOp.opds], ho⟩))
    simp only [astep, he x (by simp [AOp.opds]), he y (by simp [AOp.opds]), hs, h1, Option.bind_some]
  | apps x y =>
    simp only [astep] at h
    split at h
    · rename_i s hs
      refine appA_local (x := x) rfl rfl (by simp [AOp.opds]) (fun o ho => by simp [AOp.wr, ho]) h fun E2 H2 he hh => ?_
      simp only [astep, he x (by simp [AOp.opds]), he y (by simp [AOp.opds]), hs]
    · cases h
  | atl p =>
    refine ⟨[], Local.quiet rfl (fun E2 H2 he hh => ?_) (astep_quiet_eq rfl rfl h)⟩
    have hq := astep_quiet_eq rfl rfl h
    dsimp only at hq; subst hq
    have : atlA H2 (p.ev E) = atlA H' (p.ev E) := atlA_same fun o ho => hh rfl o (mem_objsOf.2 ⟨p, by simp [AOp.opds], ho⟩)
    simp only [astep, he p (by simp [AOp.opds]), this] at h ⊢
    obtain ⟨q, h1, h2⟩ := Option.map_eq_some_iff.1 h
    cases h2
    rw [h1]; rfl
  | ats p x =>
    simp only [astep] at h
    obtain ⟨n, hn, h⟩ := Option.bind_eq_some_iff.1 h
    obtain ⟨H1, h1, h⟩ := Option.map_eq_some_iff.1 h
    cases h
    obtain ⟨o, ob, ho, hH, hs⟩ := atsA_spec h1
    subst hH
    refine ⟨[(o, ob)], rfl, ?_, fun E2 H2 he hh _ => ?_⟩
    · intro q ob' hq
      simp only [List.mem_singleton, Prod.mk.injEq] at hq
      rw [hq.1]; exact ho
    · have := hs H2 (hh o (by simp only [AOp.foot, AOp.looks, if_true, List.mem_append]; exact .inl (mem_objsOf.2 ⟨p, by simp [AOp.opds], ho⟩)))
      simp only [astep, he x (by simp [AOp.opds]), he p (by simp [AOp.opds]), hn, Option.bind_some, this, Option.map_some, putsH]
  | atc p x y =>
    simp only [astep] at h
    obtain ⟨n, hn, h⟩ := Option.bind_eq_some_iff.1 h
    obtain ⟨m, hm, h⟩ := Option.bind_eq_some_iff.1 h
    obtain ⟨v', hv, h⟩ := Option.bind_eq_some_iff.1 h
    have h2 : ∀ H2, (∀ o ∈ (AOp.atc p x y).foot E dst, look o H2 = look o H) → atlA H2 (p.ev E) = atlA H (p.ev E) := fun H2 hh => atlA_same fun o ho => hh o (by simp only [AOp.foot, AOp.looks, if_true, List.mem_append]; exact .inl (mem_objsOf.2 ⟨p, by simp [AOp.opds], ho⟩))
    split at h
    · rename_i hvo
      obtain ⟨H1, h1, h⟩ := Option.map_eq_some_iff.1 h
      cases h
      obtain ⟨o, ob, ho, hH, hs⟩ := atsA_spec h1
      subst hH
      refine ⟨[(o, ob)], rfl, ?_, fun E2 H2 he hh _ => ?_⟩
      · intro q ob' hq
        simp only [List.mem_singleton, Prod.mk.injEq] at hq
        rw [hq.1]; exact ho
      · have := hs H2 (hh o (by simp only [AOp.foot, AOp.looks, if_true, List.mem_append]; exact .inl (mem_objsOf.2 ⟨p, by simp [AOp.opds], ho⟩)))
        simp only [astep, he x (by simp [AOp.opds]), he y (by simp [AOp.opds]), he p (by simp [AOp.opds]), hn, hm, h2 H2 hh, hv, hvo, Option.bind_some, if_true, this, Option.map_some, putsH]
    · rename_i hvo
      cases h
      refine ⟨[], rfl, (fun o ob h => nomatch h), fun E2 H2 he hh _ => ?_⟩
      simp only [astep, he x (by simp [AOp.opds]), he y (by simp [AOp.opds]), he p (by simp [AOp.opds]), hn, hm, h2 H2 hh, hv, hvo, Option.bind_some, if_false, putsH]
  | mkm =>
    simp only [astep] at h
    split at h
    · rename_i hc
      cases h
      exact ⟨_, Local.new rfl fun E2 H2 _ _ h3 h4 => by simp only [astep, h3, h4, and_self, if_true]⟩
    · cases h
  | lkp ok z x k =>
    refine ⟨[], Local.quiet rfl (fun E2 H2 he hh => ?_) (astep_quiet_eq rfl rfl h)⟩
    have hq := astep_quiet_eq rfl rfl h
    dsimp only at hq; subst hq
    have := lkpA_same (H := H') (H2 := H2) (ok := ok) (z := z) (x := x.ev E) (k := k.ev E) fun o ho => hh rfl o (mem_objsOf.2 ⟨x, by simp [AOp.opds], ho⟩)
    simp only [astep, he x (by simp [AOp.opds]), he k (by simp [AOp.opds]), this] at h ⊢
    obtain ⟨q, h1, h2⟩ := Option.map_eq_some_iff.1 h
    cases h2
    rw [h1]; rfl
  | mup x k y =>
    simp only [astep] at h
    unfold mupA at h
    split at h
    · rename_i o n y' hx hk hy
      split at h
      · rename_i es hes
        cases h
        have hmem : o ∈ (AOp.mup x k y).foot E dst := by
          simp only [AOp.foot, AOp.looks, if_true, List.mem_append]
          exact .inl (mem_objsOf.2 ⟨x, by simp [AOp.opds], by rw [hx]; simp [AV.objs]⟩)
        refine ⟨[(o, .mp (mset n y' es))], rfl, ?_, fun E2 H2 he hh _ => ?_⟩
        · intro q ob hq
          simp only [List.mem_singleton, Prod.mk.injEq] at hq
          rw [hq.1]; simp [AOp.wr, hx, AV.objs]
        · simp only [astep, he x (by simp [AOp.opds]), he k (by simp [AOp.opds]), he y (by simp [AOp.opds]), hx, hk, hy, mupA, hh o hmem, hes]
          simp [putsH]
      · cases h
    · cases h
  | nileq ng x => simp [astep] at h
  | call f ms xs => simp [astep] at h
  | callv f ms xs => simp [astep] at h
end Go.Sim

namespace Go.Sim
open Go (World Value Addr TypeId Act)
theorem refsL_false_iff {o : Nat} {xs : List AV} : AV.refsL o xs = false ↔ ∀ x ∈ xs, x.refs o = false := by
  induction xs with
  | nil => simp [AV.refsL]
  | cons x xs ih => simp [AV.refsL, ih]
theorem refs_cells {o : Nat} {x : AV} (h : x.refs o = false) : ∀ y ∈ x.cells, y.refs o = false := by
  cases x with
  | d y => intro z hz; simp only [AV.cells, List.mem_map] at hz; obtain ⟨_, _, rfl⟩ := hz; rfl
  | agg cs => intro z hz; exact AV.refsL_false hz h
  | _ => intro z hz; simp only [AV.cells, List.mem_singleton] at hz; subst hz; exact h
theorem refs_mkAgg {o : Nat} {cs : List AV} (h : ∀ y ∈ cs, y.refs o = false) : (AV.mkAgg cs).refs o = false := by
  unfold AV.mkAgg; split
  · rfl
  · simpa [AV.refs] using refsL_false_iff.2 h
theorem refs_mkFn {o : Nat} {f : FuncId} {cs : List AV} (h : ∀ y ∈ cs, y.refs o = false) : (AV.mkFn f cs).refs o = false := by
  unfold AV.mkFn; split
  · rfl
  · simpa [AV.refs] using refsL_false_iff.2 h
theorem refs_partA {o : Nat} {ag : Bool} {off n : Nat} {x v : AV} (h : x.refs o = false) (hp : partA ag off n x = some v) : v.refs o = false := by
  unfold partA at hp
  split at hp
  · obtain ⟨_, _, rfl⟩ := Option.map_eq_some_iff.1 hp; rfl
  · split at hp
    · split at hp
      · cases hp
        exact refs_mkAgg fun y hy => refs_cells h y (List.mem_of_mem_drop (List.mem_of_mem_take hy))
      · cases hp
    · split at hp
      · exact refs_cells h _ (List.mem_of_getElem? hp)
      · cases hp
theorem refs_over {o off : Nat} {x v r : AV} (hx : x.refs o = false) (hv : v.refs o = false) (h : over x off v = some r) : r.refs o = false := by
  unfold over at h
  split at h
  · cases h; exact hv
  · split at h
    · cases h
      refine refs_mkAgg fun y hy => ?_
      simp only [splice, List.mem_append] at hy
      rcases hy with (hy | hy) | hy
      · exact refs_cells hx y (List.mem_of_mem_take hy)
      · exact refs_cells hv y hy
      · exact refs_cells hx y (List.mem_of_mem_drop hy)
    · cases h
theorem refs_fillA {o : Nat} : ∀ {ps : List (Nat × Nat × AV)} {z cs : List AV}, (∀ y ∈ z, y.refs o = false) → (∀ p ∈ ps, p.2.2.refs o = false) → fillA z ps = some cs → ∀ y ∈ cs, y.refs o = false := by
  intro ps
  induction ps with
  | nil => intro z cs hz _ h; simp only [fillA, Option.some.injEq] at h; subst h; exact hz
  | cons p ps ih =>
    obtain ⟨off, n, v⟩ := p
    intro z cs hz hp h
    simp only [fillA] at h
    split at h
    · refine ih (fun y hy => ?_) (fun p hp' => hp p (.tail _ hp')) h
      simp only [splice, List.mem_append] at hy
      rcases hy with (hy | hy) | hy
      · exact hz y (List.mem_of_mem_take hy)
      · exact refs_cells (hp _ (.head _)) y hy
      · exact hz y (List.mem_of_mem_drop hy)
    · cases h
theorem unX_refs {o : Nat} {v : AV} (h : v.refs o = false) : (unX v).refs o = false := by
  cases v with
  | agg cs =>
    simp only [unX]
    refine refs_mkAgg fun x hx => ?_
    rw [unXL_map] at hx
    obtain ⟨y, hy, rfl⟩ := List.mem_map.1 hx
    have := AV.refsL_false hy h
    cases y <;> simp_all [unX0, AV.refs]
  | _ => simp_all [unX, AV.refs]
theorem refs_fillE {o : Nat} : ∀ {ps : List (Nat × AV)} {z cs : List AV}, (∀ y ∈ z, y.refs o = false) → (∀ p ∈ ps, p.2.refs o = false) → fillE z ps = some cs → ∀ y ∈ cs, y.refs o = false := by
  intro ps
  induction ps with
  | nil => intro z cs hz _ h; simp only [fillE, Option.some.injEq] at h; subst h; exact hz
  | cons p ps ih =>
    obtain ⟨i, v⟩ := p
    intro z cs hz hp h
    simp only [fillE] at h
    split at h
    · refine ih (fun y hy => ?_) (fun p hp' => hp p (.tail _ hp')) h
      rcases List.mem_or_eq_of_mem_set hy with hy | rfl
      · exact hz y hy
      · exact unX_refs (hp _ (.head _))
    · cases h
theorem refsHeap_setAt {o k : Nat} {ob : Obj} {H : Heap} (h : refsHeap o H = false) (hob : ob.refs o = false) : refsHeap o (setAt k ob H) = false := by
  simp only [setAt, refsHeap, hob, Bool.false_or]
  induction H with
  | nil => rfl
  | cons p H ih =>
    obtain ⟨j, x⟩ := p
    simp only [refsHeap, Bool.or_eq_false_iff] at h
    simp only [without]
    split
    · exact ih h.2
    · simp [refsHeap, h.1, ih h.2]
theorem refs_look {o k : Nat} {ob : Obj} {H : Heap} (h : refsHeap o H = false) (hk : look k H = some ob) : ob.refs o = false := refsHeap_mem (look_mem hk) h
def AOp.clean (o : Nat) : AOp → Prop
  | .alloc z => z.refs o = false
  | .build z _ => ∀ y ∈ z, y.refs o = false
  | .bsl _ _ z _ => z.refs o = false
  | .mks _ z _ _ => z.refs o = false
  | _ => True
theorem refs_row {o : Nat} {es : List AV} (h : ∀ e ∈ es, e.refs o = false) : (Obj.row es).refs o = false := refsL_false_iff.2 h
theorem appA_norefs {o : Nat} {E : Env} {H : Heap} {dst n : Nat} {ys : List D} {x v : AV} {H' : Heap} (h : appA E H dst n ys x = some (v, H')) (hx : x.refs o = false) (hH : refsHeap o H = false) (hd : o ≠ dst) :
    v.refs o = false ∧ refsHeap o H' = false := by
  unfold appA at h
  split at h
  · split at h
    · split at h
      · cases h; exact ⟨rfl, hH⟩
      · cases h
    split at h
    · cases h; exact ⟨by simpa [AV.refs] using Ne.symm hd, refsHeap_setAt hH rfl⟩
    · cases h
  · split at h
    · split at h
      · cases h; exact ⟨by simpa [AV.refs] using hx, refsHeap_setAt hH rfl⟩
      · cases h
    · cases h
  · cases h
theorem atsA_norefs {o : Nat} {H H1 : Heap} {n : Int} {p : AV} (h : atsA H n p = some H1) (hH : refsHeap o H = false) : refsHeap o H1 = false := by
  unfold atsA at h
  split at h
  · split at h
    · rename_i es hes
      obtain ⟨e, h1, h⟩ := Option.bind_eq_some_iff.1 h
      obtain ⟨_, _, h⟩ := Option.bind_eq_some_iff.1 h
      obtain ⟨e', h3, h⟩ := Option.map_eq_some_iff.1 h
      cases h
      refine refsHeap_setAt hH (refs_row fun y hy => ?_)
      have hrow := refs_look hH hes
      rcases List.mem_or_eq_of_mem_set hy with hy | rfl
      · exact AV.refsL_false hy hrow
      · exact refs_over (AV.refsL_false (List.mem_of_getElem? h1) hrow) rfl h3
    · cases h
  · cases h
theorem astep_norefs {o : Nat} {op : AOp} {E : Env} {H : Heap} {dst : Nat} {v : AV} {H' : Heap} (h : astep E H dst op = some (v, H')) (ho : ∀ y ∈ op.opds, (y.ev E).refs o = false) (hH : refsHeap o H = false)
    (hc : op.clean o) (hd : op.news = true → o ≠ dst) : v.refs o = false ∧ refsHeap o H' = false := by
  cases op with
  | mv x => simp only [astep, Option.some.injEq, Prod.mk.injEq] at h; obtain ⟨rfl, rfl⟩ := h; exact ⟨ho x (by simp [AOp.opds]), hH⟩
  | pick c a b =>
    simp only [astep] at h
    split at h
    · cases h
      refine ⟨?_, hH⟩
      split
      · exact ho a (by simp [AOp.opds])
      · exact ho b (by simp [AOp.opds])
    · cases h
  | alloc z =>
    simp only [astep] at h
    split at h
    · cases h; exact ⟨by simpa [AV.refs] using Ne.symm (hd rfl), refsHeap_setAt hH (refs_row (by simpa [AOp.clean] using hc))⟩
    · cases h
  | box x =>
    simp only [astep] at h
    split at h
    · cases h; exact ⟨by simpa [AV.refs] using Ne.symm (hd rfl), refsHeap_setAt hH (refs_row (by simpa [AOp.opds] using ho))⟩
    · cases h
  | build z ps =>
    simp only [astep] at h
    obtain ⟨cs, h1, h2⟩ := Option.map_eq_some_iff.1 h
    cases h2
    refine ⟨refs_mkAgg (refs_fillA (by simpa [AOp.clean] using hc) ?_ h1), hH⟩
    intro p hp
    obtain ⟨q, hq, rfl⟩ := List.mem_map.1 hp
    exact ho _ (List.mem_map.2 ⟨q, hq, rfl⟩)
  | bsl len n z ps =>
    simp only [astep] at h
    split at h
    · obtain ⟨es, h1, h2⟩ := Option.bind_eq_some_iff.1 h
      have hes := refs_fillE (o := o) (by intro y hy; rw [List.eq_of_mem_replicate hy]; simpa [AOp.clean] using hc) (by
        intro p hp
        obtain ⟨q, hq, rfl⟩ := List.mem_map.1 hp
        exact ho _ (List.mem_map.2 ⟨q, hq, rfl⟩)) h1
      split at h2
      · cases h2; exact ⟨rfl, hH⟩
      · split at h2
        · cases h2; exact ⟨by simpa [AV.refs] using Ne.symm (hd rfl), refsHeap_setAt hH (refs_row hes)⟩
        · cases h2
    · cases h
  | ld ag n p =>
    simp only [astep] at h
    obtain ⟨q, h1, h2⟩ := Option.map_eq_some_iff.1 h
    cases h2
    refine ⟨?_, hH⟩
    have hp := ho p (by simp [AOp.opds])
    unfold ldA at h1
    split at h1
    · obtain ⟨_, _, rfl⟩ := Option.map_eq_some_iff.1 h1; rfl
    · obtain ⟨_, _, rfl⟩ := Option.map_eq_some_iff.1 h1; rfl
    · split at h1
      · rename_i es hes
        obtain ⟨e, he, h1⟩ := Option.bind_eq_some_iff.1 h1
        exact refs_partA (AV.refsL_false (List.mem_of_getElem? he) (refs_look hH hes)) h1
      · cases h1
    · cases h1
  | st n p x =>
    simp only [astep] at h
    split at h
    · split at h
      · split at h
        · rename_i es hes
          obtain ⟨e, h1, h2⟩ := Option.bind_eq_some_iff.1 h
          obtain ⟨e', h3, h4⟩ := Option.map_eq_some_iff.1 h2
          cases h4
          refine ⟨rfl, refsHeap_setAt hH (refs_row fun y hy => ?_)⟩
          have hrow := refs_look hH hes
          rcases List.mem_or_eq_of_mem_set hy with hy | rfl
          · exact AV.refsL_false hy hrow
          · exact refs_over (AV.refsL_false (List.mem_of_getElem? h1) hrow) (ho x (by simp [AOp.opds])) h3
        · cases h
      · cases h
    · cases h
  | clr n x =>
    simp only [astep] at h
    split at h
    · split at h
      · rename_i es hes
        split at h
        · cases h
          refine ⟨rfl, refsHeap_setAt hH (refs_row fun y hy => ?_)⟩
          exact AV.refsL_false (List.mem_of_mem_take hy) (refs_look hH hes)
        · cases h
      · cases h
    · cases h
  | app n x y =>
    simp only [astep] at h
    obtain ⟨ys, h1, h2⟩ := Option.bind_eq_some_iff.1 h
    exact appA_norefs h2 (ho x (by simp [AOp.opds])) hH (hd rfl)
  | apps x y =>
    simp only [astep] at h
    split at h
    · exact appA_norefs h (ho x (by simp [AOp.opds])) hH (hd rfl)
    · cases h
  | mks n z l c =>
    simp only [astep] at h
    split at h
    · split at h
      · cases h; exact ⟨by simpa [AV.refs] using Ne.symm (hd rfl), refsHeap_setAt hH (refs_row fun y hy => by rw [List.eq_of_mem_replicate hy]; simpa [AOp.clean] using hc)⟩
      · cases h
    · cases h
  | mkfn f cs =>
    simp only [astep, Option.some.injEq, Prod.mk.injEq] at h
    obtain ⟨rfl, rfl⟩ := h
    refine ⟨refs_mkFn fun y hy => ?_, hH⟩
    obtain ⟨q, hq, rfl⟩ := List.mem_map.1 hy
    exact ho q hq
  | nileq ng x => simp [astep] at h
  | call f ms xs => simp [astep] at h
  | callv f ms xs => simp [astep] at h
  | nacc =>
    simp only [astep] at h
    split at h
    · cases h; exact ⟨by simpa [AV.refs] using Ne.symm (hd rfl), refsHeap_setAt hH rfl⟩
    · cases h
  | nilc x =>
    have hx := ho x (by simp [AOp.opds])
    revert h
    simp only [astep]
    generalize x.ev E = q at hx
    intro h
    split at h <;> cases h <;> first | exact ⟨rfl, hH⟩ | exact ⟨by simpa [AV.refs] using hx, hH⟩
  | ext x i =>
    have hx := ho x (by simp [AOp.opds])
    revert h
    simp only [astep]
    generalize x.ev E = q at hx
    intro h
    split at h
    · obtain ⟨_, _, h2⟩ := Option.map_eq_some_iff.1 h; cases h2; exact ⟨rfl, hH⟩
    · obtain ⟨u, h1, h2⟩ := Option.map_eq_some_iff.1 h; cases h2; exact ⟨AV.refsL_false (List.mem_of_getElem? h1) hx, hH⟩
    · cases h
  | fad ag off n x =>
    have hx := ho x (by simp [AOp.opds])
    simp only [astep] at h
    obtain ⟨q, h1, h2⟩ := Option.map_eq_some_iff.1 h
    cases h2
    refine ⟨?_, hH⟩
    revert h1 hx
    generalize x.ev E = q
    intro hx h1
    unfold fadA at h1
    split at h1
    · cases h1; exact hx
    · obtain ⟨_, _, rfl⟩ := Option.map_eq_some_iff.1 h1; rfl
    · obtain ⟨_, _, rfl⟩ := Option.map_eq_some_iff.1 h1; exact hx
    · cases h1
  | iada ag len n x i =>
    have hx := ho x (by simp [AOp.opds])
    simp only [astep] at h
    obtain ⟨k, _, h⟩ := Option.bind_eq_some_iff.1 h
    split at h
    · obtain ⟨q, h1, h2⟩ := Option.map_eq_some_iff.1 h
      cases h2
      refine ⟨?_, hH⟩
      revert h1 hx
      generalize x.ev E = q
      intro hx h1
      unfold fadA at h1
      split at h1
      · cases h1; exact hx
      · obtain ⟨_, _, rfl⟩ := Option.map_eq_some_iff.1 h1; rfl
      · obtain ⟨_, _, rfl⟩ := Option.map_eq_some_iff.1 h1; exact hx
      · cases h1
    · cases h
  | idxa ag len n x i =>
    have hx := ho x (by simp [AOp.opds])
    simp only [astep] at h
    obtain ⟨k, _, h⟩ := Option.bind_eq_some_iff.1 h
    split at h
    · obtain ⟨q, h1, h2⟩ := Option.map_eq_some_iff.1 h
      cases h2
      refine ⟨?_, hH⟩
      revert h1 hx
      generalize x.ev E = q
      intro hx h1
      unfold fldA at h1
      split at h1
      · obtain ⟨_, _, rfl⟩ := Option.map_eq_some_iff.1 h1; rfl
      · exact refs_partA hx h1
      · cases h1
    · cases h
  | fld ag off n x =>
    have hx := ho x (by simp [AOp.opds])
    revert h
    simp only [astep]
    generalize x.ev E = q at hx
    intro h
    split at h
    · obtain ⟨_, _, h2⟩ := Option.map_eq_some_iff.1 h; cases h2; exact ⟨rfl, hH⟩
    · obtain ⟨_, h1, h2⟩ := Option.map_eq_some_iff.1 h; cases h2; exact ⟨refs_partA hx h1, hH⟩
    · cases h
  | iad n x i =>
    have hx := ho x (by simp [AOp.opds])
    simp only [astep] at h
    obtain ⟨k, _, h⟩ := Option.bind_eq_some_iff.1 h
    split at h
    · obtain ⟨q, h1, h2⟩ := Option.map_eq_some_iff.1 h
      cases h2
      refine ⟨?_, hH⟩
      revert h1 hx
      generalize x.ev E = q
      intro hx h1
      unfold iadA at h1
      split at h1
      · split at h1
        · split at h1
          · obtain ⟨e, _, h1⟩ := Option.bind_eq_some_iff.1 h1
            split at h1
            · cases h1; exact hx
            · cases h1
          · cases h1
        · cases h1
      all_goals first | cases h1; done | skip
      all_goals
        obtain ⟨e, _, h1⟩ := Option.bind_eq_some_iff.1 h1
        split at h1
        · cases h1; first | rfl | exact hx
        · cases h1
    · cases h
  | slc n x lo hi mx =>
    have hx := ho x (by simp [AOp.opds])
    simp only [astep] at h
    obtain ⟨q, h1, h2⟩ := Option.map_eq_some_iff.1 h
    cases h2
    refine ⟨?_, hH⟩
    revert h1 hx
    generalize x.ev E = q
    intro hx h1
    cases q with
    | d y => cases y <;> simp only [slcA] at h1 <;> first | cases h1; done | (revert h1; (repeat' split) <;> intro h1 <;> simp [Option.bind_eq_some_iff] at h1 <;> grind [AV.refs])
    | osl o' off len => simp only [slcA] at h1; revert h1; (repeat' split) <;> intro h1 <;> simp [Option.bind_eq_some_iff] at h1 <;> grind [AV.refs]
    | acc o' es => simp only [slcA] at h1; revert h1; (repeat' split) <;> intro h1 <;> simp [Option.bind_eq_some_iff] at h1 <;> grind [AV.refs]
    | xsl es => simp only [slcA] at h1; revert h1; (repeat' split) <;> intro h1 <;> simp [Option.bind_eq_some_iff] at h1 <;> grind [AV.refs]
    | _ => simp [slcA] at h1
  | mm mx xs =>
    simp only [astep] at h
    split at h
    · cases h
    · rename_i y ys hys
      obtain ⟨q, h1, h2⟩ := Option.map_eq_some_iff.1 h
      cases h2
      refine ⟨?_, hH⟩
      have hy : y.refs o = false := by
        cases xs with
        | nil => cases hys
        | cons a l => simp only [List.map_cons, List.cons.injEq] at hys; rw [← hys.1]; exact ho a (.head _)
      clear hys ho h
      induction ys generalizing y with
      | nil => simp only [mmD, Option.some.injEq] at h1; subst h1; exact hy
      | cons z zs ih =>
        unfold mmD at h1
        split at h1
        · cases h1; exact hy
        · rename_i heq
          cases heq
          split at h1
          · exact ih _ h1 rfl
          · cases h1
        · cases h1
  | atl p =>
    simp only [astep] at h
    obtain ⟨q, h1, h2⟩ := Option.map_eq_some_iff.1 h
    cases h2
    exact ⟨rfl, hH⟩
  | ats p x =>
    simp only [astep] at h
    obtain ⟨n, hn, h⟩ := Option.bind_eq_some_iff.1 h
    obtain ⟨H1, h1, h⟩ := Option.map_eq_some_iff.1 h
    cases h
    exact ⟨rfl, atsA_norefs h1 hH⟩
  | atc p x y =>
    simp only [astep] at h
    obtain ⟨n, hn, h⟩ := Option.bind_eq_some_iff.1 h
    obtain ⟨m, hm, h⟩ := Option.bind_eq_some_iff.1 h
    obtain ⟨v', hv, h⟩ := Option.bind_eq_some_iff.1 h
    split at h
    · obtain ⟨H1, h1, h⟩ := Option.map_eq_some_iff.1 h
      cases h
      exact ⟨rfl, atsA_norefs h1 hH⟩
    · cases h; exact ⟨rfl, hH⟩
  | mkm =>
    simp only [astep] at h
    split at h
    · cases h; exact ⟨by simpa [AV.refs] using Ne.symm (hd rfl), refsHeap_setAt hH rfl⟩
    · cases h
  | lkp ok z x k =>
    simp only [astep] at h
    obtain ⟨q, h1, h2⟩ := Option.map_eq_some_iff.1 h
    cases h2
    refine ⟨?_, hH⟩
    unfold lkpA at h1
    split at h1
    · split at h1
      · cases h1; rfl
      · cases h1
    · cases h1
  | mup x k y =>
    simp only [astep] at h
    unfold mupA at h
    split at h
    · split at h
      · cases h; exact ⟨rfl, refsHeap_setAt hH rfl⟩
      · cases h
    · cases h
  | _ =>
    revert h
    simp only [astep]
    (repeat' split) <;> intro h <;> simp [Option.map_eq_some_iff, Option.bind_eq_some_iff] at h <;> grind [AV.refs]
end Go.Sim
