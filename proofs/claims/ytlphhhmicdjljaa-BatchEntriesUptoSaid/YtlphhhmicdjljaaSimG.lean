/-
  Addresses of fields and of elements; stores; new variables.
-/
import Derived.Test.YtlphhhmicdjljaaSimF
namespace Go.Sim
set_option linter.unusedSimpArgs false
set_option linter.unusedVariables false
open Go (World Value Addr TypeId Act)

variable {P : Program} {C : Ctx} {S : St} {a : Act} {w : World} {ι : Inj} {R : Nat → Prop}

theorem partD_size {ag : Bool} {off n : Nat} {x y : D} (h : partD ag off n x = some y) (hn : n ≠ 0) (hc : ag = false → y.cell = true) : y.size = n := by
  obtain ⟨h1, ⟨rfl, rfl⟩ | ⟨rfl, h0, h2⟩⟩ := partD_spec h hn
  · rw [D.size_agg, List.length_take, List.length_drop]; have h1 : off + n ≤ x.cells.length := h1; omega
  · rw [D.size_cell (hc rfl), h0]

theorem fadA_ok {mk : Nat → Option Nat} {ag : Bool} {off n : Nat} {x v : AV} {u : Value} (h : VA w R ι mk x u) (hp : fadA ag off n x = some v) (hn : n ≠ 0) :
    ∃ b o, u = .pointer (some ⟨b, o, none⟩) ∧ VA w R ι mk v (.pointer (some ⟨b, o + off, none⟩)) := by
  cases h with
  | ref h hmk => simp only [fadA, Option.some.injEq] at hp; subst hp; exact ⟨_, _, rfl, by rw [Nat.add_assoc]; exact .ref h hmk⟩
  | d h =>
    cases h with
    | pd h1 h2 =>
      simp only [fadA, Option.map_eq_some_iff] at hp
      obtain ⟨z, hz, rfl⟩ := hp
      exact ⟨_, _, rfl, .d (.pd h1 (h2.part_el hz hn))⟩
    | _ => simp [fadA] at hp
  | peR h1 h2 =>
    simp only [fadA, Option.map_eq_some_iff] at hp
    obtain ⟨z, hz, rfl⟩ := hp
    exact ⟨_, _, rfl, .peR h1 (h2.part_el hz hn)⟩
  | peC h1 h2 h3 h4 h5 =>
    simp only [fadA, Option.map_eq_some_iff] at hp
    obtain ⟨z, hz, rfl⟩ := hp
    refine ⟨_, _, rfl, .peC h1 h2 h3 ?_ (h5.part_el hz hn)⟩
    have h6 := (partD_spec hz hn).1
    have h7 := partD_size hz hn fun hag => by
      subst hag
      obtain ⟨_, ⟨h, _⟩ | ⟨_, _, h⟩⟩ := partD_spec hz hn
      · cases h
      · exact (h5.v_of_cells _ _ h).1
    omega
  | _ => simp [fadA] at hp

theorem Rd.sl_inv {es : List D} {u : Value} (h : Rd w R (.v (.sl es) u)) (h0 : es ≠ []) : ∃ b off s cap, u = .slice (some ⟨b, off, none⟩) es.length cap ∧ R b ∧ 0 < s ∧ es.length ≤ LIM ∧ es.length ≤ cap ∧ (∀ e ∈ es, e.size = s) ∧
    ∀ (i : Nat) (e : D), es[i]? = some e → Rd w R (.el e b (off + i * s)) := by
  cases h with
  | sl0 => exact absurd rfl h0
  | sl hR _ hs hl hc hsz h => exact ⟨_, _, _, _, rfl, hR, hs, hl, hc, hsz, h⟩

theorem Rd.sl_len {es : List D} {u : Value} (h : Rd w R (.v (.sl es) u)) : ∃ a cap, u = .slice a es.length cap ∧ es.length ≤ cap ∧ es.length ≤ LIM := by
  cases h with
  | sl0 => exact ⟨_, _, rfl, by simp, by simp⟩
  | sl hR _ hs hl hc hsz h => exact ⟨_, _, rfl, hc, hl⟩

theorem mem_ne {es : List D} {i : Nat} {e : D} (h : es[i]? = some e) : es ≠ [] := by rintro rfl; simp at h

/-- The address of an element of a slice. -/
theorem iadA_ok {n : Nat} {i : Int} {x v : AV} {u : Value} (hr : Rel C S a w ι R) (h : VA w R ι (mark S.heap) x u) (hp : iadA S.heap n i x = some v) (hi : 0 ≤ i) :
    ∃ b o len cap, u = .slice (some ⟨b, o, none⟩) len cap ∧ i < len ∧ VA w R ι (mark S.heap) v (.pointer (some ⟨b, o + i.toNat * n, none⟩)) := by
  have slc : ∀ (es : List D), Rd w R (.v (.sl es) u) → (es[i.toNat]?.bind fun e => if e.size = n then some (AV.d (.pd e)) else none) = some v →
      ∃ b o len cap, u = .slice (some ⟨b, o, none⟩) len cap ∧ i < len ∧ VA w R ι (mark S.heap) v (.pointer (some ⟨b, o + i.toNat * n, none⟩)) := by
    intro es h hp
    obtain ⟨e, he, hp⟩ := Option.bind_eq_some_iff.1 hp
    split at hp
    · rename_i hsz; cases hp
      obtain ⟨b, off, s, cap, rfl, hR, hs, hl, hc, hz, hh⟩ := h.sl_inv (mem_ne he)
      have hlt := (List.getElem?_eq_some_iff.1 he).1
      have := hz e (List.mem_of_getElem? he)
      refine ⟨_, _, _, _, rfl, by omega, .d (.pd hR ?_)⟩
      rw [← hsz, this]; exact hh _ _ he
    · cases hp
  cases x with
  | d y => cases y with
    | sl es => exact slc es h.of_d hp
    | _ => simp [iadA] at hp
  | xsl es => cases h with | xsl h => exact slc es h hp
  | osl o off len =>
    simp only [iadA] at hp
    split at hp
    · rename_i hlen
      split at hp
      · rename_i es hes
        obtain ⟨e, he, hp⟩ := Option.bind_eq_some_iff.1 hp
        split at hp
        · rename_i hsz; cases hp
          cases h with
          | osl0 => exact absurd hlen (by omega)
          | @osl _ _ _ cap b s c T hι hmk hb hl hc hL =>
            have hob := hr.heap _ _ (look_mem hes)
            cases hob with
            | row hι' _ _ _ hsz' _ _ =>
              rw [hι] at hι'; cases hι'
              have := hsz' e (List.mem_of_getElem? he)
              refine ⟨_, _, _, _, rfl, hlen, ?_⟩
              have e1 : off * s + i.toNat * n = (off + i.toNat) * s + 0 := by rw [← hsz, this, Nat.add_mul, Nat.add_zero]
              rw [e1]; exact .ref hι hmk
        · cases hp
      · cases hp
    · cases hp
  | acc o es =>
    simp only [iadA] at hp
    obtain ⟨e, he, hp⟩ := Option.bind_eq_some_iff.1 hp
    split at hp
    · rename_i hsz; cases hp
      have hlt := (List.getElem?_eq_some_iff.1 he).1
      cases h with
      | accR hR hs hL hl hz hh hm =>
        have := hz e (List.mem_of_getElem? he)
        refine ⟨_, _, _, _, rfl, by omega, .peR hR ?_⟩
        rw [← hsz, this]; exact hh _ _ he
      | @accC _ b s m cap _ c T hι hmk hm hL hl hz hb hc hh =>
        have := hz e (List.mem_of_getElem? he)
        refine ⟨_, _, _, _, rfl, by omega, ?_⟩
        rw [← hsz, this, Nat.zero_add]
        refine .peC hι hmk hb ?_ (hh _ _ he)
        rw [this]
        calc i.toNat * s + s = (i.toNat + 1) * s := by rw [Nat.succ_mul]
          _ ≤ m * s := Nat.mul_le_mul_right _ (by omega)
      | acc0 => simp at hlt
    · cases hp
  | _ => simp [iadA] at hp

/-! ### Stores -/
theorem one_of_va {mk : Nat → Option Nat} {x : AV} {u : Value} (h : VA w R ι mk x u) (hx : x.cell = true) : u.oneCell' = true := by
  cases h with
  | d h => cases h <;> simp_all [AV.cell, D.cell, Value.oneCell']
  | _ => simp_all [AV.cell, Value.oneCell']

/-- A value that is no tuple, cell by cell. -/
theorem VA.cells {mk : Nat → Option Nat} {x : AV} {u : Value} (h : VA w R ι mk x u) (hx : isTup x = false) :
    u.cells.size = x.size ∧ ∀ (i : Nat) (c : AV), x.cells[i]? = some c → c.cell = true ∧ ∃ q, u.cells[i]? = some q ∧ VA w R ι mk c q := by
  have one : ∀ {x : AV} {u : Value}, VA w R ι mk x u → x.cell = true → x.cells = [x] → x.size = 1 → u.cells = #[u] → (u.cells.size = x.size ∧ ∀ (i : Nat) (c : AV), x.cells[i]? = some c → c.cell = true ∧ ∃ q, u.cells[i]? = some q ∧ VA w R ι mk c q) := by
    intro x u h h1 h2 h3 h4
    refine ⟨by simp [h3, h4], fun i c hc => ?_⟩
    rw [h2] at hc
    match i, hc with
    | 0, hc => simp at hc; subst hc; exact ⟨h1, u, by simp [h4], h⟩
    | n + 1, hc => simp at hc
  cases h with
  | @d x u h =>
    have ht : ∀ vs, x ≠ .tup vs := fun vs e => by subst e; simp [isTup] at hx
    obtain ⟨h1, h2⟩ := h.cells_of_v ht
    refine ⟨h1, fun i c hc => ?_⟩
    simp only [AV.cells, List.getElem?_map, Option.map_eq_some_iff] at hc
    obtain ⟨c', hc', rfl⟩ := hc
    obtain ⟨k1, q, k2, k3⟩ := h2 i c' hc'
    exact ⟨k1, q, k2, .d k3⟩
  | agg hl hc h =>
    refine ⟨by simp [Value.cells, AV.size, hl], fun i c hi => ?_⟩
    rename_i cs vs
    have hi : cs[i]? = some c := hi
    have hlt : i < cs.length := (List.getElem?_eq_some_iff.1 hi).1
    have hq : vs[i]? = some (vs[i]'(by omega)) := List.getElem?_eq_getElem _
    exact ⟨hc c (List.mem_of_getElem? hi), _, by simp only [Value.cells, List.getElem?_toArray]; exact hq, h i c _ hi hq⟩
  | tup => simp [isTup] at hx
  | undef => simp [isTup] at hx
  | nl1 => exact one .nl1 rfl rfl rfl rfl
  | nl2 => exact one .nl2 rfl rfl rfl rfl
  | ref h hm => exact one (.ref h hm) rfl rfl rfl rfl
  | osl a b c d e f => exact one (.osl a b c d e f) rfl rfl rfl rfl
  | osl0 => exact one .osl0 rfl rfl rfl rfl
  | accR a b c d e f g => exact one (.accR a b c d e f g) rfl rfl rfl rfl
  | accC a b c d e f g h i => exact one (.accC a b c d e f g h i) rfl rfl rfl rfl
  | peR a b => exact one (.peR a b) rfl rfl rfl rfl
  | peC a b c d e => exact one (.peC a b c d e) rfl rfl rfl rfl
  | acc0 => exact one .acc0 rfl rfl rfl rfl
  | xsl a => exact one (.xsl a) rfl rfl rfl rfl
  | fn a b => exact one (.fn a b) rfl rfl rfl rfl

theorem mkAgg_cells (cs : List AV) : (AV.mkAgg cs).cells = cs ∧ (AV.mkAgg cs).size = cs.length := by
  unfold AV.mkAgg
  cases h : allD cs with
  | none => exact ⟨rfl, rfl⟩
  | some ds =>
    have := allD_spec h
    subst this
    simp [AV.cells, AV.size, D.cells, D.size]

theorem splice_get {α : Type} (l m : List α) (off j : Nat) (h : off + m.length ≤ l.length) :
    (splice l off m)[j]? = if off ≤ j ∧ j < off + m.length then m[j - off]? else l[j]? := by
  unfold splice
  have hlt : (l.take off).length = off := by simp; omega
  by_cases h1 : j < off
  · rw [if_neg (by omega), List.append_assoc, List.getElem?_append_left (by omega), List.getElem?_take_of_lt h1]
  · by_cases h2 : j < off + m.length
    · rw [if_pos ⟨by omega, h2⟩, List.append_assoc, List.getElem?_append_right (by omega), List.getElem?_append_left (by omega), hlt]
    · rw [if_neg (by omega), List.getElem?_append_right (by simp; omega), List.getElem?_drop]
      congr 1; simp; omega

theorem splice_length {α : Type} (l m : List α) (off : Nat) (h : off + m.length ≤ l.length) : (splice l off m).length = l.length := by
  simp [splice]; omega

theorem over_spec {x v y : AV} {off : Nat} (h : over x off v = some y) : off + v.size ≤ x.size ∧ y.size = x.size ∧
    ∀ j, y.cells[j]? = if off ≤ j ∧ j < off + v.size then v.cells[j - off]? else x.cells[j]? := by
  unfold over at h
  split at h
  · rename_i h1; cases h
    refine ⟨by omega, h1.2, fun j => ?_⟩
    by_cases hj : j < v.size
    · rw [if_pos ⟨by omega, by omega⟩, h1.1]; rfl
    · rw [if_neg (by omega), List.getElem?_eq_none (by rw [AV.size_cells]; omega), List.getElem?_eq_none (by rw [AV.size_cells]; omega)]
  · split at h
    · rename_i h1; cases h
      obtain ⟨k1, k2⟩ := mkAgg_cells (splice x.cells off v.cells)
      have h2 : off + v.cells.length ≤ x.cells.length := by rw [AV.size_cells, AV.size_cells]; exact h1
      refine ⟨h1, by rw [k2, splice_length _ _ _ h2, AV.size_cells], fun j => ?_⟩
      rw [k1, splice_get _ _ _ _ h2, AV.size_cells]
    · cases h

theorem setCells_block (w : World) (b o : Nat) (vs : List Value) {c : Array Value} {T : TypeId} (hb : w.heap[b]? = some (.cells c T (0, 0))) :
    ∃ c', (w.setCells b o vs).heap[b]? = some (.cells c' T (0, 0)) ∧ c'.size = c.size ∧ ∀ j, c'[j]? = if o ≤ j ∧ j < o + vs.length ∧ j < c.size then vs[j - o]? else c[j]? := by
  induction vs generalizing o w c with
  | nil => exact ⟨c, hb, rfl, fun j => by rw [if_neg (by simp; omega)]⟩
  | cons v vs ih =>
    simp only [World.setCells]
    have h1 : (w.setCell ⟨b, o, none⟩ v).heap[b]? = some (.cells (c.setIfInBounds o v) T (0, 0)) := by
      simp [World.setCell, Array.getElem?_modify, hb]
    obtain ⟨c', h2, h3, h4⟩ := ih (w := w.setCell ⟨b, o, none⟩ v) (o := o + 1) h1
    refine ⟨c', h2, by rw [h3]; simp, fun j => ?_⟩
    rw [h4 j]
    simp only [Array.size_setIfInBounds, List.length_cons]
    by_cases hj : j = o
    · subst hj
      rw [if_neg (by omega)]
      by_cases hc : j < c.size
      · rw [if_pos ⟨by omega, by omega, hc⟩, Array.getElem?_setIfInBounds_self_of_lt hc]; simp
      · rw [if_neg (by omega), Array.getElem?_eq_none (by simp; omega), Array.getElem?_eq_none (by omega)]
    · rw [Array.getElem?_setIfInBounds_ne (Ne.symm hj)]
      by_cases hh : o + 1 ≤ j ∧ j < o + 1 + vs.length ∧ j < c.size
      · rw [if_pos hh, if_pos ⟨by omega, by omega, hh.2.2⟩]
        have : j - o = (j - (o + 1)) + 1 := by omega
        rw [this, List.getElem?_cons_succ]
      · rw [if_neg hh, if_neg (by omega)]

theorem setCells_other (w : World) (b o : Nat) (vs : List Value) {b' : Nat} (h : b' ≠ b) : (w.setCells b o vs).heap[b']? = w.heap[b']? := by
  induction vs generalizing o w with
  | nil => rfl
  | cons v vs ih => simp only [World.setCells]; rw [ih, heap_setCell_other _ _ _ _ h]

theorem setCells_rest (w : World) (b o : Nat) (vs : List Value) : (w.setCells b o vs).os = w.os ∧ (w.setCells b o vs).tape = w.tape ∧ (w.setCells b o vs).output = w.output ∧ (w.setCells b o vs).heap.size = w.heap.size := by
  induction vs generalizing o w with
  | nil => exact ⟨rfl, rfl, rfl, rfl⟩
  | cons v vs ih => simp only [World.setCells]; obtain ⟨h1, h2, h3, h4⟩ := ih (w := w.setCell ⟨b, o, none⟩ v) (o := o + 1); exact ⟨h1, h2, h3, by rw [h4]; simp⟩

theorem setAt_mem {α : Type} {k : Nat} {x : α} {l : List (Nat × α)} {p : Nat × α} (h : p ∈ setAt k x l) : p = (k, x) ∨ (p ∈ l ∧ p.1 ≠ k) := by
  cases h with
  | head => exact .inl rfl
  | tail _ h => exact .inr (mem_without.1 h)

/-- A store into an object's row. -/
theorem Rel.store (h : Rel C S a w ι R) {o i off n : Nat} {t : TypeId} {v e e' : AV} {es : List AV} {u : Value} (hes : look o S.heap = some (.row es)) (he : es[i]? = some e) (hov : over e off v = some e')
    (hv : VA w R ι (mark S.heap) v u) (hvt : isTup v = false) (hvn : v.size = n) (hsz : sizeT P t = some n) {p : Value} (hp : VA w R ι (mark S.heap) (.ref o i off) p) :
    ∃ w', (Instr.storeAt t p u).run P w = .ok () w' ∧ Rel C ⟨S.env, setAt o (.row (es.set i e')) S.heap⟩ a w' ι R := by
  cases hp with
  | @ref _ _ _ b s hι hmk0 =>
    have hob := h.heap _ _ (look_mem hes)
    cases hob with
    | @row _ b' s' c T hι' hRb hb hs hes' hc hcell =>
      rw [hι] at hι'; cases hι'
      obtain ⟨hu1, hu2⟩ := hv.cells hvt
      obtain ⟨ho1, ho2, ho3⟩ := over_spec hov
      have hilt : i < es.length := (List.getElem?_eq_some_iff.1 he).1
      have hesz : e.size = s := hes' e (List.mem_of_getElem? he)
      have hbound : i * s + s ≤ c.size := by
        have : (i + 1) * s ≤ es.length * s := Nat.mul_le_mul_right _ hilt
        rw [Nat.succ_mul] at this; omega
      have hvl : u.cells.toList.length = v.size := by rw [Array.length_toList, hu1]
      have hthere : ∀ j, j < u.cells.toList.length → (w.cell? ⟨b, i * s + off + 0 + j, none⟩).isSome = true ∧ w.frozen? ⟨b, i * s + off + 0 + j, none⟩ = false := fun j hj => by
        refine ⟨?_, frozen_of_row w b _ c T hb⟩
        rw [cell_of hb]
        simp; omega
      have hone : ∀ q ∈ u.cells.toList, q.oneCell' = true := fun q hq => by
        obtain ⟨j, hj⟩ := List.getElem?_of_mem hq
        have hlt : j < v.cells.length := by rw [AV.size_cells, ← hvl]; exact (List.getElem?_eq_some_iff.1 hj).1
        obtain ⟨k1, q', k2, k3⟩ := hu2 j _ (List.getElem?_eq_getElem hlt)
        have : q' = q := by
          rw [← Array.getElem?_toList, hj] at k2; cases k2; rfl
        subst this
        exact one_of_va k3 k1
      have hst := run_storeCells_cells (P := P) b (i * s + off) u.cells.toList 0 w (fun j hj => (hthere j hj).1) (fun j hj => (hthere j hj).2) hone
      refine ⟨w.setCells b (i * s + off) u.cells.toList, ?_, ?_⟩
      · have hne : ¬ (u.cells.size ≠ n) := by omega
        simp only [Instr.storeAt, Instr.sureAddr, storeVar, Sem.run_bind, Sem.run_pure, Result.andThen_ok, sizeT_run hsz, Sem.run_ite]
        simp only [ne_eq, hu1, hvn, not_true_eq_false, if_false, Sem.run_pure, Result.andThen_ok]
        simpa using hst
      · obtain ⟨c', hc1, hc2, hc3⟩ := setCells_block w b (i * s + off) u.cells.toList hb
        obtain ⟨r1, r2, r3, r4⟩ := setCells_rest w b (i * s + off) u.cells.toList
        have hKR : Keeps R w (w.setCells b (i * s + off) u.cells.toList) := fun b' hb' => setCells_other _ _ _ _ (fun e => hRb (e ▸ hb'))
        have hmk : ∀ q, mark (setAt o (Obj.row (es.set i e')) S.heap) q = mark S.heap q := fun q => by
          by_cases e : q = o
          · subst e; rw [mark_setAt]; simp [mark, hes]
          · exact mark_setAt_ne e
        have hmkf : mark (setAt o (Obj.row (es.set i e')) S.heap) = mark S.heap := funext hmk
        have hstep : ∀ q, Step w (w.setCells b (i * s + off) u.cells.toList) ι ι (mark S.heap) (mark S.heap) q := fun q => by
          refine ⟨fun _ _ h => h, fun b1 s1 hq => ?_, fun m h => ⟨m, h, Nat.le_refl _⟩, fun m h => ⟨m, h, Nat.le_refl _⟩⟩
          by_cases e : b1 = b
          · subst e
            have hqo : q = o := h.inj _ _ _ _ _ hq hι
            subst hqo
            have hm0 : mark S.heap q = none := by simp [mark, hes]
            rw [hm0]
            intro c1 T1 hc1'
            rw [hb] at hc1'; cases hc1'
            exact ⟨c', hc1, hc2, fun j hj => by simp at hj⟩
          · exact Blk.of_eq (setCells_other _ _ _ _ e)
        refine h.change r1 r2 r3 (by omega) (fun b' _ => by
            by_cases e : b' = b
            · subst e; intro c1 T1 hc1'; rw [hb] at hc1'; cases hc1'; exact ⟨c', hc1, hc2, fun j hj => by simp at hj⟩
            · exact Blk.of_eq (setCells_other _ _ _ _ e)) (fun b' hb' => setCells_other _ _ _ _ (fun e => (h.own o b s hι).1 (e ▸ hb'))) (fun _ h => h) (fun b' hb' => by rw [r4]; exact h.rlt b' hb') h.rok hKR
          (fun q b1 s1 hq => by rw [r4]; exact h.own q b1 s1 hq) h.inj (fun q _ => by rw [hmkf]; exact hstep q) ?_
        rw [hmkf]
        intro q ob hq
        rcases setAt_mem hq with hq | ⟨hq, hne⟩
        · cases hq
          refine .row hι hRb hc1 hs (fun x hx => ?_) (by rw [List.length_set, hc2]; exact hc) ?_
          · rcases List.mem_or_eq_of_mem_set hx with hx | rfl
            · exact hes' x hx
            · rw [ho2, hesz]
          · intro i2 e2 hi2 j x hj
            rw [List.getElem?_set] at hi2
            have inrow : ∀ (e2 : AV), es[i2]? = some e2 → ∀ (j : Nat) (x : AV), e2.cells[j]? = some x → ¬ (i2 = i ∧ off ≤ j ∧ j < off + v.size) →
                x.cell = true ∧ ∃ q, c'[i2 * s + j]? = some q ∧ VA (w.setCells b (i * s + off) u.cells.toList) R ι (mark S.heap) x q := by
              intro e2 hi2 j x hj hnot
              obtain ⟨k1, q, k2, k3⟩ := hcell i2 e2 hi2 j x hj
              refine ⟨k1, q, ?_, k3.mono (fun _ h => h) hKR fun p _ => hstep p⟩
              rw [hc3, if_neg, k2]
              rintro ⟨g1, g2, g3⟩
              have hjlt : j < s := by
                have := (List.getElem?_eq_some_iff.1 hj).1
                rw [AV.size_cells, hes' e2 (List.mem_of_getElem? hi2)] at this; exact this
              rw [hvl] at g2
              have : i2 = i := by
                rcases Nat.lt_trichotomy i2 i with hlt | heq | hgt
                · have : (i2 + 1) * s ≤ i * s := Nat.mul_le_mul_right _ hlt
                  rw [Nat.succ_mul] at this; omega
                · exact heq
                · have : (i + 1) * s ≤ i2 * s := Nat.mul_le_mul_right _ hgt
                  rw [Nat.succ_mul] at this; omega
              subst this
              exact hnot ⟨rfl, by omega, by omega⟩
            by_cases hii : i = i2
            · subst hii
              rw [if_pos rfl, if_pos hilt] at hi2
              cases hi2
              rw [ho3 j] at hj
              by_cases hin : off ≤ j ∧ j < off + v.size
              · rw [if_pos hin] at hj
                obtain ⟨k1, q, k2, k3⟩ := hu2 _ _ hj
                refine ⟨k1, q, ?_, k3.mono (fun _ h => h) hKR fun p _ => hstep p⟩
                rw [hc3, if_pos ⟨by omega, by omega, by omega⟩, Array.getElem?_toList]
                rw [show i * s + j - (i * s + off) = j - off by omega]; exact k2
              · rw [if_neg hin] at hj
                exact inrow e he j x hj (fun hh => hin hh.2)
            · rw [if_neg hii] at hi2
              exact inrow e2 hi2 j x hj (fun hh => hii hh.1.symm)
        · refine (h.heap q ob hq).mono (fun _ h => h) hKR (fun b1 s1 hb1 => ⟨hb1, ?_, fun h => h⟩) (fun h => h) fun p _ => hstep p
          exact setCells_other _ _ _ _ fun e => hne (h.inj _ _ _ _ _ (e ▸ hb1) hι)

end Go.Sim
