/-
  How the relation lives through changes of the frame and of the world.
-/
import Derived.Test.YtlphhhmicdjljaaSimC
namespace Go.Sim
set_option linter.unusedSimpArgs false
set_option linter.unusedVariables false
open Go (World Value Addr TypeId)

theorem refsEnv_true {o : Nat} {l : Env} (h : refsEnv o l = true) : ∃ t x, (t, x) ∈ l ∧ x.refs o = true := by
  induction l with
  | nil => cases h
  | cons p l ih =>
    obtain ⟨t, x⟩ := p
    simp only [refsEnv, Bool.or_eq_true] at h
    rcases h with h | h
    · exact ⟨t, x, .head _, h⟩
    · obtain ⟨t', x', h1, h2⟩ := ih h; exact ⟨t', x', .tail _ h1, h2⟩

theorem look_of_mem_nil {α : Type} {k : Nat} {x : α} {l : List (Nat × α)} (h : (k, x) ∈ l) : ∃ y, look k l = some y := by
  induction l with
  | nil => cases h
  | cons p l ih =>
    obtain ⟨j, y⟩ := p
    simp only [look]
    by_cases e : j = k
    · rw [if_pos e]; exact ⟨_, rfl⟩
    · rw [if_neg e]
      cases h with
      | head => exact absurd rfl e
      | tail _ h => exact ih h

variable {C : Ctx} {S : St} {a : Act} {w : World} {ι : Inj} {R : Nat → Prop}

/-- A slot is written. -/
theorem Rel.put (h : Rel C S a w ι R) {x : AV} {u : Value} (hv : VA w R ι (mark S.heap) x u) {d : Nat} (hd : d < C.n) :
    Rel C ⟨setAt d x S.env, S.heap⟩ (a.put (some d) u) w ι R := by
  refine ⟨h.defers, by simp [Act.put, h.size], h.os, h.tape, h.output, h.grow, h.len, h.keep, h.keepLt, h.rlt, h.rok, h.r0, h.own, h.inj, ?_, h.heap⟩
  intro t y hy
  simp only [setAt] at hy
  cases hy with
  | head =>
    refine ⟨u, ?_, hv⟩
    have := C.le
    simp only [slotV, Act.put]
    rw [if_pos (by omega), Array.getElem?_setIfInBounds_self_of_lt (by rw [h.size]; exact hd)]
  | tail _ hy =>
    obtain ⟨h1, h2⟩ := mem_without.1 hy
    obtain ⟨u', h3, h4⟩ := h.env t y h1
    refine ⟨u', ?_, h4⟩
    simp only [slotV, Act.put] at h3 ⊢
    rw [Array.getElem?_setIfInBounds_ne (Ne.symm h2)]
    exact h3

theorem Rel.put_none (h : Rel C S a w ι R) (u : Value) : Rel C S (a.put none u) w ι R := h

/-- Less is known. -/
theorem Rel.weaken (h : Rel C S a w ι R) {E : Env} (hE : ∀ t x, (t, x) ∈ E → (t, x) ∈ S.env) : Rel C ⟨E, S.heap⟩ a w ι R :=
  ⟨h.defers, h.size, h.os, h.tape, h.output, h.grow, h.len, h.keep, h.keepLt, h.rlt, h.rok, h.r0, h.own, h.inj, fun t x hx => h.env t x (hE t x hx), h.heap⟩

theorem Rel.tmp (h : Rel C S a w ι R) {t : Nat} {x : AV} (ht : t < 1000000) (hx : look t S.env = some x) : VA w R ι (mark S.heap) x (a.eval (.tmp t)) := by
  obtain ⟨u, h1, h2⟩ := h.env t x (look_mem hx)
  simp only [slotV, if_pos ht] at h1
  simp only [Act.eval, Array.getD_eq_getD_getElem?, h1, Option.getD_some]
  exact h2

theorem cell1_ok {v : Value} {x : AV} (h : cell1 v = some x) (w : World) (R : Nat → Prop) (ι : Inj) (mk : Nat → Option Nat) : VA w R ι mk x v ∧ x.cell = true := by
  unfold cell1 at h
  split at h
  · split at h
    · rename_i hk; cases h; exact ⟨.d (.int hk), rfl⟩
    · cases h
  · cases h; exact ⟨.d .bool, rfl⟩
  · split at h
    · rename_i s hs
      cases h
      refine ⟨.d ?_, rfl⟩
      have := Rd.str (w := w) (R := R) hs
      have e : (⟨s.data.toList.toArray⟩ : ByteArray) = s := by cases s; simp
      rwa [e] at this
    · cases h
  · cases h; exact ⟨.xsl .sl0, rfl⟩
  · cases h

theorem allD_spec {cs : List AV} {ds : List D} (h : allD cs = some ds) : cs = ds.map .d := by
  induction cs generalizing ds with
  | nil => simp [allD] at h; subst h; rfl
  | cons x l ih =>
    cases x with
    | d y =>
      simp only [allD, Option.map_eq_some_iff] at h
      obtain ⟨ds', h1, h2⟩ := h
      subst h2
      rw [ih h1]; rfl
    | _ => simp [allD] at h

theorem VA.of_d {mk : Nat → Option Nat} {x : D} {u : Value} (h : VA w R ι mk (.d x) u) : Rd w R (.v x u) := by cases h; assumption

theorem VA.mkAgg {mk : Nat → Option Nat} {cs : List AV} {vs : List Value} (hl : vs.length = cs.length) (hc : ∀ c ∈ cs, c.cell = true)
    (h : ∀ (i : Nat) (c : AV) (u : Value), cs[i]? = some c → vs[i]? = some u → VA w R ι mk c u) : VA w R ι mk (AV.mkAgg cs) (.agg vs.toArray) := by
  unfold AV.mkAgg
  cases hd : allD cs with
  | none => exact .agg hl hc h
  | some ds =>
    have := allD_spec hd
    subst this
    refine .d (.agg (by simpa using hl) (fun c hm => ?_) fun i c u h1 h2 => (h i (.d c) u (by simp [h1]) h2).of_d)
    exact hc (.d c) (by simpa using hm)

theorem VA.mkTup {mk : Nat → Option Nat} {cs : List AV} {vs : List Value} (hl : vs.length = cs.length)
    (h : ∀ (i : Nat) (c : AV) (u : Value), cs[i]? = some c → vs[i]? = some u → VA w R ι mk c u) : VA w R ι mk (AV.mkTup cs) (.tuple vs.toArray) := by
  unfold AV.mkTup
  cases hd : allD cs with
  | none => exact .tup hl h
  | some ds =>
    have := allD_spec hd
    subst this
    exact .d (.tup (by simpa using hl) fun i c u h1 h2 => (h i (.d c) u (by simp [h1]) h2).of_d)

theorem VA.mkFn {mk : Nat → Option Nat} {f : FuncId} {cs : List AV} {vs : List Value} (hl : vs.length = cs.length)
    (h : ∀ (i : Nat) (c : AV) (u : Value), cs[i]? = some c → vs[i]? = some u → VA w R ι mk c u) : VA w R ι mk (AV.mkFn f cs) (.func (.func f) #[] vs.toArray) := by
  unfold AV.mkFn
  cases hd : allD cs with
  | none => exact .fn hl h
  | some ds =>
    have := allD_spec hd
    subst this
    exact .d (.fn (by simpa using hl) fun i c u h1 h2 => (h i (.d c) u (by simp [h1]) h2).of_d)

theorem mapM_get {α β : Type} {f : α → Option β} : ∀ {l : List α} {m : List β}, l.mapM f = some m → m.length = l.length ∧ ∀ (i : Nat) (x : α) (y : β), l[i]? = some x → m[i]? = some y → f x = some y := by
  intro l
  induction l with
  | nil => intro m h; simp at h; subst h; simp
  | cons x l ih =>
    intro m h
    simp only [List.mapM_cons, Option.bind_eq_bind, Option.pure_def] at h
    obtain ⟨y, hy, h⟩ := Option.bind_eq_some_iff.1 h
    obtain ⟨ys, hys, h⟩ := Option.bind_eq_some_iff.1 h
    cases h
    obtain ⟨h1, h2⟩ := ih hys
    refine ⟨by simp [h1], fun i a b ha hb => ?_⟩
    match i, ha, hb with
    | 0, ha, hb => simp at ha hb; subst ha hb; exact hy
    | n + 1, ha, hb => exact h2 n a b (by simpa using ha) (by simpa using hb)

theorem constV_ok {v : Value} {x : AV} (h : constV v = some x) (w : World) (R : Nat → Prop) (ι : Inj) (mk : Nat → Option Nat) : VA w R ι mk x v := by
  unfold constV at h
  split at h
  · rename_i cs
    obtain ⟨ds, h1, h2⟩ := Option.map_eq_some_iff.1 h
    subst h2
    obtain ⟨hl, hg⟩ := mapM_get h1
    have e : cs = cs.toList.toArray := by simp
    rw [e]
    refine VA.mkAgg hl.symm (fun c hc => ?_) fun i c u h3 h4 => (cell1_ok (hg i u c h4 h3) w R ι mk).1
    obtain ⟨i, hi⟩ := List.getElem?_of_mem hc
    have hlt : i < cs.toList.length := by rw [← hl]; exact (List.getElem?_eq_some_iff.1 hi).1
    exact (cell1_ok (hg i _ c (List.getElem?_eq_getElem hlt) hi) w R ι mk).2
  · exact (cell1_ok h w R ι mk).1

/-- What an operand is. -/
theorem Rel.ev (h : Rel C S a w ι R) {o : Operand} {x : Opd} (hx : opd o = some x) : VA w R ι (mark S.heap) (x.ev S.env) (a.eval o) := by
  cases o with
  | tmp t =>
    simp only [opd] at hx
    split at hx
    · rename_i ht
      cases hx
      simp only [Opd.ev]
      cases hl : look t S.env with
      | none => exact .undef
      | some y => exact h.tmp ht hl
    · cases hx
  | const v =>
    simp only [opd] at hx
    split at hx
    · cases hx; exact .undef
    · obtain ⟨y, h1, h2⟩ := Option.map_eq_some_iff.1 hx
      subst h2
      exact constV_ok h1 _ _ _ _
  | global g => cases hx
  | func f =>
    simp only [opd, Option.some.injEq] at hx; subst hx
    exact .d (.fn (cs := []) (vs := []) rfl (by simp))

/-- The world, the places of the objects and the objects change; the frame stays. -/
theorem Rel.change (h : Rel C S a w ι R) {w' : World} {ι' : Inj} {R' : Nat → Prop} {H' : Heap}
    (os : w'.os = w.os) (tape : w'.tape = w.tape) (output : w'.output = w.output) (grow : w.heap.size ≤ w'.heap.size) (blk : ∀ b, b < w.heap.size → Blk w w' b 0)
    (keep : ∀ b, C.keep b → w'.heap[b]? = w.heap[b]?) (hR : ∀ b, R b → R' b) (rlt : ∀ b, R' b → b < w'.heap.size) (rok : ∀ b, R' b → C.R0 b ∨ ¬ C.keep b)
    (hK : Keeps R w w') (own : ∀ o b s, ι' o = some (b, s) → ¬ C.keep b ∧ b < w'.heap.size) (inj : ∀ o o' b s s', ι' o = some (b, s) → ι' o' = some (b, s') → o = o')
    (st : ∀ p, refsEnv p S.env = true → Step w w' ι ι' (mark S.heap) (mark H') p)
    (hp : ∀ o ob, (o, ob) ∈ H' → OB w' R' ι' (mark H') o ob) : Rel C ⟨S.env, H'⟩ a w' ι' R' := by
  refine ⟨h.defers, h.size, os.trans h.os, tape.trans h.tape, output.trans h.output, Nat.le_trans h.grow grow, fun b hb => (h.len b hb).trans (blk b (Nat.lt_of_lt_of_le hb h.grow)), fun b hb => (keep b hb).trans (h.keep b hb), h.keepLt, rlt, rok,
    fun b hb => hR b (h.r0 b hb), own, inj, ?_, hp⟩
  intro t x hx
  obtain ⟨u, h1, h2⟩ := h.env t x hx
  refine ⟨u, h1, h2.mono hR hK fun p hp => st p ?_⟩
  cases hh : refsEnv p S.env with
  | true => rfl
  | false => rw [refsEnv_mem hx hh] at hp; cases hp

def unref (o : Nat) (S : St) : Prop := refsEnv o S.env = false ∧ refsHeap o S.heap = false

def upd (ι : Inj) (o : Nat) (p : Nat × Nat) : Inj := fun q => if q = o then some p else ι q
theorem upd_same {o : Nat} {p : Nat × Nat} : upd ι o p o = some p := by simp [upd]
theorem upd_ne {o q : Nat} {p : Nat × Nat} (h : q ≠ o) : upd ι o p q = ι q := by simp [upd, h]

theorem mark_setAt_ne {H : Heap} {o q : Nat} {ob : Obj} (h : q ≠ o) : mark (setAt o ob H) q = mark H q := by simp [mark, look_setAt_ne h]
theorem mark_setAt {H : Heap} {o : Nat} {ob : Obj} : mark (setAt o ob H) o = (match ob with | .acc n => some n | .frz m => m | _ => none) := by
  simp only [mark, look_setAt]; cases ob <;> rfl

theorem alloc_old {o : Go.Obj} {b : Nat} (h : b < w.heap.size) : (w.alloc o).heap[b]? = w.heap[b]? := heap_alloc_old w o b h
theorem Keeps.alloc (h : Rel C S a w ι R) (o : Go.Obj) : Keeps R w (w.alloc o) := fun b hb => alloc_old (h.rlt b hb)

theorem Step.other {w' : World} {H' : Heap} {ι' : Inj} {p : Nat} (hι : ι' p = ι p) (hm : mark H' p = mark S.heap p) (hb : ∀ b s, ι p = some (b, s) → w'.heap[b]? = w.heap[b]?) :
    Step w w' ι ι' (mark S.heap) (mark H') p :=
  ⟨fun b s h => by rw [hι, h], fun b s h => Blk.of_eq (hb b s h), fun m h => ⟨m, by rw [hm, h], Nat.le_refl _⟩, fun m h => ⟨m, by rw [← hm, h], Nat.le_refl _⟩⟩

/-- A new block: a new object 'o', which nothing led to. -/
theorem Rel.new (h : Rel C S a w ι R) {o s : Nat} {ob : Obj} (c : Array Value) (T : TypeId) (hu : unref o S)
    (hob : OB (w.alloc (.cells c T)) R (upd ι o (w.heap.size, s)) (mark (setAt o ob S.heap)) o ob) :
    Rel C ⟨S.env, setAt o ob S.heap⟩ a (w.alloc (.cells c T)) (upd ι o (w.heap.size, s)) R := by
  have hst : ∀ p, p ≠ o → Step w (w.alloc (.cells c T)) ι (upd ι o (w.heap.size, s)) (mark S.heap) (mark (setAt o ob S.heap)) p := fun p hp =>
    Step.other (upd_ne hp) (mark_setAt_ne hp) fun b s hb => alloc_old (h.own p b s hb).2
  refine h.change rfl rfl rfl (by simp) (fun b hb => Blk.of_eq (alloc_old hb)) (fun b hb => alloc_old (Nat.lt_of_lt_of_le (h.keepLt b hb) h.grow)) (fun _ hb => hb) (fun b hb => by have := h.rlt b hb; simp; omega) h.rok (Keeps.alloc h _) ?_ ?_ ?_ ?_
  · intro q b s' hq
    by_cases e : q = o
    · subst e
      rw [upd_same] at hq; cases hq
      exact ⟨fun hk => by have := h.keepLt _ hk; have := h.grow; omega, by simp⟩
    · rw [upd_ne e] at hq
      have := h.own q b s' hq
      exact ⟨this.1, by simp; omega⟩
  · intro q q' b s1 s2 h1 h2
    by_cases e : q = o <;> by_cases e' : q' = o
    · rw [e, e']
    · subst e; rw [upd_same] at h1; rw [upd_ne e'] at h2; cases h1
      have := (h.own _ _ _ h2).2; omega
    · subst e'; rw [upd_same] at h2; rw [upd_ne e] at h1; cases h2
      have := (h.own _ _ _ h1).2; omega
    · rw [upd_ne e] at h1; rw [upd_ne e'] at h2; exact h.inj _ _ _ _ _ h1 h2
  · intro p hp
    refine hst p fun e => ?_
    subst e; rw [hu.1] at hp; cases hp
  · intro q ob' hq
    cases hq with
    | head => exact hob
    | tail _ hq =>
      obtain ⟨h1, h2⟩ := mem_without.1 hq
      refine (h.heap q ob' h1).mono (fun _ hb => hb) (Keeps.alloc h _) (fun b s' hb => ⟨by rw [upd_ne h2, hb], alloc_old (h.own q b s' hb).2, fun hb => hb⟩) (fun h0 => by rw [upd_ne h2, h0]) fun p hp => ?_
      refine hst p fun e => ?_
      subst e
      have := refsHeap_mem h1 hu.2
      rw [hp] at this; cases this

/-- A new block that nobody will write. -/
theorem Rel.newRO (h : Rel C S a w ι R) (ob : Go.Obj) : Rel C S a (w.alloc ob) ι (fun b => R b ∨ b = w.heap.size) := by
  have hst : ∀ p, Step w (w.alloc ob) ι ι (mark S.heap) (mark S.heap) p := fun p => Step.same fun b s hb => alloc_old (h.own p b s hb).2
  refine h.change (H' := S.heap) rfl rfl rfl (by simp) (fun b hb => Blk.of_eq (alloc_old hb)) (fun b hb => alloc_old (Nat.lt_of_lt_of_le (h.keepLt b hb) h.grow)) (fun _ hb => .inl hb) ?_ ?_ (Keeps.alloc h _) ?_ h.inj (fun p _ => hst p) ?_
  · rintro b (hb | rfl)
    · have := h.rlt b hb; simp; omega
    · simp
  · rintro b (hb | rfl)
    · exact h.rok b hb
    · exact .inr fun hk => by have := h.keepLt _ hk; have := h.grow; omega
  · intro o b s ho
    have := h.own o b s ho
    exact ⟨this.1, by simp; omega⟩
  · intro q ob' hq
    refine (h.heap q ob' hq).mono (fun _ hb => .inl hb) (Keeps.alloc h _) (fun b s' hb => ?_) (fun h0 => h0) fun p _ => hst p
    have := (h.own q b s' hb).2
    refine ⟨hb, alloc_old this, ?_⟩
    rintro (hr | hr)
    · exact hr
    · omega

/-- A draw. -/
theorem Rel.drew (h : Rel C S a w ι R) : Rel C S a w.drew ι R :=
  ⟨h.defers, h.size, h.os, h.tape, h.output, h.grow, h.len, h.keep, h.keepLt, h.rlt, h.rok, h.r0, h.own, h.inj,
   fun t x hx => let ⟨u, h1, h2⟩ := h.env t x hx; ⟨u, h1, h2.mono (fun _ h => h) (fun _ _ => rfl) fun _ _ => Step.same fun _ _ _ => rfl⟩,
   fun o ob ho => (h.heap o ob ho).mono (fun _ h => h) (fun _ _ => rfl) (fun _ _ hb => ⟨hb, rfl, fun h => h⟩) (fun h => h) fun _ _ => Step.same fun _ _ _ => rfl⟩

end Go.Sim
