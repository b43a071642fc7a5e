/-
  What data keep; flat values; other names for objects.
-/
import Derived.Test.YtlphhhmicdjljaaSimM
import Derived.Test.YtlphhhmicdjljaaSimR
namespace Go.Sim
set_option linter.unusedSimpArgs false
set_option linter.unusedVariables false
open Go (World Value Addr TypeId Act)

variable {P : Program}

/-! ### What every datum that a value reads as keeps -/
mutual
def D.ok : D → Prop
  | .int k n => k.has n
  | .bool _ => True
  | .str s => s.length ≤ LIM
  | .agg cs => D.okL cs
  | .tup vs => D.okL vs
  | .sl es => es.length ≤ LIM ∧ D.okL es
  | .pd x => D.ok x
  | .fn _ cs => D.okL cs
def D.okL : List D → Prop
  | [] => True
  | x :: xs => D.ok x ∧ D.okL xs
end

theorem D.okL_iff {xs : List D} : D.okL xs ↔ ∀ x ∈ xs, x.ok := by
  induction xs with
  | nil => simp [D.okL]
  | cons x xs ih => simp [D.okL, ih]

theorem okL_get {xs : List D} (h : ∀ (i : Nat) (x : D), xs[i]? = some x → x.ok) : D.okL xs := D.okL_iff.2 fun x hx => by
  obtain ⟨i, hi⟩ := List.getElem?_of_mem hx
  exact h i x hi

def It.ok : It → Prop
  | .v x _ => x.ok
  | .el x _ _ => x.ok

theorem Rd.ok {w : World} {R : Nat → Prop} {it : It} (h : Rd w R it) : it.ok := by
  induction h with
  | int h => exact h
  | bool => trivial
  | str h => exact h
  | @agg cs vs hl hc _ ih =>
    refine okL_get fun i x hi => ?_
    have hlt := (List.getElem?_eq_some_iff.1 hi).1
    exact ih i x (vs[i]'(by omega)) hi (List.getElem?_eq_getElem _)
  | @tup cs vs hl _ ih =>
    refine okL_get fun i x hi => ?_
    have hlt := (List.getElem?_eq_some_iff.1 hi).1
    exact ih i x (vs[i]'(by omega)) hi (List.getElem?_eq_getElem _)
  | sl0 => exact ⟨by simp, trivial⟩
  | sl _ _ _ hl _ _ _ ih => exact ⟨hl, okL_get fun i x hi => ih i x hi⟩
  | pd _ _ ih => exact ih
  | @fn f cs vs hl _ ih =>
    refine okL_get fun i x hi => ?_
    have hlt := (List.getElem?_eq_some_iff.1 hi).1
    exact ih i x (vs[i]'(by omega)) hi (List.getElem?_eq_getElem _)
  | elagg _ _ ih => exact okL_get fun i x hi => ih i x hi
  | elc _ _ _ ih => exact ih


theorem D.flatL_mem {x : D} {xs : List D} (h : D.flatL xs = true) (hx : x ∈ xs) : x.flat = true := by
  induction xs with
  | nil => cases hx
  | cons y ys ih =>
    simp only [D.flatL, Bool.and_eq_true] at h
    cases hx with
    | head => exact h.1
    | tail _ hx => exact ih h.2 hx

theorem Rd.of_flat {w w' : World} {R R' : Nat → Prop} {it : It} (h : Rd w R it) : ∀ {x : D} {u : Value}, it = .v x u → x.flat = true → Rd w' R' (.v x u) := by
  induction h with
  | int h => intro x u e _; cases e; exact .int h
  | bool => intro x u e _; cases e; exact .bool
  | str h => intro x u e _; cases e; exact .str h
  | agg hl hc _ ih => intro x u e hf; cases e; exact .agg hl hc fun i c q h1 h2 => ih i c q h1 h2 rfl (D.flatL_mem hf (List.mem_of_getElem? h1))
  | tup hl _ ih => intro x u e hf; cases e; exact .tup hl fun i c q h1 h2 => ih i c q h1 h2 rfl (D.flatL_mem hf (List.mem_of_getElem? h1))
  | fn hl _ ih => intro x u e hf; cases e; exact .fn hl fun i c q h1 h2 => ih i c q h1 h2 rfl (D.flatL_mem hf (List.mem_of_getElem? h1))
  | sl0 => intro x u e hf; cases e; cases hf
  | sl => intro x u e hf; cases e; cases hf
  | pd => intro x u e hf; cases e; cases hf
  | elagg => intro x u e; cases e
  | elc => intro x u e; cases e

mutual
def AV.ren (ρ : Nat → Nat) : AV → AV
  | .ref o i off => .ref (ρ o) i off
  | .osl o off len => .osl (ρ o) off len
  | .acc o es => .acc (ρ o) es
  | .pe o x => .pe (ρ o) x
  | .agg cs => .agg (AV.renL ρ cs)
  | .tup cs => .tup (AV.renL ρ cs)
  | .fn f cs => .fn f (AV.renL ρ cs)
  | .d x => .d x
  | .xsl es => .xsl es
  | .nl b => .nl b
  | .undef => .undef
def AV.renL (ρ : Nat → Nat) : List AV → List AV
  | [] => []
  | x :: xs => AV.ren ρ x :: AV.renL ρ xs
end

theorem renL_map {ρ : Nat → Nat} {xs : List AV} : AV.renL ρ xs = xs.map (AV.ren ρ) := by
  induction xs with
  | nil => rfl
  | cons x xs ih => simp [AV.renL, ih]

theorem ren_cell {ρ : Nat → Nat} {x : AV} (h : x.cell = true) : (x.ren ρ).cell = true := by
  cases x <;> simp_all [AV.ren, AV.cell]

theorem VA.ren {w : World} {R : Nat → Prop} {ι ι' : Inj} {mk mk' : Nat → Option Nat} {ρ : Nat → Nat} {x : AV} {u : Value} (h : VA w R ι mk x u) :
    (∀ o, x.refs o = true → (∀ p, ι o = some p → ι' (ρ o) = some p) ∧ mk' (ρ o) = mk o) → VA w R ι' mk' (x.ren ρ) u := by
  induction h with
  | d h => intro _; exact .d h
  | @ref o _ _ _ _ h hmk => intro hp; have := hp o (by simp [AV.refs]); exact .ref (this.1 _ h) (this.2.trans hmk)
  | @osl o _ _ _ _ _ _ _ h hmk hb hl hc hL => intro hp; have := hp o (by simp [AV.refs]); exact .osl (this.1 _ h) (this.2.trans hmk) hb hl hc hL
  | osl0 => intro _; exact .osl0
  | @accR o _ _ _ _ _ hr hs' hL hl hsz h hm => intro hp; have := hp o (by simp [AV.refs]); exact .accR hr hs' hL hl hsz h (by rw [this.2]; exact hm)
  | @accC o b s m cap es c T hι hmk hm hL hl hsz hb hc h => intro hp; have := hp o (by simp [AV.refs]); exact .accC (this.1 _ hι) (this.2.trans hmk) hm hL hl hsz hb hc h
  | acc0 => intro _; exact .acc0
  | peR hr h => intro _; exact .peR hr h
  | @peC o b s m off x c T hι hmk hb hoff h => intro hp; have := hp o (by simp [AV.refs]); exact .peC (this.1 _ hι) (this.2.trans hmk) hb hoff h
  | xsl h => intro _; exact .xsl h
  | agg hl hc _ ih =>
    intro hp
    simp only [AV.ren, renL_map]
    refine .agg (by simpa using hl) (fun c hm => ?_) fun i c u h1 h2 => ?_
    · obtain ⟨y, hy, rfl⟩ := List.mem_map.1 hm; exact ren_cell (hc y hy)
    · rw [List.getElem?_map] at h1
      obtain ⟨y, hy, rfl⟩ := Option.map_eq_some_iff.1 h1
      exact ih i y u hy h2 fun o ho => hp o (AV.refsL_mem (List.mem_of_getElem? hy) ho)
  | tup hl _ ih =>
    intro hp
    simp only [AV.ren, renL_map]
    refine .tup (by simpa using hl) fun i c u h1 h2 => ?_
    rw [List.getElem?_map] at h1
    obtain ⟨y, hy, rfl⟩ := Option.map_eq_some_iff.1 h1
    exact ih i y u hy h2 fun o ho => hp o (AV.refsL_mem (List.mem_of_getElem? hy) ho)
  | fn hl _ ih =>
    intro hp
    simp only [AV.ren, renL_map]
    refine .fn (by simpa using hl) fun i c u h1 h2 => ?_
    rw [List.getElem?_map] at h1
    obtain ⟨y, hy, rfl⟩ := Option.map_eq_some_iff.1 h1
    exact ih i y u hy h2 fun o ho => hp o (AV.refsL_mem (List.mem_of_getElem? hy) ho)
  | nl1 => intro _; exact .nl1
  | nl2 => intro _; exact .nl2
  | undef => intro _; exact .undef

def Obj.ren (ρ : Nat → Nat) : Obj → Obj
  | .row es => .row (es.map (AV.ren ρ))
  | .acc n => .acc n
  | .frz m => .frz m

theorem ren_cells {ρ : Nat → Nat} {x : AV} : (x.ren ρ).cells = x.cells.map (AV.ren ρ) := by
  cases x <;> simp [AV.ren, AV.cells, renL_map]
theorem ren_size {ρ : Nat → Nat} {x : AV} : (x.ren ρ).size = x.size := by
  cases x <;> simp [AV.ren, AV.size, renL_map]

theorem OB.ren {w : World} {R : Nat → Prop} {ι ι' : Inj} {mk mk' : Nat → Option Nat} {ρ : Nat → Nat} {o : Nat} {ob : Obj} (h : OB w R ι mk o ob) (ho : ι' (ρ o) = ι o)
    (hp : ∀ q, ob.refs q = true → (∀ p, ι q = some p → ι' (ρ q) = some p) ∧ mk' (ρ q) = mk q) : OB w R ι' mk' (ρ o) (ob.ren ρ) := by
  cases h with
  | @row es b s c T h1 h2 h3 h4 h5 h6 h7 =>
    refine .row (ho.trans h1) h2 h3 h4 (fun e he => ?_) (by simpa using h6) fun i e hi j x hx => ?_
    · obtain ⟨y, hy, rfl⟩ := List.mem_map.1 he; rw [ren_size]; exact h5 y hy
    · rw [List.getElem?_map] at hi
      obtain ⟨y, hy, rfl⟩ := Option.map_eq_some_iff.1 hi
      rw [ren_cells, List.getElem?_map] at hx
      obtain ⟨z, hz, rfl⟩ := Option.map_eq_some_iff.1 hx
      obtain ⟨k1, q, k2, k3⟩ := h7 i y hy j z hz
      refine ⟨ren_cell k1, q, k2, k3.ren fun q hq => hp q ?_⟩
      exact AV.refsL_mem (List.mem_of_getElem? hy) (AV.cells_refs hz hq)
  | acc h1 h2 h3 h4 h5 h6 => exact .acc h1 (ho.trans h2) h3 h4 h5 h6
  | accN h1 => exact .accN (ho.trans h1)
  | frz h => exact .frz fun b s hb => h b s (by rwa [ho] at hb)


/-! ### Values to which no memory belongs -/
mutual
def AV.flat : AV → Bool
  | .d x => x.flat
  | .agg cs => AV.flatL cs
  | .tup cs => AV.flatL cs
  | .fn _ cs => AV.flatL cs
  | .xsl es => es.isEmpty
  | .acc _ _ => false
  | .pe _ _ => false
  | .ref _ _ _ => true
  | .osl _ _ _ => true
  | .nl _ => true
  | .undef => true
def AV.flatL : List AV → Bool
  | [] => true
  | x :: xs => AV.flat x && AV.flatL xs
end

theorem AV.flatL_mem {x : AV} {xs : List AV} (h : AV.flatL xs = true) (hx : x ∈ xs) : x.flat = true := by
  induction xs with
  | nil => cases hx
  | cons y ys ih =>
    simp only [AV.flatL, Bool.and_eq_true] at h
    cases hx with
    | head => exact h.1
    | tail _ hx => exact ih h.2 hx

theorem VA.of_flat {w : World} {R R' : Nat → Prop} {ι : Inj} {mk : Nat → Option Nat} {x : AV} {u : Value} (h : VA w R ι mk x u) : x.flat = true → VA w R' ι mk x u := by
  induction h with
  | d h => intro hf; exact .d (h.of_flat rfl hf)
  | ref h hmk => intro _; exact .ref h hmk
  | osl h hmk hb hl hc hL => intro _; exact .osl h hmk hb hl hc hL
  | osl0 => intro _; exact .osl0
  | accR => intro hf; cases hf
  | accC => intro hf; cases hf
  | acc0 => intro hf; cases hf
  | peR => intro hf; cases hf
  | peC => intro hf; cases hf
  | @xsl es a n h =>
    intro hf
    simp only [AV.flat, List.isEmpty_iff] at hf
    subst hf
    cases h with
    | sl0 => exact .xsl .sl0
    | sl _ h0 => exact absurd rfl h0
  | agg hl hc _ ih => intro hf; exact .agg hl hc fun i c u h1 h2 => ih i c u h1 h2 (AV.flatL_mem hf (List.mem_of_getElem? h1))
  | tup hl _ ih => intro hf; exact .tup hl fun i c u h1 h2 => ih i c u h1 h2 (AV.flatL_mem hf (List.mem_of_getElem? h1))
  | fn hl _ ih => intro hf; exact .fn hl fun i c u h1 h2 => ih i c u h1 h2 (AV.flatL_mem hf (List.mem_of_getElem? h1))
  | nl1 => intro _; exact .nl1
  | nl2 => intro _; exact .nl2
  | undef => intro _; exact .undef

theorem VA.toR {w : World} {R R' : Nat → Prop} {ι : Inj} {mk : Nat → Option Nat} {x : AV} {u : Value} (h : VA w R ι mk x u) (hR : (∀ b, R b → R' b) ∨ x.flat = true) : VA w R' ι mk x u := by
  rcases hR with hR | hR
  · exact h.mono hR (fun _ _ => rfl) fun o _ => Step.same fun _ _ _ => rfl
  · exact h.of_flat hR

theorem flatL_cells {e x : AV} {j : Nat} (he : e.flat = true) (hx : e.cells[j]? = some x) : x.flat = true := by
  cases e with
  | agg cs => exact AV.flatL_mem he (List.mem_of_getElem? hx)
  | d y =>
    simp only [AV.cells, List.getElem?_map] at hx
    obtain ⟨z, hz, rfl⟩ := Option.map_eq_some_iff.1 hx
    cases y with
    | agg cs => exact D.flatL_mem he (List.mem_of_getElem? hz)
    | _ =>
      simp only [D.cells] at hz
      match j, hz with
      | 0, hz => simp at hz; subst hz; exact he
      | n + 1, hz => simp at hz
  | _ =>
    simp only [AV.cells] at hx
    match j, hx with
    | 0, hx => simp at hx; subst hx; exact he
    | n + 1, hx => simp at hx

def Obj.flat : Obj → Bool
  | .row es => AV.flatL es
  | .acc _ => true
  | .frz _ => false

theorem OB.toR {w : World} {R R' : Nat → Prop} {ι : Inj} {mk : Nat → Option Nat} {o : Nat} {ob : Obj} (h : OB w R ι mk o ob) (hR : (∀ b, R b → R' b) ∨ ob.flat = true) (hno : ∀ b, R' b → R b) : OB w R' ι mk o ob := by
  cases h with
  | row h1 h2 h3 h4 h5 h6 h7 =>
    refine .row h1 (fun k => h2 (hno _ k)) h3 h4 h5 h6 fun i e hi j x hx => ?_
    obtain ⟨k1, q, k2, k3⟩ := h7 i e hi j x hx
    refine ⟨k1, q, k2, k3.toR (hR.imp id fun hf => ?_)⟩
    exact flatL_cells (AV.flatL_mem hf (List.mem_of_getElem? hi)) hx
  | acc h1 h2 h3 h4 h5 h6 => exact .acc h1 h2 (fun k => h3 (hno _ k)) h4 h5 h6
  | accN h1 => exact .accN h1
  | frz h =>
    rcases hR with hR | hf
    · exact .frz fun b s hb => ⟨hR _ (h b s hb).1, (h b s hb).2⟩
    · cases hf

end Go.Sim
