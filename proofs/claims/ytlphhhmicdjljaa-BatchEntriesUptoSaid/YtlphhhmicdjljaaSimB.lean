/-
  Abstract values and states of a running call, and the relation to the model's frame and world.
-/
import Derived.Test.YtlphhhmicdjljaaSimA
namespace Go.Sim
set_option linter.unusedSimpArgs false
set_option linter.unusedVariables false

inductive AV where
  | d (x : D)
  | ref (o i off : Nat)
  | osl (o off len : Nat)
  | acc (o : Nat) (es : List D)
  | pe (o : Nat) (x : D)
  | xsl (es : List D)
  | agg (cs : List AV)
  | tup (vs : List AV)
  | fn (f : FuncId) (caps : List AV)
  | nl (b : Bool)
  | undef
  deriving Inhabited

def AV.cells : AV → List AV
  | .d x => x.cells.map .d
  | .agg cs => cs
  | x => [x]
def AV.size : AV → Nat
  | .d x => x.size
  | .agg cs => cs.length
  | _ => 1
def AV.cell : AV → Bool
  | .d x => x.cell
  | .agg _ => false
  | .tup _ => false
  | .undef => false
  | _ => true

theorem AV.size_cells (x : AV) : x.cells.length = x.size := by cases x <;> simp [AV.cells, AV.size, D.size]

mutual
def AV.refs (o : Nat) : AV → Bool
  | .ref p _ _ => p == o
  | .osl p _ _ => p == o
  | .acc p _ => p == o
  | .pe p _ => p == o
  | .agg cs => AV.refsL o cs
  | .tup vs => AV.refsL o vs
  | .fn _ cs => AV.refsL o cs
  | .d _ => false
  | .xsl _ => false
  | .nl _ => false
  | .undef => false
def AV.refsL (o : Nat) : List AV → Bool
  | [] => false
  | x :: xs => AV.refs o x || AV.refsL o xs
end

theorem AV.refsL_mem {o : Nat} {x : AV} {xs : List AV} (h : x ∈ xs) (hx : AV.refs o x = true) : AV.refsL o xs = true := by
  induction xs with
  | nil => cases h
  | cons y ys ih =>
    simp only [AV.refsL, Bool.or_eq_true]
    cases h with
    | head => exact .inl hx
    | tail _ h => exact .inr (ih h)

theorem AV.refsL_false {o : Nat} {x : AV} {xs : List AV} (h : x ∈ xs) (hx : AV.refsL o xs = false) : AV.refs o x = false := by
  cases hh : AV.refs o x with
  | false => rfl
  | true => rw [AV.refsL_mem h hh] at hx; cases hx

inductive Obj where
  | row (es : List AV)
  | acc (n : Nat)
  | frz (m : Option Nat)
  deriving Inhabited

def Obj.refs (o : Nat) : Obj → Bool
  | .row es => AV.refsL o es
  | .acc _ => false
  | .frz _ => false

abbrev Heap := List (Nat × Obj)
abbrev Env := List (Nat × AV)

structure St where
  env : Env
  heap : Heap

def look {α : Type} (k : Nat) : List (Nat × α) → Option α
  | [] => none
  | (j, x) :: l => if j = k then some x else look k l
def without {α : Type} (k : Nat) : List (Nat × α) → List (Nat × α)
  | [] => []
  | (j, x) :: l => if j = k then without k l else (j, x) :: without k l
def setAt {α : Type} (k : Nat) (x : α) (l : List (Nat × α)) : List (Nat × α) := (k, x) :: without k l

theorem look_mem {α : Type} {k : Nat} {l : List (Nat × α)} {x : α} (h : look k l = some x) : (k, x) ∈ l := by
  induction l with
  | nil => cases h
  | cons p l ih =>
    obtain ⟨j, y⟩ := p
    simp only [look] at h
    split at h
    · rename_i e; subst e; cases h; exact .head _
    · exact .tail _ (ih h)

theorem mem_without {α : Type} {k : Nat} {l : List (Nat × α)} {p : Nat × α} : p ∈ without k l ↔ p ∈ l ∧ p.1 ≠ k := by
  induction l with
  | nil => simp [without]
  | cons q l ih =>
    obtain ⟨j, y⟩ := q
    simp only [without]
    by_cases e : j = k
    · rw [if_pos e, ih]
      constructor
      · exact fun ⟨a, b⟩ => ⟨.tail _ a, b⟩
      · rintro ⟨a, b⟩
        cases a with
        | head => exact absurd e b
        | tail _ a => exact ⟨a, b⟩
    · rw [if_neg e]
      constructor
      · intro h
        cases h with
        | head => exact ⟨.head _, e⟩
        | tail _ h => exact ⟨.tail _ (ih.1 h).1, (ih.1 h).2⟩
      · rintro ⟨a, b⟩
        cases a with
        | head => exact .head _
        | tail _ a => exact .tail _ (ih.2 ⟨a, b⟩)

theorem look_without_ne {α : Type} {k j : Nat} {l : List (Nat × α)} (h : j ≠ k) : look j (without k l) = look j l := by
  induction l with
  | nil => rfl
  | cons p l ih =>
    obtain ⟨i, y⟩ := p
    simp only [without, look]
    by_cases e : i = k
    · rw [if_pos e, ih, if_neg (by omega)]
    · rw [if_neg e, look, ih]

theorem look_without {α : Type} {k : Nat} {l : List (Nat × α)} : look k (without k l) = none := by
  induction l with
  | nil => rfl
  | cons p l ih =>
    obtain ⟨i, y⟩ := p
    simp only [without]
    by_cases e : i = k
    · rw [if_pos e, ih]
    · rw [if_neg e, look, if_neg e, ih]

@[simp] theorem look_setAt {α : Type} {k : Nat} {x : α} {l : List (Nat × α)} : look k (setAt k x l) = some x := by simp [setAt, look]
theorem look_setAt_ne {α : Type} {k j : Nat} {x : α} {l : List (Nat × α)} (h : j ≠ k) : look j (setAt k x l) = look j l := by
  simp only [setAt, look]; rw [if_neg (Ne.symm h), look_without_ne h]

def refsEnv (o : Nat) : Env → Bool
  | [] => false
  | (_, x) :: l => x.refs o || refsEnv o l
def refsHeap (o : Nat) : Heap → Bool
  | [] => false
  | (_, x) :: l => x.refs o || refsHeap o l

theorem refsEnv_mem {o t : Nat} {x : AV} {l : Env} (h : (t, x) ∈ l) (hx : refsEnv o l = false) : x.refs o = false := by
  induction l with
  | nil => cases h
  | cons p l ih =>
    simp only [refsEnv, Bool.or_eq_false_iff] at hx
    cases h with
    | head => exact hx.1
    | tail _ h => exact ih h hx.2
theorem refsHeap_mem {o t : Nat} {x : Obj} {l : Heap} (h : (t, x) ∈ l) (hx : refsHeap o l = false) : x.refs o = false := by
  induction l with
  | nil => cases h
  | cons p l ih =>
    simp only [refsHeap, Bool.or_eq_false_iff] at hx
    cases h with
    | head => exact hx.1
    | tail _ h => exact ih h hx.2

def mark (H : Heap) (o : Nat) : Option Nat :=
  match look o H with
  | some (.acc n) => some n
  | some (.frz m) => m
  | _ => none

/-! ### The relation -/

abbrev Inj := Nat → Option (Nat × Nat)

inductive VA (w : World) (R : Nat → Prop) (ι : Inj) (mk : Nat → Option Nat) : AV → Value → Prop
  | d {x : D} {u : Value} (h : Rd w R (.v x u)) : VA w R ι mk (.d x) u
  | ref {o i off b s : Nat} (h : ι o = some (b, s)) (hmk : mk o = none) : VA w R ι mk (.ref o i off) (.pointer (some ⟨b, i * s + off, none⟩))
  | osl {o off len cap b s : Nat} {c : Array Value} {T : TypeId} (h : ι o = some (b, s)) (hmk : mk o = none) (hb : w.heap[b]? = some (.cells c T (0, 0)))
      (hl : len ≤ cap) (hc : (off + cap) * s ≤ c.size) (hL : len ≤ LIM) : VA w R ι mk (.osl o off len) (.slice (some ⟨b, off * s, none⟩) len cap)
  | osl0 {o off : Nat} {a : Option Addr} : VA w R ι mk (.osl o off 0) (.slice a 0 0)
  | accR {o b off s cap : Nat} {es : List D} (hR : R b) (hs : 0 < s) (hL : es.length ≤ LIM) (hl : es.length ≤ cap) (hsz : ∀ e ∈ es, e.size = s)
      (h : ∀ (i : Nat) (e : D), es[i]? = some e → Rd w R (.el e b (off + i * s))) (hm : ∀ m, mk o = some m → es.length < m) :
      VA w R ι mk (.acc o es) (.slice (some ⟨b, off, none⟩) es.length cap)
  | accC {o b s m cap : Nat} {es : List D} {c : Array Value} {T : TypeId} (hι : ι o = some (b, s)) (hmk : mk o = some m) (hm : es.length ≤ m) (hL : es.length ≤ LIM) (hl : es.length ≤ cap)
      (hsz : ∀ e ∈ es, e.size = s) (hb : w.heap[b]? = some (.cells c T (0, 0))) (hc : cap * s ≤ c.size)
      (h : ∀ (i : Nat) (e : D), es[i]? = some e → Rd w R (.el e b (i * s))) : VA w R ι mk (.acc o es) (.slice (some ⟨b, 0, none⟩) es.length cap)
  | peR {o b off : Nat} {x : D} (hR : R b) (h : Rd w R (.el x b off)) : VA w R ι mk (.pe o x) (.pointer (some ⟨b, off, none⟩))
  | peC {o b s m off : Nat} {x : D} {c : Array Value} {T : TypeId} (hι : ι o = some (b, s)) (hmk : mk o = some m) (hb : w.heap[b]? = some (.cells c T (0, 0))) (hoff : off + x.size ≤ m * s)
      (h : Rd w R (.el x b off)) : VA w R ι mk (.pe o x) (.pointer (some ⟨b, off, none⟩))
  | acc0 {o : Nat} {a : Option Addr} : VA w R ι mk (.acc o []) (.slice a 0 0)
  | xsl {es : List D} {a : Option Addr} {n : Nat} (h : Rd w R (.v (.sl es) (.slice a n n))) : VA w R ι mk (.xsl es) (.slice a n n)
  | agg {cs : List AV} {vs : List Value} (hl : vs.length = cs.length) (hc : ∀ c ∈ cs, c.cell = true)
      (h : ∀ (i : Nat) (c : AV) (u : Value), cs[i]? = some c → vs[i]? = some u → VA w R ι mk c u) : VA w R ι mk (.agg cs) (.agg vs.toArray)
  | tup {cs : List AV} {vs : List Value} (hl : vs.length = cs.length)
      (h : ∀ (i : Nat) (c : AV) (u : Value), cs[i]? = some c → vs[i]? = some u → VA w R ι mk c u) : VA w R ι mk (.tup cs) (.tuple vs.toArray)
  | fn {f : FuncId} {cs : List AV} {vs : List Value} (hl : vs.length = cs.length)
      (h : ∀ (i : Nat) (c : AV) (u : Value), cs[i]? = some c → vs[i]? = some u → VA w R ι mk c u) : VA w R ι mk (.fn f cs) (.func (.func f) #[] vs.toArray)
  | nl1 {cap : Nat} : VA w R ι mk (.nl true) (.slice none 0 cap)
  | nl2 {a : Addr} {cap : Nat} : VA w R ι mk (.nl false) (.slice (some a) 0 cap)
  | undef {u : Value} : VA w R ι mk .undef u

/-- The block's first 'k' cells stay; its size and kind stay. -/
def Blk (w w' : World) (b k : Nat) : Prop :=
  ∀ (c : Array Value) (T : TypeId), w.heap[b]? = some (.cells c T (0, 0)) → ∃ c', w'.heap[b]? = some (.cells c' T (0, 0)) ∧ c'.size = c.size ∧ ∀ j, j < k → c'[j]? = c[j]?

theorem Blk.of_eq {w w' : World} {b k : Nat} (h : w'.heap[b]? = w.heap[b]?) : Blk w w' b k := fun c T hc => ⟨c, by rw [h, hc], rfl, fun _ _ => rfl⟩
theorem Blk.trans {w w' w'' : World} {b k : Nat} (h : Blk w w' b k) (h' : Blk w' w'' b k) : Blk w w'' b k := fun c T hc =>
  let ⟨c', h1, h2, h3⟩ := h c T hc
  let ⟨c'', h4, h5, h6⟩ := h' c' T h1
  ⟨c'', h4, h5.trans h2, fun j hj => (h6 j hj).trans (h3 j hj)⟩
theorem Blk.mono {w w' : World} {b k k' : Nat} (h : Blk w w' b k) (hk : k' ≤ k) : Blk w w' b k' :=
  fun c T hc => let ⟨c', h1, h2, h3⟩ := h c T hc; ⟨c', h1, h2, fun j hj => h3 j (by omega)⟩

theorem cell_of {w : World} {b j : Nat} {c : Array Value} {T : TypeId} {fz : Nat × Nat} (h : w.heap[b]? = some (.cells c T fz)) : w.cell? ⟨b, j, none⟩ = c[j]? := by
  simp [World.cell?, h]

/-- What a change of the world must leave for the references to object 'o'. -/
structure Step (w w' : World) (ι ι' : Inj) (mk mk' : Nat → Option Nat) (o : Nat) : Prop where
  inj : ∀ b s, ι o = some (b, s) → ι' o = some (b, s)
  blk : ∀ b s, ι o = some (b, s) → Blk w w' b ((mk o).getD 0 * s)
  up : ∀ m, mk o = some m → ∃ m', mk' o = some m' ∧ m ≤ m'
  down : ∀ m', mk' o = some m' → ∃ m, mk o = some m ∧ m ≤ m'

theorem Step.none {w w' : World} {ι ι' : Inj} {mk mk' : Nat → Option Nat} {o : Nat} (h : Step w w' ι ι' mk mk' o) (hm : mk o = none) : mk' o = none := by
  cases hh : mk' o with
  | none => rfl
  | some m' => obtain ⟨m, h1, _⟩ := h.down m' hh; rw [hm] at h1; cases h1

theorem Step.same {w w' : World} {ι : Inj} {mk : Nat → Option Nat} {o : Nat} (h : ∀ b s, ι o = some (b, s) → w'.heap[b]? = w.heap[b]?) : Step w w' ι ι mk mk o :=
  ⟨fun _ _ h => h, fun b s hh => Blk.of_eq (h b s hh), fun m h => ⟨m, h, Nat.le_refl _⟩, fun m h => ⟨m, h, Nat.le_refl _⟩⟩

theorem Rd.el_blk {w w' : World} {R R' : Nat → Prop} {x : D} {b off s k : Nat} (h : Rd w R (.el x b off)) (hR : ∀ b, R b → R' b) (hw : Keeps R w w') (hb : Blk w w' b k)
    {c : Array Value} {T : TypeId} (hc : w.heap[b]? = some (.cells c T (0, 0))) (hs : x.size = s) (hk : off + s ≤ k) : Rd w' R' (.el x b off) := by
  refine h.mono hR hw fun j hj => ?_
  obtain ⟨c', h1, _, h3⟩ := hb c T hc
  rw [cell_of h1, cell_of hc, h3 _ (by omega)]

theorem VA.mono {w w' : World} {R R' : Nat → Prop} {ι ι' : Inj} {mk mk' : Nat → Option Nat} {x : AV} {u : Value} (h : VA w R ι mk x u) (hR : ∀ b, R b → R' b) (hw : Keeps R w w')
    (hs : ∀ o, x.refs o = true → Step w w' ι ι' mk mk' o) : VA w' R' ι' mk' x u := by
  induction h with
  | d h => exact .d (h.mono_v hR hw)
  | @ref o _ _ _ _ h hmk => exact .ref ((hs o (by simp [AV.refs])).inj _ _ h) ((hs o (by simp [AV.refs])).none hmk)
  | @osl o _ _ _ _ _ _ _ h hmk hb hl hc hL =>
    have st := hs o (by simp [AV.refs])
    obtain ⟨c', h1, h2, _⟩ := st.blk _ _ h _ _ hb
    exact .osl (st.inj _ _ h) (st.none hmk) h1 hl (by omega) hL
  | osl0 => exact .osl0
  | @accR o _ _ _ _ _ hr hs' hL hl hsz h hm =>
    have st := hs o (by simp [AV.refs])
    refine .accR (hR _ hr) hs' hL hl hsz (fun i e hi => (h i e hi).mono hR hw fun j _ => World.cell?_of_block (hw _ hr)) fun m' hm' => ?_
    obtain ⟨m, h1, h2⟩ := st.down _ hm'
    have := hm m h1; omega
  | @accC o b s m cap es c T hι hmk hm hL hl hsz hb hc h =>
    have st := hs o (by simp [AV.refs])
    obtain ⟨m', h1, h2⟩ := st.up _ hmk
    have hbk := st.blk _ _ hι
    rw [hmk] at hbk
    obtain ⟨c', h3, h4, _⟩ := hbk _ _ hb
    refine .accC (st.inj _ _ hι) h1 (Nat.le_trans hm h2) hL hl hsz h3 (by omega) fun i e hi => ?_
    have hlt : i < es.length := (List.getElem?_eq_some_iff.1 hi).1
    refine (h i e hi).el_blk hR hw hbk hb (hsz e (List.mem_of_getElem? hi)) ?_
    simp only [Option.getD_some]
    calc i * s + s = (i + 1) * s := by rw [Nat.succ_mul]
      _ ≤ m * s := Nat.mul_le_mul_right _ (by omega)
  | acc0 => exact .acc0
  | peR hr h => exact .peR (hR _ hr) (h.mono hR hw fun j _ => World.cell?_of_block (hw _ hr))
  | @peC o b s m off x c T hι hmk hb hoff h =>
    have st := hs o (by simp [AV.refs])
    obtain ⟨m', h1, h2⟩ := st.up _ hmk
    have hbk := st.blk _ _ hι
    rw [hmk] at hbk
    obtain ⟨c', h3, h4, _⟩ := hbk _ _ hb
    exact .peC (st.inj _ _ hι) h1 h3 (Nat.le_trans hoff (Nat.mul_le_mul_right _ h2)) (h.el_blk hR hw hbk hb rfl hoff)
  | xsl h => exact .xsl (h.mono_v hR hw)
  | agg hl hc _ ih => exact .agg hl hc fun i c u h1 h2 => ih i c u h1 h2 fun o ho => hs o (AV.refsL_mem (List.mem_of_getElem? h1) ho)
  | tup hl _ ih => exact .tup hl fun i c u h1 h2 => ih i c u h1 h2 fun o ho => hs o (AV.refsL_mem (List.mem_of_getElem? h1) ho)
  | fn hl _ ih => exact .fn hl fun i c u h1 h2 => ih i c u h1 h2 fun o ho => hs o (AV.refsL_mem (List.mem_of_getElem? h1) ho)
  | nl1 => exact .nl1
  | nl2 => exact .nl2
  | undef => exact .undef

inductive OB (w : World) (R : Nat → Prop) (ι : Inj) (mk : Nat → Option Nat) (o : Nat) : Obj → Prop
  | row {es : List AV} {b s : Nat} {c : Array Value} {T : TypeId} (hι : ι o = some (b, s)) (hR : ¬ R b) (hb : w.heap[b]? = some (.cells c T (0, 0))) (hs : 0 < s)
      (hsz : ∀ e ∈ es, e.size = s) (hc : es.length * s ≤ c.size)
      (h : ∀ (i : Nat) (e : AV), es[i]? = some e → ∀ (j : Nat) (x : AV), e.cells[j]? = some x → x.cell = true ∧ ∃ q, c[i * s + j]? = some q ∧ VA w R ι mk x q) : OB w R ι mk o (.row es)
  | acc {n b s : Nat} {c : Array Value} {T : TypeId} (hpos : 0 < n) (hι : ι o = some (b, s)) (hR : ¬ R b) (hb : w.heap[b]? = some (.cells c T (0, 0))) (hs : 0 < s) (hc : n * s ≤ c.size) : OB w R ι mk o (.acc n)
  | accN {n : Nat} (hι : ι o = none) : OB w R ι mk o (.acc n)
  /-- An object that is data from now on. -/
  | frz {m : Option Nat} (h : ∀ b s, ι o = some (b, s) → R b ∧ 0 < s) : OB w R ι mk o (.frz m)

/-- What a call began with: the world, the blocks that it may not touch, the blocks whose readings it was given, its number of slots. -/
structure Ctx where
  w0 : World
  keep : Nat → Prop
  R0 : Nat → Prop
  n : Nat
  gh : List Value
  le : n ≤ 1000000

/-- The value of a slot; from number 1000000 on: what was given and stays. -/
def slotV (C : Ctx) (a : Act) (t : Nat) : Option Value := if t < 1000000 then a.tmps[t]? else C.gh[t - 1000000]?

structure Rel (C : Ctx) (S : St) (a : Act) (w : World) (ι : Inj) (R : Nat → Prop) : Prop where
  defers : a.defers = []
  size : a.tmps.size = C.n
  os : w.os = C.w0.os
  tape : w.tape = C.w0.tape
  output : w.output = C.w0.output
  grow : C.w0.heap.size ≤ w.heap.size
  len : ∀ b, b < C.w0.heap.size → Blk C.w0 w b 0
  keep : ∀ b, C.keep b → w.heap[b]? = C.w0.heap[b]?
  keepLt : ∀ b, C.keep b → b < C.w0.heap.size
  rlt : ∀ b, R b → b < w.heap.size
  rok : ∀ b, R b → C.R0 b ∨ ¬ C.keep b
  r0 : ∀ b, C.R0 b → R b
  own : ∀ o b s, ι o = some (b, s) → ¬ C.keep b ∧ b < w.heap.size
  inj : ∀ o o' b s s', ι o = some (b, s) → ι o' = some (b, s') → o = o'
  env : ∀ t x, (t, x) ∈ S.env → ∃ u, slotV C a t = some u ∧ VA w R ι (mark S.heap) x u
  heap : ∀ o ob, (o, ob) ∈ S.heap → OB w R ι (mark S.heap) o ob

theorem AV.cells_refs {o : Nat} {e x : AV} {j : Nat} (h : e.cells[j]? = some x) (hx : x.refs o = true) : e.refs o = true := by
  cases e with
  | agg cs => exact AV.refsL_mem (List.mem_of_getElem? h) hx
  | d y =>
    simp only [AV.cells] at h
    rw [List.getElem?_map] at h
    cases hh : y.cells[j]? with
    | none => simp [hh] at h
    | some z => simp [hh] at h; subst h; simp [AV.refs] at hx
  | _ =>
    simp only [AV.cells] at h
    match j, h with
    | 0, h => simp at h; subst h; exact hx
    | n + 1, h => simp at h

/-- An object whose own block is as it was stays. -/
theorem OB.mono {w w' : World} {R R' : Nat → Prop} {ι ι' : Inj} {mk mk' : Nat → Option Nat} {o : Nat} {ob : Obj} (h : OB w R ι mk o ob) (hR : ∀ b, R b → R' b) (hw : Keeps R w w')
    (hb : ∀ b s, ι o = some (b, s) → ι' o = some (b, s) ∧ w'.heap[b]? = w.heap[b]? ∧ (R' b → R b)) (h0 : ι o = none → ι' o = none)
    (hs : ∀ p, ob.refs p = true → Step w w' ι ι' mk mk' p) : OB w' R' ι' mk' o ob := by
  cases h with
  | row hι hr hb' hs' hsz hc h =>
    obtain ⟨h1, h2, h3⟩ := hb _ _ hι
    refine .row h1 (fun k => hr (h3 k)) (by rw [h2]; exact hb') hs' hsz hc fun i e hi j x hj => ?_
    obtain ⟨k1, q, k2, k3⟩ := h i e hi j x hj
    exact ⟨k1, q, k2, k3.mono hR hw fun p hp => hs p (AV.refsL_mem (List.mem_of_getElem? hi) (AV.cells_refs hj hp))⟩
  | acc hpos hι hr hb' hs' hc =>
    obtain ⟨h1, h2, h3⟩ := hb _ _ hι
    exact .acc hpos h1 (fun k => hr (h3 k)) (by rw [h2]; exact hb') hs' hc
  | accN hι => exact .accN (h0 hι)
  | frz h =>
    refine .frz fun b s hb' => ?_
    cases hι : ι o with
    | none => rw [h0 hι] at hb'; cases hb'
    | some p => obtain ⟨b0, s0⟩ := p; rw [(hb _ _ hι).1] at hb'; cases hb'; exact ⟨hR _ (h _ _ hι).1, (h _ _ hι).2⟩

end Go.Sim
