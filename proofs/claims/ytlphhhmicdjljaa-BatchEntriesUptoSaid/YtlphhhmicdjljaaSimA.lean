/-
  A calculus of values over the model: data 'D' (what a value reads as), abstract values 'AV' (data, references into objects that the running call owns, lists that it alone may append to), and when a value of the model in a world is one of them.
-/
import Derived.Calls
import Derived.Laws.Sem
import Derived.Laws.World
import Derived.Laws.Rows
import Derived.Below
namespace Go.Sim
set_option linter.unusedSimpArgs false
set_option linter.unusedVariables false

inductive D where
  | int (k : IntKind) (n : Int)
  | bool (b : Bool)
  | str (s : List UInt8)
  | agg (cs : List D)
  | tup (vs : List D)
  | sl (es : List D)
  | pd (x : D)
  | fn (f : FuncId) (caps : List D)
  deriving Inhabited

def D.cells : D → List D
  | .agg cs => cs
  | x => [x]
def D.size (x : D) : Nat := x.cells.length
def D.cell : D → Bool
  | .agg _ => false
  | .tup _ => false
  | _ => true

/-- The greatest length that is spoken of. -/
def LIM : Nat := 4294967296

inductive It where
  | v (x : D) (u : Value)
  | el (x : D) (b off : Nat)

/-- 'x' is what the value 'u' reads as (or what lies from the cell (b, off) on), where what is behind an address lies in a block of R. -/
inductive Rd (w : World) (R : Nat → Prop) : It → Prop
  | int {k : IntKind} {n : Int} (h : k.has n) : Rd w R (.v (.int k n) (.int k n))
  | bool {b : Bool} : Rd w R (.v (.bool b) (.bool b))
  | str {s : List UInt8} (h : s.length ≤ LIM) : Rd w R (.v (.str s) (.string ⟨s.toArray⟩))
  | agg {cs : List D} {vs : List Value} (hl : vs.length = cs.length) (hc : ∀ c ∈ cs, c.cell = true)
      (h : ∀ (i : Nat) (c : D) (u : Value), cs[i]? = some c → vs[i]? = some u → Rd w R (.v c u)) : Rd w R (.v (.agg cs) (.agg vs.toArray))
  | tup {cs : List D} {vs : List Value} (hl : vs.length = cs.length)
      (h : ∀ (i : Nat) (c : D) (u : Value), cs[i]? = some c → vs[i]? = some u → Rd w R (.v c u)) : Rd w R (.v (.tup cs) (.tuple vs.toArray))
  | sl0 {a : Option Addr} {cap : Nat} : Rd w R (.v (.sl []) (.slice a 0 cap))
  | sl {es : List D} {b off s cap : Nat} (hR : R b) (h0 : es ≠ []) (hs : 0 < s) (hl : es.length ≤ LIM) (hcap : es.length ≤ cap) (hsz : ∀ e ∈ es, e.size = s)
      (h : ∀ (i : Nat) (e : D), es[i]? = some e → Rd w R (.el e b (off + i * s))) : Rd w R (.v (.sl es) (.slice (some ⟨b, off, none⟩) es.length cap))
  | pd {x : D} {b off : Nat} (hR : R b) (h : Rd w R (.el x b off)) : Rd w R (.v (.pd x) (.pointer (some ⟨b, off, none⟩)))
  | fn {f : FuncId} {cs : List D} {vs : List Value} (hl : vs.length = cs.length)
      (h : ∀ (i : Nat) (c : D) (u : Value), cs[i]? = some c → vs[i]? = some u → Rd w R (.v c u)) : Rd w R (.v (.fn f cs) (.func (.func f) #[] vs.toArray))
  | elagg {cs : List D} {b off : Nat} (hc : ∀ c ∈ cs, c.cell = true)
      (h : ∀ (i : Nat) (c : D), cs[i]? = some c → Rd w R (.el c b (off + i))) : Rd w R (.el (.agg cs) b off)
  | elc {x : D} {u : Value} {b off : Nat} (hc : x.cell = true) (hv : w.cell? ⟨b, off, none⟩ = some u) (h : Rd w R (.v x u)) : Rd w R (.el x b off)

theorem D.size_cell {x : D} (h : x.cell = true) : x.size = 1 := by cases x <;> simp_all [D.cell, D.size, D.cells]
theorem D.cells_cell {x : D} (h : x.cell = true) : x.cells = [x] := by cases x <;> simp_all [D.cell, D.cells]

/-- What stays as it was. -/
def Keeps (R : Nat → Prop) (w w' : World) : Prop := ∀ b, R b → w'.heap[b]? = w.heap[b]?

def It.near (w w' : World) : It → Prop
  | .v _ _ => True
  | .el x b off => ∀ j, j < x.size → w'.cell? ⟨b, off + j, none⟩ = w.cell? ⟨b, off + j, none⟩

theorem Rd.mono {w w' : World} {R R' : Nat → Prop} {it : It} (h : Rd w R it) (hR : ∀ b, R b → R' b) (hw : Keeps R w w') (hn : it.near w w') : Rd w' R' it := by
  induction h with
  | int h => exact .int h
  | bool => exact .bool
  | str h => exact .str h
  | agg hl hc _ ih => exact .agg hl hc fun i c u h1 h2 => ih i c u h1 h2 trivial
  | tup hl _ ih => exact .tup hl fun i c u h1 h2 => ih i c u h1 h2 trivial
  | sl0 => exact .sl0
  | sl hr h0 hs hl hcap hsz _ ih => exact .sl (hR _ hr) h0 hs hl hcap hsz fun i e h1 => ih i e h1 fun j _ => World.cell?_of_block (hw _ hr)
  | pd hr _ ih => exact .pd (hR _ hr) (ih fun j _ => World.cell?_of_block (hw _ hr))
  | fn hl _ ih => exact .fn hl fun i c u h1 h2 => ih i c u h1 h2 trivial
  | @elagg cs b off hc _ ih =>
    refine .elagg hc fun i c h1 => ih i c h1 fun j hj => ?_
    have hi : i < cs.length := (List.getElem?_eq_some_iff.1 h1).1
    have hcl : c.cell = true := hc c (List.mem_of_getElem? h1)
    rw [D.size_cell hcl] at hj
    have := hn i (by simpa [D.size, D.cells] using hi)
    have hj0 : j = 0 := by omega
    subst hj0
    simpa using this
  | @elc x u b off hc hv _ ih =>
    refine .elc hc ?_ (ih trivial)
    have := hn 0 (by rw [D.size_cell hc]; omega)
    simpa [hv] using this

theorem Rd.mono_v {w w' : World} {R R' : Nat → Prop} {x : D} {u : Value} (h : Rd w R (.v x u)) (hR : ∀ b, R b → R' b) (hw : Keeps R w w') : Rd w' R' (.v x u) := h.mono hR hw trivial

/-- One value, cell by cell. -/
theorem Rd.cells_of_v {w : World} {R : Nat → Prop} {x : D} {u : Value} (h : Rd w R (.v x u)) (hx : ∀ vs, x ≠ .tup vs) :
    u.cells.size = x.size ∧ ∀ (i : Nat) (c : D), x.cells[i]? = some c → c.cell = true ∧ ∃ q, u.cells[i]? = some q ∧ Rd w R (.v c q) := by
  have one : ∀ (x : D) (u : Value), x.cells = [x] → u.cells = #[u] → x.cell = true → Rd w R (.v x u) → (u.cells.size = x.size ∧ ∀ (i : Nat) (c : D), x.cells[i]? = some c → c.cell = true ∧ ∃ q, u.cells[i]? = some q ∧ Rd w R (.v c q)) := by
    intro x u h1 h2 h3 h4
    refine ⟨by simp [D.size, h1, h2], fun i c hc => ?_⟩
    rw [h1] at hc
    match i, hc with
    | 0, hc => simp at hc; subst hc; exact ⟨h3, u, by simp [h2], h4⟩
    | n + 1, hc => simp at hc
  generalize hit : It.v x u = it at h
  cases h with
  | agg hl hc h =>
    injection hit with e1 e2; subst e1 e2
    refine ⟨by simp [Value.cells, D.size, D.cells, hl], fun i c hi => ?_⟩
    simp only [D.cells] at hi
    have hlt : i < _ := (List.getElem?_eq_some_iff.1 hi).1
    rename_i cs vs
    have hq : vs[i]? = some (vs[i]'(by omega)) := List.getElem?_eq_getElem _
    exact ⟨hc c (List.mem_of_getElem? hi), _, by simp only [Value.cells, List.getElem?_toArray]; exact hq, h i c _ hi hq⟩
  | tup hl h => injection hit with e1 e2; exact absurd e1 (hx _)
  | int h => injection hit with e1 e2; subst e1 e2; exact one _ _ rfl rfl rfl (.int h)
  | bool => injection hit with e1 e2; subst e1 e2; exact one _ _ rfl rfl rfl .bool
  | str h => injection hit with e1 e2; subst e1 e2; exact one _ _ rfl rfl rfl (.str h)
  | sl0 => injection hit with e1 e2; subst e1 e2; exact one _ _ rfl rfl rfl .sl0
  | sl a b c d e f g => injection hit with e1 e2; subst e1 e2; exact one _ _ rfl rfl rfl (.sl a b c d e f g)
  | pd a b => injection hit with e1 e2; subst e1 e2; exact one _ _ rfl rfl rfl (.pd a b)
  | fn a b => injection hit with e1 e2; subst e1 e2; exact one _ _ rfl rfl rfl (.fn a b)
  | elagg => cases hit
  | elc => cases hit

theorem Rd.v_of_cells {w : World} {R : Nat → Prop} {x : D} {b off : Nat} (h : Rd w R (.el x b off)) :
    ∀ (i : Nat) (c : D), x.cells[i]? = some c → c.cell = true ∧ ∃ q, w.cell? ⟨b, off + i, none⟩ = some q ∧ Rd w R (.v c q) := by
  intro i c hi
  cases h with
  | elagg hc h =>
    simp only [D.cells] at hi
    have h1 := h i c hi
    have h2 := hc c (List.mem_of_getElem? hi)
    cases h1 with
    | elagg => simp [D.cell] at h2
    | elc hc' hv h => exact ⟨h2, _, hv, h⟩
  | elc hc hv h =>
    rw [D.cells_cell hc] at hi
    match i, hi with
    | 0, hi => simp at hi; subst hi; exact ⟨hc, _, by simpa using hv, h⟩
    | n + 1, hi => simp at hi

theorem Rd.el_of_cells {w : World} {R : Nat → Prop} {x : D} {b off : Nat} (hx : ∀ vs, x ≠ .tup vs)
    (h : ∀ (i : Nat) (c : D), x.cells[i]? = some c → c.cell = true ∧ ∃ q, w.cell? ⟨b, off + i, none⟩ = some q ∧ Rd w R (.v c q)) : Rd w R (.el x b off) := by
  by_cases hc : x.cell = true
  · obtain ⟨_, q, h1, h2⟩ := h 0 x (by rw [D.cells_cell hc]; rfl)
    exact .elc hc (by simpa using h1) h2
  · cases x with
    | agg cs =>
      refine .elagg (fun c hc => ?_) fun i c hi => ?_
      · obtain ⟨i, hi⟩ := List.getElem?_of_mem hc
        exact (h i c hi).1
      · obtain ⟨h0, q, h1, h2⟩ := h i c hi
        exact .elc h0 h1 h2
    | tup vs => exact absurd rfl (hx vs)
    | _ => simp [D.cell] at hc

end Go.Sim
