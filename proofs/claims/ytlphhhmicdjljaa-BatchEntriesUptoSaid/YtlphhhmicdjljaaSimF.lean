/-
  Loads, addresses, parts of values.
-/
import Derived.Test.YtlphhhmicdjljaaSimE
namespace Go.Sim
set_option linter.unusedSimpArgs false
set_option linter.unusedVariables false
open Go (World Value Addr TypeId Act)

variable {P : Program} {C : Ctx} {S : St} {a : Act} {w : World} {ι : Inj} {R : Nat → Prop}

theorem isAggT_run {t : TypeId} {ag : Bool} (h : isAggT P t = some ag) (w : World) : (isAgg t).run P w = .ok ag w := by
  unfold isAggT at h
  unfold isAgg
  cases hu : P.underlying t with
  | none => simp [hu] at h
  | some d =>
    rw [Sem.run_bind, run_underlying hu w]
    cases d <;> simp [hu] at h <;> subst h <;> simp

theorem sizeT_run {t : TypeId} {n : Nat} (h : sizeT P t = some n) (w : World) : (sizeOf t).run P w = .ok n w := by
  unfold sizeT at h
  obtain ⟨i, h1, h2⟩ := Option.map_eq_some_iff.1 h
  simp [sizeOf, typeInfo, h1, h2]

theorem choose_cells {w : World} {b off n : Nat} {Q : Nat → Value → Prop} (h : ∀ j, j < n → ∃ q, w.cell? ⟨b, off + j, none⟩ = some q ∧ Q j q) :
    ∃ qs : List Value, qs.length = n ∧ w.rangeAt b off qs ∧ ∀ j q, qs[j]? = some q → Q j q := by
  refine ⟨(List.range n).map fun j => (w.cell? ⟨b, off + j, none⟩).getD Go.undef, by simp, ?_, ?_⟩
  · intro j v hv
    have hj : j < n := by have := (List.getElem?_eq_some_iff.1 hv).1; simpa using this
    obtain ⟨q, h1, _⟩ := h j hj
    rw [List.getElem?_map, List.getElem?_range hj] at hv
    simp [h1] at hv
    rw [h1, hv]
  · intro j v hv
    have hj : j < n := by have := (List.getElem?_eq_some_iff.1 hv).1; simpa using this
    obtain ⟨q, h1, h2⟩ := h j hj
    rw [List.getElem?_map, List.getElem?_range hj] at hv
    simp [h1] at hv
    subst hv; exact h2

theorem loadVar_ag {t : TypeId} {n b off : Nat} {qs : List Value} (hag : isAggT P t = some true) (hn : sizeT P t = some n) (hl : qs.length = n) (hr : w.rangeAt b off qs) :
    (loadVar t ⟨b, off, none⟩).run P w = .ok (.agg qs.toArray) w := by
  have h1 := run_loadCells_list (P := P) w ⟨b, off, none⟩ qs (fun j v hv => by rw [Addr.add_mid]; exact hr j v hv)
  rw [hl] at h1
  simp [loadVar, isAggT_run hag, sizeT_run hn, h1]

theorem loadVar_one {t : TypeId} {b off : Nat} {q : Value} (hag : isAggT P t = some false) (hq : w.cell? ⟨b, off, none⟩ = some q) :
    (loadVar t ⟨b, off, none⟩).run P w = .ok q w := by
  simp [loadVar, isAggT_run hag, hq]

/-! ### Parts of data -/
theorem D.size_agg (cs : List D) : (D.agg cs).size = cs.length := rfl
theorem asAgg_cells (x : D) : x.asAgg = .agg x.cells := by cases x <;> rfl

theorem partD_spec {ag : Bool} {off n : Nat} {x y : D} (h : partD ag off n x = some y) (hn : n ≠ 0) :
    off + n ≤ x.size ∧ ((ag = true ∧ y = .agg ((x.cells.drop off).take n)) ∨ (ag = false ∧ n = 1 ∧ x.cells[off]? = some y)) := by
  unfold partD at h
  cases ag with
  | true =>
    simp only [if_true] at h
    split at h
    · rename_i h1; cases h
      refine ⟨by omega, .inl ⟨rfl, ?_⟩⟩
      rw [asAgg_cells, h1.1, h1.2]; simp [D.size]
    · split at h
      · rename_i h1; cases h; exact ⟨h1, .inl ⟨rfl, rfl⟩⟩
      · cases h
  | false =>
    simp only [Bool.false_eq_true, if_false] at h
    split at h
    · rename_i h1
      have := (List.getElem?_eq_some_iff.1 h).1
      exact ⟨by simp [D.size]; omega, .inr ⟨rfl, h1, h⟩⟩
    · cases h

theorem slice_get {α : Type} {l : List α} {off n j : Nat} (h : off + n ≤ l.length) (hj : j < n) : ((l.drop off).take n)[j]? = l[off + j]? := by
  rw [List.getElem?_take_of_lt hj, List.getElem?_drop]

/-- The part of what lies in memory. -/
theorem Rd.part_el {x y : D} {b o off n : Nat} {ag : Bool} (h : Rd w R (.el x b o)) (hp : partD ag off n x = some y) (hn : n ≠ 0) : Rd w R (.el y b (o + off)) := by
  obtain ⟨h1, h2 | ⟨_, _, h2⟩⟩ := partD_spec hp hn
  · obtain ⟨_, rfl⟩ := h2
    have hc := h.v_of_cells
    refine Rd.el_of_cells (fun vs => by simp) fun i c hi => ?_
    have hi : ((x.cells.drop off).take n)[i]? = some c := hi
    have hlt : i < n := by have := (List.getElem?_eq_some_iff.1 hi).1; simp at this; omega
    rw [slice_get h1 hlt] at hi
    obtain ⟨k1, q, k2, k3⟩ := hc _ _ hi
    exact ⟨k1, q, by rw [← k2]; congr 2; omega, k3⟩
  · obtain ⟨k1, q, k2, k3⟩ := h.v_of_cells _ _ h2
    exact .elc k1 k2 k3

/-- What is loaded from memory that holds a datum. -/
theorem Rd.load {x y : D} {b o n : Nat} {ag : Bool} {t : TypeId} (h : Rd w R (.el x b o)) (hp : partD ag 0 n x = some y) (hn : n ≠ 0) (hag : isAggT P t = some ag) (hsz : sizeT P t = some n) :
    ∃ u, (loadVar t ⟨b, o, none⟩).run P w = .ok u w ∧ Rd w R (.v y u) := by
  obtain ⟨h1, ⟨rfl, rfl⟩ | ⟨rfl, h0, h2⟩⟩ := partD_spec hp hn
  · have hc := h.v_of_cells
    have hlen : n ≤ x.cells.length := by simpa [D.size] using h1
    obtain ⟨qs, hl, hr, hq⟩ := choose_cells (w := w) (b := b) (off := o) (n := n) (Q := fun j q => ∀ c, x.cells[j]? = some c → c.cell = true ∧ Rd w R (.v c q)) fun j hj => by
      have he : x.cells[j]? = some x.cells[j] := List.getElem?_eq_getElem (by omega)
      obtain ⟨k1, q, k2, k3⟩ := hc j _ he
      exact ⟨q, k2, fun c hc' => by rw [he] at hc'; cases hc'; exact ⟨k1, k3⟩⟩
    refine ⟨_, loadVar_ag hag hsz hl hr, ?_⟩
    have key : ∀ (i : Nat) (c : D), ((x.cells.drop 0).take n)[i]? = some c → i < n ∧ x.cells[i]? = some c := fun i c hi => by
      have hlt : i < n := by have := (List.getElem?_eq_some_iff.1 hi).1; simp at this; omega
      rw [slice_get (by omega) hlt] at hi
      exact ⟨hlt, by simpa using hi⟩
    refine .agg (by simp; omega) (fun c hc' => ?_) fun i c u h3 h4 => (hq i u h4 c (key i c h3).2).2
    obtain ⟨i, hi⟩ := List.getElem?_of_mem hc'
    obtain ⟨hlt, hx⟩ := key i c hi
    obtain ⟨k1, _⟩ := hc i c hx
    exact k1
  · obtain ⟨k1, q, k2, k3⟩ := h.v_of_cells _ _ h2
    exact ⟨q, loadVar_one hag (by simpa using k2), k3⟩

/-! ### Parts of abstract values -/
/-- One element of an object's row, cell by cell. -/
def ElA (w : World) (R : Nat → Prop) (ι : Inj) (mk : Nat → Option Nat) (e : AV) (b off : Nat) : Prop :=
  ∀ (j : Nat) (x : AV), e.cells[j]? = some x → x.cell = true ∧ ∃ q, w.cell? ⟨b, off + j, none⟩ = some q ∧ VA w R ι mk x q

theorem ElA.load {mk : Nat → Option Nat} {e v : AV} {b o off n : Nat} {ag : Bool} {t : TypeId} (h : ElA w R ι mk e b o) (hp : partA ag off n e = some v) (hn : n ≠ 0) (hag : isAggT P t = some ag) (hsz : sizeT P t = some n) :
    ∃ u, (loadVar t ⟨b, o + off, none⟩).run P w = .ok u w ∧ VA w R ι mk v u := by
  have general : ∀ (m : Nat), m = n → off + n ≤ e.cells.length → ag = true → ∃ u, (loadVar t ⟨b, o + off, none⟩).run P w = .ok u w ∧ VA w R ι mk (AV.mkAgg ((e.cells.drop off).take n)) u := by
    intro m _ hlen hagt
    obtain ⟨qs, hl, hr, hq⟩ := choose_cells (w := w) (b := b) (off := o + off) (n := n) (Q := fun j q => ∀ c, e.cells[off + j]? = some c → c.cell = true ∧ VA w R ι mk c q) fun j hj => by
      have he : e.cells[off + j]? = some e.cells[off + j] := List.getElem?_eq_getElem (by omega)
      obtain ⟨k1, q, k2, k3⟩ := h _ _ he
      exact ⟨q, by rw [← k2]; congr 2; omega, fun c hc' => by rw [he] at hc'; cases hc'; exact ⟨k1, k3⟩⟩
    refine ⟨_, loadVar_ag (hagt ▸ hag) hsz hl hr, ?_⟩
    have key : ∀ (i : Nat) (c : AV), ((e.cells.drop off).take n)[i]? = some c → i < n ∧ e.cells[off + i]? = some c := fun i c hi => by
      have hlt : i < n := by have := (List.getElem?_eq_some_iff.1 hi).1; simp at this; omega
      rw [slice_get (by omega) hlt] at hi
      exact ⟨hlt, hi⟩
    refine VA.mkAgg (by simp; omega) (fun c hc' => ?_) fun i c u h3 h4 => (hq i u h4 c (key i c h3).2).2
    obtain ⟨i, hi⟩ := List.getElem?_of_mem hc'
    exact (h _ _ (key i c hi).2).1
  cases e with
  | d x =>
    simp only [partA, Option.map_eq_some_iff] at hp
    obtain ⟨y, hp, rfl⟩ := hp
    have hel : Rd w R (.el x b o) ∨ ∃ vs, x = .tup vs := by
      by_cases hx : ∃ vs, x = .tup vs
      · exact .inr hx
      · refine .inl (Rd.el_of_cells (fun vs hvs => hx ⟨vs, hvs⟩) fun i c hi => ?_)
        obtain ⟨k1, q, k2, k3⟩ := h i (.d c) (by simp [AV.cells, hi])
        exact ⟨k1, q, k2, k3.of_d⟩
    rcases hel with hel | ⟨vs, rfl⟩
    · obtain ⟨h1, _⟩ := partD_spec hp hn
      have h2 := hel.part_el hp hn
      have : ∃ z, partD ag 0 n y = some z ∧ z = y := by
        obtain ⟨h1, ⟨rfl, rfl⟩ | ⟨rfl, h0, h2⟩⟩ := partD_spec hp hn
        · refine ⟨_, ?_, rfl⟩
          simp only [partD, if_true]
          have e : n = (D.agg (List.take n (List.drop off x.cells))).size := by rw [D.size_agg, List.length_take, List.length_drop]; have h1 : off + n ≤ x.cells.length := h1; omega
          rw [if_pos ⟨trivial, e⟩]; rfl
        · refine ⟨y, ?_, rfl⟩
          subst h0
          have := (hel.v_of_cells _ _ h2).1
          simp [partD, D.cells_cell this]
      obtain ⟨z, hz, rfl⟩ := this
      obtain ⟨u, k1, k2⟩ := h2.load hz hn hag hsz
      exact ⟨u, k1, .d k2⟩
    · have := (h 0 (.d (.tup vs)) (by simp [AV.cells, D.cells])).1
      simp [AV.cell, D.cell] at this
  | _ =>
    simp only [partA] at hp
    cases ag with
    | true =>
      simp only [if_true] at hp
      split at hp
      · rename_i h1; cases hp; exact general n rfl (by rw [AV.size_cells]; omega) rfl
      · cases hp
    | false =>
      simp only [Bool.false_eq_true, if_false] at hp
      split at hp
      · obtain ⟨k1, q, k2, k3⟩ := h _ _ hp
        exact ⟨q, loadVar_one hag k2, k3⟩
      · cases hp

end Go.Sim
