/-
  Composite values; new rows of cells.
  Equality of structs and arrays of numbers, bools and strings.
-/
import Derived.Test.YtadnfmkdmknmhaaB826117f
set_option linter.unusedSimpArgs false
set_option linter.unusedVariables false
namespace Go.Sim
open Go (World Value Addr TypeId Act)
variable {P : Program} {C : Ctx} {S : St} {a : Act} {w : World} {ι : Inj} {R : Nat → Prop}
def CellsA (w : World) (R : Nat → Prop) (ι : Inj) (mk : Nat → Option Nat) (zs : List AV) (c : Array Value) : Prop :=
  c.size = zs.length ∧ ∀ (i : Nat) (z : AV), zs[i]? = some z → z.cell = true ∧ ∃ q, c[i]? = some q ∧ VA w R ι mk z q
theorem lay_size (vs : List (Value × Nat)) (off : Nat) (c : Array Value) : (vs.foldl (fun cs p => cs.setIfInBounds (off + p.2) p.1) c).size = c.size := by
  induction vs generalizing c with
  | nil => rfl
  | cons p l ih => rw [List.foldl_cons, ih]; simp
theorem lay_get (vs : List Value) (k off : Nat) (c : Array Value) (h : off + k + vs.length ≤ c.size) (j : Nat) :
    ((vs.zipIdx k).foldl (fun cs p => cs.setIfInBounds (off + p.2) p.1) c)[j]? = if off + k ≤ j ∧ j < off + k + vs.length then vs[j - (off + k)]? else c[j]? := by
  induction vs generalizing k c with
  | nil => rw [if_neg (by simp only [List.length_nil]; omega)]; rfl
  | cons v vs ih =>
    rw [List.zipIdx_cons, List.foldl_cons, ih (k + 1) _ (by simp at h ⊢; omega)]
    simp only [List.length_cons] at h ⊢
    by_cases hj : j = off + k
    · subst hj
      rw [if_neg (by omega), if_pos (by omega), Array.getElem?_setIfInBounds_self_of_lt (by omega), Nat.sub_self]
      rfl
    · rw [Array.getElem?_setIfInBounds_ne (Ne.symm hj)]
      by_cases hh : off + (k + 1) ≤ j ∧ j < off + (k + 1) + vs.length
      · rw [if_pos hh, if_pos (by omega)]
        have : j - (off + k) = (j - (off + (k + 1))) + 1 := by omega
        rw [this, List.getElem?_cons_succ]
      · rw [if_neg hh, if_neg (by omega)]
theorem lay_array (u : Value) (off : Nat) (c : Array Value) (h : off + u.cells.size ≤ c.size) (j : Nat) :
    (u.cells.zipIdx.foldl (fun cs (x, j) => cs.setIfInBounds (off + j) x) c)[j]? = if off ≤ j ∧ j < off + u.cells.size then u.cells[j - off]? else c[j]? := by
  have e : u.cells.zipIdx.foldl (fun cs (x, j) => cs.setIfInBounds (off + j) x) c = (u.cells.toList.zipIdx 0).foldl (fun cs p => cs.setIfInBounds (off + p.2) p.1) c := by
    rw [← Array.foldl_toList]; simp
  rw [e, lay_get _ _ _ _ (by simpa using h)]
  simp
theorem CellsA.lay {mk : Nat → Option Nat} {zs : List AV} {c : Array Value} (h : CellsA w R ι mk zs c) {v : AV} {u : Value} (hv : VA w R ι mk v u) (ht : isTup v = false) {off : Nat} (ho : off + v.size ≤ zs.length) :
    CellsA w R ι mk (splice zs off v.cells) (u.cells.zipIdx.foldl (fun cs (x, j) => cs.setIfInBounds (off + j) x) c) := by
  obtain ⟨h1, h2⟩ := hv.cells ht
  have hlen : off + v.cells.length ≤ zs.length := by rw [AV.size_cells]; exact ho
  refine ⟨?_, fun i z hi => ?_⟩
  · rw [splice_length _ _ _ hlen, ← h.1]
    have e : u.cells.zipIdx.foldl (fun cs (x, j) => cs.setIfInBounds (off + j) x) c = (u.cells.toList.zipIdx 0).foldl (fun cs p => cs.setIfInBounds (off + p.2) p.1) c := by
      rw [← Array.foldl_toList]; simp
    rw [e, lay_size]
  · rw [splice_get _ _ _ _ hlen] at hi
    rw [lay_array u off c (by rw [h1, h.1]; exact ho), h1, ← AV.size_cells]
    split at hi
    · rename_i hh; rw [if_pos hh]; exact h2 _ _ hi
    · rename_i hh; rw [if_neg hh]; exact h.2 _ _ hi
theorem fill_ok {mk : Nat → Option Nat} {place : Nat → Option (Nat × Nat)} : ∀ {ps : List (Nat × Value)} {qs : List (Nat × Nat × AV)} {zs cs : List AV} {c : Array Value}, CellsA w R ι mk zs c → qs.length = ps.length →
    (∀ (k i : Nat) (u : Value) (off n : Nat) (v : AV), ps[k]? = some (i, u) → qs[k]? = some (off, n, v) → place i = some (off, n) ∧ VA w R ι mk v u) → fillA zs qs = some cs →
    ∃ c', Instr.fill place c ps = some c' ∧ CellsA w R ι mk cs c' := by
  intro ps
  induction ps with
  | nil =>
    intro qs zs cs c h hl _ hf
    have : qs = [] := List.length_eq_zero_iff.1 hl
    subst this
    simp only [fillA, Option.some.injEq] at hf; subst hf
    exact ⟨c, rfl, h⟩
  | cons p ps ih =>
    intro qs zs cs c h hl hp hf
    obtain ⟨i, u⟩ := p
    cases qs with
    | nil => simp at hl
    | cons q qs =>
      obtain ⟨off, n, v⟩ := q
      simp only [fillA] at hf
      split at hf
      · rename_i hh
        obtain ⟨h1, h2⟩ := hp 0 i u off n v rfl rfl
        have hsz := (h2.cells hh.2.2).1
        have hlay := h.lay h2 hh.2.2 (off := off) (by omega)
        obtain ⟨c', h3, h4⟩ := ih hlay (by simpa using hl) (fun k i u off n v k1 k2 => hp (k + 1) i u off n v (by simpa using k1) (by simpa using k2)) hf
        refine ⟨c', ?_, h4⟩
        have e1 : ¬ (u.cells.size ≠ n) := by omega
        have e2 : ¬ (c.size < off + u.cells.size) := by rw [h.1]; omega
        simp only [Instr.fill, h1]
        rw [if_neg (by simp; omega)]
        exact h3
      · cases hf
theorem zero_cells {t : TypeId} {z : AV} (h : zeroT P t = some z) (hz : isTup z = false) (w : World) (R : Nat → Prop) (ι : Inj) (mk : Nat → Option Nat) :
    ∃ zv, (zeroValue t).run P w = .ok zv w ∧ VA w R ι mk z zv ∧ CellsA w R ι mk z.cells zv.cells := by
  unfold zeroT at h
  obtain ⟨zv, h1, h2⟩ := Option.bind_eq_some_iff.1 h
  obtain ⟨i, h3, h4⟩ := Option.bind_eq_some_iff.1 h1
  have hv := constV_ok h2 w R ι mk
  obtain ⟨k1, k2⟩ := hv.cells hz
  exact ⟨zv, by simp [zeroValue, typeInfo, h3, h4], hv, by rw [AV.size_cells]; exact k1, k2⟩
theorem constV_notTup {v : Value} {x : AV} (h : constV v = some x) : isTup x = false := by
  unfold constV at h
  split at h
  · obtain ⟨ds, h1, h2⟩ := Option.map_eq_some_iff.1 h
    subst h2
    unfold AV.mkAgg
    split <;> rfl
  · unfold cell1 at h
    split at h
    · split at h
      · cases h; rfl
      · cases h
    · cases h; rfl
    · split at h
      · cases h; rfl
      · cases h
    · cases h; rfl
    · cases h
theorem zeroT_notTup {t : TypeId} {z : AV} (h : zeroT P t = some z) : isTup z = false := by
  unfold zeroT at h
  obtain ⟨zv, h1, h2⟩ := Option.bind_eq_some_iff.1 h
  exact constV_notTup h2
theorem mapM_run {α β : Type} {f : α → Sem β} {g : α → Option β} (w : World) (l : Array α) (h : ∀ x ∈ l, ∀ y, g x = some y → (f x).run P w = .ok y w) : ∀ {m : List β}, l.toList.mapM g = some m → (l.mapM f).run P w = .ok m.toArray w := by
  have go : ∀ (l : List α), (∀ x ∈ l, ∀ y, g x = some y → (f x).run P w = .ok y w) → ∀ {m : List β}, l.mapM g = some m → (l.mapM f).run P w = .ok m w := by
    intro l
    induction l with
    | nil => intro _ m hm; simp at hm; subst hm; simp
    | cons x l ih =>
      intro h m hm
      simp only [List.mapM_cons, Option.bind_eq_bind, Option.pure_def] at hm
      obtain ⟨y, hy, hm⟩ := Option.bind_eq_some_iff.1 hm
      obtain ⟨ys, hys, hm⟩ := Option.bind_eq_some_iff.1 hm
      cases hm
      simp [List.mapM_cons, h x (by simp) y hy, ih (fun x hx => h x (by simp [hx])) hys]
  intro m hm
  rw [Array.mapM_eq_mapM_toList]
  simp [go l.toList (fun x hx => h x (by simpa using hx)) hm]
theorem mkAgg_va {mk : Nat → Option Nat} {cs : List AV} {c : Array Value} (h : CellsA w R ι mk cs c) : VA w R ι mk (AV.mkAgg cs) (.agg c) := by
  have := VA.mkAgg (w := w) (R := R) (ι := ι) (mk := mk) (cs := cs) (vs := c.toList) (by simpa using h.1) (fun x hx => by
    obtain ⟨i, hi⟩ := List.getElem?_of_mem hx
    exact (h.2 i x hi).1) (fun i x u h1 h2 => by
    obtain ⟨_, q, k1, k2⟩ := h.2 i x h1
    rw [Array.getElem?_toList, k1] at h2; cases h2; exact k2)
  simpa using this
theorem build_ok {t : TypeId} {op : AOp} {ps : Array (Nat × Operand)} {v : AV} {H' : Heap} {dst : Nat} (hr : Rel C S a w ι R) (hc : compOp P (.build t ps) = some op) (hs : astep S.env S.heap dst op = some (v, H')) :
    H' = S.heap ∧ ∃ u, (Instr.build t (ps.map fun (i, x) => (i, a.eval x))).run P w = .ok u w ∧ VA w R ι (mark S.heap) v u := by
  simp only [compOp] at hc
  have parts : ∀ (place : Nat → Option (Nat × Nat)) (f : Nat × Operand → Option (Nat × Nat × Opd)) (qs : List (Nat × Nat × Opd)) (z : List AV) (cs : List AV) (c : Array Value),
      ps.toList.mapM f = some qs → (∀ p q, f p = some q → place p.1 = some (q.1, q.2.1) ∧ opd p.2 = some q.2.2) → CellsA w R ι (mark S.heap) z c → fillA z (qs.map fun p => (p.1, p.2.1, p.2.2.ev S.env)) = some cs →
      ∃ c', Instr.fill place c (ps.map fun (i, x) => (i, a.eval x)).toList = some c' ∧ CellsA w R ι (mark S.heap) cs c' := by
    intro place f qs z cs c hm hf hz hfi
    obtain ⟨hl, hg⟩ := mapM_get hm
    refine fill_ok hz (by simp [hl]) (fun k i u off n v h1 h2 => ?_) hfi
    rw [Array.toList_map, List.getElem?_map] at h1
    rw [List.getElem?_map] at h2
    obtain ⟨p, hp, h1⟩ := Option.map_eq_some_iff.1 h1
    obtain ⟨q, hq, h2⟩ := Option.map_eq_some_iff.1 h2
    obtain ⟨k1, k2⟩ := hf p q (hg k p q hp hq)
    cases h1; cases h2
    exact ⟨k1, hr.ev k2⟩
  split at hc
  · rename_i fs hu
    simp only [Option.bind_eq_bind] at hc
    obtain ⟨z, hz, hc⟩ := Option.bind_eq_some_iff.1 hc
    obtain ⟨szs, hsz, hc⟩ := Option.bind_eq_some_iff.1 hc
    obtain ⟨qs, hqs, hc⟩ := Option.bind_eq_some_iff.1 hc
    cases hc
    simp only [astep] at hs
    obtain ⟨cs, hcs, hs⟩ := Option.map_eq_some_iff.1 hs
    cases hs
    refine ⟨rfl, ?_⟩
    obtain ⟨zv, hz1, _, hz2⟩ := zero_cells hz (zeroT_notTup hz) w R ι (mark S.heap)
    have hpl : (fs.mapM fun f => (do pure (f.offset, ← sizeOf f.type) : Sem (Nat × Nat))).run P w = .ok ((fs.toList.zip szs).map fun (f, s) => (f.offset, s)).toArray w := by
      refine mapM_run w fs (g := fun f => (sizeT P f.type).map fun s => (f.offset, s)) (fun f _ y hy => ?_) ?_
      · obtain ⟨s, h1, h2⟩ := Option.map_eq_some_iff.1 hy
        subst h2; simp [sizeT_run h1]
      · have : ∀ (l : List Field) (m : List Nat), l.mapM (fun f => sizeT P f.type) = some m → l.mapM (fun f => (sizeT P f.type).map fun s => (f.offset, s)) = some ((l.zip m).map fun (f, s) => (f.offset, s)) := by
          intro l
          induction l with
          | nil => intro m hm; simp at hm; subst hm; simp
          | cons f l ih =>
            intro m hm
            simp only [List.mapM_cons, Option.bind_eq_bind, Option.pure_def] at hm
            obtain ⟨y, hy, hm⟩ := Option.bind_eq_some_iff.1 hm
            obtain ⟨ys, hys, hm⟩ := Option.bind_eq_some_iff.1 hm
            cases hm
            simp [List.mapM_cons, hy, ih ys hys]
        exact this _ _ hsz
    obtain ⟨c', h1, h2⟩ := parts (((fs.toList.zip szs).map fun (f, s) => (f.offset, s)).toArray[·]?) _ qs z.cells cs zv.cells hqs (fun p q hf => by
      obtain ⟨fd, h1, hf⟩ := Option.bind_eq_some_iff.1 hf
      obtain ⟨n, h2, hf⟩ := Option.bind_eq_some_iff.1 hf
      obtain ⟨x, h3, hf⟩ := Option.bind_eq_some_iff.1 hf
      cases hf
      refine ⟨?_, h3⟩
      obtain ⟨hl, hg⟩ := mapM_get hsz
      have hlt : p.1 < fs.toList.length := by simpa using (Array.getElem?_eq_some_iff.1 h1).1
      have hs : szs[p.1]? = some n := by
        have hx : szs[p.1]? = some (szs[p.1]'(by omega)) := List.getElem?_eq_getElem _
        have := hg p.1 fd _ (by simpa using h1) hx
        rw [h2] at this; rw [hx, Option.some.inj this]
      have hf' : fs.toList[p.1]? = some fd := by simpa using h1
      have hzip : (fs.toList.zip szs)[p.1]? = some (fd, n) := List.getElem?_zip_eq_some.2 ⟨hf', hs⟩
      show ((fs.toList.zip szs).map fun (f, s) => (f.offset, s)).toArray[p.1]? = some (fd.offset, n)
      rw [List.getElem?_toArray, List.getElem?_map, hzip]; rfl) hz2 hcs
    refine ⟨.agg c', ?_, mkAgg_va h2⟩
    simp only [Instr.build, Sem.run_bind, hz1, Result.andThen_ok, run_underlying hu, hpl, h1, Sem.run_pure]
  · rename_i len e hu
    simp only [Option.bind_eq_bind] at hc
    obtain ⟨z, hz, hc⟩ := Option.bind_eq_some_iff.1 hc
    obtain ⟨n, hn, hc⟩ := Option.bind_eq_some_iff.1 hc
    obtain ⟨qs, hqs, hc⟩ := Option.bind_eq_some_iff.1 hc
    cases hc
    simp only [astep] at hs
    obtain ⟨cs, hcs, hs⟩ := Option.map_eq_some_iff.1 hs
    cases hs
    refine ⟨rfl, ?_⟩
    obtain ⟨zv, hz1, _, hz2⟩ := zero_cells hz (zeroT_notTup hz) w R ι (mark S.heap)
    obtain ⟨c', h1, h2⟩ := parts (fun i => some (i * n, n)) _ qs z.cells cs zv.cells hqs (fun p q hf => by
      obtain ⟨x, h3, hf⟩ := Option.bind_eq_some_iff.1 hf
      cases hf
      exact ⟨rfl, h3⟩) hz2 hcs
    refine ⟨.agg c', ?_, mkAgg_va h2⟩
    simp only [Instr.build, Sem.run_bind, hz1, Result.andThen_ok, run_underlying hu, sizeT_run hn, h1, Sem.run_pure]
  · cases hc
def RowA (w : World) (R : Nat → Prop) (ι : Inj) (mk : Nat → Option Nat) (n : Nat) (es : List AV) (c : Array Value) : Prop :=
  c.size = es.length * n ∧ ∀ (i : Nat) (e : AV), es[i]? = some e → ∀ (j : Nat) (x : AV), e.cells[j]? = some x → x.cell = true ∧ ∃ q, c[i * n + j]? = some q ∧ VA w R ι mk x q
theorem zeros_row {mk : Nat → Option Nat} {z : AV} {zc : Array Value} {n : Nat} (hz : CellsA w R ι mk z.cells zc) (hn : z.size = n) (h0 : 0 < n) (k : Nat) :
    RowA w R ι mk n (List.replicate k z) ((Array.range (k * n)).map (zc[· % zc.size]!)) := by
  have hzs : zc.size = n := by rw [hz.1, AV.size_cells, hn]
  refine ⟨by simp, fun i e hi j x hj => ?_⟩
  have hik : i < k := by have := (List.getElem?_eq_some_iff.1 hi).1; simpa using this
  rw [List.getElem?_replicate, if_pos hik] at hi
  cases hi
  obtain ⟨k1, q, k2, k3⟩ := hz.2 j x hj
  have hjn : j < n := by rw [← hzs]; exact (Array.getElem?_eq_some_iff.1 k2).1
  refine ⟨k1, q, ?_, k3⟩
  have hlt : i * n + j < k * n := by
    have : (i + 1) * n ≤ k * n := Nat.mul_le_mul_right _ hik
    rw [Nat.succ_mul] at this; omega
  rw [Array.getElem?_map, Array.getElem?_range, if_pos hlt]
  simp only [Option.map_some, Option.some.injEq]
  rw [hzs, Nat.mul_comm i n, Nat.mul_add_mod, Nat.mod_eq_of_lt hjn]
  simp [getElem!_def, k2]
theorem RowA.lay {mk : Nat → Option Nat} {n : Nat} {es : List AV} {c : Array Value} (h : RowA w R ι mk n es c) (hsz : ∀ e ∈ es, e.size = n) {v : AV} {u : Value} (hv : VA w R ι mk v u) (ht : isTup v = false) (hvn : v.size = n) {i : Nat} (hi : i < es.length) :
    RowA w R ι mk n (es.set i v) (u.cells.zipIdx.foldl (fun cs (x, j) => cs.setIfInBounds (i * n + j) x) c) := by
  obtain ⟨h1, h2⟩ := hv.cells ht
  have hb : i * n + u.cells.size ≤ c.size := by
    have : (i + 1) * n ≤ es.length * n := Nat.mul_le_mul_right _ hi
    rw [Nat.succ_mul] at this; rw [h.1]; omega
  have hjb : ∀ {e : AV} {j : Nat} {x : AV}, e.size = n → e.cells[j]? = some x → j < n := fun {e j x} he hj => by
    have := (List.getElem?_eq_some_iff.1 hj).1; rw [AV.size_cells, he] at this; exact this
  refine ⟨?_, fun k e hk j x hj => ?_⟩
  · have e : u.cells.zipIdx.foldl (fun cs (x, j) => cs.setIfInBounds (i * n + j) x) c = (u.cells.toList.zipIdx 0).foldl (fun cs p => cs.setIfInBounds (i * n + p.2) p.1) c := by
      rw [← Array.foldl_toList]; simp
    rw [e, lay_size, h.1, List.length_set]
  · rw [lay_array u _ c hb]
    rw [List.getElem?_set] at hk
    by_cases hik : i = k
    · subst hik
      rw [if_pos rfl, if_pos hi] at hk
      cases hk
      have := hjb hvn hj
      rw [if_pos ⟨by omega, by omega⟩, show i * n + j - i * n = j by omega]
      exact h2 j x hj
    · rw [if_neg hik] at hk
      have hjn := hjb (hsz e (List.mem_of_getElem? hk)) hj
      rw [if_neg]
      · exact h.2 k e hk j x hj
      · rintro ⟨g1, g2⟩
        rcases Nat.lt_or_gt_of_ne hik with hlt | hgt
        · have : (i + 1) * n ≤ k * n := Nat.mul_le_mul_right _ hlt
          rw [Nat.succ_mul] at this; omega
        · have : (k + 1) * n ≤ i * n := Nat.mul_le_mul_right _ hgt
          rw [Nat.succ_mul] at this; omega
theorem unX_va {mk : Nat → Option Nat} {v : AV} {u : Value} (h : VA w R ι mk v u) : VA w R ι mk (unX v) u := by
  have one : ∀ {v : AV} {u : Value}, VA w R ι mk v u → VA w R ι mk (unX0 v) u := fun {v u} h => by
    cases v with
    | xsl es => cases h with | xsl h => exact .d h
    | _ => exact h
  cases v with
  | xsl es => cases h with | xsl h => exact .d h
  | agg cs =>
    cases h with
    | agg hl hc hh =>
      simp only [unX, unXL_map]
      refine VA.mkAgg (by simpa using hl) (fun c hm => ?_) fun i c q h1 h2 => ?_
      · obtain ⟨y, hy, rfl⟩ := List.mem_map.1 hm
        have := hc y hy
        cases y <;> simp_all [unX0, AV.cell, D.cell]
      · rw [List.getElem?_map] at h1
        obtain ⟨y, hy, rfl⟩ := Option.map_eq_some_iff.1 h1
        exact one (hh i y q hy h2)
  | _ => exact h
theorem fillE_ok {mk : Nat → Option Nat} {n : Nat} : ∀ {ps : List (Nat × Value)} {qs : List (Nat × AV)} {es cs : List AV} {c : Array Value}, RowA w R ι mk n es c → (∀ e ∈ es, e.size = n) → qs.length = ps.length →
    (∀ (k i : Nat) (u : Value) (i' : Nat) (v : AV), ps[k]? = some (i, u) → qs[k]? = some (i', v) → i = i' ∧ VA w R ι mk v u) → (∀ q ∈ qs, q.2.size = n) → fillE es qs = some cs →
    ∃ c', Instr.fill (fun i => some (i * n, n)) c ps = some c' ∧ RowA w R ι mk n cs c' ∧ (∀ e ∈ cs, e.size = n) ∧ cs.length = es.length := by
  intro ps
  induction ps with
  | nil =>
    intro qs es cs c h hsz hl _ _ hf
    have : qs = [] := List.length_eq_zero_iff.1 hl
    subst this
    simp only [fillE, Option.some.injEq] at hf; subst hf
    exact ⟨c, rfl, h, hsz, rfl⟩
  | cons p ps ih =>
    intro qs es cs c h hsz hl hp hqn hf
    obtain ⟨i, u⟩ := p
    cases qs with
    | nil => simp at hl
    | cons q qs =>
      obtain ⟨i', v⟩ := q
      simp only [fillE] at hf
      split at hf
      · rename_i hh
        obtain ⟨rfl, h2⟩ := hp 0 i u i' v rfl rfl
        have hvn : v.size = n := hqn (i, v) (.head _)
        have hsz1 := (h2.cells hh.2).1
        have hlay := h.lay hsz (unX_va h2) (unX_tup hh.2) ((unX_size v).trans hvn) hh.1
        obtain ⟨c', h3, h4, h5, h6⟩ := ih hlay (fun e he => by
          rcases List.mem_or_eq_of_mem_set he with he | rfl
          · exact hsz e he
          · exact (unX_size v).trans hvn) (by simpa using hl) (fun k i u i' v k1 k2 => hp (k + 1) i u i' v (by simpa using k1) (by simpa using k2)) (fun q hq => hqn q (.tail _ hq)) hf
        refine ⟨c', ?_, h4, h5, by rw [h6, List.length_set]⟩
        have hb : i * n + u.cells.size ≤ c.size := by
          have : (i + 1) * n ≤ es.length * n := Nat.mul_le_mul_right _ hh.1
          rw [Nat.succ_mul] at this; rw [h.1]; omega
        simp only [Instr.fill]
        rw [if_neg (by simp; omega)]
        exact h3
      · cases hf
theorem RowA.data {mk : Nat → Option Nat} {n : Nat} {ds : List D} {c : Array Value} (h : RowA w R ι mk n (ds.map .d) c) (i : Nat) (e : D) (hi : ds[i]? = some e) (j : Nat) (x : D) (hj : e.cells[j]? = some x) :
    x.cell = true ∧ ∃ q, c[i * n + j]? = some q ∧ Rd w R (.v x q) := by
  obtain ⟨k1, q, k2, k3⟩ := h.2 i (.d e) (by simp [hi]) j (.d x) (by simp [AV.cells, hj])
  exact ⟨k1, q, k2, k3.of_d⟩
theorem Rel.newData (h : Rel C S a w ι R) {n : Nat} {ds : List D} {c : Array Value} (T : TypeId) (hrow : RowA w R ι (mark S.heap) n (ds.map .d) c) (hn : 0 < n) (hsz : ∀ e ∈ ds, e.size = n) (hL : ds.length ≤ LIM) :
    Rel C S a (w.alloc (.cells c T)) ι (fun b => R b ∨ b = w.heap.size) ∧
    VA (w.alloc (.cells c T)) (fun b => R b ∨ b = w.heap.size) ι (mark S.heap) (.xsl ds) (.slice (some ⟨w.heap.size, 0, none⟩) ds.length ds.length) := by
  refine ⟨h.newRO _, .xsl ?_⟩
  have hb := heap_alloc_new w (.cells c T)
  by_cases h0 : ds = []
  · subst h0; exact .sl0
  · refine .sl (.inr rfl) h0 hn hL (Nat.le_refl _) hsz fun i e hi => Rd.el_of_cells (fun vs hvs => ?_) fun j x hj => ?_
    · subst hvs
      have := (hrow.data i _ hi 0 (.tup vs) rfl).1
      simp [D.cell] at this
    · obtain ⟨k1, q, k2, k3⟩ := hrow.data i e hi j x hj
      refine ⟨k1, q, ?_, k3.mono_v (fun _ h => .inl h) (Keeps.alloc h _)⟩
      rw [cell_of hb, Nat.zero_add]; exact k2
theorem Rel.newOwn (h : Rel C S a w ι R) {n o : Nat} {es : List AV} {c : Array Value} (T : TypeId) (hu : unref o S) (hrow : RowA w R ι (mark S.heap) n es c) (hn : 0 < n) (hsz : ∀ e ∈ es, e.size = n) (hL : es.length ≤ LIM) (hr : ∀ e ∈ es, e.refs o = false) :
    Rel C ⟨S.env, setAt o (.row es) S.heap⟩ a (w.alloc (.cells c T)) (upd ι o (w.heap.size, n)) R ∧
    VA (w.alloc (.cells c T)) R (upd ι o (w.heap.size, n)) (mark (setAt o (.row es) S.heap)) (.osl o 0 es.length) (.slice (some ⟨w.heap.size, 0, none⟩) es.length es.length) := by
  refine ⟨h.newRow T hu hn hsz (by rw [hrow.1]; exact Nat.le_refl _) hr hrow.2, ?_⟩
  have := VA.osl (w := w.alloc (.cells c T)) (R := R) (ι := upd ι o (w.heap.size, n)) (mk := mark (setAt o (.row es) S.heap)) (o := o) (off := 0) (len := es.length) (cap := es.length) upd_same (by rw [mark_setAt]) (heap_alloc_new w _) (Nat.le_refl _) (by rw [hrow.1]; simp) hL
  simpa using this
end Go.Sim

namespace Go.Sim
open Go (World Value Addr TypeId Act)
variable {P : Program} {C : Ctx} {S : St} {a : Act} {w : World} {ι : Inj} {R : Nat → Prop}
theorem leavesL_cons {f : Field} {fs : List Field} {n off : Nat} {d : Nat} {ls : List (Nat × Nat)} (h : leavesL P n (leaves P d) off (f :: fs) = some ls) :
    f.name ≠ "_" ∧ ∃ m l1 l2, sizeT P f.type = some m ∧ f.offset + m ≤ n ∧ m ≠ 0 ∧ leaves P d f.type (off + f.offset) = some l1 ∧ leavesL P n (leaves P d) off fs = some l2 ∧ ls = l1 ++ l2 := by
  simp only [leavesL] at h
  split at h
  · rename_i m h1
    split at h
    · rename_i hc
      obtain ⟨l1, h2, h⟩ := Option.bind_eq_some_iff.1 h
      obtain ⟨l2, h3, rfl⟩ := Option.map_eq_some_iff.1 h
      exact ⟨hc.1, m, l1, l2, h1, hc.2.1, hc.2.2, h2, h3, rfl⟩
    · cases h
  · cases h
def valAt (ag : Bool) (n off : Nat) (X : Array Value) : Value := if ag then .agg (X.extract off (off + n)) else X.getD off Go.undef
def leafEq (X Y : Array Value) (l : Nat × Nat) : Option Bool :=
  match l.2, X[l.1]?, Y[l.1]? with
  | 0, some (.int k x), some (.int k' y) => if k = k' then some (x == y) else none
  | 1, some (.bool x), some (.bool y) => some (x == y)
  | 2, some (.string x), some (.string y) => some (x == y)
  | _, _, _ => none
def leavesEq (X Y : Array Value) : List (Nat × Nat) → Option Bool
  | [] => some true
  | l :: ls => (leafEq X Y l).bind fun x => (leavesEq X Y ls).map (x && ·)
theorem leavesEq_append {X Y : Array Value} {l1 l2 : List (Nat × Nat)} : ∀ {r : Bool}, leavesEq X Y (l1 ++ l2) = some r → ∃ r1 r2, leavesEq X Y l1 = some r1 ∧ leavesEq X Y l2 = some r2 ∧ r = (r1 && r2) := by
  induction l1 with
  | nil => intro r h; exact ⟨true, r, rfl, h, by simp⟩
  | cons l ls ih =>
    intro r h
    simp only [List.cons_append, leavesEq] at h
    obtain ⟨x, hx, h⟩ := Option.bind_eq_some_iff.1 h
    obtain ⟨y, hy, rfl⟩ := Option.map_eq_some_iff.1 h
    obtain ⟨r1, r2, h1, h2, rfl⟩ := ih hy
    exact ⟨x && r1, r2, by simp [leavesEq, hx, h1], h2, by simp [Bool.and_assoc]⟩
theorem part_at {t : TypeId} {ag : Bool} {n m off o : Nat} {X : Array Value} (hag : isAggT P t = some ag) (hm : sizeT P t = some m) (ho : o + m ≤ n) (hX : off + n ≤ X.size) (h0 : m ≠ 0) :
    (part t (X.extract off (off + n)) o).run P w = .ok (valAt ag m (off + o) X) w := by
  unfold part valAt
  simp only [Sem.run_bind, isAggT_run hag, Result.andThen_ok]
  cases ag with
  | true =>
    simp only [if_true, Sem.run_bind, sizeT_run hm, Result.andThen_ok, Sem.run_pure]
    congr 2
    rw [Array.extract_extract]
    congr 1
    all_goals omega
  | false =>
    have h1 : (X.extract off (off + n))[o]? = some (X.getD (off + o) Go.undef) := by
      rw [Array.getElem?_extract_of_lt (by omega)]
      simp [Array.getD_eq_getD_getElem?, show off + o < X.size by omega]
    simp [h1]
theorem eqLeaf_bool {t : TypeId} (hu : P.underlying t = some .bool) (k : Nat) (x y : Bool) : (Op.equalIn (k + 1) t (.bool x) (.bool y)).run P w = .ok (x == y) w := by
  unfold Op.equalIn
  simp only [Sem.run_bind, run_underlying hu, Result.andThen_ok, Sem.run_pure]
theorem eqLeaf_int {t : TypeId} {kk : IntKind} (hu : P.underlying t = some (.int kk)) (k : Nat) (j : IntKind) (x y : Int) : (Op.equalIn (k + 1) t (.int j x) (.int j y)).run P w = .ok (x == y) w := by
  unfold Op.equalIn
  simp only [Sem.run_bind, run_underlying hu, Result.andThen_ok, if_true, Sem.run_pure]
theorem eqLeaf_string {t : TypeId} (hu : P.underlying t = some .string) (k : Nat) (x y : ByteArray) : (Op.equalIn (k + 1) t (.string x) (.string y)).run P w = .ok (x == y) w := by
  unfold Op.equalIn
  simp only [Sem.run_bind, run_underlying hu, Result.andThen_ok, Sem.run_pure]
theorem leafEq_inv {X Y : Array Value} {l k : Nat} {r : Bool} (h : leafEq X Y (l, k) = some r) :
    (k = 0 ∧ ∃ j x y, X.getD l Go.undef = .int j x ∧ Y.getD l Go.undef = .int j y ∧ r = (x == y)) ∨ (k = 1 ∧ ∃ x y, X.getD l Go.undef = .bool x ∧ Y.getD l Go.undef = .bool y ∧ r = (x == y)) ∨
    (k = 2 ∧ ∃ x y, X.getD l Go.undef = .string x ∧ Y.getD l Go.undef = .string y ∧ r = (x == y)) := by
  unfold leafEq at h
  simp only [Array.getD_eq_getD_getElem?]
  split at h
  · rename_i h1 h2 h3
    simp only at h1 h2 h3
    split at h
    · rename_i e; subst e; cases h; exact .inl ⟨h1, _, _, _, by rw [h2]; rfl, by rw [h3]; rfl, rfl⟩
    · cases h
  · rename_i h1 h2 h3
    simp only at h1 h2 h3
    cases h; exact .inr (.inl ⟨h1, _, _, by rw [h2]; rfl, by rw [h3]; rfl, rfl⟩)
  · rename_i h1 h2 h3
    simp only at h1 h2 h3
    cases h; exact .inr (.inr ⟨h1, _, _, by rw [h2]; rfl, by rw [h3]; rfl, rfl⟩)
  · cases h
theorem forIn_all {α : Type} (body : α → Option Bool × PUnit → Sem (ForInStep (Option Bool × PUnit))) (res : α → Bool) : ∀ (l : List α), (∀ x ∈ l, (body x (none, ())).run P w = .ok (if res x = true then .yield (none, ()) else .done (some false, ())) w) →
    (forIn l (none, ()) body).run P w = .ok (if l.all res = true then (none, ()) else (some false, ())) w := by
  intro l
  induction l with
  | nil => intro _; simp
  | cons x l ih =>
    intro h
    rw [List.forIn_cons, Sem.run_bind, h x (.head _)]
    cases hr : res x with
    | true => simp [ih fun y hy => h y (.tail _ hy), hr]
    | false => simp [hr]
theorem equalIn_ok {X Y : Array Value} (hXY : X.size = Y.size) : ∀ (d : Nat) (t : TypeId) (off n : Nat) (ls : List (Nat × Nat)) (r : Bool) (D' : Nat), d ≤ D' → leaves P d t off = some ls → sizeT P t = some n → n ≠ 0 → off + n ≤ X.size → leavesEq X Y ls = some r →
    ∃ ag, isAggT P t = some ag ∧ (Op.equalIn D' t (valAt ag n off X) (valAt ag n off Y)).run P w = .ok r w := by
  intro d
  induction d with
  | zero => intro t off n ls r D' _ h; simp [leaves] at h
  | succ d ih =>
    intro t off n ls r D' hD h hn h0 hb hr
    obtain ⟨D'', rfl⟩ : ∃ k, D' = k + 1 := ⟨D' - 1, by omega⟩
    simp only [leaves] at h
    have one : ∀ {k : Nat}, ls = [(off, k)] → leafEq X Y (off, k) = some r := fun e => by
      subst e
      simp only [leavesEq, Option.map_some] at hr
      obtain ⟨x, hx, hr⟩ := Option.bind_eq_some_iff.1 hr
      simp only [Bool.and_true, Option.some.injEq] at hr
      rw [hx, hr]
    split at h
    · rename_i hu
      have h1 := leafEq_inv (one (by cases h; rfl))
      refine ⟨false, by simp [isAggT, hu], ?_⟩
      rcases h1 with ⟨h1, _⟩ | ⟨_, x, y, h1, h2, rfl⟩ | ⟨h1, _⟩
      · cases h1
      · simp only [valAt, Bool.false_eq_true, if_false, h1, h2]; exact eqLeaf_bool hu _ _ _
      · cases h1
    · rename_i hu
      have h1 := leafEq_inv (one (by cases h; rfl))
      refine ⟨false, by simp [isAggT, hu], ?_⟩
      rcases h1 with ⟨_, j, x, y, h1, h2, rfl⟩ | ⟨h1, _⟩ | ⟨h1, _⟩
      · simp only [valAt, Bool.false_eq_true, if_false, h1, h2]; exact eqLeaf_int hu _ _ _ _
      · cases h1
      · cases h1
    · rename_i hu
      have h1 := leafEq_inv (one (by cases h; rfl))
      refine ⟨false, by simp [isAggT, hu], ?_⟩
      rcases h1 with ⟨h1, _⟩ | ⟨h1, _⟩ | ⟨_, x, y, h1, h2, rfl⟩
      · cases h1
      · cases h1
      · simp only [valAt, Bool.false_eq_true, if_false, h1, h2]; exact eqLeaf_string hu _ _ _
    · rename_i fs hu
      rw [hn] at h
      simp only at h
      split at h
      · cases h
      · rename_i hst
        refine ⟨true, by simp [isAggT, hu], ?_⟩
        unfold Op.equalIn
        simp only [valAt, if_true, Sem.run_bind, run_underlying hu, Result.andThen_ok, run_program, hst, Bool.false_eq_true, if_false]
        have key : ∀ (l : List Field) (ls : List (Nat × Nat)) (r : Bool), leavesL P n (leaves P d) off l = some ls → leavesEq X Y ls = some r → ∃ res : Field → Bool,
            (∀ f ∈ l, f.name ≠ "_" ∧ ∃ ag m, isAggT P f.type = some ag ∧ sizeT P f.type = some m ∧ m ≠ 0 ∧ f.offset + m ≤ n ∧ ∃ q, (Op.equalIn D'' f.type (valAt ag m (off + f.offset) X) (valAt ag m (off + f.offset) Y)).run P w = .ok q w) ∧
            r = l.all (fun f => match isAggT P f.type, sizeT P f.type with | some ag, some m => (match (Op.equalIn D'' f.type (valAt ag m (off + f.offset) X) (valAt ag m (off + f.offset) Y)).run P w with | .ok q _ => q | _ => false) | _, _ => false) := by
          intro l
          induction l with
          | nil => intro ls r h1 h2; simp [leavesL] at h1; subst h1; simp [leavesEq] at h2; subst h2; exact ⟨fun _ => true, by simp, by simp⟩
          | cons f l ihl =>
            intro ls r h1 h2
            obtain ⟨k0, m, l1, l2, k1, k2, k3, k4, k5, rfl⟩ := leavesL_cons h1
            obtain ⟨r1, r2, k6, k7, rfl⟩ := leavesEq_append h2
            obtain ⟨_, k8, k9⟩ := ihl l2 r2 k5 k7
            obtain ⟨ag, k10, k11⟩ := ih f.type (off + f.offset) m l1 r1 D'' (by omega) k4 k1 k3 (by omega) k6
            refine ⟨fun _ => true, fun g hg => ?_, ?_⟩
            · cases hg with
              | head => exact ⟨k0, ag, m, k10, k1, k3, k2, r1, k11⟩
              | tail _ hg => exact k8 g hg
            · rw [List.all_cons, ← k9]
              simp only [k10, k1, k11]
        obtain ⟨_, k1, k2⟩ := key fs.toList ls r h hr
        rw [← Array.forIn_toList]
        rw [forIn_all _ (fun f => match isAggT P f.type, sizeT P f.type with | some ag, some m => (match (Op.equalIn D'' f.type (valAt ag m (off + f.offset) X) (valAt ag m (off + f.offset) Y)).run P w with | .ok q _ => q | _ => false) | _, _ => false) fs.toList fun f hf => ?_]
        · rw [← k2]
          cases r <;> simp
        · obtain ⟨k0, ag, m, k3, k4, k5, k6, q, k7⟩ := k1 f hf
          rw [if_pos k0]
          simp only [Sem.run_bind, part_at k3 k4 k6 hb k5, part_at k3 k4 k6 (by rw [← hXY]; exact hb) k5, Result.andThen_ok, k7, k3, k4]
          cases q <;> simp
    · rename_i len e hu
      rw [hn] at h
      split at h
      · rename_i n' m hn' he
        cases hn'
        split at h
        · cases h
        · rename_i hc
          have hm0 : m ≠ 0 := fun h => hc (.inl h)
          have hlen : len * m = n := Classical.byContradiction fun h => hc (.inr h)
          refine ⟨true, by simp [isAggT, hu], ?_⟩
          unfold Op.equalIn
          simp only [valAt, if_true, Sem.run_bind, run_underlying hu, Result.andThen_ok, sizeT_run he]
          have key : ∀ (k base : Nat) (ls : List (Nat × Nat)) (r : Bool), leavesA m (leaves P d e) (off + base * m) k = some ls → leavesEq X Y ls = some r → base + k = len →
              (∀ i ∈ List.range' base k, ∃ ag, isAggT P e = some ag ∧ ∃ q, (Op.equalIn D'' e (valAt ag m (off + i * m) X) (valAt ag m (off + i * m) Y)).run P w = .ok q w) ∧
              r = (List.range' base k).all (fun i => match isAggT P e with | some ag => (match (Op.equalIn D'' e (valAt ag m (off + i * m) X) (valAt ag m (off + i * m) Y)).run P w with | .ok q _ => q | _ => false) | _ => false) := by
            intro k
            induction k with
            | zero => intro base ls r h1 h2 _; simp [leavesA] at h1; subst h1; simp [leavesEq] at h2; subst h2; simp
            | succ k ihk =>
              intro base ls r h1 h2 hbk
              simp only [leavesA] at h1
              obtain ⟨l1, k4, h1⟩ := Option.bind_eq_some_iff.1 h1
              obtain ⟨l2, k5, rfl⟩ := Option.map_eq_some_iff.1 h1
              obtain ⟨r1, r2, k6, k7, rfl⟩ := leavesEq_append h2
              have k5' : leavesA m (leaves P d e) (off + (base + 1) * m) k = some l2 := by rw [Nat.add_mul, Nat.one_mul, ← Nat.add_assoc]; exact k5
              obtain ⟨k8, k9⟩ := ihk (base + 1) l2 r2 k5' k7 (by omega)
              have hroom : (base + 1) * m ≤ len * m := Nat.mul_le_mul_right _ (by omega)
              rw [Nat.add_mul] at hroom
              obtain ⟨ag, k10, k11⟩ := ih e (off + base * m) m l1 r1 D'' (by omega) k4 he hm0 (by omega) k6
              rw [List.range'_succ]
              refine ⟨fun i hi => ?_, ?_⟩
              · cases hi with
                | head => exact ⟨ag, k10, r1, k11⟩
                | tail _ hi => exact k8 i hi
              · rw [List.all_cons, ← k9]
                simp only [k10, k11]
          obtain ⟨k1, k2⟩ := key len 0 ls r (by simpa using h) hr (by omega)
          rw [Std.Legacy.Range.forIn_eq_forIn_range']
          rw [forIn_all _ (fun i => match isAggT P e with | some ag => (match (Op.equalIn D'' e (valAt ag m (off + i * m) X) (valAt ag m (off + i * m) Y)).run P w with | .ok q _ => q | _ => false) | _ => false) _ fun i hi => ?_]
          · simp only [Std.Legacy.Range.size, Nat.sub_zero, Nat.add_one_sub_one, Nat.div_one]
            rw [← k2]
            cases r <;> simp
          · have hi' : i ∈ List.range' 0 len := by simpa [Std.Legacy.Range.size] using hi
            obtain ⟨ag, k3, q, k7⟩ := k1 i hi'
            have hlt : i < len := by have := List.mem_range'.1 hi'; omega
            have hroom : (i + 1) * m ≤ len * m := Nat.mul_le_mul_right _ (by omega)
            rw [Nat.add_mul] at hroom
            simp only [Sem.run_bind, part_at k3 he (show i * m + m ≤ n by omega) hb hm0, part_at k3 he (show i * m + m ≤ n by omega) (show off + n ≤ Y.size by rw [← hXY]; exact hb) hm0, Result.andThen_ok, k7, k3]
            cases q <;> simp
      · cases h
    · cases h
theorem leavesEq_of {as bs : List D} {xs ys : List Value} (hx : xs.length = as.length ∧ ∀ (i : Nat) (c : D) (u : Value), as[i]? = some c → xs[i]? = some u → Rd w R (.v c u))
    (hy : ys.length = bs.length ∧ ∀ (i : Nat) (c : D) (u : Value), bs[i]? = some c → ys[i]? = some u → Rd w R (.v c u)) : ∀ {ls : List (Nat × Nat)} {r : Bool}, eqCells as bs ls = some r → leavesEq xs.toArray ys.toArray ls = some r := by
  intro ls
  induction ls with
  | nil => intro r h; simpa [eqCells, leavesEq] using h
  | cons l ls ih =>
    intro r h
    simp only [eqCells] at h
    obtain ⟨b, hb, h⟩ := Option.bind_eq_some_iff.1 h
    obtain ⟨b', hb', rfl⟩ := Option.map_eq_some_iff.1 h
    have get : ∀ {as : List D} {xs : List Value} {c : D}, (xs.length = as.length ∧ ∀ (i : Nat) (c : D) (u : Value), as[i]? = some c → xs[i]? = some u → Rd w R (.v c u)) → as[l.1]? = some c → ∃ u, xs[l.1]? = some u ∧ Rd w R (.v c u) := by
      intro as xs c h1 h2
      have hlt := (List.getElem?_eq_some_iff.1 h2).1
      exact ⟨_, List.getElem?_eq_getElem (by omega), h1.2 _ _ _ h2 (List.getElem?_eq_getElem (by omega))⟩
    have : leafEq xs.toArray ys.toArray l = some b := by
      unfold eqCell at hb
      unfold leafEq
      split at hb
      · rename_i k x k' y h1 h2 h3
        split at hb
        · rename_i e; subst e
          obtain ⟨u, k1, k2⟩ := get hx h2
          obtain ⟨u', k3, k4⟩ := get hy h3
          cases k2; cases k4
          cases hb
          simp [h1, k1, k3, Bool.beq_eq_decide_eq]
        · cases hb
      · rename_i x y h1 h2 h3
        obtain ⟨u, k1, k2⟩ := get hx h2
        obtain ⟨u', k3, k4⟩ := get hy h3
        cases k2; cases k4
        cases hb
        simp [h1, k1, k3]
      · rename_i x y h1 h2 h3
        obtain ⟨u, k1, k2⟩ := get hx h2
        obtain ⟨u', k3, k4⟩ := get hy h3
        cases k2; cases k4
        cases hb
        simp [h1, k1, k3]
        have : ((⟨x.toArray⟩ : ByteArray) == ⟨y.toArray⟩) = decide (x = y) := by
          rw [Bool.eq_iff_iff]
          show (x.toArray == y.toArray) = true ↔ _
          simp
        simpa using this
      · cases hb
    simp [leavesEq, this, ih hb']
theorem eqs_ok {o : Oper} {bop : BinOp} {t u : TypeId} {y z : Operand} {y' z' : Opd} {n : Nat} {ls : List (Nat × Nat)} {ng : Bool} {dst : Nat} {v : AV} {H' : Heap} (hop : o.op = .binOp bop t y z u) (hb : bop = if ng then .neq else .eql)
    (hl : leaves P 9 t 0 = some ls) (hag : isAggT P t = some true) (hg : P.eqGuardType P.depth t = false) (hn : sizeT P t = some n) (h0 : n ≠ 0) (hy : opd y = some y') (hz : opd z = some z') (h : Rel C S a w ι R)
    (hs : astep S.env S.heap dst (.eqs ng n ls y' z') = some (v, H')) : Good C S a v H' ((execOp a.eval o).run P w) := by
  simp only [astep] at hs
  split at hs
  · rename_i as bs h1 h2
    split at hs
    · rename_i hc
      obtain ⟨r, hr, hs⟩ := Option.map_eq_some_iff.1 hs
      cases hs
      have e1 := h.ev hy; rw [h1] at e1
      have e2 := h.ev hz; rw [h2] at e2
      generalize hav : a.eval y = av at e1
      generalize hbv : a.eval z = bv at e2
      have e1 := e1.of_d
      have e2 := e2.of_d
      cases e1 with
      | @agg _ xs hx1 _ hx2 =>
        cases e2 with
        | @agg _ ys hy1 _ hy2 =>
          have hle := leavesEq_of ⟨hx1, hx2⟩ ⟨hy1, hy2⟩ hr
          obtain ⟨ag, hag', hrun⟩ := equalIn_ok (P := P) (w := w) (X := xs.toArray) (Y := ys.toArray) (by simp; omega) 9 t 0 n ls r Op.maxDepth (by decide) hl hn h0 (by simp; omega) hle
          rw [hag] at hag'; cases hag'
          have hv : ∀ zs : List Value, zs.length = n → valAt true n 0 zs.toArray = .agg zs.toArray := fun zs hz => by
            simp only [valAt, if_true, Nat.zero_add]
            rw [← hz]; simp
          rw [hv xs (by omega), hv ys (by omega)] at hrun
          refine Good.same h (.d .bool) (u := .bool (if ng = true then !r else r)) ?_
          subst hb
          have hrun' : (Op.equal t (.agg xs.toArray) (.agg ys.toArray)).run P w = .ok r w := hrun
          cases ng <;> simp [execOp, hop, hav, hbv, eqGuard, Go.binOp, hrun', hg]
    · cases hs
  · cases hs
end Go.Sim
