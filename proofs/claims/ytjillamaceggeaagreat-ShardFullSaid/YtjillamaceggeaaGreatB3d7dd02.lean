/-
  From the calculus to the given form of a statement: a law that returns true and leaves what it was given as it was.
-/
import Derived.Test.YtjillamaceggeaaGreatBe2e79cc
import Derived.Carry
import Derived.OpenShut
import Derived.ChangeSlices
set_option linter.unusedSimpArgs false
set_option linter.unusedVariables false
namespace Go.Sim
open Go.ChangeShapes Go.WideShapes Go.RowKit
variable {P : Program} {G : FuncId → Option AFn}
theorem data_calls (hG : GOK P G) {f : FuncId} {ds : List D} {r : D} (h : callL G f (ds.map .d) [] = some (.d r, [])) {w : World} {us : List Value} (hl : us.length = ds.length)
    (hv : ∀ (i : Nat) (x : D) (u : Value), ds[i]? = some x → us[i]? = some u → Rd w (fun b => b < w.heap.size) (.v x u)) :
    Calls P f us.toArray w fun e w' => ∃ u, e = .returned u ∧ Below w.heap.size w w' ∧ ∃ R', Rd w' R' (.v r u) := by
  have h1 := (callL_ok hG f (ds.map .d) [] (.d r) [] h (by simp) (by simp)).2.1
  refine (h1 w (fun b => b < w.heap.size) (fun _ => none) us (fun b hb => hb) (by simp) (by simp) (by simp) ⟨by simpa using hl, fun i x u hx hu => ?_⟩).mono fun e w' h => ?_
  · rw [List.getElem?_map] at hx
    obtain ⟨d, hd, rfl⟩ := Option.map_eq_some_iff.1 hx
    exact .d (hv i d u hd hu)
  · obtain ⟨u, ι', R', h1, h2, h3, h4, h5, _, h6, _, _, _, _, _, _, h7⟩ := h
    refine ⟨u, h1, ⟨h2, h3, h4, h5, fun k hk => h6 k hk (by simp)⟩, R', ?_⟩
    cases h7 with
    | d h7 => exact h7
section
variable {H : Type} {enc : TypeId × Value → H}
theorem trodAll_below (hl : laidOutB P = true) {W W' : World} (hb : Below W.heap.size W W') : ∀ {ts : List TypeId} {vs : List Value} {ds : List (DataW H)} {ps : List MemPlace},
    (∀ t ∈ ts, P.readableRec t = true ∧ t < P.types.size) → DataW.TrodAll enc P W 0 (fun _ => true) true ts vs ds ps → (∀ x ∈ ps, x.block < W.heap.size) → DataW.TrodAll enc P W' 0 (fun b => decide (b < W.heap.size)) true ts vs ds ps
  | [], [], [], _, _, h, _ => h
  | _ :: _, _ :: _, _ :: _, _, ht, ⟨p, q, h1, h2, e⟩, hlt =>
    ⟨p, q, Below.trod hl (ht _ (.head _)).1 (ht _ (.head _)).2 h1 hb (fun x hx => hlt x (by rw [e]; exact List.mem_append_left _ hx)),
      trodAll_below hl hb (fun t h => ht t (.tail _ h)) h2 (fun x hx => hlt x (by rw [e]; exact List.mem_append_right _ hx)), e⟩
theorem post_true {f : Func} {s : ChangeSpec} {W W' : World} {args : Array Value} {ds gs : List (DataW H)} {before : List MemPlace} {tb : TypeId} (hres : f.resultTypes = #[tb]) (htb : P.underlying tb = some .bool) (hl : laidOutB P = true)
    (ht : ∀ t ∈ f.params.toList, P.readableRec t = true ∧ t < P.types.size) (hW : DataW.Whole enc P f.params.toList s.vars false W args.toList ds gs before) (hv : s.vars = [])
    (hs : s.fn H (ds ++ gs) = { results := [.lit (.bool true)], args := ds }) (hb : Below W.heap.size W W') : s.post enc P f false true false false W args (.bool true) W' := by
  have hlt : ∀ x ∈ before, x.block < W.heap.size := fun x hx => by simpa using hW.lt x hx
  obtain ⟨p, q, hA, hV, e, hfz, hnd⟩ := hW
  have hV0 := hV
  rw [hv] at hV0
  obtain ⟨rfl, rfl⟩ := trodVars_none hV0
  refine ⟨ds, [], before, [], p, [], ⟨p, [], hA, hV, e, hfz, hnd⟩, ?_, ?_, ?_, hb.frame _, fun h => by cases h⟩
  · rw [hs, hres]
    exact trodAll_mk1 (shut_bool htb _)
  · rw [hs]
    exact trodAll_below hl hb ht hA (fun x hx => hlt x (by rw [e]; exact List.mem_append_left _ hx))
  · rw [hs, hv]; rfl
end
theorem wf_has {k : IntKind} {n : Int} (h : (Lit.int k n).wf = true) : k.has n := by
  simp only [Lit.wf, Bool.and_eq_true, decide_eq_true_eq] at h
  simp [IntKind.has, h]
theorem rd_ints {W : World} {k : IntKind} {a : Addr} {len cap : Nat} {zs : List Int} (hl : len ≤ cap) (hlen : len ≤ zs.length) (hL : len ≤ LIM) (hc : ∀ i, i < zs.length → W.cell? (a.add i) = some (.int k (zs.getD i 0))) (hw : ∀ n ∈ zs, (Lit.int k n).wf = true) :
    Rd W (fun b => b < W.heap.size) (.v (.sl ((zs.take len).map (.int k))) (.slice (some a) len cap)) := by
  by_cases h0 : len = 0
  · subst h0; exact .sl0
  · have hsp : a.spot = none := by
      have := World.cell?_spot (hc 0 (by omega))
      unfold Addr.add at this
      split at this <;> simp_all
    obtain ⟨b, off, sp⟩ := a
    simp only at hsp
    subst hsp
    have hcell : ∀ i, i < zs.length → W.cell? ⟨b, off + i, none⟩ = some (.int k (zs.getD i 0)) := fun i hi => by
      have := hc i hi
      unfold Addr.add at this
      split at this
      · rename_i h; subst h; exact this
      · exact this
    have hlen2 : ((zs.take len).map (D.int k)).length = len := by simp; omega
    have := Rd.sl (w := W) (R := fun b => b < W.heap.size) (es := (zs.take len).map (D.int k)) (b := b) (off := off) (s := 1) (cap := cap) (World.block_lt_of_cell? W _ (hcell 0 (by omega)))
      (by intro h; rw [h] at hlen2; simp at hlen2; omega) (by omega) (by omega) (by omega) (fun e he => by obtain ⟨n, _, rfl⟩ := List.mem_map.1 he; rfl) (fun i e hi => by
        rw [List.getElem?_map] at hi
        obtain ⟨n, hn, rfl⟩ := Option.map_eq_some_iff.1 hi
        rw [List.getElem?_take] at hn
        split at hn
        · rename_i hi2
          have hn2 : zs.getD i 0 = n := by simp [hn]
          refine .elc rfl ?_ (.int (wf_has (hw n (List.mem_of_getElem? hn))))
          rw [Nat.mul_one, hcell i (by omega), hn2]
        · cases hn)
    rw [hlen2] at this
    exact this
end Go.Sim
