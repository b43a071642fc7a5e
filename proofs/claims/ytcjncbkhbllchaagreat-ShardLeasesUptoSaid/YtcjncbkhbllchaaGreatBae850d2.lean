/-
  slices.Insert at api.Lease, walked at the model.
  slices.Delete at api.Lease, walked at the model.
-/
import Derived.Test.YtcjncbkhbllchaaGreatB384d7d9
import Derived.Test.YtcjncbkhbllchaaGreatProg
set_option linter.unusedSimpArgs false
set_option linter.unusedVariables false
namespace Go.Proofs.YtcjncbkhbllchaaGreat
open Go.RowKit Go.Lib Go.Sim
set_option maxHeartbeats 4000000 in
set_option maxRecDepth 100000 in
theorem ins_Lease_shift (b n c i vb voff vc : Nat) (C A : Array Value) (T TA : TypeId) (f : Nat × Nat) (cs vs : List Value) (w : World) (hb : w.heap[b]? = some (.cells C T (0, 0))) (hA : w.heap[vb]? = some (.cells A TA f)) (hvb : vb ≠ b)
    (hi : i < n) (hroom : n + 1 ≤ c) (hcC : c * 8 ≤ C.size) (hn : n ≤ 4294967296) (hcl : cs.length = n * 8) (hvl : vs.length = 8)
    (hcs : ∀ (j : Nat) (v : Value), cs[j]? = some v → C[j]? = some v) (hvs : ∀ (j : Nat) (v : Value), vs[j]? = some v → A[voff + j]? = some v) (h1c : ∀ v ∈ cs, v.oneCell' = true) (h1v : ∀ v ∈ vs, v.oneCell' = true) :
    Calls Tryz.prog 151 #[.slice (some ⟨b, 0, none⟩) n c, .int .i64 i, .slice (some ⟨vb, voff, none⟩) 1 vc] w fun e w' =>
      e = .returned (.slice (some ⟨b, 0, none⟩) (n + 1) c) ∧ w' = (w.drew.setCells b ((i + 1) * 8) (cs.drop (i * 8))).setCells b (i * 8) vs := by
  have uS := run_underlying Tryz.underlying28
  have hsz : (Tryz.prog.info? 46).map (·.size) = some 8 := by kernel_rfl
  have hzE : ∀ w, (Go.sizeOf 46).run Tryz.prog w = .ok 8 w := fun w => by kernel_rfl
  have hlt := (Array.getElem?_eq_some_iff.1 hA).1
  have hC0 : C.size ≠ 0 := by omega
  have hA0 : A.size ≠ 0 := by
    have := hvs 0 (vs[0]'(by omega)) (by simp)
    have := (Array.getElem?_eq_some_iff.1 this).1
    omega
  have hov : ∀ lb cb, (callFunc 182 #[.slice (some ⟨vb, voff, none⟩) 1 vc, .slice (some ⟨b, (i + 1) * 8, none⟩) lb cb]).run Tryz.prog w = .ok (.value (.bool false)) w := fun lb cb => by
    rw [run_callFunc_extern Tryz.func182 (by kernel_rfl) (by kernel_rfl) (by kernel_rfl) (e := Extern.SlicesOverlaps.overlaps #[28, 28] #[4]) (by kernel_rfl),
      overlaps_run w 28 4 46 Tryz.underlying28 8 hzE ⟨vb, voff, none⟩ ⟨b, (i + 1) * 8, none⟩ 1 vc lb cb hvb hA hb hC0 hA0]
    rfl
  have hdl : (cs.drop (i * 8)).length = (n - i) * 8 := by rw [List.length_drop, hcl]; omega
  have hw1 : IntKind.i64.wrap ((i : Int) + 1) = (i : Int) + 1 := by rw [IntKind.wrap_i64]; omega
  have hw2 : IntKind.i64.wrap ((n : Int) + 1) = (n : Int) + 1 := by rw [IntKind.wrap_i64]; omega
  have hcell : ∀ (j : Nat), w.drew.cell? ⟨b, j, none⟩ = C[j]? := fun j => by show w.cell? _ = _; rw [cell_of hb]
  have hfz : ∀ (j : Nat), w.drew.frozen? ⟨b, j, none⟩ = false := fun j => by show w.frozen? _ = _; simp [World.frozen?, hb]
  have hcp1 : ∀ ty dc sc, (Builtin.copy_ #[28, 28] ty #[.slice (some ⟨b, (i + 1) * 8, none⟩) (n - i) dc, .slice (some ⟨b, i * 8, none⟩) (n + 1 - i) sc]).run Tryz.prog w.drew = .ok (goInt (Nat.min (n + 1 - i) (n - i))) (w.drew.setCells b ((i + 1) * 8) (cs.drop (i * 8))) := fun ty dc sc =>
    copy_run w.drew _ _ ty 46 8 b ((i + 1) * 8) (n - i) dc ⟨b, i * 8, none⟩ (n + 1 - i) sc (cs.drop (i * 8)) Tryz.underlying28 hsz (by rw [hdl]; simp only [Nat.min_def]; split <;> omega)
      (fun j v hj => by rw [Addr.add_lit, hcell]; exact hcs _ v (by rwa [List.getElem?_drop] at hj))
      (fun j hj => by rw [hcell, Array.getElem?_eq_getElem (by omega)]; rfl) (fun j hj => hfz _) (fun v hv => h1c v (List.mem_of_mem_drop hv))
  obtain ⟨W1, hW1⟩ : ∃ W1, W1 = w.drew.setCells b ((i + 1) * 8) (cs.drop (i * 8)) := ⟨_, rfl⟩
  have hsp1 : ∀ k, k < (n + 1) * 8 → (W1.cell? ⟨b, k, none⟩).isSome = true := fun k hk => by
    rw [hW1]
    exact setCells_some b _ _ _ (fun j hj => by rw [hcell, Array.getElem?_eq_getElem (by omega)]; rfl) _ (by rw [hcell, Array.getElem?_eq_getElem (by omega)]; rfl)
  have hcp2 : ∀ (W : World), (∀ x, W.cell? x = W1.cell? x) → (∀ x, W.frozen? x = W1.frozen? x) → ∀ ty dc, (Builtin.copy_ #[28, 28] ty #[.slice (some ⟨b, i * 8, none⟩) (n + 1 - i) dc, .slice (some ⟨vb, voff, none⟩) 1 vc]).run Tryz.prog W = .ok (goInt (Nat.min 1 (n + 1 - i))) (W.setCells b (i * 8) vs) := fun W hWc hWf ty dc =>
    copy_run W _ _ ty 46 8 b (i * 8) (n + 1 - i) dc ⟨vb, voff, none⟩ 1 vc vs Tryz.underlying28 hsz (by rw [hvl]; simp only [Nat.min_def]; split <;> omega)
      (fun j v hj => by
        rw [Addr.add_lit, hWc, hW1, World.cell?_setCells_out b _ _ _ _ (fun h _ => absurd h hvb)]
        show w.cell? _ = _
        rw [cell_of hA]
        exact hvs j v hj)
      (fun j hj => by rw [hWc]; exact hsp1 _ (by omega)) (fun j hj => by rw [hWf, hW1, World.frozen?_setCells]; exact hfz _) h1v
  rw [← hW1] at hcp1
  have hz2 : ¬ ((i : Int) = (n : Int)) := by omega
  have hb1 : (0 : Int) ≤ (i : Int) + 1 := by omega
  have hin : i ≤ n := by omega
  have htn : ((i : Int) + 1).toNat = i + 1 := by omega
  have hb2 : ¬ (c = i + 1) := by omega
  have hb3 : (i : Int) ≤ (n : Int) + 1 := by omega
  have hb4 : ¬ (c = i) := by omega
  clear hcs hvs h1c h1v hcell hfz hsp1 hA hb
  have mixed : Tryz.prog.follows .mixedOrders = true := by kernel_rfl
  go_enter Tryz.func151, Tryz.ntmps151
  go_wp2_with (simp only [hov])
  go_region_law_o (refine step_copy_st rfl _ _ 28 28 rfl _ _ (by simp [Act.eval, Act.put]) (by simp [Act.eval, Act.put]) (hcp1 _ _ _) ?_)
  go_wp2_with (at_builtin; refine wpList_copy_st _ rfl _ _ 28 28 rfl _ _ rfl rfl (hcp2 _ (fun _ => rfl) (fun _ => rfl) _ _) ?_)
  go_ret
  first | exact ⟨rfl, rfl⟩ | exact ⟨rfl, by rw [hW1]⟩
theorem ins_Lease_info : (Tryz.prog.info? 46).map (fun i => (i.zero, i.size, i.bytes)) = some (some (.agg #[.int .i64 0, .int .i64 0, .int .i64 0, .int .i64 0, .int .i64 0, .int .i64 0, .string ⟨#[]⟩, .int .i64 0]), 8, 72) := by kernel_rfl
set_option maxHeartbeats 4000000 in
set_option maxRecDepth 100000 in
theorem ins_Lease_room (b n c vb voff vc : Nat) (C A : Array Value) (T TA : TypeId) (f : Nat × Nat) (vs : List Value) (w : World) (hb : w.heap[b]? = some (.cells C T (0, 0))) (hA : w.heap[vb]? = some (.cells A TA f))
    (hroom : n + 1 ≤ c) (hcC : c * 8 ≤ C.size) (hn : n ≤ 4294967296) (hvl : vs.length = 8)
    (hvs : ∀ (j : Nat) (v : Value), vs[j]? = some v → A[voff + j]? = some v) (h1v : ∀ v ∈ vs, v.oneCell' = true) :
    Calls Tryz.prog 151 #[.slice (some ⟨b, 0, none⟩) n c, .int .i64 n, .slice (some ⟨vb, voff, none⟩) 1 vc] w fun e w' =>
      e = .returned (.slice (some ⟨b, 0, none⟩) (n + 1) c) ∧ w' = w.setCells b (n * 8) vs := by
  have uS := run_underlying Tryz.underlying28
  obtain ⟨i0, hi0, hz0, hzs, hzb⟩ := info_parts ins_Lease_info
  have hsrc : Src Tryz.prog i0.size 28 (.slice (some ⟨vb, voff, none⟩) 1 vc) 1 vs w := by
    rw [hzs]
    exact Src.ofSlice w Tryz.underlying28 ⟨vb, voff, none⟩ 1 vc vs (by omega) (fun j u hj => by rw [Addr.add_lit, cell_of hA]; exact hvs j u hj) h1v
  have hrun : ∀ ty, (Builtin.append_ #[28, 28] ty #[.slice (some ⟨b, 0, none⟩) n c, .slice (some ⟨vb, voff, none⟩) 1 vc]).run Tryz.prog w = _ := fun ty =>
    run_append_room_src w 28 28 ty 46 i0 Tryz.underlying28 hi0 b 0 n c _ 1 vs hsrc hroom (fun j hj => by rw [cell_of hb, Array.getElem?_eq_getElem (by rw [hzs]; omega)]; rfl) (fun j hj => by simp [World.frozen?, hb])
  rw [hzs] at hrun
  have mixed : Tryz.prog.follows .mixedOrders = true := by kernel_rfl
  clear hsrc hvs h1v hb hA hi0 hz0 hzs hzb
  go_enter Tryz.func151, Tryz.ntmps151
  go_wp2_with (at_builtin; refine Lib.wpList_append_run _ rfl _ _ _ _ rfl _ _ rfl rfl _ _ (hrun _) ?_)
  go_ret
  exact ⟨rfl, rfl⟩
set_option maxHeartbeats 4000000 in
set_option maxRecDepth 100000 in
theorem ins_Lease_more (base : Option Addr) (n c vb voff vc : Nat) (A : Array Value) (TA : TypeId) (f : Nat × Nat) (cs vs : List Value) (w : World) (hA : w.heap[vb]? = some (.cells A TA f))
    (hnc : n ≤ c) (hroom : c < n + 1) (hn : n ≤ 4294967296) (hcl : cs.length = n * 8) (hvl : vs.length = 8) (hnil : base = none → n = 0)
    (hcs : ∀ a, base = some a → ∀ j v, cs[j]? = some v → w.cell? (a.add j) = some v)
    (hvs : ∀ (j : Nat) (v : Value), vs[j]? = some v → A[voff + j]? = some v) (h1v : ∀ v ∈ vs, v.oneCell' = true) :
    Calls Tryz.prog 151 #[.slice base n c, .int .i64 n, .slice (some ⟨vb, voff, none⟩) 1 vc] w fun e w' =>
      e = .returned (.slice (some ⟨w.heap.size, 0, none⟩) (n + 1) (grownCap w (n + 1) c 46)) ∧
      w' = w.drew.alloc (.cells ((cs ++ vs).toArray ++ Builtin.zeroCells ((.agg #[.int .i64 0, .int .i64 0, .int .i64 0, .int .i64 0, .int .i64 0, .int .i64 0, .string ⟨#[]⟩, .int .i64 0]) : Value).cells (grownCap w (n + 1) c 46 - (n + 1))) 46) := by
  have uS := run_underlying Tryz.underlying28
  obtain ⟨i0, hi0, hz0, hzs, hzb⟩ := info_parts ins_Lease_info
  have hsrc : Src Tryz.prog i0.size 28 (.slice (some ⟨vb, voff, none⟩) 1 vc) 1 vs w := by
    rw [hzs]
    exact Src.ofSlice w Tryz.underlying28 ⟨vb, voff, none⟩ 1 vc vs (by omega) (fun j u hj => by rw [Addr.add_lit, cell_of hA]; exact hvs j u hj) h1v
  have hold : (Builtin.firstCells i0.size n (.slice base n c)).run Tryz.prog w.drew = .ok cs.toArray w.drew := by
    rw [hzs]
    cases base with
    | none =>
      have h0 := hnil rfl
      subst h0
      rw [List.length_eq_zero_iff.1 (by omega : cs.length = 0)]
      exact run_firstCells_none w.drew 8 0 0 c
    | some a => exact run_firstCells_some w.drew 8 n a n c cs (by omega) (fun j v hj => hcs a rfl j v hj)
  have hrun : ∀ ty, (Builtin.append_ #[28, 28] ty #[.slice base n c, .slice (some ⟨vb, voff, none⟩) 1 vc]).run Tryz.prog w = _ := fun ty =>
    run_append_grow_src w 28 28 ty 46 i0 _ Tryz.underlying28 hi0 hz0 base n c cs hold _ 1 vs hsrc hroom (by omega) (by rw [hzb]; exact growslice_fits hroom (by omega))
  have mixed : Tryz.prog.follows .mixedOrders = true := by kernel_rfl
  clear hsrc hvs h1v hcs hold hA hi0 hz0 hzs hzb
  go_enter Tryz.func151, Tryz.ntmps151
  cases base with
  | none =>
    have h0 := hnil rfl
    subst h0
    go_wp2_with (at_builtin; refine Lib.wpList_append_run _ rfl _ _ _ _ rfl _ _ rfl rfl _ _ (hrun _) ?_)
    go_ret
    exact ⟨rfl, rfl⟩
  | some a =>
    obtain ⟨ab, ao, asp⟩ := a
    go_wp2_with (at_builtin; refine Lib.wpList_append_run _ rfl _ _ _ _ rfl _ _ rfl rfl _ _ (hrun _) ?_)
    all_goals (go_ret; exact ⟨rfl, rfl⟩)
set_option maxHeartbeats 4000000 in
set_option maxRecDepth 100000 in
theorem ins_Lease_grow (b n c i vb voff vc : Nat) (C A : Array Value) (T TA : TypeId) (f : Nat × Nat) (cs vs : List Value) (w : World) (hb : w.heap[b]? = some (.cells C T (0, 0))) (hA : w.heap[vb]? = some (.cells A TA f))
    (hi : i < n) (hnc : n ≤ c) (hroom : c < n + 1) (hcC : c * 8 ≤ C.size) (hn : n ≤ 4294967296) (hcl : cs.length = n * 8) (hvl : vs.length = 8)
    (hcs : ∀ (j : Nat) (v : Value), cs[j]? = some v → C[j]? = some v) (hvs : ∀ (j : Nat) (v : Value), vs[j]? = some v → A[voff + j]? = some v) (h1c : ∀ v ∈ cs, v.oneCell' = true) (h1v : ∀ v ∈ vs, v.oneCell' = true) :
    Calls Tryz.prog 151 #[.slice (some ⟨b, 0, none⟩) n c, .int .i64 i, .slice (some ⟨vb, voff, none⟩) 1 vc] w fun e w' =>
      e = .returned (.slice (some ⟨w.heap.size, 0, none⟩) (n + 1) (grownCap w (n + 1) c 46)) ∧
      w' = (((w.alloc (.cells ((cs.take (i * 8)).toArray ++ Builtin.zeroCells ((.agg #[.int .i64 0, .int .i64 0, .int .i64 0, .int .i64 0, .int .i64 0, .int .i64 0, .string ⟨#[]⟩, .int .i64 0]) : Value).cells (n + 1 - i) ++ Builtin.zeroCells ((.agg #[.int .i64 0, .int .i64 0, .int .i64 0, .int .i64 0, .int .i64 0, .int .i64 0, .string ⟨#[]⟩, .int .i64 0]) : Value).cells (grownCap w (n + 1) c 46 - (n + 1))) 46)).drew.setCells w.heap.size (i * 8) vs).drew).setCells w.heap.size ((i + 1) * 8) (cs.drop (i * 8)) := by
  have uS := run_underlying Tryz.underlying28
  have uI := run_underlying Tryz.underlying3
  obtain ⟨i0, hi0, hz0, hzs, hzb⟩ := info_parts ins_Lease_info
  have hsz : (Tryz.prog.info? 46).map (·.size) = some 8 := by kernel_rfl
  have hbw := (Array.getElem?_eq_some_iff.1 hb).1
  have hvw := (Array.getElem?_eq_some_iff.1 hA).1
  have hkk : (n : Int) + 1 - (i : Int) = ((n + 1 - i : Nat) : Int) := by omega
  have hik : i + (n + 1 - i) = n + 1 := by omega
  have hold : (Builtin.firstCells i0.size i (.slice (some ⟨b, 0, none⟩) i c)).run Tryz.prog w.drew = .ok (cs.take (i * 8)).toArray w.drew := by
    rw [hzs]
    exact run_firstCells_some w.drew 8 i ⟨b, 0, none⟩ i c (cs.take (i * 8)) (by rw [List.length_take]; omega) (fun j v hj => by
      rw [Addr.add_lit]
      show w.cell? _ = _
      rw [cell_of hb, Nat.zero_add]
      rw [List.getElem?_take] at hj
      split at hj
      · exact hcs j v hj
      · cases hj)
  have hrz : ∀ ty, (Builtin.append_ #[28, 3] ty #[.slice (some ⟨b, 0, none⟩) i c, .int .i64 ((n : Int) + 1 - (i : Int))]).run Tryz.prog w =
      .ok (.slice (some ⟨w.heap.size, 0, none⟩) (n + 1) (grownCap w (n + 1) c 46)) (w.drew.alloc (.cells ((cs.take (i * 8)).toArray ++ Builtin.zeroCells ((.agg #[.int .i64 0, .int .i64 0, .int .i64 0, .int .i64 0, .int .i64 0, .int .i64 0, .string ⟨#[]⟩, .int .i64 0]) : Value).cells (n + 1 - i) ++ Builtin.zeroCells ((.agg #[.int .i64 0, .int .i64 0, .int .i64 0, .int .i64 0, .int .i64 0, .int .i64 0, .string ⟨#[]⟩, .int .i64 0]) : Value).cells (grownCap w (n + 1) c 46 - (n + 1))) 46)) := fun ty => by
    have h := Lib.run_append_grow_zeros w 28 3 ty 46 i0 _ .i64 .i64 Tryz.underlying28 Tryz.underlying3 hi0 hz0 (some ⟨b, 0, none⟩) i c (cs.take (i * 8)) hold (n + 1 - i) (by omega) (by omega) (by omega) (by omega) (by rw [hzb]; omega) (by rw [hzb, hik]; exact growslice_fits hroom (by omega))
    rw [hik] at h
    rw [hkk]
    exact h
  obtain ⟨G, hG⟩ : ∃ G, G = grownCap w (n + 1) c 46 := ⟨_, rfl⟩
  obtain ⟨ROW, hROW⟩ : ∃ ROW : Array Value, ROW = (cs.take (i * 8)).toArray ++ Builtin.zeroCells ((.agg #[.int .i64 0, .int .i64 0, .int .i64 0, .int .i64 0, .int .i64 0, .int .i64 0, .string ⟨#[]⟩, .int .i64 0]) : Value).cells (n + 1 - i) ++ Builtin.zeroCells ((.agg #[.int .i64 0, .int .i64 0, .int .i64 0, .int .i64 0, .int .i64 0, .int .i64 0, .string ⟨#[]⟩, .int .i64 0]) : Value).cells (G - (n + 1)) := ⟨_, rfl⟩
  rw [← hG] at hrz ⊢
  rw [← hROW] at hrz ⊢
  have hRl : (n + 1) * 8 ≤ ROW.size := by
    rw [hROW]
    simp [Builtin.zeroCells, Value.cells]
    omega
  obtain ⟨W1, hW1⟩ : ∃ W1, W1 = w.drew.alloc (.cells ROW 46) := ⟨_, rfl⟩
  rw [← hW1] at hrz
  have hN : ∀ j, j < (n + 1) * 8 → (W1.cell? ⟨w.heap.size, j, none⟩).isSome = true := fun j hj => by
    rw [hW1, World.cell?_alloc_at (w := w.drew) ROW _ w.heap.size j rfl, Array.getElem?_eq_getElem (by omega)]; rfl
  have hNf : ∀ j, W1.frozen? ⟨w.heap.size, j, none⟩ = false := fun j => by rw [hW1]; exact World.frozen?_alloc_at (w := w.drew) ROW _ w.heap.size j rfl
  have hOb : ∀ j v, C[j]? = some v → W1.cell? ⟨b, j, none⟩ = some v := fun j v h => by rw [hW1, World.cell?_alloc_past (w := w.drew) _ b j hbw]; show w.cell? _ = _; rw [cell_of hb]; exact h
  have hOv : ∀ j v, A[j]? = some v → W1.cell? ⟨vb, j, none⟩ = some v := fun j v h => by rw [hW1, World.cell?_alloc_past (w := w.drew) _ vb j hvw]; show w.cell? _ = _; rw [cell_of hA]; exact h
  have hcpA : ∀ (W : World), (∀ x, W.cell? x = W1.cell? x) → (∀ x, W.frozen? x = W1.frozen? x) → ∀ ty dc, (Builtin.copy_ #[28, 28] ty #[.slice (some ⟨w.heap.size, i * 8, none⟩) (n + 1 - i) dc, .slice (some ⟨vb, voff, none⟩) 1 vc]).run Tryz.prog W = .ok (goInt (Nat.min 1 (n + 1 - i))) (W.setCells w.heap.size (i * 8) vs) := fun W hWc hWf ty dc =>
    copy_run W _ _ ty 46 8 w.heap.size (i * 8) (n + 1 - i) dc ⟨vb, voff, none⟩ 1 vc vs Tryz.underlying28 hsz (by rw [hvl]; simp only [Nat.min_def]; split <;> omega)
      (fun j v hj => by rw [Addr.add_lit, hWc]; exact hOv _ v (hvs j v hj))
      (fun j hj => by rw [hWc]; exact hN _ (by omega)) (fun j hj => by rw [hWf]; exact hNf _) h1v
  have hGn : n + 1 ≤ G := by rw [hG]; exact grownCap_ge w _ _ _
  have hG63 : G ≤ 9223372036854775807 := by
    have := grownCap_le_maxLen w (n + 1) c 46 (by unfold maxLen; omega)
    rw [← hG] at this
    unfold maxLen at this
    omega
  have hGi : ¬ (G = i) := by omega
  have hGim : ¬ (G = i + 1) := by omega
  have hci : ¬ (c = i) := by omega
  have hbN : b ≠ w.heap.size := by omega
  have hdl : (cs.drop (i * 8)).length = (n - i) * 8 := by rw [List.length_drop, hcl]; omega
  have hcpB : ∀ (W : World), (∀ x, W.cell? x = (W1.setCells w.heap.size (i * 8) vs).cell? x) → (∀ x, W.frozen? x = (W1.setCells w.heap.size (i * 8) vs).frozen? x) → ∀ ty dc sc, (Builtin.copy_ #[28, 28] ty #[.slice (some ⟨w.heap.size, (i + 1) * 8, none⟩) (n - i) dc, .slice (some ⟨b, i * 8, none⟩) (n - i) sc]).run Tryz.prog W = .ok (goInt (Nat.min (n - i) (n - i))) (W.setCells w.heap.size ((i + 1) * 8) (cs.drop (i * 8))) := fun W hWc hWf ty dc sc =>
    copy_run W _ _ ty 46 8 w.heap.size ((i + 1) * 8) (n - i) dc ⟨b, i * 8, none⟩ (n - i) sc (cs.drop (i * 8)) Tryz.underlying28 hsz (by rw [hdl]; simp only [Nat.min_def]; split <;> omega)
      (fun j v hj => by
        rw [Addr.add_lit, hWc, World.cell?_setCells_out _ _ _ _ _ (fun h _ => absurd h hbN)]
        exact hOb _ v (hcs _ v (by rwa [List.getElem?_drop] at hj)))
      (fun j hj => by rw [hWc]; exact setCells_some _ _ _ _ (fun t ht => hN _ (by omega)) _ (hN _ (by omega)))
      (fun j hj => by rw [hWf, World.frozen?_setCells]; exact hNf _) (fun v hv => h1c v (List.mem_of_mem_drop hv))
  subst hW1
  have hE1 : ∀ x, ((w.alloc (.cells ROW 46)).drew).cell? x = (w.drew.alloc (.cells ROW 46)).cell? x := fun x => rfl
  have hE2 : ∀ x, ((w.alloc (.cells ROW 46)).drew).frozen? x = (w.drew.alloc (.cells ROW 46)).frozen? x := fun x => rfl
  have hF1 : ∀ x, (((w.alloc (.cells ROW 46)).drew.setCells w.heap.size (i * 8) vs).drew).cell? x = ((w.drew.alloc (.cells ROW 46)).setCells w.heap.size (i * 8) vs).cell? x := fun x => rfl
  have hF2 : ∀ x, (((w.alloc (.cells ROW 46)).drew.setCells w.heap.size (i * 8) vs).drew).frozen? x = ((w.drew.alloc (.cells ROW 46)).setCells w.heap.size (i * 8) vs).frozen? x := fun x => rfl
  have hw1 : IntKind.i64.wrap ((i : Int) + 1) = (i : Int) + 1 := by rw [IntKind.wrap_i64]; omega
  have hw2 : IntKind.i64.wrap ((n : Int) + 1) = (n : Int) + 1 := by rw [IntKind.wrap_i64]; omega
  have hw3 : IntKind.i64.wrap ((n : Int) + 1 - i) = (n : Int) + 1 - i := by rw [IntKind.wrap_i64]; omega
  have hz2 : ¬ ((i : Int) = (n : Int)) := by omega
  have hz3 : (c : Int) < (n : Int) + 1 := by omega
  have hb1 : (0 : Int) ≤ (i : Int) + 1 := by omega
  have hin : i ≤ n := by omega
  have htn : ((i : Int) + 1).toNat = i + 1 := by omega
  have hb3 : (i : Int) ≤ (n : Int) := by omega
  have mixed : Tryz.prog.follows .mixedOrders = true := by kernel_rfl
  clear hkk hik hold hROW hG hRl hcs hvs h1c h1v hOb hOv hN hNf hA hb hi0 hz0 hzs hzb hsz
  go_enter Tryz.func151, Tryz.ntmps151
  go_wp2_with (first
    | (at_builtin; refine Lib.wpList_append_run _ rfl _ _ _ _ rfl _ _ rfl rfl _ _ (hrz _) ?_)
    | (at_builtin; refine wpList_copy_st _ rfl _ _ 28 28 rfl _ _ rfl rfl (hcpA _ hE1 hE2 _ _) ?_)
    | (at_builtin; refine wpList_copy_st _ rfl _ _ 28 28 rfl _ _ rfl rfl (hcpB _ (fun _ => rfl) (fun _ => rfl) _ _ _) ?_))
  go_region_law_o (refine step_copy_st rfl _ _ 28 28 rfl (.slice (some ⟨w.heap.size, (i + 1) * 8, none⟩) (n - i) (G - (i + 1))) (.slice (some ⟨b, i * 8, none⟩) (n - i) (c - i)) (by simp [Act.eval, Act.put]) (by simp [Act.eval, Act.put]) (hcpB _ hF1 hF2 3 (G - (i + 1)) (c - i)) ?_)
  go_wp2
  go_ret
  exact ⟨rfl, rfl⟩
theorem okx_IN_api_Lease : FnOK Tryz.prog 151 (.ext (insF 8)) := ins_fn (z := (.agg #[.int .i64 0, .int .i64 0, .int .i64 0, .int .i64 0, .int .i64 0, .int .i64 0, .string ⟨#[]⟩, .int .i64 0])) (TE := 46) (by kernel_rfl) (by decide) rfl ins_Lease_shift ins_Lease_room ins_Lease_more ins_Lease_grow
end Go.Proofs.YtcjncbkhbllchaaGreat

namespace Go.Proofs.YtcjncbkhbllchaaGreat
open Go.RowKit Go.Lib Go.Sim
theorem del_Lease_info : (Tryz.prog.info? 46).map (fun i => (i.zero, i.size, i.bytes)) = some (some (.agg #[.int .i64 0, .int .i64 0, .int .i64 0, .int .i64 0, .int .i64 0, .int .i64 0, .string ⟨#[]⟩, .int .i64 0]), 8, 72) := by kernel_rfl
set_option maxHeartbeats 4000000 in
set_option maxRecDepth 1000000 in
theorem del_Lease_walk (b n c i j : Nat) (C : Array Value) (T : TypeId) (cs : List Value) (w : World) (hb : w.heap[b]? = some (.cells C T (0, 0)))
    (hi : i < j) (hj : j ≤ n) (hnc : n ≤ c) (hcC : c * 8 ≤ C.size) (hn : n ≤ 4294967296) (hcl : cs.length = n * 8)
    (hcs : ∀ (j : Nat) (v : Value), cs[j]? = some v → C[j]? = some v) (h1c : ∀ v ∈ cs, v.oneCell' = true) :
    Calls Tryz.prog 184 #[.slice (some ⟨b, 0, none⟩) n c, .int .i64 i, .int .i64 j] w fun e w' =>
      e = .returned (.slice (some ⟨b, 0, none⟩) (i + (n - j)) c) ∧ w' = (w.drew.setCells b (0 + i * 8) (cs.drop (j * 8))).setCells b ((i + (n - j)) * 8) (Builtin.zeroCells ((.agg #[.int .i64 0, .int .i64 0, .int .i64 0, .int .i64 0, .int .i64 0, .int .i64 0, .string ⟨#[]⟩, .int .i64 0]) : Value).cells (n - (i + (n - j)))).toList := by
  have uS := run_underlying Tryz.underlying28
  obtain ⟨i0, hi0, hz0, hz1, hz2⟩ := info_parts del_Lease_info
  have hv : ∀ w, (zeroValue 46).run Tryz.prog w = .ok (.agg #[.int .i64 0, .int .i64 0, .int .i64 0, .int .i64 0, .int .i64 0, .int .i64 0, .string ⟨#[]⟩, .int .i64 0]) w := fun w => by kernel_rfl
  have hdl : (cs.drop (j * 8)).length = (n - j) * 8 := by rw [List.length_drop, hcl]; omega
  have hcell : ∀ (k : Nat), w.drew.cell? ⟨b, k, none⟩ = C[k]? := fun k => by show w.cell? _ = _; rw [cell_of hb]
  have hfz : ∀ (k : Nat), w.drew.frozen? ⟨b, k, none⟩ = false := fun k => by show w.frozen? _ = _; simp [World.frozen?, hb]
  obtain ⟨A, hA, hsrc⟩ : ∃ A : Addr, (if c = j then (some ⟨b, 0, none⟩ : Option Addr) else some ⟨b, j * 8, none⟩) = some A ∧ Hid (∀ t u, (cs.drop (j * 8))[t]? = some u → w.drew.cell? (A.add t) = some u) := by
    by_cases h : c = j
    · refine ⟨⟨b, 0, none⟩, by simp [h], fun t u hu => ?_⟩
      have := (List.getElem?_eq_some_iff.1 hu).1
      omega
    · refine ⟨⟨b, j * 8, none⟩, by simp [h], fun t u hu => ?_⟩
      rw [Addr.add_lit, hcell]
      exact hcs _ u (by rwa [List.getElem?_drop] at hu)
  have s1 : Hid ((cs.drop (j * 8)).length = (n - j) * 8) := hdl
  have s2 : Hid (∀ u ∈ cs.drop (j * 8), u.oneCell' = true) := fun u hu => h1c u (List.mem_of_mem_drop hu)
  have s3 : Hid (∀ t, t < (cs.drop (j * 8)).length → (w.drew.cell? ⟨b, 0 + i * 8 + t, none⟩).isSome = true ∧ w.drew.frozen? ⟨b, 0 + i * 8 + t, none⟩ = false) := fun t ht =>
    ⟨by rw [hcell, Array.getElem?_eq_getElem (by omega)]; rfl, hfz _⟩
  obtain ⟨W1, hW1⟩ : ∃ W1, W1 = w.drew.setCells b (0 + i * 8) (cs.drop (j * 8)) := ⟨_, rfl⟩
  have hzl : (Builtin.zeroCells ((.agg #[.int .i64 0, .int .i64 0, .int .i64 0, .int .i64 0, .int .i64 0, .int .i64 0, .string ⟨#[]⟩, .int .i64 0]) : Value).cells (n - (i + (n - j)))).toList.length = (n - (i + (n - j))) * 8 := by simp [Builtin.zeroCells, Value.cells]
  have hcl2 : ∀ ty, (Builtin.clear_ #[28] ty #[.slice (some ⟨b, (i + (n - j)) * 8, none⟩) (n - (i + (n - j))) (c - (i + (n - j)))]).run Tryz.prog W1 = .ok (.tuple #[]) (W1.setCells b ((i + (n - j)) * 8) (Builtin.zeroCells ((.agg #[.int .i64 0, .int .i64 0, .int .i64 0, .int .i64 0, .int .i64 0, .int .i64 0, .string ⟨#[]⟩, .int .i64 0]) : Value).cells (n - (i + (n - j)))).toList) :=
    fun ty => clear_run W1 _ _ ty _ Tryz.underlying28 hv b ((i + (n - j)) * 8) _ _ (by omega) (fun t ht => by
      rw [hzl] at ht
      rw [hW1]
      exact setCells_some b _ _ _ (fun k hk => by rw [hcell, Array.getElem?_eq_getElem (by omega)]; rfl) _ (by rw [hcell, Array.getElem?_eq_getElem (by omega)]; rfl)) (fun t => by rw [hW1, World.frozen?_setCells]; exact hfz _) (fun v hv => by
      unfold Builtin.zeroCells at hv
      rw [Array.toList_map, List.mem_map] at hv
      obtain ⟨q, _, rfl⟩ := hv
      have hall : ∀ u ∈ ((.agg #[.int .i64 0, .int .i64 0, .int .i64 0, .int .i64 0, .int .i64 0, .int .i64 0, .string ⟨#[]⟩, .int .i64 0]) : Value).cells, u.oneCell' = true := by decide
      have hq : q % ((.agg #[.int .i64 0, .int .i64 0, .int .i64 0, .int .i64 0, .int .i64 0, .int .i64 0, .string ⟨#[]⟩, .int .i64 0]) : Value).cells.size < ((.agg #[.int .i64 0, .int .i64 0, .int .i64 0, .int .i64 0, .int .i64 0, .int .i64 0, .string ⟨#[]⟩, .int .i64 0]) : Value).cells.size := Nat.mod_lt _ (by decide)
      rw [getElem!_pos ((.agg #[.int .i64 0, .int .i64 0, .int .i64 0, .int .i64 0, .int .i64 0, .int .i64 0, .string ⟨#[]⟩, .int .i64 0]) : Value).cells (q % ((.agg #[.int .i64 0, .int .i64 0, .int .i64 0, .int .i64 0, .int .i64 0, .int .i64 0, .string ⟨#[]⟩, .int .i64 0]) : Value).cells.size) hq]
      exact hall _ (Array.getElem_mem hq))
  have hW : Hid (W1 = w.drew.setCells b (0 + i * 8) (cs.drop (j * 8))) := hW1
  have hic : i ≤ c := by omega
  have hjc : j ≤ c := by omega
  have mixed : Tryz.prog.follows .mixedOrders = true := by kernel_rfl
  clear hW1 hcell hfz hcs h1c hdl hzl hb hv hz0 hz2
  go_enter Tryz.func184, Tryz.ntmps184
  go_wp2_with fail
  go_region_law_o (refine step_append_room rfl (.tmp 22) (.tmp 25) 28 rfl 46 i0 8 Tryz.underlying28 hi0 hz1 b 0 i c (by simp [Act.eval, Act.put]) A (n - j) (c - j) (cs.drop (j * 8)) (by simp [Act.eval, Act.put]) s1.out hsrc.out s2.out (by omega) s3.out ?_; rw [← hW.out])
  go_wp2
  go_ret
  exact ⟨rfl, by rw [hW.out]; rfl⟩
theorem okx_DE_api_Lease : FnOK Tryz.prog 184 (.ext (delF 8)) := del_fn (z := (.agg #[.int .i64 0, .int .i64 0, .int .i64 0, .int .i64 0, .int .i64 0, .int .i64 0, .string ⟨#[]⟩, .int .i64 0])) (by kernel_rfl) (by decide) rfl del_Lease_walk
end Go.Proofs.YtcjncbkhbllchaaGreat
