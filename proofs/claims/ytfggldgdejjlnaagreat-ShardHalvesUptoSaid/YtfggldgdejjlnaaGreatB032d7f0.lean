/-
  slices.
-/
import Derived.Test.YtfggldgdejjlnaaGreatBbbf899f
import Derived.Test.YtfggldgdejjlnaaGreatProg
set_option linter.unusedSimpArgs false
set_option linter.unusedVariables false
set_option maxHeartbeats 10000000
set_option maxRecDepth 100000
namespace Go.Proofs.YtfggldgdejjlnaaGreat
open Go.RowKit Go.Lib Go.Sim
theorem zDH : (Tryz.prog.info? 49).map (fun i => (i.zero, i.size, i.bytes)) = some (some (.agg #[.int .i64 0, .int .i64 0, .int .i64 0, .int .i64 0, .int .i64 0, .int .i64 0, .string ⟨#[]⟩, .int .i64 0]), 8, 72) := by kernel_rfl
set_option maxHeartbeats 4000000 in
set_option maxRecDepth 1000000 in
theorem zDI (b n c i j : Nat) (C : Array Value) (T : TypeId) (cs : List Value) (w : World) (hb : w.heap[b]? = some (.cells C T (0, 0)))
    (hi : i < j) (hj : j <= n) (hnc : n <= c) (hcC : c * 8 <= C.size) (hn : n <= 4294967296) (hcl : cs.length = n * 8)
    (hcs : ∀ (j : Nat) (v : Value), cs[j]? = some v -> C[j]? = some v) (h1c : ∀ v ∈ cs, v.oneCell' = true) :
    Calls Tryz.prog 130 #[.slice (some ⟨b, 0, none⟩) n c, .int .i64 i, .int .i64 j] w fun e w' =>
     e = .returned (.slice (some ⟨b, 0, none⟩) (i + (n - j)) c) /\ w' = (w.drew.setCells b (0 + i * 8) (cs.drop (j * 8))).setCells b ((i + (n - j)) * 8) (Builtin.zeroCells ((.agg #[.int .i64 0, .int .i64 0, .int .i64 0, .int .i64 0, .int .i64 0, .int .i64 0, .string ⟨#[]⟩, .int .i64 0]) : Value).cells (n - (i + (n - j)))).toList := by
 have uS := run_underlying Tryz.underlying28;obtain ⟨i0, hi0, hz0, hz1, hz2⟩ := info_parts zDH;have hv : ∀ w, (zeroValue 49).run Tryz.prog w = .ok (.agg #[.int .i64 0, .int .i64 0, .int .i64 0, .int .i64 0, .int .i64 0, .int .i64 0, .string ⟨#[]⟩, .int .i64 0]) w := fun w => by kernel_rfl
 have hdl : (cs.drop (j * 8)).length = (n - j) * 8 := by rw [zRp, hcl]; omega
 have hcell : ∀ (k : Nat), w.drew.cell? ⟨b, k, none⟩ = C[k]? := fun k => by show w.cell? _ = _; rw [zan hb]
 have hfz : ∀ (k : Nat), w.drew.frozen? ⟨b, k, none⟩ = false := fun k => by show w.frozen? _ = _; simp [World.frozen?, hb]
 obtain ⟨A, hA, hsrc⟩ : ∃ A : Addr, (if c = j then (some ⟨b, 0, none⟩ : Option Addr) else some ⟨b, j * 8, none⟩) = some A /\ Hid (∀ t u, (cs.drop (j * 8))[t]? = some u -> w.drew.cell? (A.add t) = some u) := by
  by_cases h : c = j
  · refine ⟨⟨b, 0, none⟩, by simp [h], fun t u hu => ?_⟩;have := (zQ6.1 hu).1;omega
  · refine ⟨⟨b, j * 8, none⟩, by simp [h], fun t u hu => ?_⟩;rw [Addr.add_lit, hcell];exact hcs _ u (by rwa [zRz] at hu)
 have s1 : Hid ((cs.drop (j * 8)).length = (n - j) * 8) := hdl;have s2 : Hid (∀ u ∈ cs.drop (j * 8), u.oneCell' = true) := fun u hu => h1c u (zSq hu);have s3 : Hid (∀ t, t < (cs.drop (j * 8)).length -> (w.drew.cell? ⟨b, 0 + i * 8 + t, none⟩).isSome = true /\ w.drew.frozen? ⟨b, 0 + i * 8 + t, none⟩ = false) := fun t ht =>
  ⟨by rw [hcell, zR7 (by omega)]; rfl, hfz _⟩
 obtain ⟨W1, hW1⟩ : ∃ W1, W1 = w.drew.setCells b (0 + i * 8) (cs.drop (j * 8)) := ⟨_, rfl⟩;have hzl : (Builtin.zeroCells ((.agg #[.int .i64 0, .int .i64 0, .int .i64 0, .int .i64 0, .int .i64 0, .int .i64 0, .string ⟨#[]⟩, .int .i64 0]) : Value).cells (n - (i + (n - j)))).toList.length = (n - (i + (n - j))) * 8 := by simp [Builtin.zeroCells, Value.cells]
 have hcl2 : ∀ ty, (Builtin.clear_ #[28] ty #[.slice (some ⟨b, (i + (n - j)) * 8, none⟩) (n - (i + (n - j))) (c - (i + (n - j)))]).run Tryz.prog W1 = .ok (.tuple #[]) (W1.setCells b ((i + (n - j)) * 8) (Builtin.zeroCells ((.agg #[.int .i64 0, .int .i64 0, .int .i64 0, .int .i64 0, .int .i64 0, .int .i64 0, .string ⟨#[]⟩, .int .i64 0]) : Value).cells (n - (i + (n - j)))).toList) :=
  fun ty => zDc W1 _ _ ty _ Tryz.underlying28 hv b ((i + (n - j)) * 8) _ _ (by omega) (fun t ht => by
   rw [hzl] at ht;rw [hW1];exact ztA b _ _ _ (fun k hk => by rw [hcell, zR7 (by omega)]; rfl) _ (by rw [hcell, zR7 (by omega)]; rfl)) (fun t => by rw [hW1, World.frozen?_setCells]; exact hfz _) (fun v hv => by
   unfold Builtin.zeroCells at hv;rw [zSU, zQ3] at hv;obtain ⟨q, _, rfl⟩ := hv;have hall : ∀ u ∈ ((.agg #[.int .i64 0, .int .i64 0, .int .i64 0, .int .i64 0, .int .i64 0, .int .i64 0, .string ⟨#[]⟩, .int .i64 0]) : Value).cells, u.oneCell' = true := by decide
   have hq : q % ((.agg #[.int .i64 0, .int .i64 0, .int .i64 0, .int .i64 0, .int .i64 0, .int .i64 0, .string ⟨#[]⟩, .int .i64 0]) : Value).cells.size < ((.agg #[.int .i64 0, .int .i64 0, .int .i64 0, .int .i64 0, .int .i64 0, .int .i64 0, .string ⟨#[]⟩, .int .i64 0]) : Value).cells.size := zRK _ (by decide);rw [getElem!_pos ((.agg #[.int .i64 0, .int .i64 0, .int .i64 0, .int .i64 0, .int .i64 0, .int .i64 0, .string ⟨#[]⟩, .int .i64 0]) : Value).cells (q % ((.agg #[.int .i64 0, .int .i64 0, .int .i64 0, .int .i64 0, .int .i64 0, .int .i64 0, .string ⟨#[]⟩, .int .i64 0]) : Value).cells.size) hq];exact hall _ (zTW hq))
 have hW : Hid (W1 = w.drew.setCells b (0 + i * 8) (cs.drop (j * 8))) := hW1;have hic : i <= c := by omega
 have hjc : j <= c := by omega
 have mixed : Tryz.prog.follows .mixedOrders = true := by kernel_rfl
 clear hW1 hcell hfz hcs h1c hdl hzl hb hv hz0 hz2
 go_enter Tryz.func130, Tryz.ntmps130
 go_wp2_with fail
 go_region_law_o (refine step_append_room rfl (.tmp 22) (.tmp 25) 28 rfl 49 i0 8 Tryz.underlying28 hi0 hz1 b 0 i c (by simp [Act.eval, Act.put]) A (n - j) (c - j) (cs.drop (j * 8)) (by simp [Act.eval, Act.put]) s1.out hsrc.out s2.out (by omega) s3.out ?_; rw [<- hW.out])
 go_wp2
 go_ret
 exact ⟨rfl, by rw [hW.out]; rfl⟩
theorem zL1 : zl Tryz.prog 130 (.ext (zgF 8)) := zDK (z := (.agg #[.int .i64 0, .int .i64 0, .int .i64 0, .int .i64 0, .int .i64 0, .int .i64 0, .string ⟨#[]⟩, .int .i64 0])) (by kernel_rfl) (by decide) rfl zDI
end Go.Proofs.YtfggldgdejjlnaaGreat
