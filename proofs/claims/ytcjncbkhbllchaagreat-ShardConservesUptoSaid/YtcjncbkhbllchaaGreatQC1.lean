/-
  The statement ShardConserves, for arguments up to the given bound: whatever the input, the law returns true and its arguments read as before.
-/
import Derived.Test.YtcjncbkhbllchaaGreatRows
import Derived.Test.YtcjncbkhbllchaaGreatB1746b74
import Derived.Test.YtcjncbkhbllchaaGreatB1796a1b
import Derived.Test.YtcjncbkhbllchaaGreatB094d528
import Derived.ProofKit
import Derived.Test.YtcjncbkhbllchaaGreatB8b5a835
import Derived.JoinedCond
set_option linter.unusedSimpArgs false
set_option linter.unusedVariables false
namespace Go.Proofs.YtcjncbkhbllchaaGreat
open Go Go.ChangeShapes Go.WideShapes Go.ChangeAt Go.RowKit Go.Sim
theorem own : ownKnob Tryz.prog.godebug = none := by kernel_rfl
theorem gokL : GOK Tryz.prog L.G := ztq gok rowsL doneL
theorem laid : laidOutB Tryz.prog = true := by kernel_rfl
theorem zpS {H : Type} : Bulk (Rows.uptoBulk (H := H)) Rows.uptoBulkAll where
 sl _ _ := by simp only [Rows.uptoBulk]
 agg _ := by simp only [Rows.uptoBulk]
 str _ := by simp only [Rows.uptoBulk]
 nil := by simp only [Rows.uptoBulkAll]
 cons _ _ := by simp only [Rows.uptoBulkAll]
 pos d := by
   cases d with
   | lit l => cases l <;> simp [Rows.uptoBulk]
   | _ => simp [Rows.uptoBulk]
set_option maxRecDepth 100000 in
theorem zw7 (H : Type) (enc : TypeId × Value → H) (W : Go.World) (base : Nat) (args : Array Value) (ds gs : List (DataW H)) (before : List MemPlace)
   (hval : ∀ (j : Nat) t v, Tryz.f5.params[j]? = some t → args[j]? = some v → Value.okWide Tryz.prog W .any base t v)
   (hW : DataW.Whole enc Tryz.prog Tryz.f5.params.toList Rows.shardConservesSpec.vars false W args.toList ds gs before) (hk : Rows.uptoSmall H (ds ++ gs) = true) :
   Calls Tryz.prog 5 args W fun e W' => ∃ v, e = .returned v ∧ Rows.shardConservesSpec.post enc Tryz.prog Tryz.f5 false true false false W args v W' := by
 have hW' := hW
 obtain ⟨p, q, hA0, hV, rfl, hfz, hnd⟩ := hW
 have hA : DataW.TrodAll enc Tryz.prog W 0 (fun _ => true) true Tryz.f5.params.toList args.toList ds p := hA0
 rw [Tryz.params5] at hA hval
 obtain ⟨v0, vs0, d0, ds0, p0, q0, hargs, rfl, rfl, h0, r0⟩ := trodAll_cons hA
 obtain ⟨rfl, rfl, rfl⟩ := trodAll_nil r0
 obtain rfl : args = #[v0] := by cases args; simp_all
 obtain ⟨rfl, rfl⟩ := trodVars_none hV
 have hpost : ∀ W', Below W.heap.size W W' → Rows.shardConservesSpec.post enc Tryz.prog Tryz.f5 false true false false W #[v0] (.bool true) W' := fun W' hb =>
   zv3 (by kernel_rfl) Tryz.underlying4 laid (by rw [Tryz.params5]; intro t ht; simp at ht; subst ht <;> exact ⟨by kernel_rfl, of_decide_eq_true (by kernel_rfl)⟩) hW' rfl rfl hb
 simp only [List.append_nil] at hk
 have hb : Rows.uptoBulkAll [d0] ≤ 1048576 := of_decide_eq_true hk
 simp only [Rows.uptoBulkAll] at hb
 obtain ⟨x0, hs0, hr0⟩ := zuM zpS (m := 12) (sh := .sl (.int .i64)) h0 (by kernel_rfl) (by simp only [BIG]; omega) (hval 0 22 v0 rfl rfl)
 obtain ⟨l, rfl, hl⟩ := zrA hs0
 refine (zqJ gokL (ds := [.sl (ints l)]) (L.sconserves l (by simp only [BIG, LIM] at *; omega)) (w := W) (us := [v0]) rfl fun i x u hx hu => ?_).mono fun e W' ⟨u, he, hb, R', hr⟩ => ?_
 · match i, hx, hu with
   | 0, hx, hu => simp at hx hu; subst hx hu; exact hr0
   | n + 1, hx, hu => simp at hx
 · subst he
   cases hr
   exact ⟨_, rfl, hpost W' hb⟩
set_option maxRecDepth 100000 in
theorem zw8 (os : Os) (started : os.Started) (H : Type) (enc : TypeId × Value → H) (F : Stop.Interp) :
   ReturnsInHanded {} Tryz.checked os 5 .any ((Rows.OpenSpec.upto Rows.shardConservesSpec).pre6 enc Tryz.prog Tryz.f5 Rows.shardConservesUptoRow.domain false) (((Rows.OpenSpec.upto Rows.shardConservesSpec).at F).post enc Tryz.prog Tryz.f5 false true false false) := by
 refine returnsInHanded_of_cond (C := Tryz.checked) (s := Rows.OpenSpec.upto Rows.shardConservesSpec) (k := Rows.uptoSmall) rfl own started (by kernel_rfl) Tryz.func5
   (OpenSpec.witness (enc := enc) (C := Tryz.checked) (s := Rows.OpenSpec.upto Rows.shardConservesSpec) (k := Rows.uptoSmall) rfl false ⟨#[], #[.slice none 0 0], []⟩ 8 (by kernel_rfl) (by kernel_rfl) (by kernel_rfl)
     (x := ([.nil], [], [])) (by kernel_rfl) rfl (by kernel_rfl)) ?_
 intro W base args ds gs before hval hW _ hk _
 exact zw7 H enc W base args ds gs before hval hW hk
theorem shardConserves_proved : Rows.ShardConservesUptoSaid :=
 OpenClaim.holds_of_cond 5 Tryz.f5 rfl rfl rfl rfl rfl rfl rfl ⟨rfl, rfl, rfl, rfl, rfl⟩ rfl rfl rfl rfl rfl t_shardConserves_n Tryz.func5 t_shardConserves_j t_shardConserves_i t_shardConserves_w
   (fun os started H enc _ F => zw8 os started H enc F)
#print axioms shardConserves_proved
end Go.Proofs.YtcjncbkhbllchaaGreat
