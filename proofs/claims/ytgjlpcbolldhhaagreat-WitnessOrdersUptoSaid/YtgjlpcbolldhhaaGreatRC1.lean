/-
  The statement WitnessOrders, for arguments up to the given bound: whatever the input, the law returns true and its arguments read as before.
-/
import Derived.Test.YtgjlpcbolldhhaaGreatRows
import Derived.Test.YtgjlpcbolldhhaaGreatBa60510a
import Derived.Test.YtgjlpcbolldhhaaGreatB0e8112f
import Derived.Test.YtgjlpcbolldhhaaGreatBbfbf75e
import Derived.ProofKit
import Derived.Test.YtgjlpcbolldhhaaGreatBb4b5e39
import Derived.JoinedCond
set_option linter.unusedSimpArgs false
set_option linter.unusedVariables false
set_option maxHeartbeats 10000000
set_option maxRecDepth 100000
namespace Go.Proofs.YtgjlpcbolldhhaaGreat
open Go Go.ChangeShapes Go.WideShapes Go.ChangeAt Go.RowKit Go.Sim
theorem own : ownKnob Tryz.prog.godebug = none := by kernel_rfl
theorem laid : laidOutB Tryz.prog = true := by kernel_rfl
theorem bulk_ok {H : Type} : zb7 (Rows.uptoBulk (H := H)) Rows.uptoBulkAll where
 sl _ _ := by simp only [Rows.uptoBulk]
 agg _ := by simp only [Rows.uptoBulk]
 str _ := by simp only [Rows.uptoBulk]
 nil := by simp only [Rows.uptoBulkAll]
 cons _ _ := by simp only [Rows.uptoBulkAll]
 pos d := by
  cases d with
  | lit l => cases l <;> simp [Rows.uptoBulk]
  | _ => simp [Rows.uptoBulk]
set_option maxRecDepth 100000 in
theorem zJW (H : Type) (enc : TypeId × Value -> H) (W : Go.World) (base : Nat) (args : Array Value) (ds gs : List (DataW H)) (before : List MemPlace)
    (hval : ∀ (j : Nat) t v, Tryz.f3.params[j]? = some t -> args[j]? = some v -> Value.okWide Tryz.prog W .any base t v)
    (hW : DataW.Whole enc Tryz.prog Tryz.f3.params.toList Rows.witnessOrdersSpec.vars false W args.toList ds gs before) (hk : Rows.uptoSmall H (ds ++ gs) = true) :
    Calls Tryz.prog 3 args W fun e W' => ∃ v, e = .returned v /\ Rows.witnessOrdersSpec.post enc Tryz.prog Tryz.f3 false true false false W args v W' := by
 have hW' := hW;obtain ⟨p, q, hA0, hV, rfl, hfz, hnd⟩ := hW;have hA : DataW.TrodAll enc Tryz.prog W 0 (fun _ => true) true Tryz.f3.params.toList args.toList ds p := hA0;rw [Tryz.params3] at hA hval;obtain ⟨v0, vs0, d0, ds0, p0, q0, hargs, rfl, rfl, h0, r0⟩ := trodAll_cons hA;obtain ⟨rfl, rfl, rfl⟩ := trodAll_nil r0;obtain rfl : args = #[v0] := by cases args; simp_all
 obtain ⟨rfl, rfl⟩ := trodVars_none hV;have hpost : ∀ W', Below W.heap.size W W' -> Rows.witnessOrdersSpec.post enc Tryz.prog Tryz.f3 false true false false W #[v0] (.bool true) W' := fun W' hb =>
  zHU (by kernel_rfl) Tryz.underlying4 laid (by rw [Tryz.params3]; intro t ht; simp at ht; subst ht <;> exact ⟨by kernel_rfl, of_decide_eq_true (by kernel_rfl)⟩) hW' rfl rfl hb
 simp only [zLt] at hk;have hb : Rows.uptoBulkAll [d0] <= 1048576 := of_decide_eq_true hk;simp only [Rows.uptoBulkAll] at hb;obtain ⟨x0, hs0, hr0⟩ := zHJ bulk_ok (m := 12) (sh := .sl (.agg [.int .i64, .int .i64, .int .i64, .int .i64, .int .i64, .int .i64, .int .i64, .sl (.agg [.int .i64, .int .i64, .int .i64, .int .i64]), .int .i64, .int .i64])) h0 (by kernel_rfl) (by simp only [BIG]; omega) (hval 0 22 v0 rfl rfl);obtain ⟨l, rfl, hl, hll⟩ := zyP hs0;refine (zyf gok (ds := [.sl (l.map zm)]) (zHK l (by simp only [BIG] at *; omega) (fun e he => by have := hll e he; simp only [BIG] at *; omega) ztw) (w := W) (us := [v0]) rfl fun i x u hx hu => ?_).mono fun e W' ⟨u, he, hb, R', hr⟩ => ?_
 · match i, hx, hu with
   | 0, hx, hu => simp at hx hu; subst hx hu; exact hr0
   | n + 1, hx, hu => simp at hx
 · subst he
   cases hr
   exact ⟨_, rfl, hpost W' hb⟩
set_option maxRecDepth 100000 in
theorem zJX (os : Os) (started : os.Started) (H : Type) (enc : TypeId × Value -> H) (F : Stop.Interp) :
    ReturnsInHanded {} Tryz.checked os 3 .any ((Rows.OpenSpec.upto Rows.witnessOrdersSpec).pre6 enc Tryz.prog Tryz.f3 Rows.witnessOrdersUptoRow.domain false) (((Rows.OpenSpec.upto Rows.witnessOrdersSpec).at F).post enc Tryz.prog Tryz.f3 false true false false) := by
 refine returnsInHanded_of_cond (C := Tryz.checked) (s := Rows.OpenSpec.upto Rows.witnessOrdersSpec) (k := Rows.uptoSmall) rfl own started (by kernel_rfl) Tryz.func3
  (OpenSpec.witness (enc := enc) (C := Tryz.checked) (s := Rows.OpenSpec.upto Rows.witnessOrdersSpec) (k := Rows.uptoSmall) rfl false ⟨#[], #[.slice none 0 0], []⟩ 8 (by kernel_rfl) (by kernel_rfl) (by kernel_rfl)
   (x := ([.nil], [], [])) (by kernel_rfl) rfl (by kernel_rfl)) ?_
 intro W base args ds gs before hval hW _ hk _;exact zJW H enc W base args ds gs before hval hW hk
theorem witnessOrders_proved : Rows.WitnessOrdersUptoSaid :=
 OpenClaim.holds_of_cond 3 Tryz.f3 rfl rfl rfl rfl rfl rfl rfl ⟨rfl, rfl, rfl, rfl, rfl⟩ rfl rfl rfl rfl rfl t_witnessOrders_n Tryz.func3 t_witnessOrders_j t_witnessOrders_i t_witnessOrders_w
  (fun os started H enc _ F => zJX os started H enc F)
#print axioms witnessOrders_proved
end Go.Proofs.YtgjlpcbolldhhaaGreat
