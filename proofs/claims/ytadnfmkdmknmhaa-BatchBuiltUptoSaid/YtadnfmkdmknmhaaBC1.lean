/-
  The statement BatchBuilt, for arguments up to the given bound: whatever the input, the law returns true and its arguments read as before.
-/
import Derived.Test.YtadnfmkdmknmhaaRows
import Derived.Test.YtadnfmkdmknmhaaB1c0f3d2
import Derived.Test.YtadnfmkdmknmhaaBfffc035
import Derived.Test.YtadnfmkdmknmhaaB06c797f
import Derived.ProofKit
import Derived.JoinedCond
set_option linter.unusedSimpArgs false
set_option linter.unusedVariables false
namespace Go.Proofs.Ytadnfmkdmknmhaa
open Go Go.ChangeShapes Go.WideShapes Go.ChangeAt Go.RowKit Go.Sim
theorem own : ownKnob Try.prog.godebug = none := by kernel_rfl
theorem laid : laidOutB Try.prog = true := by kernel_rfl
theorem bulk_ok {H : Type} : Bulk (Rows.uptoBulk (H := H)) Rows.uptoBulkAll where
  sl _ _ := by simp only [Rows.uptoBulk]
  agg _ := by simp only [Rows.uptoBulk]
  str _ := by simp only [Rows.uptoBulk]
  nil := by simp only [Rows.uptoBulkAll]
  cons _ _ := by simp only [Rows.uptoBulkAll]
  pos d := by
    cases d with
    | lit l => cases l <;> simp [Rows.uptoBulk]
    | _ => simp [Rows.uptoBulk]
set_option maxRecDepth 100000 in
theorem batchBuilt_contract (H : Type) (enc : TypeId × Value → H) (W : Go.World) (base : Nat) (args : Array Value) (ds gs : List (DataW H)) (before : List MemPlace)
    (hval : ∀ (j : Nat) t v, Try.f3.params[j]? = some t → args[j]? = some v → Value.okWide Try.prog W .any base t v)
    (hW : DataW.Whole enc Try.prog Try.f3.params.toList Rows.batchBuiltSpec.vars false W args.toList ds gs before) (hk : Rows.uptoSmall H (ds ++ gs) = true) :
    Calls Try.prog 3 args W fun e W' => ∃ v, e = .returned v ∧ Rows.batchBuiltSpec.post enc Try.prog Try.f3 false true false false W args v W' := by
  have hW' := hW
  obtain ⟨p, q, hA0, hV, rfl, hfz, hnd⟩ := hW
  have hA : DataW.TrodAll enc Try.prog W 0 (fun _ => true) true Try.f3.params.toList args.toList ds p := hA0
  rw [Try.params3] at hA hval
  obtain ⟨v0, vs0, d0, ds0, p0, q0, hargs, rfl, rfl, h0, r0⟩ := trodAll_cons hA
  obtain ⟨rfl, rfl, rfl⟩ := trodAll_nil r0
  obtain rfl : args = #[v0] := by cases args; simp_all
  obtain ⟨rfl, rfl⟩ := trodVars_none hV
  have hpost : ∀ W', Below W.heap.size W W' → Rows.batchBuiltSpec.post enc Try.prog Try.f3 false true false false W #[v0] (.bool true) W' := fun W' hb =>
    post_true (by kernel_rfl) Try.underlying4 laid (by rw [Try.params3]; intro t ht; simp at ht; subst ht <;> exact ⟨by kernel_rfl, of_decide_eq_true (by kernel_rfl)⟩) hW' rfl rfl hb
  simp only [List.append_nil] at hk
  have hb : Rows.uptoBulkAll [d0] ≤ 1048576 := of_decide_eq_true hk
  simp only [Rows.uptoBulkAll] at hb
  obtain ⟨x0, hs0, hr0⟩ := open_arg bulk_ok (m := 12) (sh := .sl (.int .i64)) h0 (by kernel_rfl) (by simp only [BIG]; omega) (hval 0 22 v0 rfl rfl)
  obtain ⟨l, rfl, hl⟩ := ex_ints hs0
  refine (data_calls gok (ds := [.sl (ints l)]) (built17_ok l (by simp only [BIG, LIM] at *; omega)) (w := W) (us := [v0]) rfl fun i x u hx hu => ?_).mono fun e W' ⟨u, he, hb, R', hr⟩ => ?_
  · match i, hx, hu with
    | 0, hx, hu => simp at hx hu; subst hx hu; exact hr0
    | n + 1, hx, hu => simp at hx
  · subst he
    cases hr
    exact ⟨_, rfl, hpost W' hb⟩
set_option maxRecDepth 100000 in
theorem batchBuilt_lifted (os : Os) (started : os.Started) (H : Type) (enc : TypeId × Value → H) (F : Stop.Interp) :
    ReturnsInHanded {} Try.checked os 3 .any ((Rows.OpenSpec.upto Rows.batchBuiltSpec).pre6 enc Try.prog Try.f3 Rows.batchBuiltUptoRow.domain false) (((Rows.OpenSpec.upto Rows.batchBuiltSpec).at F).post enc Try.prog Try.f3 false true false false) := by
  refine returnsInHanded_of_cond (C := Try.checked) (s := Rows.OpenSpec.upto Rows.batchBuiltSpec) (k := Rows.uptoSmall) rfl own started (by kernel_rfl) Try.func3
    (OpenSpec.witness (enc := enc) (C := Try.checked) (s := Rows.OpenSpec.upto Rows.batchBuiltSpec) (k := Rows.uptoSmall) rfl false ⟨#[], #[.slice none 0 0], []⟩ 8 (by kernel_rfl) (by kernel_rfl) (by kernel_rfl)
      (x := ([.nil], [], [])) (by kernel_rfl) rfl (by kernel_rfl)) ?_
  intro W base args ds gs before hval hW _ hk _
  exact batchBuilt_contract H enc W base args ds gs before hval hW hk
theorem batchBuilt_proved : Rows.BatchBuiltUptoSaid :=
  OpenClaim.holds_of_cond 3 Try.f3 rfl rfl rfl rfl rfl rfl rfl ⟨rfl, rfl, rfl, rfl, rfl⟩ rfl rfl rfl rfl rfl (by kernel_rfl) Try.func3 (by kernel_rfl)
    (of_decide_eq_true (by kernel_rfl)) (by unfold Func.isWrapper; first | (rw [if_pos (by decide +kernel)]; kernel_rfl) | (rw [if_neg (by decide +kernel)]; exact ⟨rfl, rfl⟩))
    (fun os started H enc _ F => batchBuilt_lifted os started H enc F)
#print axioms batchBuilt_proved
end Go.Proofs.Ytadnfmkdmknmhaa
