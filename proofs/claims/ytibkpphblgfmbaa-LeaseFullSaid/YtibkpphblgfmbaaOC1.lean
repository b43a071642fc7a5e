/-
  The statement LeaseFull: whatever the input, the law returns true and its arguments read as before.
-/
import Derived.Test.YtibkpphblgfmbaaRows
import Derived.Test.YtibkpphblgfmbaaB0c4f7b4
import Derived.Test.YtibkpphblgfmbaaB03fc5f4
import Derived.ProofKit
set_option linter.unusedSimpArgs false
set_option linter.unusedVariables false
namespace Go.Proofs.Ytibkpphblgfmbaa
open Go Go.ChangeShapes Go.WideShapes Go.ChangeAt Go.RowKit Go.Sim

theorem gok2 : GOK Try.prog G2 := updR_ok gok 40 [N_due_Until, N_slices_Clone_api_Lease]
theorem own : ownKnob Try.prog.godebug = none := by kernel_rfl
theorem laid : laidOutB Try.prog = true := by kernel_rfl

set_option maxRecDepth 100000 in
theorem leaseFull_lifted (os : Os) (started : os.Started) (H : Type) (enc : TypeId × Value → H) :
    ReturnsInHanded {} Try.checked os 7 .any (Rows.leaseFullSpec.pre6 enc Try.prog Try.f7 Rows.leaseFullRow.domain false) (Rows.leaseFullSpec.post enc Try.prog Try.f7 false true false false) := by
  refine returnsInHanded_of_change (C := Try.checked) own started (by kernel_rfl) Try.func7
    (ChangeSpec.witness6 (enc := enc) (C := Try.checked) false ⟨#[], #[.int .u8 0], []⟩ 8 (by kernel_rfl) (by kernel_rfl) (by kernel_rfl) (by kernel_rfl)) ?_
  intro W base args ds gs before hval0 hW hcnd _
  have hval : ∀ (j : Nat) t v, Try.f7.params[j]? = some t → args[j]? = some v → Value.okWide Try.prog W .any base t v := hval0
  have hW' := hW
  obtain ⟨p, q, hA0, hV, rfl, hfz, hnd⟩ := hW
  have hA : DataW.TrodAll enc Try.prog W 0 (fun _ => true) true Try.f7.params.toList args.toList ds p := hA0
  rw [Try.params7] at hA hval
  obtain ⟨v0, vs0, d0, ds0, p0, q0, hargs, rfl, rfl, h0, r0⟩ := trodAll_cons hA
  obtain ⟨rfl, rfl, rfl⟩ := trodAll_nil r0
  obtain rfl : args = #[v0] := by cases args; simp_all
  obtain ⟨rfl, rfl⟩ := trodVars_none hV
  obtain ⟨a0, rfl, rfl, rfl, w0⟩ := open_int Try.underlying5 (hval 0 5 v0 rfl rfl) h0
  have hx0 : 0 ≤ a0 ∧ a0 ≤ 255 := by simpa [Lit.wf, IntKind.min, IntKind.max, IntKind.signed, IntKind.bits] using w0
  have hc := (L2.full_ok a0.toNat (by omega))
  rw [show ((a0.toNat : Nat) : Int) = a0 by omega] at hc
  refine (data_calls gok2 (ds := [.int .u8 a0]) hc (w := W) (us := [.int .u8 a0]) rfl fun i x u hx hu => ?_).mono fun e W' ⟨u, he, hb, R', hr⟩ => ?_
  · match i, hx, hu with
    | 0, hx, hu => simp at hx hu; subst hx hu; exact .int (wf_has w0)
    | n + 1, hx, hu => simp at hx
  · subst he
    cases hr
    exact ⟨_, rfl, post_true (by kernel_rfl) Try.underlying4 laid (by rw [Try.params7]; intro t ht; simp at ht; subst ht; exact ⟨by kernel_rfl, of_decide_eq_true (by kernel_rfl)⟩) hW' rfl rfl hb⟩

theorem leaseFull_proved : Rows.LeaseFullSaid :=
  OpenClaim.holds_of_wide 7 Try.f7 rfl rfl rfl rfl rfl rfl rfl ⟨rfl, rfl, rfl, rfl, rfl⟩ rfl rfl rfl rfl rfl (by kernel_rfl) Try.func7 (by kernel_rfl)
    (of_decide_eq_true (by kernel_rfl)) (by unfold Func.isWrapper; first | (rw [if_pos (by decide +kernel)]; kernel_rfl) | (rw [if_neg (by decide +kernel)]; exact ⟨rfl, rfl⟩))
    (fun os started H enc _ => leaseFull_lifted os started H enc)
#print axioms leaseFull_proved
end Go.Proofs.Ytibkpphblgfmbaa
