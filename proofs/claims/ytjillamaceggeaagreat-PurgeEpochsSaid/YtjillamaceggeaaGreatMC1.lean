/-
  The statement PurgeEpochs: whatever the input, the law returns true and its arguments read as before.
-/
import Derived.Test.YtjillamaceggeaaGreatRows
import Derived.Test.YtjillamaceggeaaGreatBd552328
import Derived.Test.YtjillamaceggeaaGreatBdcd2e93
import Derived.Test.YtjillamaceggeaaGreatB65c6baf
import Derived.ProofKit
import Derived.Test.YtjillamaceggeaaGreatB0c182f3
set_option linter.unusedSimpArgs false
set_option linter.unusedVariables false
namespace Go.Proofs.YtjillamaceggeaaGreat
open Go Go.ChangeShapes Go.WideShapes Go.ChangeAt Go.RowKit Go.Sim
theorem own : ownKnob Tryz.prog.godebug = none := by kernel_rfl
theorem laid : laidOutB Tryz.prog = true := by kernel_rfl
set_option maxRecDepth 100000 in
theorem purgeEpochs_lifted (os : Os) (started : os.Started) (H : Type) (enc : TypeId × Value → H) :
    ReturnsInHanded {} Tryz.checked os 3 .any (Rows.purgeEpochsSpec.pre6 enc Tryz.prog Tryz.f3 Rows.purgeEpochsRow.domain false) (Rows.purgeEpochsSpec.post enc Tryz.prog Tryz.f3 false true false false) := by
  refine returnsInHanded_of_change (C := Tryz.checked) own started (by kernel_rfl) Tryz.func3
    (ChangeSpec.witness6 (enc := enc) (C := Tryz.checked) false ⟨#[], #[.int .u8 0, .int .u8 0], []⟩ 8 (by kernel_rfl) (by kernel_rfl) (by kernel_rfl) (by kernel_rfl)) ?_
  intro W base args ds gs before hval0 hW hcnd _
  have hval : ∀ (j : Nat) t v, Tryz.f3.params[j]? = some t → args[j]? = some v → Value.okWide Tryz.prog W .any base t v := hval0
  have hW' := hW
  obtain ⟨p, q, hA0, hV, rfl, hfz, hnd⟩ := hW
  have hA : DataW.TrodAll enc Tryz.prog W 0 (fun _ => true) true Tryz.f3.params.toList args.toList ds p := hA0
  rw [Tryz.params3] at hA hval
  obtain ⟨v0, vs0, d0, ds0, p0, q0, hargs, rfl, rfl, h0, r0⟩ := trodAll_cons hA
  obtain ⟨v1, vs1, d1, ds1, p1, q1, rfl, rfl, rfl, h1, r1⟩ := trodAll_cons r0
  obtain ⟨rfl, rfl, rfl⟩ := trodAll_nil r1
  obtain rfl : args = #[v0, v1] := by cases args; simp_all
  obtain ⟨rfl, rfl⟩ := trodVars_none hV
  obtain ⟨a0, rfl, rfl, rfl, w0⟩ := open_int Tryz.underlying5 (hval 0 5 v0 rfl rfl) h0
  have hx0 : 0 ≤ a0 ∧ a0 ≤ 255 := by simpa [Lit.wf, IntKind.min, IntKind.max, IntKind.signed, IntKind.bits] using w0
  obtain ⟨a1, rfl, rfl, rfl, w1⟩ := open_int Tryz.underlying5 (hval 1 5 v1 rfl rfl) h1
  have hx1 : 0 ≤ a1 ∧ a1 ≤ 255 := by simpa [Lit.wf, IntKind.min, IntKind.max, IntKind.signed, IntKind.bits] using w1
  have hc := (epochs_ok a0.toNat a1.toNat (by omega) (by omega))
  rw [show ((a0.toNat : Nat) : Int) = a0 by omega, show ((a1.toNat : Nat) : Int) = a1 by omega] at hc
  refine (data_calls gok (ds := [.int .u8 a0, .int .u8 a1]) hc (w := W) (us := [.int .u8 a0, .int .u8 a1]) rfl fun i x u hx hu => ?_).mono fun e W' ⟨u, he, hb, R', hr⟩ => ?_
  · match i, hx, hu with
    | 0, hx, hu => simp at hx hu; subst hx hu; exact .int (wf_has w0)
    | 1, hx, hu => simp at hx hu; subst hx hu; exact .int (wf_has w1)
    | n + 2, hx, hu => simp at hx
  · subst he
    cases hr
    exact ⟨_, rfl, post_true (by kernel_rfl) Tryz.underlying4 laid (by rw [Tryz.params3]; intro t ht; simp at ht; subst ht; exact ⟨by kernel_rfl, of_decide_eq_true (by kernel_rfl)⟩) hW' rfl rfl hb⟩
theorem purgeEpochs_proved : Rows.PurgeEpochsSaid :=
  OpenClaim.holds_of_wide 3 Tryz.f3 rfl rfl rfl rfl rfl rfl rfl ⟨rfl, rfl, rfl, rfl, rfl⟩ rfl rfl rfl rfl rfl t_purgeEpochs_n Tryz.func3 t_purgeEpochs_j t_purgeEpochs_i t_purgeEpochs_w
    (fun os started H enc _ => purgeEpochs_lifted os started H enc)
#print axioms purgeEpochs_proved
end Go.Proofs.YtjillamaceggeaaGreat
