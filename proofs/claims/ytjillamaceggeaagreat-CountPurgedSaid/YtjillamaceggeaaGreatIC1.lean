/-
  The statement CountPurged: whatever the input, the law returns true and its arguments read as before.
-/
import Derived.Test.YtjillamaceggeaaGreatRows
import Derived.Test.YtjillamaceggeaaGreatBca6e221
import Derived.Test.YtjillamaceggeaaGreatB7f9d8a1
import Derived.Test.YtjillamaceggeaaGreatB3c0cb33
import Derived.ProofKit
import Derived.Test.YtjillamaceggeaaGreatB7315d71
set_option linter.unusedSimpArgs false
set_option linter.unusedVariables false
namespace Go.Proofs.YtjillamaceggeaaGreat
open Go Go.ChangeShapes Go.WideShapes Go.ChangeAt Go.RowKit Go.Sim
theorem own : ownKnob Tryz.prog.godebug = none := by kernel_rfl
theorem laid : laidOutB Tryz.prog = true := by kernel_rfl
set_option maxRecDepth 100000 in
theorem countPurged_lifted (os : Os) (started : os.Started) (H : Type) (enc : TypeId × Value → H) :
    ReturnsInHanded {} Tryz.checked os 5 .any (Rows.countPurgedSpec.pre6 enc Tryz.prog Tryz.f5 Rows.countPurgedRow.domain false) (Rows.countPurgedSpec.post enc Tryz.prog Tryz.f5 false true false false) := by
  refine returnsInHanded_of_change (C := Tryz.checked) own started (by kernel_rfl) Tryz.func5
    (ChangeSpec.witness6 (enc := enc) (C := Tryz.checked) false ⟨#[], #[.int .u8 0], []⟩ 8 (by kernel_rfl) (by kernel_rfl) (by kernel_rfl) (by kernel_rfl)) ?_
  intro W base args ds gs before hval0 hW hcnd _
  have hval : ∀ (j : Nat) t v, Tryz.f5.params[j]? = some t → args[j]? = some v → Value.okWide Tryz.prog W .any base t v := hval0
  have hW' := hW
  obtain ⟨p, q, hA0, hV, rfl, hfz, hnd⟩ := hW
  have hA : DataW.TrodAll enc Tryz.prog W 0 (fun _ => true) true Tryz.f5.params.toList args.toList ds p := hA0
  rw [Tryz.params5] at hA hval
  obtain ⟨v0, vs0, d0, ds0, p0, q0, hargs, rfl, rfl, h0, r0⟩ := trodAll_cons hA
  obtain ⟨rfl, rfl, rfl⟩ := trodAll_nil r0
  obtain rfl : args = #[v0] := by cases args; simp_all
  obtain ⟨rfl, rfl⟩ := trodVars_none hV
  obtain ⟨a0, rfl, rfl, rfl, w0⟩ := open_int Tryz.underlying5 (hval 0 5 v0 rfl rfl) h0
  have hx0 : 0 ≤ a0 ∧ a0 ≤ 255 := by simpa [Lit.wf, IntKind.min, IntKind.max, IntKind.signed, IntKind.bits] using w0
  have hc := (purged_ok a0.toNat (by omega))
  rw [show ((a0.toNat : Nat) : Int) = a0 by omega] at hc
  refine (data_calls gok (ds := [.int .u8 a0]) hc (w := W) (us := [.int .u8 a0]) rfl fun i x u hx hu => ?_).mono fun e W' ⟨u, he, hb, R', hr⟩ => ?_
  · match i, hx, hu with
    | 0, hx, hu => simp at hx hu; subst hx hu; exact .int (wf_has w0)
    | n + 1, hx, hu => simp at hx
  · subst he
    cases hr
    exact ⟨_, rfl, post_true (by kernel_rfl) Tryz.underlying4 laid (by rw [Tryz.params5]; intro t ht; simp at ht; subst ht; exact ⟨by kernel_rfl, of_decide_eq_true (by kernel_rfl)⟩) hW' rfl rfl hb⟩
theorem countPurged_proved : Rows.CountPurgedSaid :=
  OpenClaim.holds_of_wide 5 Tryz.f5 rfl rfl rfl rfl rfl rfl rfl ⟨rfl, rfl, rfl, rfl, rfl⟩ rfl rfl rfl rfl rfl t_countPurged_n Tryz.func5 t_countPurged_j t_countPurged_i t_countPurged_w
    (fun os started H enc _ => countPurged_lifted os started H enc)
#print axioms countPurged_proved
end Go.Proofs.YtjillamaceggeaaGreat
