/-
  The statement ShardFull: whatever the input, the law returns true and its arguments read as before.
-/
import Derived.Test.YtjillamaceggeaaGreatRows
import Derived.Test.YtjillamaceggeaaGreatB9fa96b4
import Derived.Test.YtjillamaceggeaaGreatB35d80e4
import Derived.Test.YtjillamaceggeaaGreatB3d7dd02
import Derived.ProofKit
import Derived.Test.YtjillamaceggeaaGreatB68d2977
set_option linter.unusedSimpArgs false
set_option linter.unusedVariables false
namespace Go.Proofs.YtjillamaceggeaaGreat
open Go Go.ChangeShapes Go.WideShapes Go.ChangeAt Go.RowKit Go.Sim
theorem own : ownKnob Tryz.prog.godebug = none := by kernel_rfl
theorem laid : laidOutB Tryz.prog = true := by kernel_rfl
set_option maxRecDepth 100000 in
theorem shardFull_lifted (os : Os) (started : os.Started) (H : Type) (enc : TypeId × Value → H) :
    ReturnsInHanded {} Tryz.checked os 7 .any (Rows.shardFullSpec.pre6 enc Tryz.prog Tryz.f7 Rows.shardFullRow.domain false) (Rows.shardFullSpec.post enc Tryz.prog Tryz.f7 false true false false) := by
  refine returnsInHanded_of_change (C := Tryz.checked) own started (by kernel_rfl) Tryz.func7
    (ChangeSpec.witness6 (enc := enc) (C := Tryz.checked) false ⟨#[], #[.int .i64 0, .int .i64 0], []⟩ 8 (by kernel_rfl) (by kernel_rfl) (by kernel_rfl) (by kernel_rfl)) ?_
  intro W base args ds gs before hval0 hW hcnd _
  have hval : ∀ (j : Nat) t v, Tryz.f7.params[j]? = some t → args[j]? = some v → Value.okWide Tryz.prog W .any base t v := hval0
  have hW' := hW
  obtain ⟨p, q, hA0, hV, rfl, hfz, hnd⟩ := hW
  have hA : DataW.TrodAll enc Tryz.prog W 0 (fun _ => true) true Tryz.f7.params.toList args.toList ds p := hA0
  rw [Tryz.params7] at hA hval
  obtain ⟨v0, vs0, d0, ds0, p0, q0, hargs, rfl, rfl, h0, r0⟩ := trodAll_cons hA
  obtain ⟨v1, vs1, d1, ds1, p1, q1, rfl, rfl, rfl, h1, r1⟩ := trodAll_cons r0
  obtain ⟨rfl, rfl, rfl⟩ := trodAll_nil r1
  obtain rfl : args = #[v0, v1] := by cases args; simp_all
  obtain ⟨rfl, rfl⟩ := trodVars_none hV
  obtain ⟨a0, rfl, rfl, rfl, w0⟩ := open_int Tryz.underlying3 (hval 0 3 v0 rfl rfl) h0
  obtain ⟨a1, rfl, rfl, rfl, w1⟩ := open_int Tryz.underlying3 (hval 1 3 v1 rfl rfl) h1
  have hc := (full_ok a0 a1)
  refine (data_calls gok (ds := [.int .i64 a0, .int .i64 a1]) hc (w := W) (us := [.int .i64 a0, .int .i64 a1]) rfl fun i x u hx hu => ?_).mono fun e W' ⟨u, he, hb, R', hr⟩ => ?_
  · match i, hx, hu with
    | 0, hx, hu => simp at hx hu; subst hx hu; exact .int (wf_has w0)
    | 1, hx, hu => simp at hx hu; subst hx hu; exact .int (wf_has w1)
    | n + 2, hx, hu => simp at hx
  · subst he
    cases hr
    exact ⟨_, rfl, post_true (by kernel_rfl) Tryz.underlying4 laid (by rw [Tryz.params7]; intro t ht; simp at ht; subst ht; exact ⟨by kernel_rfl, of_decide_eq_true (by kernel_rfl)⟩) hW' rfl rfl hb⟩
theorem shardFull_proved : Rows.ShardFullSaid :=
  OpenClaim.holds_of_wide 7 Tryz.f7 rfl rfl rfl rfl rfl rfl rfl ⟨rfl, rfl, rfl, rfl, rfl⟩ rfl rfl rfl rfl rfl t_shardFull_n Tryz.func7 t_shardFull_j t_shardFull_i t_shardFull_w
    (fun os started H enc _ => shardFull_lifted os started H enc)
#print axioms shardFull_proved
end Go.Proofs.YtjillamaceggeaaGreat
