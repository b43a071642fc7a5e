/-
  The statement DueRaw, for arguments up to the given bound: whatever the input, the law returns true and its arguments read as before.
-/
import Derived.Test.YtlphhhmicdjljabRows
import Derived.Test.YtlphhhmicdjljabQE1
import Derived.Test.YtlphhhmicdjljabQPK
import Derived.Test.YtlphhhmicdjljabXP
import Derived.ProofKit
import Derived.JoinedCond
namespace Go.Proofs.Ytlphhhmicdjljab
set_option linter.unusedSimpArgs false
set_option linter.unusedVariables false
open Go Go.ChangeShapes Go.WideShapes Go.ChangeAt Go.RowKit Go.Sim

theorem own : ownKnob Try.prog.godebug = none := by kernel_rfl
theorem laid : laidOutB Try.prog = true := by kernel_rfl
theorem bulk_ok {H : Type} : Bulk (Rows.uptoBulk (H := H)) Rows.uptoBulkAll where
  sl _ _ := by simp only [Rows.uptoBulk]
  agg _ := by simp only [Rows.uptoBulk]
  str _ := by simp only [Rows.uptoBulk]
  nil := by simp only [Rows.uptoBulkAll]
  cons _ _ := by simp only [Rows.uptoBulkAll]
  pos d := by
    cases d with
    | lit l => cases l <;> simp [Rows.uptoBulk]
    | _ => simp [Rows.uptoBulk]
set_option maxRecDepth 100000 in
theorem dueRaw_contract (H : Type) (enc : TypeId × Value → H) (W : World) (base : Nat) (args : Array Value) (ds gs : List (DataW H)) (before : List MemPlace)
    (hval : ∀ (j : Nat) t v, Try.f5.params[j]? = some t → args[j]? = some v → Value.okWide Try.prog W .any base t v)
    (hW : DataW.Whole enc Try.prog Try.f5.params.toList Rows.dueRawSpec.vars false W args.toList ds gs before) (hk : Rows.uptoSmall H (ds ++ gs) = true) :
    Calls Try.prog 5 args W fun e W' => ∃ v, e = .returned v ∧ Rows.dueRawSpec.post enc Try.prog Try.f5 false true false false W args v W' := by
  have hW' := hW
  obtain ⟨p, q, hA0, hV, rfl, hfz, hnd⟩ := hW
  have hA : DataW.TrodAll enc Try.prog W 0 (fun _ => true) true Try.f5.params.toList args.toList ds p := hA0
  rw [Try.params5] at hA hval
  obtain ⟨v0, vs0, d0, ds0, p0, q0, hargs, rfl, rfl, h0, r0⟩ := trodAll_cons hA
  obtain ⟨v1, vs1, d1, ds1, p1, q1, rfl, rfl, rfl, h1, r1⟩ := trodAll_cons r0
  obtain ⟨v2, vs2, d2, ds2, p2, q2, rfl, rfl, rfl, h2, r2⟩ := trodAll_cons r1
  obtain ⟨v3, vs3, d3, ds3, p3, q3, rfl, rfl, rfl, h3, r3⟩ := trodAll_cons r2
  obtain ⟨rfl, rfl, rfl⟩ := trodAll_nil r3
  obtain rfl : args = #[v0, v1, v2, v3] := by cases args; simp_all
  obtain ⟨rfl, rfl⟩ := trodVars_none hV
  have hpost : ∀ W', Below W.heap.size W W' → Rows.dueRawSpec.post enc Try.prog Try.f5 false true false false W #[v0, v1, v2, v3] (.bool true) W' := fun W' hb =>
    post_true (by kernel_rfl) Try.underlying4 laid (by rw [Try.params5]; intro t ht; simp at ht; rcases ht with rfl | rfl | rfl <;> exact ⟨by kernel_rfl, of_decide_eq_true (by kernel_rfl)⟩) hW' rfl rfl hb
  simp only [List.append_nil] at hk
  have hb : Rows.uptoBulkAll [d0, d1, d2, d3] ≤ 1048576 := of_decide_eq_true hk
  simp only [Rows.uptoBulkAll] at hb
  obtain ⟨x0, hs0, hr0⟩ := open_arg bulk_ok (m := 12) (sh := .sl (.agg [.int .i64, .int .i64])) h0 (by kernel_rfl) (by simp only [BIG]; omega) (hval 0 34 v0 rfl rfl)
  obtain ⟨x1, hs1, hr1⟩ := open_arg bulk_ok (m := 12) (sh := .agg [.int .i64, .int .i64]) h1 (by kernel_rfl) (by simp only [BIG]; omega) (hval 1 40 v1 rfl rfl)
  obtain ⟨x2, hs2, hr2⟩ := open_arg bulk_ok (m := 12) (sh := .int .i64) h2 (by kernel_rfl) (by simp only [BIG]; omega) (hval 2 3 v2 rfl rfl)
  obtain ⟨x3, hs3, hr3⟩ := open_arg bulk_ok (m := 12) (sh := .int .i64) h3 (by kernel_rfl) (by simp only [BIG]; omega) (hval 3 3 v3 rfl rfl)
  obtain ⟨h, rfl, hl⟩ := ex_list hs0 (fun e he => ex_due he)
  obtain ⟨d, rfl⟩ := ex_due hs1
  obtain ⟨a, rfl, _⟩ := ex_int hs2
  obtain ⟨b, rfl, _⟩ := ex_int hs3
  refine (data_calls gok (ds := [.sl (h.map eD), eD d, .int .i64 a, .int .i64 b]) (dueRaw_ok h d a b (by simp only [BIG, LIM] at *; omega)) (w := W) (us := [v0, v1, v2, v3]) rfl fun i x u hx hu => ?_).mono fun e W' ⟨u, he, hb, R', hr⟩ => ?_
  · match i, hx, hu with
    | 0, hx, hu => simp at hx hu; subst hx hu; exact hr0
    | 1, hx, hu => simp at hx hu; subst hx hu; exact hr1
    | 2, hx, hu => simp at hx hu; subst hx hu; exact hr2
    | 3, hx, hu => simp at hx hu; subst hx hu; exact hr3
    | n + 4, hx, hu => simp at hx
  · subst he
    cases hr
    exact ⟨_, rfl, hpost W' hb⟩

set_option maxRecDepth 100000 in
theorem dueRaw_lifted (os : Os) (started : os.Started) (H : Type) (enc : TypeId × Value → H) (F : Stop.Interp) :
    ReturnsInHanded {} Try.checked os 5 .any ((Rows.OpenSpec.upto Rows.dueRawSpec).pre6 enc Try.prog Try.f5 Rows.dueRawUptoRow.domain false) (((Rows.OpenSpec.upto Rows.dueRawSpec).at F).post enc Try.prog Try.f5 false true false false) := by
  refine returnsInHanded_of_cond (C := Try.checked) (s := Rows.OpenSpec.upto Rows.dueRawSpec) (k := Rows.uptoSmall) rfl own started (by kernel_rfl) Try.func5
    (OpenSpec.witness (enc := enc) (C := Try.checked) (s := Rows.OpenSpec.upto Rows.dueRawSpec) (k := Rows.uptoSmall) rfl false ⟨#[], #[.slice none 0 0, .agg #[.int .i64 0, .int .i64 0], .int .i64 0, .int .i64 0], []⟩ 8 (by kernel_rfl) (by kernel_rfl) (by kernel_rfl)
      (x := ([.nil, .agg [.lit (.int .i64 0), .lit (.int .i64 0)], .lit (.int .i64 0), .lit (.int .i64 0)], [], [])) (by kernel_rfl) rfl (by kernel_rfl)) ?_
  intro W base args ds gs before hval hW _ hk _
  exact dueRaw_contract H enc W base args ds gs before hval hW hk

theorem dueRaw_proved : Rows.DueRawUptoSaid :=
  OpenClaim.holds_of_cond 5 Try.f5 rfl rfl rfl rfl rfl rfl rfl ⟨rfl, rfl, rfl, rfl, rfl⟩ rfl rfl rfl rfl rfl (by kernel_rfl) Try.func5 (by kernel_rfl)
    (of_decide_eq_true (by kernel_rfl)) (by unfold Func.isWrapper; first | (rw [if_pos (by decide +kernel)]; kernel_rfl) | (rw [if_neg (by decide +kernel)]; exact ⟨rfl, rfl⟩))
    (fun os started H enc _ F => dueRaw_lifted os started H enc F)
#print axioms dueRaw_proved
end Go.Proofs.Ytlphhhmicdjljab
