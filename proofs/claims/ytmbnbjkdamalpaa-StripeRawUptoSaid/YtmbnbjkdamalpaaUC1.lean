/-
  The statement StripeRaw, for arguments up to the given bound: whatever the input, the law returns true and its arguments read as before.
-/
import Derived.Test.YtmbnbjkdamalpaaRows
import Derived.Test.YtmbnbjkdamalpaaBaedfe80
import Derived.Test.YtmbnbjkdamalpaaB7f0b338
import Derived.Test.YtmbnbjkdamalpaaBbf450a3
import Derived.ProofKit
import Derived.JoinedCond
set_option linter.unusedSimpArgs false
set_option linter.unusedVariables false
namespace Go.Proofs.Ytmbnbjkdamalpaa
open Go Go.ChangeShapes Go.WideShapes Go.ChangeAt Go.RowKit Go.Sim
theorem own : ownKnob Try.prog.godebug = none := by kernel_rfl
theorem laid : laidOutB Try.prog = true := by kernel_rfl
theorem bulk_ok {H : Type} : Bulk (Rows.uptoBulk (H := H)) Rows.uptoBulkAll where
  sl _ _ := by simp only [Rows.uptoBulk]
  agg _ := by simp only [Rows.uptoBulk]
  str _ := by simp only [Rows.uptoBulk]
  nil := by simp only [Rows.uptoBulkAll]
  cons _ _ := by simp only [Rows.uptoBulkAll]
  pos d := by
    cases d with
    | lit l => cases l <;> simp [Rows.uptoBulk]
    | _ => simp [Rows.uptoBulk]
set_option maxRecDepth 100000 in
theorem stripeRaw_contract (H : Type) (enc : TypeId × Value → H) (W : Go.World) (base : Nat) (args : Array Value) (ds gs : List (DataW H)) (before : List MemPlace)
    (hval : ∀ (j : Nat) t v, Try.f4.params[j]? = some t → args[j]? = some v → Value.okWide Try.prog W .any base t v)
    (hW : DataW.Whole enc Try.prog Try.f4.params.toList Rows.stripeRawSpec.vars false W args.toList ds gs before) (hk : Rows.uptoSmall H (ds ++ gs) = true) :
    Calls Try.prog 4 args W fun e W' => ∃ v, e = .returned v ∧ Rows.stripeRawSpec.post enc Try.prog Try.f4 false true false false W args v W' := by
  have hW' := hW
  obtain ⟨p, q, hA0, hV, rfl, hfz, hnd⟩ := hW
  have hA : DataW.TrodAll enc Try.prog W 0 (fun _ => true) true Try.f4.params.toList args.toList ds p := hA0
  rw [Try.params4] at hA hval
  obtain ⟨v0, vs0, d0, ds0, p0, q0, hargs, rfl, rfl, h0, r0⟩ := trodAll_cons hA
  obtain ⟨v1, vs1, d1, ds1, p1, q1, rfl, rfl, rfl, h1, r1⟩ := trodAll_cons r0
  obtain ⟨v2, vs2, d2, ds2, p2, q2, rfl, rfl, rfl, h2, r2⟩ := trodAll_cons r1
  obtain ⟨v3, vs3, d3, ds3, p3, q3, rfl, rfl, rfl, h3, r3⟩ := trodAll_cons r2
  obtain ⟨v4, vs4, d4, ds4, p4, q4, rfl, rfl, rfl, h4, r4⟩ := trodAll_cons r3
  obtain ⟨v5, vs5, d5, ds5, p5, q5, rfl, rfl, rfl, h5, r5⟩ := trodAll_cons r4
  obtain ⟨rfl, rfl, rfl⟩ := trodAll_nil r5
  obtain rfl : args = #[v0, v1, v2, v3, v4, v5] := by cases args; simp_all
  obtain ⟨rfl, rfl⟩ := trodVars_none hV
  have hpost : ∀ W', Below W.heap.size W W' → Rows.stripeRawSpec.post enc Try.prog Try.f4 false true false false W #[v0, v1, v2, v3, v4, v5] (.bool true) W' := fun W' hb =>
    post_true (by kernel_rfl) Try.underlying4 laid (by rw [Try.params4]; intro t ht; simp at ht; rcases ht with rfl | rfl | rfl | rfl <;> exact ⟨by kernel_rfl, of_decide_eq_true (by kernel_rfl)⟩) hW' rfl rfl hb
  simp only [List.append_nil] at hk
  have hb : Rows.uptoBulkAll [d0, d1, d2, d3, d4, d5] ≤ 1048576 := of_decide_eq_true hk
  simp only [Rows.uptoBulkAll] at hb
  obtain ⟨x0, hs0, hr0⟩ := open_arg bulk_ok (m := 12) (sh := .agg [.int .i64, .int .i64, .int .i64, .int .i64]) h0 (by kernel_rfl) (by simp only [BIG]; omega) (hval 0 38 v0 rfl rfl)
  obtain ⟨x1, hs1, hr1⟩ := open_arg bulk_ok (m := 12) (sh := .agg [.bool, .int .i64, .int .i64, .agg [.sl (.agg [.int .i64, .int .i64, .int .i64, .int .i64, .int .i64, .int .i64, .str]), .int .i64, .int .i64], .agg [.sl (.agg [.agg [.int .i64, .int .i64, .int .i64, .int .i64, .int .i64, .int .i64, .str], .int .i64]), .sl (.agg [.int .i64, .int .i64])]]) h1 (by kernel_rfl) (by simp only [BIG]; omega) (hval 1 35 v1 rfl rfl)
  obtain ⟨x2, hs2, hr2⟩ := open_arg bulk_ok (m := 12) (sh := .int .i64) h2 (by kernel_rfl) (by simp only [BIG]; omega) (hval 2 3 v2 rfl rfl)
  obtain ⟨x3, hs3, hr3⟩ := open_arg bulk_ok (m := 12) (sh := .int .i64) h3 (by kernel_rfl) (by simp only [BIG]; omega) (hval 3 3 v3 rfl rfl)
  obtain ⟨x4, hs4, hr4⟩ := open_arg bulk_ok (m := 12) (sh := .sl (.agg [.int .i64, .int .i64, .int .i64, .int .i64])) h4 (by kernel_rfl) (by simp only [BIG]; omega) (hval 4 25 v4 rfl rfl)
  obtain ⟨x5, hs5, hr5⟩ := open_arg bulk_ok (m := 12) (sh := .sl (.agg [.int .i64, .int .i64, .int .i64, .int .i64])) h5 (by kernel_rfl) (by simp only [BIG]; omega) (hval 5 25 v5 rfl rfl)
  obtain ⟨s, rfl⟩ := ex_stripe hs0
  obtain ⟨x, rfl, hc1, hc2, hc3⟩ := ex_shard hs1
  obtain ⟨n2, rfl, _⟩ := ex_int hs2
  obtain ⟨n3, rfl, _⟩ := ex_int hs3
  obtain ⟨a, rfl, ha⟩ := ex_list hs4 fun e he => ex_stripe he
  obtain ⟨b, rfl, hbb⟩ := ex_list hs5 fun e he => ex_stripe he
  refine (data_calls gok (ds := [eStripe s, eShard x, .int .i64 n2, .int .i64 n3, .sl (a.map eStripe), .sl (b.map eStripe)]) (straw_ok s x n2 n3 a b (by simp only [BIG] at *; omega) (by simp only [BIG] at *; omega) (by simp only [BIG] at *; omega) (by simp only [BIG] at *; omega) (by simp only [BIG] at *; omega)) (w := W) (us := [v0, v1, v2, v3, v4, v5]) rfl fun i x u hx hu => ?_).mono fun e W' ⟨u, he, hb, R', hr⟩ => ?_
  · match i, hx, hu with
    | 0, hx, hu => simp at hx hu; subst hx hu; exact hr0
    | 1, hx, hu => simp at hx hu; subst hx hu; exact hr1
    | 2, hx, hu => simp at hx hu; subst hx hu; exact hr2
    | 3, hx, hu => simp at hx hu; subst hx hu; exact hr3
    | 4, hx, hu => simp at hx hu; subst hx hu; exact hr4
    | 5, hx, hu => simp at hx hu; subst hx hu; exact hr5
    | n + 6, hx, hu => simp at hx
  · subst he
    cases hr
    exact ⟨_, rfl, hpost W' hb⟩
set_option maxRecDepth 100000 in
theorem stripeRaw_lifted (os : Os) (started : os.Started) (H : Type) (enc : TypeId × Value → H) (F : Stop.Interp) :
    ReturnsInHanded {} Try.checked os 4 .any ((Rows.OpenSpec.upto Rows.stripeRawSpec).pre6 enc Try.prog Try.f4 Rows.stripeRawUptoRow.domain false) (((Rows.OpenSpec.upto Rows.stripeRawSpec).at F).post enc Try.prog Try.f4 false true false false) := by
  refine returnsInHanded_of_cond (C := Try.checked) (s := Rows.OpenSpec.upto Rows.stripeRawSpec) (k := Rows.uptoSmall) rfl own started (by kernel_rfl) Try.func4
    (OpenSpec.witness (enc := enc) (C := Try.checked) (s := Rows.OpenSpec.upto Rows.stripeRawSpec) (k := Rows.uptoSmall) rfl false ⟨#[], #[.agg #[.int .i64 0, .int .i64 0, .int .i64 0, .int .i64 0], .agg #[.bool false, .int .i64 0, .int .i64 0, .slice none 0 0, .int .i64 0, .int .i64 0, .slice none 0 0, .slice none 0 0], .int .i64 0, .int .i64 0, .slice none 0 0, .slice none 0 0], []⟩ 8 (by kernel_rfl) (by kernel_rfl) (by kernel_rfl)
      (x := ([.agg [.lit (.int .i64 0), .lit (.int .i64 0), .lit (.int .i64 0), .lit (.int .i64 0)], .agg [.lit (.bool false), .lit (.int .i64 0), .lit (.int .i64 0), .agg [.nil, .lit (.int .i64 0), .lit (.int .i64 0)], .agg [.nil, .nil]], .lit (.int .i64 0), .lit (.int .i64 0), .nil, .nil], [], [])) (by kernel_rfl) rfl (by kernel_rfl)) ?_
  intro W base args ds gs before hval hW _ hk _
  exact stripeRaw_contract H enc W base args ds gs before hval hW hk
theorem stripeRaw_proved : Rows.StripeRawUptoSaid :=
  OpenClaim.holds_of_cond 4 Try.f4 rfl rfl rfl rfl rfl rfl rfl ⟨rfl, rfl, rfl, rfl, rfl⟩ rfl rfl rfl rfl rfl (by kernel_rfl) Try.func4 (by kernel_rfl)
    (of_decide_eq_true (by kernel_rfl)) (by unfold Func.isWrapper; first | (rw [if_pos (by decide +kernel)]; kernel_rfl) | (rw [if_neg (by decide +kernel)]; exact ⟨rfl, rfl⟩))
    (fun os started H enc _ F => stripeRaw_lifted os started H enc F)
#print axioms stripeRaw_proved
end Go.Proofs.Ytmbnbjkdamalpaa
