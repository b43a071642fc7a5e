/-
  The statement about removing from a heap of deadlines holds, for arguments up to the given bound.
-/
import Derived.Test.YtlphhhmicdjljaaRows
import Derived.Test.YtlphhhmicdjljaaD9
import Derived.Test.YtlphhhmicdjljaaPK
import Derived.Test.YtlphhhmicdjljaaXN
import Derived.ProofKit
import Derived.JoinedCond
namespace Go.Proofs.Ytlphhhmicdjljaa
open Go.ChangeShapes Go.WideShapes Go.ChangeAt Go.RowKit Go.Sim
set_option linter.unusedSimpArgs false
set_option linter.unusedVariables false

theorem own : ownKnob Try.prog.godebug = none := by kernel_rfl
theorem laid : laidOutB Try.prog = true := by kernel_rfl
theorem lits_len {H : Type} (k : IntKind) (zs : List Int) : (lits (H := H) k zs).length = zs.length := by simp [lits]
theorem bulk_len {H : Type} : ∀ (l : List (DataW H)), l.length ≤ Rows.uptoBulkAll l := by
  intro l
  induction l with
  | nil => simp [Rows.uptoBulkAll]
  | cons x r ih =>
    have : 1 ≤ Rows.uptoBulk x := by
      cases x with
      | lit l => cases l <;> simp [Rows.uptoBulk]
      | _ => simp [Rows.uptoBulk]
    simp only [Rows.uptoBulkAll, List.length_cons]
    omega

set_option maxRecDepth 100000 in
theorem dueRemoves_contract (H : Type) (enc : TypeId × Value → H) (W : World) (base : Nat) (args : Array Value) (ds gs : List (DataW H)) (before : List MemPlace)
    (hval : ∀ (j : Nat) t v, Try.f5.params[j]? = some t → args[j]? = some v → Value.okWide Try.prog W .any base t v)
    (hW : DataW.Whole enc Try.prog Try.f5.params.toList Rows.dueRemovesSpec.vars false W args.toList ds gs before) (hk : Rows.uptoSmall H (ds ++ gs) = true) :
    Calls Try.prog 5 args W fun e W' => ∃ v, e = .returned v ∧ Rows.dueRemovesSpec.post enc Try.prog Try.f5 false true false false W args v W' := by
  have hW' := hW
  obtain ⟨p, q, hA0, hV, rfl, hfz, hnd⟩ := hW
  have hA : DataW.TrodAll enc Try.prog W 0 (fun _ => true) true Try.f5.params.toList args.toList ds p := hA0
  rw [Try.params5] at hA hval
  obtain ⟨v0, vs0, d0, ds0, p0, q0, hargs, rfl, rfl, h0, r0⟩ := trodAll_cons hA
  obtain ⟨rfl, rfl, rfl⟩ := trodAll_nil r0
  obtain rfl : args = #[v0] := by cases args; simp_all
  obtain ⟨rfl, rfl⟩ := trodVars_none hV
  have hpost : ∀ W', Below W.heap.size W W' → Rows.dueRemovesSpec.post enc Try.prog Try.f5 false true false false W #[v0] (.bool true) W' := fun W' hb =>
    post_true (by kernel_rfl) Try.underlying4 laid (by rw [Try.params5]; intro t ht; simp at ht; subst ht; exact ⟨by kernel_rfl, of_decide_eq_true (by kernel_rfl)⟩) hW' rfl rfl hb
  obtain ⟨fuel, hf⟩ := h0
  obtain ⟨a0, len0, cap0, rfl⟩ := okWide_slice Try.underlying30 (hval 0 30 v0 rfl rfl)
  have key : ∃ l : List Int, l.length ≤ LIM ∧ Rd W (fun b => b < W.heap.size) (.v (.sl (ints l)) (.slice a0 len0 cap0)) := by
    rcases open_ints Try.underlying30 Try.underlying3 (by kernel_rfl) hf with ⟨hcs, hx⟩ | ⟨a, len, cap, zs, hcs, _, hl, hm, hz, hx, hcell, hwz⟩
    · simp [Value.cells] at hcs
      obtain ⟨rfl, rfl, rfl⟩ := hcs
      exact ⟨[], by simp, .sl0⟩
    · simp [Value.cells] at hcs
      obtain ⟨rfl, rfl, rfl⟩ := hcs
      simp only [if_true] at hz
      simp only [Prod.mk.injEq] at hx
      obtain ⟨rfl, -⟩ := hx
      simp only [List.append_nil] at hk
      have hb : Rows.uptoBulkAll [DataW.slice (H := H) (lits .i64 (zs.take len0)) (lits .i64 (zs.drop len0))] ≤ 1048576 := of_decide_eq_true hk
      simp only [Rows.uptoBulkAll, Rows.uptoBulk] at hb
      have := bulk_len (lits (H := H) .i64 (zs.take len0))
      rw [lits_len, List.length_take] at this
      exact ⟨zs.take len0, by simp only [LIM, List.length_take]; omega, rd_ints hl (by omega) (by simp only [LIM]; omega) hcell hwz⟩
  obtain ⟨l, hL, hl⟩ := key
  refine (data_calls gok (ds := [.sl (ints l)]) (dueRemoves_ok l hL) (w := W) (us := [.slice a0 len0 cap0]) rfl fun i x u hx hu => ?_).mono fun e W' ⟨u, he, hb, R', hr⟩ => ?_
  · match i, hx, hu with
    | 0, hx, hu => simp at hx hu; subst hx hu; exact hl
    | n + 1, hx, hu => simp at hx
  · subst he
    cases hr
    exact ⟨_, rfl, hpost W' hb⟩

set_option maxRecDepth 100000 in
theorem dueRemoves_lifted (os : Os) (started : os.Started) (H : Type) (enc : TypeId × Value → H) (F : Stop.Interp) :
    ReturnsInHanded {} Try.checked os 5 .any ((Rows.OpenSpec.upto Rows.dueRemovesSpec).pre6 enc Try.prog Try.f5 Rows.dueRemovesUptoRow.domain false) (((Rows.OpenSpec.upto Rows.dueRemovesSpec).at F).post enc Try.prog Try.f5 false true false false) := by
  refine returnsInHanded_of_cond (C := Try.checked) (s := Rows.OpenSpec.upto Rows.dueRemovesSpec) (k := Rows.uptoSmall) rfl own started (by kernel_rfl) Try.func5
    (OpenSpec.witness (enc := enc) (C := Try.checked) (s := Rows.OpenSpec.upto Rows.dueRemovesSpec) (k := Rows.uptoSmall) rfl false ⟨#[], #[.slice none 0 0], []⟩ 8 (by kernel_rfl) (by kernel_rfl) (by kernel_rfl)
      (x := ([.nil], [], [])) (by kernel_rfl) rfl (by kernel_rfl)) ?_
  intro W base args ds gs before hval hW _ hk _
  exact dueRemoves_contract H enc W base args ds gs before hval hW hk

theorem dueRemoves_proved : Rows.DueRemovesUptoSaid :=
  OpenClaim.holds_of_cond 5 Try.f5 rfl rfl rfl rfl rfl rfl rfl ⟨rfl, rfl, rfl, rfl, rfl⟩ rfl rfl rfl rfl rfl (by kernel_rfl) Try.func5 (by kernel_rfl)
    (of_decide_eq_true (by kernel_rfl)) (by unfold Func.isWrapper; first | (rw [if_pos (by decide +kernel)]; kernel_rfl) | (rw [if_neg (by decide +kernel)]; exact ⟨rfl, rfl⟩))
    (fun os started H enc _ F => dueRemoves_lifted os started H enc F)
#print axioms dueRemoves_proved
end Go.Proofs.Ytlphhhmicdjljaa
