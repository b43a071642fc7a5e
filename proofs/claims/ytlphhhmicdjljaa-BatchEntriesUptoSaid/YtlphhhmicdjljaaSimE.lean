/-
  Each operation of the calculus is what the model's operation does: values, loads, stores, addresses.
-/
import Derived.Test.YtlphhhmicdjljaaSimD
import Derived.Deep.MidRow
import Derived.Deep.AppendSrc
import Derived.Lib.Strings
namespace Go.Sim
set_option linter.unusedSimpArgs false
set_option linter.unusedVariables false
open Go (World Value Addr TypeId Act)

/-- What one operation leaves. -/
def Good (C : Ctx) (S : St) (a : Act) (v : AV) (H : Heap) (r : Result Next) : Prop :=
  ∃ u w' ι' R', (r = .ok (.value u) w' ∨ (r = .ok .skip w' ∧ u = Go.undef)) ∧ Rel C ⟨S.env, H⟩ a w' ι' R' ∧ VA w' R' ι' (mark H) v u

variable {P : Program} {C : Ctx} {S : St} {a : Act} {w : World} {ι : Inj} {R : Nat → Prop}

theorem Good.same (h : Rel C S a w ι R) {v : AV} {u : Value} (hv : VA w R ι (mark S.heap) v u) {r : Result Next} (hr : r = .ok (.value u) w) : Good C S a v S.heap r :=
  ⟨u, w, ι, R, .inl hr, h, hv⟩

/-! ### What a value is, by what it is related to -/
section inv
variable {mk : Nat → Option Nat}
theorem VA.int_inv {k : IntKind} {n : Int} {u : Value} (h : VA w R ι mk (.d (.int k n)) u) : u = .int k n ∧ k.has n := by
  cases h with | d h => cases h with | int h => exact ⟨rfl, h⟩
theorem VA.bool_inv {b : Bool} {u : Value} (h : VA w R ι mk (.d (.bool b)) u) : u = .bool b := by
  cases h with | d h => cases h; rfl
theorem VA.str_inv {s : List UInt8} {u : Value} (h : VA w R ι mk (.d (.str s)) u) : u = .string ⟨s.toArray⟩ ∧ s.length ≤ LIM := by
  cases h with | d h => cases h with | str h => exact ⟨rfl, h⟩
theorem VA.pd_inv {x : D} {u : Value} (h : VA w R ι mk (.d (.pd x)) u) : ∃ b off, u = .pointer (some ⟨b, off, none⟩) ∧ R b ∧ Rd w R (.el x b off) := by
  cases h with | d h => cases h with | pd h1 h2 => exact ⟨_, _, rfl, h1, h2⟩
theorem VA.tupD_inv {cs : List D} {u : Value} (h : VA w R ι mk (.d (.tup cs)) u) : ∃ vs : List Value, u = .tuple vs.toArray ∧ vs.length = cs.length ∧ ∀ (i : Nat) (c : D) (q : Value), cs[i]? = some c → vs[i]? = some q → Rd w R (.v c q) := by
  cases h with | d h => cases h with | tup h1 h2 => exact ⟨_, rfl, h1, h2⟩
theorem VA.tup_inv {cs : List AV} {u : Value} (h : VA w R ι mk (.tup cs) u) : ∃ vs : List Value, u = .tuple vs.toArray ∧ vs.length = cs.length ∧ ∀ (i : Nat) (c : AV) (q : Value), cs[i]? = some c → vs[i]? = some q → VA w R ι mk c q := by
  cases h with | tup h1 h2 => exact ⟨_, rfl, h1, h2⟩
end inv

theorem has_wrap (k : IntKind) (n : Int) : k.has (k.wrap n) := by
  cases k <;> simp [IntKind.has, IntKind.wrap, IntKind.min, IntKind.max, IntKind.bits, IntKind.signed] <;> (try split) <;> omega

/-! ### Numbers, bools, strings -/
theorem tmod_has {k : IntKind} {x y : Int} (hx : k.has x) : k.has (x.tmod y) := by
  have h1 : (x.tmod y).natAbs ≤ x.natAbs := by rw [Int.natAbs_tmod]; exact Nat.mod_le _ _
  have h2 : 0 ≤ x → 0 ≤ x.tmod y := fun h => Int.tmod_nonneg _ h
  have h3 : x ≤ 0 → x.tmod y ≤ 0 := fun h => by have := Int.tmod_nonneg y (show 0 ≤ -x by omega); rw [Int.neg_tmod] at this; omega
  generalize x.tmod y = z at *
  cases k <;> simp [IntKind.has, IntKind.min, IntKind.max, IntKind.bits, IntKind.signed] at * <;> omega

theorem intBin_ok {T : TypeId} {op : BinOp} {k : IntKind} {x y : Int} {r : D} (h : intBin op k x y = some r) (hx : k.has x) (hop : op ≠ .shl ∧ op ≠ .shr) (w' : World) :
    ∃ u, (binOp op T (.int k x) (.int k y)).run P w' = .ok u w' ∧ ∀ (w : World) (R : Nat → Prop), Rd w R (.v r u) := by
  cases op <;> simp only [intBin, Option.some.injEq, reduceCtorEq] at h
  case add => subst h; exact ⟨_, by simp [binOp, Op.intArith], fun w R => .int (has_wrap _ _)⟩
  case sub => subst h; exact ⟨_, by simp [binOp, Op.intArith], fun w R => .int (has_wrap _ _)⟩
  case mul => subst h; exact ⟨_, by simp [binOp, Op.intArith], fun w R => .int (has_wrap _ _)⟩
  case quo => split at h; cases h; rename_i h0; cases h; exact ⟨_, by simp [binOp, Op.intDiv, h0], fun w R => .int (has_wrap _ _)⟩
  case rem => split at h; cases h; rename_i h0; cases h; exact ⟨_, by simp [binOp, Op.intDiv, h0], fun w R => .int (tmod_has hx)⟩
  case and => subst h; exact ⟨_, by simp [binOp, Op.intBits], fun w R => .int (has_wrap _ _)⟩
  case or => subst h; exact ⟨_, by simp [binOp, Op.intBits], fun w R => .int (has_wrap _ _)⟩
  case xor => subst h; exact ⟨_, by simp [binOp, Op.intBits], fun w R => .int (has_wrap _ _)⟩
  case andNot => subst h; exact ⟨_, by simp [binOp, Op.intBits], fun w R => .int (has_wrap _ _)⟩
  all_goals (subst h; exact ⟨_, by simp [binOp, Op.intCmp]; try rfl, fun w R => .bool⟩)


theorem pow_fdiv_has {k : IntKind} {x : Int} (n : Nat) (hx : k.has x) : k.has (x.fdiv (2 ^ n)) := by
  have hp : (0 : Int) < 2 ^ n := Int.pow_pos (by omega)
  rw [Int.fdiv_eq_ediv_of_nonneg _ (Int.le_of_lt hp)]
  have h1 : 0 ≤ x → 0 ≤ x / 2 ^ n ∧ x / 2 ^ n ≤ x := fun h => ⟨Int.ediv_nonneg h (Int.le_of_lt hp), Int.ediv_le_self _ h⟩
  have h2 : x < 0 → x ≤ x / 2 ^ n ∧ x / 2 ^ n < 0 := fun h => by
    refine ⟨?_, Int.ediv_neg_of_neg_of_pos h hp⟩
    rw [Int.le_ediv_iff_mul_le hp]
    have h1 : (1 : Int) ≤ 2 ^ n := hp
    have := Int.mul_le_mul_of_nonpos_left (a := x) (b := 2 ^ n) (c := 1) (by omega) h1
    simpa using this
  generalize x / 2 ^ n = z at *
  cases k <;> simp [IntKind.has, IntKind.min, IntKind.max, IntKind.bits, IntKind.signed] at * <;> omega

theorem shiftBin_ok {op : BinOp} {k k' : IntKind} {x y : Int} {r : D} (h : shiftBin op k x y = some r) (hx : k.has x) (T : TypeId) (w' : World) :
    ∃ u, (binOp op T (.int k x) (.int k' y)).run P w' = .ok u w' ∧ ∀ (w : World) (R : Nat → Prop), Rd w R (.v r u) := by
  unfold shiftBin at h
  split at h
  · cases h
  · rename_i hy
    cases op <;> simp only [Option.some.injEq, reduceCtorEq] at h
    · subst h; exact ⟨_, by simp [binOp, Op.shift, hy], fun w R => .int (has_wrap _ _)⟩
    · subst h; exact ⟨_, by simp [binOp, Op.shift, hy], fun w R => .int (pow_fdiv_has _ hx)⟩

theorem toList_mk (a : List UInt8) : (⟨a.toArray⟩ : ByteArray).toList = a := by
  rw [ByteArray.toList_eq]

theorem strBin_ok {op : BinOp} {x y : List UInt8} {r : D} (h : strBin op x y = some r) (T : TypeId) (w' : World) :
    ∃ u, (binOp op T (.string ⟨x.toArray⟩) (.string ⟨y.toArray⟩)).run P w' = .ok u w' ∧ ∀ (w : World) (R : Nat → Prop), Rd w R (.v r u) := by
  cases op <;> simp only [strBin, Option.some.injEq, reduceCtorEq] at h
  case add =>
    split at h
    · rename_i hl; cases h
      refine ⟨.string ⟨(x ++ y).toArray⟩, ?_, fun w R => .str hl⟩
      have h1 : ¬ (IntKind.i64.max < ((x.length : Int) + (y.length : Int))) := by
        simp only [List.length_append, LIM] at hl
        simp [IntKind.max, IntKind.signed, IntKind.bits]; omega
      simp only [Int.not_lt, IntKind.max, IntKind.signed, IntKind.bits] at h1
      have h2 : ((⟨x.toArray⟩ : ByteArray) ++ ⟨y.toArray⟩) = ⟨(x ++ y).toArray⟩ := by
        ext1; simp
      simp [binOp, Op.stringOp, h2, ByteArray.size, IntKind.max, IntKind.signed, IntKind.bits]
      simpa using h1
    · cases h
  case eql => subst h; exact ⟨.bool (decide (x = y)), by simp [binOp, Op.stringOp, toList_mk]; by_cases e : x = y <;> simp [e], fun w R => .bool⟩
  case neq => subst h; exact ⟨.bool (!decide (x = y)), by simp [binOp, Op.stringOp, toList_mk]; by_cases e : x = y <;> simp [e], fun w R => .bool⟩

end Go.Sim
