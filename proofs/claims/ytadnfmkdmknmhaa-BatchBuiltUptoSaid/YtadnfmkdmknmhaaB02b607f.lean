/-
  The table of functions.
  Loops, where what comes out is told by a law rather than by a function.
  Numbers, as walks need them, and counted loops.
  More facts about lists, in the forms that walks take.
  Lists that are set or cut, in the forms that walks take.
  The rewriting set of walks, whole.
  The types of package api, as they lie in memory.
  Directories: what the functions of package directory compute.
  Directories: Validate, Span, New.
-/
import Derived.Test.YtadnfmkdmknmhaaB27bf868
import Derived.KernelRfl
import Derived.Test.YtadnfmkdmknmhaaBdddc6c5
import Derived.IntWalk
set_option linter.unusedSimpArgs false
set_option linter.unusedVariables false
namespace Go.Proofs.Ytadnfmkdmknmhaa
open Go Go.Sim
def tab : List (Nat × AFn) := [(N_law17_BatchBuilt, fn_law17_BatchBuilt), (N_base_New, fn_base_New), (N_base_Src_Setup, fn_base_Src_Setup), (N_base_Src_Range, fn_base_Src_Range), (N_base_Src_N, fn_base_Src_N), (N_base_Src_Raw, fn_base_Src_Raw), (N_base_Src_Command, fn_base_Src_Command), (N_base_Src_Pick, fn_base_Src_Pick), (N_base_Src_Body, fn_base_Src_Body), (N_base_fitted, fn_base_fitted), (N_batch_Start, fn_batch_Start), (N_batch_in, fn_batch_in), (N_arena_New, fn_arena_New), (N_arena_in, fn_arena_in), (N_directory_New, fn_directory_New), (N_dead_New, fn_dead_New), (N_shard_Free, fn_shard_Free), (N_ring_New, fn_ring_New), (N_directory_Span, fn_directory_Span), (N_directory_Validate, fn_directory_Validate), (N_directory_tiles, fn_directory_tiles), (N_directory_Validate_1, fn_directory_Validate_1), (N_slices_ContainsFunc_api_Span, fn_slices_ContainsFunc_api_Span), (N_slices_IndexFunc_api_Span, fn_slices_IndexFunc_api_Span), (N_directory_find, fn_directory_find), (N_directory_find_1, fn_directory_find_1), (N_directory_forwards, fn_directory_forwards), (N_shard_New, fn_shard_New), (N_shard_spans, fn_shard_spans), (N_batch_Validate, fn_batch_Validate), (N_batch_Validate_1, fn_batch_Validate_1), (N_batch_Validate_2, fn_batch_Validate_2), (N_slices_ContainsFunc_string, fn_slices_ContainsFunc_string), (N_slices_IndexFunc_string, fn_slices_IndexFunc_string), (N_ref17_Start, fn_ref17_Start), (N_ref12_New, fn_ref12_New), (N_ref12_in, fn_ref12_in), (N_ref10_New, fn_ref10_New), (N_ref07_Free, fn_ref07_Free), (N_ref04_New, fn_ref04_New), (N_ref07_New, fn_ref07_New), (N_ref07_span, fn_ref07_span), (N_ref08_New, fn_ref08_New), (N_ref17_Validate, fn_ref17_Validate), (N_ref17_in, fn_ref17_in), (N_law17_same, fn_law17_same), (N_ref17_SameInvocation, fn_ref17_SameInvocation), (N_ref17_SameTexts, fn_ref17_SameTexts), (N_ref17_SameTokens, fn_ref17_SameTokens), (N_ref17_SameResults, fn_ref17_SameResults), (N_ref15_Same, fn_ref15_Same), (N_ref13_Same, fn_ref13_Same), (N_ref13_SameInts, fn_ref13_SameInts), (N_ref15_sameShards, fn_ref15_sameShards), (N_ref07_Same, fn_ref07_Same), (N_ref04_Same, fn_ref04_Same), (N_ref03_Same, fn_ref03_Same), (N_ref06_Same, fn_ref06_Same), (N_ref06_SameLeases, fn_ref06_SameLeases), (N_ref05_Same, fn_ref05_Same), (N_ref08_Same, fn_ref08_Same), (N_ref11_Same, fn_ref11_Same), (N_ref10_Same, fn_ref10_Same), (N_ref15_SameOutcome, fn_ref15_SameOutcome), (N_batch_Entries, fn_batch_Entries), (N_ref17_Entries, fn_ref17_Entries), (N_law17_awake, fn_law17_awake), (N_batch_Next, fn_batch_Next), (N_slices_Clip_api_Result, fn_slices_Clip_api_Result)]
def G : FuncId → Option AFn := fun f => Go.Sim.look f tab
theorem g_law17_BatchBuilt : G N_law17_BatchBuilt = some fn_law17_BatchBuilt := tk
theorem g_base_New : G N_base_New = some fn_base_New := tk
theorem g_base_Src_Setup : G N_base_Src_Setup = some fn_base_Src_Setup := tk
theorem g_base_Src_Range : G N_base_Src_Range = some fn_base_Src_Range := tk
theorem g_base_Src_N : G N_base_Src_N = some fn_base_Src_N := tk
theorem g_base_Src_Raw : G N_base_Src_Raw = some fn_base_Src_Raw := tk
theorem g_base_Src_Command : G N_base_Src_Command = some fn_base_Src_Command := tk
theorem g_base_Src_Pick : G N_base_Src_Pick = some fn_base_Src_Pick := tk
theorem g_base_Src_Body : G N_base_Src_Body = some fn_base_Src_Body := tk
theorem g_base_fitted : G N_base_fitted = some fn_base_fitted := tk
theorem g_batch_Start : G N_batch_Start = some fn_batch_Start := tk
theorem g_batch_in : G N_batch_in = some fn_batch_in := tk
theorem g_arena_New : G N_arena_New = some fn_arena_New := tk
theorem g_arena_in : G N_arena_in = some fn_arena_in := tk
theorem g_directory_New : G N_directory_New = some fn_directory_New := tk
theorem g_dead_New : G N_dead_New = some fn_dead_New := tk
theorem g_shard_Free : G N_shard_Free = some fn_shard_Free := tk
theorem g_ring_New : G N_ring_New = some fn_ring_New := tk
theorem g_directory_Span : G N_directory_Span = some fn_directory_Span := tk
theorem g_directory_Validate : G N_directory_Validate = some fn_directory_Validate := tk
theorem g_directory_tiles : G N_directory_tiles = some fn_directory_tiles := tk
theorem g_directory_Validate_1 : G N_directory_Validate_1 = some fn_directory_Validate_1 := tk
theorem g_slices_ContainsFunc_api_Span : G N_slices_ContainsFunc_api_Span = some fn_slices_ContainsFunc_api_Span := tk
theorem g_slices_IndexFunc_api_Span : G N_slices_IndexFunc_api_Span = some fn_slices_IndexFunc_api_Span := tk
theorem g_directory_find : G N_directory_find = some fn_directory_find := tk
theorem g_directory_find_1 : G N_directory_find_1 = some fn_directory_find_1 := tk
theorem g_directory_forwards : G N_directory_forwards = some fn_directory_forwards := tk
theorem g_shard_New : G N_shard_New = some fn_shard_New := tk
theorem g_shard_spans : G N_shard_spans = some fn_shard_spans := tk
theorem g_batch_Validate : G N_batch_Validate = some fn_batch_Validate := tk
theorem g_batch_Validate_1 : G N_batch_Validate_1 = some fn_batch_Validate_1 := tk
theorem g_batch_Validate_2 : G N_batch_Validate_2 = some fn_batch_Validate_2 := tk
theorem g_slices_ContainsFunc_string : G N_slices_ContainsFunc_string = some fn_slices_ContainsFunc_string := tk
theorem g_slices_IndexFunc_string : G N_slices_IndexFunc_string = some fn_slices_IndexFunc_string := tk
theorem g_ref17_Start : G N_ref17_Start = some fn_ref17_Start := tk
theorem g_ref12_New : G N_ref12_New = some fn_ref12_New := tk
theorem g_ref12_in : G N_ref12_in = some fn_ref12_in := tk
theorem g_ref10_New : G N_ref10_New = some fn_ref10_New := tk
theorem g_ref07_Free : G N_ref07_Free = some fn_ref07_Free := tk
theorem g_ref04_New : G N_ref04_New = some fn_ref04_New := tk
theorem g_ref07_New : G N_ref07_New = some fn_ref07_New := tk
theorem g_ref07_span : G N_ref07_span = some fn_ref07_span := tk
theorem g_ref08_New : G N_ref08_New = some fn_ref08_New := tk
theorem g_ref17_Validate : G N_ref17_Validate = some fn_ref17_Validate := tk
theorem g_ref17_in : G N_ref17_in = some fn_ref17_in := tk
theorem g_law17_same : G N_law17_same = some fn_law17_same := tk
theorem g_ref17_SameInvocation : G N_ref17_SameInvocation = some fn_ref17_SameInvocation := tk
theorem g_ref17_SameTexts : G N_ref17_SameTexts = some fn_ref17_SameTexts := tk
theorem g_ref17_SameTokens : G N_ref17_SameTokens = some fn_ref17_SameTokens := tk
theorem g_ref17_SameResults : G N_ref17_SameResults = some fn_ref17_SameResults := tk
theorem g_batch_Entries : G N_batch_Entries = some fn_batch_Entries := tk
theorem g_ref17_Entries : G N_ref17_Entries = some fn_ref17_Entries := tk
theorem g_law17_awake : G N_law17_awake = some fn_law17_awake := tk
theorem g_batch_Next : G N_batch_Next = some fn_batch_Next := tk
theorem g_slices_Clip_api_Result : G N_slices_Clip_api_Result = some fn_slices_Clip_api_Result := tk
end Go.Proofs.Ytadnfmkdmknmhaa

namespace Go.Sim
variable {G : FuncId → Option AFn}
theorem loop_indP {T : Type} {ks : List Nat} {x : ACode} (μ : T → Nat) (inv : T → Prop) (st : T → St) (Q : T → Option (AExit × St) → Prop)
    (h : ∀ t, inv t → ∀ L : St → Option (AExit × St), (∀ t', inv t' → μ t' < μ t → Q t' (L (st t'))) → Q t ((exL G x (st t)).bind (loopF ks L))) : ∀ t, inv t → Q t (loopL G ks x (st t)) := by
  intro t
  generalize hk : μ t = k
  induction k using Nat.strongRecOn generalizing t with
  | ind k ih =>
    intro hi
    rw [loopL_eq]
    exact h t hi _ fun t' hi' hlt => ih (μ t') (by omega) t' rfl hi'
end Go.Sim

namespace Go.Sim
variable {G : FuncId → Option AFn}
theorem wr {x : Int} (h : -9223372036854775808 ≤ x ∧ x < 9223372036854775808) : IntKind.i64.wrap x = x := by
  rw [Go.IntWalk.i64_in _ (by omega)]
theorem wu64 {x : Int} (h : 0 ≤ x ∧ x < 18446744073709551616) : IntKind.u64.wrap x = x := by rw [Go.IntWalk.u64_in _ (by omega)]
theorem wu32 {x : Int} (h : 0 ≤ x ∧ x < 4294967296) : IntKind.u32.wrap x = x := by rw [Go.IntWalk.u32_in _ (by omega)]
theorem wu8 {x : Int} (h : 0 ≤ x ∧ x < 256) : IntKind.u8.wrap x = x := by rw [Go.IntWalk.u8_in _ (by omega)]
theorem tdivE {x y : Int} (h : 0 ≤ x) : x.tdiv y = x / y := Int.tdiv_eq_ediv_of_nonneg h
theorem beqT {b : Bool} : (b == true) = b := by cases b <;> rfl
theorem beqF {b : Bool} : (b == false) = !b := by cases b <;> rfl
theorem ltT {a b : Int} (h : a < b) : (a < b) = True := eq_true h
theorem ltF {a b : Int} (h : b ≤ a) : (a < b) = False := eq_false (by omega)
theorem leT {a b : Int} (h : a ≤ b) : (a ≤ b) = True := eq_true h
theorem leF {a b : Int} (h : b < a) : (a ≤ b) = False := eq_false (by omega)
theorem eqT {a b : Int} (h : a = b) : (a = b) = True := eq_true h
theorem eqF {a b : Int} (h : ¬ a = b) : (a = b) = False := eq_false h
theorem lenLtT {α : Type} {l : List α} {a : Nat} (h : a < l.length) : (a < l.length) = True := eq_true h
theorem lenLtF {α : Type} {l : List α} {a : Nat} (h : l.length ≤ a) : (a < l.length) = False := eq_false (by omega)
theorem lenLeT {α : Type} {l : List α} {c : Nat} (h : l.length ≤ c) : (l.length ≤ c) = True := eq_true h
theorem addLeT {a b c : Nat} (h : a + b ≤ c) : (a + b ≤ c) = True := eq_true h
theorem lenEqT {α : Type} {l : List α} {c : Nat} (h : l.length = c) : (l.length = c) = True := eq_true h
theorem lim_eq : LIM = 4294967296 := rfl
theorem mapGet {α β : Type} {f : α → β} {l : List α} {k : Nat} (h : k < l.length) : (l.map f)[k]? = some (f (l[k]'h)) := by
  rw [List.getElem?_map, List.getElem?_eq_getElem h]; rfl
theorem toNat_add1 {k : Nat} : ((k : Int) + 1).toNat = k + 1 := by omega
theorem loop_all {ks : List Nat} {x : ACode} (n : Nat) (p : Nat → Bool) (st : Nat → St) (R fin : AExit × St)
    (h : ∀ k, k ≤ n → ∀ L : St → Option (AExit × St), (exL G x (st k)).bind (loopF ks L) = if k < n then (if p k = true then L (st (k + 1)) else some R) else some fin) :
    loopL G ks x (st 0) = some (if (List.range n).all p = true then fin else R) := by
  have key : ∀ m k, k + m = n → loopL G ks x (st k) = some (if ((List.range' k m).all p) = true then fin else R) := by
    intro m
    induction m with
    | zero =>
      intro k hk
      rw [loopL_eq, h k (by omega), if_neg (by omega)]
      rfl
    | succ m ih =>
      intro k hk
      rw [loopL_eq, h k (by omega), if_pos (by omega), List.range'_succ, List.all_cons, ih (k + 1) (by omega)]
      cases p k <;> rfl
  have := key n 0 (by omega)
  rwa [← List.range_eq_range'] at this
theorem all_eq {α : Type} [DecidableEq α] {a b : List α} (h : a.length = b.length) : ((List.range a.length).all fun k => decide (a[k]? = b[k]?)) = decide (a = b) := by
  by_cases e : a = b
  · subst e; simp
  · rw [decide_eq_false e]
    apply Bool.eq_false_iff.2
    intro hh
    apply e
    rw [List.all_eq_true] at hh
    apply List.ext_getElem?
    intro k
    by_cases hk : k < a.length
    · simpa using hh k (List.mem_range.2 hk)
    · rw [List.getElem?_eq_none (by omega), List.getElem?_eq_none (by omega)]
theorem get_eq {α : Type} [DecidableEq α] {a b : List α} {k : Nat} (ha : k < a.length) (hb : k < b.length) : decide (a[k]? = b[k]?) = decide (a[k] = b[k]) := by
  rw [List.getElem?_eq_getElem ha, List.getElem?_eq_getElem hb]; simp
def findR {α : Type} (n : Nat) (p : Nat → Bool) (R : Nat → α) (fin : α) : α := match (List.range n).find? p with | some k => R k | none => fin
theorem loop_find {ks : List Nat} {x : ACode} (n : Nat) (p : Nat → Bool) (st : Nat → St) (R : Nat → AExit × St) (fin : AExit × St)
    (h : ∀ k, k ≤ n → ∀ L : St → Option (AExit × St), (exL G x (st k)).bind (loopF ks L) = if k < n then (if p k = true then some (R k) else L (st (k + 1))) else some fin) :
    loopL G ks x (st 0) = some (findR n p R fin) := by
  have key : ∀ m k, k + m = n → loopL G ks x (st k) = some (match (List.range' k m).find? p with | some k => R k | none => fin) := by
    intro m
    induction m with
    | zero =>
      intro k hk
      rw [loopL_eq, h k (by omega), if_neg (by omega)]
      rfl
    | succ m ih =>
      intro k hk
      rw [loopL_eq, h k (by omega), if_pos (by omega), List.range'_succ, List.find?_cons, ih (k + 1) (by omega)]
      cases p k <;> rfl
  have := key n 0 (by omega)
  rwa [← List.range_eq_range'] at this
def idxI {α : Type} (p : α → Bool) (es : List α) : Int := match es.findIdx? p with | some i => i | none => -1
def atB {α : Type} (l : List α) (p : α → Bool) (k : Nat) : Bool := match l[k]? with | some a => p a | none => false
theorem find_range {α : Type} (l : List α) (p : α → Bool) : (List.range l.length).find? (atB l p) = l.findIdx? p := by
  have key : ∀ (m k : Nat), k + m = l.length → (List.range' k m).find? (atB l p) = ((l.drop k).findIdx? p).map (k + ·) := by
    intro m
    induction m with
    | zero => intro k hk; rw [List.drop_of_length_le (by omega)]; rfl
    | succ m ih =>
      intro k hk
      rw [List.range'_succ, List.find?_cons, List.drop_eq_getElem_cons (show k < l.length by omega), List.findIdx?_cons, ih (k + 1) (by omega)]
      have : atB l p k = p (l[k]'(by omega)) := by unfold atB; rw [List.getElem?_eq_getElem (by omega)]
      rw [this]
      cases p (l[k]'(by omega)) with
      | true => simp
      | false =>
        cases (l.drop (k + 1)).findIdx? p with
        | none => rfl
        | some i => simp; omega
  have := key l.length 0 (by omega)
  rw [← List.range_eq_range'] at this
  rw [this, List.drop_zero]
  cases l.findIdx? p <;> simp only [Option.map_none, Option.map_some, Nat.zero_add]
theorem atB_at {α : Type} {l : List α} {p : α → Bool} {k : Nat} (h : k < l.length) : atB l p k = p l[k] := by
  unfold atB; rw [List.getElem?_eq_getElem h]
theorem findR_idx {α β : Type} (l : List α) (p : α → Bool) (R : Nat → β) (fin : β) : findR l.length (atB l p) R fin = match l.findIdx? p with | some k => R k | none => fin := by
  unfold findR; rw [find_range]
theorem idxI_any {α : Type} (l : List α) (p : α → Bool) : decide (0 ≤ idxI p l) = l.any p := by
  unfold idxI
  cases h : l.findIdx? p with
  | none => simp at h; simpa using h
  | some i =>
    have := List.findIdx?_eq_some_iff_getElem.1 h
    simp
    exact ⟨_, List.getElem_mem this.1, this.2.1⟩
theorem idxI_lt {α : Type} (l : List α) (p : α → Bool) : -1 ≤ idxI p l ∧ idxI p l < l.length := by
  unfold idxI
  cases e : l.findIdx? p with
  | none => simp only; omega
  | some i => have := (List.findIdx?_eq_some_iff_getElem.1 e).1; simp only; omega
end Go.Sim

namespace Go.Sim
theorem getDT {α : Type} {l : List α} {k : Nat} {d : α} (h : k < l.length) : l.getD k d = l[k]'h := by
  rw [List.getD_eq_getElem?_getD, List.getElem?_eq_getElem h]; rfl
theorem setMap {α β : Type} {f : α → β} {l : List α} {k : Nat} {x : α} : (l.map f).set k (f x) = (l.set k x).map f := by rw [List.map_set]
theorem mapGet2 {α β γ : Type} {f : α → β} {g : β → γ} {l : List α} {k : Nat} (h : k < l.length) : ((l.map f).map g)[k]? = some (g (f (l[k]'h))) := by
  rw [List.map_map, List.getElem?_map, List.getElem?_eq_getElem h]; rfl
theorem lenSet {α : Type} {l : List α} {k : Nat} {x : α} : (l.set k x).length = l.length := List.length_set
theorem mapSet {α : Type} {f : α → D} {l : List α} {k : Nat} {x : α} : (l.set k x).map f = (l.map f).set k (f x) := by rw [List.map_set]
theorem setD {ds : List D} {k : Nat} {x : D} : (ds.map AV.d).set k (.d x) = (ds.set k x).map AV.d := by rw [List.map_set]
theorem iteC {α : Type} {c : Prop} [Decidable c] {A B r : α} (h1 : c → A = r) (h2 : ¬ c → B = r) : (if c then A else B) = r := by split <;> simp_all
end Go.Sim

namespace Go.Sim
theorem takeMapD {ds : List D} {n : Nat} : (ds.map AV.d).take n = (ds.take n).map AV.d := by rw [List.map_take]
theorem dropMapD {ds : List D} {n : Nat} : (ds.map AV.d).drop n = (ds.drop n).map AV.d := by rw [List.map_drop]
theorem takeSetM {α : Type} {f : α → D} {l : List α} {n k : Nat} {x : D} (h : l.length ≤ n) : ((l.map f).set k x).take n = (l.map f).set k x := List.take_of_length_le (by simpa using h)
theorem takeM {α : Type} {f : α → D} {l : List α} {n : Nat} (h : l.length ≤ n) : (l.map f).take n = l.map f := List.take_of_length_le (by simpa using h)
theorem iteR {α : Type} {c : Prop} [Decidable c] {A B r : α} (h1 : c → r = A) (h2 : ¬ c → r = B) : r = if c then A else B := by split <;> simp_all
end Go.Sim

namespace Go.Sim
attribute [go_sem ↓] reduceIte
attribute [go_sem] reduceCtorEq Nat.reduceEqDiff Nat.reduceAdd Nat.reduceBEq Nat.reduceMul Nat.reduceLeDiff Nat.reduceSub Nat.reduceLT Nat.reduceDiv Nat.reduceMod List.reduceReplicate Int.reduceEq Int.reduceLT Int.reduceLE Int.reduceAdd Int.reduceSub Int.reduceMul Int.reduceNeg Int.reduceToNat
attribute [go_sem] toNat_add1 takeMapD dropMapD takeSetM takeM lenSet mapSet setD mapGet2 wr or_self or_false false_or true_or or_true false_and and_false Int.natCast_mul Int.cast_ofNat_Int Int.natCast_zero List.length_append lim_eq wu64 wu32 wu8 Bool.true_beq Bool.false_beq beqT beqF Int.natCast_add Int.natCast_one ltT ltF leT leF eqT eqF lenLtT lenLtF lenLeT addLeT lenEqT mapGet Int.toNat_natCast Int.natCast_nonneg List.length_map
theorem pA {a b : Bool} : ((a || b) = true) = (a = true ∨ b = true) := Bool.or_eq_true a b
theorem pB {a b : Bool} : ((a && b) = true) = (a = true ∧ b = true) := Bool.and_eq_true a b
theorem pC {p : Prop} [Decidable p] : (decide p = true) = p := decide_eq_true_eq
theorem pD {a : Bool} : ((!a) = true) = (a = false) := Bool.not_eq_true' a
theorem pE {p : Prop} [Decidable p] : (decide p = false) = ¬ p := by simp
theorem pF {p q : Prop} : (¬ (p ∨ q)) = (¬ p ∧ ¬ q) := by simp
theorem pG {a b : Int} : (¬ a < b) = (b ≤ a) := by simp
theorem pH {a b : Int} : (¬ a ≤ b) = (b < a) := by simp
theorem pI {a b : Nat} : (¬ a < b) = (b ≤ a) := by simp
theorem pJ {a b : Nat} : (¬ a ≤ b) = (b < a) := by simp
theorem pK {a b : Bool} : ((a || b) = false) = (a = false ∧ b = false) := by simp
theorem pL {a b : Bool} : ((a && b) = false) = (a = false ∨ b = false) := by cases a <;> cases b <;> simp
theorem pM {a : Bool} : ((!a) = false) = (a = true) := by simp
theorem pN : (true = false) = False := by simp
theorem pO : (false = true) = False := by simp
theorem pP {p : Prop} : (¬ ¬ p) = p := by simp
end Go.Sim

namespace Go.Proofs.Ytadnfmkdmknmhaa
open Go Go.Sim
set_option linter.unusedSimpArgs false
set_option linter.unusedVariables false
set_option maxHeartbeats 10000000
abbrev ints (l : List Int) : List D := l.map (.int .i64)
theorem allSize_ints (l : List Int) : allSize 1 (ints l) = true := by simp [allSize, D.size, D.cells]
def eBytes (b : List UInt8) : D := .sl (byD b)
theorem allSize_bytes (l : List (List UInt8)) : allSize 1 (l.map eBytes) = true := by simp [allSize, D.size, D.cells, eBytes]
theorem allSize_strs (l : List (List UInt8)) : allSize 1 (l.map D.str) = true := by simp [allSize, D.size, D.cells]
abbrev Due := Int × Int
def eD (d : Due) : D := .agg [.int .i64 d.1, .int .i64 d.2]
structure Span where
  low : Int
  high : Int
  shard : Int
  deriving DecidableEq
def zSpan : Span := ⟨0, 0, 0⟩
instance : Inhabited Span := ⟨zSpan⟩
def eSpan (x : Span) : D := .agg [.int .i64 x.low, .int .i64 x.high, .int .i64 x.shard]
theorem eSpan_cells (x : Span) : (eSpan x).cells = [.int .i64 x.low, .int .i64 x.high, .int .i64 x.shard] := rfl
theorem eSpan_size (x : Span) : (eSpan x).size = 3 := rfl
theorem eSpan_asAgg (x : Span) : (eSpan x).asAgg = eSpan x := rfl
theorem allSize_Span (l : List Span) : allSize 3 (l.map eSpan) = true := by simp [allSize, eSpan_size]
structure Directory where
  version : Int
  l : List Span
  forward : List Int
  deriving DecidableEq
def zDirectory : Directory := ⟨0, [], []⟩
instance : Inhabited Directory := ⟨zDirectory⟩
def eDirectory (x : Directory) : D := .agg [.int .i64 x.version, .sl (x.l.map eSpan), .sl (ints x.forward)]
theorem eDirectory_cells (x : Directory) : (eDirectory x).cells = [.int .i64 x.version, .sl (x.l.map eSpan), .sl (ints x.forward)] := rfl
theorem eDirectory_size (x : Directory) : (eDirectory x).size = 3 := rfl
theorem eDirectory_asAgg (x : Directory) : (eDirectory x).asAgg = eDirectory x := rfl
theorem eDirectory_isT (x : Directory) : (eDirectory x).isT = false := rfl
structure Edit where
  kind : Int
  from_ : Int
  to : Int
  mid : Int
  deriving DecidableEq
def zEdit : Edit := ⟨0, 0, 0, 0⟩
instance : Inhabited Edit := ⟨zEdit⟩
def eEdit (x : Edit) : D := .agg [.int .i64 x.kind, .int .i64 x.from_, .int .i64 x.to, .int .i64 x.mid]
structure Setup where
  slots : Int
  live : Int
  capacity : Int
  dead : Int
  limit : Int
  clock : Int
  nextID : Int
  epoch : Int
  deriving DecidableEq
def zSetup : Setup := ⟨0, 0, 0, 0, 0, 0, 0, 0⟩
instance : Inhabited Setup := ⟨zSetup⟩
def eSetup (x : Setup) : D := .agg [.int .i64 x.slots, .int .i64 x.live, .int .i64 x.capacity, .int .i64 x.dead, .int .i64 x.limit, .int .i64 x.clock, .int .i64 x.nextID, .int .i64 x.epoch]
theorem eSetup_cells (x : Setup) : (eSetup x).cells = [.int .i64 x.slots, .int .i64 x.live, .int .i64 x.capacity, .int .i64 x.dead, .int .i64 x.limit, .int .i64 x.clock, .int .i64 x.nextID, .int .i64 x.epoch] := rfl
theorem eSetup_size (x : Setup) : (eSetup x).size = 8 := rfl
theorem eSetup_asAgg (x : Setup) : (eSetup x).asAgg = eSetup x := rfl
theorem eSetup_isT (x : Setup) : (eSetup x).isT = false := rfl
structure Message where
  id : Int
  route : Int
  epoch : Int
  count : Int
  gen : Int
  sent : Int
  body : List UInt8
  deriving DecidableEq
def zMessage : Message := ⟨0, 0, 0, 0, 0, 0, []⟩
instance : Inhabited Message := ⟨zMessage⟩
def eMessage (x : Message) : D := .agg [.int .i64 x.id, .int .i64 x.route, .int .i64 x.epoch, .int .i64 x.count, .int .i64 x.gen, .int .i64 x.sent, .str x.body]
structure Ring where
  cells : List Message
  head : Int
  size : Int
  deriving DecidableEq
def zRing : Ring := ⟨[], 0, 0⟩
instance : Inhabited Ring := ⟨zRing⟩
def eRing (x : Ring) : D := .agg [.sl (x.cells.map eMessage), .int .i64 x.head, .int .i64 x.size]
theorem eRing_cells (x : Ring) : (eRing x).cells = [.sl (x.cells.map eMessage), .int .i64 x.head, .int .i64 x.size] := rfl
theorem eRing_size (x : Ring) : (eRing x).size = 3 := rfl
theorem eRing_asAgg (x : Ring) : (eRing x).asAgg = eRing x := rfl
theorem eRing_isT (x : Ring) : (eRing x).isT = false := rfl
structure Lease where
  msg : Message
  deadline : Int
  deriving DecidableEq
def zLease : Lease := ⟨⟨0, 0, 0, 0, 0, 0, []⟩, 0⟩
instance : Inhabited Lease := ⟨zLease⟩
def eLease (x : Lease) : D := .agg [.int .i64 x.msg.id, .int .i64 x.msg.route, .int .i64 x.msg.epoch, .int .i64 x.msg.count, .int .i64 x.msg.gen, .int .i64 x.msg.sent, .str x.msg.body, .int .i64 x.deadline]
structure Table where
  l : List Lease
  heap : List Due
  deriving DecidableEq
def zTable : Table := ⟨[], []⟩
instance : Inhabited Table := ⟨zTable⟩
structure Shard where
  live : Bool
  low : Int
  high : Int
  ready : Ring
  leases : Table
  deriving DecidableEq
def zShard : Shard := ⟨false, 0, 0, ⟨[], 0, 0⟩, ⟨[], []⟩⟩
instance : Inhabited Shard := ⟨zShard⟩
def eShard (x : Shard) : D := .agg [.bool x.live, .int .i64 x.low, .int .i64 x.high, .sl (x.ready.cells.map eMessage), .int .i64 x.ready.head, .int .i64 x.ready.size, .sl (x.leases.l.map eLease), .sl (x.leases.heap.map eD)]
theorem eShard_cells (x : Shard) : (eShard x).cells = [.bool x.live, .int .i64 x.low, .int .i64 x.high, .sl (x.ready.cells.map eMessage), .int .i64 x.ready.head, .int .i64 x.ready.size, .sl (x.leases.l.map eLease), .sl (x.leases.heap.map eD)] := rfl
theorem eShard_size (x : Shard) : (eShard x).size = 8 := rfl
theorem eShard_asAgg (x : Shard) : (eShard x).asAgg = eShard x := rfl
theorem eShard_isT (x : Shard) : (eShard x).isT = false := rfl
structure Slot where
  owner : Int
  shard : Shard
  deriving DecidableEq
def zSlot : Slot := ⟨0, ⟨false, 0, 0, ⟨[], 0, 0⟩, ⟨[], []⟩⟩⟩
instance : Inhabited Slot := ⟨zSlot⟩
def eSlot (x : Slot) : D := .agg [.int .i64 x.owner, .bool x.shard.live, .int .i64 x.shard.low, .int .i64 x.shard.high, .sl (x.shard.ready.cells.map eMessage), .int .i64 x.shard.ready.head, .int .i64 x.shard.ready.size, .sl (x.shard.leases.l.map eLease), .sl (x.shard.leases.heap.map eD)]
theorem eSlot_size (x : Slot) : (eSlot x).size = 9 := rfl
theorem allSize_Slot (l : List Slot) : allSize 9 (l.map eSlot) = true := by simp [allSize, eSlot_size]
structure Stripe where
  seq : Int
  epoch : Int
  ready : Int
  leased : Int
  deriving DecidableEq
def zStripe : Stripe := ⟨0, 0, 0, 0⟩
instance : Inhabited Stripe := ⟨zStripe⟩
def eStripe (x : Stripe) : D := .agg [.int .i64 x.seq, .int .i64 x.epoch, .int .i64 x.ready, .int .i64 x.leased]
theorem eStripe_size (x : Stripe) : (eStripe x).size = 4 := rfl
theorem allSize_Stripe (l : List Stripe) : allSize 4 (l.map eStripe) = true := by simp [allSize, eStripe_size]
structure Dead where
  cap : Int
  l : List Message
  deriving DecidableEq
def zDead : Dead := ⟨0, []⟩
instance : Inhabited Dead := ⟨zDead⟩
def eDead (x : Dead) : D := .agg [.int .i64 x.cap, .sl (x.l.map eMessage)]
theorem eDead_cells (x : Dead) : (eDead x).cells = [.int .i64 x.cap, .sl (x.l.map eMessage)] := rfl
theorem eDead_size (x : Dead) : (eDead x).size = 2 := rfl
theorem eDead_isT (x : Dead) : (eDead x).isT = false := rfl
structure DeadCell where
  owner : Int
  dead : Dead
  deriving DecidableEq
def zDeadCell : DeadCell := ⟨0, ⟨0, []⟩⟩
instance : Inhabited DeadCell := ⟨zDeadCell⟩
structure Arena where
  slots : List Slot
  stripes : List Stripe
  dead : DeadCell
  dir : Directory
  epoch : Int
  clock : Int
  nextID : Int
  deriving DecidableEq
def zArena : Arena := ⟨[], [], ⟨0, ⟨0, []⟩⟩, ⟨0, [], []⟩, 0, 0, 0⟩
instance : Inhabited Arena := ⟨zArena⟩
def eArena (x : Arena) : D := .agg [.sl (x.slots.map eSlot), .sl (x.stripes.map eStripe), .int .i64 x.dead.owner, .int .i64 x.dead.dead.cap, .sl (x.dead.dead.l.map eMessage), .int .i64 x.dir.version, .sl (x.dir.l.map eSpan), .sl (ints x.dir.forward), .int .i64 x.epoch, .int .i64 x.clock, .int .i64 x.nextID]
theorem eArena_size (x : Arena) : (eArena x).size = 11 := rfl
theorem eArena_asAgg (x : Arena) : (eArena x).asAgg = eArena x := rfl
theorem eArena_isT (x : Arena) : (eArena x).isT = false := rfl
structure Snapshot where
  phase : Int
  epoch : Int
  clock : Int
  stamp : Int
  deriving DecidableEq
def zSnapshot : Snapshot := ⟨0, 0, 0, 0⟩
instance : Inhabited Snapshot := ⟨zSnapshot⟩
def eSnapshot (x : Snapshot) : D := .agg [.int .i64 x.phase, .int .i64 x.epoch, .int .i64 x.clock, .int .i64 x.stamp]
structure Invocation where
  kind : Int
  home : Int
  max : Int
  visibility : Int
  from_ : Int
  to : Int
  bodies : List (List UInt8)
  tokens : List (List UInt8)
  deriving DecidableEq
def zInvocation : Invocation := ⟨0, 0, 0, 0, 0, 0, [], []⟩
instance : Inhabited Invocation := ⟨zInvocation⟩
def eInvocation (x : Invocation) : D := .agg [.int .i64 x.kind, .int .i64 x.home, .int .i64 x.max, .int .i64 x.visibility, .int .i64 x.from_, .int .i64 x.to, .sl (x.bodies.map .str), .sl (x.tokens.map eBytes)]
structure Result where
  err : Int
  id : Int
  tokens : List (List UInt8)
  bodies : List (List UInt8)
  ready : Int
  leased : Int
  moved : Int
  deriving DecidableEq
def zResult : Result := ⟨0, 0, [], [], 0, 0, 0⟩
instance : Inhabited Result := ⟨zResult⟩
def eResult (x : Result) : D := .agg [.int .i64 x.err, .int .i64 x.id, .sl (x.tokens.map eBytes), .sl (x.bodies.map .str), .int .i64 x.ready, .int .i64 x.leased, .int .i64 x.moved]
theorem eResult_size (x : Result) : (eResult x).size = 7 := rfl
theorem allSize_Result (l : List Result) : allSize 7 (l.map eResult) = true := by simp [allSize, eResult_size]
structure Locker where
  cells : List Int
  phase : Int
  have_ : Int
  tries : Int
  wait : Int
  deriving DecidableEq
def zLocker : Locker := ⟨[], 0, 0, 0, 0⟩
instance : Inhabited Locker := ⟨zLocker⟩
def eLocker (x : Locker) : D := .agg [.sl (ints x.cells), .int .i64 x.phase, .int .i64 x.have_, .int .i64 x.tries, .int .i64 x.wait]
structure Outcome where
  shards : List Shard
  dead : Dead
  order : List Int
  carry : List Message
  edits : List Edit
  deriving DecidableEq
def zOutcome : Outcome := ⟨[], ⟨0, []⟩, [], [], []⟩
instance : Inhabited Outcome := ⟨zOutcome⟩
def eOutcome (x : Outcome) : D := .agg [.sl (x.shards.map eShard), .int .i64 x.dead.cap, .sl (x.dead.l.map eMessage), .sl (ints x.order), .sl (x.carry.map eMessage), .sl (x.edits.map eEdit)]
structure Section where
  phase : Int
  at_ : Int
  lock : Locker
  snap : Snapshot
  shards : List Shard
  dead : Dead
  stripes : List Stripe
  dir : Directory
  out : Outcome
  limit : Int
  carry : List Message
  deriving DecidableEq
def zSection : Section := ⟨0, 0, ⟨[], 0, 0, 0, 0⟩, ⟨0, 0, 0, 0⟩, [], ⟨0, []⟩, [], ⟨0, [], []⟩, ⟨[], ⟨0, []⟩, [], [], []⟩, 0, []⟩
instance : Inhabited Section := ⟨zSection⟩
def eSection (x : Section) : D := .agg [.int .i64 x.phase, .int .i64 x.at_, .sl (ints x.lock.cells), .int .i64 x.lock.phase, .int .i64 x.lock.have_, .int .i64 x.lock.tries, .int .i64 x.lock.wait, .int .i64 x.snap.phase, .int .i64 x.snap.epoch, .int .i64 x.snap.clock, .int .i64 x.snap.stamp, .sl (x.shards.map eShard), .int .i64 x.dead.cap, .sl (x.dead.l.map eMessage), .sl (x.stripes.map eStripe), .int .i64 x.dir.version, .sl (x.dir.l.map eSpan), .sl (ints x.dir.forward), .sl (x.out.shards.map eShard), .int .i64 x.out.dead.cap, .sl (x.out.dead.l.map eMessage), .sl (ints x.out.order), .sl (x.out.carry.map eMessage), .sl (x.out.edits.map eEdit), .int .i64 x.limit, .sl (x.carry.map eMessage)]
structure Walk where
  next : Int
  covered : Int
  deriving DecidableEq
def zWalk : Walk := ⟨0, 0⟩
instance : Inhabited Walk := ⟨zWalk⟩
def eWalk (x : Walk) : D := .agg [.int .i64 x.next, .int .i64 x.covered]
structure Handle where
  id : Int
  gen : Int
  route : Int
  hint : Int
  deriving DecidableEq
def zHandle : Handle := ⟨0, 0, 0, 0⟩
instance : Inhabited Handle := ⟨zHandle⟩
def eHandle (x : Handle) : D := .agg [.int .i64 x.id, .int .i64 x.gen, .int .i64 x.route, .int .i64 x.hint]
structure Task where
  number : Int
  inv : Invocation
  invoked : Int
  done : Bool
  ended : Int
  pc : Int
  entry : Int
  results : List Result
  setup : Setup
  sec : Section
  dir : Directory
  walk : Walk
  slot : Int
  id : Int
  handle : Handle
  loaded : Int
  first : List Stripe
  second : List Stripe
  deriving DecidableEq
def zTask : Task := ⟨0, ⟨0, 0, 0, 0, 0, 0, [], []⟩, 0, false, 0, 0, 0, [], ⟨0, 0, 0, 0, 0, 0, 0, 0⟩, ⟨0, 0, ⟨[], 0, 0, 0, 0⟩, ⟨0, 0, 0, 0⟩, [], ⟨0, []⟩, [], ⟨0, [], []⟩, ⟨[], ⟨0, []⟩, [], [], []⟩, 0, []⟩, ⟨0, [], []⟩, ⟨0, 0⟩, 0, 0, ⟨0, 0, 0, 0⟩, 0, [], []⟩
instance : Inhabited Task := ⟨zTask⟩
def eTask (x : Task) : D := .agg [.int .i64 x.number, .int .i64 x.inv.kind, .int .i64 x.inv.home, .int .i64 x.inv.max, .int .i64 x.inv.visibility, .int .i64 x.inv.from_, .int .i64 x.inv.to, .sl (x.inv.bodies.map .str), .sl (x.inv.tokens.map eBytes), .int .i64 x.invoked, .bool x.done, .int .i64 x.ended, .int .i64 x.pc, .int .i64 x.entry, .sl (x.results.map eResult), .int .i64 x.setup.slots, .int .i64 x.setup.live, .int .i64 x.setup.capacity, .int .i64 x.setup.dead, .int .i64 x.setup.limit, .int .i64 x.setup.clock, .int .i64 x.setup.nextID, .int .i64 x.setup.epoch, .int .i64 x.sec.phase, .int .i64 x.sec.at_, .sl (ints x.sec.lock.cells), .int .i64 x.sec.lock.phase, .int .i64 x.sec.lock.have_, .int .i64 x.sec.lock.tries, .int .i64 x.sec.lock.wait, .int .i64 x.sec.snap.phase, .int .i64 x.sec.snap.epoch, .int .i64 x.sec.snap.clock, .int .i64 x.sec.snap.stamp, .sl (x.sec.shards.map eShard), .int .i64 x.sec.dead.cap, .sl (x.sec.dead.l.map eMessage), .sl (x.sec.stripes.map eStripe), .int .i64 x.sec.dir.version, .sl (x.sec.dir.l.map eSpan), .sl (ints x.sec.dir.forward), .sl (x.sec.out.shards.map eShard), .int .i64 x.sec.out.dead.cap, .sl (x.sec.out.dead.l.map eMessage), .sl (ints x.sec.out.order), .sl (x.sec.out.carry.map eMessage), .sl (x.sec.out.edits.map eEdit), .int .i64 x.sec.limit, .sl (x.sec.carry.map eMessage), .int .i64 x.dir.version, .sl (x.dir.l.map eSpan), .sl (ints x.dir.forward), .int .i64 x.walk.next, .int .i64 x.walk.covered, .int .i64 x.slot, .int .i64 x.id, .int .i64 x.handle.id, .int .i64 x.handle.gen, .int .i64 x.handle.route, .int .i64 x.handle.hint, .int .i64 x.loaded, .sl (x.first.map eStripe), .sl (x.second.map eStripe)]
theorem eTask_size (x : Task) : (eTask x).size = 63 := rfl
theorem eTask_asAgg (x : Task) : (eTask x).asAgg = eTask x := rfl
theorem eTask_isT (x : Task) : (eTask x).isT = false := rfl
structure Item where
  id : Int
  state : Int
  count : Int
  gen : Int
  route : Int
  deadline : Int
  deriving DecidableEq
def zItem : Item := ⟨0, 0, 0, 0, 0, 0⟩
instance : Inhabited Item := ⟨zItem⟩
structure Bag where
  limit : Int
  now : Int
  epoch : Int
  l : List Item
  deriving DecidableEq
def zBag : Bag := ⟨0, 0, 0, []⟩
instance : Inhabited Bag := ⟨zBag⟩
structure Grant where
  id : Int
  gen : Int
  route : Int
  deadline : Int
  deriving DecidableEq
def zGrant : Grant := ⟨0, 0, 0, 0⟩
instance : Inhabited Grant := ⟨zGrant⟩
structure Event where
  stamp : Int
  task : Int
  entry : Int
  kind : Int
  now : Int
  epoch : Int
  err : Int
  l : List Grant
  ready : Int
  leased : Int
  deriving DecidableEq
def zEvent : Event := ⟨0, 0, 0, 0, 0, 0, 0, [], 0, 0⟩
instance : Inhabited Event := ⟨zEvent⟩
structure World where
  setup : Setup
  arena : Arena
  tasks : List Task
  log : List Event
  steps : Int
  handles : List (List UInt8)
  deriving DecidableEq
def zWorld : World := ⟨⟨0, 0, 0, 0, 0, 0, 0, 0⟩, ⟨[], [], ⟨0, ⟨0, []⟩⟩, ⟨0, [], []⟩, 0, 0, 0⟩, [], [], 0, []⟩
instance : Inhabited World := ⟨zWorld⟩
structure Ref where
  index : Int
  variant : Int
  raw : List UInt8
  deriving DecidableEq
def zRef : Ref := ⟨0, 0, []⟩
instance : Inhabited Ref := ⟨zRef⟩
def eRef (x : Ref) : D := .agg [.int .i64 x.index, .int .i64 x.variant, .sl (byD x.raw)]
structure Command where
  kind : Int
  pick : Int
  by_ : Int
  inv : Invocation
  refs : List Ref
  deriving DecidableEq
def zCommand : Command := ⟨0, 0, 0, ⟨0, 0, 0, 0, 0, 0, [], []⟩, []⟩
instance : Inhabited Command := ⟨zCommand⟩
attribute [go_sem] allSize_ints allSize_bytes allSize_strs eSpan_cells eSpan_size eSpan_asAgg allSize_Span eDirectory_cells eDirectory_size eDirectory_asAgg eDirectory_isT eSetup_cells eSetup_size eSetup_asAgg eSetup_isT eRing_cells eRing_size eRing_asAgg eRing_isT eShard_cells eShard_size eShard_asAgg eShard_isT eSlot_size allSize_Slot eStripe_size allSize_Stripe eDead_cells eDead_size eDead_isT eArena_size eArena_asAgg eArena_isT eResult_size allSize_Result eTask_size eTask_asAgg eTask_isT
end Go.Proofs.Ytadnfmkdmknmhaa

namespace Go.Proofs.Ytadnfmkdmknmhaa
open Go Go.Sim
set_option linter.unusedSimpArgs false
set_option linter.unusedVariables false
set_option maxHeartbeats 10000000
set_option maxRecDepth 40000
theorem idx_api_Span (l : List Span) (g : Nat) (cs : List D) (p : Span → Bool) (hL : l.length ≤ 4294967296) (hp : ∀ a ∈ l, callL G g (.d (eSpan a) :: cs.map .d) [] = some (.d (.bool (p a)), [])) : callL G N_slices_IndexFunc_api_Span [.d (.sl (l.map eSpan)), .d (.fn g cs)] [] = some (.d (.int .i64 (idxI p l)), []) := by
  have := loop_find (G := G) (x := l_slices_IndexFunc_api_Span_0) (ks := []) l.length (atB l p) (fun k => ⟨[(0, .d (.sl (l.map eSpan))), (1, .d (.fn g cs)), (7, .d (.int .i64 l.length)), (8, .d (.int .i64 k))], []⟩) (fun k => (.ret, ⟨[(4, .d (.int .i64 k))], []⟩)) (.exit 0, ⟨[], []⟩) (fun k hk L => by
    simp only [l_slices_IndexFunc_api_Span_0]
    by_cases h0 : k < l.length
    · have h1 := hp l[k] (List.getElem_mem h0)
      simp only [atB_at h0]
      cases h2 : p l[k]
      · rw [h2] at h1
        simp -implicitDefEqProofs (maxSteps := 4000000) (disch := omega) only [go_sem, h1, eSpan_size, eSpan_asAgg]
      · rw [h2] at h1
        simp -implicitDefEqProofs (maxSteps := 4000000) (disch := omega) only [go_sem, h1, eSpan_size, eSpan_asAgg]
    · simp -implicitDefEqProofs (maxSteps := 4000000) (disch := omega) only [go_sem, Nat.zero_add])
  rw [findR_idx] at this
  simp only [Int.natCast_add, Int.natCast_one, Int.natCast_zero, Int.natCast_mul, Int.cast_ofNat_Int, List.length_append, List.length_map, List.map_nil, List.length_nil, List.map_append, List.map_cons, List.length_cons, Nat.zero_add, srcO, mapSet] at this
  unfold idxI
  cases h : l.findIdx? p with
  | none => rw [h] at this; rw [callL_code g_slices_IndexFunc_api_Span (by simp)]; simp -implicitDefEqProofs (maxSteps := 4000000) (disch := omega) only [c_slices_IndexFunc_api_Span, r_slices_IndexFunc_api_Span, go_sem, this]
  | some i => rw [h] at this; rw [callL_code g_slices_IndexFunc_api_Span (by simp)]; simp -implicitDefEqProofs (maxSteps := 4000000) (disch := omega) only [c_slices_IndexFunc_api_Span, r_slices_IndexFunc_api_Span, go_sem, this]
theorem contains_api_Span (l : List Span) (g : Nat) (cs : List D) (p : Span → Bool) (hL : l.length ≤ 4294967296) (hp : ∀ a ∈ l, callL G g (.d (eSpan a) :: cs.map .d) [] = some (.d (.bool (p a)), [])) : callL G N_slices_ContainsFunc_api_Span [.d (.sl (l.map eSpan)), .d (.fn g cs)] [] = some (.d (.bool (l.any p)), []) := by
  rw [callL_code g_slices_ContainsFunc_api_Span (by simp)]; simp -implicitDefEqProofs (maxSteps := 4000000) (disch := omega) only [c_slices_ContainsFunc_api_Span, r_slices_ContainsFunc_api_Span, go_sem, idx_api_Span l g cs p hL hp, idxI_any]
def findS (l : List Span) (slot : Int) : Int := idxI (fun x => decide (x.shard = slot)) l
def tileN : Int → List Span → Option Int
  | n, [] => some n
  | n, x :: l => if x.low = n ∧ x.low ≤ x.high ∧ x.high < 65536 then tileN (x.high + 1) l else none
def chase (F : List Int) : Nat → Int → Int
  | 0, a => a
  | m + 1, a => chase F m (if 0 ≤ a then F.getD a.toNat 0 else a)
def fwdAt (d : Directory) (i : Nat) : Bool := !((decide (0 ≤ findS d.l i) && !decide (d.forward.getD i 0 = -1)) || decide (d.forward.getD i 0 < -1) || decide ((d.forward.length : Int) ≤ d.forward.getD i 0))
def fwdOk (d : Directory) : Bool := ((List.range d.forward.length).all (fwdAt d)) && (List.range d.forward.length).all fun i => decide (chase d.forward d.forward.length i < 0)
def missB (n : Nat) (x : Span) : Bool := decide (x.shard < 0) || decide ((n : Int) ≤ x.shard)
def dupS (l : List Span) (i : Nat) : Bool := decide (findS l (l.getD i zSpan).shard = i)
def dirV (d : Directory) : Int :=
  if d.version < 1 ∨ 1099511627776 < d.version ∨ d.forward.length < 1 ∨ 6 < d.forward.length then 1
  else if tileN 0 d.l ≠ some 65536 then 7
  else if d.l.any (missB d.forward.length) = true then 4
  else if (List.range d.l.length).all (dupS d.l) = false then 10
  else if fwdOk d = false then 7 else 0
theorem dfind1_ok (x : Span) (j : Int) : callL G N_directory_find_1 [.d (eSpan x), .d (.pd (.int .i64 j))] [] = some (.d (.bool (decide (x.shard = j))), []) := by
  simp only [eSpan]
  rw [callL_code g_directory_find_1 (by simp)]; simp -implicitDefEqProofs (maxSteps := 4000000) (disch := omega) only [c_directory_find_1, r_directory_find_1, go_sem, Nat.zero_add]
theorem dfind_ok (l : List Span) (j : Int) (hL : l.length ≤ 4294967296) : callL G N_directory_find [.d (.sl (l.map eSpan)), .d (.int .i64 j)] [] = some (.d (.int .i64 (findS l j)), []) := by
  have := idx_api_Span l N_directory_find_1 [.pd (.int .i64 j)] (fun x => decide (x.shard = j)) hL (fun a _ => dfind1_ok a j)
  rw [callL_code g_directory_find (by simp)]; simp -implicitDefEqProofs (maxSteps := 4000000) (disch := omega) only [c_directory_find, r_directory_find, go_sem, this]
  rfl
def tileR (l : List Span) (k : Nat) (n : Int) : AExit × St := match tileN n (l.drop k) with | some m => (.exit 0, ⟨[(3, .d (.int .i64 m))], []⟩) | none => (.ret, ⟨[(2, .d (.bool false))], []⟩)
theorem tile_loop (l : List Span) (hL : l.length ≤ 4294967296) : ∀ p : Nat × Int, p.1 ≤ l.length ∧ 0 ≤ p.2 ∧ p.2 ≤ 65536 → loopL G [] l_directory_tiles_0 ⟨[(3, .d (.int .i64 p.2)), (6, .d (.sl (l.map eSpan))), (7, .d (.int .i64 l.length)), (8, .d (.int .i64 p.1))], []⟩ = some (tileR l p.1 p.2) := by
  refine loop_ind (fun p : Nat × Int => l.length - p.1) _ (fun p : Nat × Int => ⟨[(3, .d (.int .i64 p.2)), (6, .d (.sl (l.map eSpan))), (7, .d (.int .i64 l.length)), (8, .d (.int .i64 p.1))], []⟩) _ fun ⟨k, n⟩ ⟨hk, h1, h2⟩ L ih => ?_
  simp only at ih hk h1 h2 ⊢
  simp only [l_directory_tiles_0]
  unfold tileR
  by_cases h0 : k < l.length
  · rw [List.drop_eq_getElem_cons h0, tileN]
    by_cases c1 : l[k].low = n
    · by_cases c2 : l[k].low ≤ l[k].high
      · by_cases c3 : l[k].high < 65536
        · have := ih (k + 1, l[k].high + 1) ⟨by simp only; omega, by simp only; omega, by simp only; omega⟩ (by simp only; omega)
          simp only [Int.natCast_add, Int.natCast_one, Int.natCast_zero, Int.natCast_mul, Int.cast_ofNat_Int, List.length_append, List.length_map, List.map_nil, List.length_nil, List.map_append, List.map_cons, List.length_cons, Nat.zero_add, srcO, mapSet] at this
          rw [if_pos ⟨c1, c2, c3⟩]
          simp -implicitDefEqProofs (maxSteps := 4000000) (disch := omega) only [go_sem, eSpan, this]
          rfl
        · rw [if_neg (fun h => c3 h.2.2)]
          simp -implicitDefEqProofs (maxSteps := 4000000) (disch := omega) only [go_sem, eSpan]
      · rw [if_neg (fun h => c2 h.2.1)]
        simp -implicitDefEqProofs (maxSteps := 4000000) (disch := omega) only [go_sem, eSpan]
    · rw [if_neg (fun h => c1 h.1)]
      simp -implicitDefEqProofs (maxSteps := 4000000) (disch := omega) only [go_sem, eSpan, c1]
  · rw [List.drop_of_length_le (by omega), tileN]
    simp -implicitDefEqProofs (maxSteps := 4000000) (disch := omega) only [go_sem, Nat.zero_add]
theorem tiles_ok (l : List Span) (hL : l.length ≤ 4294967296) : callL G N_directory_tiles [.d (.sl (l.map eSpan))] [] = some (.d (.bool (decide (tileN 0 l = some 65536))), []) := by
  have := tile_loop l hL (0, 0) ⟨by omega, by omega, by omega⟩
  simp only [tileR, List.drop_zero] at this
  simp only [Int.natCast_add, Int.natCast_one, Int.natCast_zero, Int.natCast_mul, Int.cast_ofNat_Int, List.length_append, List.length_map, List.map_nil, List.length_nil, List.map_append, List.map_cons, List.length_cons, Nat.zero_add, srcO, mapSet] at this
  cases h : tileN 0 l with
  | none => rw [h] at this; rw [callL_code g_directory_tiles (by simp)]; simp -implicitDefEqProofs (maxSteps := 4000000) (disch := omega) only [c_directory_tiles, r_directory_tiles, go_sem, this]
  | some m =>
    rw [h] at this
    rw [callL_code g_directory_tiles (by simp)]; simp -implicitDefEqProofs (maxSteps := 4000000) (disch := omega) only [c_directory_tiles, r_directory_tiles, go_sem, this]
    simp
def obD (o : Nat) (d : Directory) : Nat × Go.Sim.Obj := (o, .row [.d (eDirectory d)])
theorem fwd_loop0 (d : Directory) (hL : d.l.length ≤ 4294967296) (hF : d.forward.length ≤ 6) : loopL G [] l_directory_forwards_0 ⟨[(1, .ref 1 0 0), (9, .d (.sl (ints d.forward))), (10, .d (.int .i64 d.forward.length)), (11, .d (.int .i64 0))], [obD 1 d]⟩ = some (if (List.range d.forward.length).all (fwdAt d) = true then (.exit 0, ⟨[(1, .ref 1 0 0)], [obD 1 d]⟩) else (.ret, ⟨[(2, .d (.bool false))], []⟩)) := by
  have := loop_all (G := G) (x := l_directory_forwards_0) (ks := []) d.forward.length (fwdAt d) (fun k => ⟨[(1, .ref 1 0 0), (9, .d (.sl (ints d.forward))), (10, .d (.int .i64 d.forward.length)), (11, .d (.int .i64 k))], [obD 1 d]⟩) (.ret, ⟨[(2, .d (.bool false))], []⟩) (.exit 0, ⟨[(1, .ref 1 0 0)], [obD 1 d]⟩) (fun k hk L => by
    simp only [l_directory_forwards_0, obD, eDirectory]
    by_cases h0 : k < d.forward.length
    · have hg : (d.forward.map (D.int .i64))[k]? = some (.int .i64 (d.forward.getD k 0)) := by simp [List.getElem?_eq_getElem h0, h0]
      unfold fwdAt
      generalize d.forward.getD k 0 = t at *
      by_cases c1 : 0 ≤ findS d.l k
      · by_cases c2 : t = -1
        · simp -implicitDefEqProofs (maxSteps := 4000000) (disch := omega) only [go_sem, hg, dfind_ok, c1, c2]
        · simp -implicitDefEqProofs (maxSteps := 4000000) (disch := omega) only [go_sem, hg, dfind_ok, c1, c2]
      · by_cases c3 : t < -1
        · simp -implicitDefEqProofs (maxSteps := 4000000) (disch := omega) only [go_sem, hg, dfind_ok, c1, c3]
        · by_cases c4 : (d.forward.length : Int) ≤ t
          · simp -implicitDefEqProofs (maxSteps := 4000000) (disch := omega) only [go_sem, hg, dfind_ok, c1, c3, c4]
          · simp -implicitDefEqProofs (maxSteps := 4000000) (disch := omega) only [go_sem, hg, dfind_ok, c1, c3, c4]
    · simp -implicitDefEqProofs (maxSteps := 4000000) (disch := omega) only [go_sem, Nat.zero_add])
  simp only [Int.natCast_add, Int.natCast_one, Int.natCast_zero, Int.natCast_mul, Int.cast_ofNat_Int, List.length_append, List.length_map, List.map_nil, List.length_nil, List.map_append, List.map_cons, List.length_cons, Nat.zero_add, srcO, mapSet] at this
  exact this
theorem chase_loop (d : Directory) (i : Nat) (hF : d.forward.length ≤ 6) (hv : ∀ a ∈ d.forward, -1 ≤ a ∧ a < d.forward.length) : ∀ p : Nat × Int, p.1 ≤ d.forward.length ∧ -1 ≤ p.2 ∧ p.2 < d.forward.length → loopL G [] l_directory_forwards_1 ⟨[(1, .ref 1 0 0), (7, .d (.int .i64 p.2)), (40, .d (.int .i64 d.forward.length)), (41, .d (.int .i64 i)), (47, .d (.int .i64 d.forward.length)), (48, .d (.int .i64 p.1))], [obD 1 d]⟩ = some (.exit 4, ⟨[(1, .ref 1 0 0), (7, .d (.int .i64 (chase d.forward (d.forward.length - p.1) p.2))), (40, .d (.int .i64 d.forward.length)), (41, .d (.int .i64 i))], [obD 1 d]⟩) := by
  refine loop_ind (fun p : Nat × Int => d.forward.length - p.1) _ (fun p : Nat × Int => ⟨[(1, .ref 1 0 0), (7, .d (.int .i64 p.2)), (40, .d (.int .i64 d.forward.length)), (41, .d (.int .i64 i)), (47, .d (.int .i64 d.forward.length)), (48, .d (.int .i64 p.1))], [obD 1 d]⟩) _ fun ⟨k, a⟩ ⟨hk, h1, h2⟩ L ih => ?_
  simp only [obD, eDirectory] at ih hk h1 h2 ⊢
  simp only [l_directory_forwards_1]
  by_cases h0 : k < d.forward.length
  · rw [show d.forward.length - k = (d.forward.length - (k + 1)) + 1 by omega, chase]
    by_cases c1 : 0 ≤ a
    · have hlt : a.toNat < d.forward.length := by omega
      have hg : (d.forward.map (D.int .i64))[a.toNat]? = some (.int .i64 (d.forward.getD a.toNat 0)) := by simp [List.getElem?_eq_getElem hlt, hlt]
      have hm := hv (d.forward.getD a.toNat 0) (by simp [hlt])
      have := ih (k + 1, d.forward.getD a.toNat 0) ⟨by simp only; omega, hm.1, hm.2⟩ (by simp only; omega)
      rw [if_pos c1]
      simp only [Int.natCast_add, Int.natCast_one, Int.natCast_zero, Int.natCast_mul, Int.cast_ofNat_Int, List.length_append, List.length_map, List.map_nil, List.length_nil, List.map_append, List.map_cons, List.length_cons, Nat.zero_add, srcO, mapSet] at this
      simp -implicitDefEqProofs (maxSteps := 4000000) (disch := omega) only [go_sem, hg, this]
    · have := ih (k + 1, a) ⟨by simp only; omega, h1, h2⟩ (by simp only; omega)
      rw [if_neg c1]
      simp only [Int.natCast_add, Int.natCast_one, Int.natCast_zero, Int.natCast_mul, Int.cast_ofNat_Int, List.length_append, List.length_map, List.map_nil, List.length_nil, List.map_append, List.map_cons, List.length_cons, Nat.zero_add, srcO, mapSet] at this
      simp -implicitDefEqProofs (maxSteps := 4000000) (disch := omega) only [go_sem, this]
  · rw [show d.forward.length - k = 0 by omega, chase]
    simp -implicitDefEqProofs (maxSteps := 4000000) (disch := omega) only [go_sem, Nat.zero_add]
end Go.Proofs.Ytadnfmkdmknmhaa

namespace Go.Proofs.Ytadnfmkdmknmhaa
open Go Go.Sim
set_option linter.unusedSimpArgs false
set_option linter.unusedVariables false
set_option maxHeartbeats 10000000
set_option maxRecDepth 40000
theorem fwdAt_in {d : Directory} (h : (List.range d.forward.length).all (fwdAt d) = true) : ∀ a ∈ d.forward, -1 ≤ a ∧ a < d.forward.length := by
  intro a ha
  obtain ⟨i, hi, rfl⟩ := List.mem_iff_getElem.1 ha
  have := List.all_eq_true.1 h i (List.mem_range.2 hi)
  unfold fwdAt at this
  have e : d.forward.getD i 0 = d.forward[i] := by simp [hi]
  rw [e] at this
  simp only [Bool.not_eq_true', Bool.or_eq_false_iff, decide_eq_false_iff_not] at this
  omega
theorem fwd_loop2 (d : Directory) (hF : d.forward.length ≤ 6) (hv : ∀ a ∈ d.forward, -1 ≤ a ∧ a < d.forward.length) : loopL G [] l_directory_forwards_2 ⟨[(1, .ref 1 0 0), (40, .d (.int .i64 d.forward.length)), (41, .d (.int .i64 0))], [obD 1 d]⟩ = some (if ((List.range d.forward.length).all fun i => decide (chase d.forward d.forward.length i < 0)) = true then (.exit 2, ⟨[], []⟩) else (.ret, ⟨[(2, .d (.bool false))], []⟩)) := by
  have := loop_all (G := G) (x := l_directory_forwards_2) (ks := []) d.forward.length (fun i => decide (chase d.forward d.forward.length i < 0)) (fun k => ⟨[(1, .ref 1 0 0), (40, .d (.int .i64 d.forward.length)), (41, .d (.int .i64 k))], [obD 1 d]⟩) (.ret, ⟨[(2, .d (.bool false))], []⟩) (.exit 2, ⟨[], []⟩) (fun k hk L => by
    simp only [l_directory_forwards_2]
    by_cases h0 : k < d.forward.length
    · have hc := chase_loop d k hF hv (0, (k : Int)) ⟨by omega, by simp only; omega, by simp only; omega⟩
      simp only [obD, eDirectory, Nat.sub_zero] at hc ⊢
      simp only [Int.natCast_add, Int.natCast_one, Int.natCast_zero, Int.natCast_mul, Int.cast_ofNat_Int, List.length_append, List.length_map, List.map_nil, List.length_nil, List.map_append, List.map_cons, List.length_cons, Nat.zero_add, srcO, mapSet] at hc
      by_cases c1 : chase d.forward d.forward.length k < 0
      · simp -implicitDefEqProofs (maxSteps := 4000000) (disch := omega) only [go_sem, hc, c1]
      · simp -implicitDefEqProofs (maxSteps := 4000000) (disch := omega) only [go_sem, hc, c1]
    · simp only [obD, eDirectory]
      simp -implicitDefEqProofs (maxSteps := 4000000) (disch := omega) only [go_sem, Nat.zero_add])
  simp only [Int.natCast_add, Int.natCast_one, Int.natCast_zero, Int.natCast_mul, Int.cast_ofNat_Int, List.length_append, List.length_map, List.map_nil, List.length_nil, List.map_append, List.map_cons, List.length_cons, Nat.zero_add, srcO, mapSet] at this
  exact this
theorem forwards_ok (d : Directory) (hL : d.l.length ≤ 4294967296) (hF : d.forward.length ≤ 6) : callL G N_directory_forwards [.d (eDirectory d)] [] = some (.d (.bool (fwdOk d)), []) := by
  have h1 := fwd_loop0 d hL hF
  simp only [obD, eDirectory] at h1 ⊢
  unfold fwdOk
  cases c1 : (List.range d.forward.length).all (fwdAt d)
  · rw [c1] at h1
    simp only [Bool.false_eq_true, if_false] at h1
    rw [callL_code g_directory_forwards (by simp)]; simp -implicitDefEqProofs (maxSteps := 4000000) (disch := omega) only [c_directory_forwards, r_directory_forwards, go_sem, h1]
  · rw [c1] at h1
    simp only [if_true] at h1
    have h2 := fwd_loop2 d hF (fwdAt_in c1)
    simp only [obD, eDirectory] at h2
    cases c2 : ((List.range d.forward.length).all fun i => decide (chase d.forward d.forward.length i < 0))
    · rw [c2] at h2
      simp only [Bool.false_eq_true, if_false] at h2
      rw [callL_code g_directory_forwards (by simp)]; simp -implicitDefEqProofs (maxSteps := 4000000) (disch := omega) only [c_directory_forwards, r_directory_forwards, go_sem, h1, h2]
    · rw [c2] at h2
      simp only [if_true] at h2
      rw [callL_code g_directory_forwards (by simp)]; simp -implicitDefEqProofs (maxSteps := 4000000) (disch := omega) only [c_directory_forwards, r_directory_forwards, go_sem, h1, h2]
theorem dVal1_ok (n : Nat) (x : Span) : callL G N_directory_Validate_1 [.d (eSpan x), .d (.pd (.int .i64 n))] [] = some (.d (.bool (missB n x)), []) := by
  simp only [eSpan]
  unfold missB
  rw [callL_code g_directory_Validate_1 (by simp)]; simp -implicitDefEqProofs (maxSteps := 4000000) (disch := omega) only [c_directory_Validate_1, r_directory_Validate_1, go_sem, Nat.zero_add]
theorem dVal_loop (d : Directory) (hL : d.l.length ≤ 4294967296) : loopL G [] l_directory_Validate_0 ⟨[(1, .ref 1 0 0), (37, .d (.sl (d.l.map eSpan))), (38, .d (.int .i64 d.l.length)), (39, .d (.int .i64 0))], [obD 1 d]⟩ = some (if (List.range d.l.length).all (dupS d.l) = true then (.exit 1, ⟨[(1, .ref 1 0 0)], [obD 1 d]⟩) else (.ret, ⟨[(2, .d (.int .i64 10))], []⟩)) := by
  have := loop_all (G := G) (x := l_directory_Validate_0) (ks := []) d.l.length (dupS d.l) (fun k => ⟨[(1, .ref 1 0 0), (37, .d (.sl (d.l.map eSpan))), (38, .d (.int .i64 d.l.length)), (39, .d (.int .i64 k))], [obD 1 d]⟩) (.ret, ⟨[(2, .d (.int .i64 10))], []⟩) (.exit 1, ⟨[(1, .ref 1 0 0)], [obD 1 d]⟩) (fun k hk L => by
    simp only [l_directory_Validate_0, obD, eDirectory]
    by_cases h0 : k < d.l.length
    · have hg : d.l.getD k zSpan = d.l[k] := by simp [h0]
      unfold dupS
      rw [hg]
      by_cases c1 : findS d.l d.l[k].shard = k
      · simp -implicitDefEqProofs (maxSteps := 4000000) (disch := omega) only [go_sem, eSpan, dfind_ok, c1]
      · simp -implicitDefEqProofs (maxSteps := 4000000) (disch := omega) only [go_sem, eSpan, dfind_ok, c1]
    · simp -implicitDefEqProofs (maxSteps := 4000000) (disch := omega) only [go_sem, Nat.zero_add])
  simp only [Int.natCast_add, Int.natCast_one, Int.natCast_zero, Int.natCast_mul, Int.cast_ofNat_Int, List.length_append, List.length_map, List.map_nil, List.length_nil, List.map_append, List.map_cons, List.length_cons, Nat.zero_add, srcO, mapSet] at this
  exact this
theorem dValidate_ok (d : Directory) (hL : d.l.length ≤ 4294967296) (hF : d.forward.length ≤ 4294967296) : callL G N_directory_Validate [.d (eDirectory d)] [] = some (.d (.int .i64 (dirV d)), []) := by
  unfold dirV
  by_cases c1 : d.version < 1
  · rw [if_pos (Or.inl c1)]
    simp only [eDirectory]
    rw [callL_code g_directory_Validate (by simp)]; simp -implicitDefEqProofs (maxSteps := 4000000) (disch := omega) only [c_directory_Validate, r_directory_Validate, go_sem, Nat.zero_add]
  by_cases c2 : 1099511627776 < d.version
  · rw [if_pos (Or.inr (Or.inl c2))]
    simp only [eDirectory]
    rw [callL_code g_directory_Validate (by simp)]; simp -implicitDefEqProofs (maxSteps := 4000000) (disch := omega) only [c_directory_Validate, r_directory_Validate, go_sem, Nat.zero_add]
  by_cases c3 : d.forward.length < 1
  · rw [if_pos (Or.inr (Or.inr (Or.inl c3)))]
    simp only [eDirectory]
    rw [callL_code g_directory_Validate (by simp)]; simp -implicitDefEqProofs (maxSteps := 4000000) (disch := omega) only [c_directory_Validate, r_directory_Validate, go_sem, Nat.zero_add]
  by_cases c4 : 6 < d.forward.length
  · rw [if_pos (Or.inr (Or.inr (Or.inr c4)))]
    simp only [eDirectory]
    rw [callL_code g_directory_Validate (by simp)]; simp -implicitDefEqProofs (maxSteps := 4000000) (disch := omega) only [c_directory_Validate, r_directory_Validate, go_sem, Nat.zero_add]
  rw [if_neg (by omega)]
  have ht := tiles_ok d.l hL
  have hm := contains_api_Span d.l N_directory_Validate_1 [.pd (.int .i64 d.forward.length)] (missB d.forward.length) hL (fun a _ => dVal1_ok _ a)
  have hd := dVal_loop d hL
  have hf := forwards_ok d hL (by omega)
  simp only [eDirectory, obD] at hd hf ⊢
  by_cases c5 : tileN 0 d.l = some 65536
  · simp only [c5, decide_true] at ht
    simp only [c5, ne_eq, not_true_eq_false, if_false]
    cases c6 : d.l.any (missB d.forward.length)
    · rw [c6] at hm
      cases c7 : (List.range d.l.length).all (dupS d.l)
      · rw [c7] at hd
        simp only [Bool.false_eq_true, if_false] at hd
        rw [callL_code g_directory_Validate (by simp)]; simp -implicitDefEqProofs (maxSteps := 4000000) (disch := omega) only [c_directory_Validate, r_directory_Validate, go_sem, ht, hm, hd]
      · rw [c7] at hd
        simp only [if_true] at hd
        cases c8 : fwdOk d
        · rw [c8] at hf
          rw [callL_code g_directory_Validate (by simp)]; simp -implicitDefEqProofs (maxSteps := 4000000) (disch := omega) only [c_directory_Validate, r_directory_Validate, go_sem, ht, hm, hd, hf]
        · rw [c8] at hf
          rw [callL_code g_directory_Validate (by simp)]; simp -implicitDefEqProofs (maxSteps := 4000000) (disch := omega) only [c_directory_Validate, r_directory_Validate, go_sem, ht, hm, hd, hf]
    · rw [c6] at hm
      rw [callL_code g_directory_Validate (by simp)]; simp -implicitDefEqProofs (maxSteps := 4000000) (disch := omega) only [c_directory_Validate, r_directory_Validate, go_sem, ht, hm]
  · simp only [c5, decide_false] at ht
    simp only [c5, ne_eq, not_false_eq_true, if_true]
    rw [callL_code g_directory_Validate (by simp)]; simp -implicitDefEqProofs (maxSteps := 4000000) (disch := omega) only [c_directory_Validate, r_directory_Validate, go_sem, ht]
def spanD (d : Directory) (slot : Int) : Span × Bool := if dirV d = 0 ∧ 0 ≤ findS d.l slot then (d.l.getD (findS d.l slot).toNat zSpan, true) else (zSpan, false)
theorem findS_lt (l : List Span) (j : Int) : -1 ≤ findS l j ∧ findS l j < l.length := idxI_lt _ _
theorem dSpan_ok (d : Directory) (slot : Int) (hL : d.l.length ≤ 4294967296) (hF : d.forward.length ≤ 4294967296) : callL G N_directory_Span [.d (eDirectory d), .d (.int .i64 slot)] [] = some (.d (.tup [eSpan (spanD d slot).1, .bool (spanD d slot).2]), []) := by
  have hv := dValidate_ok d hL hF
  have hf := dfind_ok d.l slot hL
  have hlt := findS_lt d.l slot
  unfold spanD
  simp only [eDirectory] at hv ⊢
  by_cases c1 : dirV d = 0
  · by_cases c2 : 0 ≤ findS d.l slot
    · rw [if_pos ⟨c1, c2⟩]
      have hl2 : (findS d.l slot).toNat < d.l.length := by omega
      have hg : (d.l.map eSpan)[(findS d.l slot).toNat]? = some (eSpan (d.l.getD (findS d.l slot).toNat zSpan)) := by simp [List.getElem?_eq_getElem hl2, hl2]
      simp only
      generalize d.l.getD (findS d.l slot).toNat zSpan = x at *
      simp only [eSpan] at hg ⊢
      rw [callL_code g_directory_Span (by simp)]; simp -implicitDefEqProofs (maxSteps := 4000000) (disch := omega) only [c_directory_Span, r_directory_Span, go_sem, hv, hf, hg, c1]
    · rw [if_neg (fun h => c2 h.2)]
      simp only [eSpan, zSpan]
      rw [callL_code g_directory_Span (by simp)]; simp -implicitDefEqProofs (maxSteps := 4000000) (disch := omega) only [c_directory_Span, r_directory_Span, go_sem, hv, hf, c1]
  · rw [if_neg (fun h => c1 h.1)]
    simp only [eSpan, zSpan]
    rw [callL_code g_directory_Span (by simp)]; simp -implicitDefEqProofs (maxSteps := 4000000) (disch := omega) only [c_directory_Span, r_directory_Span, go_sem, hv, c1]
end Go.Proofs.Ytadnfmkdmknmhaa
