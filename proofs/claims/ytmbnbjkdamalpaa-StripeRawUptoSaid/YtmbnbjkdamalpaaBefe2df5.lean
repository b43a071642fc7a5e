/-
  The table of functions.
  Loops, where what comes out is told by a law rather than by a function.
  Numbers, as walks need them, and counted loops.
  More facts about lists, in the forms that walks take.
  Lists that are set or cut, in the forms that walks take.
  The rewriting set of walks, whole.
  The types of package api, as they lie in memory.
  Heaps of deadlines: what the functions of package due compute, part 1.
  The reader of numbers.
  Heaps of deadlines: what the functions of package due compute, part 2.
  Heaps of deadlines: what the functions of package due compute, part 3.
  Heaps of deadlines: what the functions of package due compute, part 4.
  Heaps of deadlines: what the functions of package due compute, part 5.
  Heaps of deadlines, in plain terms: sifting keeps the elements and mends the order.
  Heaps of deadlines, in plain terms: what a valid heap is, and what Push, Pop and Remove make of it.
-/
import Derived.Test.YtmbnbjkdamalpaaB80d9f6c
import Derived.KernelRfl
import Derived.Test.YtmbnbjkdamalpaaB2e6fdb1
import Derived.IntWalk
set_option linter.unusedSimpArgs false
set_option linter.unusedVariables false
namespace Go.Proofs.Ytmbnbjkdamalpaa
open Go Go.Sim
def tab : List (Nat × AFn) := [(N_law11_StripeRaw, fn_law11_StripeRaw), (N_stripe_Begin, fn_stripe_Begin), (N_stripe_number, fn_stripe_number), (N_ref11_Begin, fn_ref11_Begin), (N_stripe_End, fn_stripe_End), (N_shard_Validate, fn_shard_Validate), (N_ring_Validate, fn_ring_Validate), (N_ring_cell, fn_ring_cell), (N_ring_list, fn_ring_list), (N_message_Validate, fn_message_Validate), (N_message_in, fn_message_in), (N_lease_Validate, fn_lease_Validate), (N_lease_time, fn_lease_time), (N_due_Validate, fn_due_Validate), (N_slices_ContainsFunc_api_Due, fn_slices_ContainsFunc_api_Due), (N_slices_IndexFunc_api_Due, fn_slices_IndexFunc_api_Due), (N_due_Validate_1, fn_due_Validate_1), (N_due_valid, fn_due_valid), (N_due_find, fn_due_find), (N_due_find_1, fn_due_find_1), (N_due_before, fn_due_before), (N_due_compare, fn_due_compare), (N_cmp_Compare_int, fn_cmp_Compare_int), (N_cmp_isNaN_int, fn_cmp_isNaN_int), (N_cmp_Or_int, fn_cmp_Or_int), (N_lease_matches, fn_lease_matches), (N_slices_Contains_api_Due, fn_slices_Contains_api_Due), (N_slices_Index_api_Due, fn_slices_Index_api_Due), (N_shard_stored, fn_shard_stored), (N_shard_spans, fn_shard_spans), (N_shard_messages, fn_shard_messages), (N_ring_List, fn_ring_List), (N_shard_in, fn_shard_in), (N_shard_Counts, fn_shard_Counts), (N_shard_isEpoch, fn_shard_isEpoch), (N_shard_isLimit, fn_shard_isLimit), (N_shard_usable, fn_shard_usable), (N_shard_live, fn_shard_live), (N_slices_Contains_bool, fn_slices_Contains_bool), (N_slices_Index_bool, fn_slices_Index_bool), (N_message_Purged, fn_message_Purged), (N_message_Spent, fn_message_Spent), (N_ref11_End, fn_ref11_End), (N_ref07_Validate, fn_ref07_Validate), (N_ref04_Validate, fn_ref04_Validate), (N_ref04_order, fn_ref04_order), (N_ref03_Validate, fn_ref03_Validate), (N_ref03_in, fn_ref03_in), (N_ref03_Index, fn_ref03_Index), (N_ref06_Validate, fn_ref06_Validate), (N_ref05_Validate, fn_ref05_Validate), (N_ref05_sound, fn_ref05_sound), (N_ref05_index, fn_ref05_index), (N_ref05_before, fn_ref05_before), (N_ref06_find, fn_ref06_find), (N_ref07_span, fn_ref07_span), (N_ref07_All, fn_ref07_All), (N_ref07_Ready, fn_ref07_Ready), (N_ref04_List, fn_ref04_List), (N_ref07_Leased, fn_ref07_Leased), (N_ref07_Counts, fn_ref07_Counts), (N_ref07_Live, fn_ref07_Live), (N_ref07_epochs, fn_ref07_epochs), (N_ref07_limits, fn_ref07_limits), (N_ref03_Purged, fn_ref03_Purged), (N_ref03_Spent, fn_ref03_Spent), (N_stripe_Sum, fn_stripe_Sum), (N_ref11_Sum, fn_ref11_Sum), (N_ref11_counted, fn_ref11_counted), (N_stripe_Quiet, fn_stripe_Quiet), (N_slices_ContainsFunc_api_Stripe, fn_slices_ContainsFunc_api_Stripe), (N_slices_IndexFunc_api_Stripe, fn_slices_IndexFunc_api_Stripe), (N_stripe_Quiet_1, fn_stripe_Quiet_1), (N_ref11_Quiet, fn_ref11_Quiet), (N_stripe_Same, fn_stripe_Same), (N_slices_Equal_api_Stripe, fn_slices_Equal_api_Stripe), (N_ref11_Same, fn_ref11_Same), (N_law11_awake, fn_law11_awake)]
def G : FuncId → Option AFn := fun f => Go.Sim.look f tab
theorem g_law11_StripeRaw : G N_law11_StripeRaw = some fn_law11_StripeRaw := by kernel_rfl
theorem g_stripe_Begin : G N_stripe_Begin = some fn_stripe_Begin := by kernel_rfl
theorem g_stripe_number : G N_stripe_number = some fn_stripe_number := by kernel_rfl
theorem g_ref11_Begin : G N_ref11_Begin = some fn_ref11_Begin := by kernel_rfl
theorem g_stripe_End : G N_stripe_End = some fn_stripe_End := by kernel_rfl
theorem g_shard_Validate : G N_shard_Validate = some fn_shard_Validate := by kernel_rfl
theorem g_ring_Validate : G N_ring_Validate = some fn_ring_Validate := by kernel_rfl
theorem g_ring_cell : G N_ring_cell = some fn_ring_cell := by kernel_rfl
theorem g_ring_list : G N_ring_list = some fn_ring_list := by kernel_rfl
theorem g_message_Validate : G N_message_Validate = some fn_message_Validate := by kernel_rfl
theorem g_message_in : G N_message_in = some fn_message_in := by kernel_rfl
theorem g_lease_Validate : G N_lease_Validate = some fn_lease_Validate := by kernel_rfl
theorem g_lease_time : G N_lease_time = some fn_lease_time := by kernel_rfl
theorem g_due_Validate : G N_due_Validate = some fn_due_Validate := by kernel_rfl
theorem g_slices_ContainsFunc_api_Due : G N_slices_ContainsFunc_api_Due = some fn_slices_ContainsFunc_api_Due := by kernel_rfl
theorem g_slices_IndexFunc_api_Due : G N_slices_IndexFunc_api_Due = some fn_slices_IndexFunc_api_Due := by kernel_rfl
theorem g_due_Validate_1 : G N_due_Validate_1 = some fn_due_Validate_1 := by kernel_rfl
theorem g_due_valid : G N_due_valid = some fn_due_valid := by kernel_rfl
theorem g_due_find : G N_due_find = some fn_due_find := by kernel_rfl
theorem g_due_find_1 : G N_due_find_1 = some fn_due_find_1 := by kernel_rfl
theorem g_due_before : G N_due_before = some fn_due_before := by kernel_rfl
theorem g_due_compare : G N_due_compare = some fn_due_compare := by kernel_rfl
theorem g_cmp_Compare_int : G N_cmp_Compare_int = some fn_cmp_Compare_int := by kernel_rfl
theorem g_cmp_isNaN_int : G N_cmp_isNaN_int = some fn_cmp_isNaN_int := by kernel_rfl
theorem g_cmp_Or_int : G N_cmp_Or_int = some fn_cmp_Or_int := by kernel_rfl
theorem g_lease_matches : G N_lease_matches = some fn_lease_matches := by kernel_rfl
theorem g_slices_Contains_api_Due : G N_slices_Contains_api_Due = some fn_slices_Contains_api_Due := by kernel_rfl
theorem g_slices_Index_api_Due : G N_slices_Index_api_Due = some fn_slices_Index_api_Due := by kernel_rfl
theorem g_shard_stored : G N_shard_stored = some fn_shard_stored := by kernel_rfl
theorem g_shard_spans : G N_shard_spans = some fn_shard_spans := by kernel_rfl
theorem g_shard_messages : G N_shard_messages = some fn_shard_messages := by kernel_rfl
theorem g_ring_List : G N_ring_List = some fn_ring_List := by kernel_rfl
theorem g_shard_in : G N_shard_in = some fn_shard_in := by kernel_rfl
theorem g_shard_Counts : G N_shard_Counts = some fn_shard_Counts := by kernel_rfl
theorem g_shard_isEpoch : G N_shard_isEpoch = some fn_shard_isEpoch := by kernel_rfl
theorem g_shard_isLimit : G N_shard_isLimit = some fn_shard_isLimit := by kernel_rfl
theorem g_shard_usable : G N_shard_usable = some fn_shard_usable := by kernel_rfl
theorem g_shard_live : G N_shard_live = some fn_shard_live := by kernel_rfl
theorem g_slices_Contains_bool : G N_slices_Contains_bool = some fn_slices_Contains_bool := by kernel_rfl
theorem g_slices_Index_bool : G N_slices_Index_bool = some fn_slices_Index_bool := by kernel_rfl
theorem g_message_Purged : G N_message_Purged = some fn_message_Purged := by kernel_rfl
theorem g_message_Spent : G N_message_Spent = some fn_message_Spent := by kernel_rfl
theorem g_ref11_End : G N_ref11_End = some fn_ref11_End := by kernel_rfl
theorem g_ref07_Validate : G N_ref07_Validate = some fn_ref07_Validate := by kernel_rfl
theorem g_ref04_Validate : G N_ref04_Validate = some fn_ref04_Validate := by kernel_rfl
theorem g_ref04_order : G N_ref04_order = some fn_ref04_order := by kernel_rfl
theorem g_ref03_Validate : G N_ref03_Validate = some fn_ref03_Validate := by kernel_rfl
theorem g_ref03_in : G N_ref03_in = some fn_ref03_in := by kernel_rfl
theorem g_ref03_Index : G N_ref03_Index = some fn_ref03_Index := by kernel_rfl
theorem g_ref06_Validate : G N_ref06_Validate = some fn_ref06_Validate := by kernel_rfl
theorem g_ref05_Validate : G N_ref05_Validate = some fn_ref05_Validate := by kernel_rfl
theorem g_ref05_sound : G N_ref05_sound = some fn_ref05_sound := by kernel_rfl
theorem g_ref05_index : G N_ref05_index = some fn_ref05_index := by kernel_rfl
theorem g_ref05_before : G N_ref05_before = some fn_ref05_before := by kernel_rfl
theorem g_ref06_find : G N_ref06_find = some fn_ref06_find := by kernel_rfl
theorem g_ref07_span : G N_ref07_span = some fn_ref07_span := by kernel_rfl
theorem g_ref07_All : G N_ref07_All = some fn_ref07_All := by kernel_rfl
theorem g_ref07_Ready : G N_ref07_Ready = some fn_ref07_Ready := by kernel_rfl
theorem g_ref04_List : G N_ref04_List = some fn_ref04_List := by kernel_rfl
theorem g_ref07_Leased : G N_ref07_Leased = some fn_ref07_Leased := by kernel_rfl
theorem g_ref07_Counts : G N_ref07_Counts = some fn_ref07_Counts := by kernel_rfl
theorem g_ref07_Live : G N_ref07_Live = some fn_ref07_Live := by kernel_rfl
theorem g_ref07_epochs : G N_ref07_epochs = some fn_ref07_epochs := by kernel_rfl
theorem g_ref07_limits : G N_ref07_limits = some fn_ref07_limits := by kernel_rfl
theorem g_ref03_Purged : G N_ref03_Purged = some fn_ref03_Purged := by kernel_rfl
theorem g_ref03_Spent : G N_ref03_Spent = some fn_ref03_Spent := by kernel_rfl
theorem g_stripe_Sum : G N_stripe_Sum = some fn_stripe_Sum := by kernel_rfl
theorem g_ref11_Sum : G N_ref11_Sum = some fn_ref11_Sum := by kernel_rfl
theorem g_ref11_counted : G N_ref11_counted = some fn_ref11_counted := by kernel_rfl
theorem g_stripe_Quiet : G N_stripe_Quiet = some fn_stripe_Quiet := by kernel_rfl
theorem g_slices_ContainsFunc_api_Stripe : G N_slices_ContainsFunc_api_Stripe = some fn_slices_ContainsFunc_api_Stripe := by kernel_rfl
theorem g_slices_IndexFunc_api_Stripe : G N_slices_IndexFunc_api_Stripe = some fn_slices_IndexFunc_api_Stripe := by kernel_rfl
theorem g_stripe_Quiet_1 : G N_stripe_Quiet_1 = some fn_stripe_Quiet_1 := by kernel_rfl
theorem g_ref11_Quiet : G N_ref11_Quiet = some fn_ref11_Quiet := by kernel_rfl
theorem g_stripe_Same : G N_stripe_Same = some fn_stripe_Same := by kernel_rfl
theorem g_slices_Equal_api_Stripe : G N_slices_Equal_api_Stripe = some fn_slices_Equal_api_Stripe := by kernel_rfl
theorem g_ref11_Same : G N_ref11_Same = some fn_ref11_Same := by kernel_rfl
theorem g_law11_awake : G N_law11_awake = some fn_law11_awake := by kernel_rfl
end Go.Proofs.Ytmbnbjkdamalpaa

namespace Go.Sim
variable {G : FuncId → Option AFn}
theorem loop_indP {T : Type} {ks : List Nat} {x : ACode} (μ : T → Nat) (inv : T → Prop) (st : T → St) (Q : T → Option (AExit × St) → Prop)
    (h : ∀ t, inv t → ∀ L : St → Option (AExit × St), (∀ t', inv t' → μ t' < μ t → Q t' (L (st t'))) → Q t ((exL G x (st t)).bind (loopF ks L))) : ∀ t, inv t → Q t (loopL G ks x (st t)) := by
  intro t
  generalize hk : μ t = k
  induction k using Nat.strongRecOn generalizing t with
  | ind k ih =>
    intro hi
    rw [loopL_eq]
    exact h t hi _ fun t' hi' hlt => ih (μ t') (by omega) t' rfl hi'
end Go.Sim

namespace Go.Sim
variable {G : FuncId → Option AFn}
theorem wr {x : Int} (h : -9223372036854775808 ≤ x ∧ x < 9223372036854775808) : IntKind.i64.wrap x = x := by
  rw [Go.IntWalk.i64_in _ (by omega)]
theorem wu64 {x : Int} (h : 0 ≤ x ∧ x < 18446744073709551616) : IntKind.u64.wrap x = x := by rw [Go.IntWalk.u64_in _ (by omega)]
theorem wu32 {x : Int} (h : 0 ≤ x ∧ x < 4294967296) : IntKind.u32.wrap x = x := by rw [Go.IntWalk.u32_in _ (by omega)]
theorem wu8 {x : Int} (h : 0 ≤ x ∧ x < 256) : IntKind.u8.wrap x = x := by rw [Go.IntWalk.u8_in _ (by omega)]
theorem tdivE {x y : Int} (h : 0 ≤ x) : x.tdiv y = x / y := Int.tdiv_eq_ediv_of_nonneg h
theorem tmodE {x y : Int} (h : 0 ≤ x) : x.tmod y = x % y := Int.tmod_eq_emod_of_nonneg h
theorem beqT {b : Bool} : (b == true) = b := by cases b <;> rfl
theorem beqF {b : Bool} : (b == false) = !b := by cases b <;> rfl
theorem ltT {a b : Int} (h : a < b) : (a < b) = True := eq_true h
theorem ltF {a b : Int} (h : b ≤ a) : (a < b) = False := eq_false (by omega)
theorem leT {a b : Int} (h : a ≤ b) : (a ≤ b) = True := eq_true h
theorem leF {a b : Int} (h : b < a) : (a ≤ b) = False := eq_false (by omega)
theorem eqT {a b : Int} (h : a = b) : (a = b) = True := eq_true h
theorem eqF {a b : Int} (h : ¬ a = b) : (a = b) = False := eq_false h
theorem nltT {a b : Nat} (h : a < b) : (a < b) = True := eq_true h
theorem nltF {a b : Nat} (h : b ≤ a) : (a < b) = False := eq_false (by omega)
theorem nleT {a b : Nat} (h : a ≤ b) : (a ≤ b) = True := eq_true h
theorem nleF {a b : Nat} (h : b < a) : (a ≤ b) = False := eq_false (by omega)
theorem neqT {a b : Nat} (h : a = b) : (a = b) = True := eq_true h
theorem neqF {a b : Nat} (h : ¬ a = b) : (a = b) = False := eq_false h
theorem lenLtT {α : Type} {l : List α} {a : Nat} (h : a < l.length) : (a < l.length) = True := eq_true h
theorem lenLtF {α : Type} {l : List α} {a : Nat} (h : l.length ≤ a) : (a < l.length) = False := eq_false (by omega)
theorem lenLeT {α : Type} {l : List α} {c : Nat} (h : l.length ≤ c) : (l.length ≤ c) = True := eq_true h
theorem addLeT {a b c : Nat} (h : a + b ≤ c) : (a + b ≤ c) = True := eq_true h
theorem lenEqT {α : Type} {l : List α} {c : Nat} (h : l.length = c) : (l.length = c) = True := eq_true h
theorem lim_eq : LIM = 4294967296 := rfl
theorem mapGet {α β : Type} {f : α → β} {l : List α} {k : Nat} (h : k < l.length) : (l.map f)[k]? = some (f (l[k]'h)) := by
  rw [List.getElem?_map, List.getElem?_eq_getElem h]; rfl
theorem toNat_add1 {k : Nat} : ((k : Int) + 1).toNat = k + 1 := by omega
theorem cast_add1 {k : Nat} : ((k : Int) + 1) = ((k + 1 : Nat) : Int) := by omega
def itR {σ : Type} (stp : Nat → σ → (AExit × St) ⊕ σ) (fin : σ → AExit × St) : Nat → Nat → σ → AExit × St
  | _, 0, s => fin s
  | k, m + 1, s => match stp k s with | .inl r => r | .inr s' => itR stp fin (k + 1) m s'
theorem loop_it {σ : Type} {ks : List Nat} {x : ACode} (n : Nat) (st : Nat → σ → St) (inv : Nat → σ → Prop) (stp : Nat → σ → (AExit × St) ⊕ σ) (fin : σ → AExit × St)
    (h : ∀ k s, k ≤ n → inv k s → ∀ L : St → Option (AExit × St), (exL G x (st k s)).bind (loopF ks L) = if k < n then (match stp k s with | .inl r => some r | .inr s' => L (st (k + 1) s')) else some (fin s))
    (hi : ∀ k s s', k < n → inv k s → stp k s = .inr s' → inv (k + 1) s') : ∀ k s, k ≤ n → inv k s → loopL G ks x (st k s) = some (itR stp fin k (n - k) s) := by
  intro k s
  generalize hm : n - k = m
  induction m generalizing k s with
  | zero =>
    intro h1 h2
    rw [loopL_eq, h k s h1 h2, if_neg (by omega)]
    rfl
  | succ m ih =>
    intro h1 h2
    rw [loopL_eq, h k s h1 h2, if_pos (by omega)]
    simp only [itR]
    cases he : stp k s with
    | inl r => rfl
    | inr s' => exact ih (k + 1) s' (by omega) (by omega) (hi k s s' (by omega) h2 he)
theorem loop_all {ks : List Nat} {x : ACode} (n : Nat) (p : Nat → Bool) (st : Nat → St) (R fin : AExit × St)
    (h : ∀ k, k ≤ n → ∀ L : St → Option (AExit × St), (exL G x (st k)).bind (loopF ks L) = if k < n then (if p k = true then L (st (k + 1)) else some R) else some fin) :
    loopL G ks x (st 0) = some (if (List.range n).all p = true then fin else R) := by
  have key : ∀ m k, k + m = n → loopL G ks x (st k) = some (if ((List.range' k m).all p) = true then fin else R) := by
    intro m
    induction m with
    | zero =>
      intro k hk
      rw [loopL_eq, h k (by omega), if_neg (by omega)]
      rfl
    | succ m ih =>
      intro k hk
      rw [loopL_eq, h k (by omega), if_pos (by omega), List.range'_succ, List.all_cons, ih (k + 1) (by omega)]
      cases p k <;> rfl
  have := key n 0 (by omega)
  rwa [← List.range_eq_range'] at this
theorem all_eq {α : Type} [DecidableEq α] {a b : List α} (h : a.length = b.length) : ((List.range a.length).all fun k => decide (a[k]? = b[k]?)) = decide (a = b) := by
  by_cases e : a = b
  · subst e; simp
  · rw [decide_eq_false e]
    apply Bool.eq_false_iff.2
    intro hh
    apply e
    rw [List.all_eq_true] at hh
    apply List.ext_getElem?
    intro k
    by_cases hk : k < a.length
    · simpa using hh k (List.mem_range.2 hk)
    · rw [List.getElem?_eq_none (by omega), List.getElem?_eq_none (by omega)]
theorem get_eq {α : Type} [DecidableEq α] {a b : List α} {k : Nat} (ha : k < a.length) (hb : k < b.length) : decide (a[k]? = b[k]?) = decide (a[k] = b[k]) := by
  rw [List.getElem?_eq_getElem ha, List.getElem?_eq_getElem hb]; simp
def findR {α : Type} (n : Nat) (p : Nat → Bool) (R : Nat → α) (fin : α) : α := match (List.range n).find? p with | some k => R k | none => fin
theorem loop_find {ks : List Nat} {x : ACode} (n : Nat) (p : Nat → Bool) (st : Nat → St) (R : Nat → AExit × St) (fin : AExit × St)
    (h : ∀ k, k ≤ n → ∀ L : St → Option (AExit × St), (exL G x (st k)).bind (loopF ks L) = if k < n then (if p k = true then some (R k) else L (st (k + 1))) else some fin) :
    loopL G ks x (st 0) = some (findR n p R fin) := by
  have key : ∀ m k, k + m = n → loopL G ks x (st k) = some (match (List.range' k m).find? p with | some k => R k | none => fin) := by
    intro m
    induction m with
    | zero =>
      intro k hk
      rw [loopL_eq, h k (by omega), if_neg (by omega)]
      rfl
    | succ m ih =>
      intro k hk
      rw [loopL_eq, h k (by omega), if_pos (by omega), List.range'_succ, List.find?_cons, ih (k + 1) (by omega)]
      cases p k <;> rfl
  have := key n 0 (by omega)
  rwa [← List.range_eq_range'] at this
def idxI {α : Type} (p : α → Bool) (es : List α) : Int := match es.findIdx? p with | some i => i | none => -1
def atB {α : Type} (l : List α) (p : α → Bool) (k : Nat) : Bool := match l[k]? with | some a => p a | none => false
theorem find_range {α : Type} (l : List α) (p : α → Bool) : (List.range l.length).find? (atB l p) = l.findIdx? p := by
  have key : ∀ (m k : Nat), k + m = l.length → (List.range' k m).find? (atB l p) = ((l.drop k).findIdx? p).map (k + ·) := by
    intro m
    induction m with
    | zero => intro k hk; rw [List.drop_of_length_le (by omega)]; rfl
    | succ m ih =>
      intro k hk
      rw [List.range'_succ, List.find?_cons, List.drop_eq_getElem_cons (show k < l.length by omega), List.findIdx?_cons, ih (k + 1) (by omega)]
      have : atB l p k = p (l[k]'(by omega)) := by unfold atB; rw [List.getElem?_eq_getElem (by omega)]
      rw [this]
      cases p (l[k]'(by omega)) with
      | true => simp
      | false =>
        cases (l.drop (k + 1)).findIdx? p with
        | none => rfl
        | some i => simp; omega
  have := key l.length 0 (by omega)
  rw [← List.range_eq_range'] at this
  rw [this, List.drop_zero]
  cases l.findIdx? p <;> simp only [Option.map_none, Option.map_some, Nat.zero_add]
theorem atB_at {α : Type} {l : List α} {p : α → Bool} {k : Nat} (h : k < l.length) : atB l p k = p l[k] := by
  unfold atB; rw [List.getElem?_eq_getElem h]
theorem findR_idx {α β : Type} (l : List α) (p : α → Bool) (R : Nat → β) (fin : β) : findR l.length (atB l p) R fin = match l.findIdx? p with | some k => R k | none => fin := by
  unfold findR; rw [find_range]
theorem idxI_any {α : Type} (l : List α) (p : α → Bool) : decide (0 ≤ idxI p l) = l.any p := by
  unfold idxI
  cases h : l.findIdx? p with
  | none => simp at h; simpa using h
  | some i =>
    have := List.findIdx?_eq_some_iff_getElem.1 h
    simp
    exact ⟨_, List.getElem_mem this.1, this.2.1⟩
theorem idxI_lt {α : Type} (l : List α) (p : α → Bool) : -1 ≤ idxI p l ∧ idxI p l < l.length := by
  unfold idxI
  cases e : l.findIdx? p with
  | none => simp only; omega
  | some i => have := (List.findIdx?_eq_some_iff_getElem.1 e).1; simp only; omega
theorem idxI_some {α : Type} {l : List α} {p : α → Bool} {i : Nat} (h : idxI p l = i) : ∃ hi : i < l.length, p (l[i]) = true ∧ ∀ j (hj : j < i), p (l[j]'(by omega)) = false := by
  unfold idxI at h
  cases e : l.findIdx? p with
  | none => rw [e] at h; simp only at h; omega
  | some k =>
    rw [e] at h
    simp only at h
    obtain rfl : k = i := by omega
    obtain ⟨h1, h2, h3⟩ := List.findIdx?_eq_some_iff_getElem.1 e
    exact ⟨h1, h2, fun j hj => by have := h3 j hj; simpa using this⟩
theorem idxI_neg {α : Type} (l : List α) (p : α → Bool) : idxI p l < 0 ↔ ∀ a ∈ l, p a = false := by
  have := idxI_any l p
  have h2 : l.any p = false ↔ ∀ a ∈ l, p a = false := by simp
  rw [← h2, ← this]
  simp
theorem idxI_m1 {α : Type} (l : List α) (p : α → Bool) : idxI p l < 0 ↔ idxI p l = -1 := by have := idxI_lt l p; omega
end Go.Sim

namespace Go.Sim
theorem getDT {α : Type} {l : List α} {k : Nat} {d : α} (h : k < l.length) : l.getD k d = l[k]'h := by
  rw [List.getD_eq_getElem?_getD, List.getElem?_eq_getElem h]; rfl
theorem getQT {α : Type} {l : List α} {k : Nat} (h : k < l.length) : l[k]? = some (l[k]'h) := List.getElem?_eq_getElem h
theorem takeT {α : Type} {l : List α} {k : Nat} (h : l.length ≤ k) : l.take k = l := List.take_of_length_le h
theorem setMap {α β : Type} {f : α → β} {l : List α} {k : Nat} {x : α} : (l.map f).set k (f x) = (l.set k x).map f := by rw [List.map_set]
theorem mapGet2 {α β γ : Type} {f : α → β} {g : β → γ} {l : List α} {k : Nat} (h : k < l.length) : ((l.map f).map g)[k]? = some (g (f (l[k]'h))) := by
  rw [List.map_map, List.getElem?_map, List.getElem?_eq_getElem h]; rfl
theorem lenSet {α : Type} {l : List α} {k : Nat} {x : α} : (l.set k x).length = l.length := List.length_set
theorem setGetEq {α : Type} {l : List α} {k : Nat} {x : α} (h : k < l.length) : (l.set k x)[k]? = some x := by rw [List.getElem?_set_self h]
theorem mapSet {α : Type} {f : α → D} {l : List α} {k : Nat} {x : α} : (l.set k x).map f = (l.map f).set k (f x) := by rw [List.map_set]
theorem setD {ds : List D} {k : Nat} {x : D} : (ds.map AV.d).set k (.d x) = (ds.set k x).map AV.d := by rw [List.map_set]
theorem iteC {α : Type} {c : Prop} [Decidable c] {A B r : α} (h1 : c → A = r) (h2 : ¬ c → B = r) : (if c then A else B) = r := by split <;> simp_all
end Go.Sim

namespace Go.Sim
theorem takeMapD {ds : List D} {n : Nat} : (ds.map AV.d).take n = (ds.take n).map AV.d := by rw [List.map_take]
theorem dropMapD {ds : List D} {n : Nat} : (ds.map AV.d).drop n = (ds.drop n).map AV.d := by rw [List.map_drop]
theorem takeSetM {α : Type} {f : α → D} {l : List α} {n k : Nat} {x : D} (h : l.length ≤ n) : ((l.map f).set k x).take n = (l.map f).set k x := List.take_of_length_le (by simpa using h)
theorem takeM {α : Type} {f : α → D} {l : List α} {n : Nat} (h : l.length ≤ n) : (l.map f).take n = l.map f := List.take_of_length_le (by simpa using h)
theorem refsLd {o : Nat} {ds : List D} : AV.refsL o (ds.map .d) = false := refsL_d
theorem iteR {α : Type} {c : Prop} [Decidable c] {A B r : α} (h1 : c → r = A) (h2 : ¬ c → r = B) : r = if c then A else B := by split <;> simp_all
end Go.Sim

namespace Go.Sim
attribute [go_sem ↓] reduceIte
attribute [go_sem] reduceCtorEq Nat.reduceEqDiff Nat.reduceAdd Nat.reduceBEq Nat.reduceMul Nat.reduceLeDiff Nat.reduceSub Nat.reduceLT Nat.reduceDiv Nat.reduceMod List.reduceReplicate Int.reduceEq Int.reduceLT Int.reduceLE Int.reduceAdd Int.reduceSub Int.reduceMul Int.reduceNeg Int.reduceToNat
attribute [go_sem] toNat_add1 takeMapD dropMapD takeSetM takeM lenSet mapSet setD mapGet2 wr or_self or_false false_or true_or or_true false_and and_false Int.natCast_mul Int.cast_ofNat_Int Int.natCast_zero List.length_append lim_eq wu64 wu32 wu8 Bool.true_beq Bool.false_beq beqT beqF Int.natCast_add Int.natCast_one ltT ltF leT leF eqT eqF lenLtT lenLtF lenLeT addLeT lenEqT mapGet Int.toNat_natCast Int.natCast_nonneg List.length_map
theorem pA {a b : Bool} : ((a || b) = true) = (a = true ∨ b = true) := Bool.or_eq_true a b
theorem pB {a b : Bool} : ((a && b) = true) = (a = true ∧ b = true) := Bool.and_eq_true a b
theorem pC {p : Prop} [Decidable p] : (decide p = true) = p := decide_eq_true_eq
theorem pD {a : Bool} : ((!a) = true) = (a = false) := Bool.not_eq_true' a
theorem pE {p : Prop} [Decidable p] : (decide p = false) = ¬ p := by simp
theorem pF {p q : Prop} : (¬ (p ∨ q)) = (¬ p ∧ ¬ q) := by simp
theorem pG {a b : Int} : (¬ a < b) = (b ≤ a) := by simp
theorem pH {a b : Int} : (¬ a ≤ b) = (b < a) := by simp
theorem pI {a b : Nat} : (¬ a < b) = (b ≤ a) := by simp
theorem pJ {a b : Nat} : (¬ a ≤ b) = (b < a) := by simp
theorem pK {a b : Bool} : ((a || b) = false) = (a = false ∧ b = false) := by simp
theorem pL {a b : Bool} : ((a && b) = false) = (a = false ∨ b = false) := by cases a <;> cases b <;> simp
theorem pM {a : Bool} : ((!a) = false) = (a = true) := by simp
theorem pN : (true = false) = False := by simp
theorem pO : (false = true) = False := by simp
theorem pP {p : Prop} : (¬ ¬ p) = p := by simp
end Go.Sim

namespace Go.Proofs.Ytmbnbjkdamalpaa
open Go Go.Sim
set_option linter.unusedSimpArgs false
set_option linter.unusedVariables false
set_option maxHeartbeats 10000000
abbrev ints (l : List Int) : List D := l.map (.int .i64)
theorem allSize_ints (l : List Int) : allSize 1 (ints l) = true := by simp [allSize, D.size, D.cells]
def eBytes (b : List UInt8) : D := .sl (byD b)
theorem allSize_bytes (l : List (List UInt8)) : allSize 1 (l.map eBytes) = true := by simp [allSize, D.size, D.cells, eBytes]
theorem allSize_strs (l : List (List UInt8)) : allSize 1 (l.map D.str) = true := by simp [allSize, D.size, D.cells]
abbrev Due := Int × Int
def eD (d : Due) : D := .agg [.int .i64 d.1, .int .i64 d.2]
theorem eD_cells (d : Due) : (eD d).cells = [.int .i64 d.1, .int .i64 d.2] := rfl
theorem eD_size (d : Due) : (eD d).size = 2 := rfl
theorem eD_asAgg (d : Due) : (eD d).asAgg = eD d := rfl
theorem eD_isT (d : Due) : (eD d).isT = false := rfl
theorem allSize_eD (h : List Due) : allSize 2 (h.map eD) = true := by simp [allSize, eD_size]
structure Span where
  low : Int
  high : Int
  shard : Int
  deriving DecidableEq
def zSpan : Span := ⟨0, 0, 0⟩
instance : Inhabited Span := ⟨zSpan⟩
def eSpan (x : Span) : D := .agg [.int .i64 x.low, .int .i64 x.high, .int .i64 x.shard]
theorem eSpan_cells (x : Span) : (eSpan x).cells = [.int .i64 x.low, .int .i64 x.high, .int .i64 x.shard] := rfl
theorem eSpan_size (x : Span) : (eSpan x).size = 3 := rfl
theorem eSpan_asAgg (x : Span) : (eSpan x).asAgg = eSpan x := rfl
theorem eSpan_isT (x : Span) : (eSpan x).isT = false := rfl
theorem allSize_Span (l : List Span) : allSize 3 (l.map eSpan) = true := by simp [allSize, eSpan_size]
structure Directory where
  version : Int
  l : List Span
  forward : List Int
  deriving DecidableEq
def zDirectory : Directory := ⟨0, [], []⟩
instance : Inhabited Directory := ⟨zDirectory⟩
def eDirectory (x : Directory) : D := .agg [.int .i64 x.version, .sl (x.l.map eSpan), .sl (ints x.forward)]
theorem eDirectory_cells (x : Directory) : (eDirectory x).cells = [.int .i64 x.version, .sl (x.l.map eSpan), .sl (ints x.forward)] := rfl
theorem eDirectory_size (x : Directory) : (eDirectory x).size = 3 := rfl
theorem eDirectory_asAgg (x : Directory) : (eDirectory x).asAgg = eDirectory x := rfl
theorem eDirectory_isT (x : Directory) : (eDirectory x).isT = false := rfl
theorem allSize_Directory (l : List Directory) : allSize 3 (l.map eDirectory) = true := by simp [allSize, eDirectory_size]
structure Edit where
  kind : Int
  from_ : Int
  to : Int
  mid : Int
  deriving DecidableEq
def zEdit : Edit := ⟨0, 0, 0, 0⟩
instance : Inhabited Edit := ⟨zEdit⟩
def eEdit (x : Edit) : D := .agg [.int .i64 x.kind, .int .i64 x.from_, .int .i64 x.to, .int .i64 x.mid]
theorem eEdit_cells (x : Edit) : (eEdit x).cells = [.int .i64 x.kind, .int .i64 x.from_, .int .i64 x.to, .int .i64 x.mid] := rfl
theorem eEdit_size (x : Edit) : (eEdit x).size = 4 := rfl
theorem eEdit_asAgg (x : Edit) : (eEdit x).asAgg = eEdit x := rfl
theorem eEdit_isT (x : Edit) : (eEdit x).isT = false := rfl
theorem allSize_Edit (l : List Edit) : allSize 4 (l.map eEdit) = true := by simp [allSize, eEdit_size]
structure Setup where
  slots : Int
  live : Int
  capacity : Int
  dead : Int
  limit : Int
  clock : Int
  nextID : Int
  epoch : Int
  deriving DecidableEq
def zSetup : Setup := ⟨0, 0, 0, 0, 0, 0, 0, 0⟩
instance : Inhabited Setup := ⟨zSetup⟩
def eSetup (x : Setup) : D := .agg [.int .i64 x.slots, .int .i64 x.live, .int .i64 x.capacity, .int .i64 x.dead, .int .i64 x.limit, .int .i64 x.clock, .int .i64 x.nextID, .int .i64 x.epoch]
theorem eSetup_cells (x : Setup) : (eSetup x).cells = [.int .i64 x.slots, .int .i64 x.live, .int .i64 x.capacity, .int .i64 x.dead, .int .i64 x.limit, .int .i64 x.clock, .int .i64 x.nextID, .int .i64 x.epoch] := rfl
theorem eSetup_size (x : Setup) : (eSetup x).size = 8 := rfl
theorem eSetup_asAgg (x : Setup) : (eSetup x).asAgg = eSetup x := rfl
theorem eSetup_isT (x : Setup) : (eSetup x).isT = false := rfl
theorem allSize_Setup (l : List Setup) : allSize 8 (l.map eSetup) = true := by simp [allSize, eSetup_size]
structure Message where
  id : Int
  route : Int
  epoch : Int
  count : Int
  gen : Int
  sent : Int
  body : List UInt8
  deriving DecidableEq
def zMessage : Message := ⟨0, 0, 0, 0, 0, 0, []⟩
instance : Inhabited Message := ⟨zMessage⟩
def eMessage (x : Message) : D := .agg [.int .i64 x.id, .int .i64 x.route, .int .i64 x.epoch, .int .i64 x.count, .int .i64 x.gen, .int .i64 x.sent, .str x.body]
theorem eMessage_cells (x : Message) : (eMessage x).cells = [.int .i64 x.id, .int .i64 x.route, .int .i64 x.epoch, .int .i64 x.count, .int .i64 x.gen, .int .i64 x.sent, .str x.body] := rfl
theorem eMessage_size (x : Message) : (eMessage x).size = 7 := rfl
theorem eMessage_asAgg (x : Message) : (eMessage x).asAgg = eMessage x := rfl
theorem eMessage_isT (x : Message) : (eMessage x).isT = false := rfl
theorem allSize_Message (l : List Message) : allSize 7 (l.map eMessage) = true := by simp [allSize, eMessage_size]
structure Ring where
  cells : List Message
  head : Int
  size : Int
  deriving DecidableEq
def zRing : Ring := ⟨[], 0, 0⟩
instance : Inhabited Ring := ⟨zRing⟩
def eRing (x : Ring) : D := .agg [.sl (x.cells.map eMessage), .int .i64 x.head, .int .i64 x.size]
theorem eRing_cells (x : Ring) : (eRing x).cells = [.sl (x.cells.map eMessage), .int .i64 x.head, .int .i64 x.size] := rfl
theorem eRing_size (x : Ring) : (eRing x).size = 3 := rfl
theorem eRing_asAgg (x : Ring) : (eRing x).asAgg = eRing x := rfl
theorem eRing_isT (x : Ring) : (eRing x).isT = false := rfl
theorem allSize_Ring (l : List Ring) : allSize 3 (l.map eRing) = true := by simp [allSize, eRing_size]
structure Lease where
  msg : Message
  deadline : Int
  deriving DecidableEq
def zLease : Lease := ⟨⟨0, 0, 0, 0, 0, 0, []⟩, 0⟩
instance : Inhabited Lease := ⟨zLease⟩
def eLease (x : Lease) : D := .agg [.int .i64 x.msg.id, .int .i64 x.msg.route, .int .i64 x.msg.epoch, .int .i64 x.msg.count, .int .i64 x.msg.gen, .int .i64 x.msg.sent, .str x.msg.body, .int .i64 x.deadline]
theorem eLease_cells (x : Lease) : (eLease x).cells = [.int .i64 x.msg.id, .int .i64 x.msg.route, .int .i64 x.msg.epoch, .int .i64 x.msg.count, .int .i64 x.msg.gen, .int .i64 x.msg.sent, .str x.msg.body, .int .i64 x.deadline] := rfl
theorem eLease_size (x : Lease) : (eLease x).size = 8 := rfl
theorem eLease_asAgg (x : Lease) : (eLease x).asAgg = eLease x := rfl
theorem eLease_isT (x : Lease) : (eLease x).isT = false := rfl
theorem allSize_Lease (l : List Lease) : allSize 8 (l.map eLease) = true := by simp [allSize, eLease_size]
structure Table where
  l : List Lease
  heap : List Due
  deriving DecidableEq
def zTable : Table := ⟨[], []⟩
instance : Inhabited Table := ⟨zTable⟩
def eTable (x : Table) : D := .agg [.sl (x.l.map eLease), .sl (x.heap.map eD)]
theorem eTable_cells (x : Table) : (eTable x).cells = [.sl (x.l.map eLease), .sl (x.heap.map eD)] := rfl
theorem eTable_size (x : Table) : (eTable x).size = 2 := rfl
theorem eTable_asAgg (x : Table) : (eTable x).asAgg = eTable x := rfl
theorem eTable_isT (x : Table) : (eTable x).isT = false := rfl
theorem allSize_Table (l : List Table) : allSize 2 (l.map eTable) = true := by simp [allSize, eTable_size]
structure Shard where
  live : Bool
  low : Int
  high : Int
  ready : Ring
  leases : Table
  deriving DecidableEq
def zShard : Shard := ⟨false, 0, 0, ⟨[], 0, 0⟩, ⟨[], []⟩⟩
instance : Inhabited Shard := ⟨zShard⟩
def eShard (x : Shard) : D := .agg [.bool x.live, .int .i64 x.low, .int .i64 x.high, .sl (x.ready.cells.map eMessage), .int .i64 x.ready.head, .int .i64 x.ready.size, .sl (x.leases.l.map eLease), .sl (x.leases.heap.map eD)]
theorem eShard_cells (x : Shard) : (eShard x).cells = [.bool x.live, .int .i64 x.low, .int .i64 x.high, .sl (x.ready.cells.map eMessage), .int .i64 x.ready.head, .int .i64 x.ready.size, .sl (x.leases.l.map eLease), .sl (x.leases.heap.map eD)] := rfl
theorem eShard_size (x : Shard) : (eShard x).size = 8 := rfl
theorem eShard_asAgg (x : Shard) : (eShard x).asAgg = eShard x := rfl
theorem eShard_isT (x : Shard) : (eShard x).isT = false := rfl
theorem allSize_Shard (l : List Shard) : allSize 8 (l.map eShard) = true := by simp [allSize, eShard_size]
structure Slot where
  owner : Int
  shard : Shard
  deriving DecidableEq
def zSlot : Slot := ⟨0, ⟨false, 0, 0, ⟨[], 0, 0⟩, ⟨[], []⟩⟩⟩
instance : Inhabited Slot := ⟨zSlot⟩
def eSlot (x : Slot) : D := .agg [.int .i64 x.owner, .bool x.shard.live, .int .i64 x.shard.low, .int .i64 x.shard.high, .sl (x.shard.ready.cells.map eMessage), .int .i64 x.shard.ready.head, .int .i64 x.shard.ready.size, .sl (x.shard.leases.l.map eLease), .sl (x.shard.leases.heap.map eD)]
theorem eSlot_cells (x : Slot) : (eSlot x).cells = [.int .i64 x.owner, .bool x.shard.live, .int .i64 x.shard.low, .int .i64 x.shard.high, .sl (x.shard.ready.cells.map eMessage), .int .i64 x.shard.ready.head, .int .i64 x.shard.ready.size, .sl (x.shard.leases.l.map eLease), .sl (x.shard.leases.heap.map eD)] := rfl
theorem eSlot_size (x : Slot) : (eSlot x).size = 9 := rfl
theorem eSlot_asAgg (x : Slot) : (eSlot x).asAgg = eSlot x := rfl
theorem eSlot_isT (x : Slot) : (eSlot x).isT = false := rfl
theorem allSize_Slot (l : List Slot) : allSize 9 (l.map eSlot) = true := by simp [allSize, eSlot_size]
structure Stripe where
  seq : Int
  epoch : Int
  ready : Int
  leased : Int
  deriving DecidableEq
def zStripe : Stripe := ⟨0, 0, 0, 0⟩
instance : Inhabited Stripe := ⟨zStripe⟩
def eStripe (x : Stripe) : D := .agg [.int .i64 x.seq, .int .i64 x.epoch, .int .i64 x.ready, .int .i64 x.leased]
theorem eStripe_cells (x : Stripe) : (eStripe x).cells = [.int .i64 x.seq, .int .i64 x.epoch, .int .i64 x.ready, .int .i64 x.leased] := rfl
theorem eStripe_size (x : Stripe) : (eStripe x).size = 4 := rfl
theorem eStripe_asAgg (x : Stripe) : (eStripe x).asAgg = eStripe x := rfl
theorem eStripe_isT (x : Stripe) : (eStripe x).isT = false := rfl
theorem allSize_Stripe (l : List Stripe) : allSize 4 (l.map eStripe) = true := by simp [allSize, eStripe_size]
structure Dead where
  cap : Int
  l : List Message
  deriving DecidableEq
def zDead : Dead := ⟨0, []⟩
instance : Inhabited Dead := ⟨zDead⟩
def eDead (x : Dead) : D := .agg [.int .i64 x.cap, .sl (x.l.map eMessage)]
theorem eDead_cells (x : Dead) : (eDead x).cells = [.int .i64 x.cap, .sl (x.l.map eMessage)] := rfl
theorem eDead_size (x : Dead) : (eDead x).size = 2 := rfl
theorem eDead_asAgg (x : Dead) : (eDead x).asAgg = eDead x := rfl
theorem eDead_isT (x : Dead) : (eDead x).isT = false := rfl
theorem allSize_Dead (l : List Dead) : allSize 2 (l.map eDead) = true := by simp [allSize, eDead_size]
structure DeadCell where
  owner : Int
  dead : Dead
  deriving DecidableEq
def zDeadCell : DeadCell := ⟨0, ⟨0, []⟩⟩
instance : Inhabited DeadCell := ⟨zDeadCell⟩
def eDeadCell (x : DeadCell) : D := .agg [.int .i64 x.owner, .int .i64 x.dead.cap, .sl (x.dead.l.map eMessage)]
theorem eDeadCell_cells (x : DeadCell) : (eDeadCell x).cells = [.int .i64 x.owner, .int .i64 x.dead.cap, .sl (x.dead.l.map eMessage)] := rfl
theorem eDeadCell_size (x : DeadCell) : (eDeadCell x).size = 3 := rfl
theorem eDeadCell_asAgg (x : DeadCell) : (eDeadCell x).asAgg = eDeadCell x := rfl
theorem eDeadCell_isT (x : DeadCell) : (eDeadCell x).isT = false := rfl
theorem allSize_DeadCell (l : List DeadCell) : allSize 3 (l.map eDeadCell) = true := by simp [allSize, eDeadCell_size]
structure Arena where
  slots : List Slot
  stripes : List Stripe
  dead : DeadCell
  dir : Directory
  epoch : Int
  clock : Int
  nextID : Int
  deriving DecidableEq
def zArena : Arena := ⟨[], [], ⟨0, ⟨0, []⟩⟩, ⟨0, [], []⟩, 0, 0, 0⟩
instance : Inhabited Arena := ⟨zArena⟩
def eArena (x : Arena) : D := .agg [.sl (x.slots.map eSlot), .sl (x.stripes.map eStripe), .int .i64 x.dead.owner, .int .i64 x.dead.dead.cap, .sl (x.dead.dead.l.map eMessage), .int .i64 x.dir.version, .sl (x.dir.l.map eSpan), .sl (ints x.dir.forward), .int .i64 x.epoch, .int .i64 x.clock, .int .i64 x.nextID]
theorem eArena_cells (x : Arena) : (eArena x).cells = [.sl (x.slots.map eSlot), .sl (x.stripes.map eStripe), .int .i64 x.dead.owner, .int .i64 x.dead.dead.cap, .sl (x.dead.dead.l.map eMessage), .int .i64 x.dir.version, .sl (x.dir.l.map eSpan), .sl (ints x.dir.forward), .int .i64 x.epoch, .int .i64 x.clock, .int .i64 x.nextID] := rfl
theorem eArena_size (x : Arena) : (eArena x).size = 11 := rfl
theorem eArena_asAgg (x : Arena) : (eArena x).asAgg = eArena x := rfl
theorem eArena_isT (x : Arena) : (eArena x).isT = false := rfl
theorem allSize_Arena (l : List Arena) : allSize 11 (l.map eArena) = true := by simp [allSize, eArena_size]
structure Snapshot where
  phase : Int
  epoch : Int
  clock : Int
  stamp : Int
  deriving DecidableEq
def zSnapshot : Snapshot := ⟨0, 0, 0, 0⟩
instance : Inhabited Snapshot := ⟨zSnapshot⟩
def eSnapshot (x : Snapshot) : D := .agg [.int .i64 x.phase, .int .i64 x.epoch, .int .i64 x.clock, .int .i64 x.stamp]
theorem eSnapshot_cells (x : Snapshot) : (eSnapshot x).cells = [.int .i64 x.phase, .int .i64 x.epoch, .int .i64 x.clock, .int .i64 x.stamp] := rfl
theorem eSnapshot_size (x : Snapshot) : (eSnapshot x).size = 4 := rfl
theorem eSnapshot_asAgg (x : Snapshot) : (eSnapshot x).asAgg = eSnapshot x := rfl
theorem eSnapshot_isT (x : Snapshot) : (eSnapshot x).isT = false := rfl
theorem allSize_Snapshot (l : List Snapshot) : allSize 4 (l.map eSnapshot) = true := by simp [allSize, eSnapshot_size]
structure Invocation where
  kind : Int
  home : Int
  max : Int
  visibility : Int
  from_ : Int
  to : Int
  bodies : List (List UInt8)
  tokens : List (List UInt8)
  deriving DecidableEq
def zInvocation : Invocation := ⟨0, 0, 0, 0, 0, 0, [], []⟩
instance : Inhabited Invocation := ⟨zInvocation⟩
def eInvocation (x : Invocation) : D := .agg [.int .i64 x.kind, .int .i64 x.home, .int .i64 x.max, .int .i64 x.visibility, .int .i64 x.from_, .int .i64 x.to, .sl (x.bodies.map .str), .sl (x.tokens.map eBytes)]
theorem eInvocation_cells (x : Invocation) : (eInvocation x).cells = [.int .i64 x.kind, .int .i64 x.home, .int .i64 x.max, .int .i64 x.visibility, .int .i64 x.from_, .int .i64 x.to, .sl (x.bodies.map .str), .sl (x.tokens.map eBytes)] := rfl
theorem eInvocation_size (x : Invocation) : (eInvocation x).size = 8 := rfl
theorem eInvocation_asAgg (x : Invocation) : (eInvocation x).asAgg = eInvocation x := rfl
theorem eInvocation_isT (x : Invocation) : (eInvocation x).isT = false := rfl
theorem allSize_Invocation (l : List Invocation) : allSize 8 (l.map eInvocation) = true := by simp [allSize, eInvocation_size]
structure Result where
  err : Int
  id : Int
  tokens : List (List UInt8)
  bodies : List (List UInt8)
  ready : Int
  leased : Int
  moved : Int
  deriving DecidableEq
def zResult : Result := ⟨0, 0, [], [], 0, 0, 0⟩
instance : Inhabited Result := ⟨zResult⟩
def eResult (x : Result) : D := .agg [.int .i64 x.err, .int .i64 x.id, .sl (x.tokens.map eBytes), .sl (x.bodies.map .str), .int .i64 x.ready, .int .i64 x.leased, .int .i64 x.moved]
theorem eResult_cells (x : Result) : (eResult x).cells = [.int .i64 x.err, .int .i64 x.id, .sl (x.tokens.map eBytes), .sl (x.bodies.map .str), .int .i64 x.ready, .int .i64 x.leased, .int .i64 x.moved] := rfl
theorem eResult_size (x : Result) : (eResult x).size = 7 := rfl
theorem eResult_asAgg (x : Result) : (eResult x).asAgg = eResult x := rfl
theorem eResult_isT (x : Result) : (eResult x).isT = false := rfl
theorem allSize_Result (l : List Result) : allSize 7 (l.map eResult) = true := by simp [allSize, eResult_size]
structure Locker where
  cells : List Int
  phase : Int
  have_ : Int
  tries : Int
  wait : Int
  deriving DecidableEq
def zLocker : Locker := ⟨[], 0, 0, 0, 0⟩
instance : Inhabited Locker := ⟨zLocker⟩
def eLocker (x : Locker) : D := .agg [.sl (ints x.cells), .int .i64 x.phase, .int .i64 x.have_, .int .i64 x.tries, .int .i64 x.wait]
theorem eLocker_cells (x : Locker) : (eLocker x).cells = [.sl (ints x.cells), .int .i64 x.phase, .int .i64 x.have_, .int .i64 x.tries, .int .i64 x.wait] := rfl
theorem eLocker_size (x : Locker) : (eLocker x).size = 5 := rfl
theorem eLocker_asAgg (x : Locker) : (eLocker x).asAgg = eLocker x := rfl
theorem eLocker_isT (x : Locker) : (eLocker x).isT = false := rfl
theorem allSize_Locker (l : List Locker) : allSize 5 (l.map eLocker) = true := by simp [allSize, eLocker_size]
structure Outcome where
  shards : List Shard
  dead : Dead
  order : List Int
  carry : List Message
  edits : List Edit
  deriving DecidableEq
def zOutcome : Outcome := ⟨[], ⟨0, []⟩, [], [], []⟩
instance : Inhabited Outcome := ⟨zOutcome⟩
def eOutcome (x : Outcome) : D := .agg [.sl (x.shards.map eShard), .int .i64 x.dead.cap, .sl (x.dead.l.map eMessage), .sl (ints x.order), .sl (x.carry.map eMessage), .sl (x.edits.map eEdit)]
theorem eOutcome_cells (x : Outcome) : (eOutcome x).cells = [.sl (x.shards.map eShard), .int .i64 x.dead.cap, .sl (x.dead.l.map eMessage), .sl (ints x.order), .sl (x.carry.map eMessage), .sl (x.edits.map eEdit)] := rfl
theorem eOutcome_size (x : Outcome) : (eOutcome x).size = 6 := rfl
theorem eOutcome_asAgg (x : Outcome) : (eOutcome x).asAgg = eOutcome x := rfl
theorem eOutcome_isT (x : Outcome) : (eOutcome x).isT = false := rfl
theorem allSize_Outcome (l : List Outcome) : allSize 6 (l.map eOutcome) = true := by simp [allSize, eOutcome_size]
structure Section where
  phase : Int
  at_ : Int
  lock : Locker
  snap : Snapshot
  shards : List Shard
  dead : Dead
  stripes : List Stripe
  dir : Directory
  out : Outcome
  limit : Int
  carry : List Message
  deriving DecidableEq
def zSection : Section := ⟨0, 0, ⟨[], 0, 0, 0, 0⟩, ⟨0, 0, 0, 0⟩, [], ⟨0, []⟩, [], ⟨0, [], []⟩, ⟨[], ⟨0, []⟩, [], [], []⟩, 0, []⟩
instance : Inhabited Section := ⟨zSection⟩
def eSection (x : Section) : D := .agg [.int .i64 x.phase, .int .i64 x.at_, .sl (ints x.lock.cells), .int .i64 x.lock.phase, .int .i64 x.lock.have_, .int .i64 x.lock.tries, .int .i64 x.lock.wait, .int .i64 x.snap.phase, .int .i64 x.snap.epoch, .int .i64 x.snap.clock, .int .i64 x.snap.stamp, .sl (x.shards.map eShard), .int .i64 x.dead.cap, .sl (x.dead.l.map eMessage), .sl (x.stripes.map eStripe), .int .i64 x.dir.version, .sl (x.dir.l.map eSpan), .sl (ints x.dir.forward), .sl (x.out.shards.map eShard), .int .i64 x.out.dead.cap, .sl (x.out.dead.l.map eMessage), .sl (ints x.out.order), .sl (x.out.carry.map eMessage), .sl (x.out.edits.map eEdit), .int .i64 x.limit, .sl (x.carry.map eMessage)]
theorem eSection_cells (x : Section) : (eSection x).cells = [.int .i64 x.phase, .int .i64 x.at_, .sl (ints x.lock.cells), .int .i64 x.lock.phase, .int .i64 x.lock.have_, .int .i64 x.lock.tries, .int .i64 x.lock.wait, .int .i64 x.snap.phase, .int .i64 x.snap.epoch, .int .i64 x.snap.clock, .int .i64 x.snap.stamp, .sl (x.shards.map eShard), .int .i64 x.dead.cap, .sl (x.dead.l.map eMessage), .sl (x.stripes.map eStripe), .int .i64 x.dir.version, .sl (x.dir.l.map eSpan), .sl (ints x.dir.forward), .sl (x.out.shards.map eShard), .int .i64 x.out.dead.cap, .sl (x.out.dead.l.map eMessage), .sl (ints x.out.order), .sl (x.out.carry.map eMessage), .sl (x.out.edits.map eEdit), .int .i64 x.limit, .sl (x.carry.map eMessage)] := rfl
theorem eSection_size (x : Section) : (eSection x).size = 26 := rfl
theorem eSection_asAgg (x : Section) : (eSection x).asAgg = eSection x := rfl
theorem eSection_isT (x : Section) : (eSection x).isT = false := rfl
theorem allSize_Section (l : List Section) : allSize 26 (l.map eSection) = true := by simp [allSize, eSection_size]
structure Walk where
  next : Int
  covered : Int
  deriving DecidableEq
def zWalk : Walk := ⟨0, 0⟩
instance : Inhabited Walk := ⟨zWalk⟩
def eWalk (x : Walk) : D := .agg [.int .i64 x.next, .int .i64 x.covered]
theorem eWalk_cells (x : Walk) : (eWalk x).cells = [.int .i64 x.next, .int .i64 x.covered] := rfl
theorem eWalk_size (x : Walk) : (eWalk x).size = 2 := rfl
theorem eWalk_asAgg (x : Walk) : (eWalk x).asAgg = eWalk x := rfl
theorem eWalk_isT (x : Walk) : (eWalk x).isT = false := rfl
theorem allSize_Walk (l : List Walk) : allSize 2 (l.map eWalk) = true := by simp [allSize, eWalk_size]
structure Handle where
  id : Int
  gen : Int
  route : Int
  hint : Int
  deriving DecidableEq
def zHandle : Handle := ⟨0, 0, 0, 0⟩
instance : Inhabited Handle := ⟨zHandle⟩
def eHandle (x : Handle) : D := .agg [.int .i64 x.id, .int .i64 x.gen, .int .i64 x.route, .int .i64 x.hint]
theorem eHandle_cells (x : Handle) : (eHandle x).cells = [.int .i64 x.id, .int .i64 x.gen, .int .i64 x.route, .int .i64 x.hint] := rfl
theorem eHandle_size (x : Handle) : (eHandle x).size = 4 := rfl
theorem eHandle_asAgg (x : Handle) : (eHandle x).asAgg = eHandle x := rfl
theorem eHandle_isT (x : Handle) : (eHandle x).isT = false := rfl
theorem allSize_Handle (l : List Handle) : allSize 4 (l.map eHandle) = true := by simp [allSize, eHandle_size]
structure Task where
  number : Int
  inv : Invocation
  invoked : Int
  done : Bool
  ended : Int
  pc : Int
  entry : Int
  results : List Result
  setup : Setup
  sec : Section
  dir : Directory
  walk : Walk
  slot : Int
  id : Int
  handle : Handle
  loaded : Int
  first : List Stripe
  second : List Stripe
  deriving DecidableEq
def zTask : Task := ⟨0, ⟨0, 0, 0, 0, 0, 0, [], []⟩, 0, false, 0, 0, 0, [], ⟨0, 0, 0, 0, 0, 0, 0, 0⟩, ⟨0, 0, ⟨[], 0, 0, 0, 0⟩, ⟨0, 0, 0, 0⟩, [], ⟨0, []⟩, [], ⟨0, [], []⟩, ⟨[], ⟨0, []⟩, [], [], []⟩, 0, []⟩, ⟨0, [], []⟩, ⟨0, 0⟩, 0, 0, ⟨0, 0, 0, 0⟩, 0, [], []⟩
instance : Inhabited Task := ⟨zTask⟩
def eTask (x : Task) : D := .agg [.int .i64 x.number, .int .i64 x.inv.kind, .int .i64 x.inv.home, .int .i64 x.inv.max, .int .i64 x.inv.visibility, .int .i64 x.inv.from_, .int .i64 x.inv.to, .sl (x.inv.bodies.map .str), .sl (x.inv.tokens.map eBytes), .int .i64 x.invoked, .bool x.done, .int .i64 x.ended, .int .i64 x.pc, .int .i64 x.entry, .sl (x.results.map eResult), .int .i64 x.setup.slots, .int .i64 x.setup.live, .int .i64 x.setup.capacity, .int .i64 x.setup.dead, .int .i64 x.setup.limit, .int .i64 x.setup.clock, .int .i64 x.setup.nextID, .int .i64 x.setup.epoch, .int .i64 x.sec.phase, .int .i64 x.sec.at_, .sl (ints x.sec.lock.cells), .int .i64 x.sec.lock.phase, .int .i64 x.sec.lock.have_, .int .i64 x.sec.lock.tries, .int .i64 x.sec.lock.wait, .int .i64 x.sec.snap.phase, .int .i64 x.sec.snap.epoch, .int .i64 x.sec.snap.clock, .int .i64 x.sec.snap.stamp, .sl (x.sec.shards.map eShard), .int .i64 x.sec.dead.cap, .sl (x.sec.dead.l.map eMessage), .sl (x.sec.stripes.map eStripe), .int .i64 x.sec.dir.version, .sl (x.sec.dir.l.map eSpan), .sl (ints x.sec.dir.forward), .sl (x.sec.out.shards.map eShard), .int .i64 x.sec.out.dead.cap, .sl (x.sec.out.dead.l.map eMessage), .sl (ints x.sec.out.order), .sl (x.sec.out.carry.map eMessage), .sl (x.sec.out.edits.map eEdit), .int .i64 x.sec.limit, .sl (x.sec.carry.map eMessage), .int .i64 x.dir.version, .sl (x.dir.l.map eSpan), .sl (ints x.dir.forward), .int .i64 x.walk.next, .int .i64 x.walk.covered, .int .i64 x.slot, .int .i64 x.id, .int .i64 x.handle.id, .int .i64 x.handle.gen, .int .i64 x.handle.route, .int .i64 x.handle.hint, .int .i64 x.loaded, .sl (x.first.map eStripe), .sl (x.second.map eStripe)]
theorem eTask_cells (x : Task) : (eTask x).cells = [.int .i64 x.number, .int .i64 x.inv.kind, .int .i64 x.inv.home, .int .i64 x.inv.max, .int .i64 x.inv.visibility, .int .i64 x.inv.from_, .int .i64 x.inv.to, .sl (x.inv.bodies.map .str), .sl (x.inv.tokens.map eBytes), .int .i64 x.invoked, .bool x.done, .int .i64 x.ended, .int .i64 x.pc, .int .i64 x.entry, .sl (x.results.map eResult), .int .i64 x.setup.slots, .int .i64 x.setup.live, .int .i64 x.setup.capacity, .int .i64 x.setup.dead, .int .i64 x.setup.limit, .int .i64 x.setup.clock, .int .i64 x.setup.nextID, .int .i64 x.setup.epoch, .int .i64 x.sec.phase, .int .i64 x.sec.at_, .sl (ints x.sec.lock.cells), .int .i64 x.sec.lock.phase, .int .i64 x.sec.lock.have_, .int .i64 x.sec.lock.tries, .int .i64 x.sec.lock.wait, .int .i64 x.sec.snap.phase, .int .i64 x.sec.snap.epoch, .int .i64 x.sec.snap.clock, .int .i64 x.sec.snap.stamp, .sl (x.sec.shards.map eShard), .int .i64 x.sec.dead.cap, .sl (x.sec.dead.l.map eMessage), .sl (x.sec.stripes.map eStripe), .int .i64 x.sec.dir.version, .sl (x.sec.dir.l.map eSpan), .sl (ints x.sec.dir.forward), .sl (x.sec.out.shards.map eShard), .int .i64 x.sec.out.dead.cap, .sl (x.sec.out.dead.l.map eMessage), .sl (ints x.sec.out.order), .sl (x.sec.out.carry.map eMessage), .sl (x.sec.out.edits.map eEdit), .int .i64 x.sec.limit, .sl (x.sec.carry.map eMessage), .int .i64 x.dir.version, .sl (x.dir.l.map eSpan), .sl (ints x.dir.forward), .int .i64 x.walk.next, .int .i64 x.walk.covered, .int .i64 x.slot, .int .i64 x.id, .int .i64 x.handle.id, .int .i64 x.handle.gen, .int .i64 x.handle.route, .int .i64 x.handle.hint, .int .i64 x.loaded, .sl (x.first.map eStripe), .sl (x.second.map eStripe)] := rfl
theorem eTask_size (x : Task) : (eTask x).size = 63 := rfl
theorem eTask_asAgg (x : Task) : (eTask x).asAgg = eTask x := rfl
theorem eTask_isT (x : Task) : (eTask x).isT = false := rfl
theorem allSize_Task (l : List Task) : allSize 63 (l.map eTask) = true := by simp [allSize, eTask_size]
structure Item where
  id : Int
  state : Int
  count : Int
  gen : Int
  route : Int
  deadline : Int
  deriving DecidableEq
def zItem : Item := ⟨0, 0, 0, 0, 0, 0⟩
instance : Inhabited Item := ⟨zItem⟩
def eItem (x : Item) : D := .agg [.int .i64 x.id, .int .i64 x.state, .int .i64 x.count, .int .i64 x.gen, .int .i64 x.route, .int .i64 x.deadline]
theorem eItem_cells (x : Item) : (eItem x).cells = [.int .i64 x.id, .int .i64 x.state, .int .i64 x.count, .int .i64 x.gen, .int .i64 x.route, .int .i64 x.deadline] := rfl
theorem eItem_size (x : Item) : (eItem x).size = 6 := rfl
theorem eItem_asAgg (x : Item) : (eItem x).asAgg = eItem x := rfl
theorem eItem_isT (x : Item) : (eItem x).isT = false := rfl
theorem allSize_Item (l : List Item) : allSize 6 (l.map eItem) = true := by simp [allSize, eItem_size]
structure Bag where
  limit : Int
  now : Int
  epoch : Int
  l : List Item
  deriving DecidableEq
def zBag : Bag := ⟨0, 0, 0, []⟩
instance : Inhabited Bag := ⟨zBag⟩
def eBag (x : Bag) : D := .agg [.int .i64 x.limit, .int .i64 x.now, .int .i64 x.epoch, .sl (x.l.map eItem)]
theorem eBag_cells (x : Bag) : (eBag x).cells = [.int .i64 x.limit, .int .i64 x.now, .int .i64 x.epoch, .sl (x.l.map eItem)] := rfl
theorem eBag_size (x : Bag) : (eBag x).size = 4 := rfl
theorem eBag_asAgg (x : Bag) : (eBag x).asAgg = eBag x := rfl
theorem eBag_isT (x : Bag) : (eBag x).isT = false := rfl
theorem allSize_Bag (l : List Bag) : allSize 4 (l.map eBag) = true := by simp [allSize, eBag_size]
structure Grant where
  id : Int
  gen : Int
  route : Int
  deadline : Int
  deriving DecidableEq
def zGrant : Grant := ⟨0, 0, 0, 0⟩
instance : Inhabited Grant := ⟨zGrant⟩
def eGrant (x : Grant) : D := .agg [.int .i64 x.id, .int .i64 x.gen, .int .i64 x.route, .int .i64 x.deadline]
theorem eGrant_cells (x : Grant) : (eGrant x).cells = [.int .i64 x.id, .int .i64 x.gen, .int .i64 x.route, .int .i64 x.deadline] := rfl
theorem eGrant_size (x : Grant) : (eGrant x).size = 4 := rfl
theorem eGrant_asAgg (x : Grant) : (eGrant x).asAgg = eGrant x := rfl
theorem eGrant_isT (x : Grant) : (eGrant x).isT = false := rfl
theorem allSize_Grant (l : List Grant) : allSize 4 (l.map eGrant) = true := by simp [allSize, eGrant_size]
structure Event where
  stamp : Int
  task : Int
  entry : Int
  kind : Int
  now : Int
  epoch : Int
  err : Int
  l : List Grant
  ready : Int
  leased : Int
  deriving DecidableEq
def zEvent : Event := ⟨0, 0, 0, 0, 0, 0, 0, [], 0, 0⟩
instance : Inhabited Event := ⟨zEvent⟩
def eEvent (x : Event) : D := .agg [.int .i64 x.stamp, .int .i64 x.task, .int .i64 x.entry, .int .i64 x.kind, .int .i64 x.now, .int .i64 x.epoch, .int .i64 x.err, .sl (x.l.map eGrant), .int .i64 x.ready, .int .i64 x.leased]
theorem eEvent_cells (x : Event) : (eEvent x).cells = [.int .i64 x.stamp, .int .i64 x.task, .int .i64 x.entry, .int .i64 x.kind, .int .i64 x.now, .int .i64 x.epoch, .int .i64 x.err, .sl (x.l.map eGrant), .int .i64 x.ready, .int .i64 x.leased] := rfl
theorem eEvent_size (x : Event) : (eEvent x).size = 10 := rfl
theorem eEvent_asAgg (x : Event) : (eEvent x).asAgg = eEvent x := rfl
theorem eEvent_isT (x : Event) : (eEvent x).isT = false := rfl
theorem allSize_Event (l : List Event) : allSize 10 (l.map eEvent) = true := by simp [allSize, eEvent_size]
structure World where
  setup : Setup
  arena : Arena
  tasks : List Task
  log : List Event
  steps : Int
  handles : List (List UInt8)
  deriving DecidableEq
def zWorld : World := ⟨⟨0, 0, 0, 0, 0, 0, 0, 0⟩, ⟨[], [], ⟨0, ⟨0, []⟩⟩, ⟨0, [], []⟩, 0, 0, 0⟩, [], [], 0, []⟩
instance : Inhabited World := ⟨zWorld⟩
def eWorld (x : World) : D := .agg [.int .i64 x.setup.slots, .int .i64 x.setup.live, .int .i64 x.setup.capacity, .int .i64 x.setup.dead, .int .i64 x.setup.limit, .int .i64 x.setup.clock, .int .i64 x.setup.nextID, .int .i64 x.setup.epoch, .sl (x.arena.slots.map eSlot), .sl (x.arena.stripes.map eStripe), .int .i64 x.arena.dead.owner, .int .i64 x.arena.dead.dead.cap, .sl (x.arena.dead.dead.l.map eMessage), .int .i64 x.arena.dir.version, .sl (x.arena.dir.l.map eSpan), .sl (ints x.arena.dir.forward), .int .i64 x.arena.epoch, .int .i64 x.arena.clock, .int .i64 x.arena.nextID, .sl (x.tasks.map eTask), .sl (x.log.map eEvent), .int .i64 x.steps, .sl (x.handles.map eBytes)]
theorem eWorld_cells (x : World) : (eWorld x).cells = [.int .i64 x.setup.slots, .int .i64 x.setup.live, .int .i64 x.setup.capacity, .int .i64 x.setup.dead, .int .i64 x.setup.limit, .int .i64 x.setup.clock, .int .i64 x.setup.nextID, .int .i64 x.setup.epoch, .sl (x.arena.slots.map eSlot), .sl (x.arena.stripes.map eStripe), .int .i64 x.arena.dead.owner, .int .i64 x.arena.dead.dead.cap, .sl (x.arena.dead.dead.l.map eMessage), .int .i64 x.arena.dir.version, .sl (x.arena.dir.l.map eSpan), .sl (ints x.arena.dir.forward), .int .i64 x.arena.epoch, .int .i64 x.arena.clock, .int .i64 x.arena.nextID, .sl (x.tasks.map eTask), .sl (x.log.map eEvent), .int .i64 x.steps, .sl (x.handles.map eBytes)] := rfl
theorem eWorld_size (x : World) : (eWorld x).size = 23 := rfl
theorem eWorld_asAgg (x : World) : (eWorld x).asAgg = eWorld x := rfl
theorem eWorld_isT (x : World) : (eWorld x).isT = false := rfl
theorem allSize_World (l : List World) : allSize 23 (l.map eWorld) = true := by simp [allSize, eWorld_size]
structure Ref where
  index : Int
  variant : Int
  raw : List UInt8
  deriving DecidableEq
def zRef : Ref := ⟨0, 0, []⟩
instance : Inhabited Ref := ⟨zRef⟩
def eRef (x : Ref) : D := .agg [.int .i64 x.index, .int .i64 x.variant, .sl (byD x.raw)]
theorem eRef_cells (x : Ref) : (eRef x).cells = [.int .i64 x.index, .int .i64 x.variant, .sl (byD x.raw)] := rfl
theorem eRef_size (x : Ref) : (eRef x).size = 3 := rfl
theorem eRef_asAgg (x : Ref) : (eRef x).asAgg = eRef x := rfl
theorem eRef_isT (x : Ref) : (eRef x).isT = false := rfl
theorem allSize_Ref (l : List Ref) : allSize 3 (l.map eRef) = true := by simp [allSize, eRef_size]
structure Command where
  kind : Int
  pick : Int
  by_ : Int
  inv : Invocation
  refs : List Ref
  deriving DecidableEq
def zCommand : Command := ⟨0, 0, 0, ⟨0, 0, 0, 0, 0, 0, [], []⟩, []⟩
instance : Inhabited Command := ⟨zCommand⟩
def eCommand (x : Command) : D := .agg [.int .i64 x.kind, .int .i64 x.pick, .int .i64 x.by_, .int .i64 x.inv.kind, .int .i64 x.inv.home, .int .i64 x.inv.max, .int .i64 x.inv.visibility, .int .i64 x.inv.from_, .int .i64 x.inv.to, .sl (x.inv.bodies.map .str), .sl (x.inv.tokens.map eBytes), .sl (x.refs.map eRef)]
theorem eCommand_cells (x : Command) : (eCommand x).cells = [.int .i64 x.kind, .int .i64 x.pick, .int .i64 x.by_, .int .i64 x.inv.kind, .int .i64 x.inv.home, .int .i64 x.inv.max, .int .i64 x.inv.visibility, .int .i64 x.inv.from_, .int .i64 x.inv.to, .sl (x.inv.bodies.map .str), .sl (x.inv.tokens.map eBytes), .sl (x.refs.map eRef)] := rfl
theorem eCommand_size (x : Command) : (eCommand x).size = 12 := rfl
theorem eCommand_asAgg (x : Command) : (eCommand x).asAgg = eCommand x := rfl
theorem eCommand_isT (x : Command) : (eCommand x).isT = false := rfl
theorem allSize_Command (l : List Command) : allSize 12 (l.map eCommand) = true := by simp [allSize, eCommand_size]
theorem eqd_D (x y : Due) : (decide (x.1 = y.1) && decide (x.2 = y.2)) = decide (x = y) := by
  cases x; cases y
  apply Bool.eq_iff_iff.2
  simp
theorem eqs_D {H : Heap} {ng : Bool} (x y : Due) : eqsV H ng 2 [(0, 0), (1, 0)] (.d (eD x)) (.d (eD y)) = retB H ng (some (decide (x = y))) := by
  rw [← eqd_D]
  simp only [eqsV, eD, eqCells, eqCell, List.length_cons, List.length_nil, List.getElem?_cons_zero, List.getElem?_cons_succ, Option.bind_some, Option.map_some, if_true, and_self, Nat.zero_add, Nat.reduceAdd, Bool.and_true]
theorem eqd_Message (x y : Message) : (decide (x.id = y.id) && (decide (x.route = y.route) && (decide (x.epoch = y.epoch) && (decide (x.count = y.count) && (decide (x.gen = y.gen) && (decide (x.sent = y.sent) && decide (x.body = y.body))))))) = decide (x = y) := by
  cases x; cases y
  apply Bool.eq_iff_iff.2
  simp
theorem eqs_Message {H : Heap} {ng : Bool} (x y : Message) : eqsV H ng 7 [(0, 0), (1, 0), (2, 0), (3, 0), (4, 0), (5, 0), (6, 2)] (.d (eMessage x)) (.d (eMessage y)) = retB H ng (some (decide (x = y))) := by
  rw [← eqd_Message]
  simp only [eqsV, eMessage, eqCells, eqCell, List.length_cons, List.length_nil, List.getElem?_cons_zero, List.getElem?_cons_succ, Option.bind_some, Option.map_some, if_true, and_self, Nat.zero_add, Nat.reduceAdd, Bool.and_true]
theorem eqd_Stripe (x y : Stripe) : (decide (x.seq = y.seq) && (decide (x.epoch = y.epoch) && (decide (x.ready = y.ready) && decide (x.leased = y.leased)))) = decide (x = y) := by
  cases x; cases y
  apply Bool.eq_iff_iff.2
  simp
theorem eqs_Stripe {H : Heap} {ng : Bool} (x y : Stripe) : eqsV H ng 4 [(0, 0), (1, 0), (2, 0), (3, 0)] (.d (eStripe x)) (.d (eStripe y)) = retB H ng (some (decide (x = y))) := by
  rw [← eqd_Stripe]
  simp only [eqsV, eStripe, eqCells, eqCell, List.length_cons, List.length_nil, List.getElem?_cons_zero, List.getElem?_cons_succ, Option.bind_some, Option.map_some, if_true, and_self, Nat.zero_add, Nat.reduceAdd, Bool.and_true]
theorem eqd_Lease (x y : Lease) : (decide (x.msg.id = y.msg.id) && (decide (x.msg.route = y.msg.route) && (decide (x.msg.epoch = y.msg.epoch) && (decide (x.msg.count = y.msg.count) && (decide (x.msg.gen = y.msg.gen) && (decide (x.msg.sent = y.msg.sent) && (decide (x.msg.body = y.msg.body) && decide (x.deadline = y.deadline)))))))) = decide (x = y) := by
  obtain ⟨⟨x1, x2, x3, x4, x5, x6, x7⟩, x8⟩ := x
  obtain ⟨⟨y1, y2, y3, y4, y5, y6, y7⟩, y8⟩ := y
  apply Bool.eq_iff_iff.2
  simp [and_assoc]
theorem eqs_Lease {H : Heap} {ng : Bool} (x y : Lease) : eqsV H ng 8 [(0, 0), (1, 0), (2, 0), (3, 0), (4, 0), (5, 0), (6, 2), (7, 0)] (.d (eLease x)) (.d (eLease y)) = retB H ng (some (decide (x = y))) := by
  rw [← eqd_Lease]
  simp only [eqsV, eLease, eqCells, eqCell, List.length_cons, List.length_nil, List.getElem?_cons_zero, List.getElem?_cons_succ, Option.bind_some, Option.map_some, if_true, and_self, Nat.zero_add, Nat.reduceAdd, Bool.and_true]
theorem eqd_Span (x y : Span) : (decide (x.low = y.low) && (decide (x.high = y.high) && decide (x.shard = y.shard))) = decide (x = y) := by
  cases x; cases y
  apply Bool.eq_iff_iff.2
  simp
theorem eqs_Span {H : Heap} {ng : Bool} (x y : Span) : eqsV H ng 3 [(0, 0), (1, 0), (2, 0)] (.d (eSpan x)) (.d (eSpan y)) = retB H ng (some (decide (x = y))) := by
  rw [← eqd_Span]
  simp only [eqsV, eSpan, eqCells, eqCell, List.length_cons, List.length_nil, List.getElem?_cons_zero, List.getElem?_cons_succ, Option.bind_some, Option.map_some, if_true, and_self, Nat.zero_add, Nat.reduceAdd, Bool.and_true]
theorem eqd_Setup (x y : Setup) : (decide (x.slots = y.slots) && (decide (x.live = y.live) && (decide (x.capacity = y.capacity) && (decide (x.dead = y.dead) && (decide (x.limit = y.limit) && (decide (x.clock = y.clock) && (decide (x.nextID = y.nextID) && decide (x.epoch = y.epoch)))))))) = decide (x = y) := by
  cases x; cases y
  apply Bool.eq_iff_iff.2
  simp
theorem eqs_Setup {H : Heap} {ng : Bool} (x y : Setup) : eqsV H ng 8 [(0, 0), (1, 0), (2, 0), (3, 0), (4, 0), (5, 0), (6, 0), (7, 0)] (.d (eSetup x)) (.d (eSetup y)) = retB H ng (some (decide (x = y))) := by
  rw [← eqd_Setup]
  simp only [eqsV, eSetup, eqCells, eqCell, List.length_cons, List.length_nil, List.getElem?_cons_zero, List.getElem?_cons_succ, Option.bind_some, Option.map_some, if_true, and_self, Nat.zero_add, Nat.reduceAdd, Bool.and_true]
theorem eqd_Snapshot (x y : Snapshot) : (decide (x.phase = y.phase) && (decide (x.epoch = y.epoch) && (decide (x.clock = y.clock) && decide (x.stamp = y.stamp)))) = decide (x = y) := by
  cases x; cases y
  apply Bool.eq_iff_iff.2
  simp
theorem eqs_Snapshot {H : Heap} {ng : Bool} (x y : Snapshot) : eqsV H ng 4 [(0, 0), (1, 0), (2, 0), (3, 0)] (.d (eSnapshot x)) (.d (eSnapshot y)) = retB H ng (some (decide (x = y))) := by
  rw [← eqd_Snapshot]
  simp only [eqsV, eSnapshot, eqCells, eqCell, List.length_cons, List.length_nil, List.getElem?_cons_zero, List.getElem?_cons_succ, Option.bind_some, Option.map_some, if_true, and_self, Nat.zero_add, Nat.reduceAdd, Bool.and_true]
theorem eqd_Grant (x y : Grant) : (decide (x.id = y.id) && (decide (x.gen = y.gen) && (decide (x.route = y.route) && decide (x.deadline = y.deadline)))) = decide (x = y) := by
  cases x; cases y
  apply Bool.eq_iff_iff.2
  simp
theorem eqs_Grant {H : Heap} {ng : Bool} (x y : Grant) : eqsV H ng 4 [(0, 0), (1, 0), (2, 0), (3, 0)] (.d (eGrant x)) (.d (eGrant y)) = retB H ng (some (decide (x = y))) := by
  rw [← eqd_Grant]
  simp only [eqsV, eGrant, eqCells, eqCell, List.length_cons, List.length_nil, List.getElem?_cons_zero, List.getElem?_cons_succ, Option.bind_some, Option.map_some, if_true, and_self, Nat.zero_add, Nat.reduceAdd, Bool.and_true]
theorem eqd_Item (x y : Item) : (decide (x.id = y.id) && (decide (x.state = y.state) && (decide (x.count = y.count) && (decide (x.gen = y.gen) && (decide (x.route = y.route) && decide (x.deadline = y.deadline)))))) = decide (x = y) := by
  cases x; cases y
  apply Bool.eq_iff_iff.2
  simp
theorem eqs_Item {H : Heap} {ng : Bool} (x y : Item) : eqsV H ng 6 [(0, 0), (1, 0), (2, 0), (3, 0), (4, 0), (5, 0)] (.d (eItem x)) (.d (eItem y)) = retB H ng (some (decide (x = y))) := by
  rw [← eqd_Item]
  simp only [eqsV, eItem, eqCells, eqCell, List.length_cons, List.length_nil, List.getElem?_cons_zero, List.getElem?_cons_succ, Option.bind_some, Option.map_some, if_true, and_self, Nat.zero_add, Nat.reduceAdd, Bool.and_true]
theorem eqd_Edit (x y : Edit) : (decide (x.kind = y.kind) && (decide (x.from_ = y.from_) && (decide (x.to = y.to) && decide (x.mid = y.mid)))) = decide (x = y) := by
  cases x; cases y
  apply Bool.eq_iff_iff.2
  simp
theorem eqs_Edit {H : Heap} {ng : Bool} (x y : Edit) : eqsV H ng 4 [(0, 0), (1, 0), (2, 0), (3, 0)] (.d (eEdit x)) (.d (eEdit y)) = retB H ng (some (decide (x = y))) := by
  rw [← eqd_Edit]
  simp only [eqsV, eEdit, eqCells, eqCell, List.length_cons, List.length_nil, List.getElem?_cons_zero, List.getElem?_cons_succ, Option.bind_some, Option.map_some, if_true, and_self, Nat.zero_add, Nat.reduceAdd, Bool.and_true]
theorem eqd_Handle (x y : Handle) : (decide (x.id = y.id) && (decide (x.gen = y.gen) && (decide (x.route = y.route) && decide (x.hint = y.hint)))) = decide (x = y) := by
  cases x; cases y
  apply Bool.eq_iff_iff.2
  simp
theorem eqs_Handle {H : Heap} {ng : Bool} (x y : Handle) : eqsV H ng 4 [(0, 0), (1, 0), (2, 0), (3, 0)] (.d (eHandle x)) (.d (eHandle y)) = retB H ng (some (decide (x = y))) := by
  rw [← eqd_Handle]
  simp only [eqsV, eHandle, eqCells, eqCell, List.length_cons, List.length_nil, List.getElem?_cons_zero, List.getElem?_cons_succ, Option.bind_some, Option.map_some, if_true, and_self, Nat.zero_add, Nat.reduceAdd, Bool.and_true]
theorem eqd_Walk (x y : Walk) : (decide (x.next = y.next) && decide (x.covered = y.covered)) = decide (x = y) := by
  cases x; cases y
  apply Bool.eq_iff_iff.2
  simp
theorem eqs_Walk {H : Heap} {ng : Bool} (x y : Walk) : eqsV H ng 2 [(0, 0), (1, 0)] (.d (eWalk x)) (.d (eWalk y)) = retB H ng (some (decide (x = y))) := by
  rw [← eqd_Walk]
  simp only [eqsV, eWalk, eqCells, eqCell, List.length_cons, List.length_nil, List.getElem?_cons_zero, List.getElem?_cons_succ, Option.bind_some, Option.map_some, if_true, and_self, Nat.zero_add, Nat.reduceAdd, Bool.and_true]
attribute [go_sem high] eqs_D eqs_Message eqs_Stripe eqs_Lease eqs_Span eqs_Setup eqs_Snapshot eqs_Grant eqs_Item eqs_Edit eqs_Handle eqs_Walk
attribute [go_sem] allSize_ints allSize_bytes allSize_strs eD_cells eD_size eD_asAgg eD_isT allSize_eD eSpan_cells eSpan_size eSpan_asAgg eSpan_isT allSize_Span eDirectory_cells eDirectory_size eDirectory_asAgg eDirectory_isT allSize_Directory eEdit_cells eEdit_size eEdit_asAgg eEdit_isT allSize_Edit eSetup_cells eSetup_size eSetup_asAgg eSetup_isT allSize_Setup eMessage_cells eMessage_size eMessage_asAgg eMessage_isT allSize_Message eRing_cells eRing_size eRing_asAgg eRing_isT allSize_Ring eLease_cells eLease_size eLease_asAgg eLease_isT allSize_Lease eTable_cells eTable_size eTable_asAgg eTable_isT allSize_Table eShard_cells eShard_size eShard_asAgg eShard_isT allSize_Shard eSlot_cells eSlot_size eSlot_asAgg eSlot_isT allSize_Slot eStripe_cells eStripe_size eStripe_asAgg eStripe_isT allSize_Stripe eDead_cells eDead_size eDead_asAgg eDead_isT allSize_Dead eDeadCell_cells eDeadCell_size eDeadCell_asAgg eDeadCell_isT allSize_DeadCell eArena_cells eArena_size eArena_asAgg eArena_isT allSize_Arena eSnapshot_cells eSnapshot_size eSnapshot_asAgg eSnapshot_isT allSize_Snapshot eInvocation_cells eInvocation_size eInvocation_asAgg eInvocation_isT allSize_Invocation eResult_cells eResult_size eResult_asAgg eResult_isT allSize_Result eLocker_cells eLocker_size eLocker_asAgg eLocker_isT allSize_Locker eOutcome_cells eOutcome_size eOutcome_asAgg eOutcome_isT allSize_Outcome eSection_cells eSection_size eSection_asAgg eSection_isT allSize_Section eWalk_cells eWalk_size eWalk_asAgg eWalk_isT allSize_Walk eHandle_cells eHandle_size eHandle_asAgg eHandle_isT allSize_Handle eTask_cells eTask_size eTask_asAgg eTask_isT allSize_Task eItem_cells eItem_size eItem_asAgg eItem_isT allSize_Item eBag_cells eBag_size eBag_asAgg eBag_isT allSize_Bag eGrant_cells eGrant_size eGrant_asAgg eGrant_isT allSize_Grant eEvent_cells eEvent_size eEvent_asAgg eEvent_isT allSize_Event eWorld_cells eWorld_size eWorld_asAgg eWorld_isT allSize_World eRef_cells eRef_size eRef_asAgg eRef_isT allSize_Ref eCommand_cells eCommand_size eCommand_asAgg eCommand_isT allSize_Command
end Go.Proofs.Ytmbnbjkdamalpaa

namespace Go.Proofs.Ytmbnbjkdamalpaa
open Go Go.Sim
set_option linter.unusedSimpArgs false
set_option linter.unusedVariables false
set_option maxHeartbeats 10000000
set_option maxRecDepth 4000
theorem wrap1 {k n : Nat} (h : k < n) (hn : n ≤ LIM) : IntKind.i64.wrap ((k : Int) + 1) = ((k + 1 : Nat) : Int) := by
  unfold LIM at hn; rw [Go.IntWalk.i64_in _ (by omega)]; simp
theorem isNaN_ok (n : Int) : callL G N_cmp_isNaN_int [.d (.int .i64 n)] [] = some (.d (.bool false), []) := by
  rw [callL_code g_cmp_isNaN_int (by simp)]; simp -implicitDefEqProofs only [c_cmp_isNaN_int, r_cmp_isNaN_int, go_sem]
def cmpI (a b : Int) : Int := if a < b then -1 else if b < a then 1 else 0
theorem compare_ok (a b : Int) : callL G N_cmp_Compare_int [.d (.int .i64 a), .d (.int .i64 b)] [] = some (.d (.int .i64 (cmpI a b)), []) := by
  rw [callL_code g_cmp_Compare_int (by simp)]; simp -implicitDefEqProofs only [c_cmp_Compare_int, r_cmp_Compare_int, go_sem]
  simp -implicitDefEqProofs only [isNaN_ok, cmpI, go_sem]
  repeat' split
  all_goals simp_all
def firstNZ : List Int → Int
  | [] => 0
  | x :: l => if x = 0 then firstNZ l else x
def orR (l : List Int) (k : Nat) : AExit × St :=
  if firstNZ (l.drop k) = 0 then (.exit 0, ⟨[(3, .d (.int .i64 0))], []⟩)
  else (.ret, ⟨[(2, .d (.int .i64 (firstNZ (l.drop k))))], []⟩)
theorem or_loop (l : List Int) (hL : l.length ≤ LIM) : ∀ k, k ≤ l.length → loopL G [] l_cmp_Or_int_0 ⟨[(3, .d (.int .i64 0)), (6, .d (.sl (l.map (.int .i64)))), (7, .d (.int .i64 l.length)), (8, .d (.int .i64 k))], []⟩ = some (orR l k) := by
  refine loop_ind (fun k => l.length - k) (fun k => k ≤ l.length) _ _ fun k hk L ih => ?_
  simp only [l_cmp_Or_int_0]
  by_cases hlt : k < l.length
  · have i1 := ih (k + 1) (by omega) (by omega)
    unfold orR at i1 ⊢
    rw [List.drop_eq_getElem_cons hlt, firstNZ]
    clear ih
    have hL2 : l.length ≤ 4294967296 := hL
    simp only [Int.natCast_add, Int.natCast_one, Int.natCast_zero, Int.natCast_mul, Int.cast_ofNat_Int, List.length_append, List.length_map, List.map_nil, List.length_nil, List.map_append, List.map_cons, List.length_cons, Nat.zero_add, srcO, mapSet] at i1
    generalize firstNZ (l.drop (k + 1)) = z at *
    by_cases h : l[k] = 0
    · by_cases hz : z = 0
      · rw [if_pos hz] at i1
        rw [if_pos (by rw [if_pos h]; exact hz)]
        simp -implicitDefEqProofs (maxSteps := 4000000) (disch := omega) only [getDT, go_sem, *] /-A0-/
      · rw [if_neg hz] at i1
        rw [if_neg (by rw [if_pos h]; exact hz), if_pos h]
        simp -implicitDefEqProofs (maxSteps := 4000000) (disch := omega) only [getDT, go_sem, *] /-A1-/
    · rw [if_neg (by rw [if_neg h]; exact h), if_neg h]
      simp -implicitDefEqProofs (maxSteps := 4000000) (disch := omega) only [getDT, go_sem, *] /-A2-/
  · have : k = l.length := by omega
    subst this
    clear ih
    simp only [orR, List.drop_length, firstNZ, if_true]
    simp -implicitDefEqProofs (maxSteps := 4000000) (disch := omega) only [getDT, go_sem, *] /-A3-/
theorem or_ok (l : List Int) (hL : l.length ≤ LIM) : callL G N_cmp_Or_int [.d (.sl (l.map (.int .i64)))] [] = some (.d (.int .i64 (firstNZ l)), []) := by
  rw [callL_code g_cmp_Or_int (by simp)]; simp -implicitDefEqProofs only [c_cmp_Or_int, r_cmp_Or_int, go_sem]
  try rw [List.length_map]
  have := or_loop l hL 0 (by omega)
  simp only [Int.natCast_zero] at this
  rw [this]
  unfold orR
  simp only [List.drop_zero]
  by_cases h : firstNZ l = 0 <;> simp -implicitDefEqProofs only [h, go_sem]
def cmpD (a b : Due) : Int := if cmpI a.1 b.1 = 0 then cmpI a.2 b.2 else cmpI a.1 b.1
def lt (a b : Due) : Bool := decide (cmpD a b < 0)
theorem due_compare_ok (a b : Due) : callL G N_due_compare [.d (eD a), .d (eD b)] [] = some (.d (.int .i64 (cmpD a b)), []) := by
  have h := or_ok [cmpI a.1 b.1, cmpI a.2 b.2] (by simp [LIM])
  simp only [List.map_cons, List.map_nil] at h
  rw [callL_code g_due_compare (by simp)]; simp -implicitDefEqProofs only [c_due_compare, r_due_compare, go_sem]
  simp -implicitDefEqProofs only [eD, compare_ok, h, go_sem]
  simp only [firstNZ, cmpD]
  by_cases h1 : cmpI a.1 b.1 = 0 <;> by_cases h2 : cmpI a.2 b.2 = 0 <;> simp [h1, h2]
theorem before_ok (h : List Due) (i j : Nat) (hi : i < h.length) (hj : j < h.length) : callL G N_due_before [.d (.sl (h.map eD)), .d (.int .i64 i), .d (.int .i64 j)] [] = some (.d (.bool (lt h[i] h[j])), []) := by
  rw [callL_code g_due_before (by simp)]; simp -implicitDefEqProofs only [c_due_before, r_due_before, go_sem]
  simp -implicitDefEqProofs only [show (0 : Int) ≤ (i : Int) by omega, show (0 : Int) ≤ (j : Int) by omega, Int.toNat_natCast, List.getElem?_map, List.getElem?_eq_getElem hi, List.getElem?_eq_getElem hj, eD_size, eD_asAgg, due_compare_ok, go_sem]
  rfl
def validD (d : Due) : Bool := decide (0 ≤ d.1) && (decide (d.1 ≤ 1073741824) && (decide (1 ≤ d.2) && decide (d.2 ≤ 1073741824)))
theorem valid_ok (d : Due) : callL G N_due_valid [.d (eD d)] [] = some (.d (.bool (validD d)), []) := by
  simp only [eD]
  rw [callL_code g_due_valid (by simp)]; simp -implicitDefEqProofs only [c_due_valid, r_due_valid, go_sem]
  rfl
theorem find1_ok (d : Due) (j : Int) : callL G N_due_find_1 [.d (eD d), .d (.pd (.int .i64 j))] [] = some (.d (.bool (decide (d.2 = j))), []) := by
  simp only [eD]
  rw [callL_code g_due_find_1 (by simp)]; simp -implicitDefEqProofs only [c_due_find_1, r_due_find_1, go_sem]
theorem idxI_map {α β : Type} (p : β → Bool) (f : α → β) (es : List α) : idxI p (es.map f) = idxI (fun x => p (f x)) es := by
  unfold idxI; rw [List.findIdx?_map]; rfl
def idxR (es : List D) (g : Nat) (cs : List D) (p : D → Bool) (k : Nat) : AExit × St := match (es.drop k).findIdx? p with | some i => (.ret, ⟨[(4, .d (.int .i64 ((k + i : Nat) : Int)))], []⟩) | none => (.exit 0, ⟨[], []⟩)
theorem idx_loop (es : List D) (g : Nat) (cs : List D) (p : D → Bool) (hL : es.length ≤ LIM) (hs : ∀ e ∈ es, e.size = 2) (hp : ∀ e ∈ es, callL G g (.d e.asAgg :: cs.map .d) [] = some (.d (.bool (p e)), [])) : ∀ k, k ≤ es.length →
    loopL G [] l_slices_IndexFunc_api_Due_0 ⟨[(0, .d (.sl es)), (1, .d (.fn g cs)), (7, .d (.int .i64 es.length)), (8, .d (.int .i64 k))], []⟩ = some (idxR es g cs p k) := by
  refine loop_ind (fun k => es.length - k) (fun k => k ≤ es.length) _ _ fun k hk L ih => ?_
  simp only [l_slices_IndexFunc_api_Due_0]
  by_cases hlt : k < es.length
  · have h1 := hp es[k] (by simp)
    have h2 := hs es[k] (by simp)
    have i1 := ih (k + 1) (by omega) (by omega)
    have hL2 : es.length ≤ 4294967296 := hL
    have h3 : es[k]? = some es[k] := List.getElem?_eq_getElem hlt
    unfold idxR at i1 ⊢
    rw [List.drop_eq_getElem_cons hlt, List.findIdx?_cons]
    clear ih hp hs
    cases hpe : p es[k] with
    | true =>
      rw [hpe] at h1
      simp only [if_true]
      clear i1
      simp -implicitDefEqProofs (maxSteps := 4000000) (disch := omega) only [getDT, go_sem, *] /-A4-/
    | false =>
      rw [hpe] at h1
      cases hf : (es.drop (k + 1)).findIdx? p with
      | none =>
        rw [hf] at i1
        simp only [Int.natCast_add, Int.natCast_one, Int.natCast_zero, Int.natCast_mul, Int.cast_ofNat_Int, List.length_append, List.length_map, List.map_nil, List.length_nil, List.map_append, List.map_cons, List.length_cons, Nat.zero_add, srcO, mapSet] at i1
        simp only [Option.map_none, if_false, Bool.false_eq_true]
        simp -implicitDefEqProofs (maxSteps := 4000000) (disch := omega) only [getDT, go_sem, *] /-A5-/
      | some i =>
        rw [hf] at i1
        simp only [Int.natCast_add, Int.natCast_one, Int.natCast_zero, Int.natCast_mul, Int.cast_ofNat_Int, List.length_append, List.length_map, List.map_nil, List.length_nil, List.map_append, List.map_cons, List.length_cons, Nat.zero_add, srcO, mapSet] at i1
        simp only [Option.map_some, if_false, Bool.false_eq_true]
        rw [show ((k + (i + 1) : Nat) : Int) = (k : Int) + 1 + i by omega]
        simp -implicitDefEqProofs (maxSteps := 4000000) (disch := omega) only [getDT, go_sem, *] /-A6-/
  · have : k = es.length := by omega
    subst this
    clear ih
    simp only [idxR, List.drop_length, List.findIdx?_nil]
    simp -implicitDefEqProofs (maxSteps := 4000000) (disch := omega) only [getDT, go_sem, *] /-A7-/
theorem idx_ok (es : List D) (g : Nat) (cs : List D) (p : D → Bool) (hL : es.length ≤ LIM) (hs : ∀ e ∈ es, e.size = 2) (hp : ∀ e ∈ es, callL G g (.d e.asAgg :: cs.map .d) [] = some (.d (.bool (p e)), [])) : callL G N_slices_IndexFunc_api_Due [.d (.sl es), .d (.fn g cs)] [] = some (.d (.int .i64 (idxI p es)), []) := by
  rw [callL_code g_slices_IndexFunc_api_Due (by simp)]; simp -implicitDefEqProofs only [c_slices_IndexFunc_api_Due, r_slices_IndexFunc_api_Due, go_sem]
  have := idx_loop es g cs p hL hs hp 0 (by omega)
  simp only [Int.natCast_zero] at this
  rw [this]
  unfold idxR idxI
  simp only [List.drop_zero, Nat.zero_add]
  cases es.findIdx? p <;> simp -implicitDefEqProofs only [go_sem]
theorem contains_ok (es : List D) (g : Nat) (cs : List D) (p : D → Bool) (hL : es.length ≤ LIM) (hs : ∀ e ∈ es, e.size = 2) (hp : ∀ e ∈ es, callL G g (.d e.asAgg :: cs.map .d) [] = some (.d (.bool (p e)), [])) : callL G N_slices_ContainsFunc_api_Due [.d (.sl es), .d (.fn g cs)] [] = some (.d (.bool (es.any p)), []) := by
  rw [callL_code g_slices_ContainsFunc_api_Due (by simp)]; simp -implicitDefEqProofs only [c_slices_ContainsFunc_api_Due, r_slices_ContainsFunc_api_Due, go_sem]
  simp -implicitDefEqProofs only [idx_ok es g cs p hL hs hp, go_sem]
  unfold idxI
  cases h : es.findIdx? p with
  | none => simp at h; simpa using h
  | some i =>
    have := List.findIdx?_eq_some_iff_getElem.1 h
    simp
    exact ⟨_, List.getElem_mem this.1, this.2.1⟩
def secondIs (j : Int) : D → Bool
  | .agg [_, .int _ n] => decide (n = j)
  | _ => false
def findD (h : List Due) (j : Int) : Int := idxI (fun d => decide (d.2 = j)) h
theorem find_ok (h : List Due) (j : Int) (hL : h.length ≤ LIM) : callL G N_due_find [.d (.sl (h.map eD)), .d (.int .i64 j)] [] = some (.d (.int .i64 (findD h j)), []) := by
  have hk := idx_ok (h.map eD) N_due_find_1 [.pd (.int .i64 j)] (secondIs j) (by simpa using hL) (fun e he => by obtain ⟨d, _, rfl⟩ := List.mem_map.1 he; rfl) (fun e he => by
    obtain ⟨d, _, rfl⟩ := List.mem_map.1 he
    exact find1_ok d j)
  rw [idxI_map] at hk
  rw [callL_code g_due_find (by simp)]; simp -implicitDefEqProofs only [c_due_find, r_due_find, go_sem]
  simp -implicitDefEqProofs only [hk, go_sem]
  rfl
theorem Validate1_ok (d : Due) : callL G N_due_Validate_1 [.d (eD d)] [] = some (.d (.bool (!validD d)), []) := by
  have h := valid_ok d
  simp only [eD] at h ⊢
  rw [callL_code g_due_Validate_1 (by simp)]; simp -implicitDefEqProofs only [c_due_Validate_1, r_due_Validate_1, go_sem]
  simp -implicitDefEqProofs only [h, go_sem]
end Go.Proofs.Ytmbnbjkdamalpaa

namespace Go.Proofs.Ytmbnbjkdamalpaa
open Go Go.Sim
set_option linter.unusedSimpArgs false
set_option linter.unusedVariables false
set_option maxHeartbeats 10000000
set_option maxRecDepth 40000
theorem wrapN {x : Int} (h0 : -4294967296 ≤ x) (h1 : x ≤ 4294967296) : IntKind.i64.wrap x = x := wr (by omega)
abbrev srcO (l : List Int) (a : Nat) : Go.Sim.Obj := .row [.d (.agg [.sl (ints l), .int .i64 a])]
def rawD (l : List Int) (a : Nat) : Int × Nat := if a < l.length then (l.getD a 0, a + 1) else (0, a)
theorem raw_le (l : List Int) (a : Nat) (h : a ≤ l.length) : (rawD l a).2 ≤ l.length := by unfold rawD; split <;> simp <;> omega
def nD (l : List Int) (a : Nat) (n : Int) : Int := if (rawD l a).1.tmod n < 0 then (rawD l a).1.tmod n + n else (rawD l a).1.tmod n
theorem nD_in (l : List Int) (a : Nat) {n : Int} (h : 1 ≤ n) : 0 ≤ nD l a n ∧ nD l a n < n := by
  unfold nD
  have h1 := Int.tmod_lt_of_pos (rawD l a).1 (show 0 < n by omega)
  have h2 := Int.lt_tmod_of_pos (rawD l a).1 (show 0 < n by omega)
  split <;> omega
end Go.Proofs.Ytmbnbjkdamalpaa

namespace Go.Proofs.Ytmbnbjkdamalpaa
open Go Go.Sim
set_option linter.unusedSimpArgs false
set_option linter.unusedVariables false
set_option maxHeartbeats 10000000
set_option maxRecDepth 4000
def invalidB : D → Bool
  | .agg [.int _ t, .int _ i] => !validD (t, i)
  | _ => false
def dupAt (h : List Due) (i : Nat) : Bool := decide (findD h (h.getD i (0, 0)).2 ≠ i)
def ordAt (h : List Due) (i : Nat) : Bool := lt (h.getD i (0, 0)) (h.getD ((i - 1) / 2) (0, 0))
def validateD (h : List Due) : Int := if 12 < h.length then 2 else if h.any (fun d => !validD d) then 1 else if (List.range' 0 h.length).any (dupAt h) then 10 else if (List.range' 1 (h.length - 1)).any (ordAt h) then 11 else 0
theorem wrapS {k : Nat} {j : Int} (h0 : 0 ≤ (k : Int) - j) (h1 : (k : Int) - j ≤ 4294967296) : IntKind.i64.wrap ((k : Int) - j) = (k : Int) - j := by
  rw [Go.IntWalk.i64_in _ (by omega)]
def val0R (h : List Due) (k : Nat) : AExit × St :=
  if (List.range' k (h.length - k)).any (dupAt h) then (.ret, ⟨[(2, .d (.int .i64 10))], []⟩)
  else (.exit 0, ⟨[(0, .d (.sl (h.map eD)))], []⟩)
theorem val0_loop (h : List Due) (hL : h.length ≤ 12) : ∀ k, k ≤ h.length → loopL G [] l_due_Validate_0 ⟨[(0, .d (.sl (h.map eD))), (11, .d (.sl (h.map eD))), (12, .d (.int .i64 h.length)), (13, .d (.int .i64 k))], []⟩ = some (val0R h k) := by
  refine loop_ind (fun k => h.length - k) (fun k => k ≤ h.length) _ _ fun k hk L ih => ?_
  simp only [l_due_Validate_0]
  by_cases hlt : k < h.length
  · have hf := find_ok h h[k].2 (by simp [LIM]; omega)
    have i1 := ih (k + 1) (by omega) (by omega)
    unfold val0R at i1 ⊢
    rw [show h.length - k = (h.length - (k + 1)) + 1 by omega, List.range'_succ, List.any_cons]
    have hd : dupAt h k = !decide (findD h h[k].2 = k) := by simp [dupAt, hlt]
    rw [hd]
    clear ih hd
    simp only [Int.natCast_add, Int.natCast_one, Int.natCast_zero, Int.natCast_mul, Int.cast_ofNat_Int, List.length_append, List.length_map, List.map_nil, List.length_nil, List.map_append, List.map_cons, List.length_cons, Nat.zero_add, srcO, mapSet] at i1
    generalize (List.range' (k + 1) (h.length - (k + 1))).any (dupAt h) = z at *
    by_cases hc : findD h h[k].2 = k
    · rw [decide_eq_true hc]
      rw [hc] at hf
      simp only [Bool.not_true, Bool.false_or]
      cases z
      · simp only [if_false, Bool.false_eq_true] at i1 ⊢
        simp -implicitDefEqProofs (maxSteps := 4000000) (disch := omega) only [getDT, go_sem, *] /-A0-/
      · simp only [if_true] at i1 ⊢
        simp -implicitDefEqProofs (maxSteps := 4000000) (disch := omega) only [getDT, go_sem, *] /-A1-/
    · rw [decide_eq_false hc]
      simp only [Bool.not_false, Bool.true_or, if_true]
      clear i1
      simp -implicitDefEqProofs (maxSteps := 4000000) (disch := omega) only [getDT, go_sem, *] /-A2-/
  · have : k = h.length := by omega
    subst this
    clear ih
    simp only [val0R, Nat.sub_self, List.range'_zero, List.any_nil, if_false, Bool.false_eq_true]
    simp -implicitDefEqProofs (maxSteps := 4000000) (disch := omega) only [getDT, go_sem, *] /-A3-/
def val1R (h : List Due) (k : Nat) : AExit × St :=
  if (List.range' k (h.length - k)).any (ordAt h) then (.ret, ⟨[(2, .d (.int .i64 11))], []⟩)
  else (.exit 2, ⟨[], []⟩)
theorem val1_loop (h : List Due) (hL : h.length ≤ 12) : ∀ k : Nat, 1 ≤ k → loopL G [] l_due_Validate_1 ⟨[(0, .d (.sl (h.map eD))), (5, .d (.int .i64 k))], []⟩ = some (val1R h k) := by
  refine loop_ind (fun k => h.length - k) (fun k => 1 ≤ k) _ _ fun k hk L ih => ?_
  simp -implicitDefEqProofs only [l_due_Validate_1, List.length_map, go_sem]
  by_cases hlt : k < h.length
  · have hb := before_ok h k ((k - 1) / 2) hlt (by omega)
    have hq : IntKind.i64.wrap (((k : Int) - 1).tdiv 2) = (((k - 1) / 2 : Nat) : Int) := by
      rw [wrapN (by rw [Int.tdiv_eq_ediv_of_nonneg (by omega)]; omega) (by rw [Int.tdiv_eq_ediv_of_nonneg (by omega)]; omega), Int.tdiv_eq_ediv_of_nonneg (by omega)]; omega
    simp -implicitDefEqProofs only [show ((k : Int) < (h.length : Int)) by omega, wrapN (show -4294967296 ≤ (k : Int) - 1 by omega) (by omega), hq, hb, wrap1 hlt (show h.length ≤ LIM by simp [LIM]; omega), show ¬ ((2 : Int) = 0) by decide, go_sem]
    have i1 := ih (k + 1) (by omega) (by omega)
    simp only [Int.natCast_add, Int.natCast_one] at i1
    rw [i1]
    unfold val1R
    rw [show h.length - k = (h.length - (k + 1)) + 1 by omega, List.range'_succ, List.any_cons]
    have hd : ordAt h k = lt h[k] h[(k - 1) / 2] := by simp [ordAt, hlt, show (k - 1) / 2 < h.length by omega]
    rw [hd]
    cases lt h[k] h[(k - 1) / 2]
    · simp -implicitDefEqProofs only [go_sem]
    · simp -implicitDefEqProofs only [go_sem]
  · simp -implicitDefEqProofs only [show ¬ ((k : Int) < (h.length : Int)) by omega, go_sem]
    simp [val1R, show h.length - k = 0 by omega]
theorem validate_ok (h : List Due) (hL : h.length ≤ LIM) : callL G N_due_Validate [.d (.sl (h.map eD))] [] = some (.d (.int .i64 (validateD h)), []) := by
  have h1 := contains_ok (h.map eD) N_due_Validate_1 [] invalidB (by simpa using hL) (fun e he => by obtain ⟨d, _, rfl⟩ := List.mem_map.1 he; rfl) (fun e he => by
    obtain ⟨d, _, rfl⟩ := List.mem_map.1 he
    exact Validate1_ok d)
  have h2 : (h.map eD).any invalidB = h.any (fun d => !validD d) := by rw [List.any_map]; rfl
  rw [h2] at h1
  rw [callL_code g_due_Validate (by simp)]; simp -implicitDefEqProofs only [c_due_Validate, r_due_Validate, go_sem]
  simp -implicitDefEqProofs only [h1, List.length_map, go_sem]
  unfold validateD
  by_cases h12 : 12 < h.length
  · simp -implicitDefEqProofs only [h12, show (12 < (h.length : Int)) by omega, go_sem]
  · have e0 := val0_loop h (by omega) 0 (by omega)
    have e1 := val1_loop h (by omega) 1 (by omega)
    simp only [Int.natCast_zero] at e0
    simp only [Int.natCast_one] at e1
    cases hA : h.any (fun d => !validD d)
    · simp -implicitDefEqProofs only [hA, h12, show ¬ (12 < (h.length : Int)) by omega, e0, val0R, Nat.sub_zero, go_sem]
      cases hB : (List.range' 0 h.length).any (dupAt h)
      · simp -implicitDefEqProofs only [hB, e1, val1R, go_sem]
        cases hC : (List.range' 1 (h.length - 1)).any (ordAt h) <;> simp -implicitDefEqProofs only [hC, go_sem]
      · simp -implicitDefEqProofs only [hB, go_sem]
    · simp -implicitDefEqProofs only [hA, h12, show ¬ (12 < (h.length : Int)) by omega, go_sem]
end Go.Proofs.Ytmbnbjkdamalpaa

namespace Go.Proofs.Ytmbnbjkdamalpaa
open Go Go.Sim
set_option linter.unusedSimpArgs false
set_option linter.unusedVariables false
set_option maxHeartbeats 10000000
set_option maxRecDepth 4000
abbrev rowL (h : List Due) : Go.Sim.Obj := .row ((h.map eD).map .d)
def swp (l : List Due) (i j : Nat) : List Due := (l.set i (l.getD j (0, 0))).set j (l.getD i (0, 0))
theorem swp_length (l : List Due) (i j : Nat) : (swp l i j).length = l.length := by simp [swp]
def upL (l : List Due) (i : Nat) : List Due × Nat :=
  if 0 < i then
    if lt (l.getD i (0, 0)) (l.getD ((i - 1) / 2) (0, 0)) then upL (swp l i ((i - 1) / 2)) ((i - 1) / 2) else (l, i)
  else (l, i)
termination_by i
decreasing_by omega
theorem rowGet (l : List Due) (i : Nat) (h : i < l.length) : (List.map AV.d (List.map eD l))[i]? = some (.d (eD (l.getD i (0, 0)))) := by
  simp [List.getElem?_map, List.getElem?_eq_getElem h, h]
theorem rowSet (l : List Due) (i : Nat) (x : Due) : (List.map AV.d (List.map eD l)).set i (.d (eD x)) = List.map AV.d (List.map eD (l.set i x)) := by
  rw [List.map_set, List.map_set]
theorem rowAll (l : List Due) : List.take l.length (List.map AV.d (List.map eD l)) = List.map AV.d (List.map eD l) := by
  rw [List.take_of_length_le]; simp
theorem rowLen (l : List Due) : (List.map eD l).length = l.length := by simp
theorem before_ok' (h : List Due) (i j : Nat) (hi : i < h.length) (hj : j < h.length) : callL G N_due_before [.d (.sl (h.map eD)), .d (.int .i64 i), .d (.int .i64 j)] [] = some (.d (.bool (lt (h.getD i (0, 0)) (h.getD j (0, 0)))), []) := by
  rw [before_ok h i j hi hj]; simp [hi, hj]
def upS (l : List Due) (i : Nat) : St := ⟨[(0, .osl 1000000 0 l.length), (1, .d (.int .i64 i)), (1000000, .ref 1000000 1 0)], [(1000000, rowL l)]⟩
def upE (l : List Due) (i : Nat) : St := ⟨[(1, .d (.int .i64 i)), (1000000, .ref 1000000 1 0)], [(1000000, rowL l)]⟩
theorem upL_length (l : List Due) (i : Nat) : (upL l i).1.length = l.length := by
  fun_induction upL l i with
  | case1 l i h0 h1 ih => rw [ih, swp_length]
  | case2 => rfl
  | case3 => rfl
def downL (l : List Due) (i : Nat) : List Due :=
  if _h : 2 * i + 1 < l.length then
    let k := if 2 * i + 1 + 1 < l.length ∧ lt (l.getD (2 * i + 1 + 1) (0, 0)) (l.getD (2 * i + 1) (0, 0)) then 2 * i + 1 + 1 else 2 * i + 1
    if lt (l.getD k (0, 0)) (l.getD i (0, 0)) then downL (swp l i k) k else l
  else l
termination_by l.length - i
decreasing_by simp only [swp_length]; split <;> omega
end Go.Proofs.Ytmbnbjkdamalpaa

namespace Go.Proofs.Ytmbnbjkdamalpaa
open Go Go.Sim
set_option linter.unusedSimpArgs false
set_option linter.unusedVariables false
set_option maxHeartbeats 10000000
set_option maxRecDepth 40000
def pushL (h : List Due) (d : Due) : List Due := (upL (h ++ [d]) h.length).1
def pushE (h : List Due) (d : Due) : Int := if validateD h ≠ 0 then validateD h else if validD d = false then 1 else if h.length = 12 then 3 else if 0 ≤ findD h d.2 then 10 else 0
def pushD (h : List Due) (d : Due) : List Due × Int := (if pushE h d = 0 then pushL h d else [], pushE h d)
def eDE (r : List Due × Int) : D := .tup [.sl (r.1.map eD), .int .i64 r.2]
theorem validateD_le {h : List Due} (h0 : validateD h = 0) : h.length ≤ 12 := by
  unfold validateD at h0
  split at h0
  · cases h0
  · omega
end Go.Proofs.Ytmbnbjkdamalpaa

namespace Go.Proofs.Ytmbnbjkdamalpaa
open Go Go.Sim
set_option linter.unusedSimpArgs false
set_option linter.unusedVariables false
set_option maxHeartbeats 10000000
set_option maxRecDepth 40000
theorem downL_length (l : List Due) (i : Nat) : (downL l i).length = l.length := by
  fun_induction downL l i with
  | case1 l i h k h1 ih => rw [ih, swp_length]
  | case2 => rfl
  | case3 => rfl
def dropL (h : List Due) (i : Nat) : List Due :=
  if i = h.length - 1 then h.take (h.length - 1) else
  let l := (h.take (h.length - 1)).set i (h.getD (h.length - 1) (0, 0))
  if (upL l i).2 = i then downL (upL l i).1 i else (upL l i).1
def errD (h : List Due) (e : Int) : Int := if validateD h ≠ 0 then validateD h else if e ≠ 0 then e else 0
def popD (h : List Due) : List Due × Due × Int :=
  if validateD h ≠ 0 then ([], (0, 0), validateD h) else if h = [] then ([], (0, 0), 4) else (dropL h 0, h.getD 0 (0, 0), 0)
def removeD (h : List Due) (id : Int) : List Due × Int :=
  if validateD h ≠ 0 then ([], validateD h) else if findD h id < 0 then ([], 4) else (dropL h (findD h id).toNat, 0)
theorem find_lt (h : List Due) (id : Int) : findD h id < h.length := by
  unfold findD idxI
  cases e : List.findIdx? (fun d : Due => decide (d.2 = id)) h with
  | none => simp only; omega
  | some i => have := (List.findIdx?_eq_some_iff_getElem.1 e).1; simp only; omega
end Go.Proofs.Ytmbnbjkdamalpaa

namespace Go.Proofs.Ytmbnbjkdamalpaa
open Go Go.Sim
set_option linter.unusedSimpArgs false
set_option linter.unusedVariables false
set_option maxHeartbeats 10000000
abbrev dz : Due := (0, 0)
theorem lt_iff (a b : Due) : lt a b = true ↔ a.1 < b.1 ∨ (a.1 = b.1 ∧ a.2 < b.2) := by
  unfold lt cmpD cmpI
  rw [decide_eq_true_iff]
  repeat' split
  all_goals omega
theorem lt_ff (a b : Due) : lt a b = false ↔ b.1 < a.1 ∨ (b.1 = a.1 ∧ b.2 ≤ a.2) := by
  rw [← Bool.not_eq_true, lt_iff]; omega
theorem lt_asymm {a b : Due} (h : lt a b = true) : lt b a = false := by rw [lt_iff] at h; rw [lt_ff]; omega
theorem le_trans' {a b c : Due} (h1 : lt b a = false) (h2 : lt c b = false) : lt c a = false := by rw [lt_ff] at *; omega
def HeapO (l : List Due) : Prop := ∀ k, 1 ≤ k → k < l.length → lt (l.getD k dz) (l.getD ((k - 1) / 2) dz) = false
theorem swp_get (l : List Due) (i j k : Nat) (hi : i < l.length) (hj : j < l.length) : (swp l i j).getD k dz = if k = j then l.getD i dz else if k = i then l.getD j dz else l.getD k dz := by
  unfold swp
  simp only [List.getD_eq_getElem?_getD, List.getElem?_set, List.length_set]
  by_cases h1 : j = k
  · subst h1; simp [hj]
  · rw [if_neg h1, if_neg (Ne.symm h1)]
    by_cases h2 : i = k
    · subst h2; simp [hi]
    · rw [if_neg h2, if_neg (Ne.symm h2)]
theorem swp_perm (l : List Due) (i j : Nat) (hi : i < l.length) (hj : j < l.length) : (swp l i j).Perm l := by
  unfold swp
  have := List.set_set_perm hi hj
  simpa [hi, hj] using this
theorem up_perm (l : List Due) (i : Nat) (hi : i < l.length) : (upL l i).1.Perm l := by
  fun_induction upL l i with
  | case1 l i h0 h1 ih => exact (ih (by rw [swp_length]; omega)).trans (swp_perm l _ _ hi (by omega))
  | case2 => exact .refl _
  | case3 => exact .refl _
theorem up_heap (l : List Due) (i : Nat) (hi : i < l.length) (h1 : ∀ k, 1 ≤ k → k < l.length → k ≠ i → lt (l.getD k dz) (l.getD ((k - 1) / 2) dz) = false)
    (h2 : ∀ k, 1 ≤ k → k < l.length → (k - 1) / 2 = i → 1 ≤ i → lt (l.getD k dz) (l.getD ((i - 1) / 2) dz) = false) : HeapO (upL l i).1 := by
  fun_induction upL l i with
  | case1 l i h0 hlt ih =>
    have hp : (i - 1) / 2 < l.length := by omega
    have e := fun k => swp_get l i ((i - 1) / 2) k hi hp
    refine ih (by rw [swp_length]; omega) (fun k ha hb hc => ?_) (fun k ha hb hc hd => ?_)
    · rw [swp_length] at hb
      rw [e, e]
      by_cases hk : k = i
      · subst hk
        rw [if_neg (by omega), if_pos rfl, if_pos rfl]
        exact lt_asymm hlt
      · rw [if_neg hc, if_neg hk]
        by_cases hq : (k - 1) / 2 = (i - 1) / 2
        · rw [if_pos hq]
          have := h1 k ha hb hk
          rw [hq] at this
          exact le_trans' (lt_asymm hlt) this
        · rw [if_neg hq]
          by_cases hr : (k - 1) / 2 = i
          · rw [if_pos hr]; exact h2 k ha hb hr (by omega)
          · rw [if_neg hr]; exact h1 k ha hb hk
    · rw [swp_length] at hb
      rw [e, e, if_neg (show k ≠ (i - 1) / 2 by omega), if_neg (show ((i - 1) / 2 - 1) / 2 ≠ (i - 1) / 2 by omega), if_neg (show ((i - 1) / 2 - 1) / 2 ≠ i by omega)]
      have hpp := h1 ((i - 1) / 2) hd hp (by omega)
      by_cases hk : k = i
      · rw [if_pos hk]; exact hpp
      · rw [if_neg hk]
        have := h1 k ha hb hk
        rw [hc] at this
        exact le_trans' hpp this
  | case2 l i h0 hlt =>
    intro k ha hb
    by_cases hk : k = i
    · subst hk; simpa using hlt
    · exact h1 k ha hb hk
  | case3 l i h0 =>
    intro k ha hb
    exact h1 k ha hb (by omega)
theorem down_perm (l : List Due) (i : Nat) (hi : i < l.length) : (downL l i).Perm l := by
  fun_induction downL l i with
  | case1 l i h k h1 ih =>
    have hk : k < l.length := by simp only [k]; split <;> omega
    exact (ih (by rw [swp_length]; exact hk)).trans (swp_perm l _ _ hi hk)
  | case2 => exact .refl _
  | case3 => exact .refl _
theorem down_heap (l : List Due) (i : Nat) (hi : i < l.length) (h1 : ∀ k, 1 ≤ k → k < l.length → (k - 1) / 2 ≠ i → lt (l.getD k dz) (l.getD ((k - 1) / 2) dz) = false)
    (h2 : ∀ k, 1 ≤ k → k < l.length → (k - 1) / 2 = i → 1 ≤ i → lt (l.getD k dz) (l.getD ((i - 1) / 2) dz) = false) : HeapO (downL l i) := by
  fun_induction downL l i with
  | case1 l i h k hlt ih =>
    have hk : k < l.length ∧ i < k ∧ (k - 1) / 2 = i ∧ ∀ q, 1 ≤ q → q < l.length → (q - 1) / 2 = i → lt (l.getD q dz) (l.getD k dz) = false := by
      simp only [k]
      split
      · rename_i hc
        refine ⟨by omega, by omega, by omega, fun q ha hb hq => ?_⟩
        have : q = 2 * i + 1 ∨ q = 2 * i + 1 + 1 := by omega
        rcases this with rfl | rfl
        · exact lt_asymm hc.2
        · rw [lt_ff]; omega
      · rename_i hc
        refine ⟨by omega, by omega, by omega, fun q ha hb hq => ?_⟩
        have : q = 2 * i + 1 ∨ q = 2 * i + 1 + 1 := by omega
        rcases this with rfl | rfl
        · rw [lt_ff]; omega
        · simp only [hb, true_and, Bool.not_eq_true] at hc; exact hc
    obtain ⟨hk1, hk2, hk3, hk4⟩ := hk
    clear_value k
    have e := fun q => swp_get l i k q hi hk1
    refine ih (by rw [swp_length]; exact hk1) (fun q ha hb hc => ?_) (fun q ha hb hc hd => ?_)
    · rw [swp_length] at hb
      rw [e, e]
      by_cases hq : q = k
      · subst hq
        rw [if_pos rfl, hk3, if_neg (by omega), if_pos rfl]
        exact lt_asymm hlt
      · rw [if_neg hq, if_neg hc]
        by_cases hr : q = i
        · subst hr
          rw [if_pos rfl, if_neg (by omega)]
          exact h2 k (by omega) hk1 hk3 ha
        · rw [if_neg hr]
          by_cases hs : (q - 1) / 2 = i
          · rw [if_pos hs]; exact hk4 q ha hb hs
          · rw [if_neg hs]; exact h1 q ha hb hs
    · rw [swp_length] at hb
      rw [e, e, if_neg (show q ≠ k by omega), if_neg (show q ≠ i by omega), hk3, if_neg (by omega), if_pos rfl]
      have := h1 q ha hb (by omega)
      rw [hc] at this; exact this
  | case2 l i h k hlt =>
    intro q ha hb
    by_cases hq : (q - 1) / 2 = i
    · have hlt : lt (l.getD k dz) (l.getD i dz) = false := by simpa using hlt
      rw [hq]
      refine le_trans' hlt ?_
      simp only [k]
      have : q = 2 * i + 1 ∨ q = 2 * i + 1 + 1 := by omega
      split
      · rename_i hc
        rcases this with rfl | rfl
        · exact lt_asymm hc.2
        · rw [lt_ff]; omega
      · rename_i hc
        rcases this with rfl | rfl
        · rw [lt_ff]; omega
        · simp only [hb, true_and, Bool.not_eq_true] at hc; exact hc
    · exact h1 q ha hb hq
  | case3 l i h =>
    intro q ha hb
    exact h1 q ha hb (by omega)
end Go.Proofs.Ytmbnbjkdamalpaa

namespace Go.Proofs.Ytmbnbjkdamalpaa
open Go Go.Sim
set_option linter.unusedSimpArgs false
set_option linter.unusedVariables false
set_option maxHeartbeats 10000000
theorem findD_lt (h : List Due) (j : Int) : findD h j < h.length := by
  unfold findD idxI
  cases e : List.findIdx? (fun d : Due => decide (d.2 = j)) h with
  | none => simp only; omega
  | some i => have := (List.findIdx?_eq_some_iff_getElem.1 e).1; simp only; omega
theorem findD_at (h : List Due) (j : Int) (h0 : 0 ≤ findD h j) : (h.getD (findD h j).toNat dz).2 = j := by
  revert h0
  unfold findD idxI
  cases e : List.findIdx? (fun d : Due => decide (d.2 = j)) h with
  | none => simp
  | some i =>
    obtain ⟨h1, h2, _⟩ := List.findIdx?_eq_some_iff_getElem.1 e
    simp only [Int.toNat_natCast]
    intro _
    simpa [h1] using h2
theorem findD_neg (h : List Due) (j : Int) : findD h j < 0 ↔ j ∉ h.map (·.2) := by
  unfold findD idxI
  cases e : List.findIdx? (fun d : Due => decide (d.2 = j)) h with
  | none =>
    simp only [List.findIdx?_eq_none_iff, decide_eq_false_iff_not] at e
    simp only [show ((-1 : Int) < 0) by omega, true_iff, List.mem_map, not_exists, not_and]
    exact fun d hd => e d hd
  | some i =>
    obtain ⟨h1, h2, _⟩ := List.findIdx?_eq_some_iff_getElem.1 e
    simp only [decide_eq_true_eq] at h2
    refine ⟨fun h => by simp only at h; omega, fun hn => absurd (List.mem_map.2 ⟨_, List.getElem_mem h1, h2⟩) hn⟩
theorem findD_idx (h : List Due) (i : Nat) (hi : i < h.length) (hd : (h.map (·.2)).Nodup) : findD h (h.getD i dz).2 = i := by
  unfold findD idxI
  have : List.findIdx? (fun d : Due => decide (d.2 = (h.getD i dz).2)) h = some i := by
    refine List.findIdx?_eq_some_iff_getElem.2 ⟨hi, by simp [hi], fun j hj => ?_⟩
    have := (List.pairwise_iff_getElem.1 hd) j i (by simp; omega) (by simpa using hi) hj
    simpa [hi] using this
  rw [this]
theorem nodup_of (h : List Due) (hf : ∀ i, i < h.length → findD h (h.getD i dz).2 = i) : (h.map (·.2)).Nodup := by
  refine List.pairwise_iff_getElem.2 fun i j hi hj hij => ?_
  simp only [List.length_map] at hi hj
  simp only [List.getElem_map]
  intro he
  have h1 := hf i hi
  have h2 := hf j hj
  simp only [List.getD_eq_getElem?_getD, List.getElem?_eq_getElem hi, List.getElem?_eq_getElem hj, Option.getD_some] at h1 h2
  rw [he] at h1
  omega
structure Ok (h : List Due) : Prop where
  len : h.length ≤ 12
  val : ∀ d ∈ h, validD d = true
  ids : (h.map (·.2)).Nodup
  ord : HeapO h
theorem validate_iff (h : List Due) : validateD h = 0 ↔ Ok h := by
  unfold validateD
  by_cases h1 : 12 < h.length
  · rw [if_pos h1]; exact ⟨fun h => by omega, fun o => absurd o.len (by omega)⟩
  rw [if_neg h1]
  by_cases h2 : h.any (fun d => !validD d) = true
  · rw [if_pos h2]
    refine ⟨fun h => by omega, fun o => ?_⟩
    obtain ⟨d, hd, h3⟩ := List.any_eq_true.1 h2
    simp [o.val d hd] at h3
  rw [if_neg h2]
  have h2 : ∀ d ∈ h, validD d = true := by simpa using h2
  by_cases h3 : (List.range' 0 h.length).any (dupAt h) = true
  · rw [if_pos h3]
    refine ⟨fun h => by omega, fun o => ?_⟩
    obtain ⟨i, hi, h4⟩ := List.any_eq_true.1 h3
    simp only [List.mem_range'_1, Nat.zero_add] at hi
    simp [dupAt, findD_idx h i hi.2 o.ids] at h4
    exact absurd (findD_idx h i hi.2 o.ids) (by simpa [dz] using h4)
  rw [if_neg h3]
  have h3 : ∀ i, i < h.length → findD h (h.getD i dz).2 = i := by
    intro i hi
    simp only [List.any_eq_true, not_exists, not_and, List.mem_range'_1] at h3
    have := h3 i ⟨by omega, by omega⟩
    simpa [dupAt] using this
  by_cases h4 : (List.range' 1 (h.length - 1)).any (ordAt h) = true
  · rw [if_pos h4]
    refine ⟨fun h => by omega, fun o => ?_⟩
    obtain ⟨i, hi, h5⟩ := List.any_eq_true.1 h4
    simp only [List.mem_range'_1] at hi
    have := o.ord i hi.1 (by omega)
    unfold ordAt at h5
    rw [h5] at this; cases this
  rw [if_neg h4]
  refine ⟨fun _ => ⟨by omega, h2, nodup_of h h3, fun k ha hb => ?_⟩, fun _ => rfl⟩
  simp only [List.any_eq_true, not_exists, not_and, List.mem_range'_1] at h4
  have := h4 k ⟨by omega, by omega⟩
  simpa [ordAt] using this
theorem Ok.of_perm {h l : List Due} (hp : l.Perm h) (hl : h.length ≤ 12) (hv : ∀ d ∈ h, validD d = true) (hi : (h.map (·.2)).Nodup) (ho : HeapO l) : Ok l :=
  ⟨by rw [hp.length_eq]; exact hl, fun d hd => hv d (hp.mem_iff.1 hd), (hp.map _).nodup_iff.2 hi, ho⟩
theorem ok_nil : Ok [] := ⟨by simp, by simp, by simp, fun k _ h => by simp at h⟩
theorem getD_app (h : List Due) (d : Due) (k : Nat) : (h ++ [d]).getD k dz = if k < h.length then h.getD k dz else if k = h.length then d else dz := by
  simp only [List.getD_eq_getElem?_getD, List.getElem?_append]
  split
  · rfl
  · rename_i hk
    by_cases hk2 : k = h.length
    · subst hk2; simp
    · rw [if_neg hk2, List.getElem?_eq_none (by simp; omega)]; rfl
theorem push_ok' {h : List Due} {d : Due} (o : Ok h) (hd : validD d = true) (hl : h.length < 12) (hn : d.2 ∉ h.map (·.2)) : pushD h d = (pushL h d, 0) ∧ Ok (pushL h d) ∧ (pushL h d).Perm (d :: h) := by
  have hp : (pushL h d).Perm (d :: h) := (up_perm (h ++ [d]) h.length (by simp)).trans (List.perm_append_comm (l₂ := [d]))
  have he : pushE h d = 0 := by
    unfold pushE
    rw [(validate_iff h).2 o, hd, if_neg (by simp), if_neg (by simp), if_neg (by omega), if_neg]
    have := (findD_neg h d.2).2 hn; omega
  refine ⟨by unfold pushD; rw [he, if_pos rfl], .of_perm hp (by simp; omega) (fun x hx => by rcases List.mem_cons.1 hx with rfl | hx; exact hd; exact o.val x hx) (by simpa using ⟨by simpa using hn, o.ids⟩) ?_, hp⟩
  refine up_heap _ _ (by simp) (fun k ha hb hc => ?_) (fun k ha hb hc => ?_)
  · simp only [List.length_append, List.length_cons, List.length_nil] at hb
    rw [getD_app, getD_app, if_pos (by omega), if_pos (by omega)]
    exact o.ord k ha (by omega)
  · simp only [List.length_append, List.length_cons, List.length_nil] at hb
    omega
theorem set_perm' : ∀ (l : List Due) (i : Nat) (b : Due), i < l.length → (l.getD i dz :: l.set i b).Perm (b :: l) := by
  intro l
  induction l with
  | nil => intro i b h; simp at h
  | cons x xs ih =>
    intro i b h
    cases i with
    | zero => exact .swap _ _ _
    | succ i =>
      simp only [List.length_cons, Nat.add_lt_add_iff_right] at h
      simp only [List.getD_cons_succ, List.set_cons_succ]
      exact (List.Perm.swap _ _ _).trans (((ih i b h).cons x).trans (.swap _ _ _))
theorem take_last (h : List Due) (h0 : 0 < h.length) : h = h.take (h.length - 1) ++ [h.getD (h.length - 1) dz] := by
  have := List.take_append_getLast h (by intro hn; simp [hn] at h0)
  rw [List.getLast_eq_getElem] at this
  simpa [show h.length - 1 < h.length by omega] using this.symm
theorem upL_at {l : List Due} {i : Nat} : (upL l i).2 ≤ i ∧ ((0 < i ∧ lt (l.getD i dz) (l.getD ((i - 1) / 2) dz) = true ∧ (upL l i).2 < i) ∨ (¬ (0 < i ∧ lt (l.getD i dz) (l.getD ((i - 1) / 2) dz) = true) ∧ upL l i = (l, i))) := by
  fun_induction upL l i with
  | case1 l i h0 hlt ih => exact ⟨by omega, .inl ⟨h0, hlt, by omega⟩⟩
  | case2 l i h0 hlt => exact ⟨by simp, .inr ⟨fun h => hlt h.2, rfl⟩⟩
  | case3 l i h0 => exact ⟨by simp, .inr ⟨fun h => h0 h.1, rfl⟩⟩
theorem drop_ok' {h : List Due} (o : Ok h) (i : Nat) (hi : i < h.length) : Ok (dropL h i) ∧ (h.getD i dz :: dropL h i).Perm h := by
  have hlast := take_last h (by omega)
  obtain ⟨m, hm⟩ : ∃ m, m = h.length - 1 := ⟨_, rfl⟩
  obtain ⟨t, ht⟩ : ∃ t, t = h.take m := ⟨_, rfl⟩
  have htl : t.length = m := by simp [ht]; omega
  have hg : ∀ k, k < m → t.getD k dz = h.getD k dz := fun k hk => by simp [ht, List.getElem?_take, hk]
  rw [← hm, ← ht] at hlast
  unfold dropL
  rw [← hm, ← ht]
  have key : ∀ l : List Due, (h.getD i dz :: l).Perm h → HeapO l → Ok l ∧ (h.getD i dz :: l).Perm h := fun l hp ho => by
    refine ⟨⟨?_, fun d hd => o.val d (hp.mem_iff.1 (by simp [hd])), ?_, ho⟩, hp⟩
    · have := hp.length_eq; simp at this; have := o.len; omega
    · have := ((hp.map (·.2)).nodup_iff).2 o.ids
      rw [List.map_cons, List.nodup_cons] at this
      exact this.2
  by_cases h1 : i = m
  · rw [if_pos h1]
    refine key t ?_ fun k ha hb => ?_
    · subst h1
      conv => rhs; rw [hlast]
      exact (List.perm_append_comm (l₁ := [_]))
    · rw [htl] at hb
      rw [hg _ hb, hg _ (by omega)]
      exact o.ord k ha (by omega)
  · rw [if_neg h1]
    have him : i < m := by omega
    simp only
    obtain ⟨x, hx⟩ : ∃ x, x = h.getD m dz := ⟨_, rfl⟩
    obtain ⟨l, hl⟩ : ∃ l, l = t.set i x := ⟨_, rfl⟩
    have hll : l.length = m := by rw [hl, List.length_set, htl]
    have hlg : ∀ k, k < m → l.getD k dz = if k = i then x else h.getD k dz := fun k hk => by
      rw [← hg k hk, hl]
      simp only [List.getD_eq_getElem?_getD, List.getElem?_set, htl]
      by_cases hki : k = i
      · subst hki; simp [hk]
      · rw [if_neg (Ne.symm hki), if_neg hki]
    have hp : (h.getD i dz :: l).Perm h := by
      rw [← hg i him, hl]
      refine (set_perm' t i x (by omega)).trans ?_
      rw [hlast, hx]
      conv => rhs; rw [← hlast]
      conv => rhs; rw [hlast]
      exact List.perm_append_comm (l₁ := [_])
    rw [← hx, ← hl]
    have ord := o.ord
    have hch : ∀ k, 1 ≤ k → k < l.length → (k - 1) / 2 = i → 1 ≤ i → lt (l.getD k dz) (l.getD ((i - 1) / 2) dz) = false := fun k ha hb hc hd => by
      rw [hlg k (by omega), hlg _ (by omega), if_neg (by omega), if_neg (by omega)]
      have a := ord k ha (by omega)
      have b := ord i hd (by omega)
      rw [hc] at a
      exact le_trans' b a
    rcases (upL_at (l := l) (i := i)).2 with ⟨h0, hlt, hmv⟩ | ⟨hno, heq⟩
    · rw [if_neg (by omega)]
      refine key _ (((up_perm l i (by omega)).cons _).trans hp) (up_heap l i (by omega) (fun k ha hb hc => ?_) hch)
      by_cases hq : (k - 1) / 2 = i
      · have a := hch k ha hb hq (by omega)
        rw [hq]
        exact le_trans' (lt_asymm hlt) a
      · rw [hlg k (by omega), hlg _ (by omega), if_neg hc, if_neg hq]
        exact ord k ha (by omega)
    · rw [heq, if_pos rfl]
      refine key _ (((down_perm l i (by omega)).cons _).trans hp) (down_heap l i (by omega) (fun k ha hb hc => ?_) hch)
      by_cases hk : k = i
      · subst hk
        rw [← Bool.not_eq_true]
        exact fun h => hno ⟨by omega, h⟩
      · rw [hlg k (by omega), hlg _ (by omega), if_neg hk, if_neg hc]
        exact ord k ha (by omega)
theorem top_min {h : List Due} (o : HeapO h) : ∀ k, k < h.length → lt (h.getD k dz) (h.getD 0 dz) = false := by
  intro k
  induction k using Nat.strongRecOn with
  | ind k ih =>
    intro hk
    by_cases h0 : k = 0
    · subst h0; rw [lt_ff]; omega
    · exact le_trans' (ih ((k - 1) / 2) (by omega) (by omega)) (o k (by omega) hk)
theorem top_min' {h : List Due} (o : HeapO h) (d : Due) (hd : d ∈ h) : lt d (h.getD 0 dz) = false := by
  obtain ⟨k, hk, rfl⟩ := List.mem_iff_getElem.1 hd
  have := top_min o k hk
  simpa [hk] using this
end Go.Proofs.Ytmbnbjkdamalpaa
