/-
  The table of functions.
  Loops, where what comes out is told by a law rather than by a function.
  Numbers, as walks need them, and counted loops.
  More facts about lists, in the forms that walks take.
  Lists that are set or cut, in the forms that walks take.
  The rewriting set of walks, whole.
-/
import Derived.Test.YtmbnbjkdamalpaaGreatB3d06033
import Derived.KernelRfl
import Derived.Test.YtmbnbjkdamalpaaGreatB34f4da1
import Derived.IntWalk
set_option linter.unusedSimpArgs false
set_option linter.unusedVariables false
namespace Go.Proofs.YtmbnbjkdamalpaaGreat
open Go Go.Sim
def tab : List (Nat × AFn) := [(N_law11_StripeBuilt, fn_law11_StripeBuilt), (N_base_New, fn_base_New), (N_base_Src_Pick, fn_base_Src_Pick), (N_base_Src_N, fn_base_Src_N), (N_base_Src_Raw, fn_base_Src_Raw), (N_base_Src_Shard, fn_base_Src_Shard), (N_base_Src_Span, fn_base_Src_Span), (N_base_Src_Between, fn_base_Src_Between), (N_base_Src_From, fn_base_Src_From), (N_base_Src_Range, fn_base_Src_Range), (N_base_Src_FromOf, fn_base_Src_FromOf), (N_ref07_Free, fn_ref07_Free), (N_ref04_New, fn_ref04_New), (N_base_Src_RingOf, fn_base_Src_RingOf), (N_base_Src_Message, fn_base_Src_Message), (N_ref02_Route, fn_ref02_Route), (N_ref01_Put, fn_ref01_Put), (N_ref02_Sum, fn_ref02_Sum), (N_ref02_Into, fn_ref02_Into), (N_base_Src_Body, fn_base_Src_Body), (N_ref04_PushBack, fn_ref04_PushBack), (N_ref04_pushable, fn_ref04_pushable), (N_ref04_Validate, fn_ref04_Validate), (N_ref04_order, fn_ref04_order), (N_ref03_Validate, fn_ref03_Validate), (N_ref03_in, fn_ref03_in), (N_ref03_Index, fn_ref03_Index), (N_ref04_with, fn_ref04_with), (N_ref04_PushFront, fn_ref04_PushFront), (N_base_Src_Table, fn_base_Src_Table), (N_ref06_Grant, fn_ref06_Grant), (N_ref06_Validate, fn_ref06_Validate), (N_ref05_Validate, fn_ref05_Validate), (N_ref05_sound, fn_ref05_sound), (N_ref05_index, fn_ref05_index), (N_ref05_before, fn_ref05_before), (N_ref06_find, fn_ref06_find), (N_ref05_Push, fn_ref05_Push), (N_ref05_up, fn_ref05_up), (N_ref05_swap, fn_ref05_swap), (N_stripe_Begin, fn_stripe_Begin), (N_stripe_number, fn_stripe_number), (N_ref11_Begin, fn_ref11_Begin), (N_stripe_End, fn_stripe_End), (N_shard_Validate, fn_shard_Validate), (N_ring_Validate, fn_ring_Validate), (N_ring_cell, fn_ring_cell), (N_ring_list, fn_ring_list), (N_message_Validate, fn_message_Validate), (N_message_in, fn_message_in), (N_lease_Validate, fn_lease_Validate), (N_lease_time, fn_lease_time), (N_due_Validate, fn_due_Validate), (N_slices_ContainsFunc_api_Due, fn_slices_ContainsFunc_api_Due), (N_slices_IndexFunc_api_Due, fn_slices_IndexFunc_api_Due), (N_due_Validate_1, fn_due_Validate_1), (N_due_valid, fn_due_valid), (N_due_find, fn_due_find), (N_due_find_1, fn_due_find_1), (N_due_before, fn_due_before), (N_due_compare, fn_due_compare), (N_cmp_Compare_int, fn_cmp_Compare_int), (N_cmp_isNaN_int, fn_cmp_isNaN_int), (N_cmp_Or_int, fn_cmp_Or_int), (N_lease_matches, fn_lease_matches), (N_slices_Contains_api_Due, fn_slices_Contains_api_Due), (N_slices_Index_api_Due, fn_slices_Index_api_Due), (N_shard_stored, fn_shard_stored), (N_shard_spans, fn_shard_spans), (N_shard_messages, fn_shard_messages), (N_ring_List, fn_ring_List), (N_shard_in, fn_shard_in), (N_shard_Counts, fn_shard_Counts), (N_shard_isEpoch, fn_shard_isEpoch), (N_shard_isLimit, fn_shard_isLimit), (N_shard_usable, fn_shard_usable), (N_shard_live, fn_shard_live), (N_slices_Contains_bool, fn_slices_Contains_bool), (N_slices_Index_bool, fn_slices_Index_bool), (N_message_Purged, fn_message_Purged), (N_message_Spent, fn_message_Spent), (N_ref11_End, fn_ref11_End), (N_ref07_Validate, fn_ref07_Validate), (N_ref07_span, fn_ref07_span), (N_ref07_All, fn_ref07_All), (N_ref07_Ready, fn_ref07_Ready), (N_ref04_List, fn_ref04_List), (N_ref07_Leased, fn_ref07_Leased), (N_ref07_Counts, fn_ref07_Counts), (N_ref07_Live, fn_ref07_Live), (N_ref07_epochs, fn_ref07_epochs), (N_ref07_limits, fn_ref07_limits), (N_ref03_Purged, fn_ref03_Purged), (N_ref03_Spent, fn_ref03_Spent), (N_base_Src_Stripes, fn_base_Src_Stripes), (N_stripe_Sum, fn_stripe_Sum), (N_ref11_Sum, fn_ref11_Sum), (N_ref11_counted, fn_ref11_counted), (N_stripe_Quiet, fn_stripe_Quiet), (N_slices_ContainsFunc_api_Stripe, fn_slices_ContainsFunc_api_Stripe), (N_slices_IndexFunc_api_Stripe, fn_slices_IndexFunc_api_Stripe), (N_stripe_Quiet_1, fn_stripe_Quiet_1), (N_ref11_Quiet, fn_ref11_Quiet), (N_stripe_Same, fn_stripe_Same), (N_slices_Equal_api_Stripe, fn_slices_Equal_api_Stripe), (N_ref11_Same, fn_ref11_Same), (N_law11_awake, fn_law11_awake)]
def G : FuncId → Option AFn := fun f => Go.Sim.look f tab
theorem g_law11_StripeBuilt : G N_law11_StripeBuilt = some fn_law11_StripeBuilt := by kernel_rfl
theorem g_base_New : G N_base_New = some fn_base_New := by kernel_rfl
theorem g_base_Src_Pick : G N_base_Src_Pick = some fn_base_Src_Pick := by kernel_rfl
theorem g_base_Src_N : G N_base_Src_N = some fn_base_Src_N := by kernel_rfl
theorem g_base_Src_Raw : G N_base_Src_Raw = some fn_base_Src_Raw := by kernel_rfl
theorem g_base_Src_Shard : G N_base_Src_Shard = some fn_base_Src_Shard := by kernel_rfl
theorem g_base_Src_Span : G N_base_Src_Span = some fn_base_Src_Span := by kernel_rfl
theorem g_base_Src_Between : G N_base_Src_Between = some fn_base_Src_Between := by kernel_rfl
theorem g_base_Src_From : G N_base_Src_From = some fn_base_Src_From := by kernel_rfl
theorem g_base_Src_Range : G N_base_Src_Range = some fn_base_Src_Range := by kernel_rfl
theorem g_base_Src_FromOf : G N_base_Src_FromOf = some fn_base_Src_FromOf := by kernel_rfl
theorem g_ref07_Free : G N_ref07_Free = some fn_ref07_Free := by kernel_rfl
theorem g_ref04_New : G N_ref04_New = some fn_ref04_New := by kernel_rfl
theorem g_base_Src_RingOf : G N_base_Src_RingOf = some fn_base_Src_RingOf := by kernel_rfl
theorem g_base_Src_Message : G N_base_Src_Message = some fn_base_Src_Message := by kernel_rfl
theorem g_ref02_Route : G N_ref02_Route = some fn_ref02_Route := by kernel_rfl
theorem g_ref01_Put : G N_ref01_Put = some fn_ref01_Put := by kernel_rfl
theorem g_ref02_Sum : G N_ref02_Sum = some fn_ref02_Sum := by kernel_rfl
theorem g_ref02_Into : G N_ref02_Into = some fn_ref02_Into := by kernel_rfl
theorem g_base_Src_Body : G N_base_Src_Body = some fn_base_Src_Body := by kernel_rfl
theorem g_ref04_PushBack : G N_ref04_PushBack = some fn_ref04_PushBack := by kernel_rfl
theorem g_ref04_pushable : G N_ref04_pushable = some fn_ref04_pushable := by kernel_rfl
theorem g_ref04_Validate : G N_ref04_Validate = some fn_ref04_Validate := by kernel_rfl
theorem g_ref04_order : G N_ref04_order = some fn_ref04_order := by kernel_rfl
theorem g_ref03_Validate : G N_ref03_Validate = some fn_ref03_Validate := by kernel_rfl
theorem g_ref03_in : G N_ref03_in = some fn_ref03_in := by kernel_rfl
theorem g_ref03_Index : G N_ref03_Index = some fn_ref03_Index := by kernel_rfl
theorem g_ref04_with : G N_ref04_with = some fn_ref04_with := by kernel_rfl
theorem g_ref04_PushFront : G N_ref04_PushFront = some fn_ref04_PushFront := by kernel_rfl
theorem g_base_Src_Table : G N_base_Src_Table = some fn_base_Src_Table := by kernel_rfl
theorem g_ref06_Grant : G N_ref06_Grant = some fn_ref06_Grant := by kernel_rfl
theorem g_ref06_Validate : G N_ref06_Validate = some fn_ref06_Validate := by kernel_rfl
theorem g_ref05_Validate : G N_ref05_Validate = some fn_ref05_Validate := by kernel_rfl
theorem g_ref05_sound : G N_ref05_sound = some fn_ref05_sound := by kernel_rfl
theorem g_ref05_index : G N_ref05_index = some fn_ref05_index := by kernel_rfl
theorem g_ref05_before : G N_ref05_before = some fn_ref05_before := by kernel_rfl
theorem g_ref06_find : G N_ref06_find = some fn_ref06_find := by kernel_rfl
theorem g_ref05_Push : G N_ref05_Push = some fn_ref05_Push := by kernel_rfl
theorem g_ref05_up : G N_ref05_up = some fn_ref05_up := by kernel_rfl
theorem g_ref05_swap : G N_ref05_swap = some fn_ref05_swap := by kernel_rfl
theorem g_stripe_Begin : G N_stripe_Begin = some fn_stripe_Begin := by kernel_rfl
theorem g_stripe_number : G N_stripe_number = some fn_stripe_number := by kernel_rfl
theorem g_ref11_Begin : G N_ref11_Begin = some fn_ref11_Begin := by kernel_rfl
theorem g_stripe_End : G N_stripe_End = some fn_stripe_End := by kernel_rfl
theorem g_shard_Validate : G N_shard_Validate = some fn_shard_Validate := by kernel_rfl
theorem g_ring_Validate : G N_ring_Validate = some fn_ring_Validate := by kernel_rfl
theorem g_ring_cell : G N_ring_cell = some fn_ring_cell := by kernel_rfl
theorem g_ring_list : G N_ring_list = some fn_ring_list := by kernel_rfl
theorem g_message_Validate : G N_message_Validate = some fn_message_Validate := by kernel_rfl
theorem g_message_in : G N_message_in = some fn_message_in := by kernel_rfl
theorem g_lease_Validate : G N_lease_Validate = some fn_lease_Validate := by kernel_rfl
theorem g_lease_time : G N_lease_time = some fn_lease_time := by kernel_rfl
theorem g_due_Validate : G N_due_Validate = some fn_due_Validate := by kernel_rfl
theorem g_slices_ContainsFunc_api_Due : G N_slices_ContainsFunc_api_Due = some fn_slices_ContainsFunc_api_Due := by kernel_rfl
theorem g_slices_IndexFunc_api_Due : G N_slices_IndexFunc_api_Due = some fn_slices_IndexFunc_api_Due := by kernel_rfl
theorem g_due_Validate_1 : G N_due_Validate_1 = some fn_due_Validate_1 := by kernel_rfl
theorem g_due_valid : G N_due_valid = some fn_due_valid := by kernel_rfl
theorem g_due_find : G N_due_find = some fn_due_find := by kernel_rfl
theorem g_due_find_1 : G N_due_find_1 = some fn_due_find_1 := by kernel_rfl
theorem g_due_before : G N_due_before = some fn_due_before := by kernel_rfl
theorem g_due_compare : G N_due_compare = some fn_due_compare := by kernel_rfl
theorem g_cmp_Compare_int : G N_cmp_Compare_int = some fn_cmp_Compare_int := by kernel_rfl
theorem g_cmp_isNaN_int : G N_cmp_isNaN_int = some fn_cmp_isNaN_int := by kernel_rfl
theorem g_cmp_Or_int : G N_cmp_Or_int = some fn_cmp_Or_int := by kernel_rfl
theorem g_lease_matches : G N_lease_matches = some fn_lease_matches := by kernel_rfl
theorem g_slices_Contains_api_Due : G N_slices_Contains_api_Due = some fn_slices_Contains_api_Due := by kernel_rfl
theorem g_slices_Index_api_Due : G N_slices_Index_api_Due = some fn_slices_Index_api_Due := by kernel_rfl
theorem g_shard_stored : G N_shard_stored = some fn_shard_stored := by kernel_rfl
theorem g_shard_spans : G N_shard_spans = some fn_shard_spans := by kernel_rfl
theorem g_shard_messages : G N_shard_messages = some fn_shard_messages := by kernel_rfl
theorem g_ring_List : G N_ring_List = some fn_ring_List := by kernel_rfl
theorem g_shard_in : G N_shard_in = some fn_shard_in := by kernel_rfl
theorem g_shard_Counts : G N_shard_Counts = some fn_shard_Counts := by kernel_rfl
theorem g_shard_isEpoch : G N_shard_isEpoch = some fn_shard_isEpoch := by kernel_rfl
theorem g_shard_isLimit : G N_shard_isLimit = some fn_shard_isLimit := by kernel_rfl
theorem g_shard_usable : G N_shard_usable = some fn_shard_usable := by kernel_rfl
theorem g_shard_live : G N_shard_live = some fn_shard_live := by kernel_rfl
theorem g_slices_Contains_bool : G N_slices_Contains_bool = some fn_slices_Contains_bool := by kernel_rfl
theorem g_slices_Index_bool : G N_slices_Index_bool = some fn_slices_Index_bool := by kernel_rfl
theorem g_message_Purged : G N_message_Purged = some fn_message_Purged := by kernel_rfl
theorem g_message_Spent : G N_message_Spent = some fn_message_Spent := by kernel_rfl
theorem g_ref11_End : G N_ref11_End = some fn_ref11_End := by kernel_rfl
theorem g_ref07_Validate : G N_ref07_Validate = some fn_ref07_Validate := by kernel_rfl
theorem g_ref07_span : G N_ref07_span = some fn_ref07_span := by kernel_rfl
theorem g_ref07_All : G N_ref07_All = some fn_ref07_All := by kernel_rfl
theorem g_ref07_Ready : G N_ref07_Ready = some fn_ref07_Ready := by kernel_rfl
theorem g_ref04_List : G N_ref04_List = some fn_ref04_List := by kernel_rfl
theorem g_ref07_Leased : G N_ref07_Leased = some fn_ref07_Leased := by kernel_rfl
theorem g_ref07_Counts : G N_ref07_Counts = some fn_ref07_Counts := by kernel_rfl
theorem g_ref07_Live : G N_ref07_Live = some fn_ref07_Live := by kernel_rfl
theorem g_ref07_epochs : G N_ref07_epochs = some fn_ref07_epochs := by kernel_rfl
theorem g_ref07_limits : G N_ref07_limits = some fn_ref07_limits := by kernel_rfl
theorem g_ref03_Purged : G N_ref03_Purged = some fn_ref03_Purged := by kernel_rfl
theorem g_ref03_Spent : G N_ref03_Spent = some fn_ref03_Spent := by kernel_rfl
theorem g_base_Src_Stripes : G N_base_Src_Stripes = some fn_base_Src_Stripes := by kernel_rfl
theorem g_stripe_Sum : G N_stripe_Sum = some fn_stripe_Sum := by kernel_rfl
theorem g_ref11_Sum : G N_ref11_Sum = some fn_ref11_Sum := by kernel_rfl
theorem g_ref11_counted : G N_ref11_counted = some fn_ref11_counted := by kernel_rfl
theorem g_stripe_Quiet : G N_stripe_Quiet = some fn_stripe_Quiet := by kernel_rfl
theorem g_slices_ContainsFunc_api_Stripe : G N_slices_ContainsFunc_api_Stripe = some fn_slices_ContainsFunc_api_Stripe := by kernel_rfl
theorem g_slices_IndexFunc_api_Stripe : G N_slices_IndexFunc_api_Stripe = some fn_slices_IndexFunc_api_Stripe := by kernel_rfl
theorem g_stripe_Quiet_1 : G N_stripe_Quiet_1 = some fn_stripe_Quiet_1 := by kernel_rfl
theorem g_ref11_Quiet : G N_ref11_Quiet = some fn_ref11_Quiet := by kernel_rfl
theorem g_stripe_Same : G N_stripe_Same = some fn_stripe_Same := by kernel_rfl
theorem g_slices_Equal_api_Stripe : G N_slices_Equal_api_Stripe = some fn_slices_Equal_api_Stripe := by kernel_rfl
theorem g_ref11_Same : G N_ref11_Same = some fn_ref11_Same := by kernel_rfl
theorem g_law11_awake : G N_law11_awake = some fn_law11_awake := by kernel_rfl
end Go.Proofs.YtmbnbjkdamalpaaGreat

namespace Go.Sim
variable {G : FuncId → Option AFn}
theorem loop_indP {T : Type} {ks : List Nat} {x : ACode} (μ : T → Nat) (inv : T → Prop) (st : T → St) (Q : T → Option (AExit × St) → Prop)
    (h : ∀ t, inv t → ∀ L : St → Option (AExit × St), (∀ t', inv t' → μ t' < μ t → Q t' (L (st t'))) → Q t ((exL G x (st t)).bind (loopF ks L))) : ∀ t, inv t → Q t (loopL G ks x (st t)) := by
  intro t
  generalize hk : μ t = k
  induction k using Nat.strongRecOn generalizing t with
  | ind k ih =>
    intro hi
    rw [loopL_eq]
    exact h t hi _ fun t' hi' hlt => ih (μ t') (by omega) t' rfl hi'
end Go.Sim

namespace Go.Sim
variable {G : FuncId → Option AFn}
theorem wr {x : Int} (h : -9223372036854775808 ≤ x ∧ x < 9223372036854775808) : IntKind.i64.wrap x = x := by
  rw [Go.IntWalk.i64_in _ (by omega)]
theorem wu64 {x : Int} (h : 0 ≤ x ∧ x < 18446744073709551616) : IntKind.u64.wrap x = x := by rw [Go.IntWalk.u64_in _ (by omega)]
theorem wu32 {x : Int} (h : 0 ≤ x ∧ x < 4294967296) : IntKind.u32.wrap x = x := by rw [Go.IntWalk.u32_in _ (by omega)]
theorem wu8 {x : Int} (h : 0 ≤ x ∧ x < 256) : IntKind.u8.wrap x = x := by rw [Go.IntWalk.u8_in _ (by omega)]
theorem tdivE {x y : Int} (h : 0 ≤ x) : x.tdiv y = x / y := Int.tdiv_eq_ediv_of_nonneg h
theorem tmodE {x y : Int} (h : 0 ≤ x) : x.tmod y = x % y := Int.tmod_eq_emod_of_nonneg h
theorem beqT {b : Bool} : (b == true) = b := by cases b <;> rfl
theorem beqF {b : Bool} : (b == false) = !b := by cases b <;> rfl
theorem ltT {a b : Int} (h : a < b) : (a < b) = True := eq_true h
theorem ltF {a b : Int} (h : b ≤ a) : (a < b) = False := eq_false (by omega)
theorem leT {a b : Int} (h : a ≤ b) : (a ≤ b) = True := eq_true h
theorem leF {a b : Int} (h : b < a) : (a ≤ b) = False := eq_false (by omega)
theorem eqT {a b : Int} (h : a = b) : (a = b) = True := eq_true h
theorem eqF {a b : Int} (h : ¬ a = b) : (a = b) = False := eq_false h
theorem nltT {a b : Nat} (h : a < b) : (a < b) = True := eq_true h
theorem nltF {a b : Nat} (h : b ≤ a) : (a < b) = False := eq_false (by omega)
theorem nleT {a b : Nat} (h : a ≤ b) : (a ≤ b) = True := eq_true h
theorem nleF {a b : Nat} (h : b < a) : (a ≤ b) = False := eq_false (by omega)
theorem neqT {a b : Nat} (h : a = b) : (a = b) = True := eq_true h
theorem neqF {a b : Nat} (h : ¬ a = b) : (a = b) = False := eq_false h
theorem lenLtT {α : Type} {l : List α} {a : Nat} (h : a < l.length) : (a < l.length) = True := eq_true h
theorem lenLtF {α : Type} {l : List α} {a : Nat} (h : l.length ≤ a) : (a < l.length) = False := eq_false (by omega)
theorem lenLeT {α : Type} {l : List α} {c : Nat} (h : l.length ≤ c) : (l.length ≤ c) = True := eq_true h
theorem addLeT {a b c : Nat} (h : a + b ≤ c) : (a + b ≤ c) = True := eq_true h
theorem lenEqT {α : Type} {l : List α} {c : Nat} (h : l.length = c) : (l.length = c) = True := eq_true h
theorem lim_eq : LIM = 4294967296 := rfl
theorem mapGet {α β : Type} {f : α → β} {l : List α} {k : Nat} (h : k < l.length) : (l.map f)[k]? = some (f (l[k]'h)) := by
  rw [List.getElem?_map, List.getElem?_eq_getElem h]; rfl
theorem toNat_add1 {k : Nat} : ((k : Int) + 1).toNat = k + 1 := by omega
theorem cast_add1 {k : Nat} : ((k : Int) + 1) = ((k + 1 : Nat) : Int) := by omega
def itR {σ : Type} (stp : Nat → σ → (AExit × St) ⊕ σ) (fin : σ → AExit × St) : Nat → Nat → σ → AExit × St
  | _, 0, s => fin s
  | k, m + 1, s => match stp k s with | .inl r => r | .inr s' => itR stp fin (k + 1) m s'
theorem loop_it {σ : Type} {ks : List Nat} {x : ACode} (n : Nat) (st : Nat → σ → St) (inv : Nat → σ → Prop) (stp : Nat → σ → (AExit × St) ⊕ σ) (fin : σ → AExit × St)
    (h : ∀ k s, k ≤ n → inv k s → ∀ L : St → Option (AExit × St), (exL G x (st k s)).bind (loopF ks L) = if k < n then (match stp k s with | .inl r => some r | .inr s' => L (st (k + 1) s')) else some (fin s))
    (hi : ∀ k s s', k < n → inv k s → stp k s = .inr s' → inv (k + 1) s') : ∀ k s, k ≤ n → inv k s → loopL G ks x (st k s) = some (itR stp fin k (n - k) s) := by
  intro k s
  generalize hm : n - k = m
  induction m generalizing k s with
  | zero =>
    intro h1 h2
    rw [loopL_eq, h k s h1 h2, if_neg (by omega)]
    rfl
  | succ m ih =>
    intro h1 h2
    rw [loopL_eq, h k s h1 h2, if_pos (by omega)]
    simp only [itR]
    cases he : stp k s with
    | inl r => rfl
    | inr s' => exact ih (k + 1) s' (by omega) (by omega) (hi k s s' (by omega) h2 he)
theorem loop_all {ks : List Nat} {x : ACode} (n : Nat) (p : Nat → Bool) (st : Nat → St) (R fin : AExit × St)
    (h : ∀ k, k ≤ n → ∀ L : St → Option (AExit × St), (exL G x (st k)).bind (loopF ks L) = if k < n then (if p k = true then L (st (k + 1)) else some R) else some fin) :
    loopL G ks x (st 0) = some (if (List.range n).all p = true then fin else R) := by
  have key : ∀ m k, k + m = n → loopL G ks x (st k) = some (if ((List.range' k m).all p) = true then fin else R) := by
    intro m
    induction m with
    | zero =>
      intro k hk
      rw [loopL_eq, h k (by omega), if_neg (by omega)]
      rfl
    | succ m ih =>
      intro k hk
      rw [loopL_eq, h k (by omega), if_pos (by omega), List.range'_succ, List.all_cons, ih (k + 1) (by omega)]
      cases p k <;> rfl
  have := key n 0 (by omega)
  rwa [← List.range_eq_range'] at this
theorem all_eq {α : Type} [DecidableEq α] {a b : List α} (h : a.length = b.length) : ((List.range a.length).all fun k => decide (a[k]? = b[k]?)) = decide (a = b) := by
  by_cases e : a = b
  · subst e; simp
  · rw [decide_eq_false e]
    apply Bool.eq_false_iff.2
    intro hh
    apply e
    rw [List.all_eq_true] at hh
    apply List.ext_getElem?
    intro k
    by_cases hk : k < a.length
    · simpa using hh k (List.mem_range.2 hk)
    · rw [List.getElem?_eq_none (by omega), List.getElem?_eq_none (by omega)]
theorem get_eq {α : Type} [DecidableEq α] {a b : List α} {k : Nat} (ha : k < a.length) (hb : k < b.length) : decide (a[k]? = b[k]?) = decide (a[k] = b[k]) := by
  rw [List.getElem?_eq_getElem ha, List.getElem?_eq_getElem hb]; simp
def findR {α : Type} (n : Nat) (p : Nat → Bool) (R : Nat → α) (fin : α) : α := match (List.range n).find? p with | some k => R k | none => fin
theorem loop_find {ks : List Nat} {x : ACode} (n : Nat) (p : Nat → Bool) (st : Nat → St) (R : Nat → AExit × St) (fin : AExit × St)
    (h : ∀ k, k ≤ n → ∀ L : St → Option (AExit × St), (exL G x (st k)).bind (loopF ks L) = if k < n then (if p k = true then some (R k) else L (st (k + 1))) else some fin) :
    loopL G ks x (st 0) = some (findR n p R fin) := by
  have key : ∀ m k, k + m = n → loopL G ks x (st k) = some (match (List.range' k m).find? p with | some k => R k | none => fin) := by
    intro m
    induction m with
    | zero =>
      intro k hk
      rw [loopL_eq, h k (by omega), if_neg (by omega)]
      rfl
    | succ m ih =>
      intro k hk
      rw [loopL_eq, h k (by omega), if_pos (by omega), List.range'_succ, List.find?_cons, ih (k + 1) (by omega)]
      cases p k <;> rfl
  have := key n 0 (by omega)
  rwa [← List.range_eq_range'] at this
def idxI {α : Type} (p : α → Bool) (es : List α) : Int := match es.findIdx? p with | some i => i | none => -1
def atB {α : Type} (l : List α) (p : α → Bool) (k : Nat) : Bool := match l[k]? with | some a => p a | none => false
theorem find_range {α : Type} (l : List α) (p : α → Bool) : (List.range l.length).find? (atB l p) = l.findIdx? p := by
  have key : ∀ (m k : Nat), k + m = l.length → (List.range' k m).find? (atB l p) = ((l.drop k).findIdx? p).map (k + ·) := by
    intro m
    induction m with
    | zero => intro k hk; rw [List.drop_of_length_le (by omega)]; rfl
    | succ m ih =>
      intro k hk
      rw [List.range'_succ, List.find?_cons, List.drop_eq_getElem_cons (show k < l.length by omega), List.findIdx?_cons, ih (k + 1) (by omega)]
      have : atB l p k = p (l[k]'(by omega)) := by unfold atB; rw [List.getElem?_eq_getElem (by omega)]
      rw [this]
      cases p (l[k]'(by omega)) with
      | true => simp
      | false =>
        cases (l.drop (k + 1)).findIdx? p with
        | none => rfl
        | some i => simp; omega
  have := key l.length 0 (by omega)
  rw [← List.range_eq_range'] at this
  rw [this, List.drop_zero]
  cases l.findIdx? p <;> simp only [Option.map_none, Option.map_some, Nat.zero_add]
theorem atB_at {α : Type} {l : List α} {p : α → Bool} {k : Nat} (h : k < l.length) : atB l p k = p l[k] := by
  unfold atB; rw [List.getElem?_eq_getElem h]
theorem findR_idx {α β : Type} (l : List α) (p : α → Bool) (R : Nat → β) (fin : β) : findR l.length (atB l p) R fin = match l.findIdx? p with | some k => R k | none => fin := by
  unfold findR; rw [find_range]
theorem idxI_any {α : Type} (l : List α) (p : α → Bool) : decide (0 ≤ idxI p l) = l.any p := by
  unfold idxI
  cases h : l.findIdx? p with
  | none => simp at h; simpa using h
  | some i =>
    have := List.findIdx?_eq_some_iff_getElem.1 h
    simp
    exact ⟨_, List.getElem_mem this.1, this.2.1⟩
theorem idxI_lt {α : Type} (l : List α) (p : α → Bool) : -1 ≤ idxI p l ∧ idxI p l < l.length := by
  unfold idxI
  cases e : l.findIdx? p with
  | none => simp only; omega
  | some i => have := (List.findIdx?_eq_some_iff_getElem.1 e).1; simp only; omega
theorem idxI_some {α : Type} {l : List α} {p : α → Bool} {i : Nat} (h : idxI p l = i) : ∃ hi : i < l.length, p (l[i]) = true ∧ ∀ j (hj : j < i), p (l[j]'(by omega)) = false := by
  unfold idxI at h
  cases e : l.findIdx? p with
  | none => rw [e] at h; simp only at h; omega
  | some k =>
    rw [e] at h
    simp only at h
    obtain rfl : k = i := by omega
    obtain ⟨h1, h2, h3⟩ := List.findIdx?_eq_some_iff_getElem.1 e
    exact ⟨h1, h2, fun j hj => by have := h3 j hj; simpa using this⟩
theorem idxI_neg {α : Type} (l : List α) (p : α → Bool) : idxI p l < 0 ↔ ∀ a ∈ l, p a = false := by
  have := idxI_any l p
  have h2 : l.any p = false ↔ ∀ a ∈ l, p a = false := by simp
  rw [← h2, ← this]
  simp
theorem idxI_m1 {α : Type} (l : List α) (p : α → Bool) : idxI p l < 0 ↔ idxI p l = -1 := by have := idxI_lt l p; omega
end Go.Sim

namespace Go.Sim
theorem getDT {α : Type} {l : List α} {k : Nat} {d : α} (h : k < l.length) : l.getD k d = l[k]'h := by
  rw [List.getD_eq_getElem?_getD, List.getElem?_eq_getElem h]; rfl
theorem getQT {α : Type} {l : List α} {k : Nat} (h : k < l.length) : l[k]? = some (l[k]'h) := List.getElem?_eq_getElem h
theorem takeT {α : Type} {l : List α} {k : Nat} (h : l.length ≤ k) : l.take k = l := List.take_of_length_le h
theorem setMap {α β : Type} {f : α → β} {l : List α} {k : Nat} {x : α} : (l.map f).set k (f x) = (l.set k x).map f := by rw [List.map_set]
theorem mapGet2 {α β γ : Type} {f : α → β} {g : β → γ} {l : List α} {k : Nat} (h : k < l.length) : ((l.map f).map g)[k]? = some (g (f (l[k]'h))) := by
  rw [List.map_map, List.getElem?_map, List.getElem?_eq_getElem h]; rfl
theorem lenSet {α : Type} {l : List α} {k : Nat} {x : α} : (l.set k x).length = l.length := List.length_set
theorem setGetEq {α : Type} {l : List α} {k : Nat} {x : α} (h : k < l.length) : (l.set k x)[k]? = some x := by rw [List.getElem?_set_self h]
theorem mapSet {α : Type} {f : α → D} {l : List α} {k : Nat} {x : α} : (l.set k x).map f = (l.map f).set k (f x) := by rw [List.map_set]
theorem setD {ds : List D} {k : Nat} {x : D} : (ds.map AV.d).set k (.d x) = (ds.set k x).map AV.d := by rw [List.map_set]
theorem iteC {α : Type} {c : Prop} [Decidable c] {A B r : α} (h1 : c → A = r) (h2 : ¬ c → B = r) : (if c then A else B) = r := by split <;> simp_all
end Go.Sim

namespace Go.Sim
theorem takeMapD {ds : List D} {n : Nat} : (ds.map AV.d).take n = (ds.take n).map AV.d := by rw [List.map_take]
theorem dropMapD {ds : List D} {n : Nat} : (ds.map AV.d).drop n = (ds.drop n).map AV.d := by rw [List.map_drop]
theorem takeSetM {α : Type} {f : α → D} {l : List α} {n k : Nat} {x : D} (h : l.length ≤ n) : ((l.map f).set k x).take n = (l.map f).set k x := List.take_of_length_le (by simpa using h)
theorem takeM {α : Type} {f : α → D} {l : List α} {n : Nat} (h : l.length ≤ n) : (l.map f).take n = l.map f := List.take_of_length_le (by simpa using h)
theorem refsLd {o : Nat} {ds : List D} : AV.refsL o (ds.map .d) = false := refsL_d
theorem iteR {α : Type} {c : Prop} [Decidable c] {A B r : α} (h1 : c → r = A) (h2 : ¬ c → r = B) : r = if c then A else B := by split <;> simp_all
end Go.Sim

namespace Go.Sim
attribute [go_sem ↓] reduceIte
attribute [go_sem] reduceCtorEq Nat.reduceEqDiff Nat.reduceAdd Nat.reduceBEq Nat.reduceMul Nat.reduceLeDiff Nat.reduceSub Nat.reduceLT Nat.reduceDiv Nat.reduceMod List.reduceReplicate Int.reduceEq Int.reduceLT Int.reduceLE Int.reduceAdd Int.reduceSub Int.reduceMul Int.reduceNeg Int.reduceToNat
attribute [go_sem] toNat_add1 takeMapD dropMapD takeSetM takeM lenSet mapSet setD mapGet2 wr or_self or_false false_or true_or or_true false_and and_false Int.natCast_mul Int.cast_ofNat_Int Int.natCast_zero List.length_append lim_eq wu64 wu32 wu8 Bool.true_beq Bool.false_beq beqT beqF Int.natCast_add Int.natCast_one ltT ltF leT leF eqT eqF lenLtT lenLtF lenLeT addLeT lenEqT mapGet Int.toNat_natCast Int.natCast_nonneg List.length_map
theorem pA {a b : Bool} : ((a || b) = true) = (a = true ∨ b = true) := Bool.or_eq_true a b
theorem pB {a b : Bool} : ((a && b) = true) = (a = true ∧ b = true) := Bool.and_eq_true a b
theorem pC {p : Prop} [Decidable p] : (decide p = true) = p := decide_eq_true_eq
theorem pD {a : Bool} : ((!a) = true) = (a = false) := Bool.not_eq_true' a
theorem pE {p : Prop} [Decidable p] : (decide p = false) = ¬ p := by simp
theorem pF {p q : Prop} : (¬ (p ∨ q)) = (¬ p ∧ ¬ q) := by simp
theorem pG {a b : Int} : (¬ a < b) = (b ≤ a) := by simp
theorem pH {a b : Int} : (¬ a ≤ b) = (b < a) := by simp
theorem pI {a b : Nat} : (¬ a < b) = (b ≤ a) := by simp
theorem pJ {a b : Nat} : (¬ a ≤ b) = (b < a) := by simp
theorem pK {a b : Bool} : ((a || b) = false) = (a = false ∧ b = false) := by simp
theorem pL {a b : Bool} : ((a && b) = false) = (a = false ∨ b = false) := by cases a <;> cases b <;> simp
theorem pM {a : Bool} : ((!a) = false) = (a = true) := by simp
theorem pN : (true = false) = False := by simp
theorem pO : (false = true) = False := by simp
theorem pP {p : Prop} : (¬ ¬ p) = p := by simp
end Go.Sim
