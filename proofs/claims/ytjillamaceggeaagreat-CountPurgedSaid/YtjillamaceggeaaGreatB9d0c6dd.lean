/-
  The table of functions.
  Numbers, as walks need them, and counted loops.
  More facts about lists, in the forms that walks take.
  Lists that are set or cut, in the forms that walks take.
  The rewriting set of walks, whole.
-/
import Derived.Test.YtjillamaceggeaaGreatB92cef54
import Derived.KernelRfl
import Derived.Test.YtjillamaceggeaaGreatB45c6e07
import Derived.IntWalk
set_option linter.unusedSimpArgs false
set_option linter.unusedVariables false
namespace Go.Proofs.YtjillamaceggeaaGreat
open Go Go.Sim
def tab : List (Nat × AFn) := [(N_law22_CountPurged, fn_law22_CountPurged), (N_base_Two, fn_base_Two), (N_base_Loaded, fn_base_Loaded), (N_ref30_New, fn_ref30_New), (N_ref12_New, fn_ref12_New), (N_ref12_in, fn_ref12_in), (N_ref10_New, fn_ref10_New), (N_ref07_Free, fn_ref07_Free), (N_ref04_New, fn_ref04_New), (N_ref07_New, fn_ref07_New), (N_ref07_span, fn_ref07_span), (N_ref08_New, fn_ref08_New), (N_ref30_Invoke, fn_ref30_Invoke), (N_ref30_Open, fn_ref30_Open), (N_ref17_Start, fn_ref17_Start), (N_ref17_Validate, fn_ref17_Validate), (N_ref17_in, fn_ref17_in), (N_ref30_Finish, fn_ref30_Finish), (N_ref30_Bound, fn_ref30_Bound), (N_ref17_Entries, fn_ref17_Entries), (N_ref30_step, fn_ref30_step), (N_ref29_Step, fn_ref29_Step), (N_ref18_Fail, fn_ref18_Fail), (N_ref18_Step, fn_ref18_Step), (N_ref18_Guard, fn_ref18_Guard), (N_ref12_Load, fn_ref12_Load), (N_ref18_Event, fn_ref18_Event), (N_ref17_Next, fn_ref17_Next), (N_ref12_CAS, fn_ref12_CAS), (N_ref02_Route, fn_ref02_Route), (N_ref01_Put, fn_ref01_Put), (N_ref02_Sum, fn_ref02_Sum), (N_ref16_Begin, fn_ref16_Begin), (N_ref18_Look, fn_ref18_Look), (N_ref12_LoadDir, fn_ref12_LoadDir), (N_ref10_Owner, fn_ref10_Owner), (N_ref10_Validate, fn_ref10_Validate), (N_ref10_index, fn_ref10_index), (N_ref18_Section, fn_ref18_Section), (N_ref15_New, fn_ref15_New), (N_ref13_New, fn_ref13_New), (N_ref18_Go, fn_ref18_Go), (N_ref15_Step, fn_ref15_Step), (N_ref15_step, fn_ref15_step), (N_ref13_Step, fn_ref13_Step), (N_ref12_TryLock, fn_ref12_TryLock), (N_ref12_task, fn_ref12_task), (N_ref12_Owner, fn_ref12_Owner), (N_ref12_own, fn_ref12_own), (N_ref12_Unlock, fn_ref12_Unlock), (N_ref15_enter, fn_ref15_enter), (N_ref15_slots, fn_ref15_slots), (N_ref15_mark, fn_ref15_mark), (N_ref12_LoadStripe, fn_ref12_LoadStripe), (N_ref12_slot, fn_ref12_slot), (N_ref11_Begin, fn_ref11_Begin), (N_ref12_StoreStripe, fn_ref12_StoreStripe), (N_ref12_storable, fn_ref12_storable), (N_ref15_load, fn_ref15_load), (N_ref12_LoadDead, fn_ref12_LoadDead), (N_ref12_LoadSlot, fn_ref12_LoadSlot), (N_ref14_Step, fn_ref14_Step), (N_ref15_store, fn_ref15_store), (N_ref12_StoreDead, fn_ref12_StoreDead), (N_ref03_Validate, fn_ref03_Validate), (N_ref03_in, fn_ref03_in), (N_ref03_Index, fn_ref03_Index), (N_ref12_StoreSlot, fn_ref12_StoreSlot), (N_ref07_Validate, fn_ref07_Validate), (N_ref04_Validate, fn_ref04_Validate), (N_ref04_order, fn_ref04_order), (N_ref06_Validate, fn_ref06_Validate), (N_ref05_Validate, fn_ref05_Validate), (N_ref07_All, fn_ref07_All), (N_ref07_Ready, fn_ref07_Ready), (N_ref04_List, fn_ref04_List), (N_ref07_Leased, fn_ref07_Leased), (N_ref15_unmarking, fn_ref15_unmarking), (N_ref15_freeing, fn_ref15_freeing), (N_ref13_Free, fn_ref13_Free), (N_ref15_edit, fn_ref15_edit), (N_ref15_unmark, fn_ref15_unmark), (N_ref15_Stored, fn_ref15_Stored), (N_ref11_End, fn_ref11_End), (N_ref07_Counts, fn_ref07_Counts), (N_ref07_Live, fn_ref07_Live), (N_ref07_epochs, fn_ref07_epochs), (N_ref07_limits, fn_ref07_limits), (N_ref03_Purged, fn_ref03_Purged), (N_ref03_Spent, fn_ref03_Spent), (N_ref18_decide, fn_ref18_decide), (N_ref15_Unchanged, fn_ref15_Unchanged), (N_ref07_Owns, fn_ref07_Owns), (N_ref18_Decide, fn_ref18_Decide), (N_ref15_Decide, fn_ref15_Decide), (N_ref18_Snapped, fn_ref18_Snapped), (N_ref07_Stored, fn_ref07_Stored), (N_ref16_Advance, fn_ref16_Advance), (N_ref16_Over, fn_ref16_Over), (N_ref02_Into, fn_ref02_Into), (N_ref03_New, fn_ref03_New), (N_ref07_Put, fn_ref07_Put), (N_ref04_PushBack, fn_ref04_PushBack), (N_ref04_pushable, fn_ref04_pushable), (N_ref04_with, fn_ref04_with), (N_ref19_Step, fn_ref19_Step), (N_ref20_Step, fn_ref20_Step), (N_ref21_Step, fn_ref21_Step), (N_ref22_Step, fn_ref22_Step), (N_ref23_Step, fn_ref23_Step), (N_ref24_Step, fn_ref24_Step), (N_ref25_Step, fn_ref25_Step), (N_ref26_Step, fn_ref26_Step), (N_ref27_Step, fn_ref27_Step), (N_ref28_Step, fn_ref28_Step), (N_law22_run, fn_law22_run), (N_count_Step, fn_count_Step), (N_count_ready, fn_count_ready), (N_arena_Load, fn_arena_Load), (N_count_first, fn_count_first), (N_count_next, fn_count_next), (N_arena_LoadStripe, fn_arena_LoadStripe), (N_stripe_Quiet, fn_stripe_Quiet), (N_slices_ContainsFunc_api_Stripe, fn_slices_ContainsFunc_api_Stripe), (N_slices_IndexFunc_api_Stripe, fn_slices_IndexFunc_api_Stripe), (N_stripe_Quiet_1, fn_stripe_Quiet_1), (N_count_second, fn_count_second), (N_stripe_Same, fn_stripe_Same), (N_slices_Equal_api_Stripe, fn_slices_Equal_api_Stripe), (N_count_sum, fn_count_sum), (N_stripe_Sum, fn_stripe_Sum), (N_stripe_number, fn_stripe_number), (N_batch_Next, fn_batch_Next), (N_slices_Clip_api_Result, fn_slices_Clip_api_Result), (N_batch_Entries, fn_batch_Entries), (N_law22_awake, fn_law22_awake)]
def G : FuncId → Option AFn := fun f => Go.Sim.look f tab
theorem g_law22_CountPurged : G N_law22_CountPurged = some fn_law22_CountPurged := by kernel_rfl
theorem g_base_Two : G N_base_Two = some fn_base_Two := by kernel_rfl
theorem g_base_Loaded : G N_base_Loaded = some fn_base_Loaded := by kernel_rfl
theorem g_ref30_New : G N_ref30_New = some fn_ref30_New := by kernel_rfl
theorem g_ref12_New : G N_ref12_New = some fn_ref12_New := by kernel_rfl
theorem g_ref12_in : G N_ref12_in = some fn_ref12_in := by kernel_rfl
theorem g_ref10_New : G N_ref10_New = some fn_ref10_New := by kernel_rfl
theorem g_ref07_Free : G N_ref07_Free = some fn_ref07_Free := by kernel_rfl
theorem g_ref04_New : G N_ref04_New = some fn_ref04_New := by kernel_rfl
theorem g_ref07_New : G N_ref07_New = some fn_ref07_New := by kernel_rfl
theorem g_ref07_span : G N_ref07_span = some fn_ref07_span := by kernel_rfl
theorem g_ref08_New : G N_ref08_New = some fn_ref08_New := by kernel_rfl
theorem g_ref30_Invoke : G N_ref30_Invoke = some fn_ref30_Invoke := by kernel_rfl
theorem g_ref30_Open : G N_ref30_Open = some fn_ref30_Open := by kernel_rfl
theorem g_ref17_Start : G N_ref17_Start = some fn_ref17_Start := by kernel_rfl
theorem g_ref17_Validate : G N_ref17_Validate = some fn_ref17_Validate := by kernel_rfl
theorem g_ref17_in : G N_ref17_in = some fn_ref17_in := by kernel_rfl
theorem g_ref30_Finish : G N_ref30_Finish = some fn_ref30_Finish := by kernel_rfl
theorem g_ref30_Bound : G N_ref30_Bound = some fn_ref30_Bound := by kernel_rfl
theorem g_ref17_Entries : G N_ref17_Entries = some fn_ref17_Entries := by kernel_rfl
theorem g_ref30_step : G N_ref30_step = some fn_ref30_step := by kernel_rfl
theorem g_ref29_Step : G N_ref29_Step = some fn_ref29_Step := by kernel_rfl
theorem g_ref18_Fail : G N_ref18_Fail = some fn_ref18_Fail := by kernel_rfl
theorem g_ref18_Step : G N_ref18_Step = some fn_ref18_Step := by kernel_rfl
theorem g_ref18_Guard : G N_ref18_Guard = some fn_ref18_Guard := by kernel_rfl
theorem g_ref12_Load : G N_ref12_Load = some fn_ref12_Load := by kernel_rfl
theorem g_ref18_Event : G N_ref18_Event = some fn_ref18_Event := by kernel_rfl
theorem g_ref17_Next : G N_ref17_Next = some fn_ref17_Next := by kernel_rfl
theorem g_ref12_CAS : G N_ref12_CAS = some fn_ref12_CAS := by kernel_rfl
theorem g_ref02_Route : G N_ref02_Route = some fn_ref02_Route := by kernel_rfl
theorem g_ref01_Put : G N_ref01_Put = some fn_ref01_Put := by kernel_rfl
theorem g_ref02_Sum : G N_ref02_Sum = some fn_ref02_Sum := by kernel_rfl
theorem g_ref16_Begin : G N_ref16_Begin = some fn_ref16_Begin := by kernel_rfl
theorem g_ref18_Look : G N_ref18_Look = some fn_ref18_Look := by kernel_rfl
theorem g_ref12_LoadDir : G N_ref12_LoadDir = some fn_ref12_LoadDir := by kernel_rfl
theorem g_ref10_Owner : G N_ref10_Owner = some fn_ref10_Owner := by kernel_rfl
theorem g_ref10_Validate : G N_ref10_Validate = some fn_ref10_Validate := by kernel_rfl
theorem g_ref10_index : G N_ref10_index = some fn_ref10_index := by kernel_rfl
theorem g_ref18_Section : G N_ref18_Section = some fn_ref18_Section := by kernel_rfl
theorem g_ref15_New : G N_ref15_New = some fn_ref15_New := by kernel_rfl
theorem g_ref13_New : G N_ref13_New = some fn_ref13_New := by kernel_rfl
theorem g_ref18_Go : G N_ref18_Go = some fn_ref18_Go := by kernel_rfl
theorem g_ref15_Step : G N_ref15_Step = some fn_ref15_Step := by kernel_rfl
theorem g_ref15_step : G N_ref15_step = some fn_ref15_step := by kernel_rfl
theorem g_ref13_Step : G N_ref13_Step = some fn_ref13_Step := by kernel_rfl
theorem g_ref12_TryLock : G N_ref12_TryLock = some fn_ref12_TryLock := by kernel_rfl
theorem g_ref12_task : G N_ref12_task = some fn_ref12_task := by kernel_rfl
theorem g_ref12_Owner : G N_ref12_Owner = some fn_ref12_Owner := by kernel_rfl
theorem g_ref12_own : G N_ref12_own = some fn_ref12_own := by kernel_rfl
theorem g_ref12_Unlock : G N_ref12_Unlock = some fn_ref12_Unlock := by kernel_rfl
theorem g_ref15_enter : G N_ref15_enter = some fn_ref15_enter := by kernel_rfl
theorem g_ref15_slots : G N_ref15_slots = some fn_ref15_slots := by kernel_rfl
theorem g_ref15_mark : G N_ref15_mark = some fn_ref15_mark := by kernel_rfl
theorem g_ref12_LoadStripe : G N_ref12_LoadStripe = some fn_ref12_LoadStripe := by kernel_rfl
theorem g_ref12_slot : G N_ref12_slot = some fn_ref12_slot := by kernel_rfl
theorem g_ref11_Begin : G N_ref11_Begin = some fn_ref11_Begin := by kernel_rfl
theorem g_ref12_StoreStripe : G N_ref12_StoreStripe = some fn_ref12_StoreStripe := by kernel_rfl
theorem g_ref12_storable : G N_ref12_storable = some fn_ref12_storable := by kernel_rfl
theorem g_ref15_load : G N_ref15_load = some fn_ref15_load := by kernel_rfl
theorem g_ref12_LoadDead : G N_ref12_LoadDead = some fn_ref12_LoadDead := by kernel_rfl
theorem g_ref12_LoadSlot : G N_ref12_LoadSlot = some fn_ref12_LoadSlot := by kernel_rfl
theorem g_ref14_Step : G N_ref14_Step = some fn_ref14_Step := by kernel_rfl
theorem g_ref15_store : G N_ref15_store = some fn_ref15_store := by kernel_rfl
theorem g_ref12_StoreDead : G N_ref12_StoreDead = some fn_ref12_StoreDead := by kernel_rfl
theorem g_ref03_Validate : G N_ref03_Validate = some fn_ref03_Validate := by kernel_rfl
theorem g_ref03_in : G N_ref03_in = some fn_ref03_in := by kernel_rfl
theorem g_ref03_Index : G N_ref03_Index = some fn_ref03_Index := by kernel_rfl
theorem g_ref12_StoreSlot : G N_ref12_StoreSlot = some fn_ref12_StoreSlot := by kernel_rfl
theorem g_ref07_Validate : G N_ref07_Validate = some fn_ref07_Validate := by kernel_rfl
theorem g_ref04_Validate : G N_ref04_Validate = some fn_ref04_Validate := by kernel_rfl
theorem g_ref04_order : G N_ref04_order = some fn_ref04_order := by kernel_rfl
theorem g_ref06_Validate : G N_ref06_Validate = some fn_ref06_Validate := by kernel_rfl
theorem g_ref05_Validate : G N_ref05_Validate = some fn_ref05_Validate := by kernel_rfl
theorem g_ref07_All : G N_ref07_All = some fn_ref07_All := by kernel_rfl
theorem g_ref07_Ready : G N_ref07_Ready = some fn_ref07_Ready := by kernel_rfl
theorem g_ref04_List : G N_ref04_List = some fn_ref04_List := by kernel_rfl
theorem g_ref07_Leased : G N_ref07_Leased = some fn_ref07_Leased := by kernel_rfl
theorem g_ref15_unmarking : G N_ref15_unmarking = some fn_ref15_unmarking := by kernel_rfl
theorem g_ref15_freeing : G N_ref15_freeing = some fn_ref15_freeing := by kernel_rfl
theorem g_ref13_Free : G N_ref13_Free = some fn_ref13_Free := by kernel_rfl
theorem g_ref15_edit : G N_ref15_edit = some fn_ref15_edit := by kernel_rfl
theorem g_ref15_unmark : G N_ref15_unmark = some fn_ref15_unmark := by kernel_rfl
theorem g_ref15_Stored : G N_ref15_Stored = some fn_ref15_Stored := by kernel_rfl
theorem g_ref11_End : G N_ref11_End = some fn_ref11_End := by kernel_rfl
theorem g_ref07_Counts : G N_ref07_Counts = some fn_ref07_Counts := by kernel_rfl
theorem g_ref07_Live : G N_ref07_Live = some fn_ref07_Live := by kernel_rfl
theorem g_ref07_epochs : G N_ref07_epochs = some fn_ref07_epochs := by kernel_rfl
theorem g_ref07_limits : G N_ref07_limits = some fn_ref07_limits := by kernel_rfl
theorem g_ref03_Purged : G N_ref03_Purged = some fn_ref03_Purged := by kernel_rfl
theorem g_ref03_Spent : G N_ref03_Spent = some fn_ref03_Spent := by kernel_rfl
theorem g_ref18_decide : G N_ref18_decide = some fn_ref18_decide := by kernel_rfl
theorem g_ref15_Unchanged : G N_ref15_Unchanged = some fn_ref15_Unchanged := by kernel_rfl
theorem g_ref07_Owns : G N_ref07_Owns = some fn_ref07_Owns := by kernel_rfl
theorem g_ref18_Decide : G N_ref18_Decide = some fn_ref18_Decide := by kernel_rfl
theorem g_ref15_Decide : G N_ref15_Decide = some fn_ref15_Decide := by kernel_rfl
theorem g_ref18_Snapped : G N_ref18_Snapped = some fn_ref18_Snapped := by kernel_rfl
theorem g_ref07_Stored : G N_ref07_Stored = some fn_ref07_Stored := by kernel_rfl
theorem g_ref16_Advance : G N_ref16_Advance = some fn_ref16_Advance := by kernel_rfl
theorem g_ref16_Over : G N_ref16_Over = some fn_ref16_Over := by kernel_rfl
theorem g_ref02_Into : G N_ref02_Into = some fn_ref02_Into := by kernel_rfl
theorem g_ref03_New : G N_ref03_New = some fn_ref03_New := by kernel_rfl
theorem g_ref07_Put : G N_ref07_Put = some fn_ref07_Put := by kernel_rfl
theorem g_ref04_PushBack : G N_ref04_PushBack = some fn_ref04_PushBack := by kernel_rfl
theorem g_ref04_pushable : G N_ref04_pushable = some fn_ref04_pushable := by kernel_rfl
theorem g_ref04_with : G N_ref04_with = some fn_ref04_with := by kernel_rfl
theorem g_ref19_Step : G N_ref19_Step = some fn_ref19_Step := by kernel_rfl
theorem g_ref20_Step : G N_ref20_Step = some fn_ref20_Step := by kernel_rfl
theorem g_ref21_Step : G N_ref21_Step = some fn_ref21_Step := by kernel_rfl
theorem g_ref22_Step : G N_ref22_Step = some fn_ref22_Step := by kernel_rfl
theorem g_ref23_Step : G N_ref23_Step = some fn_ref23_Step := by kernel_rfl
theorem g_ref24_Step : G N_ref24_Step = some fn_ref24_Step := by kernel_rfl
theorem g_ref25_Step : G N_ref25_Step = some fn_ref25_Step := by kernel_rfl
theorem g_ref26_Step : G N_ref26_Step = some fn_ref26_Step := by kernel_rfl
theorem g_ref27_Step : G N_ref27_Step = some fn_ref27_Step := by kernel_rfl
theorem g_ref28_Step : G N_ref28_Step = some fn_ref28_Step := by kernel_rfl
theorem g_law22_run : G N_law22_run = some fn_law22_run := by kernel_rfl
theorem g_count_Step : G N_count_Step = some fn_count_Step := by kernel_rfl
theorem g_count_ready : G N_count_ready = some fn_count_ready := by kernel_rfl
theorem g_arena_Load : G N_arena_Load = some fn_arena_Load := by kernel_rfl
theorem g_count_first : G N_count_first = some fn_count_first := by kernel_rfl
theorem g_count_next : G N_count_next = some fn_count_next := by kernel_rfl
theorem g_arena_LoadStripe : G N_arena_LoadStripe = some fn_arena_LoadStripe := by kernel_rfl
theorem g_stripe_Quiet : G N_stripe_Quiet = some fn_stripe_Quiet := by kernel_rfl
theorem g_slices_ContainsFunc_api_Stripe : G N_slices_ContainsFunc_api_Stripe = some fn_slices_ContainsFunc_api_Stripe := by kernel_rfl
theorem g_slices_IndexFunc_api_Stripe : G N_slices_IndexFunc_api_Stripe = some fn_slices_IndexFunc_api_Stripe := by kernel_rfl
theorem g_stripe_Quiet_1 : G N_stripe_Quiet_1 = some fn_stripe_Quiet_1 := by kernel_rfl
theorem g_count_second : G N_count_second = some fn_count_second := by kernel_rfl
theorem g_stripe_Same : G N_stripe_Same = some fn_stripe_Same := by kernel_rfl
theorem g_slices_Equal_api_Stripe : G N_slices_Equal_api_Stripe = some fn_slices_Equal_api_Stripe := by kernel_rfl
theorem g_count_sum : G N_count_sum = some fn_count_sum := by kernel_rfl
theorem g_stripe_Sum : G N_stripe_Sum = some fn_stripe_Sum := by kernel_rfl
theorem g_stripe_number : G N_stripe_number = some fn_stripe_number := by kernel_rfl
theorem g_batch_Next : G N_batch_Next = some fn_batch_Next := by kernel_rfl
theorem g_slices_Clip_api_Result : G N_slices_Clip_api_Result = some fn_slices_Clip_api_Result := by kernel_rfl
theorem g_batch_Entries : G N_batch_Entries = some fn_batch_Entries := by kernel_rfl
theorem g_law22_awake : G N_law22_awake = some fn_law22_awake := by kernel_rfl
end Go.Proofs.YtjillamaceggeaaGreat

namespace Go.Sim
variable {G : FuncId → Option AFn}
theorem wr {x : Int} (h : -9223372036854775808 ≤ x ∧ x < 9223372036854775808) : IntKind.i64.wrap x = x := by
  rw [Go.IntWalk.i64_in _ (by omega)]
theorem wu64 {x : Int} (h : 0 ≤ x ∧ x < 18446744073709551616) : IntKind.u64.wrap x = x := by rw [Go.IntWalk.u64_in _ (by omega)]
theorem wu32 {x : Int} (h : 0 ≤ x ∧ x < 4294967296) : IntKind.u32.wrap x = x := by rw [Go.IntWalk.u32_in _ (by omega)]
theorem wu8 {x : Int} (h : 0 ≤ x ∧ x < 256) : IntKind.u8.wrap x = x := by rw [Go.IntWalk.u8_in _ (by omega)]
theorem tdivE {x y : Int} (h : 0 ≤ x) : x.tdiv y = x / y := Int.tdiv_eq_ediv_of_nonneg h
theorem tmodE {x y : Int} (h : 0 ≤ x) : x.tmod y = x % y := Int.tmod_eq_emod_of_nonneg h
theorem beqT {b : Bool} : (b == true) = b := by cases b <;> rfl
theorem beqF {b : Bool} : (b == false) = !b := by cases b <;> rfl
theorem ltT {a b : Int} (h : a < b) : (a < b) = True := eq_true h
theorem ltF {a b : Int} (h : b ≤ a) : (a < b) = False := eq_false (by omega)
theorem leT {a b : Int} (h : a ≤ b) : (a ≤ b) = True := eq_true h
theorem leF {a b : Int} (h : b < a) : (a ≤ b) = False := eq_false (by omega)
theorem eqT {a b : Int} (h : a = b) : (a = b) = True := eq_true h
theorem eqF {a b : Int} (h : ¬ a = b) : (a = b) = False := eq_false h
theorem nltT {a b : Nat} (h : a < b) : (a < b) = True := eq_true h
theorem nltF {a b : Nat} (h : b ≤ a) : (a < b) = False := eq_false (by omega)
theorem nleT {a b : Nat} (h : a ≤ b) : (a ≤ b) = True := eq_true h
theorem nleF {a b : Nat} (h : b < a) : (a ≤ b) = False := eq_false (by omega)
theorem neqT {a b : Nat} (h : a = b) : (a = b) = True := eq_true h
theorem neqF {a b : Nat} (h : ¬ a = b) : (a = b) = False := eq_false h
theorem lenLtT {α : Type} {l : List α} {a : Nat} (h : a < l.length) : (a < l.length) = True := eq_true h
theorem lenLtF {α : Type} {l : List α} {a : Nat} (h : l.length ≤ a) : (a < l.length) = False := eq_false (by omega)
theorem lenLeT {α : Type} {l : List α} {c : Nat} (h : l.length ≤ c) : (l.length ≤ c) = True := eq_true h
theorem addLeT {a b c : Nat} (h : a + b ≤ c) : (a + b ≤ c) = True := eq_true h
theorem lenEqT {α : Type} {l : List α} {c : Nat} (h : l.length = c) : (l.length = c) = True := eq_true h
theorem lim_eq : LIM = 4294967296 := rfl
theorem mapGet {α β : Type} {f : α → β} {l : List α} {k : Nat} (h : k < l.length) : (l.map f)[k]? = some (f (l[k]'h)) := by
  rw [List.getElem?_map, List.getElem?_eq_getElem h]; rfl
theorem toNat_add1 {k : Nat} : ((k : Int) + 1).toNat = k + 1 := by omega
theorem cast_add1 {k : Nat} : ((k : Int) + 1) = ((k + 1 : Nat) : Int) := by omega
def itR {σ : Type} (stp : Nat → σ → (AExit × St) ⊕ σ) (fin : σ → AExit × St) : Nat → Nat → σ → AExit × St
  | _, 0, s => fin s
  | k, m + 1, s => match stp k s with | .inl r => r | .inr s' => itR stp fin (k + 1) m s'
theorem loop_it {σ : Type} {ks : List Nat} {x : ACode} (n : Nat) (st : Nat → σ → St) (inv : Nat → σ → Prop) (stp : Nat → σ → (AExit × St) ⊕ σ) (fin : σ → AExit × St)
    (h : ∀ k s, k ≤ n → inv k s → ∀ L : St → Option (AExit × St), (exL G x (st k s)).bind (loopF ks L) = if k < n then (match stp k s with | .inl r => some r | .inr s' => L (st (k + 1) s')) else some (fin s))
    (hi : ∀ k s s', k < n → inv k s → stp k s = .inr s' → inv (k + 1) s') : ∀ k s, k ≤ n → inv k s → loopL G ks x (st k s) = some (itR stp fin k (n - k) s) := by
  intro k s
  generalize hm : n - k = m
  induction m generalizing k s with
  | zero =>
    intro h1 h2
    rw [loopL_eq, h k s h1 h2, if_neg (by omega)]
    rfl
  | succ m ih =>
    intro h1 h2
    rw [loopL_eq, h k s h1 h2, if_pos (by omega)]
    simp only [itR]
    cases he : stp k s with
    | inl r => rfl
    | inr s' => exact ih (k + 1) s' (by omega) (by omega) (hi k s s' (by omega) h2 he)
theorem loop_all {ks : List Nat} {x : ACode} (n : Nat) (p : Nat → Bool) (st : Nat → St) (R fin : AExit × St)
    (h : ∀ k, k ≤ n → ∀ L : St → Option (AExit × St), (exL G x (st k)).bind (loopF ks L) = if k < n then (if p k = true then L (st (k + 1)) else some R) else some fin) :
    loopL G ks x (st 0) = some (if (List.range n).all p = true then fin else R) := by
  have key : ∀ m k, k + m = n → loopL G ks x (st k) = some (if ((List.range' k m).all p) = true then fin else R) := by
    intro m
    induction m with
    | zero =>
      intro k hk
      rw [loopL_eq, h k (by omega), if_neg (by omega)]
      rfl
    | succ m ih =>
      intro k hk
      rw [loopL_eq, h k (by omega), if_pos (by omega), List.range'_succ, List.all_cons, ih (k + 1) (by omega)]
      cases p k <;> rfl
  have := key n 0 (by omega)
  rwa [← List.range_eq_range'] at this
theorem all_eq {α : Type} [DecidableEq α] {a b : List α} (h : a.length = b.length) : ((List.range a.length).all fun k => decide (a[k]? = b[k]?)) = decide (a = b) := by
  by_cases e : a = b
  · subst e; simp
  · rw [decide_eq_false e]
    apply Bool.eq_false_iff.2
    intro hh
    apply e
    rw [List.all_eq_true] at hh
    apply List.ext_getElem?
    intro k
    by_cases hk : k < a.length
    · simpa using hh k (List.mem_range.2 hk)
    · rw [List.getElem?_eq_none (by omega), List.getElem?_eq_none (by omega)]
theorem get_eq {α : Type} [DecidableEq α] {a b : List α} {k : Nat} (ha : k < a.length) (hb : k < b.length) : decide (a[k]? = b[k]?) = decide (a[k] = b[k]) := by
  rw [List.getElem?_eq_getElem ha, List.getElem?_eq_getElem hb]; simp
def findR {α : Type} (n : Nat) (p : Nat → Bool) (R : Nat → α) (fin : α) : α := match (List.range n).find? p with | some k => R k | none => fin
theorem loop_find {ks : List Nat} {x : ACode} (n : Nat) (p : Nat → Bool) (st : Nat → St) (R : Nat → AExit × St) (fin : AExit × St)
    (h : ∀ k, k ≤ n → ∀ L : St → Option (AExit × St), (exL G x (st k)).bind (loopF ks L) = if k < n then (if p k = true then some (R k) else L (st (k + 1))) else some fin) :
    loopL G ks x (st 0) = some (findR n p R fin) := by
  have key : ∀ m k, k + m = n → loopL G ks x (st k) = some (match (List.range' k m).find? p with | some k => R k | none => fin) := by
    intro m
    induction m with
    | zero =>
      intro k hk
      rw [loopL_eq, h k (by omega), if_neg (by omega)]
      rfl
    | succ m ih =>
      intro k hk
      rw [loopL_eq, h k (by omega), if_pos (by omega), List.range'_succ, List.find?_cons, ih (k + 1) (by omega)]
      cases p k <;> rfl
  have := key n 0 (by omega)
  rwa [← List.range_eq_range'] at this
def idxI {α : Type} (p : α → Bool) (es : List α) : Int := match es.findIdx? p with | some i => i | none => -1
def atB {α : Type} (l : List α) (p : α → Bool) (k : Nat) : Bool := match l[k]? with | some a => p a | none => false
theorem find_range {α : Type} (l : List α) (p : α → Bool) : (List.range l.length).find? (atB l p) = l.findIdx? p := by
  have key : ∀ (m k : Nat), k + m = l.length → (List.range' k m).find? (atB l p) = ((l.drop k).findIdx? p).map (k + ·) := by
    intro m
    induction m with
    | zero => intro k hk; rw [List.drop_of_length_le (by omega)]; rfl
    | succ m ih =>
      intro k hk
      rw [List.range'_succ, List.find?_cons, List.drop_eq_getElem_cons (show k < l.length by omega), List.findIdx?_cons, ih (k + 1) (by omega)]
      have : atB l p k = p (l[k]'(by omega)) := by unfold atB; rw [List.getElem?_eq_getElem (by omega)]
      rw [this]
      cases p (l[k]'(by omega)) with
      | true => simp
      | false =>
        cases (l.drop (k + 1)).findIdx? p with
        | none => rfl
        | some i => simp; omega
  have := key l.length 0 (by omega)
  rw [← List.range_eq_range'] at this
  rw [this, List.drop_zero]
  cases l.findIdx? p <;> simp only [Option.map_none, Option.map_some, Nat.zero_add]
theorem atB_at {α : Type} {l : List α} {p : α → Bool} {k : Nat} (h : k < l.length) : atB l p k = p l[k] := by
  unfold atB; rw [List.getElem?_eq_getElem h]
theorem findR_idx {α β : Type} (l : List α) (p : α → Bool) (R : Nat → β) (fin : β) : findR l.length (atB l p) R fin = match l.findIdx? p with | some k => R k | none => fin := by
  unfold findR; rw [find_range]
theorem idxI_any {α : Type} (l : List α) (p : α → Bool) : decide (0 ≤ idxI p l) = l.any p := by
  unfold idxI
  cases h : l.findIdx? p with
  | none => simp at h; simpa using h
  | some i =>
    have := List.findIdx?_eq_some_iff_getElem.1 h
    simp
    exact ⟨_, List.getElem_mem this.1, this.2.1⟩
theorem idxI_lt {α : Type} (l : List α) (p : α → Bool) : -1 ≤ idxI p l ∧ idxI p l < l.length := by
  unfold idxI
  cases e : l.findIdx? p with
  | none => simp only; omega
  | some i => have := (List.findIdx?_eq_some_iff_getElem.1 e).1; simp only; omega
theorem idxI_some {α : Type} {l : List α} {p : α → Bool} {i : Nat} (h : idxI p l = i) : ∃ hi : i < l.length, p (l[i]) = true ∧ ∀ j (hj : j < i), p (l[j]'(by omega)) = false := by
  unfold idxI at h
  cases e : l.findIdx? p with
  | none => rw [e] at h; simp only at h; omega
  | some k =>
    rw [e] at h
    simp only at h
    obtain rfl : k = i := by omega
    obtain ⟨h1, h2, h3⟩ := List.findIdx?_eq_some_iff_getElem.1 e
    exact ⟨h1, h2, fun j hj => by have := h3 j hj; simpa using this⟩
theorem idxI_neg {α : Type} (l : List α) (p : α → Bool) : idxI p l < 0 ↔ ∀ a ∈ l, p a = false := by
  have := idxI_any l p
  have h2 : l.any p = false ↔ ∀ a ∈ l, p a = false := by simp
  rw [← h2, ← this]
  simp
theorem idxI_m1 {α : Type} (l : List α) (p : α → Bool) : idxI p l < 0 ↔ idxI p l = -1 := by have := idxI_lt l p; omega
end Go.Sim

namespace Go.Sim
theorem getDT {α : Type} {l : List α} {k : Nat} {d : α} (h : k < l.length) : l.getD k d = l[k]'h := by
  rw [List.getD_eq_getElem?_getD, List.getElem?_eq_getElem h]; rfl
theorem getQT {α : Type} {l : List α} {k : Nat} (h : k < l.length) : l[k]? = some (l[k]'h) := List.getElem?_eq_getElem h
theorem takeT {α : Type} {l : List α} {k : Nat} (h : l.length ≤ k) : l.take k = l := List.take_of_length_le h
theorem setMap {α β : Type} {f : α → β} {l : List α} {k : Nat} {x : α} : (l.map f).set k (f x) = (l.set k x).map f := by rw [List.map_set]
theorem mapGet2 {α β γ : Type} {f : α → β} {g : β → γ} {l : List α} {k : Nat} (h : k < l.length) : ((l.map f).map g)[k]? = some (g (f (l[k]'h))) := by
  rw [List.map_map, List.getElem?_map, List.getElem?_eq_getElem h]; rfl
theorem lenSet {α : Type} {l : List α} {k : Nat} {x : α} : (l.set k x).length = l.length := List.length_set
theorem setGetEq {α : Type} {l : List α} {k : Nat} {x : α} (h : k < l.length) : (l.set k x)[k]? = some x := by rw [List.getElem?_set_self h]
theorem mapSet {α : Type} {f : α → D} {l : List α} {k : Nat} {x : α} : (l.set k x).map f = (l.map f).set k (f x) := by rw [List.map_set]
theorem setD {ds : List D} {k : Nat} {x : D} : (ds.map AV.d).set k (.d x) = (ds.set k x).map AV.d := by rw [List.map_set]
theorem iteC {α : Type} {c : Prop} [Decidable c] {A B r : α} (h1 : c → A = r) (h2 : ¬ c → B = r) : (if c then A else B) = r := by split <;> simp_all
end Go.Sim

namespace Go.Sim
theorem takeMapD {ds : List D} {n : Nat} : (ds.map AV.d).take n = (ds.take n).map AV.d := by rw [List.map_take]
theorem dropMapD {ds : List D} {n : Nat} : (ds.map AV.d).drop n = (ds.drop n).map AV.d := by rw [List.map_drop]
theorem takeSetM {α : Type} {f : α → D} {l : List α} {n k : Nat} {x : D} (h : l.length ≤ n) : ((l.map f).set k x).take n = (l.map f).set k x := List.take_of_length_le (by simpa using h)
theorem takeM {α : Type} {f : α → D} {l : List α} {n : Nat} (h : l.length ≤ n) : (l.map f).take n = l.map f := List.take_of_length_le (by simpa using h)
theorem refsLd {o : Nat} {ds : List D} : AV.refsL o (ds.map .d) = false := refsL_d
theorem iteR {α : Type} {c : Prop} [Decidable c] {A B r : α} (h1 : c → r = A) (h2 : ¬ c → r = B) : r = if c then A else B := by split <;> simp_all
end Go.Sim

namespace Go.Sim
attribute [go_sem ↓] reduceIte
attribute [go_sem] reduceCtorEq Nat.reduceEqDiff Nat.reduceAdd Nat.reduceBEq Nat.reduceMul Nat.reduceLeDiff Nat.reduceSub Nat.reduceLT Nat.reduceDiv Nat.reduceMod List.reduceReplicate Int.reduceEq Int.reduceLT Int.reduceLE Int.reduceAdd Int.reduceSub Int.reduceMul Int.reduceNeg Int.reduceToNat
attribute [go_sem] toNat_add1 takeMapD dropMapD takeSetM takeM lenSet mapSet setD mapGet2 wr or_self or_false false_or true_or or_true false_and and_false Int.natCast_mul Int.cast_ofNat_Int Int.natCast_zero List.length_append lim_eq wu64 wu32 wu8 Bool.true_beq Bool.false_beq beqT beqF Int.natCast_add Int.natCast_one ltT ltF leT leF eqT eqF lenLtT lenLtF lenLeT addLeT lenEqT mapGet Int.toNat_natCast Int.natCast_nonneg List.length_map
theorem pA {a b : Bool} : ((a || b) = true) = (a = true ∨ b = true) := Bool.or_eq_true a b
theorem pB {a b : Bool} : ((a && b) = true) = (a = true ∧ b = true) := Bool.and_eq_true a b
theorem pC {p : Prop} [Decidable p] : (decide p = true) = p := decide_eq_true_eq
theorem pD {a : Bool} : ((!a) = true) = (a = false) := Bool.not_eq_true' a
theorem pE {p : Prop} [Decidable p] : (decide p = false) = ¬ p := by simp
theorem pF {p q : Prop} : (¬ (p ∨ q)) = (¬ p ∧ ¬ q) := by simp
theorem pG {a b : Int} : (¬ a < b) = (b ≤ a) := by simp
theorem pH {a b : Int} : (¬ a ≤ b) = (b < a) := by simp
theorem pI {a b : Nat} : (¬ a < b) = (b ≤ a) := by simp
theorem pJ {a b : Nat} : (¬ a ≤ b) = (b < a) := by simp
theorem pK {a b : Bool} : ((a || b) = false) = (a = false ∧ b = false) := by simp
theorem pL {a b : Bool} : ((a && b) = false) = (a = false ∨ b = false) := by cases a <;> cases b <;> simp
theorem pM {a : Bool} : ((!a) = false) = (a = true) := by simp
theorem pN : (true = false) = False := by simp
theorem pO : (false = true) = False := by simp
theorem pP {p : Prop} : (¬ ¬ p) = p := by simp
end Go.Sim
