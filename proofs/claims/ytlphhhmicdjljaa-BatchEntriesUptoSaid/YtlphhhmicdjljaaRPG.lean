/-
  The table of functions.
-/
import Derived.Test.YtlphhhmicdjljaaRPC
import Derived.KernelRfl
namespace Go.Proofs.Ytlphhhmicdjljaa
set_option linter.unusedSimpArgs false
set_option linter.unusedVariables false
open Go Go.Sim
def tab : List (Nat × AFn) := [(N_law14_SnapshotSteps, fn_law14_SnapshotSteps), (N_arena_New, fn_arena_New), (N_arena_in, fn_arena_in), (N_directory_New, fn_directory_New), (N_dead_New, fn_dead_New), (N_shard_Free, fn_shard_Free), (N_ring_New, fn_ring_New), (N_directory_Span, fn_directory_Span), (N_directory_Validate, fn_directory_Validate), (N_directory_tiles, fn_directory_tiles), (N_directory_Validate_1, fn_directory_Validate_1), (N_slices_ContainsFunc_api_Span, fn_slices_ContainsFunc_api_Span), (N_slices_IndexFunc_api_Span, fn_slices_IndexFunc_api_Span), (N_directory_find, fn_directory_find), (N_directory_find_1, fn_directory_find_1), (N_directory_forwards, fn_directory_forwards), (N_shard_New, fn_shard_New), (N_shard_spans, fn_shard_spans), (N_snapshot_New, fn_snapshot_New), (N_snapshot_Step, fn_snapshot_Step), (N_arena_Load, fn_arena_Load), (N_ref12_Owner, fn_ref12_Owner), (N_law14_awake, fn_law14_awake), (N_law17_BatchEntries, fn_law17_BatchEntries), (N_base_New, fn_base_New), (N_base_Src_Range, fn_base_Src_Range), (N_base_Src_N, fn_base_Src_N), (N_base_Src_Raw, fn_base_Src_Raw), (N_base_Src_Body, fn_base_Src_Body), (N_base_Src_Setup, fn_base_Src_Setup), (N_batch_Start, fn_batch_Start), (N_batch_in, fn_batch_in), (N_batch_Validate, fn_batch_Validate), (N_batch_Validate_1, fn_batch_Validate_1), (N_batch_Validate_2, fn_batch_Validate_2), (N_slices_ContainsFunc_string, fn_slices_ContainsFunc_string), (N_slices_IndexFunc_string, fn_slices_IndexFunc_string), (N_ref17_Entries, fn_ref17_Entries), (N_batch_Next, fn_batch_Next), (N_slices_Clip_api_Result, fn_slices_Clip_api_Result), (N_batch_Entries, fn_batch_Entries), (N_ref17_SameInvocation, fn_ref17_SameInvocation), (N_ref17_SameTexts, fn_ref17_SameTexts), (N_ref17_SameTokens, fn_ref17_SameTokens), (N_law17_awake, fn_law17_awake), (N_law17_BatchLimits, fn_law17_BatchLimits), (N_base_Two, fn_base_Two)]
def G : FuncId → Option AFn := fun f => Go.Sim.look f tab
theorem g_law14_SnapshotSteps : G N_law14_SnapshotSteps = some fn_law14_SnapshotSteps := by kernel_rfl
theorem g_arena_New : G N_arena_New = some fn_arena_New := by kernel_rfl
theorem g_arena_in : G N_arena_in = some fn_arena_in := by kernel_rfl
theorem g_directory_New : G N_directory_New = some fn_directory_New := by kernel_rfl
theorem g_dead_New : G N_dead_New = some fn_dead_New := by kernel_rfl
theorem g_shard_Free : G N_shard_Free = some fn_shard_Free := by kernel_rfl
theorem g_ring_New : G N_ring_New = some fn_ring_New := by kernel_rfl
theorem g_directory_Span : G N_directory_Span = some fn_directory_Span := by kernel_rfl
theorem g_directory_Validate : G N_directory_Validate = some fn_directory_Validate := by kernel_rfl
theorem g_directory_tiles : G N_directory_tiles = some fn_directory_tiles := by kernel_rfl
theorem g_directory_Validate_1 : G N_directory_Validate_1 = some fn_directory_Validate_1 := by kernel_rfl
theorem g_slices_ContainsFunc_api_Span : G N_slices_ContainsFunc_api_Span = some fn_slices_ContainsFunc_api_Span := by kernel_rfl
theorem g_slices_IndexFunc_api_Span : G N_slices_IndexFunc_api_Span = some fn_slices_IndexFunc_api_Span := by kernel_rfl
theorem g_directory_find : G N_directory_find = some fn_directory_find := by kernel_rfl
theorem g_directory_find_1 : G N_directory_find_1 = some fn_directory_find_1 := by kernel_rfl
theorem g_directory_forwards : G N_directory_forwards = some fn_directory_forwards := by kernel_rfl
theorem g_shard_New : G N_shard_New = some fn_shard_New := by kernel_rfl
theorem g_shard_spans : G N_shard_spans = some fn_shard_spans := by kernel_rfl
theorem g_snapshot_New : G N_snapshot_New = some fn_snapshot_New := by kernel_rfl
theorem g_snapshot_Step : G N_snapshot_Step = some fn_snapshot_Step := by kernel_rfl
theorem g_arena_Load : G N_arena_Load = some fn_arena_Load := by kernel_rfl
theorem g_ref12_Owner : G N_ref12_Owner = some fn_ref12_Owner := by kernel_rfl
theorem g_law14_awake : G N_law14_awake = some fn_law14_awake := by kernel_rfl
theorem g_law17_BatchEntries : G N_law17_BatchEntries = some fn_law17_BatchEntries := by kernel_rfl
theorem g_base_New : G N_base_New = some fn_base_New := by kernel_rfl
theorem g_base_Src_Range : G N_base_Src_Range = some fn_base_Src_Range := by kernel_rfl
theorem g_base_Src_N : G N_base_Src_N = some fn_base_Src_N := by kernel_rfl
theorem g_base_Src_Raw : G N_base_Src_Raw = some fn_base_Src_Raw := by kernel_rfl
theorem g_base_Src_Body : G N_base_Src_Body = some fn_base_Src_Body := by kernel_rfl
theorem g_base_Src_Setup : G N_base_Src_Setup = some fn_base_Src_Setup := by kernel_rfl
theorem g_batch_Start : G N_batch_Start = some fn_batch_Start := by kernel_rfl
theorem g_batch_in : G N_batch_in = some fn_batch_in := by kernel_rfl
theorem g_batch_Validate : G N_batch_Validate = some fn_batch_Validate := by kernel_rfl
theorem g_batch_Validate_1 : G N_batch_Validate_1 = some fn_batch_Validate_1 := by kernel_rfl
theorem g_batch_Validate_2 : G N_batch_Validate_2 = some fn_batch_Validate_2 := by kernel_rfl
theorem g_slices_ContainsFunc_string : G N_slices_ContainsFunc_string = some fn_slices_ContainsFunc_string := by kernel_rfl
theorem g_slices_IndexFunc_string : G N_slices_IndexFunc_string = some fn_slices_IndexFunc_string := by kernel_rfl
theorem g_ref17_Entries : G N_ref17_Entries = some fn_ref17_Entries := by kernel_rfl
theorem g_batch_Next : G N_batch_Next = some fn_batch_Next := by kernel_rfl
theorem g_slices_Clip_api_Result : G N_slices_Clip_api_Result = some fn_slices_Clip_api_Result := by kernel_rfl
theorem g_batch_Entries : G N_batch_Entries = some fn_batch_Entries := by kernel_rfl
theorem g_ref17_SameInvocation : G N_ref17_SameInvocation = some fn_ref17_SameInvocation := by kernel_rfl
theorem g_ref17_SameTexts : G N_ref17_SameTexts = some fn_ref17_SameTexts := by kernel_rfl
theorem g_ref17_SameTokens : G N_ref17_SameTokens = some fn_ref17_SameTokens := by kernel_rfl
theorem g_law17_awake : G N_law17_awake = some fn_law17_awake := by kernel_rfl
theorem g_law17_BatchLimits : G N_law17_BatchLimits = some fn_law17_BatchLimits := by kernel_rfl
theorem g_base_Two : G N_base_Two = some fn_base_Two := by kernel_rfl
end Go.Proofs.Ytlphhhmicdjljaa
