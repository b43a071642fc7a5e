/-
  Numbers of functions.
-/
import Derived.Test.YtlphhhmicdjljaaXL
namespace Go.Proofs.Ytlphhhmicdjljaa
set_option linter.unusedSimpArgs false
set_option linter.unusedVariables false
open Go Go.Sim
def N_law05_DueFull : Nat := 3
def N_law05_DueSorts : Nat := 4
def N_law05_DueRemoves : Nat := 5
def N_law14_SnapshotSteps : Nat := 6
def N_law17_BatchEntries : Nat := 7
def N_law17_BatchLimits : Nat := 8
def N_due_Push : Nat := 9
def N_law05_awake : Nat := 10
def N_due_Validate : Nat := 11
def N_due_Pop : Nat := 12
def N_base_New : Nat := 13
def N_base_Src_Heap : Nat := 14
def N_due_Remove : Nat := 15
def N_arena_New : Nat := 16
def N_snapshot_New : Nat := 17
def N_snapshot_Step : Nat := 18
def N_ref12_Owner : Nat := 19
def N_law14_awake : Nat := 20
def N_base_Src_Range : Nat := 21
def N_base_Src_Body : Nat := 22
def N_base_Src_N : Nat := 23
def N_batch_Start : Nat := 24
def N_base_Src_Setup : Nat := 25
def N_ref17_Entries : Nat := 26
def N_batch_Next : Nat := 27
def N_ref17_SameInvocation : Nat := 28
def N_law17_awake : Nat := 29
def N_base_Two : Nat := 30
def N_batch_Validate : Nat := 31
def N_due_valid : Nat := 32
def N_due_find : Nat := 33
def N_slices_Clone_api_Due : Nat := 34
def N_due_up : Nat := 35
def N_slices_ContainsFunc_api_Due : Nat := 36
def N_due_Validate_1 : Nat := 37
def N_due_before : Nat := 38
def N_due_drop : Nat := 39
def N_ref05_Push : Nat := 40
def N_arena_in : Nat := 41
def N_directory_New : Nat := 42
def N_dead_New : Nat := 43
def N_shard_Free : Nat := 44
def N_directory_Span : Nat := 45
def N_shard_New : Nat := 46
def N_arena_Load : Nat := 47
def N_base_Src_Raw : Nat := 48
def N_batch_in : Nat := 49
def N_slices_Clip_api_Result : Nat := 50
def N_batch_Entries : Nat := 51
def N_ref17_SameTexts : Nat := 52
def N_ref17_SameTokens : Nat := 53
def N_batch_Validate_1 : Nat := 54
def N_batch_Validate_2 : Nat := 55
def N_slices_ContainsFunc_string : Nat := 56
def N_slices_IndexFunc_api_Due : Nat := 57
def N_due_find_1 : Nat := 58
def N_due_compare : Nat := 59
def N_due_down : Nat := 60
def N_ref05_Validate : Nat := 61
def N_ref05_sound : Nat := 62
def N_ref05_index : Nat := 63
def N_ref05_up : Nat := 64
def N_ring_New : Nat := 65
def N_directory_Validate : Nat := 66
def N_directory_find : Nat := 67
def N_shard_spans : Nat := 68
def N_slices_IndexFunc_string : Nat := 69
def N_cmp_Or_int : Nat := 70
def N_cmp_Compare_int : Nat := 71
def N_ref05_before : Nat := 72
def N_ref05_swap : Nat := 73
def N_directory_tiles : Nat := 74
def N_slices_ContainsFunc_api_Span : Nat := 75
def N_directory_Validate_1 : Nat := 76
def N_directory_forwards : Nat := 77
def N_slices_IndexFunc_api_Span : Nat := 78
def N_directory_find_1 : Nat := 79
def N_cmp_isNaN_int : Nat := 80
end Go.Proofs.Ytlphhhmicdjljaa
