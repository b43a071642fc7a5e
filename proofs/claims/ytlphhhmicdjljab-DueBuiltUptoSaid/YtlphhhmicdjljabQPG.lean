/-
  The table of functions.
-/
import Derived.Test.YtlphhhmicdjljabQPC
import Derived.KernelRfl
namespace Go.Proofs.Ytlphhhmicdjljab
set_option linter.unusedSimpArgs false
set_option linter.unusedVariables false
open Go Go.Sim
def tab : List (Nat × AFn) := [(N_law05_DueUntil, fn_law05_DueUntil), (N_base_New, fn_base_New), (N_base_Src_Heap, fn_base_Src_Heap), (N_base_Src_N, fn_base_Src_N), (N_base_Src_Raw, fn_base_Src_Raw), (N_base_Src_Range, fn_base_Src_Range), (N_ref05_Push, fn_ref05_Push), (N_ref05_Validate, fn_ref05_Validate), (N_ref05_sound, fn_ref05_sound), (N_ref05_index, fn_ref05_index), (N_ref05_before, fn_ref05_before), (N_ref05_up, fn_ref05_up), (N_ref05_swap, fn_ref05_swap), (N_due_Until, fn_due_Until), (N_due_Validate, fn_due_Validate), (N_slices_ContainsFunc_api_Due, fn_slices_ContainsFunc_api_Due), (N_slices_IndexFunc_api_Due, fn_slices_IndexFunc_api_Due), (N_due_Validate_1, fn_due_Validate_1), (N_due_valid, fn_due_valid), (N_due_find, fn_due_find), (N_due_find_1, fn_due_find_1), (N_due_before, fn_due_before), (N_due_compare, fn_due_compare), (N_cmp_Compare_int, fn_cmp_Compare_int), (N_cmp_isNaN_int, fn_cmp_isNaN_int), (N_cmp_Or_int, fn_cmp_Or_int), (N_slices_Clone_api_Due, fn_slices_Clone_api_Due), (N_slices_SortFunc_api_Due, fn_slices_SortFunc_api_Due), (N_math_bits_Len, fn_math_bits_Len), (N_math_bits_Len32, fn_math_bits_Len32), (N_math_bits_Len64, fn_math_bits_Len64), (N_slices_pdqsortCmpFunc_api_Due, fn_slices_pdqsortCmpFunc_api_Due), (N_slices_insertionSortCmpFunc_api_Due, fn_slices_insertionSortCmpFunc_api_Due), (N_law05_awake, fn_law05_awake), (N_due_Push, fn_due_Push), (N_due_up, fn_due_up), (N_law05_DueRaw, fn_law05_DueRaw), (N_law05_agrees, fn_law05_agrees), (N_ref05_Until, fn_ref05_Until), (N_ref05_cut, fn_ref05_cut), (N_ref05_down, fn_ref05_down), (N_ref05_SameInts, fn_ref05_SameInts), (N_ref05_Same, fn_ref05_Same), (N_due_Pop, fn_due_Pop), (N_due_drop, fn_due_drop), (N_due_down, fn_due_down), (N_ref05_Pop, fn_ref05_Pop), (N_due_Remove, fn_due_Remove), (N_ref05_Remove, fn_ref05_Remove), (N_law05_DueBuilt, fn_law05_DueBuilt)]
def G : FuncId → Option AFn := fun f => Go.Sim.look f tab
theorem g_law05_DueUntil : G N_law05_DueUntil = some fn_law05_DueUntil := by kernel_rfl
theorem g_base_New : G N_base_New = some fn_base_New := by kernel_rfl
theorem g_base_Src_Heap : G N_base_Src_Heap = some fn_base_Src_Heap := by kernel_rfl
theorem g_base_Src_N : G N_base_Src_N = some fn_base_Src_N := by kernel_rfl
theorem g_base_Src_Raw : G N_base_Src_Raw = some fn_base_Src_Raw := by kernel_rfl
theorem g_base_Src_Range : G N_base_Src_Range = some fn_base_Src_Range := by kernel_rfl
theorem g_ref05_Push : G N_ref05_Push = some fn_ref05_Push := by kernel_rfl
theorem g_ref05_Validate : G N_ref05_Validate = some fn_ref05_Validate := by kernel_rfl
theorem g_ref05_sound : G N_ref05_sound = some fn_ref05_sound := by kernel_rfl
theorem g_ref05_index : G N_ref05_index = some fn_ref05_index := by kernel_rfl
theorem g_ref05_before : G N_ref05_before = some fn_ref05_before := by kernel_rfl
theorem g_ref05_up : G N_ref05_up = some fn_ref05_up := by kernel_rfl
theorem g_ref05_swap : G N_ref05_swap = some fn_ref05_swap := by kernel_rfl
theorem g_due_Until : G N_due_Until = some fn_due_Until := by kernel_rfl
theorem g_due_Validate : G N_due_Validate = some fn_due_Validate := by kernel_rfl
theorem g_slices_ContainsFunc_api_Due : G N_slices_ContainsFunc_api_Due = some fn_slices_ContainsFunc_api_Due := by kernel_rfl
theorem g_slices_IndexFunc_api_Due : G N_slices_IndexFunc_api_Due = some fn_slices_IndexFunc_api_Due := by kernel_rfl
theorem g_due_Validate_1 : G N_due_Validate_1 = some fn_due_Validate_1 := by kernel_rfl
theorem g_due_valid : G N_due_valid = some fn_due_valid := by kernel_rfl
theorem g_due_find : G N_due_find = some fn_due_find := by kernel_rfl
theorem g_due_find_1 : G N_due_find_1 = some fn_due_find_1 := by kernel_rfl
theorem g_due_before : G N_due_before = some fn_due_before := by kernel_rfl
theorem g_due_compare : G N_due_compare = some fn_due_compare := by kernel_rfl
theorem g_cmp_Compare_int : G N_cmp_Compare_int = some fn_cmp_Compare_int := by kernel_rfl
theorem g_cmp_isNaN_int : G N_cmp_isNaN_int = some fn_cmp_isNaN_int := by kernel_rfl
theorem g_cmp_Or_int : G N_cmp_Or_int = some fn_cmp_Or_int := by kernel_rfl
theorem g_slices_Clone_api_Due : G N_slices_Clone_api_Due = some fn_slices_Clone_api_Due := by kernel_rfl
theorem g_slices_SortFunc_api_Due : G N_slices_SortFunc_api_Due = some fn_slices_SortFunc_api_Due := by kernel_rfl
theorem g_math_bits_Len : G N_math_bits_Len = some fn_math_bits_Len := by kernel_rfl
theorem g_math_bits_Len32 : G N_math_bits_Len32 = some fn_math_bits_Len32 := by kernel_rfl
theorem g_math_bits_Len64 : G N_math_bits_Len64 = some fn_math_bits_Len64 := by kernel_rfl
theorem g_slices_pdqsortCmpFunc_api_Due : G N_slices_pdqsortCmpFunc_api_Due = some fn_slices_pdqsortCmpFunc_api_Due := by kernel_rfl
theorem g_slices_insertionSortCmpFunc_api_Due : G N_slices_insertionSortCmpFunc_api_Due = some fn_slices_insertionSortCmpFunc_api_Due := by kernel_rfl
theorem g_law05_awake : G N_law05_awake = some fn_law05_awake := by kernel_rfl
theorem g_due_Push : G N_due_Push = some fn_due_Push := by kernel_rfl
theorem g_due_up : G N_due_up = some fn_due_up := by kernel_rfl
theorem g_law05_DueRaw : G N_law05_DueRaw = some fn_law05_DueRaw := by kernel_rfl
theorem g_law05_agrees : G N_law05_agrees = some fn_law05_agrees := by kernel_rfl
theorem g_ref05_Until : G N_ref05_Until = some fn_ref05_Until := by kernel_rfl
theorem g_ref05_cut : G N_ref05_cut = some fn_ref05_cut := by kernel_rfl
theorem g_ref05_down : G N_ref05_down = some fn_ref05_down := by kernel_rfl
theorem g_ref05_SameInts : G N_ref05_SameInts = some fn_ref05_SameInts := by kernel_rfl
theorem g_ref05_Same : G N_ref05_Same = some fn_ref05_Same := by kernel_rfl
theorem g_due_Pop : G N_due_Pop = some fn_due_Pop := by kernel_rfl
theorem g_due_drop : G N_due_drop = some fn_due_drop := by kernel_rfl
theorem g_due_down : G N_due_down = some fn_due_down := by kernel_rfl
theorem g_ref05_Pop : G N_ref05_Pop = some fn_ref05_Pop := by kernel_rfl
theorem g_due_Remove : G N_due_Remove = some fn_due_Remove := by kernel_rfl
theorem g_ref05_Remove : G N_ref05_Remove = some fn_ref05_Remove := by kernel_rfl
theorem g_law05_DueBuilt : G N_law05_DueBuilt = some fn_law05_DueBuilt := by kernel_rfl
end Go.Proofs.Ytlphhhmicdjljab
