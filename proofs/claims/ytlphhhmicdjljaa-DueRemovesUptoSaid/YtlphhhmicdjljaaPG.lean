/-
  The table of functions.
-/
import Derived.Test.YtlphhhmicdjljaaPC
import Derived.KernelRfl
namespace Go.Proofs.Ytlphhhmicdjljaa
set_option linter.unusedSimpArgs false
set_option linter.unusedVariables false
open Go Go.Sim
def tab : List (Nat × AFn) := [(N_cmp_isNaN_int, fn_cmp_isNaN_int), (N_cmp_Compare_int, fn_cmp_Compare_int), (N_cmp_Or_int, fn_cmp_Or_int), (N_due_compare, fn_due_compare), (N_due_before, fn_due_before), (N_due_valid, fn_due_valid), (N_due_find_1, fn_due_find_1), (N_slices_IndexFunc_api_Due, fn_slices_IndexFunc_api_Due), (N_due_find, fn_due_find), (N_due_Validate_1, fn_due_Validate_1), (N_slices_ContainsFunc_api_Due, fn_slices_ContainsFunc_api_Due), (N_due_Validate, fn_due_Validate), (N_due_up, fn_due_up), (N_due_down, fn_due_down), (N_slices_Clone_api_Due, fn_slices_Clone_api_Due), (N_due_Push, fn_due_Push), (N_due_drop, fn_due_drop), (N_due_Pop, fn_due_Pop), (N_due_Remove, fn_due_Remove), (N_law05_awake, fn_law05_awake), (N_law05_DueFull, fn_law05_DueFull), (N_law05_DueSorts, fn_law05_DueSorts), (N_base_New, fn_base_New), (N_base_Src_Raw, fn_base_Src_Raw), (N_base_Src_N, fn_base_Src_N), (N_base_Src_Range, fn_base_Src_Range), (N_ref05_before, fn_ref05_before), (N_ref05_sound, fn_ref05_sound), (N_ref05_index, fn_ref05_index), (N_ref05_Validate, fn_ref05_Validate), (N_ref05_swap, fn_ref05_swap), (N_ref05_up, fn_ref05_up), (N_ref05_Push, fn_ref05_Push), (N_base_Src_Heap, fn_base_Src_Heap), (N_law05_DueRemoves, fn_law05_DueRemoves)]
def G : FuncId → Option AFn := fun f => Go.Sim.look f tab
theorem g_cmp_isNaN_int : G N_cmp_isNaN_int = some fn_cmp_isNaN_int := by kernel_rfl
theorem g_cmp_Compare_int : G N_cmp_Compare_int = some fn_cmp_Compare_int := by kernel_rfl
theorem g_cmp_Or_int : G N_cmp_Or_int = some fn_cmp_Or_int := by kernel_rfl
theorem g_due_compare : G N_due_compare = some fn_due_compare := by kernel_rfl
theorem g_due_before : G N_due_before = some fn_due_before := by kernel_rfl
theorem g_due_valid : G N_due_valid = some fn_due_valid := by kernel_rfl
theorem g_due_find_1 : G N_due_find_1 = some fn_due_find_1 := by kernel_rfl
theorem g_slices_IndexFunc_api_Due : G N_slices_IndexFunc_api_Due = some fn_slices_IndexFunc_api_Due := by kernel_rfl
theorem g_due_find : G N_due_find = some fn_due_find := by kernel_rfl
theorem g_due_Validate_1 : G N_due_Validate_1 = some fn_due_Validate_1 := by kernel_rfl
theorem g_slices_ContainsFunc_api_Due : G N_slices_ContainsFunc_api_Due = some fn_slices_ContainsFunc_api_Due := by kernel_rfl
theorem g_due_Validate : G N_due_Validate = some fn_due_Validate := by kernel_rfl
theorem g_due_up : G N_due_up = some fn_due_up := by kernel_rfl
theorem g_due_down : G N_due_down = some fn_due_down := by kernel_rfl
theorem g_slices_Clone_api_Due : G N_slices_Clone_api_Due = some fn_slices_Clone_api_Due := by kernel_rfl
theorem g_due_Push : G N_due_Push = some fn_due_Push := by kernel_rfl
theorem g_due_drop : G N_due_drop = some fn_due_drop := by kernel_rfl
theorem g_due_Pop : G N_due_Pop = some fn_due_Pop := by kernel_rfl
theorem g_due_Remove : G N_due_Remove = some fn_due_Remove := by kernel_rfl
theorem g_law05_awake : G N_law05_awake = some fn_law05_awake := by kernel_rfl
theorem g_law05_DueFull : G N_law05_DueFull = some fn_law05_DueFull := by kernel_rfl
theorem g_law05_DueSorts : G N_law05_DueSorts = some fn_law05_DueSorts := by kernel_rfl
theorem g_base_New : G N_base_New = some fn_base_New := by kernel_rfl
theorem g_base_Src_Raw : G N_base_Src_Raw = some fn_base_Src_Raw := by kernel_rfl
theorem g_base_Src_N : G N_base_Src_N = some fn_base_Src_N := by kernel_rfl
theorem g_base_Src_Range : G N_base_Src_Range = some fn_base_Src_Range := by kernel_rfl
theorem g_ref05_before : G N_ref05_before = some fn_ref05_before := by kernel_rfl
theorem g_ref05_sound : G N_ref05_sound = some fn_ref05_sound := by kernel_rfl
theorem g_ref05_index : G N_ref05_index = some fn_ref05_index := by kernel_rfl
theorem g_ref05_Validate : G N_ref05_Validate = some fn_ref05_Validate := by kernel_rfl
theorem g_ref05_swap : G N_ref05_swap = some fn_ref05_swap := by kernel_rfl
theorem g_ref05_up : G N_ref05_up = some fn_ref05_up := by kernel_rfl
theorem g_ref05_Push : G N_ref05_Push = some fn_ref05_Push := by kernel_rfl
theorem g_base_Src_Heap : G N_base_Src_Heap = some fn_base_Src_Heap := by kernel_rfl
theorem g_law05_DueRemoves : G N_law05_DueRemoves = some fn_law05_DueRemoves := by kernel_rfl
end Go.Proofs.Ytlphhhmicdjljaa
