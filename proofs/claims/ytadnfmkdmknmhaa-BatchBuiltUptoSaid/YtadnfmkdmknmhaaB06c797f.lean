/-
  The table is what the program says.
-/
import Derived.Test.YtadnfmkdmknmhaaB02b607f
import Derived.Test.YtadnfmkdmknmhaaProg
set_option linter.unusedSimpArgs false
set_option linter.unusedVariables false
set_option maxRecDepth 100000
namespace Go.Proofs.Ytadnfmkdmknmhaa
open Go Go.Sim
theorem ok_law17_BatchBuilt : FnOK Try.prog N_law17_BatchBuilt fn_law17_BatchBuilt := ⟨by kernel_rfl, Try.f3, hofB Try.f3 c_law17_BatchBuilt, Try.func3, by kernel_rfl, by kernel_rfl, by kernel_rfl, by kernel_rfl, by decide⟩
theorem ok_base_New : FnOK Try.prog N_base_New fn_base_New := fokC h_base_New Try.func4
theorem ok_base_Src_Setup : FnOK Try.prog N_base_Src_Setup fn_base_Src_Setup := fokC h_base_Src_Setup Try.func5
theorem ok_base_Src_Range : FnOK Try.prog N_base_Src_Range fn_base_Src_Range := fokC h_base_Src_Range Try.func8
theorem ok_base_Src_N : FnOK Try.prog N_base_Src_N fn_base_Src_N := fokC h_base_Src_N Try.func7
theorem ok_base_Src_Raw : FnOK Try.prog N_base_Src_Raw fn_base_Src_Raw := fokC h_base_Src_Raw Try.func20
theorem ok_base_Src_Command : FnOK Try.prog N_base_Src_Command fn_base_Src_Command := fokC h_base_Src_Command Try.func6
theorem ok_base_Src_Pick : FnOK Try.prog N_base_Src_Pick fn_base_Src_Pick := fokC h_base_Src_Pick Try.func9
theorem ok_base_Src_Body : FnOK Try.prog N_base_Src_Body fn_base_Src_Body := fokC h_base_Src_Body Try.func10
theorem ok_base_fitted : FnOK Try.prog N_base_fitted fn_base_fitted := fokC h_base_fitted Try.func19
theorem ok_batch_Start : FnOK Try.prog N_batch_Start fn_batch_Start := fokC h_batch_Start Try.func11
theorem ok_batch_in : FnOK Try.prog N_batch_in fn_batch_in := fokC h_batch_in Try.func21
theorem ok_arena_New : FnOK Try.prog N_arena_New fn_arena_New := fokC h_arena_New Try.func22
theorem ok_arena_in : FnOK Try.prog N_arena_in fn_arena_in := fokC h_arena_in Try.func32
theorem ok_directory_New : FnOK Try.prog N_directory_New fn_directory_New := fokC h_directory_New Try.func33
theorem ok_dead_New : FnOK Try.prog N_dead_New fn_dead_New := fokC h_dead_New Try.func34
theorem ok_shard_Free : FnOK Try.prog N_shard_Free fn_shard_Free := fokC h_shard_Free Try.func35
theorem ok_ring_New : FnOK Try.prog N_ring_New fn_ring_New := fokC h_ring_New Try.func54
theorem ok_directory_Span : FnOK Try.prog N_directory_Span fn_directory_Span := fokC h_directory_Span Try.func36
theorem ok_directory_Validate : FnOK Try.prog N_directory_Validate fn_directory_Validate := fokC h_directory_Validate Try.func55
theorem ok_directory_tiles : FnOK Try.prog N_directory_tiles fn_directory_tiles := fokC h_directory_tiles Try.func62
theorem ok_directory_Validate_1 : FnOK Try.prog N_directory_Validate_1 fn_directory_Validate_1 := fokC h_directory_Validate_1 Try.func64
theorem ok_slices_ContainsFunc_api_Span : FnOK Try.prog N_slices_ContainsFunc_api_Span fn_slices_ContainsFunc_api_Span := fokC h_slices_ContainsFunc_api_Span Try.func63
theorem ok_slices_IndexFunc_api_Span : FnOK Try.prog N_slices_IndexFunc_api_Span fn_slices_IndexFunc_api_Span := fokC h_slices_IndexFunc_api_Span Try.func66
theorem ok_directory_find : FnOK Try.prog N_directory_find fn_directory_find := fokC h_directory_find Try.func56
theorem ok_directory_find_1 : FnOK Try.prog N_directory_find_1 fn_directory_find_1 := fokC h_directory_find_1 Try.func67
theorem ok_directory_forwards : FnOK Try.prog N_directory_forwards fn_directory_forwards := fokC h_directory_forwards Try.func65
theorem ok_shard_New : FnOK Try.prog N_shard_New fn_shard_New := fokC h_shard_New Try.func37
theorem ok_shard_spans : FnOK Try.prog N_shard_spans fn_shard_spans := fokC h_shard_spans Try.func57
theorem ok_batch_Validate : FnOK Try.prog N_batch_Validate fn_batch_Validate := fokC h_batch_Validate Try.func14
theorem ok_batch_Validate_1 : FnOK Try.prog N_batch_Validate_1 fn_batch_Validate_1 := fokC h_batch_Validate_1 Try.func27
theorem ok_batch_Validate_2 : FnOK Try.prog N_batch_Validate_2 fn_batch_Validate_2 := fokC h_batch_Validate_2 Try.func28
theorem ok_slices_ContainsFunc_string : FnOK Try.prog N_slices_ContainsFunc_string fn_slices_ContainsFunc_string := fokC h_slices_ContainsFunc_string Try.func29
theorem ok_slices_IndexFunc_string : FnOK Try.prog N_slices_IndexFunc_string fn_slices_IndexFunc_string := fokC h_slices_IndexFunc_string Try.func52
theorem ok_ref17_Start : FnOK Try.prog N_ref17_Start fn_ref17_Start := fokC h_ref17_Start Try.func12
theorem ok_ref12_New : FnOK Try.prog N_ref12_New fn_ref12_New := fokC h_ref12_New Try.func23
theorem ok_ref12_in : FnOK Try.prog N_ref12_in fn_ref12_in := fokC h_ref12_in Try.func38
theorem ok_ref10_New : FnOK Try.prog N_ref10_New fn_ref10_New := fokC h_ref10_New Try.func39
theorem ok_ref07_Free : FnOK Try.prog N_ref07_Free fn_ref07_Free := fokC h_ref07_Free Try.func40
theorem ok_ref04_New : FnOK Try.prog N_ref04_New fn_ref04_New := fokC h_ref04_New Try.func58
theorem ok_ref07_New : FnOK Try.prog N_ref07_New fn_ref07_New := fokC h_ref07_New Try.func41
theorem ok_ref07_span : FnOK Try.prog N_ref07_span fn_ref07_span := fokC h_ref07_span Try.func59
theorem ok_ref08_New : FnOK Try.prog N_ref08_New fn_ref08_New := fokC h_ref08_New Try.func42
theorem ok_ref17_Validate : FnOK Try.prog N_ref17_Validate fn_ref17_Validate := fokC h_ref17_Validate Try.func15
theorem ok_ref17_in : FnOK Try.prog N_ref17_in fn_ref17_in := fokC h_ref17_in Try.func30
theorem ok_law17_same : FnOK Try.prog N_law17_same fn_law17_same := ⟨by kernel_rfl, Try.f13, hofB Try.f13 c_law17_same, Try.func13, by kernel_rfl, by kernel_rfl, by kernel_rfl, by kernel_rfl, by decide⟩
theorem ok_ref17_SameInvocation : FnOK Try.prog N_ref17_SameInvocation fn_ref17_SameInvocation := fokC h_ref17_SameInvocation Try.func24
theorem ok_ref17_SameTexts : FnOK Try.prog N_ref17_SameTexts fn_ref17_SameTexts := fokC h_ref17_SameTexts Try.func43
theorem ok_ref17_SameTokens : FnOK Try.prog N_ref17_SameTokens fn_ref17_SameTokens := fokC h_ref17_SameTokens Try.func44
theorem ok_ref17_SameResults : FnOK Try.prog N_ref17_SameResults fn_ref17_SameResults := fokC h_ref17_SameResults Try.func25
theorem ok_ref15_Same : FnOK Try.prog N_ref15_Same fn_ref15_Same := ⟨by kernel_rfl, Try.f26, hofB Try.f26 c_ref15_Same, Try.func26, by kernel_rfl, by kernel_rfl, by kernel_rfl, by kernel_rfl, by decide⟩
theorem ok_ref13_Same : FnOK Try.prog N_ref13_Same fn_ref13_Same := fokC h_ref13_Same Try.func45
theorem ok_ref13_SameInts : FnOK Try.prog N_ref13_SameInts fn_ref13_SameInts := fokC h_ref13_SameInts Try.func60
theorem ok_ref15_sameShards : FnOK Try.prog N_ref15_sameShards fn_ref15_sameShards := fokC h_ref15_sameShards Try.func46
theorem ok_ref07_Same : FnOK Try.prog N_ref07_Same fn_ref07_Same := fokC h_ref07_Same Try.func61
theorem ok_ref04_Same : FnOK Try.prog N_ref04_Same fn_ref04_Same := fokC h_ref04_Same Try.func68
theorem ok_ref03_Same : FnOK Try.prog N_ref03_Same fn_ref03_Same := ⟨by kernel_rfl, Try.f51, hofB Try.f51 c_ref03_Same, Try.func51, by kernel_rfl, by kernel_rfl, by kernel_rfl, by kernel_rfl, by decide⟩
theorem ok_ref06_Same : FnOK Try.prog N_ref06_Same fn_ref06_Same := fokC h_ref06_Same Try.func69
theorem ok_ref06_SameLeases : FnOK Try.prog N_ref06_SameLeases fn_ref06_SameLeases := ⟨by kernel_rfl, Try.f70, hofB Try.f70 c_ref06_SameLeases, Try.func70, by kernel_rfl, by kernel_rfl, by kernel_rfl, by kernel_rfl, by decide⟩
theorem ok_ref05_Same : FnOK Try.prog N_ref05_Same fn_ref05_Same := ⟨by kernel_rfl, Try.f71, hofB Try.f71 c_ref05_Same, Try.func71, by kernel_rfl, by kernel_rfl, by kernel_rfl, by kernel_rfl, by decide⟩
theorem ok_ref08_Same : FnOK Try.prog N_ref08_Same fn_ref08_Same := fokC h_ref08_Same Try.func47
theorem ok_ref11_Same : FnOK Try.prog N_ref11_Same fn_ref11_Same := ⟨by kernel_rfl, Try.f48, hofB Try.f48 c_ref11_Same, Try.func48, by kernel_rfl, by kernel_rfl, by kernel_rfl, by kernel_rfl, by decide⟩
theorem ok_ref10_Same : FnOK Try.prog N_ref10_Same fn_ref10_Same := ⟨by kernel_rfl, Try.f49, hofB Try.f49 c_ref10_Same, Try.func49, by kernel_rfl, by kernel_rfl, by kernel_rfl, by kernel_rfl, by decide⟩
theorem ok_ref15_SameOutcome : FnOK Try.prog N_ref15_SameOutcome fn_ref15_SameOutcome := ⟨by kernel_rfl, Try.f50, hofB Try.f50 c_ref15_SameOutcome, Try.func50, by kernel_rfl, by kernel_rfl, by kernel_rfl, by kernel_rfl, by decide⟩
theorem ok_batch_Entries : FnOK Try.prog N_batch_Entries fn_batch_Entries := fokC h_batch_Entries Try.func16
theorem ok_ref17_Entries : FnOK Try.prog N_ref17_Entries fn_ref17_Entries := fokC h_ref17_Entries Try.func17
theorem ok_law17_awake : FnOK Try.prog N_law17_awake fn_law17_awake := ⟨by kernel_rfl, Try.f18, hofB Try.f18 c_law17_awake, Try.func18, by kernel_rfl, by kernel_rfl, by kernel_rfl, by kernel_rfl, by decide⟩
theorem ok_batch_Next : FnOK Try.prog N_batch_Next fn_batch_Next := fokC h_batch_Next Try.func31
theorem ok_slices_Clip_api_Result : FnOK Try.prog N_slices_Clip_api_Result fn_slices_Clip_api_Result := fokC h_slices_Clip_api_Result Try.func53
theorem gok : GOK Try.prog G := GOK.of tab (by
  simp only [tab, List.forall_mem_cons]
  exact ⟨ok_law17_BatchBuilt, ok_base_New, ok_base_Src_Setup, ok_base_Src_Range, ok_base_Src_N, ok_base_Src_Raw, ok_base_Src_Command, ok_base_Src_Pick, ok_base_Src_Body, ok_base_fitted, ok_batch_Start, ok_batch_in, ok_arena_New, ok_arena_in, ok_directory_New, ok_dead_New, ok_shard_Free, ok_ring_New, ok_directory_Span, ok_directory_Validate, ok_directory_tiles, ok_directory_Validate_1, ok_slices_ContainsFunc_api_Span, ok_slices_IndexFunc_api_Span, ok_directory_find, ok_directory_find_1, ok_directory_forwards, ok_shard_New, ok_shard_spans, ok_batch_Validate, ok_batch_Validate_1, ok_batch_Validate_2, ok_slices_ContainsFunc_string, ok_slices_IndexFunc_string, ok_ref17_Start, ok_ref12_New, ok_ref12_in, ok_ref10_New, ok_ref07_Free, ok_ref04_New, ok_ref07_New, ok_ref07_span, ok_ref08_New, ok_ref17_Validate, ok_ref17_in, ok_law17_same, ok_ref17_SameInvocation, ok_ref17_SameTexts, ok_ref17_SameTokens, ok_ref17_SameResults, ok_ref15_Same, ok_ref13_Same, ok_ref13_SameInts, ok_ref15_sameShards, ok_ref07_Same, ok_ref04_Same, ok_ref03_Same, ok_ref06_Same, ok_ref06_SameLeases, ok_ref05_Same, ok_ref08_Same, ok_ref11_Same, ok_ref10_Same, ok_ref15_SameOutcome, ok_batch_Entries, ok_ref17_Entries, ok_law17_awake, ok_batch_Next, ok_slices_Clip_api_Result, by simp⟩)
end Go.Proofs.Ytadnfmkdmknmhaa
