/-
  A list that was just made, handed back as a row that can be written.
  The table of functions.
  Loops, where what comes out is told by a law rather than by a function.
  Numbers, as walks need them, and counted loops.
  More facts about lists, in the forms that walks take.
  Lists that are set or cut, in the forms that walks take.
  The rewriting set of walks, whole.
-/
import Derived.Test.YtjillamaceggeaaGreatB2bf72d7
import Derived.Test.YtjillamaceggeaaGreatBeea0d7f
import Derived.KernelRfl
import Derived.Test.YtjillamaceggeaaGreatB06d9507
import Derived.IntWalk
set_option linter.unusedSimpArgs false
set_option linter.unusedVariables false
namespace Go.Sim
open Go (World Value Addr TypeId Act Ending Program)
variable {P : Program}
def accRow : AV × Heap → Option (AV × Heap)
  | (.acc 0 [], [(0, .acc 0)]) => some (.xsl [], [])
  | (.acc 0 (e :: es), [(0, .acc n)]) => if n = (e :: es).length then some (.osl 0 0 n, [(0, .row ((e :: es).map .d))]) else none
  | _ => none
def rowed (G0 : FuncId → Option AFn) (k : Nat) (f : FuncId) (args : List AV) (os : Heap) : Option (AV × Heap) :=
  if os.isEmpty = true then (callF G0 k f args os).bind accRow else none
theorem gf_row {f : FuncId} {args : List AV} {os : Heap} {es : List D} (h0 : es ≠ []) (h : GF P f args os (.acc 0 es) [(0, .acc es.length)]) : GF P f args os (.osl 0 0 es.length) [(0, .row (es.map .d))] := by
  intro w R ι us hR hι hinj hob hv
  refine (h w R ι us hR hι hinj hob hv).mono fun e w' => ?_
  rintro ⟨u, ι', R', rfl, p1, p2, p3, p4, p5, p6, p7, p8, p9, p10, p11, p12, p13⟩
  have hob := p12 _ _ (.head _)
  have hm0 : es.length ≠ 0 := fun e => h0 (List.length_eq_zero_iff.1 e)
  have hmk : mark [(0, Obj.acc es.length)] 0 = some es.length := by simp [mark, look]
  have hmk' : mark [(0, Obj.row (es.map .d))] 0 = none := by simp [mark, look]
  have key : OB w' R' ι' (mark [(0, .row (es.map .d))]) 0 (.row (es.map .d)) ∧ VA w' R' ι' (mark [(0, .row (es.map .d))]) (.osl 0 0 es.length) u := by
    generalize hme : mark [(0, Obj.acc es.length)] = me at *
    generalize hde : es = ds at p13
    cases p13 with
    | accR _ _ _ _ _ _ hlt => have := hlt _ hmk; rw [hde] at this; omega
    | acc0 => exact absurd hde h0
    | @accC _ b s m' cap _ c T hι2 hmk2 _ hL hcap hsz hb hc hel =>
      subst hde
      cases hob with
      | accN hι' => rw [hι2] at hι'; cases hι'
      | acc _ hι' hR2 hb' hs0 _ =>
        rw [hι2] at hι'; cases hι'
        refine ⟨.row hι2 hR2 hb hs0 (fun e he => ?_) ?_ fun i e hi j x hj => ?_, ?_⟩
        · obtain ⟨d, hd, rfl⟩ := List.mem_map.1 he; exact hsz d hd
        · rw [List.length_map]; exact Nat.le_trans (Nat.mul_le_mul_right _ hcap) hc
        · rw [List.getElem?_map] at hi
          obtain ⟨d, hd, rfl⟩ := Option.map_eq_some_iff.1 hi
          simp only [AV.cells, List.getElem?_map] at hj
          obtain ⟨cd, hcd, rfl⟩ := Option.map_eq_some_iff.1 hj
          obtain ⟨k1, q, k2, k3⟩ := (hel i d hd).v_of_cells j cd hcd
          exact ⟨k1, q, by rw [cell_of hb] at k2; exact k2, .d k3⟩
        · have := VA.osl (w := w') (R := R') (mk := mark [(0, Obj.row (es.map .d))]) (off := 0) (len := es.length) (cap := cap) hι2 hmk' hb hcap (by simpa using hc) hL
          simpa only [Nat.zero_mul] using this
  refine ⟨u, ι', R', rfl, p1, p2, p3, p4, p5, p6, p7, fun b hb => ?_, p9, p10, p11, fun o ob hm => ?_, key.2⟩
  · obtain ⟨q1, q2⟩ := p8 b hb
    refine ⟨q1, ?_⟩
    rcases q2 with q | q | ⟨o, s, qa, qb⟩
    · exact .inl q
    · exact .inr (.inl q)
    · exfalso
      simp only [look] at qb
      split at qb
      · cases qb
      · cases qb
  · simp only [List.mem_singleton, Prod.mk.injEq] at hm
    obtain ⟨rfl, rfl⟩ := hm
    exact key.1
theorem gf_none {f : FuncId} {args : List AV} {os : Heap} (h : GF P f args os (.acc 0 []) [(0, .acc 0)]) : GF P f args os (.xsl []) [] := by
  intro w R ι us hR hι hinj hob hv
  refine (h w R ι us hR hι hinj hob hv).mono fun e w' => ?_
  rintro ⟨u, ι', R', rfl, p1, p2, p3, p4, p5, p6, p7, p8, p9, p10, p11, p12, p13⟩
  have hmk : mark [(0, Obj.acc 0)] 0 = some 0 := by simp [mark, look]
  have hob := p12 _ _ (.head _)
  have key : ∃ a, u = .slice a 0 0 := by
    generalize hme : mark [(0, Obj.acc 0)] = me at *
    generalize hde : ([] : List D) = ds at p13
    cases p13 with
    | accR _ _ _ _ _ _ hlt => have := hlt _ hmk; omega
    | acc0 => exact ⟨_, rfl⟩
    | @accC _ b s m' cap _ c T hι2 hmk2 _ hL hcap hsz hb hc hel =>
      cases hob with
      | accN hι' => rw [hι2] at hι'; cases hι'
      | acc hpos _ _ _ _ _ => omega
  obtain ⟨a, rfl⟩ := key
  refine ⟨_, ι', R', rfl, p1, p2, p3, p4, p5, p6, p7, fun b hb => ?_, p9, p10, p11, fun o ob hm => (by simp at hm), .xsl .sl0⟩
  obtain ⟨q1, q2⟩ := p8 b hb
  refine ⟨q1, ?_⟩
  rcases q2 with q | q | ⟨o, s, qa, qb⟩
  · exact .inl q
  · exact .inr (.inl q)
  · exfalso
    simp only [look] at qb
    split at qb
    · cases qb
    · cases qb
theorem rowed_ok {G0 : FuncId → Option AFn} (hG : GOK P G0) (k : Nat) (f : FuncId) : FnOK P f (.ext (rowed G0 k f)) := by
  intro args os r os' h h1 h2
  unfold rowed at h
  split at h
  · rename_i hos
    have hos : os = [] := List.isEmpty_iff.1 hos
    subst hos
    obtain ⟨p, hp, hr⟩ := Option.bind_eq_some_iff.1 h
    obtain ⟨p1, p2⟩ := p
    obtain ⟨q1, q2, q3⟩ := callF_ok hG k f args [] p1 p2 hp h1 h2
    refine ⟨q1, ?_⟩
    unfold accRow at hr
    split at hr
    · cases hr
      rename_i he
      cases he
      exact ⟨gf_none q2, ⟨fun n hn => by simp [look] at hn, fun i hi => absurd hi (by simp), fun q hq => by simp [AV.refs] at hq, fun n ob h => by simp at h⟩⟩
    · rename_i e es n he
      cases he
      split at hr
      · rename_i hn
        cases hr
        subst hn
        refine ⟨gf_row (by simp) q2, ⟨fun n hn => ?_, fun i hi => absurd hi (by simp), fun q hq => ?_, fun n ob hm q hq => ?_⟩⟩
        · simp only [look] at hn
          split at hn
          · omega
          · cases hn
        · have : q = 0 := by
            simp only [AV.refs] at hq
            first | exact of_decide_eq_true hq | exact (of_decide_eq_true hq).symm | exact (beq_iff_eq.1 hq) | exact (beq_iff_eq.1 hq).symm
          subst this; simp [look]
        · simp only [List.mem_singleton, Prod.mk.injEq] at hm
          obtain ⟨rfl, rfl⟩ := hm
          exfalso
          simp only [Obj.refs] at hq
          generalize (e :: es) = l at hq
          induction l with
          | nil => simp [AV.refsL] at hq
          | cons x l ih => simp only [List.map_cons, AV.refsL, AV.refs, Bool.false_or] at hq; exact ih hq
      · cases hr
    · cases hr
  · cases h
def updR (G : FuncId → Option AFn) (k : Nat) (fs : List FuncId) (f : FuncId) : Option AFn := if fs.contains f then some (.ext (rowed G k f)) else G f
theorem updR_ok {G : FuncId → Option AFn} (hG : GOK P G) (k : Nat) (fs : List FuncId) : GOK P (updR G k fs) := by
  intro f fn h
  unfold updR at h
  split at h
  · cases h; exact rowed_ok hG k f
  · exact hG f fn h
def rowF (F : Sem1) (f : FuncId) (args : List AV) (os : Heap) : Option (AV × Heap) :=
  if os.isEmpty = true then (F f args os).bind accRow else none
theorem rowF_ok {F : Sem1} (hF : FOK P F) (f : FuncId) : FnOK P f (.ext (rowF F f)) := by
  intro args os r os' h h1 h2
  unfold rowF at h
  split at h
  · rename_i hos
    have hos : os = [] := List.isEmpty_iff.1 hos
    subst hos
    obtain ⟨p, hp, hr⟩ := Option.bind_eq_some_iff.1 h
    obtain ⟨p1, p2⟩ := p
    obtain ⟨q1, q2, q3⟩ := hF f args [] p1 p2 hp h1 h2
    refine ⟨q1, ?_⟩
    unfold accRow at hr
    split at hr
    · cases hr
      rename_i he
      cases he
      exact ⟨gf_none q2, ⟨fun n hn => by simp [look] at hn, fun i hi => absurd hi (by simp), fun q hq => by simp [AV.refs] at hq, fun n ob h => by simp at h⟩⟩
    · rename_i e es n he
      cases he
      split at hr
      · rename_i hn
        cases hr
        subst hn
        refine ⟨gf_row (by simp) q2, ⟨fun n hn => ?_, fun i hi => absurd hi (by simp), fun q hq => ?_, fun n ob hm q hq => ?_⟩⟩
        · simp only [look] at hn
          split at hn
          · omega
          · cases hn
        · have : q = 0 := by
            simp only [AV.refs] at hq
            first | exact of_decide_eq_true hq | exact (of_decide_eq_true hq).symm | exact (beq_iff_eq.1 hq) | exact (beq_iff_eq.1 hq).symm
          subst this; simp [look]
        · simp only [List.mem_singleton, Prod.mk.injEq] at hm
          obtain ⟨rfl, rfl⟩ := hm
          exfalso
          simp only [Obj.refs] at hq
          generalize (e :: es) = l at hq
          induction l with
          | nil => simp [AV.refsL] at hq
          | cons x l ih => simp only [List.map_cons, AV.refsL, AV.refs, Bool.false_or] at hq; exact ih hq
      · cases hr
    · cases hr
  · cases h
noncomputable def layer (G : FuncId → Option AFn) (rows done : List FuncId) (f : FuncId) : Option AFn :=
  if rows.contains f then some (.ext (rowF (callL G) f)) else if done.contains f then some (.ext (callL G f)) else G f
theorem layer_ok {G : FuncId → Option AFn} (hG : GOK P G) (rows done : List FuncId) : GOK P (layer G rows done) := by
  intro f fn h
  unfold layer at h
  split at h
  · cases h; exact rowF_ok (callL_ok hG) f
  · split at h
    · cases h; exact fun args os r os' h1 h2 h3 => callL_ok hG f args os r os' h1 h2 h3
    · exact hG f fn h
theorem layer_up {G : FuncId → Option AFn} {rows done : List FuncId} {f : FuncId} {args : List AV} {os : Heap} (h : layer G rows done f = some (.ext (callL G f))) : callL (layer G rows done) f args os = callL G f args os := by
  rw [callL_ext h]
theorem layer_row {G : FuncId → Option AFn} {rows done : List FuncId} {f : FuncId} {args : List AV} {es : List D} (h : layer G rows done f = some (.ext (rowF (callL G) f))) (h0 : es ≠ []) (hc : callL G f args [] = some (.acc 0 es, [(0, .acc es.length)])) :
    callL (layer G rows done) f args [] = some (.osl 0 0 es.length, [(0, .row (es.map .d))]) := by
  rw [callL_ext h]
  unfold rowF
  rw [if_pos (by rfl), hc]
  cases es with
  | nil => exact absurd rfl h0
  | cons e es => simp [accRow]
theorem layer_row0 {G : FuncId → Option AFn} {rows done : List FuncId} {f : FuncId} {args : List AV} (h : layer G rows done f = some (.ext (rowF (callL G) f))) (hc : callL G f args [] = some (.acc 0 [], [(0, .acc 0)])) :
    callL (layer G rows done) f args [] = some (.xsl [], []) := by
  rw [callL_ext h]
  unfold rowF
  rw [if_pos (by rfl), hc]
  simp [accRow]
end Go.Sim

namespace Go.Proofs.YtjillamaceggeaaGreat
open Go Go.Sim
def tab : List (Nat × AFn) := [(N_law07_ShardFull, fn_law07_ShardFull), (N_shard_New, fn_shard_New), (N_ring_New, fn_ring_New), (N_shard_spans, fn_shard_spans), (N_shard_Put, fn_shard_Put), (N_shard_live, fn_shard_live), (N_shard_Validate, fn_shard_Validate), (N_ring_Validate, fn_ring_Validate), (N_ring_cell, fn_ring_cell), (N_ring_list, fn_ring_list), (N_message_Validate, fn_message_Validate), (N_message_in, fn_message_in), (N_lease_Validate, fn_lease_Validate), (N_lease_time, fn_lease_time), (N_due_Validate, fn_due_Validate), (N_slices_ContainsFunc_api_Due, fn_slices_ContainsFunc_api_Due), (N_slices_IndexFunc_api_Due, fn_slices_IndexFunc_api_Due), (N_due_Validate_1, fn_due_Validate_1), (N_due_valid, fn_due_valid), (N_due_find, fn_due_find), (N_due_find_1, fn_due_find_1), (N_due_before, fn_due_before), (N_due_compare, fn_due_compare), (N_cmp_Compare_int, fn_cmp_Compare_int), (N_cmp_isNaN_int, fn_cmp_isNaN_int), (N_cmp_Or_int, fn_cmp_Or_int), (N_lease_matches, fn_lease_matches), (N_slices_Contains_api_Due, fn_slices_Contains_api_Due), (N_slices_Index_api_Due, fn_slices_Index_api_Due), (N_shard_stored, fn_shard_stored), (N_shard_messages, fn_shard_messages), (N_ring_List, fn_ring_List), (N_shard_in, fn_shard_in), (N_shard_put, fn_shard_put), (N_shard_room, fn_shard_room), (N_shard_has, fn_shard_has), (N_shard_has_1, fn_shard_has_1), (N_slices_ContainsFunc_api_Message, fn_slices_ContainsFunc_api_Message), (N_slices_IndexFunc_api_Message, fn_slices_IndexFunc_api_Message), (N_shard_own, fn_shard_own), (N_slices_Clone_api_Message, fn_slices_Clone_api_Message), (N_slices_Clone_api_Lease, fn_slices_Clone_api_Lease), (N_slices_Clone_api_Due, fn_slices_Clone_api_Due), (N_ring_PushBack, fn_ring_PushBack), (N_ring_room, fn_ring_room), (N_ring_find, fn_ring_find), (N_ring_find_1, fn_ring_find_1), (N_ring_own, fn_ring_own), (N_shard_Stored, fn_shard_Stored), (N_law07_awake, fn_law07_awake), (N_shard_Take, fn_shard_Take), (N_shard_isEpoch, fn_shard_isEpoch), (N_shard_isLimit, fn_shard_isLimit), (N_shard_isTime, fn_shard_isTime), (N_shard_isVisibility, fn_shard_isVisibility), (N_shard_usable, fn_shard_usable), (N_slices_Contains_bool, fn_slices_Contains_bool), (N_slices_Index_bool, fn_slices_Index_bool), (N_message_Receivable, fn_message_Receivable), (N_message_Purged, fn_message_Purged), (N_message_Spent, fn_message_Spent), (N_shard_deliver, fn_shard_deliver), (N_ring_Remove, fn_ring_Remove), (N_ring_take, fn_ring_take), (N_message_Deliver, fn_message_Deliver), (N_lease_Grant, fn_lease_Grant), (N_lease_find, fn_lease_find), (N_slices_BinarySearchFunc_api_Lease, fn_slices_BinarySearchFunc_api_Lease), (N_lease_find_1, fn_lease_find_1), (N_due_Push, fn_due_Push), (N_due_up, fn_due_up), (N_slices_Insert_api_Lease, fn_slices_Insert_api_Lease), (N_shard_Expire, fn_shard_Expire), (N_lease_Lapsed, fn_lease_Lapsed), (N_due_Until, fn_due_Until), (N_slices_SortFunc_api_Due, fn_slices_SortFunc_api_Due), (N_math_bits_Len, fn_math_bits_Len), (N_math_bits_Len32, fn_math_bits_Len32), (N_math_bits_Len64, fn_math_bits_Len64), (N_slices_pdqsortCmpFunc_api_Due, fn_slices_pdqsortCmpFunc_api_Due), (N_slices_insertionSortCmpFunc_api_Due, fn_slices_insertionSortCmpFunc_api_Due), (N_lease_Lapsed_1, fn_lease_Lapsed_1), (N_slices_DeleteFunc_int, fn_slices_DeleteFunc_int), (N_slices_IndexFunc_int, fn_slices_IndexFunc_int), (N_shard_release, fn_shard_release), (N_lease_Release, fn_lease_Release), (N_due_Remove, fn_due_Remove), (N_due_drop, fn_due_drop), (N_due_down, fn_due_down), (N_lease_without_api_Lease, fn_lease_without_api_Lease), (N_slices_Delete_api_Lease, fn_slices_Delete_api_Lease), (N_shard_Holds, fn_shard_Holds), (N_shard_holds, fn_shard_holds), (N_lease_Find, fn_lease_Find)]
def G0 : FuncId → Option AFn := fun f => Go.Sim.look f tab
def G : FuncId → Option AFn := updR G0 40 [N_due_Until, N_slices_Clone_api_Lease]
theorem g_law07_ShardFull : G N_law07_ShardFull = some fn_law07_ShardFull := by kernel_rfl
theorem g_shard_New : G N_shard_New = some fn_shard_New := by kernel_rfl
theorem g_ring_New : G N_ring_New = some fn_ring_New := by kernel_rfl
theorem g_shard_spans : G N_shard_spans = some fn_shard_spans := by kernel_rfl
theorem g_shard_Put : G N_shard_Put = some fn_shard_Put := by kernel_rfl
theorem g_shard_live : G N_shard_live = some fn_shard_live := by kernel_rfl
theorem g_shard_Validate : G N_shard_Validate = some fn_shard_Validate := by kernel_rfl
theorem g_ring_Validate : G N_ring_Validate = some fn_ring_Validate := by kernel_rfl
theorem g_ring_cell : G N_ring_cell = some fn_ring_cell := by kernel_rfl
theorem g_ring_list : G N_ring_list = some fn_ring_list := by kernel_rfl
theorem g_message_Validate : G N_message_Validate = some fn_message_Validate := by kernel_rfl
theorem g_message_in : G N_message_in = some fn_message_in := by kernel_rfl
theorem g_lease_Validate : G N_lease_Validate = some fn_lease_Validate := by kernel_rfl
theorem g_lease_time : G N_lease_time = some fn_lease_time := by kernel_rfl
theorem g_due_Validate : G N_due_Validate = some fn_due_Validate := by kernel_rfl
theorem g_slices_ContainsFunc_api_Due : G N_slices_ContainsFunc_api_Due = some fn_slices_ContainsFunc_api_Due := by kernel_rfl
theorem g_slices_IndexFunc_api_Due : G N_slices_IndexFunc_api_Due = some fn_slices_IndexFunc_api_Due := by kernel_rfl
theorem g_due_Validate_1 : G N_due_Validate_1 = some fn_due_Validate_1 := by kernel_rfl
theorem g_due_valid : G N_due_valid = some fn_due_valid := by kernel_rfl
theorem g_due_find : G N_due_find = some fn_due_find := by kernel_rfl
theorem g_due_find_1 : G N_due_find_1 = some fn_due_find_1 := by kernel_rfl
theorem g_due_before : G N_due_before = some fn_due_before := by kernel_rfl
theorem g_due_compare : G N_due_compare = some fn_due_compare := by kernel_rfl
theorem g_cmp_Compare_int : G N_cmp_Compare_int = some fn_cmp_Compare_int := by kernel_rfl
theorem g_cmp_isNaN_int : G N_cmp_isNaN_int = some fn_cmp_isNaN_int := by kernel_rfl
theorem g_cmp_Or_int : G N_cmp_Or_int = some fn_cmp_Or_int := by kernel_rfl
theorem g_lease_matches : G N_lease_matches = some fn_lease_matches := by kernel_rfl
theorem g_slices_Contains_api_Due : G N_slices_Contains_api_Due = some fn_slices_Contains_api_Due := by kernel_rfl
theorem g_slices_Index_api_Due : G N_slices_Index_api_Due = some fn_slices_Index_api_Due := by kernel_rfl
theorem g_shard_stored : G N_shard_stored = some fn_shard_stored := by kernel_rfl
theorem g_shard_messages : G N_shard_messages = some fn_shard_messages := by kernel_rfl
theorem g_ring_List : G N_ring_List = some fn_ring_List := by kernel_rfl
theorem g_shard_in : G N_shard_in = some fn_shard_in := by kernel_rfl
theorem g_shard_put : G N_shard_put = some fn_shard_put := by kernel_rfl
theorem g_shard_room : G N_shard_room = some fn_shard_room := by kernel_rfl
theorem g_shard_has : G N_shard_has = some fn_shard_has := by kernel_rfl
theorem g_shard_has_1 : G N_shard_has_1 = some fn_shard_has_1 := by kernel_rfl
theorem g_slices_ContainsFunc_api_Message : G N_slices_ContainsFunc_api_Message = some fn_slices_ContainsFunc_api_Message := by kernel_rfl
theorem g_slices_IndexFunc_api_Message : G N_slices_IndexFunc_api_Message = some fn_slices_IndexFunc_api_Message := by kernel_rfl
theorem g_shard_own : G N_shard_own = some fn_shard_own := by kernel_rfl
theorem g_slices_Clone_api_Message : G N_slices_Clone_api_Message = some fn_slices_Clone_api_Message := by kernel_rfl
theorem g_slices_Clone_api_Due : G N_slices_Clone_api_Due = some fn_slices_Clone_api_Due := by kernel_rfl
theorem g_ring_PushBack : G N_ring_PushBack = some fn_ring_PushBack := by kernel_rfl
theorem g_ring_room : G N_ring_room = some fn_ring_room := by kernel_rfl
theorem g_ring_find : G N_ring_find = some fn_ring_find := by kernel_rfl
theorem g_ring_find_1 : G N_ring_find_1 = some fn_ring_find_1 := by kernel_rfl
theorem g_ring_own : G N_ring_own = some fn_ring_own := by kernel_rfl
theorem g_shard_Stored : G N_shard_Stored = some fn_shard_Stored := by kernel_rfl
theorem g_law07_awake : G N_law07_awake = some fn_law07_awake := by kernel_rfl
theorem g_shard_Take : G N_shard_Take = some fn_shard_Take := by kernel_rfl
theorem g_shard_isEpoch : G N_shard_isEpoch = some fn_shard_isEpoch := by kernel_rfl
theorem g_shard_isLimit : G N_shard_isLimit = some fn_shard_isLimit := by kernel_rfl
theorem g_shard_isTime : G N_shard_isTime = some fn_shard_isTime := by kernel_rfl
theorem g_shard_isVisibility : G N_shard_isVisibility = some fn_shard_isVisibility := by kernel_rfl
theorem g_shard_usable : G N_shard_usable = some fn_shard_usable := by kernel_rfl
theorem g_slices_Contains_bool : G N_slices_Contains_bool = some fn_slices_Contains_bool := by kernel_rfl
theorem g_slices_Index_bool : G N_slices_Index_bool = some fn_slices_Index_bool := by kernel_rfl
theorem g_message_Receivable : G N_message_Receivable = some fn_message_Receivable := by kernel_rfl
theorem g_message_Purged : G N_message_Purged = some fn_message_Purged := by kernel_rfl
theorem g_message_Spent : G N_message_Spent = some fn_message_Spent := by kernel_rfl
theorem g_shard_deliver : G N_shard_deliver = some fn_shard_deliver := by kernel_rfl
theorem g_ring_Remove : G N_ring_Remove = some fn_ring_Remove := by kernel_rfl
theorem g_ring_take : G N_ring_take = some fn_ring_take := by kernel_rfl
theorem g_message_Deliver : G N_message_Deliver = some fn_message_Deliver := by kernel_rfl
theorem g_lease_Grant : G N_lease_Grant = some fn_lease_Grant := by kernel_rfl
theorem g_lease_find : G N_lease_find = some fn_lease_find := by kernel_rfl
theorem g_slices_BinarySearchFunc_api_Lease : G N_slices_BinarySearchFunc_api_Lease = some fn_slices_BinarySearchFunc_api_Lease := by kernel_rfl
theorem g_lease_find_1 : G N_lease_find_1 = some fn_lease_find_1 := by kernel_rfl
theorem g_due_Push : G N_due_Push = some fn_due_Push := by kernel_rfl
theorem g_due_up : G N_due_up = some fn_due_up := by kernel_rfl
theorem g_slices_Insert_api_Lease : G N_slices_Insert_api_Lease = some fn_slices_Insert_api_Lease := by kernel_rfl
theorem g_shard_Expire : G N_shard_Expire = some fn_shard_Expire := by kernel_rfl
theorem g_lease_Lapsed : G N_lease_Lapsed = some fn_lease_Lapsed := by kernel_rfl
theorem g_slices_SortFunc_api_Due : G N_slices_SortFunc_api_Due = some fn_slices_SortFunc_api_Due := by kernel_rfl
theorem g_math_bits_Len : G N_math_bits_Len = some fn_math_bits_Len := by kernel_rfl
theorem g_math_bits_Len32 : G N_math_bits_Len32 = some fn_math_bits_Len32 := by kernel_rfl
theorem g_math_bits_Len64 : G N_math_bits_Len64 = some fn_math_bits_Len64 := by kernel_rfl
theorem g_slices_pdqsortCmpFunc_api_Due : G N_slices_pdqsortCmpFunc_api_Due = some fn_slices_pdqsortCmpFunc_api_Due := by kernel_rfl
theorem g_slices_insertionSortCmpFunc_api_Due : G N_slices_insertionSortCmpFunc_api_Due = some fn_slices_insertionSortCmpFunc_api_Due := by kernel_rfl
theorem g_lease_Lapsed_1 : G N_lease_Lapsed_1 = some fn_lease_Lapsed_1 := by kernel_rfl
theorem g_slices_DeleteFunc_int : G N_slices_DeleteFunc_int = some fn_slices_DeleteFunc_int := by kernel_rfl
theorem g_slices_IndexFunc_int : G N_slices_IndexFunc_int = some fn_slices_IndexFunc_int := by kernel_rfl
theorem g_shard_release : G N_shard_release = some fn_shard_release := by kernel_rfl
theorem g_lease_Release : G N_lease_Release = some fn_lease_Release := by kernel_rfl
theorem g_due_Remove : G N_due_Remove = some fn_due_Remove := by kernel_rfl
theorem g_due_drop : G N_due_drop = some fn_due_drop := by kernel_rfl
theorem g_due_down : G N_due_down = some fn_due_down := by kernel_rfl
theorem g_lease_without_api_Lease : G N_lease_without_api_Lease = some fn_lease_without_api_Lease := by kernel_rfl
theorem g_slices_Delete_api_Lease : G N_slices_Delete_api_Lease = some fn_slices_Delete_api_Lease := by kernel_rfl
theorem g_shard_Holds : G N_shard_Holds = some fn_shard_Holds := by kernel_rfl
theorem g_shard_holds : G N_shard_holds = some fn_shard_holds := by kernel_rfl
theorem g_lease_Find : G N_lease_Find = some fn_lease_Find := by kernel_rfl
end Go.Proofs.YtjillamaceggeaaGreat

namespace Go.Sim
variable {G : FuncId → Option AFn}
theorem loop_indP {T : Type} {ks : List Nat} {x : ACode} (μ : T → Nat) (inv : T → Prop) (st : T → St) (Q : T → Option (AExit × St) → Prop)
    (h : ∀ t, inv t → ∀ L : St → Option (AExit × St), (∀ t', inv t' → μ t' < μ t → Q t' (L (st t'))) → Q t ((exL G x (st t)).bind (loopF ks L))) : ∀ t, inv t → Q t (loopL G ks x (st t)) := by
  intro t
  generalize hk : μ t = k
  induction k using Nat.strongRecOn generalizing t with
  | ind k ih =>
    intro hi
    rw [loopL_eq]
    exact h t hi _ fun t' hi' hlt => ih (μ t') (by omega) t' rfl hi'
end Go.Sim

namespace Go.Sim
variable {G : FuncId → Option AFn}
theorem wr {x : Int} (h : -9223372036854775808 ≤ x ∧ x < 9223372036854775808) : IntKind.i64.wrap x = x := by
  rw [Go.IntWalk.i64_in _ (by omega)]
theorem wu64 {x : Int} (h : 0 ≤ x ∧ x < 18446744073709551616) : IntKind.u64.wrap x = x := by rw [Go.IntWalk.u64_in _ (by omega)]
theorem wu32 {x : Int} (h : 0 ≤ x ∧ x < 4294967296) : IntKind.u32.wrap x = x := by rw [Go.IntWalk.u32_in _ (by omega)]
theorem wu8 {x : Int} (h : 0 ≤ x ∧ x < 256) : IntKind.u8.wrap x = x := by rw [Go.IntWalk.u8_in _ (by omega)]
theorem tdivE {x y : Int} (h : 0 ≤ x) : x.tdiv y = x / y := Int.tdiv_eq_ediv_of_nonneg h
theorem tmodE {x y : Int} (h : 0 ≤ x) : x.tmod y = x % y := Int.tmod_eq_emod_of_nonneg h
theorem beqT {b : Bool} : (b == true) = b := by cases b <;> rfl
theorem beqF {b : Bool} : (b == false) = !b := by cases b <;> rfl
theorem ltT {a b : Int} (h : a < b) : (a < b) = True := eq_true h
theorem ltF {a b : Int} (h : b ≤ a) : (a < b) = False := eq_false (by omega)
theorem leT {a b : Int} (h : a ≤ b) : (a ≤ b) = True := eq_true h
theorem leF {a b : Int} (h : b < a) : (a ≤ b) = False := eq_false (by omega)
theorem eqT {a b : Int} (h : a = b) : (a = b) = True := eq_true h
theorem eqF {a b : Int} (h : ¬ a = b) : (a = b) = False := eq_false h
theorem nltT {a b : Nat} (h : a < b) : (a < b) = True := eq_true h
theorem nltF {a b : Nat} (h : b ≤ a) : (a < b) = False := eq_false (by omega)
theorem nleT {a b : Nat} (h : a ≤ b) : (a ≤ b) = True := eq_true h
theorem nleF {a b : Nat} (h : b < a) : (a ≤ b) = False := eq_false (by omega)
theorem neqT {a b : Nat} (h : a = b) : (a = b) = True := eq_true h
theorem neqF {a b : Nat} (h : ¬ a = b) : (a = b) = False := eq_false h
theorem lenLtT {α : Type} {l : List α} {a : Nat} (h : a < l.length) : (a < l.length) = True := eq_true h
theorem lenLtF {α : Type} {l : List α} {a : Nat} (h : l.length ≤ a) : (a < l.length) = False := eq_false (by omega)
theorem lenLeT {α : Type} {l : List α} {c : Nat} (h : l.length ≤ c) : (l.length ≤ c) = True := eq_true h
theorem addLeT {a b c : Nat} (h : a + b ≤ c) : (a + b ≤ c) = True := eq_true h
theorem lenEqT {α : Type} {l : List α} {c : Nat} (h : l.length = c) : (l.length = c) = True := eq_true h
theorem lim_eq : LIM = 4294967296 := rfl
theorem mapGet {α β : Type} {f : α → β} {l : List α} {k : Nat} (h : k < l.length) : (l.map f)[k]? = some (f (l[k]'h)) := by
  rw [List.getElem?_map, List.getElem?_eq_getElem h]; rfl
theorem toNat_add1 {k : Nat} : ((k : Int) + 1).toNat = k + 1 := by omega
theorem cast_add1 {k : Nat} : ((k : Int) + 1) = ((k + 1 : Nat) : Int) := by omega
def itR {σ : Type} (stp : Nat → σ → (AExit × St) ⊕ σ) (fin : σ → AExit × St) : Nat → Nat → σ → AExit × St
  | _, 0, s => fin s
  | k, m + 1, s => match stp k s with | .inl r => r | .inr s' => itR stp fin (k + 1) m s'
theorem loop_it {σ : Type} {ks : List Nat} {x : ACode} (n : Nat) (st : Nat → σ → St) (inv : Nat → σ → Prop) (stp : Nat → σ → (AExit × St) ⊕ σ) (fin : σ → AExit × St)
    (h : ∀ k s, k ≤ n → inv k s → ∀ L : St → Option (AExit × St), (exL G x (st k s)).bind (loopF ks L) = if k < n then (match stp k s with | .inl r => some r | .inr s' => L (st (k + 1) s')) else some (fin s))
    (hi : ∀ k s s', k < n → inv k s → stp k s = .inr s' → inv (k + 1) s') : ∀ k s, k ≤ n → inv k s → loopL G ks x (st k s) = some (itR stp fin k (n - k) s) := by
  intro k s
  generalize hm : n - k = m
  induction m generalizing k s with
  | zero =>
    intro h1 h2
    rw [loopL_eq, h k s h1 h2, if_neg (by omega)]
    rfl
  | succ m ih =>
    intro h1 h2
    rw [loopL_eq, h k s h1 h2, if_pos (by omega)]
    simp only [itR]
    cases he : stp k s with
    | inl r => rfl
    | inr s' => exact ih (k + 1) s' (by omega) (by omega) (hi k s s' (by omega) h2 he)
theorem loop_all {ks : List Nat} {x : ACode} (n : Nat) (p : Nat → Bool) (st : Nat → St) (R fin : AExit × St)
    (h : ∀ k, k ≤ n → ∀ L : St → Option (AExit × St), (exL G x (st k)).bind (loopF ks L) = if k < n then (if p k = true then L (st (k + 1)) else some R) else some fin) :
    loopL G ks x (st 0) = some (if (List.range n).all p = true then fin else R) := by
  have key : ∀ m k, k + m = n → loopL G ks x (st k) = some (if ((List.range' k m).all p) = true then fin else R) := by
    intro m
    induction m with
    | zero =>
      intro k hk
      rw [loopL_eq, h k (by omega), if_neg (by omega)]
      rfl
    | succ m ih =>
      intro k hk
      rw [loopL_eq, h k (by omega), if_pos (by omega), List.range'_succ, List.all_cons, ih (k + 1) (by omega)]
      cases p k <;> rfl
  have := key n 0 (by omega)
  rwa [← List.range_eq_range'] at this
theorem all_eq {α : Type} [DecidableEq α] {a b : List α} (h : a.length = b.length) : ((List.range a.length).all fun k => decide (a[k]? = b[k]?)) = decide (a = b) := by
  by_cases e : a = b
  · subst e; simp
  · rw [decide_eq_false e]
    apply Bool.eq_false_iff.2
    intro hh
    apply e
    rw [List.all_eq_true] at hh
    apply List.ext_getElem?
    intro k
    by_cases hk : k < a.length
    · simpa using hh k (List.mem_range.2 hk)
    · rw [List.getElem?_eq_none (by omega), List.getElem?_eq_none (by omega)]
theorem get_eq {α : Type} [DecidableEq α] {a b : List α} {k : Nat} (ha : k < a.length) (hb : k < b.length) : decide (a[k]? = b[k]?) = decide (a[k] = b[k]) := by
  rw [List.getElem?_eq_getElem ha, List.getElem?_eq_getElem hb]; simp
def findR {α : Type} (n : Nat) (p : Nat → Bool) (R : Nat → α) (fin : α) : α := match (List.range n).find? p with | some k => R k | none => fin
theorem loop_find {ks : List Nat} {x : ACode} (n : Nat) (p : Nat → Bool) (st : Nat → St) (R : Nat → AExit × St) (fin : AExit × St)
    (h : ∀ k, k ≤ n → ∀ L : St → Option (AExit × St), (exL G x (st k)).bind (loopF ks L) = if k < n then (if p k = true then some (R k) else L (st (k + 1))) else some fin) :
    loopL G ks x (st 0) = some (findR n p R fin) := by
  have key : ∀ m k, k + m = n → loopL G ks x (st k) = some (match (List.range' k m).find? p with | some k => R k | none => fin) := by
    intro m
    induction m with
    | zero =>
      intro k hk
      rw [loopL_eq, h k (by omega), if_neg (by omega)]
      rfl
    | succ m ih =>
      intro k hk
      rw [loopL_eq, h k (by omega), if_pos (by omega), List.range'_succ, List.find?_cons, ih (k + 1) (by omega)]
      cases p k <;> rfl
  have := key n 0 (by omega)
  rwa [← List.range_eq_range'] at this
def idxI {α : Type} (p : α → Bool) (es : List α) : Int := match es.findIdx? p with | some i => i | none => -1
def atB {α : Type} (l : List α) (p : α → Bool) (k : Nat) : Bool := match l[k]? with | some a => p a | none => false
theorem find_range {α : Type} (l : List α) (p : α → Bool) : (List.range l.length).find? (atB l p) = l.findIdx? p := by
  have key : ∀ (m k : Nat), k + m = l.length → (List.range' k m).find? (atB l p) = ((l.drop k).findIdx? p).map (k + ·) := by
    intro m
    induction m with
    | zero => intro k hk; rw [List.drop_of_length_le (by omega)]; rfl
    | succ m ih =>
      intro k hk
      rw [List.range'_succ, List.find?_cons, List.drop_eq_getElem_cons (show k < l.length by omega), List.findIdx?_cons, ih (k + 1) (by omega)]
      have : atB l p k = p (l[k]'(by omega)) := by unfold atB; rw [List.getElem?_eq_getElem (by omega)]
      rw [this]
      cases p (l[k]'(by omega)) with
      | true => simp
      | false =>
        cases (l.drop (k + 1)).findIdx? p with
        | none => rfl
        | some i => simp; omega
  have := key l.length 0 (by omega)
  rw [← List.range_eq_range'] at this
  rw [this, List.drop_zero]
  cases l.findIdx? p <;> simp only [Option.map_none, Option.map_some, Nat.zero_add]
theorem atB_at {α : Type} {l : List α} {p : α → Bool} {k : Nat} (h : k < l.length) : atB l p k = p l[k] := by
  unfold atB; rw [List.getElem?_eq_getElem h]
theorem findR_idx {α β : Type} (l : List α) (p : α → Bool) (R : Nat → β) (fin : β) : findR l.length (atB l p) R fin = match l.findIdx? p with | some k => R k | none => fin := by
  unfold findR; rw [find_range]
theorem idxI_any {α : Type} (l : List α) (p : α → Bool) : decide (0 ≤ idxI p l) = l.any p := by
  unfold idxI
  cases h : l.findIdx? p with
  | none => simp at h; simpa using h
  | some i =>
    have := List.findIdx?_eq_some_iff_getElem.1 h
    simp
    exact ⟨_, List.getElem_mem this.1, this.2.1⟩
theorem idxI_lt {α : Type} (l : List α) (p : α → Bool) : -1 ≤ idxI p l ∧ idxI p l < l.length := by
  unfold idxI
  cases e : l.findIdx? p with
  | none => simp only; omega
  | some i => have := (List.findIdx?_eq_some_iff_getElem.1 e).1; simp only; omega
theorem idxI_some {α : Type} {l : List α} {p : α → Bool} {i : Nat} (h : idxI p l = i) : ∃ hi : i < l.length, p (l[i]) = true ∧ ∀ j (hj : j < i), p (l[j]'(by omega)) = false := by
  unfold idxI at h
  cases e : l.findIdx? p with
  | none => rw [e] at h; simp only at h; omega
  | some k =>
    rw [e] at h
    simp only at h
    obtain rfl : k = i := by omega
    obtain ⟨h1, h2, h3⟩ := List.findIdx?_eq_some_iff_getElem.1 e
    exact ⟨h1, h2, fun j hj => by have := h3 j hj; simpa using this⟩
theorem idxI_neg {α : Type} (l : List α) (p : α → Bool) : idxI p l < 0 ↔ ∀ a ∈ l, p a = false := by
  have := idxI_any l p
  have h2 : l.any p = false ↔ ∀ a ∈ l, p a = false := by simp
  rw [← h2, ← this]
  simp
theorem idxI_m1 {α : Type} (l : List α) (p : α → Bool) : idxI p l < 0 ↔ idxI p l = -1 := by have := idxI_lt l p; omega
end Go.Sim

namespace Go.Sim
theorem getDT {α : Type} {l : List α} {k : Nat} {d : α} (h : k < l.length) : l.getD k d = l[k]'h := by
  rw [List.getD_eq_getElem?_getD, List.getElem?_eq_getElem h]; rfl
theorem getQT {α : Type} {l : List α} {k : Nat} (h : k < l.length) : l[k]? = some (l[k]'h) := List.getElem?_eq_getElem h
theorem takeT {α : Type} {l : List α} {k : Nat} (h : l.length ≤ k) : l.take k = l := List.take_of_length_le h
theorem setMap {α β : Type} {f : α → β} {l : List α} {k : Nat} {x : α} : (l.map f).set k (f x) = (l.set k x).map f := by rw [List.map_set]
theorem mapGet2 {α β γ : Type} {f : α → β} {g : β → γ} {l : List α} {k : Nat} (h : k < l.length) : ((l.map f).map g)[k]? = some (g (f (l[k]'h))) := by
  rw [List.map_map, List.getElem?_map, List.getElem?_eq_getElem h]; rfl
theorem lenSet {α : Type} {l : List α} {k : Nat} {x : α} : (l.set k x).length = l.length := List.length_set
theorem setGetEq {α : Type} {l : List α} {k : Nat} {x : α} (h : k < l.length) : (l.set k x)[k]? = some x := by rw [List.getElem?_set_self h]
theorem mapSet {α : Type} {f : α → D} {l : List α} {k : Nat} {x : α} : (l.set k x).map f = (l.map f).set k (f x) := by rw [List.map_set]
theorem setD {ds : List D} {k : Nat} {x : D} : (ds.map AV.d).set k (.d x) = (ds.set k x).map AV.d := by rw [List.map_set]
theorem iteC {α : Type} {c : Prop} [Decidable c] {A B r : α} (h1 : c → A = r) (h2 : ¬ c → B = r) : (if c then A else B) = r := by split <;> simp_all
end Go.Sim

namespace Go.Sim
theorem takeMapD {ds : List D} {n : Nat} : (ds.map AV.d).take n = (ds.take n).map AV.d := by rw [List.map_take]
theorem dropMapD {ds : List D} {n : Nat} : (ds.map AV.d).drop n = (ds.drop n).map AV.d := by rw [List.map_drop]
theorem takeSetM {α : Type} {f : α → D} {l : List α} {n k : Nat} {x : D} (h : l.length ≤ n) : ((l.map f).set k x).take n = (l.map f).set k x := List.take_of_length_le (by simpa using h)
theorem takeM {α : Type} {f : α → D} {l : List α} {n : Nat} (h : l.length ≤ n) : (l.map f).take n = l.map f := List.take_of_length_le (by simpa using h)
theorem refsLd {o : Nat} {ds : List D} : AV.refsL o (ds.map .d) = false := refsL_d
theorem iteR {α : Type} {c : Prop} [Decidable c] {A B r : α} (h1 : c → r = A) (h2 : ¬ c → r = B) : r = if c then A else B := by split <;> simp_all
end Go.Sim

namespace Go.Sim
attribute [go_sem ↓] reduceIte
attribute [go_sem] reduceCtorEq Nat.reduceEqDiff Nat.reduceAdd Nat.reduceBEq Nat.reduceMul Nat.reduceLeDiff Nat.reduceSub Nat.reduceLT Nat.reduceDiv Nat.reduceMod List.reduceReplicate Int.reduceEq Int.reduceLT Int.reduceLE Int.reduceAdd Int.reduceSub Int.reduceMul Int.reduceNeg Int.reduceToNat
attribute [go_sem] toNat_add1 takeMapD dropMapD takeSetM takeM lenSet mapSet setD mapGet2 wr or_self or_false false_or true_or or_true false_and and_false Int.natCast_mul Int.cast_ofNat_Int Int.natCast_zero List.length_append lim_eq wu64 wu32 wu8 Bool.true_beq Bool.false_beq beqT beqF Int.natCast_add Int.natCast_one ltT ltF leT leF eqT eqF lenLtT lenLtF lenLeT addLeT lenEqT mapGet Int.toNat_natCast Int.natCast_nonneg List.length_map
theorem pA {a b : Bool} : ((a || b) = true) = (a = true ∨ b = true) := Bool.or_eq_true a b
theorem pB {a b : Bool} : ((a && b) = true) = (a = true ∧ b = true) := Bool.and_eq_true a b
theorem pC {p : Prop} [Decidable p] : (decide p = true) = p := decide_eq_true_eq
theorem pD {a : Bool} : ((!a) = true) = (a = false) := Bool.not_eq_true' a
theorem pE {p : Prop} [Decidable p] : (decide p = false) = ¬ p := by simp
theorem pF {p q : Prop} : (¬ (p ∨ q)) = (¬ p ∧ ¬ q) := by simp
theorem pG {a b : Int} : (¬ a < b) = (b ≤ a) := by simp
theorem pH {a b : Int} : (¬ a ≤ b) = (b < a) := by simp
theorem pI {a b : Nat} : (¬ a < b) = (b ≤ a) := by simp
theorem pJ {a b : Nat} : (¬ a ≤ b) = (b < a) := by simp
theorem pK {a b : Bool} : ((a || b) = false) = (a = false ∧ b = false) := by simp
theorem pL {a b : Bool} : ((a && b) = false) = (a = false ∨ b = false) := by cases a <;> cases b <;> simp
theorem pM {a : Bool} : ((!a) = false) = (a = true) := by simp
theorem pN : (true = false) = False := by simp
theorem pO : (false = true) = False := by simp
theorem pP {p : Prop} : (¬ ¬ p) = p := by simp
end Go.Sim
