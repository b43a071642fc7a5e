/-
  What a call looks at and writes.
  Regions that draw their order, and code: what it does to abstract states.
-/
import Derived.Test.YtadnfmkdmknmhaaBb3f4c20
import Derived.Orders
set_option linter.unusedSimpArgs false
set_option linter.unusedVariables false
namespace Go.Sim
open Go (World Value Addr TypeId Act)
variable {P : Program} {C : Ctx}
def fr4 (dst : Nat) : List Nat := [dst, dst + 10000, dst + 20000, dst + 30000]
def callFeet0 (H : Heap) (dst : Nat) (ms : List Bool) (args : List AV) : List Nat × List Nat :=
  (namesOf H ms args ++ (dataObjs ms args ++ fr4 dst), namesOf H ms args ++ fr4 dst)
theorem objsL_d {cs : List D} : AV.objsL (cs.map .d) = [] := by
  induction cs with
  | nil => rfl
  | cons x xs ih => simp [AV.objsL, AV.objs, ih]
theorem toD_same {H H2 : Heap} : ∀ {x : AV}, (∀ o ∈ x.objs, look o H2 = look o H) → toD H2 x = toD H x := by
  intro x
  refine AV.rec (motive_1 := fun x => (∀ o ∈ x.objs, look o H2 = look o H) → toD H2 x = toD H x) (motive_2 := fun xs => (∀ o ∈ AV.objsL xs, look o H2 = look o H) → toD.toDs H2 xs = toD.toDs H xs) ?_ ?_ ?_ ?_ ?_ ?_ ?_ ?_ ?_ ?_ ?_ ?_ ?_ ?_ x
  · intro _ _; rfl
  · intro o i off h
    cases off with
    | zero => simp only [toD]; rw [h o (by simp [AV.objs])]
    | succ n => simp [toD]
  · intro o off len h; simp only [toD]; rw [h o (by simp [AV.objs])]
  · intro _ _ _; rfl
  · intro _ _ _; rfl
  · intro _ _; rfl
  · intro cs ih h; simp only [toD]; rw [ih (by simpa [AV.objs] using h)]
  · intro cs ih h; simp only [toD]; rw [ih (by simpa [AV.objs] using h)]
  · intro f cs ih h; simp only [toD]; rw [ih (by simpa [AV.objs] using h)]
  · intro _ _; rfl
  · intro _ _; rfl
  · intro _; rfl
  · intro _; rfl
  · intro y ys h1 h2 h
    simp only [toD.toDs]
    rw [h1 fun o ho => h o (by simp [AV.objsL, ho]), h2 fun o ho => h o (by simp [AV.objsL, ho])]
theorem callArgs_same {H H2 : Heap} : ∀ {ms : List Bool} {xs : List AV}, (∀ o ∈ dataObjs ms xs, look o H2 = look o H) → callArgs H2 ms xs = callArgs H ms xs := by
  intro ms xs
  induction xs generalizing ms with
  | nil => intro _; cases ms <;> rfl
  | cons x xs ih =>
    intro h
    match ms with
    | [] =>
      simp only [callArgs]
      rw [toD_same fun o ho => h o (by simp [dataObjs, ho]), ih fun o ho => h o (by simp [dataObjs, ho])]
    | false :: ms =>
      simp only [callArgs]
      rw [toD_same fun o ho => h o (by simp [dataObjs, ho]), ih fun o ho => h o (by simp [dataObjs, ho])]
    | true :: ms =>
      simp only [callArgs]
      rw [ih fun o ho => h o (by simp [dataObjs, ho])]
theorem reach_same {H H2 : Heap} {ns : List Nat} (h : ∀ o ∈ ns, look o H2 = look o H) : reach H2 ns = reach H ns := by
  unfold reach
  congr 1
  have : ∀ l : List Nat, (∀ o ∈ l, look o H2 = look o H) → l.flatMap (rowObjs H2) = l.flatMap (rowObjs H) := by
    intro l
    induction l with
    | nil => intro _; rfl
    | cons o l ih =>
      intro hl
      simp only [List.flatMap_cons]
      rw [ih fun q hq => hl q (.tail _ hq)]
      congr 1
      simp only [rowObjs, hl o (.head _)]
  exact this ns h
theorem namesOf_same {H H2 : Heap} {ms : List Bool} {args : List AV} (h : ∀ o ∈ namesOf H ms args, look o H2 = look o H) : namesOf H2 ms args = namesOf H ms args := by
  have h1 : ∀ o ∈ reach H (addNew [] (keptObjs ms args)), look o H2 = look o H := fun o ho => h o (addNew_sub _ _ ho)
  have h0 : ∀ o ∈ addNew [] (keptObjs ms args), look o H2 = look o H := fun o ho => h1 o (addNew_sub _ _ ho)
  unfold namesOf
  rw [reach_same h0, reach_same h1]
theorem callA0_local {F : Sem1} (hF : FOK P F) {E : Env} {H : Heap} {dst : Nat} {ms : List Bool} {f : FuncId} {args : List AV} {v : AV} {δ : Heap} (h : callA0 F E H dst ms f args = some (v, δ)) {E2 : Env} {H2 : Heap} (hh : ∀ o ∈ (callFeet0 H dst ms args).1, look o H2 = look o H) (hf : ∀ n ∈ fr4 dst, refsEnv n E2 = false ∧ refsHeap n H2 = false) :
    callA0 F E2 H2 dst ms f args = some (v, δ) := by
  unfold callA0 at h ⊢
  have hns : ∀ o ∈ namesOf H ms args, look o H2 = look o H := fun o ho => hh o (by simp [callFeet0, ho])
  have hds : ∀ o ∈ dataObjs ms args, look o H2 = look o H := fun o ho => hh o (by simp [callFeet0, ho])
  rw [namesOf_same hns, callArgs_same hds]
  obtain ⟨as, has, h⟩ := Option.bind_eq_some_iff.1 h
  rw [has, Option.bind_some]
  have hnod : (namesOf H ms args).Nodup := namesOf_nodup _ _ _
  unfold callB at h ⊢
  have hok : okNames H2 (namesOf H ms args) = okNames H (namesOf H ms args) := by
    unfold okNames
    rw [Bool.eq_iff_iff, List.all_eq_true, List.all_eq_true]
    constructor
    · intro hx o ho; have := hx o ho; rw [hns o ho] at this; exact this
    · intro hx o ho; rw [hns o ho]; exact hx o ho
  have hos : osOf H2 (namesOf H ms args) = osOf H (namesOf H ms args) := by
    unfold osOf
    exact List.map_congr_left fun o ho => by rw [hns o ho]
  rw [hok, hos]
  split at h
  · rename_i hc
    rw [if_pos hc]
    obtain ⟨⟨r, os'⟩, hf', h⟩ := Option.bind_eq_some_iff.1 h
    rw [hf', Option.bind_some]
    simp only [Bool.and_eq_true] at hc
    obtain ⟨_, _, hWF⟩ := hF f _ _ r os' hf' (fun ⟨n, ob⟩ hm => by
      obtain ⟨o, ho, _, h2⟩ := mem_osOf hm
      have := List.all_eq_true.1 hc.1 o ho
      split at this
      · rename_i es hes; exact ⟨_, by rw [h2, hes]; rfl⟩
      · cases this) (fun i p hp => (osOf_get hnod i p hp).1)
    unfold callC at h ⊢
    split at h
    · rename_i hc2
      simp only [Bool.and_eq_true] at hc2
      have : freshOK E2 H2 dst (namesOf H ms args) os' = true := by
        refine List.all_eq_true.2 fun p hp => ?_
        have h1 := List.all_eq_true.1 hc2.1 p hp
        simp only [Bool.or_eq_true, Bool.and_eq_true, decide_eq_true_eq] at h1 ⊢
        rcases h1 with h1 | h1
        · exact .inl h1
        · rcases hWF.names p.1 (isSome_of_mem (x := p.2) hp) with h2 | ⟨h2, _⟩
          · have hm : dst + 10000 * p.1 ∈ fr4 dst := by
              have : p.1 = 0 ∨ p.1 = 1 ∨ p.1 = 2 ∨ p.1 = 3 := by omega
              rcases this with h | h | h | h <;> simp [fr4, h]
            obtain ⟨h3, h4⟩ := hf _ hm
            exact .inr ⟨⟨by simp [h3], by simp [h4]⟩, h1.2⟩
          · exact .inl h2
      rw [if_pos (by simp only [Bool.and_eq_true]; exact ⟨this, hc2.2⟩)]
      exact h
    · cases h
  · cases h
theorem renAV_refs {ρ : Nat → Nat} {x : AV} {o : Nat} (h : (x.ren ρ).refs o = true) : ∃ q, x.refs q = true ∧ o = ρ q := by
  have key : ∀ x : AV, (x.ren ρ).refs o = true → ∃ q, x.refs q = true ∧ o = ρ q := by
    intro x
    refine AV.rec (motive_1 := fun x => (x.ren ρ).refs o = true → ∃ q, x.refs q = true ∧ o = ρ q) (motive_2 := fun xs => AV.refsL o (AV.renL ρ xs) = true → ∃ q, AV.refsL q xs = true ∧ o = ρ q) ?_ ?_ ?_ ?_ ?_ ?_ ?_ ?_ ?_ ?_ ?_ ?_ ?_ ?_ x
    · intro _ h; simp [AV.ren, AV.refs] at h
    · intro p i off h; simp only [AV.ren, AV.refs, beq_iff_eq] at h; exact ⟨p, by simp [AV.refs], h.symm⟩
    · intro p i off h; simp only [AV.ren, AV.refs, beq_iff_eq] at h; exact ⟨p, by simp [AV.refs], h.symm⟩
    · intro p es h; simp only [AV.ren, AV.refs, beq_iff_eq] at h; exact ⟨p, by simp [AV.refs], h.symm⟩
    · intro p y h; simp only [AV.ren, AV.refs, beq_iff_eq] at h; exact ⟨p, by simp [AV.refs], h.symm⟩
    · intro _ h; simp [AV.ren, AV.refs] at h
    · intro cs ih h; exact ih h
    · intro cs ih h; exact ih h
    · intro f cs ih h; exact ih h
    · intro _ h; simp [AV.ren, AV.refs] at h
    · intro p h; simp only [AV.ren, AV.refs, beq_iff_eq] at h; exact ⟨p, by simp [AV.refs], h.symm⟩
    · intro h; simp [AV.ren, AV.refs] at h
    · intro h; simp [AV.renL, AV.refsL] at h
    · intro y ys h1 h2 h
      simp only [AV.renL, AV.refsL, Bool.or_eq_true] at h
      rcases h with h | h
      · obtain ⟨q, k1, k2⟩ := h1 h; exact ⟨q, by simp [AV.refsL, k1], k2⟩
      · obtain ⟨q, k1, k2⟩ := h2 h; exact ⟨q, by simp [AV.refsL, k1], k2⟩
  exact key x h
theorem renL_refs {ρ : Nat → Nat} {xs : List AV} {o : Nat} (h : AV.refsL o (xs.map (AV.ren ρ)) = true) : ∃ q, AV.refsL q xs = true ∧ o = ρ q := by
  induction xs with
  | nil => simp [AV.refsL] at h
  | cons x xs ih =>
    simp only [List.map_cons, AV.refsL, Bool.or_eq_true] at h
    rcases h with h | h
    · obtain ⟨q, k1, k2⟩ := renAV_refs h; exact ⟨q, by simp [AV.refsL, k1], k2⟩
    · obtain ⟨q, k1, k2⟩ := ih h; exact ⟨q, by simp [AV.refsL, k1], k2⟩
theorem callA0_names {F : Sem1} (hF : FOK P F) {E : Env} {H : Heap} {dst : Nat} {ms : List Bool} {f : FuncId} {args : List AV} {v : AV} {δ : Heap} (h : callA0 F E H dst ms f args = some (v, δ)) :
    (∀ p ∈ δ, p.1 ∈ (callFeet0 H dst ms args).2) ∧ (∀ o, v.refs o = true → o ∈ (callFeet0 H dst ms args).2) ∧ (∀ p ∈ δ, ∀ o, p.2.refs o = true → o ∈ (callFeet0 H dst ms args).2) := by
  unfold callA0 at h
  obtain ⟨as, has, h⟩ := Option.bind_eq_some_iff.1 h
  have hnod : (namesOf H ms args).Nodup := namesOf_nodup _ _ _
  simp only [callFeet0]
  generalize namesOf H ms args = ns at *
  unfold callB at h
  split at h
  · rename_i hc
    simp only [Bool.and_eq_true] at hc
    obtain ⟨⟨r, os'⟩, hf, h⟩ := Option.bind_eq_some_iff.1 h
    obtain ⟨_, _, hW⟩ := hF f _ _ r os' hf (fun ⟨n, ob⟩ hm => by
      obtain ⟨o, ho, _, h2⟩ := mem_osOf hm
      have := List.all_eq_true.1 hc.1 o ho
      split at this
      · rename_i es hes; exact ⟨_, by rw [h2, hes]; rfl⟩
      · cases this) (fun i p hp => (osOf_get hnod i p hp).1)
    unfold callC at h
    split at h
    · cases h
      have hnl : (osOf H ns).length = ns.length := by simp [osOf]
      rw [hnl] at hW
      have hname : ∀ n, (look n os').isSome = true → toCaller ns dst n ∈ ns ++ fr4 dst := fun n hn => by
        simp only [List.mem_append]
        rcases hW.names n hn with h1 | ⟨h1, h2⟩
        · right
          have h3 : toCaller ns dst n = dst + 10000 * n := by simp only [toCaller]; rw [if_pos (by omega)]
          rw [h3]
          have : n = 0 ∨ n = 1 ∨ n = 2 ∨ n = 3 := by omega
          rcases this with h | h | h | h <;> simp [fr4, h]
        · left
          simp only [toCaller]
          rw [if_neg (by omega), List.getD_eq_getElem?_getD, List.getElem?_eq_getElem (by omega)]
          simp
      refine ⟨fun p hp => ?_, fun o ho => ?_, fun p hp o ho => ?_⟩
      · obtain ⟨⟨n, ob⟩, hm, rfl⟩ := List.mem_map.1 hp
        exact hname n (isSome_of_mem hm)
      · obtain ⟨q, h1, rfl⟩ := renAV_refs ho
        exact hname q (hW.res q h1)
      · obtain ⟨⟨n, ob⟩, hm, rfl⟩ := List.mem_map.1 hp
        cases ob with
        | acc n => simp [Obj.ren, Obj.refs] at ho
        | frz m => simp [Obj.ren, Obj.refs] at ho
        | mp m => simp [Obj.ren, Obj.refs] at ho
        | row es =>
          simp only [Obj.ren, Obj.refs] at ho
          obtain ⟨q, h1, rfl⟩ := renL_refs ho
          exact hname q (hW.resH n _ hm q h1)
    · cases h
  · cases h
theorem keptObjs_refs {ms : List Bool} {args : List AV} {o : Nat} (h : o ∈ keptObjs ms args) : AV.refsL o args = true := by
  induction args generalizing ms with
  | nil => cases ms <;> simp [keptObjs] at h
  | cons x xs ih =>
    match ms with
    | [] => simp [keptObjs] at h
    | false :: ms => simp only [keptObjs] at h; simp [AV.refsL, ih h]
    | true :: ms =>
      simp only [keptObjs, List.mem_append] at h
      rcases h with h | h
      · simp [AV.refsL, refs_iff_objs h]
      · simp [AV.refsL, ih h]
theorem addNew_mem_inv : ∀ (xs ns : List Nat) {o : Nat}, o ∈ addNew ns xs → o ∈ ns ∨ o ∈ xs := by
  intro xs
  induction xs with
  | nil => intro ns o h; exact .inl h
  | cons x xs ih =>
    intro ns o h
    simp only [addNew] at h
    split at h
    · rcases ih _ h with h | h
      · exact .inl h
      · exact .inr (.tail _ h)
    · rcases ih _ h with h | h
      · simp at h
        rcases h with h | h
        · exact .inl h
        · exact .inr (by simp [h])
      · exact .inr (.tail _ h)
theorem reach_inv {H : Heap} {ns : List Nat} {o : Nat} (h : o ∈ reach H ns) : o ∈ ns ∨ refsHeap o H = true := by
  rcases addNew_mem_inv _ _ h with h | h
  · exact .inl h
  · obtain ⟨q, _, hq⟩ := List.mem_flatMap.1 h
    simp only [rowObjs] at hq
    split at hq
    · rename_i es hes
      right
      cases hr : refsHeap o H with
      | true => rfl
      | false =>
        have := refsHeap_mem (look_mem hes) hr
        have h2 : AV.refsL o es = true := refs_iff_objs (x := .agg es) hq
        simp only [Obj.refs] at this
        rw [h2] at this; cases this
    · cases hq
theorem namesOf_fresh {H : Heap} {ms : List Bool} {args : List AV} {o : Nat} (h1 : AV.refsL o args = false) (h2 : refsHeap o H = false) : o ∉ namesOf H ms args := by
  intro h
  have no : ∀ {ns : List Nat}, o ∈ reach H ns → o ∈ ns := fun h => (reach_inv h).resolve_right (by simp [h2])
  rcases addNew_mem_inv _ _ (no (no h)) with h | h
  · cases h
  · rw [keptObjs_refs h] at h1; cases h1
def callFeet (H : Heap) (dst : Nat) (ms : List Bool) (args : List AV) : List Nat × List Nat :=
  if frzF ms args.length = true then
    ((callFeet0 H dst ms args).1 ++ (callFeet0 (putsH (frzL H (dataObjs ms args)) H) dst ms ((callArgs H ms args).getD [])).1,
      (callFeet0 (putsH (frzL H (dataObjs ms args)) H) dst ms ((callArgs H ms args).getD [])).2 ++ dataObjs ms args)
  else callFeet0 H dst ms args
theorem refsHeap_putsH {o : Nat} {δ H : Heap} (h1 : ∀ p ∈ δ, p.2.refs o = false) (h2 : refsHeap o H = false) : refsHeap o (putsH δ H) = false := by
  induction δ with
  | nil => exact h2
  | cons p δ ih =>
    obtain ⟨q, ob⟩ := p
    exact refsHeap_setAt (ih fun r hr => h1 r (.tail _ hr)) (h1 _ (.head _))
theorem callA_local {F : Sem1} (hF : FOK P F) {E : Env} {H : Heap} {dst : Nat} {ms : List Bool} {f : FuncId} {args : List AV} {v : AV} {δ : Heap} (h : callA F E H dst ms f args = some (v, δ)) {E2 : Env} {H2 : Heap} (hh : ∀ o ∈ (callFeet H dst ms args).1, look o H2 = look o H) (hf : ∀ n ∈ fr4 dst, refsEnv n E2 = false ∧ refsHeap n H2 = false) :
    callA F E2 H2 dst ms f args = some (v, δ) := by
  unfold callA at h ⊢
  unfold callFeet at hh
  split at h
  · rename_i hz
    rw [if_pos hz] at hh ⊢
    have hds : ∀ o ∈ dataObjs ms args, look o H2 = look o H := fun o ho => hh o (by simp [callFeet0, ho])
    obtain ⟨as, has, h⟩ := Option.bind_eq_some_iff.1 h
    rw [has] at hh
    rw [callArgs_same hds, has, Option.bind_some]
    unfold frzB at h ⊢
    have hok : frzOk H2 (dataObjs ms args) = frzOk H (dataObjs ms args) := by
      unfold frzOk
      rw [Bool.eq_iff_iff, List.all_eq_true, List.all_eq_true]
      exact ⟨fun hx o ho => by have := hx o ho; rw [hds o ho] at this; exact this, fun hx o ho => by rw [hds o ho]; exact hx o ho⟩
    have hfz : frzL H2 (dataObjs ms args) = frzL H (dataObjs ms args) := by
      unfold frzL
      refine List.map_congr_left fun o ho => ?_
      unfold mark; rw [hds o ho]
    rw [hok, hfz]
    split at h
    · rename_i hk
      rw [if_pos hk]
      obtain ⟨⟨v', δ'⟩, h1, h2⟩ := Option.map_eq_some_iff.1 h
      cases h2
      rw [callA0_local hF h1 (E2 := E2) (H2 := putsH (frzL H (dataObjs ms args)) H2) (fun o ho => ?_) (fun n hn => ⟨(hf n hn).1, ?_⟩)]
      · rfl
      · rw [look_putsH, look_putsH, hh o (by simp [ho])]
      · rw [← hfz]
        exact refsHeap_putsH (fun p hp => by obtain ⟨q, _, rfl⟩ := List.mem_map.1 hp; rfl) (hf n hn).2
    · cases h
  · rename_i hz
    rw [if_neg hz] at hh ⊢
    exact callA0_local hF h hh hf
theorem callA_names {F : Sem1} (hF : FOK P F) {E : Env} {H : Heap} {dst : Nat} {ms : List Bool} {f : FuncId} {args : List AV} {v : AV} {δ : Heap} (h : callA F E H dst ms f args = some (v, δ)) :
    (∀ p ∈ δ, p.1 ∈ (callFeet H dst ms args).2) ∧ (∀ o, v.refs o = true → o ∈ (callFeet H dst ms args).2) ∧ (∀ p ∈ δ, ∀ o, p.2.refs o = true → o ∈ (callFeet H dst ms args).2) := by
  unfold callA at h
  unfold callFeet
  split at h
  · rename_i hz
    rw [if_pos hz]
    obtain ⟨as, has, h⟩ := Option.bind_eq_some_iff.1 h
    rw [has]
    unfold frzB at h
    split at h
    · obtain ⟨⟨v', δ'⟩, h1, h2⟩ := Option.map_eq_some_iff.1 h
      cases h2
      obtain ⟨n1, n2, n3⟩ := callA0_names hF h1
      refine ⟨fun p hp => ?_, fun o ho => List.mem_append_left _ (n2 o ho), fun p hp o ho => ?_⟩
      · rcases List.mem_append.1 hp with hp | hp
        · exact List.mem_append_left _ (n1 p hp)
        · obtain ⟨q, hq, rfl⟩ := List.mem_map.1 hp
          exact List.mem_append_right _ hq
      · rcases List.mem_append.1 hp with hp | hp
        · exact List.mem_append_left _ (n3 p hp o ho)
        · obtain ⟨q, hq, rfl⟩ := List.mem_map.1 hp
          simp [Obj.refs] at ho
    · cases h
  · rename_i hz
    rw [if_neg hz]
    exact callA0_names hF h
theorem dataObjs_refs {o : Nat} : ∀ {ms : List Bool} {xs : List AV}, o ∈ dataObjs ms xs → AV.refsL o xs = true
  | _, [], h => by simp [dataObjs] at h
  | [], x :: xs, h => by
    simp only [dataObjs, List.mem_append] at h
    simp only [AV.refsL, Bool.or_eq_true]
    rcases h with h | h
    · exact .inl (refs_iff_objs h)
    · exact .inr (dataObjs_refs h)
  | true :: ms, x :: xs, h => by
    simp only [dataObjs] at h
    simp only [AV.refsL, Bool.or_eq_true]
    exact .inr (dataObjs_refs h)
  | false :: ms, x :: xs, h => by
    simp only [dataObjs, List.mem_append] at h
    simp only [AV.refsL, Bool.or_eq_true]
    rcases h with h | h
    · exact .inl (refs_iff_objs h)
    · exact .inr (dataObjs_refs h)
theorem callArgs_refs {H : Heap} {o : Nat} : ∀ {ms : List Bool} {xs as : List AV}, callArgs H ms xs = some as → AV.refsL o xs = false → AV.refsL o as = false
  | _, [], as, h, _ => by cases ‹List Bool› <;> (simp [callArgs] at h; subst h; rfl)
  | [], x :: xs, as, h, hr => by
    simp only [callArgs] at h
    obtain ⟨d, _, h⟩ := Option.bind_eq_some_iff.1 h
    obtain ⟨bs, h1, rfl⟩ := Option.map_eq_some_iff.1 h
    simp only [AV.refsL, Bool.or_eq_false_iff] at hr ⊢
    exact ⟨rfl, callArgs_refs h1 hr.2⟩
  | true :: ms, x :: xs, as, h, hr => by
    simp only [callArgs] at h
    obtain ⟨bs, h1, rfl⟩ := Option.map_eq_some_iff.1 h
    simp only [AV.refsL, Bool.or_eq_false_iff] at hr ⊢
    exact ⟨hr.1, callArgs_refs h1 hr.2⟩
  | false :: ms, x :: xs, as, h, hr => by
    simp only [callArgs] at h
    obtain ⟨d, _, h⟩ := Option.bind_eq_some_iff.1 h
    obtain ⟨bs, h1, rfl⟩ := Option.map_eq_some_iff.1 h
    simp only [AV.refsL, Bool.or_eq_false_iff] at hr ⊢
    exact ⟨rfl, callArgs_refs h1 hr.2⟩
theorem callFeet0_mono {H : Heap} {dst : Nat} {ms : List Bool} {args : List AV} : ∀ o ∈ (callFeet0 H dst ms args).2, o ∈ (callFeet0 H dst ms args).1 := by
  intro o ho
  simp only [callFeet0, List.mem_append] at ho ⊢
  rcases ho with ho | ho
  · exact .inl ho
  · exact .inr (.inr ho)
theorem callFeet_mono {H : Heap} {dst : Nat} {ms : List Bool} {args : List AV} : ∀ o ∈ (callFeet H dst ms args).2, o ∈ (callFeet H dst ms args).1 := by
  intro o ho
  unfold callFeet at ho ⊢
  split at ho
  · rename_i hz
    rw [if_pos hz]
    rcases List.mem_append.1 ho with ho | ho
    · exact List.mem_append_right _ (callFeet0_mono o ho)
    · exact List.mem_append_left _ (by simp [callFeet0, ho])
  · rename_i hz
    rw [if_neg hz]
    exact callFeet0_mono o ho
theorem callFeet_fresh {H H2 : Heap} {dst : Nat} {ms : List Bool} {args : List AV} {o : Nat} (hh : ∀ o ∈ (callFeet H dst ms args).1, look o H2 = look o H) (ha : AV.refsL o args = false) (h2 : refsHeap o H2 = false) (hn : o ∉ fr4 dst) : o ∉ (callFeet H dst ms args).2 := by
  unfold callFeet at hh ⊢
  split
  · rename_i hz
    rw [if_pos hz] at hh
    have hds : ∀ o ∈ dataObjs ms args, look o H2 = look o H := fun o ho => hh o (by simp [callFeet0, ho])
    have hfz : frzL H2 (dataObjs ms args) = frzL H (dataObjs ms args) := by
      unfold frzL
      refine List.map_congr_left fun o ho => ?_
      unfold mark; rw [hds o ho]
    simp only [callFeet0, List.mem_append]
    rintro ((hm | hm) | hm)
    · have hnames : ∀ q ∈ namesOf (putsH (frzL H (dataObjs ms args)) H) ms ((callArgs H ms args).getD []), look q (putsH (frzL H (dataObjs ms args)) H2) = look q (putsH (frzL H (dataObjs ms args)) H) := fun q hq => by
        rw [look_putsH, look_putsH, hh q (by simp [callFeet0, hq])]
      rw [← namesOf_same hnames] at hm
      refine namesOf_fresh ?_ (refsHeap_putsH (fun p hp => by obtain ⟨q, _, rfl⟩ := List.mem_map.1 hp; rfl) h2) hm
      cases hc : callArgs H ms args with
      | none => rfl
      | some as => exact callArgs_refs hc ha
    · exact hn hm
    · have := dataObjs_refs hm
      rw [ha] at this; cases this
  · rename_i hz
    rw [if_neg hz] at hh
    simp only [callFeet0, List.mem_append]
    rintro (hm | hm)
    · have hnames : ∀ q ∈ namesOf H ms args, look q H2 = look q H := fun q hq => hh q (by simp [callFeet0, hq])
      rw [← namesOf_same hnames] at hm
      exact namesOf_fresh ha h2 hm
    · exact hn hm
end Go.Sim

namespace Go.Sim
open Go (World Value Addr TypeId Act)
variable {P : Program} {C : Ctx}
def AOper.reads (x : AOper) : List Nat := (x.op.opds.filterMap fun y => match y with | .t n => some n | .c _ => none) ++ (match x.guard with | some (t, _) => [t] | none => [])
def apartA (x y : AOper) : Bool :=
  (match x.dst with | some d => !y.reads.contains d && !(y.dst == some d) | none => true) && (match y.dst with | some d => !x.reads.contains d | none => true)
inductive Path (ops : Array Oper) : Nat → Nat → Prop
  | one {j : Nat} {o : Oper} {e : Edge} (ho : ops[j]? = some o) (he : e ∈ o.after) (hb : Region.binds .any e = true) : Path ops j e.on
  | more {j k : Nat} {o : Oper} {e : Edge} (ho : ops[j]? = some o) (he : e ∈ o.after) (hb : Region.binds .any e = true) (h : Path ops e.on k) : Path ops j k
def directs (o : Oper) : List Nat := (o.after.toList.filter fun e => Region.binds .any e).map (·.on)
def maskOf (ms : List Nat) : List Nat → Nat
  | [] => 0
  | d :: ds => (2 ^ d ||| ms.getD d 0) ||| maskOf ms ds
def masksN (l : List Oper) : Nat → List Nat
  | 0 => []
  | n + 1 => match l[n]? with
    | some o => masksN l n ++ [maskOf (masksN l n) (directs o)]
    | none => masksN l n
def freesAt (ms : List Nat) (j : Nat) : List Nat := (List.range j).filter fun k => !(ms.getD j 0).testBit k
def freesOf (ops : Array Oper) (j : Nat) : List Nat := freesAt (masksN ops.toList ops.size) j
theorem directs_path {ops : Array Oper} {j : Nat} {o : Oper} (ho : ops[j]? = some o) {d : Nat} (hd : d ∈ directs o) : Path ops j d := by
  obtain ⟨e, he, rfl⟩ := List.mem_map.1 hd
  obtain ⟨he, hb⟩ := List.mem_filter.1 he
  exact .one ho (by simpa using he) hb
theorem directs_more {ops : Array Oper} {j k : Nat} {o : Oper} (ho : ops[j]? = some o) {d : Nat} (hd : d ∈ directs o) (h : Path ops d k) : Path ops j k := by
  obtain ⟨e, he, rfl⟩ := List.mem_map.1 hd
  obtain ⟨he, hb⟩ := List.mem_filter.1 he
  exact .more ho (by simpa using he) hb h
theorem maskOf_bit {ms : List Nat} {k : Nat} : ∀ {ds : List Nat}, (maskOf ms ds).testBit k = true → ∃ d ∈ ds, d = k ∨ (ms.getD d 0).testBit k = true := by
  intro ds
  induction ds with
  | nil => intro h; simp [maskOf] at h
  | cons d ds ih =>
    intro h
    simp only [maskOf, Nat.testBit_or, Bool.or_eq_true, Nat.testBit_two_pow, decide_eq_true_eq] at h
    rcases h with (h | h) | h
    · exact ⟨d, .head _, .inl h⟩
    · exact ⟨d, .head _, .inr h⟩
    · obtain ⟨d', h1, h2⟩ := ih h; exact ⟨d', .tail _ h1, h2⟩
theorem masksN_path {ops : Array Oper} : ∀ n, (masksN ops.toList n).length = min n ops.size ∧ ∀ j k, ((masksN ops.toList n).getD j 0).testBit k = true → Path ops j k := by
  intro n
  induction n with
  | zero => exact ⟨by simp [masksN], fun j k h => by simp [masksN] at h⟩
  | succ n ih =>
    simp only [masksN]
    split
    · rename_i o ho
      have hn : n < ops.size := by
        have := (List.getElem?_eq_some_iff.1 ho).1; simpa using this
      have ho' : ops[n]? = some o := by simpa using ho
      refine ⟨by rw [List.length_append, ih.1]; simp; omega, fun j k h => ?_⟩
      rw [List.getD_eq_getElem?_getD, List.getElem?_append] at h
      split at h
      · exact ih.2 j k (by rw [List.getD_eq_getElem?_getD]; exact h)
      · rename_i hj
        have hl : (masksN ops.toList n).length = n := by rw [ih.1]; omega
        by_cases hj2 : j = n
        · subst hj2
          rw [hl, Nat.sub_self] at h
          simp only [List.getElem?_cons_zero, Option.getD_some] at h
          obtain ⟨d, hd, h1⟩ := maskOf_bit h
          rcases h1 with rfl | h1
          · exact directs_path ho' hd
          · exact directs_more ho' hd (ih.2 d k h1)
        · rw [List.getElem?_eq_none (by simp; omega)] at h
          simp at h
    · rename_i ho
      have hn : ops.size ≤ n := by
        rw [List.getElem?_eq_none_iff] at ho; simpa using ho
      exact ⟨by rw [ih.1]; omega, ih.2⟩
theorem mem_freesOf {ops : Array Oper} {j k : Nat} (hkj : k < j) (hno : ¬ Path ops j k) : k ∈ freesOf ops j := by
  unfold freesOf freesAt
  simp only [List.mem_filter, List.mem_range, hkj, true_and, Bool.not_eq_true']
  cases h : ((masksN ops.toList ops.size).getD j 0).testBit k with
  | false => rfl
  | true => exact absurd ((masksN_path _).2 j k h) hno
def AOp.cleanB (op : AOp) : Bool :=
  (op.opds.all fun y => match y with | .t _ => true | .c x => x.objs.isEmpty) &&
  (match op with
   | .alloc z => z.objs.isEmpty
   | .build z _ => (AV.objsL z).isEmpty
   | .bsl _ _ z _ => z.objs.isEmpty
   | .mks _ z _ _ => z.objs.isEmpty
   | _ => true)
def AOper.newNames (x : AOper) : List Nat :=
  match x.op with
  | .call _ _ _ => fr4 (x.dst.getD 0)
  | .callv _ _ _ => fr4 (x.dst.getD 0)
  | op => if op.news then [x.dst.getD 0] else []
def apartN (l : List AOper) (n j : Nat) (x : AOper) : Bool :=
  x.newNames.isEmpty || (match x.dst with
    | some d => decide (d < 10000) && (List.range n).all fun k => k == j || match l[k]? with | some y => y.newNames.isEmpty || !(y.dst == some d) | none => false
    | none => false)
def drawOk (ops : Array Oper) (l : List AOper) : Bool :=
  (List.range ops.size).all fun j =>
    match ops[j]?, l[j]? with
    | some o, some x =>
      (o.after.toList.all fun e => !Region.binds .any e || decide (e.on < j)) &&
      ((freesOf ops j).all fun k => match l[k]? with | some y => apartA y x | none => false) &&
      x.op.cleanB && apartN l ops.size j x
    | _, _ => false
theorem undef_va {w : World} {R : Nat → Prop} {ι : Inj} {mk : Nat → Option Nat} : VA w R ι mk (.d (.tup [])) Go.undef := .d (.tup (vs := []) rfl fun i c u h => by simp at h)
theorem VA.tup0_inv {w : World} {R : Nat → Prop} {ι : Inj} {mk : Nat → Option Nat} {u : Value} (h : VA w R ι mk (.d (.tup [])) u) : u = .tuple #[] := by
  cases h with
  | d h =>
    cases h with
    | tup hl => have := List.eq_nil_of_length_eq_zero hl; subst this; rfl
def Fresh (o : Nat) (S : St) : Prop := refsEnv o S.env = false ∧ refsHeap o S.heap = false
def shp : Option Obj → Option (List Nat)
  | some (.row es) => some (es.map AV.size)
  | _ => none
def toks : List Nat → List Nat
  | [] => []
  | o :: l => (2 * o) :: (2 * o + 1) :: toks l
theorem toks_even {o : Nat} {l : List Nat} (h : o ∈ l) : 2 * o ∈ toks l := by
  induction l with
  | nil => cases h
  | cons x l ih =>
    simp only [toks]
    cases h with
    | head => exact .head _
    | tail _ h => exact .tail _ (.tail _ (ih h))
theorem toks_odd {o : Nat} {l : List Nat} (h : o ∈ l) : 2 * o + 1 ∈ toks l := by
  induction l with
  | nil => cases h
  | cons x l ih =>
    simp only [toks]
    cases h with
    | head => exact .tail _ (.head _)
    | tail _ h => exact .tail _ (.tail _ (ih h))
theorem toks_inv {o : Nat} {l : List Nat} (h : 2 * o ∈ toks l) : o ∈ l := by
  induction l with
  | nil => cases h
  | cons x l ih =>
    simp only [toks, List.mem_cons] at h
    rcases h with h | h | h
    · have : o = x := by omega
      rw [this]; exact .head _
    · omega
    · exact .tail _ (ih h)
theorem toks_mem {t : Nat} {l : List Nat} (h : t ∈ toks l) : ∃ o ∈ l, t = 2 * o ∨ t = 2 * o + 1 := by
  induction l with
  | nil => cases h
  | cons x l ih =>
    simp only [toks, List.mem_cons] at h
    rcases h with h | h | h
    · exact ⟨x, .head _, .inl h⟩
    · exact ⟨x, .head _, .inr h⟩
    · obtain ⟨o, h1, h2⟩ := ih h; exact ⟨o, .tail _ h1, h2⟩
theorem toks_sub {a b : List Nat} (h : ∀ o ∈ a, o ∈ b) : ∀ t ∈ toks a, t ∈ toks b := by
  intro t ht
  obtain ⟨o, h1, h2⟩ := toks_mem ht
  rcases h2 with rfl | rfl
  · exact toks_even (h o h1)
  · exact toks_odd (h o h1)
structure Agree (x : AOper) (Fo : List Nat) (S S2 : St) : Prop where
  env : ∀ t ∈ x.reads, look t S2.env = look t S.env
  heap : ∀ o, 2 * o ∈ Fo → look o S2.heap = look o S.heap
  shape : ∀ o, 2 * o + 1 ∈ Fo → shp (look o S2.heap) = shp (look o S.heap)
theorem Agree.ev {x : AOper} {Fo : List Nat} {S S2 : St} (h : Agree x Fo S S2) : ∀ y ∈ x.op.opds, y.ev S2.env = y.ev S.env := by
  intro y hy
  cases y with
  | c v => rfl
  | t n =>
    simp only [Opd.ev]
    rw [h.env n]
    simp only [AOper.reads, List.mem_append, List.mem_filterMap]
    exact .inl ⟨_, hy, rfl⟩
structure LocalW (F : Sem1) (x : AOper) (S : St) (v : AV) (δ : Heap) (Fo W : List Nat) : Prop where
  sub : ∀ o ob, (o, ob) ∈ δ → 2 * o ∈ W
  keep : ∀ o ob, (o, ob) ∈ δ → 2 * o + 1 ∈ W ∨ shp (some ob) = shp (look o S.heap)
  subF : ∀ o ∈ W, o ∈ Fo
  same : ∀ S2, Agree x Fo S S2 → (∀ n ∈ x.newNames, Fresh n S2) →
    step F S2.env S2.heap (x.dst.getD 0) x.op = some (v, putsH δ S2.heap) ∧
    (∀ o, Fresh o S2 → o ∉ x.newNames → v.refs o = false ∧ refsHeap o (putsH δ S2.heap) = false)
variable {F : Sem1}
def disjN (a b : List Nat) : Bool := a.all fun o => !b.contains o
def indep (p q : List Nat × List Nat) : Bool := disjN p.2 q.1 && disjN q.2 p.1
def Gd (x : AOper) (S : St) : Option Bool :=
  match x.guard with
  | none => some true
  | some (t, b) => match look t S.env with | some (.d (.bool c)) => some (c == b) | some (.d (.tup [])) => some false | _ => none
def Y (F : Sem1) (x : AOper) (S : St) (v : AV) (δ : Heap) (p : List Nat × List Nat) : Prop :=
  (Gd x S = some true ∧ LocalW F x S v δ p.1 p.2) ∨ (Gd x S = some false ∧ v = .d (.tup []) ∧ δ = [])
def ap (x : AOper) (S : St) (v : AV) (δ : Heap) : St := St.put ⟨S.env, putsH δ S.heap⟩ x.dst v
theorem Agree.gd {x : AOper} {Fo : List Nat} {S S2 : St} (h : Agree x Fo S S2) : Gd x S2 = Gd x S := by
  unfold Gd
  cases hg : x.guard with
  | none => rfl
  | some p =>
    obtain ⟨t, b⟩ := p
    simp only []
    rw [h.env t (by simp [AOper.reads, hg])]
theorem Agree.trans {x : AOper} {Fo : List Nat} {S S2 S3 : St} (h : Agree x Fo S S2) (h' : Agree x Fo S2 S3) : Agree x Fo S S3 :=
  ⟨fun t ht => (h'.env t ht).trans (h.env t ht), fun o ho => (h'.heap o ho).trans (h.heap o ho), fun o ho => (h'.shape o ho).trans (h.shape o ho)⟩
theorem Y.agree {x : AOper} {S S2 : St} {v : AV} {δ : Heap} {p : List Nat × List Nat} (h : Y F x S v δ p) (ha : Agree x p.1 S S2) : Y F x S2 v δ p := by
  rcases h with ⟨h1, h2⟩ | ⟨h1, h2, h3⟩
  · exact .inl ⟨ha.gd.trans h1, h2.sub, fun o ob ho => (h2.keep o ob ho).imp id fun h => by rw [ha.heap o (h2.subF _ (h2.sub o ob ho))]; exact h, h2.subF, fun S3 h3 h4 => h2.same S3 (ha.trans h3) h4⟩
  · exact .inr ⟨ha.gd.trans h1, h2, h3⟩
theorem Y.sub {x : AOper} {S : St} {v : AV} {δ : Heap} {p : List Nat × List Nat} (h : Y F x S v δ p) : ∀ o ob, (o, ob) ∈ δ → 2 * o ∈ p.2 ∧ 2 * o ∈ p.1 := by
  rcases h with ⟨h1, h2⟩ | ⟨h1, h2, rfl⟩
  · exact fun o ob ho => ⟨h2.sub o ob ho, h2.subF _ (h2.sub o ob ho)⟩
  · exact fun o ob ho => nomatch ho
theorem Y.keep {x : AOper} {S : St} {v : AV} {δ : Heap} {p : List Nat × List Nat} (h : Y F x S v δ p) : ∀ o ob, (o, ob) ∈ δ → 2 * o + 1 ∈ p.2 ∨ shp (some ob) = shp (look o S.heap) := by
  rcases h with ⟨h1, h2⟩ | ⟨h1, h2, rfl⟩
  · exact h2.keep
  · exact fun o ob ho => nomatch ho
def Same (S S' : St) : Prop := (∀ t, look t S.env = look t S'.env) ∧ (∀ o, look o S.heap = look o S'.heap)
theorem Same.agree {S S' : St} (h : Same S S') (x : AOper) (Fo : List Nat) : Agree x Fo S S' := ⟨fun t _ => (h.1 t).symm, fun o _ => (h.2 o).symm, fun o _ => by rw [h.2 o]⟩
theorem Same.symm {S S' : St} (h : Same S S') : Same S' S := ⟨fun t => (h.1 t).symm, fun o => (h.2 o).symm⟩
theorem Same.trans {S S' S'' : St} (h : Same S S') (h' : Same S' S'') : Same S S'' := ⟨fun t => (h.1 t).trans (h'.1 t), fun o => (h.2 o).trans (h'.2 o)⟩
theorem look_put {S : St} {dst : Option Nat} {v : AV} {t : Nat} : look t (S.put dst v).env = if dst = some t then some v else look t S.env := by
  cases dst with
  | none => simp [St.put]
  | some d =>
    simp only [St.put, look_setAt_if, Option.some.injEq]
    by_cases h : t = d
    · simp [h]
    · rw [if_neg h, if_neg (Ne.symm h)]
theorem heap_put {S : St} {dst : Option Nat} {v : AV} : (S.put dst v).heap = S.heap := by cases dst <;> rfl
theorem look_ap {x : AOper} {S : St} {v : AV} {δ : Heap} {t : Nat} : look t (ap x S v δ).env = if x.dst = some t then some v else look t S.env := look_put
theorem heap_ap {x : AOper} {S : St} {v : AV} {δ : Heap} : (ap x S v δ).heap = putsH δ S.heap := heap_put
theorem Same.ap {S S' : St} (h : Same S S') (x : AOper) (v : AV) (δ : Heap) : Same (ap x S v δ) (ap x S' v δ) := by
  refine ⟨fun t => ?_, fun o => ?_⟩
  · rw [look_ap, look_ap, h.1 t]
  · rw [heap_ap, heap_ap, look_putsH, look_putsH, h.2 o]
theorem look_none {α : Type} {o : Nat} {l : List (Nat × α)} (h : ∀ ob, (o, ob) ∉ l) : look o l = none := by
  cases hh : look o l with
  | none => rfl
  | some ob => exact absurd (look_mem hh) (h ob)
theorem apartA_spec {x y : AOper} (h : apartA x y = true) : (∀ d, x.dst = some d → d ∉ y.reads ∧ y.dst ≠ some d) ∧ (∀ d, y.dst = some d → d ∉ x.reads) := by
  refine ⟨fun d hd => ?_, fun d hd => ?_⟩ <;> simp [apartA, hd] at h
  · exact h.1
  · exact h.2
theorem disjN_spec {a b : List Nat} (h : disjN a b = true) {o : Nat} (ha : o ∈ a) (hb : o ∈ b) : False := by
  have := List.all_eq_true.1 h o ha
  simp [hb] at this
theorem swap {x y : AOper} {S : St} {v u : AV} {δ ε : Heap} {p q : List Nat × List Nat} (hx : Y F x S v δ p) (hy : Y F y (ap x S v δ) u ε q) (ha : apartA x y = true) (hi : indep p q = true) :
    Y F y S u ε q ∧ Y F x (ap y S u ε) v δ p ∧ Same (ap y (ap x S v δ) u ε) (ap x (ap y S u ε) v δ) := by
  obtain ⟨h1, h2⟩ := apartA_spec ha
  simp only [indep, Bool.and_eq_true] at hi
  have e1 : ∀ o, 2 * o ∈ q.1 → look o (putsH δ S.heap) = look o S.heap := fun o ho => by
    rw [look_putsH, look_none fun ob hob => disjN_spec hi.1 (hx.sub o ob hob).1 ho]; rfl
  have e2 : ∀ o, 2 * o ∈ p.1 → look o (putsH ε S.heap) = look o S.heap := fun o ho => by
    rw [look_putsH, look_none fun ob hob => disjN_spec hi.2 (hy.sub o ob hob).1 ho]; rfl
  have sh : ∀ {z : AOper} {v' : AV} {δ' : Heap} {p' q' : List Nat × List Nat}, Y F z S v' δ' p' → disjN p'.2 q'.1 = true → ∀ o, 2 * o + 1 ∈ q'.1 → shp (look o (putsH δ' S.heap)) = shp (look o S.heap) := by
    intro z v' δ' p' q' hz hd o ho
    rw [look_putsH]
    cases hl : look o δ' with
    | none => rfl
    | some ob =>
      rcases hz.keep o ob (look_mem hl) with h | h
      · exact (disjN_spec hd h ho).elim
      · exact h
  have hy' : Y F y S u ε q := hy.agree ⟨fun t ht => by
      rw [look_ap, if_neg fun hd => (h1 t hd).1 ht], fun o ho => by rw [heap_ap, e1 o ho], fun o ho => by rw [heap_ap, sh hx hi.1 o ho]⟩
  refine ⟨hy', hx.agree ⟨fun t ht => by rw [look_ap, if_neg fun hd => h2 t hd ht], fun o ho => by rw [heap_ap, e2 o ho], fun o ho => by rw [heap_ap, sh hy' hi.2 o ho]⟩, fun t => ?_, fun o => ?_⟩
  · rw [look_ap, look_ap, look_ap, look_ap]
    by_cases hd : x.dst = some t
    · rw [if_pos hd, if_pos hd, if_neg (h1 t hd).2]
    · rw [if_neg hd, if_neg hd]
  · rw [heap_ap, heap_ap, heap_ap, heap_ap, look_putsH, look_putsH, look_putsH, look_putsH]
    cases hd : look o δ with
    | none => simp
    | some ob =>
      have hm := look_mem hd
      rw [look_none (l := ε) fun ob' hob => disjN_spec hi.1 (hx.sub o ob hm).1 (hy.sub o ob' hob).2]
      rfl
def DAny (F : Sem1) (ops : Array Oper) (l : List AOper) (pl : Nat → List Nat × List Nat) (E : St) : Nat → Array Bool → St → Prop
  | 0, listed, S => Region.ready .any ops listed = [] ∧ Same S E
  | n + 1, listed, S => (Region.ready .any ops listed = [] → Same S E) ∧
    ∀ i ∈ Region.ready .any ops listed, ∃ x v δ, l[i]? = some x ∧ Y F x S v δ (pl i) ∧ DAny F ops l pl E n (listed.setIfInBounds i true) (ap x S v δ)
variable {ops : Array Oper} {l : List AOper} {pl : Nat → List Nat × List Nat} {E : St}
theorem DAny.same : ∀ {n : Nat} {listed : Array Bool} {S S' : St}, DAny F ops l pl E n listed S → Same S S' → DAny F ops l pl E n listed S'
  | 0, _, _, _, h, hs => ⟨h.1, hs.symm.trans h.2⟩
  | n + 1, _, _, _, h, hs => ⟨fun h0 => hs.symm.trans (h.1 h0), fun i hi => by
      obtain ⟨x, v, δ, h1, h2, h3⟩ := h.2 i hi
      exact ⟨x, v, δ, h1, h2.agree (hs.agree _ _), h3.same (hs.ap x v δ)⟩⟩
def Closed (ops : Array Oper) (listed : Array Bool) : Prop := ∀ j o, ops[j]? = some o → listed.getD j false = true → ∀ e ∈ o.after, Region.binds .any e = true → listed.getD e.on false = true
theorem Closed.path {listed : Array Bool} (h : Closed ops listed) {j k : Nat} (hp : Path ops j k) : listed.getD j false = true → listed.getD k false = true := by
  induction hp with
  | one ho he hb => exact fun hj => h _ _ ho hj _ he hb
  | more ho he hb _ ih => exact fun hj => ih (h _ _ ho hj _ he hb)
theorem Closed.ready {listed : Array Bool} (h : Closed ops listed) {j k : Nat} {o : Oper} (ho : ops[j]? = some o) (hall : ∀ e ∈ o.after, Region.binds .any e = true → listed.getD e.on false = true) (hp : Path ops j k) : listed.getD k false = true := by
  cases hp with
  | one ho' he hb => rw [ho] at ho'; cases ho'; exact hall _ he hb
  | more ho' he hb hp => rw [ho] at ho'; cases ho'; exact h.path hp (hall _ he hb)
theorem Closed.set {listed : Array Bool} (h : Closed ops listed) {j : Nat} {o : Oper} (ho : ops[j]? = some o) (hall : ∀ e ∈ o.after, Region.binds .any e = true → listed.getD e.on false = true) : Closed ops (listed.setIfInBounds j true) := by
  have mono : ∀ i, listed.getD i false = true → (listed.setIfInBounds j true).getD i false = true := fun i hi => by
    rw [Array.getD_eq_getD_getElem?] at hi ⊢
    rw [Array.getElem?_setIfInBounds]
    split
    · split
      · rfl
      · rename_i h1 h2; subst h1; rw [Array.getElem?_eq_none (by omega)] at hi; simp at hi
    · exact hi
  intro i oi hoi hi e he hb
  refine mono _ ?_
  by_cases hij : j = i
  · subst hij; rw [ho] at hoi; cases hoi; exact hall e he hb
  · refine h i oi hoi ?_ e he hb
    rw [Array.getD_eq_getD_getElem?] at hi ⊢
    rwa [Array.getElem?_setIfInBounds, if_neg hij] at hi
theorem DAny.first {k : Nat} {x : AOper} {v : AV} {δ : Heap} (hk : l[k]? = some x) :
    ∀ (n : Nat) (listed : Array Bool) (S : St),
      Closed ops listed → (∀ j o y, ops[j]? = some o → l[j]? = some y → j ≠ k → listed.getD j true = false → ¬ Path ops j k → apartA x y = true ∧ indep (pl k) (pl j) = true) →
      k ∈ Region.ready .any ops listed → Y F x S v δ (pl k) → DAny F ops l pl E n (listed.setIfInBounds k true) (ap x S v δ) → DAny F ops l pl E (n + 1) listed S := by
  intro n
  induction n with
  | zero =>
    intro listed S _ _ hr hy H
    refine ⟨fun h => (by rw [h] at hr; cases hr), fun j hj => ?_⟩
    by_cases hjk : j = k
    · subst hjk; exact ⟨x, v, δ, hk, hy, H⟩
    · have := ready_mono hj hjk
      rw [H.1] at this
      cases this
  | succ n ih =>
    intro listed S hcl hfree hr hy H
    refine ⟨fun h => (by rw [h] at hr; cases hr), fun j hj => ?_⟩
    by_cases hjk : j = k
    · subst hjk; exact ⟨x, v, δ, hk, hy, H⟩
    · obtain ⟨y, u, ε, h1, h2, h3⟩ := H.2 j (ready_mono hj hjk)
      obtain ⟨hjun, oj, hoj, hall⟩ := mem_ready.1 hj
      have hnot : ¬ Path ops j k := fun hp => by
        have h1 := hcl.ready hoj hall hp
        have h0 := (mem_ready.1 hr).1
        rcases Nat.lt_or_ge k listed.size with h' | h'
        · simp [h'] at h0 h1; rw [h0] at h1; cases h1
        · simp [Array.getElem?_eq_none h'] at h1
      obtain ⟨hap, hin⟩ := hfree j oj y hoj h1 hjk hjun hnot
      obtain ⟨s1, s2, s3⟩ := swap hy h2 hap hin
      refine ⟨y, u, ε, h1, s1, ih _ _ (hcl.set hoj hall) (fun i o z ho hz hik hun hno => hfree i o z ho hz hik ?_ hno) (ready_mono hr (Ne.symm hjk)) s2 ?_⟩
      · by_cases hji : j = i
        · subst hji; exact hjun
        · rw [getD_set_ne true hji] at hun; exact hun
      · rw [Array.setIfInBounds_comm _ _ hjk]
        exact h3.same s3
inductive Lex (F : Sem1) : List AOper → List (List Nat × List Nat) → St → St → Prop
  | nil {S : St} : Lex F [] [] S S
  | cons {x : AOper} {l : List AOper} {p : List Nat × List Nat} {ps : List (List Nat × List Nat)} {S E : St} {v : AV} {δ : Heap} (hy : Y F x S v δ p) (h : Lex F l ps (ap x S v δ) E) : Lex F (x :: l) (p :: ps) S E
theorem lex_any (hready : ∀ (k : Nat) (listed : Array Bool), k < l.length → (∀ i, i < k → listed.getD i false = true) → listed.getD k true = false → k ∈ Region.ready .any ops listed)
    (hsz : ops.size = l.length)
    (hfree : ∀ (k j : Nat) (o : Oper) (x y : AOper), k < j → ops[j]? = some o → l[k]? = some x → l[j]? = some y → ¬ Path ops j k → apartA x y = true ∧ indep (pl k) (pl j) = true)
    (hback : ∀ (j : Nat) (o : Oper), ops[j]? = some o → ∀ e ∈ o.after, Region.binds .any e = true → e.on < j) :
    ∀ (m : List AOper) (ps : List (List Nat × List Nat)) (k : Nat) (listed : Array Bool) (S : St), (∀ j, m[j]? = l[k + j]?) → (∀ j, j < m.length → ps[j]? = some (pl (k + j))) → k + m.length = l.length →
      listed.size = l.length → (∀ i, i < k → listed[i]? = some true) → (∀ i, k ≤ i → i < l.length → listed[i]? = some false) → Lex F m ps S E → DAny F ops l pl E m.length listed S := by
  intro m
  induction m with
  | nil =>
    intro ps k listed S hm hp hlen hls h1 h2 h
    cases h
    refine ⟨?_, fun _ => rfl, fun _ => rfl⟩
    refine List.eq_nil_iff_forall_not_mem.2 fun j hj => ?_
    obtain ⟨h3, o, h4, _⟩ := mem_ready.1 hj
    have hlt := (Array.getElem?_eq_some_iff.1 h4).1
    simp at hlen
    rw [Array.getD_eq_getD_getElem?, h1 j (by omega)] at h3
    simp at h3
  | cons x m ih =>
    intro ps k listed S hm hp hlen hls h1 h2 h
    cases h with
    | @cons _ _ p ps _ _ v δ hy h =>
      simp only [List.length_cons] at hlen
      have hk : l[k]? = some x := by simpa using (hm 0).symm
      have hpk : p = pl k := by simpa using hp 0 (by simp)
      subst hpk
      have hg : ∀ i d, listed.getD i d = (listed[i]?).getD d := fun i d => Array.getD_eq_getD_getElem? ..
      refine DAny.first hk m.length listed S (fun j o ho hj e he hb => ?_) (fun j o y ho hy' hjk hun hno => ?_) (hready k listed (by omega) (fun i hi => by rw [hg, h1 i hi]; rfl) (by rw [hg, h2 k (Nat.le_refl _) (by omega)]; rfl)) hy ?_
      · have hjl : j < ops.size := (Array.getElem?_eq_some_iff.1 ho).1
        rcases Nat.lt_or_ge j k with hlt | hge
        · have := hback j o ho e he hb
          rw [hg, h1 e.on (by omega)]; rfl
        · rw [hg, h2 j hge (by omega)] at hj; cases hj
      · have hjl : j < ops.size := (Array.getElem?_eq_some_iff.1 ho).1
        rcases Nat.lt_or_ge j k with hlt | hge
        · rw [hg, h1 j hlt] at hun; cases hun
        · exact hfree k j o x y (by omega) ho hk hy' hno
      · refine ih ps (k + 1) _ _ (fun j => by have := hm (j + 1); simpa [Nat.add_assoc, Nat.add_comm 1 j] using this) (fun j hj => by have := hp (j + 1) (by simp; omega); simpa [Nat.add_assoc, Nat.add_comm 1 j] using this) (by omega) (by simp [hls]) (fun i hi => ?_) (fun i hi hi' => ?_) h
        · rw [Array.getElem?_setIfInBounds]
          by_cases hik : k = i
          · rw [if_pos hik, if_pos (by omega)]
          · rw [if_neg hik]; exact h1 i (by omega)
        · rw [Array.getElem?_setIfInBounds, if_neg (by omega)]
          exact h2 i (by omega) hi'
def nodupK {α : Type} : List (Nat × α) → Bool
  | [] => true
  | (k, _) :: l => !(l.any fun p => p.1 == k) && nodupK l
theorem refs_of_none {x : AV} (h : x.objs = []) (o : Nat) : x.refs o = false := by
  cases hh : x.refs o with
  | false => rfl
  | true => have := refs_objs x o hh; rw [h] at this; cases this
theorem cleanB_ok {op : AOp} (h : op.cleanB = true) (o : Nat) : op.clean o ∧ ∀ y ∈ op.opds, ∀ E, refsEnv o E = false → (y.ev E).refs o = false := by
  simp only [AOp.cleanB, Bool.and_eq_true] at h
  refine ⟨?_, fun y hy E hE => ?_⟩
  · have h2 := h.2
    cases op with
    | alloc z => exact refs_of_none (by simpa using h2) o
    | mks n z l c => exact refs_of_none (by simpa using h2) o
    | bsl len n z ps => exact refs_of_none (by simpa using h2) o
    | build z ps =>
      intro y hy
      cases hh : y.refs o with
      | false => rfl
      | true =>
        have := refsL_objs z o (AV.refsL_mem hy hh)
        simp only [List.isEmpty_iff] at h2
        rw [h2] at this; cases this
    | _ => trivial
  · have := List.all_eq_true.1 h.1 y hy
    cases y with
    | c v => exact refs_of_none (x := v) (by simpa using this) o
    | t n =>
      simp only [Opd.ev]
      cases hl : look n E with
      | none => rfl
      | some v => exact refsEnv_mem (look_mem hl) hE
def callFeetT (H : Heap) (dst : Nat) (ms : List Bool) (args : List AV) : List Nat × List Nat := (toks (callFeet H dst ms args).1, toks (callFeet H dst ms args).2)
def odds (l : List Nat) : List Nat := l.map fun o => 2 * o + 1
def evens (l : List Nat) : List Nat := l.map fun o => 2 * o
def callvFeet (H : Heap) (dst : Nat) (ms : List Bool) (f : AV) (args : List AV) : List Nat × List Nat :=
  match f with
  | .d (.fn _ cs) => callFeetT H dst ms (args ++ cs.map .d)
  | .fn _ cs => callFeetT H dst ms (args ++ cs)
  | _ => ([], [])
def AOp.feet (E : Env) (H : Heap) (dst : Nat) (op : AOp) : List Nat × List Nat :=
  match op with
  | .call _ ms xs => callFeetT H dst ms (xs.map (·.ev E))
  | .callv f ms xs => callvFeet H dst ms (f.ev E) (xs.map (·.ev E))
  | .iad n x i => (odds (AOp.foot E dst (.iad n x i)), [])
  | .st n p x => (toks (AOp.foot E dst (.st n p x)), evens (AOp.wr E dst (.st n p x)))
  | op => (toks (op.foot E dst), toks (op.wr E dst))
def feet (x : AOper) (S : St) : List Nat × List Nat := x.op.feet S.env S.heap (x.dst.getD 0)
theorem refsL_append {o : Nat} {xs ys : List AV} : AV.refsL o (xs ++ ys) = (AV.refsL o xs || AV.refsL o ys) := by
  induction xs with
  | nil => simp [AV.refsL]
  | cons x xs ih => simp [AV.refsL, ih, Bool.or_assoc]
theorem refsL_d {o : Nat} {cs : List D} : AV.refsL o (cs.map .d) = false := by
  induction cs with
  | nil => rfl
  | cons x xs ih => simp [AV.refsL, AV.refs, ih]
theorem refsL_ev {o : Nat} {E : Env} {xs : List Opd} (h : ∀ y ∈ xs, (y.ev E).refs o = false) : AV.refsL o (xs.map (·.ev E)) = false := by
  induction xs with
  | nil => rfl
  | cons x xs ih => simp only [List.map_cons, AV.refsL, h x (.head _), ih fun y hy => h y (.tail _ hy), Bool.or_self]
theorem nileqA_heap {H H' : Heap} {ng : Bool} {x v : AV} (h : nileqA H ng x = some (v, H')) : H' = H ∧ (∀ H2, nileqA H2 ng x = some (v, H2)) ∧ ∀ o, v.refs o = false := by
  unfold nileqA at h ⊢
  split at h
  · cases h; exact ⟨rfl, fun _ => rfl, fun _ => rfl⟩
  · split at h
    · rename_i hs; cases h; exact ⟨rfl, fun _ => rfl, fun _ => rfl⟩
    · cases h
theorem shp_some {x : Option Obj} {l : List Nat} (h : shp x = some l) : ∃ es, x = some (.row es) ∧ es.map AV.size = l := by
  unfold shp at h
  split at h
  · rename_i es; cases h; exact ⟨es, rfl, rfl⟩
  · cases h
theorem iadA_shape {H H2 : Heap} {n : Nat} {k : Int} {x : AV} (h : ∀ o ∈ x.objs, shp (look o H2) = shp (look o H)) : iadA H2 n k x = iadA H n k x := by
  cases x with
  | osl o off len =>
    have ho := h o (by simp [AV.objs])
    simp only [iadA]
    generalize look o H = a at ho ⊢
    generalize look o H2 = b at ho ⊢
    split
    · cases hb : shp b with
      | none =>
        rw [hb] at ho
        have none_of : ∀ {x : Option Obj}, shp x = none → (∀ es, x ≠ some (.row es)) := fun hx es e => by subst e; cases hx
        split
        · rename_i es; exact absurd rfl (none_of hb es)
        · split
          · rename_i es; exact absurd rfl (none_of ho.symm es)
          · rfl
      | some l =>
        rw [hb] at ho
        obtain ⟨es, rfl, h1⟩ := shp_some hb
        obtain ⟨fs, rfl, h2⟩ := shp_some ho.symm
        have hg : ∀ i : Nat, (es[i]?).map AV.size = (fs[i]?).map AV.size := fun i => by rw [← List.getElem?_map, ← List.getElem?_map, h1, h2]
        have := hg (off + k.toNat)
        cases he : es[off + k.toNat]? with
        | none =>
          rw [he] at this
          cases hf : fs[off + k.toNat]? with
          | none => simp [he, hf]
          | some q => rw [hf] at this; simp at this
        | some e =>
          rw [he] at this
          obtain ⟨e', h3, h4⟩ := Option.map_eq_some_iff.1 this.symm
          simp [he, h3, h4]
    · rfl
  | d y => cases y <;> rfl
  | _ => rfl
theorem st_local {E : Env} {H H' : Heap} {dst n : Nat} {q y : Opd} {v : AV} (h : astep E H dst (.st n q y) = some (v, H')) : ∃ δ, Local (.st n q y) E H dst v H' δ ∧ ∀ o ob, (o, ob) ∈ δ → shp (some ob) = shp (look o H) := by
  simp only [astep] at h
  split at h
  · rename_i o i off hp
    split at h
    · rename_i hc
      split at h
      · rename_i es hes
        obtain ⟨e, h1, h2⟩ := Option.bind_eq_some_iff.1 h
        obtain ⟨e', h3, h4⟩ := Option.map_eq_some_iff.1 h2
        cases h4
        have hmem : o ∈ (AOp.st n q y).foot E dst := by
          simp only [AOp.foot, AOp.looks, if_true, List.mem_append]
          exact .inl (mem_objsOf.2 ⟨q, by simp [AOp.opds], by rw [hp]; simp [AV.objs]⟩)
        refine ⟨[(o, .row (es.set i e'))], ⟨rfl, ?_, fun E2 H2 he hh _ => ?_⟩, fun o' ob ho => ?_⟩
        · intro q ob hq
          simp only [List.mem_singleton, Prod.mk.injEq] at hq
          rw [hq.1]; simp [AOp.wr, hp, AV.objs]
        · simp only [astep, he q (by simp [AOp.opds]), he y (by simp [AOp.opds]), hp, hh o hmem, hes]
          rw [if_pos hc, h1]
          simp [h3, putsH]
        · simp only [List.mem_singleton, Prod.mk.injEq] at ho
          obtain ⟨rfl, rfl⟩ := ho
          rw [hes]
          have hsz := (over_spec h3).2.1
          simp only [shp, List.map_set, Option.some.injEq]
          refine List.ext_getElem? fun j => ?_
          rw [List.getElem?_set]
          split
          · rename_i hij
            subst hij
            split
            · rw [List.getElem?_map, h1, hsz]; rfl
            · rename_i hlt; simp at hlt; simp [hlt]
          · rfl
      · cases h
    · cases h
  · cases h
theorem step_local (hF : FOK P F) {x : AOper} {S : St} (hcl : x.op.cleanB = true) {v : AV} {H' : Heap} (h : step F S.env S.heap (x.dst.getD 0) x.op = some (v, H')) : ∃ δ, LocalW F x S v δ (feet x S).1 (feet x S).2 ∧ H' = putsH δ S.heap := by
  have call : ∀ (f : FuncId) (ms : List Bool) (args : List AV), feet x S = callFeetT S.heap (x.dst.getD 0) ms args → x.newNames = fr4 (x.dst.getD 0) →
      (∀ S2, Agree x (feet x S).1 S S2 → step F S2.env S2.heap (x.dst.getD 0) x.op = callS S2.heap (callA F S2.env S2.heap (x.dst.getD 0) ms f args)) →
      (∀ o S2, Agree x (feet x S).1 S S2 → Fresh o S2 → AV.refsL o args = false) →
      callS S.heap (callA F S.env S.heap (x.dst.getD 0) ms f args) = some (v, H') → ∃ δ, LocalW F x S v δ (feet x S).1 (feet x S).2 ∧ H' = putsH δ S.heap := by
    intro f ms args hfeet hnn hst hno h
    obtain ⟨⟨v', δ⟩, h1, h2⟩ := Option.map_eq_some_iff.1 h
    cases h2
    obtain ⟨n1, n2, n3⟩ := callA_names hF h1
    refine ⟨δ, ⟨fun o ob ho => by rw [hfeet]; exact toks_even (n1 _ ho), fun o ob ho => .inl (by rw [hfeet]; exact toks_odd (n1 _ ho)), by rw [hfeet]; exact toks_sub callFeet_mono, fun S2 ha hf => ?_⟩, rfl⟩
    refine ⟨?_, fun o ho hn => ?_⟩
    · rw [hst S2 ha, callA_local hF h1 (fun o ho => ha.heap o (by rw [hfeet]; exact toks_even ho)) (fun n hn => hf n (by rw [hnn]; exact hn))]
      rfl
    · have hnot : o ∉ (callFeet S.heap (x.dst.getD 0) ms args).2 := callFeet_fresh (fun q hq => ha.heap q (by rw [hfeet]; exact toks_even hq)) (hno o S2 ha ho) ho.2 (by rw [← hnn]; exact hn)
      refine ⟨?_, refsHeap_putsH (fun p hp => ?_) ho.2⟩
      · show v'.refs o = false
        cases hr : v'.refs o with
        | false => rfl
        | true => exact absurd (n2 o hr) hnot
      · cases hr : p.2.refs o with
        | false => rfl
        | true => exact absurd (n3 p hp o hr) hnot
  have simple : step F S.env S.heap (x.dst.getD 0) x.op = astep S.env S.heap (x.dst.getD 0) x.op → (∀ E H, step F E H (x.dst.getD 0) x.op = astep E H (x.dst.getD 0) x.op) → feet x S = (toks (x.op.foot S.env (x.dst.getD 0)), toks (x.op.wr S.env (x.dst.getD 0))) →
      (x.newNames = if x.op.news then [x.dst.getD 0] else []) → ∃ δ, LocalW F x S v δ (feet x S).1 (feet x S).2 ∧ H' = putsH δ S.heap := by
    intro e1 e2 hfeet hnn
    rw [e1] at h
    obtain ⟨δ, hl⟩ := astep_local h
    refine ⟨δ, ⟨by rw [hfeet]; exact fun o ob ho => toks_even (hl.sub o ob ho), by rw [hfeet]; exact fun o ob ho => .inl (toks_odd (hl.sub o ob ho)), by rw [hfeet]; exact toks_sub fun o ho => AOp.wr_foot ho, fun S2 ha hf => ?_⟩, hl.eq⟩
    have hst := hl.same S2.env S2.heap ha.ev (fun o ho => ha.heap o (by rw [hfeet]; exact toks_even ho)) (fun hnew => hf _ (by rw [hnn, hnew]; simp))
    refine ⟨by rw [e2]; exact hst, fun o ho hn => ?_⟩
    obtain ⟨c1, c2⟩ := cleanB_ok hcl o
    exact astep_norefs hst (fun y hy => c2 y hy _ ho.1) ho.2 c1 fun hnew => by rw [hnn, hnew] at hn; simpa using hn
  have evs : ∀ {xs : List Opd} {S2 : St}, (∀ y ∈ xs, y ∈ x.op.opds) → ∀ o, Fresh o S2 → ∀ y ∈ xs, (y.ev S2.env).refs o = false := fun hx o ho y hy => (cleanB_ok hcl o).2 y (hx y hy) _ ho.1
  cases hop : x.op with
  | call f ms xs =>
    rw [hop] at h
    simp only [step] at h
    have hev : ∀ S2, Agree x (feet x S).1 S S2 → xs.map (·.ev S2.env) = xs.map (·.ev S.env) := fun S2 ha => by
      have := ha.ev
      rw [hop] at this
      exact map_ev this
    refine call f ms (xs.map (·.ev S.env)) (by simp [feet, hop, AOp.feet]) (by simp [AOper.newNames, hop]) (fun S2 ha => ?_) (fun o S2 ha ho => ?_) h
    · rw [hop]; simp only [step]; rw [hev S2 ha]
    · rw [← hev S2 ha]; exact refsL_ev (evs (by rw [hop]; intro y hy; exact hy) o ho)
  | callv f ms xs =>
    rw [hop] at h
    have hev : ∀ S2, Agree x (feet x S).1 S S2 → f.ev S2.env = f.ev S.env ∧ xs.map (·.ev S2.env) = xs.map (·.ev S.env) := fun S2 ha => by
      have := ha.ev
      rw [hop] at this
      exact ⟨this f (by simp [AOp.opds]), List.map_congr_left fun y hy => this y (by simp [AOp.opds, hy])⟩
    simp only [step, callvA] at h
    split at h
    · rename_i g cs hf
      refine call g ms (xs.map (·.ev S.env) ++ cs.map .d) (by simp [feet, hop, AOp.feet, callvFeet, hf]) (by simp [AOper.newNames, hop]) (fun S2 ha => ?_) (fun o S2 ha ho => ?_) h
      · rw [hop]; simp only [step, callvA]; rw [(hev S2 ha).1, (hev S2 ha).2, hf]
      · rw [refsL_append, refsL_d, Bool.or_false, ← (hev S2 ha).2]
        exact refsL_ev (evs (by rw [hop]; intro y hy; simp [AOp.opds, hy]) o ho)
    · rename_i g cs hf
      refine call g ms (xs.map (·.ev S.env) ++ cs) (by simp [feet, hop, AOp.feet, callvFeet, hf]) (by simp [AOper.newNames, hop]) (fun S2 ha => ?_) (fun o S2 ha ho => ?_) h
      · rw [hop]; simp only [step, callvA]; rw [(hev S2 ha).1, (hev S2 ha).2, hf]
      · rw [refsL_append, ← (hev S2 ha).2, refsL_ev (evs (by rw [hop]; intro y hy; simp [AOp.opds, hy]) o ho), Bool.false_or]
        have := (cleanB_ok hcl o).2 f (by rw [hop]; simp [AOp.opds]) S2.env ho.1
        rw [(hev S2 ha).1, hf] at this
        exact this
    · simp [callS] at h
  | iad n y i =>
    rw [hop] at h
    have hx : feet x S = (odds (AOp.foot S.env (x.dst.getD 0) (.iad n y i)), []) := by simp [feet, hop, AOp.feet]
    have h : astep S.env S.heap (x.dst.getD 0) (.iad n y i) = some (v, H') := h
    simp only [astep] at h
    obtain ⟨k, hk, h⟩ := Option.bind_eq_some_iff.1 h
    split at h
    · rename_i h0
      obtain ⟨v', hv', h⟩ := Option.map_eq_some_iff.1 h
      cases h
      have hst : ∀ S2, Agree x (feet x S).1 S S2 → step F S2.env S2.heap (x.dst.getD 0) x.op = some (v, S2.heap) := fun S2 ha => by
        have hev := ha.ev
        rw [hop] at hev ⊢
        show astep S2.env S2.heap (x.dst.getD 0) (.iad n y i) = _
        simp only [astep, hev y (by simp [AOp.opds]), hev i (by simp [AOp.opds]), hk, Option.bind_some]
        rw [if_pos h0, iadA_shape (H := S.heap) fun o ho => ha.shape o ?_, hv']
        · rfl
        · rw [hx]
          refine List.mem_map.2 ⟨o, ?_, rfl⟩
          simp only [AOp.foot, AOp.looks, if_true, List.mem_append]
          exact .inl (mem_objsOf.2 ⟨y, by simp [AOp.opds], ho⟩)
      refine ⟨[], ⟨(fun o ob h => nomatch h), (fun o ob h => nomatch h), by rw [hx]; simp, fun S2 ha _ => ⟨hst S2 ha, fun o ho hn => ?_⟩⟩, rfl⟩
      have hq := hst S2 ha
      rw [hop] at hq
      obtain ⟨c1, c2⟩ := cleanB_ok hcl o
      rw [hop] at c1 c2
      exact astep_norefs (op := .iad n y i) (dst := x.dst.getD 0) hq (fun y hy => c2 y hy _ ho.1) ho.2 c1 (by simp [AOp.news])
    · cases h
  | st n q y =>
    rw [hop] at h
    have hx : feet x S = (toks (AOp.foot S.env (x.dst.getD 0) (.st n q y)), evens (AOp.wr S.env (x.dst.getD 0) (.st n q y))) := by simp [feet, hop, AOp.feet]
    have h : astep S.env S.heap (x.dst.getD 0) (.st n q y) = some (v, H') := h
    obtain ⟨δ, hl, hkeep⟩ := st_local h
    refine ⟨δ, ⟨fun o ob ho => by rw [hx]; exact List.mem_map.2 ⟨o, hl.sub o ob ho, rfl⟩, fun o ob ho => .inr (hkeep o ob ho), fun t ht => ?_, fun S2 ha hf => ?_⟩, hl.eq⟩
    · rw [hx] at ht ⊢
      obtain ⟨o, ho, rfl⟩ := List.mem_map.1 ht
      exact toks_even (AOp.wr_foot ho)
    · have hev := ha.ev
      rw [hop] at hev
      have hst := hl.same S2.env S2.heap hev (fun o ho => ha.heap o (by rw [hx]; exact toks_even ho)) (by simp [AOp.news])
      refine ⟨by rw [hop]; exact hst, fun o ho hn => ?_⟩
      obtain ⟨c1, c2⟩ := cleanB_ok hcl o
      rw [hop] at c1 c2
      exact astep_norefs hst (fun y hy => c2 y hy _ ho.1) ho.2 c1 (by simp [AOp.news])
  | nileq ng y =>
    rw [hop] at h
    have hev : ∀ S2, Agree x (feet x S).1 S S2 → y.ev S2.env = y.ev S.env := fun S2 ha => by
      have := ha.ev
      rw [hop] at this
      exact this y (by simp [AOp.opds])
    simp only [step] at h
    obtain ⟨rfl, hall, hno⟩ := nileqA_heap h
    refine ⟨[], ⟨(fun o ob h => nomatch h), (fun o ob h => nomatch h), by simp [feet, hop, AOp.feet, AOp.wr, toks], fun S2 ha _ => ⟨?_, fun o ho _ => ⟨hno o, ho.2⟩⟩⟩, rfl⟩
    rw [hop]; simp only [step]; rw [hev S2 ha]; exact hall _
  | _ => exact simple (by rw [hop]; rfl) (by intro E H; rw [hop]; rfl) (by simp [feet, hop, AOp.feet]) (by simp [AOper.newNames, hop])
end Go.Sim
