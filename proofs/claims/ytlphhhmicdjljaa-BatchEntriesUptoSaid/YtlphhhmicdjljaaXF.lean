/-
  What a call looks at and writes.
-/
import Derived.Test.YtlphhhmicdjljaaXE
namespace Go.Sim
set_option linter.unusedSimpArgs false
set_option linter.unusedVariables false
open Go (World Value Addr TypeId Act)

variable {P : Program} {C : Ctx}

def fr4 (dst : Nat) : List Nat := [dst, dst + 10000, dst + 20000, dst + 30000]
def callFeet0 (H : Heap) (dst : Nat) (ms : List Bool) (args : List AV) : List Nat × List Nat :=
  (namesOf H ms args ++ (dataObjs ms args ++ fr4 dst), namesOf H ms args ++ fr4 dst)

theorem objsL_append {xs ys : List AV} : AV.objsL (xs ++ ys) = AV.objsL xs ++ AV.objsL ys := by
  induction xs with
  | nil => rfl
  | cons x xs ih => simp [AV.objsL, ih]
theorem objsL_d {cs : List D} : AV.objsL (cs.map .d) = [] := by
  induction cs with
  | nil => rfl
  | cons x xs ih => simp [AV.objsL, AV.objs, ih]

theorem toD_same {H H2 : Heap} : ∀ {x : AV}, (∀ o ∈ x.objs, look o H2 = look o H) → toD H2 x = toD H x := by
  intro x
  refine AV.rec (motive_1 := fun x => (∀ o ∈ x.objs, look o H2 = look o H) → toD H2 x = toD H x) (motive_2 := fun xs => (∀ o ∈ AV.objsL xs, look o H2 = look o H) → toD.toDs H2 xs = toD.toDs H xs) ?_ ?_ ?_ ?_ ?_ ?_ ?_ ?_ ?_ ?_ ?_ ?_ ?_ x
  · intro _ _; rfl
  · intro o i off h
    cases off with
    | zero => simp only [toD]; rw [h o (by simp [AV.objs])]
    | succ n => simp [toD]
  · intro o off len h; simp only [toD]; rw [h o (by simp [AV.objs])]
  · intro _ _ _; rfl
  · intro _ _ _; rfl
  · intro _ _; rfl
  · intro cs ih h; simp only [toD]; rw [ih (by simpa [AV.objs] using h)]
  · intro cs ih h; simp only [toD]; rw [ih (by simpa [AV.objs] using h)]
  · intro f cs ih h; simp only [toD]; rw [ih (by simpa [AV.objs] using h)]
  · intro _ _; rfl
  · intro _; rfl
  · intro _; rfl
  · intro y ys h1 h2 h
    simp only [toD.toDs]
    rw [h1 fun o ho => h o (by simp [AV.objsL, ho]), h2 fun o ho => h o (by simp [AV.objsL, ho])]

theorem callArgs_same {H H2 : Heap} : ∀ {ms : List Bool} {xs : List AV}, (∀ o ∈ dataObjs ms xs, look o H2 = look o H) → callArgs H2 ms xs = callArgs H ms xs := by
  intro ms xs
  induction xs generalizing ms with
  | nil => intro _; cases ms <;> rfl
  | cons x xs ih =>
    intro h
    match ms with
    | [] =>
      simp only [callArgs]
      rw [toD_same fun o ho => h o (by simp [dataObjs, ho]), ih fun o ho => h o (by simp [dataObjs, ho])]
    | false :: ms =>
      simp only [callArgs]
      rw [toD_same fun o ho => h o (by simp [dataObjs, ho]), ih fun o ho => h o (by simp [dataObjs, ho])]
    | true :: ms =>
      simp only [callArgs]
      rw [ih fun o ho => h o (by simp [dataObjs, ho])]

theorem reach_same {H H2 : Heap} {ns : List Nat} (h : ∀ o ∈ ns, look o H2 = look o H) : reach H2 ns = reach H ns := by
  unfold reach
  congr 1
  have : ∀ l : List Nat, (∀ o ∈ l, look o H2 = look o H) → l.flatMap (rowObjs H2) = l.flatMap (rowObjs H) := by
    intro l
    induction l with
    | nil => intro _; rfl
    | cons o l ih =>
      intro hl
      simp only [List.flatMap_cons]
      rw [ih fun q hq => hl q (.tail _ hq)]
      congr 1
      simp only [rowObjs, hl o (.head _)]
  exact this ns h

theorem namesOf_same {H H2 : Heap} {ms : List Bool} {args : List AV} (h : ∀ o ∈ namesOf H ms args, look o H2 = look o H) : namesOf H2 ms args = namesOf H ms args := by
  have h1 : ∀ o ∈ reach H (addNew [] (keptObjs ms args)), look o H2 = look o H := fun o ho => h o (addNew_sub _ _ ho)
  have h0 : ∀ o ∈ addNew [] (keptObjs ms args), look o H2 = look o H := fun o ho => h1 o (addNew_sub _ _ ho)
  unfold namesOf
  rw [reach_same h0, reach_same h1]

theorem callA0_local {F : Sem1} (hF : FOK P F) {E : Env} {H : Heap} {dst : Nat} {ms : List Bool} {f : FuncId} {args : List AV} {v : AV} {δ : Heap} (h : callA0 F E H dst ms f args = some (v, δ)) {E2 : Env} {H2 : Heap} (hh : ∀ o ∈ (callFeet0 H dst ms args).1, look o H2 = look o H) (hf : ∀ n ∈ fr4 dst, refsEnv n E2 = false ∧ refsHeap n H2 = false) :
    callA0 F E2 H2 dst ms f args = some (v, δ) := by
  unfold callA0 at h ⊢
  have hns : ∀ o ∈ namesOf H ms args, look o H2 = look o H := fun o ho => hh o (by simp [callFeet0, ho])
  have hds : ∀ o ∈ dataObjs ms args, look o H2 = look o H := fun o ho => hh o (by simp [callFeet0, ho])
  rw [namesOf_same hns, callArgs_same hds]
  obtain ⟨as, has, h⟩ := Option.bind_eq_some_iff.1 h
  rw [has, Option.bind_some]
  have hnod : (namesOf H ms args).Nodup := namesOf_nodup _ _ _
  unfold callB at h ⊢
  have hok : okNames H2 (namesOf H ms args) = okNames H (namesOf H ms args) := by
    unfold okNames
    rw [Bool.eq_iff_iff, List.all_eq_true, List.all_eq_true]
    constructor
    · intro hx o ho; have := hx o ho; rw [hns o ho] at this; exact this
    · intro hx o ho; rw [hns o ho]; exact hx o ho
  have hos : osOf H2 (namesOf H ms args) = osOf H (namesOf H ms args) := by
    unfold osOf
    exact List.map_congr_left fun o ho => by rw [hns o ho]
  rw [hok, hos]
  split at h
  · rename_i hc
    rw [if_pos hc]
    obtain ⟨⟨r, os'⟩, hf', h⟩ := Option.bind_eq_some_iff.1 h
    rw [hf', Option.bind_some]
    simp only [Bool.and_eq_true] at hc
    obtain ⟨_, _, hWF⟩ := hF f _ _ r os' hf' (fun ⟨n, ob⟩ hm => by
      obtain ⟨o, ho, _, h2⟩ := mem_osOf hm
      have := List.all_eq_true.1 hc.1 o ho
      split at this
      · rename_i es hes; exact ⟨_, by rw [h2, hes]; rfl⟩
      · cases this) (fun i p hp => (osOf_get hnod i p hp).1)
    unfold callC at h ⊢
    split at h
    · rename_i hc2
      simp only [Bool.and_eq_true] at hc2
      have : freshOK E2 H2 dst (namesOf H ms args) os' = true := by
        refine List.all_eq_true.2 fun p hp => ?_
        have h1 := List.all_eq_true.1 hc2.1 p hp
        simp only [Bool.or_eq_true, Bool.and_eq_true, decide_eq_true_eq] at h1 ⊢
        rcases h1 with h1 | h1
        · exact .inl h1
        · rcases hWF.names p.1 (isSome_of_mem (x := p.2) hp) with h2 | ⟨h2, _⟩
          · have hm : dst + 10000 * p.1 ∈ fr4 dst := by
              have : p.1 = 0 ∨ p.1 = 1 ∨ p.1 = 2 ∨ p.1 = 3 := by omega
              rcases this with h | h | h | h <;> simp [fr4, h]
            obtain ⟨h3, h4⟩ := hf _ hm
            exact .inr ⟨⟨by simp [h3], by simp [h4]⟩, h1.2⟩
          · exact .inl h2
      rw [if_pos (by simp only [Bool.and_eq_true]; exact ⟨this, hc2.2⟩)]
      exact h
    · cases h
  · cases h

theorem renAV_refs {ρ : Nat → Nat} {x : AV} {o : Nat} (h : (x.ren ρ).refs o = true) : ∃ q, x.refs q = true ∧ o = ρ q := by
  have key : ∀ x : AV, (x.ren ρ).refs o = true → ∃ q, x.refs q = true ∧ o = ρ q := by
    intro x
    refine AV.rec (motive_1 := fun x => (x.ren ρ).refs o = true → ∃ q, x.refs q = true ∧ o = ρ q) (motive_2 := fun xs => AV.refsL o (AV.renL ρ xs) = true → ∃ q, AV.refsL q xs = true ∧ o = ρ q) ?_ ?_ ?_ ?_ ?_ ?_ ?_ ?_ ?_ ?_ ?_ ?_ ?_ x
    · intro _ h; simp [AV.ren, AV.refs] at h
    · intro p i off h; simp only [AV.ren, AV.refs, beq_iff_eq] at h; exact ⟨p, by simp [AV.refs], h.symm⟩
    · intro p i off h; simp only [AV.ren, AV.refs, beq_iff_eq] at h; exact ⟨p, by simp [AV.refs], h.symm⟩
    · intro p es h; simp only [AV.ren, AV.refs, beq_iff_eq] at h; exact ⟨p, by simp [AV.refs], h.symm⟩
    · intro p y h; simp only [AV.ren, AV.refs, beq_iff_eq] at h; exact ⟨p, by simp [AV.refs], h.symm⟩
    · intro _ h; simp [AV.ren, AV.refs] at h
    · intro cs ih h; exact ih h
    · intro cs ih h; exact ih h
    · intro f cs ih h; exact ih h
    · intro _ h; simp [AV.ren, AV.refs] at h
    · intro h; simp [AV.ren, AV.refs] at h
    · intro h; simp [AV.renL, AV.refsL] at h
    · intro y ys h1 h2 h
      simp only [AV.renL, AV.refsL, Bool.or_eq_true] at h
      rcases h with h | h
      · obtain ⟨q, k1, k2⟩ := h1 h; exact ⟨q, by simp [AV.refsL, k1], k2⟩
      · obtain ⟨q, k1, k2⟩ := h2 h; exact ⟨q, by simp [AV.refsL, k1], k2⟩
  exact key x h

theorem renL_refs {ρ : Nat → Nat} {xs : List AV} {o : Nat} (h : AV.refsL o (xs.map (AV.ren ρ)) = true) : ∃ q, AV.refsL q xs = true ∧ o = ρ q := by
  induction xs with
  | nil => simp [AV.refsL] at h
  | cons x xs ih =>
    simp only [List.map_cons, AV.refsL, Bool.or_eq_true] at h
    rcases h with h | h
    · obtain ⟨q, k1, k2⟩ := renAV_refs h; exact ⟨q, by simp [AV.refsL, k1], k2⟩
    · obtain ⟨q, k1, k2⟩ := ih h; exact ⟨q, by simp [AV.refsL, k1], k2⟩

/-- Where what comes back leads to. -/
theorem callA0_names {F : Sem1} (hF : FOK P F) {E : Env} {H : Heap} {dst : Nat} {ms : List Bool} {f : FuncId} {args : List AV} {v : AV} {δ : Heap} (h : callA0 F E H dst ms f args = some (v, δ)) :
    (∀ p ∈ δ, p.1 ∈ (callFeet0 H dst ms args).2) ∧ (∀ o, v.refs o = true → o ∈ (callFeet0 H dst ms args).2) ∧ (∀ p ∈ δ, ∀ o, p.2.refs o = true → o ∈ (callFeet0 H dst ms args).2) := by
  unfold callA0 at h
  obtain ⟨as, has, h⟩ := Option.bind_eq_some_iff.1 h
  have hnod : (namesOf H ms args).Nodup := namesOf_nodup _ _ _
  simp only [callFeet0]
  generalize namesOf H ms args = ns at *
  unfold callB at h
  split at h
  · rename_i hc
    simp only [Bool.and_eq_true] at hc
    obtain ⟨⟨r, os'⟩, hf, h⟩ := Option.bind_eq_some_iff.1 h
    obtain ⟨_, _, hW⟩ := hF f _ _ r os' hf (fun ⟨n, ob⟩ hm => by
      obtain ⟨o, ho, _, h2⟩ := mem_osOf hm
      have := List.all_eq_true.1 hc.1 o ho
      split at this
      · rename_i es hes; exact ⟨_, by rw [h2, hes]; rfl⟩
      · cases this) (fun i p hp => (osOf_get hnod i p hp).1)
    unfold callC at h
    split at h
    · cases h
      have hnl : (osOf H ns).length = ns.length := by simp [osOf]
      rw [hnl] at hW
      have hname : ∀ n, (look n os').isSome = true → toCaller ns dst n ∈ ns ++ fr4 dst := fun n hn => by
        simp only [List.mem_append]
        rcases hW.names n hn with h1 | ⟨h1, h2⟩
        · right
          have h3 : toCaller ns dst n = dst + 10000 * n := by simp only [toCaller]; rw [if_pos (by omega)]
          rw [h3]
          have : n = 0 ∨ n = 1 ∨ n = 2 ∨ n = 3 := by omega
          rcases this with h | h | h | h <;> simp [fr4, h]
        · left
          simp only [toCaller]
          rw [if_neg (by omega), List.getD_eq_getElem?_getD, List.getElem?_eq_getElem (by omega)]
          simp
      refine ⟨fun p hp => ?_, fun o ho => ?_, fun p hp o ho => ?_⟩
      · obtain ⟨⟨n, ob⟩, hm, rfl⟩ := List.mem_map.1 hp
        exact hname n (isSome_of_mem hm)
      · obtain ⟨q, h1, rfl⟩ := renAV_refs ho
        exact hname q (hW.res q h1)
      · obtain ⟨⟨n, ob⟩, hm, rfl⟩ := List.mem_map.1 hp
        cases ob with
        | acc n => simp [Obj.ren, Obj.refs] at ho
        | frz m => simp [Obj.ren, Obj.refs] at ho
        | row es =>
          simp only [Obj.ren, Obj.refs] at ho
          obtain ⟨q, h1, rfl⟩ := renL_refs ho
          exact hname q (hW.resH n _ hm q h1)
    · cases h
  · cases h

theorem keptObjs_refs {ms : List Bool} {args : List AV} {o : Nat} (h : o ∈ keptObjs ms args) : AV.refsL o args = true := by
  induction args generalizing ms with
  | nil => cases ms <;> simp [keptObjs] at h
  | cons x xs ih =>
    match ms with
    | [] => simp [keptObjs] at h
    | false :: ms => simp only [keptObjs] at h; simp [AV.refsL, ih h]
    | true :: ms =>
      simp only [keptObjs, List.mem_append] at h
      rcases h with h | h
      · simp [AV.refsL, refs_iff_objs h]
      · simp [AV.refsL, ih h]

theorem addNew_mem_inv : ∀ (xs ns : List Nat) {o : Nat}, o ∈ addNew ns xs → o ∈ ns ∨ o ∈ xs := by
  intro xs
  induction xs with
  | nil => intro ns o h; exact .inl h
  | cons x xs ih =>
    intro ns o h
    simp only [addNew] at h
    split at h
    · rcases ih _ h with h | h
      · exact .inl h
      · exact .inr (.tail _ h)
    · rcases ih _ h with h | h
      · simp at h
        rcases h with h | h
        · exact .inl h
        · exact .inr (by simp [h])
      · exact .inr (.tail _ h)

theorem reach_inv {H : Heap} {ns : List Nat} {o : Nat} (h : o ∈ reach H ns) : o ∈ ns ∨ refsHeap o H = true := by
  rcases addNew_mem_inv _ _ h with h | h
  · exact .inl h
  · obtain ⟨q, _, hq⟩ := List.mem_flatMap.1 h
    simp only [rowObjs] at hq
    split at hq
    · rename_i es hes
      right
      cases hr : refsHeap o H with
      | true => rfl
      | false =>
        have := refsHeap_mem (look_mem hes) hr
        have h2 : AV.refsL o es = true := refs_iff_objs (x := .agg es) hq
        simp only [Obj.refs] at this
        rw [h2] at this; cases this
    · cases hq

theorem namesOf_fresh {H : Heap} {ms : List Bool} {args : List AV} {o : Nat} (h1 : AV.refsL o args = false) (h2 : refsHeap o H = false) : o ∉ namesOf H ms args := by
  intro h
  have no : ∀ {ns : List Nat}, o ∈ reach H ns → o ∈ ns := fun h => (reach_inv h).resolve_right (by simp [h2])
  rcases addNew_mem_inv _ _ (no (no h)) with h | h
  · cases h
  · rw [keptObjs_refs h] at h1; cases h1


/-- What a call looks at, and what it may write. -/
def callFeet (H : Heap) (dst : Nat) (ms : List Bool) (args : List AV) : List Nat × List Nat :=
  if frzF ms args.length = true then
    ((callFeet0 H dst ms args).1 ++ (callFeet0 (putsH (frzL H (dataObjs ms args)) H) dst ms ((callArgs H ms args).getD [])).1,
      (callFeet0 (putsH (frzL H (dataObjs ms args)) H) dst ms ((callArgs H ms args).getD [])).2 ++ dataObjs ms args)
  else callFeet0 H dst ms args

theorem refsHeap_putsH {o : Nat} {δ H : Heap} (h1 : ∀ p ∈ δ, p.2.refs o = false) (h2 : refsHeap o H = false) : refsHeap o (putsH δ H) = false := by
  induction δ with
  | nil => exact h2
  | cons p δ ih =>
    obtain ⟨q, ob⟩ := p
    exact refsHeap_setAt (ih fun r hr => h1 r (.tail _ hr)) (h1 _ (.head _))
theorem callA_local {F : Sem1} (hF : FOK P F) {E : Env} {H : Heap} {dst : Nat} {ms : List Bool} {f : FuncId} {args : List AV} {v : AV} {δ : Heap} (h : callA F E H dst ms f args = some (v, δ)) {E2 : Env} {H2 : Heap} (hh : ∀ o ∈ (callFeet H dst ms args).1, look o H2 = look o H) (hf : ∀ n ∈ fr4 dst, refsEnv n E2 = false ∧ refsHeap n H2 = false) :
    callA F E2 H2 dst ms f args = some (v, δ) := by
  unfold callA at h ⊢
  unfold callFeet at hh
  split at h
  · rename_i hz
    rw [if_pos hz] at hh ⊢
    have hds : ∀ o ∈ dataObjs ms args, look o H2 = look o H := fun o ho => hh o (by simp [callFeet0, ho])
    obtain ⟨as, has, h⟩ := Option.bind_eq_some_iff.1 h
    rw [has] at hh
    rw [callArgs_same hds, has, Option.bind_some]
    unfold frzB at h ⊢
    have hok : frzOk H2 (dataObjs ms args) = frzOk H (dataObjs ms args) := by
      unfold frzOk
      rw [Bool.eq_iff_iff, List.all_eq_true, List.all_eq_true]
      exact ⟨fun hx o ho => by have := hx o ho; rw [hds o ho] at this; exact this, fun hx o ho => by rw [hds o ho]; exact hx o ho⟩
    have hfz : frzL H2 (dataObjs ms args) = frzL H (dataObjs ms args) := by
      unfold frzL
      refine List.map_congr_left fun o ho => ?_
      unfold mark; rw [hds o ho]
    rw [hok, hfz]
    split at h
    · rename_i hk
      rw [if_pos hk]
      obtain ⟨⟨v', δ'⟩, h1, h2⟩ := Option.map_eq_some_iff.1 h
      cases h2
      rw [callA0_local hF h1 (E2 := E2) (H2 := putsH (frzL H (dataObjs ms args)) H2) (fun o ho => ?_) (fun n hn => ⟨(hf n hn).1, ?_⟩)]
      · rfl
      · rw [look_putsH, look_putsH, hh o (by simp [ho])]
      · rw [← hfz]
        exact refsHeap_putsH (fun p hp => by obtain ⟨q, _, rfl⟩ := List.mem_map.1 hp; rfl) (hf n hn).2
    · cases h
  · rename_i hz
    rw [if_neg hz] at hh ⊢
    exact callA0_local hF h hh hf

/-- Where what comes back leads to. -/
theorem callA_names {F : Sem1} (hF : FOK P F) {E : Env} {H : Heap} {dst : Nat} {ms : List Bool} {f : FuncId} {args : List AV} {v : AV} {δ : Heap} (h : callA F E H dst ms f args = some (v, δ)) :
    (∀ p ∈ δ, p.1 ∈ (callFeet H dst ms args).2) ∧ (∀ o, v.refs o = true → o ∈ (callFeet H dst ms args).2) ∧ (∀ p ∈ δ, ∀ o, p.2.refs o = true → o ∈ (callFeet H dst ms args).2) := by
  unfold callA at h
  unfold callFeet
  split at h
  · rename_i hz
    rw [if_pos hz]
    obtain ⟨as, has, h⟩ := Option.bind_eq_some_iff.1 h
    rw [has]
    unfold frzB at h
    split at h
    · obtain ⟨⟨v', δ'⟩, h1, h2⟩ := Option.map_eq_some_iff.1 h
      cases h2
      obtain ⟨n1, n2, n3⟩ := callA0_names hF h1
      refine ⟨fun p hp => ?_, fun o ho => List.mem_append_left _ (n2 o ho), fun p hp o ho => ?_⟩
      · rcases List.mem_append.1 hp with hp | hp
        · exact List.mem_append_left _ (n1 p hp)
        · obtain ⟨q, hq, rfl⟩ := List.mem_map.1 hp
          exact List.mem_append_right _ hq
      · rcases List.mem_append.1 hp with hp | hp
        · exact List.mem_append_left _ (n3 p hp o ho)
        · obtain ⟨q, hq, rfl⟩ := List.mem_map.1 hp
          simp [Obj.refs] at ho
    · cases h
  · rename_i hz
    rw [if_neg hz]
    exact callA0_names hF h

theorem dataObjs_refs {o : Nat} : ∀ {ms : List Bool} {xs : List AV}, o ∈ dataObjs ms xs → AV.refsL o xs = true
  | _, [], h => by simp [dataObjs] at h
  | [], x :: xs, h => by
    simp only [dataObjs, List.mem_append] at h
    simp only [AV.refsL, Bool.or_eq_true]
    rcases h with h | h
    · exact .inl (refs_iff_objs h)
    · exact .inr (dataObjs_refs h)
  | true :: ms, x :: xs, h => by
    simp only [dataObjs] at h
    simp only [AV.refsL, Bool.or_eq_true]
    exact .inr (dataObjs_refs h)
  | false :: ms, x :: xs, h => by
    simp only [dataObjs, List.mem_append] at h
    simp only [AV.refsL, Bool.or_eq_true]
    rcases h with h | h
    · exact .inl (refs_iff_objs h)
    · exact .inr (dataObjs_refs h)
theorem callArgs_refs {H : Heap} {o : Nat} : ∀ {ms : List Bool} {xs as : List AV}, callArgs H ms xs = some as → AV.refsL o xs = false → AV.refsL o as = false
  | _, [], as, h, _ => by cases ‹List Bool› <;> (simp [callArgs] at h; subst h; rfl)
  | [], x :: xs, as, h, hr => by
    simp only [callArgs] at h
    obtain ⟨d, _, h⟩ := Option.bind_eq_some_iff.1 h
    obtain ⟨bs, h1, rfl⟩ := Option.map_eq_some_iff.1 h
    simp only [AV.refsL, Bool.or_eq_false_iff] at hr ⊢
    exact ⟨rfl, callArgs_refs h1 hr.2⟩
  | true :: ms, x :: xs, as, h, hr => by
    simp only [callArgs] at h
    obtain ⟨bs, h1, rfl⟩ := Option.map_eq_some_iff.1 h
    simp only [AV.refsL, Bool.or_eq_false_iff] at hr ⊢
    exact ⟨hr.1, callArgs_refs h1 hr.2⟩
  | false :: ms, x :: xs, as, h, hr => by
    simp only [callArgs] at h
    obtain ⟨d, _, h⟩ := Option.bind_eq_some_iff.1 h
    obtain ⟨bs, h1, rfl⟩ := Option.map_eq_some_iff.1 h
    simp only [AV.refsL, Bool.or_eq_false_iff] at hr ⊢
    exact ⟨rfl, callArgs_refs h1 hr.2⟩

theorem callFeet0_mono {H : Heap} {dst : Nat} {ms : List Bool} {args : List AV} : ∀ o ∈ (callFeet0 H dst ms args).2, o ∈ (callFeet0 H dst ms args).1 := by
  intro o ho
  simp only [callFeet0, List.mem_append] at ho ⊢
  rcases ho with ho | ho
  · exact .inl ho
  · exact .inr (.inr ho)
theorem callFeet_mono {H : Heap} {dst : Nat} {ms : List Bool} {args : List AV} : ∀ o ∈ (callFeet H dst ms args).2, o ∈ (callFeet H dst ms args).1 := by
  intro o ho
  unfold callFeet at ho ⊢
  split at ho
  · rename_i hz
    rw [if_pos hz]
    rcases List.mem_append.1 ho with ho | ho
    · exact List.mem_append_right _ (callFeet0_mono o ho)
    · exact List.mem_append_left _ (by simp [callFeet0, ho])
  · rename_i hz
    rw [if_neg hz]
    exact callFeet0_mono o ho

theorem callFeet_fresh {H H2 : Heap} {dst : Nat} {ms : List Bool} {args : List AV} {o : Nat} (hh : ∀ o ∈ (callFeet H dst ms args).1, look o H2 = look o H) (ha : AV.refsL o args = false) (h2 : refsHeap o H2 = false) (hn : o ∉ fr4 dst) : o ∉ (callFeet H dst ms args).2 := by
  unfold callFeet at hh ⊢
  split
  · rename_i hz
    rw [if_pos hz] at hh
    have hds : ∀ o ∈ dataObjs ms args, look o H2 = look o H := fun o ho => hh o (by simp [callFeet0, ho])
    have hfz : frzL H2 (dataObjs ms args) = frzL H (dataObjs ms args) := by
      unfold frzL
      refine List.map_congr_left fun o ho => ?_
      unfold mark; rw [hds o ho]
    simp only [callFeet0, List.mem_append]
    rintro ((hm | hm) | hm)
    · have hnames : ∀ q ∈ namesOf (putsH (frzL H (dataObjs ms args)) H) ms ((callArgs H ms args).getD []), look q (putsH (frzL H (dataObjs ms args)) H2) = look q (putsH (frzL H (dataObjs ms args)) H) := fun q hq => by
        rw [look_putsH, look_putsH, hh q (by simp [callFeet0, hq])]
      rw [← namesOf_same hnames] at hm
      refine namesOf_fresh ?_ (refsHeap_putsH (fun p hp => by obtain ⟨q, _, rfl⟩ := List.mem_map.1 hp; rfl) h2) hm
      cases hc : callArgs H ms args with
      | none => rfl
      | some as => exact callArgs_refs hc ha
    · exact hn hm
    · have := dataObjs_refs hm
      rw [ha] at this; cases this
  · rename_i hz
    rw [if_neg hz] at hh
    simp only [callFeet0, List.mem_append]
    rintro (hm | hm)
    · have hnames : ∀ q ∈ namesOf H ms args, look q H2 = look q H := fun q hq => hh q (by simp [callFeet0, hq])
      rw [← namesOf_same hnames] at hm
      exact namesOf_fresh ha h2 hm
    · exact hn hm
end Go.Sim
