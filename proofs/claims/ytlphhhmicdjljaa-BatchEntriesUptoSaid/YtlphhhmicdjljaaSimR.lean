/-
  An operation brings in no object but its operands' and its own.
-/
import Derived.Test.YtlphhhmicdjljaaSimQ
namespace Go.Sim
set_option linter.unusedSimpArgs false
set_option linter.unusedVariables false
open Go (World Value Addr TypeId Act)

theorem refsL_false_iff {o : Nat} {xs : List AV} : AV.refsL o xs = false ↔ ∀ x ∈ xs, x.refs o = false := by
  induction xs with
  | nil => simp [AV.refsL]
  | cons x xs ih => simp [AV.refsL, ih]

theorem refs_cells {o : Nat} {x : AV} (h : x.refs o = false) : ∀ y ∈ x.cells, y.refs o = false := by
  cases x with
  | d y => intro z hz; simp only [AV.cells, List.mem_map] at hz; obtain ⟨_, _, rfl⟩ := hz; rfl
  | agg cs => intro z hz; exact AV.refsL_false hz h
  | _ => intro z hz; simp only [AV.cells, List.mem_singleton] at hz; subst hz; exact h

theorem refs_mkAgg {o : Nat} {cs : List AV} (h : ∀ y ∈ cs, y.refs o = false) : (AV.mkAgg cs).refs o = false := by
  unfold AV.mkAgg; split
  · rfl
  · simpa [AV.refs] using refsL_false_iff.2 h
theorem refs_mkFn {o : Nat} {f : FuncId} {cs : List AV} (h : ∀ y ∈ cs, y.refs o = false) : (AV.mkFn f cs).refs o = false := by
  unfold AV.mkFn; split
  · rfl
  · simpa [AV.refs] using refsL_false_iff.2 h

theorem refs_partA {o : Nat} {ag : Bool} {off n : Nat} {x v : AV} (h : x.refs o = false) (hp : partA ag off n x = some v) : v.refs o = false := by
  unfold partA at hp
  split at hp
  · obtain ⟨_, _, rfl⟩ := Option.map_eq_some_iff.1 hp; rfl
  · split at hp
    · split at hp
      · cases hp
        exact refs_mkAgg fun y hy => refs_cells h y (List.mem_of_mem_drop (List.mem_of_mem_take hy))
      · cases hp
    · split at hp
      · exact refs_cells h _ (List.mem_of_getElem? hp)
      · cases hp

theorem refs_over {o off : Nat} {x v r : AV} (hx : x.refs o = false) (hv : v.refs o = false) (h : over x off v = some r) : r.refs o = false := by
  unfold over at h
  split at h
  · cases h; exact hv
  · split at h
    · cases h
      refine refs_mkAgg fun y hy => ?_
      simp only [splice, List.mem_append] at hy
      rcases hy with (hy | hy) | hy
      · exact refs_cells hx y (List.mem_of_mem_take hy)
      · exact refs_cells hv y hy
      · exact refs_cells hx y (List.mem_of_mem_drop hy)
    · cases h

theorem refs_fillA {o : Nat} : ∀ {ps : List (Nat × Nat × AV)} {z cs : List AV}, (∀ y ∈ z, y.refs o = false) → (∀ p ∈ ps, p.2.2.refs o = false) → fillA z ps = some cs → ∀ y ∈ cs, y.refs o = false := by
  intro ps
  induction ps with
  | nil => intro z cs hz _ h; simp only [fillA, Option.some.injEq] at h; subst h; exact hz
  | cons p ps ih =>
    obtain ⟨off, n, v⟩ := p
    intro z cs hz hp h
    simp only [fillA] at h
    split at h
    · refine ih (fun y hy => ?_) (fun p hp' => hp p (.tail _ hp')) h
      simp only [splice, List.mem_append] at hy
      rcases hy with (hy | hy) | hy
      · exact hz y (List.mem_of_mem_take hy)
      · exact refs_cells (hp _ (.head _)) y hy
      · exact hz y (List.mem_of_mem_drop hy)
    · cases h

theorem unX_refs {o : Nat} {v : AV} (h : v.refs o = false) : (unX v).refs o = false := by cases v <;> simp_all [unX, AV.refs]
theorem refs_fillE {o : Nat} : ∀ {ps : List (Nat × AV)} {z cs : List AV}, (∀ y ∈ z, y.refs o = false) → (∀ p ∈ ps, p.2.refs o = false) → fillE z ps = some cs → ∀ y ∈ cs, y.refs o = false := by
  intro ps
  induction ps with
  | nil => intro z cs hz _ h; simp only [fillE, Option.some.injEq] at h; subst h; exact hz
  | cons p ps ih =>
    obtain ⟨i, v⟩ := p
    intro z cs hz hp h
    simp only [fillE] at h
    split at h
    · refine ih (fun y hy => ?_) (fun p hp' => hp p (.tail _ hp')) h
      rcases List.mem_or_eq_of_mem_set hy with hy | rfl
      · exact hz y hy
      · exact unX_refs (hp _ (.head _))
    · cases h

theorem refsHeap_setAt {o k : Nat} {ob : Obj} {H : Heap} (h : refsHeap o H = false) (hob : ob.refs o = false) : refsHeap o (setAt k ob H) = false := by
  simp only [setAt, refsHeap, hob, Bool.false_or]
  induction H with
  | nil => rfl
  | cons p H ih =>
    obtain ⟨j, x⟩ := p
    simp only [refsHeap, Bool.or_eq_false_iff] at h
    simp only [without]
    split
    · exact ih h.2
    · simp [refsHeap, h.1, ih h.2]

theorem refs_look {o k : Nat} {ob : Obj} {H : Heap} (h : refsHeap o H = false) (hk : look k H = some ob) : ob.refs o = false := refsHeap_mem (look_mem hk) h

/-- The values that stand in the operation itself name no object. -/
def AOp.clean (o : Nat) : AOp → Prop
  | .alloc z => z.refs o = false
  | .build z _ => ∀ y ∈ z, y.refs o = false
  | .bsl _ _ z _ => z.refs o = false
  | .mks _ z _ _ => z.refs o = false
  | _ => True

theorem refs_row {o : Nat} {es : List AV} (h : ∀ e ∈ es, e.refs o = false) : (Obj.row es).refs o = false := refsL_false_iff.2 h

theorem appA_norefs {o : Nat} {E : Env} {H : Heap} {dst n : Nat} {ys : List D} {x v : AV} {H' : Heap} (h : appA E H dst n ys x = some (v, H')) (hx : x.refs o = false) (hH : refsHeap o H = false) (hd : o ≠ dst) :
    v.refs o = false ∧ refsHeap o H' = false := by
  unfold appA at h
  split at h
  · split at h
    · cases h; exact ⟨by simpa [AV.refs] using Ne.symm hd, refsHeap_setAt hH rfl⟩
    · cases h
  · split at h
    · split at h
      · cases h; exact ⟨by simpa [AV.refs] using hx, refsHeap_setAt hH rfl⟩
      · cases h
    · cases h
  · cases h

theorem astep_norefs {o : Nat} {op : AOp} {E : Env} {H : Heap} {dst : Nat} {v : AV} {H' : Heap} (h : astep E H dst op = some (v, H')) (ho : ∀ y ∈ op.opds, (y.ev E).refs o = false) (hH : refsHeap o H = false)
    (hc : op.clean o) (hd : op.news = true → o ≠ dst) : v.refs o = false ∧ refsHeap o H' = false := by
  cases op with
  | mv x => simp only [astep, Option.some.injEq, Prod.mk.injEq] at h; obtain ⟨rfl, rfl⟩ := h; exact ⟨ho x (by simp [AOp.opds]), hH⟩
  | pick c a b =>
    simp only [astep] at h
    split at h
    · cases h
      refine ⟨?_, hH⟩
      split
      · exact ho a (by simp [AOp.opds])
      · exact ho b (by simp [AOp.opds])
    · cases h
  | alloc z =>
    simp only [astep] at h
    split at h
    · cases h; exact ⟨by simpa [AV.refs] using Ne.symm (hd rfl), refsHeap_setAt hH (refs_row (by simpa [AOp.clean] using hc))⟩
    · cases h
  | box x =>
    simp only [astep] at h
    split at h
    · cases h; exact ⟨by simpa [AV.refs] using Ne.symm (hd rfl), refsHeap_setAt hH (refs_row (by simpa [AOp.opds] using ho))⟩
    · cases h
  | build z ps =>
    simp only [astep] at h
    obtain ⟨cs, h1, h2⟩ := Option.map_eq_some_iff.1 h
    cases h2
    refine ⟨refs_mkAgg (refs_fillA (by simpa [AOp.clean] using hc) ?_ h1), hH⟩
    intro p hp
    obtain ⟨q, hq, rfl⟩ := List.mem_map.1 hp
    exact ho _ (List.mem_map.2 ⟨q, hq, rfl⟩)
  | bsl len n z ps =>
    simp only [astep] at h
    split at h
    · obtain ⟨es, h1, h2⟩ := Option.bind_eq_some_iff.1 h
      have hes := refs_fillE (o := o) (by intro y hy; rw [List.eq_of_mem_replicate hy]; simpa [AOp.clean] using hc) (by
        intro p hp
        obtain ⟨q, hq, rfl⟩ := List.mem_map.1 hp
        exact ho _ (List.mem_map.2 ⟨q, hq, rfl⟩)) h1
      split at h2
      · cases h2; exact ⟨rfl, hH⟩
      · split at h2
        · cases h2; exact ⟨by simpa [AV.refs] using Ne.symm (hd rfl), refsHeap_setAt hH (refs_row hes)⟩
        · cases h2
    · cases h
  | ld ag n p =>
    simp only [astep] at h
    obtain ⟨q, h1, h2⟩ := Option.map_eq_some_iff.1 h
    cases h2
    refine ⟨?_, hH⟩
    have hp := ho p (by simp [AOp.opds])
    unfold ldA at h1
    split at h1
    · obtain ⟨_, _, rfl⟩ := Option.map_eq_some_iff.1 h1; rfl
    · obtain ⟨_, _, rfl⟩ := Option.map_eq_some_iff.1 h1; rfl
    · split at h1
      · rename_i es hes
        obtain ⟨e, he, h1⟩ := Option.bind_eq_some_iff.1 h1
        exact refs_partA (AV.refsL_false (List.mem_of_getElem? he) (refs_look hH hes)) h1
      · cases h1
    · cases h1
  | st n p x =>
    simp only [astep] at h
    split at h
    · split at h
      · split at h
        · rename_i es hes
          obtain ⟨e, h1, h2⟩ := Option.bind_eq_some_iff.1 h
          obtain ⟨e', h3, h4⟩ := Option.map_eq_some_iff.1 h2
          cases h4
          refine ⟨rfl, refsHeap_setAt hH (refs_row fun y hy => ?_)⟩
          have hrow := refs_look hH hes
          rcases List.mem_or_eq_of_mem_set hy with hy | rfl
          · exact AV.refsL_false hy hrow
          · exact refs_over (AV.refsL_false (List.mem_of_getElem? h1) hrow) (ho x (by simp [AOp.opds])) h3
        · cases h
      · cases h
    · cases h
  | app n x y =>
    simp only [astep] at h
    obtain ⟨ys, h1, h2⟩ := Option.bind_eq_some_iff.1 h
    exact appA_norefs h2 (ho x (by simp [AOp.opds])) hH (hd rfl)
  | apps x y =>
    simp only [astep] at h
    split at h
    · exact appA_norefs h (ho x (by simp [AOp.opds])) hH (hd rfl)
    · cases h
  | mks n z l c =>
    simp only [astep] at h
    split at h
    · split at h
      · cases h; exact ⟨by simpa [AV.refs] using Ne.symm (hd rfl), refsHeap_setAt hH (refs_row fun y hy => by rw [List.eq_of_mem_replicate hy]; simpa [AOp.clean] using hc)⟩
      · cases h
    · cases h
  | mkfn f cs =>
    simp only [astep, Option.some.injEq, Prod.mk.injEq] at h
    obtain ⟨rfl, rfl⟩ := h
    refine ⟨refs_mkFn fun y hy => ?_, hH⟩
    obtain ⟨q, hq, rfl⟩ := List.mem_map.1 hy
    exact ho q hq
  | nileq ng x => simp [astep] at h
  | call f ms xs => simp [astep] at h
  | callv f ms xs => simp [astep] at h
  | nacc =>
    simp only [astep] at h
    split at h
    · cases h; exact ⟨by simpa [AV.refs] using Ne.symm (hd rfl), refsHeap_setAt hH rfl⟩
    · cases h
  | nilc x =>
    have hx := ho x (by simp [AOp.opds])
    revert h
    simp only [astep]
    generalize x.ev E = q at hx
    intro h
    split at h <;> cases h <;> first | exact ⟨rfl, hH⟩ | exact ⟨by simpa [AV.refs] using hx, hH⟩
  | ext x i =>
    have hx := ho x (by simp [AOp.opds])
    revert h
    simp only [astep]
    generalize x.ev E = q at hx
    intro h
    split at h
    · obtain ⟨_, _, h2⟩ := Option.map_eq_some_iff.1 h; cases h2; exact ⟨rfl, hH⟩
    · obtain ⟨u, h1, h2⟩ := Option.map_eq_some_iff.1 h; cases h2; exact ⟨AV.refsL_false (List.mem_of_getElem? h1) hx, hH⟩
    · cases h
  | fad ag off n x =>
    have hx := ho x (by simp [AOp.opds])
    simp only [astep] at h
    obtain ⟨q, h1, h2⟩ := Option.map_eq_some_iff.1 h
    cases h2
    refine ⟨?_, hH⟩
    revert h1 hx
    generalize x.ev E = q
    intro hx h1
    unfold fadA at h1
    split at h1
    · cases h1; exact hx
    · obtain ⟨_, _, rfl⟩ := Option.map_eq_some_iff.1 h1; rfl
    · obtain ⟨_, _, rfl⟩ := Option.map_eq_some_iff.1 h1; exact hx
    · cases h1
  | iada ag len n x i =>
    have hx := ho x (by simp [AOp.opds])
    simp only [astep] at h
    obtain ⟨k, _, h⟩ := Option.bind_eq_some_iff.1 h
    split at h
    · obtain ⟨q, h1, h2⟩ := Option.map_eq_some_iff.1 h
      cases h2
      refine ⟨?_, hH⟩
      revert h1 hx
      generalize x.ev E = q
      intro hx h1
      unfold fadA at h1
      split at h1
      · cases h1; exact hx
      · obtain ⟨_, _, rfl⟩ := Option.map_eq_some_iff.1 h1; rfl
      · obtain ⟨_, _, rfl⟩ := Option.map_eq_some_iff.1 h1; exact hx
      · cases h1
    · cases h
  | fld ag off n x =>
    have hx := ho x (by simp [AOp.opds])
    revert h
    simp only [astep]
    generalize x.ev E = q at hx
    intro h
    split at h
    · obtain ⟨_, _, h2⟩ := Option.map_eq_some_iff.1 h; cases h2; exact ⟨rfl, hH⟩
    · obtain ⟨_, h1, h2⟩ := Option.map_eq_some_iff.1 h; cases h2; exact ⟨refs_partA hx h1, hH⟩
    · cases h
  | iad n x i =>
    have hx := ho x (by simp [AOp.opds])
    simp only [astep] at h
    obtain ⟨k, _, h⟩ := Option.bind_eq_some_iff.1 h
    split at h
    · obtain ⟨q, h1, h2⟩ := Option.map_eq_some_iff.1 h
      cases h2
      refine ⟨?_, hH⟩
      revert h1 hx
      generalize x.ev E = q
      intro hx h1
      unfold iadA at h1
      split at h1
      · split at h1
        · split at h1
          · obtain ⟨e, _, h1⟩ := Option.bind_eq_some_iff.1 h1
            split at h1
            · cases h1; exact hx
            · cases h1
          · cases h1
        · cases h1
      all_goals first | cases h1; done | skip
      all_goals
        obtain ⟨e, _, h1⟩ := Option.bind_eq_some_iff.1 h1
        split at h1
        · cases h1; first | rfl | exact hx
        · cases h1
    · cases h
  | slc n x lo hi mx =>
    have hx := ho x (by simp [AOp.opds])
    simp only [astep] at h
    obtain ⟨q, h1, h2⟩ := Option.map_eq_some_iff.1 h
    cases h2
    refine ⟨?_, hH⟩
    revert h1 hx
    generalize x.ev E = q
    intro hx h1
    cases q with
    | d y => cases y <;> simp only [slcA] at h1 <;> first | cases h1; done | (revert h1; (repeat' split) <;> intro h1 <;> simp [Option.bind_eq_some_iff] at h1 <;> grind [AV.refs])
    | osl o' off len => simp only [slcA] at h1; revert h1; (repeat' split) <;> intro h1 <;> simp [Option.bind_eq_some_iff] at h1 <;> grind [AV.refs]
    | acc o' es => simp only [slcA] at h1; revert h1; (repeat' split) <;> intro h1 <;> simp [Option.bind_eq_some_iff] at h1 <;> grind [AV.refs]
    | xsl es => simp only [slcA] at h1; revert h1; (repeat' split) <;> intro h1 <;> simp [Option.bind_eq_some_iff] at h1 <;> grind [AV.refs]
    | _ => simp [slcA] at h1
  | mm mx xs =>
    simp only [astep] at h
    split at h
    · cases h
    · rename_i y ys hys
      obtain ⟨q, h1, h2⟩ := Option.map_eq_some_iff.1 h
      cases h2
      refine ⟨?_, hH⟩
      have hy : y.refs o = false := by
        cases xs with
        | nil => cases hys
        | cons a l => simp only [List.map_cons, List.cons.injEq] at hys; rw [← hys.1]; exact ho a (.head _)
      clear hys ho h
      induction ys generalizing y with
      | nil => simp only [mmD, Option.some.injEq] at h1; subst h1; exact hy
      | cons z zs ih =>
        unfold mmD at h1
        split at h1
        · cases h1; exact hy
        · rename_i heq
          cases heq
          split at h1
          · exact ih _ h1 rfl
          · cases h1
        · cases h1
  | _ =>
    revert h
    simp only [astep]
    (repeat' split) <;> intro h <;> simp [Option.map_eq_some_iff, Option.bind_eq_some_iff] at h <;> grind [AV.refs]

end Go.Sim
