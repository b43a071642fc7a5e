/-
  Calls: what is handed to the callee, in its own names, and what comes back.
-/
import Derived.Test.YtlphhhmicdjljaaXA
namespace Go.Sim
set_option linter.unusedSimpArgs false
set_option linter.unusedVariables false
open Go (World Value Addr TypeId Act)

variable {P : Program}

abbrev Sem1 := FuncId → List AV → Heap → Option (AV × Heap)

/-- The arguments: those marked 'true' as they are, the others as the data that they read as. -/
def callArgs (H : Heap) : List Bool → List AV → Option (List AV)
  | _, [] => some []
  | [], x :: xs => (toD H x).bind fun d => (callArgs H [] xs).map (.d d :: ·)
  | true :: ms, x :: xs => (callArgs H ms xs).map (x :: ·)
  | false :: ms, x :: xs => (toD H x).bind fun d => (callArgs H ms xs).map (.d d :: ·)

def dataObjs : List Bool → List AV → List Nat
  | _, [] => []
  | [], x :: xs => x.objs ++ dataObjs [] xs
  | true :: ms, _ :: xs => dataObjs ms xs
  | false :: ms, x :: xs => x.objs ++ dataObjs ms xs

def keptObjs : List Bool → List AV → List Nat
  | _, [] => []
  | [], _ :: _ => []
  | true :: ms, x :: xs => x.objs ++ keptObjs ms xs
  | false :: ms, _ :: xs => keptObjs ms xs

def addNew (ns : List Nat) : List Nat → List Nat
  | [] => ns
  | x :: xs => if ns.contains x then addNew ns xs else addNew (ns ++ [x]) xs

def rowObjs (H : Heap) (o : Nat) : List Nat := match look o H with | some (.row es) => AV.objsL es | _ => []

def reach (H : Heap) (ns : List Nat) : List Nat := addNew ns (ns.flatMap (rowObjs H))
def namesOf (H : Heap) (ms : List Bool) (args : List AV) : List Nat := reach H (reach H (addNew [] (keptObjs ms args)))

def okNames (H : Heap) (ns : List Nat) : Bool := ns.all fun o => match look o H with | some (.row es) => (AV.objsL es).all ns.contains | _ => false

def pos (o : Nat) : List Nat → Nat
  | [] => 0
  | x :: xs => if x = o then 0 else pos o xs + 1

def toCallee (ns : List Nat) (o : Nat) : Nat := 1000000 + pos o ns
def toCaller (ns : List Nat) (dst : Nat) (n : Nat) : Nat := if n < 1000000 then dst + 10000 * n else ns.getD (n - 1000000) 0

def osOf (H : Heap) (ns : List Nat) : Heap := ns.map fun o => (toCallee ns o, ((look o H).getD (.acc 0)).ren (toCallee ns))

def freshOK (E : Env) (H : Heap) (dst : Nat) (ns : List Nat) (os : Heap) : Bool :=
  os.all fun p => decide (1000000 ≤ p.1) || (!refsEnv (dst + 10000 * p.1) E && !refsHeap (dst + 10000 * p.1) H && !ns.contains (dst + 10000 * p.1))

def flatRes (p : AV × Heap) : Bool := p.1.flat && p.2.all fun q => q.2.flat

def disjL (a b : List Nat) : Bool := a.all fun o => !b.contains o

def renH (ρ : Nat → Nat) (os : Heap) : Heap := os.map fun p => (ρ p.1, p.2.ren ρ)

def callC (E : Env) (H : Heap) (dst : Nat) (ns dob : List Nat) (p : AV × Heap) : Option (AV × Heap) :=
  if (freshOK E H dst ns p.2 && (dob.isEmpty || flatRes p)) = true then some (p.1.ren (toCaller ns dst), renH (toCaller ns dst) p.2) else none
def callB (F : Sem1) (E : Env) (H : Heap) (dst : Nat) (ns dob : List Nat) (f : FuncId) (as : List AV) : Option (AV × Heap) :=
  if (okNames H ns && disjL dob ns) = true then (F f (as.map (AV.ren (toCallee ns))) (osOf H ns)).bind (callC E H dst ns dob) else none
/-- A call: the result and the objects that are new or changed. -/
def callA0 (F : Sem1) (E : Env) (H : Heap) (dst : Nat) (ms : List Bool) (f : FuncId) (args : List AV) : Option (AV × Heap) :=
  (callArgs H ms args).bind (callB F E H dst (namesOf H ms args) (dataObjs ms args) f)

/-- With one flag more, behind those of the arguments: the objects that are read as data are data from now on. -/
def frzF (ms : List Bool) (n : Nat) : Bool := (ms.drop n).headD false
def frzL (H : Heap) (os : List Nat) : Heap := os.map fun o => (o, .frz (mark H o))
def frzOk (H : Heap) (os : List Nat) : Bool := os.all fun o => (look o H).isSome
def frzB (F : Sem1) (E : Env) (H : Heap) (dst : Nat) (ms : List Bool) (f : FuncId) (dob : List Nat) (as : List AV) : Option (AV × Heap) :=
  if frzOk H dob = true then (callA0 F E (putsH (frzL H dob) H) dst ms f as).map fun p => (p.1, p.2 ++ frzL H dob) else none
def callA (F : Sem1) (E : Env) (H : Heap) (dst : Nat) (ms : List Bool) (f : FuncId) (args : List AV) : Option (AV × Heap) :=
  if frzF ms args.length = true then (callArgs H ms args).bind (frzB F E H dst ms f (dataObjs ms args)) else callA0 F E H dst ms f args

/-! ### What a sound meaning of functions is -/
structure WF (k : Nat) (r : AV) (os : Heap) : Prop where
  names : ∀ n, (look n os).isSome = true → n < 4 ∨ (1000000 ≤ n ∧ n < 1000000 + k)
  keep : ∀ i, i < k → ∃ es, look (1000000 + i) os = some (.row es)
  res : ∀ q, r.refs q = true → (look q os).isSome = true
  resH : ∀ n ob, (n, ob) ∈ os → ∀ q, ob.refs q = true → (look q os).isSome = true

def FOK (P : Program) (F : Sem1) : Prop := ∀ f args os r os', F f args os = some (r, os') → (∀ p ∈ os, ∃ es, p.2 = .row es) → (∀ i p, os[i]? = some p → p.1 = 1000000 + i) → callable P f = true ∧ GF P f args os r os' ∧ WF os.length r os'

/-! ### Facts about names -/
theorem addNew_nodup : ∀ (xs ns : List Nat), ns.Nodup → (addNew ns xs).Nodup := by
  intro xs
  induction xs with
  | nil => intro ns h; exact h
  | cons x xs ih =>
    intro ns h
    simp only [addNew]
    split
    · exact ih ns h
    · rename_i hx
      refine ih _ (List.nodup_append.2 ⟨h, by simp, ?_⟩)
      rintro a ha b hb rfl
      simp at hb; subst hb
      simp at hx; exact hx ha
theorem addNew_sub : ∀ (xs ns : List Nat) {o : Nat}, o ∈ ns → o ∈ addNew ns xs := by
  intro xs
  induction xs with
  | nil => intro ns o h; exact h
  | cons x xs ih =>
    intro ns o h
    simp only [addNew]
    split
    · exact ih ns h
    · exact ih _ (by simp [h])
theorem addNew_mem : ∀ (xs ns : List Nat) {o : Nat}, o ∈ xs → o ∈ addNew ns xs := by
  intro xs
  induction xs with
  | nil => intro ns o h; cases h
  | cons x xs ih =>
    intro ns o h
    simp only [addNew]
    cases h with
    | head =>
      split
      · rename_i hx; exact addNew_sub xs ns (by simpa using hx)
      · exact addNew_sub xs _ (by simp)
    | tail _ h =>
      split
      · exact ih _ h
      · exact ih _ h
theorem namesOf_nodup (H : Heap) (ms : List Bool) (args : List AV) : (namesOf H ms args).Nodup := addNew_nodup _ _ (addNew_nodup _ _ (addNew_nodup _ _ List.nodup_nil))
theorem namesOf_mem {H : Heap} {ms : List Bool} {args : List AV} {o : Nat} (h : o ∈ keptObjs ms args) : o ∈ namesOf H ms args := addNew_sub _ _ (addNew_sub _ _ (addNew_mem _ _ h))

theorem pos_spec {o : Nat} : ∀ {ns : List Nat}, o ∈ ns → ns[pos o ns]? = some o := by
  intro ns
  induction ns with
  | nil => intro h; cases h
  | cons x xs ih =>
    intro h
    simp only [pos]
    split
    · rename_i e; subst e; rfl
    · rename_i e
      cases h with
      | head => exact absurd rfl e
      | tail _ h => simpa using ih h
theorem pos_lt {o : Nat} {ns : List Nat} (h : o ∈ ns) : pos o ns < ns.length := (List.getElem?_eq_some_iff.1 (pos_spec h)).1
theorem pos_get {ns : List Nat} (hn : ns.Nodup) {i : Nat} {o : Nat} (h : ns[i]? = some o) : pos o ns = i := by
  have h1 := pos_spec (List.mem_of_getElem? h)
  have hi := (List.getElem?_eq_some_iff.1 h).1
  have hp := (List.getElem?_eq_some_iff.1 h1).1
  have e1 := (List.getElem?_eq_some_iff.1 h).2
  have e2 := (List.getElem?_eq_some_iff.1 h1).2
  exact (List.getElem_inj hn).1 (e2.trans e1.symm)

theorem toCaller_callee {ns : List Nat} {dst o : Nat} (h : o ∈ ns) : toCaller ns dst (toCallee ns o) = o := by
  have h0 : ¬ toCallee ns o < 1000000 := by simp [toCallee]
  unfold toCaller
  rw [if_neg h0]
  simp [toCallee, List.getD_eq_getElem?_getD, pos_spec h]

theorem osOf_get {H : Heap} {ns : List Nat} (hn : ns.Nodup) (i : Nat) (p : Nat × Obj) (h : (osOf H ns)[i]? = some p) : p.1 = 1000000 + i ∧ ∃ o, ns[i]? = some o ∧ p.2 = ((look o H).getD (.acc 0)).ren (toCallee ns) := by
  simp only [osOf, List.getElem?_map] at h
  obtain ⟨o, ho, rfl⟩ := Option.map_eq_some_iff.1 h
  exact ⟨by simp [toCallee, pos_get hn ho], o, ho, rfl⟩

theorem isSome_of_mem {α : Type} {k : Nat} {x : α} {l : List (Nat × α)} (h : (k, x) ∈ l) : (look k l).isSome = true := by
  obtain ⟨y, hy⟩ := look_of_mem_nil h; simp [hy]

theorem look_osOf {H : Heap} {ns : List Nat} {o : Nat} (h : o ∈ ns) : look (toCallee ns o) (osOf H ns) = some (((look o H).getD (.acc 0)).ren (toCallee ns)) := by
  have key : ∀ (l : List Nat), (∀ x ∈ l, x ∈ ns) → o ∈ l → look (toCallee ns o) (l.map fun o => (toCallee ns o, ((look o H).getD (.acc 0)).ren (toCallee ns))) = some (((look o H).getD (.acc 0)).ren (toCallee ns)) := by
    intro l
    induction l with
    | nil => intro _ h; cases h
    | cons x l ih =>
      intro hs ho
      simp only [List.map_cons, look]
      by_cases e : toCallee ns x = toCallee ns o
      · have hx : x = o := by
          have h1 := toCaller_callee (dst := 0) (hs x (.head _))
          rw [e, toCaller_callee h] at h1
          exact h1.symm
        subst hx; simp
      · rw [if_neg e]
        refine ih (fun y hy => hs y (.tail _ hy)) ?_
        cases ho with
        | head => exact absurd rfl e
        | tail _ ho => exact ho
  exact key ns (fun _ h => h) h

theorem mem_osOf {H : Heap} {ns : List Nat} {n : Nat} {ob : Obj} (h : (n, ob) ∈ osOf H ns) : ∃ o ∈ ns, n = toCallee ns o ∧ ob = ((look o H).getD (.acc 0)).ren (toCallee ns) := by
  simp only [osOf, List.mem_map] at h
  obtain ⟨o, ho, he⟩ := h
  cases he
  exact ⟨o, ho, rfl, rfl⟩

theorem refs_iff_objs {x : AV} {o : Nat} (h : o ∈ x.objs) : x.refs o = true := by
  have key : ∀ x : AV, ∀ o, o ∈ x.objs → x.refs o = true := by
    intro x
    refine AV.rec (motive_1 := fun x => ∀ o, o ∈ x.objs → x.refs o = true) (motive_2 := fun xs => ∀ o, o ∈ AV.objsL xs → AV.refsL o xs = true) ?_ ?_ ?_ ?_ ?_ ?_ ?_ ?_ ?_ ?_ ?_ ?_ ?_ x
    all_goals (intros; simp_all [AV.objs, AV.objsL, AV.refs, AV.refsL])
    rename_i h1 h2 o h
    rcases h with h | h
    · exact .inl (h1 _ h)
    · exact .inr (h2 _ h)
  exact key x o h

mutual
theorem refs_objs : ∀ (x : AV) (o : Nat), x.refs o = true → o ∈ x.objs
  | .d _, _, h => by simp [AV.refs] at h
  | .ref p _ _, o, h => by simp [AV.refs] at h; simp [AV.objs, h]
  | .osl p _ _, o, h => by simp [AV.refs] at h; simp [AV.objs, h]
  | .acc p _, o, h => by simp [AV.refs] at h; simp [AV.objs, h]
  | .pe p _, o, h => by simp [AV.refs] at h; simp [AV.objs, h]
  | .xsl _, _, h => by simp [AV.refs] at h
  | .agg cs, o, h => by simp only [AV.refs] at h; simp only [AV.objs]; exact refsL_objs cs o h
  | .tup cs, o, h => by simp only [AV.refs] at h; simp only [AV.objs]; exact refsL_objs cs o h
  | .fn _ cs, o, h => by simp only [AV.refs] at h; simp only [AV.objs]; exact refsL_objs cs o h
  | .nl _, _, h => by simp [AV.refs] at h
  | .undef, _, h => by simp [AV.refs] at h
theorem refsL_objs : ∀ (xs : List AV) (o : Nat), AV.refsL o xs = true → o ∈ AV.objsL xs
  | [], _, h => by simp [AV.refsL] at h
  | x :: xs, o, h => by
    simp only [AV.refsL, Bool.or_eq_true] at h
    simp only [AV.objsL, List.mem_append]
    rcases h with h | h
    · exact .inl (refs_objs x o h)
    · exact .inr (refsL_objs xs o h)
end

theorem callArgs_get {H : Heap} : ∀ {ms : List Bool} {xs as : List AV}, callArgs H ms xs = some as → as.length = xs.length ∧ ∀ (i : Nat) (x y : AV), xs[i]? = some x → as[i]? = some y →
    (y = x ∧ ∀ o ∈ x.objs, o ∈ keptObjs ms xs) ∨ (∃ d, toD H x = some d ∧ y = .d d ∧ ∀ o ∈ x.objs, o ∈ dataObjs ms xs) := by
  intro ms xs
  induction xs generalizing ms with
  | nil => intro as h; cases ms <;> (simp only [callArgs, Option.some.injEq] at h; subst h; simp)
  | cons x xs ih =>
    intro as h
    have data : ∀ (ms' : List Bool), (∀ o, o ∈ x.objs → o ∈ dataObjs ms (x :: xs)) → (∀ o, o ∈ dataObjs ms' xs → o ∈ dataObjs ms (x :: xs)) → (∀ o, o ∈ keptObjs ms' xs → o ∈ keptObjs ms (x :: xs)) → ((toD H x).bind fun d => (callArgs H ms' xs).map (.d d :: ·)) = some as → as.length = (x :: xs).length ∧ ∀ (i : Nat) (x' y : AV), (x :: xs)[i]? = some x' → as[i]? = some y →
        (y = x' ∧ ∀ o ∈ x'.objs, o ∈ keptObjs ms (x :: xs)) ∨ (∃ d, toD H x' = some d ∧ y = .d d ∧ ∀ o ∈ x'.objs, o ∈ dataObjs ms (x :: xs)) := by
      intro ms' hd1 hd2 hk h
      obtain ⟨d, hd, h⟩ := Option.bind_eq_some_iff.1 h
      obtain ⟨as', h', rfl⟩ := Option.map_eq_some_iff.1 h
      obtain ⟨h1, h2⟩ := ih h'
      refine ⟨by simp [h1], fun i a b ha hb => ?_⟩
      match i, ha, hb with
      | 0, ha, hb => simp at ha hb; subst ha hb; exact .inr ⟨d, hd, rfl, fun o ho => hd1 o ho⟩
      | n + 1, ha, hb =>
        rcases h2 n a b (by simpa using ha) (by simpa using hb) with ⟨h3, h4⟩ | ⟨d', h3, h4, h5⟩
        · exact .inl ⟨h3, fun o ho => hk o (h4 o ho)⟩
        · exact .inr ⟨d', h3, h4, fun o ho => hd2 o (h5 o ho)⟩
    match ms, h with
    | [], h => exact data [] (fun o ho => by simp [dataObjs, ho]) (fun o ho => by simp [dataObjs, ho]) (fun o ho => by cases xs <;> simp [keptObjs] at ho) h
    | false :: ms, h => exact data ms (fun o ho => by simp [dataObjs, ho]) (fun o ho => by simp [dataObjs, ho]) (fun o ho => by simp [keptObjs, ho]) h
    | true :: ms, h =>
      simp only [callArgs] at h
      obtain ⟨as', h', rfl⟩ := Option.map_eq_some_iff.1 h
      obtain ⟨h1, h2⟩ := ih h'
      refine ⟨by simp [h1], fun i a b ha hb => ?_⟩
      match i, ha, hb with
      | 0, ha, hb => simp at ha hb; subst ha hb; exact .inl ⟨rfl, fun o ho => by simp [keptObjs, ho]⟩
      | n + 1, ha, hb =>
        rcases h2 n a b (by simpa using ha) (by simpa using hb) with ⟨h3, h4⟩ | ⟨d', h3, h4, h5⟩
        · exact .inl ⟨h3, fun o ho => by simp [keptObjs, h4 o ho]⟩
        · exact .inr ⟨d', h3, h4, fun o ho => by simp [dataObjs, h5 o ho]⟩

theorem look_renH {ρ : Nat → Nat} {os : Heap} {n : Nat} (h : ∀ m, (look m os).isSome = true → ρ m = ρ n → m = n) : look (ρ n) (renH ρ os) = (look n os).map (Obj.ren ρ) := by
  induction os with
  | nil => rfl
  | cons p os ih =>
    obtain ⟨m, ob⟩ := p
    have ih' : (∀ m', (look m' os).isSome = true → ρ m' = ρ n → m' = n) → look (ρ n) (renH ρ os) = (look n os).map (Obj.ren ρ) := ih
    simp only [renH, List.map_cons, look] at ih' ⊢
    by_cases e : m = n
    · subst e; simp
    · have hne : ρ m ≠ ρ n := fun he => e (h m (by simp [look]) he)
      rw [if_neg hne, if_neg e]
      refine ih' fun m' hm' he => h m' ?_ he
      simp only [look]
      split
      · rfl
      · exact hm'

theorem mem_putsH {δ H : Heap} {p : Nat × Obj} (h : p ∈ putsH δ H) : p ∈ δ ∨ (p ∈ H ∧ look p.1 δ = none) := by
  induction δ with
  | nil => exact .inr ⟨h, rfl⟩
  | cons q δ ih =>
    obtain ⟨o, ob⟩ := q
    simp only [putsH, setAt] at h
    cases h with
    | head => exact .inl (.head _)
    | tail _ h =>
      obtain ⟨h1, h2⟩ := mem_without.1 h
      rcases ih h1 with h3 | ⟨h3, h4⟩
      · exact .inl (.tail _ h3)
      · refine .inr ⟨h3, ?_⟩
        simp only [look]
        rw [if_neg (Ne.symm h2)]; exact h4

theorem look_renH_none {ρ : Nat → Nat} {os : Heap} {o : Nat} (h : look o (renH ρ os) = none) : ∀ n, (look n os).isSome = true → ρ n ≠ o := by
  induction os with
  | nil => intro n hn; cases hn
  | cons p os ih =>
    obtain ⟨m, ob⟩ := p
    simp only [renH, List.map_cons, look] at h
    split at h
    · cases h
    · rename_i hne
      intro n hn
      simp only [look] at hn
      split at hn
      · rename_i e; subst e; exact hne
      · exact ih h n hn

end Go.Sim
