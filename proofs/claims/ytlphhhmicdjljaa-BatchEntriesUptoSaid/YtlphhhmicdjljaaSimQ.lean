/-
  What an operation looks at: its outcome depends on its operands and on the objects that these name alone.
-/
import Derived.Test.YtlphhhmicdjljaaSimC
namespace Go.Sim
set_option linter.unusedSimpArgs false
set_option linter.unusedVariables false
open Go (World Value Addr TypeId Act)

def AOp.opds : AOp → List Opd
  | .mv x => [x]
  | .pick c a b => [c, a, b]
  | .alloc _ => []
  | .box x => [x]
  | .build _ ps => ps.map (·.2.2)
  | .bsl _ _ _ ps => ps.map (·.2)
  | .ld _ _ p => [p]
  | .st _ p x => [p, x]
  | .nilc x => [x]
  | .bin _ x y => [x, y]
  | .eqb _ x y => [x, y]
  | .eqs _ _ _ x y => [x, y]
  | .nacc => []
  | .un _ x => [x]
  | .cvi _ x => [x]
  | .s2b x => [x]
  | .b2s x => [x]
  | .mkfn _ cs => cs
  | .fad _ _ _ x => [x]
  | .fld _ _ _ x => [x]
  | .iad _ x i => [x, i]
  | .iada _ _ _ x i => [x, i]
  | .idx x i => [x, i]
  | .slc _ x lo hi mx => x :: (lo.toList ++ hi.toList ++ mx.toList)
  | .sls x lo hi => x :: (lo.toList ++ hi.toList)
  | .ext x _ => [x]
  | .len x => [x]
  | .lens x => [x]
  | .app _ x y => [x, y]
  | .apps x y => [x, y]
  | .mm _ xs => xs
  | .mks _ _ l c => [l, c]
  | .nileq _ x => [x]
  | .call _ _ xs => xs
  | .callv f _ xs => f :: xs

/-- It looks into the objects that its operands name. -/
def AOp.looks : AOp → Bool
  | .ld .. | .st .. | .iad .. | .slc .. | .app .. | .apps .. | .call .. | .callv .. => true
  | _ => false

/-- It may make an object, which is named as its slot. -/
def AOp.news : AOp → Bool
  | .alloc .. | .box .. | .bsl .. | .mks .. | .app .. | .apps .. | .nacc => true
  | _ => false

def objsOf (E : Env) : List Opd → List Nat
  | [] => []
  | y :: l => (y.ev E).objs ++ objsOf E l

theorem mem_objsOf {E : Env} {o : Nat} : ∀ {l : List Opd}, o ∈ objsOf E l ↔ ∃ y ∈ l, o ∈ (y.ev E).objs := by
  intro l
  induction l with
  | nil => simp [objsOf]
  | cons y l ih => simp [objsOf, ih]

def AOp.foot (E : Env) (dst : Nat) (op : AOp) : List Nat := (if op.looks then objsOf E op.opds else []) ++ (if op.news then [dst] else [])

/-- The objects that it may write. -/
def AOp.wr (E : Env) (dst : Nat) : AOp → List Nat
  | .st _ p _ => (p.ev E).objs
  | .app _ x _ => (x.ev E).objs ++ [dst]
  | .apps x _ => (x.ev E).objs ++ [dst]
  | .alloc _ | .box _ | .bsl .. | .mks .. | .nacc => [dst]
  | _ => []

theorem AOp.wr_foot {E : Env} {dst o : Nat} {op : AOp} (h : o ∈ op.wr E dst) : o ∈ op.foot E dst := by
  cases op <;> simp_all [AOp.wr, AOp.foot, AOp.looks, AOp.news, AOp.opds, objsOf]
  · rcases h with h | h <;> simp [h]
  · rcases h with h | h <;> simp [h]

def putsH : Heap → Heap → Heap
  | [], H => H
  | (o, ob) :: δ, H => setAt o ob (putsH δ H)

theorem look_setAt_if {α : Type} {k j : Nat} {x : α} {l : List (Nat × α)} : look j (setAt k x l) = if j = k then some x else look j l := by
  split
  · rename_i h; subst h; simp
  · rename_i h; exact look_setAt_ne h

theorem look_putsH {o : Nat} {δ H : Heap} : look o (putsH δ H) = (look o δ).or (look o H) := by
  induction δ with
  | nil => simp [putsH, look]
  | cons p δ ih =>
    obtain ⟨q, ob⟩ := p
    rw [putsH, look_setAt_if, look]
    by_cases h : o = q
    · simp [h]
    · rw [if_neg h, if_neg (Ne.symm h), ih]

structure Local (op : AOp) (E : Env) (H : Heap) (dst : Nat) (v : AV) (H' : Heap) (δ : Heap) : Prop where
  eq : H' = putsH δ H
  sub : ∀ o ob, (o, ob) ∈ δ → o ∈ op.wr E dst
  same : ∀ E2 H2, (∀ y ∈ op.opds, y.ev E2 = y.ev E) → (∀ o ∈ op.foot E dst, look o H2 = look o H) → (op.news = true → refsEnv dst E2 = false ∧ refsHeap dst H2 = false) → astep E2 H2 dst op = some (v, putsH δ H2)

theorem Local.quiet {op : AOp} {E : Env} {H : Heap} {dst : Nat} {v : AV} {H' : Heap} (hn : op.news = false)
    (h : ∀ E2 H2, (∀ y ∈ op.opds, y.ev E2 = y.ev E) → (op.looks = true → ∀ o ∈ objsOf E op.opds, look o H2 = look o H) → astep E2 H2 dst op = some (v, H2)) (he : H' = H) : Local op E H dst v H' [] := by
  refine ⟨he, (fun o ob h => nomatch h), fun E2 H2 h1 h2 _ => h E2 H2 h1 fun hl o ho => h2 o ?_⟩
  simp [AOp.foot, hl, ho]

theorem opds_map {E E2 : Env} {α : Type} {l : List α} {g : α → Opd} (h : ∀ y ∈ l.map g, y.ev E2 = y.ev E) : ∀ p ∈ l, (g p).ev E2 = (g p).ev E := fun p hp => h _ (List.mem_map_of_mem hp)

theorem map_ev {E E2 : Env} {l : List Opd} (h : ∀ y ∈ l, y.ev E2 = y.ev E) : l.map (·.ev E2) = l.map (·.ev E) := List.map_congr_left h

theorem ldA_same {E : Env} {H H2 : Heap} {ag : Bool} {n : Nat} {x : AV} (h : ∀ o ∈ x.objs, look o H2 = look o H) : ldA H2 ag n x = ldA H ag n x := by
  cases x with
  | d y => cases y <;> rfl
  | ref o i off => simp only [ldA]; try rw [h _ (by simp [AV.objs])]
  | osl o off len => simp only [ldA]; try rw [h _ (by simp [AV.objs])]
  | _ => rfl

theorem iadA_same {H H2 : Heap} {n : Nat} {i : Int} {x : AV} (h : ∀ o ∈ x.objs, look o H2 = look o H) : iadA H2 n i x = iadA H n i x := by
  cases x with
  | d y => cases y <;> rfl
  | ref o i off => simp only [iadA]; try rw [h _ (by simp [AV.objs])]
  | osl o off len => simp only [iadA]; try rw [h _ (by simp [AV.objs])]
  | _ => rfl

theorem slcA_same {H H2 : Heap} {n : Nat} {lo hi mx : Option AV} {x : AV} (h : ∀ o ∈ x.objs, look o H2 = look o H) : slcA H2 n lo hi mx x = slcA H n lo hi mx x := by
  cases x with
  | d y => cases y <;> rfl
  | ref o i off => simp only [slcA]; try rw [h _ (by simp [AV.objs])]
  | osl o off len => simp only [slcA]; try rw [h _ (by simp [AV.objs])]
  | _ => rfl

theorem srcD_same {H H2 : Heap} {x : AV} (h : ∀ o ∈ x.objs, look o H2 = look o H) : srcD H2 x = srcD H x := by
  cases x with
  | d y => cases y <;> rfl
  | ref o i off => simp only [srcD]; try rw [h _ (by simp [AV.objs])]
  | osl o off len => simp only [srcD]; try rw [h _ (by simp [AV.objs])]
  | _ => rfl

theorem Local.new {op : AOp} {E : Env} {H : Heap} {dst : Nat} {v : AV} {ob : Obj} (hn : op.news = true)
    (h : ∀ E2 H2, (∀ y ∈ op.opds, y.ev E2 = y.ev E) → (∀ o ∈ op.foot E dst, look o H2 = look o H) → refsEnv dst E2 = false → refsHeap dst H2 = false → astep E2 H2 dst op = some (v, setAt dst ob H2)) : Local op E H dst v (setAt dst ob H) [(dst, ob)] := by
  refine ⟨rfl, fun o ob' h' => ?_, fun E2 H2 h1 h2 h3 => h E2 H2 h1 h2 (h3 hn).1 (h3 hn).2⟩
  simp only [List.mem_singleton, Prod.mk.injEq] at h'
  rw [h'.1]
  cases op <;> simp_all [AOp.wr, AOp.news]

theorem appA_local {op : AOp} {E : Env} {H : Heap} {dst n : Nat} {x : Opd} {ys : List D} {v : AV} {H' : Heap} (hn : op.news = true) (hl : op.looks = true) (hx : x ∈ op.opds) (hw : ∀ o ∈ (x.ev E).objs, o ∈ op.wr E dst) (h : appA E H dst n ys (x.ev E) = some (v, H'))
    (hop : ∀ E2 H2, (∀ y ∈ op.opds, y.ev E2 = y.ev E) → (∀ o ∈ op.foot E dst, look o H2 = look o H) → astep E2 H2 dst op = appA E2 H2 dst n ys (x.ev E)) : ∃ δ, Local op E H dst v H' δ := by
  cases hxv : x.ev E with
  | xsl es =>
    rw [hxv] at h
    simp only [appA] at h
    split at h
    · rename_i hc
      cases h
      refine ⟨_, Local.new hn fun E2 H2 h1 h2 h3 h4 => ?_⟩
      rw [hop E2 H2 h1 h2, hxv]
      simp only [appA]
      rw [if_pos ⟨hc.1, hc.2.1, h3, h4, hc.2.2.2.2⟩]
    · cases h
  | acc o es =>
    rw [hxv] at h
    simp only [appA] at h
    have hmem : o ∈ op.foot E dst := by
      simp only [AOp.foot, hl, if_true, List.mem_append]
      exact .inl (mem_objsOf.2 ⟨x, hx, by rw [hxv]; simp [AV.objs]⟩)
    split at h
    · rename_i m hm
      split at h
      · rename_i hc
        cases h
        refine ⟨[(o, .acc (m + ys.length))], rfl, ?_, fun E2 H2 h1 h2 _ => ?_⟩
        · intro p ob hp
          simp only [List.mem_singleton, Prod.mk.injEq] at hp
          rw [hp.1]; exact hw _ (by rw [hxv]; simp [AV.objs])
        · rw [hop E2 H2 h1 h2, hxv]
          simp only [appA]
          rw [h2 _ hmem, hm]
          simp only [hc, and_self, if_true, putsH]
      · cases h
    · cases h
  | _ => rw [hxv] at h; simp [appA] at h

theorem astep_quiet_eq {op : AOp} {E : Env} {H : Heap} {dst : Nat} {r : AV × Heap} (hn : op.news = false) (hs : ∀ n p x, op ≠ .st n p x) (h : astep E H dst op = some r) : r.2 = H := by
  obtain ⟨v, H'⟩ := r
  cases op with
  | st n p x => exact absurd rfl (hs n p x)
  | sls x lo hi =>
    simp only [astep] at h
    split at h
    · obtain ⟨q, _, h⟩ := Option.bind_eq_some_iff.1 h
      obtain ⟨l, _, h⟩ := Option.map_eq_some_iff.1 h
      cases h; rfl
    · cases h
  | _ =>
    first
      | (exfalso; revert hn; simp [AOp.news]; done)
      | (revert h
         simp only [astep]
         (repeat' split) <;> intro h <;> simp_all [Option.map_eq_some_iff, Option.bind_eq_some_iff] <;> grind)

theorem astep_local {op : AOp} {E : Env} {H : Heap} {dst : Nat} {v : AV} {H' : Heap} (h : astep E H dst op = some (v, H')) : ∃ δ, Local op E H dst v H' δ := by
  cases op with
  | mv x =>
    simp only [astep, Option.some.injEq, Prod.mk.injEq] at h
    obtain ⟨rfl, rfl⟩ := h
    refine ⟨[], Local.quiet rfl (fun E2 H2 he _ => ?_) rfl⟩
    simp [astep, he x (by simp [AOp.opds])]
  | pick c a b =>
    simp only [astep] at h
    split at h
    · rename_i t ht
      simp only [Option.some.injEq, Prod.mk.injEq] at h
      obtain ⟨rfl, rfl⟩ := h
      refine ⟨[], Local.quiet rfl (fun E2 H2 he _ => ?_) rfl⟩
      simp only [astep, he c (by simp [AOp.opds]), he a (by simp [AOp.opds]), he b (by simp [AOp.opds]), ht]
    · cases h
  | nilc x =>
    refine ⟨[], Local.quiet rfl (fun E2 H2 he _ => ?_) (astep_quiet_eq rfl (by intros; nofun) h)⟩
    have hq := astep_quiet_eq rfl (by intros; nofun) h
    dsimp only at hq; subst hq
    revert h
    simp only [astep, he x (by simp [AOp.opds])]
    (repeat' split) <;> intro h <;> simp_all [Option.map_eq_some_iff, Option.bind_eq_some_iff]
  | bin op x y =>
    refine ⟨[], Local.quiet rfl (fun E2 H2 he _ => ?_) (astep_quiet_eq rfl (by intros; nofun) h)⟩
    have hq := astep_quiet_eq rfl (by intros; nofun) h
    dsimp only at hq; subst hq
    revert h
    simp only [astep, he x (by simp [AOp.opds]), he y (by simp [AOp.opds])]
    (repeat' split) <;> intro h <;> simp_all [Option.map_eq_some_iff, Option.bind_eq_some_iff]
  | eqb ng x y =>
    refine ⟨[], Local.quiet rfl (fun E2 H2 he _ => ?_) (astep_quiet_eq rfl (by intros; nofun) h)⟩
    have hq := astep_quiet_eq rfl (by intros; nofun) h
    dsimp only at hq; subst hq
    revert h
    simp only [astep, he x (by simp [AOp.opds]), he y (by simp [AOp.opds])]
    (repeat' split) <;> intro h <;> simp_all [Option.map_eq_some_iff, Option.bind_eq_some_iff]
  | eqs ng n ls x y =>
    refine ⟨[], Local.quiet rfl (fun E2 H2 he _ => ?_) (astep_quiet_eq rfl (by intros; nofun) h)⟩
    have hq := astep_quiet_eq rfl (by intros; nofun) h
    dsimp only at hq; subst hq
    revert h
    simp only [astep, he x (by simp [AOp.opds]), he y (by simp [AOp.opds])]
    (repeat' split) <;> intro h <;> simp_all [Option.map_eq_some_iff, Option.bind_eq_some_iff]
  | nacc =>
    simp only [astep] at h
    split at h
    · rename_i hc
      cases h
      exact ⟨_, Local.new rfl fun E2 H2 _ _ h1 h2 => by simp only [astep]; rw [if_pos ⟨h1, h2⟩]⟩
    · cases h
  | un op x =>
    refine ⟨[], Local.quiet rfl (fun E2 H2 he _ => ?_) (astep_quiet_eq rfl (by intros; nofun) h)⟩
    have hq := astep_quiet_eq rfl (by intros; nofun) h
    dsimp only at hq; subst hq
    revert h
    simp only [astep, he x (by simp [AOp.opds])]
    (repeat' split) <;> intro h <;> simp_all [Option.map_eq_some_iff, Option.bind_eq_some_iff]
  | cvi k x =>
    refine ⟨[], Local.quiet rfl (fun E2 H2 he _ => ?_) (astep_quiet_eq rfl (by intros; nofun) h)⟩
    have hq := astep_quiet_eq rfl (by intros; nofun) h
    dsimp only at hq; subst hq
    revert h
    simp only [astep, he x (by simp [AOp.opds])]
    (repeat' split) <;> intro h <;> simp_all [Option.map_eq_some_iff, Option.bind_eq_some_iff]
  | s2b x =>
    refine ⟨[], Local.quiet rfl (fun E2 H2 he _ => ?_) (astep_quiet_eq rfl (by intros; nofun) h)⟩
    have hq := astep_quiet_eq rfl (by intros; nofun) h
    dsimp only at hq; subst hq
    revert h
    simp only [astep, he x (by simp [AOp.opds])]
    (repeat' split) <;> intro h <;> simp_all [Option.map_eq_some_iff, Option.bind_eq_some_iff]
  | b2s x =>
    refine ⟨[], Local.quiet rfl (fun E2 H2 he _ => ?_) (astep_quiet_eq rfl (by intros; nofun) h)⟩
    have hq := astep_quiet_eq rfl (by intros; nofun) h
    dsimp only at hq; subst hq
    revert h
    simp only [astep, he x (by simp [AOp.opds])]
    (repeat' split) <;> intro h <;> simp_all [Option.map_eq_some_iff, Option.bind_eq_some_iff]
  | fad ag off n x =>
    refine ⟨[], Local.quiet rfl (fun E2 H2 he _ => ?_) (astep_quiet_eq rfl (by intros; nofun) h)⟩
    have hq := astep_quiet_eq rfl (by intros; nofun) h
    dsimp only at hq; subst hq
    revert h
    simp only [astep, he x (by simp [AOp.opds])]
    (repeat' split) <;> intro h <;> simp_all [Option.map_eq_some_iff, Option.bind_eq_some_iff]
  | fld ag off n x =>
    refine ⟨[], Local.quiet rfl (fun E2 H2 he _ => ?_) (astep_quiet_eq rfl (by intros; nofun) h)⟩
    have hq := astep_quiet_eq rfl (by intros; nofun) h
    dsimp only at hq; subst hq
    revert h
    simp only [astep, he x (by simp [AOp.opds])]
    (repeat' split) <;> intro h <;> simp_all [Option.map_eq_some_iff, Option.bind_eq_some_iff]
  | iada ag len n x i =>
    refine ⟨[], Local.quiet rfl (fun E2 H2 he _ => ?_) (astep_quiet_eq rfl (by intros; nofun) h)⟩
    have hq := astep_quiet_eq rfl (by intros; nofun) h
    dsimp only at hq; subst hq
    revert h
    simp only [astep, he x (by simp [AOp.opds]), he i (by simp [AOp.opds])]
    (repeat' split) <;> intro h <;> simp_all [Option.map_eq_some_iff, Option.bind_eq_some_iff]
  | idx x i =>
    refine ⟨[], Local.quiet rfl (fun E2 H2 he _ => ?_) (astep_quiet_eq rfl (by intros; nofun) h)⟩
    have hq := astep_quiet_eq rfl (by intros; nofun) h
    dsimp only at hq; subst hq
    revert h
    simp only [astep, he x (by simp [AOp.opds]), he i (by simp [AOp.opds])]
    (repeat' split) <;> intro h <;> simp_all [Option.map_eq_some_iff, Option.bind_eq_some_iff]
  | ext x i =>
    refine ⟨[], Local.quiet rfl (fun E2 H2 he _ => ?_) (astep_quiet_eq rfl (by intros; nofun) h)⟩
    have hq := astep_quiet_eq rfl (by intros; nofun) h
    dsimp only at hq; subst hq
    revert h
    simp only [astep, he x (by simp [AOp.opds])]
    (repeat' split) <;> intro h <;> simp_all [Option.map_eq_some_iff, Option.bind_eq_some_iff]
  | len x =>
    refine ⟨[], Local.quiet rfl (fun E2 H2 he _ => ?_) (astep_quiet_eq rfl (by intros; nofun) h)⟩
    have hq := astep_quiet_eq rfl (by intros; nofun) h
    dsimp only at hq; subst hq
    revert h
    simp only [astep, he x (by simp [AOp.opds])]
    (repeat' split) <;> intro h <;> simp_all [Option.map_eq_some_iff, Option.bind_eq_some_iff]
  | lens x =>
    refine ⟨[], Local.quiet rfl (fun E2 H2 he _ => ?_) (astep_quiet_eq rfl (by intros; nofun) h)⟩
    have hq := astep_quiet_eq rfl (by intros; nofun) h
    dsimp only at hq; subst hq
    revert h
    simp only [astep, he x (by simp [AOp.opds])]
    (repeat' split) <;> intro h <;> simp_all [Option.map_eq_some_iff, Option.bind_eq_some_iff]
  | build z ps =>
    refine ⟨[], Local.quiet rfl (fun E2 H2 he _ => ?_) (astep_quiet_eq rfl (by intros; nofun) h)⟩
    have hq := astep_quiet_eq rfl (by intros; nofun) h
    dsimp only at hq; subst hq
    have hm : (ps.map fun p => (p.1, p.2.1, p.2.2.ev E2)) = ps.map fun p => (p.1, p.2.1, p.2.2.ev E) := List.map_congr_left fun p hp => by rw [opds_map (g := fun p : Nat × Nat × Opd => p.2.2) he p hp]
    simp only [astep, hm] at h ⊢
    obtain ⟨q, h1, h2⟩ := Option.map_eq_some_iff.1 h
    rw [h1]; simp at h2; simp [h2]
  | mkfn f cs =>
    refine ⟨[], Local.quiet rfl (fun E2 H2 he _ => ?_) (astep_quiet_eq rfl (by intros; nofun) h)⟩
    have hm : cs.map (·.ev E2) = cs.map (·.ev E) := map_ev he
    simp only [astep] at h ⊢
    cases h
    rw [hm]
  | mm mx xs =>
    refine ⟨[], Local.quiet rfl (fun E2 H2 he _ => ?_) (astep_quiet_eq rfl (by intros; nofun) h)⟩
    have hm : xs.map (·.ev E2) = xs.map (·.ev E) := map_ev he
    simp only [astep] at h ⊢
    rw [hm]
    split at h
    · cases h
    · obtain ⟨q, h1, h2⟩ := Option.map_eq_some_iff.1 h
      cases h2; simp [h1]
  | ld ag n p =>
    refine ⟨[], Local.quiet rfl (fun E2 H2 he hh => ?_) (astep_quiet_eq rfl (by intros; nofun) h)⟩
    have hp := he p (by simp [AOp.opds])
    have hs : ldA H2 ag n (p.ev E) = ldA H ag n (p.ev E) := ldA_same (E := E) fun o ho => hh rfl o (mem_objsOf.2 ⟨p, by simp [AOp.opds], ho⟩)
    simp only [astep, hp, hs] at h ⊢
    obtain ⟨q, h1, h2⟩ := Option.map_eq_some_iff.1 h
    cases h2; simp [h1]
  | iad n x i =>
    refine ⟨[], Local.quiet rfl (fun E2 H2 he hh => ?_) (astep_quiet_eq rfl (by intros; nofun) h)⟩
    have hp := he x (by simp [AOp.opds])
    have hi := he i (by simp [AOp.opds])
    have hs : ∀ k, iadA H2 n k (x.ev E) = iadA H n k (x.ev E) := fun k => iadA_same fun o ho => hh rfl o (mem_objsOf.2 ⟨x, by simp [AOp.opds], ho⟩)
    simp only [astep, hp, hi, hs] at h ⊢
    obtain ⟨k, h1, h2⟩ := Option.bind_eq_some_iff.1 h
    rw [h1]
    simp only [Option.bind_some]
    split at h2
    · rename_i hk
      obtain ⟨q, h3, h4⟩ := Option.map_eq_some_iff.1 h2
      cases h4; simp [hk, h3]
    · cases h2
  | slc n x lo hi mx =>
    refine ⟨[], Local.quiet rfl (fun E2 H2 he hh => ?_) (astep_quiet_eq rfl (by intros; nofun) h)⟩
    have hp := he x (by simp [AOp.opds])
    have h1 : lo.map (·.ev E2) = lo.map (·.ev E) := by cases lo with | none => rfl | some y => simp [he y (by simp [AOp.opds])]
    have h2 : hi.map (·.ev E2) = hi.map (·.ev E) := by cases hi with | none => rfl | some y => simp [he y (by simp [AOp.opds])]
    have h3 : mx.map (·.ev E2) = mx.map (·.ev E) := by cases mx with | none => rfl | some y => simp [he y (by simp [AOp.opds])]
    have hs : slcA H2 n (lo.map (·.ev E)) (hi.map (·.ev E)) (mx.map (·.ev E)) (x.ev E) = slcA H n (lo.map (·.ev E)) (hi.map (·.ev E)) (mx.map (·.ev E)) (x.ev E) := slcA_same fun o ho => hh rfl o (mem_objsOf.2 ⟨x, by simp [AOp.opds], ho⟩)
    simp only [astep, hp, h1, h2, h3, hs] at h ⊢
    obtain ⟨q, h4, h5⟩ := Option.map_eq_some_iff.1 h
    cases h5; simp [h4]
  | sls x lo hi =>
    refine ⟨[], Local.quiet rfl (fun E2 H2 he hh => ?_) (astep_quiet_eq rfl (by intros; nofun) h)⟩
    have hp := he x (by simp [AOp.opds])
    have h1 : lo.map (·.ev E2) = lo.map (·.ev E) := by cases lo with | none => rfl | some y => simp [he y (by simp [AOp.opds])]
    have h2 : hi.map (·.ev E2) = hi.map (·.ev E) := by cases hi with | none => rfl | some y => simp [he y (by simp [AOp.opds])]
    simp only [astep, hp, h1, h2] at h ⊢
    split at h
    · obtain ⟨q, h4, h5⟩ := Option.bind_eq_some_iff.1 h
      obtain ⟨l, h6, h7⟩ := Option.map_eq_some_iff.1 h5
      cases h7; simp [h4, h6]
    · cases h
  | alloc z =>
    simp only [astep] at h
    split at h
    · cases h
      refine ⟨_, Local.new rfl fun E2 H2 h1 h2 h3 h4 => ?_⟩
      simp [astep, h3, h4]
    · cases h
  | box x =>
    simp only [astep] at h
    split at h
    · rename_i hc
      cases h
      refine ⟨_, Local.new rfl fun E2 H2 h1 h2 h3 h4 => ?_⟩
      simp only [astep, h1 x (by simp [AOp.opds]), h3, h4]
      rw [if_pos ⟨trivial, trivial, hc.2.2⟩]
    · cases h
  | bsl len n z ps =>
    have hm : ∀ E2 : Env, (∀ y ∈ (AOp.bsl len n z ps).opds, y.ev E2 = y.ev E) → (ps.map fun p => (p.1, p.2.ev E2)) = ps.map fun p => (p.1, p.2.ev E) := fun E2 he => List.map_congr_left fun p hp => by rw [opds_map (g := fun p : Nat × Opd => p.2) he p hp]
    have ha : ∀ E2 : Env, (∀ y ∈ (AOp.bsl len n z ps).opds, y.ev E2 = y.ev E) → (ps.all fun p => (p.2.ev E2).size == n) = ps.all fun p => (p.2.ev E).size == n := fun E2 he => by
      rw [Bool.eq_iff_iff, List.all_eq_true, List.all_eq_true]
      constructor
      · intro h p hp; rw [← opds_map (g := fun p : Nat × Opd => p.2) he p hp]; exact h p hp
      · intro h p hp; rw [opds_map (g := fun p : Nat × Opd => p.2) he p hp]; exact h p hp
    simp only [astep] at h
    split at h
    · rename_i hc
      obtain ⟨es, h1, h2⟩ := Option.bind_eq_some_iff.1 h
      split at h2
      · rename_i ds hds
        cases h2
        refine ⟨[], rfl, (fun o ob h => nomatch h), fun E2 H2 he _ _ => ?_⟩
        simp only [astep, hm E2 he, ha E2 he]
        rw [if_pos hc, h1]
        simp [hds, putsH]
      · rename_i hds
        split at h2
        · cases h2
          refine ⟨_, Local.new rfl fun E2 H2 he _ h3 h4 => ?_⟩
          simp only [astep, hm E2 he, ha E2 he]
          rw [if_pos hc, h1]
          simp [hds, h3, h4]
        · cases h2
    · cases h
  | mks n z l c =>
    simp only [astep] at h
    split at h
    · rename_i a b hl hc
      split at h
      · rename_i hh
        cases h
        refine ⟨_, Local.new rfl fun E2 H2 h1 h2 h3 h4 => ?_⟩
        simp only [astep, h1 l (by simp [AOp.opds]), h1 c (by simp [AOp.opds]), hl, hc, h3, h4]
        rw [if_pos ⟨hh.1, hh.2.1, hh.2.2.1, hh.2.2.2.1, trivial, trivial⟩]
      · cases h
    · cases h
  | st n p x =>
    simp only [astep] at h
    split at h
    · rename_i o i off hp
      split at h
      · rename_i hc
        split at h
        · rename_i es hes
          obtain ⟨e, h1, h2⟩ := Option.bind_eq_some_iff.1 h
          obtain ⟨e', h3, h4⟩ := Option.map_eq_some_iff.1 h2
          cases h4
          have hmem : o ∈ (AOp.st n p x).foot E dst := by
            simp only [AOp.foot, AOp.looks, if_true, List.mem_append]
            exact .inl (mem_objsOf.2 ⟨p, by simp [AOp.opds], by rw [hp]; simp [AV.objs]⟩)
          refine ⟨[(o, .row (es.set i e'))], rfl, ?_, fun E2 H2 he hh _ => ?_⟩
          · intro q ob hq
            simp only [List.mem_singleton, Prod.mk.injEq] at hq
            rw [hq.1]; simp [AOp.wr, hp, AV.objs]
          · simp only [astep, he p (by simp [AOp.opds]), he x (by simp [AOp.opds]), hp, hh o hmem, hes]
            rw [if_pos hc, h1]
            simp [h3, putsH]
        · cases h
      · cases h
    · cases h
  | app n x y =>
    simp only [astep] at h
    obtain ⟨ys, h1, h2⟩ := Option.bind_eq_some_iff.1 h
    refine appA_local (x := x) rfl rfl (by simp [AOp.opds]) (fun o ho => by simp [AOp.wr, ho]) h2 fun E2 H2 he hh => ?_
    have hs : srcD H2 (y.ev E) = srcD H (y.ev E) := srcD_same fun o ho => hh o (by
      simp only [AOp.foot, AOp.looks, if_true, List.mem_append]
      exact .inl (mem_objsOf.2 ⟨y, by simp [AOp.opds], ho⟩))
    simp only [astep, he x (by simp [AOp.opds]), he y (by simp [AOp.opds]), hs, h1, Option.bind_some]
  | apps x y =>
    simp only [astep] at h
    split at h
    · rename_i s hs
      refine appA_local (x := x) rfl rfl (by simp [AOp.opds]) (fun o ho => by simp [AOp.wr, ho]) h fun E2 H2 he hh => ?_
      simp only [astep, he x (by simp [AOp.opds]), he y (by simp [AOp.opds]), hs]
    · cases h
  | nileq ng x => simp [astep] at h
  | call f ms xs => simp [astep] at h
  | callv f ms xs => simp [astep] at h

end Go.Sim
