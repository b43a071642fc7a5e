/-
  An array that was appended to becomes one that is written, and back.
-/
import Derived.Test.YtadnfmkdmknmhaaB9011fe9
set_option linter.unusedSimpArgs false
set_option linter.unusedVariables false
namespace Go.Sim
open Go (World Value Addr TypeId Act)
variable {P : Program} {C : Ctx}
def findAcc (o m : Nat) : Env → Option (List D)
  | [] => none
  | (_, .acc p es) :: l => if p = o ∧ es.length = m then some es else findAcc o m l
  | _ :: l => findAcc o m l
def rowV (o m : Nat) (x : AV) : AV :=
  match x with
  | .acc p es => if p = o then (if es.length = m then .osl o 0 m else .undef) else .acc p es
  | x => if x.refs o then .undef else x
def rowEnv (o m : Nat) (E : Env) : Env := E.map fun p => (p.1, rowV o m p.2)
def accV (o : Nat) (ds : List D) (x : AV) : AV :=
  match x with
  | .osl p off len => if p = o then (if off = 0 ∧ len = ds.length then .acc o ds else .undef) else .osl p off len
  | x => if x.refs o then .undef else x
def accEnv (o : Nat) (ds : List D) (E : Env) : Env := E.map fun p => (p.1, accV o ds p.2)
def nilV (o : Nat) : AV → AV
  | .acc p [] => if p = o then .xsl [] else .acc p []
  | x => x
def nilEnv (o : Nat) : Env → Env
  | [] => []
  | (t, x) :: l => (t, nilV o x) :: nilEnv o l
def okC (o m : Nat) : AV → Bool
  | .acc p es => if p = o then es.length == m else true
  | x => !x.refs o
def rowC (o m : Nat) : AV → AV
  | .acc p es => if p = o then .osl o 0 m else .acc p es
  | x => x
def okCs (o m : Nat) : List AV → Bool
  | [] => true
  | x :: l => okC o m x && okCs o m l
def rowCs (o m : Nat) : List AV → List AV
  | [] => []
  | x :: l => rowC o m x :: rowCs o m l
def okE (o m : Nat) : AV → Bool
  | .agg cs => okCs o m cs
  | x => okC o m x
def rowE (o m : Nat) : AV → AV
  | .agg cs => .agg (rowCs o m cs)
  | x => rowC o m x
def okEs (o m : Nat) : List AV → Bool
  | [] => true
  | x :: l => okE o m x && okEs o m l
def rowEs (o m : Nat) : List AV → List AV
  | [] => []
  | x :: l => rowE o m x :: rowEs o m l
def okHp (o m : Nat) : Heap → Bool
  | [] => true
  | (_, .row es) :: l => okEs o m es && okHp o m l
  | (_, .acc _) :: l => okHp o m l
  | (_, .frz _) :: l => okHp o m l
  | (_, .mp _) :: l => okHp o m l
def rowHp (o m : Nat) : Heap → Heap
  | [] => []
  | (q, .row es) :: l => (q, .row (rowEs o m es)) :: rowHp o m l
  | (q, .acc n) :: l => (q, .acc n) :: rowHp o m l
  | (q, .frz n) :: l => (q, .frz n) :: rowHp o m l
  | (q, .mp n) :: l => (q, .mp n) :: rowHp o m l
def findAccC (o m : Nat) : List AV → Option (List D)
  | [] => none
  | .acc p es :: l => if p = o ∧ es.length = m then some es else findAccC o m l
  | _ :: l => findAccC o m l
def orE {α : Type} (x : Option α) : Option α → Option α
  | some a => some a
  | none => x
def findAccE (o m : Nat) : List AV → Option (List D)
  | [] => none
  | .agg cs :: l => orE (findAccE o m l) (findAccC o m cs)
  | x :: l => orE (findAccE o m l) (findAccC o m [x])
def findAccH (o m : Nat) : Heap → Option (List D)
  | [] => none
  | (_, .row es) :: l => orE (findAccH o m l) (findAccE o m es)
  | (_, .acc _) :: l => findAccH o m l
  | (_, .frz _) :: l => findAccH o m l
  | (_, .mp _) :: l => findAccH o m l
def findAcc2 (o m : Nat) (E : Env) (H : Heap) : Option (List D) := orE (findAccH o m H) (findAcc o m E)
def toRow3 (o m : Nat) (E : Env) (H : Heap) (es : List D) (b : Bool) : Option St :=
  if b = false then some ⟨rowEnv o m E, setAt o (.row (es.map .d)) H⟩ else if okHp o m H = true then some ⟨rowEnv o m E, setAt o (.row (es.map .d)) (rowHp o m H)⟩ else none
def toRow2 (o m : Nat) (E : Env) (H : Heap) : Option (List D) → Option St
  | some es => if m ≠ 0 then toRow3 o m E H es (refsHeap o H) else none
  | none => none
def nilC (o : Nat) (x : AV) : AV :=
  match x with
  | .acc p [] => if p = o then .xsl [] else .acc p []
  | x => x
def nilCs (o : Nat) : List AV → List AV
  | [] => []
  | x :: l => nilC o x :: nilCs o l
def nilE (o : Nat) (x : AV) : AV :=
  match x with
  | .agg cs => .agg (nilCs o cs)
  | x => x
def nilEs (o : Nat) : List AV → List AV
  | [] => []
  | x :: l => nilE o x :: nilEs o l
def nilOb (o : Nat) (ob : Obj) : Obj :=
  match ob with
  | .row es => .row (nilEs o es)
  | x => x
def nilHp (o : Nat) : Heap → Heap
  | [] => []
  | (q, ob) :: l => (q, nilOb o ob) :: nilHp o l
def nilS (o : Nat) (E : Env) (H : Heap) (b : Bool) : Option St := if b = false then some ⟨nilEnv o E, H⟩ else some ⟨nilEnv o E, nilHp o H⟩
def toRow1 (o : Nat) (E : Env) (H : Heap) : Option Obj → Option St
  | some (.acc m) => if m = 0 then nilS o E H (refsHeap o H) else toRow2 o m E H (findAcc2 o m E H)
  | some (.row es) => some ⟨E, H⟩
  | some (.frz m) => some ⟨E, H⟩
  | some (.mp m) => some ⟨E, H⟩
  | none => some ⟨E, H⟩
def toRow (o : Nat) (S : St) : Option St := toRow1 o S.env S.heap (look o S.heap)
def nilO (o : Nat) : AV → AV
  | .osl p off 0 => if p = o then .d (.sl []) else .osl p off 0
  | x => x
def nilOEnv (o : Nat) : Env → Env
  | [] => []
  | (t, x) :: l => (t, nilO o x) :: nilOEnv o l
def okA (o n : Nat) : AV → Bool
  | .osl p off len => if p = o then off == 0 && len == n else true
  | x => !x.refs o
def acA (o : Nat) (ds : List D) : AV → AV
  | .osl p off len => if p = o then .acc o ds else .osl p off len
  | x => x
def okAs (o n : Nat) : List AV → Bool
  | [] => true
  | x :: l => okA o n x && okAs o n l
def acAs (o : Nat) (ds : List D) : List AV → List AV
  | [] => []
  | x :: l => acA o ds x :: acAs o ds l
def okAe (o n : Nat) : AV → Bool
  | .agg cs => okAs o n cs
  | x => okA o n x
def acAe (o : Nat) (ds : List D) : AV → AV
  | .agg cs => .agg (acAs o ds cs)
  | x => acA o ds x
def okAel (o n : Nat) : List AV → Bool
  | [] => true
  | x :: l => okAe o n x && okAel o n l
def acAel (o : Nat) (ds : List D) : List AV → List AV
  | [] => []
  | x :: l => acAe o ds x :: acAel o ds l
def okAh (o n : Nat) : Heap → Bool
  | [] => true
  | (_, .row es) :: l => okAel o n es && okAh o n l
  | (_, .acc _) :: l => okAh o n l
  | (_, .frz _) :: l => okAh o n l
  | (_, .mp _) :: l => okAh o n l
def acAh (o : Nat) (ds : List D) : Heap → Heap
  | [] => []
  | (q, .row es) :: l => (q, .row (acAel o ds es)) :: acAh o ds l
  | (q, .acc n) :: l => (q, .acc n) :: acAh o ds l
  | (q, .frz n) :: l => (q, .frz n) :: acAh o ds l
  | (q, .mp n) :: l => (q, .mp n) :: acAh o ds l
def toAcc3 (o : Nat) (E : Env) (H : Heap) (ds : List D) : Option St :=
  if okAh o ds.length H = true then some ⟨accEnv o ds E, setAt o (.acc ds.length) (acAh o ds H)⟩ else none
def toAcc2 (o : Nat) (E : Env) (H : Heap) (es : List AV) : Option (List D) → Option St
  | some ds => if es = [] then some ⟨nilOEnv o E, H⟩ else if es ≠ [] ∧ refsHeap o H = false then some ⟨accEnv o ds E, setAt o (.acc ds.length) H⟩ else toAcc3 o E H ds
  | none => none
def toAcc1 (o : Nat) (E : Env) (H : Heap) : Option Obj → Option St
  | some (.row es) => toAcc2 o E H es (allD es)
  | some (.acc m) => some ⟨E, H⟩
  | some (.frz m) => some ⟨E, H⟩
  | some (.mp m) => some ⟨E, H⟩
  | none => some ⟨E, H⟩
def toAcc (o : Nat) (S : St) : Option St := toAcc1 o S.env S.heap (look o S.heap)
def rnm (o o' n : Nat) : Nat := if n = o then o' else n
def renEnv (ρ : Nat → Nat) : Env → Env
  | [] => []
  | (t, x) :: l => (t, x.ren ρ) :: renEnv ρ l
def toNm1 (o o' : Nat) (E : Env) (H : Heap) : Option Obj → Option St
  | some _ => if (look o' H).isNone = true ∧ refsEnv o' E = false ∧ refsHeap o' H = false then some ⟨renEnv (rnm o o') E, renH (rnm o o') H⟩ else none
  | none => some ⟨E, H⟩
def toNm (o o' : Nat) (S : St) : Option St := toNm1 o o' S.env S.heap (look o S.heap)
def datO (x : AV) : Option D → AV
  | some d => .d d
  | none => x
def datV (o : Nat) (H : Heap) : AV → AV
  | .acc p es => if p = o then .d (.sl es) else .acc p es
  | .osl p off len => if p = o then datO (.osl p off len) (toD H (.osl p off len)) else .osl p off len
  | x => x
def datEnv (o : Nat) (H : Heap) : Env → Env
  | [] => []
  | (t, x) :: l => (t, datV o H x) :: datEnv o H l
def datC (o : Nat) (x : AV) : AV :=
  match x with
  | .acc p es => if p = o then .d (.sl es) else .acc p es
  | x => x
def datCs (o : Nat) : List AV → List AV
  | [] => []
  | x :: l => datC o x :: datCs o l
def datE (o : Nat) (x : AV) : AV :=
  match x with
  | .agg cs => .agg (datCs o cs)
  | x => x
def datEs (o : Nat) : List AV → List AV
  | [] => []
  | x :: l => datE o x :: datEs o l
def datOb (o : Nat) (ob : Obj) : Obj :=
  match ob with
  | .row es => .row (datEs o es)
  | x => x
def datHp (o : Nat) : Heap → Heap
  | [] => []
  | (q, ob) :: l => (q, datOb o ob) :: datHp o l
def datS (o : Nat) (E : Env) (H : Heap) (b : Bool) : Option St := if b = false then some ⟨datEnv o H E, putsH (frzL H [o]) H⟩ else some ⟨datEnv o H E, datHp o (putsH (frzL H [o]) H)⟩
def toDat1 (o : Nat) (E : Env) (H : Heap) : Option Obj → Option St
  | some _ => datS o E H (refsHeap o H)
  | none => some ⟨E, H⟩
def toDat (o : Nat) (S : St) : Option St := toDat1 o S.env S.heap (look o S.heap)
def ghost1 (g : Nat) (S : St) : Option St := if g < 4000000 then (if g % 2 = 0 then toRow (g / 2) S else toAcc (g / 2) S) else if g < 6000000 then toNm (g - 4000000) (g - 3500000) S else toDat (g - 6000000) S
def ghosts : List Nat → St → Option St
  | [], S => some S
  | g :: gs, S => (ghost1 g S).bind (ghosts gs)
theorem findAcc_mem {o m : Nat} {es : List D} : ∀ {E : Env}, findAcc o m E = some es → ∃ t, (t, AV.acc o es) ∈ E ∧ es.length = m := by
  intro E
  induction E with
  | nil => intro h; cases h
  | cons p l ih =>
    obtain ⟨t, x⟩ := p
    intro h
    cases x with
    | acc q es' =>
      simp only [findAcc] at h
      split at h
      · rename_i hc
        obtain ⟨rfl, hl⟩ := hc
        cases h; exact ⟨t, .head _, hl⟩
      · obtain ⟨t', h1, h2⟩ := ih h; exact ⟨t', .tail _ h1, h2⟩
    | _ => simp only [findAcc] at h; obtain ⟨t', h1, h2⟩ := ih h; exact ⟨t', .tail _ h1, h2⟩
theorem Rel.recast {S : St} {a : Act} {w : World} {ι : Inj} {R : Nat → Prop} (h : Rel C S a w ι R) {o : Nat} {ob : Obj} {g : AV → AV} (hh : refsHeap o S.heap = false)
    (hob : OB w R ι (mark (setAt o ob S.heap)) o ob)
    (hg : ∀ x u, VA w R ι (mark S.heap) x u → (x.refs o = true → VA w R ι (mark (setAt o ob S.heap)) (g x) u) ∧ (x.refs o = false → g x = x)) :
    Rel C ⟨S.env.map fun p => (p.1, g p.2), setAt o ob S.heap⟩ a w ι R := by
  have hst : ∀ p, p ≠ o → Step w w ι ι (mark S.heap) (mark (setAt o ob S.heap)) p := fun p hp => Step.other rfl (mark_setAt_ne hp) fun _ _ _ => rfl
  refine { h with env := fun t x hx => ?_, heap := fun q ob' hq => ?_ }
  · obtain ⟨⟨t', y⟩, hm, he⟩ := List.mem_map.1 hx
    cases he
    obtain ⟨u, h1, h2⟩ := h.env t' y hm
    refine ⟨u, h1, ?_⟩
    cases hr : y.refs o with
    | true => exact (hg y u h2).1 hr
    | false =>
      show VA w R ι _ (g y) u
      rw [(hg y u h2).2 hr]
      exact h2.mono (fun _ h => h) (fun _ _ => rfl) fun p hp => hst p fun e => by subst e; rw [hr] at hp; cases hp
  · rcases setAt_mem hq with hq2 | ⟨hq2, hne⟩
    · cases hq2; exact hob
    · exact (h.heap q ob' hq2).mono (fun _ h => h) (fun _ _ => rfl) (fun _ _ hb => ⟨hb, rfl, fun h => h⟩) (fun h => h) fun p hp => hst p fun e => by
        rw [e] at hp
        have := refsHeap_mem (l := S.heap) hq2 hh
        rw [hp] at this; cases this
theorem nilV_va {w : World} {R : Nat → Prop} {ι : Inj} {mk : Nat → Option Nat} {o : Nat} {x : AV} {u : Value} (hι : ι o = none) (hm : mk o = some 0) (h : VA w R ι mk x u) : VA w R ι mk (nilV o x) u := by
  unfold nilV
  split
  · split
    · rename_i hp
      subst hp
      cases h with
      | accR _ _ _ _ _ _ hlt => have := hlt 0 hm; simp at this
      | accC hι' => rw [hι] at hι'; cases hι'
      | acc0 => exact .xsl .sl0
    · exact h
  · exact h
theorem nilO_va {w : World} {R : Nat → Prop} {ι : Inj} {mk : Nat → Option Nat} {o : Nat} {x : AV} {u : Value} (h : VA w R ι mk x u) : VA w R ι mk (nilO o x) u := by
  unfold nilO
  split
  · split
    · cases h <;> exact .d .sl0
    · exact h
  · exact h
theorem nilOEnv_eq {o : Nat} {E : Env} : nilOEnv o E = E.map fun p => (p.1, nilO o p.2) := by
  induction E with
  | nil => rfl
  | cons p l ih => obtain ⟨t, x⟩ := p; simp only [nilOEnv, ih]; rfl
theorem Rel.nilsO {S : St} {a : Act} {w : World} {ι : Inj} {R : Nat → Prop} (h : Rel C S a w ι R) {o : Nat} : Rel C ⟨nilOEnv o S.env, S.heap⟩ a w ι R := by
  refine { h with env := fun t x hx => ?_ }
  rw [nilOEnv_eq] at hx
  obtain ⟨⟨t', y⟩, hm, he⟩ := List.mem_map.1 hx
  cases he
  obtain ⟨u, h1, h2⟩ := h.env t' y hm
  exact ⟨u, h1, nilO_va h2⟩
theorem nilEnv_eq {o : Nat} {E : Env} : nilEnv o E = E.map fun p => (p.1, nilV o p.2) := by
  induction E with
  | nil => rfl
  | cons p l ih => obtain ⟨t, x⟩ := p; simp only [nilEnv, ih]; rfl
theorem Rel.nils {S : St} {a : Act} {w : World} {ι : Inj} {R : Nat → Prop} (h : Rel C S a w ι R) {o : Nat} (hlk : look o S.heap = some (.acc 0)) : Rel C ⟨nilEnv o S.env, S.heap⟩ a w ι R := by
  have hι : ι o = none := by
    cases h.heap _ _ (look_mem hlk) with
    | acc hpos => exact absurd hpos (by decide)
    | accN hι => exact hι
  have hmk : mark S.heap o = some 0 := by simp [mark, hlk]
  refine { h with env := fun t x hx => ?_ }
  rw [nilEnv_eq] at hx
  obtain ⟨⟨t', y⟩, hm, he⟩ := List.mem_map.1 hx
  cases he
  obtain ⟨u, h1, h2⟩ := h.env t' y hm
  exact ⟨u, h1, nilV_va hι hmk h2⟩
theorem nilC_cell {o : Nat} {x : AV} (h : x.cell = true) : (nilC o x).cell = true := by
  unfold nilC
  split
  · split <;> rfl
  · exact h
theorem nilCs_map {o : Nat} : ∀ {l : List AV}, nilCs o l = l.map (nilC o)
  | [] => rfl
  | x :: l => by simp only [nilCs, List.map_cons, nilCs_map]
theorem nilEs_map {o : Nat} : ∀ {l : List AV}, nilEs o l = l.map (nilE o)
  | [] => rfl
  | x :: l => by simp only [nilEs, List.map_cons, nilEs_map]
theorem nilHp_mem {o q : Nat} {ob : Obj} : ∀ {H : Heap}, (q, ob) ∈ nilHp o H → ∃ ob0, (q, ob0) ∈ H ∧ ob = nilOb o ob0
  | [], h => by cases h
  | (q', ob') :: l, h => by
    simp only [nilHp] at h
    cases h with
    | head => exact ⟨_, .head _, rfl⟩
    | tail _ h => obtain ⟨ob0, h1, h2⟩ := nilHp_mem h; exact ⟨ob0, .tail _ h1, h2⟩
theorem look_nilHp {o q : Nat} : ∀ {H : Heap}, look q (nilHp o H) = (look q H).map (nilOb o)
  | [] => rfl
  | (q', ob') :: l => by
    simp only [nilHp, look]
    split
    · rfl
    · exact look_nilHp
theorem mark_nilHp {o : Nat} {H : Heap} : mark (nilHp o H) = mark H := funext fun p => by
  unfold mark
  rw [look_nilHp]
  rcases look p H with _ | (es | m | m | m) <;> rfl
theorem nilC_va {w : World} {R : Nat → Prop} {ι : Inj} {mk : Nat → Option Nat} {o : Nat} {x : AV} {u : Value} (hι : ι o = none) (hm : mk o = some 0) (h : VA w R ι mk x u) : VA w R ι mk (nilC o x) u := by
  unfold nilC
  split
  · split
    · rename_i hp
      subst hp
      cases h with
      | accR _ _ _ _ _ _ hlt => have := hlt 0 hm; simp at this
      | accC hι' => rw [hι] at hι'; cases hι'
      | acc0 => exact .xsl .sl0
    · exact h
  · exact h
theorem Rel.nilsH {S : St} {a : Act} {w : World} {ι : Inj} {R : Nat → Prop} (h : Rel C S a w ι R) {o : Nat} (hlk : look o S.heap = some (.acc 0)) : Rel C ⟨nilEnv o S.env, nilHp o S.heap⟩ a w ι R := by
  have h := h.nils hlk
  have hι : ι o = none := by
    cases h.heap _ _ (look_mem hlk) with
    | acc hpos => exact absurd hpos (by decide)
    | accN hι => exact hι
  have hmk : mark S.heap o = some 0 := by simp [mark, hlk]
  refine { h with env := fun t x hx => ?_, heap := fun q ob hq => ?_ }
  · show ∃ u, slotV C a t = some u ∧ VA w R ι (mark (nilHp o S.heap)) x u
    rw [mark_nilHp]; exact h.env t x hx
  · show OB w R ι (mark (nilHp o S.heap)) q ob
    rw [mark_nilHp]
    obtain ⟨ob0, h1, rfl⟩ := nilHp_mem hq
    have hob := h.heap q ob0 h1
    cases ob0 with
    | acc n => exact hob
    | frz n => exact hob
    | mp n => exact hob
    | row es =>
      cases hob with
      | row hι' hR hb hs0 hsz hc hel =>
        show OB w R ι _ q (.row (nilEs o es))
        rw [nilEs_map]
        have hsize : ∀ e : AV, (nilE o e).size = e.size := fun e => by
          unfold nilE
          split
          · simp only [AV.size, nilCs_map, List.length_map]
          · rfl
        refine .row hι' hR hb hs0 (fun e he => ?_) (by rw [List.length_map]; exact hc) fun i e hi j x hj => ?_
        · obtain ⟨e0, he0, rfl⟩ := List.mem_map.1 he
          rw [hsize]; exact hsz e0 he0
        · rw [List.getElem?_map] at hi
          obtain ⟨e0, he0, rfl⟩ := Option.map_eq_some_iff.1 hi
          unfold nilE at hj
          split at hj
          · rename_i cs
            simp only [AV.cells, nilCs_map, List.getElem?_map] at hj
            obtain ⟨x0, hx0, rfl⟩ := Option.map_eq_some_iff.1 hj
            obtain ⟨k1, qv, k2, k3⟩ := hel i _ he0 j x0 hx0
            exact ⟨nilC_cell k1, qv, k2, nilC_va hι hmk k3⟩
          · exact hel i _ he0 j x hj
theorem rowC_size {o m : Nat} {x : AV} : (rowC o m x).size = x.size := by
  unfold rowC
  split
  · split <;> rfl
  · rfl
theorem rowC_cell {o m : Nat} {x : AV} (h : x.cell = true) : (rowC o m x).cell = true := by
  unfold rowC
  split
  · split <;> rfl
  · exact h
theorem rowCs_map {o m : Nat} : ∀ {l : List AV}, rowCs o m l = l.map (rowC o m)
  | [] => rfl
  | x :: l => by simp only [rowCs, List.map_cons, rowCs_map]
theorem rowEs_map {o m : Nat} : ∀ {l : List AV}, rowEs o m l = l.map (rowE o m)
  | [] => rfl
  | x :: l => by simp only [rowEs, List.map_cons, rowEs_map]
theorem okCs_mem {o m : Nat} {x : AV} : ∀ {l : List AV}, okCs o m l = true → x ∈ l → okC o m x = true
  | [], _, h => by cases h
  | y :: l, hk, h => by
    simp only [okCs, Bool.and_eq_true] at hk
    cases h with
    | head => exact hk.1
    | tail _ h => exact okCs_mem hk.2 h
theorem okEs_mem {o m : Nat} {x : AV} : ∀ {l : List AV}, okEs o m l = true → x ∈ l → okE o m x = true
  | [], _, h => by cases h
  | y :: l, hk, h => by
    simp only [okEs, Bool.and_eq_true] at hk
    cases h with
    | head => exact hk.1
    | tail _ h => exact okEs_mem hk.2 h
theorem rowE_size {o m : Nat} {x : AV} : (rowE o m x).size = x.size := by
  unfold rowE
  split
  · simp only [AV.size, rowCs_map, List.length_map]
  · exact rowC_size
theorem rowE_cells {o m : Nat} {e x' : AV} {j : Nat} (hk : okE o m e = true) (h : (rowE o m e).cells[j]? = some x') : ∃ x, e.cells[j]? = some x ∧ okC o m x = true ∧ x' = rowC o m x := by
  have one : ∀ e : AV, e.cells = [e] → okC o m e = true → (rowC o m e).cells = [rowC o m e] → (rowC o m e).cells[j]? = some x' → ∃ x, e.cells[j]? = some x ∧ okC o m x = true ∧ x' = rowC o m x := by
    intro e h1 h2 h3 h4
    rw [h3] at h4
    match j, h4 with
    | 0, h4 => simp at h4; subst h4; exact ⟨e, by rw [h1]; rfl, h2, rfl⟩
    | n + 1, h4 => simp at h4
  cases e with
  | agg cs =>
    simp only [rowE, AV.cells, rowCs_map, List.getElem?_map] at h
    obtain ⟨x, h1, h2⟩ := Option.map_eq_some_iff.1 h
    exact ⟨x, h1, okCs_mem hk (List.mem_of_getElem? h1), h2.symm⟩
  | d y =>
    simp only [rowE, rowC, AV.cells, List.getElem?_map] at h
    obtain ⟨c, h1, h2⟩ := Option.map_eq_some_iff.1 h
    subst h2
    exact ⟨.d c, by simp [AV.cells, h1], rfl, rfl⟩
  | acc p es => exact one _ rfl hk (by unfold rowC; simp only; split <;> rfl) h
  | ref p i f => exact one _ rfl hk rfl h
  | osl p i f => exact one _ rfl hk rfl h
  | pe p i => exact one _ rfl hk rfl h
  | xsl p => exact one _ rfl hk rfl h
  | tup p => exact one _ rfl hk rfl h
  | fn p i => exact one _ rfl hk rfl h
  | nl p => exact one _ rfl hk rfl h
  | mpr p => exact one _ rfl hk rfl h
  | undef => exact one _ rfl hk rfl h
def rowOb (o m : Nat) : Obj → Obj
  | .row es => .row (rowEs o m es)
  | x => x
theorem rowHp_mem {o m : Nat} {q : Nat} {ob : Obj} : ∀ {H : Heap}, okHp o m H = true → (q, ob) ∈ rowHp o m H → ∃ ob0, (q, ob0) ∈ H ∧ ob = rowOb o m ob0 ∧ (∀ es, ob0 = .row es → okEs o m es = true)
  | [], _, h => by cases h
  | (q', .row es) :: l, hk, h => by
    simp only [okHp, Bool.and_eq_true] at hk
    simp only [rowHp] at h
    cases h with
    | head => exact ⟨_, .head _, rfl, fun es' e => by cases e; exact hk.1⟩
    | tail _ h => obtain ⟨ob0, h1, h2, h3⟩ := rowHp_mem hk.2 h; exact ⟨ob0, .tail _ h1, h2, h3⟩
  | (q', .acc n) :: l, hk, h => by
    simp only [okHp] at hk
    simp only [rowHp] at h
    cases h with
    | head => exact ⟨_, .head _, rfl, fun es' e => by cases e⟩
    | tail _ h => obtain ⟨ob0, h1, h2, h3⟩ := rowHp_mem hk h; exact ⟨ob0, .tail _ h1, h2, h3⟩
  | (q', .frz n) :: l, hk, h => by
    simp only [okHp] at hk
    simp only [rowHp] at h
    cases h with
    | head => exact ⟨_, .head _, rfl, fun es' e => by cases e⟩
    | tail _ h => obtain ⟨ob0, h1, h2, h3⟩ := rowHp_mem hk h; exact ⟨ob0, .tail _ h1, h2, h3⟩
  | (q', .mp n) :: l, hk, h => by
    simp only [okHp] at hk
    simp only [rowHp] at h
    cases h with
    | head => exact ⟨_, .head _, rfl, fun es' e => by cases e⟩
    | tail _ h => obtain ⟨ob0, h1, h2, h3⟩ := rowHp_mem hk h; exact ⟨ob0, .tail _ h1, h2, h3⟩
theorem mark_rowHp {o m q : Nat} : ∀ {H : Heap}, mark (rowHp o m H) q = mark H q
  | [] => rfl
  | (q', .row es) :: l => by
    have ih := mark_rowHp (o := o) (m := m) (q := q) (H := l)
    unfold mark at ih ⊢
    simp only [rowHp, Go.Sim.look]
    by_cases h : q' = q
    · rw [if_pos h, if_pos h]
    · rw [if_neg h, if_neg h]; exact ih
  | (q', .acc n) :: l => by
    have ih := mark_rowHp (o := o) (m := m) (q := q) (H := l)
    unfold mark at ih ⊢
    simp only [rowHp, Go.Sim.look]
    by_cases h : q' = q
    · rw [if_pos h, if_pos h]
    · rw [if_neg h, if_neg h]; exact ih
  | (q', .frz n) :: l => by
    have ih := mark_rowHp (o := o) (m := m) (q := q) (H := l)
    unfold mark at ih ⊢
    simp only [rowHp, Go.Sim.look]
    by_cases h : q' = q
    · rw [if_pos h, if_pos h]
    · rw [if_neg h, if_neg h]; exact ih
  | (q', .mp n) :: l => by
    have ih := mark_rowHp (o := o) (m := m) (q := q) (H := l)
    unfold mark at ih ⊢
    simp only [rowHp, Go.Sim.look]
    by_cases h : q' = q
    · rw [if_pos h, if_pos h]
    · rw [if_neg h, if_neg h]; exact ih
theorem orE_some {α : Type} {x y : Option α} {a : α} (h : orE x y = some a) : y = some a ∨ x = some a := by
  cases y with
  | some b => exact .inl h
  | none => exact .inr h
theorem findAccC_mem {o m : Nat} {es : List D} : ∀ {l : List AV}, findAccC o m l = some es → AV.acc o es ∈ l ∧ es.length = m
  | [], h => by cases h
  | x :: l, h => by
    cases x with
    | acc q es' =>
      simp only [findAccC] at h
      split at h
      · rename_i hc
        obtain ⟨rfl, hl⟩ := hc
        cases h; exact ⟨.head _, hl⟩
      · exact ⟨.tail _ (findAccC_mem h).1, (findAccC_mem h).2⟩
    | _ => simp only [findAccC] at h; exact ⟨.tail _ (findAccC_mem h).1, (findAccC_mem h).2⟩
theorem findAccE_mem {o m : Nat} {es : List D} : ∀ {l : List AV}, findAccE o m l = some es → ∃ e ∈ l, ∃ j : Nat, e.cells[j]? = some (AV.acc o es) ∧ es.length = m
  | [], h => by cases h
  | x :: l, h => by
    cases x with
    | agg cs =>
      simp only [findAccE] at h
      rcases orE_some h with h | h
      · obtain ⟨h1, h2⟩ := findAccC_mem h
        obtain ⟨j, hj⟩ := List.getElem?_of_mem h1
        exact ⟨_, .head _, j, hj, h2⟩
      · obtain ⟨e, h1, h2⟩ := findAccE_mem h; exact ⟨e, .tail _ h1, h2⟩
    | acc p es' =>
      simp only [findAccE] at h
      rcases orE_some h with h | h
      · obtain ⟨h1, h2⟩ := findAccC_mem h
        simp only [List.mem_singleton] at h1
        exact ⟨_, .head _, 0, by rw [← h1]; rfl, h2⟩
      · obtain ⟨e, h1, h2⟩ := findAccE_mem h; exact ⟨e, .tail _ h1, h2⟩
    | _ =>
      simp only [findAccE] at h
      rcases orE_some h with h | h
      · obtain ⟨h1, h2⟩ := findAccC_mem h
        simp at h1
      · obtain ⟨e, h1, h2⟩ := findAccE_mem h; exact ⟨e, .tail _ h1, h2⟩
theorem findAccH_mem {o m : Nat} {es : List D} : ∀ {H : Heap}, findAccH o m H = some es → ∃ q fs, (q, Obj.row fs) ∈ H ∧ ∃ e ∈ fs, ∃ j : Nat, e.cells[j]? = some (AV.acc o es) ∧ es.length = m
  | [], h => by cases h
  | (q, .row fs) :: l, h => by
    simp only [findAccH] at h
    rcases orE_some h with h | h
    · exact ⟨q, fs, .head _, findAccE_mem h⟩
    · obtain ⟨q, fs, h1, h2⟩ := findAccH_mem h; exact ⟨q, fs, .tail _ h1, h2⟩
  | (q, .acc n) :: l, h => by
    simp only [findAccH] at h
    obtain ⟨q, fs, h1, h2⟩ := findAccH_mem h; exact ⟨q, fs, .tail _ h1, h2⟩
  | (q, .frz n) :: l, h => by
    simp only [findAccH] at h
    obtain ⟨q, fs, h1, h2⟩ := findAccH_mem h; exact ⟨q, fs, .tail _ h1, h2⟩
  | (q, .mp n) :: l, h => by
    simp only [findAccH] at h
    obtain ⟨q, fs, h1, h2⟩ := findAccH_mem h; exact ⟨q, fs, .tail _ h1, h2⟩
theorem toRow_ok {o : Nat} {S S' : St} {a : Act} {w : World} {ι : Inj} {R : Nat → Prop} (hs : toRow o S = some S') (h : Rel C S a w ι R) : Rel C S' a w ι R := by
  unfold toRow at hs
  generalize hlk : look o S.heap = q at hs
  unfold toRow1 at hs
  split at hs
  · rename_i m
    split at hs
    · rename_i hm0
      subst hm0
      unfold nilS at hs
      split at hs
      · cases hs; exact h.nils hlk
      · cases hs; exact h.nilsH hlk
    rename_i hm0
    generalize hes : findAcc2 o m S.env S.heap = qe at hs
    unfold toRow2 at hs
    split at hs
    · rename_i es
      rw [if_pos hm0] at hs
      have hmk : mark S.heap o = some m := by simp [mark, hlk]
      have hvl : es.length = m ∧ ∃ u, VA w R ι (mark S.heap) (.acc o es) u := by
        unfold findAcc2 at hes
        rcases orE_some hes with hes | hes
        · obtain ⟨t, ht, hl⟩ := findAcc_mem hes
          obtain ⟨u, _, hv⟩ := h.env t _ ht
          exact ⟨hl, u, hv⟩
        · obtain ⟨q, fs, hq, e, he, j, hj, hl⟩ := findAccH_mem hes
          obtain ⟨i, hi⟩ := List.getElem?_of_mem he
          cases h.heap _ _ hq with
          | row _ _ _ _ _ _ hel =>
            obtain ⟨_, qv, _, hv⟩ := hel i e hi j _ hj
            exact ⟨hl, qv, hv⟩
      obtain ⟨hl, u, hv⟩ := hvl
      have hob := h.heap _ _ (look_mem hlk)
      have key : ∀ mk' : Nat → Option Nat, mk' o = none → ((∀ p, p ≠ o → mk' p = mark S.heap p) → OB w R ι mk' o (.row (es.map .d))) ∧ ∀ (es' : List D) (u : Value), es'.length = m → VA w R ι (mark S.heap) (.acc o es') u → VA w R ι mk' (.osl o 0 m) u := by
        intro mk' hmk'
        refine ⟨fun _ => ?_, fun es' u hlen hx => ?_⟩
        · cases hv with
          | accR _ _ _ _ _ _ hlt => have := hlt m hmk; omega
          | acc0 => simp at hl; exact absurd hl.symm hm0
          | @accC _ b s m' cap _ c T hι hmk2 _ hL hcap hsz hb hc hel =>
            cases hob with
            | accN hι' => rw [hι] at hι'; cases hι'
            | acc _ hι' hR hb' hs0 _ =>
              rw [hι] at hι'; cases hι'
              refine .row hι hR hb hs0 (fun e he => ?_) ?_ fun i e hi j x hj => ?_
              · obtain ⟨d, hd, rfl⟩ := List.mem_map.1 he; exact hsz d hd
              · rw [List.length_map]; exact Nat.le_trans (Nat.mul_le_mul_right _ hcap) hc
              · rw [List.getElem?_map] at hi
                obtain ⟨d, hd, rfl⟩ := Option.map_eq_some_iff.1 hi
                simp only [AV.cells, List.getElem?_map] at hj
                obtain ⟨cd, hcd, rfl⟩ := Option.map_eq_some_iff.1 hj
                obtain ⟨k1, q, k2, k3⟩ := (hel i d hd).v_of_cells j cd hcd
                exact ⟨k1, q, by rw [cell_of hb] at k2; exact k2, .d k3⟩
        · cases hx with
          | accR _ _ _ _ _ _ hlt => have := hlt m hmk; omega
          | acc0 => simp at hlen; exact absurd hlen.symm hm0
          | @accC _ b s m' cap _ c T hι hmk2 _ hL hcap hsz hb hc hel =>
            have := VA.osl (w := w) (R := R) (mk := mk') (off := 0) (len := es'.length) (cap := cap) hι hmk' hb hcap (by simpa using hc) hL
            simp only [Nat.zero_mul] at this
            rw [hlen] at this ⊢
            exact this
      unfold toRow3 at hs
      by_cases hh : refsHeap o S.heap = false
      · rw [if_pos hh] at hs
        cases hs
        have hmk' : mark (setAt o (.row (es.map .d)) S.heap) o = none := by rw [mark_setAt]
        have hk := key _ hmk'
        refine h.recast (g := rowV o m) hh (hk.1 fun p hp => mark_setAt_ne hp) fun x u hx => ⟨fun hr => ?_, fun hr => ?_⟩
        · unfold rowV
          split
          · rename_i p es'
            have hp : p = o := by simpa [AV.refs] using hr
            rw [if_pos hp]
            subst hp
            split
            · rename_i hlen
              exact hk.2 _ _ hlen hx
            · exact .undef
          · rw [if_pos hr]; exact .undef
        · unfold rowV
          split
          · rename_i p es'
            have hp : ¬ p = o := by simpa [AV.refs] using hr
            rw [if_neg hp]
          · rw [if_neg (by simp [hr])]
      · rw [if_neg hh] at hs
        split at hs
        rotate_left
        · cases hs
        rename_i hokh
        cases hs
        have hmn : ∀ p, p ≠ o → mark (setAt o (.row (es.map .d)) (rowHp o m S.heap)) p = mark S.heap p := fun p hp => by rw [mark_setAt_ne hp, mark_rowHp]
        have hmk' : mark (setAt o (.row (es.map .d)) (rowHp o m S.heap)) o = none := by rw [mark_setAt]
        have hk := key _ hmk'
        have hst : ∀ p, p ≠ o → Step w w ι ι (mark S.heap) (mark (setAt o (.row (es.map .d)) (rowHp o m S.heap))) p := fun p hp => Step.other rfl (hmn p hp) fun _ _ _ => rfl
        have hkeep : ∀ (x : AV) (u : Value), x.refs o = false → VA w R ι (mark S.heap) x u → VA w R ι (mark (setAt o (.row (es.map .d)) (rowHp o m S.heap))) x u := fun x u hr hx =>
          hx.mono (fun _ h => h) (fun _ _ => rfl) fun p hp => hst p fun e => by subst e; rw [hr] at hp; cases hp
        refine { h with env := fun t x hx => ?_, heap := fun q ob' hq => ?_ }
        · obtain ⟨⟨t', y⟩, hm, he⟩ := List.mem_map.1 hx
          cases he
          obtain ⟨u, h1, h2⟩ := h.env t' y hm
          refine ⟨u, h1, ?_⟩
          show VA w R ι _ (rowV o m y) u
          cases hr : y.refs o with
          | true =>
            unfold rowV
            split
            · rename_i p es'
              have hp : p = o := by simpa [AV.refs] using hr
              rw [if_pos hp]
              subst hp
              split
              · rename_i hlen
                exact hk.2 _ _ hlen h2
              · exact .undef
            · rw [if_pos hr]; exact .undef
          | false =>
            have : rowV o m y = y := by
              unfold rowV
              split
              · rename_i p es'
                have hp : ¬ p = o := by simpa [AV.refs] using hr
                rw [if_neg hp]
              · rw [if_neg (by simp [hr])]
            rw [this]
            exact hkeep _ _ hr h2
        · rcases setAt_mem hq with hq2 | ⟨hq2, hne⟩
          · cases hq2; exact hk.1 hmn
          · obtain ⟨ob0, hm0', hob', hrow⟩ := rowHp_mem hokh hq2
            subst hob'
            have hob0 := h.heap q ob0 hm0'
            cases ob0 with
            | acc n => exact hob0.mono (fun _ h => h) (fun _ _ => rfl) (fun _ _ hb => ⟨hb, rfl, fun h => h⟩) (fun h => h) fun p hp => by simp [Obj.refs] at hp
            | frz n => exact hob0.mono (fun _ h => h) (fun _ _ => rfl) (fun _ _ hb => ⟨hb, rfl, fun h => h⟩) (fun h => h) fun p hp => by simp [Obj.refs] at hp
            | mp n => exact hob0.mono (fun _ h => h) (fun _ _ => rfl) (fun _ _ hb => ⟨hb, rfl, fun h => h⟩) (fun h => h) fun p hp => by simp [Obj.refs] at hp
            | row fs =>
              have hoke := hrow fs rfl
              simp only [rowOb]
              cases hob0 with
              | row hι hR hb hs0 hsz hc hel =>
                refine .row hι hR hb hs0 (fun e he => ?_) (by rw [rowEs_map, List.length_map]; exact hc) fun i e hi j x hj => ?_
                · rw [rowEs_map] at he
                  obtain ⟨e0, he0, rfl⟩ := List.mem_map.1 he
                  rw [rowE_size]; exact hsz e0 he0
                · rw [rowEs_map, List.getElem?_map] at hi
                  obtain ⟨e0, he0, rfl⟩ := Option.map_eq_some_iff.1 hi
                  obtain ⟨x0, hx0, hkc, rfl⟩ := rowE_cells (okEs_mem hoke (List.mem_of_getElem? he0)) hj
                  obtain ⟨k1, qv, k2, k3⟩ := hel i e0 he0 j x0 hx0
                  refine ⟨rowC_cell k1, qv, k2, ?_⟩
                  by_cases hacc : ∃ es', x0 = .acc o es'
                  · obtain ⟨es', rfl⟩ := hacc
                    simp only [okC, if_true, beq_iff_eq] at hkc
                    simp only [rowC, if_true]
                    exact hk.2 _ _ hkc k3
                  · have hr : x0.refs o = false ∧ rowC o m x0 = x0 := by
                      cases x0 with
                      | acc p es' =>
                        have hp : ¬ p = o := fun e => hacc ⟨es', by rw [e]⟩
                        exact ⟨by simpa [AV.refs] using hp, by simp only [rowC, if_neg hp]⟩
                      | _ => exact ⟨by simpa [okC] using hkc, rfl⟩
                    rw [hr.2]
                    exact hkeep _ _ hr.1 k3
    · cases hs
  · cases hs; exact h
  · cases hs; exact h
  · cases hs; exact h
  · cases hs; exact h
theorem acA_size {o : Nat} {ds : List D} {x : AV} : (acA o ds x).size = x.size := by
  unfold acA
  split
  · split <;> rfl
  · rfl
theorem acA_cell {o : Nat} {ds : List D} {x : AV} (h : x.cell = true) : (acA o ds x).cell = true := by
  unfold acA
  split
  · split <;> rfl
  · exact h
theorem acAs_map {o : Nat} {ds : List D} : ∀ {l : List AV}, acAs o ds l = l.map (acA o ds)
  | [] => rfl
  | x :: l => by simp only [acAs, List.map_cons, acAs_map]
theorem acAel_map {o : Nat} {ds : List D} : ∀ {l : List AV}, acAel o ds l = l.map (acAe o ds)
  | [] => rfl
  | x :: l => by simp only [acAel, List.map_cons, acAel_map]
theorem okAs_mem {o m : Nat} {x : AV} : ∀ {l : List AV}, okAs o m l = true → x ∈ l → okA o m x = true
  | [], _, h => by cases h
  | y :: l, hk, h => by
    simp only [okAs, Bool.and_eq_true] at hk
    cases h with
    | head => exact hk.1
    | tail _ h => exact okAs_mem hk.2 h
theorem okAel_mem {o m : Nat} {x : AV} : ∀ {l : List AV}, okAel o m l = true → x ∈ l → okAe o m x = true
  | [], _, h => by cases h
  | y :: l, hk, h => by
    simp only [okAel, Bool.and_eq_true] at hk
    cases h with
    | head => exact hk.1
    | tail _ h => exact okAel_mem hk.2 h
theorem acAe_size {o : Nat} {ds : List D} {x : AV} : (acAe o ds x).size = x.size := by
  unfold acAe
  split
  · simp only [AV.size, acAs_map, List.length_map]
  · exact acA_size
theorem acAe_cells {o m : Nat} {ds : List D} {e x' : AV} {j : Nat} (hk : okAe o m e = true) (h : (acAe o ds e).cells[j]? = some x') : ∃ x, e.cells[j]? = some x ∧ okA o m x = true ∧ x' = acA o ds x := by
  have one : ∀ e : AV, e.cells = [e] → okA o m e = true → (acA o ds e).cells = [acA o ds e] → (acA o ds e).cells[j]? = some x' → ∃ x, e.cells[j]? = some x ∧ okA o m x = true ∧ x' = acA o ds x := by
    intro e h1 h2 h3 h4
    rw [h3] at h4
    match j, h4 with
    | 0, h4 => simp at h4; subst h4; exact ⟨e, by rw [h1]; rfl, h2, rfl⟩
    | n + 1, h4 => simp at h4
  cases e with
  | agg cs =>
    simp only [acAe, AV.cells, acAs_map, List.getElem?_map] at h
    obtain ⟨x, h1, h2⟩ := Option.map_eq_some_iff.1 h
    exact ⟨x, h1, okAs_mem hk (List.mem_of_getElem? h1), h2.symm⟩
  | d y =>
    simp only [acAe, acA, AV.cells, List.getElem?_map] at h
    obtain ⟨c, h1, h2⟩ := Option.map_eq_some_iff.1 h
    subst h2
    exact ⟨.d c, by simp [AV.cells, h1], rfl, rfl⟩
  | osl p i f => exact one _ rfl hk (by unfold acA; simp only; split <;> rfl) h
  | ref p i f => exact one _ rfl hk rfl h
  | acc p i => exact one _ rfl hk rfl h
  | pe p i => exact one _ rfl hk rfl h
  | xsl p => exact one _ rfl hk rfl h
  | tup p => exact one _ rfl hk rfl h
  | fn p i => exact one _ rfl hk rfl h
  | nl p => exact one _ rfl hk rfl h
  | mpr p => exact one _ rfl hk rfl h
  | undef => exact one _ rfl hk rfl h
def acOb (o : Nat) (ds : List D) : Obj → Obj
  | .row es => .row (acAel o ds es)
  | x => x
theorem acAh_mem {o m : Nat} {ds : List D} {q : Nat} {ob : Obj} : ∀ {H : Heap}, okAh o m H = true → (q, ob) ∈ acAh o ds H → ∃ ob0, (q, ob0) ∈ H ∧ ob = acOb o ds ob0 ∧ (∀ es, ob0 = .row es → okAel o m es = true)
  | [], _, h => by cases h
  | (q', .row es) :: l, hk, h => by
    simp only [okAh, Bool.and_eq_true] at hk
    simp only [acAh] at h
    cases h with
    | head => exact ⟨_, .head _, rfl, fun es' e => by cases e; exact hk.1⟩
    | tail _ h => obtain ⟨ob0, h1, h2, h3⟩ := acAh_mem hk.2 h; exact ⟨ob0, .tail _ h1, h2, h3⟩
  | (q', .acc n) :: l, hk, h => by
    simp only [okAh] at hk
    simp only [acAh] at h
    cases h with
    | head => exact ⟨_, .head _, rfl, fun es' e => by cases e⟩
    | tail _ h => obtain ⟨ob0, h1, h2, h3⟩ := acAh_mem hk h; exact ⟨ob0, .tail _ h1, h2, h3⟩
  | (q', .frz n) :: l, hk, h => by
    simp only [okAh] at hk
    simp only [acAh] at h
    cases h with
    | head => exact ⟨_, .head _, rfl, fun es' e => by cases e⟩
    | tail _ h => obtain ⟨ob0, h1, h2, h3⟩ := acAh_mem hk h; exact ⟨ob0, .tail _ h1, h2, h3⟩
  | (q', .mp n) :: l, hk, h => by
    simp only [okAh] at hk
    simp only [acAh] at h
    cases h with
    | head => exact ⟨_, .head _, rfl, fun es' e => by cases e⟩
    | tail _ h => obtain ⟨ob0, h1, h2, h3⟩ := acAh_mem hk h; exact ⟨ob0, .tail _ h1, h2, h3⟩
theorem mark_acAh {o q : Nat} {ds : List D} : ∀ {H : Heap}, mark (acAh o ds H) q = mark H q
  | [] => rfl
  | (q', .row es) :: l => by
    have ih := mark_acAh (o := o) (ds := ds) (q := q) (H := l)
    unfold mark at ih ⊢
    simp only [acAh, Go.Sim.look]
    by_cases h : q' = q
    · rw [if_pos h, if_pos h]
    · rw [if_neg h, if_neg h]; exact ih
  | (q', .acc n) :: l => by
    have ih := mark_acAh (o := o) (ds := ds) (q := q) (H := l)
    unfold mark at ih ⊢
    simp only [acAh, Go.Sim.look]
    by_cases h : q' = q
    · rw [if_pos h, if_pos h]
    · rw [if_neg h, if_neg h]; exact ih
  | (q', .frz n) :: l => by
    have ih := mark_acAh (o := o) (ds := ds) (q := q) (H := l)
    unfold mark at ih ⊢
    simp only [acAh, Go.Sim.look]
    by_cases h : q' = q
    · rw [if_pos h, if_pos h]
    · rw [if_neg h, if_neg h]; exact ih
  | (q', .mp n) :: l => by
    have ih := mark_acAh (o := o) (ds := ds) (q := q) (H := l)
    unfold mark at ih ⊢
    simp only [acAh, Go.Sim.look]
    by_cases h : q' = q
    · rw [if_pos h, if_pos h]
    · rw [if_neg h, if_neg h]; exact ih
theorem toAcc_ok {o : Nat} {S S' : St} {a : Act} {w : World} {ι : Inj} {R : Nat → Prop} (hs : toAcc o S = some S') (h : Rel C S a w ι R) : Rel C S' a w ι R := by
  unfold toAcc at hs
  generalize hlk : look o S.heap = q at hs
  unfold toAcc1 at hs
  split at hs
  · rename_i es
    generalize hds : allD es = qe at hs
    unfold toAcc2 at hs
    split at hs
    · rename_i ds
      split at hs
      · cases hs; exact h.nilsO
      rename_i hne0
      split at hs
      rotate_left
      · rename_i hc0
        unfold toAcc3 at hs
        split at hs
        rotate_left
        · cases hs
        rename_i hokh
        cases hs
        have hesd := allD_spec hds
        have hmn : ∀ p, p ≠ o → mark (setAt o (.acc ds.length) (acAh o ds S.heap)) p = mark S.heap p := fun p hp => by rw [mark_setAt_ne hp, mark_acAh]
        have hmk' : mark (setAt o (.acc ds.length) (acAh o ds S.heap)) o = some ds.length := by rw [mark_setAt]
        have hdn : ds ≠ [] := by rintro rfl; exact hne0 hesd
        have hst : ∀ p, p ≠ o → Step w w ι ι (mark S.heap) (mark (setAt o (.acc ds.length) (acAh o ds S.heap))) p := fun p hp => Step.other rfl (hmn p hp) fun _ _ _ => rfl
        have hkeep : ∀ (x : AV) (u : Value), x.refs o = false → VA w R ι (mark S.heap) x u → VA w R ι (mark (setAt o (.acc ds.length) (acAh o ds S.heap))) x u := fun x u hr hx =>
          hx.mono (fun _ h => h) (fun _ _ => rfl) fun p hp => hst p fun e => by subst e; rw [hr] at hp; cases hp
        cases h.heap _ _ (look_mem hlk) with
        | @row _ b s c T hι hR hb hs0 hsz hc hel =>
          have hrd : ∀ (i : Nat) (d : D), ds[i]? = some d → Rd w R (.el d b (i * s)) := fun i d hi => by
            have hei : es[i]? = some (.d d) := by rw [hesd]; simp [hi]
            refine Rd.el_of_cells (fun vs hvs => ?_) fun j cd hj => ?_
            · subst hvs
              have := (hel i _ hei 0 (.d (.tup vs)) rfl).1
              simp [AV.cell, D.cell] at this
            · obtain ⟨k1, q, k2, k3⟩ := hel i _ hei j (.d cd) (by simp [AV.cells, hj])
              exact ⟨k1, q, by rw [cell_of hb]; exact k2, k3.of_d⟩
          have hsz' : ∀ d ∈ ds, d.size = s := fun d hd => hsz (.d d) (by rw [hesd]; exact List.mem_map_of_mem hd)
          have key : ∀ u, VA w R ι (mark S.heap) (.osl o 0 ds.length) u → VA w R ι (mark (setAt o (.acc ds.length) (acAh o ds S.heap))) (.acc o ds) u := fun u hx => by
            generalize hlen : ds.length = n at hx hmk'
            cases hx with
            | osl0 => exact absurd (List.length_eq_zero_iff.1 hlen) hdn
            | @osl _ _ _ cap b' s' c' T' hι' hmk2 hb' hcap hc' hL =>
              rw [hι] at hι'; cases hι'
              rw [hb] at hb'; cases hb'
              subst hlen
              rw [Nat.zero_mul]
              exact .accC hι hmk' (Nat.le_refl _) hL hcap hsz' hb (by simpa using hc') hrd
          refine { h with env := fun t x hx => ?_, heap := fun q ob' hq => ?_ }
          · obtain ⟨⟨t', y⟩, hm, he⟩ := List.mem_map.1 hx
            cases he
            obtain ⟨u, h1, h2⟩ := h.env t' y hm
            refine ⟨u, h1, ?_⟩
            show VA w R ι _ (accV o ds y) u
            cases hr : y.refs o with
            | true =>
              unfold accV
              split
              · rename_i p off len
                have hp : p = o := by simpa [AV.refs] using hr
                rw [if_pos hp]
                subst hp
                split
                · rename_i hcc
                  obtain ⟨rfl, rfl⟩ := hcc
                  exact key _ h2
                · exact .undef
              · rw [if_pos hr]; exact .undef
            | false =>
              have : accV o ds y = y := by
                unfold accV
                split
                · rename_i p off len
                  have hp : ¬ p = o := by simpa [AV.refs] using hr
                  rw [if_neg hp]
                · rw [if_neg (by simp [hr])]
              rw [this]
              exact hkeep _ _ hr h2
          · rcases setAt_mem hq with hq2 | ⟨hq2, hne⟩
            · cases hq2
              refine .acc (List.length_pos_iff.2 hdn) hι hR hb hs0 ?_
              rw [hesd] at hc; simpa using hc
            · obtain ⟨ob0, hm0', hob', hrow⟩ := acAh_mem hokh hq2
              subst hob'
              have hob0 := h.heap q ob0 hm0'
              cases ob0 with
              | acc n => exact hob0.mono (fun _ h => h) (fun _ _ => rfl) (fun _ _ hb => ⟨hb, rfl, fun h => h⟩) (fun h => h) fun p hp => by simp [Obj.refs] at hp
              | frz n => exact hob0.mono (fun _ h => h) (fun _ _ => rfl) (fun _ _ hb => ⟨hb, rfl, fun h => h⟩) (fun h => h) fun p hp => by simp [Obj.refs] at hp
              | mp n => exact hob0.mono (fun _ h => h) (fun _ _ => rfl) (fun _ _ hb => ⟨hb, rfl, fun h => h⟩) (fun h => h) fun p hp => by simp [Obj.refs] at hp
              | row fs =>
                have hoke := hrow fs rfl
                simp only [acOb]
                cases hob0 with
                | row hι hR hb hs0 hsz hc hel =>
                  refine .row hι hR hb hs0 (fun e he => ?_) (by rw [acAel_map, List.length_map]; exact hc) fun i e hi j x hj => ?_
                  · rw [acAel_map] at he
                    obtain ⟨e0, he0, rfl⟩ := List.mem_map.1 he
                    rw [acAe_size]; exact hsz e0 he0
                  · rw [acAel_map, List.getElem?_map] at hi
                    obtain ⟨e0, he0, rfl⟩ := Option.map_eq_some_iff.1 hi
                    obtain ⟨x0, hx0, hkc, rfl⟩ := acAe_cells (okAel_mem hoke (List.mem_of_getElem? he0)) hj
                    obtain ⟨k1, qv, k2, k3⟩ := hel i e0 he0 j x0 hx0
                    refine ⟨acA_cell k1, qv, k2, ?_⟩
                    by_cases hacc : ∃ i n, x0 = .osl o i n
                    · obtain ⟨i', n', rfl⟩ := hacc
                      simp only [okA, if_true, Bool.and_eq_true, beq_iff_eq] at hkc
                      obtain ⟨rfl, rfl⟩ := hkc
                      simp only [acA, if_true]
                      exact key _ k3
                    · have hr : x0.refs o = false ∧ acA o ds x0 = x0 := by
                        cases x0 with
                        | osl p i' n' =>
                          have hp : ¬ p = o := fun e => hacc ⟨i', n', by rw [e]⟩
                          exact ⟨by simpa [AV.refs] using hp, by simp only [acA, if_neg hp]⟩
                        | _ => exact ⟨by simpa [okA] using hkc, rfl⟩
                      rw [hr.2]
                      exact hkeep _ _ hr.1 k3
      rename_i hc
      obtain ⟨hne, hh⟩ := hc
      cases hs
      have hesd := allD_spec hds
      have hmk' : mark (setAt o (.acc ds.length) S.heap) o = some ds.length := by rw [mark_setAt]
      have hdn : ds ≠ [] := by rintro rfl; exact hne hesd
      cases h.heap _ _ (look_mem hlk) with
      | @row _ b s c T hι hR hb hs0 hsz hc hel =>
        have hrd : ∀ (i : Nat) (d : D), ds[i]? = some d → Rd w R (.el d b (i * s)) := fun i d hi => by
          have hei : es[i]? = some (.d d) := by rw [hesd]; simp [hi]
          refine Rd.el_of_cells (fun vs hvs => ?_) fun j cd hj => ?_
          · subst hvs
            have := (hel i _ hei 0 (.d (.tup vs)) rfl).1
            simp [AV.cell, D.cell] at this
          · obtain ⟨k1, q, k2, k3⟩ := hel i _ hei j (.d cd) (by simp [AV.cells, hj])
            exact ⟨k1, q, by rw [cell_of hb]; exact k2, k3.of_d⟩
        have hsz' : ∀ d ∈ ds, d.size = s := fun d hd => hsz (.d d) (by rw [hesd]; exact List.mem_map_of_mem hd)
        refine h.recast (g := accV o ds) hh ?_ fun x u hx => ⟨fun hr => ?_, fun hr => ?_⟩
        · refine .acc (List.length_pos_iff.2 hdn) hι hR hb hs0 ?_
          rw [hesd] at hc; simpa using hc
        · unfold accV
          split
          · rename_i p off len
            have hp : p = o := by simpa [AV.refs] using hr
            rw [if_pos hp]
            subst hp
            split
            · rename_i hcc
              obtain ⟨rfl, rfl⟩ := hcc
              generalize hlen : ds.length = n at hx hmk'
              cases hx with
              | osl0 => exact absurd (List.length_eq_zero_iff.1 hlen) hdn
              | @osl _ _ _ cap b' s' c' T' hι' hmk2 hb' hcap hc' hL =>
                rw [hι] at hι'; cases hι'
                rw [hb] at hb'; cases hb'
                subst hlen
                rw [Nat.zero_mul]
                exact .accC hι hmk' (Nat.le_refl _) hL hcap hsz' hb (by simpa using hc') hrd
            · exact .undef
          · rw [if_pos hr]; exact .undef
        · unfold accV
          split
          · rename_i p off len
            have hp : ¬ p = o := by simpa [AV.refs] using hr
            rw [if_neg hp]
          · rw [if_neg (by simp [hr])]
    · cases hs
  · cases hs; exact h
  · cases hs; exact h
  · cases hs; exact h
  · cases hs; exact h
theorem rnm_inj {o o' a b : Nat} (ha : a ≠ o') (hb : b ≠ o') (h : rnm o o' a = rnm o o' b) : a = b := by
  unfold rnm at h
  split at h <;> split at h
  · rename_i h1 h2; rw [h1, h2]
  · exact absurd h.symm hb
  · exact absurd h ha
  · exact h
theorem toNm_ok {o o' : Nat} {S S' : St} {a : Act} {w : World} {ι : Inj} {R : Nat → Prop} (hs : toNm o o' S = some S') (h : Rel C S a w ι R) : ∃ ι', Rel C S' a w ι' R := by
  unfold toNm at hs
  generalize hlk : look o S.heap = q at hs
  cases q with
  | none => cases hs; exact ⟨ι, h⟩
  | some ob =>
    simp only [toNm1] at hs
    split at hs
    · rename_i hc
      obtain ⟨hn, he, hh⟩ := hc
      cases hs
      have hn' : look o' S.heap = none := by simpa using hn
      have hmk : ∀ n, n ≠ o' → mark (renH (rnm o o') S.heap) (rnm o o' n) = mark S.heap n := by
        intro n hno
        unfold mark
        rw [look_renH fun m hm e => rnm_inj (fun e2 => by rw [e2, hn'] at hm; cases hm) hno e]
        cases look n S.heap with
        | none => rfl
        | some ob => cases ob <;> rfl
      have hι : ∀ n, n ≠ o' → (fun q => if q = o' then ι o else if q = o then none else ι q) (rnm o o' n) = ι n := by
        intro n hno
        unfold rnm
        by_cases e : n = o
        · subst e; simp
        · simp [e, hno]
      refine ⟨fun q => if q = o' then ι o else if q = o then none else ι q, { h with own := ?_, inj := ?_, env := ?_, heap := ?_ }⟩
      · intro q b s hq
        split at hq
        · exact h.own o b s hq
        · split at hq
          · cases hq
          · exact h.own q b s hq
      · intro q q' b s s' hq hq'
        split at hq <;> split at hq'
        · rename_i e1 e2; rw [e1, e2]
        · split at hq'
          · cases hq'
          · rename_i e1 e2 e3; exact absurd (h.inj o q' b s s' hq hq') (Ne.symm e3)
        · split at hq
          · cases hq
          · rename_i e1 e2 e3; exact absurd (h.inj q o b s s' hq hq') e3
        · split at hq
          · cases hq
          · split at hq'
            · cases hq'
            · exact h.inj q q' b s s' hq hq'
      · intro t x hx
        have : ∃ y, (t, y) ∈ S.env ∧ x = y.ren (rnm o o') := by
          have key : ∀ (E : Env), (t, x) ∈ renEnv (rnm o o') E → ∃ y, (t, y) ∈ E ∧ x = y.ren (rnm o o') := by
            intro E
            induction E with
            | nil => intro h; cases h
            | cons p l ih =>
              obtain ⟨t', y⟩ := p
              intro h
              simp only [renEnv] at h
              cases h with
              | head => exact ⟨y, .head _, rfl⟩
              | tail _ h => obtain ⟨z, h1, h2⟩ := ih h; exact ⟨z, .tail _ h1, h2⟩
          exact key _ hx
        obtain ⟨y, hy, rfl⟩ := this
        obtain ⟨u, h1, h2⟩ := h.env t y hy
        refine ⟨u, h1, h2.ren fun n hn2 => ?_⟩
        have hno : n ≠ o' := fun e => by subst e; rw [refsEnv_mem hy he] at hn2; cases hn2
        exact ⟨fun p hp => (hι n hno).trans hp, hmk n hno⟩
      · intro n ob' hm
        obtain ⟨⟨m, ob2⟩, hm2, he2⟩ := List.mem_map.1 hm
        cases he2
        have hno : m ≠ o' := fun e => by
          subst e
          have hs2 : (look m S.heap).isSome = true := by
            have key : ∀ (l : Heap), (m, ob2) ∈ l → (look m l).isSome = true := by
              intro l
              induction l with
              | nil => intro h; cases h
              | cons p l ih =>
                obtain ⟨k, y⟩ := p
                intro h
                simp only [look]
                split
                · rfl
                · rename_i hne
                  cases h with
                  | head => exact absurd rfl hne
                  | tail _ h => exact ih h
            exact key _ hm2
          rw [hn'] at hs2; cases hs2
        refine (h.heap m ob2 hm2).ren (hι m hno) fun n hn2 => ?_
        have hno2 : n ≠ o' := fun e => by subst e; rw [refsHeap_mem hm2 hh] at hn2; cases hn2
        exact ⟨fun p hp => (hι n hno2).trans hp, hmk n hno2⟩
    · cases hs
theorem datEnv_eq {o : Nat} {H : Heap} {E : Env} : datEnv o H E = E.map fun p => (p.1, datV o H p.2) := by
  induction E with
  | nil => rfl
  | cons p l ih => obtain ⟨t, x⟩ := p; simp only [datEnv, ih]; rfl
theorem datC_cell {o : Nat} {x : AV} (h : x.cell = true) : (datC o x).cell = true := by
  unfold datC
  split
  · split <;> rfl
  · exact h
theorem datCs_map {o : Nat} : ∀ {l : List AV}, datCs o l = l.map (datC o)
  | [] => rfl
  | x :: l => by simp only [datCs, List.map_cons, datCs_map]
theorem datEs_map {o : Nat} : ∀ {l : List AV}, datEs o l = l.map (datE o)
  | [] => rfl
  | x :: l => by simp only [datEs, List.map_cons, datEs_map]
theorem datHp_mem {o q : Nat} {ob : Obj} : ∀ {H : Heap}, (q, ob) ∈ datHp o H → ∃ ob0, (q, ob0) ∈ H ∧ ob = datOb o ob0
  | [], h => by cases h
  | (q', ob') :: l, h => by
    simp only [datHp] at h
    cases h with
    | head => exact ⟨_, .head _, rfl⟩
    | tail _ h => obtain ⟨ob0, h1, h2⟩ := datHp_mem h; exact ⟨ob0, .tail _ h1, h2⟩
theorem look_datHp {o q : Nat} : ∀ {H : Heap}, look q (datHp o H) = (look q H).map (datOb o)
  | [] => rfl
  | (q', ob') :: l => by
    simp only [datHp, look]
    split
    · rfl
    · exact look_datHp
theorem mark_datHp {o : Nat} {H : Heap} : mark (datHp o H) = mark H := funext fun p => by
  unfold mark
  rw [look_datHp]
  rcases look p H with _ | (es | m | m | m) <;> rfl
theorem toDatE_ok {S : St} {a : Act} {w : World} {ι : Inj} {R : Nat → Prop} {o : Nat} {ob : Obj} (hlk : look o S.heap = some ob) (h : Rel C S a w ι R) : Rel C ⟨datEnv o S.heap S.env, putsH (frzL S.heap [o]) S.heap⟩ a w ι (Sealed R ι [o]) := by
  have hf := h.freeze (os := [o]) (by simp [frzOk, hlk])
  refine { hf with env := fun t x hx => ?_ }
  rw [datEnv_eq] at hx
  obtain ⟨⟨t', y⟩, hm, he⟩ := List.mem_map.1 hx
  cases he
  obtain ⟨u, h1, h2⟩ := h.env t' y hm
  obtain ⟨u', h1', h2'⟩ := hf.env t' y hm
  rw [h1] at h1'
  cases h1'
  refine ⟨u, h1, ?_⟩
  show VA w _ ι _ (datV o S.heap y) u
  unfold datV
  split
  · rename_i p es
    split
    · rename_i hp
      exact .d (toD_ok h h2 rfl fun q hq => by simpa [AV.objs, hp] using hq)
    · exact h2'
  · rename_i p off len
    split
    · rename_i hp
      unfold datO
      split
      · rename_i d hd
        exact .d (toD_ok h h2 hd fun q hq => by simpa [AV.objs, hp] using hq)
      · exact h2'
    · exact h2'
  · exact h2'
theorem datC_va {S : St} {a : Act} {w : World} {ι : Inj} {R : Nat → Prop} (h : Rel C S a w ι R) {o : Nat} {mk : Nat → Option Nat} {x : AV} {u : Value} (h1 : VA w R ι (mark S.heap) x u) (h2 : VA w (Sealed R ι [o]) ι mk x u) : VA w (Sealed R ι [o]) ι mk (datC o x) u := by
  unfold datC
  split
  · split
    · rename_i hp
      exact .d (toD_ok h h1 rfl fun q hq => by simpa [AV.objs, hp] using hq)
    · exact h2
  · exact h2
theorem toDatH_ok {S : St} {a : Act} {w : World} {ι : Inj} {R : Nat → Prop} {o : Nat} {ob : Obj} (hlk : look o S.heap = some ob) (h : Rel C S a w ι R) : Rel C ⟨datEnv o S.heap S.env, datHp o (putsH (frzL S.heap [o]) S.heap)⟩ a w ι (Sealed R ι [o]) := by
  have hd := toDatE_ok hlk h
  refine { hd with env := fun t x hx => ?_, heap := fun q ob1 hq => ?_ }
  · show ∃ u, slotV C a t = some u ∧ VA w _ ι (mark (datHp o (putsH (frzL S.heap [o]) S.heap))) x u
    rw [mark_datHp]; exact hd.env t x hx
  · show OB w _ ι (mark (datHp o (putsH (frzL S.heap [o]) S.heap))) q ob1
    rw [mark_datHp]
    obtain ⟨ob0, h1, rfl⟩ := datHp_mem hq
    have hob := hd.heap q ob0 h1
    cases ob0 with
    | acc n => exact hob
    | frz n => exact hob
    | mp n => exact hob
    | row es =>
      have hold : OB w R ι (mark S.heap) q (.row es) := by
        rcases mem_putsH h1 with h3 | ⟨h3, _⟩
        · obtain ⟨p, _, he⟩ := List.mem_map.1 h3
          cases he
        · exact h.heap q _ h3
      cases hob with
      | row hι' hR hb hs0 hsz hc hel =>
        cases hold with
        | row hι2 hR2 hb2 hs2 hsz2 hc2 hel2 =>
          rw [hι'] at hι2
          cases hι2
          rw [hb] at hb2
          cases hb2
          show OB w _ ι _ q (.row (datEs o es))
          rw [datEs_map]
          have hsize : ∀ e : AV, (datE o e).size = e.size := fun e => by
            unfold datE
            split
            · simp only [AV.size, datCs_map, List.length_map]
            · rfl
          refine .row hι' hR hb hs0 (fun e he => ?_) (by rw [List.length_map]; exact hc) fun i e hi j x hj => ?_
          · obtain ⟨e0, he0, rfl⟩ := List.mem_map.1 he
            rw [hsize]; exact hsz e0 he0
          · rw [List.getElem?_map] at hi
            obtain ⟨e0, he0, rfl⟩ := Option.map_eq_some_iff.1 hi
            unfold datE at hj
            split at hj
            · rename_i cs
              simp only [AV.cells, datCs_map, List.getElem?_map] at hj
              obtain ⟨x0, hx0, rfl⟩ := Option.map_eq_some_iff.1 hj
              obtain ⟨k1, qv, k2, k3⟩ := hel i _ he0 j x0 hx0
              obtain ⟨_, qv2, k22, k32⟩ := hel2 i _ he0 j x0 hx0
              rw [k2] at k22
              cases k22
              exact ⟨datC_cell k1, qv, k2, datC_va h k32 k3⟩
            · exact hel i _ he0 j x hj
theorem toDat_ok {S S' : St} {a : Act} {w : World} {ι : Inj} {R : Nat → Prop} {o : Nat} (hs : toDat o S = some S') (h : Rel C S a w ι R) : ∃ R', Rel C S' a w ι R' := by
  unfold toDat toDat1 at hs
  split at hs
  · rename_i ob hlk
    unfold datS at hs
    split at hs
    · cases hs
      exact ⟨_, toDatE_ok hlk h⟩
    · cases hs
      exact ⟨_, toDatH_ok hlk h⟩
  · cases hs; exact ⟨R, h⟩
theorem ghosts_ok {S' : St} {a : Act} {w : World} : ∀ {gs : List Nat} {S : St} {ι : Inj} {R : Nat → Prop}, ghosts gs S = some S' → Rel C S a w ι R → ∃ ι' R', Rel C S' a w ι' R' := by
  intro gs
  induction gs with
  | nil => intro S ι R hs h; cases hs; exact ⟨ι, R, h⟩
  | cons g gs ih =>
    intro S ι R hs h
    obtain ⟨S1, h1, h2⟩ := Option.bind_eq_some_iff.1 hs
    have : ∃ ι' R', Rel C S1 a w ι' R' := by
      unfold ghost1 at h1
      split at h1
      · split at h1
        · exact ⟨ι, R, toRow_ok h1 h⟩
        · exact ⟨ι, R, toAcc_ok h1 h⟩
      · split at h1
        · obtain ⟨ι', h'⟩ := toNm_ok h1 h; exact ⟨ι', R, h'⟩
        · obtain ⟨R', h'⟩ := toDat_ok h1 h; exact ⟨ι, R', h'⟩
    obtain ⟨ι', R', h'⟩ := this
    exact ih h2 h'
end Go.Sim
