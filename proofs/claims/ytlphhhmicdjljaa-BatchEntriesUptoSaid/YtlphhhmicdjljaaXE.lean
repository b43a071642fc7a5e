/-
  An array that was appended to becomes one that is written, and back.
-/
import Derived.Test.YtlphhhmicdjljaaXD
namespace Go.Sim
set_option linter.unusedSimpArgs false
set_option linter.unusedVariables false
open Go (World Value Addr TypeId Act)

variable {P : Program} {C : Ctx}

def findAcc (o m : Nat) : Env → Option (List D)
  | [] => none
  | (_, .acc p es) :: l => if p = o ∧ es.length = m then some es else findAcc o m l
  | _ :: l => findAcc o m l

def rowV (o m : Nat) (x : AV) : AV :=
  match x with
  | .acc p es => if p = o then (if es.length = m then .osl o 0 m else .undef) else .acc p es
  | x => if x.refs o then .undef else x
def rowEnv (o m : Nat) (E : Env) : Env := E.map fun p => (p.1, rowV o m p.2)

def accV (o : Nat) (ds : List D) (x : AV) : AV :=
  match x with
  | .osl p off len => if p = o then (if off = 0 ∧ len = ds.length then .acc o ds else .undef) else .osl p off len
  | x => if x.refs o then .undef else x
def accEnv (o : Nat) (ds : List D) (E : Env) : Env := E.map fun p => (p.1, accV o ds p.2)

/-- Nothing was appended: then it is no more than an empty list. -/
def nilV (o : Nat) : AV → AV
  | .acc p [] => if p = o then .d (.sl []) else .acc p []
  | x => x
def nilEnv (o : Nat) : Env → Env
  | [] => []
  | (t, x) :: l => (t, nilV o x) :: nilEnv o l
def toRow2 (o m : Nat) (E : Env) (H : Heap) : Option (List D) → Option St
  | some es => if m ≠ 0 ∧ refsHeap o H = false then some ⟨rowEnv o m E, setAt o (.row (es.map .d)) H⟩ else none
  | none => none
def toRow1 (o : Nat) (E : Env) (H : Heap) : Option Obj → Option St
  | some (.acc m) => if m = 0 then some ⟨nilEnv o E, H⟩ else toRow2 o m E H (findAcc o m E)
  | some (.row es) => some ⟨E, H⟩
  | some (.frz m) => some ⟨E, H⟩
  | none => some ⟨E, H⟩
def toRow (o : Nat) (S : St) : Option St := toRow1 o S.env S.heap (look o S.heap)
def nilO (o : Nat) : AV → AV
  | .osl p off 0 => if p = o then .d (.sl []) else .osl p off 0
  | x => x
def nilOEnv (o : Nat) : Env → Env
  | [] => []
  | (t, x) :: l => (t, nilO o x) :: nilOEnv o l
def toAcc2 (o : Nat) (E : Env) (H : Heap) (es : List AV) : Option (List D) → Option St
  | some ds => if es = [] then some ⟨nilOEnv o E, H⟩ else if es ≠ [] ∧ refsHeap o H = false then some ⟨accEnv o ds E, setAt o (.acc ds.length) H⟩ else none
  | none => none
def toAcc1 (o : Nat) (E : Env) (H : Heap) : Option Obj → Option St
  | some (.row es) => toAcc2 o E H es (allD es)
  | some (.acc m) => some ⟨E, H⟩
  | some (.frz m) => some ⟨E, H⟩
  | none => some ⟨E, H⟩
def toAcc (o : Nat) (S : St) : Option St := toAcc1 o S.env S.heap (look o S.heap)

/-- An object's other name. -/
def rnm (o o' n : Nat) : Nat := if n = o then o' else n
def renEnv (ρ : Nat → Nat) : Env → Env
  | [] => []
  | (t, x) :: l => (t, x.ren ρ) :: renEnv ρ l
def toNm1 (o o' : Nat) (E : Env) (H : Heap) : Option Obj → Option St
  | some _ => if (look o' H).isNone = true ∧ refsEnv o' E = false ∧ refsHeap o' H = false then some ⟨renEnv (rnm o o') E, renH (rnm o o') H⟩ else none
  | none => some ⟨E, H⟩
def toNm (o o' : Nat) (S : St) : Option St := toNm1 o o' S.env S.heap (look o S.heap)

/-- 2k: object k becomes a row; 2k+1: a list to be appended to; 4000000 + k: object k is named 500000 + k from now on. -/
def ghost1 (g : Nat) (S : St) : Option St := if g < 4000000 then (if g % 2 = 0 then toRow (g / 2) S else toAcc (g / 2) S) else toNm (g - 4000000) (g - 3500000) S
def ghosts : List Nat → St → Option St
  | [], S => some S
  | g :: gs, S => (ghost1 g S).bind (ghosts gs)

theorem findAcc_mem {o m : Nat} {es : List D} : ∀ {E : Env}, findAcc o m E = some es → ∃ t, (t, AV.acc o es) ∈ E ∧ es.length = m := by
  intro E
  induction E with
  | nil => intro h; cases h
  | cons p l ih =>
    obtain ⟨t, x⟩ := p
    intro h
    cases x with
    | acc q es' =>
      simp only [findAcc] at h
      split at h
      · rename_i hc
        obtain ⟨rfl, hl⟩ := hc
        cases h; exact ⟨t, .head _, hl⟩
      · obtain ⟨t', h1, h2⟩ := ih h; exact ⟨t', .tail _ h1, h2⟩
    | _ => simp only [findAcc] at h; obtain ⟨t', h1, h2⟩ := ih h; exact ⟨t', .tail _ h1, h2⟩

/-- The slots and one object change; the world stays. -/
theorem Rel.recast {S : St} {a : Act} {w : World} {ι : Inj} {R : Nat → Prop} (h : Rel C S a w ι R) {o : Nat} {ob : Obj} {g : AV → AV} (hh : refsHeap o S.heap = false)
    (hob : OB w R ι (mark (setAt o ob S.heap)) o ob)
    (hg : ∀ x u, VA w R ι (mark S.heap) x u → (x.refs o = true → VA w R ι (mark (setAt o ob S.heap)) (g x) u) ∧ (x.refs o = false → g x = x)) :
    Rel C ⟨S.env.map fun p => (p.1, g p.2), setAt o ob S.heap⟩ a w ι R := by
  have hst : ∀ p, p ≠ o → Step w w ι ι (mark S.heap) (mark (setAt o ob S.heap)) p := fun p hp => Step.other rfl (mark_setAt_ne hp) fun _ _ _ => rfl
  refine { h with env := fun t x hx => ?_, heap := fun q ob' hq => ?_ }
  · obtain ⟨⟨t', y⟩, hm, he⟩ := List.mem_map.1 hx
    cases he
    obtain ⟨u, h1, h2⟩ := h.env t' y hm
    refine ⟨u, h1, ?_⟩
    cases hr : y.refs o with
    | true => exact (hg y u h2).1 hr
    | false =>
      show VA w R ι _ (g y) u
      rw [(hg y u h2).2 hr]
      exact h2.mono (fun _ h => h) (fun _ _ => rfl) fun p hp => hst p fun e => by subst e; rw [hr] at hp; cases hp
  · rcases setAt_mem hq with hq2 | ⟨hq2, hne⟩
    · cases hq2; exact hob
    · exact (h.heap q ob' hq2).mono (fun _ h => h) (fun _ _ => rfl) (fun _ _ hb => ⟨hb, rfl, fun h => h⟩) (fun h => h) fun p hp => hst p fun e => by
        rw [e] at hp
        have := refsHeap_mem (l := S.heap) hq2 hh
        rw [hp] at this; cases this

theorem nilV_va {w : World} {R : Nat → Prop} {ι : Inj} {mk : Nat → Option Nat} {o : Nat} {x : AV} {u : Value} (h : VA w R ι mk x u) : VA w R ι mk (nilV o x) u := by
  unfold nilV
  split
  · split
    · cases h <;> exact .d .sl0
    · exact h
  · exact h
theorem nilO_va {w : World} {R : Nat → Prop} {ι : Inj} {mk : Nat → Option Nat} {o : Nat} {x : AV} {u : Value} (h : VA w R ι mk x u) : VA w R ι mk (nilO o x) u := by
  unfold nilO
  split
  · split
    · cases h <;> exact .d .sl0
    · exact h
  · exact h
theorem nilOEnv_eq {o : Nat} {E : Env} : nilOEnv o E = E.map fun p => (p.1, nilO o p.2) := by
  induction E with
  | nil => rfl
  | cons p l ih => obtain ⟨t, x⟩ := p; simp only [nilOEnv, ih]; rfl
theorem Rel.nilsO {S : St} {a : Act} {w : World} {ι : Inj} {R : Nat → Prop} (h : Rel C S a w ι R) {o : Nat} : Rel C ⟨nilOEnv o S.env, S.heap⟩ a w ι R := by
  refine { h with env := fun t x hx => ?_ }
  rw [nilOEnv_eq] at hx
  obtain ⟨⟨t', y⟩, hm, he⟩ := List.mem_map.1 hx
  cases he
  obtain ⟨u, h1, h2⟩ := h.env t' y hm
  exact ⟨u, h1, nilO_va h2⟩
theorem nilEnv_eq {o : Nat} {E : Env} : nilEnv o E = E.map fun p => (p.1, nilV o p.2) := by
  induction E with
  | nil => rfl
  | cons p l ih => obtain ⟨t, x⟩ := p; simp only [nilEnv, ih]; rfl
theorem Rel.nils {S : St} {a : Act} {w : World} {ι : Inj} {R : Nat → Prop} (h : Rel C S a w ι R) {o : Nat} : Rel C ⟨nilEnv o S.env, S.heap⟩ a w ι R := by
  refine { h with env := fun t x hx => ?_ }
  rw [nilEnv_eq] at hx
  obtain ⟨⟨t', y⟩, hm, he⟩ := List.mem_map.1 hx
  cases he
  obtain ⟨u, h1, h2⟩ := h.env t' y hm
  exact ⟨u, h1, nilV_va h2⟩

theorem toRow_ok {o : Nat} {S S' : St} {a : Act} {w : World} {ι : Inj} {R : Nat → Prop} (hs : toRow o S = some S') (h : Rel C S a w ι R) : Rel C S' a w ι R := by
  unfold toRow at hs
  generalize hlk : look o S.heap = q at hs
  unfold toRow1 at hs
  split at hs
  · rename_i m
    split at hs
    · cases hs; exact h.nils
    rename_i hm0
    generalize hes : findAcc o m S.env = qe at hs
    unfold toRow2 at hs
    split at hs
    · rename_i es
      split at hs
      rotate_left
      · cases hs
      rename_i hc
      obtain ⟨hm0, hh⟩ := hc
      cases hs
      have hmk : mark S.heap o = some m := by simp [mark, hlk]
      have hmk' : mark (setAt o (.row (es.map .d)) S.heap) o = none := by rw [mark_setAt]
      obtain ⟨t, ht, hl⟩ := findAcc_mem hes
      obtain ⟨u, _, hv⟩ := h.env t _ ht
      have hob := h.heap _ _ (look_mem hlk)
      refine h.recast (g := rowV o m) hh ?_ fun x u hx => ⟨fun hr => ?_, fun hr => ?_⟩
      · cases hv with
        | accR _ _ _ _ _ _ hlt => have := hlt m hmk; omega
        | acc0 => simp at hl; exact absurd hl.symm hm0
        | @accC _ b s m' cap _ c T hι hmk2 _ hL hcap hsz hb hc hel =>
          cases hob with
          | accN hι' => rw [hι] at hι'; cases hι'
          | acc _ hι' hR hb' hs0 _ =>
            rw [hι] at hι'; cases hι'
            refine .row hι hR hb hs0 (fun e he => ?_) ?_ fun i e hi j x hj => ?_
            · obtain ⟨d, hd, rfl⟩ := List.mem_map.1 he; exact hsz d hd
            · rw [List.length_map]; exact Nat.le_trans (Nat.mul_le_mul_right _ hcap) hc
            · rw [List.getElem?_map] at hi
              obtain ⟨d, hd, rfl⟩ := Option.map_eq_some_iff.1 hi
              simp only [AV.cells, List.getElem?_map] at hj
              obtain ⟨cd, hcd, rfl⟩ := Option.map_eq_some_iff.1 hj
              obtain ⟨k1, q, k2, k3⟩ := (hel i d hd).v_of_cells j cd hcd
              exact ⟨k1, q, by rw [cell_of hb] at k2; exact k2, .d k3⟩
      · unfold rowV
        split
        · rename_i p es'
          have hp : p = o := by simpa [AV.refs] using hr
          rw [if_pos hp]
          subst hp
          split
          · rename_i hlen
            cases hx with
            | accR _ _ _ _ _ _ hlt => have := hlt m hmk; omega
            | acc0 => simp at hlen; exact absurd hlen.symm hm0
            | @accC _ b s m' cap _ c T hι hmk2 _ hL hcap hsz hb hc hel =>
              have := VA.osl (w := w) (R := R) (mk := mark (setAt p (.row (es.map .d)) S.heap)) (off := 0) (len := es'.length) (cap := cap) hι hmk' hb hcap (by simpa using hc) hL
              simp only [Nat.zero_mul] at this
              rw [hlen] at this ⊢
              exact this
          · exact .undef
        · rw [if_pos hr]; exact .undef
      · unfold rowV
        split
        · rename_i p es'
          have hp : ¬ p = o := by simpa [AV.refs] using hr
          rw [if_neg hp]
        · rw [if_neg (by simp [hr])]
    · cases hs
  · cases hs; exact h
  · cases hs; exact h
  · cases hs; exact h

theorem toAcc_ok {o : Nat} {S S' : St} {a : Act} {w : World} {ι : Inj} {R : Nat → Prop} (hs : toAcc o S = some S') (h : Rel C S a w ι R) : Rel C S' a w ι R := by
  unfold toAcc at hs
  generalize hlk : look o S.heap = q at hs
  unfold toAcc1 at hs
  split at hs
  · rename_i es
    generalize hds : allD es = qe at hs
    unfold toAcc2 at hs
    split at hs
    · rename_i ds
      split at hs
      · cases hs; exact h.nilsO
      split at hs
      rotate_left
      · cases hs
      rename_i hc
      obtain ⟨hne, hh⟩ := hc
      cases hs
      have hesd := allD_spec hds
      have hmk' : mark (setAt o (.acc ds.length) S.heap) o = some ds.length := by rw [mark_setAt]
      have hdn : ds ≠ [] := by rintro rfl; exact hne hesd
      cases h.heap _ _ (look_mem hlk) with
      | @row _ b s c T hι hR hb hs0 hsz hc hel =>
        have hrd : ∀ (i : Nat) (d : D), ds[i]? = some d → Rd w R (.el d b (i * s)) := fun i d hi => by
          have hei : es[i]? = some (.d d) := by rw [hesd]; simp [hi]
          refine Rd.el_of_cells (fun vs hvs => ?_) fun j cd hj => ?_
          · subst hvs
            have := (hel i _ hei 0 (.d (.tup vs)) rfl).1
            simp [AV.cell, D.cell] at this
          · obtain ⟨k1, q, k2, k3⟩ := hel i _ hei j (.d cd) (by simp [AV.cells, hj])
            exact ⟨k1, q, by rw [cell_of hb]; exact k2, k3.of_d⟩
        have hsz' : ∀ d ∈ ds, d.size = s := fun d hd => hsz (.d d) (by rw [hesd]; exact List.mem_map_of_mem hd)
        refine h.recast (g := accV o ds) hh ?_ fun x u hx => ⟨fun hr => ?_, fun hr => ?_⟩
        · refine .acc (List.length_pos_iff.2 hdn) hι hR hb hs0 ?_
          rw [hesd] at hc; simpa using hc
        · unfold accV
          split
          · rename_i p off len
            have hp : p = o := by simpa [AV.refs] using hr
            rw [if_pos hp]
            subst hp
            split
            · rename_i hcc
              obtain ⟨rfl, rfl⟩ := hcc
              generalize hlen : ds.length = n at hx hmk'
              cases hx with
              | osl0 => exact absurd (List.length_eq_zero_iff.1 hlen) hdn
              | @osl _ _ _ cap b' s' c' T' hι' hmk2 hb' hcap hc' hL =>
                rw [hι] at hι'; cases hι'
                rw [hb] at hb'; cases hb'
                subst hlen
                rw [Nat.zero_mul]
                exact .accC hι hmk' (Nat.le_refl _) hL hcap hsz' hb (by simpa using hc') hrd
            · exact .undef
          · rw [if_pos hr]; exact .undef
        · unfold accV
          split
          · rename_i p off len
            have hp : ¬ p = o := by simpa [AV.refs] using hr
            rw [if_neg hp]
          · rw [if_neg (by simp [hr])]
    · cases hs
  · cases hs; exact h
  · cases hs; exact h
  · cases hs; exact h

theorem rnm_inj {o o' a b : Nat} (ha : a ≠ o') (hb : b ≠ o') (h : rnm o o' a = rnm o o' b) : a = b := by
  unfold rnm at h
  split at h <;> split at h
  · rename_i h1 h2; rw [h1, h2]
  · exact absurd h.symm hb
  · exact absurd h ha
  · exact h
theorem toNm_ok {o o' : Nat} {S S' : St} {a : Act} {w : World} {ι : Inj} {R : Nat → Prop} (hs : toNm o o' S = some S') (h : Rel C S a w ι R) : ∃ ι', Rel C S' a w ι' R := by
  unfold toNm at hs
  generalize hlk : look o S.heap = q at hs
  cases q with
  | none => cases hs; exact ⟨ι, h⟩
  | some ob =>
    simp only [toNm1] at hs
    split at hs
    · rename_i hc
      obtain ⟨hn, he, hh⟩ := hc
      cases hs
      have hn' : look o' S.heap = none := by simpa using hn
      have hmk : ∀ n, n ≠ o' → mark (renH (rnm o o') S.heap) (rnm o o' n) = mark S.heap n := by
        intro n hno
        unfold mark
        rw [look_renH fun m hm e => rnm_inj (fun e2 => by rw [e2, hn'] at hm; cases hm) hno e]
        cases look n S.heap with
        | none => rfl
        | some ob => cases ob <;> rfl
      have hι : ∀ n, n ≠ o' → (fun q => if q = o' then ι o else if q = o then none else ι q) (rnm o o' n) = ι n := by
        intro n hno
        unfold rnm
        by_cases e : n = o
        · subst e; simp
        · simp [e, hno]
      refine ⟨fun q => if q = o' then ι o else if q = o then none else ι q, { h with own := ?_, inj := ?_, env := ?_, heap := ?_ }⟩
      · intro q b s hq
        split at hq
        · exact h.own o b s hq
        · split at hq
          · cases hq
          · exact h.own q b s hq
      · intro q q' b s s' hq hq'
        split at hq <;> split at hq'
        · rename_i e1 e2; rw [e1, e2]
        · split at hq'
          · cases hq'
          · rename_i e1 e2 e3; exact absurd (h.inj o q' b s s' hq hq') (Ne.symm e3)
        · split at hq
          · cases hq
          · rename_i e1 e2 e3; exact absurd (h.inj q o b s s' hq hq') e3
        · split at hq
          · cases hq
          · split at hq'
            · cases hq'
            · exact h.inj q q' b s s' hq hq'
      · intro t x hx
        have : ∃ y, (t, y) ∈ S.env ∧ x = y.ren (rnm o o') := by
          have key : ∀ (E : Env), (t, x) ∈ renEnv (rnm o o') E → ∃ y, (t, y) ∈ E ∧ x = y.ren (rnm o o') := by
            intro E
            induction E with
            | nil => intro h; cases h
            | cons p l ih =>
              obtain ⟨t', y⟩ := p
              intro h
              simp only [renEnv] at h
              cases h with
              | head => exact ⟨y, .head _, rfl⟩
              | tail _ h => obtain ⟨z, h1, h2⟩ := ih h; exact ⟨z, .tail _ h1, h2⟩
          exact key _ hx
        obtain ⟨y, hy, rfl⟩ := this
        obtain ⟨u, h1, h2⟩ := h.env t y hy
        refine ⟨u, h1, h2.ren fun n hn2 => ?_⟩
        have hno : n ≠ o' := fun e => by subst e; rw [refsEnv_mem hy he] at hn2; cases hn2
        exact ⟨fun p hp => (hι n hno).trans hp, hmk n hno⟩
      · intro n ob' hm
        obtain ⟨⟨m, ob2⟩, hm2, he2⟩ := List.mem_map.1 hm
        cases he2
        have hno : m ≠ o' := fun e => by
          subst e
          have hs2 : (look m S.heap).isSome = true := by
            have key : ∀ (l : Heap), (m, ob2) ∈ l → (look m l).isSome = true := by
              intro l
              induction l with
              | nil => intro h; cases h
              | cons p l ih =>
                obtain ⟨k, y⟩ := p
                intro h
                simp only [look]
                split
                · rfl
                · rename_i hne
                  cases h with
                  | head => exact absurd rfl hne
                  | tail _ h => exact ih h
            exact key _ hm2
          rw [hn'] at hs2; cases hs2
        refine (h.heap m ob2 hm2).ren (hι m hno) fun n hn2 => ?_
        have hno2 : n ≠ o' := fun e => by subst e; rw [refsHeap_mem hm2 hh] at hn2; cases hn2
        exact ⟨fun p hp => (hι n hno2).trans hp, hmk n hno2⟩
    · cases hs

theorem ghosts_ok {S' : St} {a : Act} {w : World} {R : Nat → Prop} : ∀ {gs : List Nat} {S : St} {ι : Inj}, ghosts gs S = some S' → Rel C S a w ι R → ∃ ι', Rel C S' a w ι' R := by
  intro gs
  induction gs with
  | nil => intro S ι hs h; cases hs; exact ⟨ι, h⟩
  | cons g gs ih =>
    intro S ι hs h
    obtain ⟨S1, h1, h2⟩ := Option.bind_eq_some_iff.1 hs
    have : ∃ ι', Rel C S1 a w ι' R := by
      unfold ghost1 at h1
      split at h1
      · split at h1
        · exact ⟨ι, toRow_ok h1 h⟩
        · exact ⟨ι, toAcc_ok h1 h⟩
      · exact toNm_ok h1 h
    obtain ⟨ι', h'⟩ := this
    exact ih h2 h'

end Go.Sim
