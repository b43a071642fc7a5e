/-
  An array that was appended to becomes one that is written, and back.
-/
import Derived.Test.YtlphhhmicdjljabXD
namespace Go.Sim
set_option linter.unusedSimpArgs false
set_option linter.unusedVariables false
open Go (World Value Addr TypeId Act)

variable {P : Program} {C : Ctx}

def findAcc (o m : Nat) : Env → Option (List D)
  | [] => none
  | (_, .acc p es) :: l => if p = o ∧ es.length = m then some es else findAcc o m l
  | _ :: l => findAcc o m l

def rowV (o m : Nat) (x : AV) : AV :=
  match x with
  | .acc p es => if p = o then (if es.length = m then .osl o 0 m else .undef) else .acc p es
  | x => if x.refs o then .undef else x
def rowEnv (o m : Nat) (E : Env) : Env := E.map fun p => (p.1, rowV o m p.2)

def accV (o : Nat) (ds : List D) (x : AV) : AV :=
  match x with
  | .osl p off len => if p = o then (if off = 0 ∧ len = ds.length then .acc o ds else .undef) else .osl p off len
  | x => if x.refs o then .undef else x
def accEnv (o : Nat) (ds : List D) (E : Env) : Env := E.map fun p => (p.1, accV o ds p.2)

/-- Nothing was appended: then it is no more than an empty list. -/
def nilV (o : Nat) : AV → AV
  | .acc p [] => if p = o then .d (.sl []) else .acc p []
  | x => x
def nilEnv (o : Nat) : Env → Env
  | [] => []
  | (t, x) :: l => (t, nilV o x) :: nilEnv o l
def toRow2 (o m : Nat) (E : Env) (H : Heap) : Option (List D) → Option St
  | some es => if m ≠ 0 ∧ refsHeap o H = false then some ⟨rowEnv o m E, setAt o (.row (es.map .d)) H⟩ else none
  | none => none
def toRow1 (o : Nat) (E : Env) (H : Heap) : Option Obj → Option St
  | some (.acc m) => if m = 0 then some ⟨nilEnv o E, H⟩ else toRow2 o m E H (findAcc o m E)
  | some (.row es) => some ⟨E, H⟩
  | some (.frz m) => some ⟨E, H⟩
  | none => some ⟨E, H⟩
def toRow (o : Nat) (S : St) : Option St := toRow1 o S.env S.heap (look o S.heap)
def toAcc2 (o : Nat) (E : Env) (H : Heap) (es : List AV) : Option (List D) → Option St
  | some ds => if es ≠ [] ∧ refsHeap o H = false then some ⟨accEnv o ds E, setAt o (.acc ds.length) H⟩ else none
  | none => none
def toAcc1 (o : Nat) (E : Env) (H : Heap) : Option Obj → Option St
  | some (.row es) => toAcc2 o E H es (allD es)
  | some (.acc m) => some ⟨E, H⟩
  | some (.frz m) => some ⟨E, H⟩
  | none => some ⟨E, H⟩
def toAcc (o : Nat) (S : St) : Option St := toAcc1 o S.env S.heap (look o S.heap)

/-- 2k: object k becomes a row; 2k+1: a list to be appended to. -/
def ghost1 (g : Nat) (S : St) : Option St := if g % 2 = 0 then toRow (g / 2) S else toAcc (g / 2) S
def ghosts : List Nat → St → Option St
  | [], S => some S
  | g :: gs, S => (ghost1 g S).bind (ghosts gs)

theorem findAcc_mem {o m : Nat} {es : List D} : ∀ {E : Env}, findAcc o m E = some es → ∃ t, (t, AV.acc o es) ∈ E ∧ es.length = m := by
  intro E
  induction E with
  | nil => intro h; cases h
  | cons p l ih =>
    obtain ⟨t, x⟩ := p
    intro h
    cases x with
    | acc q es' =>
      simp only [findAcc] at h
      split at h
      · rename_i hc
        obtain ⟨rfl, hl⟩ := hc
        cases h; exact ⟨t, .head _, hl⟩
      · obtain ⟨t', h1, h2⟩ := ih h; exact ⟨t', .tail _ h1, h2⟩
    | _ => simp only [findAcc] at h; obtain ⟨t', h1, h2⟩ := ih h; exact ⟨t', .tail _ h1, h2⟩

/-- The slots and one object change; the world stays. -/
theorem Rel.recast {S : St} {a : Act} {w : World} {ι : Inj} {R : Nat → Prop} (h : Rel C S a w ι R) {o : Nat} {ob : Obj} {g : AV → AV} (hh : refsHeap o S.heap = false)
    (hob : OB w R ι (mark (setAt o ob S.heap)) o ob)
    (hg : ∀ x u, VA w R ι (mark S.heap) x u → (x.refs o = true → VA w R ι (mark (setAt o ob S.heap)) (g x) u) ∧ (x.refs o = false → g x = x)) :
    Rel C ⟨S.env.map fun p => (p.1, g p.2), setAt o ob S.heap⟩ a w ι R := by
  have hst : ∀ p, p ≠ o → Step w w ι ι (mark S.heap) (mark (setAt o ob S.heap)) p := fun p hp => Step.other rfl (mark_setAt_ne hp) fun _ _ _ => rfl
  refine { h with env := fun t x hx => ?_, heap := fun q ob' hq => ?_ }
  · obtain ⟨⟨t', y⟩, hm, he⟩ := List.mem_map.1 hx
    cases he
    obtain ⟨u, h1, h2⟩ := h.env t' y hm
    refine ⟨u, h1, ?_⟩
    cases hr : y.refs o with
    | true => exact (hg y u h2).1 hr
    | false =>
      show VA w R ι _ (g y) u
      rw [(hg y u h2).2 hr]
      exact h2.mono (fun _ h => h) (fun _ _ => rfl) fun p hp => hst p fun e => by subst e; rw [hr] at hp; cases hp
  · rcases setAt_mem hq with hq2 | ⟨hq2, hne⟩
    · cases hq2; exact hob
    · exact (h.heap q ob' hq2).mono (fun _ h => h) (fun _ _ => rfl) (fun _ _ hb => ⟨hb, rfl, fun h => h⟩) (fun h => h) fun p hp => hst p fun e => by
        rw [e] at hp
        have := refsHeap_mem (l := S.heap) hq2 hh
        rw [hp] at this; cases this

theorem nilV_va {w : World} {R : Nat → Prop} {ι : Inj} {mk : Nat → Option Nat} {o : Nat} {x : AV} {u : Value} (h : VA w R ι mk x u) : VA w R ι mk (nilV o x) u := by
  unfold nilV
  split
  · split
    · cases h <;> exact .d .sl0
    · exact h
  · exact h
theorem nilEnv_eq {o : Nat} {E : Env} : nilEnv o E = E.map fun p => (p.1, nilV o p.2) := by
  induction E with
  | nil => rfl
  | cons p l ih => obtain ⟨t, x⟩ := p; simp only [nilEnv, ih]; rfl
theorem Rel.nils {S : St} {a : Act} {w : World} {ι : Inj} {R : Nat → Prop} (h : Rel C S a w ι R) {o : Nat} : Rel C ⟨nilEnv o S.env, S.heap⟩ a w ι R := by
  refine { h with env := fun t x hx => ?_ }
  rw [nilEnv_eq] at hx
  obtain ⟨⟨t', y⟩, hm, he⟩ := List.mem_map.1 hx
  cases he
  obtain ⟨u, h1, h2⟩ := h.env t' y hm
  exact ⟨u, h1, nilV_va h2⟩

theorem toRow_ok {o : Nat} {S S' : St} {a : Act} {w : World} {ι : Inj} {R : Nat → Prop} (hs : toRow o S = some S') (h : Rel C S a w ι R) : Rel C S' a w ι R := by
  unfold toRow at hs
  generalize hlk : look o S.heap = q at hs
  unfold toRow1 at hs
  split at hs
  · rename_i m
    split at hs
    · cases hs; exact h.nils
    rename_i hm0
    generalize hes : findAcc o m S.env = qe at hs
    unfold toRow2 at hs
    split at hs
    · rename_i es
      split at hs
      rotate_left
      · cases hs
      rename_i hc
      obtain ⟨hm0, hh⟩ := hc
      cases hs
      have hmk : mark S.heap o = some m := by simp [mark, hlk]
      have hmk' : mark (setAt o (.row (es.map .d)) S.heap) o = none := by rw [mark_setAt]
      obtain ⟨t, ht, hl⟩ := findAcc_mem hes
      obtain ⟨u, _, hv⟩ := h.env t _ ht
      have hob := h.heap _ _ (look_mem hlk)
      refine h.recast (g := rowV o m) hh ?_ fun x u hx => ⟨fun hr => ?_, fun hr => ?_⟩
      · cases hv with
        | accR _ _ _ _ _ _ hlt => have := hlt m hmk; omega
        | acc0 => simp at hl; exact absurd hl.symm hm0
        | @accC _ b s m' cap _ c T hι hmk2 _ hL hcap hsz hb hc hel =>
          cases hob with
          | accN hι' => rw [hι] at hι'; cases hι'
          | acc _ hι' hR hb' hs0 _ =>
            rw [hι] at hι'; cases hι'
            refine .row hι hR hb hs0 (fun e he => ?_) ?_ fun i e hi j x hj => ?_
            · obtain ⟨d, hd, rfl⟩ := List.mem_map.1 he; exact hsz d hd
            · rw [List.length_map]; exact Nat.le_trans (Nat.mul_le_mul_right _ hcap) hc
            · rw [List.getElem?_map] at hi
              obtain ⟨d, hd, rfl⟩ := Option.map_eq_some_iff.1 hi
              simp only [AV.cells, List.getElem?_map] at hj
              obtain ⟨cd, hcd, rfl⟩ := Option.map_eq_some_iff.1 hj
              obtain ⟨k1, q, k2, k3⟩ := (hel i d hd).v_of_cells j cd hcd
              exact ⟨k1, q, by rw [cell_of hb] at k2; exact k2, .d k3⟩
      · unfold rowV
        split
        · rename_i p es'
          have hp : p = o := by simpa [AV.refs] using hr
          rw [if_pos hp]
          subst hp
          split
          · rename_i hlen
            cases hx with
            | accR _ _ _ _ _ _ hlt => have := hlt m hmk; omega
            | acc0 => simp at hlen; exact absurd hlen.symm hm0
            | @accC _ b s m' cap _ c T hι hmk2 _ hL hcap hsz hb hc hel =>
              have := VA.osl (w := w) (R := R) (mk := mark (setAt p (.row (es.map .d)) S.heap)) (off := 0) (len := es'.length) (cap := cap) hι hmk' hb hcap (by simpa using hc) hL
              simp only [Nat.zero_mul] at this
              rw [hlen] at this ⊢
              exact this
          · exact .undef
        · rw [if_pos hr]; exact .undef
      · unfold rowV
        split
        · rename_i p es'
          have hp : ¬ p = o := by simpa [AV.refs] using hr
          rw [if_neg hp]
        · rw [if_neg (by simp [hr])]
    · cases hs
  · cases hs; exact h
  · cases hs; exact h
  · cases hs; exact h

theorem toAcc_ok {o : Nat} {S S' : St} {a : Act} {w : World} {ι : Inj} {R : Nat → Prop} (hs : toAcc o S = some S') (h : Rel C S a w ι R) : Rel C S' a w ι R := by
  unfold toAcc at hs
  generalize hlk : look o S.heap = q at hs
  unfold toAcc1 at hs
  split at hs
  · rename_i es
    generalize hds : allD es = qe at hs
    unfold toAcc2 at hs
    split at hs
    · rename_i ds
      split at hs
      rotate_left
      · cases hs
      rename_i hc
      obtain ⟨hne, hh⟩ := hc
      cases hs
      have hesd := allD_spec hds
      have hmk' : mark (setAt o (.acc ds.length) S.heap) o = some ds.length := by rw [mark_setAt]
      have hdn : ds ≠ [] := by rintro rfl; exact hne hesd
      cases h.heap _ _ (look_mem hlk) with
      | @row _ b s c T hι hR hb hs0 hsz hc hel =>
        have hrd : ∀ (i : Nat) (d : D), ds[i]? = some d → Rd w R (.el d b (i * s)) := fun i d hi => by
          have hei : es[i]? = some (.d d) := by rw [hesd]; simp [hi]
          refine Rd.el_of_cells (fun vs hvs => ?_) fun j cd hj => ?_
          · subst hvs
            have := (hel i _ hei 0 (.d (.tup vs)) rfl).1
            simp [AV.cell, D.cell] at this
          · obtain ⟨k1, q, k2, k3⟩ := hel i _ hei j (.d cd) (by simp [AV.cells, hj])
            exact ⟨k1, q, by rw [cell_of hb]; exact k2, k3.of_d⟩
        have hsz' : ∀ d ∈ ds, d.size = s := fun d hd => hsz (.d d) (by rw [hesd]; exact List.mem_map_of_mem hd)
        refine h.recast (g := accV o ds) hh ?_ fun x u hx => ⟨fun hr => ?_, fun hr => ?_⟩
        · refine .acc (List.length_pos_iff.2 hdn) hι hR hb hs0 ?_
          rw [hesd] at hc; simpa using hc
        · unfold accV
          split
          · rename_i p off len
            have hp : p = o := by simpa [AV.refs] using hr
            rw [if_pos hp]
            subst hp
            split
            · rename_i hcc
              obtain ⟨rfl, rfl⟩ := hcc
              generalize hlen : ds.length = n at hx hmk'
              cases hx with
              | osl0 => exact absurd (List.length_eq_zero_iff.1 hlen) hdn
              | @osl _ _ _ cap b' s' c' T' hι' hmk2 hb' hcap hc' hL =>
                rw [hι] at hι'; cases hι'
                rw [hb] at hb'; cases hb'
                subst hlen
                rw [Nat.zero_mul]
                exact .accC hι hmk' (Nat.le_refl _) hL hcap hsz' hb (by simpa using hc') hrd
            · exact .undef
          · rw [if_pos hr]; exact .undef
        · unfold accV
          split
          · rename_i p off len
            have hp : ¬ p = o := by simpa [AV.refs] using hr
            rw [if_neg hp]
          · rw [if_neg (by simp [hr])]
    · cases hs
  · cases hs; exact h
  · cases hs; exact h
  · cases hs; exact h

theorem ghosts_ok {S' : St} {a : Act} {w : World} {ι : Inj} {R : Nat → Prop} : ∀ {gs : List Nat} {S : St}, ghosts gs S = some S' → Rel C S a w ι R → Rel C S' a w ι R := by
  intro gs
  induction gs with
  | nil => intro S hs h; cases hs; exact h
  | cons g gs ih =>
    intro S hs h
    obtain ⟨S1, h1, h2⟩ := Option.bind_eq_some_iff.1 hs
    refine ih h2 ?_
    unfold ghost1 at h1
    split at h1
    · exact toRow_ok h1 h
    · exact toAcc_ok h1 h

end Go.Sim
