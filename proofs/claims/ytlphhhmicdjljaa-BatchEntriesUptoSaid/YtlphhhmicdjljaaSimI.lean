/-
  Parts of slices; what an append takes; appends.
-/
import Derived.Test.YtlphhhmicdjljaaSimH
import Derived.Deep.Upon
import Derived.Laws.OwnMore
namespace Go.Sim
set_option linter.unusedSimpArgs false
set_option linter.unusedVariables false
open Go (World Value Addr TypeId Act)

variable {P : Program} {C : Ctx} {S : St} {a : Act} {w : World} {ι : Inj} {R : Nat → Prop}

theorem allSize_spec {n : Nat} {es : List D} (h : allSize n es = true) : ∀ e ∈ es, e.size = n := by
  intro e he
  have := List.all_eq_true.1 h e he
  simpa using this

theorem cut_get {es : List D} {l h i : Nat} {e : D} (hi : ((es.take h).drop l)[i]? = some e) : es[l + i]? = some e ∧ l + i < h := by
  rw [List.getElem?_drop] at hi
  have hlt : l + i < h := by have := (List.getElem?_eq_some_iff.1 hi).1; simp at this; omega
  rw [List.getElem?_take_of_lt hlt] at hi
  exact ⟨hi, hlt⟩

theorem cut_mem {es : List D} {l h : Nat} {e : D} (he : e ∈ (es.take h).drop l) : e ∈ es := List.mem_of_mem_take (List.mem_of_mem_drop he)

theorem cut_len {es : List D} {l h : Nat} (hh : h ≤ es.length) : ((es.take h).drop l).length = h - l := by simp; omega

/-- The slice of a slice, as data. -/
theorem Rd.cut {es : List D} {ao : Option Addr} {cap n l h m : Nat} (hr : Rd w R (.v (.sl es) (.slice ao es.length cap))) (hz : ∀ e ∈ es, e.size = n) (hh : h ≤ es.length) (hlh : l ≤ h) (hm : h ≤ m) :
    Rd w R (.v (.sl ((es.take h).drop l)) (.slice (if m = l then ao else ao.map (·.add (l * n))) (h - l) (m - l))) := by
  by_cases h0 : h = l
  · subst h0
    have : (es.take h).drop h = [] := by simp
    rw [this, Nat.sub_self]; exact .sl0
  · have hne : es ≠ [] := by rintro rfl; simp at hh; omega
    obtain ⟨b, off, s, cap', he, hR, hs, hl, hc, hsz, hel⟩ := hr.sl_inv hne
    cases he
    obtain ⟨e0, he0⟩ : ∃ e, e ∈ es := List.exists_mem_of_ne_nil _ hne
    have hns : s = n := by rw [← hsz e0 he0]; exact hz e0 he0
    subst hns
    rw [if_neg (by omega)]
    have hlen := cut_len (es := es) (l := l) hh
    have key := Rd.sl (w := w) (R := R) (es := (es.take h).drop l) (b := b) (off := off + l * s) (s := s) (cap := m - l) hR (by intro e; rw [e] at hlen; simp at hlen; omega) hs (by omega) (by omega)
      (fun e he => hsz e (cut_mem he)) (fun i e hi => by
        obtain ⟨h1, _⟩ := cut_get hi
        have := hel _ _ h1
        rwa [show off + l * s + i * s = off + (l + i) * s by rw [Nat.add_mul]; omega])
    rw [hlen] at key
    simpa [Addr.add_mid] using key

theorem slice_run {t e : TypeId} {n : Nat} {ao : Option Addr} {len cap l h m : Nat} {ulo uhi umx : Option Value} (hu : P.underlying t = some (.slice e)) (hn : sizeT P e = some n)
    (hb : (Instr.sliceBounds true len cap ulo uhi umx).run P w = .ok (l, h, m) w) :
    (Instr.sliceAt t (.slice ao len cap) ulo uhi umx).run P w = .ok (.slice (if m = l then ao else ao.map (·.add (l * n))) (h - l) (m - l)) w := by
  simp only [Instr.sliceAt, Sem.run_bind, run_underlying hu, Result.andThen_ok, Instr.slice, hb, sizeT_run hn, Sem.run_pure]

theorem slcA_ok {mk : Nat → Option Nat} {t e : TypeId} {n : Nat} {x v : AV} {u : Value} {lo hi mx : Option AV} {ulo uhi umx : Option Value} (hr : Rel C S a w ι R) (hmk : mk = mark S.heap) (h : VA w R ι mk x u)
    (hlo : VAo w R ι mk lo ulo) (hhi : VAo w R ι mk hi uhi) (hmx : VAo w R ι mk mx umx) (hp : slcA S.heap n lo hi mx x = some v) (hu : P.underlying t = some (.slice e)) (hn : sizeT P e = some n) :
    ∃ u', (Instr.sliceAt t u ulo uhi umx).run P w = .ok u' w ∧ VA w R ι mk v u' := by
  have hsl : ∀ (es : List D) (h l : Nat), bound hi es.length es.length = some h → bound lo 0 h = some l → ∀ cap, es.length ≤ cap → (∀ m, mx = some m → idxOf m = some (h : Int) ∧ hi ≠ none) →
      h ≤ es.length ∧ l ≤ h ∧ ∀ ao, (Instr.sliceAt t (.slice ao es.length cap) ulo uhi umx).run P w = .ok (.slice (if (if mx = none then cap else h) = l then ao else ao.map (·.add (l * n))) (h - l) ((if mx = none then cap else h) - l)) w := by
    intro es h l h1 h2 cap hc hm
    obtain ⟨k1, k2, k3⟩ := sliceBounds_ok (P := P) hlo hhi hmx h1 h2 hc hm true w
    exact ⟨k1, k2, fun ao => slice_run hu hn k3⟩
  cases x with
  | d y =>
    cases y with
    | sl es =>
      simp only [slcA] at hp
      split at hp
      · rename_i hz
        obtain ⟨hh, h1, hp⟩ := Option.bind_eq_some_iff.1 hp
        obtain ⟨l, h2, hp⟩ := Option.bind_eq_some_iff.1 hp
        obtain ⟨ao, cap, rfl, hc, hL⟩ := h.of_d.sl_len
        have hz := allSize_spec hz
        split at hp
        · cases hp
          obtain ⟨k1, k2, k3⟩ := hsl es hh l h1 h2 cap hc (fun m hm => by cases hm)
          exact ⟨_, k3 ao, .d (h.of_d.cut hz k1 k2 (by simp; omega))⟩
        · rename_i m
          split at hp
          · rename_i hm; cases hp
            obtain ⟨k1, k2, k3⟩ := hsl es hh l h1 h2 cap hc (fun m' hm' => by cases hm'; exact ⟨hm.1, by intro e; simp [e] at hm⟩)
            refine ⟨_, k3 ao, ?_⟩
            simp only [reduceCtorEq, if_false]
            exact .xsl (h.of_d.cut hz k1 k2 (Nat.le_refl _))
          · cases hp
      · cases hp
    | _ => simp [slcA] at hp
  | xsl es =>
    simp only [slcA] at hp
    split at hp
    · rename_i hz
      obtain ⟨hh, h1, hp⟩ := Option.bind_eq_some_iff.1 hp
      obtain ⟨l, h2, hp⟩ := Option.bind_eq_some_iff.1 hp
      cases h with
      | @xsl _ ao k h =>
        obtain ⟨ao', cap, he, hc, hL⟩ := h.sl_len
        cases he
        have hz := allSize_spec hz
        split at hp
        · cases hp
          obtain ⟨k1, k2, k3⟩ := hsl es hh l h1 h2 es.length hc (fun m hm => by cases hm)
          refine ⟨_, k3 ao, ?_⟩
          have := h.cut hz k1 k2 k1
          simp only [if_true]
          split
          · rename_i e; subst e; exact .xsl this
          · exact .d this
        · rename_i m
          split at hp
          · rename_i hm; cases hp
            obtain ⟨k1, k2, k3⟩ := hsl es hh l h1 h2 es.length hc (fun m' hm' => by cases hm'; exact ⟨hm.1, by intro e; simp [e] at hm⟩)
            refine ⟨_, k3 ao, ?_⟩
            simp only [reduceCtorEq, if_false]
            exact .xsl (h.cut hz k1 k2 (Nat.le_refl _))
          · cases hp
    · cases hp
  | acc o es =>
    simp only [slcA] at hp
    split at hp
    · rename_i hz
      obtain ⟨hh, h1, hp⟩ := Option.bind_eq_some_iff.1 hp
      obtain ⟨l, h2, hp⟩ := Option.bind_eq_some_iff.1 hp
      split at hp
      · rename_i hl0; subst hl0
        have hv : v = .acc o (es.take hh) ∧ ∀ m, mx = some m → idxOf m = some (hh : Int) ∧ hi ≠ none := by
          split at hp
          · cases hp; exact ⟨rfl, fun m hm => by cases hm⟩
          · split at hp
            · rename_i hm; cases hp; exact ⟨rfl, fun m' hm' => by cases hm'; exact ⟨hm.1, by intro e; simp [e] at hm⟩⟩
            · cases hp
        obtain ⟨rfl, hm⟩ := hv
        have tk : ∀ {i : Nat} {e : D}, (es.take hh)[i]? = some e → es[i]? = some e := fun {i e} hi => by
          have hlt : i < hh := by have := (List.getElem?_eq_some_iff.1 hi).1; simp at this; omega
          rwa [List.getElem?_take_of_lt hlt] at hi
        have fin : ∀ (b off cap : Nat), es.length ≤ cap → (∀ cap', hh ≤ cap' → cap' ≤ cap → (mx = none → cap' = cap) → (mx ≠ none → cap' = hh) → VA w R ι mk (.acc o (es.take hh)) (.slice (some ⟨b, off, none⟩) hh cap')) →
            ∃ u', (Instr.sliceAt t (.slice (some ⟨b, off, none⟩) es.length cap) ulo uhi umx).run P w = .ok u' w ∧ VA w R ι mk (.acc o (es.take hh)) u' := by
          intro b off cap hc hk
          obtain ⟨k1, k2, k3⟩ := hsl es hh 0 h1 h2 cap hc hm
          refine ⟨_, k3 _, ?_⟩
          have e1 : (if (if mx = none then cap else hh) = 0 then (some ⟨b, off, none⟩ : Option Addr) else (some ⟨b, off, none⟩ : Option Addr).map (·.add (0 * n))) = some ⟨b, off, none⟩ := by
            split <;> simp [Addr.add]
          rw [e1, Nat.sub_zero, Nat.sub_zero]
          refine hk _ ?_ ?_ ?_ ?_
          · split <;> omega
          · split <;> omega
          · intro e; rw [if_pos e]
          · intro e; rw [if_neg e]
        have hlen : hh ≤ es.length := by rcases bound_spec h1 with ⟨_, rfl⟩ | ⟨v, i, _, _, _, h2, rfl⟩ <;> omega
        have htl : (es.take hh).length = hh := by simp; omega
        cases h with
        | accR hR hs hL hl hsz hh' hm' =>
          refine fin _ _ _ hl fun cap' c1 c2 c3 c4 => ?_
          have := VA.accR (w := w) (R := R) (ι := ι) (mk := mk) (o := o) (es := es.take hh) (cap := cap') hR hs (by omega) (by omega) (fun e he => hsz e (List.mem_of_mem_take he)) (fun i e hi => hh' i e (tk hi)) (fun m hmm => by have := hm' m hmm; omega)
          rwa [htl] at this
        | @accC _ b s m cap _ c T hι hmk' hm' hL hl hsz hb hc hh' =>
          refine fin _ _ _ hl fun cap' c1 c2 c3 c4 => ?_
          have := VA.accC (w := w) (R := R) (ι := ι) (mk := mk) (o := o) (es := es.take hh) (cap := cap') hι hmk' (by omega) (by omega) (by omega) (fun e he => hsz e (List.mem_of_mem_take he)) hb
            (Nat.le_trans (Nat.mul_le_mul_right _ c2) hc) (fun i e hi => hh' i e (tk hi))
          rwa [htl] at this
        | acc0 =>
          obtain ⟨k1, k2, k3⟩ := hsl [] hh 0 h1 h2 0 (by simp) hm
          have h0 : hh = 0 := by simp at hlen; exact hlen
          subst h0
          refine ⟨_, k3 _, ?_⟩
          have : (if mx = none then 0 else 0) = 0 := by split <;> rfl
          rw [this]; simp only [if_true, Nat.sub_zero, List.take_nil]
          exact .acc0
      · cases hp
    · cases hp
  | osl o off len =>
    simp only [slcA] at hp
    split at hp
    · obtain ⟨hh, h1, hp⟩ := Option.bind_eq_some_iff.1 hp
      obtain ⟨l, h2, hp⟩ := Option.bind_eq_some_iff.1 hp
      split at hp
      · rename_i es hes
        split at hp
        · rename_i hl; cases hp
          cases h with
          | osl0 =>
            obtain ⟨k1, k2, k3⟩ := sliceBounds_ok (P := P) (cap := 0) hlo hhi hmx h1 h2 (Nat.le_refl _) (fun m hm => by cases hm) true w
            refine ⟨_, slice_run hu hn k3, ?_⟩
            have e1 : hh = 0 := by omega
            have e2 : l = 0 := by omega
            subst e1 e2
            simp only [if_true, Nat.sub_zero, Nat.sub_self]
            exact .osl0
          | @osl _ _ _ cap b s c T hι hmk0 hb hlc hc hL =>
            obtain ⟨k1, k2, k3⟩ := sliceBounds_ok (P := P) (cap := cap) hlo hhi hmx h1 h2 hlc (fun m hm => by cases hm) true w
            refine ⟨_, slice_run hu hn k3, ?_⟩
            simp only [if_true]
            by_cases hcl : cap = l
            · rw [if_pos hcl]
              have e1 : hh - l = 0 := by omega
              have e2 : cap - l = 0 := by omega
              rw [e1, e2]; exact .osl0
            · rw [if_neg hcl]
              have hns : l * n = l * s := by
                rcases hl with rfl | hl
                · simp
                · cases es with
                  | nil => simp at hl
                  | cons e0 es' =>
                    simp only [List.head?_cons, Option.map_some, Option.some.injEq] at hl
                    have hob := hr.heap _ _ (look_mem hes)
                    cases hob with
                    | row hι' _ _ _ hsz _ _ =>
                      rw [hι] at hι'; cases hι'
                      rw [← hl, hsz e0 (.head _)]
              simp only [Option.map_some, Addr.add_mid]
              rw [hns, show off * s + l * s = (off + l) * s by rw [Nat.add_mul]]
              refine .osl hι hmk0 hb (by omega) ?_ (by omega)
              rwa [show off + l + (cap - l) = off + cap by omega]
        · cases hp
      · cases hp
    · cases hp
  | _ => simp [slcA] at hp

/-! ### What is appended -/
/-- The cells of a list of data of one size. -/
def CellsOf (w : World) (R : Nat → Prop) (n : Nat) (ys : List D) (news : List Value) : Prop :=
  news.length = ys.length * n ∧ ∀ (i : Nat) (e : D), ys[i]? = some e → ∀ (j : Nat) (c : D), e.cells[j]? = some c → c.cell = true ∧ ∃ q, news[i * n + j]? = some q ∧ Rd w R (.v c q)

theorem elems_cells {n b off : Nat} {ys : List D} (hn : 0 < n) (hz : ∀ e ∈ ys, e.size = n) (h : ∀ (i : Nat) (e : D), ys[i]? = some e → Rd w R (.el e b (off + i * n))) :
    ∃ news, CellsOf w R n ys news ∧ w.rangeAt b off news := by
  obtain ⟨qs, hl, hr, hq⟩ := choose_cells (w := w) (b := b) (off := off) (n := ys.length * n) (Q := fun j q => ∀ e c, ys[j / n]? = some e → e.cells[j % n]? = some c → c.cell = true ∧ Rd w R (.v c q)) fun j hj => by
    have h1 : j / n < ys.length := by rw [Nat.div_lt_iff_lt_mul hn]; exact hj
    have he : ys[j / n]? = some ys[j / n] := List.getElem?_eq_getElem h1
    have h2 : j % n < (ys[j / n]).cells.length := by
      have := hz _ (List.getElem_mem h1); unfold D.size at this; rw [this]; exact Nat.mod_lt _ hn
    have hc : (ys[j / n]).cells[j % n]? = some (ys[j / n]).cells[j % n] := List.getElem?_eq_getElem h2
    obtain ⟨k1, q, k2, k3⟩ := (h _ _ he).v_of_cells _ _ hc
    refine ⟨q, ?_, fun e c h3 h4 => by rw [he] at h3; cases h3; rw [hc] at h4; cases h4; exact ⟨k1, k3⟩⟩
    rw [← k2]; congr 2
    have := Nat.div_add_mod j n
    rw [Nat.mul_comm] at this; omega
  refine ⟨qs, ⟨hl, fun i e hi j c hc => ?_⟩, hr⟩
  have hi' : i < ys.length := (List.getElem?_eq_some_iff.1 hi).1
  have hj' : j < n := by have := (List.getElem?_eq_some_iff.1 hc).1; have h2 := hz e (List.mem_of_getElem? hi); unfold D.size at h2; omega
  have hlt : i * n + j < qs.length := by
    rw [hl]
    have : (i + 1) * n ≤ ys.length * n := Nat.mul_le_mul_right _ hi'
    rw [Nat.succ_mul] at this; omega
  have hd : (i * n + j) / n = i := by rw [Nat.mul_comm, Nat.mul_add_div hn, Nat.div_eq_of_lt hj']; rfl
  have hm : (i * n + j) % n = j := by rw [Nat.mul_comm, Nat.mul_add_mod, Nat.mod_eq_of_lt hj']
  have hx := List.getElem?_eq_getElem hlt
  obtain ⟨k1, k2⟩ := hq _ _ hx e c (by rw [hd]; exact hi) (by rw [hm]; exact hc)
  exact ⟨k1, _, hx, k2⟩

theorem CellsOf.one {n : Nat} {ys : List D} {news : List Value} (h : CellsOf w R n ys news) (hn : 0 < n) (hz : ∀ e ∈ ys, e.size = n) : ∀ u ∈ news, u.oneCell' = true := by
  intro u hu
  obtain ⟨j, hj⟩ := List.getElem?_of_mem hu
  have hlt := (List.getElem?_eq_some_iff.1 hj).1
  rw [h.1] at hlt
  have h1 : j / n < ys.length := by rw [Nat.div_lt_iff_lt_mul hn]; exact hlt
  have he : ys[j / n]? = some ys[j / n] := List.getElem?_eq_getElem h1
  have h2 : j % n < (ys[j / n]).cells.length := by
    have := hz _ (List.getElem_mem h1); unfold D.size at this; rw [this]; exact Nat.mod_lt _ hn
  obtain ⟨k1, q, k2, k3⟩ := h.2 _ _ he _ _ (List.getElem?_eq_getElem h2)
  have hjj : j / n * n + j % n = j := by rw [Nat.mul_comm]; exact Nat.div_add_mod j n
  rw [hjj, hj] at k2
  cases k2
  exact one_of_va (mk := fun _ => none) (ι := fun _ => none) (.d k3) k1

theorem allD_get {xs : List AV} {ds : List D} (h : allD xs = some ds) {i : Nat} {d : D} (hi : ds[i]? = some d) : xs[i]? = some (.d d) := by
  rw [allD_spec h, List.getElem?_map, hi]; rfl

theorem srcD_ok {n : Nat} {tx e' : TypeId} {y : AV} {u : Value} {ys : List D} (hr : Rel C S a w ι R) (h : VA w R ι (mark S.heap) y u) (hs : srcD S.heap y = some ys) (hn : 0 < n) (hz : ∀ e ∈ ys, e.size = n)
    (hk : P.underlying tx = some (.slice e')) : ∃ news, Src P n tx u ys.length news w ∧ CellsOf w R n ys news := by
  have slice : ∀ (es : List D) (b off cap : Nat), u = .slice (some ⟨b, off, none⟩) es.length cap → (∀ e ∈ es, e.size = n) → (∀ (i : Nat) (e : D), es[i]? = some e → Rd w R (.el e b (off + i * n))) →
      ∃ news, Src P n tx u es.length news w ∧ CellsOf w R n es news := by
    rintro es b off cap rfl hz hh
    obtain ⟨news, h1, h2⟩ := elems_cells hn hz hh
    exact ⟨news, Src.ofSlice w hk _ _ _ _ h1.1 (fun j u hj => by rw [Addr.add_mid]; exact h2 j u hj) (h1.one hn hz), h1⟩
  have nothing : ∀ (ao : Option Addr) (cap : Nat), u = .slice ao 0 cap → ∃ news, Src P n tx u ([] : List D).length news w ∧ CellsOf w R n [] news := by
    rintro ao cap rfl
    have h0 : CellsOf w R n [] [] := ⟨by simp, fun i e hi => by simp at hi⟩
    cases ao with
    | none => exact ⟨[], Src.ofNil w hk cap, h0⟩
    | some b => exact ⟨[], Src.ofSlice w hk b 0 cap [] (by simp) (by simp) (by simp), h0⟩
  have data : ∀ (es : List D), Rd w R (.v (.sl es) u) → (∀ e ∈ es, e.size = n) → ∃ news, Src P n tx u es.length news w ∧ CellsOf w R n es news := by
    intro es hrd hz
    by_cases h0 : es = []
    · subst h0
      obtain ⟨ao, cap, rfl, _, _⟩ := hrd.sl_len
      exact nothing ao cap rfl
    · obtain ⟨b, off, s, cap, hu, hR, hs', hl, hc, hsz, hel⟩ := hrd.sl_inv h0
      obtain ⟨e0, he0⟩ : ∃ e, e ∈ es := List.exists_mem_of_ne_nil _ h0
      have hns : s = n := by rw [← hsz e0 he0]; exact hz e0 he0
      subst hns
      exact slice es b off cap hu hz hel
  cases y with
  | d x =>
    cases x with
    | sl es => simp only [srcD, slD, Option.some.injEq] at hs; subst hs; exact data es h.of_d hz
    | _ => simp [srcD, slD] at hs
  | nl b =>
    simp only [srcD, Option.some.injEq] at hs; subst hs
    cases h with
    | nl1 => exact nothing _ _ rfl
    | nl2 => exact nothing _ _ rfl
  | xsl es =>
    simp only [srcD, slD, Option.some.injEq] at hs; subst hs
    cases h with
    | xsl h => exact data es h hz
  | acc o es =>
    simp only [srcD, slD, Option.some.injEq] at hs; subst hs
    have go : ∀ (b off s cap : Nat), u = .slice (some ⟨b, off, none⟩) es.length cap → (∀ e ∈ es, e.size = s) → (∀ (i : Nat) (e : D), es[i]? = some e → Rd w R (.el e b (off + i * s))) → ∃ news, Src P n tx u es.length news w ∧ CellsOf w R n es news := by
      intro b off s cap hu hsz hh
      by_cases h0 : es = []
      · subst h0; exact nothing _ cap hu
      · obtain ⟨e0, he0⟩ : ∃ e, e ∈ es := List.exists_mem_of_ne_nil _ h0
        have hns : s = n := by rw [← hsz e0 he0]; exact hz e0 he0
        subst hns
        exact slice es b off cap hu hz hh
    cases h with
    | accR hR hs hL hl hsz hh hm => exact go _ _ _ _ rfl hsz hh
    | accC hι hmk hm hL hl hsz hb hc hh => exact go _ 0 _ _ rfl hsz fun i e hi => by rw [Nat.zero_add]; exact hh i e hi
    | acc0 => exact nothing _ 0 rfl
  | osl o off len =>
    simp only [srcD] at hs
    split at hs
    · rename_i es hes
      obtain ⟨ds, hd, hs⟩ := Option.bind_eq_some_iff.1 hs
      split at hs
      · rename_i hlen; cases hs
        cases h with
        | osl0 =>
          have : ys = [] := List.length_eq_zero_iff.1 hlen
          subst this
          exact nothing _ 0 rfl
        | @osl _ _ _ cap b s c T hι hmk0 hb hl hc hL =>
          have hob := hr.heap _ _ (look_mem hes)
          cases hob with
          | row hι' hR hb' hs' hsz _ hcell =>
            rw [hι] at hι'; cases hι'
            rw [hb] at hb'; cases hb'
            by_cases h0 : ys = []
            · subst h0; simp at hlen; subst hlen; exact nothing _ cap rfl
            · have hget : ∀ (i : Nat) (d : D), ys[i]? = some d → es[off + i]? = some (.d d) := fun i d hi => by
                have h1 := allD_get hd hi
                have hlt : i < len := by rw [← hlen]; exact (List.getElem?_eq_some_iff.1 hi).1
                rw [List.getElem?_take_of_lt hlt, List.getElem?_drop] at h1; exact h1
              obtain ⟨e0, he0⟩ : ∃ e, e ∈ ys := List.exists_mem_of_ne_nil _ h0
              obtain ⟨i0, hi0⟩ := List.getElem?_of_mem he0
              have hns : s = n := by
                have h1 := hsz _ (List.mem_of_getElem? (hget i0 e0 hi0))
                have h2 := hz e0 he0
                simp only [AV.size] at h1; omega
              subst hns
              refine slice ys b (off * s) cap (by rw [hlen]) hz fun i d hi => ?_
              have hd' := hget i d hi
              have htup : ∀ vs, d ≠ .tup vs := fun vs e => by
                subst e
                have := (hcell _ _ hd' 0 (.d (.tup vs)) rfl).1
                simp [AV.cell, D.cell] at this
              refine Rd.el_of_cells htup fun j c' hj => ?_
              obtain ⟨k1, q, k2, k3⟩ := hcell _ _ hd' j (.d c') (by simp [AV.cells, hj])
              refine ⟨k1, q, ?_, k3.of_d⟩
              rw [cell_of hb, ← k2]
              congr 1
              rw [Nat.add_mul]
      · cases hs
    · cases hs
  | _ => simp [srcD, slD] at hs

end Go.Sim
