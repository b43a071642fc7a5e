/-
  Regions that draw their order are sound.
-/
import Derived.Test.YtlphhhmicdjljaaXG
namespace Go.Sim
set_option linter.unusedSimpArgs false
set_option linter.unusedVariables false
open Go (World Value Addr TypeId Act)

variable {P : Program} {C : Ctx} {F : Sem1}

theorem Gd_none {x : AOper} {S : St} (h : x.guard = none) : Gd x S = some true := by simp [Gd, h]
theorem Gd_some {x : AOper} {S : St} {t : Nat} {b c : Bool} (h : x.guard = some (t, b)) (hl : look t S.env = some (.d (.bool c))) : Gd x S = some (c == b) := by simp [Gd, h, hl]
theorem Gd_skip {x : AOper} {S : St} {t : Nat} {b : Bool} (h : x.guard = some (t, b)) (hl : look t S.env = some (.d (.tup []))) : Gd x S = some false := by simp [Gd, h, hl]

def clashless (fr : List Nat) (acc : List (List Nat × List Nat)) (p : List Nat × List Nat) : Bool := fr.all fun k => match acc[k]? with | some q => indep q p | none => false

/-- Each operation's objects are apart from those of the earlier ones that it does not wait for. -/
def Clash (fr : List (List Nat)) (acc ps : List (List Nat × List Nat)) : Prop :=
  ∀ j p, ps[j]? = some p → clashless ((fr[j]?).getD []) (acc ++ ps.take j) p = true

def stepS (F : Sem1) (x : AOper) (S : St) : Option St := (step F S.env S.heap (x.dst.getD 0) x.op).map fun p => St.put ⟨S.env, p.2⟩ x.dst p.1

def drawTake (F : Sem1) (x : AOper) (fr : List (List Nat)) (acc : List (List Nat × List Nat)) (S : St) : Option St :=
  if clashless (fr.headD []) acc (feet x S) = true then stepS F x S else none
def drawSkip (x : AOper) (fr : List (List Nat)) (acc : List (List Nat × List Nat)) (S : St) : Option St :=
  if clashless (fr.headD []) acc ([], []) = true then some (S.put x.dst (.d (.tup []))) else none

/-- A region that draws its order, in the order of the text. -/
def execDraw (F : Sem1) : List AOper → List (List Nat) → List (List Nat × List Nat) → St → Option St
  | [], _, _, S => some S
  | x :: l, fr, acc, S =>
    match x.guard with
    | none => (drawTake F x fr acc S).bind (execDraw F l fr.tail (acc ++ [feet x S]))
    | some (t, b) =>
      match look t S.env with
      | some (.d (.bool c)) => if c = b then (drawTake F x fr acc S).bind (execDraw F l fr.tail (acc ++ [feet x S])) else (drawSkip x fr acc S).bind (execDraw F l fr.tail (acc ++ [([], [])]))
      | some (.d (.tup [])) => (drawSkip x fr acc S).bind (execDraw F l fr.tail (acc ++ [([], [])]))
      | _ => none

def freshFor (l : List AOper) (S : St) : Bool := l.all fun x => x.newNames.all fun n => !refsEnv n S.env && !refsHeap n S.heap
def drawF (F : Sem1) (l : List AOper) (fr : List (List Nat)) (S : St) : Option St :=
  if (nodupK S.env && nodupK S.heap && freshFor l S) = true then execDraw F l fr [] S else none

theorem stepS_ap (hF : FOK P F) {x : AOper} {S S' : St} (hcl : x.op.cleanB = true) (h : stepS F x S = some S') : ∃ v δ, LocalW F x S v δ (feet x S).1 (feet x S).2 ∧ S' = ap x S v δ := by
  obtain ⟨⟨v, H'⟩, h1, h2⟩ := Option.map_eq_some_iff.1 h
  obtain ⟨δ, h3, h4⟩ := step_local hF hcl h1
  subst h2
  subst h4
  exact ⟨v, δ, h3, rfl⟩

theorem execDraw_lex (hF : FOK P F) : ∀ (l : List AOper) (fr : List (List Nat)) (acc : List (List Nat × List Nat)) (S S' : St), (∀ x ∈ l, x.op.cleanB = true) → execDraw F l fr acc S = some S' → ∃ ps, Lex F l ps S S' ∧ ps.length = l.length ∧ Clash fr acc ps := by
  intro l
  induction l with
  | nil => intro fr acc S S' _ h; cases h; exact ⟨[], .nil, rfl, fun j p hp => by simp at hp⟩
  | cons x l ih =>
    intro fr acc S S' hc h
    have step : ∀ (p : List Nat × List Nat) (v : AV) (δ : Heap), Y F x S v δ p → clashless (fr.headD []) acc p = true → execDraw F l fr.tail (acc ++ [p]) (ap x S v δ) = some S' → ∃ ps, Lex F (x :: l) ps S S' ∧ ps.length = (x :: l).length ∧ Clash fr acc ps := by
      intro p v δ hy hcl hg
      obtain ⟨ps, h1, h3, h4⟩ := ih _ _ _ _ (fun y hy => hc y (.tail _ hy)) hg
      refine ⟨p :: ps, .cons hy h1, by simp [h3], fun j q hq => ?_⟩
      cases j with
      | zero =>
        simp at hq; subst hq
        simp only [List.take_zero, List.append_nil]
        cases fr <;> simpa using hcl
      | succ j =>
        have := h4 j q (by simpa using hq)
        rw [List.append_assoc] at this
        cases fr with
        | nil => simpa using this
        | cons f fr => simpa using this
    have run : ((drawTake F x fr acc S).bind (execDraw F l fr.tail (acc ++ [feet x S]))) = some S' → Gd x S = some true → ∃ ps, Lex F (x :: l) ps S S' ∧ ps.length = (x :: l).length ∧ Clash fr acc ps := by
      intro h hgd
      obtain ⟨S1, h1, h2⟩ := Option.bind_eq_some_iff.1 h
      unfold drawTake at h1
      split at h1
      · rename_i hcl
        obtain ⟨v, δ, h3, rfl⟩ := stepS_ap hF (hc x (.head _)) h1
        exact step (feet x S) v δ (.inl ⟨hgd, h3⟩) hcl h2
      · cases h1
    simp only [execDraw] at h
    split at h
    · rename_i hg
      exact run h (Gd_none hg)
    · rename_i t b hg
      split at h
      · rename_i c hl
        split at h
        · rename_i hcb
          exact run h (by rw [Gd_some hg hl]; simpa using hcb)
        · rename_i hcb
          obtain ⟨S1, h1, h2⟩ := Option.bind_eq_some_iff.1 h
          unfold drawSkip at h1
          split at h1
          · rename_i hcl
            cases h1
            refine step ([], []) (.d (.tup [])) [] (.inr ⟨by rw [Gd_some hg hl]; simpa using hcb, rfl, rfl⟩) hcl ?_
            exact h2
          · cases h1
      · rename_i hl
        obtain ⟨S1, h1, h2⟩ := Option.bind_eq_some_iff.1 h
        unfold drawSkip at h1
        split at h1
        · rename_i hcl
          cases h1
          refine step ([], []) (.d (.tup [])) [] (.inr ⟨Gd_skip hg hl, rfl, rfl⟩) hcl ?_
          exact h2
        · cases h1
      · cases h

theorem nodupK_without {α : Type} {k : Nat} {l : List (Nat × α)} (h : nodupK l = true) : nodupK (without k l) = true := by
  induction l with
  | nil => rfl
  | cons p l ih =>
    obtain ⟨j, x⟩ := p
    simp only [nodupK, Bool.and_eq_true, Bool.not_eq_true'] at h
    simp only [without]
    split
    · exact ih h.2
    · simp only [nodupK, Bool.and_eq_true, Bool.not_eq_true', ih h.2, and_true]
      rw [List.any_eq_false] at *
      exact fun q hq => h.1 q (mem_without.1 hq).1
theorem nodupK_setAt {α : Type} {k : Nat} {x : α} {l : List (Nat × α)} (h : nodupK l = true) : nodupK (setAt k x l) = true := by
  simp only [setAt, nodupK, Bool.and_eq_true, Bool.not_eq_true', nodupK_without h, and_true]
  rw [List.any_eq_false]
  intro q hq
  have := (mem_without.1 hq).2
  simpa using this
theorem nodupK_look {α : Type} {l : List (Nat × α)} (h : nodupK l = true) {k : Nat} {x : α} (hm : (k, x) ∈ l) : look k l = some x := by
  induction l with
  | nil => cases hm
  | cons p l ih =>
    obtain ⟨j, y⟩ := p
    simp only [nodupK, Bool.and_eq_true, Bool.not_eq_true'] at h
    simp only [look]
    cases hm with
    | head => simp
    | tail _ hm =>
      rw [if_neg, ih h.2 hm]
      rintro rfl
      have := List.any_eq_false.1 h.1 _ hm
      simp at this
theorem nodupK_putsH {δ H : Heap} (h : nodupK H = true) : nodupK (putsH δ H) = true := by
  induction δ with
  | nil => exact h
  | cons p δ ih => exact nodupK_setAt ih

theorem Lex.nodup {ps : List (List Nat × List Nat)} {S E : St} {l : List AOper} (h : Lex F l ps S E) : nodupK S.env = true → nodupK S.heap = true → nodupK E.env = true ∧ nodupK E.heap = true := by
  induction h with
  | nil => exact fun h1 h2 => ⟨h1, h2⟩
  | @cons x _ _ _ S _ v δ _ _ ih =>
    refine fun h1 h2 => ih ?_ ?_
    · unfold ap St.put
      split
      · exact h1
      · exact nodupK_setAt h1
    · rw [heap_ap]; exact nodupK_putsH h2

theorem Rel.same {S E : St} {a : Act} {w : World} {ι : Inj} {R : Nat → Prop} (h : Rel C S a w ι R) (hs : Same S E) (h1 : nodupK E.env = true) (h2 : nodupK E.heap = true) : Rel C E a w ι R := by
  have hm : mark E.heap = mark S.heap := funext fun o => by unfold mark; rw [hs.2 o]
  refine { h with env := fun t x hx => ?_, heap := fun o ob ho => ?_ }
  · rw [hm]; exact h.env t x (look_mem ((hs.1 t).trans (nodupK_look h1 hx)))
  · rw [hm]; exact h.heap o ob (look_mem ((hs.2 o).trans (nodupK_look h2 ho)))

theorem fresh_ap {x : AOper} {S : St} {v : AV} {δ : Heap} {o : Nat} (h : Fresh o S) (hv : v.refs o = false) (hh : refsHeap o (putsH δ S.heap) = false) : Fresh o (ap x S v δ) := by
  refine ⟨?_, by rw [heap_ap]; exact hh⟩
  unfold ap St.put
  split
  · exact h.1
  · rename_i d _
    cases hr : refsEnv o (setAt d v S.env) with
    | false => rfl
    | true =>
      exfalso
      have : refsEnv o (without d S.env) = false := by
        have h1 := h.1
        revert h1
        generalize S.env = l
        induction l with
        | nil => intro; rfl
        | cons p l ih =>
          obtain ⟨j, y⟩ := p
          intro h1
          simp only [refsEnv, Bool.or_eq_false_iff] at h1
          simp only [without]
          split
          · exact ih h1.2
          · simp [refsEnv, h1.1, ih h1.2]
      simp [setAt, refsEnv, hv, this] at hr

/-- Soundness, whatever order is picked. -/
theorem DAny.sound (hF : FOK P F) {hs : Hints} {Q : Exit → Act → World → Prop} {ops : Array Oper} {l : List AOper} {pl : Nat → List Nat × List Nat} {E : St} (hl : ops.toList.mapM (compOper P hs ops) = some l) (hd : ∀ o ∈ ops.toList, ∀ d, o.dst = some d → d < C.n)
    (hnews : ∀ (i : Nat) (x : AOper), l[i]? = some x → ∀ n ∈ x.newNames, ∀ (j : Nat) (y : AOper), l[j]? = some y → j ≠ i → n ∉ y.newNames)
    (hQ : ∀ S a w ι R, Same S E → Rel C S a w ι R → Q .normal a w) :
    ∀ (n : Nat) (listed : Array Bool) (S : St) (a : Act) (w : World) (ι : Inj) (R : Nat → Prop), DAny F ops l pl E n listed S → Rel C S a w ι R →
      (∀ (i : Nat) (x : AOper), l[i]? = some x → listed.getD i true = false → ∀ n ∈ x.newNames, Fresh n S) → wpAny P .any ops Q n listed a w := by
  intro n
  induction n with
  | zero => intro listed S a w ι R h hr _; exact ⟨h.1, hQ _ _ _ _ _ h.2 hr⟩
  | succ n ih =>
    intro listed S a w ι R h hr hf
    refine ⟨fun h0 => hQ _ _ _ _ _ (h.1 h0) hr, fun i hi => ?_⟩
    obtain ⟨x, v, δ, hx, hy, hn⟩ := h.2 i hi
    obtain ⟨hun, o, ho, _⟩ := mem_ready.1 hi
    have hmem : o ∈ ops.toList := by
      have := (Array.getElem?_eq_some_iff.1 ho)
      obtain ⟨h1, rfl⟩ := this
      simp
    have hcx : compOper P hs ops o = some x := (mapM_get hl).2 i o x (by simpa using ho) hx
    unfold wpOp
    simp only [ho]
    -- the other new objects' names stay fresh
    have hothers : ∀ (m : Nat) (y : AOper), l[m]? = some y → (listed.setIfInBounds i true).getD m true = false → ∀ n ∈ y.newNames, Fresh n S ∧ n ∉ x.newNames := by
      intro m y hm hum n hny
      have hmi : m ≠ i := by
        rintro rfl
        have hlt : m < ops.size := (Array.getElem?_eq_some_iff.1 ho).1
        rw [Array.getD_eq_getD_getElem?, Array.getElem?_setIfInBounds_self] at hum
        rw [Array.getD_eq_getD_getElem?] at hun
        split at hum
        · simp at hum
        · simp at hum
      rw [getD_set_ne true (Ne.symm hmi)] at hum
      exact ⟨hf m y hm hum n hny, hnews m y hm n hny i x hx (Ne.symm hmi)⟩
    rcases hy with ⟨hg, hloc⟩ | ⟨hg, rfl, rfl⟩
    · obtain ⟨hop, hno⟩ := hloc.same S ⟨fun _ _ => rfl, fun _ _ => rfl, fun _ _ => rfl⟩ (hf i x hx hun)
      have hnext : ∀ S' a' w' ι' R', S' = ap x S v δ → Rel C S' a' w' ι' R' → wpAny P .any ops Q n (listed.setIfInBounds i true) a' w' := by
        rintro S' a' w' ι' R' rfl hr'
        refine ih _ _ _ _ _ _ hn hr' fun m y hm hum n hny => ?_
        obtain ⟨h2, h3⟩ := hothers m y hm hum n hny
        obtain ⟨h4, h5⟩ := hno _ h2 h3
        exact fresh_ap h2 h4 h5
      unfold compOper at hcx
      split at hcx
      · cases hcx
      · rename_i op hop'
        split at hcx
        · rename_i hgd
          cases hcx
          have hw : Region.wanted o (yielded ops a.tmps) = true := by simp [Region.wanted, hgd]
          rw [if_pos hw]
          exact .inl (step_ok hF hop' (hd _ hmem) hop hr fun a' w' ι' R' hr' => hnext _ a' w' ι' R' rfl hr')
        · rename_i j b hgd
          obtain ⟨t, ht, hcx⟩ := Option.map_eq_some_iff.1 hcx
          cases hcx
          unfold Gd at hg
          simp only at hg
          split at hg
          · rename_i c hc
            have hyl : yielded ops a.tmps j = some c := by
              obtain ⟨u, h1, h2⟩ := hr.env t _ (look_mem hc)
              have := h2.bool_inv
              subst this
              have hlt : t < 1000000 := by
                obtain ⟨o', ho', ht'⟩ := Option.bind_eq_some_iff.1 ht
                exact Nat.lt_of_lt_of_le (hd o' (by have := (Array.getElem?_eq_some_iff.1 ho'); obtain ⟨q, rfl⟩ := this; simp) t ht') C.le
              simp only [slotV, if_pos hlt] at h1
              simp [yielded, ht, h1]
            have hw : Region.wanted o (yielded ops a.tmps) = (c == b) := by simp [Region.wanted, hgd, hyl]
            have : (c == b) = true := by simpa using hg
            rw [if_pos (by rw [hw]; exact this)]
            exact .inl (step_ok hF hop' (hd _ hmem) hop hr fun a' w' ι' R' hr' => hnext _ a' w' ι' R' rfl hr')
          · cases hg
          · cases hg
    · have hnext : ∀ S' a' w' ι' R', S' = ap x S (.d (.tup [])) [] → Rel C S' a' w' ι' R' → wpAny P .any ops Q n (listed.setIfInBounds i true) a' w' := by
        rintro S' a' w' ι' R' rfl hr'
        refine ih _ _ _ _ _ _ hn hr' fun m y hm hum n hny => ?_
        obtain ⟨h2, h3⟩ := hothers m y hm hum n hny
        exact fresh_ap h2 rfl h2.2
      unfold compOper at hcx
      split at hcx
      · cases hcx
      · rename_i op hop'
        split at hcx
        · cases hcx
          simp [Gd] at hg
        · rename_i j b hgd
          obtain ⟨t, ht, hcx⟩ := Option.map_eq_some_iff.1 hcx
          cases hcx
          unfold Gd at hg
          simp only at hg
          split at hg
          · rename_i c hc
            have hyl : yielded ops a.tmps j = some c := by
              obtain ⟨u, h1, h2⟩ := hr.env t _ (look_mem hc)
              have := h2.bool_inv
              subst this
              have hlt : t < 1000000 := by
                obtain ⟨o', ho', ht'⟩ := Option.bind_eq_some_iff.1 ht
                exact Nat.lt_of_lt_of_le (hd o' (by have := (Array.getElem?_eq_some_iff.1 ho'); obtain ⟨q, rfl⟩ := this; simp) t ht') C.le
              simp only [slotV, if_pos hlt] at h1
              simp [yielded, ht, h1]
            have hw : Region.wanted o (yielded ops a.tmps) = (c == b) := by simp [Region.wanted, hgd, hyl]
            have : (c == b) = false := by simpa using hg
            rw [if_neg (by rw [hw, this]; simp)]
            exact hnext _ _ _ _ _ rfl (hr.putO undef_va (hd _ hmem))
          · rename_i hc
            have hyl : yielded ops a.tmps j = none := by
              obtain ⟨u, h1, h2⟩ := hr.env t _ (look_mem hc)
              have := h2.tup0_inv
              subst this
              have hlt : t < 1000000 := by
                obtain ⟨o', ho', ht'⟩ := Option.bind_eq_some_iff.1 ht
                exact Nat.lt_of_lt_of_le (hd o' (by have := (Array.getElem?_eq_some_iff.1 ho'); obtain ⟨q, rfl⟩ := this; simp) t ht') C.le
              simp only [slotV, if_pos hlt] at h1
              simp [yielded, ht, h1]
            have hw : Region.wanted o (yielded ops a.tmps) = false := by simp [Region.wanted, hgd, hyl]
            rw [if_neg (by rw [hw]; simp)]
            exact hnext _ _ _ _ _ rfl (hr.putO undef_va (hd _ hmem))
          · cases hg


theorem Rel.drawn {S : St} {a : Act} {w : World} {ι : Inj} {R : Nat → Prop} (h : Rel C S a w ι R) (n : Nat) : Rel C S a { w with drawn := n } ι R := by
  have hm : ∀ {x : AV} {u : Value}, VA w R ι (mark S.heap) x u → VA { w with drawn := n } R ι (mark S.heap) x u := fun hv =>
    hv.mono (fun _ h => h) (fun _ _ => rfl) fun o _ => Step.same fun _ _ _ => rfl
  refine { h with os := h.os, tape := h.tape, output := h.output, env := fun t x hx => ?_, heap := fun o ob ho => ?_ }
  · obtain ⟨u, h1, h2⟩ := h.env t x hx
    exact ⟨u, h1, hm h2⟩
  · cases h.heap o ob ho with
    | row h1 h2 h3 h4 h5 h6 h7 => exact .row h1 h2 h3 h4 h5 h6 fun i e he j x hx => let ⟨k1, q, k2, k3⟩ := h7 i e he j x hx; ⟨k1, q, k2, hm k3⟩
    | acc h1 h2 h3 h4 h5 h6 => exact .acc h1 h2 h3 h4 h5 h6
    | accN h1 => exact .accN h1
    | frz h => exact .frz h

theorem draw_ok (hF : FOK P F) {hs : Hints} {ops : Array Oper} {l : List AOper} {S' : St} {Q : Exit → Act → World → Prop} {S : St} {a : Act} {w : World} {ι : Inj} {R : Nat → Prop} {id : Nat} (hl : ops.toList.mapM (compOper P hs ops) = some l)
    (hok : (P.follows .mixedOrders && drawOk ops l) = true) (hd : ∀ o ∈ ops.toList, ∀ d, o.dst = some d → d < C.n) (hQ : ∀ a w ι R, Rel C S' a w ι R → Q .normal a w)
    (h : drawF F l ((List.range ops.size).map (freesOf ops)) S = some S') (hr : Rel C S a w ι R) : (Code.region id ops true).wp P Q a w := by
  unfold drawF at h
  split at h
  rotate_left
  · cases h
  rename_i hpre
  simp only [Bool.and_eq_true] at hpre
  obtain ⟨⟨h1, h2⟩, h3⟩ := hpre
  have h4 := h
  simp only [Bool.and_eq_true] at hok
  obtain ⟨hm, hdk⟩ := hok
  have hlen : l.length = ops.size := by have := (mapM_get hl).1; simpa using this
  have hx : ∀ j, j < ops.size → ∃ o x, ops[j]? = some o ∧ l[j]? = some x ∧ (∀ e ∈ o.after, Region.binds .any e = true → e.on < j) ∧ (∀ k ∈ freesOf ops j, ∃ y, l[k]? = some y ∧ apartA y x = true) ∧ x.op.cleanB = true ∧
      apartN l ops.size j x = true := by
    intro j hj
    have := List.all_eq_true.1 hdk j (by simpa using hj)
    have ho : ops[j]? = some ops[j] := Array.getElem?_eq_getElem hj
    have hy : l[j]? = some (l[j]'(by omega)) := List.getElem?_eq_getElem _
    refine ⟨_, _, ho, hy, ?_⟩
    rw [ho, hy] at this
    simp only [Bool.and_eq_true] at this
    obtain ⟨⟨⟨c1, c2⟩, c3⟩, c4⟩ := this
    refine ⟨fun e he hb => ?_, fun k hk => ?_, c3, c4⟩
    · have := List.all_eq_true.1 c1 e (by simpa using he)
      simpa [hb] using this
    · have := List.all_eq_true.1 c2 k hk
      split at this
      · rename_i y hy'; exact ⟨y, hy', this⟩
      · cases this
  have hclean : ∀ x ∈ l, x.op.cleanB = true := fun x hmx => by
    obtain ⟨j, hj⟩ := List.getElem?_of_mem hmx
    have hlt := (List.getElem?_eq_some_iff.1 hj).1
    obtain ⟨o, x', _, h6, _, _, h7, _⟩ := hx j (by omega)
    rw [hj] at h6; cases h6; exact h7
  obtain ⟨ps, hlex, hps, hclash⟩ := execDraw_lex hF l _ [] S S' hclean h4
  let pl : Nat → List Nat × List Nat := fun i => (ps[i]?).getD ([], [])
  have hE := hlex.nodup h1 h2
  refine wp_region_any hm (DAny.sound (C := C) (l := l) (pl := pl) (E := S') hF hl hd ?_ (fun S1 a' w' ι' R' hs hr' => hQ _ _ _ _ (hr'.same hs hE.1 hE.2)) _ _ _ _ _ _ _ ?_ (hr.drawn _) ?_)
  · intro i x hi n hn j y hj hji hny
    have hlt := (List.getElem?_eq_some_iff.1 hi).1
    have hlt' := (List.getElem?_eq_some_iff.1 hj).1
    obtain ⟨o, x', _, h6, _, _, _, h8⟩ := hx i (by omega)
    rw [hi] at h6; cases h6
    obtain ⟨o', y', _, h6', _, _, _, h8'⟩ := hx j (by omega)
    rw [hj] at h6'; cases h6'
    have ne1 : x.newNames.isEmpty = false := by cases hq : x.newNames with | nil => rw [hq] at hn; cases hn | cons => rfl
    have ne2 : y.newNames.isEmpty = false := by cases hq : y.newNames with | nil => rw [hq] at hny; cases hny | cons => rfl
    simp only [apartN, ne1, ne2, Bool.false_or] at h8 h8'
    split at h8
    · rename_i d hd1
      split at h8'
      · rename_i d' hd2
        simp only [Bool.and_eq_true, decide_eq_true_eq] at h8 h8'
        have h9 := List.all_eq_true.1 h8.2 j (by simp; omega)
        rw [hj] at h9
        simp only [ne2, Bool.false_or, Bool.or_eq_true, beq_iff_eq, hji, false_or, hd2, Bool.not_eq_true', beq_eq_false_iff_ne, ne_eq, Option.some.injEq] at h9
        have sub : ∀ (z : AOper) (e m : Nat), z.dst = some e → m ∈ z.newNames → m = e ∨ m = e + 10000 ∨ m = e + 20000 ∨ m = e + 30000 := by
          intro z e m he hm
          unfold AOper.newNames at hm
          rw [he] at hm
          simp only [Option.getD_some] at hm
          split at hm
          · simpa [fr4] using hm
          · simpa [fr4] using hm
          · split at hm
            · simp at hm; exact .inl hm
            · cases hm
        have k1 := sub x d n hd1 hn
        have k2 := sub y d' n hd2 hny
        omega
      · cases h8'
    · cases h8
  · rw [← hlen]
    refine lex_any (F := F) ?_ hlen.symm ?_ (fun j o ho e he hb => ?_) l ps 0 _ S (by simp) (fun j hj => ?_) (by simp) (by simp) (by omega) (fun i _ hi => ?_) hlex
    · intro k listed hk hls hun
      obtain ⟨o, x, ho, _, h6, _⟩ := hx k (by omega)
      exact mem_ready.2 ⟨hun, o, ho, fun e he hb => hls _ (h6 e he hb)⟩
    · intro k j o x y hkj ho hk hj hno
      have hjl := (Array.getElem?_eq_some_iff.1 ho).1
      obtain ⟨o', y', ho', hy', _, h7, _⟩ := hx j hjl
      rw [ho] at ho'; cases ho'
      rw [hj] at hy'; cases hy'
      have hfree : k ∈ freesOf ops j := mem_freesOf hkj hno
      obtain ⟨x', hx', hap⟩ := h7 k hfree
      rw [hk] at hx'; cases hx'
      refine ⟨hap, ?_⟩
      have hpj : ps[j]? = some (pl j) := by
        have : j < ps.length := by omega
        simp [pl, this]
      have hpk : ps[k]? = some (pl k) := by
        have : k < ps.length := by omega
        simp [pl, this]
      have := hclash j (pl j) hpj
      have hfrj : (((List.range ops.size).map (freesOf ops))[j]?).getD [] = freesOf ops j := by simp [hjl]
      rw [hfrj, List.nil_append] at this
      have := List.all_eq_true.1 this k hfree
      rw [List.getElem?_take_of_lt hkj, hpk] at this
      exact this
    · obtain ⟨o', _, ho', _, h6, _⟩ := hx j (Array.getElem?_eq_some_iff.1 ho).1
      rw [ho] at ho'; cases ho'
      exact h6 e he hb
    · simp [pl, show j < ps.length by omega]
    · rw [Array.getElem?_replicate, if_pos (by omega)]
  · intro i x hi _ n hn
    have := List.all_eq_true.1 (List.all_eq_true.1 h3 x (List.mem_of_getElem? hi)) n hn
    simpa [Fresh] using this

end Go.Sim
