/-
  Regions that draw their order are sound.
  Code: what it does to abstract states, and that the model does the same.
-/
import Derived.Test.YtadnfmkdmknmhaaB7d02a7a
import Derived.Deep.LoopGhost
set_option linter.unusedSimpArgs false
set_option linter.unusedVariables false
namespace Go.Sim
open Go (World Value Addr TypeId Act)
variable {P : Program} {C : Ctx} {F : Sem1}
theorem Gd_none {x : AOper} {S : St} (h : x.guard = none) : Gd x S = some true := by simp [Gd, h]
theorem Gd_some {x : AOper} {S : St} {t : Nat} {b c : Bool} (h : x.guard = some (t, b)) (hl : look t S.env = some (.d (.bool c))) : Gd x S = some (c == b) := by simp [Gd, h, hl]
theorem Gd_skip {x : AOper} {S : St} {t : Nat} {b : Bool} (h : x.guard = some (t, b)) (hl : look t S.env = some (.d (.tup []))) : Gd x S = some false := by simp [Gd, h, hl]
def clashless (fr : List Nat) (acc : List (List Nat × List Nat)) (p : List Nat × List Nat) : Bool := fr.all fun k => match acc[k]? with | some q => indep q p | none => false
def Clash (fr : List (List Nat)) (acc ps : List (List Nat × List Nat)) : Prop :=
  ∀ j p, ps[j]? = some p → clashless ((fr[j]?).getD []) (acc ++ ps.take j) p = true
def stepS (F : Sem1) (x : AOper) (S : St) : Option St := (step F S.env S.heap (x.dst.getD 0) x.op).map fun p => St.put ⟨S.env, p.2⟩ x.dst p.1
def drawTake (F : Sem1) (x : AOper) (fr : List (List Nat)) (acc : List (List Nat × List Nat)) (S : St) : Option St :=
  if clashless (fr.headD []) acc (feet x S) = true then stepS F x S else none
def drawSkip (x : AOper) (fr : List (List Nat)) (acc : List (List Nat × List Nat)) (S : St) : Option St :=
  if clashless (fr.headD []) acc ([], []) = true then some (S.put x.dst (.d (.tup []))) else none
def execDraw (F : Sem1) : List AOper → List (List Nat) → List (List Nat × List Nat) → St → Option St
  | [], _, _, S => some S
  | x :: l, fr, acc, S =>
    match x.guard with
    | none => (drawTake F x fr acc S).bind (execDraw F l fr.tail (acc ++ [feet x S]))
    | some (t, b) =>
      match look t S.env with
      | some (.d (.bool c)) => if c = b then (drawTake F x fr acc S).bind (execDraw F l fr.tail (acc ++ [feet x S])) else (drawSkip x fr acc S).bind (execDraw F l fr.tail (acc ++ [([], [])]))
      | some (.d (.tup [])) => (drawSkip x fr acc S).bind (execDraw F l fr.tail (acc ++ [([], [])]))
      | _ => none
def freshFor (l : List AOper) (S : St) : Bool := l.all fun x => x.newNames.all fun n => !refsEnv n S.env && !refsHeap n S.heap
def drawF (F : Sem1) (l : List AOper) (fr : List (List Nat)) (S : St) : Option St :=
  if (nodupK S.env && nodupK S.heap && freshFor l S) = true then execDraw F l fr [] S else none
theorem stepS_ap (hF : FOK P F) {x : AOper} {S S' : St} (hcl : x.op.cleanB = true) (h : stepS F x S = some S') : ∃ v δ, LocalW F x S v δ (feet x S).1 (feet x S).2 ∧ S' = ap x S v δ := by
  obtain ⟨⟨v, H'⟩, h1, h2⟩ := Option.map_eq_some_iff.1 h
  obtain ⟨δ, h3, h4⟩ := step_local hF hcl h1
  subst h2
  subst h4
  exact ⟨v, δ, h3, rfl⟩
theorem execDraw_lex (hF : FOK P F) : ∀ (l : List AOper) (fr : List (List Nat)) (acc : List (List Nat × List Nat)) (S S' : St), (∀ x ∈ l, x.op.cleanB = true) → execDraw F l fr acc S = some S' → ∃ ps, Lex F l ps S S' ∧ ps.length = l.length ∧ Clash fr acc ps := by
  intro l
  induction l with
  | nil => intro fr acc S S' _ h; cases h; exact ⟨[], .nil, rfl, fun j p hp => by simp at hp⟩
  | cons x l ih =>
    intro fr acc S S' hc h
    have step : ∀ (p : List Nat × List Nat) (v : AV) (δ : Heap), Y F x S v δ p → clashless (fr.headD []) acc p = true → execDraw F l fr.tail (acc ++ [p]) (ap x S v δ) = some S' → ∃ ps, Lex F (x :: l) ps S S' ∧ ps.length = (x :: l).length ∧ Clash fr acc ps := by
      intro p v δ hy hcl hg
      obtain ⟨ps, h1, h3, h4⟩ := ih _ _ _ _ (fun y hy => hc y (.tail _ hy)) hg
      refine ⟨p :: ps, .cons hy h1, by simp [h3], fun j q hq => ?_⟩
      cases j with
      | zero =>
        simp at hq; subst hq
        simp only [List.take_zero, List.append_nil]
        cases fr <;> simpa using hcl
      | succ j =>
        have := h4 j q (by simpa using hq)
        rw [List.append_assoc] at this
        cases fr with
        | nil => simpa using this
        | cons f fr => simpa using this
    have run : ((drawTake F x fr acc S).bind (execDraw F l fr.tail (acc ++ [feet x S]))) = some S' → Gd x S = some true → ∃ ps, Lex F (x :: l) ps S S' ∧ ps.length = (x :: l).length ∧ Clash fr acc ps := by
      intro h hgd
      obtain ⟨S1, h1, h2⟩ := Option.bind_eq_some_iff.1 h
      unfold drawTake at h1
      split at h1
      · rename_i hcl
        obtain ⟨v, δ, h3, rfl⟩ := stepS_ap hF (hc x (.head _)) h1
        exact step (feet x S) v δ (.inl ⟨hgd, h3⟩) hcl h2
      · cases h1
    simp only [execDraw] at h
    split at h
    · rename_i hg
      exact run h (Gd_none hg)
    · rename_i t b hg
      split at h
      · rename_i c hl
        split at h
        · rename_i hcb
          exact run h (by rw [Gd_some hg hl]; simpa using hcb)
        · rename_i hcb
          obtain ⟨S1, h1, h2⟩ := Option.bind_eq_some_iff.1 h
          unfold drawSkip at h1
          split at h1
          · rename_i hcl
            cases h1
            refine step ([], []) (.d (.tup [])) [] (.inr ⟨by rw [Gd_some hg hl]; simpa using hcb, rfl, rfl⟩) hcl ?_
            exact h2
          · cases h1
      · rename_i hl
        obtain ⟨S1, h1, h2⟩ := Option.bind_eq_some_iff.1 h
        unfold drawSkip at h1
        split at h1
        · rename_i hcl
          cases h1
          refine step ([], []) (.d (.tup [])) [] (.inr ⟨Gd_skip hg hl, rfl, rfl⟩) hcl ?_
          exact h2
        · cases h1
      · cases h
theorem nodupK_without {α : Type} {k : Nat} {l : List (Nat × α)} (h : nodupK l = true) : nodupK (without k l) = true := by
  induction l with
  | nil => rfl
  | cons p l ih =>
    obtain ⟨j, x⟩ := p
    simp only [nodupK, Bool.and_eq_true, Bool.not_eq_true'] at h
    simp only [without]
    split
    · exact ih h.2
    · simp only [nodupK, Bool.and_eq_true, Bool.not_eq_true', ih h.2, and_true]
      rw [List.any_eq_false] at *
      exact fun q hq => h.1 q (mem_without.1 hq).1
theorem nodupK_setAt {α : Type} {k : Nat} {x : α} {l : List (Nat × α)} (h : nodupK l = true) : nodupK (setAt k x l) = true := by
  simp only [setAt, nodupK, Bool.and_eq_true, Bool.not_eq_true', nodupK_without h, and_true]
  rw [List.any_eq_false]
  intro q hq
  have := (mem_without.1 hq).2
  simpa using this
theorem nodupK_look {α : Type} {l : List (Nat × α)} (h : nodupK l = true) {k : Nat} {x : α} (hm : (k, x) ∈ l) : look k l = some x := by
  induction l with
  | nil => cases hm
  | cons p l ih =>
    obtain ⟨j, y⟩ := p
    simp only [nodupK, Bool.and_eq_true, Bool.not_eq_true'] at h
    simp only [look]
    cases hm with
    | head => simp
    | tail _ hm =>
      rw [if_neg, ih h.2 hm]
      rintro rfl
      have := List.any_eq_false.1 h.1 _ hm
      simp at this
theorem nodupK_putsH {δ H : Heap} (h : nodupK H = true) : nodupK (putsH δ H) = true := by
  induction δ with
  | nil => exact h
  | cons p δ ih => exact nodupK_setAt ih
theorem Lex.nodup {ps : List (List Nat × List Nat)} {S E : St} {l : List AOper} (h : Lex F l ps S E) : nodupK S.env = true → nodupK S.heap = true → nodupK E.env = true ∧ nodupK E.heap = true := by
  induction h with
  | nil => exact fun h1 h2 => ⟨h1, h2⟩
  | @cons x _ _ _ S _ v δ _ _ ih =>
    refine fun h1 h2 => ih ?_ ?_
    · unfold ap St.put
      split
      · exact h1
      · exact nodupK_setAt h1
    · rw [heap_ap]; exact nodupK_putsH h2
theorem Rel.same {S E : St} {a : Act} {w : World} {ι : Inj} {R : Nat → Prop} (h : Rel C S a w ι R) (hs : Same S E) (h1 : nodupK E.env = true) (h2 : nodupK E.heap = true) : Rel C E a w ι R := by
  have hm : mark E.heap = mark S.heap := funext fun o => by unfold mark; rw [hs.2 o]
  refine { h with env := fun t x hx => ?_, heap := fun o ob ho => ?_ }
  · rw [hm]; exact h.env t x (look_mem ((hs.1 t).trans (nodupK_look h1 hx)))
  · rw [hm]; exact h.heap o ob (look_mem ((hs.2 o).trans (nodupK_look h2 ho)))
theorem fresh_ap {x : AOper} {S : St} {v : AV} {δ : Heap} {o : Nat} (h : Fresh o S) (hv : v.refs o = false) (hh : refsHeap o (putsH δ S.heap) = false) : Fresh o (ap x S v δ) := by
  refine ⟨?_, by rw [heap_ap]; exact hh⟩
  unfold ap St.put
  split
  · exact h.1
  · rename_i d _
    cases hr : refsEnv o (setAt d v S.env) with
    | false => rfl
    | true =>
      exfalso
      have : refsEnv o (without d S.env) = false := by
        have h1 := h.1
        revert h1
        generalize S.env = l
        induction l with
        | nil => intro; rfl
        | cons p l ih =>
          obtain ⟨j, y⟩ := p
          intro h1
          simp only [refsEnv, Bool.or_eq_false_iff] at h1
          simp only [without]
          split
          · exact ih h1.2
          · simp [refsEnv, h1.1, ih h1.2]
      simp [setAt, refsEnv, hv, this] at hr
theorem DAny.sound (hF : FOK P F) {hs : Hints} {Q : Exit → Act → World → Prop} {ops : Array Oper} {l : List AOper} {pl : Nat → List Nat × List Nat} {E : St} (hl : ops.toList.mapM (compOper P hs ops) = some l) (hd : ∀ o ∈ ops.toList, ∀ d, o.dst = some d → d < C.n)
    (hnews : ∀ (i : Nat) (x : AOper), l[i]? = some x → ∀ n ∈ x.newNames, ∀ (j : Nat) (y : AOper), l[j]? = some y → j ≠ i → n ∉ y.newNames)
    (hQ : ∀ S a w ι R, Same S E → Rel C S a w ι R → Q .normal a w) :
    ∀ (n : Nat) (listed : Array Bool) (S : St) (a : Act) (w : World) (ι : Inj) (R : Nat → Prop), DAny F ops l pl E n listed S → Rel C S a w ι R →
      (∀ (i : Nat) (x : AOper), l[i]? = some x → listed.getD i true = false → ∀ n ∈ x.newNames, Fresh n S) → wpAny P .any ops Q n listed a w := by
  intro n
  induction n with
  | zero => intro listed S a w ι R h hr _; exact ⟨h.1, hQ _ _ _ _ _ h.2 hr⟩
  | succ n ih =>
    intro listed S a w ι R h hr hf
    refine ⟨fun h0 => hQ _ _ _ _ _ (h.1 h0) hr, fun i hi => ?_⟩
    obtain ⟨x, v, δ, hx, hy, hn⟩ := h.2 i hi
    obtain ⟨hun, o, ho, _⟩ := mem_ready.1 hi
    have hmem : o ∈ ops.toList := by
      have := (Array.getElem?_eq_some_iff.1 ho)
      obtain ⟨h1, rfl⟩ := this
      simp
    have hcx : compOper P hs ops o = some x := (mapM_get hl).2 i o x (by simpa using ho) hx
    unfold wpOp
    simp only [ho]
    -- the other new objects' names stay fresh
    have hothers : ∀ (m : Nat) (y : AOper), l[m]? = some y → (listed.setIfInBounds i true).getD m true = false → ∀ n ∈ y.newNames, Fresh n S ∧ n ∉ x.newNames := by
      intro m y hm hum n hny
      have hmi : m ≠ i := by
        rintro rfl
        have hlt : m < ops.size := (Array.getElem?_eq_some_iff.1 ho).1
        rw [Array.getD_eq_getD_getElem?, Array.getElem?_setIfInBounds_self] at hum
        rw [Array.getD_eq_getD_getElem?] at hun
        split at hum
        · simp at hum
        · simp at hum
      rw [getD_set_ne true (Ne.symm hmi)] at hum
      exact ⟨hf m y hm hum n hny, hnews m y hm n hny i x hx (Ne.symm hmi)⟩
    rcases hy with ⟨hg, hloc⟩ | ⟨hg, rfl, rfl⟩
    · obtain ⟨hop, hno⟩ := hloc.same S ⟨fun _ _ => rfl, fun _ _ => rfl, fun _ _ => rfl⟩ (hf i x hx hun)
      have hnext : ∀ S' a' w' ι' R', S' = ap x S v δ → Rel C S' a' w' ι' R' → wpAny P .any ops Q n (listed.setIfInBounds i true) a' w' := by
        rintro S' a' w' ι' R' rfl hr'
        refine ih _ _ _ _ _ _ hn hr' fun m y hm hum n hny => ?_
        obtain ⟨h2, h3⟩ := hothers m y hm hum n hny
        obtain ⟨h4, h5⟩ := hno _ h2 h3
        exact fresh_ap h2 h4 h5
      unfold compOper at hcx
      split at hcx
      · cases hcx
      · rename_i op hop'
        split at hcx
        · rename_i hgd
          cases hcx
          have hw : Region.wanted o (yielded ops a.tmps) = true := by simp [Region.wanted, hgd]
          rw [if_pos hw]
          exact .inl (step_ok hF hop' (hd _ hmem) hop hr fun a' w' ι' R' hr' => hnext _ a' w' ι' R' rfl hr')
        · rename_i j b hgd
          obtain ⟨t, ht, hcx⟩ := Option.map_eq_some_iff.1 hcx
          cases hcx
          unfold Gd at hg
          simp only at hg
          split at hg
          · rename_i c hc
            have hyl : yielded ops a.tmps j = some c := by
              obtain ⟨u, h1, h2⟩ := hr.env t _ (look_mem hc)
              have := h2.bool_inv
              subst this
              have hlt : t < 1000000 := by
                obtain ⟨o', ho', ht'⟩ := Option.bind_eq_some_iff.1 ht
                exact Nat.lt_of_lt_of_le (hd o' (by have := (Array.getElem?_eq_some_iff.1 ho'); obtain ⟨q, rfl⟩ := this; simp) t ht') C.le
              simp only [slotV, if_pos hlt] at h1
              simp [yielded, ht, h1]
            have hw : Region.wanted o (yielded ops a.tmps) = (c == b) := by simp [Region.wanted, hgd, hyl]
            have : (c == b) = true := by simpa using hg
            rw [if_pos (by rw [hw]; exact this)]
            exact .inl (step_ok hF hop' (hd _ hmem) hop hr fun a' w' ι' R' hr' => hnext _ a' w' ι' R' rfl hr')
          · cases hg
          · cases hg
    · have hnext : ∀ S' a' w' ι' R', S' = ap x S (.d (.tup [])) [] → Rel C S' a' w' ι' R' → wpAny P .any ops Q n (listed.setIfInBounds i true) a' w' := by
        rintro S' a' w' ι' R' rfl hr'
        refine ih _ _ _ _ _ _ hn hr' fun m y hm hum n hny => ?_
        obtain ⟨h2, h3⟩ := hothers m y hm hum n hny
        exact fresh_ap h2 rfl h2.2
      unfold compOper at hcx
      split at hcx
      · cases hcx
      · rename_i op hop'
        split at hcx
        · cases hcx
          simp [Gd] at hg
        · rename_i j b hgd
          obtain ⟨t, ht, hcx⟩ := Option.map_eq_some_iff.1 hcx
          cases hcx
          unfold Gd at hg
          simp only at hg
          split at hg
          · rename_i c hc
            have hyl : yielded ops a.tmps j = some c := by
              obtain ⟨u, h1, h2⟩ := hr.env t _ (look_mem hc)
              have := h2.bool_inv
              subst this
              have hlt : t < 1000000 := by
                obtain ⟨o', ho', ht'⟩ := Option.bind_eq_some_iff.1 ht
                exact Nat.lt_of_lt_of_le (hd o' (by have := (Array.getElem?_eq_some_iff.1 ho'); obtain ⟨q, rfl⟩ := this; simp) t ht') C.le
              simp only [slotV, if_pos hlt] at h1
              simp [yielded, ht, h1]
            have hw : Region.wanted o (yielded ops a.tmps) = (c == b) := by simp [Region.wanted, hgd, hyl]
            have : (c == b) = false := by simpa using hg
            rw [if_neg (by rw [hw, this]; simp)]
            exact hnext _ _ _ _ _ rfl (hr.putO undef_va (hd _ hmem))
          · rename_i hc
            have hyl : yielded ops a.tmps j = none := by
              obtain ⟨u, h1, h2⟩ := hr.env t _ (look_mem hc)
              have := h2.tup0_inv
              subst this
              have hlt : t < 1000000 := by
                obtain ⟨o', ho', ht'⟩ := Option.bind_eq_some_iff.1 ht
                exact Nat.lt_of_lt_of_le (hd o' (by have := (Array.getElem?_eq_some_iff.1 ho'); obtain ⟨q, rfl⟩ := this; simp) t ht') C.le
              simp only [slotV, if_pos hlt] at h1
              simp [yielded, ht, h1]
            have hw : Region.wanted o (yielded ops a.tmps) = false := by simp [Region.wanted, hgd, hyl]
            rw [if_neg (by rw [hw]; simp)]
            exact hnext _ _ _ _ _ rfl (hr.putO undef_va (hd _ hmem))
          · cases hg
theorem Rel.drawn {S : St} {a : Act} {w : World} {ι : Inj} {R : Nat → Prop} (h : Rel C S a w ι R) (n : Nat) : Rel C S a { w with drawn := n } ι R := by
  have hm : ∀ {x : AV} {u : Value}, VA w R ι (mark S.heap) x u → VA { w with drawn := n } R ι (mark S.heap) x u := fun hv =>
    hv.mono (fun _ h => h) (fun _ _ => rfl) fun o _ => Step.same fun _ _ _ => rfl
  refine { h with os := h.os, tape := h.tape, output := h.output, env := fun t x hx => ?_, heap := fun o ob ho => ?_ }
  · obtain ⟨u, h1, h2⟩ := h.env t x hx
    exact ⟨u, h1, hm h2⟩
  · cases h.heap o ob ho with
    | row h1 h2 h3 h4 h5 h6 h7 => exact .row h1 h2 h3 h4 h5 h6 fun i e he j x hx => let ⟨k1, q, k2, k3⟩ := h7 i e he j x hx; ⟨k1, q, k2, hm k3⟩
    | acc h1 h2 h3 h4 h5 h6 => exact .acc h1 h2 h3 h4 h5 h6
    | accN h1 => exact .accN h1
    | frz h => exact .frz h
    | mp h1 h2 h3 h4 h5 h6 => exact .mp h1 h2 h3 h4 h5 fun i k x hi => let ⟨e, k1, k2, k3⟩ := h6 i k x hi; ⟨e, k1, k2, k3.mono_v (fun _ h => h) fun _ _ => rfl⟩
theorem draw_ok (hF : FOK P F) {hs : Hints} {ops : Array Oper} {l : List AOper} {S' : St} {Q : Exit → Act → World → Prop} {S : St} {a : Act} {w : World} {ι : Inj} {R : Nat → Prop} {id : Nat} (hl : ops.toList.mapM (compOper P hs ops) = some l)
    (hok : (P.follows .mixedOrders && drawOk ops l) = true) (hd : ∀ o ∈ ops.toList, ∀ d, o.dst = some d → d < C.n) (hQ : ∀ a w ι R, Rel C S' a w ι R → Q .normal a w)
    (h : drawF F l ((List.range ops.size).map (freesOf ops)) S = some S') (hr : Rel C S a w ι R) : (Code.region id ops true).wp P Q a w := by
  unfold drawF at h
  split at h
  rotate_left
  · cases h
  rename_i hpre
  simp only [Bool.and_eq_true] at hpre
  obtain ⟨⟨h1, h2⟩, h3⟩ := hpre
  have h4 := h
  simp only [Bool.and_eq_true] at hok
  obtain ⟨hm, hdk⟩ := hok
  have hlen : l.length = ops.size := by have := (mapM_get hl).1; simpa using this
  have hx : ∀ j, j < ops.size → ∃ o x, ops[j]? = some o ∧ l[j]? = some x ∧ (∀ e ∈ o.after, Region.binds .any e = true → e.on < j) ∧ (∀ k ∈ freesOf ops j, ∃ y, l[k]? = some y ∧ apartA y x = true) ∧ x.op.cleanB = true ∧
      apartN l ops.size j x = true := by
    intro j hj
    have := List.all_eq_true.1 hdk j (by simpa using hj)
    have ho : ops[j]? = some ops[j] := Array.getElem?_eq_getElem hj
    have hy : l[j]? = some (l[j]'(by omega)) := List.getElem?_eq_getElem _
    refine ⟨_, _, ho, hy, ?_⟩
    rw [ho, hy] at this
    simp only [Bool.and_eq_true] at this
    obtain ⟨⟨⟨c1, c2⟩, c3⟩, c4⟩ := this
    refine ⟨fun e he hb => ?_, fun k hk => ?_, c3, c4⟩
    · have := List.all_eq_true.1 c1 e (by simpa using he)
      simpa [hb] using this
    · have := List.all_eq_true.1 c2 k hk
      split at this
      · rename_i y hy'; exact ⟨y, hy', this⟩
      · cases this
  have hclean : ∀ x ∈ l, x.op.cleanB = true := fun x hmx => by
    obtain ⟨j, hj⟩ := List.getElem?_of_mem hmx
    have hlt := (List.getElem?_eq_some_iff.1 hj).1
    obtain ⟨o, x', _, h6, _, _, h7, _⟩ := hx j (by omega)
    rw [hj] at h6; cases h6; exact h7
  obtain ⟨ps, hlex, hps, hclash⟩ := execDraw_lex hF l _ [] S S' hclean h4
  let pl : Nat → List Nat × List Nat := fun i => (ps[i]?).getD ([], [])
  have hE := hlex.nodup h1 h2
  refine wp_region_any hm (DAny.sound (C := C) (l := l) (pl := pl) (E := S') hF hl hd ?_ (fun S1 a' w' ι' R' hs hr' => hQ _ _ _ _ (hr'.same hs hE.1 hE.2)) _ _ _ _ _ _ _ ?_ (hr.drawn _) ?_)
  · intro i x hi n hn j y hj hji hny
    have hlt := (List.getElem?_eq_some_iff.1 hi).1
    have hlt' := (List.getElem?_eq_some_iff.1 hj).1
    obtain ⟨o, x', _, h6, _, _, _, h8⟩ := hx i (by omega)
    rw [hi] at h6; cases h6
    obtain ⟨o', y', _, h6', _, _, _, h8'⟩ := hx j (by omega)
    rw [hj] at h6'; cases h6'
    have ne1 : x.newNames.isEmpty = false := by cases hq : x.newNames with | nil => rw [hq] at hn; cases hn | cons => rfl
    have ne2 : y.newNames.isEmpty = false := by cases hq : y.newNames with | nil => rw [hq] at hny; cases hny | cons => rfl
    simp only [apartN, ne1, ne2, Bool.false_or] at h8 h8'
    split at h8
    · rename_i d hd1
      split at h8'
      · rename_i d' hd2
        simp only [Bool.and_eq_true, decide_eq_true_eq] at h8 h8'
        have h9 := List.all_eq_true.1 h8.2 j (by simp; omega)
        rw [hj] at h9
        simp only [ne2, Bool.false_or, Bool.or_eq_true, beq_iff_eq, hji, false_or, hd2, Bool.not_eq_true', beq_eq_false_iff_ne, ne_eq, Option.some.injEq] at h9
        have sub : ∀ (z : AOper) (e m : Nat), z.dst = some e → m ∈ z.newNames → m = e ∨ m = e + 10000 ∨ m = e + 20000 ∨ m = e + 30000 := by
          intro z e m he hm
          unfold AOper.newNames at hm
          rw [he] at hm
          simp only [Option.getD_some] at hm
          split at hm
          · simpa [fr4] using hm
          · simpa [fr4] using hm
          · split at hm
            · simp at hm; exact .inl hm
            · cases hm
        have k1 := sub x d n hd1 hn
        have k2 := sub y d' n hd2 hny
        omega
      · cases h8'
    · cases h8
  · rw [← hlen]
    refine lex_any (F := F) ?_ hlen.symm ?_ (fun j o ho e he hb => ?_) l ps 0 _ S (by simp) (fun j hj => ?_) (by simp) (by simp) (by omega) (fun i _ hi => ?_) hlex
    · intro k listed hk hls hun
      obtain ⟨o, x, ho, _, h6, _⟩ := hx k (by omega)
      exact mem_ready.2 ⟨hun, o, ho, fun e he hb => hls _ (h6 e he hb)⟩
    · intro k j o x y hkj ho hk hj hno
      have hjl := (Array.getElem?_eq_some_iff.1 ho).1
      obtain ⟨o', y', ho', hy', _, h7, _⟩ := hx j hjl
      rw [ho] at ho'; cases ho'
      rw [hj] at hy'; cases hy'
      have hfree : k ∈ freesOf ops j := mem_freesOf hkj hno
      obtain ⟨x', hx', hap⟩ := h7 k hfree
      rw [hk] at hx'; cases hx'
      refine ⟨hap, ?_⟩
      have hpj : ps[j]? = some (pl j) := by
        have : j < ps.length := by omega
        simp [pl, this]
      have hpk : ps[k]? = some (pl k) := by
        have : k < ps.length := by omega
        simp [pl, this]
      have := hclash j (pl j) hpj
      have hfrj : (((List.range ops.size).map (freesOf ops))[j]?).getD [] = freesOf ops j := by simp [hjl]
      rw [hfrj, List.nil_append] at this
      have := List.all_eq_true.1 this k hfree
      rw [List.getElem?_take_of_lt hkj, hpk] at this
      exact this
    · obtain ⟨o', _, ho', _, h6, _⟩ := hx j (Array.getElem?_eq_some_iff.1 ho).1
      rw [ho] at ho'; cases ho'
      exact h6 e he hb
    · simp [pl, show j < ps.length by omega]
    · rw [Array.getElem?_replicate, if_pos (by omega)]
  · intro i x hi _ n hn
    have := List.all_eq_true.1 (List.all_eq_true.1 h3 x (List.mem_of_getElem? hi)) n hn
    simpa [Fresh] using this
end Go.Sim

namespace Go.Sim
open Go (World Value Addr TypeId Act)
variable {P : Program} {C : Ctx} {F : Sem1}
def insE {α : Type} (p : Nat × α) : List (Nat × α) → List (Nat × α)
  | [] => [p]
  | q :: l => if p.1 ≤ q.1 then p :: q :: l else q :: insE p l
def sortE {α : Type} : List (Nat × α) → List (Nat × α)
  | [] => []
  | p :: l => insE p (sortE l)
def gc (E : Env) (H : Heap) : Heap → Heap
  | [] => []
  | p :: l => if (refsEnv p.1 E || refsHeap p.1 H) = true then p :: gc E H l else gc E H l
def gc1 (E : Env) (H : Heap) : Heap := gc E H H
def keepE (ks : List Nat) : Env → Env
  | [] => []
  | p :: l => if (ks.contains p.1 || decide (1000000 ≤ p.1)) = true then p :: keepE ks l else keepE ks l
def gcS (S : St) : St := ⟨S.env, gc1 S.env S.heap⟩
def endS (ks : List Nat) (S : St) : St := gcS ⟨sortE (keepE ks S.env), S.heap⟩
def sortH (H : Heap) : Heap := if nodupK H = true then sortE H else H
def deX1 : AV → AV
  | .xsl es => .d (.sl es)
  | .d x => .d x
  | .ref o i off => .ref o i off
  | .osl o off len => .osl o off len
  | .acc o es => .acc o es
  | .pe o x => .pe o x
  | .agg cs => .agg cs
  | .tup vs => .tup vs
  | .fn f cs => .fn f cs
  | .nl b => .nl b
  | .mpr o => .mpr o
  | .undef => .undef
def deX : Env → Env
  | [] => []
  | (t, x) :: l => (t, deX1 x) :: deX l
theorem deX1_ok {w : World} {R : Nat → Prop} {ι : Inj} {mk : Nat → Option Nat} {x : AV} {u : Value} (h : VA w R ι mk x u) : VA w R ι mk (deX1 x) u := by
  cases x with
  | xsl es => cases h with | xsl h => exact .d h
  | _ => exact h
theorem mem_deX {t : Nat} {y : AV} : ∀ {E : Env}, (t, y) ∈ deX E → ∃ x, (t, x) ∈ E ∧ y = deX1 x := by
  intro E
  induction E with
  | nil => intro h; cases h
  | cons p l ih =>
    intro h
    cases h with
    | head => exact ⟨p.2, .head _, rfl⟩
    | tail _ h => obtain ⟨x, h1, h2⟩ := ih h; exact ⟨x, .tail _ h1, h2⟩
def norm1 (S : St) : St := ⟨sortE (deX S.env), sortH (gc1 S.env (gc1 S.env S.heap))⟩
def norm (ks : List Nat) (S : St) : St := norm1 ⟨killEnv ks S.env, S.heap⟩
theorem mem_insE {α : Type} {p q : Nat × α} {l : List (Nat × α)} : q ∈ insE p l ↔ q = p ∨ q ∈ l := by
  induction l with
  | nil => simp [insE]
  | cons r l ih =>
    simp only [insE]
    split
    · simp
    · simp only [List.mem_cons, ih]
      constructor
      · rintro (h | h | h)
        · exact .inr (.inl h)
        · exact .inl h
        · exact .inr (.inr h)
      · rintro (h | h | h)
        · exact .inr (.inl h)
        · exact .inl h
        · exact .inr (.inr h)
theorem mem_sortE {α : Type} {q : Nat × α} {l : List (Nat × α)} : q ∈ sortE l ↔ q ∈ l := by
  induction l with
  | nil => simp [sortE]
  | cons p l ih => simp [sortE, mem_insE, ih]
theorem look_insE {α : Type} {k : Nat} {p : Nat × α} {l : List (Nat × α)} (h : ∀ x, (p.1, x) ∉ l) : look k (insE p l) = if p.1 = k then some p.2 else look k l := by
  induction l with
  | nil => rfl
  | cons r l ih =>
    have hr : r.1 ≠ p.1 := fun e => h r.2 (by rw [← e]; exact .head _)
    simp only [insE]
    split
    · rfl
    · simp only [look]
      rw [ih fun x hx => h x (.tail _ hx)]
      by_cases e : r.1 = k
      · rw [if_pos e, if_pos e, if_neg (by omega)]
      · rw [if_neg e, if_neg e]
theorem gc_mem {E : Env} {H l : Heap} {p : Nat × Obj} : p ∈ gc E H l ↔ p ∈ l ∧ (refsEnv p.1 E || refsHeap p.1 H) = true := by
  induction l with
  | nil => simp [gc]
  | cons q l ih =>
    simp only [gc]
    split
    · rename_i h
      simp only [List.mem_cons, ih]
      constructor
      · rintro (rfl | ⟨h1, h2⟩)
        · exact ⟨.inl rfl, h⟩
        · exact ⟨.inr h1, h2⟩
      · rintro ⟨rfl | h1, h2⟩
        · exact .inl rfl
        · exact .inr ⟨h1, h2⟩
    · rename_i h
      simp only [List.mem_cons, ih]
      constructor
      · rintro ⟨h1, h2⟩; exact ⟨.inr h1, h2⟩
      · rintro ⟨rfl | h1, h2⟩
        · exact absurd h2 h
        · exact ⟨h1, h2⟩
theorem look_gc {E : Env} {H l : Heap} {o : Nat} (h : (refsEnv o E || refsHeap o H) = true) : look o (gc E H l) = look o l := by
  induction l with
  | nil => rfl
  | cons q l ih =>
    simp only [gc]
    by_cases hq : (refsEnv q.1 E || refsHeap q.1 H) = true
    · rw [if_pos hq]; simp only [look, ih]
    · rw [if_neg hq, ih]
      simp only [look]
      rw [if_neg]
      intro e; rw [e] at hq; exact hq h
theorem Rel.gc {S : St} {a : Act} {w : World} {ι : Inj} {R : Nat → Prop} (h : Rel C S a w ι R) : Rel C ⟨S.env, gc1 S.env S.heap⟩ a w ι R := by
  have hm : ∀ p, (refsEnv p S.env || refsHeap p S.heap) = true → mark (gc1 S.env S.heap) p = mark S.heap p := fun p hp => by
    unfold mark gc1; rw [look_gc hp]
  have hst : ∀ p, (refsEnv p S.env || refsHeap p S.heap) = true → Step w w ι ι (mark S.heap) (mark (gc1 S.env S.heap)) p := fun p hp => Step.other rfl (hm p hp) fun _ _ _ => rfl
  have env1 : ∀ {t x p}, (t, x) ∈ S.env → x.refs p = true → refsEnv p S.env = true := fun {t x p} hx hp => by
    cases hh : refsEnv p S.env with
    | true => rfl
    | false => rw [refsEnv_mem hx hh] at hp; cases hp
  have heap1 : ∀ {t x p}, (t, x) ∈ S.heap → x.refs p = true → refsHeap p S.heap = true := fun {t x p} hx hp => by
    cases hh : refsHeap p S.heap with
    | true => rfl
    | false => rw [refsHeap_mem hx hh] at hp; cases hp
  refine { h with env := fun t x hx => ?_, heap := fun q ob hq => ?_ }
  · obtain ⟨u, h1, h2⟩ := h.env t x hx
    exact ⟨u, h1, h2.mono (fun _ h => h) (fun _ _ => rfl) fun p hp => hst p (by rw [env1 hx hp]; rfl)⟩
  · have hq' := (gc_mem.1 hq).1
    exact (h.heap q ob hq').mono (fun _ h => h) (fun _ _ => rfl) (fun _ _ hb => ⟨hb, rfl, fun h => h⟩) (fun h => h) fun p hp => hst p (by rw [heap1 hq' hp, Bool.or_true])
theorem mem_keepE {ks : List Nat} {E : Env} {p : Nat × AV} (h : p ∈ keepE ks E) : p ∈ E := by
  induction E with
  | nil => cases h
  | cons q l ih =>
    simp only [keepE] at h
    split at h
    · cases h with
      | head => exact .head _
      | tail _ h => exact .tail _ (ih h)
    · exact .tail _ (ih h)
theorem Rel.endS {S : St} {a : Act} {w : World} {ι : Inj} {R : Nat → Prop} (h : Rel C S a w ι R) (ks : List Nat) : Rel C (endS ks S) a w ι R := by
  have h1 : Rel C ⟨sortE (keepE ks S.env), S.heap⟩ a w ι R := h.weaken fun t x hx => mem_keepE (mem_sortE.1 hx)
  exact h1.gc
theorem mark_sortE_sub {H : Heap} {o : Nat} (hn : nodupK H = true) : mark (sortE H) o = mark H o := by
  have : look o (sortE H) = look o H := by
    induction H with
    | nil => rfl
    | cons p l ih =>
      obtain ⟨k, ob⟩ := p
      simp only [nodupK, Bool.and_eq_true, Bool.not_eq_true'] at hn
      simp only [sortE]
      rw [look_insE, ih hn.2]
      · rfl
      · intro x hx
        rw [mem_sortE] at hx
        have := List.any_eq_false.1 hn.1 _ hx
        simp at this
  unfold mark; rw [this]
theorem Rel.sorted {S : St} {a : Act} {w : World} {ι : Inj} {R : Nat → Prop} (h : Rel C S a w ι R) (hn : nodupK S.heap = true) : Rel C ⟨sortE S.env, sortE S.heap⟩ a w ι R := by
  have hm : mark (sortE S.heap) = mark S.heap := funext fun o => mark_sortE_sub hn
  refine { h with env := fun t x hx => ?_, heap := fun q ob hq => ?_ }
  · rw [hm]; exact h.env t x (mem_sortE.1 hx)
  · rw [hm]; exact h.heap q ob (mem_sortE.1 hq)
theorem Rel.norm1 {S : St} {a : Act} {w : World} {ι : Inj} {R : Nat → Prop} (h : Rel C S a w ι R) : Rel C (norm1 S) a w ι R := by
  have h0 : Rel C ⟨S.env, gc1 S.env (gc1 S.env S.heap)⟩ a w ι R := (h.gc).gc
  have h1 : Rel C ⟨deX S.env, gc1 S.env (gc1 S.env S.heap)⟩ a w ι R := by
    refine { h0 with env := fun t x hx => ?_ }
    obtain ⟨y, hy, rfl⟩ := mem_deX hx
    obtain ⟨u, h2, h3⟩ := h0.env t y hy
    exact ⟨u, h2, deX1_ok h3⟩
  unfold Go.Sim.norm1 sortH
  split
  · rename_i hn; exact h1.sorted hn
  · exact { h1 with env := fun t x hx => h1.env t x (mem_sortE.1 hx) }
theorem Rel.norm {S : St} {a : Act} {w : World} {ι : Inj} {R : Nat → Prop} (h : Rel C S a w ι R) (ks : List Nat) : Rel C (norm ks S) a w ι R := (h.kill ks).norm1
def slotsOk (n : Nat) : Code → Bool
  | .region _ ops _ => ops.toList.all fun o => match o.dst with | none => true | some d => d < n
  | .seq a b => slotsOk n a && slotsOk n b
  | .cond _ a b => slotsOk n a && slotsOk n b
  | .block _ b => slotsOk n b
  | .loop b => slotsOk n b
  | _ => true
theorem slots_region {n id : Nat} {ops : Array Oper} {d : Bool} (h : slotsOk n (.region id ops d) = true) : ∀ o ∈ ops.toList, ∀ d, o.dst = some d → d < n := by
  intro o ho d hd
  have := List.all_eq_true.1 h o ho
  simpa [hd] using this
def execOps (F : Sem1) : List AOper → St → Option St
  | [], S => some S
  | o :: l, S =>
    match o.guard with
    | none => (stepS F o S).bind (execOps F l)
    | some (t, b) =>
      match look t S.env with
      | some (.d (.bool c)) => if c = b then (stepS F o S).bind (execOps F l) else execOps F l (S.put o.dst (.d (.tup [])))
      | some (.d (.tup [])) => execOps F l (S.put o.dst (.d (.tup [])))
      | _ => none
def killS (ks : List Nat) (S : St) : AExit × St := (.normal, ⟨killEnv ks S.env, S.heap⟩)
def seqF (g : St → Option (AExit × St)) (p : AExit × St) : Option (AExit × St) := match p.1 with | .normal => g p.2 | .exit i => some (.exit i, p.2) | .ret => some (.ret, p.2)
def blockF (id : Nat) (p : AExit × St) : AExit × St := match p.1 with | .exit i => if i = id then (.normal, p.2) else (.exit i, p.2) | .normal => (.normal, p.2) | .ret => (.ret, p.2)
def loopF (ks : List Nat) (g : St → Option (AExit × St)) (p : AExit × St) : Option (AExit × St) := match p.1 with | .normal => g (norm ks p.2) | .exit i => some (.exit i, p.2) | .ret => some (.ret, p.2)
def loopN (ks : List Nat) (body : St → Option (AExit × St)) : Nat → St → Option (AExit × St)
  | 0, _ => none
  | k + 1, S => (body S).bind (loopF ks (loopN ks body k))
def condF (c : AV) (x y : Option (AExit × St)) : Option (AExit × St) := match c with | .d (.bool b) => if b = true then x else y | _ => none
def exec (F : Sem1) (n : Nat) : ACode → St → Option (AExit × St)
  | .skip, S => some (.normal, S)
  | .ops gs l ks, S => ((ghosts gs S).bind (execOps F l)).map (killS ks)
  | .draw gs l fr ks, S => ((ghosts gs S).bind (drawF F l fr)).map (killS ks)
  | .seq x y, S => (exec F n x S).bind (seqF (exec F n y))
  | .cond c x y, S => condF (c.ev S.env) (exec F n x S) (exec F n y S)
  | .block id x, S => (exec F n x S).map (blockF id)
  | .loop ks x, S => loopN ks (exec F n x) n (norm ks S)
  | .exit id ks, S => some (.exit id, endS ks S)
  | .ret ks, S => some (.ret, endS ks S)
def firstId : Code → Nat
  | .region id _ _ => id
  | .seq a _ => firstId a
  | .block _ b => firstId b
  | .loop b => firstId b
  | _ => 1000000
def comp (P : Program) (hs : Hints) : Code → Option ACode
  | .skip => some .skip
  | .region id ops false => (ops.toList.mapM (compOper P hs ops)).map fun l => .ops (killOf hs.ghost id) l (killOf hs.kill id)
  | .region id ops true => (ops.toList.mapM (compOper P hs ops)).bind fun l => if P.follows .mixedOrders && drawOk ops l then some (.draw (killOf hs.ghost id) l ((List.range ops.size).map (freesOf ops)) (killOf hs.kill id)) else none
  | .seq a b => match comp P hs a, comp P hs b with | some x, some y => some (.seq x y) | _, _ => none
  | .cond c t e => match opd c, comp P hs t, comp P hs e with | some z, some x, some y => some (.cond z x y) | _, _, _ => none
  | .block id b => (comp P hs b).map (.block id)
  | .loop b => (comp P hs b).map (.loop (killOf hs.loop (firstId b)))
  | .exit id => some (.exit id (killOf hs.exit id))
  | .ret => some (.ret hs.ret)
  | _ => none
def Done (C : Ctx) (e : AExit) (S : St) : Exit → Act → World → Prop := fun ex a w => ex = Out e ∧ ∃ ι R, Rel C S a w ι R
theorem execOps_ok (hF : FOK P F) {hs : Hints} {ops : Array Oper} {Q : Exit → Act → World → Prop} {S' : St} (hn : ∀ a w ι R, Rel C S' a w ι R → Q .normal a w) (hd : ∀ o ∈ ops.toList, ∀ d, o.dst = some d → d < C.n) :
    ∀ (l : List AOper) (k : Nat), (ops.toList.drop k).mapM (compOper P hs ops) = some l → ∀ (S : St) (a : Act) (w : World) (ι : Inj) (R : Nat → Prop), execOps F l S = some S' → Rel C S a w ι R → wpOps P ops Q (List.range' k (ops.size - k)) a w := by
  intro l
  induction l with
  | nil =>
    intro k hk S a w ι R h hr
    have hlen := (mapM_get hk).1
    simp at hlen
    have : ops.size - k = 0 := by simpa using hlen.symm
    rw [this]
    cases h
    exact hn a w ι R hr
  | cons x l ih =>
    intro k hk S a w ι R h hr
    obtain ⟨hl, hg⟩ := mapM_get hk
    have hlt : k < ops.size := by simp at hl; omega
    have hsz : ops.size - k = (ops.size - (k + 1)) + 1 := by omega
    have hok : ops[k]? = some ops[k] := Array.getElem?_eq_getElem hlt
    have hx := hg 0 ops[k] x (by simp [hlt]) rfl
    have hk' : (ops.toList.drop (k + 1)).mapM (compOper P hs ops) = some l := by
      have hdrop : ops.toList.drop k = ops[k] :: ops.toList.drop (k + 1) := by
        rw [List.drop_eq_getElem_cons (by simpa using hlt)]; simp
      rw [hdrop, List.mapM_cons] at hk
      simp only [Option.bind_eq_bind, Option.pure_def] at hk
      obtain ⟨y, _, hk⟩ := Option.bind_eq_some_iff.1 hk
      obtain ⟨ys, hys, hk⟩ := Option.bind_eq_some_iff.1 hk
      cases hk; exact hys
    have hmem : ops[k] ∈ ops.toList := by simp
    rw [hsz, List.range'_succ]
    simp only [wpOps, hok]
    have take : ∀ {x0 : AOp} {g : Option (Nat × Bool)}, compOp P ops[k].op = some x0 → x = ⟨ops[k].dst, hint hs ops[k].dst x0, g⟩ → (stepS F x S).bind (execOps F l) = some S' → ops[k].wp P a w (fun a' w' => wpOps P ops Q (List.range' (k + 1) (ops.size - (k + 1))) a' w') Q := by
      intro x0 g hop hxe hb
      obtain ⟨S1, h1, h2⟩ := Option.bind_eq_some_iff.1 hb
      obtain ⟨⟨v, H'⟩, h3, h4⟩ := Option.map_eq_some_iff.1 h1
      subst hxe
      subst h4
      exact step_ok hF hop (hd _ hmem) h3 hr fun a' w' ι' R' hr' => ih (k + 1) hk' _ a' w' ι' R' h2 hr'
    unfold compOper at hx
    split at hx
    · cases hx
    · rename_i op hop
      split at hx
      · rename_i hgd
        cases hx
        simp only [execOps] at h
        have hw : Region.wanted ops[k] (yielded ops a.tmps) = true := by simp [Region.wanted, hgd]
        rw [if_pos hw]
        exact .inl (take hop rfl h)
      · rename_i j b hgd
        obtain ⟨t, ht, hx⟩ := Option.map_eq_some_iff.1 hx
        cases hx
        simp only [execOps] at h
        split at h
        · rename_i c hc
          have hy : yielded ops a.tmps j = some c := by
            obtain ⟨u, h1, h2⟩ := hr.env t _ (look_mem hc)
            have := h2.bool_inv
            subst this
            have hlt : t < 1000000 := by
              obtain ⟨o', ho', ht'⟩ := Option.bind_eq_some_iff.1 ht
              exact Nat.lt_of_lt_of_le (hd o' (by have := (Array.getElem?_eq_some_iff.1 ho'); obtain ⟨q, rfl⟩ := this; simp) t ht') C.le
            simp only [slotV, if_pos hlt] at h1
            simp [yielded, ht, h1]
          have hw : Region.wanted ops[k] (yielded ops a.tmps) = (c == b) := by simp [Region.wanted, hgd, hy]
          by_cases hcb : c = b
          · rw [if_pos (by rw [hw]; simpa using hcb)]
            rw [if_pos hcb] at h
            exact .inl (take hop rfl h)
          · rw [if_neg (by rw [hw]; simpa using hcb)]
            rw [if_neg hcb] at h
            exact ih (k + 1) hk' _ _ _ _ _ h (hr.putO undef_va (hd _ hmem))
        · rename_i hc
          have hy : yielded ops a.tmps j = none := by
            obtain ⟨u, h1, h2⟩ := hr.env t _ (look_mem hc)
            have := h2.tup0_inv
            subst this
            have hlt : t < 1000000 := by
              obtain ⟨o', ho', ht'⟩ := Option.bind_eq_some_iff.1 ht
              exact Nat.lt_of_lt_of_le (hd o' (by have := (Array.getElem?_eq_some_iff.1 ho'); obtain ⟨q, rfl⟩ := this; simp) t ht') C.le
            simp only [slotV, if_pos hlt] at h1
            simp [yielded, ht, h1]
          have hw : Region.wanted ops[k] (yielded ops a.tmps) = false := by simp [Region.wanted, hgd, hy]
          rw [if_neg (by rw [hw]; simp)]
          exact ih (k + 1) hk' _ _ _ _ _ h (hr.putO undef_va (hd _ hmem))
        · cases h
theorem exec_ok (hF : FOK P F) {hs : Hints} {n : Nat} : ∀ (c : Code) {x : ACode} {S : St} {e : AExit} {S' : St} {a : Act} {w : World} {ι : Inj} {R : Nat → Prop}, comp P hs c = some x → slotsOk C.n c = true → exec F n x S = some (e, S') → Rel C S a w ι R →
    c.wp P (Done C e S') a w := by
  intro c
  induction c with
  | skip => intro x S e S' a w ι R hc _ h hr; simp only [comp, Option.some.injEq] at hc; subst hc; cases h; exact wp_skip ⟨rfl, ι, R, hr⟩
  | exit id => intro x S e S' a w ι R hc _ h hr; simp only [comp, Option.some.injEq] at hc; subst hc; cases h; exact wp_exit ⟨rfl, ι, R, hr.endS _⟩
  | ret => intro x S e S' a w ι R hc _ h hr; simp only [comp, Option.some.injEq] at hc; subst hc; cases h; exact wp_ret ⟨rfl, ι, R, hr.endS _⟩
  | region id ops d =>
    intro x S e S' a w ι R hc hs' h hr
    cases d with
    | false =>
      obtain ⟨l, hl, rfl⟩ := Option.map_eq_some_iff.1 hc
      simp only [exec] at h
      obtain ⟨S2, h, h3⟩ := Option.map_eq_some_iff.1 h
      obtain ⟨S1, h1, h2⟩ := Option.bind_eq_some_iff.1 h
      cases h3
      refine wp_region ?_
      obtain ⟨ι1, R1, hr1⟩ := ghosts_ok h1 hr
      have := execOps_ok hF (C := C) (Q := Done C .normal ⟨killEnv (killOf hs.kill id) S2.env, S2.heap⟩) (fun a' w' ι' R' h2 => ⟨rfl, ι', R', h2.kill _⟩) (slots_region hs') l 0 (by simpa using hl) S1 a w ι1 R1 h2 hr1
      rw [List.range_eq_range']
      simpa using this
    | true =>
      obtain ⟨l, hl, hc⟩ := Option.bind_eq_some_iff.1 hc
      split at hc
      · rename_i hok
        cases hc
        simp only [exec] at h
        obtain ⟨S2, h, h3⟩ := Option.map_eq_some_iff.1 h
        obtain ⟨S1, h1, h2⟩ := Option.bind_eq_some_iff.1 h
        cases h3
        obtain ⟨ι1, R1, hr1⟩ := ghosts_ok h1 hr
        exact draw_ok hF hl hok (slots_region hs') (fun a' w' ι' R' h2 => ⟨rfl, ι', R', h2.kill _⟩) h2 hr1
      · cases hc
  | seq c1 c2 ih1 ih2 =>
    intro x S e S' a w ι R hc hs' h hr
    simp only [comp] at hc
    split at hc
    · rename_i x1 x2 h1 h2
      cases hc
      simp only [slotsOk, Bool.and_eq_true] at hs'
      simp only [exec] at h
      obtain ⟨⟨e1, S1⟩, h3, h4⟩ := Option.bind_eq_some_iff.1 h
      refine wp_seq (wp_mono (ih1 h1 hs'.1 h3 hr) ?_)
      rintro ex a' w' ⟨rfl, ι', R', hr'⟩
      cases e1 with
      | normal => exact ih2 h2 hs'.2 h4 hr'
      | exit i => cases h4; exact ⟨rfl, ι', R', hr'⟩
      | ret => cases h4; exact ⟨rfl, ι', R', hr'⟩
    · cases hc
  | cond c t el ih1 ih2 =>
    intro x S e S' a w ι R hc hs' h hr
    simp only [comp] at hc
    split at hc
    · rename_i z x1 x2 h0 h1 h2
      cases hc
      simp only [slotsOk, Bool.and_eq_true] at hs'
      simp only [exec] at h
      have hv := hr.ev h0
      unfold condF at h
      split at h
      · rename_i b hb
        rw [hb] at hv
        refine wp_cond_split hv.bool_inv (fun hb' => ih1 h1 hs'.1 (by rw [if_pos hb'] at h; exact h) hr) (fun hb' => ih2 h2 hs'.2 (by rw [if_neg (by simp [hb'])] at h; exact h) hr)
      · cases h
    · cases hc
  | block id b ih =>
    intro x S e S' a w ι R hc hs' h hr
    obtain ⟨y, hy, rfl⟩ := Option.map_eq_some_iff.1 hc
    simp only [exec] at h
    obtain ⟨⟨e1, S1⟩, h1, h2⟩ := Option.map_eq_some_iff.1 h
    refine wp_block (wp_mono (ih hy hs' h1 hr) ?_)
    rintro ex a' w' ⟨rfl, ι', R', hr'⟩
    cases e1 with
    | normal => cases h2; exact ⟨rfl, ι', R', hr'⟩
    | exit i =>
      simp only [blockF] at h2
      simp only [Out, Exit.inBlock]
      split
      · rename_i e; rw [if_pos e] at h2; cases h2; exact ⟨rfl, ι', R', hr'⟩
      · rename_i e; rw [if_neg e] at h2; cases h2; exact ⟨rfl, ι', R', hr'⟩
    | ret => cases h2; exact ⟨rfl, ι', R', hr'⟩
  | loop b ih =>
    intro x S e S' a w ι R hc hs' h hr
    obtain ⟨y, hy, rfl⟩ := Option.map_eq_some_iff.1 hc
    simp only [exec] at h
    refine wp_loop_ghost (fun k a w => ∃ S ι R, loopN (killOf hs.loop (firstId b)) (exec F n y) k S = some (e, S') ∧ Rel C S a w ι R) n ⟨_, ι, R, h, hr.norm _⟩ ?_
    rintro k a1 w1 ⟨S1, ι1, R1, h1, hr1⟩
    cases k with
    | zero => simp [loopN] at h1
    | succ k =>
      simp only [loopN] at h1
      obtain ⟨⟨e2, S2⟩, h2, h3⟩ := Option.bind_eq_some_iff.1 h1
      refine wp_mono (ih hy hs' h2 hr1) ?_
      rintro ex a' w' ⟨rfl, ι', R', hr'⟩
      cases e2 with
      | normal => exact ⟨k, by omega, _, ι', R', h3, hr'.norm _⟩
      | exit i => cases h3; exact ⟨rfl, ι', R', hr'⟩
      | ret => cases h3; exact ⟨rfl, ι', R', hr'⟩
  | _ => intro x S e S' a w ι R hc; simp [comp] at hc
end Go.Sim
