/-
  Code: what it does to abstract states, and that the model does the same.
-/
import Derived.Test.YtlphhhmicdjljaaXH
import Derived.Deep.LoopGhost
namespace Go.Sim
set_option linter.unusedSimpArgs false
set_option linter.unusedVariables false
open Go (World Value Addr TypeId Act)

variable {P : Program} {C : Ctx} {F : Sem1}

/-! ### States put in order -/
def insE {α : Type} (p : Nat × α) : List (Nat × α) → List (Nat × α)
  | [] => [p]
  | q :: l => if p.1 ≤ q.1 then p :: q :: l else q :: insE p l
def sortE {α : Type} : List (Nat × α) → List (Nat × α)
  | [] => []
  | p :: l => insE p (sortE l)
def gc (E : Env) (H : Heap) : Heap → Heap
  | [] => []
  | p :: l => if (refsEnv p.1 E || refsHeap p.1 H) = true then p :: gc E H l else gc E H l
def gc1 (E : Env) (H : Heap) : Heap := gc E H H
def keepE (ks : List Nat) : Env → Env
  | [] => []
  | p :: l => if (ks.contains p.1 || decide (1000000 ≤ p.1)) = true then p :: keepE ks l else keepE ks l
def gcS (S : St) : St := ⟨S.env, gc1 S.env S.heap⟩
def endS (ks : List Nat) (S : St) : St := gcS ⟨sortE (keepE ks S.env), S.heap⟩
def sortH (H : Heap) : Heap := if nodupK H = true then sortE H else H
/-- Slices of no room to spare are told as data. -/
def deX1 : AV → AV
  | .xsl es => .d (.sl es)
  | .d x => .d x
  | .ref o i off => .ref o i off
  | .osl o off len => .osl o off len
  | .acc o es => .acc o es
  | .pe o x => .pe o x
  | .agg cs => .agg cs
  | .tup vs => .tup vs
  | .fn f cs => .fn f cs
  | .nl b => .nl b
  | .undef => .undef
def deX : Env → Env
  | [] => []
  | (t, x) :: l => (t, deX1 x) :: deX l
theorem deX1_ok {w : World} {R : Nat → Prop} {ι : Inj} {mk : Nat → Option Nat} {x : AV} {u : Value} (h : VA w R ι mk x u) : VA w R ι mk (deX1 x) u := by
  cases x with
  | xsl es => cases h with | xsl h => exact .d h
  | _ => exact h
theorem mem_deX {t : Nat} {y : AV} : ∀ {E : Env}, (t, y) ∈ deX E → ∃ x, (t, x) ∈ E ∧ y = deX1 x := by
  intro E
  induction E with
  | nil => intro h; cases h
  | cons p l ih =>
    intro h
    cases h with
    | head => exact ⟨p.2, .head _, rfl⟩
    | tail _ h => obtain ⟨x, h1, h2⟩ := ih h; exact ⟨x, .tail _ h1, h2⟩
def norm1 (S : St) : St := ⟨sortE (deX S.env), sortH (gc1 S.env (gc1 S.env S.heap))⟩
def norm (ks : List Nat) (S : St) : St := norm1 ⟨killEnv ks S.env, S.heap⟩

theorem mem_insE {α : Type} {p q : Nat × α} {l : List (Nat × α)} : q ∈ insE p l ↔ q = p ∨ q ∈ l := by
  induction l with
  | nil => simp [insE]
  | cons r l ih =>
    simp only [insE]
    split
    · simp
    · simp only [List.mem_cons, ih]
      constructor
      · rintro (h | h | h)
        · exact .inr (.inl h)
        · exact .inl h
        · exact .inr (.inr h)
      · rintro (h | h | h)
        · exact .inr (.inl h)
        · exact .inl h
        · exact .inr (.inr h)
theorem mem_sortE {α : Type} {q : Nat × α} {l : List (Nat × α)} : q ∈ sortE l ↔ q ∈ l := by
  induction l with
  | nil => simp [sortE]
  | cons p l ih => simp [sortE, mem_insE, ih]
theorem look_insE {α : Type} {k : Nat} {p : Nat × α} {l : List (Nat × α)} (h : ∀ x, (p.1, x) ∉ l) : look k (insE p l) = if p.1 = k then some p.2 else look k l := by
  induction l with
  | nil => rfl
  | cons r l ih =>
    have hr : r.1 ≠ p.1 := fun e => h r.2 (by rw [← e]; exact .head _)
    simp only [insE]
    split
    · rfl
    · simp only [look]
      rw [ih fun x hx => h x (.tail _ hx)]
      by_cases e : r.1 = k
      · rw [if_pos e, if_pos e, if_neg (by omega)]
      · rw [if_neg e, if_neg e]

/-- Sorting changes nothing where no key stands twice; else the state is told by 'mem' alone. -/
theorem gc_mem {E : Env} {H l : Heap} {p : Nat × Obj} : p ∈ gc E H l ↔ p ∈ l ∧ (refsEnv p.1 E || refsHeap p.1 H) = true := by
  induction l with
  | nil => simp [gc]
  | cons q l ih =>
    simp only [gc]
    split
    · rename_i h
      simp only [List.mem_cons, ih]
      constructor
      · rintro (rfl | ⟨h1, h2⟩)
        · exact ⟨.inl rfl, h⟩
        · exact ⟨.inr h1, h2⟩
      · rintro ⟨rfl | h1, h2⟩
        · exact .inl rfl
        · exact .inr ⟨h1, h2⟩
    · rename_i h
      simp only [List.mem_cons, ih]
      constructor
      · rintro ⟨h1, h2⟩; exact ⟨.inr h1, h2⟩
      · rintro ⟨rfl | h1, h2⟩
        · exact absurd h2 h
        · exact ⟨h1, h2⟩
theorem look_gc {E : Env} {H l : Heap} {o : Nat} (h : (refsEnv o E || refsHeap o H) = true) : look o (gc E H l) = look o l := by
  induction l with
  | nil => rfl
  | cons q l ih =>
    simp only [gc]
    by_cases hq : (refsEnv q.1 E || refsHeap q.1 H) = true
    · rw [if_pos hq]; simp only [look, ih]
    · rw [if_neg hq, ih]
      simp only [look]
      rw [if_neg]
      intro e; rw [e] at hq; exact hq h

theorem Rel.gc {S : St} {a : Act} {w : World} {ι : Inj} {R : Nat → Prop} (h : Rel C S a w ι R) : Rel C ⟨S.env, gc1 S.env S.heap⟩ a w ι R := by
  have hm : ∀ p, (refsEnv p S.env || refsHeap p S.heap) = true → mark (gc1 S.env S.heap) p = mark S.heap p := fun p hp => by
    unfold mark gc1; rw [look_gc hp]
  have hst : ∀ p, (refsEnv p S.env || refsHeap p S.heap) = true → Step w w ι ι (mark S.heap) (mark (gc1 S.env S.heap)) p := fun p hp => Step.other rfl (hm p hp) fun _ _ _ => rfl
  have env1 : ∀ {t x p}, (t, x) ∈ S.env → x.refs p = true → refsEnv p S.env = true := fun {t x p} hx hp => by
    cases hh : refsEnv p S.env with
    | true => rfl
    | false => rw [refsEnv_mem hx hh] at hp; cases hp
  have heap1 : ∀ {t x p}, (t, x) ∈ S.heap → x.refs p = true → refsHeap p S.heap = true := fun {t x p} hx hp => by
    cases hh : refsHeap p S.heap with
    | true => rfl
    | false => rw [refsHeap_mem hx hh] at hp; cases hp
  refine { h with env := fun t x hx => ?_, heap := fun q ob hq => ?_ }
  · obtain ⟨u, h1, h2⟩ := h.env t x hx
    exact ⟨u, h1, h2.mono (fun _ h => h) (fun _ _ => rfl) fun p hp => hst p (by rw [env1 hx hp]; rfl)⟩
  · have hq' := (gc_mem.1 hq).1
    exact (h.heap q ob hq').mono (fun _ h => h) (fun _ _ => rfl) (fun _ _ hb => ⟨hb, rfl, fun h => h⟩) (fun h => h) fun p hp => hst p (by rw [heap1 hq' hp, Bool.or_true])

theorem mem_keepE {ks : List Nat} {E : Env} {p : Nat × AV} (h : p ∈ keepE ks E) : p ∈ E := by
  induction E with
  | nil => cases h
  | cons q l ih =>
    simp only [keepE] at h
    split at h
    · cases h with
      | head => exact .head _
      | tail _ h => exact .tail _ (ih h)
    · exact .tail _ (ih h)
theorem Rel.endS {S : St} {a : Act} {w : World} {ι : Inj} {R : Nat → Prop} (h : Rel C S a w ι R) (ks : List Nat) : Rel C (endS ks S) a w ι R := by
  have h1 : Rel C ⟨sortE (keepE ks S.env), S.heap⟩ a w ι R := h.weaken fun t x hx => mem_keepE (mem_sortE.1 hx)
  exact h1.gc

theorem mark_sortE_sub {H : Heap} {o : Nat} (hn : nodupK H = true) : mark (sortE H) o = mark H o := by
  have : look o (sortE H) = look o H := by
    induction H with
    | nil => rfl
    | cons p l ih =>
      obtain ⟨k, ob⟩ := p
      simp only [nodupK, Bool.and_eq_true, Bool.not_eq_true'] at hn
      simp only [sortE]
      rw [look_insE, ih hn.2]
      · rfl
      · intro x hx
        rw [mem_sortE] at hx
        have := List.any_eq_false.1 hn.1 _ hx
        simp at this
  unfold mark; rw [this]

theorem Rel.sorted {S : St} {a : Act} {w : World} {ι : Inj} {R : Nat → Prop} (h : Rel C S a w ι R) (hn : nodupK S.heap = true) : Rel C ⟨sortE S.env, sortE S.heap⟩ a w ι R := by
  have hm : mark (sortE S.heap) = mark S.heap := funext fun o => mark_sortE_sub hn
  refine { h with env := fun t x hx => ?_, heap := fun q ob hq => ?_ }
  · rw [hm]; exact h.env t x (mem_sortE.1 hx)
  · rw [hm]; exact h.heap q ob (mem_sortE.1 hq)

theorem Rel.norm1 {S : St} {a : Act} {w : World} {ι : Inj} {R : Nat → Prop} (h : Rel C S a w ι R) : Rel C (norm1 S) a w ι R := by
  have h0 : Rel C ⟨S.env, gc1 S.env (gc1 S.env S.heap)⟩ a w ι R := (h.gc).gc
  have h1 : Rel C ⟨deX S.env, gc1 S.env (gc1 S.env S.heap)⟩ a w ι R := by
    refine { h0 with env := fun t x hx => ?_ }
    obtain ⟨y, hy, rfl⟩ := mem_deX hx
    obtain ⟨u, h2, h3⟩ := h0.env t y hy
    exact ⟨u, h2, deX1_ok h3⟩
  unfold Go.Sim.norm1 sortH
  split
  · rename_i hn; exact h1.sorted hn
  · exact { h1 with env := fun t x hx => h1.env t x (mem_sortE.1 hx) }

theorem Rel.norm {S : St} {a : Act} {w : World} {ι : Inj} {R : Nat → Prop} (h : Rel C S a w ι R) (ks : List Nat) : Rel C (norm ks S) a w ι R := (h.kill ks).norm1

/-- Every slot that is written is one of the frame. -/
def slotsOk (n : Nat) : Code → Bool
  | .region _ ops _ => ops.toList.all fun o => match o.dst with | none => true | some d => d < n
  | .seq a b => slotsOk n a && slotsOk n b
  | .cond _ a b => slotsOk n a && slotsOk n b
  | .block _ b => slotsOk n b
  | .loop b => slotsOk n b
  | _ => true

theorem slots_region {n id : Nat} {ops : Array Oper} {d : Bool} (h : slotsOk n (.region id ops d) = true) : ∀ o ∈ ops.toList, ∀ d, o.dst = some d → d < n := by
  intro o ho d hd
  have := List.all_eq_true.1 h o ho
  simpa [hd] using this



/-! ### What code does -/
def stepK (F : Sem1) (o : AOper) (k : St → Option St) (S : St) : Option St := (stepS F o S).bind k
def execOps (F : Sem1) : List AOper → St → Option St
  | [], S => some S
  | o :: l, S =>
    match o.guard with
    | none => (stepS F o S).bind (execOps F l)
    | some (t, b) =>
      match look t S.env with
      | some (.d (.bool c)) => if c = b then (stepS F o S).bind (execOps F l) else execOps F l (S.put o.dst (.d (.tup [])))
      | some (.d (.tup [])) => execOps F l (S.put o.dst (.d (.tup [])))
      | _ => none

def killS (ks : List Nat) (S : St) : AExit × St := (.normal, ⟨killEnv ks S.env, S.heap⟩)
def seqF (g : St → Option (AExit × St)) (p : AExit × St) : Option (AExit × St) := match p.1 with | .normal => g p.2 | .exit i => some (.exit i, p.2) | .ret => some (.ret, p.2)
def blockF (id : Nat) (p : AExit × St) : AExit × St := match p.1 with | .exit i => if i = id then (.normal, p.2) else (.exit i, p.2) | .normal => (.normal, p.2) | .ret => (.ret, p.2)
def loopF (ks : List Nat) (g : St → Option (AExit × St)) (p : AExit × St) : Option (AExit × St) := match p.1 with | .normal => g (norm ks p.2) | .exit i => some (.exit i, p.2) | .ret => some (.ret, p.2)
def loopN (ks : List Nat) (body : St → Option (AExit × St)) : Nat → St → Option (AExit × St)
  | 0, _ => none
  | k + 1, S => (body S).bind (loopF ks (loopN ks body k))
def condF (c : AV) (x y : Option (AExit × St)) : Option (AExit × St) := match c with | .d (.bool b) => if b = true then x else y | _ => none

def exec (F : Sem1) (n : Nat) : ACode → St → Option (AExit × St)
  | .skip, S => some (.normal, S)
  | .ops gs l ks, S => ((ghosts gs S).bind (execOps F l)).map (killS ks)
  | .draw gs l fr ks, S => ((ghosts gs S).bind (drawF F l fr)).map (killS ks)
  | .seq x y, S => (exec F n x S).bind (seqF (exec F n y))
  | .cond c x y, S => condF (c.ev S.env) (exec F n x S) (exec F n y S)
  | .block id x, S => (exec F n x S).map (blockF id)
  | .loop ks x, S => loopN ks (exec F n x) n (norm ks S)
  | .exit id ks, S => some (.exit id, endS ks S)
  | .ret ks, S => some (.ret, endS ks S)

/-- The number of the first region. -/
def firstId : Code → Nat
  | .region id _ _ => id
  | .seq a _ => firstId a
  | .block _ b => firstId b
  | .loop b => firstId b
  | _ => 1000000

def comp (P : Program) (hs : Hints) : Code → Option ACode
  | .skip => some .skip
  | .region id ops false => (ops.toList.mapM (compOper P hs ops)).map fun l => .ops (killOf hs.ghost id) l (killOf hs.kill id)
  | .region id ops true => (ops.toList.mapM (compOper P hs ops)).bind fun l => if P.follows .mixedOrders && drawOk ops l then some (.draw (killOf hs.ghost id) l ((List.range ops.size).map (freesOf ops)) (killOf hs.kill id)) else none
  | .seq a b => match comp P hs a, comp P hs b with | some x, some y => some (.seq x y) | _, _ => none
  | .cond c t e => match opd c, comp P hs t, comp P hs e with | some z, some x, some y => some (.cond z x y) | _, _, _ => none
  | .block id b => (comp P hs b).map (.block id)
  | .loop b => (comp P hs b).map (.loop (killOf hs.loop (firstId b)))
  | .exit id => some (.exit id (killOf hs.exit id))
  | .ret => some (.ret hs.ret)
  | _ => none

def Done (C : Ctx) (e : AExit) (S : St) : Exit → Act → World → Prop := fun ex a w => ex = Out e ∧ ∃ ι R, Rel C S a w ι R

theorem execOps_ok (hF : FOK P F) {hs : Hints} {ops : Array Oper} {Q : Exit → Act → World → Prop} {S' : St} (hn : ∀ a w ι R, Rel C S' a w ι R → Q .normal a w) (hd : ∀ o ∈ ops.toList, ∀ d, o.dst = some d → d < C.n) :
    ∀ (l : List AOper) (k : Nat), (ops.toList.drop k).mapM (compOper P hs ops) = some l → ∀ (S : St) (a : Act) (w : World) (ι : Inj) (R : Nat → Prop), execOps F l S = some S' → Rel C S a w ι R → wpOps P ops Q (List.range' k (ops.size - k)) a w := by
  intro l
  induction l with
  | nil =>
    intro k hk S a w ι R h hr
    have hlen := (mapM_get hk).1
    simp at hlen
    have : ops.size - k = 0 := by simpa using hlen.symm
    rw [this]
    cases h
    exact hn a w ι R hr
  | cons x l ih =>
    intro k hk S a w ι R h hr
    obtain ⟨hl, hg⟩ := mapM_get hk
    have hlt : k < ops.size := by simp at hl; omega
    have hsz : ops.size - k = (ops.size - (k + 1)) + 1 := by omega
    have hok : ops[k]? = some ops[k] := Array.getElem?_eq_getElem hlt
    have hx := hg 0 ops[k] x (by simp [hlt]) rfl
    have hk' : (ops.toList.drop (k + 1)).mapM (compOper P hs ops) = some l := by
      have hdrop : ops.toList.drop k = ops[k] :: ops.toList.drop (k + 1) := by
        rw [List.drop_eq_getElem_cons (by simpa using hlt)]; simp
      rw [hdrop, List.mapM_cons] at hk
      simp only [Option.bind_eq_bind, Option.pure_def] at hk
      obtain ⟨y, _, hk⟩ := Option.bind_eq_some_iff.1 hk
      obtain ⟨ys, hys, hk⟩ := Option.bind_eq_some_iff.1 hk
      cases hk; exact hys
    have hmem : ops[k] ∈ ops.toList := by simp
    rw [hsz, List.range'_succ]
    simp only [wpOps, hok]
    have take : ∀ {x0 : AOp} {g : Option (Nat × Bool)}, compOp P ops[k].op = some x0 → x = ⟨ops[k].dst, hint hs ops[k].dst x0, g⟩ → (stepS F x S).bind (execOps F l) = some S' → ops[k].wp P a w (fun a' w' => wpOps P ops Q (List.range' (k + 1) (ops.size - (k + 1))) a' w') Q := by
      intro x0 g hop hxe hb
      obtain ⟨S1, h1, h2⟩ := Option.bind_eq_some_iff.1 hb
      obtain ⟨⟨v, H'⟩, h3, h4⟩ := Option.map_eq_some_iff.1 h1
      subst hxe
      subst h4
      exact step_ok hF hop (hd _ hmem) h3 hr fun a' w' ι' R' hr' => ih (k + 1) hk' _ a' w' ι' R' h2 hr'
    unfold compOper at hx
    split at hx
    · cases hx
    · rename_i op hop
      split at hx
      · rename_i hgd
        cases hx
        simp only [execOps] at h
        have hw : Region.wanted ops[k] (yielded ops a.tmps) = true := by simp [Region.wanted, hgd]
        rw [if_pos hw]
        exact .inl (take hop rfl h)
      · rename_i j b hgd
        obtain ⟨t, ht, hx⟩ := Option.map_eq_some_iff.1 hx
        cases hx
        simp only [execOps] at h
        split at h
        · rename_i c hc
          have hy : yielded ops a.tmps j = some c := by
            obtain ⟨u, h1, h2⟩ := hr.env t _ (look_mem hc)
            have := h2.bool_inv
            subst this
            have hlt : t < 1000000 := by
              obtain ⟨o', ho', ht'⟩ := Option.bind_eq_some_iff.1 ht
              exact Nat.lt_of_lt_of_le (hd o' (by have := (Array.getElem?_eq_some_iff.1 ho'); obtain ⟨q, rfl⟩ := this; simp) t ht') C.le
            simp only [slotV, if_pos hlt] at h1
            simp [yielded, ht, h1]
          have hw : Region.wanted ops[k] (yielded ops a.tmps) = (c == b) := by simp [Region.wanted, hgd, hy]
          by_cases hcb : c = b
          · rw [if_pos (by rw [hw]; simpa using hcb)]
            rw [if_pos hcb] at h
            exact .inl (take hop rfl h)
          · rw [if_neg (by rw [hw]; simpa using hcb)]
            rw [if_neg hcb] at h
            exact ih (k + 1) hk' _ _ _ _ _ h (hr.putO undef_va (hd _ hmem))
        · rename_i hc
          have hy : yielded ops a.tmps j = none := by
            obtain ⟨u, h1, h2⟩ := hr.env t _ (look_mem hc)
            have := h2.tup0_inv
            subst this
            have hlt : t < 1000000 := by
              obtain ⟨o', ho', ht'⟩ := Option.bind_eq_some_iff.1 ht
              exact Nat.lt_of_lt_of_le (hd o' (by have := (Array.getElem?_eq_some_iff.1 ho'); obtain ⟨q, rfl⟩ := this; simp) t ht') C.le
            simp only [slotV, if_pos hlt] at h1
            simp [yielded, ht, h1]
          have hw : Region.wanted ops[k] (yielded ops a.tmps) = false := by simp [Region.wanted, hgd, hy]
          rw [if_neg (by rw [hw]; simp)]
          exact ih (k + 1) hk' _ _ _ _ _ h (hr.putO undef_va (hd _ hmem))
        · cases h

theorem exec_ok (hF : FOK P F) {hs : Hints} {n : Nat} : ∀ (c : Code) {x : ACode} {S : St} {e : AExit} {S' : St} {a : Act} {w : World} {ι : Inj} {R : Nat → Prop}, comp P hs c = some x → slotsOk C.n c = true → exec F n x S = some (e, S') → Rel C S a w ι R →
    c.wp P (Done C e S') a w := by
  intro c
  induction c with
  | skip => intro x S e S' a w ι R hc _ h hr; simp only [comp, Option.some.injEq] at hc; subst hc; cases h; exact wp_skip ⟨rfl, ι, R, hr⟩
  | exit id => intro x S e S' a w ι R hc _ h hr; simp only [comp, Option.some.injEq] at hc; subst hc; cases h; exact wp_exit ⟨rfl, ι, R, hr.endS _⟩
  | ret => intro x S e S' a w ι R hc _ h hr; simp only [comp, Option.some.injEq] at hc; subst hc; cases h; exact wp_ret ⟨rfl, ι, R, hr.endS _⟩
  | region id ops d =>
    intro x S e S' a w ι R hc hs' h hr
    cases d with
    | false =>
      obtain ⟨l, hl, rfl⟩ := Option.map_eq_some_iff.1 hc
      simp only [exec] at h
      obtain ⟨S2, h, h3⟩ := Option.map_eq_some_iff.1 h
      obtain ⟨S1, h1, h2⟩ := Option.bind_eq_some_iff.1 h
      cases h3
      refine wp_region ?_
      obtain ⟨ι1, hr1⟩ := ghosts_ok h1 hr
      have := execOps_ok hF (C := C) (Q := Done C .normal ⟨killEnv (killOf hs.kill id) S2.env, S2.heap⟩) (fun a' w' ι' R' h2 => ⟨rfl, ι', R', h2.kill _⟩) (slots_region hs') l 0 (by simpa using hl) S1 a w ι1 R h2 hr1
      rw [List.range_eq_range']
      simpa using this
    | true =>
      obtain ⟨l, hl, hc⟩ := Option.bind_eq_some_iff.1 hc
      split at hc
      · rename_i hok
        cases hc
        simp only [exec] at h
        obtain ⟨S2, h, h3⟩ := Option.map_eq_some_iff.1 h
        obtain ⟨S1, h1, h2⟩ := Option.bind_eq_some_iff.1 h
        cases h3
        obtain ⟨ι1, hr1⟩ := ghosts_ok h1 hr
        exact draw_ok hF hl hok (slots_region hs') (fun a' w' ι' R' h2 => ⟨rfl, ι', R', h2.kill _⟩) h2 hr1
      · cases hc
  | seq c1 c2 ih1 ih2 =>
    intro x S e S' a w ι R hc hs' h hr
    simp only [comp] at hc
    split at hc
    · rename_i x1 x2 h1 h2
      cases hc
      simp only [slotsOk, Bool.and_eq_true] at hs'
      simp only [exec] at h
      obtain ⟨⟨e1, S1⟩, h3, h4⟩ := Option.bind_eq_some_iff.1 h
      refine wp_seq (wp_mono (ih1 h1 hs'.1 h3 hr) ?_)
      rintro ex a' w' ⟨rfl, ι', R', hr'⟩
      cases e1 with
      | normal => exact ih2 h2 hs'.2 h4 hr'
      | exit i => cases h4; exact ⟨rfl, ι', R', hr'⟩
      | ret => cases h4; exact ⟨rfl, ι', R', hr'⟩
    · cases hc
  | cond c t el ih1 ih2 =>
    intro x S e S' a w ι R hc hs' h hr
    simp only [comp] at hc
    split at hc
    · rename_i z x1 x2 h0 h1 h2
      cases hc
      simp only [slotsOk, Bool.and_eq_true] at hs'
      simp only [exec] at h
      have hv := hr.ev h0
      unfold condF at h
      split at h
      · rename_i b hb
        rw [hb] at hv
        refine wp_cond_split hv.bool_inv (fun hb' => ih1 h1 hs'.1 (by rw [if_pos hb'] at h; exact h) hr) (fun hb' => ih2 h2 hs'.2 (by rw [if_neg (by simp [hb'])] at h; exact h) hr)
      · cases h
    · cases hc
  | block id b ih =>
    intro x S e S' a w ι R hc hs' h hr
    obtain ⟨y, hy, rfl⟩ := Option.map_eq_some_iff.1 hc
    simp only [exec] at h
    obtain ⟨⟨e1, S1⟩, h1, h2⟩ := Option.map_eq_some_iff.1 h
    refine wp_block (wp_mono (ih hy hs' h1 hr) ?_)
    rintro ex a' w' ⟨rfl, ι', R', hr'⟩
    cases e1 with
    | normal => cases h2; exact ⟨rfl, ι', R', hr'⟩
    | exit i =>
      simp only [blockF] at h2
      simp only [Out, Exit.inBlock]
      split
      · rename_i e; rw [if_pos e] at h2; cases h2; exact ⟨rfl, ι', R', hr'⟩
      · rename_i e; rw [if_neg e] at h2; cases h2; exact ⟨rfl, ι', R', hr'⟩
    | ret => cases h2; exact ⟨rfl, ι', R', hr'⟩
  | loop b ih =>
    intro x S e S' a w ι R hc hs' h hr
    obtain ⟨y, hy, rfl⟩ := Option.map_eq_some_iff.1 hc
    simp only [exec] at h
    refine wp_loop_ghost (fun k a w => ∃ S ι R, loopN (killOf hs.loop (firstId b)) (exec F n y) k S = some (e, S') ∧ Rel C S a w ι R) n ⟨_, ι, R, h, hr.norm _⟩ ?_
    rintro k a1 w1 ⟨S1, ι1, R1, h1, hr1⟩
    cases k with
    | zero => simp [loopN] at h1
    | succ k =>
      simp only [loopN] at h1
      obtain ⟨⟨e2, S2⟩, h2, h3⟩ := Option.bind_eq_some_iff.1 h1
      refine wp_mono (ih hy hs' h2 hr1) ?_
      rintro ex a' w' ⟨rfl, ι', R', hr'⟩
      cases e2 with
      | normal => exact ⟨k, by omega, _, ι', R', h3, hr'.norm _⟩
      | exit i => cases h3; exact ⟨rfl, ι', R', hr'⟩
      | ret => cases h3; exact ⟨rfl, ι', R', hr'⟩
  | _ => intro x S e S' a w ι R hc; simp [comp] at hc

end Go.Sim
