/-
  Code, and one operation: what it does to abstract states, calls included.
-/
import Derived.Test.YtadnfmkdmknmhaaBab75085
import Derived.RegionTactic
set_option linter.unusedSimpArgs false
set_option linter.unusedVariables false
namespace Go.Sim
open Go (World Value Addr TypeId Act)
inductive ACode where
  | skip
  | ops (gs : List Nat) (l : List AOper) (kill : List Nat)
  | draw (gs : List Nat) (l : List AOper) (fr : List (List Nat)) (kill : List Nat)
  | seq (a b : ACode)
  | cond (c : Opd) (t e : ACode)
  | block (id : Nat) (b : ACode)
  | loop (kill : List Nat) (b : ACode)
  | exit (id : Nat) (keep : List Nat)
  | ret (keep : List Nat)
structure Hints where
  kill : List (Nat × List Nat) := []
  ghost : List (Nat × List Nat) := []
  obj : List (Nat × List Bool) := []
  acc : List Nat := []
  loop : List (Nat × List Nat) := []
  exit : List (Nat × List Nat) := []
  ret : List Nat := []
def flagsOf (hs : Hints) (dst : Option Nat) : List Bool := match dst with | some d => (look d hs.obj).getD [] | none => []
def accAt (hs : Hints) (dst : Option Nat) : Bool := match dst with | some d => hs.acc.contains d | none => false
def isNilX : AOp → Bool
  | .mv (.c (.xsl [])) => true
  | _ => false
def hint (hs : Hints) (dst : Option Nat) (x : AOp) : AOp :=
  match x with
  | .call f _ xs => .call f (flagsOf hs dst) xs
  | .callv f _ xs => .callv f (flagsOf hs dst) xs
  | x => if isNilX x && accAt hs dst then .nacc else x
def compOper (P : Program) (hs : Hints) (ops : Array Oper) (o : Oper) : Option AOper :=
  match compOp P o.op with
  | none => none
  | some x =>
    match o.guard with
    | none => some ⟨o.dst, hint hs o.dst x, none⟩
    | some (j, b) => ((ops[j]?).bind (·.dst)).map fun t => ⟨o.dst, hint hs o.dst x, some (t, b)⟩
def killOf (K : List (Nat × List Nat)) (id : Nat) : List Nat := (look id K).getD []
def killEnv (ks : List Nat) : Env → Env
  | [] => []
  | (t, x) :: l => if ks.contains t then killEnv ks l else (t, x) :: killEnv ks l
def St.put (S : St) (dst : Option Nat) (v : AV) : St := match dst with | none => S | some d => ⟨setAt d v S.env, S.heap⟩
inductive AExit where
  | normal
  | exit (id : Nat)
  | ret
variable {P : Program} {C : Ctx}
def Out (e : AExit) : Exit := match e with | .normal => .normal | .exit i => .exit i | .ret => .ret
theorem mem_killEnv {ks : List Nat} {E : Env} {p : Nat × AV} (h : p ∈ killEnv ks E) : p ∈ E := by
  induction E with
  | nil => cases h
  | cons q l ih =>
    obtain ⟨t, x⟩ := q
    simp only [killEnv] at h
    split at h
    · exact .tail _ (ih h)
    · cases h with
      | head => exact .head _
      | tail _ h => exact .tail _ (ih h)
theorem Rel.kill {S : St} {a : Act} {w : World} {ι : Inj} {R : Nat → Prop} (h : Rel C S a w ι R) (ks : List Nat) : Rel C ⟨killEnv ks S.env, S.heap⟩ a w ι R := h.weaken fun _ _ hx => mem_killEnv hx
theorem Rel.putO {S : St} {a : Act} {w : World} {ι : Inj} {R : Nat → Prop} (h : Rel C S a w ι R) {v : AV} {u : Value} (hv : VA w R ι (mark S.heap) v u) {dst : Option Nat} (hd : ∀ d, dst = some d → d < C.n) :
    Rel C (S.put dst v) (a.put dst u) w ι R := by
  cases dst with
  | none => exact h.put_none u
  | some d => exact h.put hv (hd d rfl)
theorem run_callFunc {f : FuncId} (h : callable P f = true) (args : Array Value) (w : World) : (callFunc f args).run P w = .ok (.enter f args) w := by
  unfold callable at h
  cases hf : P.funcs[f]? with
  | none => simp [hf] at h
  | some fn =>
    simp only [hf, Bool.and_eq_true, Bool.not_eq_true'] at h
    have h1 : ¬ fn.name = "runtime.NumGoroutine" := by simpa using h.2
    have h2 : ¬ fn.body = none := by
      intro e
      have := h.1
      rw [e] at this; cases this
    simp [callFunc, hf, h1, h2]
theorem compOp_call {op : Op} {f : FuncId} {ms : List Bool} {xs : List Opd} (h : compOp P op = some (.call f ms xs)) : ∃ c : Call, op = .call c ∧ c.callee = .value (.func f) ∧ ms = [] ∧ callable P f = true ∧ c.args.toList.mapM opd = some xs := by
  cases op with
  | call c =>
    simp only [compOp] at h
    split at h
    · rename_i g hcal
      split at h
      · rename_i hcf
        obtain ⟨ys, hys, h⟩ := Option.bind_eq_some_iff.1 h
        cases h
        exact ⟨c, rfl, hcal, rfl, hcf, hys⟩
      · obtain ⟨ys, hys, h⟩ := Option.bind_eq_some_iff.1 h
        rcases atomOp_inv h with ⟨_, _, _, e⟩ | ⟨_, _, _, _, e⟩ | ⟨_, _, _, _, _, e⟩ <;> cases e
    all_goals (exfalso; revert h; (repeat' split) <;> simp [Option.bind_eq_some_iff])
  | makeFunc fn a b =>
    exfalso; revert h
    cases fn <;> simp only [compOp] <;> (repeat' split) <;> simp [Option.bind_eq_some_iff]
  | _ =>
    exfalso; revert h
    simp only [compOp]
    (repeat' split) <;> simp [Option.bind_eq_some_iff, Option.map_eq_some_iff]
theorem compOp_callv {op : Op} {y : Opd} {ms : List Bool} {xs : List Opd} (h : compOp P op = some (.callv y ms xs)) : ∃ (c : Call) (f : Nat), op = .call c ∧ y = .t f ∧ c.callee = .value (.tmp f) ∧ ms = [] ∧ f < 1000000 ∧ c.args.toList.mapM opd = some xs := by
  cases op with
  | call c =>
    simp only [compOp] at h
    split at h
    · exfalso
      split at h
      · revert h; simp [Option.bind_eq_some_iff]
      · obtain ⟨ys, hys, h⟩ := Option.bind_eq_some_iff.1 h
        rcases atomOp_inv h with ⟨_, _, _, e⟩ | ⟨_, _, _, _, e⟩ | ⟨_, _, _, _, _, e⟩ <;> cases e
    · rename_i g hcal
      split at h
      · rename_i hlt
        obtain ⟨ys, hys, h⟩ := Option.bind_eq_some_iff.1 h
        cases h
        exact ⟨c, g, rfl, rfl, hcal, rfl, hlt, hys⟩
      · cases h
    all_goals (exfalso; revert h; (repeat' split) <;> simp [Option.bind_eq_some_iff])
  | makeFunc fn a b =>
    exfalso; revert h
    cases fn <;> simp only [compOp] <;> (repeat' split) <;> simp [Option.bind_eq_some_iff]
  | _ =>
    exfalso; revert h
    simp only [compOp]
    (repeat' split) <;> simp [Option.bind_eq_some_iff, Option.map_eq_some_iff]
theorem atomOp_no1 {k : Nat} {xs : List Opd} {ng : Bool} {y : Opd} : ¬ atomOp k xs = some (.nileq ng y) := fun h => by
  rcases atomOp_inv h with ⟨_, _, _, e⟩ | ⟨_, _, _, _, e⟩ | ⟨_, _, _, _, _, e⟩ <;> cases e
theorem atomOp_no2 {k : Nat} {xs : List Opd} {y : Opd} : ¬ atomOp k xs = some (.mv y) := fun h => by
  rcases atomOp_inv h with ⟨_, _, _, e⟩ | ⟨_, _, _, _, e⟩ | ⟨_, _, _, _, _, e⟩ <;> cases e
theorem compOp_nileq {op : Op} {ng : Bool} {y : Opd} (h : compOp P op = some (.nileq ng y)) : ∃ (b : BinOp) (t e u : TypeId) (x q : Operand), op = .binOp b t x q u ∧ b = (if ng then .neq else .eql) ∧ P.underlying t = some (.slice e) ∧ opd x = some y ∧ isNilC q = true := by
  cases op with
  | call c => exfalso; revert h; simp only [compOp]; (repeat' split) <;> simp [Option.bind_eq_some_iff, atomOp_no1]
  | makeFunc fn a b =>
    exfalso; revert h
    cases fn <;> simp only [compOp] <;> (repeat' split) <;> simp [Option.bind_eq_some_iff]
  | binOp b t x q u =>
    simp only [compOp] at h
    split at h
    · exfalso; revert h; simp [Option.bind_eq_some_iff]
    · exfalso; revert h; simp [Option.bind_eq_some_iff]
    · exfalso; revert h; (repeat' split) <;> simp [Option.bind_eq_some_iff]
    · exfalso; revert h; (repeat' split) <;> simp [Option.bind_eq_some_iff]
    · exfalso; revert h; (repeat' split) <;> simp [Option.bind_eq_some_iff]
    · rename_i e hu
      split at h
      · rename_i hq
        split at h
        · obtain ⟨z, hz, h⟩ := Option.map_eq_some_iff.1 h
          cases h
          exact ⟨_, t, e, u, x, q, rfl, rfl, hu, hz, hq⟩
        · obtain ⟨z, hz, h⟩ := Option.map_eq_some_iff.1 h
          cases h
          exact ⟨_, t, e, u, x, q, rfl, rfl, hu, hz, hq⟩
        · cases h
      · cases h
    · cases h
  | _ =>
    exfalso; revert h
    simp only [compOp]
    (repeat' split) <;> simp [Option.bind_eq_some_iff, Option.map_eq_some_iff]
def callS (H : Heap) (x : Option (AV × Heap)) : Option (AV × Heap) := x.map fun p => (p.1, putsH p.2 H)
def callvA (F : Sem1) (E : Env) (H : Heap) (dst : Nat) (ms : List Bool) (f : AV) (args : List AV) : Option (AV × Heap) :=
  match f with
  | .d (.fn g cs) => callA F E H dst ms g (args ++ cs.map .d)
  | .fn g cs => callA F E H dst ms g (args ++ cs)
  | _ => none
def nileqA (H : Heap) (ng : Bool) (x : AV) : Option (AV × Heap) :=
  match x with
  | .nl b => some (.d (.bool (if ng then !b else b)), H)
  | x => match slD x with
    | some (_ :: _) => some (.d (.bool ng), H)
    | _ => none
def step (F : Sem1) (E : Env) (H : Heap) (dst : Nat) : AOp → Option (AV × Heap)
  | .call f ms xs => callS H (callA F E H dst ms f (xs.map (·.ev E)))
  | .callv f ms xs => callS H (callvA F E H dst ms (f.ev E) (xs.map (·.ev E)))
  | .nileq ng x => nileqA H ng (x.ev E)
  | op => astep E H dst op
theorem isNilX_eq {x : AOp} (h : isNilX x = true) : x = .mv (.c (.xsl [])) := by
  unfold isNilX at h
  split at h
  · rfl
  · cases h
theorem compOp_nil {op : Op} (h : compOp P op = some (.mv (.c (.xsl [])))) : ∃ y, (op = .move y ∨ op = .assign y) ∧ opd y = some (.c (.xsl [])) := by
  cases op with
  | move y => simp only [compOp, Option.map_eq_some_iff] at h; obtain ⟨z, h1, h2⟩ := h; cases h2; exact ⟨y, .inl rfl, h1⟩
  | assign y => simp only [compOp, Option.map_eq_some_iff] at h; obtain ⟨z, h1, h2⟩ := h; cases h2; exact ⟨y, .inr rfl, h1⟩
  | makeFunc fn a b =>
    exfalso; revert h
    cases fn <;> simp only [compOp] <;> (repeat' split) <;> simp [Option.bind_eq_some_iff]
  | _ =>
    exfalso; revert h
    simp only [compOp]
    (repeat' split) <;> simp [Option.bind_eq_some_iff, Option.map_eq_some_iff, atomOp_no2]
theorem opd_nil {y : Operand} (h : opd y = some (.c (.xsl []))) : ∃ v, y = .const v ∧ v = .slice none 0 0 := by
  cases y with
  | tmp t => simp only [opd] at h; split at h <;> cases h
  | const v =>
    refine ⟨v, rfl, ?_⟩
    simp only [opd] at h
    split at h
    · cases h
    · obtain ⟨x, h1, h2⟩ := Option.map_eq_some_iff.1 h
      cases h2
      unfold constV at h1
      split at h1
      · obtain ⟨ds, _, h2⟩ := Option.map_eq_some_iff.1 h1
        unfold AV.mkAgg at h2
        split at h2 <;> cases h2
      · unfold cell1 at h1
        split at h1
        · split at h1 <;> cases h1
        · cases h1
        · split at h1 <;> cases h1
        · rfl
        · cases h1
  | global g => cases h
  | func f => cases h
theorem step_ok {F : Sem1} (hF : FOK P F) {o : Oper} {x0 : AOp} {hs : Hints} {S : St} {a : Act} {w : World} {ι : Inj} {R : Nat → Prop} {v : AV} {H' : Heap} {next : Act → World → Prop} {Q : Exit → Act → World → Prop}
    (hc : compOp P o.op = some x0) (hd : ∀ d, o.dst = some d → d < C.n) (h : step F S.env S.heap (o.dst.getD 0) (hint hs o.dst x0) = some (v, H')) (hr : Rel C S a w ι R)
    (hn : ∀ a' w' ι' R', Rel C (St.put ⟨S.env, H'⟩ o.dst v) a' w' ι' R' → next a' w') : o.wp P a w next Q := by
  have calls : ∀ (f : FuncId) (ms : List Bool) (xs : List AV) (us : List Value), (execOp a.eval o).run P w = .ok (.enter f us.toArray) w → VAs w R ι (mark S.heap) xs us → callS S.heap (callA F S.env S.heap (o.dst.getD 0) ms f xs) = some (v, H') → o.wp P a w next Q := by
    intro f ms xs us he hv hw
    obtain ⟨⟨v', δ⟩, h1, h2⟩ := Option.map_eq_some_iff.1 hw
    cases h2
    unfold Oper.wp
    rw [he]
    refine (callA_ok hF h1 hr hv).mono fun e w' hh => ?_
    obtain ⟨u, ι', R', rfl, hr', hv'⟩ := hh
    exact hn _ _ _ _ (hr'.putO hv' hd)
  have simple : ∀ {x : AOp}, Good C S a v H' ((execOp a.eval o).run P w) → o.wp P a w next Q := by
    intro x hg
    obtain ⟨u, w', ι', R', hrun, hr', hv'⟩ := hg
    have hfin := hn _ _ _ _ (hr'.putO hv' hd)
    unfold Oper.wp
    rcases hrun with hrun | ⟨hrun, rfl⟩ <;> rw [hrun] <;> exact hfin
  have plain : ∀ {x : AOp}, (if isNilX x && accAt hs o.dst then AOp.nacc else x) = hint hs o.dst x0 → x = x0 → step F S.env S.heap (o.dst.getD 0) x = astep S.env S.heap (o.dst.getD 0) x → o.wp P a w next Q := by
    intro x e1 e2 hst
    subst e2
    rw [← e1] at h
    split at h
    · rename_i hnil
      simp only [Bool.and_eq_true] at hnil
      have hx := isNilX_eq hnil.1
      rw [hx] at hc
      obtain ⟨y, hop, hy⟩ := compOp_nil hc
      obtain ⟨cv, rfl, rfl⟩ := opd_nil hy
      simp only [step, astep] at h
      split at h
      · rename_i hu
        cases h
        refine simple (x := .nacc) ⟨.slice none 0 0, w, clr ι (o.dst.getD 0), R, .inl ?_, hr.newNone hu, .acc0⟩
        rcases hop with hop | hop <;> simp [execOp, hop, Act.eval]
      · cases h
    · rw [hst] at h
      exact simple (x := x) (astep_ok hc hr h)
  cases x0 with
  | call f ms xs =>
    obtain ⟨c, hop, hcal, _, hcf, hxs⟩ := compOp_call hc
    obtain ⟨hl, hg⟩ := ev_list hr hxs
    refine calls f _ _ (c.args.toList.map a.eval) ?_ ⟨hl, hg⟩ h
    have e : (c.args.toList.map a.eval).toArray = c.args.map a.eval := by apply Array.ext'; simp
    simp [execOp, hop, resolve, hcal, Act.eval, Deferred.ofValue, invoke, run_callFunc hcf, e]
  | callv y ms xs =>
    obtain ⟨c, f, hop, rfl, hcal, _, hflt, hxs⟩ := compOp_callv hc
    obtain ⟨hl, hg⟩ := ev_list hr hxs
    have hfv := hr.ev (show opd (.tmp f) = some (.t f) by simp only [opd, if_pos hflt])
    have fin : ∀ (g : FuncId) (cs : List AV), (∃ vs : List Value, a.eval (.tmp f) = .func (.func g) #[] vs.toArray ∧ VAs w R ι (mark S.heap) cs vs) → callS S.heap (callA F S.env S.heap (o.dst.getD 0) (flagsOf hs o.dst) g (xs.map (·.ev S.env) ++ cs)) = some (v, H') → o.wp P a w next Q := by
      rintro g cs ⟨vs, hfe, hvl, hvg⟩ hw
      have hcf : callable P g = true := by
        obtain ⟨⟨v', δ⟩, h1, _⟩ := Option.map_eq_some_iff.1 hw
        exact callA_callable hF h1
      refine calls g _ _ (c.args.toList.map a.eval ++ vs) ?_ ⟨by rw [List.length_append, List.length_append, hl, hvl], fun i x u h1 h2 => ?_⟩ hw
      · have e : (c.args.toList.map a.eval ++ vs).toArray = c.args.map a.eval ++ vs.toArray := by apply Array.ext'; simp
        simp [execOp, hop, resolve, hcal, hfe, Deferred.ofValue, invoke, run_callFunc hcf, e]
      · by_cases hi : i < (xs.map (·.ev S.env)).length
        · rw [List.getElem?_append_left hi] at h1
          rw [List.getElem?_append_left (by omega)] at h2
          exact hg i x u h1 h2
        · rw [List.getElem?_append_right (by omega)] at h1
          rw [List.getElem?_append_right (by omega), hl] at h2
          exact hvg _ x u h1 h2
    simp only [hint, step, callvA] at h
    generalize hfe : Opd.ev S.env (.t f) = fa at h hfv
    generalize hfa : a.eval (.tmp f) = fv at hfv
    split at h
    · rename_i g cs
      cases hfv with
      | d hd =>
        cases hd with
        | fn hl' hg' => exact fin g _ ⟨_, hfa, by simpa using hl', fun i x u k1 k2 => by
            rw [List.getElem?_map] at k1
            obtain ⟨y, k3, rfl⟩ := Option.map_eq_some_iff.1 k1
            exact .d (hg' i y u k3 k2)⟩ h
    · rename_i g cs
      cases hfv with
      | fn hl' hg' => exact fin g _ ⟨_, hfa, hl', hg'⟩ h
    · cases h
  | nileq ng y =>
    obtain ⟨b, t, e, u, x, q, hop, hb, hu, hy, hq⟩ := compOp_nileq hc
    have hv := hr.ev hy
    simp only [hint, isNilX, Bool.false_and, Bool.false_eq_true, if_false, step, nileqA] at h
    have hqv : ∃ l c, a.eval q = .slice none l c := by
      unfold isNilC at hq
      split at hq
      · exact ⟨_, _, rfl⟩
      · cases hq
    obtain ⟨ql, qc, hqv⟩ := hqv
    split at h
    · rename_i b0 hnl
      cases h
      rw [hnl] at hv
      generalize hav : a.eval x = av at hv
      cases hv with
      | nl1 =>
        have heq : ∀ cap, (Op.equal t (.slice none 0 cap) (.slice none ql qc)).run P w = .ok true w := by
          intro cap
          unfold Op.equal
          rw [show Op.maxDepth = 9999 + 1 from rfl]
          unfold Op.equalIn
          simp only [Sem.run_bind, run_underlying hu, Result.andThen_ok]
          simp
        refine simple (x := .nacc) (Good.same hr (.d .bool) (u := .bool (if ng = true then !true else true)) ?_)
        cases ng <;> simp at hb <;> subst hb <;> simp [execOp, hop, hav, hqv, eqGuard, Go.binOp, heq]
      | nl2 =>
        have heq : ∀ ad cap, (Op.equal t (.slice (some ad) 0 cap) (.slice none ql qc)).run P w = .ok false w := by
          intro ad cap
          unfold Op.equal
          rw [show Op.maxDepth = 9999 + 1 from rfl]
          unfold Op.equalIn
          simp only [Sem.run_bind, run_underlying hu, Result.andThen_ok]
          simp
        refine simple (x := .nacc) (Good.same hr (.d .bool) (u := .bool (if ng = true then !false else false)) ?_)
        cases ng <;> simp at hb <;> subst hb <;> simp [execOp, hop, hav, hqv, eqGuard, Go.binOp, heq]
    split at h
    · rename_i d0 ds hsl
      cases h
      have fin : ∀ (ad : Addr) (l cap : Nat), a.eval x = .slice (some ad) l cap → o.wp P a w next Q := by
        intro ad l cap hav
        have heq : (Op.equal t (.slice (some ad) l cap) (.slice none ql qc)).run P w = .ok false w := by
          unfold Op.equal
          rw [show Op.maxDepth = 9999 + 1 from rfl]
          unfold Op.equalIn
          simp only [Sem.run_bind, run_underlying hu, Result.andThen_ok]
          simp
        refine simple (x := .nacc) (Good.same hr (.d .bool) (u := .bool ng) ?_)
        cases ng <;> simp at hb <;> subst hb <;> simp [execOp, hop, hav, hqv, eqGuard, Go.binOp, heq]
      generalize hpa : y.ev S.env = pa at hv hsl
      generalize hav : a.eval x = av at hv
      have data : ∀ {es : List D}, slD pa = some es → Rd w R (.v (.sl es) av) → o.wp P a w next Q := by
        intro es he hrd
        rw [he] at hsl
        cases hsl
        obtain ⟨b', off, s, cap, rfl, _⟩ := hrd.sl_inv (by simp)
        exact fin _ _ _ hav
      cases hv with
      | d hv =>
        rename_i dx
        cases dx with
        | sl es => exact data rfl hv
        | _ => simp [slD] at hsl
      | xsl hv => exact data rfl hv
      | accR => exact fin _ _ _ hav
      | accC => exact fin _ _ _ hav
      | acc0 => simp [slD] at hsl
      | _ => simp [slD] at hsl
    · cases h
  | _ => exact plain rfl rfl rfl
end Go.Sim
