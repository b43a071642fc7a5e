/-
  Part of the calculus in which the claim is proved: An array that was appended to becomes one that is written, a
-/
import Derived.Test.YtcjncbkhbllchaaGreatB1a946b8
import Derived.RegionTactic
set_option linter.unusedSimpArgs false
set_option linter.unusedVariables false
set_option maxHeartbeats 10000000
set_option maxRecDepth 100000
namespace Go.Sim
open Go (World Value Addr TypeId Act)
inductive ACode where
 | skip
 | ops (gs : List Nat) (l : List AOper) (kill : List Nat)
 | draw (gs : List Nat) (l : List AOper) (fr : List (List Nat)) (kill : List Nat)
 | seq (a b : ACode)
 | cond (c : Opd) (t e : ACode)
 | block (id : Nat) (b : ACode)
 | loop (kill : List Nat) (b : ACode)
 | exit (id : Nat) (keep : List Nat)
 | ret (keep : List Nat)
structure Hints where
 kill : List (Nat × List Nat) := []
 ghost : List (Nat × List Nat) := []
 obj : List (Nat × List Bool) := []
 acc : List Nat := []
 loop : List (Nat × List Nat) := []
 exit : List (Nat × List Nat) := []
 ret : List Nat := []
def flagsOf (hs : Hints) (dst : Option Nat) : List Bool := match dst with | some d => (look d hs.obj).getD [] | none => []
def accAt (hs : Hints) (dst : Option Nat) : Bool := match dst with | some d => hs.acc.contains d | none => false
def isNilX : AOp → Bool
 | .mv (.c (.xsl [])) => true
 | _ => false
def hint (hs : Hints) (dst : Option Nat) (x : AOp) : AOp :=
 match x with
 | .call f _ xs => .call f (flagsOf hs dst) xs
 | .callv f _ xs => .callv f (flagsOf hs dst) xs
 | x => if isNilX x && accAt hs dst then .nacc else x
def compOper (P : Program) (hs : Hints) (ops : Array Oper) (o : Oper) : Option AOper :=
 match compOp P o.op with
 | none => none
 | some x =>
  match o.guard with
  | none => some ⟨o.dst, hint hs o.dst x, none⟩
  | some (j, b) => ((ops[j]?).bind (·.dst)).map fun t => ⟨o.dst, hint hs o.dst x, some (t, b)⟩
def killOf (K : List (Nat × List Nat)) (id : Nat) : List Nat := (look id K).getD []
def killEnv (ks : List Nat) : Env → Env
 | [] => []
 | (t, x) :: l => if ks.contains t then killEnv ks l else (t, x) :: killEnv ks l
def St.put (S : St) (dst : Option Nat) (v : AV) : St := match dst with | none => S | some d => ⟨setAt d v S.env, S.heap⟩
inductive AExit where
 | normal
 | exit (id : Nat)
 | ret
variable {P : Program} {C : Ctx}
def Out (e : AExit) : Exit := match e with | .normal => .normal | .exit i => .exit i | .ret => .ret
theorem zy1 {ks : List Nat} {E : Env} {p : Nat × AV} (h : p ∈ killEnv ks E) : p ∈ E := by
 induction E with
 | nil => cases h
 | cons q l ih =>
  obtain ⟨t, x⟩ := q
  simp only [killEnv] at h
  split at h
  · exact .tail _ (ih h)
  · cases h with
    | head => exact .head _
    | tail _ h => exact .tail _ (ih h)
theorem Rel.kill {S : St} {a : Act} {w : World} {ι : Inj} {R : Nat → Prop} (h : Rel C S a w ι R) (ks : List Nat) : Rel C ⟨killEnv ks S.env, S.heap⟩ a w ι R := h.weaken fun _ _ hx => zy1 hx
theorem Rel.putO {S : St} {a : Act} {w : World} {ι : Inj} {R : Nat → Prop} (h : Rel C S a w ι R) {v : AV} {u : Value} (hv : VA w R ι (mark S.heap) v u) {dst : Option Nat} (hd : ∀ d, dst = some d → d < C.n) :
    Rel C (S.put dst v) (a.put dst u) w ι R := by
 cases dst with
 | none => exact h.put_none u
 | some d => exact h.put hv (hd d rfl)
theorem zsW {f : FuncId} (h : callable P f = true) (args : Array Value) (w : World) : (callFunc f args).run P w = .ok (.enter f args) w := by
 unfold callable at h
 cases hf : P.funcs[f]? with
 | none => simp [hf] at h
 | some fn =>
  simp only [hf, Bool.and_eq_true, Bool.not_eq_true'] at h
  have h1 : ¬ fn.name = "runtime.NumGoroutine" := by simpa using h.2
  have h2 : ¬ fn.body = none := by
   intro e
   have := h.1
   rw [e] at this; cases this
  simp [callFunc, hf, h1, h2]
theorem zus {op : Op} {f : FuncId} {ms : List Bool} {xs : List Opd} (h : compOp P op = some (.call f ms xs)) : ∃ c : Call, op = .call c ∧ c.callee = .value (.func f) ∧ ms = [] ∧ callable P f = true ∧ c.args.toList.mapM opd = some xs := by
 cases op with
 | call c =>
  simp only [compOp] at h
  split at h
  · rename_i g hcal
    split at h
    · rename_i hcf
      obtain ⟨ys, hys, h⟩ := Option.bind_eq_some_iff.1 h
      cases h
      exact ⟨c, rfl, hcal, rfl, hcf, hys⟩
    · obtain ⟨ys, hys, h⟩ := Option.bind_eq_some_iff.1 h
      rcases znN h with ⟨_, _, _, e⟩ | ⟨_, _, _, _, e⟩ | ⟨_, _, _, _, _, e⟩ <;> cases e
  all_goals (exfalso; revert h; (repeat' split) <;> simp [Option.bind_eq_some_iff])
 | makeFunc fn a b =>
  exfalso; revert h
  cases fn <;> simp only [compOp] <;> (repeat' split) <;> simp [Option.bind_eq_some_iff]
 | _ =>
  exfalso; revert h
  simp only [compOp]
  (repeat' split) <;> simp [Option.bind_eq_some_iff, Option.map_eq_some_iff]
theorem zut {op : Op} {y : Opd} {ms : List Bool} {xs : List Opd} (h : compOp P op = some (.callv y ms xs)) : ∃ (c : Call) (f : Nat), op = .call c ∧ y = .t f ∧ c.callee = .value (.tmp f) ∧ ms = [] ∧ f < 1000000 ∧ c.args.toList.mapM opd = some xs := by
 cases op with
 | call c =>
  simp only [compOp] at h
  split at h
  · exfalso
    split at h
    · revert h; simp [Option.bind_eq_some_iff]
    · obtain ⟨ys, hys, h⟩ := Option.bind_eq_some_iff.1 h
      rcases znN h with ⟨_, _, _, e⟩ | ⟨_, _, _, _, e⟩ | ⟨_, _, _, _, _, e⟩ <;> cases e
  · rename_i g hcal
    split at h
    · rename_i hlt
      obtain ⟨ys, hys, h⟩ := Option.bind_eq_some_iff.1 h
      cases h
      exact ⟨c, g, rfl, rfl, hcal, rfl, hlt, hys⟩
    · cases h
  all_goals (exfalso; revert h; (repeat' split) <;> simp [Option.bind_eq_some_iff])
 | makeFunc fn a b =>
  exfalso; revert h
  cases fn <;> simp only [compOp] <;> (repeat' split) <;> simp [Option.bind_eq_some_iff]
 | _ =>
  exfalso; revert h
  simp only [compOp]
  (repeat' split) <;> simp [Option.bind_eq_some_iff, Option.map_eq_some_iff]
theorem ztT {k : Nat} {xs : List Opd} {ng : Bool} {y : Opd} : ¬ atomOp k xs = some (.nileq ng y) := fun h => by
 rcases znN h with ⟨_, _, _, e⟩ | ⟨_, _, _, _, e⟩ | ⟨_, _, _, _, _, e⟩ <;> cases e
theorem ztU {k : Nat} {xs : List Opd} {y : Opd} : ¬ atomOp k xs = some (.mv y) := fun h => by
 rcases znN h with ⟨_, _, _, e⟩ | ⟨_, _, _, _, e⟩ | ⟨_, _, _, _, _, e⟩ <;> cases e
theorem zuv {op : Op} {ng : Bool} {y : Opd} (h : compOp P op = some (.nileq ng y)) : ∃ (b : BinOp) (t e u : TypeId) (x q : Operand), op = .binOp b t x q u ∧ b = (if ng then .neq else .eql) ∧ P.underlying t = some (.slice e) ∧ opd x = some y ∧ isNilC q = true := by
 cases op with
 | call c => exfalso; revert h; simp only [compOp]; (repeat' split) <;> simp [Option.bind_eq_some_iff, ztT]
 | makeFunc fn a b =>
  exfalso; revert h
  cases fn <;> simp only [compOp] <;> (repeat' split) <;> simp [Option.bind_eq_some_iff]
 | binOp b t x q u =>
  simp only [compOp] at h
  split at h
  · exfalso; revert h; simp [Option.bind_eq_some_iff]
  · exfalso; revert h; simp [Option.bind_eq_some_iff]
  · exfalso; revert h; (repeat' split) <;> simp [Option.bind_eq_some_iff]
  · exfalso; revert h; (repeat' split) <;> simp [Option.bind_eq_some_iff]
  · exfalso; revert h; (repeat' split) <;> simp [Option.bind_eq_some_iff]
  · rename_i e hu
    split at h
    · rename_i hq
      split at h
      · obtain ⟨z, hz, h⟩ := Option.map_eq_some_iff.1 h
        cases h
        exact ⟨_, t, e, u, x, q, rfl, rfl, hu, hz, hq⟩
      · obtain ⟨z, hz, h⟩ := Option.map_eq_some_iff.1 h
        cases h
        exact ⟨_, t, e, u, x, q, rfl, rfl, hu, hz, hq⟩
      · cases h
    · cases h
  · cases h
 | _ =>
  exfalso; revert h
  simp only [compOp]
  (repeat' split) <;> simp [Option.bind_eq_some_iff, Option.map_eq_some_iff]
def callS (H : Heap) (x : Option (AV × Heap)) : Option (AV × Heap) := x.map fun p => (p.1, putsH p.2 H)
def callvA (F : Sem1) (E : Env) (H : Heap) (dst : Nat) (ms : List Bool) (f : AV) (args : List AV) : Option (AV × Heap) :=
 match f with
 | .d (.fn g cs) => callA F E H dst ms g (args ++ cs.map .d)
 | .fn g cs => callA F E H dst ms g (args ++ cs)
 | _ => none
def nileqA (H : Heap) (ng : Bool) (x : AV) : Option (AV × Heap) :=
 match x with
 | .nl b => some (.d (.bool (if ng then !b else b)), H)
 | x => match slD x with
  | some (_ :: _) => some (.d (.bool ng), H)
  | _ => none
def step (F : Sem1) (E : Env) (H : Heap) (dst : Nat) : AOp → Option (AV × Heap)
 | .call f ms xs => callS H (callA F E H dst ms f (xs.map (·.ev E)))
 | .callv f ms xs => callS H (callvA F E H dst ms (f.ev E) (xs.map (·.ev E)))
 | .nileq ng x => nileqA H ng (x.ev E)
 | op => astep E H dst op
theorem zx0 {x : AOp} (h : isNilX x = true) : x = .mv (.c (.xsl [])) := by
 unfold isNilX at h
 split at h
 · rfl
 · cases h
theorem zuu {op : Op} (h : compOp P op = some (.mv (.c (.xsl [])))) : ∃ y, (op = .move y ∨ op = .assign y) ∧ opd y = some (.c (.xsl [])) := by
 cases op with
 | move y => simp only [compOp, Option.map_eq_some_iff] at h; obtain ⟨z, h1, h2⟩ := h; cases h2; exact ⟨y, .inl rfl, h1⟩
 | assign y => simp only [compOp, Option.map_eq_some_iff] at h; obtain ⟨z, h1, h2⟩ := h; cases h2; exact ⟨y, .inr rfl, h1⟩
 | makeFunc fn a b =>
  exfalso; revert h
  cases fn <;> simp only [compOp] <;> (repeat' split) <;> simp [Option.bind_eq_some_iff]
 | _ =>
  exfalso; revert h
  simp only [compOp]
  (repeat' split) <;> simp [Option.bind_eq_some_iff, Option.map_eq_some_iff, ztU]
theorem zyH {y : Operand} (h : opd y = some (.c (.xsl []))) : ∃ v, y = .const v ∧ v = .slice none 0 0 := by
 cases y with
 | tmp t => simp only [opd] at h; split at h <;> cases h
 | const v =>
  refine ⟨v, rfl, ?_⟩
  simp only [opd] at h
  split at h
  · cases h
  · obtain ⟨x, h1, h2⟩ := Option.map_eq_some_iff.1 h
    cases h2
    unfold constV at h1
    split at h1
    · obtain ⟨ds, _, h2⟩ := Option.map_eq_some_iff.1 h1
      unfold AV.mkAgg at h2
      split at h2 <;> cases h2
    · unfold cell1 at h1
      split at h1
      · split at h1 <;> cases h1
      · cases h1
      · split at h1 <;> cases h1
      · rfl
      · cases h1
 | global g => cases h
 | func f => cases h
theorem zqf {F : Sem1} (hF : FOK P F) {o : Oper} {x0 : AOp} {hs : Hints} {S : St} {a : Act} {w : World} {ι : Inj} {R : Nat → Prop} {v : AV} {H' : Heap} {next : Act → World → Prop} {Q : Exit → Act → World → Prop}
    (hc : compOp P o.op = some x0) (hd : ∀ d, o.dst = some d → d < C.n) (h : step F S.env S.heap (o.dst.getD 0) (hint hs o.dst x0) = some (v, H')) (hr : Rel C S a w ι R)
    (hn : ∀ a' w' ι' R', Rel C (St.put ⟨S.env, H'⟩ o.dst v) a' w' ι' R' → next a' w') : o.wp P a w next Q := by
 have calls : ∀ (f : FuncId) (ms : List Bool) (xs : List AV) (us : List Value), (execOp a.eval o).run P w = .ok (.enter f us.toArray) w → VAs w R ι (mark S.heap) xs us → callS S.heap (callA F S.env S.heap (o.dst.getD 0) ms f xs) = some (v, H') → o.wp P a w next Q := by
  intro f ms xs us he hv hw
  obtain ⟨⟨v', δ⟩, h1, h2⟩ := Option.map_eq_some_iff.1 hw
  cases h2
  unfold Oper.wp
  rw [he]
  refine (zub hF h1 hr hv).mono fun e w' hh => ?_
  obtain ⟨u, ι', R', rfl, hr', hv'⟩ := hh
  exact hn _ _ _ _ (hr'.putO hv' hd)
 have simple : ∀ {x : AOp}, Good C S a v H' ((execOp a.eval o).run P w) → o.wp P a w next Q := by
  intro x hg
  obtain ⟨u, w', ι', R', hrun, hr', hv'⟩ := hg
  have hfin := hn _ _ _ _ (hr'.putO hv' hd)
  unfold Oper.wp
  rcases hrun with hrun | ⟨hrun, rfl⟩ <;> rw [hrun] <;> exact hfin
 have plain : ∀ {x : AOp}, (if isNilX x && accAt hs o.dst then AOp.nacc else x) = hint hs o.dst x0 → x = x0 → step F S.env S.heap (o.dst.getD 0) x = astep S.env S.heap (o.dst.getD 0) x → o.wp P a w next Q := by
  intro x e1 e2 hst
  subst e2
  rw [← e1] at h
  split at h
  · rename_i hnil
    simp only [Bool.and_eq_true] at hnil
    have hx := zx0 hnil.1
    rw [hx] at hc
    obtain ⟨y, hop, hy⟩ := zuu hc
    obtain ⟨cv, rfl, rfl⟩ := zyH hy
    simp only [step, astep] at h
    split at h
    · rename_i hu
      cases h
      refine simple (x := .nacc) ⟨.slice none 0 0, w, clr ι (o.dst.getD 0), R, .inl ?_, hr.newNone hu, .acc0⟩
      rcases hop with hop | hop <;> simp [execOp, hop, Act.eval]
    · cases h
  · rw [hst] at h
    exact simple (x := x) (ztS hc hr h)
 cases x0 with
 | call f ms xs =>
  obtain ⟨c, hop, hcal, _, hcf, hxs⟩ := zus hc
  obtain ⟨hl, hg⟩ := znt hr hxs
  refine calls f _ _ (c.args.toList.map a.eval) ?_ ⟨hl, hg⟩ h
  have e : (c.args.toList.map a.eval).toArray = c.args.map a.eval := by apply Array.ext'; simp
  simp [execOp, hop, resolve, hcal, Act.eval, Deferred.ofValue, invoke, zsW hcf, e]
 | callv y ms xs =>
  obtain ⟨c, f, hop, rfl, hcal, _, hflt, hxs⟩ := zut hc
  obtain ⟨hl, hg⟩ := znt hr hxs
  have hfv := hr.ev (show opd (.tmp f) = some (.t f) by simp only [opd, if_pos hflt])
  have fin : ∀ (g : FuncId) (cs : List AV), (∃ vs : List Value, a.eval (.tmp f) = .func (.func g) #[] vs.toArray ∧ VAs w R ι (mark S.heap) cs vs) → callS S.heap (callA F S.env S.heap (o.dst.getD 0) (flagsOf hs o.dst) g (xs.map (·.ev S.env) ++ cs)) = some (v, H') → o.wp P a w next Q := by
   rintro g cs ⟨vs, hfe, hvl, hvg⟩ hw
   have hcf : callable P g = true := by
    obtain ⟨⟨v', δ⟩, h1, _⟩ := Option.map_eq_some_iff.1 hw
    exact zu7 hF h1
   refine calls g _ _ (c.args.toList.map a.eval ++ vs) ?_ ⟨by rw [List.length_append, List.length_append, hl, hvl], fun i x u h1 h2 => ?_⟩ hw
   · have e : (c.args.toList.map a.eval ++ vs).toArray = c.args.map a.eval ++ vs.toArray := by apply Array.ext'; simp
     simp [execOp, hop, resolve, hcal, hfe, Deferred.ofValue, invoke, zsW hcf, e]
   · by_cases hi : i < (xs.map (·.ev S.env)).length
     · rw [List.getElem?_append_left hi] at h1
       rw [List.getElem?_append_left (by omega)] at h2
       exact hg i x u h1 h2
     · rw [List.getElem?_append_right (by omega)] at h1
       rw [List.getElem?_append_right (by omega), hl] at h2
       exact hvg _ x u h1 h2
  simp only [hint, step, callvA] at h
  generalize hfe : Opd.ev S.env (.t f) = fa at h hfv
  generalize hfa : a.eval (.tmp f) = fv at hfv
  split at h
  · rename_i g cs
    cases hfv with
    | d hd =>
     cases hd with
     | fn hl' hg' => exact fin g _ ⟨_, hfa, by simpa using hl', fun i x u k1 k2 => by
         rw [List.getElem?_map] at k1
         obtain ⟨y, k3, rfl⟩ := Option.map_eq_some_iff.1 k1
         exact .d (hg' i y u k3 k2)⟩ h
  · rename_i g cs
    cases hfv with
    | fn hl' hg' => exact fin g _ ⟨_, hfa, hl', hg'⟩ h
  · cases h
 | nileq ng y =>
  obtain ⟨b, t, e, u, x, q, hop, hb, hu, hy, hq⟩ := zuv hc
  have hv := hr.ev hy
  simp only [hint, isNilX, Bool.false_and, Bool.false_eq_true, if_false, step, nileqA] at h
  have hqv : ∃ l c, a.eval q = .slice none l c := by
   unfold isNilC at hq
   split at hq
   · exact ⟨_, _, rfl⟩
   · cases hq
  obtain ⟨ql, qc, hqv⟩ := hqv
  split at h
  · rename_i b0 hnl
    cases h
    rw [hnl] at hv
    generalize hav : a.eval x = av at hv
    cases hv with
    | nl1 =>
     have heq : ∀ cap, (Op.equal t (.slice none 0 cap) (.slice none ql qc)).run P w = .ok true w := by
      intro cap
      unfold Op.equal
      rw [show Op.maxDepth = 9999 + 1 from rfl]
      unfold Op.equalIn
      simp only [Sem.run_bind, run_underlying hu, Result.andThen_ok]
      simp
     refine simple (x := .nacc) (Good.same hr (.d .bool) (u := .bool (if ng = true then !true else true)) ?_)
     cases ng <;> simp at hb <;> subst hb <;> simp [execOp, hop, hav, hqv, eqGuard, Go.binOp, heq]
    | nl2 =>
     have heq : ∀ ad cap, (Op.equal t (.slice (some ad) 0 cap) (.slice none ql qc)).run P w = .ok false w := by
      intro ad cap
      unfold Op.equal
      rw [show Op.maxDepth = 9999 + 1 from rfl]
      unfold Op.equalIn
      simp only [Sem.run_bind, run_underlying hu, Result.andThen_ok]
      simp
     refine simple (x := .nacc) (Good.same hr (.d .bool) (u := .bool (if ng = true then !false else false)) ?_)
     cases ng <;> simp at hb <;> subst hb <;> simp [execOp, hop, hav, hqv, eqGuard, Go.binOp, heq]
  split at h
  · rename_i d0 ds hsl
    cases h
    have fin : ∀ (ad : Addr) (l cap : Nat), a.eval x = .slice (some ad) l cap → o.wp P a w next Q := by
     intro ad l cap hav
     have heq : (Op.equal t (.slice (some ad) l cap) (.slice none ql qc)).run P w = .ok false w := by
      unfold Op.equal
      rw [show Op.maxDepth = 9999 + 1 from rfl]
      unfold Op.equalIn
      simp only [Sem.run_bind, run_underlying hu, Result.andThen_ok]
      simp
     refine simple (x := .nacc) (Good.same hr (.d .bool) (u := .bool ng) ?_)
     cases ng <;> simp at hb <;> subst hb <;> simp [execOp, hop, hav, hqv, eqGuard, Go.binOp, heq]
    generalize hpa : y.ev S.env = pa at hv hsl
    generalize hav : a.eval x = av at hv
    have data : ∀ {es : List D}, slD pa = some es → Rd w R (.v (.sl es) av) → o.wp P a w next Q := by
     intro es he hrd
     rw [he] at hsl
     cases hsl
     obtain ⟨b', off, s, cap, rfl, _⟩ := hrd.sl_inv (by simp)
     exact fin _ _ _ hav
    cases hv with
    | d hv =>
     rename_i dx
     cases dx with
     | sl es => exact data rfl hv
     | _ => simp [slD] at hsl
    | xsl hv => exact data rfl hv
    | accR => exact fin _ _ _ hav
    | accC => exact fin _ _ _ hav
    | acc0 => simp [slD] at hsl
    | _ => simp [slD] at hsl
  · cases h
 | _ => exact plain rfl rfl rfl
end Go.Sim

namespace Go.Sim
open Go (World Value Addr TypeId Act)
variable {P : Program} {C : Ctx}
def findAcc (o m : Nat) : Env → Option (List D)
 | [] => none
 | (_, .acc p es) :: l => if p = o ∧ es.length = m then some es else findAcc o m l
 | _ :: l => findAcc o m l
def rowV (o m : Nat) (x : AV) : AV :=
 match x with
 | .acc p es => if p = o then (if es.length = m then .osl o 0 m else .undef) else .acc p es
 | x => if x.refs o then .undef else x
def rowEnv (o m : Nat) (E : Env) : Env := E.map fun p => (p.1, rowV o m p.2)
def accV (o : Nat) (ds : List D) (x : AV) : AV :=
 match x with
 | .osl p off len => if p = o then (if off = 0 ∧ len = ds.length then .acc o ds else .undef) else .osl p off len
 | x => if x.refs o then .undef else x
def accEnv (o : Nat) (ds : List D) (E : Env) : Env := E.map fun p => (p.1, accV o ds p.2)
def nilV (o : Nat) : AV → AV
 | .acc p [] => if p = o then .d (.sl []) else .acc p []
 | x => x
def nilEnv (o : Nat) : Env → Env
 | [] => []
 | (t, x) :: l => (t, nilV o x) :: nilEnv o l
def okC (o m : Nat) : AV → Bool
 | .acc p es => if p = o then es.length == m else true
 | x => !x.refs o
def rowC (o m : Nat) : AV → AV
 | .acc p es => if p = o then .osl o 0 m else .acc p es
 | x => x
def okCs (o m : Nat) : List AV → Bool
 | [] => true
 | x :: l => okC o m x && okCs o m l
def rowCs (o m : Nat) : List AV → List AV
 | [] => []
 | x :: l => rowC o m x :: rowCs o m l
def okE (o m : Nat) : AV → Bool
 | .agg cs => okCs o m cs
 | x => okC o m x
def rowE (o m : Nat) : AV → AV
 | .agg cs => .agg (rowCs o m cs)
 | x => rowC o m x
def okEs (o m : Nat) : List AV → Bool
 | [] => true
 | x :: l => okE o m x && okEs o m l
def rowEs (o m : Nat) : List AV → List AV
 | [] => []
 | x :: l => rowE o m x :: rowEs o m l
def okHp (o m : Nat) : Heap → Bool
 | [] => true
 | (_, .row es) :: l => okEs o m es && okHp o m l
 | (_, .acc _) :: l => okHp o m l
 | (_, .frz _) :: l => okHp o m l
 | (_, .mp _) :: l => okHp o m l
def rowHp (o m : Nat) : Heap → Heap
 | [] => []
 | (q, .row es) :: l => (q, .row (rowEs o m es)) :: rowHp o m l
 | (q, .acc n) :: l => (q, .acc n) :: rowHp o m l
 | (q, .frz n) :: l => (q, .frz n) :: rowHp o m l
 | (q, .mp n) :: l => (q, .mp n) :: rowHp o m l
def findAccC (o m : Nat) : List AV → Option (List D)
 | [] => none
 | .acc p es :: l => if p = o ∧ es.length = m then some es else findAccC o m l
 | _ :: l => findAccC o m l
def orE {α : Type} (x : Option α) : Option α → Option α
 | some a => some a
 | none => x
def findAccE (o m : Nat) : List AV → Option (List D)
 | [] => none
 | .agg cs :: l => orE (findAccE o m l) (findAccC o m cs)
 | x :: l => orE (findAccE o m l) (findAccC o m [x])
def findAccH (o m : Nat) : Heap → Option (List D)
 | [] => none
 | (_, .row es) :: l => orE (findAccH o m l) (findAccE o m es)
 | (_, .acc _) :: l => findAccH o m l
 | (_, .frz _) :: l => findAccH o m l
 | (_, .mp _) :: l => findAccH o m l
def findAcc2 (o m : Nat) (E : Env) (H : Heap) : Option (List D) := orE (findAccH o m H) (findAcc o m E)
def toRow3 (o m : Nat) (E : Env) (H : Heap) (es : List D) (b : Bool) : Option St :=
 if b = false then some ⟨rowEnv o m E, setAt o (.row (es.map .d)) H⟩ else if okHp o m H = true then some ⟨rowEnv o m E, setAt o (.row (es.map .d)) (rowHp o m H)⟩ else none
def toRow2 (o m : Nat) (E : Env) (H : Heap) : Option (List D) → Option St
 | some es => if m ≠ 0 then toRow3 o m E H es (refsHeap o H) else none
 | none => none
def nilC (o : Nat) (x : AV) : AV :=
 match x with
 | .acc p [] => if p = o then .xsl [] else .acc p []
 | x => x
def nilCs (o : Nat) : List AV → List AV
 | [] => []
 | x :: l => nilC o x :: nilCs o l
def nilE (o : Nat) (x : AV) : AV :=
 match x with
 | .agg cs => .agg (nilCs o cs)
 | x => x
def nilEs (o : Nat) : List AV → List AV
 | [] => []
 | x :: l => nilE o x :: nilEs o l
def nilOb (o : Nat) (ob : Obj) : Obj :=
 match ob with
 | .row es => .row (nilEs o es)
 | x => x
def nilHp (o : Nat) : Heap → Heap
 | [] => []
 | (q, ob) :: l => (q, nilOb o ob) :: nilHp o l
def nilS (o : Nat) (E : Env) (H : Heap) (b : Bool) : Option St := if b = false then some ⟨nilEnv o E, H⟩ else some ⟨nilEnv o E, nilHp o H⟩
def toRow1 (o : Nat) (E : Env) (H : Heap) : Option Obj → Option St
 | some (.acc m) => if m = 0 then nilS o E H (refsHeap o H) else toRow2 o m E H (findAcc2 o m E H)
 | some (.row es) => some ⟨E, H⟩
 | some (.frz m) => some ⟨E, H⟩
 | some (.mp m) => some ⟨E, H⟩
 | none => some ⟨E, H⟩
def toRow (o : Nat) (S : St) : Option St := toRow1 o S.env S.heap (look o S.heap)
def nilO (o : Nat) : AV → AV
 | .osl p off 0 => if p = o then .d (.sl []) else .osl p off 0
 | x => x
def nilOEnv (o : Nat) : Env → Env
 | [] => []
 | (t, x) :: l => (t, nilO o x) :: nilOEnv o l
def toAcc2 (o : Nat) (E : Env) (H : Heap) (es : List AV) : Option (List D) → Option St
 | some ds => if es = [] then some ⟨nilOEnv o E, H⟩ else if es ≠ [] ∧ refsHeap o H = false then some ⟨accEnv o ds E, setAt o (.acc ds.length) H⟩ else none
 | none => none
def toAcc1 (o : Nat) (E : Env) (H : Heap) : Option Obj → Option St
 | some (.row es) => toAcc2 o E H es (allD es)
 | some (.acc m) => some ⟨E, H⟩
 | some (.frz m) => some ⟨E, H⟩
 | some (.mp m) => some ⟨E, H⟩
 | none => some ⟨E, H⟩
def toAcc (o : Nat) (S : St) : Option St := toAcc1 o S.env S.heap (look o S.heap)
def rnm (o o' n : Nat) : Nat := if n = o then o' else n
def renEnv (ρ : Nat → Nat) : Env → Env
 | [] => []
 | (t, x) :: l => (t, x.ren ρ) :: renEnv ρ l
def toNm1 (o o' : Nat) (E : Env) (H : Heap) : Option Obj → Option St
 | some _ => if (look o' H).isNone = true ∧ refsEnv o' E = false ∧ refsHeap o' H = false then some ⟨renEnv (rnm o o') E, renH (rnm o o') H⟩ else none
 | none => some ⟨E, H⟩
def toNm (o o' : Nat) (S : St) : Option St := toNm1 o o' S.env S.heap (look o S.heap)
def datO (x : AV) : Option D → AV
 | some d => .d d
 | none => x
def datV (o : Nat) (H : Heap) : AV → AV
 | .acc p es => if p = o then .d (.sl es) else .acc p es
 | .osl p off len => if p = o then datO (.osl p off len) (toD H (.osl p off len)) else .osl p off len
 | x => x
def datEnv (o : Nat) (H : Heap) : Env → Env
 | [] => []
 | (t, x) :: l => (t, datV o H x) :: datEnv o H l
def toDat1 (o : Nat) (E : Env) (H : Heap) : Option Obj → Option St
 | some _ => some ⟨datEnv o H E, putsH (frzL H [o]) H⟩
 | none => some ⟨E, H⟩
def toDat (o : Nat) (S : St) : Option St := toDat1 o S.env S.heap (look o S.heap)
def ghost1 (g : Nat) (S : St) : Option St := if g < 4000000 then (if g % 2 = 0 then toRow (g / 2) S else toAcc (g / 2) S) else if g < 6000000 then toNm (g - 4000000) (g - 3500000) S else toDat (g - 6000000) S
def ghosts : List Nat → St → Option St
 | [], S => some S
 | g :: gs, S => (ghost1 g S).bind (ghosts gs)
theorem zvT {o m : Nat} {es : List D} : ∀ {E : Env}, findAcc o m E = some es → ∃ t, (t, AV.acc o es) ∈ E ∧ es.length = m := by
 intro E
 induction E with
 | nil => intro h; cases h
 | cons p l ih =>
  obtain ⟨t, x⟩ := p
  intro h
  cases x with
  | acc q es' =>
   simp only [findAcc] at h
   split at h
   · rename_i hc
     obtain ⟨rfl, hl⟩ := hc
     cases h; exact ⟨t, .head _, hl⟩
   · obtain ⟨t', h1, h2⟩ := ih h; exact ⟨t', .tail _ h1, h2⟩
  | _ => simp only [findAcc] at h; obtain ⟨t', h1, h2⟩ := ih h; exact ⟨t', .tail _ h1, h2⟩
theorem Rel.recast {S : St} {a : Act} {w : World} {ι : Inj} {R : Nat → Prop} (h : Rel C S a w ι R) {o : Nat} {ob : Obj} {g : AV → AV} (hh : refsHeap o S.heap = false)
    (hob : OB w R ι (mark (setAt o ob S.heap)) o ob)
    (hg : ∀ x u, VA w R ι (mark S.heap) x u → (x.refs o = true → VA w R ι (mark (setAt o ob S.heap)) (g x) u) ∧ (x.refs o = false → g x = x)) :
    Rel C ⟨S.env.map fun p => (p.1, g p.2), setAt o ob S.heap⟩ a w ι R := by
 have hst : ∀ p, p ≠ o → Step w w ι ι (mark S.heap) (mark (setAt o ob S.heap)) p := fun p hp => Step.other rfl (zk4 hp) fun _ _ _ => rfl
 refine { h with env := fun t x hx => ?_, heap := fun q ob' hq => ?_ }
 · obtain ⟨⟨t', y⟩, hm, he⟩ := List.mem_map.1 hx
   cases he
   obtain ⟨u, h1, h2⟩ := h.env t' y hm
   refine ⟨u, h1, ?_⟩
   cases hr : y.refs o with
   | true => exact (hg y u h2).1 hr
   | false =>
    show VA w R ι _ (g y) u
    rw [(hg y u h2).2 hr]
    exact h2.mono (fun _ h => h) (fun _ _ => rfl) fun p hp => hst p fun e => by subst e; rw [hr] at hp; cases hp
 · rcases zku hq with hq2 | ⟨hq2, hne⟩
   · cases hq2; exact hob
   · exact (h.heap q ob' hq2).mono (fun _ h => h) (fun _ _ => rfl) (fun _ _ hb => ⟨hb, rfl, fun h => h⟩) (fun h => h) fun p hp => hst p fun e => by
      rw [e] at hp
      have := zkt (l := S.heap) hq2 hh
      rw [hp] at this; cases this
theorem zyl {w : World} {R : Nat → Prop} {ι : Inj} {mk : Nat → Option Nat} {o : Nat} {x : AV} {u : Value} (h : VA w R ι mk x u) : VA w R ι mk (nilV o x) u := by
 unfold nilV
 split
 · split
   · cases h <;> exact .d .sl0
   · exact h
 · exact h
theorem zyk {w : World} {R : Nat → Prop} {ι : Inj} {mk : Nat → Option Nat} {o : Nat} {x : AV} {u : Value} (h : VA w R ι mk x u) : VA w R ι mk (nilO o x) u := by
 unfold nilO
 split
 · split
   · cases h <;> exact .d .sl0
   · exact h
 · exact h
theorem zyj {o : Nat} {E : Env} : nilOEnv o E = E.map fun p => (p.1, nilO o p.2) := by
 induction E with
 | nil => rfl
 | cons p l ih => obtain ⟨t, x⟩ := p; simp only [nilOEnv, ih]; rfl
theorem Rel.nilsO {S : St} {a : Act} {w : World} {ι : Inj} {R : Nat → Prop} (h : Rel C S a w ι R) {o : Nat} : Rel C ⟨nilOEnv o S.env, S.heap⟩ a w ι R := by
 refine { h with env := fun t x hx => ?_ }
 rw [zyj] at hx
 obtain ⟨⟨t', y⟩, hm, he⟩ := List.mem_map.1 hx
 cases he
 obtain ⟨u, h1, h2⟩ := h.env t' y hm
 exact ⟨u, h1, zyk h2⟩
theorem zyi {o : Nat} {E : Env} : nilEnv o E = E.map fun p => (p.1, nilV o p.2) := by
 induction E with
 | nil => rfl
 | cons p l ih => obtain ⟨t, x⟩ := p; simp only [nilEnv, ih]; rfl
theorem Rel.nils {S : St} {a : Act} {w : World} {ι : Inj} {R : Nat → Prop} (h : Rel C S a w ι R) {o : Nat} : Rel C ⟨nilEnv o S.env, S.heap⟩ a w ι R := by
 refine { h with env := fun t x hx => ?_ }
 rw [zyi] at hx
 obtain ⟨⟨t', y⟩, hm, he⟩ := List.mem_map.1 hx
 cases he
 obtain ⟨u, h1, h2⟩ := h.env t' y hm
 exact ⟨u, h1, zyl h2⟩
theorem zyg {o : Nat} {x : AV} (h : x.cell = true) : (nilC o x).cell = true := by
 unfold nilC
 split
 · split <;> rfl
 · exact h
theorem zpO {o : Nat} : ∀ {l : List AV}, nilCs o l = l.map (nilC o)
 | [] => rfl
 | x :: l => by simp only [nilCs, List.map_cons, zpO]
theorem zsg {o : Nat} : ∀ {l : List AV}, nilEs o l = l.map (nilE o)
 | [] => rfl
 | x :: l => by simp only [nilEs, List.map_cons, zsg]
theorem zsh {o q : Nat} {ob : Obj} : ∀ {H : Heap}, (q, ob) ∈ nilHp o H → ∃ ob0, (q, ob0) ∈ H ∧ ob = nilOb o ob0
 | [], h => by cases h
 | (q', ob') :: l, h => by
  simp only [nilHp] at h
  cases h with
  | head => exact ⟨_, .head _, rfl⟩
  | tail _ h => obtain ⟨ob0, h1, h2⟩ := zsh h; exact ⟨ob0, .tail _ h1, h2⟩
theorem zrS {o q : Nat} : ∀ {H : Heap}, look q (nilHp o H) = (look q H).map (nilOb o)
 | [] => rfl
 | (q', ob') :: l => by
  simp only [nilHp, look]
  split
  · rfl
  · exact zrS
theorem zs0 {o : Nat} {H : Heap} : mark (nilHp o H) = mark H := funext fun p => by
 unfold mark
 rw [zrS]
 rcases look p H with _ | (es | m | m | m) <;> rfl
theorem zyh {w : World} {R : Nat → Prop} {ι : Inj} {mk : Nat → Option Nat} {o : Nat} {x : AV} {u : Value} (hι : ι o = none) (hm : mk o = some 0) (h : VA w R ι mk x u) : VA w R ι mk (nilC o x) u := by
 unfold nilC
 split
 · split
   · rename_i hp
     subst hp
     cases h with
     | accR _ _ _ _ _ _ hlt => have := hlt 0 hm; simp at this
     | accC hι' => rw [hι] at hι'; cases hι'
     | acc0 => exact .xsl .sl0
   · exact h
 · exact h
theorem Rel.nilsH {S : St} {a : Act} {w : World} {ι : Inj} {R : Nat → Prop} (h : Rel C S a w ι R) {o : Nat} (hlk : look o S.heap = some (.acc 0)) : Rel C ⟨nilEnv o S.env, nilHp o S.heap⟩ a w ι R := by
 have h := h.nils (o := o)
 have hι : ι o = none := by
  cases h.heap _ _ (zjJ hlk) with
  | acc hpos => exact absurd hpos (by decide)
  | accN hι => exact hι
 have hmk : mark S.heap o = some 0 := by simp [mark, hlk]
 refine { h with env := fun t x hx => ?_, heap := fun q ob hq => ?_ }
 · show ∃ u, slotV C a t = some u ∧ VA w R ι (mark (nilHp o S.heap)) x u
   rw [zs0]; exact h.env t x hx
 · show OB w R ι (mark (nilHp o S.heap)) q ob
   rw [zs0]
   obtain ⟨ob0, h1, rfl⟩ := zsh hq
   have hob := h.heap q ob0 h1
   cases ob0 with
   | acc n => exact hob
   | frz n => exact hob
   | mp n => exact hob
   | row es =>
    cases hob with
    | row hι' hR hb hs0 hsz hc hel =>
     show OB w R ι _ q (.row (nilEs o es))
     rw [zsg]
     have hsize : ∀ e : AV, (nilE o e).size = e.size := fun e => by
      unfold nilE
      split
      · simp only [AV.size, zpO, List.length_map]
      · rfl
     refine .row hι' hR hb hs0 (fun e he => ?_) (by rw [List.length_map]; exact hc) fun i e hi j x hj => ?_
     · obtain ⟨e0, he0, rfl⟩ := List.mem_map.1 he
       rw [hsize]; exact hsz e0 he0
     · rw [List.getElem?_map] at hi
       obtain ⟨e0, he0, rfl⟩ := Option.map_eq_some_iff.1 hi
       unfold nilE at hj
       split at hj
       · rename_i cs
         simp only [AV.cells, zpO, List.getElem?_map] at hj
         obtain ⟨x0, hx0, rfl⟩ := Option.map_eq_some_iff.1 hj
         obtain ⟨k1, qv, k2, k3⟩ := hel i _ he0 j x0 hx0
         exact ⟨zyg k1, qv, k2, zyh hι hmk k3⟩
       · exact hel i _ he0 j x hj
theorem zzQ {o m : Nat} {x : AV} : (rowC o m x).size = x.size := by
 unfold rowC
 split
 · split <;> rfl
 · rfl
theorem zzP {o m : Nat} {x : AV} (h : x.cell = true) : (rowC o m x).cell = true := by
 unfold rowC
 split
 · split <;> rfl
 · exact h
theorem zq8 {o m : Nat} : ∀ {l : List AV}, rowCs o m l = l.map (rowC o m)
 | [] => rfl
 | x :: l => by simp only [rowCs, List.map_cons, zq8]
theorem zp1 {o m : Nat} : ∀ {l : List AV}, rowEs o m l = l.map (rowE o m)
 | [] => rfl
 | x :: l => by simp only [rowEs, List.map_cons, zp1]
theorem zsm {o m : Nat} {x : AV} : ∀ {l : List AV}, okCs o m l = true → x ∈ l → okC o m x = true
 | [], _, h => by cases h
 | y :: l, hk, h => by
  simp only [okCs, Bool.and_eq_true] at hk
  cases h with
  | head => exact hk.1
  | tail _ h => exact zsm hk.2 h
theorem zsn {o m : Nat} {x : AV} : ∀ {l : List AV}, okEs o m l = true → x ∈ l → okE o m x = true
 | [], _, h => by cases h
 | y :: l, hk, h => by
  simp only [okEs, Bool.and_eq_true] at hk
  cases h with
  | head => exact hk.1
  | tail _ h => exact zsn hk.2 h
theorem zzS {o m : Nat} {x : AV} : (rowE o m x).size = x.size := by
 unfold rowE
 split
 · simp only [AV.size, zq8, List.length_map]
 · exact zzQ
theorem zzR {o m : Nat} {e x' : AV} {j : Nat} (hk : okE o m e = true) (h : (rowE o m e).cells[j]? = some x') : ∃ x, e.cells[j]? = some x ∧ okC o m x = true ∧ x' = rowC o m x := by
 have one : ∀ e : AV, e.cells = [e] → okC o m e = true → (rowC o m e).cells = [rowC o m e] → (rowC o m e).cells[j]? = some x' → ∃ x, e.cells[j]? = some x ∧ okC o m x = true ∧ x' = rowC o m x := by
  intro e h1 h2 h3 h4
  rw [h3] at h4
  match j, h4 with
  | 0, h4 => simp at h4; subst h4; exact ⟨e, by rw [h1]; rfl, h2, rfl⟩
  | n + 1, h4 => simp at h4
 cases e with
 | agg cs =>
  simp only [rowE, AV.cells, zq8, List.getElem?_map] at h
  obtain ⟨x, h1, h2⟩ := Option.map_eq_some_iff.1 h
  exact ⟨x, h1, zsm hk (List.mem_of_getElem? h1), h2.symm⟩
 | d y =>
  simp only [rowE, rowC, AV.cells, List.getElem?_map] at h
  obtain ⟨c, h1, h2⟩ := Option.map_eq_some_iff.1 h
  subst h2
  exact ⟨.d c, by simp [AV.cells, h1], rfl, rfl⟩
 | acc p es => exact one _ rfl hk (by unfold rowC; simp only; split <;> rfl) h
 | ref p i f => exact one _ rfl hk rfl h
 | osl p i f => exact one _ rfl hk rfl h
 | pe p i => exact one _ rfl hk rfl h
 | xsl p => exact one _ rfl hk rfl h
 | tup p => exact one _ rfl hk rfl h
 | fn p i => exact one _ rfl hk rfl h
 | nl p => exact one _ rfl hk rfl h
 | mpr p => exact one _ rfl hk rfl h
 | undef => exact one _ rfl hk rfl h
def rowOb (o m : Nat) : Obj → Obj
 | .row es => .row (rowEs o m es)
 | x => x
theorem zoh {o m : Nat} {q : Nat} {ob : Obj} : ∀ {H : Heap}, okHp o m H = true → (q, ob) ∈ rowHp o m H → ∃ ob0, (q, ob0) ∈ H ∧ ob = rowOb o m ob0 ∧ (∀ es, ob0 = .row es → okEs o m es = true)
 | [], _, h => by cases h
 | (q', .row es) :: l, hk, h => by
  simp only [okHp, Bool.and_eq_true] at hk
  simp only [rowHp] at h
  cases h with
  | head => exact ⟨_, .head _, rfl, fun es' e => by cases e; exact hk.1⟩
  | tail _ h => obtain ⟨ob0, h1, h2, h3⟩ := zoh hk.2 h; exact ⟨ob0, .tail _ h1, h2, h3⟩
 | (q', .acc n) :: l, hk, h => by
  simp only [okHp] at hk
  simp only [rowHp] at h
  cases h with
  | head => exact ⟨_, .head _, rfl, fun es' e => by cases e⟩
  | tail _ h => obtain ⟨ob0, h1, h2, h3⟩ := zoh hk h; exact ⟨ob0, .tail _ h1, h2, h3⟩
 | (q', .frz n) :: l, hk, h => by
  simp only [okHp] at hk
  simp only [rowHp] at h
  cases h with
  | head => exact ⟨_, .head _, rfl, fun es' e => by cases e⟩
  | tail _ h => obtain ⟨ob0, h1, h2, h3⟩ := zoh hk h; exact ⟨ob0, .tail _ h1, h2, h3⟩
 | (q', .mp n) :: l, hk, h => by
  simp only [okHp] at hk
  simp only [rowHp] at h
  cases h with
  | head => exact ⟨_, .head _, rfl, fun es' e => by cases e⟩
  | tail _ h => obtain ⟨ob0, h1, h2, h3⟩ := zoh hk h; exact ⟨ob0, .tail _ h1, h2, h3⟩
theorem zo7 {o m q : Nat} : ∀ {H : Heap}, mark (rowHp o m H) q = mark H q
 | [] => rfl
 | (q', .row es) :: l => by
  have ih := zo7 (o := o) (m := m) (q := q) (H := l)
  unfold mark at ih ⊢
  simp only [rowHp, Go.Sim.look]
  by_cases h : q' = q
  · rw [if_pos h, if_pos h]
  · rw [if_neg h, if_neg h]; exact ih
 | (q', .acc n) :: l => by
  have ih := zo7 (o := o) (m := m) (q := q) (H := l)
  unfold mark at ih ⊢
  simp only [rowHp, Go.Sim.look]
  by_cases h : q' = q
  · rw [if_pos h, if_pos h]
  · rw [if_neg h, if_neg h]; exact ih
 | (q', .frz n) :: l => by
  have ih := zo7 (o := o) (m := m) (q := q) (H := l)
  unfold mark at ih ⊢
  simp only [rowHp, Go.Sim.look]
  by_cases h : q' = q
  · rw [if_pos h, if_pos h]
  · rw [if_neg h, if_neg h]; exact ih
 | (q', .mp n) :: l => by
  have ih := zo7 (o := o) (m := m) (q := q) (H := l)
  unfold mark at ih ⊢
  simp only [rowHp, Go.Sim.look]
  by_cases h : q' = q
  · rw [if_pos h, if_pos h]
  · rw [if_neg h, if_neg h]; exact ih
theorem zoa {α : Type} {x y : Option α} {a : α} (h : orE x y = some a) : y = some a ∨ x = some a := by
 cases y with
 | some b => exact .inl h
 | none => exact .inr h
theorem znb {o m : Nat} {es : List D} : ∀ {l : List AV}, findAccC o m l = some es → AV.acc o es ∈ l ∧ es.length = m
 | [], h => by cases h
 | x :: l, h => by
  cases x with
  | acc q es' =>
   simp only [findAccC] at h
   split at h
   · rename_i hc
     obtain ⟨rfl, hl⟩ := hc
     cases h; exact ⟨.head _, hl⟩
   · exact ⟨.tail _ (znb h).1, (znb h).2⟩
  | _ => simp only [findAccC] at h; exact ⟨.tail _ (znb h).1, (znb h).2⟩
theorem zoB {o m : Nat} {es : List D} : ∀ {l : List AV}, findAccE o m l = some es → ∃ e ∈ l, ∃ j : Nat, e.cells[j]? = some (AV.acc o es) ∧ es.length = m
 | [], h => by cases h
 | x :: l, h => by
  cases x with
  | agg cs =>
   simp only [findAccE] at h
   rcases zoa h with h | h
   · obtain ⟨h1, h2⟩ := znb h
     obtain ⟨j, hj⟩ := List.getElem?_of_mem h1
     exact ⟨_, .head _, j, hj, h2⟩
   · obtain ⟨e, h1, h2⟩ := zoB h; exact ⟨e, .tail _ h1, h2⟩
  | acc p es' =>
   simp only [findAccE] at h
   rcases zoa h with h | h
   · obtain ⟨h1, h2⟩ := znb h
     simp only [List.mem_singleton] at h1
     exact ⟨_, .head _, 0, by rw [← h1]; rfl, h2⟩
   · obtain ⟨e, h1, h2⟩ := zoB h; exact ⟨e, .tail _ h1, h2⟩
  | _ =>
   simp only [findAccE] at h
   rcases zoa h with h | h
   · obtain ⟨h1, h2⟩ := znb h
     simp at h1
   · obtain ⟨e, h1, h2⟩ := zoB h; exact ⟨e, .tail _ h1, h2⟩
theorem znU {o m : Nat} {es : List D} : ∀ {H : Heap}, findAccH o m H = some es → ∃ q fs, (q, Obj.row fs) ∈ H ∧ ∃ e ∈ fs, ∃ j : Nat, e.cells[j]? = some (AV.acc o es) ∧ es.length = m
 | [], h => by cases h
 | (q, .row fs) :: l, h => by
  simp only [findAccH] at h
  rcases zoa h with h | h
  · exact ⟨q, fs, .head _, zoB h⟩
  · obtain ⟨q, fs, h1, h2⟩ := znU h; exact ⟨q, fs, .tail _ h1, h2⟩
 | (q, .acc n) :: l, h => by
  simp only [findAccH] at h
  obtain ⟨q, fs, h1, h2⟩ := znU h; exact ⟨q, fs, .tail _ h1, h2⟩
 | (q, .frz n) :: l, h => by
  simp only [findAccH] at h
  obtain ⟨q, fs, h1, h2⟩ := znU h; exact ⟨q, fs, .tail _ h1, h2⟩
 | (q, .mp n) :: l, h => by
  simp only [findAccH] at h
  obtain ⟨q, fs, h1, h2⟩ := znU h; exact ⟨q, fs, .tail _ h1, h2⟩
theorem zAP {o : Nat} {S S' : St} {a : Act} {w : World} {ι : Inj} {R : Nat → Prop} (hs : toRow o S = some S') (h : Rel C S a w ι R) : Rel C S' a w ι R := by
 unfold toRow at hs
 generalize hlk : look o S.heap = q at hs
 unfold toRow1 at hs
 split at hs
 · rename_i m
   split at hs
   · rename_i hm0
     subst hm0
     unfold nilS at hs
     split at hs
     · cases hs; exact h.nils
     · cases hs; exact h.nilsH hlk
   rename_i hm0
   generalize hes : findAcc2 o m S.env S.heap = qe at hs
   unfold toRow2 at hs
   split at hs
   · rename_i es
     rw [if_pos hm0] at hs
     have hmk : mark S.heap o = some m := by simp [mark, hlk]
     have hvl : es.length = m ∧ ∃ u, VA w R ι (mark S.heap) (.acc o es) u := by
      unfold findAcc2 at hes
      rcases zoa hes with hes | hes
      · obtain ⟨t, ht, hl⟩ := zvT hes
        obtain ⟨u, _, hv⟩ := h.env t _ ht
        exact ⟨hl, u, hv⟩
      · obtain ⟨q, fs, hq, e, he, j, hj, hl⟩ := znU hes
        obtain ⟨i, hi⟩ := List.getElem?_of_mem he
        cases h.heap _ _ hq with
        | row _ _ _ _ _ _ hel =>
         obtain ⟨_, qv, _, hv⟩ := hel i e hi j _ hj
         exact ⟨hl, qv, hv⟩
     obtain ⟨hl, u, hv⟩ := hvl
     have hob := h.heap _ _ (zjJ hlk)
     have key : ∀ mk' : Nat → Option Nat, mk' o = none → ((∀ p, p ≠ o → mk' p = mark S.heap p) → OB w R ι mk' o (.row (es.map .d))) ∧ ∀ (es' : List D) (u : Value), es'.length = m → VA w R ι (mark S.heap) (.acc o es') u → VA w R ι mk' (.osl o 0 m) u := by
      intro mk' hmk'
      refine ⟨fun _ => ?_, fun es' u hlen hx => ?_⟩
      · cases hv with
        | accR _ _ _ _ _ _ hlt => have := hlt m hmk; omega
        | acc0 => simp at hl; exact absurd hl.symm hm0
        | @accC _ b s m' cap _ c T hι hmk2 _ hL hcap hsz hb hc hel =>
         cases hob with
         | accN hι' => rw [hι] at hι'; cases hι'
         | acc _ hι' hR hb' hs0 _ =>
          rw [hι] at hι'; cases hι'
          refine .row hι hR hb hs0 (fun e he => ?_) ?_ fun i e hi j x hj => ?_
          · obtain ⟨d, hd, rfl⟩ := List.mem_map.1 he; exact hsz d hd
          · rw [List.length_map]; exact Nat.le_trans (Nat.mul_le_mul_right _ hcap) hc
          · rw [List.getElem?_map] at hi
            obtain ⟨d, hd, rfl⟩ := Option.map_eq_some_iff.1 hi
            simp only [AV.cells, List.getElem?_map] at hj
            obtain ⟨cd, hcd, rfl⟩ := Option.map_eq_some_iff.1 hj
            obtain ⟨k1, q, k2, k3⟩ := (hel i d hd).v_of_cells j cd hcd
            exact ⟨k1, q, by rw [zjN hb] at k2; exact k2, .d k3⟩
      · cases hx with
        | accR _ _ _ _ _ _ hlt => have := hlt m hmk; omega
        | acc0 => simp at hlen; exact absurd hlen.symm hm0
        | @accC _ b s m' cap _ c T hι hmk2 _ hL hcap hsz hb hc hel =>
         have := VA.osl (w := w) (R := R) (mk := mk') (off := 0) (len := es'.length) (cap := cap) hι hmk' hb hcap (by simpa using hc) hL
         simp only [Nat.zero_mul] at this
         rw [hlen] at this ⊢
         exact this
     unfold toRow3 at hs
     by_cases hh : refsHeap o S.heap = false
     · rw [if_pos hh] at hs
       cases hs
       have hmk' : mark (setAt o (.row (es.map .d)) S.heap) o = none := by rw [zk3]
       have hk := key _ hmk'
       refine h.recast (g := rowV o m) hh (hk.1 fun p hp => zk4 hp) fun x u hx => ⟨fun hr => ?_, fun hr => ?_⟩
       · unfold rowV
         split
         · rename_i p es'
           have hp : p = o := by simpa [AV.refs] using hr
           rw [if_pos hp]
           subst hp
           split
           · rename_i hlen
             exact hk.2 _ _ hlen hx
           · exact .undef
         · rw [if_pos hr]; exact .undef
       · unfold rowV
         split
         · rename_i p es'
           have hp : ¬ p = o := by simpa [AV.refs] using hr
           rw [if_neg hp]
         · rw [if_neg (by simp [hr])]
     · rw [if_neg hh] at hs
       split at hs
       rotate_left
       · cases hs
       rename_i hokh
       cases hs
       have hmn : ∀ p, p ≠ o → mark (setAt o (.row (es.map .d)) (rowHp o m S.heap)) p = mark S.heap p := fun p hp => by rw [zk4 hp, zo7]
       have hmk' : mark (setAt o (.row (es.map .d)) (rowHp o m S.heap)) o = none := by rw [zk3]
       have hk := key _ hmk'
       have hst : ∀ p, p ≠ o → Step w w ι ι (mark S.heap) (mark (setAt o (.row (es.map .d)) (rowHp o m S.heap))) p := fun p hp => Step.other rfl (hmn p hp) fun _ _ _ => rfl
       have hkeep : ∀ (x : AV) (u : Value), x.refs o = false → VA w R ι (mark S.heap) x u → VA w R ι (mark (setAt o (.row (es.map .d)) (rowHp o m S.heap))) x u := fun x u hr hx =>
        hx.mono (fun _ h => h) (fun _ _ => rfl) fun p hp => hst p fun e => by subst e; rw [hr] at hp; cases hp
       refine { h with env := fun t x hx => ?_, heap := fun q ob' hq => ?_ }
       · obtain ⟨⟨t', y⟩, hm, he⟩ := List.mem_map.1 hx
         cases he
         obtain ⟨u, h1, h2⟩ := h.env t' y hm
         refine ⟨u, h1, ?_⟩
         show VA w R ι _ (rowV o m y) u
         cases hr : y.refs o with
         | true =>
          unfold rowV
          split
          · rename_i p es'
            have hp : p = o := by simpa [AV.refs] using hr
            rw [if_pos hp]
            subst hp
            split
            · rename_i hlen
              exact hk.2 _ _ hlen h2
            · exact .undef
          · rw [if_pos hr]; exact .undef
         | false =>
          have : rowV o m y = y := by
           unfold rowV
           split
           · rename_i p es'
             have hp : ¬ p = o := by simpa [AV.refs] using hr
             rw [if_neg hp]
           · rw [if_neg (by simp [hr])]
          rw [this]
          exact hkeep _ _ hr h2
       · rcases zku hq with hq2 | ⟨hq2, hne⟩
         · cases hq2; exact hk.1 hmn
         · obtain ⟨ob0, hm0', hob', hrow⟩ := zoh hokh hq2
           subst hob'
           have hob0 := h.heap q ob0 hm0'
           cases ob0 with
           | acc n => exact hob0.mono (fun _ h => h) (fun _ _ => rfl) (fun _ _ hb => ⟨hb, rfl, fun h => h⟩) (fun h => h) fun p hp => by simp [Obj.refs] at hp
           | frz n => exact hob0.mono (fun _ h => h) (fun _ _ => rfl) (fun _ _ hb => ⟨hb, rfl, fun h => h⟩) (fun h => h) fun p hp => by simp [Obj.refs] at hp
           | mp n => exact hob0.mono (fun _ h => h) (fun _ _ => rfl) (fun _ _ hb => ⟨hb, rfl, fun h => h⟩) (fun h => h) fun p hp => by simp [Obj.refs] at hp
           | row fs =>
            have hoke := hrow fs rfl
            simp only [rowOb]
            cases hob0 with
            | row hι hR hb hs0 hsz hc hel =>
             refine .row hι hR hb hs0 (fun e he => ?_) (by rw [zp1, List.length_map]; exact hc) fun i e hi j x hj => ?_
             · rw [zp1] at he
               obtain ⟨e0, he0, rfl⟩ := List.mem_map.1 he
               rw [zzS]; exact hsz e0 he0
             · rw [zp1, List.getElem?_map] at hi
               obtain ⟨e0, he0, rfl⟩ := Option.map_eq_some_iff.1 hi
               obtain ⟨x0, hx0, hkc, rfl⟩ := zzR (zsn hoke (List.mem_of_getElem? he0)) hj
               obtain ⟨k1, qv, k2, k3⟩ := hel i e0 he0 j x0 hx0
               refine ⟨zzP k1, qv, k2, ?_⟩
               by_cases hacc : ∃ es', x0 = .acc o es'
               · obtain ⟨es', rfl⟩ := hacc
                 simp only [okC, if_true, beq_iff_eq] at hkc
                 simp only [rowC, if_true]
                 exact hk.2 _ _ hkc k3
               · have hr : x0.refs o = false ∧ rowC o m x0 = x0 := by
                  cases x0 with
                  | acc p es' =>
                   have hp : ¬ p = o := fun e => hacc ⟨es', by rw [e]⟩
                   exact ⟨by simpa [AV.refs] using hp, by simp only [rowC, if_neg hp]⟩
                  | _ => exact ⟨by simpa [okC] using hkc, rfl⟩
                 rw [hr.2]
                 exact hkeep _ _ hr.1 k3
   · cases hs
 · cases hs; exact h
 · cases hs; exact h
 · cases hs; exact h
 · cases hs; exact h
theorem zAK {o : Nat} {S S' : St} {a : Act} {w : World} {ι : Inj} {R : Nat → Prop} (hs : toAcc o S = some S') (h : Rel C S a w ι R) : Rel C S' a w ι R := by
 unfold toAcc at hs
 generalize hlk : look o S.heap = q at hs
 unfold toAcc1 at hs
 split at hs
 · rename_i es
   generalize hds : allD es = qe at hs
   unfold toAcc2 at hs
   split at hs
   · rename_i ds
     split at hs
     · cases hs; exact h.nilsO
     split at hs
     rotate_left
     · cases hs
     rename_i hc
     obtain ⟨hne, hh⟩ := hc
     cases hs
     have hesd := zko hds
     have hmk' : mark (setAt o (.acc ds.length) S.heap) o = some ds.length := by rw [zk3]
     have hdn : ds ≠ [] := by rintro rfl; exact hne hesd
     cases h.heap _ _ (zjJ hlk) with
     | @row _ b s c T hι hR hb hs0 hsz hc hel =>
      have hrd : ∀ (i : Nat) (d : D), ds[i]? = some d → Rd w R (.el d b (i * s)) := fun i d hi => by
       have hei : es[i]? = some (.d d) := by rw [hesd]; simp [hi]
       refine Rd.el_of_cells (fun vs hvs => ?_) fun j cd hj => ?_
       · subst hvs
         have := (hel i _ hei 0 (.d (.tup vs)) rfl).1
         simp [AV.cell, D.cell] at this
       · obtain ⟨k1, q, k2, k3⟩ := hel i _ hei j (.d cd) (by simp [AV.cells, hj])
         exact ⟨k1, q, by rw [zjN hb]; exact k2, k3.of_d⟩
      have hsz' : ∀ d ∈ ds, d.size = s := fun d hd => hsz (.d d) (by rw [hesd]; exact List.mem_map_of_mem hd)
      refine h.recast (g := accV o ds) hh ?_ fun x u hx => ⟨fun hr => ?_, fun hr => ?_⟩
      · refine .acc (List.length_pos_iff.2 hdn) hι hR hb hs0 ?_
        rw [hesd] at hc; simpa using hc
      · unfold accV
        split
        · rename_i p off len
          have hp : p = o := by simpa [AV.refs] using hr
          rw [if_pos hp]
          subst hp
          split
          · rename_i hcc
            obtain ⟨rfl, rfl⟩ := hcc
            generalize hlen : ds.length = n at hx hmk'
            cases hx with
            | osl0 => exact absurd (List.length_eq_zero_iff.1 hlen) hdn
            | @osl _ _ _ cap b' s' c' T' hι' hmk2 hb' hcap hc' hL =>
             rw [hι] at hι'; cases hι'
             rw [hb] at hb'; cases hb'
             subst hlen
             rw [Nat.zero_mul]
             exact .accC hι hmk' (Nat.le_refl _) hL hcap hsz' hb (by simpa using hc') hrd
          · exact .undef
        · rw [if_pos hr]; exact .undef
      · unfold accV
        split
        · rename_i p off len
          have hp : ¬ p = o := by simpa [AV.refs] using hr
          rw [if_neg hp]
        · rw [if_neg (by simp [hr])]
   · cases hs
 · cases hs; exact h
 · cases hs; exact h
 · cases hs; exact h
 · cases hs; exact h
theorem zzM {o o' a b : Nat} (ha : a ≠ o') (hb : b ≠ o') (h : rnm o o' a = rnm o o' b) : a = b := by
 unfold rnm at h
 split at h <;> split at h
 · rename_i h1 h2; rw [h1, h2]
 · exact absurd h.symm hb
 · exact absurd h ha
 · exact h
theorem zAO {o o' : Nat} {S S' : St} {a : Act} {w : World} {ι : Inj} {R : Nat → Prop} (hs : toNm o o' S = some S') (h : Rel C S a w ι R) : ∃ ι', Rel C S' a w ι' R := by
 unfold toNm at hs
 generalize hlk : look o S.heap = q at hs
 cases q with
 | none => cases hs; exact ⟨ι, h⟩
 | some ob =>
  simp only [toNm1] at hs
  split at hs
  · rename_i hc
    obtain ⟨hn, he, hh⟩ := hc
    cases hs
    have hn' : look o' S.heap = none := by simpa using hn
    have hmk : ∀ n, n ≠ o' → mark (renH (rnm o o') S.heap) (rnm o o' n) = mark S.heap n := by
     intro n hno
     unfold mark
     rw [zrT fun m hm e => zzM (fun e2 => by rw [e2, hn'] at hm; cases hm) hno e]
     cases look n S.heap with
     | none => rfl
     | some ob => cases ob <;> rfl
    have hι : ∀ n, n ≠ o' → (fun q => if q = o' then ι o else if q = o then none else ι q) (rnm o o' n) = ι n := by
     intro n hno
     unfold rnm
     by_cases e : n = o
     · subst e; simp
     · simp [e, hno]
    refine ⟨fun q => if q = o' then ι o else if q = o then none else ι q, { h with own := ?_, inj := ?_, env := ?_, heap := ?_ }⟩
    · intro q b s hq
      split at hq
      · exact h.own o b s hq
      · split at hq
        · cases hq
        · exact h.own q b s hq
    · intro q q' b s s' hq hq'
      split at hq <;> split at hq'
      · rename_i e1 e2; rw [e1, e2]
      · split at hq'
        · cases hq'
        · rename_i e1 e2 e3; exact absurd (h.inj o q' b s s' hq hq') (Ne.symm e3)
      · split at hq
        · cases hq
        · rename_i e1 e2 e3; exact absurd (h.inj q o b s s' hq hq') e3
      · split at hq
        · cases hq
        · split at hq'
          · cases hq'
          · exact h.inj q q' b s s' hq hq'
    · intro t x hx
      have : ∃ y, (t, y) ∈ S.env ∧ x = y.ren (rnm o o') := by
       have key : ∀ (E : Env), (t, x) ∈ renEnv (rnm o o') E → ∃ y, (t, y) ∈ E ∧ x = y.ren (rnm o o') := by
        intro E
        induction E with
        | nil => intro h; cases h
        | cons p l ih =>
         obtain ⟨t', y⟩ := p
         intro h
         simp only [renEnv] at h
         cases h with
         | head => exact ⟨y, .head _, rfl⟩
         | tail _ h => obtain ⟨z, h1, h2⟩ := ih h; exact ⟨z, .tail _ h1, h2⟩
       exact key _ hx
      obtain ⟨y, hy, rfl⟩ := this
      obtain ⟨u, h1, h2⟩ := h.env t y hy
      refine ⟨u, h1, h2.ren fun n hn2 => ?_⟩
      have hno : n ≠ o' := fun e => by subst e; rw [zoe hy he] at hn2; cases hn2
      exact ⟨fun p hp => (hι n hno).trans hp, hmk n hno⟩
    · intro n ob' hm
      obtain ⟨⟨m, ob2⟩, hm2, he2⟩ := List.mem_map.1 hm
      cases he2
      have hno : m ≠ o' := fun e => by
       subst e
       have hs2 : (look m S.heap).isSome = true := by
        have key : ∀ (l : Heap), (m, ob2) ∈ l → (look m l).isSome = true := by
         intro l
         induction l with
         | nil => intro h; cases h
         | cons p l ih =>
          obtain ⟨k, y⟩ := p
          intro h
          simp only [look]
          split
          · rfl
          · rename_i hne
            cases h with
            | head => exact absurd rfl hne
            | tail _ h => exact ih h
        exact key _ hm2
       rw [hn'] at hs2; cases hs2
      refine (h.heap m ob2 hm2).ren (hι m hno) fun n hn2 => ?_
      have hno2 : n ≠ o' := fun e => by subst e; rw [zkt hm2 hh] at hn2; cases hn2
      exact ⟨fun p hp => (hι n hno2).trans hp, hmk n hno2⟩
  · cases hs
theorem zuN {o : Nat} {H : Heap} {E : Env} : datEnv o H E = E.map fun p => (p.1, datV o H p.2) := by
 induction E with
 | nil => rfl
 | cons p l ih => obtain ⟨t, x⟩ := p; simp only [datEnv, ih]; rfl
theorem zAM {S S' : St} {a : Act} {w : World} {ι : Inj} {R : Nat → Prop} {o : Nat} (hs : toDat o S = some S') (h : Rel C S a w ι R) : ∃ R', Rel C S' a w ι R' := by
 unfold toDat toDat1 at hs
 split at hs
 · rename_i ob hlk
   cases hs
   have hf := h.freeze (os := [o]) (by simp [frzOk, hlk])
   refine ⟨Sealed R ι [o], { hf with env := fun t x hx => ?_ }⟩
   rw [zuN] at hx
   obtain ⟨⟨t', y⟩, hm, he⟩ := List.mem_map.1 hx
   cases he
   obtain ⟨u, h1, h2⟩ := h.env t' y hm
   obtain ⟨u', h1', h2'⟩ := hf.env t' y hm
   rw [h1] at h1'
   cases h1'
   refine ⟨u, h1, ?_⟩
   show VA w _ ι _ (datV o S.heap y) u
   unfold datV
   split
   · rename_i p es
     split
     · rename_i hp
       exact .d (toD_ok h h2 rfl fun q hq => by simpa [AV.objs, hp] using hq)
     · exact h2'
   · rename_i p off len
     split
     · rename_i hp
       unfold datO
       split
       · rename_i d hd
         exact .d (toD_ok h h2 hd fun q hq => by simpa [AV.objs, hp] using hq)
       · exact h2'
     · exact h2'
   · exact h2'
 · cases hs; exact ⟨R, h⟩
theorem zrl {S' : St} {a : Act} {w : World} : ∀ {gs : List Nat} {S : St} {ι : Inj} {R : Nat → Prop}, ghosts gs S = some S' → Rel C S a w ι R → ∃ ι' R', Rel C S' a w ι' R' := by
 intro gs
 induction gs with
 | nil => intro S ι R hs h; cases hs; exact ⟨ι, R, h⟩
 | cons g gs ih =>
  intro S ι R hs h
  obtain ⟨S1, h1, h2⟩ := Option.bind_eq_some_iff.1 hs
  have : ∃ ι' R', Rel C S1 a w ι' R' := by
   unfold ghost1 at h1
   split at h1
   · split at h1
     · exact ⟨ι, R, zAP h1 h⟩
     · exact ⟨ι, R, zAK h1 h⟩
   · split at h1
     · obtain ⟨ι', h'⟩ := zAO h1 h; exact ⟨ι', R, h'⟩
     · obtain ⟨R', h'⟩ := zAM h1 h; exact ⟨ι, R', h'⟩
  obtain ⟨ι', R', h'⟩ := this
  exact ih h2 h'
end Go.Sim
