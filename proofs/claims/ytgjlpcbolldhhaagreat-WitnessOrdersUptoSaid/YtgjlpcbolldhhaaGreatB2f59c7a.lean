/-
  States put in order.
-/
import Derived.Test.YtgjlpcbolldhhaaGreatB5b17d0c
import Derived.RegionTactic
set_option linter.unusedSimpArgs false
set_option linter.unusedVariables false
set_option maxHeartbeats 10000000
set_option maxRecDepth 100000
namespace Go.Sim
open Go (World Value Addr TypeId Act)
inductive zl where
 | skip
 | ops (gs : List Nat) (l : List zh) (kill : List Nat)
 | draw (gs : List Nat) (l : List zh) (fr : List (List Nat)) (kill : List Nat)
 | seq (a b : zl)
 | cond (c : Opd) (t e : zl)
 | block (id : Nat) (b : zl)
 | loop (kill : List Nat) (b : zl)
 | exit (id : Nat) (keep : List Nat)
 | ret (keep : List Nat)
structure zw where
 kill : List (Nat × List Nat) := []
 ghost : List (Nat × List Nat) := []
 obj : List (Nat × List Bool) := []
 acc : List Nat := []
 loop : List (Nat × List Nat) := []
 exit : List (Nat × List Nat) := []
 ret : List Nat := []
def zhb (hs : zw) (dst : Option Nat) : List Bool := match dst with | some d => (look d hs.obj).getD [] | none => []
def zmp (hs : zw) (dst : Option Nat) : Bool := match dst with | some d => hs.acc.contains d | none => false
def zeq : AOp -> Bool
 | .mv (.c (.xsl [])) => true
 | _ => false
def zck (hs : zw) (dst : Option Nat) (x : AOp) : AOp :=
 match x with
 | .call f _ xs => .call f (zhb hs dst) xs
 | .callv f _ xs => .callv f (zhb hs dst) xs
 | x => if zeq x && zmp hs dst then .nacc else x
def zbg (P : Program) (hs : zw) (ops : Array Oper) (o : Oper) : Option zh :=
 match zn P o.op with
 | none => none
 | some x =>
  match o.guard with
  | none => some ⟨o.dst, zck hs o.dst x, none⟩
  | some (j, b) => ((ops[j]?).bind (·.dst)).map fun t => ⟨o.dst, zck hs o.dst x, some (t, b)⟩
def zbR (K : List (Nat × List Nat)) (id : Nat) : List Nat := (look id K).getD []
def zbD (ks : List Nat) : Env -> Env
 | [] => []
 | (t, x) :: l => if ks.contains t then zbD ks l else (t, x) :: zbD ks l
def St.put (S : St) (dst : Option Nat) (v : AV) : St := match dst with | none => S | some d => ⟨zj d v S.env, S.heap⟩
inductive zJ where
 | normal
 | exit (id : Nat)
 | ret
variable {P : Program} {C : Ctx}
def Out (e : zJ) : Exit := match e with | .normal => .normal | .exit i => .exit i | .ret => .ret
theorem zCy {ks : List Nat} {E : Env} {p : Nat × AV} (h : p ∈ zbD ks E) : p ∈ E := by
 induction E with
 | nil => cases h
 | cons q l ih =>
  obtain ⟨t, x⟩ := q;simp only [zbD] at h
  split at h
  · exact .tail _ (ih h)
  · cases h with
    | head => exact .head _
    | tail _ h => exact .tail _ (ih h)
theorem Rel.kill {S : St} {a : Act} {w : World} {ι : Inj} {R : Nat -> Prop} (h : Rel C S a w ι R) (ks : List Nat) : Rel C ⟨zbD ks S.env, S.heap⟩ a w ι R := h.weaken fun _ _ hx => zCy hx
theorem Rel.putO {S : St} {a : Act} {w : World} {ι : Inj} {R : Nat -> Prop} (h : Rel C S a w ι R) {v : AV} {u : Value} (hv : VA w R ι (mark S.heap) v u) {dst : Option Nat} (hd : ∀ d, dst = some d -> d < C.n) :
    Rel C (S.put dst v) (a.put dst u) w ι R := by
 cases dst with
 | none => exact h.put_none u
 | some d => exact h.put hv (hd d rfl)
theorem zsH {f : FuncId} (h : zaE P f = true) (args : Array Value) (w : World) : (callFunc f args).run P w = .ok (.enter f args) w := by
 unfold zaE at h
 cases hf : P.funcs[f]? with
 | none => simp [hf] at h
 | some fn =>
  simp only [hf, zKW, zLC] at h;have h1 : ¬ fn.name = "runtime.NumGoroutine" := by simpa using h.2
  have h2 : ¬ fn.body = none := by
   intro e;have := h.1;rw [e] at this; cases this
  simp [callFunc, hf, h1, h2]
theorem zxU {op : Op} {f : FuncId} {ms : List Bool} {xs : List Opd} (h : zn P op = some (.call f ms xs)) : ∃ c : Call, op = .call c /\ c.callee = .value (.func f) /\ ms = [] /\ zaE P f = true /\ c.args.toList.mapM opd = some xs := by
 cases op with
 | call c =>
  simp only [zn] at h
  split at h
  · rename_i g hcal
    split at h
    · rename_i hcf;obtain ⟨ys, hys, h⟩ := zKK.1 h
      cases h
      exact ⟨c, rfl, hcal, rfl, hcf, hys⟩
    · obtain ⟨ys, hys, h⟩ := zKK.1 h
      rcases zd9 h with ⟨_, _, _, e⟩ | ⟨_, _, _, _, e⟩ | ⟨_, _, _, _, _, e⟩ <;> cases e
  all_goals (exfalso; revert h; (repeat' split) <;> simp [zKK])
 | makeFunc fn a b =>
  exfalso; revert h
  cases fn <;> simp only [zn] <;> (repeat' split) <;> simp [zKK]
 | _ =>
  exfalso; revert h;simp only [zn]
  (repeat' split) <;> simp [zKK, zKL]
theorem zxV {op : Op} {y : Opd} {ms : List Bool} {xs : List Opd} (h : zn P op = some (.callv y ms xs)) : ∃ (c : Call) (f : Nat), op = .call c /\ y = .t f /\ c.callee = .value (.tmp f) /\ ms = [] /\ f < 1000000 /\ c.args.toList.mapM opd = some xs := by
 cases op with
 | call c =>
  simp only [zn] at h
  split at h
  · exfalso
    split at h
    · revert h; simp [zKK]
    · obtain ⟨ys, hys, h⟩ := zKK.1 h
      rcases zd9 h with ⟨_, _, _, e⟩ | ⟨_, _, _, _, e⟩ | ⟨_, _, _, _, _, e⟩ <;> cases e
  · rename_i g hcal
    split at h
    · rename_i hlt;obtain ⟨ys, hys, h⟩ := zKK.1 h
      cases h
      exact ⟨c, g, rfl, rfl, hcal, rfl, hlt, hys⟩
    · cases h
  all_goals (exfalso; revert h; (repeat' split) <;> simp [zKK])
 | makeFunc fn a b =>
  exfalso; revert h
  cases fn <;> simp only [zn] <;> (repeat' split) <;> simp [zKK]
 | _ =>
  exfalso; revert h;simp only [zn]
  (repeat' split) <;> simp [zKK, zKL]
theorem ztu {k : Nat} {xs : List Opd} {ng : Bool} {y : Opd} : ¬ zda k xs = some (.nileq ng y) := fun h => by
 rcases zd9 h with ⟨_, _, _, e⟩ | ⟨_, _, _, _, e⟩ | ⟨_, _, _, _, _, e⟩ <;> cases e
theorem ztv {k : Nat} {xs : List Opd} {y : Opd} : ¬ zda k xs = some (.mv y) := fun h => by
 rcases zd9 h with ⟨_, _, _, e⟩ | ⟨_, _, _, _, e⟩ | ⟨_, _, _, _, _, e⟩ <;> cases e
theorem zxX {op : Op} {ng : Bool} {y : Opd} (h : zn P op = some (.nileq ng y)) : ∃ (b : BinOp) (t e u : TypeId) (x q : Operand), op = .binOp b t x q u /\ b = (if ng then .neq else .eql) /\ P.underlying t = some (.slice e) /\ opd x = some y /\ zhE q = true := by
 cases op with
 | call c => exfalso; revert h; simp only [zn]; (repeat' split) <;> simp [zKK, ztu]
 | makeFunc fn a b =>
  exfalso; revert h
  cases fn <;> simp only [zn] <;> (repeat' split) <;> simp [zKK]
 | binOp b t x q u =>
  simp only [zn] at h
  split at h
  · exfalso; revert h; simp [zKK]
  · exfalso; revert h; simp [zKK]
  · exfalso; revert h; (repeat' split) <;> simp [zKK]
  · exfalso; revert h; (repeat' split) <;> simp [zKK]
  · exfalso; revert h; (repeat' split) <;> simp [zKK]
  · rename_i e hu
    split at h
    · rename_i hq
      split at h
      · obtain ⟨z, hz, h⟩ := zKL.1 h
        cases h
        exact ⟨_, t, e, u, x, q, rfl, rfl, hu, hz, hq⟩
      · obtain ⟨z, hz, h⟩ := zKL.1 h
        cases h
        exact ⟨_, t, e, u, x, q, rfl, rfl, hu, hz, hq⟩
      · cases h
    · cases h
  · cases h
 | _ =>
  exfalso; revert h;simp only [zn]
  (repeat' split) <;> simp [zKK, zKL]
def zbN (H : za) (x : Option (AV × za)) : Option (AV × za) := x.map fun p => (p.1, zo p.2 H)
def zbO (F : zC) (E : Env) (H : za) (dst : Nat) (ms : List Bool) (f : AV) (args : List AV) : Option (AV × za) :=
 match f with
 | .d (.fn g cs) => zS F E H dst ms g (args ++ cs.map .d)
 | .fn g cs => zS F E H dst ms g (args ++ cs)
 | _ => none
def zcV (H : za) (ng : Bool) (x : AV) : Option (AV × za) :=
 match x with
 | .nl b => some (.d (.bool (if ng then !b else b)), H)
 | x => match slD x with
  | some (_ :: _) => some (.d (.bool ng), H)
  | _ => none
def step (F : zC) (E : Env) (H : za) (dst : Nat) : AOp -> Option (AV × za)
 | .call f ms xs => zbN H (zS F E H dst ms f (xs.map (·.ev E)))
 | .callv f ms xs => zbN H (zbO F E H dst ms (f.ev E) (xs.map (·.ev E)))
 | .nileq ng x => zcV H ng (x.ev E)
 | op => ze E H dst op
theorem zAp {x : AOp} (h : zeq x = true) : x = .mv (.c (.xsl [])) := by
 unfold zeq at h
 split at h
 · rfl
 · cases h
theorem zxW {op : Op} (h : zn P op = some (.mv (.c (.xsl [])))) : ∃ y, (op = .move y \/ op = .assign y) /\ opd y = some (.c (.xsl [])) := by
 cases op with
 | move y => simp only [zn, zKL] at h; obtain ⟨z, h1, h2⟩ := h; cases h2; exact ⟨y, .inl rfl, h1⟩
 | assign y => simp only [zn, zKL] at h; obtain ⟨z, h1, h2⟩ := h; cases h2; exact ⟨y, .inr rfl, h1⟩
 | makeFunc fn a b =>
  exfalso; revert h
  cases fn <;> simp only [zn] <;> (repeat' split) <;> simp [zKK]
 | _ =>
  exfalso; revert h;simp only [zn]
  (repeat' split) <;> simp [zKK, zKL, ztv]
theorem zHH {y : Operand} (h : opd y = some (.c (.xsl []))) : ∃ v, y = .const v /\ v = .slice none 0 0 := by
 cases y with
 | tmp t => simp only [opd] at h; split at h <;> cases h
 | const v =>
  refine ⟨v, rfl, ?_⟩;simp only [opd] at h
  split at h
  · cases h
  · obtain ⟨x, h1, h2⟩ := zKL.1 h
    cases h2
    unfold zbw at h1
    split at h1
    · obtain ⟨ds, _, h2⟩ := zKL.1 h1;unfold AV.mkAgg at h2
      split at h2 <;> cases h2
    · unfold zcb at h1
      split at h1
      · split at h1 <;> cases h1
      · cases h1
      · split at h1 <;> cases h1
      · rfl
      · split at h1 <;> cases h1
 | global g => cases h
 | func f => cases h
theorem zic {F : zC} (hF : FOK P F) {o : Oper} {x0 : AOp} {hs : zw} {S : St} {a : Act} {w : World} {ι : Inj} {R : Nat -> Prop} {v : AV} {H' : za} {next : Act -> World -> Prop} {Q : Exit -> Act -> World -> Prop}
    (hc : zn P o.op = some x0) (hd : ∀ d, o.dst = some d -> d < C.n) (h : step F S.env S.heap (o.dst.getD 0) (zck hs o.dst x0) = some (v, H')) (hr : Rel C S a w ι R)
    (hn : ∀ a' w' ι' R', Rel C (St.put ⟨S.env, H'⟩ o.dst v) a' w' ι' R' -> next a' w') : o.wp P a w next Q := by
 have calls : ∀ (f : FuncId) (ms : List Bool) (xs : List AV) (us : List Value), (execOp a.eval o).run P w = .ok (.enter f us.toArray) w -> VAs w R ι (mark S.heap) xs us -> zbN S.heap (zS F S.env S.heap (o.dst.getD 0) ms f xs) = some (v, H') -> o.wp P a w next Q := by
  intro f ms xs us he hv hw;obtain ⟨⟨v', δ⟩, h1, h2⟩ := zKL.1 hw
  cases h2
  unfold Oper.wp;rw [he];refine (zxE hF h1 hr hv).mono fun e w' hh => ?_;obtain ⟨u, ι', R', rfl, hr', hv'⟩ := hh;exact hn _ _ _ _ (hr'.putO hv' hd)
 have simple : ∀ {x : AOp}, zk C S a v H' ((execOp a.eval o).run P w) -> o.wp P a w next Q := by
  intro x hg;obtain ⟨u, w', ι', R', hrun, hr', hv'⟩ := hg;have hfin := hn _ _ _ _ (hr'.putO hv' hd);unfold Oper.wp
  rcases hrun with hrun | ⟨hrun, rfl⟩ <;> rw [hrun] <;> exact hfin
 have plain : ∀ {x : AOp}, (if zeq x && zmp hs o.dst then AOp.nacc else x) = zck hs o.dst x0 -> x = x0 -> step F S.env S.heap (o.dst.getD 0) x = ze S.env S.heap (o.dst.getD 0) x -> o.wp P a w next Q := by
  intro x e1 e2 hst;subst e2;rw [<- e1] at h
  split at h
  · rename_i hnil;simp only [zKW] at hnil;have hx := zAp hnil.1;rw [hx] at hc;obtain ⟨y, hop, hy⟩ := zxW hc;obtain ⟨cv, rfl, rfl⟩ := zHH hy;simp only [step, ze] at h
    split at h
    · rename_i hu
      cases h
      refine simple (x := .nacc) ⟨.slice none 0 0, w, clr ι (o.dst.getD 0), R, .inl ?_, hr.newNone hu, .acc0⟩
      rcases hop with hop | hop <;> simp [execOp, hop, Act.eval]
    · cases h
  · rw [hst] at h;exact simple (x := x) (zts hc hr h)
 cases x0 with
 | call f ms xs =>
  obtain ⟨c, hop, hcal, _, hcf, hxs⟩ := zxU hc;obtain ⟨hl, hg⟩ := zdj hr hxs;refine calls f _ _ (c.args.toList.map a.eval) ?_ ⟨hl, hg⟩ h;have e : (c.args.toList.map a.eval).toArray = c.args.map a.eval := by apply Array.ext'; simp
  simp [execOp, hop, resolve, hcal, Act.eval, Deferred.ofValue, invoke, zsH hcf, e]
 | callv y ms xs =>
  obtain ⟨c, f, hop, rfl, hcal, _, hflt, hxs⟩ := zxV hc;obtain ⟨hl, hg⟩ := zdj hr hxs;have hfv := hr.ev (show opd (.tmp f) = some (.t f) by simp only [opd, zKN hflt]);have fin : ∀ (g : FuncId) (cs : List AV), (∃ vs : List Value, a.eval (.tmp f) = .func (.func g) #[] vs.toArray /\ VAs w R ι (mark S.heap) cs vs) -> zbN S.heap (zS F S.env S.heap (o.dst.getD 0) (zhb hs o.dst) g (xs.map (·.ev S.env) ++ cs)) = some (v, H') -> o.wp P a w next Q := by
   rintro g cs ⟨vs, hfe, hvl, hvg⟩ hw;have hcf : zaE P g = true := by
    obtain ⟨⟨v', δ⟩, h1, _⟩ := zKL.1 hw;exact zxA hF h1
   refine calls g _ _ (c.args.toList.map a.eval ++ vs) ?_ ⟨by rw [zKO, zKO, hl, hvl], fun i x u h1 h2 => ?_⟩ hw
   · have e : (c.args.toList.map a.eval ++ vs).toArray = c.args.map a.eval ++ vs.toArray := by apply Array.ext'; simp
     simp [execOp, hop, resolve, hcal, hfe, Deferred.ofValue, invoke, zsH hcf, e]
   · by_cases hi : i < (xs.map (·.ev S.env)).length
     · rw [zLk hi] at h1;rw [zLk (by omega)] at h2;exact hg i x u h1 h2
     · rw [zLd (by omega)] at h1;rw [zLd (by omega), hl] at h2;exact hvg _ x u h1 h2
  simp only [zck, step, zbO] at h;generalize hfe : Opd.ev S.env (.t f) = fa at h hfv;generalize hfa : a.eval (.tmp f) = fv at hfv
  split at h
  · rename_i g cs
    cases hfv with
    | d hd =>
     cases hd with
     | fn hl' hg' => exact fin g _ ⟨_, hfa, by simpa using hl', fun i x u k1 k2 => by
         rw [zKQ] at k1;obtain ⟨y, k3, rfl⟩ := zKL.1 k1;exact .d (hg' i y u k3 k2)⟩ h
  · rename_i g cs
    cases hfv with
    | fn hl' hg' => exact fin g _ ⟨_, hfa, hl', hg'⟩ h
  · cases h
 | nileq ng y =>
  obtain ⟨b, t, e, u, x, q, hop, hb, hu, hy, hq⟩ := zxX hc;have hv := hr.ev hy;simp only [zck, zeq, Bool.false_and, zLB, if_false, step, zcV] at h;have hqv : ∃ l c, a.eval q = .slice none l c := by
   unfold zhE at hq
   split at hq
   · exact ⟨_, _, rfl⟩
   · cases hq
  obtain ⟨ql, qc, hqv⟩ := hqv
  split at h
  · rename_i b0 hnl
    cases h
    rw [hnl] at hv;generalize hav : a.eval x = av at hv
    cases hv with
    | nl1 =>
     have heq : ∀ cap, (Op.equal t (.slice none 0 cap) (.slice none ql qc)).run P w = .ok true w := by
      intro cap;unfold Op.equal;rw [show Op.maxDepth = 9999 + 1 from rfl];unfold Op.equalIn;simp only [Sem.run_bind, run_underlying hu, Result.andThen_ok];simp
     refine simple (x := .nacc) (zk.same hr (.d .bool) (u := .bool (if ng = true then !true else true)) ?_)
     cases ng <;> simp at hb <;> subst hb <;> simp [execOp, hop, hav, hqv, eqGuard, Go.binOp, heq]
    | nl2 =>
     have heq : ∀ ad cap, (Op.equal t (.slice (some ad) 0 cap) (.slice none ql qc)).run P w = .ok false w := by
      intro ad cap;unfold Op.equal;rw [show Op.maxDepth = 9999 + 1 from rfl];unfold Op.equalIn;simp only [Sem.run_bind, run_underlying hu, Result.andThen_ok];simp
     refine simple (x := .nacc) (zk.same hr (.d .bool) (u := .bool (if ng = true then !false else false)) ?_)
     cases ng <;> simp at hb <;> subst hb <;> simp [execOp, hop, hav, hqv, eqGuard, Go.binOp, heq]
  split at h
  · rename_i d0 ds hsl
    cases h
    have fin : ∀ (ad : Addr) (l cap : Nat), a.eval x = .slice (some ad) l cap -> o.wp P a w next Q := by
     intro ad l cap hav;have heq : (Op.equal t (.slice (some ad) l cap) (.slice none ql qc)).run P w = .ok false w := by
      unfold Op.equal;rw [show Op.maxDepth = 9999 + 1 from rfl];unfold Op.equalIn;simp only [Sem.run_bind, run_underlying hu, Result.andThen_ok];simp
     refine simple (x := .nacc) (zk.same hr (.d .bool) (u := .bool ng) ?_)
     cases ng <;> simp at hb <;> subst hb <;> simp [execOp, hop, hav, hqv, eqGuard, Go.binOp, heq]
    generalize hpa : y.ev S.env = pa at hv hsl;generalize hav : a.eval x = av at hv;have data : ∀ {es : List D}, slD pa = some es -> Rd w R (.v (.sl es) av) -> o.wp P a w next Q := by
     intro es he hrd;rw [he] at hsl
     cases hsl
     obtain ⟨b', off, s, cap, rfl, _⟩ := hrd.sl_inv (by simp);exact fin _ _ _ hav
    cases hv with
    | d hv =>
     rename_i dx
     cases dx with
     | sl es => exact data rfl hv
     | _ => simp [slD] at hsl
    | xsl hv => exact data rfl hv
    | accR => exact fin _ _ _ hav
    | accC => exact fin _ _ _ hav
    | acc0 => simp [slD] at hsl
    | _ => simp [slD] at hsl
  · cases h
 | _ => exact plain rfl rfl rfl
end Go.Sim

namespace Go.Sim
open Go (World Value Addr TypeId Act)
variable {P : Program} {C : Ctx} {F : zC}
def z4 {α : Type} : List (Nat × α) -> Bool
 | [] => true
 | (k, _) :: l => !(l.any fun p => p.1 == k) && z4 l
theorem zsi {α : Type} {l : List (Nat × α)} (h : z4 l = true) {k : Nat} {x : α} (hm : (k, x) ∈ l) : look k l = some x := by
 induction l with
 | nil => cases hm
 | cons p l ih =>
  obtain ⟨j, y⟩ := p;simp only [z4, zKW, zLC] at h;simp only [look]
  cases hm with
  | head => simp
  | tail _ hm =>
   rw [zKM, ih h.2 hm];rintro rfl;have := zMv.1 h.1 _ hm;simp at this
def zcm {α : Type} (p : Nat × α) : List (Nat × α) -> List (Nat × α)
 | [] => [p]
 | q :: l => if p.1 <= q.1 then p :: q :: l else q :: zcm p l
def zaB {α : Type} : List (Nat × α) -> List (Nat × α)
 | [] => []
 | p :: l => zcm p (zaB l)
def gc (E : Env) (H : za) : za -> za
 | [] => []
 | p :: l => if (refsEnv p.1 E || refsHeap p.1 H) = true then p :: gc E H l else gc E H l
def gc1 (E : Env) (H : za) : za := gc E H H
def zcn (ks : List Nat) : Env -> Env
 | [] => []
 | p :: l => if (ks.contains p.1 || decide (1000000 <= p.1)) = true then p :: zcn ks l else zcn ks l
def gcS (S : St) : St := ⟨S.env, gc1 S.env S.heap⟩
def endS (ks : List Nat) (S : St) : St := gcS ⟨zaB (zcn ks S.env), S.heap⟩
def zgf (H : za) : za := if z4 H = true then zaB H else H
def zfp : AV -> AV
 | .xsl es => .d (.sl es)
 | .d x => .d x
 | .ref o i off => .ref o i off
 | .osl o off len => .osl o off len
 | .acc o es => .acc o es
 | .pe o x => .pe o x
 | .agg cs => .agg cs
 | .tup vs => .tup vs
 | .fn f cs => .fn f cs
 | .nl b => .nl b
 | .mpr o => .mpr o
 | .undef => .undef
def deX : Env -> Env
 | [] => []
 | (t, x) :: l => (t, zfp x) :: deX l
theorem zyg {w : World} {R : Nat -> Prop} {ι : Inj} {mk : Nat -> Option Nat} {x : AV} {u : Value} (h : VA w R ι mk x u) : VA w R ι mk (zfp x) u := by
 cases x with
 | xsl es => cases h with | xsl h => exact .d h
 | _ => exact h
theorem zCu {t : Nat} {y : AV} : ∀ {E : Env}, (t, y) ∈ deX E -> ∃ x, (t, x) ∈ E /\ y = zfp x := by
 intro E
 induction E with
 | nil => intro h; cases h
 | cons p l ih =>
  intro h
  cases h with
  | head => exact ⟨p.2, .head _, rfl⟩
  | tail _ h => obtain ⟨x, h1, h2⟩ := ih h; exact ⟨x, .tail _ h1, h2⟩
def norm1 (S : St) : St := ⟨zaB (deX S.env), zgf (gc1 S.env (gc1 S.env S.heap))⟩
def norm (ks : List Nat) (S : St) : St := norm1 ⟨zbD ks S.env, S.heap⟩
theorem zCw {α : Type} {p q : Nat × α} {l : List (Nat × α)} : q ∈ zcm p l ↔ q = p \/ q ∈ l := by
 induction l with
 | nil => simp [zcm]
 | cons r l ih =>
  simp only [zcm]
  split
  · simp
  · simp only [zLD, ih];constructor
    · rintro (h | h | h)
      · exact .inr (.inl h)
      · exact .inl h
      · exact .inr (.inr h)
    · rintro (h | h | h)
      · exact .inr (.inl h)
      · exact .inl h
      · exact .inr (.inr h)
theorem zew {α : Type} {q : Nat × α} {l : List (Nat × α)} : q ∈ zaB l ↔ q ∈ l := by
 induction l with
 | nil => simp [zaB]
 | cons p l ih => simp [zaB, zCw, ih]
theorem zCb {α : Type} {k : Nat} {p : Nat × α} {l : List (Nat × α)} (h : ∀ x, (p.1, x) ∉ l) : look k (zcm p l) = if p.1 = k then some p.2 else look k l := by
 induction l with
 | nil => rfl
 | cons r l ih =>
  have hr : r.1 ≠ p.1 := fun e => h r.2 (by rw [<- e]; exact .head _);simp only [zcm]
  split
  · rfl
  · simp only [look];rw [ih fun x hx => h x (.tail _ hx)]
    by_cases e : r.1 = k
    · rw [zKN e, zKN e, zKM (by omega)]
    · rw [zKM e, zKM e]
theorem zzO {E : Env} {H l : za} {p : Nat × Obj} : p ∈ gc E H l ↔ p ∈ l /\ (refsEnv p.1 E || refsHeap p.1 H) = true := by
 induction l with
 | nil => simp [gc]
 | cons q l ih =>
  simp only [gc]
  split
  · rename_i h;simp only [zLD, ih];constructor
    · rintro (rfl | ⟨h1, h2⟩)
      · exact ⟨.inl rfl, h⟩
      · exact ⟨.inr h1, h2⟩
    · rintro ⟨rfl | h1, h2⟩
      · exact .inl rfl
      · exact .inr ⟨h1, h2⟩
  · rename_i h;simp only [zLD, ih];constructor
    · rintro ⟨h1, h2⟩; exact ⟨.inr h1, h2⟩
    · rintro ⟨rfl | h1, h2⟩
      · exact absurd h2 h
      · exact ⟨h1, h2⟩
theorem zCa {E : Env} {H l : za} {o : Nat} (h : (refsEnv o E || refsHeap o H) = true) : look o (gc E H l) = look o l := by
 induction l with
 | nil => rfl
 | cons q l ih =>
  simp only [gc]
  by_cases hq : (refsEnv q.1 E || refsHeap q.1 H) = true
  · rw [zKN hq]; simp only [look, ih]
  · rw [zKM hq, ih];simp only [look];rw [zKM];intro e; rw [e] at hq; exact hq h
theorem Rel.gc {S : St} {a : Act} {w : World} {ι : Inj} {R : Nat -> Prop} (h : Rel C S a w ι R) : Rel C ⟨S.env, gc1 S.env S.heap⟩ a w ι R := by
 have hm : ∀ p, (refsEnv p S.env || refsHeap p S.heap) = true -> mark (gc1 S.env S.heap) p = mark S.heap p := fun p hp => by
  unfold mark gc1; rw [zCa hp]
 have hst : ∀ p, (refsEnv p S.env || refsHeap p S.heap) = true -> Step w w ι ι (mark S.heap) (mark (gc1 S.env S.heap)) p := fun p hp => Step.other rfl (hm p hp) fun _ _ _ => rfl;have env1 : ∀ {t x p}, (t, x) ∈ S.env -> x.refs p = true -> refsEnv p S.env = true := fun {t x p} hx hp => by
  cases hh : refsEnv p S.env with
  | true => rfl
  | false => rw [zeH hx hh] at hp; cases hp
 have heap1 : ∀ {t x p}, (t, x) ∈ S.heap -> x.refs p = true -> refsHeap p S.heap = true := fun {t x p} hx hp => by
  cases hh : refsHeap p S.heap with
  | true => rfl
  | false => rw [zb4 hx hh] at hp; cases hp
 refine { h with env := fun t x hx => ?_, heap := fun q ob hq => ?_ }
 · obtain ⟨u, h1, h2⟩ := h.env t x hx;exact ⟨u, h1, h2.mono (fun _ h => h) (fun _ _ => rfl) fun p hp => hst p (by rw [env1 hx hp]; rfl)⟩
 · have hq' := (zzO.1 hq).1;exact (h.heap q ob hq').mono (fun _ h => h) (fun _ _ => rfl) (fun _ _ hb => ⟨hb, rfl, fun h => h⟩) (fun h => h) fun p hp => hst p (by rw [heap1 hq' hp, Bool.or_true])
theorem zCx {ks : List Nat} {E : Env} {p : Nat × AV} (h : p ∈ zcn ks E) : p ∈ E := by
 induction E with
 | nil => cases h
 | cons q l ih =>
  simp only [zcn] at h
  split at h
  · cases h with
    | head => exact .head _
    | tail _ h => exact .tail _ (ih h)
  · exact .tail _ (ih h)
theorem Rel.endS {S : St} {a : Act} {w : World} {ι : Inj} {R : Nat -> Prop} (h : Rel C S a w ι R) (ks : List Nat) : Rel C (endS ks S) a w ι R := by
 have h1 : Rel C ⟨zaB (zcn ks S.env), S.heap⟩ a w ι R := h.weaken fun t x hx => zCx (zew.1 hx);exact h1.gc
theorem zCr {H : za} {o : Nat} (hn : z4 H = true) : mark (zaB H) o = mark H o := by
 have : look o (zaB H) = look o H := by
  induction H with
  | nil => rfl
  | cons p l ih =>
   obtain ⟨k, ob⟩ := p;simp only [z4, zKW, zLC] at hn;simp only [zaB];rw [zCb, ih hn.2]
   · rfl
   · intro x hx;rw [zew] at hx;have := zMv.1 hn.1 _ hx;simp at this
 unfold mark; rw [this]
theorem Rel.sorted {S : St} {a : Act} {w : World} {ι : Inj} {R : Nat -> Prop} (h : Rel C S a w ι R) (hn : z4 S.heap = true) : Rel C ⟨zaB S.env, zaB S.heap⟩ a w ι R := by
 have hm : mark (zaB S.heap) = mark S.heap := funext fun o => zCr hn;refine { h with env := fun t x hx => ?_, heap := fun q ob hq => ?_ }
 · rw [hm]; exact h.env t x (zew.1 hx)
 · rw [hm]; exact h.heap q ob (zew.1 hq)
theorem Rel.norm1 {S : St} {a : Act} {w : World} {ι : Inj} {R : Nat -> Prop} (h : Rel C S a w ι R) : Rel C (norm1 S) a w ι R := by
 have h0 : Rel C ⟨S.env, gc1 S.env (gc1 S.env S.heap)⟩ a w ι R := (h.gc).gc;have h1 : Rel C ⟨deX S.env, gc1 S.env (gc1 S.env S.heap)⟩ a w ι R := by
  refine { h0 with env := fun t x hx => ?_ };obtain ⟨y, hy, rfl⟩ := zCu hx;obtain ⟨u, h2, h3⟩ := h0.env t y hy;exact ⟨u, h2, zyg h3⟩
 unfold Go.Sim.norm1 zgf
 split
 · rename_i hn; exact h1.sorted hn
 · exact { h1 with env := fun t x hx => h1.env t x (zew.1 hx) }
theorem Rel.norm {S : St} {a : Act} {w : World} {ι : Inj} {R : Nat -> Prop} (h : Rel C S a w ι R) (ks : List Nat) : Rel C (norm ks S) a w ι R := (h.kill ks).norm1
end Go.Sim
