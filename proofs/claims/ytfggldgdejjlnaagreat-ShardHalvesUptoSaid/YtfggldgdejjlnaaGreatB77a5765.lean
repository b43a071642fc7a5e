/-
  Code, and one operation.
-/
import Derived.Test.YtfggldgdejjlnaaGreatB66ab9ea
import Derived.RegionTactic
set_option linter.unusedSimpArgs false
set_option linter.unusedVariables false
set_option maxHeartbeats 10000000
set_option maxRecDepth 100000
namespace Go.Sim
open Go (World Value Addr TypeId Act)
inductive zh where
 | skip
 | ops (gs : List Nat) (l : List zp) (kill : List Nat)
 | draw (gs : List Nat) (l : List zp) (fr : List (List Nat)) (kill : List Nat)
 | seq (a b : zh)
 | cond (c : Opd) (t e : zh)
 | block (id : Nat) (b : zh)
 | loop (kill : List Nat) (b : zh)
 | exit (id : Nat) (keep : List Nat)
 | ret (keep : List Nat)
structure zk where
 kill : List (Nat × List Nat) := []
 ghost : List (Nat × List Nat) := []
 obj : List (Nat × List Bool) := []
 acc : List Nat := []
 loop : List (Nat × List Nat) := []
 exit : List (Nat × List Nat) := []
 ret : List Nat := []
def zql (hs : zk) (dst : Option Nat) : List Bool := match dst with | some d => (look d hs.obj).getD [] | none => []
def zuf (hs : zk) (dst : Option Nat) : Bool := match dst with | some d => hs.acc.contains d | none => false
def zjY : AOp -> Bool
 | .mv (.c (.xsl [])) => true
 | _ => false
def hint (hs : zk) (dst : Option Nat) (x : AOp) : AOp :=
 match x with
 | .call f _ xs => .call f (zql hs dst) xs
 | .callv f _ xs => .callv f (zql hs dst) xs
 | x => if zjY x && zuf hs dst then .nacc else x
def zcC (P : Program) (hs : zk) (ops : Array Oper) (o : Oper) : Option zp :=
 match zI P o.op with
 | none => none
 | some x =>
  match o.guard with
  | none => some ⟨o.dst, hint hs o.dst x, none⟩
  | some (j, b) => ((ops[j]?).bind (·.dst)).map fun t => ⟨o.dst, hint hs o.dst x, some (t, b)⟩
def zb8 (K : List (Nat × List Nat)) (id : Nat) : List Nat := (look id K).getD []
def zc9 (ks : List Nat) : Env -> Env
 | [] => []
 | (t, x) :: l => if ks.contains t then zc9 ks l else (t, x) :: zc9 ks l
def St.put (S : St) (dst : Option Nat) (v : AV) : St := match dst with | none => S | some d => ⟨zr d v S.env, S.heap⟩
inductive zJ where
 | normal
 | exit (id : Nat)
 | ret
variable {P : Program} {C : Ctx}
def Out (e : zJ) : Exit := match e with | .normal => .normal | .exit i => .exit i | .ret => .ret
theorem zIy {ks : List Nat} {E : Env} {p : Nat × AV} (h : p ∈ zc9 ks E) : p ∈ E := by
 induction E with
 | nil => cases h
 | cons q l ih =>
  obtain ⟨t, x⟩ := q;simp only [zc9] at h
  split at h
  · exact .tail _ (ih h)
  · cases h with
    | head => exact .head _
    | tail _ h => exact .tail _ (ih h)
theorem Rel.kill {S : St} {a : Act} {w : World} {ι : Inj} {R : Nat -> Prop} (h : Rel C S a w ι R) (ks : List Nat) : Rel C ⟨zc9 ks S.env, S.heap⟩ a w ι R := h.weaken fun _ _ hx => zIy hx
theorem Rel.putO {S : St} {a : Act} {w : World} {ι : Inj} {R : Nat -> Prop} (h : Rel C S a w ι R) {v : AV} {u : Value} (hv : VA w R ι (zf S.heap) v u) {dst : Option Nat} (hd : ∀ d, dst = some d -> d < C.n) :
    Rel C (S.put dst v) (a.put dst u) w ι R := by
 cases dst with
 | none => exact h.put_none u
 | some d => exact h.put hv (hd d rfl)
theorem zBi {f : FuncId} (h : zbQ P f = true) (args : Array Value) (w : World) : (callFunc f args).run P w = .ok (.enter f args) w := by
 unfold zbQ at h
 cases hf : P.funcs[f]? with
 | none => simp [hf] at h
 | some fn =>
  simp only [hf, zQ8, zRP] at h;have h1 : ¬ fn.name = "runtime.NumGoroutine" := by simpa using h.2
  have h2 : ¬ fn.body = none := by
   intro e;have := h.1;rw [e] at this; cases this
  simp [callFunc, hf, h1, h2]
theorem zDd {op : Op} {f : FuncId} {ms : List Bool} {xs : List Opd} (h : zI P op = some (.call f ms xs)) : ∃ c : Call, op = .call c /\ c.callee = .value (.func f) /\ ms = [] /\ zbQ P f = true /\ c.args.toList.mapM opd = some xs := by
 cases op with
 | call c =>
  simp only [zI] at h
  split at h
  · rename_i g hcal
    split at h
    · rename_i hcf;obtain ⟨ys, hys, h⟩ := zQP.1 h
      cases h
      exact ⟨c, rfl, hcal, rfl, hcf, hys⟩
    · obtain ⟨ys, hys, h⟩ := zQP.1 h
      rcases zi0 h with ⟨_, _, _, e⟩ | ⟨_, _, _, _, e⟩ | ⟨_, _, _, _, _, e⟩ <;> cases e
  all_goals (exfalso; revert h; (repeat' split) <;> simp [zQP])
 | makeFunc fn a b =>
  exfalso; revert h
  cases fn <;> simp only [zI] <;> (repeat' split) <;> simp [zQP]
 | _ =>
  exfalso; revert h;simp only [zI]
  (repeat' split) <;> simp [zQP, zQQ]
theorem zDe {op : Op} {y : Opd} {ms : List Bool} {xs : List Opd} (h : zI P op = some (.callv y ms xs)) : ∃ (c : Call) (f : Nat), op = .call c /\ y = .t f /\ c.callee = .value (.tmp f) /\ ms = [] /\ f < 1000000 /\ c.args.toList.mapM opd = some xs := by
 cases op with
 | call c =>
  simp only [zI] at h
  split at h
  · exfalso
    split at h
    · revert h; simp [zQP]
    · obtain ⟨ys, hys, h⟩ := zQP.1 h
      rcases zi0 h with ⟨_, _, _, e⟩ | ⟨_, _, _, _, e⟩ | ⟨_, _, _, _, _, e⟩ <;> cases e
  · rename_i g hcal
    split at h
    · rename_i hlt;obtain ⟨ys, hys, h⟩ := zQP.1 h
      cases h
      exact ⟨c, g, rfl, rfl, hcal, rfl, hlt, hys⟩
    · cases h
  all_goals (exfalso; revert h; (repeat' split) <;> simp [zQP])
 | makeFunc fn a b =>
  exfalso; revert h
  cases fn <;> simp only [zI] <;> (repeat' split) <;> simp [zQP]
 | _ =>
  exfalso; revert h;simp only [zI]
  (repeat' split) <;> simp [zQP, zQQ]
theorem zCD {k : Nat} {xs : List Opd} {ng : Bool} {y : Opd} : ¬ zgq k xs = some (.nileq ng y) := fun h => by
 rcases zi0 h with ⟨_, _, _, e⟩ | ⟨_, _, _, _, e⟩ | ⟨_, _, _, _, _, e⟩ <;> cases e
theorem zCE {k : Nat} {xs : List Opd} {y : Opd} : ¬ zgq k xs = some (.mv y) := fun h => by
 rcases zi0 h with ⟨_, _, _, e⟩ | ⟨_, _, _, _, e⟩ | ⟨_, _, _, _, _, e⟩ <;> cases e
theorem zDg {op : Op} {ng : Bool} {y : Opd} (h : zI P op = some (.nileq ng y)) : ∃ (b : BinOp) (t e u : TypeId) (x q : Operand), op = .binOp b t x q u /\ b = (if ng then .neq else .eql) /\ P.underlying t = some (.slice e) /\ opd x = some y /\ zsl q = true := by
 cases op with
 | call c => exfalso; revert h; simp only [zI]; (repeat' split) <;> simp [zQP, zCD]
 | makeFunc fn a b =>
  exfalso; revert h
  cases fn <;> simp only [zI] <;> (repeat' split) <;> simp [zQP]
 | binOp b t x q u =>
  simp only [zI] at h
  split at h
  · exfalso; revert h; simp [zQP]
  · exfalso; revert h; simp [zQP]
  · exfalso; revert h; (repeat' split) <;> simp [zQP]
  · exfalso; revert h; (repeat' split) <;> simp [zQP]
  · exfalso; revert h; (repeat' split) <;> simp [zQP]
  · rename_i e hu
    split at h
    · rename_i hq
      split at h
      · obtain ⟨z, hz, h⟩ := zQQ.1 h
        cases h
        exact ⟨_, t, e, u, x, q, rfl, rfl, hu, hz, hq⟩
      · obtain ⟨z, hz, h⟩ := zQQ.1 h
        cases h
        exact ⟨_, t, e, u, x, q, rfl, rfl, hu, hz, hq⟩
      · cases h
    · cases h
  · cases h
 | _ =>
  exfalso; revert h;simp only [zI]
  (repeat' split) <;> simp [zQP, zQQ]
def zdC (H : zb) (x : Option (AV × zb)) : Option (AV × zb) := x.map fun p => (p.1, zR p.2 H)
def zdD (F : zaa) (E : Env) (H : zb) (dst : Nat) (ms : List Bool) (f : AV) (args : List AV) : Option (AV × zb) :=
 match f with
 | .d (.fn g cs) => zat F E H dst ms g (args ++ cs.map .d)
 | .fn g cs => zat F E H dst ms g (args ++ cs)
 | _ => none
def zfM (H : zb) (ng : Bool) (x : AV) : Option (AV × zb) :=
 match x with
 | .nl b => some (.d (.bool (if ng then !b else b)), H)
 | x => match slD x with
  | some (_ :: _) => some (.d (.bool ng), H)
  | _ => none
def step (F : zaa) (E : Env) (H : zb) (dst : Nat) : AOp -> Option (AV × zb)
 | .call f ms xs => zdC H (zat F E H dst ms f (xs.map (·.ev E)))
 | .callv f ms xs => zdC H (zdD F E H dst ms (f.ev E) (xs.map (·.ev E)))
 | .nileq ng x => zfM H ng (x.ev E)
 | op => zi E H dst op
theorem zHj {x : AOp} (h : zjY x = true) : x = .mv (.c (.xsl [])) := by
 unfold zjY at h
 split at h
 · rfl
 · cases h
theorem zDf {op : Op} (h : zI P op = some (.mv (.c (.xsl [])))) : ∃ y, (op = .move y \/ op = .assign y) /\ opd y = some (.c (.xsl [])) := by
 cases op with
 | move y => simp only [zI, zQQ] at h; obtain ⟨z, h1, h2⟩ := h; cases h2; exact ⟨y, .inl rfl, h1⟩
 | assign y => simp only [zI, zQQ] at h; obtain ⟨z, h1, h2⟩ := h; cases h2; exact ⟨y, .inr rfl, h1⟩
 | makeFunc fn a b =>
  exfalso; revert h
  cases fn <;> simp only [zI] <;> (repeat' split) <;> simp [zQP]
 | _ =>
  exfalso; revert h;simp only [zI]
  (repeat' split) <;> simp [zQP, zQQ, zCE]
theorem zL5 {y : Operand} (h : opd y = some (.c (.xsl []))) : ∃ v, y = .const v /\ v = .slice none 0 0 := by
 cases y with
 | tmp t => simp only [opd] at h; split at h <;> cases h
 | const v =>
  refine ⟨v, rfl, ?_⟩;simp only [opd] at h
  split at h
  · cases h
  · obtain ⟨x, h1, h2⟩ := zQQ.1 h
    cases h2
    unfold zc4 at h1
    split at h1
    · obtain ⟨ds, _, h2⟩ := zQQ.1 h1;unfold AV.mkAgg at h2
      split at h2 <;> cases h2
    · unfold zeq at h1
      split at h1
      · split at h1 <;> cases h1
      · cases h1
      · split at h1 <;> cases h1
      · rfl
      · split at h1 <;> cases h1
 | global g => cases h
 | func f => cases h
theorem ztH {F : zaa} (hF : FOK P F) {o : Oper} {x0 : AOp} {hs : zk} {S : St} {a : Act} {w : World} {ι : Inj} {R : Nat -> Prop} {v : AV} {H' : zb} {next : Act -> World -> Prop} {Q : Exit -> Act -> World -> Prop}
    (hc : zI P o.op = some x0) (hd : ∀ d, o.dst = some d -> d < C.n) (h : step F S.env S.heap (o.dst.getD 0) (hint hs o.dst x0) = some (v, H')) (hr : Rel C S a w ι R)
    (hn : ∀ a' w' ι' R', Rel C (St.put ⟨S.env, H'⟩ o.dst v) a' w' ι' R' -> next a' w') : o.wp P a w next Q := by
 have calls : ∀ (f : FuncId) (ms : List Bool) (xs : List AV) (us : List Value), (execOp a.eval o).run P w = .ok (.enter f us.toArray) w -> VAs w R ι (zf S.heap) xs us -> zdC S.heap (zat F S.env S.heap (o.dst.getD 0) ms f xs) = some (v, H') -> o.wp P a w next Q := by
  intro f ms xs us he hv hw;obtain ⟨⟨v', δ⟩, h1, h2⟩ := zQQ.1 hw
  cases h2
  unfold Oper.wp;rw [he];refine (zCX hF h1 hr hv).mono fun e w' hh => ?_;obtain ⟨u, ι', R', rfl, hr', hv'⟩ := hh;exact hn _ _ _ _ (hr'.putO hv' hd)
 have simple : ∀ {x : AOp}, zx C S a v H' ((execOp a.eval o).run P w) -> o.wp P a w next Q := by
  intro x hg;obtain ⟨u, w', ι', R', hrun, hr', hv'⟩ := hg;have hfin := hn _ _ _ _ (hr'.putO hv' hd);unfold Oper.wp
  rcases hrun with hrun | ⟨hrun, rfl⟩ <;> rw [hrun] <;> exact hfin
 have plain : ∀ {x : AOp}, (if zjY x && zuf hs o.dst then AOp.nacc else x) = hint hs o.dst x0 -> x = x0 -> step F S.env S.heap (o.dst.getD 0) x = zi S.env S.heap (o.dst.getD 0) x -> o.wp P a w next Q := by
  intro x e1 e2 hst;subst e2;rw [<- e1] at h
  split at h
  · rename_i hnil;simp only [zQ8] at hnil;have hx := zHj hnil.1;rw [hx] at hc;obtain ⟨y, hop, hy⟩ := zDf hc;obtain ⟨cv, rfl, rfl⟩ := zL5 hy;simp only [step, zi] at h
    split at h
    · rename_i hu
      cases h
      refine simple (x := .nacc) ⟨.slice none 0 0, w, clr ι (o.dst.getD 0), R, .inl ?_, hr.newNone hu, .acc0⟩
      rcases hop with hop | hop <;> simp [execOp, hop, Act.eval]
    · cases h
  · rw [hst] at h;exact simple (x := x) (zCB hc hr h)
 cases x0 with
 | call f ms xs =>
  obtain ⟨c, hop, hcal, _, hcf, hxs⟩ := zDd hc;obtain ⟨hl, hg⟩ := zgK hr hxs;refine calls f _ _ (c.args.toList.map a.eval) ?_ ⟨hl, hg⟩ h;have e : (c.args.toList.map a.eval).toArray = c.args.map a.eval := by apply Array.ext'; simp
  simp [execOp, hop, resolve, hcal, Act.eval, Deferred.ofValue, invoke, zBi hcf, e]
 | callv y ms xs =>
  obtain ⟨c, f, hop, rfl, hcal, _, hflt, hxs⟩ := zDe hc;obtain ⟨hl, hg⟩ := zgK hr hxs;have hfv := hr.ev (show opd (.tmp f) = some (.t f) by simp only [opd, zQO hflt]);have fin : ∀ (g : FuncId) (cs : List AV), (∃ vs : List Value, a.eval (.tmp f) = .func (.func g) #[] vs.toArray /\ VAs w R ι (zf S.heap) cs vs) -> zdC S.heap (zat F S.env S.heap (o.dst.getD 0) (zql hs o.dst) g (xs.map (·.ev S.env) ++ cs)) = some (v, H') -> o.wp P a w next Q := by
   rintro g cs ⟨vs, hfe, hvl, hvg⟩ hw;have hcf : zbQ P g = true := by
    obtain ⟨⟨v', δ⟩, h1, _⟩ := zQQ.1 hw;exact zCT hF h1
   refine calls g _ _ (c.args.toList.map a.eval ++ vs) ?_ ⟨by rw [zQT, zQT, hl, hvl], fun i x u h1 h2 => ?_⟩ hw
   · have e : (c.args.toList.map a.eval ++ vs).toArray = c.args.map a.eval ++ vs.toArray := by apply Array.ext'; simp
     simp [execOp, hop, resolve, hcal, hfe, Deferred.ofValue, invoke, zBi hcf, e]
   · by_cases hi : i < (xs.map (·.ev S.env)).length
     · rw [zRE hi] at h1;rw [zRE (by omega)] at h2;exact hg i x u h1 h2
     · rw [zRJ (by omega)] at h1;rw [zRJ (by omega), hl] at h2;exact hvg _ x u h1 h2
  simp only [hint, step, zdD] at h;generalize hfe : Opd.ev S.env (.t f) = fa at h hfv;generalize hfa : a.eval (.tmp f) = fv at hfv
  split at h
  · rename_i g cs
    cases hfv with
    | d hd =>
     cases hd with
     | fn hl' hg' => exact fin g _ ⟨_, hfa, by simpa using hl', fun i x u k1 k2 => by
         rw [zQ7] at k1;obtain ⟨y, k3, rfl⟩ := zQQ.1 k1;exact .d (hg' i y u k3 k2)⟩ h
  · rename_i g cs
    cases hfv with
    | fn hl' hg' => exact fin g _ ⟨_, hfa, hl', hg'⟩ h
  · cases h
 | nileq ng y =>
  obtain ⟨b, t, e, u, x, q, hop, hb, hu, hy, hq⟩ := zDg hc;have hv := hr.ev hy;simp only [hint, zjY, zSA, zRa, if_false, step, zfM] at h;have hqv : ∃ l c, a.eval q = .slice none l c := by
   unfold zsl at hq
   split at hq
   · exact ⟨_, _, rfl⟩
   · cases hq
  obtain ⟨ql, qc, hqv⟩ := hqv
  split at h
  · rename_i b0 hnl
    cases h
    rw [hnl] at hv;generalize hav : a.eval x = av at hv
    cases hv with
    | nl1 =>
     have heq : ∀ cap, (Op.equal t (.slice none 0 cap) (.slice none ql qc)).run P w = .ok true w := by
      intro cap;unfold Op.equal;rw [show Op.maxDepth = 9999 + 1 from rfl];unfold Op.equalIn;simp only [Sem.run_bind, run_underlying hu, Result.andThen_ok];simp
     refine simple (x := .nacc) (zx.same hr (.d .bool) (u := .bool (if ng = true then !true else true)) ?_)
     cases ng <;> simp at hb <;> subst hb <;> simp [execOp, hop, hav, hqv, eqGuard, Go.binOp, heq]
    | nl2 =>
     have heq : ∀ ad cap, (Op.equal t (.slice (some ad) 0 cap) (.slice none ql qc)).run P w = .ok false w := by
      intro ad cap;unfold Op.equal;rw [show Op.maxDepth = 9999 + 1 from rfl];unfold Op.equalIn;simp only [Sem.run_bind, run_underlying hu, Result.andThen_ok];simp
     refine simple (x := .nacc) (zx.same hr (.d .bool) (u := .bool (if ng = true then !false else false)) ?_)
     cases ng <;> simp at hb <;> subst hb <;> simp [execOp, hop, hav, hqv, eqGuard, Go.binOp, heq]
  split at h
  · rename_i d0 ds hsl
    cases h
    have fin : ∀ (ad : Addr) (l cap : Nat), a.eval x = .slice (some ad) l cap -> o.wp P a w next Q := by
     intro ad l cap hav;have heq : (Op.equal t (.slice (some ad) l cap) (.slice none ql qc)).run P w = .ok false w := by
      unfold Op.equal;rw [show Op.maxDepth = 9999 + 1 from rfl];unfold Op.equalIn;simp only [Sem.run_bind, run_underlying hu, Result.andThen_ok];simp
     refine simple (x := .nacc) (zx.same hr (.d .bool) (u := .bool ng) ?_)
     cases ng <;> simp at hb <;> subst hb <;> simp [execOp, hop, hav, hqv, eqGuard, Go.binOp, heq]
    generalize hpa : y.ev S.env = pa at hv hsl;generalize hav : a.eval x = av at hv;have data : ∀ {es : List D}, slD pa = some es -> Rd w R (.v (.sl es) av) -> o.wp P a w next Q := by
     intro es he hrd;rw [he] at hsl
     cases hsl
     obtain ⟨b', off, s, cap, rfl, _⟩ := hrd.sl_inv (by simp);exact fin _ _ _ hav
    cases hv with
    | d hv =>
     rename_i dx
     cases dx with
     | sl es => exact data rfl hv
     | _ => simp [slD] at hsl
    | xsl hv => exact data rfl hv
    | accR => exact fin _ _ _ hav
    | accC => exact fin _ _ _ hav
    | acc0 => simp [slD] at hsl
    | _ => simp [slD] at hsl
  · cases h
 | _ => exact plain rfl rfl rfl
end Go.Sim
