/-
  The meaning of functions without a bound on the steps.
-/
import Derived.Test.YtfggldgdejjlnaaGreatB46839b1
set_option linter.unusedSimpArgs false
set_option linter.unusedVariables false
set_option maxHeartbeats 10000000
set_option maxRecDepth 100000
namespace Go.Sim
open Go (World Value Addr TypeId Act)
variable {P : Program}
inductive zar where
 | t (n : Nat)
 | c (n : Nat) (ag : Bool) (sz : Nat)
def zet (P : Program) : ResultVar -> Option zar
 | .tmp t => if t < 1000000 then some (.t t) else none
 | .cell a t => match zas P t, zac P t with
  | some ag, some n => if n = 0 \/ 1000000 <= a then none else some (.c a ag n)
  | _, _ => none
def zar.ev (S : St) : zar -> Option AV
 | .t n => look n S.env
 | .c n ag sz => (look n S.env).bind (ldA S.heap ag sz)
def zcS (S : St) (rs : List zar) : Option AV :=
 match rs with
 | [r] => r.ev S
 | rs => (rs.mapM (zar.ev S)).map AV.mkTup
theorem zHL {C : Ctx} {S : St} {a : Act} {w : World} {ι : Inj} {R : Nat -> Prop} (h : Rel C S a w ι R) {t : TypeId} {ag : Bool} {n : Nat} {pa v : AV} {pv : Value} (hag : zas P t = some ag) (hn : zac P t = some n) (h0 : n ≠ 0)
    (hp : VA w R ι (zf S.heap) pa pv) (hv' : ldA S.heap ag n pa = some v) :
    ∃ b off u, pv = .pointer (some ⟨b, off, none⟩) /\ (loadVar t ⟨b, off, none⟩).run P w = .ok u w /\ VA w R ι (zf S.heap) v u := by
 cases pa with
 | d y =>
  cases y with
  | pd y =>
   simp only [ldA] at hv';obtain ⟨y', hy', rfl⟩ := zQQ.1 hv';obtain ⟨b, off, hpv, hR, hel⟩ := hp.pd_inv;obtain ⟨u, k1, k2⟩ := hel.load hy' h0 hag hn;exact ⟨b, off, u, hpv, k1, .d k2⟩
  | _ => simp [ldA] at hv'
 | pe q y =>
  simp only [ldA] at hv';obtain ⟨y', hy', rfl⟩ := zQQ.1 hv'
  cases hp with
  | peR hR hel => obtain ⟨u, k1, k2⟩ := hel.load hy' h0 hag hn; exact ⟨_, _, u, rfl, k1, .d k2⟩
  | peC _ _ _ _ hel => obtain ⟨u, k1, k2⟩ := hel.load hy' h0 hag hn; exact ⟨_, _, u, rfl, k1, .d k2⟩
 | ref q i off =>
  simp only [ldA] at hv'
  split at hv'
  · rename_i es hes;obtain ⟨e, he, hpart⟩ := zQP.1 hv'
    cases hp with
    | @ref _ _ _ b s hι _ =>
     cases h.heap _ _ (zV hes) with
     | row hι' _ hb _ _ _ hcell =>
      rw [hι] at hι'; cases hι';have hel : ElA w R ι (zf S.heap) e b (i * s) := fun j x hj => by
       obtain ⟨k1, q, k2, k3⟩ := hcell i e he j x hj;exact ⟨k1, q, by rw [zan hb]; exact k2, k3⟩
      obtain ⟨u, k1, k2⟩ := hel.load hpart h0 hag hn;exact ⟨_, _, u, rfl, k1, k2⟩
  · cases hv'
 | _ => simp [ldA] at hv'
def zht (tmps : Array Value) : ResultVar -> Sem Value := fun
 | .tmp t => pure (tmps.getD t undef)
 | .cell a t => do loadVar t (<- asAddr (tmps.getD a undef))
theorem zNE (fn : Func) (tmps : Array Value) : results fn tmps = (do let vs <- fn.results.mapM (zht tmps); pure (if h : vs.size = 1 then vs[0] else .tuple vs)) := rfl
theorem zIn {α β γ : Type} {f : α -> Sem β} {Q : γ -> β -> Prop} (w : World) : ∀ (l : List α) (xs : List γ), l.length = xs.length -> (∀ (i : Nat) (a : α) (x : γ), l[i]? = some a -> xs[i]? = some x -> ∃ y, (f a).run P w = .ok y w /\ Q x y) ->
    ∃ ys : List β, (l.mapM f).run P w = .ok ys w /\ ys.length = xs.length /\ ∀ (i : Nat) (x : γ) (y : β), xs[i]? = some x -> ys[i]? = some y -> Q x y := by
 intro l
 induction l with
 | nil => intro xs hxl _; have : xs = [] := zRq.1 hxl.symm; subst this; exact ⟨[], by simp, rfl, by simp⟩
 | cons a l ih =>
  intro xs hxl h
  cases xs with
  | nil => simp at hxl
  | cons x xs =>
   obtain ⟨y, h1, h2⟩ := h 0 a x rfl rfl;obtain ⟨ys, h3, h4, h5⟩ := ih xs (by simpa using hxl) fun i a x k1 k2 => h (i + 1) a x (by simpa using k1) (by simpa using k2);refine ⟨y :: ys, ?_, by simp [h4], fun i a b ha hb => ?_⟩
   · rw [zSn, Sem.run_bind, h1];simp only [Result.andThen_ok, Sem.run_bind, h3, Sem.run_pure]
   · match i, ha, hb with
     | 0, ha, hb => simp at ha hb; subst ha hb; exact h2
     | n + 1, ha, hb => exact h5 n a b (by simpa using ha) (by simpa using hb)
theorem zNF {C : Ctx} {S : St} {a : Act} {w : World} {ι : Inj} {R : Nat -> Prop} (h : Rel C S a w ι R) {fn : Func} {rs : List zar} {v : AV} (hc : fn.results.toList.mapM (zet P) = some rs) (hv : zcS S rs = some v) :
    ∃ u, (results fn a.tmps).run P w = .ok u w /\ VA w R ι (zf S.heap) v u := by
 obtain ⟨hl, hg⟩ := zcr hc;have one : ∀ (rv : ResultVar) (r : zar) (x : AV), zet P rv = some r -> r.ev S = some x -> ∃ u, (zht a.tmps rv).run P w = .ok u w /\ VA w R ι (zf S.heap) x u := by
  intro rv r x h4 h3
  cases rv with
  | tmp t =>
   simp only [zet] at h4
   split at h4
   · rename_i hlt
     cases h4
     exact ⟨a.eval (.tmp t), by simp [zht, Act.eval], h.tmp hlt h3⟩
   · cases h4
  | cell p t =>
   simp only [zet] at h4
   split at h4
   · rename_i ag n hag hn
     split at h4
     · cases h4
     · rename_i h0
       cases h4
       obtain ⟨pa, hpa, hld⟩ := zQP.1 h3;obtain ⟨b, off, u, k1, k2, k3⟩ := zHL h hag hn (fun e => h0 (.inl e)) (h.tmp (Nat.lt_of_not_le fun e => h0 (.inr e)) hpa) hld;simp only [Act.eval] at k1;exact ⟨u, by simp only [zht, k1, Sem.run_bind, asAddr, Sem.run_pure, Result.andThen_ok, k2], k3⟩
   · cases h4
 have run : ∀ (us : List Value), (fn.results.toList.mapM (zht a.tmps)).run P w = .ok us w -> (results fn a.tmps).run P w = .ok (if h : us.toArray.size = 1 then us.toArray[0] else .tuple us.toArray) w := by
  intro us hu;rw [zNE, zUc];simp [hu]
 by_cases h1 : rs.length = 1
 · match rs, h1, hv, hl, hg with
   | [r], _, hv, hl, hg =>
    simp only [zcS] at hv
    match hfl : fn.results.toList, hl, hg with
    | [rv], hl, hg =>
     obtain ⟨u, k1, k2⟩ := one rv r v (hg 0 rv r rfl rfl) hv;refine ⟨u, ?_, k2⟩;have := run [u] (by rw [hfl]; simp [zSn, k1]);simpa using this
 · have hv' : (rs.mapM (zar.ev S)).map AV.mkTup = some v := by
    match rs, h1, hv with
    | [], _, hv => exact hv
    | _ :: _ :: _, _, hv => exact hv
    | [r], h1, _ => exact absurd rfl h1
   obtain ⟨xs, hxs, rfl⟩ := zQQ.1 hv';obtain ⟨hl2, hg2⟩ := zcr hxs;obtain ⟨us, k1, k2, k3⟩ := zIn (P := P) (f := zht a.tmps) (Q := fun x u => VA w R ι (zf S.heap) x u) w fn.results.toList xs (by omega) fun i rv x h2 h3 => by
    have hlt := (zQ6.1 h2).1;have hr : rs[i]? = some (rs[i]'(by omega)) := zQ4 _;exact one rv _ x (hg i rv _ h2 hr) (hg2 i _ x hr h3)
   refine ⟨.tuple us.toArray, ?_, VA.mkTup k2 k3⟩;rw [run us k1, dif_neg (by simp; omega)]
def enter (args : List AV) : Env := args.zipIdx.map fun p => (p.2, p.1)
theorem zEu {args : List AV} {t : Nat} {x : AV} (h : (t, x) ∈ enter args) : args[t]? = some x := by
 unfold enter at h;obtain ⟨⟨y, i⟩, hm, he⟩ := zQ3.1 h
 cases he
 exact (List.mem_zipIdx_iff_getElem?.1 hm)
def frs (ns : List Nat) : List Nat := ns.filter fun o => decide (o < 1000000)
def zak (ns : List Nat) (o : Nat) : Nat := if 1000000 <= o then o else pos o (frs ns)
def zdi (H : zb) (os : zb) (v : AV) : List Nat := zcR H (zcR H (zbx (os.map (·.1)) v.objs))
def zfO (H os : zb) (ns : List Nat) : Bool :=
 (ns.all fun o => (match look o H with | some (.row es) => (AV.objsL es).all ns.contains | some (.acc _) => decide (o < 1000000) | some (.frz m) => m.isNone && decide (1000000 <= o) | _ => false) && (decide (o < 1000000) || decide (o < 1000000 + os.length))) && decide ((frs ns).length <= 4)
def zhk (E : Env) (os : zb) : Bool := os.all fun p => match look p.1 E with | some (.ref o 1 0) => o == p.1 | _ => false
def zbk (H : zb) (ns : List Nat) : zb := ns.map fun o => (zak ns o, ((look o H).getD (.acc 0)).ren (zak ns))
def zgN (os : zb) (S : St) (v : AV) (ns : List Nat) : Option (AV × zb) :=
 if (zfO S.heap os ns && zhk S.env os) = true then some (v.ren (zak ns), zbk S.heap ns) else none
def zov (os : zb) (S : St) (v : AV) (d : D) : Option (AV × zb) := if zex v.objs (zdi S.heap os (.d d)) = true then zgN os S (.d d) (zdi S.heap os (.d d)) else none
def zeG (sl : Bool) (os : zb) (S : St) (v : AV) : Option (AV × zb) := if sl = true then (toD S.heap v).bind (zov os S v) else zgN os S v (zdi S.heap os v)
def zcF (sl : Bool) (rs : List zar) (os : zb) (p : zJ × St) : Option (AV × zb) :=
 match p.1 with
 | .exit _ => none
 | .normal => (zcS p.2 rs).bind (zeG sl os p.2)
 | .ret => (zcS p.2 rs).bind (zeG sl os p.2)
def zbI (os : zb) : Env := os.map fun p => (p.1, .ref p.1 1 0)
inductive AFn where
 | code (c : zh) (rs : List zar) (nt : Nat) (sl : Bool)
 | nils (c : zh) (rs : List zar) (nt : Nat)
 | ext (g : List AV -> zb -> Option (AV × zb))
def zb4 (F : zaa) (n : Nat) (args : List AV) (os : zb) (c : zh) (rs : List zar) (nt : Nat) (sl : Bool) : Option (AV × zb) :=
 if args.length <= nt then (zaS F n c ⟨enter args ++ zbI os, os⟩).bind (zcF sl rs os) else none
def zg2 : Option (AV × zb) -> Bool
 | some (.acc 0 [], [(0, .acc 0)]) => true
 | _ => false
def znE : List AV -> Bool
 | [.d (.sl [])] => true
 | _ => false
def zfN (F : zaa) (n : Nat) (args : List AV) (os : zb) (c : zh) (rs : List zar) (nt : Nat) : Option (AV × zb) :=
 if znE args && os.isEmpty then
  if zg2 (zb4 F n [.nl true] [] c rs nt false) && zg2 (zb4 F n [.nl false] [] c rs nt false) then some (.acc 0 [], [(0, .acc 0)]) else none
 else zb4 F n args os c rs nt false
def fnF (F : zaa) (n : Nat) (args : List AV) (os : zb) : AFn -> Option (AV × zb)
 | .code c rs nt sl => zb4 F n args os c rs nt sl
 | .nils c rs nt => zfN F n args os c rs nt
 | .ext g => g args os
def zaf (G : FuncId -> Option AFn) : Nat -> zaa
 | 0 => fun _ _ _ => none
 | n + 1 => fun f args os => (G f).bind (fnF (zaf G n) n args os)
def zl (P : Program) (f : FuncId) : AFn -> Prop
 | .code c rs nt _ => zbQ P f = true /\ ∃ fn hs, P.funcs[f]? = some fn /\ fn.body.bind (comp P hs) = some c /\ fn.body.map (zb1 fn.ntmps) = some true /\ fn.results.toList.mapM (zet P) = some rs /\ fn.ntmps = nt /\ nt <= 1000000
 | .nils c rs nt => zbQ P f = true /\ ∃ fn hs, P.funcs[f]? = some fn /\ fn.body.bind (comp P hs) = some c /\ fn.body.map (zb1 fn.ntmps) = some true /\ fn.results.toList.mapM (zet P) = some rs /\ fn.ntmps = nt /\ nt <= 1000000
 | .ext g => ∀ args os r os', g args os = some (r, os') -> (∀ p ∈ os, ∃ es, p.2 = .row es) -> (∀ i p, os[i]? = some p -> p.1 = 1000000 + i) -> zbQ P f = true /\ GF P f args os r os' /\ WF os.length r os'
def zAm : zp -> List (Nat × List Bool)
 | ⟨some d, .call _ (m :: ms) _, _⟩ => [(d, m :: ms)]
 | ⟨some d, .callv _ (m :: ms) _, _⟩ => [(d, m :: ms)]
 | _ => []
def zAl : zp -> List Nat
 | ⟨some d, .nacc, _⟩ => [d]
 | _ => []
def zk.add (x y : zk) : zk := ⟨x.kill ++ y.kill, x.ghost ++ y.ghost, x.obj ++ y.obj, x.acc ++ y.acc, x.loop ++ y.loop, x.exit ++ y.exit, if x.ret.isEmpty then y.ret else x.ret⟩
def hof : Code -> zh -> zk
 | .region id _ _, .ops gs l ks => { kill := [(id, ks)], ghost := [(id, gs)], obj := l.flatMap zAm, acc := l.flatMap zAl }
 | .region id _ _, .draw gs l _ ks => { kill := [(id, ks)], ghost := [(id, gs)], obj := l.flatMap zAm, acc := l.flatMap zAl }
 | .seq a b, .seq x y => (hof a x).add (hof b y)
 | .cond _ a b, .cond _ x y => (hof a x).add (hof b y)
 | .block _ a, .block _ x => hof a x
 | .loop a, .loop ks x => ({ loop := [(zfw a, ks)] } : zk).add (hof a x)
 | .exit id, .exit _ ks => { exit := [(id, ks)] }
 | .ret, .ret ks => { ret := ks }
 | _, _ => {}
def zgZ (fn : Func) (c : zh) : zk := match fn.body with | some b => hof b c | none => {}
theorem zMo {ns : List Nat} {o o' : Nat} (h : o ∈ frs ns) (h' : o' ∈ frs ns) (e : pos o (frs ns) = pos o' (frs ns)) : o = o' := by
 have h1 := zkp h;have h2 := zkp h';rw [e, h2] at h1;exact (Option.some.inj h1).symm
theorem zAp {ns : List Nat} {o o' : Nat} (h : o ∈ ns) (h' : o' ∈ ns) (hl : (frs ns).length <= 4) (e : zak ns o = zak ns o') : o = o' := by
 have mem : ∀ {o : Nat}, o ∈ ns -> ¬ 1000000 <= o -> o ∈ frs ns := fun h h1 => zR0.2 ⟨h, by simp; omega⟩;unfold zak at e
 split at e <;> split at e
 · exact e
 · rename_i h1 h2; have := zbM (mem h' h2); omega
 · rename_i h1 h2; have := zbM (mem h h1); omega
 · rename_i h1 h2; exact zMo (mem h h1) (mem h' h2) e
theorem zg9 {H : zb} {ns : List Nat} (hl : (frs ns).length <= 4) {o : Nat} (h : o ∈ ns) : look (zak ns o) (zbk H ns) = some (((look o H).getD (.acc 0)).ren (zak ns)) := by
 have key : ∀ (l : List Nat), (∀ x ∈ l, x ∈ ns) -> o ∈ l -> look (zak ns o) (l.map fun o => (zak ns o, ((look o H).getD (.acc 0)).ren (zak ns))) = some (((look o H).getD (.acc 0)).ren (zak ns)) := by
  intro l
  induction l with
  | nil => intro _ h; cases h
  | cons x l ih =>
   intro hs ho;simp only [zQS, look]
   by_cases e : zak ns x = zak ns o
   · have hx : x = o := zAp (hs x (.head _)) h hl e;subst hx; simp
   · rw [zQN e];refine ih (fun y hy => hs y (.tail _ hy)) ?_
     cases ho with
     | head => exact absurd rfl e
     | tail _ ho => exact ho
 exact key ns (fun _ h => h) h
theorem zIA {H : zb} {ns : List Nat} {n : Nat} {ob : Obj} (h : (n, ob) ∈ zbk H ns) : ∃ o ∈ ns, n = zak ns o /\ ob = ((look o H).getD (.acc 0)).ren (zak ns) := by
 simp only [zbk, zQ3] at h;obtain ⟨o, ho, he⟩ := h
 cases he
 exact ⟨o, ho, rfl, rfl⟩
theorem zFx {sl : Bool} {rs : List zar} {os : zb} {e : zJ} {S : St} {r : AV} {os' : zb} (h : zcF sl rs os (e, S) = some (r, os')) : ∃ v0 v ns, (∀ i, e ≠ .exit i) /\ zcS S rs = some v0 /\ ((v = v0) \/ (∃ d, v = .d d /\ toD S.heap v0 = some d /\ zex v0.objs ns = true)) /\
    ns = zdi S.heap os v /\ zfO S.heap os ns = true /\ zhk S.env os = true /\ r = v.ren (zak ns) /\ os' = zbk S.heap ns := by
 have fin : ∀ {v : AV}, zgN os S v (zdi S.heap os v) = some (r, os') -> zfO S.heap os (zdi S.heap os v) = true /\ zhk S.env os = true /\ r = v.ren (zak (zdi S.heap os v)) /\ os' = zbk S.heap (zdi S.heap os v) := fun h2 => by
  unfold zgN at h2
  split at h2
  · rename_i hc;simp only [zQ8] at hc
    cases h2
    exact ⟨hc.1, hc.2, rfl, rfl⟩
  · cases h2
 have key : (zcS S rs).bind (zeG sl os S) = some (r, os') -> ∃ v0 v ns, zcS S rs = some v0 /\ ((v = v0) \/ (∃ d, v = .d d /\ toD S.heap v0 = some d /\ zex v0.objs ns = true)) /\ ns = zdi S.heap os v /\ zfO S.heap os ns = true /\ zhk S.env os = true /\ r = v.ren (zak ns) /\ os' = zbk S.heap ns := fun h => by
  obtain ⟨v, h1, h2⟩ := zQP.1 h;unfold zeG at h2
  split at h2
  · obtain ⟨d, h3, h4⟩ := zQP.1 h2;unfold zov at h4
    split at h4
    · rename_i hd;exact ⟨v, .d d, _, h1, .inr ⟨d, rfl, h3, hd⟩, rfl, fin h4⟩
    · cases h4
  · exact ⟨v, v, _, h1, .inl rfl, rfl, fin h2⟩
 cases e with
 | exit i => cases h
 | normal => obtain ⟨v0, v, ns, h⟩ := key h; exact ⟨v0, v, ns, nofun, h⟩
 | ret => obtain ⟨v0, v, ns, h⟩ := key h; exact ⟨v0, v, ns, nofun, h⟩
theorem zmg {F : zaa} (hF : FOK P F) {n : Nat} {f : FuncId} {c : zh} {rs : List zar} {nt : Nat} {sl : Bool} (hfn : zl P f (.code c rs nt sl)) {args : List AV} {os : zb} {r : AV} {os' : zb}
    (h : fnF F n args os (.code c rs nt sl) = some (r, os')) (hrow : ∀ p ∈ os, ∃ es, p.2 = .row es) (hnm : ∀ i p, os[i]? = some p -> p.1 = 1000000 + i) : GF P f args os r os' /\ WF os.length r os' := by
 obtain ⟨_, fn, hs, hf, hc, hsl, hrs, hnt, hle⟩ := hfn;obtain ⟨body, hb, hc⟩ := zQP.1 hc;rw [hb] at hsl;have hsl : zb1 fn.ntmps body = true := by simpa using hsl
 simp only [fnF, zb4] at h
 split at h
 rotate_left
 · cases h
 rename_i hlen;obtain ⟨⟨e, S'⟩, hex, hfin⟩ := zQP.1 h;obtain ⟨v0, v, ns, hne, hres, hvv, hns, hout, hgh, rfl, rfl⟩ := zFx hfin;simp only [zfO, zQ8, decide_eq_true_eq] at hout;obtain ⟨hall, hl4⟩ := hout;have hobj : ∀ o ∈ ns, (∃ es, look o S'.heap = some (.row es) /\ ∀ q ∈ AV.objsL es, q ∈ ns) \/ (∃ m, look o S'.heap = some (.acc m) /\ o < 1000000) \/ (look o S'.heap = some (.frz none) /\ 1000000 <= o) := fun o ho => by
  have := zRb.1 hall o ho;simp only [zQ8] at this;have h1 := this.1
  split at h1
  · rename_i es hes; exact .inl ⟨es, hes, fun q hq => by simpa using zRb.1 h1 q hq⟩
  · rename_i m hm; exact .inr (.inl ⟨m, hm, by simpa using h1⟩)
  · rename_i m hm;simp only [zQ8, Option.isNone_iff_eq_none, decide_eq_true_eq] at h1;exact .inr (.inr ⟨by rw [hm, h1.1], h1.2⟩)
  · cases h1
 have hrange : ∀ o ∈ ns, o < 1000000 \/ o < 1000000 + os.length := fun o ho => by
  have := zRb.1 hall o ho;simp only [zQ8, zRM, decide_eq_true_eq] at this;exact this.2
 have hvns : ∀ q, v.refs q = true -> q ∈ ns := fun q hq => by
  rw [hns]; exact zc1 _ _ (zc1 _ _ (zuh _ _ (zoo v q hq)))
 have hosns : ∀ p ∈ os, p.1 ∈ ns := fun p hp => by
  rw [hns]; exact zc1 _ _ (zc1 _ _ (zc1 _ _ (zSF hp)))
 have hname : ∀ {o}, (look o os).isSome = true -> 1000000 <= o /\ o < 1000000 + os.length /\ o ∈ ns := fun {o} ho => by
  obtain ⟨ob, hob⟩ := zSo.1 ho;obtain ⟨i, hi⟩ := zRu (zV hob);have := hnm i _ hi;simp only at this;have hlt := (zQ6.1 hi).1;exact ⟨by omega, by omega, hosns _ (zV hob)⟩
 have hcl : ∀ o ob, o ∈ ns -> look o S'.heap = some ob -> ∀ q, ob.refs q = true -> q ∈ ns := fun o ob ho hob q hq => by
  rcases hobj o ho with ⟨es, h1, h2⟩ | ⟨m, h1, _⟩ | ⟨h1, _⟩
  · rw [hob] at h1; cases h1; exact h2 q (zfQ es q hq)
  · rw [hob] at h1; cases h1; cases hq
  · rw [hob] at h1; cases h1; cases hq
 have hid : ∀ {o}, 1000000 <= o -> zak ns o = o := fun h => by simp [zak, h]
 have hlookn : ∀ o ∈ ns, ∃ ob, look o S'.heap = some ob /\ look (zak ns o) (zbk S'.heap ns) = some (ob.ren (zak ns)) := fun o ho => by
  rcases hobj o ho with ⟨es, h1, _⟩ | ⟨m, h1, _⟩ | ⟨h1, _⟩
  · exact ⟨_, h1, by rw [zg9 hl4 ho, h1]; rfl⟩
  · exact ⟨_, h1, by rw [zg9 hl4 ho, h1]; rfl⟩
  · exact ⟨_, h1, by rw [zg9 hl4 ho, h1]; rfl⟩
 have hmemo : ∀ n ob, (n, ob) ∈ zbk S'.heap ns -> ∃ o ∈ ns, n = zak ns o /\ ∃ ob0, look o S'.heap = some ob0 /\ ob = ob0.ren (zak ns) := fun n ob hm => by
  obtain ⟨o, ho, h1, h2⟩ := zIA hm;obtain ⟨ob0, h3, _⟩ := hlookn o ho;exact ⟨o, ho, h1, ob0, h3, by rw [h2, h3]; rfl⟩
 have hisn : ∀ n, (look n (zbk S'.heap ns)).isSome = true -> ∃ o ∈ ns, n = zak ns o := fun n hn => by
  obtain ⟨ob, hob⟩ := zSo.1 hn;obtain ⟨o, ho, h1, _⟩ := hmemo n ob (zV hob);exact ⟨o, ho, h1⟩
 have hisS : ∀ o ∈ ns, (look (zak ns o) (zbk S'.heap ns)).isSome = true := fun o ho => by
  obtain ⟨ob, _, h2⟩ := hlookn o ho; simp [h2]
 refine ⟨?_, ?_⟩;rotate_left
 · refine ⟨fun m hm => ?_, fun i hi => ?_, fun q hq => ?_, fun m ob hm q hq => ?_⟩
   · obtain ⟨o, ho, rfl⟩ := hisn m hm;unfold zak
     split
     · rename_i h1
       rcases hrange o ho with h2 | h2
       · omega
       · exact .inr ⟨h1, h2⟩
     · rename_i h1;have := zbM (show o ∈ frs ns from zR0.2 ⟨ho, by simp; omega⟩);exact .inl (by omega)
   · have hi' : os[i]? = some os[i] := zQ4 hi;have h1 := hnm i _ hi';have h2 := hosns _ (zQ9 hi');rw [h1] at h2
     rcases hobj _ h2 with ⟨es, h3, _⟩ | ⟨m, _, h3⟩ | ⟨h3, _⟩
     · have := zg9 (H := S'.heap) hl4 h2;rw [hid (by omega), h3] at this;exact .inl ⟨_, this⟩
     · omega
     · have := zg9 (H := S'.heap) hl4 h2;rw [hid (by omega), h3] at this;exact .inr this
   · obtain ⟨q0, h1, rfl⟩ := ztu hq;exact hisS q0 (hvns q0 h1)
   · obtain ⟨o, ho, _, ob0, h2, rfl⟩ := hmemo m ob hm
     cases ob0 with
     | acc k => simp [Obj.ren, Obj.refs] at hq
     | frz k => simp [Obj.ren, Obj.refs] at hq
     | mp k => simp [Obj.ren, Obj.refs] at hq
     | row es =>
      simp only [Obj.ren, Obj.refs] at hq;obtain ⟨q0, h3, rfl⟩ := zA0 hq;exact hisS q0 (hcl o _ ho h2 q0 h3)
 intro w R ι us hR hι hinj hob hl;obtain ⟨hl, hg⟩ := hl;have hmark : ∀ o, (look o os).isSome = true -> zf os o = none := fun o ho => by
  obtain ⟨ob, hob'⟩ := zSo.1 ho;obtain ⟨es, he⟩ := hrow _ (zV hob');simp only at he; subst he;simp [zf, hob']
 let C : Ctx := { w0 := w, keep := fun b => b < w.heap.size /\ ∀ o s, ι o ≠ some (b, s), R0 := R, n := fn.ntmps, gh := os.map fun p => (match ι p.1 with | some (b, s) => Value.pointer (some ⟨b, 1 * s + 0, none⟩) | none => undef), le := by omega }
 have hrel : Rel C ⟨enter args ++ zbI os, os⟩ { tmps := us.toArray ++ Array.replicate (fn.ntmps - us.toArray.size) undef, defers := [] } w ι R := by
  refine ⟨rfl, by simp [C]; omega, rfl, rfl, rfl, zRd _, fun _ _ => Blk.of_eq rfl, fun _ _ => rfl, fun _ h => h.1, hR, fun b hb => .inl hb, fun _ h => h, fun o b s h => ⟨fun hk => hk.2 o s h, (hι o b s h).1⟩, hinj, ?_, hob⟩;intro t y hy
  rcases zRc.1 hy with hy | hy
  · have ht := zEu hy;have hlt := (zQ6.1 ht).1;have hu : us[t]? = some (us[t]'(by omega)) := zQ4 _;refine ⟨us[t]'(by omega), ?_, hg t y _ ht hu⟩;simp only [zcg];rw [zQO (by omega), zS9 (by simp; omega)];simp only [zTa]; exact hu
  · obtain ⟨p, hm, he⟩ := zQ3.1 hy
    cases he
    obtain ⟨i, hi⟩ := zRu hm;have hn1 := hnm i p hi;obtain ⟨es, hes⟩ := hrow p hm;have ho := hob p.1 p.2 hm;rw [hes] at ho
    cases ho with
    | @row _ b s c' T h1 h2 h3 h4 h5 h6 h7 =>
     refine ⟨.pointer (some ⟨b, 1 * s + 0, none⟩), ?_, .ref h1 (hmark _ (hι _ _ _ h1).2.2)⟩;simp only [zcg];rw [zQN (by omega), hn1, Nat.add_sub_cancel_left];simp only [C, zQ7, hi, zRt, h1]
 refine calls_of_wp hf hb (wp_mono (zEQ (C := C) hF body hc hsl hex hrel) ?_);rintro ex a' w' ⟨rfl, ι', R', hr'⟩
 -- the zcG tell that the objects lie where they lay
 have hkeep : ∀ o b s, ι o = some (b, s) -> ι' o = some (b, s) := fun o b s ho => by
  obtain ⟨ob, hob'⟩ := zSo.1 (hι o b s ho).2.2;obtain ⟨i, hi⟩ := zRu (zV hob');have hn1 := hnm i _ hi;simp only at hn1;have := zRb.1 hgh _ (zV hob')
  split at this
  · rename_i o2 hlk;simp only [beq_iff_eq] at this;subst this;obtain ⟨u, k1, k2⟩ := hr'.env _ _ (zV hlk);simp only [zcg] at k1;rw [zQN (by omega)] at k1;have hidx : o2 - 1000000 = i := by omega
    rw [hidx] at k1;simp only [C, zQ7, hi, zRt, ho, Option.some.injEq] at k1;subst k1;generalize hv : Value.pointer (some ⟨b, 1 * s + 0, none⟩) = pv at k2
    cases k2 with
    | ref h1 h2 =>
     simp only [Value.pointer.injEq, Option.some.injEq, Addr.mk.injEq] at hv;obtain ⟨rfl, hv, _⟩ := hv;rw [h1]; simp at hv; rw [hv]
  · cases this
 obtain ⟨u, k1, k2⟩ := zNF hr' hrs hres;have hseal : ∃ R2 : Nat -> Prop, (∀ b, R' b -> R2 b) /\ (∀ b, R2 b -> R' b \/ ∃ o s, o ∉ ns /\ ι' o = some (b, s)) /\ VA w' R2 ι' (zf S'.heap) v u := by
  rcases hvv with rfl | ⟨d, rfl, hd, hdis⟩
  · exact ⟨R', fun _ h => h, fun _ h => .inl h, k2⟩
  · refine ⟨zcl R' ι' v0.objs, fun _ h => .inl h, fun b hb => ?_, .d (zhA hr' k2 hd fun _ h => h)⟩
    rcases hb with hb | ⟨o, s, ho, hb⟩
    · exact .inl hb
    · refine .inr ⟨o, s, ?_, hb⟩;have := zRb.1 hdis o ho;simpa using this
 obtain ⟨R2, hR2, hR2i, k2⟩ := hseal;have hnR : ∀ o b s, ι o = some (b, s) -> R' b -> look o (zbk S'.heap ns) = some (.frz none) := fun o b s ho hb => by
  obtain ⟨h1, _, h2⟩ := hname (hι o b s ho).2.2
  rcases hobj o h2 with ⟨es, h3, _⟩ | ⟨m, _, h3⟩ | ⟨h3, _⟩
  · cases hr'.heap _ _ (zV h3) with
    | row h4 h5 => rw [hkeep o b s ho] at h4; cases h4; exact absurd hb h5
  · omega
  · have := zg9 (H := S'.heap) hl4 h2;rw [hid (by omega), h3] at this;exact this
 have hold : ∀ b, ¬ C.keep b -> (∃ o s, ι o = some (b, s)) \/ w.heap.size <= b := fun b hb => by
  by_cases hlt : b < w.heap.size
  · refine .inl (Classical.byContradiction fun hne => hb ⟨hlt, fun o s ho => hne ⟨o, s, ho⟩⟩)
  · exact .inr (Nat.le_of_not_lt hlt)
 -- the names outside
 have hback : ∃ back : Nat -> Nat, ∀ o ∈ ns, back (zak ns o) = o := by
  have hpt : ∀ m, ∃ o, ∀ o' ∈ ns, zak ns o' = m -> o' = o := fun m => by
   by_cases h : ∃ o ∈ ns, zak ns o = m
   · obtain ⟨o, ho, h1⟩ := h;exact ⟨o, fun o' ho' h2 => zAp ho' ho hl4 (h2.trans h1.symm)⟩
   · exact ⟨0, fun o' ho' h2 => absurd ⟨o', ho', h2⟩ h⟩
  obtain ⟨g, hg⟩ := Classical.axiomOfChoice hpt;exact ⟨g, fun o ho => (hg _ o ho rfl).symm⟩
 obtain ⟨back, hback⟩ := hback
 let ι2 : Inj := fun m => if (look m (zbk S'.heap ns)).isSome = true then ι' (back m) else none
 have hι2 : ∀ o ∈ ns, ι2 (zak ns o) = ι' o := fun o ho => by simp only [ι2]; rw [zQO (hisS o ho), hback o ho]
 have hι2i : ∀ m b s, ι2 m = some (b, s) -> ∃ o ∈ ns, m = zak ns o /\ ι' o = some (b, s) := fun m b s hm => by
  simp only [ι2] at hm
  split at hm
  · rename_i h1;obtain ⟨o, ho, rfl⟩ := hisn m h1;rw [hback o ho] at hm;exact ⟨o, ho, rfl, hm⟩
  · cases hm
 have hmk2 : ∀ o ∈ ns, zf (zbk S'.heap ns) (zak ns o) = zf S'.heap o := fun o ho => by
  obtain ⟨ob, h1, h2⟩ := hlookn o ho;unfold zf;rw [h1, h2]
  cases ob <;> rfl
 have fin : a'.defers = [] /\ ∃ v', (results fn a'.tmps).run P w' = .ok v' w' /\ ∃ (u : Value) (ι' : Inj) (R' : Nat -> Prop), Ending.returned v' = .returned u /\ w'.os = w.os /\ w'.tape = w.tape /\ w'.output = w.output /\ w.heap.size <= w'.heap.size /\
     (∀ b, b < w.heap.size -> Blk w w' b 0) /\ (∀ b, b < w.heap.size -> (∀ o s, ι o ≠ some (b, s)) -> w'.heap[b]? = w.heap[b]?) /\ (∀ b, R b -> R' b) /\ (∀ b, R' b -> b < w'.heap.size /\ (R b \/ w.heap.size <= b \/ ∃ o s, ι o = some (b, s) /\ look o (zbk S'.heap ns) = some (.frz none))) /\
     (∀ o b s, ι o = some (b, s) -> ι' o = some (b, s)) /\ (∀ o b s, ι' o = some (b, s) -> b < w'.heap.size /\ (ι o = some (b, s) \/ w.heap.size <= b)) /\ (∀ o o' b s s', ι' o = some (b, s) -> ι' o' = some (b, s') -> o = o') /\
     (∀ o ob, (o, ob) ∈ zbk S'.heap ns -> OB w' R' ι' (zf (zbk S'.heap ns)) o ob) /\ VA w' R' ι' (zf (zbk S'.heap ns)) (v.ren (zak ns)) u := by
  refine ⟨hr'.defers, u, k1, u, ι2, R2, rfl, hr'.os, hr'.tape, hr'.output, hr'.grow, hr'.len, fun b hb hno => hr'.keep b ⟨hb, hno⟩, fun b hb => hR2 b (hr'.r0 b hb), fun b hb => ?_, fun o b s ho => ?_, fun m b s hm => ?_, fun m m' b s s' h1 h2 => ?_, fun m ob hm => ?_, ?_⟩
  · rcases hR2i b hb with hb | ⟨o, s, hno, hb⟩
    · refine ⟨hr'.rlt b hb, ?_⟩
      rcases hr'.rok b hb with h1 | h1
      · exact .inl h1
      · rcases hold b h1 with ⟨o, s, ho⟩ | h2
        · exact .inr (.inr ⟨o, s, ho, hnR o b s ho hb⟩)
        · exact .inr (.inl h2)
    · have hown := hr'.own o b s hb;refine ⟨hown.2, ?_⟩
      rcases hold b hown.1 with ⟨o2, s2, ho2⟩ | h2
      · have := hr'.inj _ _ _ _ _ hb (hkeep o2 b s2 ho2);subst this;exact absurd (hname (hι _ _ _ ho2).2.2).2.2 hno
      · exact .inr (.inl h2)
  · obtain ⟨h1, _, h2⟩ := hname (hι o b s ho).2.2;have := hι2 o h2;rw [hid h1] at this;rw [this]; exact hkeep o b s ho
  · obtain ⟨o, ho, rfl, h1⟩ := hι2i m b s hm;refine ⟨(hr'.own o b s h1).2, ?_⟩
    rcases hold b (hr'.own o b s h1).1 with ⟨o0, s0, h0⟩ | h2
    · have h3 := hkeep o0 b s0 h0;have := hr'.inj _ _ _ _ _ h1 h3;subst this;rw [h1] at h3; cases h3;have hge := (hname (hι _ _ _ h0).2.2).1;rw [hid hge];exact .inl h0
    · exact .inr h2
  · obtain ⟨o, ho, rfl, h3⟩ := hι2i m b s h1;obtain ⟨o', ho', rfl, h4⟩ := hι2i m' b s' h2;rw [hr'.inj _ _ _ _ _ h3 h4]
  · obtain ⟨o, ho, rfl, ob0, h2, rfl⟩ := hmemo m ob hm;have hob2 : OB w' R2 ι' (zf S'.heap) o ob0 := by
     have hnR2 : ∀ b s, ι' o = some (b, s) -> ¬ R' b -> ¬ R2 b := fun b s ho' hn hb => by
      rcases hR2i b hb with hb | ⟨o2, s2, hno, hb⟩
      · exact hn hb
      · have := hr'.inj _ _ _ _ _ ho' hb;subst this;exact hno ho
     cases hr'.heap o ob0 (zV h2) with
     | row k1 k2 k3 k4 k5 k6 k7 => exact .row k1 (hnR2 _ _ k1 k2) k3 k4 k5 k6 fun i e he j x hx => let ⟨j1, q, j2, j3⟩ := k7 i e he j x hx; ⟨j1, q, j2, j3.toR (.inl hR2)⟩
     | acc k1 k2 k3 k4 k5 k6 => exact .acc k1 k2 (hnR2 _ _ k2 k3) k4 k5 k6
     | accN k1 => exact .accN k1
     | frz k1 => exact .frz fun b s hb => ⟨hR2 _ (k1 b s hb).1, (k1 b s hb).2⟩
     | mp k1 k2 k3 k4 k5 k6 => exact .mp k1 (hnR2 _ _ k1 k2) k3 k4 k5 fun i k x hi => let ⟨e, j1, j2, j3⟩ := k6 i k x hi; ⟨e, j1, j2, j3.mono_v hR2 fun _ _ => rfl⟩
    exact hob2.ren (hι2 o ho) fun q hq => by
     have hq' := hcl o ob0 ho h2 q hq;exact ⟨fun p hp => by rw [hι2 q hq']; exact hp, hmk2 q hq'⟩
  · exact k2.ren fun q hq => by
     have hq' := hvns q hq;exact ⟨fun p hp => by rw [hι2 q hq']; exact hp, hmk2 q hq'⟩
 cases e with
 | normal => exact fin
 | ret => exact fin
 | exit i => exact absurd rfl (hne i)
def GOK (P : Program) (G : FuncId -> Option AFn) : Prop := ∀ f fn, G f = some fn -> zl P f fn
theorem zCY {G : FuncId -> Option AFn} (hG : GOK P G) : ∀ n, FOK P (zaf G n) := by
 intro n
 induction n with
 | zero => intro f args os r os' h; cases h
 | succ n ih =>
  intro f args os r os' h0 h1 h2;obtain ⟨fn, hf, h⟩ := zQP.1 h0;clear h0;have hok := hG f fn hf
  cases fn with
  | code c rs nt sl => exact ⟨hok.1, zmg ih hok h h1 h2⟩
  | nils c rs nt =>
   refine ⟨hok.1, ?_⟩;simp only [fnF, zfN] at h
   split at h
   · rename_i he;simp only [zQ8, zTb] at he;obtain ⟨he, rfl⟩ := he;have hargs : args = [.d (.sl [])] := by
      unfold znE at he
      split at he
      · rfl
      · cases he
     split at h
     · rename_i hn;subst hargs;simp only [zQ8] at hn;have h := Option.some.inj h
       cases h
       have new0 : ∀ {x : Option (AV × zb)}, zg2 x = true -> x = some (.acc 0 [], [(0, .acc 0)]) := fun {x} hx => by
        unfold zg2 at hx
        split at hx
        · rfl
        · cases hx
       obtain ⟨g1, w1⟩ := zmg (c := c) (rs := rs) (nt := nt) (sl := false) ih hok (new0 hn.1) (by simp) (by simp);obtain ⟨g2, _⟩ := zmg (c := c) (rs := rs) (nt := nt) (sl := false) ih hok (new0 hn.2) (by simp) (by simp);refine ⟨fun w R ι us hR hι hinj hob hv => ?_, w1⟩;obtain ⟨hl, hg⟩ := hv
       match us, hl with
       | [u], _ =>
        have hu := hg 0 _ u rfl rfl
        cases hu with
        | d hu =>
         cases hu with
         | @sl0 a cap =>
          cases a with
          | none => exact g1 w R ι _ hR hι hinj hob ⟨rfl, fun i x u hx hu => by
              match i, hx, hu with
              | 0, hx, hu => simp at hx hu; subst hx hu; exact .nl1
              | n + 1, hx, hu => simp at hx⟩
          | some a => exact g2 w R ι _ hR hι hinj hob ⟨rfl, fun i x u hx hu => by
              match i, hx, hu with
              | 0, hx, hu => simp at hx hu; subst hx hu; exact .nl2
              | n + 1, hx, hu => simp at hx⟩
         | sl _ h0 => exact absurd rfl h0
     · cases h
   · exact zmg (c := c) (rs := rs) (nt := nt) (sl := false) ih hok h h1 h2
  | ext g => exact hok args os r os' h h1 h2
end Go.Sim

namespace Go.Sim
open Go (World Value Addr TypeId Act)
variable {P : Program}
open Classical in
noncomputable def lim {α : Type} (x : Nat -> Option α) : Option α := if h : ∃ n, (x n).isSome = true then x (Classical.choose h) else none
def zq {α : Type} (x : Nat -> Option α) : Prop := ∀ n m a, n <= m -> x n = some a -> x m = some a
theorem zq.of_succ {α : Type} {x : Nat -> Option α} (h : ∀ n a, x n = some a -> x (n + 1) = some a) : zq x := by
 intro n m a hnm hx
 induction hnm with
 | refl => exact hx
 | step _ ih => exact h _ _ ih
theorem zbJ {α : Type} {x : Nat -> Option α} (h : zq x) {a : α} : lim x = some a ↔ ∃ n, x n = some a := by
 unfold lim;constructor
 · intro hl
   split at hl
   · exact ⟨_, hl⟩
   · cases hl
 · rintro ⟨n, hn⟩;have hex : ∃ n, (x n).isSome = true := ⟨n, by rw [hn]; rfl⟩;rw [dif_pos hex];have hs := zS8 hex;obtain ⟨b, hb⟩ := zSo.1 hs;have h1 := h _ (max n (Classical.choose hex)) a (zTU ..) hn;have h2 := h _ (max n (Classical.choose hex)) b (zTV ..) hb;rw [h1] at h2; cases h2;exact hb
theorem zhm {α : Type} {x y : Option α} (h : ∀ a, x = some a ↔ y = some a) : x = y := by
 cases x with
 | some a => exact ((h a).1 rfl).symm
 | none =>
  cases y with
  | none => rfl
  | some a => exact absurd ((h a).2 rfl) (by simp)
theorem zaR {α : Type} (x : Option α) : lim (fun _ => x) = x :=
 zhm fun a => (zbJ (x := fun _ => x) (fun _ _ _ _ h => h)).trans ⟨fun ⟨_, h⟩ => h, fun h => ⟨0, h⟩⟩
theorem zq.bind {α β : Type} {x : Nat -> Option α} {g : Nat -> α -> Option β} (hx : zq x) (hg : ∀ a, zq fun n => g n a) : zq fun n => (x n).bind (g n) := by
 intro n m b hnm h;obtain ⟨a, h1, h2⟩ := zQP.1 h;exact zQP.2 ⟨a, hx n m a hnm h1, hg a n m b hnm h2⟩
theorem zcM {α β : Type} {x : Nat -> Option α} {g : Nat -> α -> Option β} (hx : zq x) (hg : ∀ a, zq fun n => g n a) : lim (fun n => (x n).bind (g n)) = (lim x).bind fun a => lim fun n => g n a := by
 refine zhm fun b => ?_;rw [zbJ (hx.bind hg)];constructor
 · rintro ⟨n, h⟩;obtain ⟨a, h1, h2⟩ := zQP.1 h;exact zQP.2 ⟨a, (zbJ hx).2 ⟨n, h1⟩, (zbJ (hg a)).2 ⟨n, h2⟩⟩
 · intro h;obtain ⟨a, h1, h2⟩ := zQP.1 h;obtain ⟨n, h3⟩ := (zbJ hx).1 h1;obtain ⟨m, h4⟩ := (zbJ (hg a)).1 h2;exact ⟨max n m, zQP.2 ⟨a, hx _ _ _ (zTU ..) h3, hg a _ _ _ (zTV ..) h4⟩⟩
theorem zq.map {α β : Type} {x : Nat -> Option α} {g : α -> β} (hx : zq x) : zq fun n => (x n).map g := by
 intro n m b hnm h;obtain ⟨a, h1, rfl⟩ := zQQ.1 h;exact zQQ.2 ⟨a, hx n m a hnm h1, rfl⟩
theorem zfE {α β : Type} {x : Nat -> Option α} {g : α -> β} (hx : zq x) : lim (fun n => (x n).map g) = (lim x).map g := by
 refine zhm fun b => ?_;rw [zbJ hx.map];constructor
 · rintro ⟨n, h⟩;obtain ⟨a, h1, rfl⟩ := zQQ.1 h;exact zQQ.2 ⟨a, (zbJ hx).2 ⟨n, h1⟩, rfl⟩
 · intro h;obtain ⟨a, h1, rfl⟩ := zQQ.1 h;obtain ⟨n, h2⟩ := (zbJ hx).1 h1;exact ⟨n, zQQ.2 ⟨a, h2, rfl⟩⟩
theorem zq.const {α : Type} {x : Option α} : zq fun _ => x := fun _ _ _ _ h => h
theorem zq.ite {α : Type} {c : Prop} [Decidable c] {x y : Nat -> Option α} (hx : zq x) (hy : zq y) : zq fun n => if c then x n else y n := by
 by_cases h : c
 · simpa [h] using hx
 · simpa [h] using hy
variable (G : FuncId -> Option AFn)
noncomputable def zd : zaa := fun f args os => lim fun n => zaf G n f args os
noncomputable def exL (c : zh) (S : St) : Option (zJ × St) := lim fun n => zaS (zaf G n) n c S
noncomputable def zT (ks : List Nat) (c : zh) (S : St) : Option (zJ × St) := lim fun n => zcb ks (zaS (zaf G n) n c) n S
variable {G}
section mono
variable {F F' : Nat -> zaa} (hF : ∀ f args os, zq fun n => F n f args os)
include hF
theorem zvQ {E : Env} {H : zb} {dst : Nat} {ns dob : List Nat} {f : FuncId} {zQM : List AV} : (zq fun n => zc3 (F n) E H dst ns dob f zQM) := by
 unfold zc3;exact zq.ite ((hF f _ _).bind (fun _ => zq.const)) zq.const
theorem zpW {E : Env} {H : zb} {dst : Nat} {ms : List Bool} {f : FuncId} {args : List AV} : zq fun n => zbf (F n) E H dst ms f args :=
 zq.bind zq.const fun _ => zvQ hF
theorem zwv {E : Env} {H : zb} {dst : Nat} {ms : List Bool} {f : FuncId} {dob : List Nat} {zQM : List AV} : zq fun n => zdE (F n) E H dst ms f dob zQM := by
 unfold zdE;exact zq.ite (zq.map (zpW hF)) zq.const
theorem zll {E : Env} {H : zb} {dst : Nat} {ms : List Bool} {f : FuncId} {args : List AV} : zq fun n => zat (F n) E H dst ms f args := by
 unfold zat;exact zq.ite (zq.bind zq.const fun _ => zwv hF) (zpW hF)
theorem zvS {E : Env} {H : zb} {dst : Nat} {ms : List Bool} {f : AV} {args : List AV} : zq fun n => zdD (F n) E H dst ms f args := by
 unfold zdD
 split
 · exact zll hF
 · exact zll hF
 · exact zq.const
theorem zBt {E : Env} {H : zb} {dst : Nat} {op : AOp} : zq fun n => step (F n) E H dst op := by
 cases op with
 | call f ms xs => exact (zll hF).map
 | callv f ms xs => exact (zvS hF).map
 | _ => exact zq.const
theorem zoB {x : zp} {S : St} : zq fun n => zbN (F n) x S := (zBt hF).map
theorem zlD : ∀ {l : List zp} {S : St}, zq fun n => zaw (F n) l S := by
 intro l
 induction l with
 | nil => intro S; exact zq.const
 | cons o l ih =>
  intro S;simp only [zaw]
  split
  · exact (zoB hF).bind (fun _ => ih)
  · split
    · exact zq.ite ((zoB hF).bind (fun _ => ih)) ih
    · exact ih
    · exact zq.const
theorem zqd {x : zp} {fr : List (List Nat)} {acc : List (List Nat × List Nat)} {S : St} : zq fun n => zbG (F n) x fr acc S := by
 unfold zbG;exact zq.ite (zoB hF) zq.const
theorem zlC : ∀ {l : List zp} {fr : List (List Nat)} {acc : List (List Nat × List Nat)} {S : St}, zq fun n => zaE (F n) l fr acc S := by
 intro l
 induction l with
 | nil => intro fr acc S; exact zq.const
 | cons o l ih =>
  intro fr acc S;simp only [zaE]
  split
  · exact (zqd hF).bind (fun _ => ih)
  · split
    · exact zq.ite ((zqd hF).bind (fun _ => ih)) (zq.bind zq.const (fun _ => ih))
    · exact zq.bind zq.const (fun _ => ih)
    · exact zq.const
theorem zqc {l : List zp} {fr : List (List Nat)} {S : St} : zq fun n => zc6 (F n) l fr S := by
 unfold zc6;exact zq.ite (zlC hF) zq.const
omit hF in
theorem zBk {g : Nat -> St -> Option (zJ × St)} (hg : ∀ S, zq fun n => g n S) {p : zJ × St} : zq fun n => zee (g n) p := by
 unfold zee
 split
 · exact hg _
 · exact zq.const
 · exact zq.const
omit hF in
theorem zsW {g : Nat -> St -> Option (zJ × St)} (hg : ∀ S, zq fun n => g n S) {ks : List Nat} {p : zJ × St} : zq fun n => zbA ks (g n) p := by
 unfold zbA
 split
 · exact hg _
 · exact zq.const
 · exact zq.const
omit hF in
theorem zzP {b : Nat -> St -> Option (zJ × St)} (hb : ∀ S, zq fun n => b n S) : ∀ {ks : List Nat} {k : Nat} {S : St}, zq fun n => zcb ks (b n) k S := by
 intro ks k
 induction k with
 | zero => intro S; exact zq.const
 | succ k ih => intro S; exact (hb S).bind fun p => zsW fun _ => ih
omit hF in
theorem zzQ {ks : List Nat} {b : St -> Option (zJ × St)} : ∀ {S : St}, zq fun k => zcb ks b k S := by
 intro S;refine zq.of_succ fun k => ?_
 induction k generalizing S with
 | zero => intro a h; cases h
 | succ k ih =>
  intro a h;simp only [zcb] at h ⊢;obtain ⟨p, h1, h2⟩ := zQP.1 h;refine zQP.2 ⟨p, h1, ?_⟩;unfold zbA at h2 ⊢
  split at h2
  · exact ih _ h2
  · exact h2
  · exact h2
omit hF in
theorem zzO {b : Nat -> St -> Option (zJ × St)} (hb : ∀ S, zq fun n => b n S) {ks : List Nat} {S : St} : zq fun n => zcb ks (b n) n S := fun n m a hnm h =>
 zzP hb n m a hnm (zzQ n m a hnm h)
theorem zc7 : ∀ {c : zh} {S : St}, zq fun n => zaS (F n) n c S := by
 intro c
 induction c with
 | skip => intro S; exact zq.const
 | exit i ks => intro S; exact zq.const
 | ret ks => intro S; exact zq.const
 | ops gs l ks => intro S; exact (zq.bind zq.const fun _ => zlD hF).map
 | draw gs l fr ks => intro S; exact (zq.bind zq.const fun _ => zqc hF).map
 | seq x y ih1 ih2 => intro S; exact ih1.bind fun p => zBk fun S => ih2
 | cond c x y ih1 ih2 =>
  intro S;simp only [zaS, zeu]
  split
  · exact zq.ite ih1 ih2
  · exact zq.const
 | block id x ih => intro S; exact ih.map
 | loop ks x ih => intro S; exact zzO fun S => ih
end mono
theorem zay (f : FuncId) (args : List AV) (os : zb) : zq fun n => zaf G n f args os := by
 refine zq.of_succ fun n => ?_
 induction n generalizing f args os with
 | zero => intro a h; cases h
 | succ n ih =>
  -- two steps: more fuel for the calls, more rounds
  have code : ∀ (c : zh) (rs : List zar) (nt : Nat) (sl : Bool) (args : List AV) (os : zb) (a : AV × zb), zb4 (zaf G n) n args os c rs nt sl = some a -> zb4 (zaf G (n + 1)) (n + 1) args os c rs nt sl = some a := by
   intro c rs nt sl args os a h2;simp only [zb4] at h2 ⊢
   split at h2
   · rename_i hc;rw [zQO hc];obtain ⟨p, h3, h4⟩ := zQP.1 h2;refine zQP.2 ⟨p, ?_, h4⟩
     let Fs : Nat -> zaa := fun k => if k <= n then zaf G n else zaf G (n + 1)
     have hFs : ∀ f args os, zq fun k => Fs k f args os := fun f args os => zq.of_succ fun k a h => by
      simp only [Fs] at h ⊢
      split at h
      · split
        · exact h
        · exact ih f args os a h
      · rename_i hk;rw [zQN (by omega)]; exact h
     have := zc7 (F := Fs) hFs (c := c) (S := ⟨enter args ++ zbI os, os⟩) n (n + 1) p (by omega);simp only [Fs, zRd, if_true] at this;rw [zQN (by omega)] at this;exact this h3
   · cases h2
  intro a h;have h : (G f).bind (fnF (zaf G n) n args os) = some a := h;show (G f).bind (fnF (zaf G (n + 1)) (n + 1) args os) = some a;obtain ⟨fn, h1, h2⟩ := zQP.1 h;refine zQP.2 ⟨fn, h1, ?_⟩
  cases fn with
  | ext g => exact h2
  | code c rs nt sl => exact code c rs nt sl args os a h2
  | nils c rs nt =>
   have new0 : ∀ {x : Option (AV × zb)}, zg2 x = true -> x = some (.acc 0 [], [(0, .acc 0)]) := fun {x} hx => by
    unfold zg2 at hx
    split at hx
    · rfl
    · cases hx
   show zfN (zaf G (n + 1)) (n + 1) args os c rs nt = some a;have h2 : zfN (zaf G n) n args os c rs nt = some a := h2;unfold zfN at h2 ⊢
   split at h2
   · rename_i he;rw [zQO he]
     split at h2
     · rename_i hn;simp only [zQ8] at hn;rw [code _ _ _ _ _ _ _ (new0 hn.1), code _ _ _ _ _ _ _ (new0 hn.2)];exact h2
     · cases h2
   · rename_i he;rw [zQN he];exact code _ _ _ _ _ _ _ h2
theorem zpX {f : FuncId} {args : List AV} {os : zb} {p : AV × zb} : zd G f args os = some p ↔ ∃ n, zaf G n f args os = some p := zbJ (zay f args os)
theorem zzB {E : Env} {H : zb} {dst : Nat} {ms : List Bool} {f : FuncId} {args : List AV} : lim (fun n => zbf (zaf G n) E H dst ms f args) = zbf (zd G) E H dst ms f args := by
 unfold zbf;rw [zcM zq.const fun _ => zvQ zay, zaR]
 congr 1; funext zQM
 unfold zc3
 split
 · rw [zcM (g := fun _ => zcn E H dst (zaF H ms args) (zZ ms args)) (zay _ _ _) fun _ => zq.const]
   congr 1; funext p
   exact zaR _
 · exact zaR _
theorem zsT {E : Env} {H : zb} {dst : Nat} {ms : List Bool} {f : FuncId} {args : List AV} : lim (fun n => zat (zaf G n) E H dst ms f args) = zat (zd G) E H dst ms f args := by
 unfold zat
 split
 · rw [zcM zq.const fun _ => zwv zay, zaR]
   congr 1; funext zQM
   unfold zdE
   split
   · rw [zfE (zpW zay), zzB]
   · exact zaR _
 · exact zzB
theorem zH1 {E : Env} {H : zb} {dst : Nat} {op : AOp} : lim (fun n => step (zaf G n) E H dst op) = step (zd G) E H dst op := by
 cases op with
 | call f ms xs => exact (zfE (zll zay)).trans (congrArg _ zsT)
 | callv f ms xs =>
  refine (zfE (zvS zay)).trans (congrArg _ ?_);unfold zdD
  split
  · exact zsT
  · exact zsT
  · exact zaR _
 | _ => exact zaR _
theorem zzD {x : zp} {S : St} : lim (fun n => zbN (zaf G n) x S) = zbN (zd G) x S := (zfE (zBt zay)).trans (congrArg _ zH1)
theorem zH0 : ∀ {l : List zp} {S : St}, lim (fun n => zaw (zaf G n) l S) = zaw (zd G) l S := by
 intro l
 induction l with
 | nil => intro S; exact zaR _
 | cons o l ih =>
  intro S;have key : lim (fun n => (zbN (zaf G n) o S).bind (zaw (zaf G n) l)) = (zbN (zd G) o S).bind (zaw (zd G) l) := by
   rw [zcM (zoB zay) fun _ => zlD zay, zzD]
   congr 1; funext p; exact ih
  simp only [zaw]
  split
  · exact key
  · split
    · split
      · exact key
      · exact ih
    · exact ih
    · exact zaR _
theorem zHX {x : zp} {fr : List (List Nat)} {acc : List (List Nat × List Nat)} {S : St} : lim (fun n => zbG (zaf G n) x fr acc S) = zbG (zd G) x fr acc S := by
 unfold zbG
 split
 · exact zzD
 · exact zaR _
theorem zHZ : ∀ {l : List zp} {fr : List (List Nat)} {acc : List (List Nat × List Nat)} {S : St}, lim (fun n => zaE (zaf G n) l fr acc S) = zaE (zd G) l fr acc S := by
 intro l
 induction l with
 | nil => intro fr acc S; exact zaR _
 | cons o l ih =>
  intro fr acc S;have key : lim (fun n => (zbG (zaf G n) o fr acc S).bind (zaE (zaf G n) l fr.tail (acc ++ [feet o S]))) = (zbG (zd G) o fr acc S).bind (zaE (zd G) l fr.tail (acc ++ [feet o S])) := by
   rw [zcM (zqd zay) fun _ => zlC zay, zHX]
   congr 1; funext p; exact ih
  simp only [zaE]
  split
  · exact key
  · split
    · split
      · exact key
      · rw [zcM zq.const fun _ => zlC zay, zaR]
        congr 1; funext p; exact ih
    · rw [zcM zq.const fun _ => zlC zay, zaR]
      congr 1; funext p; exact ih
    · exact zaR _
theorem zHW {l : List zp} {fr : List (List Nat)} {S : St} : lim (fun n => zc6 (zaf G n) l fr S) = zc6 (zd G) l fr S := by
 unfold zc6
 split
 · exact zHZ
 · exact zaR _
theorem zEK {S : St} : exL G .skip S = some (.normal, S) := zaR _
theorem zEG {i : Nat} {ks : List Nat} {S : St} : exL G (.exit i ks) S = some (.exit i, endS ks S) := zaR _
theorem zEI {ks : List Nat} {S : St} : exL G (.ret ks) S = some (.ret, endS ks S) := zaR _
theorem zEH {gs : List Nat} {l : List zp} {ks : List Nat} {S : St} : exL G (.ops gs l ks) S = ((zcG gs S).bind (zaw (zd G) l)).map (zfB ks) := by
 refine (zfE (zq.bind zq.const fun _ => zlD zay)).trans (congrArg _ ?_);rw [zcM zq.const fun _ => zlD zay, zaR]
 congr 1; funext p; exact zH0
theorem zEF {gs : List Nat} {l : List zp} {fr : List (List Nat)} {ks : List Nat} {S : St} : exL G (.draw gs l fr ks) S = ((zcG gs S).bind (zc6 (zd G) l fr)).map (zfB ks) := by
 refine (zfE (zq.bind zq.const fun _ => zqc zay)).trans (congrArg _ ?_);rw [zcM zq.const fun _ => zqc zay, zaR]
 congr 1; funext p; exact zHW
theorem zEJ {x y : zh} {S : St} : exL G (.seq x y) S = (exL G x S).bind (zee (exL G y)) := by
 refine (zcM (zc7 zay) fun p => zBk fun S => zc7 zay).trans ?_
 congr 1; funext p
 unfold zee
 split
 · rfl
 · exact zaR _
 · exact zaR _
theorem zEE {c : Opd} {x y : zh} {S : St} : exL G (.cond c x y) S = zeu (c.ev S.env) (exL G x S) (exL G y S) := by
 show lim (fun n => zeu (c.ev S.env) (zaS (zaf G n) n x S) (zaS (zaf G n) n y S)) = _;unfold zeu
 split
 · split
   · rfl
   · rfl
 · exact zaR _
theorem zED {id : Nat} {x : zh} {S : St} : exL G (.block id x) S = (exL G x S).map (zfj id) := zfE (zc7 zay)
theorem zbj {ks : List Nat} {x : zh} {S : St} : zT G ks x S = (exL G x S).bind (zbA ks (zT G ks x)) := by
 have hm : ∀ S, zq fun n => zcb ks (zaS (zaf G n) n x) n S := fun S => zzO fun S => zc7 zay;have e1 : (exL G x S).bind (zbA ks (zT G ks x)) = lim fun n => (zaS (zaf G n) n x S).bind (zbA ks (zcb ks (zaS (zaf G n) n x) n)) := by
  rw [zcM (zc7 zay) fun p => zsW hm]
  congr 1; funext p
  unfold zbA
  split
  · rfl
  · exact (zaR _).symm
  · exact (zaR _).symm
 rw [e1];refine zhm fun a => ?_;rw [zT, zbJ (hm S), zbJ ((zc7 zay).bind fun p => zsW hm)];constructor
 · rintro ⟨n, h⟩
   cases n with
   | zero => cases h
   | succ n =>
    simp only [zcb] at h;obtain ⟨p, h1, h2⟩ := zQP.1 h;refine ⟨n + 1, zQP.2 ⟨p, h1, ?_⟩⟩;unfold zbA at h2 ⊢
    split at h2
    · exact zzQ n (n + 1) a (by omega) h2
    · exact h2
    · exact h2
 · rintro ⟨n, h⟩;obtain ⟨p, h1, h2⟩ := zQP.1 h;refine ⟨n + 1, ?_⟩;simp only [zcb];refine zQP.2 ⟨p, zc7 zay n (n + 1) p (by omega) h1, ?_⟩;unfold zbA at h2 ⊢
   split at h2
   · exact zzP (fun S => zc7 zay) n (n + 1) a (by omega) h2
   · exact h2
   · exact h2
theorem znZ {c : zh} {rs : List zar} {nt : Nat} {sl : Bool} {args : List AV} {os : zb} (hl : args.length <= nt) : (zq fun n => zb4 (zaf G n) n args os c rs nt sl) /\ lim (fun n => zb4 (zaf G n) n args os c rs nt sl) = (exL G c ⟨enter args ++ zbI os, os⟩).bind (zcF sl rs os) := by
 have e : (fun n => zb4 (zaf G n) n args os c rs nt sl) = fun n => (zaS (zaf G n) n c ⟨enter args ++ zbI os, os⟩).bind (zcF sl rs os) := by
  funext n; simp only [zb4]; rw [zQO hl]
 rw [e];refine ⟨zq.bind (g := fun _ p => zcF sl rs os p) (zc7 zay) fun p => zq.const, ?_⟩;rw [zcM (g := fun _ p => zcF sl rs os p) (zc7 zay) fun p => zq.const];show (exL G c ⟨enter args ++ zbI os, os⟩).bind _ = _
 congr 1; funext p; exact zaR _
theorem zzC {α : Type} {x y : Nat -> Option α} (hx : zq x) (hy : zq y) (h0 : x 0 = none) (h : ∀ n, x (n + 1) = y n) : lim x = lim y := by
 refine zhm fun a => ?_;rw [zbJ hx, zbJ hy];constructor
 · rintro ⟨n, h1⟩
   cases n with
   | zero => rw [h0] at h1; cases h1
   | succ n => exact ⟨n, by rw [<- h]; exact h1⟩
 · rintro ⟨n, h1⟩; exact ⟨n + 1, by rw [h]; exact h1⟩
theorem ze {f : FuncId} {c : zh} {rs : List zar} {nt : Nat} {sl : Bool} (h : G f = some (.code c rs nt sl)) {args : List AV} {os : zb} (hl : args.length <= nt) : zd G f args os = (exL G c ⟨enter args ++ zbI os, os⟩).bind (zcF sl rs os) := by
 obtain ⟨h1, h2⟩ := znZ (G := G) (c := c) (rs := rs) (os := os) (sl := sl) hl;rw [<- h2];exact zzC (zay f args os) h1 rfl fun n => by simp only [zaf, h, zRk, fnF]
theorem zjb {f : FuncId} {c : zh} {rs : List zar} {nt : Nat} (h : G f = some (.nils c rs nt)) {es : List D} (h0 : es ≠ []) (hl : 1 <= nt) : zd G f [.d (.sl es)] [] = (exL G c ⟨enter [.d (.sl es)], []⟩).bind (zcF false rs []) := by
 obtain ⟨h1, h2⟩ := znZ (G := G) (c := c) (rs := rs) (sl := false) (os := []) (args := [.d (.sl es)]) hl;rw [show enter [.d (.sl es)] = enter [AV.d (.sl es)] ++ zbI [] by simp [zbI], <- h2];refine zzC (zay f _ []) h1 rfl fun n => ?_;simp only [zaf, h, zRk, fnF, zfN];rw [zQN];intro hc;simp only [zQ8] at hc;unfold znE at hc
 split at hc
 · rename_i e; cases e; exact h0 rfl
 · exact absurd hc.1 (by simp)
theorem zjc {f : FuncId} {c : zh} {rs : List zar} {nt : Nat} (h : G f = some (.nils c rs nt)) (hl : 1 <= nt) (h1 : (exL G c ⟨enter [.nl true], []⟩).bind (zcF false rs []) = some (.acc 0 [], [(0, .acc 0)]))
    (h2 : (exL G c ⟨enter [.nl false], []⟩).bind (zcF false rs []) = some (.acc 0 [], [(0, .acc 0)])) : zd G f [.d (.sl [])] [] = some (.acc 0 [], [(0, .acc 0)]) := by
 obtain ⟨k1, k2⟩ := znZ (G := G) (c := c) (rs := rs) (sl := false) (os := []) (args := [.nl true]) hl;obtain ⟨k3, k4⟩ := znZ (G := G) (c := c) (rs := rs) (sl := false) (os := []) (args := [.nl false]) hl;rw [show enter [.nl true] ++ zbI [] = enter [AV.nl true] by simp [zbI], h1] at k2;rw [show enter [.nl false] ++ zbI [] = enter [AV.nl false] by simp [zbI], h2] at k4;obtain ⟨n, hn⟩ := (zbJ k1).1 k2;obtain ⟨m, hm⟩ := (zbJ k3).1 k4;refine zpX.2 ⟨max n m + 1, ?_⟩;simp only [zaf, h, zRk, fnF, zfN, znE, List.isEmpty_nil, zTn, if_true];rw [show zb4 (zaf G (max n m)) (max n m) [.nl true] [] c rs nt false = _ from k1 n _ _ (zTU ..) hn, show zb4 (zaf G (max n m)) (max n m) [.nl false] [] c rs nt false = _ from k3 m _ _ (zTV ..) hm];rfl
theorem zgA {f : FuncId} {g : List AV -> zb -> Option (AV × zb)} (h : G f = some (.ext g)) {args : List AV} {os : zb} : zd G f args os = g args os := by
 refine zhm fun a => ?_;rw [zpX];constructor
 · rintro ⟨n, h1⟩
   cases n with
   | zero => cases h1
   | succ n => simpa [zaf, h, fnF] using h1
 · intro h1; exact ⟨1, by simpa [zaf, h, fnF] using h1⟩
theorem zpY (hG : GOK P G) : FOK P (zd G) := by
 intro f args os r os' h h1 h2;obtain ⟨n, hn⟩ := zpX.1 h;exact zCY hG n f args os r os' hn h1 h2
theorem zap {T : Type} {ks : List Nat} {x : zh} (μ : T -> Nat) (inv : T -> Prop) (st : T -> St) (r : T -> Option (zJ × St))
    (h : ∀ t, inv t -> ∀ L : St -> Option (zJ × St), (∀ t', inv t' -> μ t' < μ t -> L (st t') = r t') -> (exL G x (st t)).bind (zbA ks L) = r t) : ∀ t, inv t -> zT G ks x (st t) = r t := by
 intro t;generalize hk : μ t = k
 induction k using Nat.strongRecOn generalizing t with
 | ind k ih =>
  intro hi;rw [zbj];exact h t hi _ fun t' hi' hlt => ih (μ t') (by omega) t' rfl hi'
end Go.Sim
