/-
  The meaning of functions without a bound on the steps.
-/
import Derived.Test.YtgjlpcbolldhhaaGreatB3eb9e53
set_option linter.unusedSimpArgs false
set_option linter.unusedVariables false
set_option maxHeartbeats 10000000
set_option maxRecDepth 100000
namespace Go.Sim
open Go (World Value Addr TypeId Act)
variable {P : Program}
inductive zR where
 | t (n : Nat)
 | c (n : Nat) (ag : Bool) (sz : Nat)
def zba (P : Program) : ResultVar -> Option zR
 | .tmp t => if t < 1000000 then some (.t t) else none
 | .cell a t => match zM P t, zA P t with
  | some ag, some n => if n = 0 \/ 1000000 <= a then none else some (.c a ag n)
  | _, _ => none
def zR.ev (S : St) : zR -> Option AV
 | .t n => look n S.env
 | .c n ag sz => (look n S.env).bind (ldA S.heap ag sz)
def zbJ (S : St) (rs : List zR) : Option AV :=
 match rs with
 | [r] => r.ev S
 | rs => (rs.mapM (zR.ev S)).map AV.mkTup
theorem zBZ {C : Ctx} {S : St} {a : Act} {w : World} {ι : Inj} {R : Nat -> Prop} (h : Rel C S a w ι R) {t : TypeId} {ag : Bool} {n : Nat} {pa v : AV} {pv : Value} (hag : zM P t = some ag) (hn : zA P t = some n) (h0 : n ≠ 0)
    (hp : VA w R ι (mark S.heap) pa pv) (hv' : ldA S.heap ag n pa = some v) :
    ∃ b off u, pv = .pointer (some ⟨b, off, none⟩) /\ (loadVar t ⟨b, off, none⟩).run P w = .ok u w /\ VA w R ι (mark S.heap) v u := by
 cases pa with
 | d y =>
  cases y with
  | pd y =>
   simp only [ldA] at hv';obtain ⟨y', hy', rfl⟩ := zKL.1 hv';obtain ⟨b, off, hpv, hR, hel⟩ := hp.pd_inv;obtain ⟨u, k1, k2⟩ := hel.load hy' h0 hag hn;exact ⟨b, off, u, hpv, k1, .d k2⟩
  | _ => simp [ldA] at hv'
 | pe q y =>
  simp only [ldA] at hv';obtain ⟨y', hy', rfl⟩ := zKL.1 hv'
  cases hp with
  | peR hR hel => obtain ⟨u, k1, k2⟩ := hel.load hy' h0 hag hn; exact ⟨_, _, u, rfl, k1, .d k2⟩
  | peC _ _ _ _ hel => obtain ⟨u, k1, k2⟩ := hel.load hy' h0 hag hn; exact ⟨_, _, u, rfl, k1, .d k2⟩
 | ref q i off =>
  simp only [ldA] at hv'
  split at hv'
  · rename_i es hes;obtain ⟨e, he, hpart⟩ := zKK.1 hv'
    cases hp with
    | @ref _ _ _ b s hι _ =>
     cases h.heap _ _ (zu hes) with
     | row hι' _ hb _ _ _ hcell =>
      rw [hι] at hι'; cases hι';have hel : ElA w R ι (mark S.heap) e b (i * s) := fun j x hj => by
       obtain ⟨k1, q, k2, k3⟩ := hcell i e he j x hj;exact ⟨k1, q, by rw [zK hb]; exact k2, k3⟩
      obtain ⟨u, k1, k2⟩ := hel.load hpart h0 hag hn;exact ⟨_, _, u, rfl, k1, k2⟩
  · cases hv'
 | _ => simp [ldA] at hv'
def zdH (tmps : Array Value) : ResultVar -> Sem Value := fun
 | .tmp t => pure (tmps.getD t undef)
 | .cell a t => do loadVar t (<- asAddr (tmps.getD a undef))
theorem zId (fn : Func) (tmps : Array Value) : results fn tmps = (do let vs <- fn.results.mapM (zdH tmps); pure (if h : vs.size = 1 then vs[0] else .tuple vs)) := rfl
theorem zCp {α β γ : Type} {f : α -> Sem β} {Q : γ -> β -> Prop} (w : World) : ∀ (l : List α) (xs : List γ), l.length = xs.length -> (∀ (i : Nat) (a : α) (x : γ), l[i]? = some a -> xs[i]? = some x -> ∃ y, (f a).run P w = .ok y w /\ Q x y) ->
    ∃ ys : List β, (l.mapM f).run P w = .ok ys w /\ ys.length = xs.length /\ ∀ (i : Nat) (x : γ) (y : β), xs[i]? = some x -> ys[i]? = some y -> Q x y := by
 intro l
 induction l with
 | nil => intro xs hxl _; have : xs = [] := zLh.1 hxl.symm; subst this; exact ⟨[], by simp, rfl, by simp⟩
 | cons a l ih =>
  intro xs hxl h
  cases xs with
  | nil => simp at hxl
  | cons x xs =>
   obtain ⟨y, h1, h2⟩ := h 0 a x rfl rfl;obtain ⟨ys, h3, h4, h5⟩ := ih xs (by simpa using hxl) fun i a x k1 k2 => h (i + 1) a x (by simpa using k1) (by simpa using k2);refine ⟨y :: ys, ?_, by simp [h4], fun i a b ha hb => ?_⟩
   · rw [zLN, Sem.run_bind, h1];simp only [Result.andThen_ok, Sem.run_bind, h3, Sem.run_pure]
   · match i, ha, hb with
     | 0, ha, hb => simp at ha hb; subst ha hb; exact h2
     | n + 1, ha, hb => exact h5 n a b (by simpa using ha) (by simpa using hb)
theorem zIe {C : Ctx} {S : St} {a : Act} {w : World} {ι : Inj} {R : Nat -> Prop} (h : Rel C S a w ι R) {fn : Func} {rs : List zR} {v : AV} (hc : fn.results.toList.mapM (zba P) = some rs) (hv : zbJ S rs = some v) :
    ∃ u, (results fn a.tmps).run P w = .ok u w /\ VA w R ι (mark S.heap) v u := by
 obtain ⟨hl, hg⟩ := zbc hc;have one : ∀ (rv : ResultVar) (r : zR) (x : AV), zba P rv = some r -> r.ev S = some x -> ∃ u, (zdH a.tmps rv).run P w = .ok u w /\ VA w R ι (mark S.heap) x u := by
  intro rv r x h4 h3
  cases rv with
  | tmp t =>
   simp only [zba] at h4
   split at h4
   · rename_i hlt
     cases h4
     exact ⟨a.eval (.tmp t), by simp [zdH, Act.eval], h.tmp hlt h3⟩
   · cases h4
  | cell p t =>
   simp only [zba] at h4
   split at h4
   · rename_i ag n hag hn
     split at h4
     · cases h4
     · rename_i h0
       cases h4
       obtain ⟨pa, hpa, hld⟩ := zKK.1 h3;obtain ⟨b, off, u, k1, k2, k3⟩ := zBZ h hag hn (fun e => h0 (.inl e)) (h.tmp (Nat.lt_of_not_le fun e => h0 (.inr e)) hpa) hld;simp only [Act.eval] at k1;exact ⟨u, by simp only [zdH, k1, Sem.run_bind, asAddr, Sem.run_pure, Result.andThen_ok, k2], k3⟩
   · cases h4
 have run : ∀ (us : List Value), (fn.results.toList.mapM (zdH a.tmps)).run P w = .ok us w -> (results fn a.tmps).run P w = .ok (if h : us.toArray.size = 1 then us.toArray[0] else .tuple us.toArray) w := by
  intro us hu;rw [zId, zM0];simp [hu]
 by_cases h1 : rs.length = 1
 · match rs, h1, hv, hl, hg with
   | [r], _, hv, hl, hg =>
    simp only [zbJ] at hv
    match hfl : fn.results.toList, hl, hg with
    | [rv], hl, hg =>
     obtain ⟨u, k1, k2⟩ := one rv r v (hg 0 rv r rfl rfl) hv;refine ⟨u, ?_, k2⟩;have := run [u] (by rw [hfl]; simp [zLN, k1]);simpa using this
 · have hv' : (rs.mapM (zR.ev S)).map AV.mkTup = some v := by
    match rs, h1, hv with
    | [], _, hv => exact hv
    | _ :: _ :: _, _, hv => exact hv
    | [r], h1, _ => exact absurd rfl h1
   obtain ⟨xs, hxs, rfl⟩ := zKL.1 hv';obtain ⟨hl2, hg2⟩ := zbc hxs;obtain ⟨us, k1, k2, k3⟩ := zCp (P := P) (f := zdH a.tmps) (Q := fun x u => VA w R ι (mark S.heap) x u) w fn.results.toList xs (by omega) fun i rv x h2 h3 => by
    have hlt := (zKP.1 h2).1;have hr : rs[i]? = some (rs[i]'(by omega)) := zKR _;exact one rv _ x (hg i rv _ h2 hr) (hg2 i _ x hr h3)
   refine ⟨.tuple us.toArray, ?_, VA.mkTup k2 k3⟩;rw [run us k1, dif_neg (by simp; omega)]
def enter (args : List AV) : Env := args.zipIdx.map fun p => (p.2, p.1)
theorem zyx {args : List AV} {t : Nat} {x : AV} (h : (t, x) ∈ enter args) : args[t]? = some x := by
 unfold enter at h;obtain ⟨⟨y, i⟩, hm, he⟩ := zKX.1 h
 cases he
 exact (List.mem_zipIdx_iff_getElem?.1 hm)
def frs (ns : List Nat) : List Nat := ns.filter fun o => decide (o < 1000000)
def zG (ns : List Nat) (o : Nat) : Nat := if 1000000 <= o then o else pos o (frs ns)
def zbI (H : za) (os : za) (v : AV) : List Nat := zbo H (zbo H (zax (os.map (·.1)) v.objs))
def zcX (H os : za) (ns : List Nat) : Bool :=
 (ns.all fun o => (match look o H with | some (.row es) => (AV.objsL es).all ns.contains | some (.acc _) => decide (o < 1000000) | some (.frz m) => m.isNone && decide (1000000 <= o) | _ => false) && (decide (o < 1000000) || decide (o < 1000000 + os.length))) && decide ((frs ns).length <= 4)
def zdD (E : Env) (os : za) : Bool := os.all fun p => match look p.1 E with | some (.ref o 1 0) => o == p.1 | _ => false
def zas (H : za) (ns : List Nat) : za := ns.map fun o => (zG ns o, ((look o H).getD (.acc 0)).ren (zG ns))
def zdm (os : za) (S : St) (v : AV) (ns : List Nat) : Option (AV × za) :=
 if (zcX S.heap os ns && zdD S.env os) = true then some (v.ren (zG ns), zas S.heap ns) else none
def zgc (os : za) (S : St) (v : AV) (d : D) : Option (AV × za) := if zce v.objs (zbI S.heap os (.d d)) = true then zdm os S (.d d) (zbI S.heap os (.d d)) else none
def zci (sl : Bool) (os : za) (S : St) (v : AV) : Option (AV × za) := if sl = true then (toD S.heap v).bind (zgc os S v) else zdm os S v (zbI S.heap os v)
def zbi (sl : Bool) (rs : List zR) (os : za) (p : zJ × St) : Option (AV × za) :=
 match p.1 with
 | .exit _ => none
 | .normal => (zbJ p.2 rs).bind (zci sl os p.2)
 | .ret => (zbJ p.2 rs).bind (zci sl os p.2)
def zaF (os : za) : Env := os.map fun p => (p.1, .ref p.1 1 0)
inductive AFn where
 | code (c : zl) (rs : List zR) (nt : Nat) (sl : Bool)
 | nils (c : zl) (rs : List zR) (nt : Nat)
 | ext (g : List AV -> za -> Option (AV × za))
def zaS (F : zC) (n : Nat) (args : List AV) (os : za) (c : zl) (rs : List zR) (nt : Nat) (sl : Bool) : Option (AV × za) :=
 if args.length <= nt then (z9 F n c ⟨enter args ++ zaF os, os⟩).bind (zbi sl rs os) else none
def zdp : Option (AV × za) -> Bool
 | some (.acc 0 [], [(0, .acc 0)]) => true
 | _ => false
def zfJ : List AV -> Bool
 | [.d (.sl [])] => true
 | _ => false
def zcW (F : zC) (n : Nat) (args : List AV) (os : za) (c : zl) (rs : List zR) (nt : Nat) : Option (AV × za) :=
 if zfJ args && os.isEmpty then
  if zdp (zaS F n [.nl true] [] c rs nt false) && zdp (zaS F n [.nl false] [] c rs nt false) then some (.acc 0 [], [(0, .acc 0)]) else none
 else zaS F n args os c rs nt false
def fnF (F : zC) (n : Nat) (args : List AV) (os : za) : AFn -> Option (AV × za)
 | .code c rs nt sl => zaS F n args os c rs nt sl
 | .nils c rs nt => zcW F n args os c rs nt
 | .ext g => g args os
def zx (G : FuncId -> Option AFn) : Nat -> zC
 | 0 => fun _ _ _ => none
 | n + 1 => fun f args os => (G f).bind (fnF (zx G n) n args os)
def zb (P : Program) (f : FuncId) : AFn -> Prop
 | .code c rs nt _ => zaE P f = true /\ ∃ fn hs, P.funcs[f]? = some fn /\ fn.body.bind (zao P hs) = some c /\ fn.body.map (zaA fn.ntmps) = some true /\ fn.results.toList.mapM (zba P) = some rs /\ fn.ntmps = nt /\ nt <= 1000000
 | .nils c rs nt => zaE P f = true /\ ∃ fn hs, P.funcs[f]? = some fn /\ fn.body.bind (zao P hs) = some c /\ fn.body.map (zaA fn.ntmps) = some true /\ fn.results.toList.mapM (zba P) = some rs /\ fn.ntmps = nt /\ nt <= 1000000
 | .ext g => ∀ args os r os', g args os = some (r, os') -> (∀ p ∈ os, ∃ es, p.2 = .row es) -> (∀ i p, os[i]? = some p -> p.1 = 1000000 + i) -> zaE P f = true /\ GF P f args os r os' /\ WF os.length r os'
def zss : zh -> List (Nat × List Bool)
 | ⟨some d, .call _ (m :: ms) _, _⟩ => [(d, m :: ms)]
 | ⟨some d, .callv _ (m :: ms) _, _⟩ => [(d, m :: ms)]
 | _ => []
def zsr : zh -> List Nat
 | ⟨some d, .nacc, _⟩ => [d]
 | _ => []
def zw.add (x y : zw) : zw := ⟨x.kill ++ y.kill, x.ghost ++ y.ghost, x.obj ++ y.obj, x.acc ++ y.acc, x.loop ++ y.loop, x.exit ++ y.exit, if x.ret.isEmpty then y.ret else x.ret⟩
def hof : Code -> zl -> zw
 | .region id _ _, .ops gs l ks => { kill := [(id, ks)], ghost := [(id, gs)], obj := l.flatMap zss, acc := l.flatMap zsr }
 | .region id _ _, .draw gs l _ ks => { kill := [(id, ks)], ghost := [(id, gs)], obj := l.flatMap zss, acc := l.flatMap zsr }
 | .seq a b, .seq x y => (hof a x).add (hof b y)
 | .cond _ a b, .cond _ x y => (hof a x).add (hof b y)
 | .block _ a, .block _ x => hof a x
 | .loop a, .loop ks x => ({ loop := [(zdn a, ks)] } : zw).add (hof a x)
 | .exit id, .exit _ ks => { exit := [(id, ks)] }
 | .ret, .ret ks => { ret := ks }
 | _, _ => {}
def zfI (fn : Func) (c : zl) : zw := match fn.body with | some b => hof b c | none => {}
theorem zHQ {ns : List Nat} {o o' : Nat} (h : o ∈ frs ns) (h' : o' ∈ frs ns) (e : pos o (frs ns) = pos o' (frs ns)) : o = o' := by
 have h1 := zeG h;have h2 := zeG h';rw [e, h2] at h1;exact (Option.some.inj h1).symm
theorem zsu {ns : List Nat} {o o' : Nat} (h : o ∈ ns) (h' : o' ∈ ns) (hl : (frs ns).length <= 4) (e : zG ns o = zG ns o') : o = o' := by
 have mem : ∀ {o : Nat}, o ∈ ns -> ¬ 1000000 <= o -> o ∈ frs ns := fun h h1 => zMj.2 ⟨h, by simp; omega⟩;unfold zG at e
 split at e <;> split at e
 · exact e
 · rename_i h1 h2; have := zf4 (mem h' h2); omega
 · rename_i h1 h2; have := zf4 (mem h h1); omega
 · rename_i h1 h2; exact zHQ (mem h h1) (mem h' h2) e
theorem zdw {H : za} {ns : List Nat} (hl : (frs ns).length <= 4) {o : Nat} (h : o ∈ ns) : look (zG ns o) (zas H ns) = some (((look o H).getD (.acc 0)).ren (zG ns)) := by
 have key : ∀ (l : List Nat), (∀ x ∈ l, x ∈ ns) -> o ∈ l -> look (zG ns o) (l.map fun o => (zG ns o, ((look o H).getD (.acc 0)).ren (zG ns))) = some (((look o H).getD (.acc 0)).ren (zG ns)) := by
  intro l
  induction l with
  | nil => intro _ h; cases h
  | cons x l ih =>
   intro hs ho;simp only [zKS, look]
   by_cases e : zG ns x = zG ns o
   · have hx : x = o := zsu (hs x (.head _)) h hl e;subst hx; simp
   · rw [zKM e];refine ih (fun y hy => hs y (.tail _ hy)) ?_
     cases ho with
     | head => exact absurd rfl e
     | tail _ ho => exact ho
 exact key ns (fun _ h => h) h
theorem zCA {H : za} {ns : List Nat} {n : Nat} {ob : Obj} (h : (n, ob) ∈ zas H ns) : ∃ o ∈ ns, n = zG ns o /\ ob = ((look o H).getD (.acc 0)).ren (zG ns) := by
 simp only [zas, zKX] at h;obtain ⟨o, ho, he⟩ := h
 cases he
 exact ⟨o, ho, rfl, rfl⟩
theorem zzl {sl : Bool} {rs : List zR} {os : za} {e : zJ} {S : St} {r : AV} {os' : za} (h : zbi sl rs os (e, S) = some (r, os')) : ∃ v0 v ns, (∀ i, e ≠ .exit i) /\ zbJ S rs = some v0 /\ ((v = v0) \/ (∃ d, v = .d d /\ toD S.heap v0 = some d /\ zce v0.objs ns = true)) /\
    ns = zbI S.heap os v /\ zcX S.heap os ns = true /\ zdD S.env os = true /\ r = v.ren (zG ns) /\ os' = zas S.heap ns := by
 have fin : ∀ {v : AV}, zdm os S v (zbI S.heap os v) = some (r, os') -> zcX S.heap os (zbI S.heap os v) = true /\ zdD S.env os = true /\ r = v.ren (zG (zbI S.heap os v)) /\ os' = zas S.heap (zbI S.heap os v) := fun h2 => by
  unfold zdm at h2
  split at h2
  · rename_i hc;simp only [zKW] at hc
    cases h2
    exact ⟨hc.1, hc.2, rfl, rfl⟩
  · cases h2
 have key : (zbJ S rs).bind (zci sl os S) = some (r, os') -> ∃ v0 v ns, zbJ S rs = some v0 /\ ((v = v0) \/ (∃ d, v = .d d /\ toD S.heap v0 = some d /\ zce v0.objs ns = true)) /\ ns = zbI S.heap os v /\ zcX S.heap os ns = true /\ zdD S.env os = true /\ r = v.ren (zG ns) /\ os' = zas S.heap ns := fun h => by
  obtain ⟨v, h1, h2⟩ := zKK.1 h;unfold zci at h2
  split at h2
  · obtain ⟨d, h3, h4⟩ := zKK.1 h2;unfold zgc at h4
    split at h4
    · rename_i hd;exact ⟨v, .d d, _, h1, .inr ⟨d, rfl, h3, hd⟩, rfl, fin h4⟩
    · cases h4
  · exact ⟨v, v, _, h1, .inl rfl, rfl, fin h2⟩
 cases e with
 | exit i => cases h
 | normal => obtain ⟨v0, v, ns, h⟩ := key h; exact ⟨v0, v, ns, nofun, h⟩
 | ret => obtain ⟨v0, v, ns, h⟩ := key h; exact ⟨v0, v, ns, nofun, h⟩
theorem zfB {F : zC} (hF : FOK P F) {n : Nat} {f : FuncId} {c : zl} {rs : List zR} {nt : Nat} {sl : Bool} (hfn : zb P f (.code c rs nt sl)) {args : List AV} {os : za} {r : AV} {os' : za}
    (h : fnF F n args os (.code c rs nt sl) = some (r, os')) (hrow : ∀ p ∈ os, ∃ es, p.2 = .row es) (hnm : ∀ i p, os[i]? = some p -> p.1 = 1000000 + i) : GF P f args os r os' /\ WF os.length r os' := by
 obtain ⟨_, fn, hs, hf, hc, hsl, hrs, hnt, hle⟩ := hfn;obtain ⟨body, hb, hc⟩ := zKK.1 hc;rw [hb] at hsl;have hsl : zaA fn.ntmps body = true := by simpa using hsl
 simp only [fnF, zaS] at h
 split at h
 rotate_left
 · cases h
 rename_i hlen;obtain ⟨⟨e, S'⟩, hex, hfin⟩ := zKK.1 h;obtain ⟨v0, v, ns, hne, hres, hvv, hns, hout, hgh, rfl, rfl⟩ := zzl hfin;simp only [zcX, zKW, decide_eq_true_eq] at hout;obtain ⟨hall, hl4⟩ := hout;have hobj : ∀ o ∈ ns, (∃ es, look o S'.heap = some (.row es) /\ ∀ q ∈ AV.objsL es, q ∈ ns) \/ (∃ m, look o S'.heap = some (.acc m) /\ o < 1000000) \/ (look o S'.heap = some (.frz none) /\ 1000000 <= o) := fun o ho => by
  have := zK4.1 hall o ho;simp only [zKW] at this;have h1 := this.1
  split at h1
  · rename_i es hes; exact .inl ⟨es, hes, fun q hq => by simpa using zK4.1 h1 q hq⟩
  · rename_i m hm; exact .inr (.inl ⟨m, hm, by simpa using h1⟩)
  · rename_i m hm;simp only [zKW, Option.isNone_iff_eq_none, decide_eq_true_eq] at h1;exact .inr (.inr ⟨by rw [hm, h1.1], h1.2⟩)
  · cases h1
 have hrange : ∀ o ∈ ns, o < 1000000 \/ o < 1000000 + os.length := fun o ho => by
  have := zK4.1 hall o ho;simp only [zKW, zLs, decide_eq_true_eq] at this;exact this.2
 have hvns : ∀ q, v.refs q = true -> q ∈ ns := fun q hq => by
  rw [hns]; exact zbs _ _ (zbs _ _ (zms _ _ (zf9 v q hq)))
 have hosns : ∀ p ∈ os, p.1 ∈ ns := fun p hp => by
  rw [hns]; exact zbs _ _ (zbs _ _ (zbs _ _ (zLY hp)))
 have hname : ∀ {o}, (look o os).isSome = true -> 1000000 <= o /\ o < 1000000 + os.length /\ o ∈ ns := fun {o} ho => by
  obtain ⟨ob, hob⟩ := zLG.1 ho;obtain ⟨i, hi⟩ := zLl (zu hob);have := hnm i _ hi;simp only at this;have hlt := (zKP.1 hi).1;exact ⟨by omega, by omega, hosns _ (zu hob)⟩
 have hcl : ∀ o ob, o ∈ ns -> look o S'.heap = some ob -> ∀ q, ob.refs q = true -> q ∈ ns := fun o ob ho hob q hq => by
  rcases hobj o ho with ⟨es, h1, h2⟩ | ⟨m, h1, _⟩ | ⟨h1, _⟩
  · rw [hob] at h1; cases h1; exact h2 q (zcY es q hq)
  · rw [hob] at h1; cases h1; cases hq
  · rw [hob] at h1; cases h1; cases hq
 have hid : ∀ {o}, 1000000 <= o -> zG ns o = o := fun h => by simp [zG, h]
 have hlookn : ∀ o ∈ ns, ∃ ob, look o S'.heap = some ob /\ look (zG ns o) (zas S'.heap ns) = some (ob.ren (zG ns)) := fun o ho => by
  rcases hobj o ho with ⟨es, h1, _⟩ | ⟨m, h1, _⟩ | ⟨h1, _⟩
  · exact ⟨_, h1, by rw [zdw hl4 ho, h1]; rfl⟩
  · exact ⟨_, h1, by rw [zdw hl4 ho, h1]; rfl⟩
  · exact ⟨_, h1, by rw [zdw hl4 ho, h1]; rfl⟩
 have hmemo : ∀ n ob, (n, ob) ∈ zas S'.heap ns -> ∃ o ∈ ns, n = zG ns o /\ ∃ ob0, look o S'.heap = some ob0 /\ ob = ob0.ren (zG ns) := fun n ob hm => by
  obtain ⟨o, ho, h1, h2⟩ := zCA hm;obtain ⟨ob0, h3, _⟩ := hlookn o ho;exact ⟨o, ho, h1, ob0, h3, by rw [h2, h3]; rfl⟩
 have hisn : ∀ n, (look n (zas S'.heap ns)).isSome = true -> ∃ o ∈ ns, n = zG ns o := fun n hn => by
  obtain ⟨ob, hob⟩ := zLG.1 hn;obtain ⟨o, ho, h1, _⟩ := hmemo n ob (zu hob);exact ⟨o, ho, h1⟩
 have hisS : ∀ o ∈ ns, (look (zG ns o) (zas S'.heap ns)).isSome = true := fun o ho => by
  obtain ⟨ob, _, h2⟩ := hlookn o ho; simp [h2]
 refine ⟨?_, ?_⟩;rotate_left
 · refine ⟨fun m hm => ?_, fun i hi => ?_, fun q hq => ?_, fun m ob hm q hq => ?_⟩
   · obtain ⟨o, ho, rfl⟩ := hisn m hm;unfold zG
     split
     · rename_i h1
       rcases hrange o ho with h2 | h2
       · omega
       · exact .inr ⟨h1, h2⟩
     · rename_i h1;have := zf4 (show o ∈ frs ns from zMj.2 ⟨ho, by simp; omega⟩);exact .inl (by omega)
   · have hi' : os[i]? = some os[i] := zKR hi;have h1 := hnm i _ hi';have h2 := hosns _ (zKU hi');rw [h1] at h2
     rcases hobj _ h2 with ⟨es, h3, _⟩ | ⟨m, _, h3⟩ | ⟨h3, _⟩
     · have := zdw (H := S'.heap) hl4 h2;rw [hid (by omega), h3] at this;exact .inl ⟨_, this⟩
     · omega
     · have := zdw (H := S'.heap) hl4 h2;rw [hid (by omega), h3] at this;exact .inr this
   · obtain ⟨q0, h1, rfl⟩ := zh5 hq;exact hisS q0 (hvns q0 h1)
   · obtain ⟨o, ho, _, ob0, h2, rfl⟩ := hmemo m ob hm
     cases ob0 with
     | acc k => simp [Obj.ren, Obj.refs] at hq
     | frz k => simp [Obj.ren, Obj.refs] at hq
     | mp k => simp [Obj.ren, Obj.refs] at hq
     | row es =>
      simp only [Obj.ren, Obj.refs] at hq;obtain ⟨q0, h3, rfl⟩ := zsD hq;exact hisS q0 (hcl o _ ho h2 q0 h3)
 intro w R ι us hR hι hinj hob hl;obtain ⟨hl, hg⟩ := hl;have hmark : ∀ o, (look o os).isSome = true -> mark os o = none := fun o ho => by
  obtain ⟨ob, hob'⟩ := zLG.1 ho;obtain ⟨es, he⟩ := hrow _ (zu hob');simp only at he; subst he;simp [mark, hob']
 let C : Ctx := { w0 := w, keep := fun b => b < w.heap.size /\ ∀ o s, ι o ≠ some (b, s), R0 := R, n := fn.ntmps, gh := os.map fun p => (match ι p.1 with | some (b, s) => Value.pointer (some ⟨b, 1 * s + 0, none⟩) | none => undef), le := by omega }
 have hrel : Rel C ⟨enter args ++ zaF os, os⟩ { tmps := us.toArray ++ Array.replicate (fn.ntmps - us.toArray.size) undef, defers := [] } w ι R := by
  refine ⟨rfl, by simp [C]; omega, rfl, rfl, rfl, zKV _, fun _ _ => Blk.of_eq rfl, fun _ _ => rfl, fun _ h => h.1, hR, fun b hb => .inl hb, fun _ h => h, fun o b s h => ⟨fun hk => hk.2 o s h, (hι o b s h).1⟩, hinj, ?_, hob⟩;intro t y hy
  rcases zLb.1 hy with hy | hy
  · have ht := zyx hy;have hlt := (zKP.1 ht).1;have hu : us[t]? = some (us[t]'(by omega)) := zKR _;refine ⟨us[t]'(by omega), ?_, hg t y _ ht hu⟩;simp only [za2];rw [zKN (by omega), zMk (by simp; omega)];simp only [zMl]; exact hu
  · obtain ⟨p, hm, he⟩ := zKX.1 hy
    cases he
    obtain ⟨i, hi⟩ := zLl hm;have hn1 := hnm i p hi;obtain ⟨es, hes⟩ := hrow p hm;have ho := hob p.1 p.2 hm;rw [hes] at ho
    cases ho with
    | @row _ b s c' T h1 h2 h3 h4 h5 h6 h7 =>
     refine ⟨.pointer (some ⟨b, 1 * s + 0, none⟩), ?_, .ref h1 (hmark _ (hι _ _ _ h1).2.2)⟩;simp only [za2];rw [zKM (by omega), hn1, Nat.add_sub_cancel_left];simp only [C, zKQ, hi, zLn, h1]
 refine calls_of_wp hf hb (wp_mono (zyU (C := C) hF body hc hsl hex hrel) ?_);rintro ex a' w' ⟨rfl, ι', R', hr'⟩
 -- the zbj tell that the objects lie where they lay
 have hkeep : ∀ o b s, ι o = some (b, s) -> ι' o = some (b, s) := fun o b s ho => by
  obtain ⟨ob, hob'⟩ := zLG.1 (hι o b s ho).2.2;obtain ⟨i, hi⟩ := zLl (zu hob');have hn1 := hnm i _ hi;simp only at hn1;have := zK4.1 hgh _ (zu hob')
  split at this
  · rename_i o2 hlk;simp only [beq_iff_eq] at this;subst this;obtain ⟨u, k1, k2⟩ := hr'.env _ _ (zu hlk);simp only [za2] at k1;rw [zKM (by omega)] at k1;have hidx : o2 - 1000000 = i := by omega
    rw [hidx] at k1;simp only [C, zKQ, hi, zLn, ho, Option.some.injEq] at k1;subst k1;generalize hv : Value.pointer (some ⟨b, 1 * s + 0, none⟩) = pv at k2
    cases k2 with
    | ref h1 h2 =>
     simp only [Value.pointer.injEq, Option.some.injEq, Addr.mk.injEq] at hv;obtain ⟨rfl, hv, _⟩ := hv;rw [h1]; simp at hv; rw [hv]
  · cases this
 obtain ⟨u, k1, k2⟩ := zIe hr' hrs hres;have hseal : ∃ R2 : Nat -> Prop, (∀ b, R' b -> R2 b) /\ (∀ b, R2 b -> R' b \/ ∃ o s, o ∉ ns /\ ι' o = some (b, s)) /\ VA w' R2 ι' (mark S'.heap) v u := by
  rcases hvv with rfl | ⟨d, rfl, hd, hdis⟩
  · exact ⟨R', fun _ h => h, fun _ h => .inl h, k2⟩
  · refine ⟨za6 R' ι' v0.objs, fun _ h => .inl h, fun b hb => ?_, .d (zdN hr' k2 hd fun _ h => h)⟩
    rcases hb with hb | ⟨o, s, ho, hb⟩
    · exact .inl hb
    · refine .inr ⟨o, s, ?_, hb⟩;have := zK4.1 hdis o ho;simpa using this
 obtain ⟨R2, hR2, hR2i, k2⟩ := hseal;have hnR : ∀ o b s, ι o = some (b, s) -> R' b -> look o (zas S'.heap ns) = some (.frz none) := fun o b s ho hb => by
  obtain ⟨h1, _, h2⟩ := hname (hι o b s ho).2.2
  rcases hobj o h2 with ⟨es, h3, _⟩ | ⟨m, _, h3⟩ | ⟨h3, _⟩
  · cases hr'.heap _ _ (zu h3) with
    | row h4 h5 => rw [hkeep o b s ho] at h4; cases h4; exact absurd hb h5
  · omega
  · have := zdw (H := S'.heap) hl4 h2;rw [hid (by omega), h3] at this;exact this
 have hold : ∀ b, ¬ C.keep b -> (∃ o s, ι o = some (b, s)) \/ w.heap.size <= b := fun b hb => by
  by_cases hlt : b < w.heap.size
  · refine .inl (Classical.byContradiction fun hne => hb ⟨hlt, fun o s ho => hne ⟨o, s, ho⟩⟩)
  · exact .inr (Nat.le_of_not_lt hlt)
 -- the names outside
 have hback : ∃ back : Nat -> Nat, ∀ o ∈ ns, back (zG ns o) = o := by
  have hpt : ∀ m, ∃ o, ∀ o' ∈ ns, zG ns o' = m -> o' = o := fun m => by
   by_cases h : ∃ o ∈ ns, zG ns o = m
   · obtain ⟨o, ho, h1⟩ := h;exact ⟨o, fun o' ho' h2 => zsu ho' ho hl4 (h2.trans h1.symm)⟩
   · exact ⟨0, fun o' ho' h2 => absurd ⟨o', ho', h2⟩ h⟩
  obtain ⟨g, hg⟩ := Classical.axiomOfChoice hpt;exact ⟨g, fun o ho => (hg _ o ho rfl).symm⟩
 obtain ⟨back, hback⟩ := hback
 let ι2 : Inj := fun m => if (look m (zas S'.heap ns)).isSome = true then ι' (back m) else none
 have hι2 : ∀ o ∈ ns, ι2 (zG ns o) = ι' o := fun o ho => by simp only [ι2]; rw [zKN (hisS o ho), hback o ho]
 have hι2i : ∀ m b s, ι2 m = some (b, s) -> ∃ o ∈ ns, m = zG ns o /\ ι' o = some (b, s) := fun m b s hm => by
  simp only [ι2] at hm
  split at hm
  · rename_i h1;obtain ⟨o, ho, rfl⟩ := hisn m h1;rw [hback o ho] at hm;exact ⟨o, ho, rfl, hm⟩
  · cases hm
 have hmk2 : ∀ o ∈ ns, mark (zas S'.heap ns) (zG ns o) = mark S'.heap o := fun o ho => by
  obtain ⟨ob, h1, h2⟩ := hlookn o ho;unfold mark;rw [h1, h2]
  cases ob <;> rfl
 have fin : a'.defers = [] /\ ∃ v', (results fn a'.tmps).run P w' = .ok v' w' /\ ∃ (u : Value) (ι' : Inj) (R' : Nat -> Prop), Ending.returned v' = .returned u /\ w'.os = w.os /\ w'.tape = w.tape /\ w'.output = w.output /\ w.heap.size <= w'.heap.size /\
     (∀ b, b < w.heap.size -> Blk w w' b 0) /\ (∀ b, b < w.heap.size -> (∀ o s, ι o ≠ some (b, s)) -> w'.heap[b]? = w.heap[b]?) /\ (∀ b, R b -> R' b) /\ (∀ b, R' b -> b < w'.heap.size /\ (R b \/ w.heap.size <= b \/ ∃ o s, ι o = some (b, s) /\ look o (zas S'.heap ns) = some (.frz none))) /\
     (∀ o b s, ι o = some (b, s) -> ι' o = some (b, s)) /\ (∀ o b s, ι' o = some (b, s) -> b < w'.heap.size /\ (ι o = some (b, s) \/ w.heap.size <= b)) /\ (∀ o o' b s s', ι' o = some (b, s) -> ι' o' = some (b, s') -> o = o') /\
     (∀ o ob, (o, ob) ∈ zas S'.heap ns -> OB w' R' ι' (mark (zas S'.heap ns)) o ob) /\ VA w' R' ι' (mark (zas S'.heap ns)) (v.ren (zG ns)) u := by
  refine ⟨hr'.defers, u, k1, u, ι2, R2, rfl, hr'.os, hr'.tape, hr'.output, hr'.grow, hr'.len, fun b hb hno => hr'.keep b ⟨hb, hno⟩, fun b hb => hR2 b (hr'.r0 b hb), fun b hb => ?_, fun o b s ho => ?_, fun m b s hm => ?_, fun m m' b s s' h1 h2 => ?_, fun m ob hm => ?_, ?_⟩
  · rcases hR2i b hb with hb | ⟨o, s, hno, hb⟩
    · refine ⟨hr'.rlt b hb, ?_⟩
      rcases hr'.rok b hb with h1 | h1
      · exact .inl h1
      · rcases hold b h1 with ⟨o, s, ho⟩ | h2
        · exact .inr (.inr ⟨o, s, ho, hnR o b s ho hb⟩)
        · exact .inr (.inl h2)
    · have hown := hr'.own o b s hb;refine ⟨hown.2, ?_⟩
      rcases hold b hown.1 with ⟨o2, s2, ho2⟩ | h2
      · have := hr'.inj _ _ _ _ _ hb (hkeep o2 b s2 ho2);subst this;exact absurd (hname (hι _ _ _ ho2).2.2).2.2 hno
      · exact .inr (.inl h2)
  · obtain ⟨h1, _, h2⟩ := hname (hι o b s ho).2.2;have := hι2 o h2;rw [hid h1] at this;rw [this]; exact hkeep o b s ho
  · obtain ⟨o, ho, rfl, h1⟩ := hι2i m b s hm;refine ⟨(hr'.own o b s h1).2, ?_⟩
    rcases hold b (hr'.own o b s h1).1 with ⟨o0, s0, h0⟩ | h2
    · have h3 := hkeep o0 b s0 h0;have := hr'.inj _ _ _ _ _ h1 h3;subst this;rw [h1] at h3; cases h3;have hge := (hname (hι _ _ _ h0).2.2).1;rw [hid hge];exact .inl h0
    · exact .inr h2
  · obtain ⟨o, ho, rfl, h3⟩ := hι2i m b s h1;obtain ⟨o', ho', rfl, h4⟩ := hι2i m' b s' h2;rw [hr'.inj _ _ _ _ _ h3 h4]
  · obtain ⟨o, ho, rfl, ob0, h2, rfl⟩ := hmemo m ob hm;have hob2 : OB w' R2 ι' (mark S'.heap) o ob0 := by
     have hnR2 : ∀ b s, ι' o = some (b, s) -> ¬ R' b -> ¬ R2 b := fun b s ho' hn hb => by
      rcases hR2i b hb with hb | ⟨o2, s2, hno, hb⟩
      · exact hn hb
      · have := hr'.inj _ _ _ _ _ ho' hb;subst this;exact hno ho
     cases hr'.heap o ob0 (zu h2) with
     | row k1 k2 k3 k4 k5 k6 k7 => exact .row k1 (hnR2 _ _ k1 k2) k3 k4 k5 k6 fun i e he j x hx => let ⟨j1, q, j2, j3⟩ := k7 i e he j x hx; ⟨j1, q, j2, j3.toR (.inl hR2)⟩
     | acc k1 k2 k3 k4 k5 k6 => exact .acc k1 k2 (hnR2 _ _ k2 k3) k4 k5 k6
     | accN k1 => exact .accN k1
     | frz k1 => exact .frz fun b s hb => ⟨hR2 _ (k1 b s hb).1, (k1 b s hb).2⟩
     | mp k1 k2 k3 k4 k5 k6 => exact .mp k1 (hnR2 _ _ k1 k2) k3 k4 k5 fun i k x hi => let ⟨e, j1, j2, j3⟩ := k6 i k x hi; ⟨e, j1, j2, j3.mono_v hR2 fun _ _ => rfl⟩
    exact hob2.ren (hι2 o ho) fun q hq => by
     have hq' := hcl o ob0 ho h2 q hq;exact ⟨fun p hp => by rw [hι2 q hq']; exact hp, hmk2 q hq'⟩
  · exact k2.ren fun q hq => by
     have hq' := hvns q hq;exact ⟨fun p hp => by rw [hι2 q hq']; exact hp, hmk2 q hq'⟩
 cases e with
 | normal => exact fin
 | ret => exact fin
 | exit i => exact absurd rfl (hne i)
def GOK (P : Program) (G : FuncId -> Option AFn) : Prop := ∀ f fn, G f = some fn -> zb P f fn
theorem zxF {G : FuncId -> Option AFn} (hG : GOK P G) : ∀ n, FOK P (zx G n) := by
 intro n
 induction n with
 | zero => intro f args os r os' h; cases h
 | succ n ih =>
  intro f args os r os' h0 h1 h2;obtain ⟨fn, hf, h⟩ := zKK.1 h0;clear h0;have hok := hG f fn hf
  cases fn with
  | code c rs nt sl => exact ⟨hok.1, zfB ih hok h h1 h2⟩
  | nils c rs nt =>
   refine ⟨hok.1, ?_⟩;simp only [fnF, zcW] at h
   split at h
   · rename_i he;simp only [zKW, zMu] at he;obtain ⟨he, rfl⟩ := he;have hargs : args = [.d (.sl [])] := by
      unfold zfJ at he
      split at he
      · rfl
      · cases he
     split at h
     · rename_i hn;subst hargs;simp only [zKW] at hn;have h := Option.some.inj h
       cases h
       have new0 : ∀ {x : Option (AV × za)}, zdp x = true -> x = some (.acc 0 [], [(0, .acc 0)]) := fun {x} hx => by
        unfold zdp at hx
        split at hx
        · rfl
        · cases hx
       obtain ⟨g1, w1⟩ := zfB (c := c) (rs := rs) (nt := nt) (sl := false) ih hok (new0 hn.1) (by simp) (by simp);obtain ⟨g2, _⟩ := zfB (c := c) (rs := rs) (nt := nt) (sl := false) ih hok (new0 hn.2) (by simp) (by simp);refine ⟨fun w R ι us hR hι hinj hob hv => ?_, w1⟩;obtain ⟨hl, hg⟩ := hv
       match us, hl with
       | [u], _ =>
        have hu := hg 0 _ u rfl rfl
        cases hu with
        | d hu =>
         cases hu with
         | @sl0 a cap =>
          cases a with
          | none => exact g1 w R ι _ hR hι hinj hob ⟨rfl, fun i x u hx hu => by
              match i, hx, hu with
              | 0, hx, hu => simp at hx hu; subst hx hu; exact .nl1
              | n + 1, hx, hu => simp at hx⟩
          | some a => exact g2 w R ι _ hR hι hinj hob ⟨rfl, fun i x u hx hu => by
              match i, hx, hu with
              | 0, hx, hu => simp at hx hu; subst hx hu; exact .nl2
              | n + 1, hx, hu => simp at hx⟩
         | sl _ h0 => exact absurd rfl h0
     · cases h
   · exact zfB (c := c) (rs := rs) (nt := nt) (sl := false) ih hok h h1 h2
  | ext g => exact hok args os r os' h h1 h2
end Go.Sim

namespace Go.Sim
open Go (World Value Addr TypeId Act)
variable {P : Program}
open Classical in
noncomputable def lim {α : Type} (x : Nat -> Option α) : Option α := if h : ∃ n, (x n).isSome = true then x (Classical.choose h) else none
def zi {α : Type} (x : Nat -> Option α) : Prop := ∀ n m a, n <= m -> x n = some a -> x m = some a
theorem zi.of_succ {α : Type} {x : Nat -> Option α} (h : ∀ n a, x n = some a -> x (n + 1) = some a) : zi x := by
 intro n m a hnm hx
 induction hnm with
 | refl => exact hx
 | step _ ih => exact h _ _ ih
theorem zaG {α : Type} {x : Nat -> Option α} (h : zi x) {a : α} : lim x = some a ↔ ∃ n, x n = some a := by
 unfold lim;constructor
 · intro hl
   split at hl
   · exact ⟨_, hl⟩
   · cases hl
 · rintro ⟨n, hn⟩;have hex : ∃ n, (x n).isSome = true := ⟨n, by rw [hn]; rfl⟩;rw [dif_pos hex];have hs := Classical.choose_spec hex;obtain ⟨b, hb⟩ := zLG.1 hs;have h1 := h _ (max n (Classical.choose hex)) a (zMO ..) hn;have h2 := h _ (max n (Classical.choose hex)) b (zMP ..) hb;rw [h1] at h2; cases h2;exact hb
theorem zeE {α : Type} {x y : Option α} (h : ∀ a, x = some a ↔ y = some a) : x = y := by
 cases x with
 | some a => exact ((h a).1 rfl).symm
 | none =>
  cases y with
  | none => rfl
  | some a => exact absurd ((h a).2 rfl) (by simp)
theorem z7 {α : Type} (x : Option α) : lim (fun _ => x) = x :=
 zeE fun a => (zaG (x := fun _ => x) (fun _ _ _ _ h => h)).trans ⟨fun ⟨_, h⟩ => h, fun h => ⟨0, h⟩⟩
theorem zi.bind {α β : Type} {x : Nat -> Option α} {g : Nat -> α -> Option β} (hx : zi x) (hg : ∀ a, zi fun n => g n a) : zi fun n => (x n).bind (g n) := by
 intro n m b hnm h;obtain ⟨a, h1, h2⟩ := zKK.1 h;exact zKK.2 ⟨a, hx n m a hnm h1, hg a n m b hnm h2⟩
theorem zbm {α β : Type} {x : Nat -> Option α} {g : Nat -> α -> Option β} (hx : zi x) (hg : ∀ a, zi fun n => g n a) : lim (fun n => (x n).bind (g n)) = (lim x).bind fun a => lim fun n => g n a := by
 refine zeE fun b => ?_;rw [zaG (hx.bind hg)];constructor
 · rintro ⟨n, h⟩;obtain ⟨a, h1, h2⟩ := zKK.1 h;exact zKK.2 ⟨a, (zaG hx).2 ⟨n, h1⟩, (zaG (hg a)).2 ⟨n, h2⟩⟩
 · intro h;obtain ⟨a, h1, h2⟩ := zKK.1 h;obtain ⟨n, h3⟩ := (zaG hx).1 h1;obtain ⟨m, h4⟩ := (zaG (hg a)).1 h2;exact ⟨max n m, zKK.2 ⟨a, hx _ _ _ (zMO ..) h3, hg a _ _ _ (zMP ..) h4⟩⟩
theorem zi.map {α β : Type} {x : Nat -> Option α} {g : α -> β} (hx : zi x) : zi fun n => (x n).map g := by
 intro n m b hnm h;obtain ⟨a, h1, rfl⟩ := zKL.1 h;exact zKL.2 ⟨a, hx n m a hnm h1, rfl⟩
theorem zcS {α β : Type} {x : Nat -> Option α} {g : α -> β} (hx : zi x) : lim (fun n => (x n).map g) = (lim x).map g := by
 refine zeE fun b => ?_;rw [zaG hx.map];constructor
 · rintro ⟨n, h⟩;obtain ⟨a, h1, rfl⟩ := zKL.1 h;exact zKL.2 ⟨a, (zaG hx).2 ⟨n, h1⟩, rfl⟩
 · intro h;obtain ⟨a, h1, rfl⟩ := zKL.1 h;obtain ⟨n, h2⟩ := (zaG hx).1 h1;exact ⟨n, zKL.2 ⟨a, h2, rfl⟩⟩
theorem zi.const {α : Type} {x : Option α} : zi fun _ => x := fun _ _ _ _ h => h
theorem zi.ite {α : Type} {c : Prop} [Decidable c] {x y : Nat -> Option α} (hx : zi x) (hy : zi y) : zi fun n => if c then x n else y n := by
 by_cases h : c
 · simpa [h] using hx
 · simpa [h] using hy
variable (G : FuncId -> Option AFn)
noncomputable def zt : zC := fun f args os => lim fun n => zx G n f args os
noncomputable def exL (c : zl) (S : St) : Option (zJ × St) := lim fun n => z9 (zx G n) n c S
noncomputable def zad (ks : List Nat) (c : zl) (S : St) : Option (zJ × St) := lim fun n => zaW ks (z9 (zx G n) n c) n S
variable {G}
section mono
variable {F F' : Nat -> zC} (hF : ∀ f args os, zi fun n => F n f args os)
include hF
theorem zmV {E : Env} {H : za} {dst : Nat} {ns dob : List Nat} {f : FuncId} {zKJ : List AV} : (zi fun n => zbu (F n) E H dst ns dob f zKJ) := by
 unfold zbu;exact zi.ite ((hF f _ _).bind (fun _ => zi.const)) zi.const
theorem zgY {E : Env} {H : za} {dst : Nat} {ms : List Bool} {f : FuncId} {args : List AV} : zi fun n => zar (F n) E H dst ms f args :=
 zi.bind zi.const fun _ => zmV hF
theorem zre {E : Env} {H : za} {dst : Nat} {ms : List Bool} {f : FuncId} {dob : List Nat} {zKJ : List AV} : zi fun n => zbQ (F n) E H dst ms f dob zKJ := by
 unfold zbQ;exact zi.ite (zi.map (zgY hF)) zi.const
theorem zfh {E : Env} {H : za} {dst : Nat} {ms : List Bool} {f : FuncId} {args : List AV} : zi fun n => zS (F n) E H dst ms f args := by
 unfold zS;exact zi.ite (zi.bind zi.const fun _ => zre hF) (zgY hF)
theorem zmX {E : Env} {H : za} {dst : Nat} {ms : List Bool} {f : AV} {args : List AV} : zi fun n => zbO (F n) E H dst ms f args := by
 unfold zbO
 split
 · exact zfh hF
 · exact zfh hF
 · exact zi.const
theorem zsR {E : Env} {H : za} {dst : Nat} {op : AOp} : zi fun n => step (F n) E H dst op := by
 cases op with
 | call f ms xs => exact (zfh hF).map
 | callv f ms xs => exact (zmX hF).map
 | _ => exact zi.const
theorem zgg {x : zh} {S : St} : zi fun n => zaJ (F n) x S := (zsR hF).map
theorem zfv : ∀ {l : List zh} {S : St}, zi fun n => zV (F n) l S := by
 intro l
 induction l with
 | nil => intro S; exact zi.const
 | cons o l ih =>
  intro S;simp only [zV]
  split
  · exact (zgg hF).bind (fun _ => ih)
  · split
    · exact zi.ite ((zgg hF).bind (fun _ => ih)) ih
    · exact ih
    · exact zi.const
theorem zg6 {x : zh} {fr : List (List Nat)} {acc : List (List Nat × List Nat)} {S : St} : zi fun n => zaL (F n) x fr acc S := by
 unfold zaL;exact zi.ite (zgg hF) zi.const
theorem zfu : ∀ {l : List zh} {fr : List (List Nat)} {acc : List (List Nat × List Nat)} {S : St}, zi fun n => zZ (F n) l fr acc S := by
 intro l
 induction l with
 | nil => intro fr acc S; exact zi.const
 | cons o l ih =>
  intro fr acc S;simp only [zZ]
  split
  · exact (zg6 hF).bind (fun _ => ih)
  · split
    · exact zi.ite ((zg6 hF).bind (fun _ => ih)) (zi.bind zi.const (fun _ => ih))
    · exact zi.bind zi.const (fun _ => ih)
    · exact zi.const
theorem zg5 {l : List zh} {fr : List (List Nat)} {S : St} : zi fun n => zby (F n) l fr S := by
 unfold zby;exact zi.ite (zfu hF) zi.const
omit hF in
theorem zsI {g : Nat -> St -> Option (zJ × St)} (hg : ∀ S, zi fun n => g n S) {p : zJ × St} : zi fun n => zb5 (g n) p := by
 unfold zb5
 split
 · exact hg _
 · exact zi.const
 · exact zi.const
omit hF in
theorem zhL {g : Nat -> St -> Option (zJ × St)} (hg : ∀ S, zi fun n => g n S) {ks : List Nat} {p : zJ × St} : zi fun n => zbb ks (g n) p := by
 unfold zbb
 split
 · exact hg _
 · exact zi.const
 · exact zi.const
omit hF in
theorem zr7 {b : Nat -> St -> Option (zJ × St)} (hb : ∀ S, zi fun n => b n S) : ∀ {ks : List Nat} {k : Nat} {S : St}, zi fun n => zaW ks (b n) k S := by
 intro ks k
 induction k with
 | zero => intro S; exact zi.const
 | succ k ih => intro S; exact (hb S).bind fun p => zhL fun _ => ih
omit hF in
theorem zr8 {ks : List Nat} {b : St -> Option (zJ × St)} : ∀ {S : St}, zi fun k => zaW ks b k S := by
 intro S;refine zi.of_succ fun k => ?_
 induction k generalizing S with
 | zero => intro a h; cases h
 | succ k ih =>
  intro a h;simp only [zaW] at h ⊢;obtain ⟨p, h1, h2⟩ := zKK.1 h;refine zKK.2 ⟨p, h1, ?_⟩;unfold zbb at h2 ⊢
  split at h2
  · exact ih _ h2
  · exact h2
  · exact h2
omit hF in
theorem zr6 {b : Nat -> St -> Option (zJ × St)} (hb : ∀ S, zi fun n => b n S) {ks : List Nat} {S : St} : zi fun n => zaW ks (b n) n S := fun n m a hnm h =>
 zr7 hb n m a hnm (zr8 n m a hnm h)
theorem zbA : ∀ {c : zl} {S : St}, zi fun n => z9 (F n) n c S := by
 intro c
 induction c with
 | skip => intro S; exact zi.const
 | exit i ks => intro S; exact zi.const
 | ret ks => intro S; exact zi.const
 | ops gs l ks => intro S; exact (zi.bind zi.const fun _ => zfv hF).map
 | draw gs l fr ks => intro S; exact (zi.bind zi.const fun _ => zg5 hF).map
 | seq x y ih1 ih2 => intro S; exact ih1.bind fun p => zsI fun S => ih2
 | cond c x y ih1 ih2 =>
  intro S;simp only [z9, zcc]
  split
  · exact zi.ite ih1 ih2
  · exact zi.const
 | block id x ih => intro S; exact ih.map
 | loop ks x ih => intro S; exact zr6 fun S => ih
end mono
theorem zT (f : FuncId) (args : List AV) (os : za) : zi fun n => zx G n f args os := by
 refine zi.of_succ fun n => ?_
 induction n generalizing f args os with
 | zero => intro a h; cases h
 | succ n ih =>
  -- two steps: more fuel for the calls, more rounds
  have code : ∀ (c : zl) (rs : List zR) (nt : Nat) (sl : Bool) (args : List AV) (os : za) (a : AV × za), zaS (zx G n) n args os c rs nt sl = some a -> zaS (zx G (n + 1)) (n + 1) args os c rs nt sl = some a := by
   intro c rs nt sl args os a h2;simp only [zaS] at h2 ⊢
   split at h2
   · rename_i hc;rw [zKN hc];obtain ⟨p, h3, h4⟩ := zKK.1 h2;refine zKK.2 ⟨p, ?_, h4⟩
     let Fs : Nat -> zC := fun k => if k <= n then zx G n else zx G (n + 1)
     have hFs : ∀ f args os, zi fun k => Fs k f args os := fun f args os => zi.of_succ fun k a h => by
      simp only [Fs] at h ⊢
      split at h
      · split
        · exact h
        · exact ih f args os a h
      · rename_i hk;rw [zKM (by omega)]; exact h
     have := zbA (F := Fs) hFs (c := c) (S := ⟨enter args ++ zaF os, os⟩) n (n + 1) p (by omega);simp only [Fs, zKV, if_true] at this;rw [zKM (by omega)] at this;exact this h3
   · cases h2
  intro a h;have h : (G f).bind (fnF (zx G n) n args os) = some a := h;show (G f).bind (fnF (zx G (n + 1)) (n + 1) args os) = some a;obtain ⟨fn, h1, h2⟩ := zKK.1 h;refine zKK.2 ⟨fn, h1, ?_⟩
  cases fn with
  | ext g => exact h2
  | code c rs nt sl => exact code c rs nt sl args os a h2
  | nils c rs nt =>
   have new0 : ∀ {x : Option (AV × za)}, zdp x = true -> x = some (.acc 0 [], [(0, .acc 0)]) := fun {x} hx => by
    unfold zdp at hx
    split at hx
    · rfl
    · cases hx
   show zcW (zx G (n + 1)) (n + 1) args os c rs nt = some a;have h2 : zcW (zx G n) n args os c rs nt = some a := h2;unfold zcW at h2 ⊢
   split at h2
   · rename_i he;rw [zKN he]
     split at h2
     · rename_i hn;simp only [zKW] at hn;rw [code _ _ _ _ _ _ _ (new0 hn.1), code _ _ _ _ _ _ _ (new0 hn.2)];exact h2
     · cases h2
   · rename_i he;rw [zKM he];exact code _ _ _ _ _ _ _ h2
theorem zbf {f : FuncId} {args : List AV} {os : za} {p : AV × za} : zt G f args os = some p ↔ ∃ n, zx G n f args os = some p := zaG (zT f args os)
theorem zrV {E : Env} {H : za} {dst : Nat} {ms : List Bool} {f : FuncId} {args : List AV} : lim (fun n => zar (zx G n) E H dst ms f args) = zar (zt G) E H dst ms f args := by
 unfold zar;rw [zbm zi.const fun _ => zmV zT, z7]
 congr 1; funext zKJ
 unfold zbu
 split
 · rw [zbm (g := fun _ => zbv E H dst (zX H ms args) (zy ms args)) (zT _ _ _) fun _ => zi.const]
   congr 1; funext p
   exact z7 _
 · exact z7 _
theorem zhJ {E : Env} {H : za} {dst : Nat} {ms : List Bool} {f : FuncId} {args : List AV} : lim (fun n => zS (zx G n) E H dst ms f args) = zS (zt G) E H dst ms f args := by
 unfold zS
 split
 · rw [zbm zi.const fun _ => zre zT, z7]
   congr 1; funext zKJ
   unfold zbQ
   split
   · rw [zcS (zgY zT), zrV]
   · exact z7 _
 · exact zrV
theorem zB8 {E : Env} {H : za} {dst : Nat} {op : AOp} : lim (fun n => step (zx G n) E H dst op) = step (zt G) E H dst op := by
 cases op with
 | call f ms xs => exact (zcS (zfh zT)).trans (congrArg _ zhJ)
 | callv f ms xs =>
  refine (zcS (zmX zT)).trans (congrArg _ ?_);unfold zbO
  split
  · exact zhJ
  · exact zhJ
  · exact z7 _
 | _ => exact z7 _
theorem zrX {x : zh} {S : St} : lim (fun n => zaJ (zx G n) x S) = zaJ (zt G) x S := (zcS (zsR zT)).trans (congrArg _ zB8)
theorem zB7 : ∀ {l : List zh} {S : St}, lim (fun n => zV (zx G n) l S) = zV (zt G) l S := by
 intro l
 induction l with
 | nil => intro S; exact z7 _
 | cons o l ih =>
  intro S;have key : lim (fun n => (zaJ (zx G n) o S).bind (zV (zx G n) l)) = (zaJ (zt G) o S).bind (zV (zt G) l) := by
   rw [zbm (zgg zT) fun _ => zfv zT, zrX]
   congr 1; funext p; exact ih
  simp only [zV]
  split
  · exact key
  · split
    · split
      · exact key
      · exact ih
    · exact ih
    · exact z7 _
theorem zB4 {x : zh} {fr : List (List Nat)} {acc : List (List Nat × List Nat)} {S : St} : lim (fun n => zaL (zx G n) x fr acc S) = zaL (zt G) x fr acc S := by
 unfold zaL
 split
 · exact zrX
 · exact z7 _
theorem zB6 : ∀ {l : List zh} {fr : List (List Nat)} {acc : List (List Nat × List Nat)} {S : St}, lim (fun n => zZ (zx G n) l fr acc S) = zZ (zt G) l fr acc S := by
 intro l
 induction l with
 | nil => intro fr acc S; exact z7 _
 | cons o l ih =>
  intro fr acc S;have key : lim (fun n => (zaL (zx G n) o fr acc S).bind (zZ (zx G n) l fr.tail (acc ++ [feet o S]))) = (zaL (zt G) o fr acc S).bind (zZ (zt G) l fr.tail (acc ++ [feet o S])) := by
   rw [zbm (zg6 zT) fun _ => zfu zT, zB4]
   congr 1; funext p; exact ih
  simp only [zZ]
  split
  · exact key
  · split
    · split
      · exact key
      · rw [zbm zi.const fun _ => zfu zT, z7]
        congr 1; funext p; exact ih
    · rw [zbm zi.const fun _ => zfu zT, z7]
      congr 1; funext p; exact ih
    · exact z7 _
theorem zB3 {l : List zh} {fr : List (List Nat)} {S : St} : lim (fun n => zby (zx G n) l fr S) = zby (zt G) l fr S := by
 unfold zby
 split
 · exact zB6
 · exact z7 _
theorem zyN {S : St} : exL G .skip S = some (.normal, S) := z7 _
theorem zyJ {i : Nat} {ks : List Nat} {S : St} : exL G (.exit i ks) S = some (.exit i, endS ks S) := z7 _
theorem zyL {ks : List Nat} {S : St} : exL G (.ret ks) S = some (.ret, endS ks S) := z7 _
theorem zyK {gs : List Nat} {l : List zh} {ks : List Nat} {S : St} : exL G (.ops gs l ks) S = ((zbj gs S).bind (zV (zt G) l)).map (zcO ks) := by
 refine (zcS (zi.bind zi.const fun _ => zfv zT)).trans (congrArg _ ?_);rw [zbm zi.const fun _ => zfv zT, z7]
 congr 1; funext p; exact zB7
theorem zyI {gs : List Nat} {l : List zh} {fr : List (List Nat)} {ks : List Nat} {S : St} : exL G (.draw gs l fr ks) S = ((zbj gs S).bind (zby (zt G) l fr)).map (zcO ks) := by
 refine (zcS (zi.bind zi.const fun _ => zg5 zT)).trans (congrArg _ ?_);rw [zbm zi.const fun _ => zg5 zT, z7]
 congr 1; funext p; exact zB3
theorem zyM {x y : zl} {S : St} : exL G (.seq x y) S = (exL G x S).bind (zb5 (exL G y)) := by
 refine (zbm (zbA zT) fun p => zsI fun S => zbA zT).trans ?_
 congr 1; funext p
 unfold zb5
 split
 · rfl
 · exact z7 _
 · exact z7 _
theorem zyH {c : Opd} {x y : zl} {S : St} : exL G (.cond c x y) S = zcc (c.ev S.env) (exL G x S) (exL G y S) := by
 show lim (fun n => zcc (c.ev S.env) (z9 (zx G n) n x S) (z9 (zx G n) n y S)) = _;unfold zcc
 split
 · split
   · rfl
   · rfl
 · exact z7 _
theorem zyG {id : Nat} {x : zl} {S : St} : exL G (.block id x) S = (exL G x S).map (zdb id) := zcS (zbA zT)
theorem zb1 {ks : List Nat} {x : zl} {S : St} : zad G ks x S = (exL G x S).bind (zbb ks (zad G ks x)) := by
 have hm : ∀ S, zi fun n => zaW ks (z9 (zx G n) n x) n S := fun S => zr6 fun S => zbA zT;have e1 : (exL G x S).bind (zbb ks (zad G ks x)) = lim fun n => (z9 (zx G n) n x S).bind (zbb ks (zaW ks (z9 (zx G n) n x) n)) := by
  rw [zbm (zbA zT) fun p => zhL hm]
  congr 1; funext p
  unfold zbb
  split
  · rfl
  · exact (z7 _).symm
  · exact (z7 _).symm
 rw [e1];refine zeE fun a => ?_;rw [zad, zaG (hm S), zaG ((zbA zT).bind fun p => zhL hm)];constructor
 · rintro ⟨n, h⟩
   cases n with
   | zero => cases h
   | succ n =>
    simp only [zaW] at h;obtain ⟨p, h1, h2⟩ := zKK.1 h;refine ⟨n + 1, zKK.2 ⟨p, h1, ?_⟩⟩;unfold zbb at h2 ⊢
    split at h2
    · exact zr8 n (n + 1) a (by omega) h2
    · exact h2
    · exact h2
 · rintro ⟨n, h⟩;obtain ⟨p, h1, h2⟩ := zKK.1 h;refine ⟨n + 1, ?_⟩;simp only [zaW];refine zKK.2 ⟨p, zbA zT n (n + 1) p (by omega) h1, ?_⟩;unfold zbb at h2 ⊢
   split at h2
   · exact zr7 (fun S => zbA zT) n (n + 1) a (by omega) h2
   · exact h2
   · exact h2
theorem zfT {c : zl} {rs : List zR} {nt : Nat} {sl : Bool} {args : List AV} {os : za} (hl : args.length <= nt) : (zi fun n => zaS (zx G n) n args os c rs nt sl) /\ lim (fun n => zaS (zx G n) n args os c rs nt sl) = (exL G c ⟨enter args ++ zaF os, os⟩).bind (zbi sl rs os) := by
 have e : (fun n => zaS (zx G n) n args os c rs nt sl) = fun n => (z9 (zx G n) n c ⟨enter args ++ zaF os, os⟩).bind (zbi sl rs os) := by
  funext n; simp only [zaS]; rw [zKN hl]
 rw [e];refine ⟨zi.bind (g := fun _ p => zbi sl rs os p) (zbA zT) fun p => zi.const, ?_⟩;rw [zbm (g := fun _ p => zbi sl rs os p) (zbA zT) fun p => zi.const];show (exL G c ⟨enter args ++ zaF os, os⟩).bind _ = _
 congr 1; funext p; exact z7 _
theorem zrW {α : Type} {x y : Nat -> Option α} (hx : zi x) (hy : zi y) (h0 : x 0 = none) (h : ∀ n, x (n + 1) = y n) : lim x = lim y := by
 refine zeE fun a => ?_;rw [zaG hx, zaG hy];constructor
 · rintro ⟨n, h1⟩
   cases n with
   | zero => rw [h0] at h1; cases h1
   | succ n => exact ⟨n, by rw [<- h]; exact h1⟩
 · rintro ⟨n, h1⟩; exact ⟨n + 1, by rw [h]; exact h1⟩
theorem zac {f : FuncId} {c : zl} {rs : List zR} {nt : Nat} {sl : Bool} (h : G f = some (.code c rs nt sl)) {args : List AV} {os : za} (hl : args.length <= nt) : zt G f args os = (exL G c ⟨enter args ++ zaF os, os⟩).bind (zbi sl rs os) := by
 obtain ⟨h1, h2⟩ := zfT (G := G) (c := c) (rs := rs) (os := os) (sl := sl) hl;rw [<- h2];exact zrW (zT f args os) h1 rfl fun n => by simp only [zx, h, zLi, fnF]
theorem zxI {f : FuncId} {c : zl} {rs : List zR} {nt : Nat} (h : G f = some (.nils c rs nt)) {es : List D} (h0 : es ≠ []) (hl : 1 <= nt) : zt G f [.d (.sl es)] [] = (exL G c ⟨enter [.d (.sl es)], []⟩).bind (zbi false rs []) := by
 obtain ⟨h1, h2⟩ := zfT (G := G) (c := c) (rs := rs) (sl := false) (os := []) (args := [.d (.sl es)]) hl;rw [show enter [.d (.sl es)] = enter [AV.d (.sl es)] ++ zaF [] by simp [zaF], <- h2];refine zrW (zT f _ []) h1 rfl fun n => ?_;simp only [zx, h, zLi, fnF, zcW];rw [zKM];intro hc;simp only [zKW] at hc;unfold zfJ at hc
 split at hc
 · rename_i e; cases e; exact h0 rfl
 · exact absurd hc.1 (by simp)
theorem zxJ {f : FuncId} {c : zl} {rs : List zR} {nt : Nat} (h : G f = some (.nils c rs nt)) (hl : 1 <= nt) (h1 : (exL G c ⟨enter [.nl true], []⟩).bind (zbi false rs []) = some (.acc 0 [], [(0, .acc 0)]))
    (h2 : (exL G c ⟨enter [.nl false], []⟩).bind (zbi false rs []) = some (.acc 0 [], [(0, .acc 0)])) : zt G f [.d (.sl [])] [] = some (.acc 0 [], [(0, .acc 0)]) := by
 obtain ⟨k1, k2⟩ := zfT (G := G) (c := c) (rs := rs) (sl := false) (os := []) (args := [.nl true]) hl;obtain ⟨k3, k4⟩ := zfT (G := G) (c := c) (rs := rs) (sl := false) (os := []) (args := [.nl false]) hl;rw [show enter [.nl true] ++ zaF [] = enter [AV.nl true] by simp [zaF], h1] at k2;rw [show enter [.nl false] ++ zaF [] = enter [AV.nl false] by simp [zaF], h2] at k4;obtain ⟨n, hn⟩ := (zaG k1).1 k2;obtain ⟨m, hm⟩ := (zaG k3).1 k4;refine zbf.2 ⟨max n m + 1, ?_⟩;simp only [zx, h, zLi, fnF, zcW, zfJ, List.isEmpty_nil, zML, if_true];rw [show zaS (zx G (max n m)) (max n m) [.nl true] [] c rs nt false = _ from k1 n _ _ (zMO ..) hn, show zaS (zx G (max n m)) (max n m) [.nl false] [] c rs nt false = _ from k3 m _ _ (zMP ..) hm];rfl
theorem zxK (hG : GOK P G) : FOK P (zt G) := by
 intro f args os r os' h h1 h2;obtain ⟨n, hn⟩ := zbf.1 h;exact zxF hG n f args os r os' hn h1 h2
theorem zaI {T : Type} {ks : List Nat} {x : zl} (μ : T -> Nat) (inv : T -> Prop) (st : T -> St) (r : T -> Option (zJ × St))
    (h : ∀ t, inv t -> ∀ L : St -> Option (zJ × St), (∀ t', inv t' -> μ t' < μ t -> L (st t') = r t') -> (exL G x (st t)).bind (zbb ks L) = r t) : ∀ t, inv t -> zad G ks x (st t) = r t := by
 intro t;generalize hk : μ t = k
 induction k using Nat.strongRecOn generalizing t with
 | ind k ih =>
  intro hi;rw [zb1];exact h t hi _ fun t' hi' hlt => ih (μ t') (by omega) t' rfl hi'
end Go.Sim
