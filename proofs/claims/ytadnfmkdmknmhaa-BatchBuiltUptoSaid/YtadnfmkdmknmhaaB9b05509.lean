/-
  Functions: what they do, out of their code.
  The meaning of functions without a bound on the steps.
-/
import Derived.Test.YtadnfmkdmknmhaaB72fc774
set_option linter.unusedSimpArgs false
set_option linter.unusedVariables false
namespace Go.Sim
open Go (World Value Addr TypeId Act)
variable {P : Program}
inductive ARes where
  | t (n : Nat)
  | c (n : Nat) (ag : Bool) (sz : Nat)
def compRes (P : Program) : ResultVar → Option ARes
  | .tmp t => if t < 1000000 then some (.t t) else none
  | .cell a t => match isAggT P t, sizeT P t with
    | some ag, some n => if n = 0 ∨ 1000000 ≤ a then none else some (.c a ag n)
    | _, _ => none
def ARes.ev (S : St) : ARes → Option AV
  | .t n => look n S.env
  | .c n ag sz => (look n S.env).bind (ldA S.heap ag sz)
def resA (S : St) (rs : List ARes) : Option AV :=
  match rs with
  | [r] => r.ev S
  | rs => (rs.mapM (ARes.ev S)).map AV.mkTup
theorem ld_ok {C : Ctx} {S : St} {a : Act} {w : World} {ι : Inj} {R : Nat → Prop} (h : Rel C S a w ι R) {t : TypeId} {ag : Bool} {n : Nat} {pa v : AV} {pv : Value} (hag : isAggT P t = some ag) (hn : sizeT P t = some n) (h0 : n ≠ 0)
    (hp : VA w R ι (mark S.heap) pa pv) (hv' : ldA S.heap ag n pa = some v) :
    ∃ b off u, pv = .pointer (some ⟨b, off, none⟩) ∧ (loadVar t ⟨b, off, none⟩).run P w = .ok u w ∧ VA w R ι (mark S.heap) v u := by
  cases pa with
  | d y =>
    cases y with
    | pd y =>
      simp only [ldA] at hv'
      obtain ⟨y', hy', rfl⟩ := Option.map_eq_some_iff.1 hv'
      obtain ⟨b, off, hpv, hR, hel⟩ := hp.pd_inv
      obtain ⟨u, k1, k2⟩ := hel.load hy' h0 hag hn
      exact ⟨b, off, u, hpv, k1, .d k2⟩
    | _ => simp [ldA] at hv'
  | pe q y =>
    simp only [ldA] at hv'
    obtain ⟨y', hy', rfl⟩ := Option.map_eq_some_iff.1 hv'
    cases hp with
    | peR hR hel => obtain ⟨u, k1, k2⟩ := hel.load hy' h0 hag hn; exact ⟨_, _, u, rfl, k1, .d k2⟩
    | peC _ _ _ _ hel => obtain ⟨u, k1, k2⟩ := hel.load hy' h0 hag hn; exact ⟨_, _, u, rfl, k1, .d k2⟩
  | ref q i off =>
    simp only [ldA] at hv'
    split at hv'
    · rename_i es hes
      obtain ⟨e, he, hpart⟩ := Option.bind_eq_some_iff.1 hv'
      cases hp with
      | @ref _ _ _ b s hι _ =>
        cases h.heap _ _ (look_mem hes) with
        | row hι' _ hb _ _ _ hcell =>
          rw [hι] at hι'; cases hι'
          have hel : ElA w R ι (mark S.heap) e b (i * s) := fun j x hj => by
            obtain ⟨k1, q, k2, k3⟩ := hcell i e he j x hj
            exact ⟨k1, q, by rw [cell_of hb]; exact k2, k3⟩
          obtain ⟨u, k1, k2⟩ := hel.load hpart h0 hag hn
          exact ⟨_, _, u, rfl, k1, k2⟩
    · cases hv'
  | _ => simp [ldA] at hv'
def resSem (tmps : Array Value) : ResultVar → Sem Value := fun
  | .tmp t => pure (tmps.getD t undef)
  | .cell a t => do loadVar t (← asAddr (tmps.getD a undef))
theorem results_eq (fn : Func) (tmps : Array Value) : results fn tmps = (do let vs ← fn.results.mapM (resSem tmps); pure (if h : vs.size = 1 then vs[0] else .tuple vs)) := rfl
theorem mapM_sem {α β γ : Type} {f : α → Sem β} {Q : γ → β → Prop} (w : World) : ∀ (l : List α) (xs : List γ), l.length = xs.length → (∀ (i : Nat) (a : α) (x : γ), l[i]? = some a → xs[i]? = some x → ∃ y, (f a).run P w = .ok y w ∧ Q x y) →
    ∃ ys : List β, (l.mapM f).run P w = .ok ys w ∧ ys.length = xs.length ∧ ∀ (i : Nat) (x : γ) (y : β), xs[i]? = some x → ys[i]? = some y → Q x y := by
  intro l
  induction l with
  | nil => intro xs hxl _; have : xs = [] := List.length_eq_zero_iff.1 hxl.symm; subst this; exact ⟨[], by simp, rfl, by simp⟩
  | cons a l ih =>
    intro xs hxl h
    cases xs with
    | nil => simp at hxl
    | cons x xs =>
      obtain ⟨y, h1, h2⟩ := h 0 a x rfl rfl
      obtain ⟨ys, h3, h4, h5⟩ := ih xs (by simpa using hxl) fun i a x k1 k2 => h (i + 1) a x (by simpa using k1) (by simpa using k2)
      refine ⟨y :: ys, ?_, by simp [h4], fun i a b ha hb => ?_⟩
      · rw [List.mapM_cons, Sem.run_bind, h1]
        simp only [Result.andThen_ok, Sem.run_bind, h3, Sem.run_pure]
      · match i, ha, hb with
        | 0, ha, hb => simp at ha hb; subst ha hb; exact h2
        | n + 1, ha, hb => exact h5 n a b (by simpa using ha) (by simpa using hb)
theorem results_ok {C : Ctx} {S : St} {a : Act} {w : World} {ι : Inj} {R : Nat → Prop} (h : Rel C S a w ι R) {fn : Func} {rs : List ARes} {v : AV} (hc : fn.results.toList.mapM (compRes P) = some rs) (hv : resA S rs = some v) :
    ∃ u, (results fn a.tmps).run P w = .ok u w ∧ VA w R ι (mark S.heap) v u := by
  obtain ⟨hl, hg⟩ := mapM_get hc
  have one : ∀ (rv : ResultVar) (r : ARes) (x : AV), compRes P rv = some r → r.ev S = some x → ∃ u, (resSem a.tmps rv).run P w = .ok u w ∧ VA w R ι (mark S.heap) x u := by
    intro rv r x h4 h3
    cases rv with
    | tmp t =>
      simp only [compRes] at h4
      split at h4
      · rename_i hlt
        cases h4
        exact ⟨a.eval (.tmp t), by simp [resSem, Act.eval], h.tmp hlt h3⟩
      · cases h4
    | cell p t =>
      simp only [compRes] at h4
      split at h4
      · rename_i ag n hag hn
        split at h4
        · cases h4
        · rename_i h0
          cases h4
          obtain ⟨pa, hpa, hld⟩ := Option.bind_eq_some_iff.1 h3
          obtain ⟨b, off, u, k1, k2, k3⟩ := ld_ok h hag hn (fun e => h0 (.inl e)) (h.tmp (Nat.lt_of_not_le fun e => h0 (.inr e)) hpa) hld
          simp only [Act.eval] at k1
          exact ⟨u, by simp only [resSem, k1, Sem.run_bind, asAddr, Sem.run_pure, Result.andThen_ok, k2], k3⟩
      · cases h4
  have run : ∀ (us : List Value), (fn.results.toList.mapM (resSem a.tmps)).run P w = .ok us w → (results fn a.tmps).run P w = .ok (if h : us.toArray.size = 1 then us.toArray[0] else .tuple us.toArray) w := by
    intro us hu
    rw [results_eq, Array.mapM_eq_mapM_toList]
    simp [hu]
  by_cases h1 : rs.length = 1
  · match rs, h1, hv, hl, hg with
    | [r], _, hv, hl, hg =>
      simp only [resA] at hv
      match hfl : fn.results.toList, hl, hg with
      | [rv], hl, hg =>
        obtain ⟨u, k1, k2⟩ := one rv r v (hg 0 rv r rfl rfl) hv
        refine ⟨u, ?_, k2⟩
        have := run [u] (by rw [hfl]; simp [List.mapM_cons, k1])
        simpa using this
  · have hv' : (rs.mapM (ARes.ev S)).map AV.mkTup = some v := by
      match rs, h1, hv with
      | [], _, hv => exact hv
      | _ :: _ :: _, _, hv => exact hv
      | [r], h1, _ => exact absurd rfl h1
    obtain ⟨xs, hxs, rfl⟩ := Option.map_eq_some_iff.1 hv'
    obtain ⟨hl2, hg2⟩ := mapM_get hxs
    obtain ⟨us, k1, k2, k3⟩ := mapM_sem (P := P) (f := resSem a.tmps) (Q := fun x u => VA w R ι (mark S.heap) x u) w fn.results.toList xs (by omega) fun i rv x h2 h3 => by
      have hlt := (List.getElem?_eq_some_iff.1 h2).1
      have hr : rs[i]? = some (rs[i]'(by omega)) := List.getElem?_eq_getElem _
      exact one rv _ x (hg i rv _ h2 hr) (hg2 i _ x hr h3)
    refine ⟨.tuple us.toArray, ?_, VA.mkTup k2 k3⟩
    rw [run us k1, dif_neg (by simp; omega)]
def enter (args : List AV) : Env := args.zipIdx.map fun p => (p.2, p.1)
theorem enter_mem {args : List AV} {t : Nat} {x : AV} (h : (t, x) ∈ enter args) : args[t]? = some x := by
  unfold enter at h
  obtain ⟨⟨y, i⟩, hm, he⟩ := List.mem_map.1 h
  cases he
  exact (List.mem_zipIdx_iff_getElem?.1 hm)
def frs (ns : List Nat) : List Nat := ns.filter fun o => decide (o < 1000000)
def outName (ns : List Nat) (o : Nat) : Nat := if 1000000 ≤ o then o else pos o (frs ns)
def outNames (H : Heap) (os : Heap) (v : AV) : List Nat := reach H (reach H (addNew (os.map (·.1)) v.objs))
def okOut (H os : Heap) (ns : List Nat) : Bool :=
  (ns.all fun o => (match look o H with | some (.row es) => (AV.objsL es).all ns.contains | some (.acc _) => decide (o < 1000000) | some (.frz m) => m.isNone && decide (1000000 ≤ o) | _ => false) && (decide (o < 1000000) || decide (o < 1000000 + os.length))) && decide ((frs ns).length ≤ 4)
def okGhost (E : Env) (os : Heap) : Bool := os.all fun p => match look p.1 E with | some (.ref o 1 0) => o == p.1 | _ => false
def outH (H : Heap) (ns : List Nat) : Heap := ns.map fun o => (outName ns o, ((look o H).getD (.acc 0)).ren (outName ns))
def finishN (os : Heap) (S : St) (v : AV) (ns : List Nat) : Option (AV × Heap) :=
  if (okOut S.heap os ns && okGhost S.env os) = true then some (v.ren (outName ns), outH S.heap ns) else none
def sealV (os : Heap) (S : St) (v : AV) (d : D) : Option (AV × Heap) := if disjL v.objs (outNames S.heap os (.d d)) = true then finishN os S (.d d) (outNames S.heap os (.d d)) else none
def finishV (sl : Bool) (os : Heap) (S : St) (v : AV) : Option (AV × Heap) := if sl = true then (toD S.heap v).bind (sealV os S v) else finishN os S v (outNames S.heap os v)
def finish (sl : Bool) (rs : List ARes) (os : Heap) (p : AExit × St) : Option (AV × Heap) :=
  match p.1 with
  | .exit _ => none
  | .normal => (resA p.2 rs).bind (finishV sl os p.2)
  | .ret => (resA p.2 rs).bind (finishV sl os p.2)
def ghostE (os : Heap) : Env := os.map fun p => (p.1, .ref p.1 1 0)
inductive AFn where
  | code (c : ACode) (rs : List ARes) (nt : Nat) (sl : Bool)
  | nils (c : ACode) (rs : List ARes) (nt : Nat)
  | ext (g : List AV → Heap → Option (AV × Heap))
def codeF (F : Sem1) (n : Nat) (args : List AV) (os : Heap) (c : ACode) (rs : List ARes) (nt : Nat) (sl : Bool) : Option (AV × Heap) :=
  if args.length ≤ nt then (exec F n c ⟨enter args ++ ghostE os, os⟩).bind (finish sl rs os) else none
def isNew0 : Option (AV × Heap) → Bool
  | some (.acc 0 [], [(0, .acc 0)]) => true
  | _ => false
def isEmp : List AV → Bool
  | [.d (.sl [])] => true
  | _ => false
def nilsF (F : Sem1) (n : Nat) (args : List AV) (os : Heap) (c : ACode) (rs : List ARes) (nt : Nat) : Option (AV × Heap) :=
  if isEmp args && os.isEmpty then
    if isNew0 (codeF F n [.nl true] [] c rs nt false) && isNew0 (codeF F n [.nl false] [] c rs nt false) then some (.acc 0 [], [(0, .acc 0)]) else none
  else codeF F n args os c rs nt false
def fnF (F : Sem1) (n : Nat) (args : List AV) (os : Heap) : AFn → Option (AV × Heap)
  | .code c rs nt sl => codeF F n args os c rs nt sl
  | .nils c rs nt => nilsF F n args os c rs nt
  | .ext g => g args os
def callF (G : FuncId → Option AFn) : Nat → Sem1
  | 0 => fun _ _ _ => none
  | n + 1 => fun f args os => (G f).bind (fnF (callF G n) n args os)
def FnOK (P : Program) (f : FuncId) : AFn → Prop
  | .code c rs nt _ => callable P f = true ∧ ∃ fn hs, P.funcs[f]? = some fn ∧ fn.body.bind (comp P hs) = some c ∧ fn.body.map (slotsOk fn.ntmps) = some true ∧ fn.results.toList.mapM (compRes P) = some rs ∧ fn.ntmps = nt ∧ nt ≤ 1000000
  | .nils c rs nt => callable P f = true ∧ ∃ fn hs, P.funcs[f]? = some fn ∧ fn.body.bind (comp P hs) = some c ∧ fn.body.map (slotsOk fn.ntmps) = some true ∧ fn.results.toList.mapM (compRes P) = some rs ∧ fn.ntmps = nt ∧ nt ≤ 1000000
  | .ext g => ∀ args os r os', g args os = some (r, os') → (∀ p ∈ os, ∃ es, p.2 = .row es) → (∀ i p, os[i]? = some p → p.1 = 1000000 + i) → callable P f = true ∧ GF P f args os r os' ∧ WF os.length r os'
def opObj : AOper → List (Nat × List Bool)
  | ⟨some d, .call _ (m :: ms) _, _⟩ => [(d, m :: ms)]
  | ⟨some d, .callv _ (m :: ms) _, _⟩ => [(d, m :: ms)]
  | _ => []
def opAcc : AOper → List Nat
  | ⟨some d, .nacc, _⟩ => [d]
  | _ => []
def Hints.add (x y : Hints) : Hints := ⟨x.kill ++ y.kill, x.ghost ++ y.ghost, x.obj ++ y.obj, x.acc ++ y.acc, x.loop ++ y.loop, x.exit ++ y.exit, if x.ret.isEmpty then y.ret else x.ret⟩
def hof : Code → ACode → Hints
  | .region id _ _, .ops gs l ks => { kill := [(id, ks)], ghost := [(id, gs)], obj := l.flatMap opObj, acc := l.flatMap opAcc }
  | .region id _ _, .draw gs l _ ks => { kill := [(id, ks)], ghost := [(id, gs)], obj := l.flatMap opObj, acc := l.flatMap opAcc }
  | .seq a b, .seq x y => (hof a x).add (hof b y)
  | .cond _ a b, .cond _ x y => (hof a x).add (hof b y)
  | .block _ a, .block _ x => hof a x
  | .loop a, .loop ks x => ({ loop := [(firstId a, ks)] } : Hints).add (hof a x)
  | .exit id, .exit _ ks => { exit := [(id, ks)] }
  | .ret, .ret ks => { ret := ks }
  | _, _ => {}
def hofB (fn : Func) (c : ACode) : Hints := match fn.body with | some b => hof b c | none => {}
theorem pos_frs {ns : List Nat} {o o' : Nat} (h : o ∈ frs ns) (h' : o' ∈ frs ns) (e : pos o (frs ns) = pos o' (frs ns)) : o = o' := by
  have h1 := pos_spec h
  have h2 := pos_spec h'
  rw [e, h2] at h1
  exact (Option.some.inj h1).symm
theorem outName_inj {ns : List Nat} {o o' : Nat} (h : o ∈ ns) (h' : o' ∈ ns) (hl : (frs ns).length ≤ 4) (e : outName ns o = outName ns o') : o = o' := by
  have mem : ∀ {o : Nat}, o ∈ ns → ¬ 1000000 ≤ o → o ∈ frs ns := fun h h1 => List.mem_filter.2 ⟨h, by simp; omega⟩
  unfold outName at e
  split at e <;> split at e
  · exact e
  · rename_i h1 h2; have := pos_lt (mem h' h2); omega
  · rename_i h1 h2; have := pos_lt (mem h h1); omega
  · rename_i h1 h2; exact pos_frs (mem h h1) (mem h' h2) e
theorem look_outH {H : Heap} {ns : List Nat} (hl : (frs ns).length ≤ 4) {o : Nat} (h : o ∈ ns) : look (outName ns o) (outH H ns) = some (((look o H).getD (.acc 0)).ren (outName ns)) := by
  have key : ∀ (l : List Nat), (∀ x ∈ l, x ∈ ns) → o ∈ l → look (outName ns o) (l.map fun o => (outName ns o, ((look o H).getD (.acc 0)).ren (outName ns))) = some (((look o H).getD (.acc 0)).ren (outName ns)) := by
    intro l
    induction l with
    | nil => intro _ h; cases h
    | cons x l ih =>
      intro hs ho
      simp only [List.map_cons, look]
      by_cases e : outName ns x = outName ns o
      · have hx : x = o := outName_inj (hs x (.head _)) h hl e
        subst hx; simp
      · rw [if_neg e]
        refine ih (fun y hy => hs y (.tail _ hy)) ?_
        cases ho with
        | head => exact absurd rfl e
        | tail _ ho => exact ho
  exact key ns (fun _ h => h) h
theorem mem_outH {H : Heap} {ns : List Nat} {n : Nat} {ob : Obj} (h : (n, ob) ∈ outH H ns) : ∃ o ∈ ns, n = outName ns o ∧ ob = ((look o H).getD (.acc 0)).ren (outName ns) := by
  simp only [outH, List.mem_map] at h
  obtain ⟨o, ho, he⟩ := h
  cases he
  exact ⟨o, ho, rfl, rfl⟩
theorem finish_some {sl : Bool} {rs : List ARes} {os : Heap} {e : AExit} {S : St} {r : AV} {os' : Heap} (h : finish sl rs os (e, S) = some (r, os')) : ∃ v0 v ns, (∀ i, e ≠ .exit i) ∧ resA S rs = some v0 ∧ ((v = v0) ∨ (∃ d, v = .d d ∧ toD S.heap v0 = some d ∧ disjL v0.objs ns = true)) ∧
    ns = outNames S.heap os v ∧ okOut S.heap os ns = true ∧ okGhost S.env os = true ∧ r = v.ren (outName ns) ∧ os' = outH S.heap ns := by
  have fin : ∀ {v : AV}, finishN os S v (outNames S.heap os v) = some (r, os') → okOut S.heap os (outNames S.heap os v) = true ∧ okGhost S.env os = true ∧ r = v.ren (outName (outNames S.heap os v)) ∧ os' = outH S.heap (outNames S.heap os v) := fun h2 => by
    unfold finishN at h2
    split at h2
    · rename_i hc
      simp only [Bool.and_eq_true] at hc
      cases h2
      exact ⟨hc.1, hc.2, rfl, rfl⟩
    · cases h2
  have key : (resA S rs).bind (finishV sl os S) = some (r, os') → ∃ v0 v ns, resA S rs = some v0 ∧ ((v = v0) ∨ (∃ d, v = .d d ∧ toD S.heap v0 = some d ∧ disjL v0.objs ns = true)) ∧ ns = outNames S.heap os v ∧ okOut S.heap os ns = true ∧ okGhost S.env os = true ∧ r = v.ren (outName ns) ∧ os' = outH S.heap ns := fun h => by
    obtain ⟨v, h1, h2⟩ := Option.bind_eq_some_iff.1 h
    unfold finishV at h2
    split at h2
    · obtain ⟨d, h3, h4⟩ := Option.bind_eq_some_iff.1 h2
      unfold sealV at h4
      split at h4
      · rename_i hd
        exact ⟨v, .d d, _, h1, .inr ⟨d, rfl, h3, hd⟩, rfl, fin h4⟩
      · cases h4
    · exact ⟨v, v, _, h1, .inl rfl, rfl, fin h2⟩
  cases e with
  | exit i => cases h
  | normal => obtain ⟨v0, v, ns, h⟩ := key h; exact ⟨v0, v, ns, nofun, h⟩
  | ret => obtain ⟨v0, v, ns, h⟩ := key h; exact ⟨v0, v, ns, nofun, h⟩
theorem fn_ok {F : Sem1} (hF : FOK P F) {n : Nat} {f : FuncId} {c : ACode} {rs : List ARes} {nt : Nat} {sl : Bool} (hfn : FnOK P f (.code c rs nt sl)) {args : List AV} {os : Heap} {r : AV} {os' : Heap}
    (h : fnF F n args os (.code c rs nt sl) = some (r, os')) (hrow : ∀ p ∈ os, ∃ es, p.2 = .row es) (hnm : ∀ i p, os[i]? = some p → p.1 = 1000000 + i) : GF P f args os r os' ∧ WF os.length r os' := by
  obtain ⟨_, fn, hs, hf, hc, hsl, hrs, hnt, hle⟩ := hfn
  obtain ⟨body, hb, hc⟩ := Option.bind_eq_some_iff.1 hc
  rw [hb] at hsl
  have hsl : slotsOk fn.ntmps body = true := by simpa using hsl
  simp only [fnF, codeF] at h
  split at h
  rotate_left
  · cases h
  rename_i hlen
  obtain ⟨⟨e, S'⟩, hex, hfin⟩ := Option.bind_eq_some_iff.1 h
  obtain ⟨v0, v, ns, hne, hres, hvv, hns, hout, hgh, rfl, rfl⟩ := finish_some hfin
  simp only [okOut, Bool.and_eq_true, decide_eq_true_eq] at hout
  obtain ⟨hall, hl4⟩ := hout
  have hobj : ∀ o ∈ ns, (∃ es, look o S'.heap = some (.row es) ∧ ∀ q ∈ AV.objsL es, q ∈ ns) ∨ (∃ m, look o S'.heap = some (.acc m) ∧ o < 1000000) ∨ (look o S'.heap = some (.frz none) ∧ 1000000 ≤ o) := fun o ho => by
    have := List.all_eq_true.1 hall o ho
    simp only [Bool.and_eq_true] at this
    have h1 := this.1
    split at h1
    · rename_i es hes; exact .inl ⟨es, hes, fun q hq => by simpa using List.all_eq_true.1 h1 q hq⟩
    · rename_i m hm; exact .inr (.inl ⟨m, hm, by simpa using h1⟩)
    · rename_i m hm
      simp only [Bool.and_eq_true, Option.isNone_iff_eq_none, decide_eq_true_eq] at h1
      exact .inr (.inr ⟨by rw [hm, h1.1], h1.2⟩)
    · cases h1
  have hrange : ∀ o ∈ ns, o < 1000000 ∨ o < 1000000 + os.length := fun o ho => by
    have := List.all_eq_true.1 hall o ho
    simp only [Bool.and_eq_true, Bool.or_eq_true, decide_eq_true_eq] at this
    exact this.2
  have hvns : ∀ q, v.refs q = true → q ∈ ns := fun q hq => by
    rw [hns]; exact addNew_sub _ _ (addNew_sub _ _ (addNew_mem _ _ (refs_objs v q hq)))
  have hosns : ∀ p ∈ os, p.1 ∈ ns := fun p hp => by
    rw [hns]; exact addNew_sub _ _ (addNew_sub _ _ (addNew_sub _ _ (List.mem_map_of_mem hp)))
  have hname : ∀ {o}, (look o os).isSome = true → 1000000 ≤ o ∧ o < 1000000 + os.length ∧ o ∈ ns := fun {o} ho => by
    obtain ⟨ob, hob⟩ := Option.isSome_iff_exists.1 ho
    obtain ⟨i, hi⟩ := List.getElem?_of_mem (look_mem hob)
    have := hnm i _ hi
    simp only at this
    have hlt := (List.getElem?_eq_some_iff.1 hi).1
    exact ⟨by omega, by omega, hosns _ (look_mem hob)⟩
  have hcl : ∀ o ob, o ∈ ns → look o S'.heap = some ob → ∀ q, ob.refs q = true → q ∈ ns := fun o ob ho hob q hq => by
    rcases hobj o ho with ⟨es, h1, h2⟩ | ⟨m, h1, _⟩ | ⟨h1, _⟩
    · rw [hob] at h1; cases h1; exact h2 q (refsL_objs es q hq)
    · rw [hob] at h1; cases h1; cases hq
    · rw [hob] at h1; cases h1; cases hq
  have hid : ∀ {o}, 1000000 ≤ o → outName ns o = o := fun h => by simp [outName, h]
  have hlookn : ∀ o ∈ ns, ∃ ob, look o S'.heap = some ob ∧ look (outName ns o) (outH S'.heap ns) = some (ob.ren (outName ns)) := fun o ho => by
    rcases hobj o ho with ⟨es, h1, _⟩ | ⟨m, h1, _⟩ | ⟨h1, _⟩
    · exact ⟨_, h1, by rw [look_outH hl4 ho, h1]; rfl⟩
    · exact ⟨_, h1, by rw [look_outH hl4 ho, h1]; rfl⟩
    · exact ⟨_, h1, by rw [look_outH hl4 ho, h1]; rfl⟩
  have hmemo : ∀ n ob, (n, ob) ∈ outH S'.heap ns → ∃ o ∈ ns, n = outName ns o ∧ ∃ ob0, look o S'.heap = some ob0 ∧ ob = ob0.ren (outName ns) := fun n ob hm => by
    obtain ⟨o, ho, h1, h2⟩ := mem_outH hm
    obtain ⟨ob0, h3, _⟩ := hlookn o ho
    exact ⟨o, ho, h1, ob0, h3, by rw [h2, h3]; rfl⟩
  have hisn : ∀ n, (look n (outH S'.heap ns)).isSome = true → ∃ o ∈ ns, n = outName ns o := fun n hn => by
    obtain ⟨ob, hob⟩ := Option.isSome_iff_exists.1 hn
    obtain ⟨o, ho, h1, _⟩ := hmemo n ob (look_mem hob)
    exact ⟨o, ho, h1⟩
  have hisS : ∀ o ∈ ns, (look (outName ns o) (outH S'.heap ns)).isSome = true := fun o ho => by
    obtain ⟨ob, _, h2⟩ := hlookn o ho; simp [h2]
  refine ⟨?_, ?_⟩
  rotate_left
  · refine ⟨fun m hm => ?_, fun i hi => ?_, fun q hq => ?_, fun m ob hm q hq => ?_⟩
    · obtain ⟨o, ho, rfl⟩ := hisn m hm
      unfold outName
      split
      · rename_i h1
        rcases hrange o ho with h2 | h2
        · omega
        · exact .inr ⟨h1, h2⟩
      · rename_i h1
        have := pos_lt (show o ∈ frs ns from List.mem_filter.2 ⟨ho, by simp; omega⟩)
        exact .inl (by omega)
    · have hi' : os[i]? = some os[i] := List.getElem?_eq_getElem hi
      have h1 := hnm i _ hi'
      have h2 := hosns _ (List.mem_of_getElem? hi')
      rw [h1] at h2
      rcases hobj _ h2 with ⟨es, h3, _⟩ | ⟨m, _, h3⟩ | ⟨h3, _⟩
      · have := look_outH (H := S'.heap) hl4 h2
        rw [hid (by omega), h3] at this
        exact .inl ⟨_, this⟩
      · omega
      · have := look_outH (H := S'.heap) hl4 h2
        rw [hid (by omega), h3] at this
        exact .inr this
    · obtain ⟨q0, h1, rfl⟩ := renAV_refs hq
      exact hisS q0 (hvns q0 h1)
    · obtain ⟨o, ho, _, ob0, h2, rfl⟩ := hmemo m ob hm
      cases ob0 with
      | acc k => simp [Obj.ren, Obj.refs] at hq
      | frz k => simp [Obj.ren, Obj.refs] at hq
      | mp k => simp [Obj.ren, Obj.refs] at hq
      | row es =>
        simp only [Obj.ren, Obj.refs] at hq
        obtain ⟨q0, h3, rfl⟩ := renL_refs hq
        exact hisS q0 (hcl o _ ho h2 q0 h3)
  intro w R ι us hR hι hinj hob hl
  obtain ⟨hl, hg⟩ := hl
  have hmark : ∀ o, (look o os).isSome = true → mark os o = none := fun o ho => by
    obtain ⟨ob, hob'⟩ := Option.isSome_iff_exists.1 ho
    obtain ⟨es, he⟩ := hrow _ (look_mem hob')
    simp only at he; subst he
    simp [mark, hob']
  let C : Ctx := { w0 := w, keep := fun b => b < w.heap.size ∧ ∀ o s, ι o ≠ some (b, s), R0 := R, n := fn.ntmps, gh := os.map fun p => (match ι p.1 with | some (b, s) => Value.pointer (some ⟨b, 1 * s + 0, none⟩) | none => undef), le := by omega }
  have hrel : Rel C ⟨enter args ++ ghostE os, os⟩ { tmps := us.toArray ++ Array.replicate (fn.ntmps - us.toArray.size) undef, defers := [] } w ι R := by
    refine ⟨rfl, by simp [C]; omega, rfl, rfl, rfl, Nat.le_refl _, fun _ _ => Blk.of_eq rfl, fun _ _ => rfl, fun _ h => h.1, hR, fun b hb => .inl hb, fun _ h => h, fun o b s h => ⟨fun hk => hk.2 o s h, (hι o b s h).1⟩, hinj, ?_, hob⟩
    intro t y hy
    rcases List.mem_append.1 hy with hy | hy
    · have ht := enter_mem hy
      have hlt := (List.getElem?_eq_some_iff.1 ht).1
      have hu : us[t]? = some (us[t]'(by omega)) := List.getElem?_eq_getElem _
      refine ⟨us[t]'(by omega), ?_, hg t y _ ht hu⟩
      simp only [slotV]
      rw [if_pos (by omega), Array.getElem?_append_left (by simp; omega)]
      simp only [List.getElem?_toArray]; exact hu
    · obtain ⟨p, hm, he⟩ := List.mem_map.1 hy
      cases he
      obtain ⟨i, hi⟩ := List.getElem?_of_mem hm
      have hn1 := hnm i p hi
      obtain ⟨es, hes⟩ := hrow p hm
      have ho := hob p.1 p.2 hm
      rw [hes] at ho
      cases ho with
      | @row _ b s c' T h1 h2 h3 h4 h5 h6 h7 =>
        refine ⟨.pointer (some ⟨b, 1 * s + 0, none⟩), ?_, .ref h1 (hmark _ (hι _ _ _ h1).2.2)⟩
        simp only [slotV]
        rw [if_neg (by omega), hn1, Nat.add_sub_cancel_left]
        simp only [C, List.getElem?_map, hi, Option.map_some, h1]
  refine calls_of_wp hf hb (wp_mono (exec_ok (C := C) hF body hc hsl hex hrel) ?_)
  rintro ex a' w' ⟨rfl, ι', R', hr'⟩
  -- the ghosts tell that the objects lie where they lay
  have hkeep : ∀ o b s, ι o = some (b, s) → ι' o = some (b, s) := fun o b s ho => by
    obtain ⟨ob, hob'⟩ := Option.isSome_iff_exists.1 (hι o b s ho).2.2
    obtain ⟨i, hi⟩ := List.getElem?_of_mem (look_mem hob')
    have hn1 := hnm i _ hi
    simp only at hn1
    have := List.all_eq_true.1 hgh _ (look_mem hob')
    split at this
    · rename_i o2 hlk
      simp only [beq_iff_eq] at this
      subst this
      obtain ⟨u, k1, k2⟩ := hr'.env _ _ (look_mem hlk)
      simp only [slotV] at k1
      rw [if_neg (by omega)] at k1
      have hidx : o2 - 1000000 = i := by omega
      rw [hidx] at k1
      simp only [C, List.getElem?_map, hi, Option.map_some, ho, Option.some.injEq] at k1
      subst k1
      generalize hv : Value.pointer (some ⟨b, 1 * s + 0, none⟩) = pv at k2
      cases k2 with
      | ref h1 h2 =>
        simp only [Value.pointer.injEq, Option.some.injEq, Addr.mk.injEq] at hv
        obtain ⟨rfl, hv, _⟩ := hv
        rw [h1]; simp at hv; rw [hv]
    · cases this
  obtain ⟨u, k1, k2⟩ := results_ok hr' hrs hres
  have hseal : ∃ R2 : Nat → Prop, (∀ b, R' b → R2 b) ∧ (∀ b, R2 b → R' b ∨ ∃ o s, o ∉ ns ∧ ι' o = some (b, s)) ∧ VA w' R2 ι' (mark S'.heap) v u := by
    rcases hvv with rfl | ⟨d, rfl, hd, hdis⟩
    · exact ⟨R', fun _ h => h, fun _ h => .inl h, k2⟩
    · refine ⟨Sealed R' ι' v0.objs, fun _ h => .inl h, fun b hb => ?_, .d (toD_ok hr' k2 hd fun _ h => h)⟩
      rcases hb with hb | ⟨o, s, ho, hb⟩
      · exact .inl hb
      · refine .inr ⟨o, s, ?_, hb⟩
        have := List.all_eq_true.1 hdis o ho
        simpa using this
  obtain ⟨R2, hR2, hR2i, k2⟩ := hseal
  have hnR : ∀ o b s, ι o = some (b, s) → R' b → look o (outH S'.heap ns) = some (.frz none) := fun o b s ho hb => by
    obtain ⟨h1, _, h2⟩ := hname (hι o b s ho).2.2
    rcases hobj o h2 with ⟨es, h3, _⟩ | ⟨m, _, h3⟩ | ⟨h3, _⟩
    · cases hr'.heap _ _ (look_mem h3) with
      | row h4 h5 => rw [hkeep o b s ho] at h4; cases h4; exact absurd hb h5
    · omega
    · have := look_outH (H := S'.heap) hl4 h2
      rw [hid (by omega), h3] at this
      exact this
  have hold : ∀ b, ¬ C.keep b → (∃ o s, ι o = some (b, s)) ∨ w.heap.size ≤ b := fun b hb => by
    by_cases hlt : b < w.heap.size
    · refine .inl (Classical.byContradiction fun hne => hb ⟨hlt, fun o s ho => hne ⟨o, s, ho⟩⟩)
    · exact .inr (Nat.le_of_not_lt hlt)
  -- the names outside
  have hback : ∃ back : Nat → Nat, ∀ o ∈ ns, back (outName ns o) = o := by
    have hpt : ∀ m, ∃ o, ∀ o' ∈ ns, outName ns o' = m → o' = o := fun m => by
      by_cases h : ∃ o ∈ ns, outName ns o = m
      · obtain ⟨o, ho, h1⟩ := h
        exact ⟨o, fun o' ho' h2 => outName_inj ho' ho hl4 (h2.trans h1.symm)⟩
      · exact ⟨0, fun o' ho' h2 => absurd ⟨o', ho', h2⟩ h⟩
    obtain ⟨g, hg⟩ := Classical.axiomOfChoice hpt
    exact ⟨g, fun o ho => (hg _ o ho rfl).symm⟩
  obtain ⟨back, hback⟩ := hback
  let ι2 : Inj := fun m => if (look m (outH S'.heap ns)).isSome = true then ι' (back m) else none
  have hι2 : ∀ o ∈ ns, ι2 (outName ns o) = ι' o := fun o ho => by simp only [ι2]; rw [if_pos (hisS o ho), hback o ho]
  have hι2i : ∀ m b s, ι2 m = some (b, s) → ∃ o ∈ ns, m = outName ns o ∧ ι' o = some (b, s) := fun m b s hm => by
    simp only [ι2] at hm
    split at hm
    · rename_i h1
      obtain ⟨o, ho, rfl⟩ := hisn m h1
      rw [hback o ho] at hm
      exact ⟨o, ho, rfl, hm⟩
    · cases hm
  have hmk2 : ∀ o ∈ ns, mark (outH S'.heap ns) (outName ns o) = mark S'.heap o := fun o ho => by
    obtain ⟨ob, h1, h2⟩ := hlookn o ho
    unfold mark
    rw [h1, h2]
    cases ob <;> rfl
  have fin : a'.defers = [] ∧ ∃ v', (results fn a'.tmps).run P w' = .ok v' w' ∧ ∃ (u : Value) (ι' : Inj) (R' : Nat → Prop), Ending.returned v' = .returned u ∧ w'.os = w.os ∧ w'.tape = w.tape ∧ w'.output = w.output ∧ w.heap.size ≤ w'.heap.size ∧
      (∀ b, b < w.heap.size → Blk w w' b 0) ∧ (∀ b, b < w.heap.size → (∀ o s, ι o ≠ some (b, s)) → w'.heap[b]? = w.heap[b]?) ∧ (∀ b, R b → R' b) ∧ (∀ b, R' b → b < w'.heap.size ∧ (R b ∨ w.heap.size ≤ b ∨ ∃ o s, ι o = some (b, s) ∧ look o (outH S'.heap ns) = some (.frz none))) ∧
      (∀ o b s, ι o = some (b, s) → ι' o = some (b, s)) ∧ (∀ o b s, ι' o = some (b, s) → b < w'.heap.size ∧ (ι o = some (b, s) ∨ w.heap.size ≤ b)) ∧ (∀ o o' b s s', ι' o = some (b, s) → ι' o' = some (b, s') → o = o') ∧
      (∀ o ob, (o, ob) ∈ outH S'.heap ns → OB w' R' ι' (mark (outH S'.heap ns)) o ob) ∧ VA w' R' ι' (mark (outH S'.heap ns)) (v.ren (outName ns)) u := by
    refine ⟨hr'.defers, u, k1, u, ι2, R2, rfl, hr'.os, hr'.tape, hr'.output, hr'.grow, hr'.len, fun b hb hno => hr'.keep b ⟨hb, hno⟩, fun b hb => hR2 b (hr'.r0 b hb), fun b hb => ?_, fun o b s ho => ?_, fun m b s hm => ?_, fun m m' b s s' h1 h2 => ?_, fun m ob hm => ?_, ?_⟩
    · rcases hR2i b hb with hb | ⟨o, s, hno, hb⟩
      · refine ⟨hr'.rlt b hb, ?_⟩
        rcases hr'.rok b hb with h1 | h1
        · exact .inl h1
        · rcases hold b h1 with ⟨o, s, ho⟩ | h2
          · exact .inr (.inr ⟨o, s, ho, hnR o b s ho hb⟩)
          · exact .inr (.inl h2)
      · have hown := hr'.own o b s hb
        refine ⟨hown.2, ?_⟩
        rcases hold b hown.1 with ⟨o2, s2, ho2⟩ | h2
        · have := hr'.inj _ _ _ _ _ hb (hkeep o2 b s2 ho2)
          subst this
          exact absurd (hname (hι _ _ _ ho2).2.2).2.2 hno
        · exact .inr (.inl h2)
    · obtain ⟨h1, _, h2⟩ := hname (hι o b s ho).2.2
      have := hι2 o h2
      rw [hid h1] at this
      rw [this]; exact hkeep o b s ho
    · obtain ⟨o, ho, rfl, h1⟩ := hι2i m b s hm
      refine ⟨(hr'.own o b s h1).2, ?_⟩
      rcases hold b (hr'.own o b s h1).1 with ⟨o0, s0, h0⟩ | h2
      · have h3 := hkeep o0 b s0 h0
        have := hr'.inj _ _ _ _ _ h1 h3
        subst this
        rw [h1] at h3; cases h3
        have hge := (hname (hι _ _ _ h0).2.2).1
        rw [hid hge]
        exact .inl h0
      · exact .inr h2
    · obtain ⟨o, ho, rfl, h3⟩ := hι2i m b s h1
      obtain ⟨o', ho', rfl, h4⟩ := hι2i m' b s' h2
      rw [hr'.inj _ _ _ _ _ h3 h4]
    · obtain ⟨o, ho, rfl, ob0, h2, rfl⟩ := hmemo m ob hm
      have hob2 : OB w' R2 ι' (mark S'.heap) o ob0 := by
        have hnR2 : ∀ b s, ι' o = some (b, s) → ¬ R' b → ¬ R2 b := fun b s ho' hn hb => by
          rcases hR2i b hb with hb | ⟨o2, s2, hno, hb⟩
          · exact hn hb
          · have := hr'.inj _ _ _ _ _ ho' hb
            subst this
            exact hno ho
        cases hr'.heap o ob0 (look_mem h2) with
        | row k1 k2 k3 k4 k5 k6 k7 => exact .row k1 (hnR2 _ _ k1 k2) k3 k4 k5 k6 fun i e he j x hx => let ⟨j1, q, j2, j3⟩ := k7 i e he j x hx; ⟨j1, q, j2, j3.toR (.inl hR2)⟩
        | acc k1 k2 k3 k4 k5 k6 => exact .acc k1 k2 (hnR2 _ _ k2 k3) k4 k5 k6
        | accN k1 => exact .accN k1
        | frz k1 => exact .frz fun b s hb => ⟨hR2 _ (k1 b s hb).1, (k1 b s hb).2⟩
        | mp k1 k2 k3 k4 k5 k6 => exact .mp k1 (hnR2 _ _ k1 k2) k3 k4 k5 fun i k x hi => let ⟨e, j1, j2, j3⟩ := k6 i k x hi; ⟨e, j1, j2, j3.mono_v hR2 fun _ _ => rfl⟩
      exact hob2.ren (hι2 o ho) fun q hq => by
        have hq' := hcl o ob0 ho h2 q hq
        exact ⟨fun p hp => by rw [hι2 q hq']; exact hp, hmk2 q hq'⟩
    · exact k2.ren fun q hq => by
        have hq' := hvns q hq
        exact ⟨fun p hp => by rw [hι2 q hq']; exact hp, hmk2 q hq'⟩
  cases e with
  | normal => exact fin
  | ret => exact fin
  | exit i => exact absurd rfl (hne i)
def GOK (P : Program) (G : FuncId → Option AFn) : Prop := ∀ f fn, G f = some fn → FnOK P f fn
theorem callF_ok {G : FuncId → Option AFn} (hG : GOK P G) : ∀ n, FOK P (callF G n) := by
  intro n
  induction n with
  | zero => intro f args os r os' h; cases h
  | succ n ih =>
    intro f args os r os' h0 h1 h2
    obtain ⟨fn, hf, h⟩ := Option.bind_eq_some_iff.1 h0
    clear h0
    have hok := hG f fn hf
    cases fn with
    | code c rs nt sl => exact ⟨hok.1, fn_ok ih hok h h1 h2⟩
    | nils c rs nt =>
      refine ⟨hok.1, ?_⟩
      simp only [fnF, nilsF] at h
      split at h
      · rename_i he
        simp only [Bool.and_eq_true, List.isEmpty_iff] at he
        obtain ⟨he, rfl⟩ := he
        have hargs : args = [.d (.sl [])] := by
          unfold isEmp at he
          split at he
          · rfl
          · cases he
        split at h
        · rename_i hn
          subst hargs
          simp only [Bool.and_eq_true] at hn
          have h := Option.some.inj h
          cases h
          have new0 : ∀ {x : Option (AV × Heap)}, isNew0 x = true → x = some (.acc 0 [], [(0, .acc 0)]) := fun {x} hx => by
            unfold isNew0 at hx
            split at hx
            · rfl
            · cases hx
          obtain ⟨g1, w1⟩ := fn_ok (c := c) (rs := rs) (nt := nt) (sl := false) ih hok (new0 hn.1) (by simp) (by simp)
          obtain ⟨g2, _⟩ := fn_ok (c := c) (rs := rs) (nt := nt) (sl := false) ih hok (new0 hn.2) (by simp) (by simp)
          refine ⟨fun w R ι us hR hι hinj hob hv => ?_, w1⟩
          obtain ⟨hl, hg⟩ := hv
          match us, hl with
          | [u], _ =>
            have hu := hg 0 _ u rfl rfl
            cases hu with
            | d hu =>
              cases hu with
              | @sl0 a cap =>
                cases a with
                | none => exact g1 w R ι _ hR hι hinj hob ⟨rfl, fun i x u hx hu => by
                    match i, hx, hu with
                    | 0, hx, hu => simp at hx hu; subst hx hu; exact .nl1
                    | n + 1, hx, hu => simp at hx⟩
                | some a => exact g2 w R ι _ hR hι hinj hob ⟨rfl, fun i x u hx hu => by
                    match i, hx, hu with
                    | 0, hx, hu => simp at hx hu; subst hx hu; exact .nl2
                    | n + 1, hx, hu => simp at hx⟩
              | sl _ h0 => exact absurd rfl h0
        · cases h
      · exact fn_ok (c := c) (rs := rs) (nt := nt) (sl := false) ih hok h h1 h2
    | ext g => exact hok args os r os' h h1 h2
end Go.Sim

namespace Go.Sim
open Go (World Value Addr TypeId Act)
variable {P : Program}
open Classical in
noncomputable def lim {α : Type} (x : Nat → Option α) : Option α := if h : ∃ n, (x n).isSome = true then x (Classical.choose h) else none
def Mono {α : Type} (x : Nat → Option α) : Prop := ∀ n m a, n ≤ m → x n = some a → x m = some a
theorem Mono.of_succ {α : Type} {x : Nat → Option α} (h : ∀ n a, x n = some a → x (n + 1) = some a) : Mono x := by
  intro n m a hnm hx
  induction hnm with
  | refl => exact hx
  | step _ ih => exact h _ _ ih
theorem lim_iff {α : Type} {x : Nat → Option α} (h : Mono x) {a : α} : lim x = some a ↔ ∃ n, x n = some a := by
  unfold lim
  constructor
  · intro hl
    split at hl
    · exact ⟨_, hl⟩
    · cases hl
  · rintro ⟨n, hn⟩
    have hex : ∃ n, (x n).isSome = true := ⟨n, by rw [hn]; rfl⟩
    rw [dif_pos hex]
    have hs := Classical.choose_spec hex
    obtain ⟨b, hb⟩ := Option.isSome_iff_exists.1 hs
    have h1 := h _ (max n (Classical.choose hex)) a (Nat.le_max_left ..) hn
    have h2 := h _ (max n (Classical.choose hex)) b (Nat.le_max_right ..) hb
    rw [h1] at h2; cases h2
    exact hb
theorem opt_ext {α : Type} {x y : Option α} (h : ∀ a, x = some a ↔ y = some a) : x = y := by
  cases x with
  | some a => exact ((h a).1 rfl).symm
  | none =>
    cases y with
    | none => rfl
    | some a => exact absurd ((h a).2 rfl) (by simp)
theorem lim_const {α : Type} (x : Option α) : lim (fun _ => x) = x :=
  opt_ext fun a => (lim_iff (x := fun _ => x) (fun _ _ _ _ h => h)).trans ⟨fun ⟨_, h⟩ => h, fun h => ⟨0, h⟩⟩
theorem Mono.bind {α β : Type} {x : Nat → Option α} {g : Nat → α → Option β} (hx : Mono x) (hg : ∀ a, Mono fun n => g n a) : Mono fun n => (x n).bind (g n) := by
  intro n m b hnm h
  obtain ⟨a, h1, h2⟩ := Option.bind_eq_some_iff.1 h
  exact Option.bind_eq_some_iff.2 ⟨a, hx n m a hnm h1, hg a n m b hnm h2⟩
theorem lim_bind {α β : Type} {x : Nat → Option α} {g : Nat → α → Option β} (hx : Mono x) (hg : ∀ a, Mono fun n => g n a) : lim (fun n => (x n).bind (g n)) = (lim x).bind fun a => lim fun n => g n a := by
  refine opt_ext fun b => ?_
  rw [lim_iff (hx.bind hg)]
  constructor
  · rintro ⟨n, h⟩
    obtain ⟨a, h1, h2⟩ := Option.bind_eq_some_iff.1 h
    exact Option.bind_eq_some_iff.2 ⟨a, (lim_iff hx).2 ⟨n, h1⟩, (lim_iff (hg a)).2 ⟨n, h2⟩⟩
  · intro h
    obtain ⟨a, h1, h2⟩ := Option.bind_eq_some_iff.1 h
    obtain ⟨n, h3⟩ := (lim_iff hx).1 h1
    obtain ⟨m, h4⟩ := (lim_iff (hg a)).1 h2
    exact ⟨max n m, Option.bind_eq_some_iff.2 ⟨a, hx _ _ _ (Nat.le_max_left ..) h3, hg a _ _ _ (Nat.le_max_right ..) h4⟩⟩
theorem Mono.map {α β : Type} {x : Nat → Option α} {g : α → β} (hx : Mono x) : Mono fun n => (x n).map g := by
  intro n m b hnm h
  obtain ⟨a, h1, rfl⟩ := Option.map_eq_some_iff.1 h
  exact Option.map_eq_some_iff.2 ⟨a, hx n m a hnm h1, rfl⟩
theorem lim_map {α β : Type} {x : Nat → Option α} {g : α → β} (hx : Mono x) : lim (fun n => (x n).map g) = (lim x).map g := by
  refine opt_ext fun b => ?_
  rw [lim_iff hx.map]
  constructor
  · rintro ⟨n, h⟩
    obtain ⟨a, h1, rfl⟩ := Option.map_eq_some_iff.1 h
    exact Option.map_eq_some_iff.2 ⟨a, (lim_iff hx).2 ⟨n, h1⟩, rfl⟩
  · intro h
    obtain ⟨a, h1, rfl⟩ := Option.map_eq_some_iff.1 h
    obtain ⟨n, h2⟩ := (lim_iff hx).1 h1
    exact ⟨n, Option.map_eq_some_iff.2 ⟨a, h2, rfl⟩⟩
theorem Mono.const {α : Type} {x : Option α} : Mono fun _ => x := fun _ _ _ _ h => h
theorem Mono.ite {α : Type} {c : Prop} [Decidable c] {x y : Nat → Option α} (hx : Mono x) (hy : Mono y) : Mono fun n => if c then x n else y n := by
  by_cases h : c
  · simpa [h] using hx
  · simpa [h] using hy
variable (G : FuncId → Option AFn)
noncomputable def callL : Sem1 := fun f args os => lim fun n => callF G n f args os
noncomputable def exL (c : ACode) (S : St) : Option (AExit × St) := lim fun n => exec (callF G n) n c S
noncomputable def loopL (ks : List Nat) (c : ACode) (S : St) : Option (AExit × St) := lim fun n => loopN ks (exec (callF G n) n c) n S
variable {G}
section mono
variable {F F' : Nat → Sem1} (hF : ∀ f args os, Mono fun n => F n f args os)
include hF
theorem callB_mono {E : Env} {H : Heap} {dst : Nat} {ns dob : List Nat} {f : FuncId} {as : List AV} : (Mono fun n => callB (F n) E H dst ns dob f as) := by
  unfold callB
  exact Mono.ite ((hF f _ _).bind (fun _ => Mono.const)) Mono.const
theorem callA0_mono {E : Env} {H : Heap} {dst : Nat} {ms : List Bool} {f : FuncId} {args : List AV} : Mono fun n => callA0 (F n) E H dst ms f args :=
  Mono.bind Mono.const fun _ => callB_mono hF
theorem frzB_mono {E : Env} {H : Heap} {dst : Nat} {ms : List Bool} {f : FuncId} {dob : List Nat} {as : List AV} : Mono fun n => frzB (F n) E H dst ms f dob as := by
  unfold frzB
  exact Mono.ite (Mono.map (callA0_mono hF)) Mono.const
theorem callA_mono {E : Env} {H : Heap} {dst : Nat} {ms : List Bool} {f : FuncId} {args : List AV} : Mono fun n => callA (F n) E H dst ms f args := by
  unfold callA
  exact Mono.ite (Mono.bind Mono.const fun _ => frzB_mono hF) (callA0_mono hF)
theorem callvA_mono {E : Env} {H : Heap} {dst : Nat} {ms : List Bool} {f : AV} {args : List AV} : Mono fun n => callvA (F n) E H dst ms f args := by
  unfold callvA
  split
  · exact callA_mono hF
  · exact callA_mono hF
  · exact Mono.const
theorem step_mono {E : Env} {H : Heap} {dst : Nat} {op : AOp} : Mono fun n => step (F n) E H dst op := by
  cases op with
  | call f ms xs => exact (callA_mono hF).map
  | callv f ms xs => exact (callvA_mono hF).map
  | _ => exact Mono.const
theorem stepS_mono {x : AOper} {S : St} : Mono fun n => stepS (F n) x S := (step_mono hF).map
theorem execOps_mono : ∀ {l : List AOper} {S : St}, Mono fun n => execOps (F n) l S := by
  intro l
  induction l with
  | nil => intro S; exact Mono.const
  | cons o l ih =>
    intro S
    simp only [execOps]
    split
    · exact (stepS_mono hF).bind (fun _ => ih)
    · split
      · exact Mono.ite ((stepS_mono hF).bind (fun _ => ih)) ih
      · exact ih
      · exact Mono.const
theorem drawTake_mono {x : AOper} {fr : List (List Nat)} {acc : List (List Nat × List Nat)} {S : St} : Mono fun n => drawTake (F n) x fr acc S := by
  unfold drawTake
  exact Mono.ite (stepS_mono hF) Mono.const
theorem execDraw_mono : ∀ {l : List AOper} {fr : List (List Nat)} {acc : List (List Nat × List Nat)} {S : St}, Mono fun n => execDraw (F n) l fr acc S := by
  intro l
  induction l with
  | nil => intro fr acc S; exact Mono.const
  | cons o l ih =>
    intro fr acc S
    simp only [execDraw]
    split
    · exact (drawTake_mono hF).bind (fun _ => ih)
    · split
      · exact Mono.ite ((drawTake_mono hF).bind (fun _ => ih)) (Mono.bind Mono.const (fun _ => ih))
      · exact Mono.bind Mono.const (fun _ => ih)
      · exact Mono.const
theorem drawF_mono {l : List AOper} {fr : List (List Nat)} {S : St} : Mono fun n => drawF (F n) l fr S := by
  unfold drawF
  exact Mono.ite (execDraw_mono hF) Mono.const
omit hF in
theorem seqF_mono {g : Nat → St → Option (AExit × St)} (hg : ∀ S, Mono fun n => g n S) {p : AExit × St} : Mono fun n => seqF (g n) p := by
  unfold seqF
  split
  · exact hg _
  · exact Mono.const
  · exact Mono.const
omit hF in
theorem loopF_mono {g : Nat → St → Option (AExit × St)} (hg : ∀ S, Mono fun n => g n S) {ks : List Nat} {p : AExit × St} : Mono fun n => loopF ks (g n) p := by
  unfold loopF
  split
  · exact hg _
  · exact Mono.const
  · exact Mono.const
omit hF in
theorem loopN_mono1 {b : Nat → St → Option (AExit × St)} (hb : ∀ S, Mono fun n => b n S) : ∀ {ks : List Nat} {k : Nat} {S : St}, Mono fun n => loopN ks (b n) k S := by
  intro ks k
  induction k with
  | zero => intro S; exact Mono.const
  | succ k ih => intro S; exact (hb S).bind fun p => loopF_mono fun _ => ih
omit hF in
theorem loopN_mono2 {ks : List Nat} {b : St → Option (AExit × St)} : ∀ {S : St}, Mono fun k => loopN ks b k S := by
  intro S
  refine Mono.of_succ fun k => ?_
  induction k generalizing S with
  | zero => intro a h; cases h
  | succ k ih =>
    intro a h
    simp only [loopN] at h ⊢
    obtain ⟨p, h1, h2⟩ := Option.bind_eq_some_iff.1 h
    refine Option.bind_eq_some_iff.2 ⟨p, h1, ?_⟩
    unfold loopF at h2 ⊢
    split at h2
    · exact ih _ h2
    · exact h2
    · exact h2
omit hF in
theorem loopN_mono {b : Nat → St → Option (AExit × St)} (hb : ∀ S, Mono fun n => b n S) {ks : List Nat} {S : St} : Mono fun n => loopN ks (b n) n S := fun n m a hnm h =>
  loopN_mono1 hb n m a hnm (loopN_mono2 n m a hnm h)
theorem exec_mono : ∀ {c : ACode} {S : St}, Mono fun n => exec (F n) n c S := by
  intro c
  induction c with
  | skip => intro S; exact Mono.const
  | exit i ks => intro S; exact Mono.const
  | ret ks => intro S; exact Mono.const
  | ops gs l ks => intro S; exact (Mono.bind Mono.const fun _ => execOps_mono hF).map
  | draw gs l fr ks => intro S; exact (Mono.bind Mono.const fun _ => drawF_mono hF).map
  | seq x y ih1 ih2 => intro S; exact ih1.bind fun p => seqF_mono fun S => ih2
  | cond c x y ih1 ih2 =>
    intro S
    simp only [exec, condF]
    split
    · exact Mono.ite ih1 ih2
    · exact Mono.const
  | block id x ih => intro S; exact ih.map
  | loop ks x ih => intro S; exact loopN_mono fun S => ih
end mono
theorem callF_mono (f : FuncId) (args : List AV) (os : Heap) : Mono fun n => callF G n f args os := by
  refine Mono.of_succ fun n => ?_
  induction n generalizing f args os with
  | zero => intro a h; cases h
  | succ n ih =>
    -- two steps: more fuel for the calls, more rounds
    have code : ∀ (c : ACode) (rs : List ARes) (nt : Nat) (sl : Bool) (args : List AV) (os : Heap) (a : AV × Heap), codeF (callF G n) n args os c rs nt sl = some a → codeF (callF G (n + 1)) (n + 1) args os c rs nt sl = some a := by
      intro c rs nt sl args os a h2
      simp only [codeF] at h2 ⊢
      split at h2
      · rename_i hc
        rw [if_pos hc]
        obtain ⟨p, h3, h4⟩ := Option.bind_eq_some_iff.1 h2
        refine Option.bind_eq_some_iff.2 ⟨p, ?_, h4⟩
        let Fs : Nat → Sem1 := fun k => if k ≤ n then callF G n else callF G (n + 1)
        have hFs : ∀ f args os, Mono fun k => Fs k f args os := fun f args os => Mono.of_succ fun k a h => by
          simp only [Fs] at h ⊢
          split at h
          · split
            · exact h
            · exact ih f args os a h
          · rename_i hk
            rw [if_neg (by omega)]; exact h
        have := exec_mono (F := Fs) hFs (c := c) (S := ⟨enter args ++ ghostE os, os⟩) n (n + 1) p (by omega)
        simp only [Fs, Nat.le_refl, if_true] at this
        rw [if_neg (by omega)] at this
        exact this h3
      · cases h2
    intro a h
    have h : (G f).bind (fnF (callF G n) n args os) = some a := h
    show (G f).bind (fnF (callF G (n + 1)) (n + 1) args os) = some a
    obtain ⟨fn, h1, h2⟩ := Option.bind_eq_some_iff.1 h
    refine Option.bind_eq_some_iff.2 ⟨fn, h1, ?_⟩
    cases fn with
    | ext g => exact h2
    | code c rs nt sl => exact code c rs nt sl args os a h2
    | nils c rs nt =>
      have new0 : ∀ {x : Option (AV × Heap)}, isNew0 x = true → x = some (.acc 0 [], [(0, .acc 0)]) := fun {x} hx => by
        unfold isNew0 at hx
        split at hx
        · rfl
        · cases hx
      show nilsF (callF G (n + 1)) (n + 1) args os c rs nt = some a
      have h2 : nilsF (callF G n) n args os c rs nt = some a := h2
      unfold nilsF at h2 ⊢
      split at h2
      · rename_i he
        rw [if_pos he]
        split at h2
        · rename_i hn
          simp only [Bool.and_eq_true] at hn
          rw [code _ _ _ _ _ _ _ (new0 hn.1), code _ _ _ _ _ _ _ (new0 hn.2)]
          exact h2
        · cases h2
      · rename_i he
        rw [if_neg he]
        exact code _ _ _ _ _ _ _ h2
theorem callL_iff {f : FuncId} {args : List AV} {os : Heap} {p : AV × Heap} : callL G f args os = some p ↔ ∃ n, callF G n f args os = some p := lim_iff (callF_mono f args os)
theorem lim_callA0 {E : Env} {H : Heap} {dst : Nat} {ms : List Bool} {f : FuncId} {args : List AV} : lim (fun n => callA0 (callF G n) E H dst ms f args) = callA0 (callL G) E H dst ms f args := by
  unfold callA0
  rw [lim_bind Mono.const fun _ => callB_mono callF_mono, lim_const]
  congr 1; funext as
  unfold callB
  split
  · rw [lim_bind (g := fun _ => callC E H dst (namesOf H ms args) (dataObjs ms args)) (callF_mono _ _ _) fun _ => Mono.const]
    congr 1; funext p
    exact lim_const _
  · exact lim_const _
theorem lim_callA {E : Env} {H : Heap} {dst : Nat} {ms : List Bool} {f : FuncId} {args : List AV} : lim (fun n => callA (callF G n) E H dst ms f args) = callA (callL G) E H dst ms f args := by
  unfold callA
  split
  · rw [lim_bind Mono.const fun _ => frzB_mono callF_mono, lim_const]
    congr 1; funext as
    unfold frzB
    split
    · rw [lim_map (callA0_mono callF_mono), lim_callA0]
    · exact lim_const _
  · exact lim_callA0
theorem lim_step {E : Env} {H : Heap} {dst : Nat} {op : AOp} : lim (fun n => step (callF G n) E H dst op) = step (callL G) E H dst op := by
  cases op with
  | call f ms xs => exact (lim_map (callA_mono callF_mono)).trans (congrArg _ lim_callA)
  | callv f ms xs =>
    refine (lim_map (callvA_mono callF_mono)).trans (congrArg _ ?_)
    unfold callvA
    split
    · exact lim_callA
    · exact lim_callA
    · exact lim_const _
  | _ => exact lim_const _
theorem lim_stepS {x : AOper} {S : St} : lim (fun n => stepS (callF G n) x S) = stepS (callL G) x S := (lim_map (step_mono callF_mono)).trans (congrArg _ lim_step)
theorem lim_execOps : ∀ {l : List AOper} {S : St}, lim (fun n => execOps (callF G n) l S) = execOps (callL G) l S := by
  intro l
  induction l with
  | nil => intro S; exact lim_const _
  | cons o l ih =>
    intro S
    have key : lim (fun n => (stepS (callF G n) o S).bind (execOps (callF G n) l)) = (stepS (callL G) o S).bind (execOps (callL G) l) := by
      rw [lim_bind (stepS_mono callF_mono) fun _ => execOps_mono callF_mono, lim_stepS]
      congr 1; funext p; exact ih
    simp only [execOps]
    split
    · exact key
    · split
      · split
        · exact key
        · exact ih
      · exact ih
      · exact lim_const _
theorem lim_drawTake {x : AOper} {fr : List (List Nat)} {acc : List (List Nat × List Nat)} {S : St} : lim (fun n => drawTake (callF G n) x fr acc S) = drawTake (callL G) x fr acc S := by
  unfold drawTake
  split
  · exact lim_stepS
  · exact lim_const _
theorem lim_execDraw : ∀ {l : List AOper} {fr : List (List Nat)} {acc : List (List Nat × List Nat)} {S : St}, lim (fun n => execDraw (callF G n) l fr acc S) = execDraw (callL G) l fr acc S := by
  intro l
  induction l with
  | nil => intro fr acc S; exact lim_const _
  | cons o l ih =>
    intro fr acc S
    have key : lim (fun n => (drawTake (callF G n) o fr acc S).bind (execDraw (callF G n) l fr.tail (acc ++ [feet o S]))) = (drawTake (callL G) o fr acc S).bind (execDraw (callL G) l fr.tail (acc ++ [feet o S])) := by
      rw [lim_bind (drawTake_mono callF_mono) fun _ => execDraw_mono callF_mono, lim_drawTake]
      congr 1; funext p; exact ih
    simp only [execDraw]
    split
    · exact key
    · split
      · split
        · exact key
        · rw [lim_bind Mono.const fun _ => execDraw_mono callF_mono, lim_const]
          congr 1; funext p; exact ih
      · rw [lim_bind Mono.const fun _ => execDraw_mono callF_mono, lim_const]
        congr 1; funext p; exact ih
      · exact lim_const _
theorem lim_drawF {l : List AOper} {fr : List (List Nat)} {S : St} : lim (fun n => drawF (callF G n) l fr S) = drawF (callL G) l fr S := by
  unfold drawF
  split
  · exact lim_execDraw
  · exact lim_const _
theorem exL_skip {S : St} : exL G .skip S = some (.normal, S) := lim_const _
theorem exL_exit {i : Nat} {ks : List Nat} {S : St} : exL G (.exit i ks) S = some (.exit i, endS ks S) := lim_const _
theorem exL_ret {ks : List Nat} {S : St} : exL G (.ret ks) S = some (.ret, endS ks S) := lim_const _
theorem exL_ops {gs : List Nat} {l : List AOper} {ks : List Nat} {S : St} : exL G (.ops gs l ks) S = ((ghosts gs S).bind (execOps (callL G) l)).map (killS ks) := by
  refine (lim_map (Mono.bind Mono.const fun _ => execOps_mono callF_mono)).trans (congrArg _ ?_)
  rw [lim_bind Mono.const fun _ => execOps_mono callF_mono, lim_const]
  congr 1; funext p; exact lim_execOps
theorem exL_draw {gs : List Nat} {l : List AOper} {fr : List (List Nat)} {ks : List Nat} {S : St} : exL G (.draw gs l fr ks) S = ((ghosts gs S).bind (drawF (callL G) l fr)).map (killS ks) := by
  refine (lim_map (Mono.bind Mono.const fun _ => drawF_mono callF_mono)).trans (congrArg _ ?_)
  rw [lim_bind Mono.const fun _ => drawF_mono callF_mono, lim_const]
  congr 1; funext p; exact lim_drawF
theorem exL_seq {x y : ACode} {S : St} : exL G (.seq x y) S = (exL G x S).bind (seqF (exL G y)) := by
  refine (lim_bind (exec_mono callF_mono) fun p => seqF_mono fun S => exec_mono callF_mono).trans ?_
  congr 1; funext p
  unfold seqF
  split
  · rfl
  · exact lim_const _
  · exact lim_const _
theorem exL_cond {c : Opd} {x y : ACode} {S : St} : exL G (.cond c x y) S = condF (c.ev S.env) (exL G x S) (exL G y S) := by
  show lim (fun n => condF (c.ev S.env) (exec (callF G n) n x S) (exec (callF G n) n y S)) = _
  unfold condF
  split
  · split
    · rfl
    · rfl
  · exact lim_const _
theorem exL_block {id : Nat} {x : ACode} {S : St} : exL G (.block id x) S = (exL G x S).map (blockF id) := lim_map (exec_mono callF_mono)
theorem loopL_eq {ks : List Nat} {x : ACode} {S : St} : loopL G ks x S = (exL G x S).bind (loopF ks (loopL G ks x)) := by
  have hm : ∀ S, Mono fun n => loopN ks (exec (callF G n) n x) n S := fun S => loopN_mono fun S => exec_mono callF_mono
  have e1 : (exL G x S).bind (loopF ks (loopL G ks x)) = lim fun n => (exec (callF G n) n x S).bind (loopF ks (loopN ks (exec (callF G n) n x) n)) := by
    rw [lim_bind (exec_mono callF_mono) fun p => loopF_mono hm]
    congr 1; funext p
    unfold loopF
    split
    · rfl
    · exact (lim_const _).symm
    · exact (lim_const _).symm
  rw [e1]
  refine opt_ext fun a => ?_
  rw [loopL, lim_iff (hm S), lim_iff ((exec_mono callF_mono).bind fun p => loopF_mono hm)]
  constructor
  · rintro ⟨n, h⟩
    cases n with
    | zero => cases h
    | succ n =>
      simp only [loopN] at h
      obtain ⟨p, h1, h2⟩ := Option.bind_eq_some_iff.1 h
      refine ⟨n + 1, Option.bind_eq_some_iff.2 ⟨p, h1, ?_⟩⟩
      unfold loopF at h2 ⊢
      split at h2
      · exact loopN_mono2 n (n + 1) a (by omega) h2
      · exact h2
      · exact h2
  · rintro ⟨n, h⟩
    obtain ⟨p, h1, h2⟩ := Option.bind_eq_some_iff.1 h
    refine ⟨n + 1, ?_⟩
    simp only [loopN]
    refine Option.bind_eq_some_iff.2 ⟨p, exec_mono callF_mono n (n + 1) p (by omega) h1, ?_⟩
    unfold loopF at h2 ⊢
    split at h2
    · exact loopN_mono1 (fun S => exec_mono callF_mono) n (n + 1) a (by omega) h2
    · exact h2
    · exact h2
theorem lim_codeF {c : ACode} {rs : List ARes} {nt : Nat} {sl : Bool} {args : List AV} {os : Heap} (hl : args.length ≤ nt) : (Mono fun n => codeF (callF G n) n args os c rs nt sl) ∧ lim (fun n => codeF (callF G n) n args os c rs nt sl) = (exL G c ⟨enter args ++ ghostE os, os⟩).bind (finish sl rs os) := by
  have e : (fun n => codeF (callF G n) n args os c rs nt sl) = fun n => (exec (callF G n) n c ⟨enter args ++ ghostE os, os⟩).bind (finish sl rs os) := by
    funext n; simp only [codeF]; rw [if_pos hl]
  rw [e]
  refine ⟨Mono.bind (g := fun _ p => finish sl rs os p) (exec_mono callF_mono) fun p => Mono.const, ?_⟩
  rw [lim_bind (g := fun _ p => finish sl rs os p) (exec_mono callF_mono) fun p => Mono.const]
  show (exL G c ⟨enter args ++ ghostE os, os⟩).bind _ = _
  congr 1; funext p; exact lim_const _
theorem lim_shift {α : Type} {x y : Nat → Option α} (hx : Mono x) (hy : Mono y) (h0 : x 0 = none) (h : ∀ n, x (n + 1) = y n) : lim x = lim y := by
  refine opt_ext fun a => ?_
  rw [lim_iff hx, lim_iff hy]
  constructor
  · rintro ⟨n, h1⟩
    cases n with
    | zero => rw [h0] at h1; cases h1
    | succ n => exact ⟨n, by rw [← h]; exact h1⟩
  · rintro ⟨n, h1⟩; exact ⟨n + 1, by rw [h]; exact h1⟩
theorem callL_code {f : FuncId} {c : ACode} {rs : List ARes} {nt : Nat} {sl : Bool} (h : G f = some (.code c rs nt sl)) {args : List AV} {os : Heap} (hl : args.length ≤ nt) : callL G f args os = (exL G c ⟨enter args ++ ghostE os, os⟩).bind (finish sl rs os) := by
  obtain ⟨h1, h2⟩ := lim_codeF (G := G) (c := c) (rs := rs) (os := os) (sl := sl) hl
  rw [← h2]
  exact lim_shift (callF_mono f args os) h1 rfl fun n => by simp only [callF, h, Option.bind_some, fnF]
theorem callL_ok (hG : GOK P G) : FOK P (callL G) := by
  intro f args os r os' h h1 h2
  obtain ⟨n, hn⟩ := callL_iff.1 h
  exact callF_ok hG n f args os r os' hn h1 h2
theorem loop_ind {T : Type} {ks : List Nat} {x : ACode} (μ : T → Nat) (inv : T → Prop) (st : T → St) (r : T → Option (AExit × St))
    (h : ∀ t, inv t → ∀ L : St → Option (AExit × St), (∀ t', inv t' → μ t' < μ t → L (st t') = r t') → (exL G x (st t)).bind (loopF ks L) = r t) : ∀ t, inv t → loopL G ks x (st t) = r t := by
  intro t
  generalize hk : μ t = k
  induction k using Nat.strongRecOn generalizing t with
  | ind k ih =>
    intro hi
    rw [loopL_eq]
    exact h t hi _ fun t' hi' hlt => ih (μ t') (by omega) t' rfl hi'
end Go.Sim
