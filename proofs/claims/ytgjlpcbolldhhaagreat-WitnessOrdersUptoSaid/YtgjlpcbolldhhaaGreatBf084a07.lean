/-
  Regions that draw their order, and code.
-/
import Derived.Test.YtgjlpcbolldhhaaGreatBb284110
import Derived.Orders
set_option linter.unusedSimpArgs false
set_option linter.unusedVariables false
set_option maxHeartbeats 10000000
set_option maxRecDepth 100000
namespace Go.Sim
open Go (World Value Addr TypeId Act)
variable {P : Program} {C : Ctx}
def fr4 (dst : Nat) : List Nat := [dst, dst + 10000, dst + 20000, dst + 30000]
def zai (H : za) (dst : Nat) (ms : List Bool) (args : List AV) : List Nat × List Nat :=
 (zX H ms args ++ (zy ms args ++ fr4 dst), zX H ms args ++ fr4 dst)
theorem zCV {cs : List D} : AV.objsL (cs.map .d) = [] := by
 induction cs with
 | nil => rfl
 | cons x xs ih => simp [AV.objsL, AV.objs, ih]
theorem zsS {H H2 : za} : ∀ {x : AV}, (∀ o ∈ x.objs, look o H2 = look o H) -> toD H2 x = toD H x := by
 intro x;refine AV.rec (motive_1 := fun x => (∀ o ∈ x.objs, look o H2 = look o H) -> toD H2 x = toD H x) (motive_2 := fun xs => (∀ o ∈ AV.objsL xs, look o H2 = look o H) -> toD.toDs H2 xs = toD.toDs H xs) ?_ ?_ ?_ ?_ ?_ ?_ ?_ ?_ ?_ ?_ ?_ ?_ ?_ ?_ x
 · intro _ _; rfl
 · intro o i off h
   cases off with
   | zero => simp only [toD]; rw [h o (by simp [AV.objs])]
   | succ n => simp [toD]
 · intro o off len h; simp only [toD]; rw [h o (by simp [AV.objs])]
 · intro _ _ _; rfl
 · intro _ _ _; rfl
 · intro _ _; rfl
 · intro cs ih h; simp only [toD]; rw [ih (by simpa [AV.objs] using h)]
 · intro cs ih h; simp only [toD]; rw [ih (by simpa [AV.objs] using h)]
 · intro f cs ih h; simp only [toD]; rw [ih (by simpa [AV.objs] using h)]
 · intro _ _; rfl
 · intro _ _; rfl
 · intro _; rfl
 · intro _; rfl
 · intro y ys h1 h2 h;simp only [toD.toDs];rw [h1 fun o ho => h o (by simp [AV.objsL, ho]), h2 fun o ho => h o (by simp [AV.objsL, ho])]
theorem zmU {H H2 : za} : ∀ {ms : List Bool} {xs : List AV}, (∀ o ∈ zy ms xs, look o H2 = look o H) -> zY H2 ms xs = zY H ms xs := by
 intro ms xs
 induction xs generalizing ms with
 | nil => intro _; cases ms <;> rfl
 | cons x xs ih =>
  intro h
  match ms with
  | [] =>
   simp only [zY];rw [zsS fun o ho => h o (by simp [zy, ho]), ih fun o ho => h o (by simp [zy, ho])]
  | false :: ms =>
   simp only [zY];rw [zsS fun o ho => h o (by simp [zy, ho]), ih fun o ho => h o (by simp [zy, ho])]
  | true :: ms =>
   simp only [zY];rw [ih fun o ho => h o (by simp [zy, ho])]
theorem zsy {H H2 : za} {ns : List Nat} (h : ∀ o ∈ ns, look o H2 = look o H) : zbo H2 ns = zbo H ns := by
 unfold zbo
 congr 1
 have : ∀ l : List Nat, (∀ o ∈ l, look o H2 = look o H) -> l.flatMap (zdJ H2) = l.flatMap (zdJ H) := by
  intro l
  induction l with
  | nil => intro _; rfl
  | cons o l ih =>
   intro hl;simp only [List.flatMap_cons];rw [ih fun q hq => hl q (.tail _ hq)]
   congr 1
   simp only [zdJ, hl o (.head _)]
 exact this ns h
theorem zhR {H H2 : za} {ms : List Bool} {args : List AV} (h : ∀ o ∈ zX H ms args, look o H2 = look o H) : zX H2 ms args = zX H ms args := by
 have h1 : ∀ o ∈ zbo H (zax [] (zaj ms args)), look o H2 = look o H := fun o ho => h o (zbs _ _ ho);have h0 : ∀ o ∈ zax [] (zaj ms args), look o H2 = look o H := fun o ho => h1 o (zbs _ _ ho);unfold zX;rw [zsy h0, zsy h1]
theorem zmQ {F : zC} (hF : FOK P F) {E : Env} {H : za} {dst : Nat} {ms : List Bool} {f : FuncId} {args : List AV} {v : AV} {δ : za} (h : zar F E H dst ms f args = some (v, δ)) {E2 : Env} {H2 : za} (hh : ∀ o ∈ (zai H dst ms args).1, look o H2 = look o H) (hf : ∀ n ∈ fr4 dst, refsEnv n E2 = false /\ refsHeap n H2 = false) :
    zar F E2 H2 dst ms f args = some (v, δ) := by
 unfold zar at h ⊢;have hns : ∀ o ∈ zX H ms args, look o H2 = look o H := fun o ho => hh o (by simp [zai, ho]);have hds : ∀ o ∈ zy ms args, look o H2 = look o H := fun o ho => hh o (by simp [zai, ho]);rw [zhR hns, zmU hds];obtain ⟨zKJ, has, h⟩ := zKK.1 h;rw [has, zLi];have hnod : (zX H ms args).Nodup := zfW _ _ _;unfold zbu at h ⊢;have hok : zdE H2 (zX H ms args) = zdE H (zX H ms args) := by
  unfold zdE;rw [zMy, zK4, zK4];constructor
  · intro hx o ho; have := hx o ho; rw [hns o ho] at this; exact this
  · intro hx o ho; rw [hns o ho]; exact hx o ho
 have hos : zaa H2 (zX H ms args) = zaa H (zX H ms args) := by
  unfold zaa;exact zLF fun o ho => by rw [hns o ho]
 rw [hok, hos]
 split at h
 · rename_i hc;rw [zKN hc];obtain ⟨⟨r, os'⟩, hf', h⟩ := zKK.1 h;rw [hf', zLi];simp only [zKW] at hc;obtain ⟨_, _, hWF⟩ := hF f _ _ r os' hf' (fun ⟨n, ob⟩ hm => by
    obtain ⟨o, ho, _, h2⟩ := zfV hm;have := zK4.1 hc.1 o ho
    split at this
    · rename_i es hes; exact ⟨_, by rw [h2, hes]; rfl⟩
    · cases this) (fun i p hp => (zf1 hnod i p hp).1)
   unfold zbv at h ⊢
   split at h
   · rename_i hc2;simp only [zKW] at hc2;have : zek E2 H2 dst (zX H ms args) os' = true := by
      refine zK4.2 fun p hp => ?_;have h1 := zK4.1 hc2.1 p hp;simp only [zLs, zKW, decide_eq_true_eq] at h1 ⊢
      rcases h1 with h1 | h1
      · exact .inl h1
      · rcases hWF.names p.1 (zfK (x := p.2) hp) with h2 | ⟨h2, _⟩
        · have hm : dst + 10000 * p.1 ∈ fr4 dst := by
           have : p.1 = 0 \/ p.1 = 1 \/ p.1 = 2 \/ p.1 = 3 := by omega
           rcases this with h | h | h | h <;> simp [fr4, h]
          obtain ⟨h3, h4⟩ := hf _ hm;exact .inr ⟨⟨by simp [h3], by simp [h4]⟩, h1.2⟩
        · exact .inl h2
     rw [zKN (by simp only [zKW]; exact ⟨this, hc2.2⟩)];exact h
   · cases h
 · cases h
theorem zh5 {ρ : Nat -> Nat} {x : AV} {o : Nat} (h : (x.ren ρ).refs o = true) : ∃ q, x.refs q = true /\ o = ρ q := by
 have key : ∀ x : AV, (x.ren ρ).refs o = true -> ∃ q, x.refs q = true /\ o = ρ q := by
  intro x;refine AV.rec (motive_1 := fun x => (x.ren ρ).refs o = true -> ∃ q, x.refs q = true /\ o = ρ q) (motive_2 := fun xs => AV.refsL o (AV.renL ρ xs) = true -> ∃ q, AV.refsL q xs = true /\ o = ρ q) ?_ ?_ ?_ ?_ ?_ ?_ ?_ ?_ ?_ ?_ ?_ ?_ ?_ ?_ x
  · intro _ h; simp [AV.ren, AV.refs] at h
  · intro p i off h; simp only [AV.ren, AV.refs, beq_iff_eq] at h; exact ⟨p, by simp [AV.refs], h.symm⟩
  · intro p i off h; simp only [AV.ren, AV.refs, beq_iff_eq] at h; exact ⟨p, by simp [AV.refs], h.symm⟩
  · intro p es h; simp only [AV.ren, AV.refs, beq_iff_eq] at h; exact ⟨p, by simp [AV.refs], h.symm⟩
  · intro p y h; simp only [AV.ren, AV.refs, beq_iff_eq] at h; exact ⟨p, by simp [AV.refs], h.symm⟩
  · intro _ h; simp [AV.ren, AV.refs] at h
  · intro cs ih h; exact ih h
  · intro cs ih h; exact ih h
  · intro f cs ih h; exact ih h
  · intro _ h; simp [AV.ren, AV.refs] at h
  · intro p h; simp only [AV.ren, AV.refs, beq_iff_eq] at h; exact ⟨p, by simp [AV.refs], h.symm⟩
  · intro h; simp [AV.ren, AV.refs] at h
  · intro h; simp [AV.renL, AV.refsL] at h
  · intro y ys h1 h2 h;simp only [AV.renL, AV.refsL, zLs] at h
    rcases h with h | h
    · obtain ⟨q, k1, k2⟩ := h1 h; exact ⟨q, by simp [AV.refsL, k1], k2⟩
    · obtain ⟨q, k1, k2⟩ := h2 h; exact ⟨q, by simp [AV.refsL, k1], k2⟩
 exact key x h
theorem zsD {ρ : Nat -> Nat} {xs : List AV} {o : Nat} (h : AV.refsL o (xs.map (AV.ren ρ)) = true) : ∃ q, AV.refsL q xs = true /\ o = ρ q := by
 induction xs with
 | nil => simp [AV.refsL] at h
 | cons x xs ih =>
  simp only [zKS, AV.refsL, zLs] at h
  rcases h with h | h
  · obtain ⟨q, k1, k2⟩ := zh5 h; exact ⟨q, by simp [AV.refsL, k1], k2⟩
  · obtain ⟨q, k1, k2⟩ := ih h; exact ⟨q, by simp [AV.refsL, k1], k2⟩
theorem zmR {F : zC} (hF : FOK P F) {E : Env} {H : za} {dst : Nat} {ms : List Bool} {f : FuncId} {args : List AV} {v : AV} {δ : za} (h : zar F E H dst ms f args = some (v, δ)) :
    (∀ p ∈ δ, p.1 ∈ (zai H dst ms args).2) /\ (∀ o, v.refs o = true -> o ∈ (zai H dst ms args).2) /\ (∀ p ∈ δ, ∀ o, p.2.refs o = true -> o ∈ (zai H dst ms args).2) := by
 unfold zar at h;obtain ⟨zKJ, has, h⟩ := zKK.1 h;have hnod : (zX H ms args).Nodup := zfW _ _ _;simp only [zai];generalize zX H ms args = ns at *;unfold zbu at h
 split at h
 · rename_i hc;simp only [zKW] at hc;obtain ⟨⟨r, os'⟩, hf, h⟩ := zKK.1 h;obtain ⟨_, _, hW⟩ := hF f _ _ r os' hf (fun ⟨n, ob⟩ hm => by
    obtain ⟨o, ho, _, h2⟩ := zfV hm;have := zK4.1 hc.1 o ho
    split at this
    · rename_i es hes; exact ⟨_, by rw [h2, hes]; rfl⟩
    · cases this) (fun i p hp => (zf1 hnod i p hp).1)
   unfold zbv at h
   split at h
   · cases h
     have hnl : (zaa H ns).length = ns.length := by simp [zaa]
     rw [hnl] at hW;have hname : ∀ n, (look n os').isSome = true -> zaQ ns dst n ∈ ns ++ fr4 dst := fun n hn => by
      simp only [zLb]
      rcases hW.names n hn with h1 | ⟨h1, h2⟩
      · right;have h3 : zaQ ns dst n = dst + 10000 * n := by simp only [zaQ]; rw [zKN (by omega)]
        rw [h3];have : n = 0 \/ n = 1 \/ n = 2 \/ n = 3 := by omega
        rcases this with h | h | h | h <;> simp [fr4, h]
      · left;simp only [zaQ];rw [zKM (by omega), zL7, zKR (by omega)];simp
     refine ⟨fun p hp => ?_, fun o ho => ?_, fun p hp o ho => ?_⟩
     · obtain ⟨⟨n, ob⟩, hm, rfl⟩ := zKX.1 hp;exact hname n (zfK hm)
     · obtain ⟨q, h1, rfl⟩ := zh5 ho;exact hname q (hW.res q h1)
     · obtain ⟨⟨n, ob⟩, hm, rfl⟩ := zKX.1 hp
       cases ob with
       | acc n => simp [Obj.ren, Obj.refs] at ho
       | frz m => simp [Obj.ren, Obj.refs] at ho
       | mp m => simp [Obj.ren, Obj.refs] at ho
       | row es =>
        simp only [Obj.ren, Obj.refs] at ho;obtain ⟨q, h1, rfl⟩ := zsD ho;exact hname q (hW.resH n _ hm q h1)
   · cases h
 · cases h
theorem zAx {ms : List Bool} {args : List AV} {o : Nat} (h : o ∈ zaj ms args) : AV.refsL o args = true := by
 induction args generalizing ms with
 | nil => cases ms <;> simp [zaj] at h
 | cons x xs ih =>
  match ms with
  | [] => simp [zaj] at h
  | false :: ms => simp only [zaj] at h; simp [AV.refsL, ih h]
  | true :: ms =>
   simp only [zaj, zLb] at h
   rcases h with h | h
   · simp [AV.refsL, zf6 h]
   · simp [AV.refsL, ih h]
theorem zmt : ∀ (xs ns : List Nat) {o : Nat}, o ∈ zax ns xs -> o ∈ ns \/ o ∈ xs := by
 intro xs
 induction xs with
 | nil => intro ns o h; exact .inl h
 | cons x xs ih =>
  intro ns o h;simp only [zax] at h
  split at h
  · rcases ih _ h with h | h
    · exact .inl h
    · exact .inr (.tail _ h)
  · rcases ih _ h with h | h
    · simp at h
      rcases h with h | h
      · exact .inl h
      · exact .inr (by simp [h])
    · exact .inr (.tail _ h)
theorem zH1 {H : za} {ns : List Nat} {o : Nat} (h : o ∈ zbo H ns) : o ∈ ns \/ refsHeap o H = true := by
 rcases zmt _ _ h with h | h
 · exact .inl h
 · obtain ⟨q, _, hq⟩ := List.mem_flatMap.1 h;simp only [zdJ] at hq
   split at hq
   · rename_i es hes;right
     cases hr : refsHeap o H with
     | true => rfl
     | false =>
      have := zb4 (zu hes) hr;have h2 : AV.refsL o es = true := zf6 (x := .agg es) hq;simp only [Obj.refs] at this;rw [h2] at this; cases this
   · cases hq
theorem zsf {H : za} {ms : List Bool} {args : List AV} {o : Nat} (h1 : AV.refsL o args = false) (h2 : refsHeap o H = false) : o ∉ zX H ms args := by
 intro h;have no : ∀ {ns : List Nat}, o ∈ zbo H ns -> o ∈ ns := fun h => (zH1 h).resolve_right (by simp [h2])
 rcases zmt _ _ (no (no h)) with h | h
 · cases h
 · rw [zAx h] at h1; cases h1
def zaD (H : za) (dst : Nat) (ms : List Bool) (args : List AV) : List Nat × List Nat :=
 if zel ms args.length = true then
  ((zai H dst ms args).1 ++ (zai (zo (zP H (zy ms args)) H) dst ms ((zY H ms args).getD [])).1,
   (zai (zo (zP H (zy ms args)) H) dst ms ((zY H ms args).getD [])).2 ++ zy ms args)
 else zai H dst ms args
theorem zh1 {o : Nat} {δ H : za} (h1 : ∀ p ∈ δ, p.2.refs o = false) (h2 : refsHeap o H = false) : refsHeap o (zo δ H) = false := by
 induction δ with
 | nil => exact h2
 | cons p δ ih =>
  obtain ⟨q, ob⟩ := p;exact zbd (ih fun r hr => h1 r (.tail _ hr)) (h1 _ (.head _))
theorem zxC {F : zC} (hF : FOK P F) {E : Env} {H : za} {dst : Nat} {ms : List Bool} {f : FuncId} {args : List AV} {v : AV} {δ : za} (h : zS F E H dst ms f args = some (v, δ)) {E2 : Env} {H2 : za} (hh : ∀ o ∈ (zaD H dst ms args).1, look o H2 = look o H) (hf : ∀ n ∈ fr4 dst, refsEnv n E2 = false /\ refsHeap n H2 = false) :
    zS F E2 H2 dst ms f args = some (v, δ) := by
 unfold zS at h ⊢;unfold zaD at hh
 split at h
 · rename_i hz;rw [zKN hz] at hh ⊢;have hds : ∀ o ∈ zy ms args, look o H2 = look o H := fun o ho => hh o (by simp [zai, ho]);obtain ⟨zKJ, has, h⟩ := zKK.1 h;rw [has] at hh;rw [zmU hds, has, zLi];unfold zbQ at h ⊢;have hok : zcj H2 (zy ms args) = zcj H (zy ms args) := by
    unfold zcj;rw [zMy, zK4, zK4];exact ⟨fun hx o ho => by have := hx o ho; rw [hds o ho] at this; exact this, fun hx o ho => by rw [hds o ho]; exact hx o ho⟩
   have hfz : zP H2 (zy ms args) = zP H (zy ms args) := by
    unfold zP;refine zLF fun o ho => ?_;unfold mark; rw [hds o ho]
   rw [hok, hfz]
   split at h
   · rename_i hk;rw [zKN hk];obtain ⟨⟨v', δ'⟩, h1, h2⟩ := zKL.1 h
     cases h2
     rw [zmQ hF h1 (E2 := E2) (H2 := zo (zP H (zy ms args)) H2) (fun o ho => ?_) (fun n hn => ⟨(hf n hn).1, ?_⟩)]
     · rfl
     · rw [zaH, zaH, hh o (by simp [ho])]
     · rw [<- hfz];exact zh1 (fun p hp => by obtain ⟨q, _, rfl⟩ := zKX.1 hp; rfl) (hf n hn).2
   · cases h
 · rename_i hz;rw [zKM hz] at hh ⊢;exact zmQ hF h hh hf
theorem zxD {F : zC} (hF : FOK P F) {E : Env} {H : za} {dst : Nat} {ms : List Bool} {f : FuncId} {args : List AV} {v : AV} {δ : za} (h : zS F E H dst ms f args = some (v, δ)) :
    (∀ p ∈ δ, p.1 ∈ (zaD H dst ms args).2) /\ (∀ o, v.refs o = true -> o ∈ (zaD H dst ms args).2) /\ (∀ p ∈ δ, ∀ o, p.2.refs o = true -> o ∈ (zaD H dst ms args).2) := by
 unfold zS at h;unfold zaD
 split at h
 · rename_i hz;rw [zKN hz];obtain ⟨zKJ, has, h⟩ := zKK.1 h;rw [has];unfold zbQ at h
   split at h
   · obtain ⟨⟨v', δ'⟩, h1, h2⟩ := zKL.1 h
     cases h2
     obtain ⟨n1, n2, n3⟩ := zmR hF h1;refine ⟨fun p hp => ?_, fun o ho => zLE _ (n2 o ho), fun p hp o ho => ?_⟩
     · rcases zLb.1 hp with hp | hp
       · exact zLE _ (n1 p hp)
       · obtain ⟨q, hq, rfl⟩ := zKX.1 hp;exact zL8 _ hq
     · rcases zLb.1 hp with hp | hp
       · exact zLE _ (n3 p hp o ho)
       · obtain ⟨q, hq, rfl⟩ := zKX.1 hp;simp [Obj.refs] at ho
   · cases h
 · rename_i hz;rw [zKM hz];exact zmR hF h
theorem zfo {o : Nat} : ∀ {ms : List Bool} {xs : List AV}, o ∈ zy ms xs -> AV.refsL o xs = true
 | _, [], h => by simp [zy] at h
 | [], x :: xs, h => by
  simp only [zy, zLb] at h;simp only [AV.refsL, zLs]
  rcases h with h | h
  · exact .inl (zf6 h)
  · exact .inr (zfo h)
 | true :: ms, x :: xs, h => by
  simp only [zy] at h;simp only [AV.refsL, zLs];exact .inr (zfo h)
 | false :: ms, x :: xs, h => by
  simp only [zy, zLb] at h;simp only [AV.refsL, zLs]
  rcases h with h | h
  · exact .inl (zf6 h)
  · exact .inr (zfo h)
theorem zfi {H : za} {o : Nat} : ∀ {ms : List Bool} {xs zKJ : List AV}, zY H ms xs = some zKJ -> AV.refsL o xs = false -> AV.refsL o zKJ = false
 | _, [], zKJ, h, _ => by cases ‹List Bool› <;> (simp [zY] at h; subst h; rfl)
 | [], x :: xs, zKJ, h, hr => by
  simp only [zY] at h;obtain ⟨d, _, h⟩ := zKK.1 h;obtain ⟨bs, h1, rfl⟩ := zKL.1 h;simp only [AV.refsL, zLZ] at hr ⊢;exact ⟨rfl, zfi h1 hr.2⟩
 | true :: ms, x :: xs, zKJ, h, hr => by
  simp only [zY] at h;obtain ⟨bs, h1, rfl⟩ := zKL.1 h;simp only [AV.refsL, zLZ] at hr ⊢;exact ⟨hr.1, zfi h1 hr.2⟩
 | false :: ms, x :: xs, zKJ, h, hr => by
  simp only [zY] at h;obtain ⟨d, _, h⟩ := zKK.1 h;obtain ⟨bs, h1, rfl⟩ := zKL.1 h;simp only [AV.refsL, zLZ] at hr ⊢;exact ⟨rfl, zfi h1 hr.2⟩
theorem zmW {H : za} {dst : Nat} {ms : List Bool} {args : List AV} : ∀ o ∈ (zai H dst ms args).2, o ∈ (zai H dst ms args).1 := by
 intro o ho;simp only [zai, zLb] at ho ⊢
 rcases ho with ho | ho
 · exact .inl ho
 · exact .inr (.inr ho)
theorem zxH {H : za} {dst : Nat} {ms : List Bool} {args : List AV} : ∀ o ∈ (zaD H dst ms args).2, o ∈ (zaD H dst ms args).1 := by
 intro o ho;unfold zaD at ho ⊢
 split at ho
 · rename_i hz;rw [zKN hz]
   rcases zLb.1 ho with ho | ho
   · exact zL8 _ (zmW o ho)
   · exact zLE _ (by simp [zai, ho])
 · rename_i hz;rw [zKM hz];exact zmW o ho
theorem zxG {H H2 : za} {dst : Nat} {ms : List Bool} {args : List AV} {o : Nat} (hh : ∀ o ∈ (zaD H dst ms args).1, look o H2 = look o H) (ha : AV.refsL o args = false) (h2 : refsHeap o H2 = false) (hn : o ∉ fr4 dst) : o ∉ (zaD H dst ms args).2 := by
 unfold zaD at hh ⊢
 split
 · rename_i hz;rw [zKN hz] at hh;have hds : ∀ o ∈ zy ms args, look o H2 = look o H := fun o ho => hh o (by simp [zai, ho]);have hfz : zP H2 (zy ms args) = zP H (zy ms args) := by
    unfold zP;refine zLF fun o ho => ?_;unfold mark; rw [hds o ho]
   simp only [zai, zLb];rintro ((hm | hm) | hm)
   · have hnames : ∀ q ∈ zX (zo (zP H (zy ms args)) H) ms ((zY H ms args).getD []), look q (zo (zP H (zy ms args)) H2) = look q (zo (zP H (zy ms args)) H) := fun q hq => by
      rw [zaH, zaH, hh q (by simp [zai, hq])]
     rw [<- zhR hnames] at hm;refine zsf ?_ (zh1 (fun p hp => by obtain ⟨q, _, rfl⟩ := zKX.1 hp; rfl) h2) hm
     cases hc : zY H ms args with
     | none => rfl
     | some zKJ => exact zfi hc ha
   · exact hn hm
   · have := zfo hm;rw [ha] at this; cases this
 · rename_i hz;rw [zKM hz] at hh;simp only [zai, zLb];rintro (hm | hm)
   · have hnames : ∀ q ∈ zX H ms args, look q H2 = look q H := fun q hq => hh q (by simp [zai, hq]);rw [<- zhR hnames] at hm;exact zsf ha h2 hm
   · exact hn hm
end Go.Sim

namespace Go.Sim
open Go (World Value Addr TypeId Act)
variable {P : Program} {C : Ctx}
def zh.reads (x : zh) : List Nat := (x.op.opds.filterMap fun y => match y with | .t n => some n | .c _ => none) ++ (match x.guard with | some (t, _) => [t] | none => [])
def zcD (x y : zh) : Bool :=
 (match x.dst with | some d => !y.reads.contains d && !(y.dst == some d) | none => true) && (match y.dst with | some d => !x.reads.contains d | none => true)
inductive za5 (ops : Array Oper) : Nat -> Nat -> Prop
 | one {j : Nat} {o : Oper} {e : Edge} (ho : ops[j]? = some o) (he : e ∈ o.after) (hb : Region.binds .any e = true) : za5 ops j e.on
 | more {j k : Nat} {o : Oper} {e : Edge} (ho : ops[j]? = some o) (he : e ∈ o.after) (hb : Region.binds .any e = true) (h : za5 ops e.on k) : za5 ops j k
def zg4 (o : Oper) : List Nat := (o.after.toList.filter fun e => Region.binds .any e).map (·.on)
def maskOf (ms : List Nat) : List Nat -> Nat
 | [] => 0
 | d :: ds => (2 ^ d ||| ms.getD d 0) ||| maskOf ms ds
def zbE (l : List Oper) : Nat -> List Nat
 | 0 => []
 | n + 1 => match l[n]? with
  | some o => zbE l n ++ [maskOf (zbE l n) (zg4 o)]
  | none => zbE l n
def zrc (ms : List Nat) (j : Nat) : List Nat := (List.range j).filter fun k => !(ms.getD j 0).testBit k
def zbP (ops : Array Oper) (j : Nat) : List Nat := zrc (zbE ops.toList ops.size) j
theorem zyi {ops : Array Oper} {j : Nat} {o : Oper} (ho : ops[j]? = some o) {d : Nat} (hd : d ∈ zg4 o) : za5 ops j d := by
 obtain ⟨e, he, rfl⟩ := zKX.1 hd;obtain ⟨he, hb⟩ := zMj.1 he;exact .one ho (by simpa using he) hb
theorem zyh {ops : Array Oper} {j k : Nat} {o : Oper} (ho : ops[j]? = some o) {d : Nat} (hd : d ∈ zg4 o) (h : za5 ops d k) : za5 ops j k := by
 obtain ⟨e, he, rfl⟩ := zKX.1 hd;obtain ⟨he, hb⟩ := zMj.1 he;exact .more ho (by simpa using he) hb h
theorem zCs {ms : List Nat} {k : Nat} : ∀ {ds : List Nat}, (maskOf ms ds).testBit k = true -> ∃ d ∈ ds, d = k \/ (ms.getD d 0).testBit k = true := by
 intro ds
 induction ds with
 | nil => intro h; simp [maskOf] at h
 | cons d ds ih =>
  intro h;simp only [maskOf, Nat.testBit_or, zLs, Nat.testBit_two_pow, decide_eq_true_eq] at h
  rcases h with (h | h) | h
  · exact ⟨d, .head _, .inl h⟩
  · exact ⟨d, .head _, .inr h⟩
  · obtain ⟨d', h1, h2⟩ := ih h; exact ⟨d', .tail _ h1, h2⟩
theorem zCt {ops : Array Oper} : ∀ n, (zbE ops.toList n).length = min n ops.size /\ ∀ j k, ((zbE ops.toList n).getD j 0).testBit k = true -> za5 ops j k := by
 intro n
 induction n with
 | zero => exact ⟨by simp [zbE], fun j k h => by simp [zbE] at h⟩
 | succ n ih =>
  simp only [zbE]
  split
  · rename_i o ho;have hn : n < ops.size := by
     have := (zKP.1 ho).1; simpa using this
    have ho' : ops[n]? = some o := by simpa using ho
    refine ⟨by rw [zKO, ih.1]; simp; omega, fun j k h => ?_⟩;rw [zL7, List.getElem?_append] at h
    split at h
    · exact ih.2 j k (by rw [zL7]; exact h)
    · rename_i hj;have hl : (zbE ops.toList n).length = n := by rw [ih.1]; omega
      by_cases hj2 : j = n
      · subst hj2;rw [hl, zLM] at h;simp only [zMt, zLX] at h;obtain ⟨d, hd, h1⟩ := zCs h
        rcases h1 with rfl | h1
        · exact zyi ho' hd
        · exact zyh ho' hd (ih.2 d k h1)
      · rw [zMh (by simp; omega)] at h;simp at h
  · rename_i ho;have hn : ops.size <= n := by
     rw [List.getElem?_eq_none_iff] at ho; simpa using ho
    exact ⟨by rw [ih.1]; omega, ih.2⟩
theorem zCv {ops : Array Oper} {j k : Nat} (hkj : k < j) (hno : ¬ za5 ops j k) : k ∈ zbP ops j := by
 unfold zbP zrc;simp only [zMj, List.mem_range, hkj, true_and, zLC]
 cases h : ((zbE ops.toList ops.size).getD j 0).testBit k with
 | false => rfl
 | true => exact absurd ((zCt _).2 j k h) hno
def AOp.cleanB (op : AOp) : Bool :=
 (op.opds.all fun y => match y with | .t _ => true | .c x => x.objs.isEmpty) &&
 (match op with
  | .alloc z => z.objs.isEmpty
  | .build z _ => (AV.objsL z).isEmpty
  | .bsl _ _ z _ => z.objs.isEmpty
  | .mks _ z _ _ => z.objs.isEmpty
  | _ => true)
def zh.newNames (x : zh) : List Nat :=
 match x.op with
 | .call _ _ _ => fr4 (x.dst.getD 0)
 | .callv _ _ _ => fr4 (x.dst.getD 0)
 | op => if op.news then [x.dst.getD 0] else []
def zgL (l : List zh) (n j : Nat) (x : zh) : Bool :=
 x.newNames.isEmpty || (match x.dst with
  | some d => decide (d < 10000) && (List.range n).all fun k => k == j || match l[k]? with | some y => y.newNames.isEmpty || !(y.dst == some d) | none => false
  | none => false)
def zm7 (ops : Array Oper) (l : List zh) : Bool :=
 (List.range ops.size).all fun j =>
  match ops[j]?, l[j]? with
  | some o, some x =>
   (o.after.toList.all fun e => !Region.binds .any e || decide (e.on < j)) &&
   ((zbP ops j).all fun k => match l[k]? with | some y => zcD y x | none => false) &&
   x.op.cleanB && zgL l ops.size j x
  | _, _ => false
theorem zgm {w : World} {R : Nat -> Prop} {ι : Inj} {mk : Nat -> Option Nat} : VA w R ι mk (.d (.tup [])) Go.undef := .d (.tup (vs := []) rfl fun i c u h => by simp at h)
theorem VA.tup0_inv {w : World} {R : Nat -> Prop} {ι : Inj} {mk : Nat -> Option Nat} {u : Value} (h : VA w R ι mk (.d (.tup [])) u) : u = .tuple #[] := by
 cases h with
 | d h =>
  cases h with
  | tup hl => have := List.eq_nil_of_length_eq_zero hl; subst this; rfl
def zbV (o : Nat) (S : St) : Prop := refsEnv o S.env = false /\ refsHeap o S.heap = false
def shp : Option Obj -> Option (List Nat)
 | some (.row es) => some (es.map AV.size)
 | _ => none
def zI : List Nat -> List Nat
 | [] => []
 | o :: l => (2 * o) :: (2 * o + 1) :: zI l
theorem zcA {o : Nat} {l : List Nat} (h : o ∈ l) : 2 * o ∈ zI l := by
 induction l with
 | nil => cases h
 | cons x l ih =>
  simp only [zI]
  cases h with
  | head => exact .head _
  | tail _ h => exact .tail _ (.tail _ (ih h))
theorem zir {o : Nat} {l : List Nat} (h : o ∈ l) : 2 * o + 1 ∈ zI l := by
 induction l with
 | nil => cases h
 | cons x l ih =>
  simp only [zI]
  cases h with
  | head => exact .tail _ (.head _)
  | tail _ h => exact .tail _ (.tail _ (ih h))
theorem zJP {t : Nat} {l : List Nat} (h : t ∈ zI l) : ∃ o ∈ l, t = 2 * o \/ t = 2 * o + 1 := by
 induction l with
 | nil => cases h
 | cons x l ih =>
  simp only [zI, zLD] at h
  rcases h with h | h | h
  · exact ⟨x, .head _, .inl h⟩
  · exact ⟨x, .head _, .inr h⟩
  · obtain ⟨o, h1, h2⟩ := ih h; exact ⟨o, .tail _ h1, h2⟩
theorem zsW {a b : List Nat} (h : ∀ o ∈ a, o ∈ b) : ∀ t ∈ zI a, t ∈ zI b := by
 intro t ht;obtain ⟨o, h1, h2⟩ := zJP ht
 rcases h2 with rfl | rfl
 · exact zcA (h o h1)
 · exact zir (h o h1)
structure zaw (x : zh) (Fo : List Nat) (S S2 : St) : Prop where
 env : ∀ t ∈ x.reads, look t S2.env = look t S.env
 heap : ∀ o, 2 * o ∈ Fo -> look o S2.heap = look o S.heap
 shape : ∀ o, 2 * o + 1 ∈ Fo -> shp (look o S2.heap) = shp (look o S.heap)
theorem zaw.ev {x : zh} {Fo : List Nat} {S S2 : St} (h : zaw x Fo S S2) : ∀ y ∈ x.op.opds, y.ev S2.env = y.ev S.env := by
 intro y hy
 cases y with
 | c v => rfl
 | t n =>
  simp only [Opd.ev];rw [h.env n];simp only [zh.reads, zLb, List.mem_filterMap];exact .inl ⟨_, hy, rfl⟩
structure zdR (F : zC) (x : zh) (S : St) (v : AV) (δ : za) (Fo W : List Nat) : Prop where
 sub : ∀ o ob, (o, ob) ∈ δ -> 2 * o ∈ W
 keep : ∀ o ob, (o, ob) ∈ δ -> 2 * o + 1 ∈ W \/ shp (some ob) = shp (look o S.heap)
 subF : ∀ o ∈ W, o ∈ Fo
 same : ∀ S2, zaw x Fo S S2 -> (∀ n ∈ x.newNames, zbV n S2) ->
  step F S2.env S2.heap (x.dst.getD 0) x.op = some (v, zo δ S2.heap) /\
  (∀ o, zbV o S2 -> o ∉ x.newNames -> v.refs o = false /\ refsHeap o (zo δ S2.heap) = false)
variable {F : zC}
def zcH (a b : List Nat) : Bool := a.all fun o => !b.contains o
def zcM (p q : List Nat × List Nat) : Bool := zcH p.2 q.1 && zcH q.2 p.1
def Gd (x : zh) (S : St) : Option Bool :=
 match x.guard with
 | none => some true
 | some (t, b) => match look t S.env with | some (.d (.bool c)) => some (c == b) | some (.d (.tup [])) => some false | _ => none
def Y (F : zC) (x : zh) (S : St) (v : AV) (δ : za) (p : List Nat × List Nat) : Prop :=
 (Gd x S = some true /\ zdR F x S v δ p.1 p.2) \/ (Gd x S = some false /\ v = .d (.tup []) /\ δ = [])
def ap (x : zh) (S : St) (v : AV) (δ : za) : St := St.put ⟨S.env, zo δ S.heap⟩ x.dst v
theorem zaw.gd {x : zh} {Fo : List Nat} {S S2 : St} (h : zaw x Fo S S2) : Gd x S2 = Gd x S := by
 unfold Gd
 cases hg : x.guard with
 | none => rfl
 | some p =>
  obtain ⟨t, b⟩ := p;simp only [];rw [h.env t (by simp [zh.reads, hg])]
theorem zaw.trans {x : zh} {Fo : List Nat} {S S2 S3 : St} (h : zaw x Fo S S2) (h' : zaw x Fo S2 S3) : zaw x Fo S S3 :=
 ⟨fun t ht => (h'.env t ht).trans (h.env t ht), fun o ho => (h'.heap o ho).trans (h.heap o ho), fun o ho => (h'.shape o ho).trans (h.shape o ho)⟩
theorem Y.agree {x : zh} {S S2 : St} {v : AV} {δ : za} {p : List Nat × List Nat} (h : Y F x S v δ p) (ha : zaw x p.1 S S2) : Y F x S2 v δ p := by
 rcases h with ⟨h1, h2⟩ | ⟨h1, h2, h3⟩
 · exact .inl ⟨ha.gd.trans h1, h2.sub, fun o ob ho => (h2.keep o ob ho).imp id fun h => by rw [ha.heap o (h2.subF _ (h2.sub o ob ho))]; exact h, h2.subF, fun S3 h3 h4 => h2.same S3 (ha.trans h3) h4⟩
 · exact .inr ⟨ha.gd.trans h1, h2, h3⟩
theorem Y.sub {x : zh} {S : St} {v : AV} {δ : za} {p : List Nat × List Nat} (h : Y F x S v δ p) : ∀ o ob, (o, ob) ∈ δ -> 2 * o ∈ p.2 /\ 2 * o ∈ p.1 := by
 rcases h with ⟨h1, h2⟩ | ⟨h1, h2, rfl⟩
 · exact fun o ob ho => ⟨h2.sub o ob ho, h2.subF _ (h2.sub o ob ho)⟩
 · exact fun o ob ho => nomatch ho
theorem Y.keep {x : zh} {S : St} {v : AV} {δ : za} {p : List Nat × List Nat} (h : Y F x S v δ p) : ∀ o ob, (o, ob) ∈ δ -> 2 * o + 1 ∈ p.2 \/ shp (some ob) = shp (look o S.heap) := by
 rcases h with ⟨h1, h2⟩ | ⟨h1, h2, rfl⟩
 · exact h2.keep
 · exact fun o ob ho => nomatch ho
def Same (S S' : St) : Prop := (∀ t, look t S.env = look t S'.env) /\ (∀ o, look o S.heap = look o S'.heap)
theorem Same.agree {S S' : St} (h : Same S S') (x : zh) (Fo : List Nat) : zaw x Fo S S' := ⟨fun t _ => (h.1 t).symm, fun o _ => (h.2 o).symm, fun o _ => by rw [h.2 o]⟩
theorem Same.symm {S S' : St} (h : Same S S') : Same S' S := ⟨fun t => (h.1 t).symm, fun o => (h.2 o).symm⟩
theorem Same.trans {S S' S'' : St} (h : Same S S') (h' : Same S' S'') : Same S S'' := ⟨fun t => (h.1 t).trans (h'.1 t), fun o => (h.2 o).trans (h'.2 o)⟩
theorem zCe {S : St} {dst : Option Nat} {v : AV} {t : Nat} : look t (S.put dst v).env = if dst = some t then some v else look t S.env := by
 cases dst with
 | none => simp [St.put]
 | some d =>
  simp only [St.put, zr4, Option.some.injEq]
  by_cases h : t = d
  · simp [h]
  · rw [zKM h, zKM (Ne.symm h)]
theorem zzV {S : St} {dst : Option Nat} {v : AV} : (S.put dst v).heap = S.heap := by cases dst <;> rfl
theorem zcp {x : zh} {S : St} {v : AV} {δ : za} {t : Nat} : look t (ap x S v δ).env = if x.dst = some t then some v else look t S.env := zCe
theorem zbk {x : zh} {S : St} {v : AV} {δ : za} : (ap x S v δ).heap = zo δ S.heap := zzV
theorem Same.ap {S S' : St} (h : Same S S') (x : zh) (v : AV) (δ : za) : Same (ap x S v δ) (ap x S' v δ) := by
 refine ⟨fun t => ?_, fun o => ?_⟩
 · rw [zcp, zcp, h.1 t]
 · rw [zbk, zbk, zaH, zaH, h.2 o]
theorem zhK {α : Type} {o : Nat} {l : List (Nat × α)} (h : ∀ ob, (o, ob) ∉ l) : look o l = none := by
 cases hh : look o l with
 | none => rfl
 | some ob => exact absurd (zu hh) (h ob)
theorem zti {x y : zh} (h : zcD x y = true) : (∀ d, x.dst = some d -> d ∉ y.reads /\ y.dst ≠ some d) /\ (∀ d, y.dst = some d -> d ∉ x.reads) := by
 refine ⟨fun d hd => ?_, fun d hd => ?_⟩ <;> simp [zcD, hd] at h
 · exact h.1
 · exact h.2
theorem zfq {a b : List Nat} (h : zcH a b = true) {o : Nat} (ha : o ∈ a) (hb : o ∈ b) : False := by
 have := zK4.1 h o ha;simp [hb] at this
theorem swap {x y : zh} {S : St} {v u : AV} {δ ε : za} {p q : List Nat × List Nat} (hx : Y F x S v δ p) (hy : Y F y (ap x S v δ) u ε q) (ha : zcD x y = true) (hi : zcM p q = true) :
    Y F y S u ε q /\ Y F x (ap y S u ε) v δ p /\ Same (ap y (ap x S v δ) u ε) (ap x (ap y S u ε) v δ) := by
 obtain ⟨h1, h2⟩ := zti ha;simp only [zcM, zKW] at hi;have e1 : ∀ o, 2 * o ∈ q.1 -> look o (zo δ S.heap) = look o S.heap := fun o ho => by
  rw [zaH, zhK fun ob hob => zfq hi.1 (hx.sub o ob hob).1 ho]; rfl
 have e2 : ∀ o, 2 * o ∈ p.1 -> look o (zo ε S.heap) = look o S.heap := fun o ho => by
  rw [zaH, zhK fun ob hob => zfq hi.2 (hy.sub o ob hob).1 ho]; rfl
 have sh : ∀ {z : zh} {v' : AV} {δ' : za} {p' q' : List Nat × List Nat}, Y F z S v' δ' p' -> zcH p'.2 q'.1 = true -> ∀ o, 2 * o + 1 ∈ q'.1 -> shp (look o (zo δ' S.heap)) = shp (look o S.heap) := by
  intro z v' δ' p' q' hz hd o ho;rw [zaH]
  cases hl : look o δ' with
  | none => rfl
  | some ob =>
   rcases hz.keep o ob (zu hl) with h | h
   · exact (zfq hd h ho).elim
   · exact h
 have hy' : Y F y S u ε q := hy.agree ⟨fun t ht => by
     rw [zcp, zKM fun hd => (h1 t hd).1 ht], fun o ho => by rw [zbk, e1 o ho], fun o ho => by rw [zbk, sh hx hi.1 o ho]⟩
 refine ⟨hy', hx.agree ⟨fun t ht => by rw [zcp, zKM fun hd => h2 t hd ht], fun o ho => by rw [zbk, e2 o ho], fun o ho => by rw [zbk, sh hy' hi.2 o ho]⟩, fun t => ?_, fun o => ?_⟩
 · rw [zcp, zcp, zcp, zcp]
   by_cases hd : x.dst = some t
   · rw [zKN hd, zKN hd, zKM (h1 t hd).2]
   · rw [zKM hd, zKM hd]
 · rw [zbk, zbk, zbk, zbk, zaH, zaH, zaH, zaH]
   cases hd : look o δ with
   | none => simp
   | some ob =>
    have hm := zu hd;rw [zhK (l := ε) fun ob' hob => zfq hi.1 (hx.sub o ob hm).1 (hy.sub o ob' hob).2];rfl
def zbe (F : zC) (ops : Array Oper) (l : List zh) (pl : Nat -> List Nat × List Nat) (E : St) : Nat -> Array Bool -> St -> Prop
 | 0, listed, S => Region.ready .any ops listed = [] /\ Same S E
 | n + 1, listed, S => (Region.ready .any ops listed = [] -> Same S E) /\
  ∀ i ∈ Region.ready .any ops listed, ∃ x v δ, l[i]? = some x /\ Y F x S v δ (pl i) /\ zbe F ops l pl E n (listed.setIfInBounds i true) (ap x S v δ)
variable {ops : Array Oper} {l : List zh} {pl : Nat -> List Nat × List Nat} {E : St}
theorem zbe.same : ∀ {n : Nat} {listed : Array Bool} {S S' : St}, zbe F ops l pl E n listed S -> Same S S' -> zbe F ops l pl E n listed S'
 | 0, _, _, _, h, hs => ⟨h.1, hs.symm.trans h.2⟩
 | n + 1, _, _, _, h, hs => ⟨fun h0 => hs.symm.trans (h.1 h0), fun i hi => by
     obtain ⟨x, v, δ, h1, h2, h3⟩ := h.2 i hi;exact ⟨x, v, δ, h1, h2.agree (hs.agree _ _), h3.same (hs.ap x v δ)⟩⟩
def zbr (ops : Array Oper) (listed : Array Bool) : Prop := ∀ j o, ops[j]? = some o -> listed.getD j false = true -> ∀ e ∈ o.after, Region.binds .any e = true -> listed.getD e.on false = true
theorem zbr.path {listed : Array Bool} (h : zbr ops listed) {j k : Nat} (hp : za5 ops j k) : listed.getD j false = true -> listed.getD k false = true := by
 induction hp with
 | one ho he hb => exact fun hj => h _ _ ho hj _ he hb
 | more ho he hb _ ih => exact fun hj => ih (h _ _ ho hj _ he hb)
theorem zbr.ready {listed : Array Bool} (h : zbr ops listed) {j k : Nat} {o : Oper} (ho : ops[j]? = some o) (hall : ∀ e ∈ o.after, Region.binds .any e = true -> listed.getD e.on false = true) (hp : za5 ops j k) : listed.getD k false = true := by
 cases hp with
 | one ho' he hb => rw [ho] at ho'; cases ho'; exact hall _ he hb
 | more ho' he hb hp => rw [ho] at ho'; cases ho'; exact h.path hp (hall _ he hb)
theorem zbr.set {listed : Array Bool} (h : zbr ops listed) {j : Nat} {o : Oper} (ho : ops[j]? = some o) (hall : ∀ e ∈ o.after, Region.binds .any e = true -> listed.getD e.on false = true) : zbr ops (listed.setIfInBounds j true) := by
 have mono : ∀ i, listed.getD i false = true -> (listed.setIfInBounds j true).getD i false = true := fun i hi => by
  rw [zLH] at hi ⊢;rw [zMw]
  split
  · split
    · rfl
    · rename_i h1 h2; subst h1; rw [zMx (by omega)] at hi; simp at hi
  · exact hi
 intro i oi hoi hi e he hb;refine mono _ ?_
 by_cases hij : j = i
 · subst hij; rw [ho] at hoi; cases hoi; exact hall e he hb
 · refine h i oi hoi ?_ e he hb;rw [zLH] at hi ⊢
   rwa [zMw, zKM hij] at hi
theorem zbe.first {k : Nat} {x : zh} {v : AV} {δ : za} (hk : l[k]? = some x) :
    ∀ (n : Nat) (listed : Array Bool) (S : St),
     zbr ops listed -> (∀ j o y, ops[j]? = some o -> l[j]? = some y -> j ≠ k -> listed.getD j true = false -> ¬ za5 ops j k -> zcD x y = true /\ zcM (pl k) (pl j) = true) ->
     k ∈ Region.ready .any ops listed -> Y F x S v δ (pl k) -> zbe F ops l pl E n (listed.setIfInBounds k true) (ap x S v δ) -> zbe F ops l pl E (n + 1) listed S := by
 intro n
 induction n with
 | zero =>
  intro listed S _ _ hr hy H;refine ⟨fun h => (by rw [h] at hr; cases hr), fun j hj => ?_⟩
  by_cases hjk : j = k
  · subst hjk; exact ⟨x, v, δ, hk, hy, H⟩
  · have := ready_mono hj hjk;rw [H.1] at this
    cases this
 | succ n ih =>
  intro listed S hcl hfree hr hy H;refine ⟨fun h => (by rw [h] at hr; cases hr), fun j hj => ?_⟩
  by_cases hjk : j = k
  · subst hjk; exact ⟨x, v, δ, hk, hy, H⟩
  · obtain ⟨y, u, ε, h1, h2, h3⟩ := H.2 j (ready_mono hj hjk);obtain ⟨hjun, oj, hoj, hall⟩ := mem_ready.1 hj;have hnot : ¬ za5 ops j k := fun hp => by
     have h1 := hcl.ready hoj hall hp;have h0 := (mem_ready.1 hr).1
     rcases zLV k listed.size with h' | h'
     · simp [h'] at h0 h1; rw [h0] at h1; cases h1
     · simp [zMx h'] at h1
    obtain ⟨hap, hin⟩ := hfree j oj y hoj h1 hjk hjun hnot;obtain ⟨s1, s2, s3⟩ := swap hy h2 hap hin;refine ⟨y, u, ε, h1, s1, ih _ _ (hcl.set hoj hall) (fun i o z ho hz hik hun hno => hfree i o z ho hz hik ?_ hno) (ready_mono hr (Ne.symm hjk)) s2 ?_⟩
    · by_cases hji : j = i
      · subst hji; exact hjun
      · rw [getD_set_ne true hji] at hun; exact hun
    · rw [Array.setIfInBounds_comm _ _ hjk];exact h3.same s3
inductive Lex (F : zC) : List zh -> List (List Nat × List Nat) -> St -> St -> Prop
 | nil {S : St} : Lex F [] [] S S
 | cons {x : zh} {l : List zh} {p : List Nat × List Nat} {ps : List (List Nat × List Nat)} {S E : St} {v : AV} {δ : za} (hy : Y F x S v δ p) (h : Lex F l ps (ap x S v δ) E) : Lex F (x :: l) (p :: ps) S E
theorem zB2 (hready : ∀ (k : Nat) (listed : Array Bool), k < l.length -> (∀ i, i < k -> listed.getD i false = true) -> listed.getD k true = false -> k ∈ Region.ready .any ops listed)
    (hsz : ops.size = l.length)
    (hfree : ∀ (k j : Nat) (o : Oper) (x y : zh), k < j -> ops[j]? = some o -> l[k]? = some x -> l[j]? = some y -> ¬ za5 ops j k -> zcD x y = true /\ zcM (pl k) (pl j) = true)
    (hback : ∀ (j : Nat) (o : Oper), ops[j]? = some o -> ∀ e ∈ o.after, Region.binds .any e = true -> e.on < j) :
    ∀ (m : List zh) (ps : List (List Nat × List Nat)) (k : Nat) (listed : Array Bool) (S : St), (∀ j, m[j]? = l[k + j]?) -> (∀ j, j < m.length -> ps[j]? = some (pl (k + j))) -> k + m.length = l.length ->
     listed.size = l.length -> (∀ i, i < k -> listed[i]? = some true) -> (∀ i, k <= i -> i < l.length -> listed[i]? = some false) -> Lex F m ps S E -> zbe F ops l pl E m.length listed S := by
 intro m
 induction m with
 | nil =>
  intro ps k listed S hm hp hlen hls h1 h2 h
  cases h
  refine ⟨?_, fun _ => rfl, fun _ => rfl⟩;refine List.eq_nil_iff_forall_not_mem.2 fun j hj => ?_;obtain ⟨h3, o, h4, _⟩ := mem_ready.1 hj;have hlt := (zLj.1 h4).1;simp at hlen;rw [zLH, h1 j (by omega)] at h3;simp at h3
 | cons x m ih =>
  intro ps k listed S hm hp hlen hls h1 h2 h
  cases h with
  | @cons _ _ p ps _ _ v δ hy h =>
   simp only [zK0] at hlen;have hk : l[k]? = some x := by simpa using (hm 0).symm
   have hpk : p = pl k := by simpa using hp 0 (by simp)
   subst hpk;have hg : ∀ i d, listed.getD i d = (listed[i]?).getD d := fun i d => zLH ..;refine zbe.first hk m.length listed S (fun j o ho hj e he hb => ?_) (fun j o y ho hy' hjk hun hno => ?_) (hready k listed (by omega) (fun i hi => by rw [hg, h1 i hi]; rfl) (by rw [hg, h2 k (zKV _) (by omega)]; rfl)) hy ?_
   · have hjl : j < ops.size := (zLj.1 ho).1
     rcases zLV j k with hlt | hge
     · have := hback j o ho e he hb;rw [hg, h1 e.on (by omega)]; rfl
     · rw [hg, h2 j hge (by omega)] at hj; cases hj
   · have hjl : j < ops.size := (zLj.1 ho).1
     rcases zLV j k with hlt | hge
     · rw [hg, h1 j hlt] at hun; cases hun
     · exact hfree k j o x y (by omega) ho hk hy' hno
   · refine ih ps (k + 1) _ _ (fun j => by have := hm (j + 1); simpa [zLA, Nat.add_comm 1 j] using this) (fun j hj => by have := hp (j + 1) (by simp; omega); simpa [zLA, Nat.add_comm 1 j] using this) (by omega) (by simp [hls]) (fun i hi => ?_) (fun i hi hi' => ?_) h
     · rw [zMw]
       by_cases hik : k = i
       · rw [zKN hik, zKN (by omega)]
       · rw [zKM hik]; exact h1 i (by omega)
     · rw [zMw, zKM (by omega)];exact h2 i (by omega) hi'
theorem zga {x : AV} (h : x.objs = []) (o : Nat) : x.refs o = false := by
 cases hh : x.refs o with
 | false => rfl
 | true => have := zf9 x o hh; rw [h] at this; cases this
theorem zec {op : AOp} (h : op.cleanB = true) (o : Nat) : op.clean o /\ ∀ y ∈ op.opds, ∀ E, refsEnv o E = false -> (y.ev E).refs o = false := by
 simp only [AOp.cleanB, zKW] at h;refine ⟨?_, fun y hy E hE => ?_⟩
 · have h2 := h.2
   cases op with
   | alloc z => exact zga (by simpa using h2) o
   | mks n z l c => exact zga (by simpa using h2) o
   | bsl len n z ps => exact zga (by simpa using h2) o
   | build z ps =>
    intro y hy
    cases hh : y.refs o with
    | false => rfl
    | true =>
     have := zcY z o (AV.refsL_mem hy hh);simp only [zMu] at h2;rw [h2] at this; cases this
   | _ => trivial
 · have := zK4.1 h.1 y hy
   cases y with
   | c v => exact zga (x := v) (by simpa using this) o
   | t n =>
    simp only [Opd.ev]
    cases hl : look n E with
    | none => rfl
    | some v => exact zeH (zu hl) hE
def zdd (H : za) (dst : Nat) (ms : List Bool) (args : List AV) : List Nat × List Nat := (zI (zaD H dst ms args).1, zI (zaD H dst ms args).2)
def zdA (l : List Nat) : List Nat := l.map fun o => 2 * o + 1
def zdk (l : List Nat) : List Nat := l.map fun o => 2 * o
def zeb (H : za) (dst : Nat) (ms : List Bool) (f : AV) (args : List AV) : List Nat × List Nat :=
 match f with
 | .d (.fn _ cs) => zdd H dst ms (args ++ cs.map .d)
 | .fn _ cs => zdd H dst ms (args ++ cs)
 | _ => ([], [])
def AOp.feet (E : Env) (H : za) (dst : Nat) (op : AOp) : List Nat × List Nat :=
 match op with
 | .call _ ms xs => zdd H dst ms (xs.map (·.ev E))
 | .callv f ms xs => zeb H dst ms (f.ev E) (xs.map (·.ev E))
 | .iad n x i => (zdA (AOp.foot E dst (.iad n x i)), [])
 | .st n p x => (zI (AOp.foot E dst (.st n p x)), zdk (AOp.wr E dst (.st n p x)))
 | op => (zI (op.foot E dst), zI (op.wr E dst))
def feet (x : zh) (S : St) : List Nat × List Nat := x.op.feet S.env S.heap (x.dst.getD 0)
theorem zsz {o : Nat} {xs ys : List AV} : AV.refsL o (xs ++ ys) = (AV.refsL o xs || AV.refsL o ys) := by
 induction xs with
 | nil => simp [AV.refsL]
 | cons x xs ih => simp [AV.refsL, ih, Bool.or_assoc]
theorem zsA {o : Nat} {cs : List D} : AV.refsL o (cs.map .d) = false := by
 induction cs with
 | nil => rfl
 | cons x xs ih => simp [AV.refsL, AV.refs, ih]
theorem zh2 {o : Nat} {E : Env} {xs : List Opd} (h : ∀ y ∈ xs, (y.ev E).refs o = false) : AV.refsL o (xs.map (·.ev E)) = false := by
 induction xs with
 | nil => rfl
 | cons x xs ih => simp only [zKS, AV.refsL, h x (.head _), ih fun y hy => h y (.tail _ hy), Bool.or_self]
theorem zCN {H H' : za} {ng : Bool} {x v : AV} (h : zcV H ng x = some (v, H')) : H' = H /\ (∀ H2, zcV H2 ng x = some (v, H2)) /\ ∀ o, v.refs o = false := by
 unfold zcV at h ⊢
 split at h
 · cases h; exact ⟨rfl, fun _ => rfl, fun _ => rfl⟩
 · split at h
   · rename_i hs; cases h; exact ⟨rfl, fun _ => rfl, fun _ => rfl⟩
   · cases h
theorem zsM {x : Option Obj} {l : List Nat} (h : shp x = some l) : ∃ es, x = some (.row es) /\ es.map AV.size = l := by
 unfold shp at h
 split at h
 · rename_i es; cases h; exact ⟨es, rfl, rfl⟩
 · cases h
theorem zzY {H H2 : za} {n : Nat} {k : Int} {x : AV} (h : ∀ o ∈ x.objs, shp (look o H2) = shp (look o H)) : zat H2 n k x = zat H n k x := by
 cases x with
 | osl o off len =>
  have ho := h o (by simp [AV.objs]);simp only [zat];generalize look o H = a at ho ⊢;generalize look o H2 = b at ho ⊢
  split
  · cases hb : shp b with
    | none =>
     rw [hb] at ho;have none_of : ∀ {x : Option Obj}, shp x = none -> (∀ es, x ≠ some (.row es)) := fun hx es e => by subst e; cases hx
     split
     · rename_i es; exact absurd rfl (none_of hb es)
     · split
       · rename_i es; exact absurd rfl (none_of ho.symm es)
       · rfl
    | some l =>
     rw [hb] at ho;obtain ⟨es, rfl, h1⟩ := zsM hb;obtain ⟨fs, rfl, h2⟩ := zsM ho.symm;have hg : ∀ i : Nat, (es[i]?).map AV.size = (fs[i]?).map AV.size := fun i => by rw [<- zKQ, <- zKQ, h1, h2]
     have := hg (off + k.toNat)
     cases he : es[off + k.toNat]? with
     | none =>
      rw [he] at this
      cases hf : fs[off + k.toNat]? with
      | none => simp [he, hf]
      | some q => rw [hf] at this; simp at this
     | some e =>
      rw [he] at this;obtain ⟨e', h3, h4⟩ := zKL.1 this.symm;simp [he, h3, h4]
  · rfl
 | d y => cases y <;> rfl
 | _ => rfl
theorem zJl {E : Env} {H H' : za} {dst n : Nat} {q y : Opd} {v : AV} (h : ze E H dst (.st n q y) = some (v, H')) : ∃ δ, zF (.st n q y) E H dst v H' δ /\ ∀ o ob, (o, ob) ∈ δ -> shp (some ob) = shp (look o H) := by
 simp only [ze] at h
 split at h
 · rename_i o i off hp
   split at h
   · rename_i hc
     split at h
     · rename_i es hes;obtain ⟨e, h1, h2⟩ := zKK.1 h;obtain ⟨e', h3, h4⟩ := zKL.1 h2
       cases h4
       have hmem : o ∈ (AOp.st n q y).foot E dst := by
        simp only [AOp.foot, AOp.looks, if_true, zLb];exact .inl (zaP.2 ⟨q, by simp [AOp.opds], by rw [hp]; simp [AV.objs]⟩)
       refine ⟨[(o, .row (es.set i e'))], ⟨rfl, ?_, fun E2 H2 he hh _ => ?_⟩, fun o' ob ho => ?_⟩
       · intro q ob hq;simp only [zLu, Prod.mk.injEq] at hq;rw [hq.1]; simp [AOp.wr, hp, AV.objs]
       · simp only [ze, he q (by simp [AOp.opds]), he y (by simp [AOp.opds]), hp, hh o hmem, hes];rw [zKN hc, h1];simp [h3, zo]
       · simp only [zLu, Prod.mk.injEq] at ho;obtain ⟨rfl, rfl⟩ := ho;rw [hes];have hsz := (zsv h3).2.1;simp only [shp, zLx, Option.some.injEq];refine List.ext_getElem? fun j => ?_;rw [zMQ]
         split
         · rename_i hij;subst hij
           split
           · rw [zKQ, h1, hsz]; rfl
           · rename_i hlt; simp at hlt; simp [hlt]
         · rfl
     · cases h
   · cases h
 · cases h
theorem zJp (hF : FOK P F) {x : zh} {S : St} (hcl : x.op.cleanB = true) {v : AV} {H' : za} (h : step F S.env S.heap (x.dst.getD 0) x.op = some (v, H')) : ∃ δ, zdR F x S v δ (feet x S).1 (feet x S).2 /\ H' = zo δ S.heap := by
 have call : ∀ (f : FuncId) (ms : List Bool) (args : List AV), feet x S = zdd S.heap (x.dst.getD 0) ms args -> x.newNames = fr4 (x.dst.getD 0) ->
     (∀ S2, zaw x (feet x S).1 S S2 -> step F S2.env S2.heap (x.dst.getD 0) x.op = zbN S2.heap (zS F S2.env S2.heap (x.dst.getD 0) ms f args)) ->
     (∀ o S2, zaw x (feet x S).1 S S2 -> zbV o S2 -> AV.refsL o args = false) ->
     zbN S.heap (zS F S.env S.heap (x.dst.getD 0) ms f args) = some (v, H') -> ∃ δ, zdR F x S v δ (feet x S).1 (feet x S).2 /\ H' = zo δ S.heap := by
  intro f ms args hfeet hnn hst hno h;obtain ⟨⟨v', δ⟩, h1, h2⟩ := zKL.1 h
  cases h2
  obtain ⟨n1, n2, n3⟩ := zxD hF h1;refine ⟨δ, ⟨fun o ob ho => by rw [hfeet]; exact zcA (n1 _ ho), fun o ob ho => .inl (by rw [hfeet]; exact zir (n1 _ ho)), by rw [hfeet]; exact zsW zxH, fun S2 ha hf => ?_⟩, rfl⟩;refine ⟨?_, fun o ho hn => ?_⟩
  · rw [hst S2 ha, zxC hF h1 (fun o ho => ha.heap o (by rw [hfeet]; exact zcA ho)) (fun n hn => hf n (by rw [hnn]; exact hn))];rfl
  · have hnot : o ∉ (zaD S.heap (x.dst.getD 0) ms args).2 := zxG (fun q hq => ha.heap q (by rw [hfeet]; exact zcA hq)) (hno o S2 ha ho) ho.2 (by rw [<- hnn]; exact hn);refine ⟨?_, zh1 (fun p hp => ?_) ho.2⟩
    · show v'.refs o = false
      cases hr : v'.refs o with
      | false => rfl
      | true => exact absurd (n2 o hr) hnot
    · cases hr : p.2.refs o with
      | false => rfl
      | true => exact absurd (n3 p hp o hr) hnot
 have simple : step F S.env S.heap (x.dst.getD 0) x.op = ze S.env S.heap (x.dst.getD 0) x.op -> (∀ E H, step F E H (x.dst.getD 0) x.op = ze E H (x.dst.getD 0) x.op) -> feet x S = (zI (x.op.foot S.env (x.dst.getD 0)), zI (x.op.wr S.env (x.dst.getD 0))) ->
     (x.newNames = if x.op.news then [x.dst.getD 0] else []) -> ∃ δ, zdR F x S v δ (feet x S).1 (feet x S).2 /\ H' = zo δ S.heap := by
  intro e1 e2 hfeet hnn;rw [e1] at h;obtain ⟨δ, hl⟩ := ztr h;refine ⟨δ, ⟨by rw [hfeet]; exact fun o ob ho => zcA (hl.sub o ob ho), by rw [hfeet]; exact fun o ob ho => .inl (zir (hl.sub o ob ho)), by rw [hfeet]; exact zsW fun o ho => AOp.wr_foot ho, fun S2 ha hf => ?_⟩, hl.eq⟩;have hst := hl.same S2.env S2.heap ha.ev (fun o ho => ha.heap o (by rw [hfeet]; exact zcA ho)) (fun hnew => hf _ (by rw [hnn, hnew]; simp));refine ⟨by rw [e2]; exact hst, fun o ho hn => ?_⟩;obtain ⟨c1, c2⟩ := zec hcl o;exact zgO hst (fun y hy => c2 y hy _ ho.1) ho.2 c1 fun hnew => by rw [hnn, hnew] at hn; simpa using hn
 have evs : ∀ {xs : List Opd} {S2 : St}, (∀ y ∈ xs, y ∈ x.op.opds) -> ∀ o, zbV o S2 -> ∀ y ∈ xs, (y.ev S2.env).refs o = false := fun hx o ho y hy => (zec hcl o).2 y (hx y hy) _ ho.1
 cases hop : x.op with
 | call f ms xs =>
  rw [hop] at h;simp only [step] at h;have hev : ∀ S2, zaw x (feet x S).1 S S2 -> xs.map (·.ev S2.env) = xs.map (·.ev S.env) := fun S2 ha => by
   have := ha.ev;rw [hop] at this;exact zhN this
  refine call f ms (xs.map (·.ev S.env)) (by simp [feet, hop, AOp.feet]) (by simp [zh.newNames, hop]) (fun S2 ha => ?_) (fun o S2 ha ho => ?_) h
  · rw [hop]; simp only [step]; rw [hev S2 ha]
  · rw [<- hev S2 ha]; exact zh2 (evs (by rw [hop]; intro y hy; exact hy) o ho)
 | callv f ms xs =>
  rw [hop] at h;have hev : ∀ S2, zaw x (feet x S).1 S S2 -> f.ev S2.env = f.ev S.env /\ xs.map (·.ev S2.env) = xs.map (·.ev S.env) := fun S2 ha => by
   have := ha.ev;rw [hop] at this;exact ⟨this f (by simp [AOp.opds]), zLF fun y hy => this y (by simp [AOp.opds, hy])⟩
  simp only [step, zbO] at h
  split at h
  · rename_i g cs hf;refine call g ms (xs.map (·.ev S.env) ++ cs.map .d) (by simp [feet, hop, AOp.feet, zeb, hf]) (by simp [zh.newNames, hop]) (fun S2 ha => ?_) (fun o S2 ha ho => ?_) h
    · rw [hop]; simp only [step, zbO]; rw [(hev S2 ha).1, (hev S2 ha).2, hf]
    · rw [zsz, zsA, zL5, <- (hev S2 ha).2];exact zh2 (evs (by rw [hop]; intro y hy; simp [AOp.opds, hy]) o ho)
  · rename_i g cs hf;refine call g ms (xs.map (·.ev S.env) ++ cs) (by simp [feet, hop, AOp.feet, zeb, hf]) (by simp [zh.newNames, hop]) (fun S2 ha => ?_) (fun o S2 ha ho => ?_) h
    · rw [hop]; simp only [step, zbO]; rw [(hev S2 ha).1, (hev S2 ha).2, hf]
    · rw [zsz, <- (hev S2 ha).2, zh2 (evs (by rw [hop]; intro y hy; simp [AOp.opds, hy]) o ho), zMi];have := (zec hcl o).2 f (by rw [hop]; simp [AOp.opds]) S2.env ho.1;rw [(hev S2 ha).1, hf] at this;exact this
  · simp [zbN] at h
 | iad n y i =>
  rw [hop] at h;have hx : feet x S = (zdA (AOp.foot S.env (x.dst.getD 0) (.iad n y i)), []) := by simp [feet, hop, AOp.feet]
  have h : ze S.env S.heap (x.dst.getD 0) (.iad n y i) = some (v, H') := h;simp only [ze] at h;obtain ⟨k, hk, h⟩ := zKK.1 h
  split at h
  · rename_i h0;obtain ⟨v', hv', h⟩ := zKL.1 h
    cases h
    have hst : ∀ S2, zaw x (feet x S).1 S S2 -> step F S2.env S2.heap (x.dst.getD 0) x.op = some (v, S2.heap) := fun S2 ha => by
     have hev := ha.ev;rw [hop] at hev ⊢;show ze S2.env S2.heap (x.dst.getD 0) (.iad n y i) = _;simp only [ze, hev y (by simp [AOp.opds]), hev i (by simp [AOp.opds]), hk, zLi];rw [zKN h0, zzY (H := S.heap) fun o ho => ha.shape o ?_, hv']
     · rfl
     · rw [hx];refine zKX.2 ⟨o, ?_, rfl⟩;simp only [AOp.foot, AOp.looks, if_true, zLb];exact .inl (zaP.2 ⟨y, by simp [AOp.opds], ho⟩)
    refine ⟨[], ⟨(fun o ob h => nomatch h), (fun o ob h => nomatch h), by rw [hx]; simp, fun S2 ha _ => ⟨hst S2 ha, fun o ho hn => ?_⟩⟩, rfl⟩;have hq := hst S2 ha;rw [hop] at hq;obtain ⟨c1, c2⟩ := zec hcl o;rw [hop] at c1 c2;exact zgO (op := .iad n y i) (dst := x.dst.getD 0) hq (fun y hy => c2 y hy _ ho.1) ho.2 c1 (by simp [AOp.news])
  · cases h
 | st n q y =>
  rw [hop] at h;have hx : feet x S = (zI (AOp.foot S.env (x.dst.getD 0) (.st n q y)), zdk (AOp.wr S.env (x.dst.getD 0) (.st n q y))) := by simp [feet, hop, AOp.feet]
  have h : ze S.env S.heap (x.dst.getD 0) (.st n q y) = some (v, H') := h;obtain ⟨δ, hl, hkeep⟩ := zJl h;refine ⟨δ, ⟨fun o ob ho => by rw [hx]; exact zKX.2 ⟨o, hl.sub o ob ho, rfl⟩, fun o ob ho => .inr (hkeep o ob ho), fun t ht => ?_, fun S2 ha hf => ?_⟩, hl.eq⟩
  · rw [hx] at ht ⊢;obtain ⟨o, ho, rfl⟩ := zKX.1 ht;exact zcA (AOp.wr_foot ho)
  · have hev := ha.ev;rw [hop] at hev;have hst := hl.same S2.env S2.heap hev (fun o ho => ha.heap o (by rw [hx]; exact zcA ho)) (by simp [AOp.news]);refine ⟨by rw [hop]; exact hst, fun o ho hn => ?_⟩;obtain ⟨c1, c2⟩ := zec hcl o;rw [hop] at c1 c2;exact zgO hst (fun y hy => c2 y hy _ ho.1) ho.2 c1 (by simp [AOp.news])
 | nileq ng y =>
  rw [hop] at h;have hev : ∀ S2, zaw x (feet x S).1 S S2 -> y.ev S2.env = y.ev S.env := fun S2 ha => by
   have := ha.ev;rw [hop] at this;exact this y (by simp [AOp.opds])
  simp only [step] at h;obtain ⟨rfl, hall, hno⟩ := zCN h;refine ⟨[], ⟨(fun o ob h => nomatch h), (fun o ob h => nomatch h), by simp [feet, hop, AOp.feet, AOp.wr, zI], fun S2 ha _ => ⟨?_, fun o ho _ => ⟨hno o, ho.2⟩⟩⟩, rfl⟩;rw [hop]; simp only [step]; rw [hev S2 ha]; exact hall _
 | _ => exact simple (by rw [hop]; rfl) (by intro E H; rw [hop]; rfl) (by simp [feet, hop, AOp.feet]) (by simp [zh.newNames, hop])
end Go.Sim
