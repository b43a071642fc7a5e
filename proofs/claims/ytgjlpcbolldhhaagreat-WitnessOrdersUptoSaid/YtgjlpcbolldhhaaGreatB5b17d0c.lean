/-
  A call by a sound meaning of functions is sound.
-/
import Derived.Test.YtgjlpcbolldhhaaGreatB095bdb5
set_option linter.unusedSimpArgs false
set_option linter.unusedVariables false
set_option maxHeartbeats 10000000
set_option maxRecDepth 100000
namespace Go.Sim
open Go (World Value Addr TypeId Act)
variable {P : Program}
mutual
def D.ok : D -> Prop
 | .int k n => k.has n
 | .bool _ => True
 | .str s => s.length <= LIM
 | .agg cs => D.okL cs
 | .tup vs => D.okL vs
 | .sl es => es.length <= LIM /\ D.okL es
 | .pd x => D.ok x
 | .fn _ cs => D.okL cs
 | .nil => True
def D.okL : List D -> Prop
 | [] => True
 | x :: xs => D.ok x /\ D.okL xs
end
theorem D.okL_iff {xs : List D} : D.okL xs ↔ ∀ x ∈ xs, x.ok := by
 induction xs with
 | nil => simp [D.okL]
 | cons x xs ih => simp [D.okL, ih]
theorem zeD {xs : List D} (h : ∀ (i : Nat) (x : D), xs[i]? = some x -> x.ok) : D.okL xs := D.okL_iff.2 fun x hx => by
 obtain ⟨i, hi⟩ := zLl hx;exact h i x hi
def It.ok : It -> Prop
 | .v x _ => x.ok
 | .el x _ _ => x.ok
theorem Rd.ok {w : World} {R : Nat -> Prop} {it : It} (h : Rd w R it) : it.ok := by
 induction h with
 | int h => exact h
 | bool => trivial
 | str h => exact h
 | @agg cs vs hl hc _ ih =>
  refine zeD fun i x hi => ?_;have hlt := (zKP.1 hi).1;exact ih i x (vs[i]'(by omega)) hi (zKR _)
 | @tup cs vs hl _ ih =>
  refine zeD fun i x hi => ?_;have hlt := (zKP.1 hi).1;exact ih i x (vs[i]'(by omega)) hi (zKR _)
 | sl0 => exact ⟨by simp, trivial⟩
 | sl _ _ _ hl _ _ _ ih => exact ⟨hl, zeD fun i x hi => ih i x hi⟩
 | pd _ _ ih => exact ih
 | @fn f cs vs hl _ ih =>
  refine zeD fun i x hi => ?_;have hlt := (zKP.1 hi).1;exact ih i x (vs[i]'(by omega)) hi (zKR _)
 | nil => trivial
 | elagg _ _ ih => exact zeD fun i x hi => ih i x hi
 | elc _ _ _ ih => exact ih
theorem D.flatL_mem {x : D} {xs : List D} (h : D.flatL xs = true) (hx : x ∈ xs) : x.flat = true := by
 induction xs with
 | nil => cases hx
 | cons y ys ih =>
  simp only [D.flatL, zKW] at h
  cases hx with
  | head => exact h.1
  | tail _ hx => exact ih h.2 hx
theorem Rd.of_flat {w w' : World} {R R' : Nat -> Prop} {it : It} (h : Rd w R it) : ∀ {x : D} {u : Value}, it = .v x u -> x.flat = true -> Rd w' R' (.v x u) := by
 induction h with
 | int h => intro x u e _; cases e; exact .int h
 | bool => intro x u e _; cases e; exact .bool
 | str h => intro x u e _; cases e; exact .str h
 | agg hl hc _ ih => intro x u e hf; cases e; exact .agg hl hc fun i c q h1 h2 => ih i c q h1 h2 rfl (D.flatL_mem hf (zKU h1))
 | tup hl _ ih => intro x u e hf; cases e; exact .tup hl fun i c q h1 h2 => ih i c q h1 h2 rfl (D.flatL_mem hf (zKU h1))
 | fn hl _ ih => intro x u e hf; cases e; exact .fn hl fun i c q h1 h2 => ih i c q h1 h2 rfl (D.flatL_mem hf (zKU h1))
 | nil h => intro x u e _; cases e; exact .nil h
 | sl0 => intro x u e hf; cases e; cases hf
 | sl => intro x u e hf; cases e; cases hf
 | pd => intro x u e hf; cases e; cases hf
 | elagg => intro x u e; cases e
 | elc => intro x u e; cases e
mutual
def AV.ren (ρ : Nat -> Nat) : AV -> AV
 | .ref o i off => .ref (ρ o) i off
 | .osl o off len => .osl (ρ o) off len
 | .acc o es => .acc (ρ o) es
 | .pe o x => .pe (ρ o) x
 | .agg cs => .agg (AV.renL ρ cs)
 | .tup cs => .tup (AV.renL ρ cs)
 | .fn f cs => .fn f (AV.renL ρ cs)
 | .d x => .d x
 | .xsl es => .xsl es
 | .nl b => .nl b
 | .mpr o => .mpr (ρ o)
 | .undef => .undef
def AV.renL (ρ : Nat -> Nat) : List AV -> List AV
 | [] => []
 | x :: xs => AV.ren ρ x :: AV.renL ρ xs
end
theorem zeJ {ρ : Nat -> Nat} {xs : List AV} : AV.renL ρ xs = xs.map (AV.ren ρ) := by
 induction xs with
 | nil => rfl
 | cons x xs ih => simp [AV.renL, ih]
theorem zsE {ρ : Nat -> Nat} {x : AV} (h : x.cell = true) : (x.ren ρ).cell = true := by
 cases x <;> simp_all [AV.ren, AV.cell]
theorem VA.ren {w : World} {R : Nat -> Prop} {ι ι' : Inj} {mk mk' : Nat -> Option Nat} {ρ : Nat -> Nat} {x : AV} {u : Value} (h : VA w R ι mk x u) :
    (∀ o, x.refs o = true -> (∀ p, ι o = some p -> ι' (ρ o) = some p) /\ mk' (ρ o) = mk o) -> VA w R ι' mk' (x.ren ρ) u := by
 induction h with
 | d h => intro _; exact .d h
 | @ref o _ _ _ _ h hmk => intro hp; have := hp o (by simp [AV.refs]); exact .ref (this.1 _ h) (this.2.trans hmk)
 | @osl o _ _ _ _ _ _ _ h hmk hb hl hc hL => intro hp; have := hp o (by simp [AV.refs]); exact .osl (this.1 _ h) (this.2.trans hmk) hb hl hc hL
 | osl0 => intro _; exact .osl0
 | @accR o _ _ _ _ _ hr hs' hL hl hsz h hm => intro hp; have := hp o (by simp [AV.refs]); exact .accR hr hs' hL hl hsz h (by rw [this.2]; exact hm)
 | @accC o b s m cap es c T hι hmk hm hL hl hsz hb hc h => intro hp; have := hp o (by simp [AV.refs]); exact .accC (this.1 _ hι) (this.2.trans hmk) hm hL hl hsz hb hc h
 | acc0 => intro _; exact .acc0
 | peR hr h => intro _; exact .peR hr h
 | @peC o b s m off x c T hι hmk hb hoff h => intro hp; have := hp o (by simp [AV.refs]); exact .peC (this.1 _ hι) (this.2.trans hmk) hb hoff h
 | xsl h => intro _; exact .xsl h
 | agg hl hc _ ih =>
  intro hp;simp only [AV.ren, zeJ];refine .agg (by simpa using hl) (fun c hm => ?_) fun i c u h1 h2 => ?_
  · obtain ⟨y, hy, rfl⟩ := zKX.1 hm; exact zsE (hc y hy)
  · rw [zKQ] at h1;obtain ⟨y, hy, rfl⟩ := zKL.1 h1;exact ih i y u hy h2 fun o ho => hp o (AV.refsL_mem (zKU hy) ho)
 | tup hl _ ih =>
  intro hp;simp only [AV.ren, zeJ];refine .tup (by simpa using hl) fun i c u h1 h2 => ?_;rw [zKQ] at h1;obtain ⟨y, hy, rfl⟩ := zKL.1 h1;exact ih i y u hy h2 fun o ho => hp o (AV.refsL_mem (zKU hy) ho)
 | fn hl _ ih =>
  intro hp;simp only [AV.ren, zeJ];refine .fn (by simpa using hl) fun i c u h1 h2 => ?_;rw [zKQ] at h1;obtain ⟨y, hy, rfl⟩ := zKL.1 h1;exact ih i y u hy h2 fun o ho => hp o (AV.refsL_mem (zKU hy) ho)
 | nl1 => intro _; exact .nl1
 | nl2 => intro _; exact .nl2
 | @mpr o _ _ h hmk => intro hp; have := hp o (by simp [AV.refs]); exact .mpr (this.1 _ h) (this.2.trans hmk)
 | undef => intro _; exact .undef
def Obj.ren (ρ : Nat -> Nat) : Obj -> Obj
 | .row es => .row (es.map (AV.ren ρ))
 | .acc n => .acc n
 | .frz m => .frz m
 | .mp es => .mp es
theorem zH7 {ρ : Nat -> Nat} {x : AV} : (x.ren ρ).cells = x.cells.map (AV.ren ρ) := by
 cases x <;> simp [AV.ren, AV.cells, zeJ]
theorem zH9 {ρ : Nat -> Nat} {x : AV} : (x.ren ρ).size = x.size := by
 cases x <;> simp [AV.ren, AV.size, zeJ]
theorem OB.ren {w : World} {R : Nat -> Prop} {ι ι' : Inj} {mk mk' : Nat -> Option Nat} {ρ : Nat -> Nat} {o : Nat} {ob : Obj} (h : OB w R ι mk o ob) (ho : ι' (ρ o) = ι o)
    (hp : ∀ q, ob.refs q = true -> (∀ p, ι q = some p -> ι' (ρ q) = some p) /\ mk' (ρ q) = mk q) : OB w R ι' mk' (ρ o) (ob.ren ρ) := by
 cases h with
 | @row es b s c T h1 h2 h3 h4 h5 h6 h7 =>
  refine .row (ho.trans h1) h2 h3 h4 (fun e he => ?_) (by simpa using h6) fun i e hi j x hx => ?_
  · obtain ⟨y, hy, rfl⟩ := zKX.1 he; rw [zH9]; exact h5 y hy
  · rw [zKQ] at hi;obtain ⟨y, hy, rfl⟩ := zKL.1 hi;rw [zH7, zKQ] at hx;obtain ⟨z, hz, rfl⟩ := zKL.1 hx;obtain ⟨k1, q, k2, k3⟩ := h7 i y hy j z hz;refine ⟨zsE k1, q, k2, k3.ren fun q hq => hp q ?_⟩;exact AV.refsL_mem (zKU hy) (AV.cells_refs hz hq)
 | acc h1 h2 h3 h4 h5 h6 => exact .acc h1 (ho.trans h2) h3 h4 h5 h6
 | accN h1 => exact .accN (ho.trans h1)
 | frz h => exact .frz fun b s hb => h b s (by rwa [ho] at hb)
 | mp h1 h2 h3 h4 h5 h6 => exact .mp (ho.trans h1) h2 h3 h4 h5 h6
mutual
def AV.flat : AV -> Bool
 | .d x => x.flat
 | .agg cs => AV.flatL cs
 | .tup cs => AV.flatL cs
 | .fn _ cs => AV.flatL cs
 | .xsl es => es.isEmpty
 | .acc _ _ => false
 | .pe _ _ => false
 | .ref _ _ _ => true
 | .osl _ _ _ => true
 | .nl _ => true
 | .mpr _ => true
 | .undef => true
def AV.flatL : List AV -> Bool
 | [] => true
 | x :: xs => AV.flat x && AV.flatL xs
end
theorem AV.flatL_mem {x : AV} {xs : List AV} (h : AV.flatL xs = true) (hx : x ∈ xs) : x.flat = true := by
 induction xs with
 | nil => cases hx
 | cons y ys ih =>
  simp only [AV.flatL, zKW] at h
  cases hx with
  | head => exact h.1
  | tail _ hx => exact ih h.2 hx
theorem VA.of_flat {w : World} {R R' : Nat -> Prop} {ι : Inj} {mk : Nat -> Option Nat} {x : AV} {u : Value} (h : VA w R ι mk x u) : x.flat = true -> VA w R' ι mk x u := by
 induction h with
 | d h => intro hf; exact .d (h.of_flat rfl hf)
 | ref h hmk => intro _; exact .ref h hmk
 | osl h hmk hb hl hc hL => intro _; exact .osl h hmk hb hl hc hL
 | osl0 => intro _; exact .osl0
 | accR => intro hf; cases hf
 | accC => intro hf; cases hf
 | acc0 => intro hf; cases hf
 | peR => intro hf; cases hf
 | peC => intro hf; cases hf
 | @xsl es a n h =>
  intro hf;simp only [AV.flat, zMu] at hf;subst hf
  cases h with
  | sl0 => exact .xsl .sl0
  | sl _ h0 => exact absurd rfl h0
 | agg hl hc _ ih => intro hf; exact .agg hl hc fun i c u h1 h2 => ih i c u h1 h2 (AV.flatL_mem hf (zKU h1))
 | tup hl _ ih => intro hf; exact .tup hl fun i c u h1 h2 => ih i c u h1 h2 (AV.flatL_mem hf (zKU h1))
 | fn hl _ ih => intro hf; exact .fn hl fun i c u h1 h2 => ih i c u h1 h2 (AV.flatL_mem hf (zKU h1))
 | nl1 => intro _; exact .nl1
 | nl2 => intro _; exact .nl2
 | mpr h hmk => intro _; exact .mpr h hmk
 | undef => intro _; exact .undef
theorem VA.toR {w : World} {R R' : Nat -> Prop} {ι : Inj} {mk : Nat -> Option Nat} {x : AV} {u : Value} (h : VA w R ι mk x u) (hR : (∀ b, R b -> R' b) \/ x.flat = true) : VA w R' ι mk x u := by
 rcases hR with hR | hR
 · exact h.mono hR (fun _ _ => rfl) fun o _ => Step.same fun _ _ _ => rfl
 · exact h.of_flat hR
theorem zzm {e x : AV} {j : Nat} (he : e.flat = true) (hx : e.cells[j]? = some x) : x.flat = true := by
 cases e with
 | agg cs => exact AV.flatL_mem he (zKU hx)
 | d y =>
  simp only [AV.cells, zKQ] at hx;obtain ⟨z, hz, rfl⟩ := zKL.1 hx
  cases y with
  | agg cs => exact D.flatL_mem he (zKU hz)
  | _ =>
   simp only [D.cells] at hz
   match j, hz with
   | 0, hz => simp at hz; subst hz; exact he
   | n + 1, hz => simp at hz
 | _ =>
  simp only [AV.cells] at hx
  match j, hx with
  | 0, hx => simp at hx; subst hx; exact he
  | n + 1, hx => simp at hx
def Obj.flat : Obj -> Bool
 | .row es => AV.flatL es
 | .acc _ => true
 | .frz _ => false
 | .mp _ => false
theorem OB.toR {w : World} {R R' : Nat -> Prop} {ι : Inj} {mk : Nat -> Option Nat} {o : Nat} {ob : Obj} (h : OB w R ι mk o ob) (hR : (∀ b, R b -> R' b) \/ ob.flat = true) (hno : ∀ b, R' b -> R b) : OB w R' ι mk o ob := by
 cases h with
 | row h1 h2 h3 h4 h5 h6 h7 =>
  refine .row h1 (fun k => h2 (hno _ k)) h3 h4 h5 h6 fun i e hi j x hx => ?_;obtain ⟨k1, q, k2, k3⟩ := h7 i e hi j x hx;refine ⟨k1, q, k2, k3.toR (hR.imp id fun hf => ?_)⟩;exact zzm (AV.flatL_mem hf (zKU hi)) hx
 | acc h1 h2 h3 h4 h5 h6 => exact .acc h1 h2 (fun k => h3 (hno _ k)) h4 h5 h6
 | accN h1 => exact .accN h1
 | frz h =>
  rcases hR with hR | hf
  · exact .frz fun b s hb => ⟨hR _ (h b s hb).1, (h b s hb).2⟩
  · cases hf
 | mp h1 h2 h3 h4 h5 h6 =>
  rcases hR with hR | hf
  · exact .mp h1 (fun k => h2 (hno _ k)) h3 h4 h5 fun i k x hi => let ⟨e, k1, k2, k3⟩ := h6 i k x hi; ⟨e, k1, k2, k3.mono_v hR fun _ _ => rfl⟩
  · cases hf
end Go.Sim

namespace Go.Sim
open Go (World Value Addr TypeId Act)
variable {P : Program}
abbrev zC := FuncId -> List AV -> za -> Option (AV × za)
def zY (H : za) : List Bool -> List AV -> Option (List AV)
 | _, [] => some []
 | [], x :: xs => (toD H x).bind fun d => (zY H [] xs).map (.d d :: ·)
 | true :: ms, x :: xs => (zY H ms xs).map (x :: ·)
 | false :: ms, x :: xs => (toD H x).bind fun d => (zY H ms xs).map (.d d :: ·)
def zy : List Bool -> List AV -> List Nat
 | _, [] => []
 | [], x :: xs => x.objs ++ zy [] xs
 | true :: ms, _ :: xs => zy ms xs
 | false :: ms, x :: xs => x.objs ++ zy ms xs
def zaj : List Bool -> List AV -> List Nat
 | _, [] => []
 | [], _ :: _ => []
 | true :: ms, x :: xs => x.objs ++ zaj ms xs
 | false :: ms, _ :: xs => zaj ms xs
def zax (ns : List Nat) : List Nat -> List Nat
 | [] => ns
 | x :: xs => if ns.contains x then zax ns xs else zax (ns ++ [x]) xs
def zdJ (H : za) (o : Nat) : List Nat := match look o H with | some (.row es) => AV.objsL es | _ => []
def zbo (H : za) (ns : List Nat) : List Nat := zax ns (ns.flatMap (zdJ H))
def zX (H : za) (ms : List Bool) (args : List AV) : List Nat := zbo H (zbo H (zax [] (zaj ms args)))
def zdE (H : za) (ns : List Nat) : Bool := ns.all fun o => match look o H with | some (.row es) => (AV.objsL es).all ns.contains | _ => false
def pos (o : Nat) : List Nat -> Nat
 | [] => 0
 | x :: xs => if x = o then 0 else pos o xs + 1
def zB (ns : List Nat) (o : Nat) : Nat := 1000000 + pos o ns
def zaQ (ns : List Nat) (dst : Nat) (n : Nat) : Nat := if n < 1000000 then dst + 10000 * n else ns.getD (n - 1000000) 0
def zaa (H : za) (ns : List Nat) : za := ns.map fun o => (zB ns o, ((look o H).getD (.acc 0)).ren (zB ns))
def zek (E : Env) (H : za) (dst : Nat) (ns : List Nat) (os : za) : Bool :=
 os.all fun p => decide (1000000 <= p.1) || (!refsEnv (dst + 10000 * p.1) E && !refsHeap (dst + 10000 * p.1) H && !ns.contains (dst + 10000 * p.1))
def flatRes (p : AV × za) : Bool := p.1.flat && p.2.all fun q => q.2.flat
def zce (a b : List Nat) : Bool := a.all fun o => !b.contains o
def zaz (ρ : Nat -> Nat) (os : za) : za := os.map fun p => (ρ p.1, p.2.ren ρ)
def zbv (E : Env) (H : za) (dst : Nat) (ns dob : List Nat) (p : AV × za) : Option (AV × za) :=
 if (zek E H dst ns p.2 && (dob.isEmpty || flatRes p)) = true then some (p.1.ren (zaQ ns dst), zaz (zaQ ns dst) p.2) else none
def zbu (F : zC) (E : Env) (H : za) (dst : Nat) (ns dob : List Nat) (f : FuncId) (zKJ : List AV) : Option (AV × za) :=
 if (zdE H ns && zce dob ns) = true then (F f (zKJ.map (AV.ren (zB ns))) (zaa H ns)).bind (zbv E H dst ns dob) else none
def zar (F : zC) (E : Env) (H : za) (dst : Nat) (ms : List Bool) (f : FuncId) (args : List AV) : Option (AV × za) :=
 (zY H ms args).bind (zbu F E H dst (zX H ms args) (zy ms args) f)
def zel (ms : List Bool) (n : Nat) : Bool := (ms.drop n).headD false
def zP (H : za) (os : List Nat) : za := os.map fun o => (o, .frz (mark H o))
def zcj (H : za) (os : List Nat) : Bool := os.all fun o => (look o H).isSome
def zbQ (F : zC) (E : Env) (H : za) (dst : Nat) (ms : List Bool) (f : FuncId) (dob : List Nat) (zKJ : List AV) : Option (AV × za) :=
 if zcj H dob = true then (zar F E (zo (zP H dob) H) dst ms f zKJ).map fun p => (p.1, p.2 ++ zP H dob) else none
def zS (F : zC) (E : Env) (H : za) (dst : Nat) (ms : List Bool) (f : FuncId) (args : List AV) : Option (AV × za) :=
 if zel ms args.length = true then (zY H ms args).bind (zbQ F E H dst ms f (zy ms args)) else zar F E H dst ms f args
structure WF (k : Nat) (r : AV) (os : za) : Prop where
 names : ∀ n, (look n os).isSome = true -> n < 4 \/ (1000000 <= n /\ n < 1000000 + k)
 keep : ∀ i, i < k -> (∃ es, look (1000000 + i) os = some (.row es)) \/ look (1000000 + i) os = some (.frz none)
 res : ∀ q, r.refs q = true -> (look q os).isSome = true
 resH : ∀ n ob, (n, ob) ∈ os -> ∀ q, ob.refs q = true -> (look q os).isSome = true
def FOK (P : Program) (F : zC) : Prop := ∀ f args os r os', F f args os = some (r, os') -> (∀ p ∈ os, ∃ es, p.2 = .row es) -> (∀ i p, os[i]? = some p -> p.1 = 1000000 + i) -> zaE P f = true /\ GF P f args os r os' /\ WF os.length r os'
theorem zgJ : ∀ (xs ns : List Nat), ns.Nodup -> (zax ns xs).Nodup := by
 intro xs
 induction xs with
 | nil => intro ns h; exact h
 | cons x xs ih =>
  intro ns h;simp only [zax]
  split
  · exact ih ns h
  · rename_i hx;refine ih _ (List.nodup_append.2 ⟨h, by simp, ?_⟩);rintro a ha b hb rfl;simp at hb; subst hb;simp at hx; exact hx ha
theorem zbs : ∀ (xs ns : List Nat) {o : Nat}, o ∈ ns -> o ∈ zax ns xs := by
 intro xs
 induction xs with
 | nil => intro ns o h; exact h
 | cons x xs ih =>
  intro ns o h;simp only [zax]
  split
  · exact ih ns h
  · exact ih _ (by simp [h])
theorem zms : ∀ (xs ns : List Nat) {o : Nat}, o ∈ xs -> o ∈ zax ns xs := by
 intro xs
 induction xs with
 | nil => intro ns o h; cases h
 | cons x xs ih =>
  intro ns o h;simp only [zax]
  cases h with
  | head =>
   split
   · rename_i hx; exact zbs xs ns (by simpa using hx)
   · exact zbs xs _ (by simp)
  | tail _ h =>
   split
   · exact ih _ h
   · exact ih _ h
theorem zfW (H : za) (ms : List Bool) (args : List AV) : (zX H ms args).Nodup := zgJ _ _ (zgJ _ _ (zgJ _ _ List.nodup_nil))
theorem zCF {H : za} {ms : List Bool} {args : List AV} {o : Nat} (h : o ∈ zaj ms args) : o ∈ zX H ms args := zbs _ _ (zbs _ _ (zms _ _ h))
theorem zeG {o : Nat} : ∀ {ns : List Nat}, o ∈ ns -> ns[pos o ns]? = some o := by
 intro ns
 induction ns with
 | nil => intro h; cases h
 | cons x xs ih =>
  intro h;simp only [pos]
  split
  · rename_i e; subst e; rfl
  · rename_i e
    cases h with
    | head => exact absurd rfl e
    | tail _ h => simpa using ih h
theorem zf4 {o : Nat} {ns : List Nat} (h : o ∈ ns) : pos o ns < ns.length := (zKP.1 (zeG h)).1
theorem zsw {ns : List Nat} (hn : ns.Nodup) {i : Nat} {o : Nat} (h : ns[i]? = some o) : pos o ns = i := by
 have h1 := zeG (zKU h);have hi := (zKP.1 h).1;have hp := (zKP.1 h1).1;have e1 := (zKP.1 h).2;have e2 := (zKP.1 h1).2;exact (List.getElem_inj hn).1 (e2.trans e1.symm)
theorem zij {ns : List Nat} {dst o : Nat} (h : o ∈ ns) : zaQ ns dst (zB ns o) = o := by
 have h0 : ¬ zB ns o < 1000000 := by simp [zB]
 unfold zaQ;rw [zKM h0];simp [zB, zL7, zeG h]
theorem zf1 {H : za} {ns : List Nat} (hn : ns.Nodup) (i : Nat) (p : Nat × Obj) (h : (zaa H ns)[i]? = some p) : p.1 = 1000000 + i /\ ∃ o, ns[i]? = some o /\ p.2 = ((look o H).getD (.acc 0)).ren (zB ns) := by
 simp only [zaa, zKQ] at h;obtain ⟨o, ho, rfl⟩ := zKL.1 h;exact ⟨by simp [zB, zsw hn ho], o, ho, rfl⟩
theorem zfK {α : Type} {k : Nat} {x : α} {l : List (Nat × α)} (h : (k, x) ∈ l) : (look k l).isSome = true := by
 obtain ⟨y, hy⟩ := zCc h; simp [hy]
theorem zCd {H : za} {ns : List Nat} {o : Nat} (h : o ∈ ns) : look (zB ns o) (zaa H ns) = some (((look o H).getD (.acc 0)).ren (zB ns)) := by
 have key : ∀ (l : List Nat), (∀ x ∈ l, x ∈ ns) -> o ∈ l -> look (zB ns o) (l.map fun o => (zB ns o, ((look o H).getD (.acc 0)).ren (zB ns))) = some (((look o H).getD (.acc 0)).ren (zB ns)) := by
  intro l
  induction l with
  | nil => intro _ h; cases h
  | cons x l ih =>
   intro hs ho;simp only [zKS, look]
   by_cases e : zB ns x = zB ns o
   · have hx : x = o := by
      have h1 := zij (dst := 0) (hs x (.head _));rw [e, zij h] at h1;exact h1.symm
     subst hx; simp
   · rw [zKM e];refine ih (fun y hy => hs y (.tail _ hy)) ?_
     cases ho with
     | head => exact absurd rfl e
     | tail _ ho => exact ho
 exact key ns (fun _ h => h) h
theorem zfV {H : za} {ns : List Nat} {n : Nat} {ob : Obj} (h : (n, ob) ∈ zaa H ns) : ∃ o ∈ ns, n = zB ns o /\ ob = ((look o H).getD (.acc 0)).ren (zB ns) := by
 simp only [zaa, zKX] at h;obtain ⟨o, ho, he⟩ := h
 cases he
 exact ⟨o, ho, rfl, rfl⟩
theorem zf6 {x : AV} {o : Nat} (h : o ∈ x.objs) : x.refs o = true := by
 have key : ∀ x : AV, ∀ o, o ∈ x.objs -> x.refs o = true := by
  intro x;refine AV.rec (motive_1 := fun x => ∀ o, o ∈ x.objs -> x.refs o = true) (motive_2 := fun xs => ∀ o, o ∈ AV.objsL xs -> AV.refsL o xs = true) ?_ ?_ ?_ ?_ ?_ ?_ ?_ ?_ ?_ ?_ ?_ ?_ ?_ ?_ x
  all_goals (intros; simp_all [AV.objs, AV.objsL, AV.refs, AV.refsL])
  rename_i h1 h2 o h
  rcases h with h | h
  · exact .inl (h1 _ h)
  · exact .inr (h2 _ h)
 exact key x o h
mutual
theorem zf9 : ∀ (x : AV) (o : Nat), x.refs o = true -> o ∈ x.objs
 | .d _, _, h => by simp [AV.refs] at h
 | .ref p _ _, o, h => by simp [AV.refs] at h; simp [AV.objs, h]
 | .osl p _ _, o, h => by simp [AV.refs] at h; simp [AV.objs, h]
 | .acc p _, o, h => by simp [AV.refs] at h; simp [AV.objs, h]
 | .pe p _, o, h => by simp [AV.refs] at h; simp [AV.objs, h]
 | .xsl _, _, h => by simp [AV.refs] at h
 | .agg cs, o, h => by simp only [AV.refs] at h; simp only [AV.objs]; exact zcY cs o h
 | .tup cs, o, h => by simp only [AV.refs] at h; simp only [AV.objs]; exact zcY cs o h
 | .fn _ cs, o, h => by simp only [AV.refs] at h; simp only [AV.objs]; exact zcY cs o h
 | .nl _, _, h => by simp [AV.refs] at h
 | .mpr p, o, h => by simp [AV.refs] at h; simp [AV.objs, h]
 | .undef, _, h => by simp [AV.refs] at h
theorem zcY : ∀ (xs : List AV) (o : Nat), AV.refsL o xs = true -> o ∈ AV.objsL xs
 | [], _, h => by simp [AV.refsL] at h
 | x :: xs, o, h => by
  simp only [AV.refsL, zLs] at h;simp only [AV.objsL, zLb]
  rcases h with h | h
  · exact .inl (zf9 x o h)
  · exact .inr (zcY xs o h)
end
theorem zmT {H : za} : ∀ {ms : List Bool} {xs zKJ : List AV}, zY H ms xs = some zKJ -> zKJ.length = xs.length /\ ∀ (i : Nat) (x y : AV), xs[i]? = some x -> zKJ[i]? = some y ->
    (y = x /\ ∀ o ∈ x.objs, o ∈ zaj ms xs) \/ (∃ d, toD H x = some d /\ y = .d d /\ ∀ o ∈ x.objs, o ∈ zy ms xs) := by
 intro ms xs
 induction xs generalizing ms with
 | nil => intro zKJ h; cases ms <;> (simp only [zY, Option.some.injEq] at h; subst h; simp)
 | cons x xs ih =>
  intro zKJ h;have data : ∀ (ms' : List Bool), (∀ o, o ∈ x.objs -> o ∈ zy ms (x :: xs)) -> (∀ o, o ∈ zy ms' xs -> o ∈ zy ms (x :: xs)) -> (∀ o, o ∈ zaj ms' xs -> o ∈ zaj ms (x :: xs)) -> ((toD H x).bind fun d => (zY H ms' xs).map (.d d :: ·)) = some zKJ -> zKJ.length = (x :: xs).length /\ ∀ (i : Nat) (x' y : AV), (x :: xs)[i]? = some x' -> zKJ[i]? = some y ->
      (y = x' /\ ∀ o ∈ x'.objs, o ∈ zaj ms (x :: xs)) \/ (∃ d, toD H x' = some d /\ y = .d d /\ ∀ o ∈ x'.objs, o ∈ zy ms (x :: xs)) := by
   intro ms' hd1 hd2 hk h;obtain ⟨d, hd, h⟩ := zKK.1 h;obtain ⟨as', h', rfl⟩ := zKL.1 h;obtain ⟨h1, h2⟩ := ih h';refine ⟨by simp [h1], fun i a b ha hb => ?_⟩
   match i, ha, hb with
   | 0, ha, hb => simp at ha hb; subst ha hb; exact .inr ⟨d, hd, rfl, fun o ho => hd1 o ho⟩
   | n + 1, ha, hb =>
    rcases h2 n a b (by simpa using ha) (by simpa using hb) with ⟨h3, h4⟩ | ⟨d', h3, h4, h5⟩
    · exact .inl ⟨h3, fun o ho => hk o (h4 o ho)⟩
    · exact .inr ⟨d', h3, h4, fun o ho => hd2 o (h5 o ho)⟩
  match ms, h with
  | [], h => exact data [] (fun o ho => by simp [zy, ho]) (fun o ho => by simp [zy, ho]) (fun o ho => by cases xs <;> simp [zaj] at ho) h
  | false :: ms, h => exact data ms (fun o ho => by simp [zy, ho]) (fun o ho => by simp [zy, ho]) (fun o ho => by simp [zaj, ho]) h
  | true :: ms, h =>
   simp only [zY] at h;obtain ⟨as', h', rfl⟩ := zKL.1 h;obtain ⟨h1, h2⟩ := ih h';refine ⟨by simp [h1], fun i a b ha hb => ?_⟩
   match i, ha, hb with
   | 0, ha, hb => simp at ha hb; subst ha hb; exact .inl ⟨rfl, fun o ho => by simp [zaj, ho]⟩
   | n + 1, ha, hb =>
    rcases h2 n a b (by simpa using ha) (by simpa using hb) with ⟨h3, h4⟩ | ⟨d', h3, h4, h5⟩
    · exact .inl ⟨h3, fun o ho => by simp [zaj, h4 o ho]⟩
    · exact .inr ⟨d', h3, h4, fun o ho => by simp [zy, h5 o ho]⟩
theorem zr3 {ρ : Nat -> Nat} {os : za} {n : Nat} (h : ∀ m, (look m os).isSome = true -> ρ m = ρ n -> m = n) : look (ρ n) (zaz ρ os) = (look n os).map (Obj.ren ρ) := by
 induction os with
 | nil => rfl
 | cons p os ih =>
  obtain ⟨m, ob⟩ := p;have ih' : (∀ m', (look m' os).isSome = true -> ρ m' = ρ n -> m' = n) -> look (ρ n) (zaz ρ os) = (look n os).map (Obj.ren ρ) := ih;simp only [zaz, zKS, look] at ih' ⊢
  by_cases e : m = n
  · subst e; simp
  · have hne : ρ m ≠ ρ n := fun he => e (h m (by simp [look]) he);rw [zKM hne, zKM e];refine ih' fun m' hm' he => h m' ?_ he;simp only [look]
    split
    · rfl
    · exact hm'
theorem zhP {δ H : za} {p : Nat × Obj} (h : p ∈ zo δ H) : p ∈ δ \/ (p ∈ H /\ look p.1 δ = none) := by
 induction δ with
 | nil => exact .inr ⟨h, rfl⟩
 | cons q δ ih =>
  obtain ⟨o, ob⟩ := q;simp only [zo, zj] at h
  cases h with
  | head => exact .inl (.head _)
  | tail _ h =>
   obtain ⟨h1, h2⟩ := zcT.1 h
   rcases ih h1 with h3 | ⟨h3, h4⟩
   · exact .inl (.tail _ h3)
   · refine .inr ⟨h3, ?_⟩;simp only [look];rw [zKM (Ne.symm h2)]; exact h4
theorem zCf {ρ : Nat -> Nat} {os : za} {o : Nat} (h : look o (zaz ρ os) = none) : ∀ n, (look n os).isSome = true -> ρ n ≠ o := by
 induction os with
 | nil => intro n hn; cases hn
 | cons p os ih =>
  obtain ⟨m, ob⟩ := p;simp only [zaz, zKS, look] at h
  split at h
  · cases h
  · rename_i hne;intro n hn;simp only [look] at hn
    split at hn
    · rename_i e; subst e; exact hne
    · exact ih h n hn
end Go.Sim

namespace Go.Sim
open Go (World Value Addr TypeId Act)
variable {P : Program}
theorem zsT {C : Ctx} {S : St} {a : Act} {w : World} {ι : Inj} {R : Nat -> Prop} (hr : Rel C S a w ι R) {x : AV} {u : Value} (h : VA w R ι (mark S.heap) x u) {d : D} {os : List Nat} (hd : toD S.heap x = some d) (ho : ∀ o ∈ x.objs, o ∈ os) :
    Rd w (za6 R ι os) (.v d u) := zdN hr h hd ho
theorem zmS {F : zC} (hF : FOK P F) {C : Ctx} {S : St} {a : Act} {w : World} {ι : Inj} {R : Nat -> Prop} {dst : Nat} {ms : List Bool} {f : FuncId} {args : List AV} {v : AV} {δ : za} {us : List Value}
    (h : zar F S.env S.heap dst ms f args = some (v, δ)) (hr : Rel C S a w ι R) (hv : VAs w R ι (mark S.heap) args us) :
    Calls P f us.toArray w fun e w' => ∃ u ι' R', e = .returned u /\ Rel C ⟨S.env, zo δ S.heap⟩ a w' ι' R' /\ VA w' R' ι' (mark (zo δ S.heap)) v u := by
 unfold zar at h;obtain ⟨zKJ, has, h⟩ := zKK.1 h;have hnod : (zX S.heap ms args).Nodup := zfW _ _ _;have hkept : ∀ o, o ∈ zaj ms args -> o ∈ zX S.heap ms args := fun o ho => zCF ho;obtain ⟨hlen, hget⟩ := zmT has;clear has;generalize hns : zX S.heap ms args = ns at *;generalize hdob : zy ms args = dob at *;unfold zbu at h
 split at h
 · rename_i hc;simp only [zKW] at hc;obtain ⟨hok, hdis⟩ := hc;obtain ⟨⟨r, os'⟩, hf, h⟩ := zKK.1 h;unfold zbv at h
   split at h
   · rename_i hc2;simp only [zKW] at hc2;obtain ⟨hfresh, hflat⟩ := hc2
     cases h
     generalize hρ : zaQ ns dst = ρ;have hrow : ∀ o ∈ ns, ∃ es, look o S.heap = some (.row es) /\ ∀ q ∈ AV.objsL es, q ∈ ns := fun o ho => by
      have := zK4.1 hok o ho
      split at this
      · rename_i es hes; exact ⟨es, hes, fun q hq => by simpa using zK4.1 this q hq⟩
      · cases this
     have hrc : ∀ o, o ∈ ns -> ρ (zB ns o) = o := fun o ho => by rw [<- hρ]; exact zij ho
     have hget0 : ∀ n ob, (n, ob) ∈ zaa S.heap ns -> ∃ o ∈ ns, n = zB ns o /\ ∃ es, look o S.heap = some (.row es) /\ ob = (Obj.row es).ren (zB ns) := fun n ob hm => by
      obtain ⟨o, ho, h1, h2⟩ := zfV hm;obtain ⟨es, hes, _⟩ := hrow o ho;exact ⟨o, ho, h1, es, hes, by rw [h2, hes]; rfl⟩
     have hlook0 : ∀ o ∈ ns, ∃ es, look o S.heap = some (.row es) /\ look (zB ns o) (zaa S.heap ns) = some ((Obj.row es).ren (zB ns)) := fun o ho => by
      obtain ⟨es, hes, _⟩ := hrow o ho;exact ⟨es, hes, by rw [zCd ho, hes]; rfl⟩
     have hosrow : ∀ p ∈ zaa S.heap ns, ∃ es, p.2 = .row es := fun ⟨n, ob⟩ hm => by
      obtain ⟨o, _, _, es, _, h2⟩ := hget0 n ob hm;exact ⟨_, h2⟩
     obtain ⟨_, hG, hW⟩ := hF f _ _ r os' hf hosrow (fun i p hp => (zf1 hnod i p hp).1);have hnlen : (zaa S.heap ns).length = ns.length := by simp [zaa]
     rw [hnlen] at hW
     -- the fresh names
     have hfr : ∀ n, (look n os').isSome = true -> n < 1000000 -> zb6 (ρ n) S /\ ρ n ∉ ns /\ ρ n = dst + 10000 * n := fun n hn hlt => by
      obtain ⟨ob, hob⟩ := zLG.1 hn;have := zK4.1 hfresh _ (zu hob);have h0 : ρ n = dst + 10000 * n := by rw [<- hρ]; simp [zaQ, hlt]
      simp only [zLs, zKW, zLC, decide_eq_true_eq] at this
      rcases this with h1 | ⟨⟨h1, h2⟩, h3⟩
      · omega
      · exact ⟨by rw [h0]; exact ⟨h1, h2⟩, by rw [h0]; simpa using h3, h0⟩
     have hgiven : ∀ n, (look n os').isSome = true -> 1000000 <= n -> ∃ o ∈ ns, n = zB ns o /\ ρ n = o := fun n hn hge => by
      rcases hW.names n hn with h1 | ⟨_, h1⟩
      · omega
      · obtain ⟨o, hi⟩ : ∃ o, ns[n - 1000000]? = some o := ⟨_, zKR (by omega)⟩;have hm := zKU hi;have hp := zsw hnod hi;have hn' : n = zB ns o := by simp only [zB, hp]; omega
        refine ⟨o, hm, hn', ?_⟩;rw [hn', hrc _ hm]
     have hinj : ∀ n, (look n os').isSome = true -> ∀ m, (look m os').isSome = true -> ρ m = ρ n -> m = n := fun n hn m hm e => by
      rcases zLV n 1000000 with h1 | h1 <;> rcases zLV m 1000000 with h2 | h2
      · have e1 := (hfr n hn h1).2.2;have e2 := (hfr m hm h2).2.2;omega
      · obtain ⟨o, ho, _, h3⟩ := hgiven m hm h2;rw [h3] at e; rw [e] at ho;exact absurd ho (hfr n hn h1).2.1
      · obtain ⟨o, ho, _, h3⟩ := hgiven n hn h1;rw [h3] at e; rw [<- e] at ho;exact absurd ho (hfr m hm h2).2.1
      · obtain ⟨o, ho, h3, h4⟩ := hgiven n hn h1;obtain ⟨o', ho', h5, h6⟩ := hgiven m hm h2;rw [h3, h5, <- h4, <- h6, e]
     let ι0 : Inj := fun n => if (look n (zaa S.heap ns)).isSome = true then ι (ρ n) else none
     have hsome0 : ∀ n, (look n (zaa S.heap ns)).isSome = true -> ∃ o ∈ ns, n = zB ns o /\ ρ n = o := fun n hn => by
      obtain ⟨ob, hob⟩ := zLG.1 hn;obtain ⟨o, ho, h1, _⟩ := hget0 n ob (zu hob);exact ⟨o, ho, h1, by rw [h1, hrc o ho]⟩
     have hι0 : ∀ n b s, ι0 n = some (b, s) -> (look n (zaa S.heap ns)).isSome = true /\ ι (ρ n) = some (b, s) := fun n b s hh => by
      simp only [ι0] at hh
      split at hh
      · rename_i h1; exact ⟨h1, hh⟩
      · cases hh
     have hmS : ∀ o ∈ ns, mark S.heap o = none := fun o ho => by
      obtain ⟨es, hes, _⟩ := hrow o ho; simp [mark, hes]
     have hmo : ∀ o ∈ ns, mark (zaa S.heap ns) (zB ns o) = none := fun o ho => by
      obtain ⟨es, _, h2⟩ := hlook0 o ho;simp [mark, h2, Obj.ren]
     have hs0 : ∀ o ∈ ns, (look (zB ns o) (zaa S.heap ns)).isSome = true := fun o ho => by
      obtain ⟨es, _, h2⟩ := hlook0 o ho; simp [h2]
     have toC : ∀ q ∈ ns, (∀ p, ι q = some p -> ι0 (zB ns q) = some p) /\ mark (zaa S.heap ns) (zB ns q) = mark S.heap q := fun q hq => by
      refine ⟨fun p hp => ?_, by rw [hmo q hq, hmS q hq]⟩;simp only [ι0]; rw [zKN (hs0 q hq), hrc q hq]; exact hp
     have hRn : ∀ o ∈ ns, ∀ b s, ι o = some (b, s) -> ¬ R b := fun o ho b s hh => by
      obtain ⟨es, hes, _⟩ := hrow o ho
      cases hr.heap _ _ (zu hes) with
      | row k1 k2 => rw [hh] at k1; cases k1; exact k2
     let Rc : Nat -> Prop := za6 R ι dob
     have hdisj : ∀ o ∈ dob, o ∉ ns := fun o ho => by
      have := zK4.1 hdis o ho; simpa using this
     have hRcn : ∀ o ∈ ns, ∀ b s, ι o = some (b, s) -> ¬ Rc b := fun o ho b s hh => by
      rintro (hb | ⟨q, s', hq, hq'⟩)
      · exact hRn o ho b s hh hb
      · have := hr.inj _ _ _ _ _ hh hq';subst this;exact hdisj _ hq ho
     have hRclt : ∀ b, Rc b -> b < w.heap.size := by
      rintro b (hb | ⟨o, s, _, hb⟩)
      · exact hr.rlt b hb
      · exact (hr.own _ _ _ hb).2
     refine (hG w Rc ι0 us hRclt (fun n b s hh => ?_) (fun n n' b s s' h1 h2 => ?_) (fun n ob hm => ?_) ⟨by simp [hlen, hv.1], fun i x u h1 h2 => ?_⟩).mono fun e w' hh => ?_
     · obtain ⟨k1, k2⟩ := hι0 n b s hh;obtain ⟨o, ho, _, k3⟩ := hsome0 n k1;rw [k3] at k2;exact ⟨(hr.own _ b s k2).2, hRcn o ho b s k2, k1⟩
     · obtain ⟨k1, k2⟩ := hι0 _ _ _ h1;obtain ⟨k3, k4⟩ := hι0 _ _ _ h2;obtain ⟨o, ho, k5, k6⟩ := hsome0 n k1;obtain ⟨o', ho', k7, k8⟩ := hsome0 n' k3;have := hr.inj _ _ _ _ _ k2 k4;rw [k6, k8] at this;rw [k5, k7, this]
     · obtain ⟨o, ho, h1, es, hes, h2⟩ := hget0 n ob hm;obtain ⟨es', hes', hcl⟩ := hrow o ho;rw [hes] at hes'; cases hes';have hob0 := (hr.heap _ _ (zu hes)).toR (R' := R) (.inl fun _ h => h) (fun _ h => h);have hobR : OB w Rc ι (mark S.heap) o (.row es) := by
        cases hr.heap _ _ (zu hes) with
        | row k1 k2 k3 k4 k5 k6 k7 => exact .row k1 (hRcn o ho _ _ k1) k3 k4 k5 k6 fun i e he j x hx => let ⟨j1, q, j2, j3⟩ := k7 i e he j x hx; ⟨j1, q, j2, j3.toR (.inl fun _ h => .inl h)⟩
       have := hobR.ren (ρ := zB ns) (ι' := ι0) (mk' := mark (zaa S.heap ns)) (by simp only [ι0]; rw [zKN (hs0 o ho), hrc o ho]) fun q hq => toC q (hcl q (zcY es q hq));rw [h1, h2]; exact this
     · rw [zKQ] at h1;obtain ⟨y, hy, rfl⟩ := zKL.1 h1;have hlt := (zKP.1 hy).1;rw [hlen] at hlt;have hx : args[i]? = some args[i] := zKR hlt
       rcases hget i _ y hx hy with ⟨h3, h4⟩ | ⟨d, h3, h4, h5⟩
       · subst h3;exact ((hv.2 i _ u hx h2).toR (.inl fun _ h => .inl h)).ren fun q hq => toC q (hkept q (h4 q (zf9 _ q hq)))
       · subst h4;exact .d (zsT hr (hv.2 i _ u hx h2) h3 h5)
     obtain ⟨u, ι', R', rfl, e1, e2, e3, e4, e5, e6, e7, e8, e9, e10, e11, e12, e13⟩ := hh
     let R2 : Nat -> Prop := fun b => R' b /\ (R b \/ w.heap.size <= b \/ ∃ n s, ι0 n = some (b, s) /\ look n os' = some (.frz none))
     have hR2 : ∀ b, R b -> R2 b := fun b hb => ⟨e7 b (.inl hb), .inl hb⟩;have hlow : (∀ b, R' b -> R2 b) \/ flatRes (r, os') = true := by
      simp only [zLs, zMu] at hflat
      rcases hflat with h0 | h0
      · left;intro b hb;refine ⟨hb, ?_⟩
        rcases (e8 b hb).2 with h1 | h1
        · rcases h1 with h1 | ⟨o, s, ho, _⟩
          · exact .inl h1
          · rw [h0] at ho; cases ho
        · exact .inr h1
      · exact .inr h0
     have hlowV : VA w' R2 ι' (mark os') r u := e13.toR (hlow.imp id fun hf => by simp only [flatRes, zKW] at hf; exact hf.1);have hlowO : ∀ n ob, (n, ob) ∈ os' -> OB w' R2 ι' (mark os') n ob := fun n ob hm => (e12 n ob hm).toR (hlow.imp id fun hf => by
      simp only [flatRes, zKW] at hf; exact zK4.1 hf.2 _ hm) fun b hb => hb.1
     let im : Nat -> Prop := fun o => ∃ n, (look n os').isSome = true /\ ρ n = o
     have him : ∀ n, (look n os').isSome = true -> im (ρ n) := fun n h1 => ⟨n, h1, rfl⟩;have hcase0 : ∀ o, (∃ n, (look n os').isSome = true /\ ρ n = o) \/ ¬ im o := fun o => Classical.em _;have : ∃ back : Nat -> Nat, ∀ n, (look n os').isSome = true -> back (ρ n) = n := by
      have hpt : ∀ o, ∃ m, ∀ n, (look n os').isSome = true -> ρ n = o -> m = n := fun o => by
       rcases hcase0 o with ⟨n, h1, h2⟩ | h1
       · exact ⟨n, fun m hm h3 => hinj m hm n h1 (h2.trans h3.symm)⟩
       · exact ⟨0, fun m hm h3 => absurd ⟨m, hm, h3⟩ h1⟩
      obtain ⟨g, hg⟩ := Classical.axiomOfChoice hpt;exact ⟨g, fun n hn => hg _ n hn rfl⟩
     obtain ⟨back, hback⟩ := this;have hex : ∃ ι2 : Inj, (∀ n, (look n os').isSome = true -> ι2 (ρ n) = ι' n) /\ (∀ o, ¬ im o -> ι2 o = ι o) := by
      refine ⟨fun o => @ite _ (im o) (Classical.propDecidable _) (ι' (back o)) (ι o), fun n hn => ?_, fun o ho => ?_⟩
      · show @ite _ (im (ρ n)) (Classical.propDecidable _) (ι' (back (ρ n))) (ι (ρ n)) = ι' n;rw [zKN (him n hn), hback n hn]
      · show @ite _ (im o) (Classical.propDecidable _) (ι' (back o)) (ι o) = ι o;rw [zKM ho]
     obtain ⟨ι2, hι2, hι2n⟩ := hex;have hcase : ∀ o, (∃ n, (look n os').isSome = true /\ ρ n = o) \/ ¬ im o := fun o => Classical.em _;have hm2 : ∀ n, (look n os').isSome = true -> mark (zo (zaz ρ os') S.heap) (ρ n) = mark os' n := fun n h1 => by
      obtain ⟨ob, hob⟩ := zLG.1 h1;unfold mark;rw [zaH, zr3 (hinj n h1), hob]
      cases ob <;> rfl
     have hm2n : ∀ o, ¬ im o -> mark (zo (zaz ρ os') S.heap) o = mark S.heap o := fun o h1 => by
      unfold mark;rw [zaH]
      cases hl : look o (zaz ρ os') with
      | none => rfl
      | some ob =>
       exfalso;obtain ⟨⟨n, ob'⟩, hm, he⟩ := zKX.1 (zu hl);simp only [Prod.mk.injEq] at he;exact h1 (he.1 ▸ him n (zfK hm))
     have hKR : zU R w w' := fun b hb => e6 b (hr.rlt b hb) fun n s hn => by
      obtain ⟨k1, k2⟩ := hι0 _ _ _ hn;obtain ⟨o, ho, _, k3⟩ := hsome0 n k1;rw [k3] at k2;exact hRn o ho b s k2 hb
     have hkeepc : ∀ o ∈ ns, (look (zB ns o) os').isSome = true /\ mark os' (zB ns o) = none := fun o ho => by
      rcases hW.keep (pos o ns) (zf4 ho) with ⟨es, hes⟩ | hes
      · exact ⟨by simp only [zB]; rw [hes]; rfl, by simp only [zB, mark]; rw [hes]⟩
      · exact ⟨by simp only [zB]; rw [hes]; rfl, by simp only [zB, mark]; rw [hes]⟩
     have hst : ∀ p, ¬ zb6 p S -> Step w w' ι ι2 (mark S.heap) (mark (zo (zaz ρ os') S.heap)) p := fun p hp => by
      rcases hcase p with ⟨n, h1, rfl⟩ | h1
      · rcases zLV n 1000000 with h2 | h2
        · exact absurd (hfr n h1 h2).1 hp
        · obtain ⟨o, ho, h3, h4⟩ := hgiven n h1 h2;have k0 := hs0 o ho;obtain ⟨_, hes⟩ := hkeepc o ho;rw [<- h3] at hes k0;have k1 : mark S.heap (ρ n) = none := by rw [h4]; exact hmS o ho
          have k2 : mark (zo (zaz ρ os') S.heap) (ρ n) = none := by rw [hm2 n h1]; exact hes
          refine ⟨fun b s hh => ?_, fun b s hh => ?_, fun m hh => (by rw [k1] at hh; cases hh), fun m hh => (by rw [k2] at hh; cases hh)⟩
          · rw [hι2 n h1]; exact e9 n b s (by simp only [ι0, zKN k0]; exact hh)
          · rw [k1]; simpa using e5 b (hr.own _ _ _ hh).2
      · refine Step.other (hι2n p h1) (hm2n p h1) fun b s hh => e6 b (hr.own _ _ _ hh).2 fun n s' hn => ?_;obtain ⟨k1, k2⟩ := hι0 _ _ _ hn;obtain ⟨o, ho, k3, k4⟩ := hsome0 n k1;have := hr.inj _ _ _ _ _ hh k2;subst this;exact h1 ⟨n, by rw [k3]; exact (hkeepc o ho).1, rfl⟩
     have hnk : ∀ n b s, ι0 n = some (b, s) -> ¬ C.keep b := fun n b s hn => (hr.own _ b s (hι0 n b s hn).2).1;have hrel : Rel C ⟨S.env, zo (zaz ρ os') S.heap⟩ a w' ι2 R2 := by
      refine hr.change e1 e2 e3 e4 e5 (fun b hb => e6 b (zLo (hr.keepLt b hb) hr.grow) fun o s ho => hnk o b s ho hb) hR2 (fun b hb => (e8 b hb.1).1) (fun b hb => ?_) hKR ?_ ?_ (fun p hp => hst p fun hu => by rw [hu.1] at hp; cases hp) ?_
      · rcases hb.2 with h1 | h1 | ⟨n, s, h1, _⟩
        · exact hr.rok b h1
        · exact .inr fun hkp => by have := hr.keepLt b hkp; have := hr.grow; omega
        · exact .inr (hnk n b s h1)
      · intro o b s ho
        rcases hcase o with ⟨n, h1, rfl⟩ | h1
        · rw [hι2 n h1] at ho;obtain ⟨k1, k2 | k2⟩ := e10 n b s ho
          · exact ⟨hnk n b s k2, k1⟩
          · exact ⟨fun hkp => by have := hr.keepLt b hkp; have := hr.grow; omega, k1⟩
        · rw [hι2n o h1] at ho;have := hr.own o b s ho;exact ⟨this.1, by omega⟩
      · have mixed : ∀ n o b s s', (look n os').isSome = true -> ¬ im o -> ι' n = some (b, s) -> ι o = some (b, s') -> False := fun n o b s s' h1 h2 h3 h4 => by
         obtain ⟨_, k2 | k2⟩ := e10 n b s h3
         · obtain ⟨k3, k4⟩ := hι0 _ _ _ k2;have := hr.inj _ _ _ _ _ h4 k4;subst this;exact h2 (him n h1)
         · have := (hr.own _ _ _ h4).2; omega
        intro o o' b s s' h1 h2
        rcases hcase o with ⟨n, k1, rfl⟩ | k1 <;> rcases hcase o' with ⟨n', k2, rfl⟩ | k2
        · rw [hι2 n k1] at h1; rw [hι2 n' k2] at h2; rw [e11 _ _ _ _ _ h1 h2]
        · rw [hι2 n k1] at h1; rw [hι2n _ k2] at h2; exact (mixed _ _ _ _ _ k1 k2 h1 h2).elim
        · rw [hι2n _ k1] at h1; rw [hι2 n' k2] at h2; exact (mixed _ _ _ _ _ k2 k1 h2 h1).elim
        · rw [hι2n _ k1] at h1; rw [hι2n _ k2] at h2; exact hr.inj _ _ _ _ _ h1 h2
      · intro o ob ho
        rcases zhP ho with ho | ⟨ho, hno⟩
        · obtain ⟨⟨n, ob'⟩, hm, he⟩ := zKX.1 ho
          cases he
          exact (hlowO n ob' hm).ren (hι2 n (zfK hm)) fun q hq => by
           have h1 := hW.resH n ob' hm q hq;exact ⟨fun p hp => by rw [hι2 q h1]; exact hp, hm2 q h1⟩
        · have h1 : ¬ im o := fun ⟨n, h1, h2⟩ => zCf hno n h1 h2;refine (hr.heap o ob ho).mono hR2 hKR (fun b s hb => ⟨by rw [hι2n o h1]; exact hb, ?_, ?_⟩) (fun h0 => by rw [hι2n o h1]; exact h0) fun p hp => hst p fun hu => by
           have := zb4 ho hu.2;rw [hp] at this; cases this
          · refine e6 b (hr.own _ _ _ hb).2 fun n s' hn => ?_;obtain ⟨k1, k2⟩ := hι0 _ _ _ hn;obtain ⟨q, hq, k3, k4⟩ := hsome0 n k1;have := hr.inj _ _ _ _ _ hb k2;subst this;exact h1 ⟨n, by rw [k3]; exact (hkeepc q hq).1, rfl⟩
          · intro hb'
            rcases hb'.2 with h3 | h3 | ⟨n, s', hn, _⟩
            · exact h3
            · have := (hr.own _ _ _ hb).2; omega
            · obtain ⟨k1, k2⟩ := hι0 _ _ _ hn;obtain ⟨q, hq, k3, k4⟩ := hsome0 n k1;have := hr.inj _ _ _ _ _ hb k2;subst this;exact absurd ⟨n, by rw [k3]; exact (hkeepc q hq).1, rfl⟩ h1
     exact ⟨u, ι2, R2, rfl, hrel, hlowV.ren fun q hq => ⟨fun p hp => by rw [hι2 q (hW.res q hq)]; exact hp, hm2 q (hW.res q hq)⟩⟩
   · cases h
 · cases h
theorem zmP {F : zC} (hF : FOK P F) {E : Env} {H : za} {dst : Nat} {ms : List Bool} {f : FuncId} {args : List AV} {p : AV × za} (h : zar F E H dst ms f args = some p) : zaE P f = true := by
 unfold zar at h;obtain ⟨zKJ, has, h⟩ := zKK.1 h;have hnod : (zX H ms args).Nodup := zfW _ _ _;unfold zbu at h
 split at h
 · rename_i hc;simp only [zKW] at hc;obtain ⟨⟨r, os'⟩, hf, _⟩ := zKK.1 h;refine (hF f _ _ r os' hf (fun ⟨n, ob⟩ hm => ?_) (fun i p hp => (zf1 hnod i p hp).1)).1;obtain ⟨o, ho, _, h2⟩ := zfV hm;have := zK4.1 hc.1 o ho
   split at this
   · rename_i es hes; exact ⟨_, by rw [h2, hes]; rfl⟩
   · cases this
 · cases h
theorem zr1 {H : za} {o : Nat} : ∀ {os : List Nat}, look o (zP H os) = if o ∈ os then some (.frz (mark H o)) else none := by
 intro os
 induction os with
 | nil => rfl
 | cons p os ih =>
  simp only [zP, zKS, look, zLD] at ih ⊢
  by_cases h : p = o
  · subst h; simp
  · rw [zKM h, ih]
    by_cases h2 : o ∈ os
    · rw [zKN h2, zKN (.inr h2)]
    · rw [zKM h2, zKM]; rintro (rfl | h3)
      · exact h rfl
      · exact h2 h3
theorem zhO {H : za} {os : List Nat} : mark (zo (zP H os) H) = mark H := by
 funext o
 have : mark (zo (zP H os) H) o = match look o (zo (zP H os) H) with | some (.acc n) => some n | some (.frz m) => m | _ => none := rfl
 rw [this, zaH, zr1]
 by_cases h : o ∈ os
 · rw [zKN h]; rfl
 · rw [zKM h]; rfl
theorem Rel.freeze {C : Ctx} {S : St} {a : Act} {w : World} {ι : Inj} {R : Nat -> Prop} (hr : Rel C S a w ι R) {os : List Nat} (hok : zcj S.heap os = true) : Rel C ⟨S.env, zo (zP S.heap os) S.heap⟩ a w ι (za6 R ι os) := by
 have hR : ∀ b, R b -> za6 R ι os b := fun b h => .inl h;refine { hr with rlt := fun b hb => ?_, rok := fun b hb => ?_, r0 := fun b hb => .inl (hr.r0 b hb), env := fun t x hx => ?_, heap := fun o ob ho => ?_ }
 · rcases hb with hb | ⟨o, s, _, hb⟩
   · exact hr.rlt b hb
   · exact (hr.own _ _ _ hb).2
 · rcases hb with hb | ⟨o, s, _, hb⟩
   · exact hr.rok b hb
   · exact .inr (hr.own _ _ _ hb).1
 · obtain ⟨u, h1, h2⟩ := hr.env t x hx;exact ⟨u, h1, by rw [zhO]; exact h2.toR (.inl hR)⟩
 · rw [zhO]
   rcases zhP ho with ho | ⟨ho, hno⟩
   · obtain ⟨q, hq, he⟩ := zKX.1 ho
     cases he
     obtain ⟨ob', hl⟩ := zLG.1 (zK4.1 hok _ hq);refine .frz fun b s hb => ⟨.inr ⟨_, s, hq, hb⟩, ?_⟩
     cases hr.heap _ _ (zu hl) with
     | row k1 _ _ k4 => rw [hb] at k1; cases k1; exact k4
     | acc _ k2 _ _ k5 => rw [hb] at k2; cases k2; exact k5
     | accN k1 => rw [hb] at k1; cases k1
     | frz k => exact (k b s hb).2
     | mp k1 _ _ k4 => rw [hb] at k1; cases k1; exact k4
   · rw [zr1] at hno
     split at hno
     · cases hno
     · rename_i hne;have hns : ∀ b s, ι o = some (b, s) -> ¬ R b -> ¬ za6 R ι os b := fun b s hb hn => by
        rintro (h | ⟨o', s', ho', hb'⟩)
        · exact hn h
        · have := hr.inj _ _ _ _ _ hb hb';subst this; exact hne ho'
       cases hr.heap _ _ ho with
       | row k1 k2 k3 k4 k5 k6 k7 => exact .row k1 (hns _ _ k1 k2) k3 k4 k5 k6 fun i e he j x hx => let ⟨j1, q, j2, j3⟩ := k7 i e he j x hx; ⟨j1, q, j2, j3.toR (.inl hR)⟩
       | acc k1 k2 k3 k4 k5 k6 => exact .acc k1 k2 (hns _ _ k2 k3) k4 k5 k6
       | accN k1 => exact .accN k1
       | frz k => exact .frz fun b s hb => ⟨.inl (k b s hb).1, (k b s hb).2⟩
       | mp k1 k2 k3 k4 k5 k6 => exact .mp k1 (hns _ _ k1 k2) k3 k4 k5 fun i k x hi => let ⟨e, j1, j2, j3⟩ := k6 i k x hi; ⟨e, j1, j2, j3.mono_v hR fun _ _ => rfl⟩
theorem zHZ {δ ε H : za} : zo (δ ++ ε) H = zo δ (zo ε H) := by
 induction δ with
 | nil => rfl
 | cons p δ ih => obtain ⟨o, ob⟩ := p; simp only [zLW, zo, ih]
theorem zxE {F : zC} (hF : FOK P F) {C : Ctx} {S : St} {a : Act} {w : World} {ι : Inj} {R : Nat -> Prop} {dst : Nat} {ms : List Bool} {f : FuncId} {args : List AV} {v : AV} {δ : za} {us : List Value}
    (h : zS F S.env S.heap dst ms f args = some (v, δ)) (hr : Rel C S a w ι R) (hv : VAs w R ι (mark S.heap) args us) :
    Calls P f us.toArray w fun e w' => ∃ u ι' R', e = .returned u /\ Rel C ⟨S.env, zo δ S.heap⟩ a w' ι' R' /\ VA w' R' ι' (mark (zo δ S.heap)) v u := by
 unfold zS at h
 split at h
 · obtain ⟨zKJ, has, h⟩ := zKK.1 h;unfold zbQ at h
   split at h
   · rename_i hok;obtain ⟨⟨v', δ'⟩, h1, h2⟩ := zKL.1 h
     cases h2
     obtain ⟨hlen, hget⟩ := zmT has;have hr' := hr.freeze hok;have := zmS hF (S := ⟨S.env, zo (zP S.heap (zy ms args)) S.heap⟩) h1 hr' (us := us) ⟨by rw [hlen]; exact hv.1, fun i x u hx hu => by
      have hlt := (zKP.1 hx).1;rw [hlen] at hlt;have ha : args[i]? = some args[i] := zKR hlt;rw [zhO]
      rcases hget i _ x ha hx with ⟨h3, _⟩ | ⟨d, h3, h4, h5⟩
      · subst h3; exact (hv.2 i _ u ha hu).toR (.inl fun _ h => .inl h)
      · subst h4; exact .d (zsT hr (hv.2 i _ u ha hu) h3 h5)⟩
     simp only [zHZ];exact this
   · cases h
 · exact zmS hF h hr hv
theorem zxA {F : zC} (hF : FOK P F) {E : Env} {H : za} {dst : Nat} {ms : List Bool} {f : FuncId} {args : List AV} {p : AV × za} (h : zS F E H dst ms f args = some p) : zaE P f = true := by
 unfold zS at h
 split at h
 · obtain ⟨zKJ, _, h⟩ := zKK.1 h;unfold zbQ at h
   split at h
   · obtain ⟨q, h1, _⟩ := zKL.1 h;exact zmP hF h1
   · cases h
 · exact zmP hF h
end Go.Sim
