/-
  An operation brings in no object but its operands' and its o.
-/
import Derived.Test.YtgjlpcbolldhhaaGreatB2d787b2
import Derived.Test.YtgjlpcbolldhhaaGreatB95f1777
set_option linter.unusedSimpArgs false
set_option linter.unusedVariables false
set_option maxHeartbeats 10000000
set_option maxRecDepth 100000
namespace Go.Sim
open Go (World Value Addr TypeId Act)
variable {P : Program} {C : Ctx} {S : St} {a : Act} {w : World} {ι : Inj} {R : Nat -> Prop}
def VAs (w : World) (R : Nat -> Prop) (ι : Inj) (mk : Nat -> Option Nat) (xs : List AV) (us : List Value) : Prop :=
 us.length = xs.length /\ ∀ (i : Nat) (x : AV) (u : Value), xs[i]? = some x -> us[i]? = some u -> VA w R ι mk x u
def GF (P : Program) (f : FuncId) (args : List AV) (os : za) (r : AV) (os' : za) : Prop :=
 ∀ (w : World) (R : Nat -> Prop) (ι : Inj) (us : List Value), (∀ b, R b -> b < w.heap.size) -> (∀ o b s, ι o = some (b, s) -> b < w.heap.size /\ ¬ R b /\ (look o os).isSome = true) ->
  (∀ o o' b s s', ι o = some (b, s) -> ι o' = some (b, s') -> o = o') -> (∀ o ob, (o, ob) ∈ os -> OB w R ι (mark os) o ob) -> VAs w R ι (mark os) args us ->
  Calls P f us.toArray w fun e w' => ∃ (u : Value) (ι' : Inj) (R' : Nat -> Prop), e = .returned u /\ w'.os = w.os /\ w'.tape = w.tape /\ w'.output = w.output /\ w.heap.size <= w'.heap.size /\
   (∀ b, b < w.heap.size -> Blk w w' b 0) /\ (∀ b, b < w.heap.size -> (∀ o s, ι o ≠ some (b, s)) -> w'.heap[b]? = w.heap[b]?) /\ (∀ b, R b -> R' b) /\ (∀ b, R' b -> b < w'.heap.size /\ (R b \/ w.heap.size <= b \/ ∃ o s, ι o = some (b, s) /\ look o os' = some (.frz none))) /\
   (∀ o b s, ι o = some (b, s) -> ι' o = some (b, s)) /\ (∀ o b s, ι' o = some (b, s) -> b < w'.heap.size /\ (ι o = some (b, s) \/ w.heap.size <= b)) /\ (∀ o o' b s s', ι' o = some (b, s) -> ι' o' = some (b, s') -> o = o') /\
   (∀ o ob, (o, ob) ∈ os' -> OB w' R' ι' (mark os') o ob) /\ VA w' R' ι' (mark os') r u
def za6 (R : Nat -> Prop) (ι : Inj) (os : List Nat) : Nat -> Prop := fun b => R b \/ ∃ o s, o ∈ os /\ ι o = some (b, s)
theorem AV.objsL_mem {o : Nat} {x : AV} {xs : List AV} (h : x ∈ xs) (ho : o ∈ x.objs) : o ∈ AV.objsL xs := by
 induction xs with
 | nil => cases h
 | cons y ys ih =>
  simp only [AV.objsL, zLb]
  cases h with
  | head => exact .inl ho
  | tail _ h => exact .inr (ih h)
theorem zil {H : za} : ∀ {xs : List AV} {ds : List D}, toD.toDs H xs = some ds -> ds.length = xs.length /\ ∀ (i : Nat) (x : AV) (d : D), xs[i]? = some x -> ds[i]? = some d -> toD H x = some d := by
 intro xs
 induction xs with
 | nil => intro ds h; simp only [toD.toDs, Option.some.injEq] at h; subst h; simp
 | cons x xs ih =>
  intro ds h;simp only [toD.toDs] at h
  split at h
  · rename_i y ys h1 h2
    cases h
    obtain ⟨h3, h4⟩ := ih h2;refine ⟨by simp [h3], fun i a b ha hb => ?_⟩
    match i, ha, hb with
    | 0, ha, hb => simp at ha hb; subst ha hb; exact h1
    | n + 1, ha, hb => exact h4 n a b (by simpa using ha) (by simpa using hb)
  · cases h
theorem Rd.sealed {os : List Nat} {it : It} (h : Rd w R it) : Rd w (za6 R ι os) it := h.mono (fun _ h => .inl h) (fun _ _ => rfl) (by cases it with | v => trivial | el => exact fun _ _ => rfl)
theorem zJK {H : za} {x : AV} {d : D} (h : toD H x = some d) (hx : x.cell = true) : d.cell = true := by
 cases x with
 | d y => simp only [toD, Option.some.injEq] at h; subst h; exact hx
 | xsl es => simp only [toD, Option.some.injEq] at h; subst h; rfl
 | acc o es => simp only [toD, Option.some.injEq] at h; subst h; rfl
 | osl o off len =>
  simp only [toD] at h
  split at h
  · obtain ⟨ds, _, h⟩ := zKK.1 h
    split at h
    · cases h; rfl
    · cases h
  · cases h
 | fn f cs => simp only [toD, zKL] at h; obtain ⟨_, _, rfl⟩ := h; rfl
 | ref o i off =>
  cases off with
  | zero =>
   simp only [toD] at h
   split at h
   · obtain ⟨e, _, h⟩ := zKK.1 h
     split at h
     · cases h; rfl
     · cases h
   · cases h
  | succ n => simp [toD] at h
 | pe o x => simp [toD] at h
 | nl b => simp [toD] at h
 | mpr b => simp [toD] at h
 | agg => simp [AV.cell] at hx
 | tup => simp [AV.cell] at hx
 | undef => simp [AV.cell] at hx
theorem zdN (hr : Rel C S a w ι R) {x : AV} {u : Value} (h : VA w R ι (mark S.heap) x u) : ∀ {d : D} {os : List Nat}, toD S.heap x = some d -> (∀ o ∈ x.objs, o ∈ os) -> Rd w (za6 R ι os) (.v d u) := by
 induction h with
 | d h => intro d os hd _; simp only [toD, Option.some.injEq] at hd; subst hd; exact h.sealed
 | xsl h => intro d os hd _; simp only [toD, Option.some.injEq] at hd; subst hd; exact h.sealed
 | @ref o i off b s hι hmk =>
  intro d os hd ho
  cases off with
  | succ n => simp [toD] at hd
  | zero =>
   simp only [toD] at hd
   split at hd
   · rename_i es hes;obtain ⟨e, he, hd⟩ := zKK.1 hd
     split at hd
     · rename_i y
       cases hd
       have hob := hr.heap _ _ (zu hes)
       cases hob with
       | row hι' hR hb hs hsz _ hcell =>
        rw [hι] at hι'; cases hι';refine .pd (.inr ⟨o, s, ho o (by simp [AV.objs]), hι⟩) (Rd.el_of_cells (fun vs hvs => ?_) fun j c hj => ?_)
        · subst hvs;have := (hcell _ _ he 0 (.d (.tup vs)) rfl).1;simp [AV.cell, D.cell] at this
        · obtain ⟨k1, q, k2, k3⟩ := hcell _ _ he j (.d c) (by simp [AV.cells, hj]);exact ⟨k1, q, by rw [zK hb]; exact k2, k3.of_d.sealed⟩
     · cases hd
   · cases hd
 | @osl o off len cap b s c T hι hmk hb hl hc hL =>
  intro d os hd ho;simp only [toD] at hd
  split at hd
  · rename_i es hes;obtain ⟨ds, hds, hd⟩ := zKK.1 hd
    split at hd
    · rename_i hlen
      cases hd
      have hob := hr.heap _ _ (zu hes)
      cases hob with
      | row hι' hR hb' hs hsz _ hcell =>
       rw [hι] at hι'; cases hι';rw [hb] at hb'; cases hb'
       by_cases h0 : ds = []
       · subst h0; simp at hlen; subst hlen; exact .sl0
       · have hget : ∀ (i : Nat) (d : D), ds[i]? = some d -> es[off + i]? = some (.d d) := fun i d hi => by
          have h1 := zmu hds hi;have hlt : i < len := by rw [<- hlen]; exact (zKP.1 hi).1
          rw [zL0 hlt, zLv] at h1; exact h1
         have := Rd.sl (w := w) (R := za6 R ι os) (es := ds) (b := b) (off := off * s) (s := s) (cap := cap) (.inr ⟨o, s, ho o (by simp [AV.objs]), hι⟩) h0 hs (by omega) (by omega) (fun e he => by
          obtain ⟨i, hi⟩ := zLl he;have := hsz _ (zKU (hget i e hi));exact this) (fun i e hi => by
          have he := hget i e hi;refine Rd.el_of_cells (fun vs hvs => ?_) fun j c' hj => ?_
          · subst hvs;have := (hcell _ _ he 0 (.d (.tup vs)) rfl).1;simp [AV.cell, D.cell] at this
          · obtain ⟨k1, q, k2, k3⟩ := hcell _ _ he j (.d c') (by simp [AV.cells, hj]);refine ⟨k1, q, ?_, k3.of_d.sealed⟩;rw [zK hb, <- k2, zLm])
         rwa [hlen] at this
    · cases hd
  · cases hd
 | osl0 =>
  intro d os hd _;simp only [toD] at hd
  split at hd
  · obtain ⟨ds, hds, hd⟩ := zKK.1 hd
    split at hd
    · rename_i hlen
      cases hd
      have : ds = [] := zLh.1 hlen;subst this; exact .sl0
    · cases hd
  · cases hd
 | @accR o b off s cap es hR hs hL hl hsz hh hm =>
  intro d os hd _;simp only [toD, Option.some.injEq] at hd; subst hd
  by_cases h0 : es = []
  · subst h0; exact .sl0
  · exact .sl (.inl hR) h0 hs hL hl hsz fun i e hi => (hh i e hi).sealed
 | @accC o b s m cap es c T hι hmk hm hL hl hsz hb hc hh =>
  intro d os hd ho;simp only [toD, Option.some.injEq] at hd; subst hd
  by_cases h0 : es = []
  · subst h0; exact .sl0
  · unfold mark at hmk
    split at hmk
    · rename_i q hq
      cases hmk
      cases hr.heap _ _ (zu hq) with
      | accN hι' => rw [hι] at hι'; cases hι'
      | acc _ hι' _ _ hs _ =>
       rw [hι] at hι'; cases hι';exact .sl (.inr ⟨o, s, ho o (by simp [AV.objs]), hι⟩) h0 hs hL hl hsz fun i e hi => by rw [zKT]; exact (hh i e hi).sealed
    · rename_i q hq
      cases hr.heap _ _ (zu hq) with
      | frz hf =>
       obtain ⟨hR, hs⟩ := hf _ _ hι;exact .sl (.inl hR) h0 hs hL hl hsz fun i e hi => by rw [zKT]; exact (hh i e hi).sealed
    · cases hmk
 | acc0 => intro d os hd _; simp only [toD, Option.some.injEq] at hd; subst hd; exact .sl0
 | agg hl hc _ ih =>
  intro d os hd ho;simp only [toD, zKL] at hd;obtain ⟨ds, hds, rfl⟩ := hd;obtain ⟨h1, h2⟩ := zil hds;refine .agg (by omega) (fun c hc' => ?_) fun i c u k1 k2 => ?_
  · obtain ⟨i, hi⟩ := zLl hc';have hlt := (zKP.1 hi).1;rw [h1] at hlt;exact zJK (h2 i _ c (zKR hlt) hi) (hc _ (zLq hlt))
  · have hlt := (zKP.1 k1).1;rw [h1] at hlt;have hx := zKR hlt;exact ih i _ u hx k2 (h2 i _ c hx k1) fun o ho' => ho o (by simp only [AV.objs]; exact AV.objsL_mem (zLq hlt) ho')
 | tup hl _ ih =>
  intro d os hd ho;simp only [toD, zKL] at hd;obtain ⟨ds, hds, rfl⟩ := hd;obtain ⟨h1, h2⟩ := zil hds;refine .tup (by omega) fun i c u k1 k2 => ?_;have hlt := (zKP.1 k1).1;rw [h1] at hlt;have hx := zKR hlt;exact ih i _ u hx k2 (h2 i _ c hx k1) fun o ho' => ho o (by simp only [AV.objs]; exact AV.objsL_mem (zLq hlt) ho')
 | fn hl _ ih =>
  intro d os hd ho;simp only [toD, zKL] at hd;obtain ⟨ds, hds, rfl⟩ := hd;obtain ⟨h1, h2⟩ := zil hds;refine .fn (by omega) fun i c u k1 k2 => ?_;have hlt := (zKP.1 k1).1;rw [h1] at hlt;have hx := zKR hlt;exact ih i _ u hx k2 (h2 i _ c hx k1) fun o ho' => ho o (by simp only [AV.objs]; exact AV.objsL_mem (zLq hlt) ho')
 | _ => intro d os hd _; simp [toD] at hd
mutual
def D.flat : D -> Bool
 | .int _ _ => true
 | .bool _ => true
 | .str _ => true
 | .agg cs => D.flatL cs
 | .tup cs => D.flatL cs
 | .sl _ => false
 | .pd _ => false
 | .fn _ cs => D.flatL cs
 | .nil => true
def D.flatL : List D -> Bool
 | [] => true
 | x :: xs => D.flat x && D.flatL xs
end
end Go.Sim

namespace Go.Sim
open Go (World Value Addr TypeId Act)
def AOp.opds : AOp -> List Opd
 | .mv x => [x]
 | .pick c a b => [c, a, b]
 | .alloc _ => []
 | .box x => [x]
 | .build _ ps => ps.map (·.2.2)
 | .bsl _ _ _ ps => ps.map (·.2)
 | .ld _ _ p => [p]
 | .st _ p x => [p, x]
 | .nilc x => [x]
 | .bin _ x y => [x, y]
 | .eqb _ x y => [x, y]
 | .eqs _ _ _ x y => [x, y]
 | .nacc => []
 | .un _ x => [x]
 | .cvi _ x => [x]
 | .s2b x => [x]
 | .b2s x => [x]
 | .mkfn _ cs => cs
 | .fad _ _ _ x => [x]
 | .fld _ _ _ x => [x]
 | .iad _ x i => [x, i]
 | .iada _ _ _ x i => [x, i]
 | .idx x i => [x, i]
 | .idxa _ _ _ x i => [x, i]
 | .slc _ x lo hi mx => x :: (lo.toList ++ hi.toList ++ mx.toList)
 | .sls x lo hi => x :: (lo.toList ++ hi.toList)
 | .ext x _ => [x]
 | .len x => [x]
 | .lens x => [x]
 | .app _ x y => [x, y]
 | .apps x y => [x, y]
 | .clr _ x => [x]
 | .mm _ xs => xs
 | .mks _ _ l c => [l, c]
 | .nileq _ x => [x]
 | .call _ _ xs => xs
 | .callv f _ xs => f :: xs
 | .atl p => [p]
 | .ats p x => [p, x]
 | .atc p x y => [p, x, y]
 | .mkm => []
 | .lkp _ _ x k => [x, k]
 | .mup x k v => [x, k, v]
def AOp.looks : AOp -> Bool
 | .ld .. | .st .. | .clr .. | .iad .. | .slc .. | .app .. | .apps .. | .call .. | .callv .. | .lkp .. | .mup .. | .atl .. | .ats .. | .atc .. => true
 | _ => false
def AOp.stores : AOp -> Bool
 | .st .. | .clr .. | .mup .. | .ats .. | .atc .. => true
 | _ => false
def AOp.news : AOp -> Bool
 | .alloc .. | .box .. | .bsl .. | .mks .. | .app .. | .apps .. | .nacc | .mkm => true
 | _ => false
def zcs (E : Env) : List Opd -> List Nat
 | [] => []
 | y :: l => (y.ev E).objs ++ zcs E l
theorem zaP {E : Env} {o : Nat} : ∀ {l : List Opd}, o ∈ zcs E l ↔ ∃ y ∈ l, o ∈ (y.ev E).objs := by
 intro l
 induction l with
 | nil => simp [zcs]
 | cons y l ih => simp [zcs, ih]
def AOp.foot (E : Env) (dst : Nat) (op : AOp) : List Nat := (if op.looks then zcs E op.opds else []) ++ (if op.news then [dst] else [])
def AOp.wr (E : Env) (dst : Nat) : AOp -> List Nat
 | .st _ p _ => (p.ev E).objs
 | .clr _ x => (x.ev E).objs
 | .app _ x _ => (x.ev E).objs ++ [dst]
 | .apps x _ => (x.ev E).objs ++ [dst]
 | .mup x _ _ => (x.ev E).objs
 | .ats p _ => (p.ev E).objs
 | .atc p _ _ => (p.ev E).objs
 | .alloc _ | .box _ | .bsl .. | .mks .. | .nacc | .mkm => [dst]
 | _ => []
theorem AOp.wr_foot {E : Env} {dst o : Nat} {op : AOp} (h : o ∈ op.wr E dst) : o ∈ op.foot E dst := by
 cases op <;> simp_all [AOp.wr, AOp.foot, AOp.looks, AOp.news, AOp.opds, zcs]
 · rcases h with h | h <;> simp [h]
 · rcases h with h | h <;> simp [h]
def zo : za -> za -> za
 | [], H => H
 | (o, ob) :: δ, H => zj o ob (zo δ H)
theorem zr4 {α : Type} {k j : Nat} {x : α} {l : List (Nat × α)} : look j (zj k x l) = if j = k then some x else look j l := by
 split
 · rename_i h; subst h; simp
 · rename_i h; exact zr5 h
theorem zaH {o : Nat} {δ H : za} : look o (zo δ H) = (look o δ).or (look o H) := by
 induction δ with
 | nil => simp [zo, look]
 | cons p δ ih =>
  obtain ⟨q, ob⟩ := p;rw [zo, zr4, look]
  by_cases h : o = q
  · simp [h]
  · rw [zKM h, zKM (Ne.symm h), ih]
structure zF (op : AOp) (E : Env) (H : za) (dst : Nat) (v : AV) (H' : za) (δ : za) : Prop where
 eq : H' = zo δ H
 sub : ∀ o ob, (o, ob) ∈ δ -> o ∈ op.wr E dst
 same : ∀ E2 H2, (∀ y ∈ op.opds, y.ev E2 = y.ev E) -> (∀ o ∈ op.foot E dst, look o H2 = look o H) -> (op.news = true -> refsEnv dst E2 = false /\ refsHeap dst H2 = false) -> ze E2 H2 dst op = some (v, zo δ H2)
theorem zF.quiet {op : AOp} {E : Env} {H : za} {dst : Nat} {v : AV} {H' : za} (hn : op.news = false)
    (h : ∀ E2 H2, (∀ y ∈ op.opds, y.ev E2 = y.ev E) -> (op.looks = true -> ∀ o ∈ zcs E op.opds, look o H2 = look o H) -> ze E2 H2 dst op = some (v, H2)) (he : H' = H) : zF op E H dst v H' [] := by
 refine ⟨he, (fun o ob h => nomatch h), fun E2 H2 h1 h2 _ => h E2 H2 h1 fun hl o ho => h2 o ?_⟩;simp [AOp.foot, hl, ho]
theorem zf0 {E E2 : Env} {α : Type} {l : List α} {g : α -> Opd} (h : ∀ y ∈ l.map g, y.ev E2 = y.ev E) : ∀ p ∈ l, (g p).ev E2 = (g p).ev E := fun p hp => h _ (zLY hp)
theorem zhN {E E2 : Env} {l : List Opd} (h : ∀ y ∈ l, y.ev E2 = y.ev E) : l.map (·.ev E2) = l.map (·.ev E) := zLF h
theorem zBX {E : Env} {H H2 : za} {ag : Bool} {n : Nat} {x : AV} (h : ∀ o ∈ x.objs, look o H2 = look o H) : ldA H2 ag n x = ldA H ag n x := by
 cases x with
 | d y => cases y <;> rfl
 | ref o i off => simp only [ldA]; try rw [h _ (by simp [AV.objs])]
 | osl o off len => simp only [ldA]; try rw [h _ (by simp [AV.objs])]
 | _ => rfl
theorem zzX {H H2 : za} {n : Nat} {i : Int} {x : AV} (h : ∀ o ∈ x.objs, look o H2 = look o H) : zat H2 n i x = zat H n i x := by
 cases x with
 | d y => cases y <;> rfl
 | ref o i off => simp only [zat]; try rw [h _ (by simp [AV.objs])]
 | osl o off len => simp only [zat]; try rw [h _ (by simp [AV.objs])]
 | _ => rfl
theorem zJa {H H2 : za} {n : Nat} {lo hi mx : Option AV} {x : AV} (h : ∀ o ∈ x.objs, look o H2 = look o H) : zak H2 n lo hi mx x = zak H n lo hi mx x := by
 cases x with
 | d y => cases y <;> rfl
 | ref o i off => simp only [zak]; try rw [h _ (by simp [AV.objs])]
 | osl o off len => simp only [zak]; try rw [h _ (by simp [AV.objs])]
 | _ => rfl
theorem zJg {H H2 : za} {x : AV} (h : ∀ o ∈ x.objs, look o H2 = look o H) : zaC H2 x = zaC H x := by
 cases x with
 | d y => cases y <;> rfl
 | ref o i off => simp only [zaC]; try rw [h _ (by simp [AV.objs])]
 | osl o off len => simp only [zaC]; try rw [h _ (by simp [AV.objs])]
 | _ => rfl
theorem zmB {H H2 : za} {x : AV} (h : ∀ o ∈ x.objs, look o H2 = look o H) : za9 H2 x = za9 H x := by
 cases x with
 | ref o i off => simp only [za9]; rw [h _ (by simp [AV.objs])]
 | _ => rfl
theorem zmD {H H1 : za} {n : Int} {p : AV} (h : zbM H n p = some H1) : ∃ o ob, o ∈ p.objs /\ H1 = zj o ob H /\ ∀ H2 : za, look o H2 = look o H -> zbM H2 n p = some (zj o ob H2) := by
 unfold zbM at h
 split at h
 · rename_i o i off
   split at h
   · rename_i es hes;obtain ⟨e, he, h⟩ := zKK.1 h;obtain ⟨m, hm, h⟩ := zKK.1 h;obtain ⟨e', he', h⟩ := zKL.1 h
     cases h
     refine ⟨o, _, by simp [AV.objs], rfl, fun H2 h2 => ?_⟩;simp only [zbM, h2, hes, he, zLi, hm, he', zLn]
   · cases h
 · cases h
theorem zB9 {H H2 : za} {ok : Bool} {z : D} {x k : AV} (h : ∀ o ∈ x.objs, look o H2 = look o H) : zdv H2 ok z x k = zdv H ok z x k := by
 cases x with
 | mpr o =>
  cases k with
  | d y => unfold zdv; have := h o (by simp [AV.objs]); split <;> simp_all
  | _ => rfl
 | _ => rfl
theorem zF.new {op : AOp} {E : Env} {H : za} {dst : Nat} {v : AV} {ob : Obj} (hn : op.news = true)
    (h : ∀ E2 H2, (∀ y ∈ op.opds, y.ev E2 = y.ev E) -> (∀ o ∈ op.foot E dst, look o H2 = look o H) -> refsEnv dst E2 = false -> refsHeap dst H2 = false -> ze E2 H2 dst op = some (v, zj dst ob H2)) : zF op E H dst v (zj dst ob H) [(dst, ob)] := by
 refine ⟨rfl, fun o ob' h' => ?_, fun E2 H2 h1 h2 h3 => h E2 H2 h1 h2 (h3 hn).1 (h3 hn).2⟩;simp only [zLu, Prod.mk.injEq] at h';rw [h'.1]
 cases op <;> simp_all [AOp.wr, AOp.news]
theorem zmy {op : AOp} {E : Env} {H : za} {dst n : Nat} {x : Opd} {ys : List D} {v : AV} {H' : za} (hn : op.news = true) (hl : op.looks = true) (hx : x ∈ op.opds) (hw : ∀ o ∈ (x.ev E).objs, o ∈ op.wr E dst) (h : zah E H dst n ys (x.ev E) = some (v, H'))
    (hop : ∀ E2 H2, (∀ y ∈ op.opds, y.ev E2 = y.ev E) -> (∀ o ∈ op.foot E dst, look o H2 = look o H) -> ze E2 H2 dst op = zah E2 H2 dst n ys (x.ev E)) : ∃ δ, zF op E H dst v H' δ := by
 cases hxv : x.ev E with
 | xsl es =>
  rw [hxv] at h;simp only [zah] at h
  split at h
  · rename_i h0
    split at h
    · rename_i h1
      cases h
      refine ⟨[], rfl, fun p ob hp => (by cases hp), fun E2 H2 k1 k2 _ => ?_⟩;rw [hop E2 H2 k1 k2, hxv];simp only [zah];rw [zKN h0, zKN h1]; rfl
    · cases h
  rename_i h0
  split at h
  · rename_i hc
    cases h
    refine ⟨_, zF.new hn fun E2 H2 h1 h2 h3 h4 => ?_⟩;rw [hop E2 H2 h1 h2, hxv];simp only [zah];rw [zKM h0, zKN ⟨hc.1, hc.2.1, h3, h4⟩]
  · cases h
 | acc o es =>
  rw [hxv] at h;simp only [zah] at h;have hmem : o ∈ op.foot E dst := by
   simp only [AOp.foot, hl, if_true, zLb];exact .inl (zaP.2 ⟨x, hx, by rw [hxv]; simp [AV.objs]⟩)
  split at h
  · rename_i m hm
    split at h
    · rename_i hc
      cases h
      refine ⟨[(o, .acc (m + ys.length))], rfl, ?_, fun E2 H2 h1 h2 _ => ?_⟩
      · intro p ob hp;simp only [zLu, Prod.mk.injEq] at hp;rw [hp.1]; exact hw _ (by rw [hxv]; simp [AV.objs])
      · rw [hop E2 H2 h1 h2, hxv];simp only [zah];rw [h2 _ hmem, hm];simp only [hc, and_self, if_true, zo]
    · cases h
  · cases h
 | _ => rw [hxv] at h; simp [zah] at h
theorem zD {op : AOp} {E : Env} {H : za} {dst : Nat} {r : AV × za} (hn : op.news = false) (hs : op.stores = false) (h : ze E H dst op = some r) : r.2 = H := by
 obtain ⟨v, H'⟩ := r
 cases op with
 | st n p x => cases hs
 | clr n x => cases hs
 | mup x k v => cases hs
 | ats p x => cases hs
 | atc p x y => cases hs
 | atl p =>
  simp only [ze] at h;obtain ⟨q, _, h⟩ := zKL.1 h
  cases h; rfl
 | lkp ok z x k =>
  simp only [ze] at h;obtain ⟨q, _, h⟩ := zKL.1 h
  cases h; rfl
 | sls x lo hi =>
  simp only [ze] at h
  split at h
  · obtain ⟨q, _, h⟩ := zKK.1 h;obtain ⟨l, _, h⟩ := zKL.1 h
    cases h; rfl
  · cases h
 | _ =>
  first
   | (exfalso; revert hn; simp [AOp.news]; done)
   | (revert h
      simp only [ze]
      (repeat' split) <;> intro h <;> simp_all [zKL, zKK] <;> grind)
theorem ztr {op : AOp} {E : Env} {H : za} {dst : Nat} {v : AV} {H' : za} (h : ze E H dst op = some (v, H')) : ∃ δ, zF op E H dst v H' δ := by
 cases op with
 | mv x =>
  simp only [ze, Option.some.injEq, Prod.mk.injEq] at h;obtain ⟨rfl, rfl⟩ := h;refine ⟨[], zF.quiet rfl (fun E2 H2 he _ => ?_) rfl⟩;simp [ze, he x (by simp [AOp.opds])]
 | pick c a b =>
  simp only [ze] at h
  split at h
  · rename_i t ht;simp only [Option.some.injEq, Prod.mk.injEq] at h;obtain ⟨rfl, rfl⟩ := h;refine ⟨[], zF.quiet rfl (fun E2 H2 he _ => ?_) rfl⟩;simp only [ze, he c (by simp [AOp.opds]), he a (by simp [AOp.opds]), he b (by simp [AOp.opds]), ht]
  · cases h
 | nilc x =>
  refine ⟨[], zF.quiet rfl (fun E2 H2 he _ => ?_) (zD rfl rfl h)⟩;have hq := zD rfl rfl h;dsimp only at hq; subst hq;revert h;simp only [ze, he x (by simp [AOp.opds])]
  (repeat' split) <;> intro h <;> simp_all [zKL, zKK]
 | bin op x y =>
  refine ⟨[], zF.quiet rfl (fun E2 H2 he _ => ?_) (zD rfl rfl h)⟩;have hq := zD rfl rfl h;dsimp only at hq; subst hq;revert h;simp only [ze, he x (by simp [AOp.opds]), he y (by simp [AOp.opds])]
  (repeat' split) <;> intro h <;> simp_all [zKL, zKK]
 | eqb ng x y =>
  refine ⟨[], zF.quiet rfl (fun E2 H2 he _ => ?_) (zD rfl rfl h)⟩;have hq := zD rfl rfl h;dsimp only at hq; subst hq;revert h;simp only [ze, he x (by simp [AOp.opds]), he y (by simp [AOp.opds])]
  (repeat' split) <;> intro h <;> simp_all [zKL, zKK]
 | eqs ng n ls x y =>
  refine ⟨[], zF.quiet rfl (fun E2 H2 he _ => ?_) (zD rfl rfl h)⟩;have hq := zD rfl rfl h;dsimp only at hq; subst hq;revert h;simp only [ze, he x (by simp [AOp.opds]), he y (by simp [AOp.opds])]
  (repeat' split) <;> intro h <;> simp_all [zKL, zKK]
 | nacc =>
  simp only [ze] at h
  split at h
  · rename_i hc
    cases h
    exact ⟨_, zF.new rfl fun E2 H2 _ _ h1 h2 => by simp only [ze]; rw [zKN ⟨h1, h2⟩]⟩
  · cases h
 | un op x =>
  refine ⟨[], zF.quiet rfl (fun E2 H2 he _ => ?_) (zD rfl rfl h)⟩;have hq := zD rfl rfl h;dsimp only at hq; subst hq;revert h;simp only [ze, he x (by simp [AOp.opds])]
  (repeat' split) <;> intro h <;> simp_all [zKL, zKK]
 | cvi k x =>
  refine ⟨[], zF.quiet rfl (fun E2 H2 he _ => ?_) (zD rfl rfl h)⟩;have hq := zD rfl rfl h;dsimp only at hq; subst hq;revert h;simp only [ze, he x (by simp [AOp.opds])]
  (repeat' split) <;> intro h <;> simp_all [zKL, zKK]
 | s2b x =>
  refine ⟨[], zF.quiet rfl (fun E2 H2 he _ => ?_) (zD rfl rfl h)⟩;have hq := zD rfl rfl h;dsimp only at hq; subst hq;revert h;simp only [ze, he x (by simp [AOp.opds])]
  (repeat' split) <;> intro h <;> simp_all [zKL, zKK]
 | b2s x =>
  refine ⟨[], zF.quiet rfl (fun E2 H2 he _ => ?_) (zD rfl rfl h)⟩;have hq := zD rfl rfl h;dsimp only at hq; subst hq;revert h;simp only [ze, he x (by simp [AOp.opds])]
  (repeat' split) <;> intro h <;> simp_all [zKL, zKK]
 | fad ag off n x =>
  refine ⟨[], zF.quiet rfl (fun E2 H2 he _ => ?_) (zD rfl rfl h)⟩;have hq := zD rfl rfl h;dsimp only at hq; subst hq;revert h;simp only [ze, he x (by simp [AOp.opds])]
  (repeat' split) <;> intro h <;> simp_all [zKL, zKK]
 | fld ag off n x =>
  refine ⟨[], zF.quiet rfl (fun E2 H2 he _ => ?_) (zD rfl rfl h)⟩;have hq := zD rfl rfl h;dsimp only at hq; subst hq;revert h;simp only [ze, he x (by simp [AOp.opds])]
  (repeat' split) <;> intro h <;> simp_all [zKL, zKK]
 | iada ag len n x i =>
  refine ⟨[], zF.quiet rfl (fun E2 H2 he _ => ?_) (zD rfl rfl h)⟩;have hq := zD rfl rfl h;dsimp only at hq; subst hq;revert h;simp only [ze, he x (by simp [AOp.opds]), he i (by simp [AOp.opds])]
  (repeat' split) <;> intro h <;> simp_all [zKL, zKK]
 | idx x i =>
  refine ⟨[], zF.quiet rfl (fun E2 H2 he _ => ?_) (zD rfl rfl h)⟩;have hq := zD rfl rfl h;dsimp only at hq; subst hq;revert h;simp only [ze, he x (by simp [AOp.opds]), he i (by simp [AOp.opds])]
  (repeat' split) <;> intro h <;> simp_all [zKL, zKK]
 | idxa ag len n x i =>
  refine ⟨[], zF.quiet rfl (fun E2 H2 he _ => ?_) (zD rfl rfl h)⟩;have hq := zD rfl rfl h;dsimp only at hq; subst hq;revert h;simp only [ze, he x (by simp [AOp.opds]), he i (by simp [AOp.opds])]
  (repeat' split) <;> intro h <;> simp_all [zKL, zKK]
 | ext x i =>
  refine ⟨[], zF.quiet rfl (fun E2 H2 he _ => ?_) (zD rfl rfl h)⟩;have hq := zD rfl rfl h;dsimp only at hq; subst hq;revert h;simp only [ze, he x (by simp [AOp.opds])]
  (repeat' split) <;> intro h <;> simp_all [zKL, zKK]
 | len x =>
  refine ⟨[], zF.quiet rfl (fun E2 H2 he _ => ?_) (zD rfl rfl h)⟩;have hq := zD rfl rfl h;dsimp only at hq; subst hq;revert h;simp only [ze, he x (by simp [AOp.opds])]
  (repeat' split) <;> intro h <;> simp_all [zKL, zKK]
 | lens x =>
  refine ⟨[], zF.quiet rfl (fun E2 H2 he _ => ?_) (zD rfl rfl h)⟩;have hq := zD rfl rfl h;dsimp only at hq; subst hq;revert h;simp only [ze, he x (by simp [AOp.opds])]
  (repeat' split) <;> intro h <;> simp_all [zKL, zKK]
 | build z ps =>
  refine ⟨[], zF.quiet rfl (fun E2 H2 he _ => ?_) (zD rfl rfl h)⟩;have hq := zD rfl rfl h;dsimp only at hq; subst hq;have hm : (ps.map fun p => (p.1, p.2.1, p.2.2.ev E2)) = ps.map fun p => (p.1, p.2.1, p.2.2.ev E) := zLF fun p hp => by rw [zf0 (g := fun p : Nat × Nat × Opd => p.2.2) he p hp]
  simp only [ze, hm] at h ⊢;obtain ⟨q, h1, h2⟩ := zKL.1 h;rw [h1]; simp at h2; simp [h2]
 | mkfn f cs =>
  refine ⟨[], zF.quiet rfl (fun E2 H2 he _ => ?_) (zD rfl rfl h)⟩;have hm : cs.map (·.ev E2) = cs.map (·.ev E) := zhN he;simp only [ze] at h ⊢
  cases h
  rw [hm]
 | mm mx xs =>
  refine ⟨[], zF.quiet rfl (fun E2 H2 he _ => ?_) (zD rfl rfl h)⟩;have hm : xs.map (·.ev E2) = xs.map (·.ev E) := zhN he;simp only [ze] at h ⊢;rw [hm]
  split at h
  · cases h
  · obtain ⟨q, h1, h2⟩ := zKL.1 h
    cases h2; simp [h1]
 | ld ag n p =>
  refine ⟨[], zF.quiet rfl (fun E2 H2 he hh => ?_) (zD rfl rfl h)⟩;have hp := he p (by simp [AOp.opds]);have hs : ldA H2 ag n (p.ev E) = ldA H ag n (p.ev E) := zBX (E := E) fun o ho => hh rfl o (zaP.2 ⟨p, by simp [AOp.opds], ho⟩);simp only [ze, hp, hs] at h ⊢;obtain ⟨q, h1, h2⟩ := zKL.1 h
  cases h2; simp [h1]
 | iad n x i =>
  refine ⟨[], zF.quiet rfl (fun E2 H2 he hh => ?_) (zD rfl rfl h)⟩;have hp := he x (by simp [AOp.opds]);have hi := he i (by simp [AOp.opds]);have hs : ∀ k, zat H2 n k (x.ev E) = zat H n k (x.ev E) := fun k => zzX fun o ho => hh rfl o (zaP.2 ⟨x, by simp [AOp.opds], ho⟩);simp only [ze, hp, hi, hs] at h ⊢;obtain ⟨k, h1, h2⟩ := zKK.1 h;rw [h1];simp only [zLi]
  split at h2
  · rename_i hk;obtain ⟨q, h3, h4⟩ := zKL.1 h2
    cases h4; simp [hk, h3]
  · cases h2
 | slc n x lo hi mx =>
  refine ⟨[], zF.quiet rfl (fun E2 H2 he hh => ?_) (zD rfl rfl h)⟩;have hp := he x (by simp [AOp.opds]);have h1 : lo.map (·.ev E2) = lo.map (·.ev E) := by cases lo with | none => rfl | some y => simp [he y (by simp [AOp.opds])]
  have h2 : hi.map (·.ev E2) = hi.map (·.ev E) := by cases hi with | none => rfl | some y => simp [he y (by simp [AOp.opds])]
  have h3 : mx.map (·.ev E2) = mx.map (·.ev E) := by cases mx with | none => rfl | some y => simp [he y (by simp [AOp.opds])]
  have hs : zak H2 n (lo.map (·.ev E)) (hi.map (·.ev E)) (mx.map (·.ev E)) (x.ev E) = zak H n (lo.map (·.ev E)) (hi.map (·.ev E)) (mx.map (·.ev E)) (x.ev E) := zJa fun o ho => hh rfl o (zaP.2 ⟨x, by simp [AOp.opds], ho⟩);simp only [ze, hp, h1, h2, h3, hs] at h ⊢;obtain ⟨q, h4, h5⟩ := zKL.1 h
  cases h5; simp [h4]
 | sls x lo hi =>
  refine ⟨[], zF.quiet rfl (fun E2 H2 he hh => ?_) (zD rfl rfl h)⟩;have hp := he x (by simp [AOp.opds]);have h1 : lo.map (·.ev E2) = lo.map (·.ev E) := by cases lo with | none => rfl | some y => simp [he y (by simp [AOp.opds])]
  have h2 : hi.map (·.ev E2) = hi.map (·.ev E) := by cases hi with | none => rfl | some y => simp [he y (by simp [AOp.opds])]
  simp only [ze, hp, h1, h2] at h ⊢
  split at h
  · obtain ⟨q, h4, h5⟩ := zKK.1 h;obtain ⟨l, h6, h7⟩ := zKL.1 h5
    cases h7; simp [h4, h6]
  · cases h
 | alloc z =>
  simp only [ze] at h
  split at h
  · cases h
    refine ⟨_, zF.new rfl fun E2 H2 h1 h2 h3 h4 => ?_⟩;simp [ze, h3, h4]
  · cases h
 | box x =>
  simp only [ze] at h
  split at h
  · rename_i hc
    cases h
    refine ⟨_, zF.new rfl fun E2 H2 h1 h2 h3 h4 => ?_⟩;simp only [ze, h1 x (by simp [AOp.opds]), h3, h4];rw [zKN ⟨trivial, trivial, hc.2.2⟩]
  · cases h
 | bsl len n z ps =>
  have hm : ∀ E2 : Env, (∀ y ∈ (AOp.bsl len n z ps).opds, y.ev E2 = y.ev E) -> (ps.map fun p => (p.1, p.2.ev E2)) = ps.map fun p => (p.1, p.2.ev E) := fun E2 he => zLF fun p hp => by rw [zf0 (g := fun p : Nat × Opd => p.2) he p hp]
  have ha : ∀ E2 : Env, (∀ y ∈ (AOp.bsl len n z ps).opds, y.ev E2 = y.ev E) -> (ps.all fun p => (p.2.ev E2).size == n) = ps.all fun p => (p.2.ev E).size == n := fun E2 he => by
   rw [zMy, zK4, zK4];constructor
   · intro h p hp; rw [<- zf0 (g := fun p : Nat × Opd => p.2) he p hp]; exact h p hp
   · intro h p hp; rw [zf0 (g := fun p : Nat × Opd => p.2) he p hp]; exact h p hp
  simp only [ze] at h
  split at h
  · rename_i hc;obtain ⟨es, h1, h2⟩ := zKK.1 h
    split at h2
    · rename_i ds hds
      cases h2
      refine ⟨[], rfl, (fun o ob h => nomatch h), fun E2 H2 he _ _ => ?_⟩;simp only [ze, hm E2 he, ha E2 he];rw [zKN hc, h1];simp [hds, zo]
    · rename_i hds
      split at h2
      · cases h2
        refine ⟨_, zF.new rfl fun E2 H2 he _ h3 h4 => ?_⟩;simp only [ze, hm E2 he, ha E2 he];rw [zKN hc, h1];simp [hds, h3, h4]
      · cases h2
  · cases h
 | mks n z l c =>
  simp only [ze] at h
  split at h
  · rename_i a b hl hc
    split at h
    · rename_i hh
      cases h
      refine ⟨_, zF.new rfl fun E2 H2 h1 h2 h3 h4 => ?_⟩;simp only [ze, h1 l (by simp [AOp.opds]), h1 c (by simp [AOp.opds]), hl, hc, h3, h4];rw [zKN ⟨hh.1, hh.2.1, hh.2.2.1, hh.2.2.2.1, trivial, trivial⟩]
    · cases h
  · cases h
 | st n p x =>
  simp only [ze] at h
  split at h
  · rename_i o i off hp
    split at h
    · rename_i hc
      split at h
      · rename_i es hes;obtain ⟨e, h1, h2⟩ := zKK.1 h;obtain ⟨e', h3, h4⟩ := zKL.1 h2
        cases h4
        have hmem : o ∈ (AOp.st n p x).foot E dst := by
         simp only [AOp.foot, AOp.looks, if_true, zLb];exact .inl (zaP.2 ⟨p, by simp [AOp.opds], by rw [hp]; simp [AV.objs]⟩)
        refine ⟨[(o, .row (es.set i e'))], rfl, ?_, fun E2 H2 he hh _ => ?_⟩
        · intro q ob hq;simp only [zLu, Prod.mk.injEq] at hq;rw [hq.1]; simp [AOp.wr, hp, AV.objs]
        · simp only [ze, he p (by simp [AOp.opds]), he x (by simp [AOp.opds]), hp, hh o hmem, hes];rw [zKN hc, h1];simp [h3, zo]
      · cases h
    · cases h
  · cases h
 | clr n x =>
  simp only [ze] at h
  split at h
  · rename_i o off len hp
    split at h
    · rename_i es hes
      split at h
      · rename_i hc
        cases h
        have hmem : o ∈ (AOp.clr n x).foot E dst := by
         simp only [AOp.foot, AOp.looks, if_true, zLb];exact .inl (zaP.2 ⟨x, by simp [AOp.opds], by rw [hp]; simp [AV.objs]⟩)
        refine ⟨[(o, .row (es.take off))], rfl, ?_, fun E2 H2 he hh _ => ?_⟩
        · intro q ob hq;simp only [zLu, Prod.mk.injEq] at hq;rw [hq.1]; simp [AOp.wr, hp, AV.objs]
        · simp only [ze, he x (by simp [AOp.opds]), hp, hh o hmem, hes];rw [zKN hc];simp [zo]
      · cases h
    · cases h
  · cases h
 | app n x y =>
  simp only [ze] at h;obtain ⟨ys, h1, h2⟩ := zKK.1 h;refine zmy (x := x) rfl rfl (by simp [AOp.opds]) (fun o ho => by simp [AOp.wr, ho]) h2 fun E2 H2 he hh => ?_;have hs : zaC H2 (y.ev E) = zaC H (y.ev E) := zJg fun o ho => hh o (by
   simp only [AOp.foot, AOp.looks, if_true, zLb];exact .inl (zaP.2 ⟨y, by simp [AOp.opds], ho⟩))
  simp only [ze, he x (by simp [AOp.opds]), he y (by simp [AOp.opds]), hs, h1, zLi]
 | apps x y =>
  simp only [ze] at h
  split at h
  · rename_i s hs;refine zmy (x := x) rfl rfl (by simp [AOp.opds]) (fun o ho => by simp [AOp.wr, ho]) h fun E2 H2 he hh => ?_;simp only [ze, he x (by simp [AOp.opds]), he y (by simp [AOp.opds]), hs]
  · cases h
 | atl p =>
  refine ⟨[], zF.quiet rfl (fun E2 H2 he hh => ?_) (zD rfl rfl h)⟩;have hq := zD rfl rfl h;dsimp only at hq; subst hq;have : za9 H2 (p.ev E) = za9 H' (p.ev E) := zmB fun o ho => hh rfl o (zaP.2 ⟨p, by simp [AOp.opds], ho⟩);simp only [ze, he p (by simp [AOp.opds]), this] at h ⊢;obtain ⟨q, h1, h2⟩ := zKL.1 h
  cases h2
  rw [h1]; rfl
 | ats p x =>
  simp only [ze] at h;obtain ⟨n, hn, h⟩ := zKK.1 h;obtain ⟨H1, h1, h⟩ := zKL.1 h
  cases h
  obtain ⟨o, ob, ho, hH, hs⟩ := zmD h1;subst hH;refine ⟨[(o, ob)], rfl, ?_, fun E2 H2 he hh _ => ?_⟩
  · intro q ob' hq;simp only [zLu, Prod.mk.injEq] at hq;rw [hq.1]; exact ho
  · have := hs H2 (hh o (by simp only [AOp.foot, AOp.looks, if_true, zLb]; exact .inl (zaP.2 ⟨p, by simp [AOp.opds], ho⟩)));simp only [ze, he x (by simp [AOp.opds]), he p (by simp [AOp.opds]), hn, zLi, this, zLn, zo]
 | atc p x y =>
  simp only [ze] at h;obtain ⟨n, hn, h⟩ := zKK.1 h;obtain ⟨m, hm, h⟩ := zKK.1 h;obtain ⟨v', hv, h⟩ := zKK.1 h;have h2 : ∀ H2, (∀ o ∈ (AOp.atc p x y).foot E dst, look o H2 = look o H) -> za9 H2 (p.ev E) = za9 H (p.ev E) := fun H2 hh => zmB fun o ho => hh o (by simp only [AOp.foot, AOp.looks, if_true, zLb]; exact .inl (zaP.2 ⟨p, by simp [AOp.opds], ho⟩))
  split at h
  · rename_i hvo;obtain ⟨H1, h1, h⟩ := zKL.1 h
    cases h
    obtain ⟨o, ob, ho, hH, hs⟩ := zmD h1;subst hH;refine ⟨[(o, ob)], rfl, ?_, fun E2 H2 he hh _ => ?_⟩
    · intro q ob' hq;simp only [zLu, Prod.mk.injEq] at hq;rw [hq.1]; exact ho
    · have := hs H2 (hh o (by simp only [AOp.foot, AOp.looks, if_true, zLb]; exact .inl (zaP.2 ⟨p, by simp [AOp.opds], ho⟩)));simp only [ze, he x (by simp [AOp.opds]), he y (by simp [AOp.opds]), he p (by simp [AOp.opds]), hn, hm, h2 H2 hh, hv, hvo, zLi, if_true, this, zLn, zo]
  · rename_i hvo
    cases h
    refine ⟨[], rfl, (fun o ob h => nomatch h), fun E2 H2 he hh _ => ?_⟩;simp only [ze, he x (by simp [AOp.opds]), he y (by simp [AOp.opds]), he p (by simp [AOp.opds]), hn, hm, h2 H2 hh, hv, hvo, zLi, if_false, zo]
 | mkm =>
  simp only [ze] at h
  split at h
  · rename_i hc
    cases h
    exact ⟨_, zF.new rfl fun E2 H2 _ _ h3 h4 => by simp only [ze, h3, h4, and_self, if_true]⟩
  · cases h
 | lkp ok z x k =>
  refine ⟨[], zF.quiet rfl (fun E2 H2 he hh => ?_) (zD rfl rfl h)⟩;have hq := zD rfl rfl h;dsimp only at hq; subst hq;have := zB9 (H := H') (H2 := H2) (ok := ok) (z := z) (x := x.ev E) (k := k.ev E) fun o ho => hh rfl o (zaP.2 ⟨x, by simp [AOp.opds], ho⟩);simp only [ze, he x (by simp [AOp.opds]), he k (by simp [AOp.opds]), this] at h ⊢;obtain ⟨q, h1, h2⟩ := zKL.1 h
  cases h2
  rw [h1]; rfl
 | mup x k y =>
  simp only [ze] at h;unfold zex at h
  split at h
  · rename_i o n y' hx hk hy
    split at h
    · rename_i es hes
      cases h
      have hmem : o ∈ (AOp.mup x k y).foot E dst := by
       simp only [AOp.foot, AOp.looks, if_true, zLb];exact .inl (zaP.2 ⟨x, by simp [AOp.opds], by rw [hx]; simp [AV.objs]⟩)
      refine ⟨[(o, .mp (zcq n y' es))], rfl, ?_, fun E2 H2 he hh _ => ?_⟩
      · intro q ob hq;simp only [zLu, Prod.mk.injEq] at hq;rw [hq.1]; simp [AOp.wr, hx, AV.objs]
      · simp only [ze, he x (by simp [AOp.opds]), he k (by simp [AOp.opds]), he y (by simp [AOp.opds]), hx, hk, hy, zex, hh o hmem, hes];simp [zo]
    · cases h
  · cases h
 | nileq ng x => simp [ze] at h
 | call f ms xs => simp [ze] at h
 | callv f ms xs => simp [ze] at h
theorem zh3 {o : Nat} {xs : List AV} : AV.refsL o xs = false ↔ ∀ x ∈ xs, x.refs o = false := by
 induction xs with
 | nil => simp [AV.refsL]
 | cons x xs ih => simp [AV.refsL, ih]
theorem zdG {o : Nat} {x : AV} (h : x.refs o = false) : ∀ y ∈ x.cells, y.refs o = false := by
 cases x with
 | d y => intro z hz; simp only [AV.cells, zKX] at hz; obtain ⟨_, _, rfl⟩ := hz; rfl
 | agg cs => intro z hz; exact AV.refsL_false hz h
 | _ => intro z hz; simp only [AV.cells, zLu] at hz; subst hz; exact h
theorem zf8 {o : Nat} {cs : List AV} (h : ∀ y ∈ cs, y.refs o = false) : (AV.mkAgg cs).refs o = false := by
 unfold AV.mkAgg; split
 · rfl
 · simpa [AV.refs] using zh3.2 h
theorem zH4 {o : Nat} {f : FuncId} {cs : List AV} (h : ∀ y ∈ cs, y.refs o = false) : (AV.mkFn f cs).refs o = false := by
 unfold AV.mkFn; split
 · rfl
 · simpa [AV.refs] using zh3.2 h
theorem zh4 {o : Nat} {ag : Bool} {off n : Nat} {x v : AV} (h : x.refs o = false) (hp : zaY ag off n x = some v) : v.refs o = false := by
 unfold zaY at hp
 split at hp
 · obtain ⟨_, _, rfl⟩ := zKL.1 hp; rfl
 · split at hp
   · split at hp
     · cases hp
       exact zf8 fun y hy => zdG h y (zLJ (zLw hy))
     · cases hp
   · split at hp
     · exact zdG h _ (zKU hp)
     · cases hp
theorem zsC {o off : Nat} {x v r : AV} (hx : x.refs o = false) (hv : v.refs o = false) (h : zaX x off v = some r) : r.refs o = false := by
 unfold zaX at h
 split at h
 · cases h; exact hv
 · split at h
   · cases h
     refine zf8 fun y hy => ?_;simp only [zbq, zLb] at hy
     rcases hy with (hy | hy) | hy
     · exact zdG hx y (zLw hy)
     · exact zdG hv y hy
     · exact zdG hx y (zLJ hy)
   · cases h
theorem zH2 {o : Nat} : ∀ {ps : List (Nat × Nat × AV)} {z cs : List AV}, (∀ y ∈ z, y.refs o = false) -> (∀ p ∈ ps, p.2.2.refs o = false) -> zbh z ps = some cs -> ∀ y ∈ cs, y.refs o = false := by
 intro ps
 induction ps with
 | nil => intro z cs hz _ h; simp only [zbh, Option.some.injEq] at h; subst h; exact hz
 | cons p ps ih =>
  obtain ⟨off, n, v⟩ := p;intro z cs hz hp h;simp only [zbh] at h
  split at h
  · refine ih (fun y hy => ?_) (fun p hp' => hp p (.tail _ hp')) h;simp only [zbq, zLb] at hy
    rcases hy with (hy | hy) | hy
    · exact hz y (zLw hy)
    · exact zdG (hp _ (.head _)) y hy
    · exact hz y (zLJ hy)
  · cases h
theorem zJR {o : Nat} {v : AV} (h : v.refs o = false) : (unX v).refs o = false := by
 cases v with
 | agg cs =>
  simp only [unX];refine zf8 fun x hx => ?_;rw [zeU] at hx;obtain ⟨y, hy, rfl⟩ := zKX.1 hx;have := AV.refsL_false hy h
  cases y <;> simp_all [zc2, AV.refs]
 | _ => simp_all [unX, AV.refs]
theorem zH3 {o : Nat} : ∀ {ps : List (Nat × AV)} {z cs : List AV}, (∀ y ∈ z, y.refs o = false) -> (∀ p ∈ ps, p.2.refs o = false) -> zaU z ps = some cs -> ∀ y ∈ cs, y.refs o = false := by
 intro ps
 induction ps with
 | nil => intro z cs hz _ h; simp only [zaU, Option.some.injEq] at h; subst h; exact hz
 | cons p ps ih =>
  obtain ⟨i, v⟩ := p;intro z cs hz hp h;simp only [zaU] at h
  split at h
  · refine ih (fun y hy => ?_) (fun p hp' => hp p (.tail _ hp')) h
    rcases zL9 hy with hy | rfl
    · exact hz y hy
    · exact zJR (hp _ (.head _))
  · cases h
theorem zbd {o k : Nat} {ob : Obj} {H : za} (h : refsHeap o H = false) (hob : ob.refs o = false) : refsHeap o (zj k ob H) = false := by
 simp only [zj, refsHeap, hob, zMi]
 induction H with
 | nil => rfl
 | cons p H ih =>
  obtain ⟨j, x⟩ := p;simp only [refsHeap, zLZ] at h;simp only [zaR]
  split
  · exact ih h.2
  · simp [refsHeap, h.1, ih h.2]
theorem zf7 {o k : Nat} {ob : Obj} {H : za} (h : refsHeap o H = false) (hk : look k H = some ob) : ob.refs o = false := zb4 (zu hk) h
def AOp.clean (o : Nat) : AOp -> Prop
 | .alloc z => z.refs o = false
 | .build z _ => ∀ y ∈ z, y.refs o = false
 | .bsl _ _ z _ => z.refs o = false
 | .mks _ z _ _ => z.refs o = false
 | _ => True
theorem zcZ {o : Nat} {es : List AV} (h : ∀ e ∈ es, e.refs o = false) : (Obj.row es).refs o = false := zh3.2 h
theorem zmz {o : Nat} {E : Env} {H : za} {dst n : Nat} {ys : List D} {x v : AV} {H' : za} (h : zah E H dst n ys x = some (v, H')) (hx : x.refs o = false) (hH : refsHeap o H = false) (hd : o ≠ dst) :
    v.refs o = false /\ refsHeap o H' = false := by
 unfold zah at h
 split at h
 · split at h
   · split at h
     · cases h; exact ⟨rfl, hH⟩
     · cases h
   split at h
   · cases h; exact ⟨by simpa [AV.refs] using Ne.symm hd, zbd hH rfl⟩
   · cases h
 · split at h
   · split at h
     · cases h; exact ⟨by simpa [AV.refs] using hx, zbd hH rfl⟩
     · cases h
   · cases h
 · cases h
theorem zmC {o : Nat} {H H1 : za} {n : Int} {p : AV} (h : zbM H n p = some H1) (hH : refsHeap o H = false) : refsHeap o H1 = false := by
 unfold zbM at h
 split at h
 · split at h
   · rename_i es hes;obtain ⟨e, h1, h⟩ := zKK.1 h;obtain ⟨_, _, h⟩ := zKK.1 h;obtain ⟨e', h3, h⟩ := zKL.1 h
     cases h
     refine zbd hH (zcZ fun y hy => ?_);have hrow := zf7 hH hes
     rcases zL9 hy with hy | rfl
     · exact AV.refsL_false hy hrow
     · exact zsC (AV.refsL_false (zKU h1) hrow) rfl h3
   · cases h
 · cases h
theorem zgO {o : Nat} {op : AOp} {E : Env} {H : za} {dst : Nat} {v : AV} {H' : za} (h : ze E H dst op = some (v, H')) (ho : ∀ y ∈ op.opds, (y.ev E).refs o = false) (hH : refsHeap o H = false)
    (hc : op.clean o) (hd : op.news = true -> o ≠ dst) : v.refs o = false /\ refsHeap o H' = false := by
 cases op with
 | mv x => simp only [ze, Option.some.injEq, Prod.mk.injEq] at h; obtain ⟨rfl, rfl⟩ := h; exact ⟨ho x (by simp [AOp.opds]), hH⟩
 | pick c a b =>
  simp only [ze] at h
  split at h
  · cases h
    refine ⟨?_, hH⟩
    split
    · exact ho a (by simp [AOp.opds])
    · exact ho b (by simp [AOp.opds])
  · cases h
 | alloc z =>
  simp only [ze] at h
  split at h
  · cases h; exact ⟨by simpa [AV.refs] using Ne.symm (hd rfl), zbd hH (zcZ (by simpa [AOp.clean] using hc))⟩
  · cases h
 | box x =>
  simp only [ze] at h
  split at h
  · cases h; exact ⟨by simpa [AV.refs] using Ne.symm (hd rfl), zbd hH (zcZ (by simpa [AOp.opds] using ho))⟩
  · cases h
 | build z ps =>
  simp only [ze] at h;obtain ⟨cs, h1, h2⟩ := zKL.1 h
  cases h2
  refine ⟨zf8 (zH2 (by simpa [AOp.clean] using hc) ?_ h1), hH⟩;intro p hp;obtain ⟨q, hq, rfl⟩ := zKX.1 hp;exact ho _ (zKX.2 ⟨q, hq, rfl⟩)
 | bsl len n z ps =>
  simp only [ze] at h
  split at h
  · obtain ⟨es, h1, h2⟩ := zKK.1 h;have hes := zH3 (o := o) (by intro y hy; rw [zM1 hy]; simpa [AOp.clean] using hc) (by
     intro p hp;obtain ⟨q, hq, rfl⟩ := zKX.1 hp;exact ho _ (zKX.2 ⟨q, hq, rfl⟩)) h1
    split at h2
    · cases h2; exact ⟨rfl, hH⟩
    · split at h2
      · cases h2; exact ⟨by simpa [AV.refs] using Ne.symm (hd rfl), zbd hH (zcZ hes)⟩
      · cases h2
  · cases h
 | ld ag n p =>
  simp only [ze] at h;obtain ⟨q, h1, h2⟩ := zKL.1 h
  cases h2
  refine ⟨?_, hH⟩;have hp := ho p (by simp [AOp.opds]);unfold ldA at h1
  split at h1
  · obtain ⟨_, _, rfl⟩ := zKL.1 h1; rfl
  · obtain ⟨_, _, rfl⟩ := zKL.1 h1; rfl
  · split at h1
    · rename_i es hes;obtain ⟨e, he, h1⟩ := zKK.1 h1;exact zh4 (AV.refsL_false (zKU he) (zf7 hH hes)) h1
    · cases h1
  · cases h1
 | st n p x =>
  simp only [ze] at h
  split at h
  · split at h
    · split at h
      · rename_i es hes;obtain ⟨e, h1, h2⟩ := zKK.1 h;obtain ⟨e', h3, h4⟩ := zKL.1 h2
        cases h4
        refine ⟨rfl, zbd hH (zcZ fun y hy => ?_)⟩;have hrow := zf7 hH hes
        rcases zL9 hy with hy | rfl
        · exact AV.refsL_false hy hrow
        · exact zsC (AV.refsL_false (zKU h1) hrow) (ho x (by simp [AOp.opds])) h3
      · cases h
    · cases h
  · cases h
 | clr n x =>
  simp only [ze] at h
  split at h
  · split at h
    · rename_i es hes
      split at h
      · cases h
        refine ⟨rfl, zbd hH (zcZ fun y hy => ?_)⟩;exact AV.refsL_false (zLw hy) (zf7 hH hes)
      · cases h
    · cases h
  · cases h
 | app n x y =>
  simp only [ze] at h;obtain ⟨ys, h1, h2⟩ := zKK.1 h;exact zmz h2 (ho x (by simp [AOp.opds])) hH (hd rfl)
 | apps x y =>
  simp only [ze] at h
  split at h
  · exact zmz h (ho x (by simp [AOp.opds])) hH (hd rfl)
  · cases h
 | mks n z l c =>
  simp only [ze] at h
  split at h
  · split at h
    · cases h; exact ⟨by simpa [AV.refs] using Ne.symm (hd rfl), zbd hH (zcZ fun y hy => by rw [zM1 hy]; simpa [AOp.clean] using hc)⟩
    · cases h
  · cases h
 | mkfn f cs =>
  simp only [ze, Option.some.injEq, Prod.mk.injEq] at h;obtain ⟨rfl, rfl⟩ := h;refine ⟨zH4 fun y hy => ?_, hH⟩;obtain ⟨q, hq, rfl⟩ := zKX.1 hy;exact ho q hq
 | nileq ng x => simp [ze] at h
 | call f ms xs => simp [ze] at h
 | callv f ms xs => simp [ze] at h
 | nacc =>
  simp only [ze] at h
  split at h
  · cases h; exact ⟨by simpa [AV.refs] using Ne.symm (hd rfl), zbd hH rfl⟩
  · cases h
 | nilc x =>
  have hx := ho x (by simp [AOp.opds]);revert h;simp only [ze];generalize x.ev E = q at hx;intro h
  split at h <;> cases h <;> first | exact ⟨rfl, hH⟩ | exact ⟨by simpa [AV.refs] using hx, hH⟩
 | ext x i =>
  have hx := ho x (by simp [AOp.opds]);revert h;simp only [ze];generalize x.ev E = q at hx;intro h
  split at h
  · obtain ⟨_, _, h2⟩ := zKL.1 h; cases h2; exact ⟨rfl, hH⟩
  · obtain ⟨u, h1, h2⟩ := zKL.1 h; cases h2; exact ⟨AV.refsL_false (zKU h1) hx, hH⟩
  · cases h
 | fad ag off n x =>
  have hx := ho x (by simp [AOp.opds]);simp only [ze] at h;obtain ⟨q, h1, h2⟩ := zKL.1 h
  cases h2
  refine ⟨?_, hH⟩;revert h1 hx;generalize x.ev E = q;intro hx h1;unfold zaT at h1
  split at h1
  · cases h1; exact hx
  · obtain ⟨_, _, rfl⟩ := zKL.1 h1; rfl
  · obtain ⟨_, _, rfl⟩ := zKL.1 h1; exact hx
  · cases h1
 | iada ag len n x i =>
  have hx := ho x (by simp [AOp.opds]);simp only [ze] at h;obtain ⟨k, _, h⟩ := zKK.1 h
  split at h
  · obtain ⟨q, h1, h2⟩ := zKL.1 h
    cases h2
    refine ⟨?_, hH⟩;revert h1 hx;generalize x.ev E = q;intro hx h1;unfold zaT at h1
    split at h1
    · cases h1; exact hx
    · obtain ⟨_, _, rfl⟩ := zKL.1 h1; rfl
    · obtain ⟨_, _, rfl⟩ := zKL.1 h1; exact hx
    · cases h1
  · cases h
 | idxa ag len n x i =>
  have hx := ho x (by simp [AOp.opds]);simp only [ze] at h;obtain ⟨k, _, h⟩ := zKK.1 h
  split at h
  · obtain ⟨q, h1, h2⟩ := zKL.1 h
    cases h2
    refine ⟨?_, hH⟩;revert h1 hx;generalize x.ev E = q;intro hx h1;unfold zfA at h1
    split at h1
    · obtain ⟨_, _, rfl⟩ := zKL.1 h1; rfl
    · exact zh4 hx h1
    · cases h1
  · cases h
 | fld ag off n x =>
  have hx := ho x (by simp [AOp.opds]);revert h;simp only [ze];generalize x.ev E = q at hx;intro h
  split at h
  · obtain ⟨_, _, h2⟩ := zKL.1 h; cases h2; exact ⟨rfl, hH⟩
  · obtain ⟨_, h1, h2⟩ := zKL.1 h; cases h2; exact ⟨zh4 hx h1, hH⟩
  · cases h
 | iad n x i =>
  have hx := ho x (by simp [AOp.opds]);simp only [ze] at h;obtain ⟨k, _, h⟩ := zKK.1 h
  split at h
  · obtain ⟨q, h1, h2⟩ := zKL.1 h
    cases h2
    refine ⟨?_, hH⟩;revert h1 hx;generalize x.ev E = q;intro hx h1;unfold zat at h1
    split at h1
    · split at h1
      · split at h1
        · obtain ⟨e, _, h1⟩ := zKK.1 h1
          split at h1
          · cases h1; exact hx
          · cases h1
        · cases h1
      · cases h1
    all_goals first | cases h1; done | skip
    all_goals
     obtain ⟨e, _, h1⟩ := zKK.1 h1
     split at h1
     · cases h1; first | rfl | exact hx
     · cases h1
  · cases h
 | slc n x lo hi mx =>
  have hx := ho x (by simp [AOp.opds]);simp only [ze] at h;obtain ⟨q, h1, h2⟩ := zKL.1 h
  cases h2
  refine ⟨?_, hH⟩;revert h1 hx;generalize x.ev E = q;intro hx h1
  cases q with
  | d y => cases y <;> simp only [zak] at h1 <;> first | cases h1; done | (revert h1; (repeat' split) <;> intro h1 <;> simp [zKK] at h1 <;> grind [AV.refs])
  | osl o' off len => simp only [zak] at h1; revert h1; (repeat' split) <;> intro h1 <;> simp [zKK] at h1 <;> grind [AV.refs]
  | acc o' es => simp only [zak] at h1; revert h1; (repeat' split) <;> intro h1 <;> simp [zKK] at h1 <;> grind [AV.refs]
  | xsl es => simp only [zak] at h1; revert h1; (repeat' split) <;> intro h1 <;> simp [zKK] at h1 <;> grind [AV.refs]
  | _ => simp [zak] at h1
 | mm mx xs =>
  simp only [ze] at h
  split at h
  · cases h
  · rename_i y ys hys;obtain ⟨q, h1, h2⟩ := zKL.1 h
    cases h2
    refine ⟨?_, hH⟩;have hy : y.refs o = false := by
     cases xs with
     | nil => cases hys
     | cons a l => simp only [zKS, List.cons.injEq] at hys; rw [<- hys.1]; exact ho a (.head _)
    clear hys ho h
    induction ys generalizing y with
    | nil => simp only [mmD, Option.some.injEq] at h1; subst h1; exact hy
    | cons z zs ih =>
     unfold mmD at h1
     split at h1
     · cases h1; exact hy
     · rename_i heq
       cases heq
       split at h1
       · exact ih _ h1 rfl
       · cases h1
     · cases h1
 | atl p =>
  simp only [ze] at h;obtain ⟨q, h1, h2⟩ := zKL.1 h
  cases h2
  exact ⟨rfl, hH⟩
 | ats p x =>
  simp only [ze] at h;obtain ⟨n, hn, h⟩ := zKK.1 h;obtain ⟨H1, h1, h⟩ := zKL.1 h
  cases h
  exact ⟨rfl, zmC h1 hH⟩
 | atc p x y =>
  simp only [ze] at h;obtain ⟨n, hn, h⟩ := zKK.1 h;obtain ⟨m, hm, h⟩ := zKK.1 h;obtain ⟨v', hv, h⟩ := zKK.1 h
  split at h
  · obtain ⟨H1, h1, h⟩ := zKL.1 h
    cases h
    exact ⟨rfl, zmC h1 hH⟩
  · cases h; exact ⟨rfl, hH⟩
 | mkm =>
  simp only [ze] at h
  split at h
  · cases h; exact ⟨by simpa [AV.refs] using Ne.symm (hd rfl), zbd hH rfl⟩
  · cases h
 | lkp ok z x k =>
  simp only [ze] at h;obtain ⟨q, h1, h2⟩ := zKL.1 h
  cases h2
  refine ⟨?_, hH⟩;unfold zdv at h1
  split at h1
  · split at h1
    · cases h1; rfl
    · cases h1
  · cases h1
 | mup x k y =>
  simp only [ze] at h;unfold zex at h
  split at h
  · split at h
    · cases h; exact ⟨rfl, zbd hH rfl⟩
    · cases h
  · cases h
 | _ =>
  revert h;simp only [ze]
  (repeat' split) <;> intro h <;> simp [zKL, zKK] at h <;> grind [AV.refs]
end Go.Sim
