/-
  Each operation of the calculus that is no call is what the m.
-/
import Derived.Test.YtgjlpcbolldhhaaGreatB58ee37c
import Derived.Lib.ConvBytes
import Derived.Laws.BytesArg
import Derived.MapKept
import Derived.Laws.LoneSync
import Derived.KernelRfl
set_option linter.unusedSimpArgs false
set_option linter.unusedVariables false
set_option maxHeartbeats 10000000
set_option maxRecDepth 100000
namespace Go.Sim
open Go (World Value Addr TypeId Act)
variable {P : Program} {C : Ctx} {S : St} {a : Act} {w : World} {ι : Inj} {R : Nat -> Prop}
theorem zmY {v : Value} {x : AV} (h : zcb v = some x) (q : Nat) : x.refs q = false := by
 unfold zcb at h
 split at h
 · split at h
   · cases h; rfl
   · cases h
 · cases h; rfl
 · split at h
   · cases h; rfl
   · cases h
 · cases h; rfl
 · split at h
   · cases h; rfl
   · cases h
theorem zsB {q : Nat} {l : List AV} (h : ∀ x ∈ l, x.refs q = false) : AV.refsL q l = false := by
 induction l with
 | nil => rfl
 | cons x l ih => simp only [AV.refsL, h x (.head _), ih (fun y hy => h y (.tail _ hy)), Bool.or_self]
theorem zm3 {v : Value} {x : AV} (h : zbw v = some x) (q : Nat) : x.refs q = false := by
 unfold zbw at h
 split at h
 · obtain ⟨ds, h1, h2⟩ := zKL.1 h;subst h2;unfold AV.mkAgg
   split
   · rfl
   · refine zsB fun x hx => ?_;obtain ⟨i, hi⟩ := zLl hx;obtain ⟨hl, hg⟩ := zbc h1;have hlt := (zKP.1 hi).1; rw [hl] at hlt;exact zmY (hg i _ x (zKR hlt) hi) q
 · exact zmY h q
theorem zst {o : Operand} {x : Opd} (h : opd o = some x) {E : Env} {q : Nat} (hE : refsEnv q E = false) : (x.ev E).refs q = false := by
 cases o with
 | tmp t =>
  simp only [opd] at h
  split at h
  · cases h
    simp only [Opd.ev]
    cases hl : look t E with
    | none => rfl
    | some y => exact zeH (zu hl) hE
  · cases h
 | const v =>
  simp only [opd] at h
  split at h
  · cases h; rfl
  · obtain ⟨y, h1, h2⟩ := zKL.1 h; subst h2; exact zm3 h1 q
 | global g => cases h
 | func f => simp only [opd, Option.some.injEq] at h; subst h; rfl
theorem zJQ {o : Nat} {v : AV} (h : v.refs o = false) : (unX v).refs o = false := by
 cases v with
 | agg cs =>
  simp only [unX, AV.mkAgg]
  split
  · rfl
  · simp only [AV.refs] at h ⊢;rw [zeU];refine zsB fun x hx => ?_;obtain ⟨y, hy, rfl⟩ := zKX.1 hx;have := AV.refsL_false hy h
    cases y <;> simp_all [zc2, AV.refs]
 | _ => simp_all [unX, AV.refs]
theorem ziv {t : TypeId} {z : AV} (h : zan P t = some z) (q : Nat) : z.refs q = false := by
 unfold zan at h;obtain ⟨zv, _, h2⟩ := zKK.1 h;exact zm3 h2 q
theorem zdj (hr : Rel C S a w ι R) {xs : List Operand} {ys : List Opd} (h : xs.mapM opd = some ys) :
    (xs.map a.eval).length = (ys.map (·.ev S.env)).length /\ ∀ (i : Nat) (x : AV) (u : Value), (ys.map (·.ev S.env))[i]? = some x -> (xs.map a.eval)[i]? = some u -> VA w R ι (mark S.heap) x u := by
 obtain ⟨hl, hg⟩ := zbc h;refine ⟨by simp [hl], fun i x u h1 h2 => ?_⟩;rw [zKQ] at h1 h2;obtain ⟨y, h3, rfl⟩ := zKL.1 h1;obtain ⟨o, h4, rfl⟩ := zKL.1 h2;exact hr.ev (hg i o y h4 h3)
theorem zse {mk : Nat -> Option Nat} (mx : Bool) : ∀ {ys : List AV} {us : List Value} {x v : AV} {u : Value}, VA w R ι mk x u -> us.length = ys.length -> (∀ (i : Nat) (y : AV) (q : Value), ys[i]? = some y -> us[i]? = some q -> VA w R ι mk y q) -> mmD mx x ys = some v ->
    ∃ q, (us.foldlM (if mx then Builtin.max2 else Builtin.min2) u).run P w = .ok q w /\ VA w R ι mk v q := by
 intro ys
 induction ys with
 | nil =>
  intro us x v u hx hl _ hm;have : us = [] := zLh.1 hl;subst this;have : x = v := by cases x <;> simpa [mmD] using hm
  subst this;exact ⟨u, by simp, hx⟩
 | cons y ys ih =>
  intro us x v u hx hl hy hm
  cases us with
  | nil => simp at hl
  | cons u2 us =>
   have hy0 := hy 0 y u2 rfl rfl
   cases x with
   | d x0 =>
    cases x0 with
    | int k n =>
     cases y with
     | d y0 =>
      cases y0 with
      | int k' n' =>
       simp only [mmD] at hm
       split at hm
       · rename_i hk; subst hk;obtain ⟨rfl, h1⟩ := hx.int_inv;obtain ⟨rfl, h2⟩ := hy0.int_inv;have hres : VA w R ι mk (.d (.int k (if mx then (if n < n' then n' else n) else (if n' < n then n' else n)))) (.int k (if mx then (if n < n' then n' else n) else (if n' < n then n' else n))) :=
          .d (.int (by split <;> split <;> assumption))
         obtain ⟨q, h3, h4⟩ := ih hres (by simpa using hl) (fun i y q k1 k2 => hy (i + 1) y q (by simpa using k1) (by simpa using k2)) hm;refine ⟨q, ?_, h4⟩;rw [List.foldlM_cons, Sem.run_bind];have e : ((if mx then Builtin.max2 else Builtin.min2) (.int k n) (.int k n')).run P w = .ok (.int k (if mx then (if n < n' then n' else n) else (if n' < n then n' else n))) w := by
          cases mx <;> simp [Builtin.max2, Builtin.min2]
         rw [e]; exact h3
       · cases hm
      | _ => simp [mmD] at hm
     | _ => simp [mmD] at hm
    | _ => simp [mmD] at hm
   | _ => simp [mmD] at hm
theorem zgK (ds : List D) : zO (ds.map .d) = some ds := by
 induction ds with
 | nil => rfl
 | cons x l ih => simp [zO, ih]
theorem zdF {mk : Nat -> Option Nat} {t : TypeId} {ag : Bool} {off n : Nat} {zs : List AV} {c : Array Value} (h : zaK w R ι mk zs c) (hag : zM P t = some ag) (hn : zA P t = some n) (hb : off + n <= zs.length) :
    (ag = true -> (part t c off).run P w = .ok (.agg (c.extract off (off + n))) w /\ VA w R ι mk (AV.mkAgg ((zs.drop off).take n)) (.agg (c.extract off (off + n)))) /\
    (ag = false -> ∀ z, zs[off]? = some z -> ∃ q, (part t c off).run P w = .ok q w /\ VA w R ι mk z q) := by
 refine ⟨fun e => ?_, fun e z hz => ?_⟩
 · subst e;refine ⟨by simp [part, zep hag, za1 hn], zhQ ⟨by simp [h.1]; omega, fun i z hi => ?_⟩⟩;have hlt : i < n := by have := (zKP.1 hi).1; simp at this; omega
   rw [zge hb hlt] at hi;obtain ⟨k1, q, k2, k3⟩ := h.2 _ _ hi;refine ⟨k1, q, ?_, k3⟩;rw [Array.getElem?_extract, zKN (by rw [h.1]; omega)]; exact k2
 · subst e;obtain ⟨k1, q, k2, k3⟩ := h.2 _ _ hz;exact ⟨q, by simp [part, zep hag, k2], k3⟩
theorem ztC {es : List D} {s : List UInt8} (h : zdc es = some s) : ∃ xs : List Int, es = xs.map (.int .u8) /\ s = xs.map fun n => UInt8.ofNat n.toNat := by
 induction es generalizing s with
 | nil => simp [zdc] at h; subst h; exact ⟨[], rfl, rfl⟩
 | cons e l ih =>
  unfold zdc at h
  split at h
  · cases ‹_ :: _ = []›
  · rename_i n l' he
    cases he
    obtain ⟨s', h1, rfl⟩ := zKL.1 h;obtain ⟨xs, rfl, rfl⟩ := ih h1;exact ⟨n :: xs, rfl, rfl⟩
  · cases h
theorem Rel.newBytes (h : Rel C S a w ι R) (e : TypeId) (s : List UInt8) (hL : s.length <= LIM) :
    Rel C S a (Lib.bytesWorld w e ⟨s.toArray⟩) ι (fun b => R b \/ b = w.heap.size) /\
    VA (Lib.bytesWorld w e ⟨s.toArray⟩) (fun b => R b \/ b = w.heap.size) ι (mark S.heap) (.d (.sl (s.map fun b => .int .u8 b.toNat))) (.slice (some ⟨w.heap.size, 0, none⟩) s.length (grownCap w s.length 0 e)) := by
 have hold : ∀ j, j < w.heap.size -> (Lib.bytesWorld w e ⟨s.toArray⟩).heap[j]? = w.heap[j]? := fun j hj => Lib.bytesWorld_at_old w e _ j hj;have hst : ∀ p, Step w (Lib.bytesWorld w e ⟨s.toArray⟩) ι ι (mark S.heap) (mark S.heap) p := fun p => Step.same fun b s' hb => hold b (h.own p b s' hb).2;have hK : zU R w (Lib.bytesWorld w e ⟨s.toArray⟩) := fun b hb => hold b (h.rlt b hb);refine ⟨h.change (H' := S.heap) rfl rfl rfl (by rw [Lib.bytesWorld_size]; omega) (fun b hb => Blk.of_eq (hold b hb)) (fun b hb => hold b (zLo (h.keepLt b hb) h.grow)) (fun _ hb => .inl hb) ?_ ?_ hK ?_ h.inj (fun p _ => hst p) ?_, .d ?_⟩
 · rintro b (hb | rfl)
   · have := h.rlt b hb; rw [Lib.bytesWorld_size]; omega
   · rw [Lib.bytesWorld_size]; omega
 · rintro b (hb | rfl)
   · exact h.rok b hb
   · exact .inr fun hk => by have := h.keepLt _ hk; have := h.grow; omega
 · intro o b s' ho;have := h.own o b s' ho;exact ⟨this.1, by rw [Lib.bytesWorld_size]; omega⟩
 · intro q ob' hq;refine (h.heap q ob' hq).mono (fun _ hb => .inl hb) hK (fun b s' hb => ?_) (fun h0 => h0) fun p _ => hst p;have := (h.own q b s' hb).2;refine ⟨hb, hold b this, ?_⟩;rintro (hr | hr)
   · exact hr
   · omega
 · by_cases h0 : s = []
   · subst h0; exact .sl0
   · have := Rd.sl (w := Lib.bytesWorld w e ⟨s.toArray⟩) (R := fun b => R b \/ b = w.heap.size) (es := s.map fun b => D.int .u8 b.toNat) (b := w.heap.size) (off := 0) (s := 1) (cap := grownCap w s.length 0 e) (.inr rfl) (by simpa using h0) (by omega) (by simpa using hL)
      (by simp; exact Nat.le_add_right _ _) (fun x hx => by obtain ⟨b, _, rfl⟩ := zKX.1 hx; rfl) (fun i x hi => by
       rw [zKQ] at hi;obtain ⟨b, hb, rfl⟩ := zKL.1 hi;have hlt := (zKP.1 hb).1;have hc := Lib.bytesWorld_cell w e ⟨s.toArray⟩ i (by simpa [ByteArray.size] using hlt);have hb' : s[i] = b := (zKP.1 hb).2;refine .elc rfl (by rw [zKT, Nat.mul_one]; exact hc) ?_;simp only [List.toList_toArray, zL7, hb, zLX];refine .int ?_;have := b.toNat_lt;simp [IntKind.has, IntKind.min, IntKind.max, IntKind.bits, IntKind.signed]; omega)
     simpa using this
theorem zs3 {t : TypeId} {z : AV} {i : TypeInfo} (h : zan P t = some z) (hi : P.info? t = some i) : ∃ zv, i.zero = some zv /\ zv.cells.size = z.size := by
 unfold zan at h;obtain ⟨zv, h1, h2⟩ := zKK.1 h;rw [hi] at h1;exact ⟨zv, h1, (zx1 h2).symm⟩
theorem ztj {E : Env} {H : za} {dst n : Nat} {ys : List D} {x : AV} {r : AV × za} (h : zah E H dst n ys x = some r) : ∀ e ∈ ys, e.size = n := by
 cases x with
 | xsl es =>
  simp only [zah] at h
  split at h
  · rename_i hh;have h0 : ys = [] := by simp at hh; exact hh.1
    subst h0;exact fun e he => absurd he (by simp)
  split at h
  · rename_i hh; exact fun e he => zc9 hh.1 e (zL8 _ he)
  · cases h
 | acc o es =>
  simp only [zah] at h
  split at h
  · split at h
    · rename_i hh; exact fun e he => zc9 hh.2.1 e (zL8 _ he)
    · cases h
  · cases h
 | _ => simp [zah] at h
theorem zyD {t : TypeId} (hu : P.underlying t = some .bool) (x y : Bool) : (Op.equal t (.bool x) (.bool y)).run P w = .ok (x == y) w := by
 unfold Op.equal;rw [show Op.maxDepth = 9999 + 1 from rfl];unfold Op.equalIn;simp only [Sem.run_bind, run_underlying hu, Result.andThen_ok, Sem.run_pure]
theorem zDU {o : Oper} {x : AOp} {dst : Nat} (y : Operand) (hop : o.op = .move y) (hc : zn P (.move y) = some x) (h : Rel C S a w ι R) {v : AV} {H' : za} (hs : ze S.env S.heap dst x = some (v, H')) : zk C S a v H' ((execOp a.eval o).run P w) := by
 have same : ∀ {v : AV} {u : Value} {r : Result Next}, VA w R ι (mark S.heap) v u -> r = .ok (.value u) w -> zk C S a v S.heap r := fun hv hr => zk.same h hv hr;obtain ⟨z, hz, rfl⟩ := zKL.1 hc;simp only [ze, Option.some.injEq, Prod.mk.injEq] at hs; obtain ⟨rfl, rfl⟩ := hs;exact same (h.ev hz) (by simp [execOp, hop])
theorem zC2 {o : Oper} {x : AOp} {dst : Nat} (y : Operand) (hop : o.op = .assign y) (hc : zn P (.assign y) = some x) (h : Rel C S a w ι R) {v : AV} {H' : za} (hs : ze S.env S.heap dst x = some (v, H')) : zk C S a v H' ((execOp a.eval o).run P w) := by
 have same : ∀ {v : AV} {u : Value} {r : Result Next}, VA w R ι (mark S.heap) v u -> r = .ok (.value u) w -> zk C S a v S.heap r := fun hv hr => zk.same h hv hr;obtain ⟨z, hz, rfl⟩ := zKL.1 hc;simp only [ze, Option.some.injEq, Prod.mk.injEq] at hs; obtain ⟨rfl, rfl⟩ := hs;exact same (h.ev hz) (by simp [execOp, hop])
theorem zDY {o : Oper} {x : AOp} {dst : Nat} (c y z : Operand) (hop : o.op = .pick c y z) (hc : zn P (.pick c y z) = some x) (h : Rel C S a w ι R) {v : AV} {H' : za} (hs : ze S.env S.heap dst x = some (v, H')) : zk C S a v H' ((execOp a.eval o).run P w) := by
 have same : ∀ {v : AV} {u : Value} {r : Result Next}, VA w R ι (mark S.heap) v u -> r = .ok (.value u) w -> zk C S a v S.heap r := fun hv hr => zk.same h hv hr;simp only [zn, zK7, zLg] at hc;obtain ⟨c', hc', hc⟩ := zKK.1 hc;obtain ⟨y', hy', hc⟩ := zKK.1 hc;obtain ⟨z', hz', hc⟩ := zKK.1 hc
 cases hc
 simp only [ze] at hs
 split at hs
 · rename_i t ht
   cases hs
   have hb := h.ev hc';rw [ht] at hb;have hb := hb.bool_inv;refine same (u := if t then a.eval y else a.eval z) (by cases t; exact h.ev hz'; exact h.ev hy') ?_;simp [execOp, hop, hb, asBool]
 · cases hs
theorem zC1 {o : Oper} {x : AOp} {dst : Nat} (t : TypeId) (hop : o.op = .alloc t) (hc : zn P (.alloc t) = some x) (h : Rel C S a w ι R) {v : AV} {H' : za} (hs : ze S.env S.heap dst x = some (v, H')) : zk C S a v H' ((execOp a.eval o).run P w) := by
 have same : ∀ {v : AV} {u : Value} {r : Result Next}, VA w R ι (mark S.heap) v u -> r = .ok (.value u) w -> zk C S a v S.heap r := fun hv hr => zk.same h hv hr;simp only [zn, zK7, zLg] at hc;obtain ⟨z, hz, hc⟩ := zKK.1 hc
 split at hc
 · cases hc
 · rename_i h0
   cases hc
   simp only [ze] at hs
   split at hs
   · rename_i hu
     cases hs
     obtain ⟨zv, h1, h2, _⟩ := zeV hz (zc3 hz) w R ι (mark S.heap);obtain ⟨k1, k2⟩ := h.newVar t hu h2 (zc3 hz) h0 (ziv hz dst);exact ⟨_, _, _, _, .inl (by simp [execOp, hop, Instr.alloc, h1, newVar, Go.newRow]), k1, k2⟩
   · cases hs
theorem zDv {o : Oper} {x : AOp} {dst : Nat} (t : TypeId) (y : Operand) (hop : o.op = .box t y) (hc : zn P (.box t y) = some x) (h : Rel C S a w ι R) {v : AV} {H' : za} (hs : ze S.env S.heap dst x = some (v, H')) : zk C S a v H' ((execOp a.eval o).run P w) := by
 have same : ∀ {v : AV} {u : Value} {r : Result Next}, VA w R ι (mark S.heap) v u -> r = .ok (.value u) w -> zk C S a v S.heap r := fun hv hr => zk.same h hv hr;obtain ⟨z, hz, rfl⟩ := zKL.1 hc;simp only [ze] at hs
 split at hs
 · rename_i hu;obtain ⟨hu1, hu2, hu3, hu4⟩ := hu
   cases hs
   obtain ⟨k1, k2⟩ := h.newVar t ⟨hu1, hu2⟩ (h.ev hz) hu3 hu4 (zst hz hu1);exact ⟨_, _, _, _, .inl (by simp [execOp, hop, Instr.box, newVar, Go.newRow]), k1, k2⟩
 · cases hs
theorem zDO {o : Oper} {x : AOp} {dst : Nat} (t : TypeId) (p : Operand) (hop : o.op = .load t p) (hc : zn P (.load t p) = some x) (h : Rel C S a w ι R) {v : AV} {H' : za} (hs : ze S.env S.heap dst x = some (v, H')) : zk C S a v H' ((execOp a.eval o).run P w) := by
 have same : ∀ {v : AV} {u : Value} {r : Result Next}, VA w R ι (mark S.heap) v u -> r = .ok (.value u) w -> zk C S a v S.heap r := fun hv hr => zk.same h hv hr;simp only [zn, zK7, zLg] at hc;obtain ⟨n, hn, hc⟩ := zKK.1 hc
 split at hc
 · cases hc
 · rename_i h0;obtain ⟨ag, hag, hc⟩ := zKK.1 hc;obtain ⟨p', hp', hc⟩ := zKK.1 hc
   cases hc
   simp only [ze] at hs;obtain ⟨v', hv', hs⟩ := zKL.1 hs
   cases hs
   have hp := h.ev hp';obtain ⟨b, off, u, hpv, hrun, hva⟩ : ∃ b off u, a.eval p = .pointer (some ⟨b, off, none⟩) /\ (loadVar t ⟨b, off, none⟩).run P w = .ok u w /\ VA w R ι (mark S.heap) v u := by
    generalize p'.ev S.env = pa at hv' hp
    cases pa with
    | d y =>
     cases y with
     | pd y =>
      simp only [ldA] at hv';obtain ⟨y', hy', rfl⟩ := zKL.1 hv';obtain ⟨b, off, hpv, hR, hel⟩ := hp.pd_inv;obtain ⟨u, k1, k2⟩ := hel.load hy' h0 hag hn;exact ⟨b, off, u, hpv, k1, .d k2⟩
     | _ => simp [ldA] at hv'
    | pe q y =>
     simp only [ldA] at hv';obtain ⟨y', hy', rfl⟩ := zKL.1 hv';generalize a.eval p = pv at hp
     cases hp with
     | peR hR hel => obtain ⟨u, k1, k2⟩ := hel.load hy' h0 hag hn; exact ⟨_, _, u, rfl, k1, .d k2⟩
     | peC _ _ _ _ hel => obtain ⟨u, k1, k2⟩ := hel.load hy' h0 hag hn; exact ⟨_, _, u, rfl, k1, .d k2⟩
    | ref q i off =>
     simp only [ldA] at hv'
     split at hv'
     · rename_i es hes;obtain ⟨e, he, hpart⟩ := zKK.1 hv';generalize a.eval p = pv at hp
       cases hp with
       | @ref _ _ _ b s hι _ =>
        cases h.heap _ _ (zu hes) with
        | row hι' _ hb _ _ _ hcell =>
         rw [hι] at hι'; cases hι';have hel : ElA w R ι (mark S.heap) e b (i * s) := fun j x hj => by
          obtain ⟨k1, q, k2, k3⟩ := hcell i e he j x hj;exact ⟨k1, q, by rw [zK hb]; exact k2, k3⟩
         obtain ⟨u, k1, k2⟩ := hel.load hpart h0 hag hn;exact ⟨_, _, u, rfl, k1, k2⟩
     · cases hv'
    | _ => simp [ldA] at hv'
   exact same hva (by simp [execOp, hop, hpv, Instr.loadAt, Instr.sureAddr, hrun])
theorem zHq {o : Oper} {x : AOp} {dst : Nat} (t : TypeId) (p y : Operand) (hop : o.op = .store t p y) (hc : zn P (.store t p y) = some x) (h : Rel C S a w ι R) {v : AV} {H' : za} (hs : ze S.env S.heap dst x = some (v, H')) : zk C S a v H' ((execOp a.eval o).run P w) := by
 have same : ∀ {v : AV} {u : Value} {r : Result Next}, VA w R ι (mark S.heap) v u -> r = .ok (.value u) w -> zk C S a v S.heap r := fun hv hr => zk.same h hv hr;simp only [zn, zK7, zLg] at hc;obtain ⟨n, hn, hc⟩ := zKK.1 hc
 split at hc
 · cases hc
 · rename_i h0;obtain ⟨p', hp', hc⟩ := zKK.1 hc;obtain ⟨y', hy', hc⟩ := zKK.1 hc
   cases hc
   simp only [ze] at hs
   split at hs
   · rename_i q i off hpa
     split at hs
     · rename_i hh
       split at hs
       · rename_i es hes;obtain ⟨e, he, hs⟩ := zKK.1 hs;obtain ⟨e', he', hs⟩ := zKL.1 hs
         cases hs
         have hp := h.ev hp';rw [hpa] at hp;obtain ⟨w', hrun, hrel⟩ := h.store hes he he' (h.ev hy') hh.2 hh.1 hn hp;exact ⟨Go.undef, w', ι, R, .inr ⟨by simp [execOp, hop, hrun], rfl⟩, hrel, .undef⟩
       · cases hs
     · cases hs
   · cases hs
theorem zDV {o : Oper} {x : AOp} {dst : Nat} (y : Operand) (hop : o.op = .nilCheck y) (hc : zn P (.nilCheck y) = some x) (h : Rel C S a w ι R) {v : AV} {H' : za} (hs : ze S.env S.heap dst x = some (v, H')) : zk C S a v H' ((execOp a.eval o).run P w) := by
 have same : ∀ {v : AV} {u : Value} {r : Result Next}, VA w R ι (mark S.heap) v u -> r = .ok (.value u) w -> zk C S a v S.heap r := fun hv hr => zk.same h hv hr;obtain ⟨z, hz, rfl⟩ := zKL.1 hc;have hv := h.ev hz;simp only [ze] at hs
 split at hs
 · rename_i heq
   cases hs
   rw [heq] at hv;generalize hav : a.eval y = av at hv
   cases hv with
   | ref k1 k2 => exact same (.ref k1 k2) (by simp [execOp, hop, hav])
 · rename_i heq
   cases hs
   rw [heq] at hv;obtain ⟨b, off, hav, _, _⟩ := hv.pd_inv;exact same hv (by simp [execOp, hop, hav])
 · rename_i heq
   cases hs
   rw [heq] at hv;have hav : ∃ f vs, a.eval y = .func (.func f) #[] vs := by
    generalize a.eval y = av at hv
    cases hv with
    | d hv => cases hv; exact ⟨_, _, rfl⟩
   obtain ⟨f, vs, hav⟩ := hav;exact same hv (by simp [execOp, hop, hav])
 · rename_i heq
   cases hs
   rw [heq] at hv;have hav : ∃ p, a.eval y = .pointer (some p) := by
    generalize a.eval y = av at hv
    cases hv <;> exact ⟨_, rfl⟩
   obtain ⟨p, hav⟩ := hav;exact same hv (by simp [execOp, hop, hav])
 · rename_i heq
   cases hs
   rw [heq] at hv;have hav : ∃ f vs, a.eval y = .func (.func f) #[] vs := by
    generalize a.eval y = av at hv
    cases hv; exact ⟨_, _, rfl⟩
   obtain ⟨f, vs, hav⟩ := hav;exact same hv (by simp [execOp, hop, hav])
 · cases hs
theorem zDu {o : Oper} {x : AOp} {dst : Nat} (bop : BinOp) (t : TypeId) (y z : Operand) (u : TypeId) (hop : o.op = .binOp bop t y z u) (hc : zn P (.binOp bop t y z u) = some x) (h : Rel C S a w ι R) {v : AV} {H' : za} (hs : ze S.env S.heap dst x = some (v, H')) : zk C S a v H' ((execOp a.eval o).run P w) := by
 have same : ∀ {v : AV} {u : Value} {r : Result Next}, VA w R ι (mark S.heap) v u -> r = .ok (.value u) w -> zk C S a v S.heap r := fun hv hr => zk.same h hv hr;simp only [zn] at hc;have plain : ∀ {y' z' : Opd}, opd y = some y' -> opd z = some z' -> ze S.env S.heap dst (.bin bop y' z') = some (v, H') -> zk C S a v H' ((execOp a.eval o).run P w) := by
  intro y' z' hy' hz' hs;simp only [ze] at hs
  split at hs
  · rename_i da db hda hdb;obtain ⟨r, hr, hs⟩ := zKL.1 hs
    cases hs
    have h1 := h.ev hy';have h2 := h.ev hz';rw [hda] at h1; rw [hdb] at h2;have guard : ∀ (p q : Value), (∀ cs, p ≠ .agg cs) -> p ≠ .nilIface -> (eqGuard bop t y z p q).run P w = .ok () w := by
     intro p q hp1 hp2;unfold eqGuard
     cases bop <;> simp <;> (cases p <;> first | (exact absurd rfl hp2) | (exact absurd rfl (hp1 _)) | simp)
    have fin : ∀ (p q r' : Value), a.eval y = p -> a.eval z = q -> (∀ cs, p ≠ .agg cs) -> p ≠ .nilIface -> (Go.binOp bop t p q).run P w = .ok r' w -> Rd w R (.v r r') -> zk C S a (.d r) S.heap ((execOp a.eval o).run P w) := by
     intro p q r' e1 e2 hp1 hp2 hrun hrd;exact same (.d hrd) (by simp [execOp, hop, e1, e2, guard p q hp1 hp2, hrun])
    cases da with
    | int k n =>
     obtain ⟨e1, hn⟩ := h1.int_inv
     cases db with
     | int k' n' =>
      obtain ⟨e2, hn'⟩ := h2.int_inv
      by_cases hsh : bop = .shl \/ bop = .shr
      · have : zdK bop k n n' = some r := by rcases hsh with rfl | rfl <;> simpa [zbY] using hr
        obtain ⟨r', k1, k2⟩ := zI6 (P := P) (k' := k') this hn t w;exact fin _ _ r' e1 e2 (by simp) (by simp) k1 (k2 _ _)
      · have hkk : k = k' /\ zbl bop k n n' = some r := by
         cases bop <;> simp only [zbY] at hr <;> first
          | (split at hr
             · rename_i hk; exact ⟨hk, hr⟩
             · cases hr)
          | exact absurd (.inl rfl) hsh
          | exact absurd (.inr rfl) hsh
        obtain ⟨rfl, hib⟩ := hkk;obtain ⟨r', k1, k2⟩ := zAl (P := P) (T := t) hib hn ⟨fun e => hsh (.inl e), fun e => hsh (.inr e)⟩ w;exact fin _ _ r' e1 e2 (by simp) (by simp) k1 (k2 _ _)
     | _ => simp [zbY] at hr
    | str s =>
     obtain ⟨e1, _⟩ := h1.str_inv
     cases db with
     | str s' =>
      obtain ⟨e2, _⟩ := h2.str_inv;obtain ⟨r', k1, k2⟩ := zJq (P := P) (show zeQ bop s s' = some r by simpa [zbY] using hr) t w;exact fin _ _ r' e1 e2 (by simp) (by simp) k1 (k2 _ _)
     | _ => simp [zbY] at hr
    | _ => simp [zbY] at hr
  · cases hs
 split at hc
 · obtain ⟨y', hy', hc⟩ := zKK.1 hc;obtain ⟨z', hz', hc⟩ := zKK.1 hc
   cases hc
   exact plain hy' hz' hs
 · obtain ⟨y', hy', hc⟩ := zKK.1 hc;obtain ⟨z', hz', hc⟩ := zKK.1 hc
   cases hc
   exact plain hy' hz' hs
 · rename_i hu;have go : ∀ {ng : Bool} {y' z' : Opd}, opd y = some y' -> opd z = some z' -> (bop = if ng then .neq else .eql) -> ze S.env S.heap dst (.eqb ng y' z') = some (v, H') -> zk C S a v H' ((execOp a.eval o).run P w) := by
    intro ng y' z' hy' hz' hb hs;simp only [ze] at hs
    split at hs
    · rename_i b1 b2 h1 h2
      cases hs
      have e1 := h.ev hy'; rw [h1] at e1;have e2 := h.ev hz'; rw [h2] at e2;have e1 := e1.bool_inv;have e2 := e2.bool_inv;refine same (u := .bool (if ng then !(b1 == b2) else b1 == b2)) (.d .bool) ?_;subst hb
      cases ng <;> simp [execOp, hop, e1, e2, eqGuard, Go.binOp, zyD hu]
    · cases hs
   split at hc
   · obtain ⟨y', hy', hc⟩ := zKK.1 hc;obtain ⟨z', hz', hc⟩ := zKK.1 hc
     cases hc
     exact go hy' hz' rfl hs
   · obtain ⟨y', hy', hc⟩ := zKK.1 hc;obtain ⟨z', hz', hc⟩ := zKK.1 hc
     cases hc
     exact go hy' hz' rfl hs
   · cases hc
 · rename_i fs hu
   split at hc
   · rename_i ls n hl hn
     split at hc
     · cases hc
     · rename_i hg;have hg1 : P.eqGuardType P.depth t = false := by simpa using fun e => hg (.inl e)
       have hg2 : n ≠ 0 := fun e => hg (.inr e)
       split at hc
       · obtain ⟨y', hy', hc⟩ := zKK.1 hc;obtain ⟨z', hz', hc⟩ := zKK.1 hc
         cases hc
         exact zft (ng := false) hop rfl hl (by simp [zM, hu]) hg1 hn hg2 hy' hz' h hs
       · obtain ⟨y', hy', hc⟩ := zKK.1 hc;obtain ⟨z', hz', hc⟩ := zKK.1 hc
         cases hc
         exact zft (ng := true) hop rfl hl (by simp [zM, hu]) hg1 hn hg2 hy' hz' h hs
       · cases hc
   · cases hc
 · rename_i len e hu
   split at hc
   · rename_i ls n hl hn
     split at hc
     · cases hc
     · rename_i hg;have hg1 : P.eqGuardType P.depth t = false := by simpa using fun e => hg (.inl e)
       have hg2 : n ≠ 0 := fun e => hg (.inr e)
       split at hc
       · obtain ⟨y', hy', hc⟩ := zKK.1 hc;obtain ⟨z', hz', hc⟩ := zKK.1 hc
         cases hc
         exact zft (ng := false) hop rfl hl (by simp [zM, hu]) hg1 hn hg2 hy' hz' h hs
       · obtain ⟨y', hy', hc⟩ := zKK.1 hc;obtain ⟨z', hz', hc⟩ := zKK.1 hc
         cases hc
         exact zft (ng := true) hop rfl hl (by simp [zM, hu]) hg1 hn hg2 hy' hz' h hs
       · cases hc
   · cases hc
 · split at hc
   · split at hc
     · obtain ⟨y', hy', hc⟩ := zKL.1 hc;subst hc; simp [ze] at hs
     · obtain ⟨y', hy', hc⟩ := zKL.1 hc;subst hc; simp [ze] at hs
     · cases hc
   · cases hc
 · cases hc
theorem zHr {o : Oper} {x : AOp} {dst : Nat} (uop : UnOp) (t : TypeId) (y : Operand) (hop : o.op = .unOp uop t y) (hc : zn P (.unOp uop t y) = some x) (h : Rel C S a w ι R) {v : AV} {H' : za} (hs : ze S.env S.heap dst x = some (v, H')) : zk C S a v H' ((execOp a.eval o).run P w) := by
 have same : ∀ {v : AV} {u : Value} {r : Result Next}, VA w R ι (mark S.heap) v u -> r = .ok (.value u) w -> zk C S a v S.heap r := fun hv hr => zk.same h hv hr;obtain ⟨z, hz, rfl⟩ := zKL.1 hc;have hv := h.ev hz;simp only [ze] at hs
 split at hs
 · rename_i b heq
   cases hs
   rw [heq] at hv;have e := hv.bool_inv;exact same (u := .bool (!b)) (.d .bool) (by simp [execOp, hop, e, Op.unary])
 · rename_i k n heq
   cases hs
   rw [heq] at hv;have e := hv.int_inv.1;exact same (u := .int k (k.wrap (0 - n))) (.d (.int (zbC _ _))) (by simp [execOp, hop, e, Op.unary, Op.intArith])
 · cases hs
theorem zDB {o : Oper} {x : AOp} {dst : Nat} (s t : TypeId) (y : Operand) (hop : o.op = .convert s t y) (hc : zn P (.convert s t y) = some x) (h : Rel C S a w ι R) {v : AV} {H' : za} (hs : ze S.env S.heap dst x = some (v, H')) : zk C S a v H' ((execOp a.eval o).run P w) := by
 have same : ∀ {v : AV} {u : Value} {r : Result Next}, VA w R ι (mark S.heap) v u -> r = .ok (.value u) w -> zk C S a v S.heap r := fun hv hr => zk.same h hv hr;simp only [zn] at hc
 split at hc
 · rename_i k hus hut;obtain ⟨z, hz, rfl⟩ := zKL.1 hc;have hv := h.ev hz;simp only [ze] at hs
   split at hs
   · rename_i k' n heq
     cases hs
     rw [heq] at hv;have e := hv.int_inv.1;exact same (u := .int _ (IntKind.wrap _ n)) (.d (.int (zbC _ _))) (by simp [execOp, hop, e, Go.convert, run_underlying hus, run_underlying hut, Conv.intToInt])
   · cases hs
 · rename_i e hus hut
   split at hc
   · rename_i he;have he : P.underlying e = some (.int .u8) := by
      cases hq : P.underlying e with
      | none => simp [hq] at he
      | some d => cases d <;> simp [hq] at he <;> (rename_i k; cases k <;> simp at he) <;> rfl
     obtain ⟨z, hz, rfl⟩ := zKL.1 hc;have hv := h.ev hz;simp only [ze] at hs
     split at hs
     · rename_i s' heq
       cases hs
       rw [heq] at hv;obtain ⟨hav, hL⟩ := hv.str_inv;have hrun := Lib.run_convert_string_bytes (P := P) w s t e ⟨s'.toArray⟩ hus hut he;have hsz : (⟨s'.toArray⟩ : ByteArray).size = s'.length := by simp [ByteArray.size]
       rw [hsz] at hrun;obtain ⟨hrel, hva⟩ := h.newBytes e s' hL;exact ⟨_, _, ι, _, .inl (by simp [execOp, hop, hav, hrun]), hrel, hva⟩
     · cases hs
   · cases hc
 · rename_i e hus hut
   split at hc
   · rename_i he;have he : P.underlying e = some (.int .u8) := by
      cases hq : P.underlying e with
      | none => simp [hq] at he
      | some d => cases d <;> simp [hq] at he <;> (rename_i k; cases k <;> simp at he) <;> rfl
     obtain ⟨z, hz, rfl⟩ := zKL.1 hc;have hv := h.ev hz;simp only [ze] at hs;obtain ⟨es, hes, hs⟩ := zKK.1 hs;obtain ⟨s', hs', hs⟩ := zKL.1 hs
     cases hs
     obtain ⟨xs, rfl, rfl⟩ := ztC hs';have fin : ∀ (ao : Option Addr) (cap : Nat), a.eval y = .slice ao xs.length cap -> xs.length <= LIM -> (∀ b off, ao = some ⟨b, off, none⟩ -> ∀ i, i < xs.length -> w.cell? ⟨b, off + i, none⟩ = some (.int .u8 (xs.getD i 0))) -> (xs ≠ [] -> ∃ b off, ao = some ⟨b, off, none⟩) ->
         zk C S a (.d (.str (xs.map fun n => UInt8.ofNat n.toNat))) S.heap ((execOp a.eval o).run P w) := by
      intro ao cap hav hL hcell hne;have hrd : Rd w R (.v (.str (xs.map fun n => UInt8.ofNat n.toNat)) (.string (strOfNums xs))) := .str (by simpa using hL)
      by_cases h0 : xs = []
      · subst h0;refine same (.d hrd) ?_;have e0 : strOfNums [] = .empty := rfl
        cases ao with
        | none => simp [execOp, hop, hav, Go.convert, run_underlying hus, run_underlying hut, run_underlying he, Conv.bytesToString, e0]
        | some b =>
         have hl : (loadCells b 0).run P w = .ok #[] w := by simpa using run_loadCells_list (P := P) w b [] (by simp)
         simp [execOp, hop, hav, Go.convert, run_underlying hus, run_underlying hut, run_underlying he, Conv.bytesToString, e0, hl]
      · obtain ⟨b, off, rfl⟩ := hne h0;have hrun := run_convert_bytes_arg (P := P) w s e hus he b off xs.length cap xs rfl (hcell b off rfl) t hut;exact same (.d hrd) (by simp [execOp, hop, hav, hrun])
     have elc : ∀ (b off st : Nat), (∀ x ∈ xs.map (D.int .u8), x.size = st) -> (∀ (i : Nat) (x : D), (xs.map (D.int .u8))[i]? = some x -> Rd w R (.el x b (off + i * st))) -> ∀ i, i < xs.length -> w.cell? ⟨b, off + i, none⟩ = some (.int .u8 (xs.getD i 0)) := by
      intro b off st hst hel i hi;have hx : (xs.map (D.int .u8))[i]? = some (.int .u8 xs[i]) := by simp [hi]
      have h1 : st = 1 := (hst _ (zKU hx)).symm;subst h1;obtain ⟨_, q, k2, k3⟩ := (hel i _ hx).v_of_cells 0 (.int .u8 xs[i]) rfl
      cases k3
      rw [Nat.mul_one, zLL] at k2;rw [k2]; simp [hi]
     have data : ∀ {u : Value}, u = a.eval y -> Rd w R (.v (.sl (xs.map (D.int .u8))) u) -> zk C S a (.d (.str (xs.map fun n => UInt8.ofNat n.toNat))) S.heap ((execOp a.eval o).run P w) := by
      intro u hu hrd
      by_cases h0 : xs = []
      · subst h0;obtain ⟨ao, cap, hq, _, _⟩ := hrd.sl_len;exact fin ao cap (by rw [<- hu, hq]; rfl) (by simp) (fun _ _ _ i hi => absurd hi (by simp)) (fun h => absurd rfl h)
      · obtain ⟨b, off, st, cap, hq, _, _, hL, _, hst, hel⟩ := hrd.sl_inv (by simpa using h0);exact fin (some ⟨b, off, none⟩) cap (by rw [<- hu, hq]; simp) (by simpa using hL) (fun b' off' e i hi => by cases e; exact elc b off st hst hel i hi) (fun _ => ⟨_, _, rfl⟩)
     generalize hpa : z.ev S.env = pa at hv hes;generalize hav : a.eval y = av at hv
     cases hv with
     | d hv =>
      rename_i dx
      cases dx with
      | sl es => simp only [slD, Option.some.injEq] at hes; subst hes; exact data hav.symm hv
      | _ => simp [slD] at hes
     | xsl hv => simp only [slD, Option.some.injEq] at hes; subst hes; exact data hav.symm hv
     | @accR _ b off st cap es hR hs'' hL hl hsz hh hm =>
      simp only [slD, Option.some.injEq] at hes; subst hes;exact fin (some ⟨b, off, none⟩) cap (by rw [hav]; simp) (by simpa using hL) (fun b off e i hi => by cases e; exact elc _ _ _ hsz hh i hi) (fun _ => ⟨_, _, rfl⟩)
     | @accC _ b st m cap es c T a1 a2 a3 hL a5 hsz a7 a8 hh =>
      simp only [slD, Option.some.injEq] at hes; subst hes;exact fin (some ⟨b, 0, none⟩) cap (by rw [hav]; simp) (by simpa using hL) (fun b off e i hi => by cases e; exact elc _ 0 _ hsz (fun i x hx => by rw [zKT]; exact hh i x hx) i hi) (fun _ => ⟨_, _, rfl⟩)
     | acc0 =>
      simp only [slD, Option.some.injEq] at hes;have h0 : xs = [] := by cases xs with | nil => rfl | cons => cases hes
      subst h0;exact fin _ 0 hav (by simp) (fun _ _ _ i hi => absurd hi (by simp)) (fun h => absurd rfl h)
     | _ => simp [slD] at hes
   · cases hc
 · cases hc
theorem zDQ {o : Oper} {x : AOp} {dst : Nat} (fn : Fn) (first cs : Array Operand) (hop : o.op = .makeFunc fn first cs) (hc : zn P (.makeFunc fn first cs) = some x) (h : Rel C S a w ι R) {v : AV} {H' : za} (hs : ze S.env S.heap dst x = some (v, H')) : zk C S a v H' ((execOp a.eval o).run P w) := by
 have same : ∀ {v : AV} {u : Value} {r : Result Next}, VA w R ι (mark S.heap) v u -> r = .ok (.value u) w -> zk C S a v S.heap r := fun hv hr => zk.same h hv hr
 cases fn with
 | func f =>
  simp only [zn] at hc
  split at hc
  · rename_i h0;simp only [zK7, zLg] at hc;obtain ⟨cs', hcs', hc⟩ := zKK.1 hc
    cases hc
    simp only [ze, Option.some.injEq, Prod.mk.injEq] at hs; obtain ⟨rfl, rfl⟩ := hs;obtain ⟨hl, hg⟩ := zdj h hcs';have hva := VA.mkFn (w := w) (R := R) (ι := ι) (mk := mark S.heap) (f := f) (cs := cs'.map (·.ev S.env)) (vs := cs.toList.map a.eval) hl hg;have e : (cs.toList.map a.eval).toArray = cs.map a.eval := by apply Array.ext'; simp
    rw [e] at hva;have e0 : first = #[] := Array.eq_empty_of_size_eq_zero h0
    subst e0;exact same hva (by simp [execOp, hop, Instr.makeFunc])
  · cases hc
 | _ => simp [zn] at hc
theorem zDG {o : Oper} {x : AOp} {dst : Nat} (t : TypeId) (y : Operand) (f : Nat) (hop : o.op = .fieldAddr t y f) (hc : zn P (.fieldAddr t y f) = some x) (h : Rel C S a w ι R) {v : AV} {H' : za} (hs : ze S.env S.heap dst x = some (v, H')) : zk C S a v H' ((execOp a.eval o).run P w) := by
 have same : ∀ {v : AV} {u : Value} {r : Result Next}, VA w R ι (mark S.heap) v u -> r = .ok (.value u) w -> zk C S a v S.heap r := fun hv hr => zk.same h hv hr;simp only [zn] at hc
 split at hc
 · rename_i fs hu;simp only [zK7, zLg] at hc;obtain ⟨fd, hfd, hc⟩ := zKK.1 hc;obtain ⟨n, hn, hc⟩ := zKK.1 hc
   split at hc
   · cases hc
   · rename_i h0;obtain ⟨ag, hag, hc⟩ := zKK.1 hc;obtain ⟨y', hy', hc⟩ := zKK.1 hc
     cases hc
     simp only [ze] at hs;obtain ⟨v', hv', hs⟩ := zKL.1 hs
     cases hs
     obtain ⟨b, off, hav, hva⟩ := znb (h.ev hy') hv' h0;refine same hva ?_;simp [execOp, hop, hav, Instr.fieldAt, run_underlying hu, hfd, Instr.sureAddr, fieldPlace, za1 hn, h0, Addr.add_mid]
 · cases hc
theorem zfw {o : Oper} {t : TypeId} {y : Operand} {f : Nat} {fs : Array Field} {fd : Field} {vs : Array Value} {q : Value} (hop : o.op = .field t y f) (hav : a.eval y = .agg vs) (hu : P.underlying t = some (.struct fs)) (hfd : fs[f]? = some fd)
    (hp : (part fd.type (Value.agg vs).cells fd.offset).run P w = .ok q w) : (execOp a.eval o).run P w = .ok (.value q) w := by
 simp only [Value.cells] at hp;simp [execOp, hop, hav, Instr.field, run_underlying hu, hfd, asAgg, hp]
theorem zDF {o : Oper} {x : AOp} {dst : Nat} (t : TypeId) (y : Operand) (f : Nat) (hop : o.op = .field t y f) (hc : zn P (.field t y f) = some x) (h : Rel C S a w ι R) {v : AV} {H' : za} (hs : ze S.env S.heap dst x = some (v, H')) : zk C S a v H' ((execOp a.eval o).run P w) := by
 have same : ∀ {v : AV} {u : Value} {r : Result Next}, VA w R ι (mark S.heap) v u -> r = .ok (.value u) w -> zk C S a v S.heap r := fun hv hr => zk.same h hv hr;simp only [zn] at hc
 split at hc
 · rename_i fs hu;simp only [zK7, zLg] at hc;obtain ⟨fd, hfd, hc⟩ := zKK.1 hc;obtain ⟨n, hn, hc⟩ := zKK.1 hc
   split at hc
   · cases hc
   · rename_i h0;obtain ⟨ag, hag, hc⟩ := zKK.1 hc;obtain ⟨y', hy', hc⟩ := zKK.1 hc
     cases hc
     have hv := h.ev hy';simp only [ze] at hs
     split at hs
     · rename_i cs heq;obtain ⟨v', hv', hs⟩ := zKL.1 hs
       cases hs
       rw [heq] at hv;obtain ⟨c1, c2⟩ := hv.cells rfl;have hcells : zaK w R ι (mark S.heap) (cs.map .d) (a.eval y).cells := ⟨by rw [c1]; simp [AV.size, D.size, D.cells], c2⟩;have hagg : ∃ vs, a.eval y = .agg vs := by
        have := hv.of_d;generalize a.eval y = av at this
        cases this; exact ⟨_, rfl⟩
       obtain ⟨vs, hav⟩ := hagg;rw [hav] at hcells;obtain ⟨h1, h2⟩ := zb3 hv' h0;obtain ⟨p1, p2⟩ := zdF hcells hag hn (by simpa [D.size, D.cells] using h1)
       rcases h2 with ⟨rfl, rfl⟩ | ⟨rfl, _, h3⟩
       · obtain ⟨p3, p4⟩ := p1 rfl;have e1 : AV.mkAgg ((List.map AV.d cs).drop fd.offset |>.take n) = .d (.agg ((cs.drop fd.offset).take n)) := by
          have e2 : ((List.map AV.d cs).drop fd.offset).take n = ((cs.drop fd.offset).take n).map .d := by rw [zLI, zLQ]
          rw [e2]; unfold AV.mkAgg; rw [zgK]
         rw [e1] at p4;exact same p4 (zfw hop hav hu hfd p3)
       · obtain ⟨q, p3, p4⟩ := p2 rfl (.d v') (by rw [zKQ, show cs[fd.offset]? = some v' from h3]; rfl);exact same p4 (zfw hop hav hu hfd p3)
     · rename_i cs heq;obtain ⟨v', hv', hs⟩ := zKL.1 hs
       cases hs
       rw [heq] at hv;obtain ⟨c1, c2⟩ := hv.cells rfl;have hcells : zaK w R ι (mark S.heap) cs (a.eval y).cells := ⟨c1, c2⟩;have hagg : ∃ vs, a.eval y = .agg vs := by
        generalize a.eval y = av at hv
        cases hv; exact ⟨_, rfl⟩
       obtain ⟨vs, hav⟩ := hagg;rw [hav] at hcells;simp only [zaY] at hv'
       split at hv'
       · rename_i hagt
         split at hv'
         · rename_i hb
           cases hv'
           obtain ⟨p3, p4⟩ := (zdF hcells hag hn hb).1 hagt;exact same p4 (zfw hop hav hu hfd p3)
         · cases hv'
       · rename_i hagf
         split at hv'
         · rename_i hn1;have hlt := (zKP.1 hv').1;have hlt : fd.offset < cs.length := hlt;obtain ⟨q, p3, p4⟩ := (zdF hcells hag hn (by omega)).2 (by simpa using hagf) _ hv';exact same p4 (zfw hop hav hu hfd p3)
         · cases hv'
     · cases hs
 · cases hc
theorem zDL {o : Oper} {x : AOp} {dst : Nat} (t : TypeId) (y i : Operand) (hop : o.op = .indexAddr t y i) (hc : zn P (.indexAddr t y i) = some x) (h : Rel C S a w ι R) {v : AV} {H' : za} (hs : ze S.env S.heap dst x = some (v, H')) : zk C S a v H' ((execOp a.eval o).run P w) := by
 have same : ∀ {v : AV} {u : Value} {r : Result Next}, VA w R ι (mark S.heap) v u -> r = .ok (.value u) w -> zk C S a v S.heap r := fun hv hr => zk.same h hv hr;simp only [zn] at hc
 split at hc
 · rename_i e hu;simp only [zK7, zLg] at hc;obtain ⟨n, hn, hc⟩ := zKK.1 hc
   split at hc
   · cases hc
   · rename_i h0;obtain ⟨y', hy', hc⟩ := zKK.1 hc;obtain ⟨i', hi', hc⟩ := zKK.1 hc
     cases hc
     simp only [ze] at hs;obtain ⟨k, hk, hs⟩ := zKK.1 hs
     split at hs
     · rename_i hk0;obtain ⟨v', hv', hs⟩ := zKL.1 hs
       cases hs
       obtain ⟨b, off, len, cap, hav, hlt, hva⟩ := zzW h (h.ev hy') hv' hk0;obtain ⟨kd, hiv⟩ := zen (h.ev hi') hk;refine same hva ?_;simp [execOp, hop, hav, hiv, Instr.indexAt, asIntOf, run_underlying hu, hk0, hlt, za1 hn, Addr.add_mid]
     · cases hs
 · rename_i len e hu;simp only [zK7, zLg] at hc;obtain ⟨n, hn, hc⟩ := zKK.1 hc
   split at hc
   · cases hc
   · rename_i h0;obtain ⟨ag, hag, hc⟩ := zKK.1 hc;obtain ⟨y', hy', hc⟩ := zKK.1 hc;obtain ⟨i', hi', hc⟩ := zKK.1 hc
     cases hc
     simp only [ze] at hs;obtain ⟨k, hk, hs⟩ := zKK.1 hs
     split at hs
     · rename_i hk0;obtain ⟨v', hv', hs⟩ := zKL.1 hs
       cases hs
       obtain ⟨b, off, hav, hva⟩ := znb (h.ev hy') hv' h0;obtain ⟨kd, hiv⟩ := zen (h.ev hi') hk;refine same hva ?_;simp [execOp, hop, hav, hiv, Instr.indexAt, asIntOf, run_underlying hu, hk0.1, hk0.2, za1 hn, Addr.add_mid, Instr.sureAddr]
     · cases hs
 · cases hc
theorem zDE {o : Oper} {x : AOp} {dst : Nat} (y : Operand) (i : Nat) (hop : o.op = .extract y i) (hc : zn P (.extract y i) = some x) (h : Rel C S a w ι R) {v : AV} {H' : za} (hs : ze S.env S.heap dst x = some (v, H')) : zk C S a v H' ((execOp a.eval o).run P w) := by
 have same : ∀ {v : AV} {u : Value} {r : Result Next}, VA w R ι (mark S.heap) v u -> r = .ok (.value u) w -> zk C S a v S.heap r := fun hv hr => zk.same h hv hr;simp only [zn, zK7, zLg] at hc;obtain ⟨y', hy', hc⟩ := zKK.1 hc
 cases hc
 have hv := h.ev hy';simp only [ze] at hs
 split at hs
 · rename_i vs heq;obtain ⟨v', hv', hs⟩ := zKL.1 hs
   cases hs
   rw [heq] at hv;obtain ⟨us, hav, hl, hg⟩ := hv.tupD_inv;have hlt := (zKP.1 hv').1;have hq : us[i]? = some (us[i]'(by omega)) := zKR _;exact same (.d (hg i v' _ hv' hq)) (by simp [execOp, hop, hav, Instr.extract, hq])
 · rename_i vs heq;obtain ⟨v', hv', hs⟩ := zKL.1 hs
   cases hs
   rw [heq] at hv;obtain ⟨us, hav, hl, hg⟩ := hv.tup_inv;have hlt := (zKP.1 hv').1;have hq : us[i]? = some (us[i]'(by omega)) := zKR _;exact same (hg i v _ hv' hq) (by simp [execOp, hop, hav, Instr.extract, hq])
 · cases hs
theorem zDw {o : Oper} {x : AOp} {dst : Nat} (t : TypeId) (ps : Array (Nat × Operand)) (hop : o.op = .build t ps) (hc : zn P (.build t ps) = some x) (h : Rel C S a w ι R) {v : AV} {H' : za} (hs : ze S.env S.heap dst x = some (v, H')) : zk C S a v H' ((execOp a.eval o).run P w) := by
 have same : ∀ {v : AV} {u : Value} {r : Result Next}, VA w R ι (mark S.heap) v u -> r = .ok (.value u) w -> zk C S a v S.heap r := fun hv hr => zk.same h hv hr;obtain ⟨rfl, u, k1, k2⟩ := ztB h hc hs;exact same k2 (by simp [execOp, hop, k1])
theorem zzo {x v : AV} {av : Value} {t : TypeId} {ag : Bool} {off n : Nat} (hv : VA w R ι (mark S.heap) x av) (hs : zfA ag off n x = some v) (hag : zM P t = some ag) (hn : zA P t = some n) (h0 : ¬ n = 0) :
    ∃ vs q, av = .agg vs /\ (part t (Value.agg vs).cells off).run P w = .ok q w /\ VA w R ι (mark S.heap) v q := by
 unfold zfA at hs
 split at hs
 · rename_i cs;obtain ⟨v', hv', hs⟩ := zKL.1 hs
   cases hs
   obtain ⟨c1, c2⟩ := hv.cells rfl;have hcells : zaK w R ι (mark S.heap) (cs.map .d) av.cells := ⟨by rw [c1]; simp [AV.size, D.size, D.cells], c2⟩;have hagg : ∃ vs, av = .agg vs := by
    have := hv.of_d
    cases this; exact ⟨_, rfl⟩
   obtain ⟨vs, hav⟩ := hagg;rw [hav] at hcells;obtain ⟨h1, h2⟩ := zb3 hv' h0;obtain ⟨p1, p2⟩ := zdF hcells hag hn (by simpa [D.size, D.cells] using h1)
   rcases h2 with ⟨rfl, rfl⟩ | ⟨rfl, _, h3⟩
   · obtain ⟨p3, p4⟩ := p1 rfl;have e1 : AV.mkAgg ((List.map AV.d cs).drop off |>.take n) = .d (.agg ((cs.drop off).take n)) := by
      have e2 : ((List.map AV.d cs).drop off).take n = ((cs.drop off).take n).map .d := by rw [zLI, zLQ]
      rw [e2]; unfold AV.mkAgg; rw [zgK]
     rw [e1] at p4;exact ⟨vs, _, hav, p3, p4⟩
   · obtain ⟨q, p3, p4⟩ := p2 rfl (.d v') (by rw [zKQ, show cs[off]? = some v' from h3]; rfl);exact ⟨vs, _, hav, p3, p4⟩
 · rename_i cs;obtain ⟨c1, c2⟩ := hv.cells rfl;have hcells : zaK w R ι (mark S.heap) cs av.cells := ⟨c1, c2⟩;have hagg : ∃ vs, av = .agg vs := by
    cases hv; exact ⟨_, rfl⟩
   obtain ⟨vs, hav⟩ := hagg;rw [hav] at hcells;simp only [zaY] at hs
   split at hs
   · rename_i hagt
     split at hs
     · rename_i hb
       cases hs
       obtain ⟨p3, p4⟩ := (zdF hcells hag hn hb).1 hagt;exact ⟨vs, _, hav, p3, p4⟩
     · cases hs
   · rename_i hagf
     split at hs
     · rename_i hn1;have hlt := (zKP.1 hs).1;have hlt : off < cs.length := hlt;obtain ⟨q, p3, p4⟩ := (zdF hcells hag hn (by omega)).2 (by simpa using hagf) _ hs;exact ⟨vs, _, hav, p3, p4⟩
     · cases hs
 · cases hs
theorem zDK {o : Oper} {x : AOp} {dst : Nat} (t : TypeId) (y i : Operand) (hop : o.op = .index t y i) (hc : zn P (.index t y i) = some x) (h : Rel C S a w ι R) {v : AV} {H' : za} (hs : ze S.env S.heap dst x = some (v, H')) : zk C S a v H' ((execOp a.eval o).run P w) := by
 have same : ∀ {v : AV} {u : Value} {r : Result Next}, VA w R ι (mark S.heap) v u -> r = .ok (.value u) w -> zk C S a v S.heap r := fun hv hr => zk.same h hv hr;simp only [zn] at hc
 split at hc
 · rename_i hu;simp only [zK7, zLg] at hc;obtain ⟨y', hy', hc⟩ := zKK.1 hc;obtain ⟨i', hi', hc⟩ := zKK.1 hc
   cases hc
   simp only [ze] at hs
   split at hs
   · rename_i s k h1 h2
     split at hs
     · rename_i hk0;obtain ⟨b, hb, hs⟩ := zKL.1 hs
       cases hs
       have hv := h.ev hy';rw [h1] at hv;obtain ⟨hav, _⟩ := hv.str_inv;obtain ⟨kd, hiv⟩ := zen (h.ev hi') h2;refine same (u := .int .u8 b.toNat) (.d (.int ?_)) ?_
       · have := b.toNat_lt;simp [IntKind.has, IntKind.min, IntKind.max, IntKind.bits, IntKind.signed]; omega
       · have hget : (⟨s.toArray⟩ : ByteArray)[k.toNat]? = some b := by
          have hlt := (zKP.1 hb).1;have h3 := (zKP.1 hb).2;rw [getElem?_pos (⟨s.toArray⟩ : ByteArray) k.toNat (by simpa [ByteArray.size] using hlt)]
          congr 1
         simp [execOp, hop, hav, hiv, Instr.index, asIntOf, run_underlying hu, hk0, hget]
     · cases hs
   · cases hs
 · rename_i len e hu;simp only [zK7, zLg] at hc;obtain ⟨n, hn, hc⟩ := zKK.1 hc
   split at hc
   · cases hc
   · rename_i h0;obtain ⟨ag, hag, hc⟩ := zKK.1 hc;obtain ⟨y', hy', hc⟩ := zKK.1 hc;obtain ⟨i', hi', hc⟩ := zKK.1 hc
     cases hc
     simp only [ze] at hs;obtain ⟨k, hk, hs⟩ := zKK.1 hs
     split at hs
     · rename_i hk0;obtain ⟨v', hv', hs⟩ := zKL.1 hs
       cases hs
       obtain ⟨kd, hiv⟩ := zen (h.ev hi') hk;obtain ⟨vs, q, hav, hp, hva⟩ := zzo (h.ev hy') hv' hag hn h0;refine same hva ?_;simp only [Value.cells] at hp;simp [execOp, hop, hav, hiv, Instr.index, asIntOf, run_underlying hu, hk0.1, hk0.2, za1 hn, hp]
     · cases hs
 · cases hc
theorem zHb {o : Oper} {x : AOp} {dst : Nat} (t : TypeId) (y : Operand) (lo hi mx : Option Operand) (hop : o.op = .slice t y lo hi mx) (hc : zn P (.slice t y lo hi mx) = some x) (h : Rel C S a w ι R) {v : AV} {H' : za} (hs : ze S.env S.heap dst x = some (v, H')) : zk C S a v H' ((execOp a.eval o).run P w) := by
 have same : ∀ {v : AV} {u : Value} {r : Result Next}, VA w R ι (mark S.heap) v u -> r = .ok (.value u) w -> zk C S a v S.heap r := fun hv hr => zk.same h hv hr;have vo : ∀ {p : Option Operand} {p' : Option Opd}, p.mapM opd = some p' -> VAo w R ι (mark S.heap) (p'.map (·.ev S.env)) (p.map a.eval) := by
  intro p p' hp
  cases p with
  | none => simp at hp; subst hp; trivial
  | some q =>
   simp only [Option.mapM_some, Option.map_eq_map, zKL] at hp;obtain ⟨q', hq', rfl⟩ := hp;exact h.ev hq'
 simp only [zn] at hc
 split at hc
 · rename_i e hu;simp only [zK7, zLg] at hc;obtain ⟨n, hn, hc⟩ := zKK.1 hc
   split at hc
   · cases hc
   · obtain ⟨y', hy', hc⟩ := zKK.1 hc;obtain ⟨lo', hlo, hc⟩ := zKK.1 hc;obtain ⟨hi', hhi, hc⟩ := zKK.1 hc;obtain ⟨mx', hmx, hc⟩ := zKK.1 hc
     cases hc
     simp only [ze] at hs;obtain ⟨v', hv', hs⟩ := zKL.1 hs
     cases hs
     obtain ⟨u', k1, k2⟩ := zI9 h rfl (h.ev hy') (vo hlo) (vo hhi) (vo hmx) hv' hu hn;exact same k2 (by simp [execOp, hop, k1])
 · rename_i hu;simp only [zK7, zLg] at hc
   split at hc
   · cases hc
   · rename_i hm;obtain ⟨y', hy', hc⟩ := zKK.1 hc;obtain ⟨lo', hlo, hc⟩ := zKK.1 hc;obtain ⟨hi', hhi, hc⟩ := zKK.1 hc
     cases hc
     simp only [ze] at hs
     split at hs
     · rename_i s heq;obtain ⟨hh, h1, hs⟩ := zKK.1 hs;obtain ⟨l, h2, hs⟩ := zKL.1 hs
       cases hs
       have hv := h.ev hy';rw [heq] at hv;obtain ⟨hav, hL⟩ := hv.str_inv;have hm0 : mx = none := by cases mx with | none => rfl | some _ => simp at hm
       subst hm0;obtain ⟨k1, k2, k3⟩ := zgd (P := P) (mx := none) (umx := none) (vo hlo) (vo hhi) trivial h1 h2 (zKV _) (fun m hm => by cases hm) false w;have hex : (⟨s.toArray⟩ : ByteArray).extract l hh = ⟨((s.take hh).drop l).toArray⟩ := by
        ext1
        rw [ByteArray.data_extract];simp [List.extract_eq_take_drop, List.drop_take]
       refine same (u := .string ⟨((s.take hh).drop l).toArray⟩) (.d (.str (by simp; omega))) ?_;have hsz : (⟨s.toArray⟩ : ByteArray).size = s.length := by simp [ByteArray.size]
       simp [execOp, hop, hav, Instr.sliceAt, run_underlying hu, Instr.slice, hsz, k3, hex]
     · cases hs
 · cases hc
theorem zDx {o : Oper} {x : AOp} {dst : Nat} (t : TypeId) (len : Nat) (ps : Array (Nat × Operand)) (hop : o.op = .buildSlice t len ps) (hc : zn P (.buildSlice t len ps) = some x) (h : Rel C S a w ι R) {v : AV} {H' : za} (hs : ze S.env S.heap dst x = some (v, H')) : zk C S a v H' ((execOp a.eval o).run P w) := by
 have same : ∀ {v : AV} {u : Value} {r : Result Next}, VA w R ι (mark S.heap) v u -> r = .ok (.value u) w -> zk C S a v S.heap r := fun hv hr => zk.same h hv hr;simp only [zn] at hc
 split at hc
 · rename_i e hu;simp only [zK7, zLg] at hc;obtain ⟨n, hn, hc⟩ := zKK.1 hc;obtain ⟨z, hz, hc⟩ := zKK.1 hc;obtain ⟨qs, hqs, hc⟩ := zKK.1 hc
   split at hc
   · cases hc
   · rename_i h0
     cases hc
     simp only [ze] at hs
     split at hs
     · rename_i hzq;obtain ⟨es, hes, hs⟩ := zKK.1 hs;have hn0 : 0 < n := by omega
       obtain ⟨zv, hz1, _, hz2⟩ := zeV hz (zc3 hz) w R ι (mark S.heap);obtain ⟨hl, hg⟩ := zbc hqs;have hrow0 := zs4 hz2 hzq.1 hn0 len;obtain ⟨c', k1, k2, k3, k4⟩ := zzb (ps := (ps.map fun (i, x) => (i, a.eval x)).toList) hrow0 (fun e he => by rw [(zMz.1 he).2]; exact hzq.1) (by simp [hl]) (fun k i u i' v h1 h2 => by
        rw [zMn, zKQ] at h1;rw [zKQ] at h2;obtain ⟨p, hp, h1⟩ := zKL.1 h1;obtain ⟨q, hq, h2⟩ := zKL.1 h2;obtain ⟨x, hx, hf⟩ := zKK.1 (hg k p q hp hq)
        cases hf; cases h1; cases h2
        exact ⟨rfl, h.ev hx⟩) (fun q hq => by
        obtain ⟨q0, hq0, rfl⟩ := zKX.1 hq;have := zK4.1 hzq.2 q0 hq0;simpa using this) hes
       have hlen : es.length = len := by rw [k4, List.length_replicate]
       have hL : es.length <= LIM := by
        have : len * 1 <= len * n := Nat.mul_le_mul_left _ hn0;unfold LIM; omega
       have hrun : (Instr.buildSlice t len (ps.map fun (i, x) => (i, a.eval x))).run P w = .ok (.slice (some ⟨w.heap.size, 0, none⟩) len len) (w.alloc (.cells c' e)) := by
        have h24 : ¬ (len * n > 2 ^ 24) := by omega
        have hfill : ∀ zz : Array Value, zz = zv.cells \/ len * n = 0 -> Instr.fill (fun i => some (i * n, n)) ((Array.range (len * n)).map (zz[· % zz.size]!)) (ps.map fun (i, x) => (i, a.eval x)).toList = some c' := by
         rintro zz (rfl | h0)
         · exact k1
         · have e1 : ∀ q : Array Value, (Array.range (len * n)).map (q[· % q.size]!) = #[] := fun q => by rw [h0]; simp
           rw [e1]; rw [e1] at k1; exact k1
        unfold Instr.buildSlice;simp only [Sem.run_bind, run_underlying hu, Result.andThen_ok, za1 hn, Sem.run_ite, zKM h24, Sem.run_pure]
        by_cases h0 : len * n = 0
        · simp only [zKN h0, Sem.run_pure, Result.andThen_ok, hfill #[] (.inr h0)];simp [newRow]
        · simp only [zKM h0, Sem.run_bind, hz1, Sem.run_pure, Result.andThen_ok, hfill zv.cells (.inl rfl)];simp [newRow]
       split at hs
       · rename_i ds hds
         cases hs
         have := zbX hds;subst this;have hlen' : ds.length = len := by simpa using hlen
         obtain ⟨q1, q2⟩ := h.newData (n := n) e k2 hn0 (fun x hx => by have := k3 (.d x) (zLY hx); exact this) (by simpa using hL);rw [hlen'] at q2;exact ⟨_, _, _, _, .inl (by simp [execOp, hop, hrun]), q1, q2⟩
       · split at hs
         · rename_i hu'
           cases hs
           have href : ∀ x ∈ es, x.refs dst = false := by
            have gen : ∀ (qs' : List (Nat × AV)) (z0 es : List AV), (∀ x ∈ z0, x.refs dst = false) -> (∀ q ∈ qs', q.2.refs dst = false) -> zaU z0 qs' = some es -> ∀ x ∈ es, x.refs dst = false := by
             intro qs'
             induction qs' with
             | nil => intro z0 es h1 _ h3; simp only [zaU, Option.some.injEq] at h3; subst h3; exact h1
             | cons q qs' ih =>
              obtain ⟨i, v⟩ := q;intro z0 es h1 h2 h3;simp only [zaU] at h3
              split at h3
              · refine ih _ es (fun x hx => ?_) (fun q hq => h2 q (.tail _ hq)) h3
                rcases zL9 hx with hx | rfl
                · exact h1 x hx
                · have := h2 (i, v) (.head _);exact zJQ this
              · cases h3
            refine gen _ _ es (fun x hx => by rw [(zMz.1 hx).2]; exact ziv hz dst) (fun q hq => ?_) hes;obtain ⟨q0, hq0, rfl⟩ := zKX.1 hq;obtain ⟨k, hk⟩ := zLl hq0;have hlt : k < ps.toList.length := by rw [<- hl]; exact (zKP.1 hk).1
            obtain ⟨x, hx, hf⟩ := zKK.1 (hg k _ q0 (zKR hlt) hk)
            cases hf
            exact zst hx hu'.1
           obtain ⟨q1, q2⟩ := h.newOwn (n := n) e hu' k2 hn0 k3 hL href;rw [hlen] at q2;exact ⟨_, _, _, _, .inl (by simp [execOp, hop, hrun]), q1, q2⟩
         · cases hs
     · cases hs
 · cases hc
theorem zDS {o : Oper} {x : AOp} {dst : Nat} (t : TypeId) (l c : Operand) (hop : o.op = .makeSlice t l c) (hc : zn P (.makeSlice t l c) = some x) (h : Rel C S a w ι R) {v : AV} {H' : za} (hs : ze S.env S.heap dst x = some (v, H')) : zk C S a v H' ((execOp a.eval o).run P w) := by
 have same : ∀ {v : AV} {u : Value} {r : Result Next}, VA w R ι (mark S.heap) v u -> r = .ok (.value u) w -> zk C S a v S.heap r := fun hv hr => zk.same h hv hr;simp only [zn] at hc
 split at hc
 · rename_i e hu;simp only [zK7, zLg] at hc;obtain ⟨n, hn, hc⟩ := zKK.1 hc;obtain ⟨i, hi, hc⟩ := zKK.1 hc;obtain ⟨z, hz, hc⟩ := zKK.1 hc
   split at hc
   · cases hc
   · rename_i h0;obtain ⟨l', hl', hc⟩ := zKK.1 hc;obtain ⟨c', hc', hc⟩ := zKK.1 hc
     cases hc
     simp only [ze] at hs
     split at hs
     · rename_i n1 n2 e1 e2
       split at hs
       · rename_i hh;obtain ⟨g1, rfl, g3, g4, g5, g6⟩ := hh
         cases hs
         have v1 := h.ev hl'; rw [e1] at v1;have v2 := h.ev hc'; rw [e2] at v2;obtain ⟨a1, _⟩ := v1.int_inv;obtain ⟨a2, _⟩ := v2.int_inv;obtain ⟨k, rfl⟩ : ∃ k : Nat, n1 = k := ⟨n1.toNat, by omega⟩;have hk : k <= LIM := by omega
         have hn0 : 0 < n := by omega
         obtain ⟨zv, hz1, _, hz2⟩ := zeV hz (zc3 hz) w R ι (mark S.heap);have hrow := zs4 hz2 g4 hn0 k;have hw : IntKind.i64.wrap (k : Int) = k := by
          unfold LIM at hk;simp [IntKind.wrap, IntKind.bits, IntKind.signed]; omega
         have hrun : (Instr.makeSlice t (.int .i64 k) (.int .i64 k)).run P w = .ok (.slice (some ⟨w.heap.size, 0, none⟩) k k) (w.alloc (.cells ((Array.range (k * n)).map (zv.cells[· % zv.cells.size]!)) e)) := by
          have hby : ¬ ((i.bytes : Int) * (k : Int) > 2 ^ 48) := by
           have : i.bytes * k <= 32768 * 4294967296 := Nat.mul_le_mul (by omega) hk;omega
          have hti : (typeInfo e).run P w = .ok i w := by simp [typeInfo, hi]
          unfold Instr.makeSlice;simp only [Sem.run_bind, run_underlying hu, Result.andThen_ok, asInt, asIntOf, Sem.run_pure, hti, hw, Sem.run_ite];rw [zKM (by simp; omega)];simp only [Sem.run_pure, Result.andThen_ok, run_askRoom, Int.toNat_natCast, za1 hn]
          by_cases h0' : k * n = 0
          · have e3 : ∀ q : Array Value, (Array.range (k * n)).map (q[· % q.size]!) = #[] := fun q => by rw [h0']; simp
            simp only [zKN h0', Sem.run_pure, Result.andThen_ok, e3];simp [newRow]
          · simp only [zKM h0', Sem.run_bind, hz1, Sem.run_pure, Result.andThen_ok];simp [newRow]
         obtain ⟨q1, q2⟩ := h.newOwn (n := n) (o := dst) e ⟨g5, g6⟩ hrow hn0 (fun x hx => by rw [(zMz.1 hx).2]; exact g4) (by simpa using hk) (fun x hx => by rw [(zMz.1 hx).2]; exact ziv hz dst);rw [List.length_replicate] at q2;exact ⟨_, _, _, _, .inl (by simp [execOp, hop, a1, a2, hrun]), q1, q2⟩
       · cases hs
     · cases hs
 · cases hc
theorem zKG {t : TypeId} {z : AV} (h : zan P t = some z) (hz : zae z = false) :
    ∃ zv, (∀ w, (zeroValue t).run P w = .ok zv w) /\ ∀ (w : World) (R : Nat -> Prop) (ι : Inj) (mk : Nat -> Option Nat), (zv.cells.size = z.size /\ VA w R ι mk z zv) /\ True /\ ∀ q ∈ zv.cells, q.oneCell' = true := by
 have h0 := h;unfold zan at h0;obtain ⟨zv, h1, h2⟩ := zKK.1 h0;obtain ⟨i, h3, h4⟩ := zKK.1 h1;refine ⟨zv, fun w => by simp [zeroValue, typeInfo, h3, h4], fun w R ι mk => ?_⟩;have hva := zfl h2 w R ι mk;obtain ⟨e1, e2⟩ := hva.cells hz;refine ⟨⟨e1, hva⟩, trivial, fun q hq => ?_⟩;obtain ⟨j, hj, rfl⟩ := Array.getElem_of_mem hq;have hlt : j < z.cells.length := by rw [AV.size_cells, <- e1]; exact hj
 obtain ⟨k1, q', k2, k3⟩ := e2 j _ (zKR hlt);rw [zLO hj] at k2
 cases k2
 exact zhW k3 k1
theorem zzf {fn : Func} (h1 : fn.name = "sync/atomic.LoadInt64") (h2 : fn.origin = "") : Extern.findNext fn = none /\ Extern.find fn = some (Extern.Atomic.loadT (.int .i64)) := by
 unfold Extern.findNext Extern.find;rw [h1, h2];exact ⟨by kernel_rfl, by kernel_rfl⟩
theorem zzg {fn : Func} (h1 : fn.name = "sync/atomic.StoreInt64") (h2 : fn.origin = "") : Extern.findNext fn = none /\ Extern.find fn = some Extern.Atomic.storeT := by
 unfold Extern.findNext Extern.find;rw [h1, h2];exact ⟨by kernel_rfl, by kernel_rfl⟩
theorem zze {fn : Func} (h1 : fn.name = "sync/atomic.CompareAndSwapInt64") (h2 : fn.origin = "") : Extern.findNext fn = none /\ Extern.find fn = some (Extern.Atomic.casT (.int .i64)) := by
 unfold Extern.findNext Extern.find;rw [h1, h2];exact ⟨by kernel_rfl, by kernel_rfl⟩
theorem zgP {f k : Nat} (h : zfc P f = k + 1) : ∃ fn, P.funcs[f]? = some fn /\ fn.body.isNone = true /\ (fn.name == "runtime.NumGoroutine") = false /\ Extern.findNext fn = none /\
    Extern.find fn = some (match k with | 0 => Extern.Atomic.loadT (.int .i64) | 1 => Extern.Atomic.storeT | _ => Extern.Atomic.casT (.int .i64)) := by
 unfold zfc at h
 split at h
 · rename_i fn hf
   split at h
   · rename_i hb;simp only [zKW, beq_iff_eq] at hb
     split at h
     · rename_i hn;have hn := beq_iff_eq.1 hn;obtain ⟨k1, k2⟩ := zzf hn hb.2
       cases h
       exact ⟨fn, hf, hb.1, by rw [hn]; rfl, k1, k2⟩
     · split at h
       · rename_i hn;have hn := beq_iff_eq.1 hn;obtain ⟨k1, k2⟩ := zzg hn hb.2
         cases h
         exact ⟨fn, hf, hb.1, by rw [hn]; rfl, k1, k2⟩
       · split at h
         · rename_i hn;have hn := beq_iff_eq.1 hn;obtain ⟨k1, k2⟩ := zze hn hb.2
           cases h
           exact ⟨fn, hf, hb.1, by rw [hn]; rfl, k1, k2⟩
         · cases h
   · cases h
 · cases h
theorem zd9 {k : Nat} {xs : List Opd} {x : AOp} (h : zda k xs = some x) : (k = 1 /\ ∃ p, xs = [p] /\ x = .atl p) \/ (k = 2 /\ ∃ p y, xs = [p, y] /\ x = .ats p y) \/ (k = 3 /\ ∃ p y z, xs = [p, y, z] /\ x = .atc p y z) := by
 unfold zda at h
 split at h
 · cases h; exact .inl ⟨rfl, _, rfl, rfl⟩
 · cases h; exact .inr (.inl ⟨rfl, _, _, rfl, rfl⟩)
 · cases h; exact .inr (.inr ⟨rfl, _, _, _, rfl, rfl⟩)
 · cases h
theorem zem {mk : Nat -> Option Nat} {x : AV} {n : Int} {u : Value} (hx : zcL x = some n) (h : VA w R ι mk x u) : x = .d (.int .i64 n) /\ u = .int .i64 n /\ IntKind.has .i64 n := by
 unfold zcL at hx
 split at hx
 · cases hx; exact ⟨rfl, h.int_inv⟩
 · cases hx
theorem Rel.ats (h : Rel C S a w ι R) {n : Int} {p : AV} {u : Value} {H' : za} (hs : zbM S.heap n p = some H') (hp : VA w R ι (mark S.heap) p u) (hn : IntKind.has .i64 n) :
    ∃ ad v, u = .pointer (some ad) /\ w.cell? ad = some (.int .i64 v) /\ w.frozen? ad = false /\ Rel C ⟨S.env, H'⟩ a (w.setCell ad (.int .i64 n)) ι R := by
 unfold zbM at hs
 split at hs
 rotate_left
 · cases hs
 rename_i o i off
 split at hs
 rotate_left
 · cases hs
 rename_i es hes;obtain ⟨e, he, hs⟩ := zKK.1 hs;obtain ⟨v, hm, hs⟩ := zKK.1 hs;obtain ⟨e', hov, hs⟩ := zKL.1 hs
 cases hs
 obtain ⟨y, hv, hy⟩ := zKK.1 hm;obtain ⟨b, s, hu, hι, hu1, hthere, hone, hrel⟩ := h.storeW hes he hov (.d (.int hn)) rfl hp;obtain ⟨t1, t2⟩ := hthere 0 (by simp [Value.cells]);refine ⟨⟨b, i * s + off, none⟩, v, hu, ?_, by simpa using t2, hrel⟩
 cases h.heap _ _ (zu hes) with
 | row k1 k2 k3 k4 k5 k6 k7 =>
  rw [hι] at k1; cases k1;obtain ⟨_, q, q1, q2⟩ := k7 i e he off _ hv;rw [zK k3, q1, (zem hy q2).2.1]
theorem Rel.atl (h : Rel C S a w ι R) {n : Int} {p : AV} {u : Value} (hs : za9 S.heap p = some n) (hp : VA w R ι (mark S.heap) p u) :
    ∃ ad, u = .pointer (some ad) /\ w.cell? ad = some (.int .i64 n) /\ IntKind.has .i64 n := by
 unfold za9 at hs
 split at hs
 rotate_left
 · cases hs
 rename_i o i off
 split at hs
 rotate_left
 · cases hs
 rename_i es hes;obtain ⟨e, he, hs⟩ := zKK.1 hs;obtain ⟨y, hv, hy⟩ := zKK.1 hs
 cases hp with
 | @ref _ _ _ b s hι _ =>
  cases h.heap _ _ (zu hes) with
  | row k1 k2 k3 k4 k5 k6 k7 =>
   rw [hι] at k1; cases k1;obtain ⟨_, q, q1, q2⟩ := k7 i e he off _ hv;obtain ⟨_, q3, q4⟩ := zem hy q2;exact ⟨_, rfl, by rw [zK k3, q1, q3], q4⟩
theorem Rel.atl_fz (h : Rel C S a w ι R) {n : Int} {p : AV} {ad : Addr} (hs : za9 S.heap p = some n) (hp : VA w R ι (mark S.heap) p (.pointer (some ad))) : w.frozen? ad = false := by
 unfold za9 at hs
 split at hs
 rotate_left
 · cases hs
 rename_i o i off
 split at hs
 rotate_left
 · cases hs
 rename_i es hes
 cases hp with
 | @ref _ _ _ b s hι _ =>
  cases h.heap _ _ (zu hes) with
  | row k1 k2 k3 k4 k5 k6 k7 =>
   rw [hι] at k1; cases k1;exact frozen_of_row w b _ _ _ k3
theorem zC3 {o : Oper} {x : AOp} {dst : Nat} {c : Call} {f : FuncId} {xs : List Opd} (hop : o.op = .call c) (hcal : c.callee = .value (.func f)) (hxs : c.args.toList.mapM opd = some xs) (hc : zda (zfc P f) xs = some x)
    (h : Rel C S a w ι R) {v : AV} {H' : za} (hs : ze S.env S.heap dst x = some (v, H')) : zk C S a v H' ((execOp a.eval o).run P w) := by
 obtain ⟨hl, hg⟩ := zdj h hxs;have e : (c.args.toList.map a.eval).toArray = c.args.map a.eval := by apply Array.ext'; simp
 have hrun : ∀ us : List Value, c.args.toList.map a.eval = us -> (execOp a.eval o).run P w = (callFunc f us.toArray).run P w := fun us hus => by
  subst hus;simp [execOp, hop, resolve, hcal, Act.eval, Deferred.ofValue, invoke, e]
 generalize hus : c.args.toList.map a.eval = us at hl hg;rw [hrun us hus]
 rcases zd9 hc with ⟨hk, p, rfl, rfl⟩ | ⟨hk, p, y, rfl, rfl⟩ | ⟨hk, p, y, z, rfl, rfl⟩
 · obtain ⟨fn, f1, f2, f3, f4, f5⟩ := zgP (k := 0) hk;obtain ⟨u0, rfl⟩ : ∃ u0, us = [u0] := by
    match us, hl with
    | [u0], _ => exact ⟨u0, rfl⟩
   simp only [ze] at hs;obtain ⟨n, hn, hs⟩ := zKL.1 hs
   cases hs
   obtain ⟨ad, rfl, h2, h3⟩ := h.atl hn (hg 0 _ _ rfl rfl);exact ⟨_, w, ι, R, .inl (run_call_load f1 f3 f2 f4 .i64 f5 h2), h, .d (.int h3)⟩
 · obtain ⟨fn, f1, f2, f3, f4, f5⟩ := zgP (k := 1) hk;obtain ⟨u0, u1, rfl⟩ : ∃ u0 u1, us = [u0, u1] := by
    match us, hl with
    | [u0, u1], _ => exact ⟨u0, u1, rfl⟩
   simp only [ze] at hs;obtain ⟨n, hn, hs⟩ := zKK.1 hs;obtain ⟨H1, h1, hs⟩ := zKL.1 hs
   cases hs
   obtain ⟨_, rfl, h3⟩ := zem hn (hg 1 _ _ rfl rfl);obtain ⟨ad, v, rfl, k1, k2, k3⟩ := h.ats h1 (hg 0 _ _ rfl rfl) h3;exact ⟨_, _, ι, R, .inl (run_call_store f1 f3 f2 f4 f5 k1 k2), k3, .d (.tup (vs := []) rfl (by simp))⟩
 · obtain ⟨fn, f1, f2, f3, f4, f5⟩ := zgP (k := 2) hk;obtain ⟨u0, u1, u2, rfl⟩ : ∃ u0 u1 u2, us = [u0, u1, u2] := by
    match us, hl with
    | [u0, u1, u2], _ => exact ⟨u0, u1, u2, rfl⟩
   simp only [ze] at hs;obtain ⟨old, hold, hs⟩ := zKK.1 hs;obtain ⟨n, hn, hs⟩ := zKK.1 hs;obtain ⟨v0, hv0, hs2⟩ := zKK.1 hs;obtain ⟨_, rfl, h3⟩ := zem hold (hg 1 _ _ rfl rfl);obtain ⟨_, rfl, h4⟩ := zem hn (hg 2 _ _ rfl rfl);obtain ⟨ad0, e0, c0, c1⟩ := h.atl hv0 (hg 0 _ _ rfl rfl);subst e0
   split at hs2
   · rename_i he;subst he;obtain ⟨H1, h1, hs3⟩ := zKL.1 hs2
     cases hs3
     obtain ⟨ad, v, e1, k1, k2, k3⟩ := h.ats h1 (hg 0 _ _ rfl rfl) h4
     cases e1
     exact ⟨.bool true, _, ι, R, .inl (run_call_cas_hit f1 f3 f2 f4 .i64 f5 c0 k2), k3, .d .bool⟩
   · rename_i he
     cases hs2
     exact ⟨.bool false, w, ι, R, .inl (run_call_cas_miss f1 f3 f2 f4 .i64 f5 c0 (h.atl_fz hv0 (hg 0 _ _ rfl rfl)) he), h, .d .bool⟩
theorem zDy {o : Oper} {x : AOp} {dst : Nat} (c : Call) (hop : o.op = .call c) (hc : zn P (.call c) = some x) (h : Rel C S a w ι R) {v : AV} {H' : za} (hs : ze S.env S.heap dst x = some (v, H')) : zk C S a v H' ((execOp a.eval o).run P w) := by
 have same : ∀ {v : AV} {u : Value} {r : Result Next}, VA w R ι (mark S.heap) v u -> r = .ok (.value u) w -> zk C S a v S.heap r := fun hv hr => zk.same h hv hr;have und : ∀ {tt : Option TypeId} {d : TypeDesc}, tt.bind P.underlying = some d -> ∃ q, tt = some q /\ P.underlying q = some d := fun hh => zKK.1 hh;have lst : ∀ {l : Array Operand} {xs : List Operand}, l.toList = xs -> l = xs.toArray := fun hh => by rw [<- hh]
 simp only [zn] at hc
 split at hc
 · rename_i f hcal
   split at hc
   · simp only [zK7, zLg] at hc;obtain ⟨_, _, hc⟩ := zKK.1 hc
     cases hc; simp [ze] at hs
   · simp only [zK7] at hc;obtain ⟨xs, hxs, hc⟩ := zKK.1 hc;exact zC3 hop hcal hxs hc h hs
 · rename_i f hcal
   split at hc
   · simp only [zK7, zLg] at hc;obtain ⟨_, _, hc⟩ := zKK.1 hc
     cases hc; simp [ze] at hs
   · cases hc
 · rename_i hcal;have run : ∀ {y : Operand} {u : Value}, c.args.toList = [y] -> (Builtin.len_ c.argTypes o.type #[a.eval y]).run P w = .ok u w -> (execOp a.eval o).run P w = .ok (.value u) w := by
    intro y u h2 hr;have h2 := lst h2;simp [execOp, hop, resolve, hcal, h2, invoke, builtin, hr]
   have int : ∀ {n : Nat}, n <= LIM -> VA w R ι (mark S.heap) (.d (.int .i64 n)) (.int .i64 n) := fun {n} hL => .d (.int (by
    unfold LIM at hL;simp [IntKind.has, IntKind.min, IntKind.max, IntKind.bits, IntKind.signed]; omega))
   split at hc
   · rename_i y h1 h2;obtain ⟨y', hy', rfl⟩ := zKL.1 hc;obtain ⟨q, hq, hu⟩ := und h1;have hv := h.ev hy';simp only [ze] at hs
     split at hs
     · rename_i s heq
       cases hs
       rw [heq] at hv;obtain ⟨hav, hL⟩ := hv.str_inv;have hsz : (⟨s.toArray⟩ : ByteArray).size = s.length := by simp [ByteArray.size]
       exact same (int hL) (run h2 (by rw [hav]; simp [Builtin.len_, hq, run_underlying hu, goInt, hsz]))
     · cases hs
   · rename_i e y h1 h2;obtain ⟨y', hy', rfl⟩ := zKL.1 hc;obtain ⟨q, hq, hu⟩ := und h1;have hv := h.ev hy';have slen : ∀ (ao : Option Addr) (n cap : Nat), a.eval y = .slice ao n cap -> n <= LIM -> zk C S a (.d (.int .i64 n)) S.heap ((execOp a.eval o).run P w) := by
      rintro ao n cap hav hL;exact same (int hL) (run h2 (by simp [Builtin.len_, hq, hav, run_underlying hu, goInt]))
     simp only [ze] at hs;generalize hpa : y'.ev S.env = pa at hv hs;generalize hav : a.eval y = av at hv;have data : ∀ {es : List D}, Rd w R (.v (.sl es) av) -> zk C S a (.d (.int .i64 es.length)) S.heap ((execOp a.eval o).run P w) := by
      intro es hrd;obtain ⟨ao, cap, hq, _, hL⟩ := hrd.sl_len;exact slen ao _ cap (by rw [hav, hq]) hL
     cases hv with
     | d hv =>
      rename_i dx
      cases dx with
      | sl es => simp only [slD, zLn, Option.some.injEq, Prod.mk.injEq] at hs; obtain ⟨rfl, rfl⟩ := hs; exact data hv
      | _ => simp [slD] at hs
     | xsl hv => simp only [slD, zLn, Option.some.injEq, Prod.mk.injEq] at hs; obtain ⟨rfl, rfl⟩ := hs; exact data hv
     | osl k1 k2 k3 k4 k5 k6 => simp only [Option.some.injEq, Prod.mk.injEq] at hs; obtain ⟨rfl, rfl⟩ := hs; exact slen _ _ _ hav k6
     | osl0 => simp only [Option.some.injEq, Prod.mk.injEq] at hs; obtain ⟨rfl, rfl⟩ := hs; exact slen _ _ _ hav (by simp)
     | accR k1 k2 k3 k4 k5 k6 k7 => simp only [slD, zLn, Option.some.injEq, Prod.mk.injEq] at hs; obtain ⟨rfl, rfl⟩ := hs; exact slen _ _ _ hav k3
     | accC k1 k2 k3 k4 k5 k6 k7 k8 k9 => simp only [slD, zLn, Option.some.injEq, Prod.mk.injEq] at hs; obtain ⟨rfl, rfl⟩ := hs; exact slen _ _ _ hav k4
     | acc0 => simp only [slD, zLn, Option.some.injEq, Prod.mk.injEq] at hs; obtain ⟨rfl, rfl⟩ := hs; exact slen _ _ _ hav (by simp)
     | _ => simp [slD] at hs
   · cases hc
 · rename_i hcal;have fin : ∀ {y z : Operand} {ux uy : Value}, c.args.toList = [y, z] -> a.eval y = ux -> a.eval z = uy -> (∃ u w' ι' R', (Builtin.append_ c.argTypes o.type #[ux, uy]).run P w = .ok u w' /\ Rel C ⟨S.env, H'⟩ a w' ι' R' /\ VA w' R' ι' (mark H') v u) -> zk C S a v H' ((execOp a.eval o).run P w) := by
    rintro y z ux uy h2 rfl rfl ⟨u, w', ι', R', k1, k2, k3⟩;have h2 := lst h2;exact ⟨u, w', ι', R', .inl (by simp [execOp, hop, resolve, hcal, h2, invoke, builtin, k1]), k2, k3⟩
   have two : ∀ {q1 q2 : TypeId} {args : Array Value}, c.argTypes[0]? = some q1 -> c.argTypes[1]? = some q2 -> Builtin.append_ c.argTypes o.type args = Builtin.append_ #[q1, q2] o.type args := by
    intro q1 q2 args h0 h1;unfold Builtin.append_;simp only [h0, h1];rfl
   split at hc
   · rename_i e e' y z h1 h2 h3;simp only [zK7, zLg] at hc;obtain ⟨n, hn, hc⟩ := zKK.1 hc;obtain ⟨i, hi, hc⟩ := zKK.1 hc;obtain ⟨zz, hz, hc⟩ := zKK.1 hc
     split at hc
     · cases hc
     · rename_i h0;obtain ⟨y', hy', hc⟩ := zKK.1 hc;obtain ⟨z', hz', hc⟩ := zKK.1 hc
       cases hc
       simp only [ze] at hs;obtain ⟨ys, hys, hs⟩ := zKK.1 hs;obtain ⟨q1, hq1, hu1⟩ := und h1;obtain ⟨q2, hq2, hu2⟩ := und h2;have hn0 : 0 < n := by omega
       have hin : i.size = n := by unfold zA at hn; rw [hi, zLn] at hn; exact Option.some.inj hn
       have hzs := zs3 hz hi;obtain ⟨zv, hzv, hzn⟩ := hzs;have hsz := ztj hs;obtain ⟨news, hsrc, hcells⟩ := zJf h (h.ev hz') hys hn0 hsz hu2;refine fin h3 rfl rfl ?_;rw [two hq1 hq2];exact zmA (e := e) h (h.ev hy') hsrc hcells hu1 hi hin hzv (by omega) (by omega) hn0 hs
   · rename_i e y z h1 h2 h3;simp only [zK7, zLg] at hc;obtain ⟨n, hn, hc⟩ := zKK.1 hc;obtain ⟨i, hi, hc⟩ := zKK.1 hc;obtain ⟨zz, hz, hc⟩ := zKK.1 hc
     split at hc
     · cases hc
     · rename_i h0;obtain ⟨y', hy', hc⟩ := zKK.1 hc;obtain ⟨z', hz', hc⟩ := zKK.1 hc
       cases hc
       simp only [ze] at hs
       split at hs
       · rename_i s heq;obtain ⟨q1, hq1, hu1⟩ := und h1;obtain ⟨q2, hq2, hu2⟩ := und h2;have hn1 : n = 1 := by omega
         subst hn1;have hin : i.size = 1 := by unfold zA at hn; rw [hi, zLn] at hn; exact Option.some.inj hn
         obtain ⟨zv, hzv, hzn⟩ := zs3 hz hi;have hv := h.ev hz';rw [heq] at hv;obtain ⟨hav, hL⟩ := hv.str_inv;have hsrc := Src.ofString (P := P) w hu2 ⟨s.toArray⟩;have hlen : (⟨s.toArray⟩ : ByteArray).size = (s.map fun b => D.int .u8 b.toNat).length := by simp [ByteArray.size]
         rw [hlen] at hsrc;have hcells : zE w R 1 (s.map fun b => D.int .u8 b.toNat) (byteCells ⟨s.toArray⟩) := by
          refine ⟨by simp [byteCells], fun i e hi j c hc => ?_⟩;simp only [zKQ, zKL] at hi;obtain ⟨b, hb, rfl⟩ := hi
          match j, hc with
          | 0, hc =>
           simp [D.cells] at hc; subst hc;refine ⟨rfl, .int .u8 b.toNat, by simp [byteCells, hb], .int ?_⟩;have := b.toNat_lt;simp [IntKind.has, IntKind.min, IntKind.max, IntKind.bits, IntKind.signed]; omega
          | k + 1, hc => simp [D.cells] at hc
         refine fin h3 rfl hav ?_;rw [two hq1 hq2];exact zmA (e := e) h (h.ev hy') hsrc hcells hu1 hi hin hzv (by omega) (by omega) (by omega) hs
       · cases hs
   · cases hc
 · rename_i hcal
   split at hc
   · rename_i e y h1 h2;simp only [zK7, zLg] at hc;obtain ⟨n, hn, hc⟩ := zKK.1 hc;obtain ⟨zz, hz, hc⟩ := zKK.1 hc
     split at hc
     · cases hc
     rename_i hcc;obtain ⟨y', hy', hc⟩ := zKK.1 hc
     cases hc
     obtain ⟨q, hq, hu⟩ := und h1;have hv := h.ev hy';simp only [ze] at hs
     split at hs
     · rename_i o' off len hpo;rw [hpo] at hv
       split at hs
       · rename_i es hes
         split at hs
         · rename_i hok
           cases hs
           obtain ⟨zv, z1, z2⟩ := zKG hz (zc3 hz);obtain ⟨_, z3⟩ := (z2 w R ι (mark S.heap)).2;obtain ⟨w', k1, k2⟩ := h.clear (ty := o.type) hes hok.1 hok.2 hu z1 (by rw [(z2 w R ι (mark S.heap)).1.1]; omega) (by omega) (fun p hp => by
            obtain ⟨j, hj, rfl⟩ := Array.getElem_of_mem hp;exact z3 _ (Array.getElem_mem hj)) hv
           have h2 := lst h2;have hargs : c.args.map a.eval = #[a.eval y] := by rw [h2]; simp
           have hrun : Builtin.clear_ c.argTypes o.type #[a.eval y] = Builtin.clear_ #[q] o.type #[a.eval y] := by
            unfold Builtin.clear_;simp only [hq];rfl
           exact ⟨.tuple #[], w', ι, R, .inl (by simp [execOp, hop, resolve, hcal, h2, invoke, builtin, hrun, k1]), k2, .undef⟩
         · cases hs
       · cases hs
     · cases hs
   · cases hc
 · rename_i hcal;simp only [zK7, zLg] at hc;obtain ⟨xs, hxs, hc⟩ := zKK.1 hc
   cases hc
   simp only [ze] at hs
   split at hs
   · cases hs
   · rename_i y ys heq;obtain ⟨v', hv', hs⟩ := zKL.1 hs
     cases hs
     obtain ⟨hl, hg⟩ := zdj h hxs;rw [heq] at hl hg
     cases hargs : c.args.toList.map a.eval with
     | nil => rw [hargs] at hl; simp at hl
     | cons u us =>
      rw [hargs] at hl hg;obtain ⟨q, k1, k2⟩ := zse (P := P) false (hg 0 y u rfl rfl) (by simpa using hl) (fun i y q h1 h2 => hg (i + 1) y q (by simpa using h1) (by simpa using h2)) hv';refine same k2 ?_;have e : (c.args.map a.eval).toList = u :: us := by rw [zMn, hargs]
      have e2 : c.args.map a.eval = (u :: us).toArray := by rw [<- e]
      have k1' : (us.foldlM Builtin.min2 u).run P w = .ok q w := k1;simp only [execOp, hop, resolve, hcal, e2, Sem.run_bind, Sem.run_pure, Result.andThen_ok, invoke, builtin, Builtin.min_, k1']
 · rename_i hcal;simp only [zK7, zLg] at hc;obtain ⟨xs, hxs, hc⟩ := zKK.1 hc
   cases hc
   simp only [ze] at hs
   split at hs
   · cases hs
   · rename_i y ys heq;obtain ⟨v', hv', hs⟩ := zKL.1 hs
     cases hs
     obtain ⟨hl, hg⟩ := zdj h hxs;rw [heq] at hl hg
     cases hargs : c.args.toList.map a.eval with
     | nil => rw [hargs] at hl; simp at hl
     | cons u us =>
      rw [hargs] at hl hg;obtain ⟨q, k1, k2⟩ := zse (P := P) true (hg 0 y u rfl rfl) (by simpa using hl) (fun i y q h1 h2 => hg (i + 1) y q (by simpa using h1) (by simpa using h2)) hv';refine same k2 ?_;have e : (c.args.map a.eval).toList = u :: us := by rw [zMn, hargs]
      have e2 : c.args.map a.eval = (u :: us).toArray := by rw [<- e]
      have k1' : (us.foldlM Builtin.max2 u).run P w = .ok q w := k1;simp only [execOp, hop, resolve, hcal, e2, Sem.run_bind, Sem.run_pure, Result.andThen_ok, invoke, builtin, Builtin.max_, k1']
 · cases hc
theorem Rel.newMap (h : Rel C S a w ι R) {o : Nat} (hu : zb6 o S) : Rel C ⟨S.env, zj o (.mp []) S.heap⟩ a (w.alloc (.map #[] 0)) (upd ι o (w.heap.size, 1)) R := by
 have hst : ∀ p, p ≠ o -> Step w (w.alloc (.map #[] 0)) ι (upd ι o (w.heap.size, 1)) (mark S.heap) (mark (zj o (.mp []) S.heap)) p := fun p hp =>
  Step.other (zQ hp) (zaO hp) fun b s hb => zay (h.own p b s hb).2
 refine h.change rfl rfl rfl (by simp) (fun b hb => Blk.of_eq (zay hb)) (fun b hb => zay (zLo (h.keepLt b hb) h.grow)) (fun _ hb => hb) (fun b hb => by have := h.rlt b hb; simp; omega) h.rok (zU.alloc h _) ?_ ?_ ?_ ?_
 · intro q b s' hq
   by_cases e : q = o
   · subst e;rw [zav] at hq; cases hq;exact ⟨fun hk => by have := h.keepLt _ hk; have := h.grow; omega, by simp⟩
   · rw [zQ e] at hq;have := h.own q b s' hq;exact ⟨this.1, by simp; omega⟩
 · intro q q' b s1 s2 h1 h2
   by_cases e : q = o <;> by_cases e' : q' = o
   · rw [e, e']
   · subst e; rw [zav] at h1; rw [zQ e'] at h2; cases h1;have := (h.own _ _ _ h2).2; omega
   · subst e'; rw [zav] at h2; rw [zQ e] at h1; cases h2;have := (h.own _ _ _ h1).2; omega
   · rw [zQ e] at h1; rw [zQ e'] at h2; exact h.inj _ _ _ _ _ h1 h2
 · intro p hp;refine hst p fun e => ?_;subst e; rw [hu.1] at hp; cases hp
 · intro q ob' hq
   cases hq with
   | head => exact .mp zav (fun hb => by have := h.rlt _ hb; omega) (heap_alloc_new w (.map #[] 0)) (by omega) rfl fun i k x hi => by simp at hi
   | tail _ hq =>
    obtain ⟨h1, h2⟩ := zcT.1 hq;refine (h.heap q ob' h1).mono (fun _ hb => hb) (zU.alloc h _) (fun b s' hb => ⟨by rw [zQ h2, hb], zay (h.own q b s' hb).2, fun hb => hb⟩) (fun h0 => by rw [zQ h2, h0]) fun p hp => ?_;refine hst p fun e => ?_;subst e;have := zb4 h1 hu.2;rw [hp] at this; cases this
theorem Rel.setMap (h : Rel C S a w ι R) {o b s ck ck' : Nat} {es es' : List (Int × D)} {l l' : Array MapEntry} (hes : look o S.heap = some (.mp es)) (hι : ι o = some (b, s)) (hR : ¬ R b) (hb : w.heap[b]? = some (.map l ck)) (hs : 0 < s)
    (hl : l'.size = es'.length) (he : ∀ (i : Nat) (k : Int) (x : D), es'[i]? = some (k, x) -> ∃ e, l'[i]? = some e /\ e.key = .int .i64 k /\ Rd w R (.v x e.val)) :
    Rel C ⟨S.env, zj o (.mp es') S.heap⟩ a { w with heap := w.heap.setIfInBounds b (.map l' ck') } ι R := by
 obtain ⟨h1, h2⟩ := MapKept.heap_set (o' := .map l' ck') hb;have hK : zU R w { w with heap := w.heap.setIfInBounds b (.map l' ck') } := fun b' hb' => h2 b' fun e => hR (e ▸ hb');have hblk : ∀ b' k, Blk w { w with heap := w.heap.setIfInBounds b (.map l' ck') } b' k := fun b' k => by
  by_cases e : b' = b
  · subst e; intro c T hc; rw [hb] at hc; cases hc
  · exact Blk.of_eq (h2 b' e)
 have hmk : mark (zj o (Obj.mp es') S.heap) = mark S.heap := funext fun q => by
  by_cases e : q = o
  · subst e; rw [zaN]; simp [mark, hes]
  · exact zaO e
 have hst : ∀ q, Step w { w with heap := w.heap.setIfInBounds b (.map l' ck') } ι ι (mark S.heap) (mark S.heap) q := fun q => ⟨fun _ _ h => h, fun b1 s1 _ => hblk _ _, fun m h => ⟨m, h, zKV _⟩, fun m h => ⟨m, h, zKV _⟩⟩;have hsz : (w.heap.setIfInBounds b (.map l' ck')).size = w.heap.size := by simp
 refine h.change rfl rfl rfl (by simp) (fun b' _ => hblk b' 0) (fun b' hb' => h2 b' fun e => (h.own o b s hι).1 (e ▸ hb')) (fun _ h => h) (fun b' hb' => by show b' < (w.heap.setIfInBounds b (.map l' ck')).size; rw [hsz]; exact h.rlt b' hb') h.rok hK
  (fun q b1 s1 hq => ⟨(h.own q b1 s1 hq).1, by show b1 < (w.heap.setIfInBounds b (.map l' ck')).size; rw [hsz]; exact (h.own q b1 s1 hq).2⟩) h.inj (fun q _ => by rw [hmk]; exact hst q) ?_
 rw [hmk];intro q ob hq
 rcases zbU hq with hq | ⟨hq, hne⟩
 · cases hq
   exact .mp hι hR h1 hs hl fun i k x hi => let ⟨e, k1, k2, k3⟩ := he i k x hi; ⟨e, k1, k2, k3.mono_v (fun _ h => h) hK⟩
 · exact (h.heap q ob hq).mono (fun _ h => h) hK (fun b1 s1 hb1 => ⟨hb1, h2 b1 fun e => hne (h.inj _ _ _ _ _ (e ▸ hb1) hι), fun h => h⟩) (fun h => h) fun p _ => hst p
theorem znc {n : Int} {es : List (Int × D)} {l : List MapEntry} {i : Nat} (hl : l.length = es.length)
    (he : ∀ (i : Nat) (k : Int) (x : D), es[i]? = some (k, x) -> ∃ e, l[i]? = some e /\ e.key = .int .i64 k /\ Rd w R (.v x e.val)) :
    (zb2 n es = none /\ Instr.findNow (.int .i64) (.int .i64 n) l i = some none /\ ∀ x, zcq n x es = es ++ [(n, x)]) \/
    (∃ j y e, zb2 n es = some y /\ Instr.findNow (.int .i64) (.int .i64 n) l i = some (some (i + j, e.val)) /\ l[j]? = some e /\ e.key = .int .i64 n /\ Rd w R (.v y e.val) /\ j < es.length /\ ∀ x, zcq n x es = es.set j (n, x)) := by
 induction es generalizing l i with
 | nil => exact .inl ⟨rfl, by cases l with | nil => rfl | cons _ _ => simp at hl, fun _ => rfl⟩
 | cons p es ih =>
  obtain ⟨k, x⟩ := p
  cases l with
  | nil => simp at hl
  | cons e l =>
   obtain ⟨e', k1, k2, k3⟩ := he 0 k x rfl;simp only [zMt, Option.some.injEq] at k1;subst k1
   by_cases hk : k = n
   · subst hk;refine .inr ⟨0, x, e, by simp [zb2], ?_, rfl, k2, k3, by simp, fun y => by simp [zcq]⟩;simp [Instr.findNow, k2, Instr.sameNow]
   · have hns : Instr.sameNow (.int .i64) (.int .i64 n) e.key = some false := by
      rw [k2]; simp [Instr.sameNow]; exact fun h => hk h.symm
     rcases ih (l := l) (i := i + 1) (by simpa using hl) (fun i k x hi => by simpa using he (i + 1) k x (by simpa using hi)) with ⟨h1, h2, h3⟩ | ⟨j, y, e', h1, h2, h3, h4, h5, h6, h7⟩
     · exact .inl ⟨by simp [zb2, hk, h1], by simp [Instr.findNow, hns, h2], fun y => by simp [zcq, hk, h3]⟩
     · exact .inr ⟨j + 1, y, e', by simp [zb2, hk, h1], by simp [Instr.findNow, hns, h2]; omega, by simpa using h3, h4, h5, by simp; omega, fun z => by simp [zcq, hk, h7]⟩
theorem zKH {t : TypeId} {z : AV} (h : zan P t = some z) : ∃ zv, (∀ w, (zeroValue t).run P w = .ok zv w) /\ ∀ (w : World) (R : Nat -> Prop) (ι : Inj) (mk : Nat -> Option Nat), VA w R ι mk z zv := by
 have h0 := h;unfold zan at h0;obtain ⟨zv, h1, h2⟩ := zKK.1 h0;obtain ⟨i, h3, h4⟩ := zKK.1 h1;exact ⟨zv, fun w => by simp [zeroValue, typeInfo, h3, h4], fun w R ι mk => zfl h2 w R ι mk⟩
theorem zDR {o : Oper} {x : AOp} {dst : Nat} (t : TypeId) (r : Option Operand) (hop : o.op = .makeMap t r) (hc : zn P (.makeMap t r) = some x) (h : Rel C S a w ι R) {v : AV} {H' : za} (hs : ze S.env S.heap dst x = some (v, H')) : zk C S a v H' ((execOp a.eval o).run P w) := by
 simp only [zn] at hc
 split at hc
 · split at hc
   · cases hc
     simp only [ze] at hs
     split at hs
     · rename_i hu
       cases hs
       refine ⟨.map (some w.heap.size), _, _, R, .inl ?_, h.newMap hu, .mpr zav (by rw [zaN])⟩;simp [execOp, hop, Instr.makeMap]
     · cases hs
   · cases hc
 · cases hc
theorem zr9 {o : Nat} {u : Value} (h : Rel C S a w ι R) (hu : VA w R ι (mark S.heap) (.mpr o) u) {es : List (Int × D)} (hes : look o S.heap = some (.mp es)) :
    ∃ b s l ck, u = .map (some b) /\ ι o = some (b, s) /\ ¬ R b /\ w.heap[b]? = some (.map l ck) /\ 0 < s /\ l.size = es.length /\ ∀ (i : Nat) (k : Int) (x : D), es[i]? = some (k, x) -> ∃ e, l[i]? = some e /\ e.key = .int .i64 k /\ Rd w R (.v x e.val) := by
 cases hu with
 | mpr hι hmk =>
  cases h.heap _ _ (zu hes) with
  | mp k1 k2 k3 k4 k5 k6 => rw [hι] at k1; cases k1; exact ⟨_, _, _, _, rfl, hι, k2, k3, k4, k5, k6⟩
theorem zDP {o : Oper} {x : AOp} {dst : Nat} (t : TypeId) (y i : Operand) (ok : Bool) (hop : o.op = .lookup t y i ok) (hc : zn P (.lookup t y i ok) = some x) (h : Rel C S a w ι R) {v : AV} {H' : za} (hs : ze S.env S.heap dst x = some (v, H')) : zk C S a v H' ((execOp a.eval o).run P w) := by
 simp only [zn] at hc
 split at hc
 rotate_left
 · cases hc
 rename_i kt et hut
 split at hc
 rotate_left
 · cases hc
 rename_i z hkt hz;simp only [zK7, zLg] at hc;obtain ⟨y', hy', hc⟩ := zKK.1 hc;obtain ⟨i', hi', hc⟩ := zKK.1 hc
 cases hc
 simp only [ze, zKL] at hs;obtain ⟨v', hv', hs⟩ := hs
 cases hs
 have hvy := h.ev hy';have hvi := h.ev hi';unfold zdv at hv'
 split at hv'
 rotate_left
 · cases hv'
 rename_i q n hq hn
 split at hv'
 rotate_left
 · cases hv'
 rename_i es hes
 cases hv'
 rw [hq] at hvy;rw [hn] at hvi;obtain ⟨hi1, hi2⟩ := hvi.int_inv;obtain ⟨b, s, l, ck, hu, hι, hR, hb, hs0, hl, he⟩ := zr9 h hvy hes;obtain ⟨zv, z1, z2⟩ := zKH hz;have hut' := run_underlying (P := P) hut w;have hck := MapKept.run_checkKey (P := P) (w := w) (kt := kt) (k := .int .i64 n) hkt rfl l.isEmpty 9999;have hv := z2 w R ι (mark S.heap)
 rcases znc (n := n) (i := 0) (l := l.toList) (by simpa using hl) (by simpa using he) with ⟨h1, h2, _⟩ | ⟨j, y1, e, h1, h2, h3, h4, h5, h6, _⟩
 · have hfk := MapKept.run_findKey (P := P) (w := w) hkt h2;refine ⟨if ok then .tuple #[zv, .bool false] else zv, w, ι, R, .inl ?_, h, ?_⟩
   · simp [execOp, hop, hu, hi1, Instr.lookup, hut', MapKept.run_getObj_map hb, hck, hfk, z1]
   · rw [h1]
     cases ok with
     | true =>
      refine .d (.tup (vs := [zv, .bool false]) rfl fun i c u h3 h4 => ?_)
      match i, h3, h4 with
      | 0, h3, h4 => simp at h3 h4; subst h3 h4; exact hv.of_d
      | 1, h3, h4 => simp at h3 h4; subst h3 h4; exact .bool
      | n + 2, h3, h4 => simp at h3
     | false => simpa using hv
 · have hfk := MapKept.run_findKey (P := P) (w := w) hkt h2;refine ⟨if ok then .tuple #[e.val, .bool true] else e.val, w, ι, R, .inl ?_, h, ?_⟩
   · simp [execOp, hop, hu, hi1, Instr.lookup, hut', MapKept.run_getObj_map hb, hck, hfk]
   · rw [h1]
     cases ok with
     | true =>
      refine .d (.tup (vs := [e.val, .bool true]) rfl fun i c u h3 h4 => ?_)
      match i, h3, h4 with
      | 0, h3, h4 => simp at h3 h4; subst h3 h4; exact h5
      | 1, h3, h4 => simp at h3 h4; subst h3 h4; exact .bool
      | n + 2, h3, h4 => simp at h3
     | false => simpa using VA.d h5
theorem zDT {o : Oper} {x : AOp} {dst : Nat} (t : TypeId) (y i z : Operand) (hop : o.op = .mapUpdate t y i z) (hc : zn P (.mapUpdate t y i z) = some x) (h : Rel C S a w ι R) {v : AV} {H' : za} (hs : ze S.env S.heap dst x = some (v, H')) : zk C S a v H' ((execOp a.eval o).run P w) := by
 simp only [zn] at hc
 split at hc
 rotate_left
 · cases hc
 rename_i kt et hut
 split at hc
 rotate_left
 · cases hc
 rename_i hkt;simp only [zK7, zLg] at hc;obtain ⟨y', hy', hc⟩ := zKK.1 hc;obtain ⟨i', hi', hc⟩ := zKK.1 hc;obtain ⟨z', hz', hc⟩ := zKK.1 hc
 cases hc
 have hkt : P.underlying kt = some (.int .i64) := hkt;simp only [ze] at hs;have hvy := h.ev hy';have hvi := h.ev hi';have hvz := h.ev hz';unfold zex at hs
 split at hs
 rotate_left
 · cases hs
 rename_i q n d hq hn hd
 split at hs
 rotate_left
 · cases hs
 rename_i es hes
 cases hs
 rw [hq] at hvy;rw [hn] at hvi;rw [hd] at hvz;have hrd := hvz.of_d;obtain ⟨hi1, hi2⟩ := hvi.int_inv;obtain ⟨b, s, l, ck, hu, hι, hR, hb, hs0, hl, he⟩ := zr9 h hvy hes;have hut' := run_underlying (P := P) hut w;have hck := MapKept.run_checkKey (P := P) (w := w) (kt := kt) (k := .int .i64 n) hkt rfl false 9999
 rcases znc (n := n) (i := 0) (l := l.toList) (by simpa using hl) (by simpa using he) with ⟨h1, h2, h7⟩ | ⟨j, y1, e, h1, h2, h3, h4, h5, h6, h7⟩
 · have hfk := MapKept.run_findKey (P := P) (w := w) hkt h2;rw [h7];refine ⟨undef, _, ι, R, .inr ⟨?_, rfl⟩, h.setMap (ck' := ck + 1) (l' := l.push { key := .int .i64 n, val := a.eval z, born := ck }) hes hι hR hb hs0 (by simp [hl]) ?_, .undef⟩
   · simp [execOp, hop, hu, hi1, Instr.mapUpdate, hut', MapKept.run_getObj_map hb, hck, hfk, MapKept.run_setObj_map _ hb]
   · intro i k x hi
     by_cases hlt : i < es.length
     · rw [zLk hlt] at hi;obtain ⟨e, k1, k2, k3⟩ := he i k x hi;exact ⟨e, by rw [zMR, zKM (by omega)]; exact k1, k2, k3⟩
     · rw [zLd (by omega)] at hi;have hi0 : i = es.length := by
        have := (zKP.1 hi).1;simp at this; omega
       subst hi0;simp at hi;obtain ⟨rfl, rfl⟩ := hi;exact ⟨_, by rw [zMR, zKN hl.symm], rfl, hrd⟩
 · have hfk := MapKept.run_findKey (P := P) (w := w) hkt h2;rw [h7];have h3' : l[j]? = some e := by simpa using h3
   refine ⟨undef, _, ι, R, .inr ⟨?_, rfl⟩, h.setMap (ck' := ck) (l' := l.modify j fun e => { e with key := .int .i64 n, val := a.eval z }) hes hι hR hb hs0 (by simp [hl]) ?_, .undef⟩
   · simp [execOp, hop, hu, hi1, Instr.mapUpdate, hut', MapKept.run_getObj_map hb, hck, hfk, MapKept.run_setObj_map _ hb, h3', h4, Instr.keyThatStays, Instr.sameBits]
   · intro i k x hi
     by_cases hij : j = i
     · subst hij;rw [List.getElem?_set_self h6] at hi
       cases hi
       exact ⟨_, by rw [zMS, zKN rfl, h3']; rfl, rfl, hrd⟩
     · rw [zMg hij] at hi;obtain ⟨e', k1, k2, k3⟩ := he i k x hi;exact ⟨e', by rw [zMS, zKM hij]; exact k1, k2, k3⟩
theorem zts {o : Oper} {x : AOp} {dst : Nat} (hc : zn P o.op = some x) (h : Rel C S a w ι R) {v : AV} {H' : za} (hs : ze S.env S.heap dst x = some (v, H')) : zk C S a v H' ((execOp a.eval o).run P w) := by
 generalize hop : o.op = op at hc
 cases op with
 | move y => exact zDU y hop hc h hs
 | assign y => exact zC2 y hop hc h hs
 | pick c y z => exact zDY c y z hop hc h hs
 | alloc t => exact zC1 t hop hc h hs
 | box t y => exact zDv t y hop hc h hs
 | load t p => exact zDO t p hop hc h hs
 | store t p y => exact zHq t p y hop hc h hs
 | nilCheck y => exact zDV y hop hc h hs
 | binOp bop t y z u => exact zDu bop t y z u hop hc h hs
 | unOp uop t y => exact zHr uop t y hop hc h hs
 | convert s t y => exact zDB s t y hop hc h hs
 | makeFunc fn first cs => exact zDQ fn first cs hop hc h hs
 | fieldAddr t y f => exact zDG t y f hop hc h hs
 | field t y f => exact zDF t y f hop hc h hs
 | indexAddr t y i => exact zDL t y i hop hc h hs
 | extract y i => exact zDE y i hop hc h hs
 | build t ps => exact zDw t ps hop hc h hs
 | index t y i => exact zDK t y i hop hc h hs
 | slice t y lo hi mx => exact zHb t y lo hi mx hop hc h hs
 | buildSlice t len ps => exact zDx t len ps hop hc h hs
 | makeSlice t l c => exact zDS t l c hop hc h hs
 | call c => exact zDy c hop hc h hs
 | makeMap t r => exact zDR t r hop hc h hs
 | lookup t y i ok => exact zDP t y i ok hop hc h hs
 | mapUpdate t y i z => exact zDT t y i z hop hc h hs
 | _ => simp [zn] at hc
end Go.Sim
