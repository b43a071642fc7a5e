/-
  Parts of slices.
-/
import Derived.Test.YtgjlpcbolldhhaaGreatB95f1777
import Derived.Deep.Upon
import Derived.Laws.OwnMore
set_option linter.unusedSimpArgs false
set_option linter.unusedVariables false
set_option maxHeartbeats 10000000
set_option maxRecDepth 100000
namespace Go.Sim
open Go (World Value Addr TypeId Act)
variable {P : Program} {C : Ctx} {S : St} {a : Act} {w : World} {ι : Inj} {R : Nat -> Prop}
theorem zHP {ag : Bool} {off n : Nat} {x y : D} (h : zaf ag off n x = some y) (hn : n ≠ 0) (hc : ag = false -> y.cell = true) : y.size = n := by
 obtain ⟨h1, ⟨rfl, rfl⟩ | ⟨rfl, h0, h2⟩⟩ := zb3 h hn
 · rw [D.size_agg, zLc, zKZ]; have h1 : off + n <= x.cells.length := h1; omega
 · rw [D.size_cell (hc rfl), h0]
theorem znb {mk : Nat -> Option Nat} {ag : Bool} {off n : Nat} {x v : AV} {u : Value} (h : VA w R ι mk x u) (hp : zaT ag off n x = some v) (hn : n ≠ 0) :
    ∃ b o, u = .pointer (some ⟨b, o, none⟩) /\ VA w R ι mk v (.pointer (some ⟨b, o + off, none⟩)) := by
 cases h with
 | ref h hmk => simp only [zaT, Option.some.injEq] at hp; subst hp; exact ⟨_, _, rfl, by rw [zLA]; exact .ref h hmk⟩
 | d h =>
  cases h with
  | pd h1 h2 =>
   simp only [zaT, zKL] at hp;obtain ⟨z, hz, rfl⟩ := hp;exact ⟨_, _, rfl, .d (.pd h1 (h2.part_el hz hn))⟩
  | _ => simp [zaT] at hp
 | peR h1 h2 =>
  simp only [zaT, zKL] at hp;obtain ⟨z, hz, rfl⟩ := hp;exact ⟨_, _, rfl, .peR h1 (h2.part_el hz hn)⟩
 | peC h1 h2 h3 h4 h5 =>
  simp only [zaT, zKL] at hp;obtain ⟨z, hz, rfl⟩ := hp;refine ⟨_, _, rfl, .peC h1 h2 h3 ?_ (h5.part_el hz hn)⟩;have h6 := (zb3 hz hn).1;have h7 := zHP hz hn fun hag => by
   subst hag;obtain ⟨_, ⟨h, _⟩ | ⟨_, _, h⟩⟩ := zb3 hz hn
   · cases h
   · exact (h5.v_of_cells _ _ h).1
  omega
 | _ => simp [zaT] at hp
theorem Rd.sl_inv {es : List D} {u : Value} (h : Rd w R (.v (.sl es) u)) (h0 : es ≠ []) : ∃ b off s cap, u = .slice (some ⟨b, off, none⟩) es.length cap /\ R b /\ 0 < s /\ es.length <= LIM /\ es.length <= cap /\ (∀ e ∈ es, e.size = s) /\
    ∀ (i : Nat) (e : D), es[i]? = some e -> Rd w R (.el e b (off + i * s)) := by
 cases h with
 | sl0 => exact absurd rfl h0
 | sl hR _ hs hl hc hsz h => exact ⟨_, _, _, _, rfl, hR, hs, hl, hc, hsz, h⟩
theorem Rd.sl_len {es : List D} {u : Value} (h : Rd w R (.v (.sl es) u)) : ∃ a cap, u = .slice a es.length cap /\ es.length <= cap /\ es.length <= LIM := by
 cases h with
 | sl0 => exact ⟨_, _, rfl, by simp, by simp⟩
 | sl hR _ hs hl hc hsz h => exact ⟨_, _, rfl, hc, hl⟩
theorem zCz {es : List D} {i : Nat} {e : D} (h : es[i]? = some e) : es ≠ [] := by rintro rfl; simp at h
theorem zzW {n : Nat} {i : Int} {x v : AV} {u : Value} (hr : Rel C S a w ι R) (h : VA w R ι (mark S.heap) x u) (hp : zat S.heap n i x = some v) (hi : 0 <= i) :
    ∃ b o len cap, u = .slice (some ⟨b, o, none⟩) len cap /\ i < len /\ VA w R ι (mark S.heap) v (.pointer (some ⟨b, o + i.toNat * n, none⟩)) := by
 have slc : ∀ (es : List D), Rd w R (.v (.sl es) u) -> (es[i.toNat]?.bind fun e => if e.size = n then some (AV.d (.pd e)) else none) = some v ->
     ∃ b o len cap, u = .slice (some ⟨b, o, none⟩) len cap /\ i < len /\ VA w R ι (mark S.heap) v (.pointer (some ⟨b, o + i.toNat * n, none⟩)) := by
  intro es h hp;obtain ⟨e, he, hp⟩ := zKK.1 hp
  split at hp
  · rename_i hsz; cases hp;obtain ⟨b, off, s, cap, rfl, hR, hs, hl, hc, hz, hh⟩ := h.sl_inv (zCz he);have hlt := (zKP.1 he).1;have := hz e (zKU he);refine ⟨_, _, _, _, rfl, by omega, .d (.pd hR ?_)⟩;rw [<- hsz, this]; exact hh _ _ he
  · cases hp
 cases x with
 | d y => cases y with
  | sl es => exact slc es h.of_d hp
  | _ => simp [zat] at hp
 | xsl es => cases h with | xsl h => exact slc es h hp
 | osl o off len =>
  simp only [zat] at hp
  split at hp
  · rename_i hlen
    split at hp
    · rename_i es hes;obtain ⟨e, he, hp⟩ := zKK.1 hp
      split at hp
      · rename_i hsz; cases hp
        cases h with
        | osl0 => exact absurd hlen (by omega)
        | @osl _ _ _ cap b s c T hι hmk hb hl hc hL =>
         have hob := hr.heap _ _ (zu hes)
         cases hob with
         | row hι' _ _ _ hsz' _ _ =>
          rw [hι] at hι'; cases hι';have := hsz' e (zKU he);refine ⟨_, _, _, _, rfl, hlen, ?_⟩;have e1 : off * s + i.toNat * n = (off + i.toNat) * s + 0 := by rw [<- hsz, this, zLm, zLL]
          rw [e1]; exact .ref hι hmk
      · cases hp
    · cases hp
  · cases hp
 | acc o es =>
  simp only [zat] at hp;obtain ⟨e, he, hp⟩ := zKK.1 hp
  split at hp
  · rename_i hsz; cases hp;have hlt := (zKP.1 he).1
    cases h with
    | accR hR hs hL hl hz hh hm =>
     have := hz e (zKU he);refine ⟨_, _, _, _, rfl, by omega, .peR hR ?_⟩;rw [<- hsz, this]; exact hh _ _ he
    | @accC _ b s m cap _ c T hι hmk hm hL hl hz hb hc hh =>
     have := hz e (zKU he);refine ⟨_, _, _, _, rfl, by omega, ?_⟩;rw [<- hsz, this, zKT];refine .peC hι hmk hb ?_ (hh _ _ he);rw [this]
     calc i.toNat * s + s = (i.toNat + 1) * s := by rw [zLp]
      _ <= m * s := zK6 _ (by omega)
    | acc0 => simp at hlt
  · cases hp
 | _ => simp [zat] at hp
theorem zhW {mk : Nat -> Option Nat} {x : AV} {u : Value} (h : VA w R ι mk x u) (hx : x.cell = true) : u.oneCell' = true := by
 cases h with
 | d h => cases h <;> first | (simp_all [AV.cell, D.cell, Value.oneCell']; done) | (rename_i h; cases u <;> first | rfl | cases h)
 | _ => simp_all [AV.cell, Value.oneCell']
theorem VA.cells {mk : Nat -> Option Nat} {x : AV} {u : Value} (h : VA w R ι mk x u) (hx : zae x = false) :
    u.cells.size = x.size /\ ∀ (i : Nat) (c : AV), x.cells[i]? = some c -> c.cell = true /\ ∃ q, u.cells[i]? = some q /\ VA w R ι mk c q := by
 have one : ∀ {x : AV} {u : Value}, VA w R ι mk x u -> x.cell = true -> x.cells = [x] -> x.size = 1 -> u.cells = #[u] -> (u.cells.size = x.size /\ ∀ (i : Nat) (c : AV), x.cells[i]? = some c -> c.cell = true /\ ∃ q, u.cells[i]? = some q /\ VA w R ι mk c q) := by
  intro x u h h1 h2 h3 h4;refine ⟨by simp [h3, h4], fun i c hc => ?_⟩;rw [h2] at hc
  match i, hc with
  | 0, hc => simp at hc; subst hc; exact ⟨h1, u, by simp [h4], h⟩
  | n + 1, hc => simp at hc
 cases h with
 | @d x u h =>
  have ht : ∀ vs, x ≠ .tup vs := fun vs e => by subst e; simp [zae] at hx
  obtain ⟨h1, h2⟩ := h.cells_of_v ht;refine ⟨h1, fun i c hc => ?_⟩;simp only [AV.cells, zKQ, zKL] at hc;obtain ⟨c', hc', rfl⟩ := hc;obtain ⟨k1, q, k2, k3⟩ := h2 i c' hc';exact ⟨k1, q, k2, .d k3⟩
 | agg hl hc h =>
  refine ⟨by simp [Value.cells, AV.size, hl], fun i c hi => ?_⟩;rename_i cs vs;have hi : cs[i]? = some c := hi;have hlt : i < cs.length := (zKP.1 hi).1;have hq : vs[i]? = some (vs[i]'(by omega)) := zKR _;exact ⟨hc c (zKU hi), _, by simp only [Value.cells, zMl]; exact hq, h i c _ hi hq⟩
 | tup => simp [zae] at hx
 | undef => simp [zae] at hx
 | nl1 => exact one .nl1 rfl rfl rfl rfl
 | nl2 => exact one .nl2 rfl rfl rfl rfl
 | mpr a b => exact one (.mpr a b) rfl rfl rfl rfl
 | ref h hm => exact one (.ref h hm) rfl rfl rfl rfl
 | osl a b c d e f => exact one (.osl a b c d e f) rfl rfl rfl rfl
 | osl0 => exact one .osl0 rfl rfl rfl rfl
 | accR a b c d e f g => exact one (.accR a b c d e f g) rfl rfl rfl rfl
 | accC a b c d e f g h i => exact one (.accC a b c d e f g h i) rfl rfl rfl rfl
 | peR a b => exact one (.peR a b) rfl rfl rfl rfl
 | peC a b c d e => exact one (.peC a b c d e) rfl rfl rfl rfl
 | acc0 => exact one .acc0 rfl rfl rfl rfl
 | xsl a => exact one (.xsl a) rfl rfl rfl rfl
 | fn a b => exact one (.fn a b) rfl rfl rfl rfl
theorem zsd (cs : List AV) : (AV.mkAgg cs).cells = cs /\ (AV.mkAgg cs).size = cs.length := by
 unfold AV.mkAgg
 cases h : zO cs with
 | none => exact ⟨rfl, rfl⟩
 | some ds =>
  have := zbX h;subst this;simp [AV.cells, AV.size, D.cells, D.size]
theorem zsO {α : Type} (l m : List α) (off j : Nat) (h : off + m.length <= l.length) :
    (zbq l off m)[j]? = if off <= j /\ j < off + m.length then m[j - off]? else l[j]? := by
 unfold zbq;have hlt : (l.take off).length = off := by simp; omega
 by_cases h1 : j < off
 · rw [zKM (by omega), zK5, zLk (by omega), zL0 h1]
 · by_cases h2 : j < off + m.length
   · rw [zKN ⟨by omega, h2⟩, zK5, zLd (by omega), zLk (by omega), hlt]
   · rw [zKM (by omega), zLd (by simp; omega), zLv]
     congr 1; simp; omega
theorem zsP {α : Type} (l m : List α) (off : Nat) (h : off + m.length <= l.length) : (zbq l off m).length = l.length := by
 simp [zbq]; omega
theorem zsv {x v y : AV} {off : Nat} (h : zaX x off v = some y) : off + v.size <= x.size /\ y.size = x.size /\
    ∀ j, y.cells[j]? = if off <= j /\ j < off + v.size then v.cells[j - off]? else x.cells[j]? := by
 unfold zaX at h
 split at h
 · rename_i h1; cases h;refine ⟨by omega, h1.2, fun j => ?_⟩
   by_cases hj : j < v.size
   · rw [zKN ⟨by omega, by omega⟩, h1.1]; rfl
   · rw [zKM (by omega), zMh (by rw [AV.size_cells]; omega), zMh (by rw [AV.size_cells]; omega)]
 · split at h
   · rename_i h1; cases h;obtain ⟨k1, k2⟩ := zsd (zbq x.cells off v.cells);have h2 : off + v.cells.length <= x.cells.length := by rw [AV.size_cells, AV.size_cells]; exact h1
     refine ⟨h1, by rw [k2, zsP _ _ _ h2, AV.size_cells], fun j => ?_⟩;rw [k1, zsO _ _ _ _ h2, AV.size_cells]
   · cases h
theorem zcv (w : World) (b o : Nat) (vs : List Value) {c : Array Value} {T : TypeId} (hb : w.heap[b]? = some (.cells c T (0, 0))) :
    ∃ c', (w.setCells b o vs).heap[b]? = some (.cells c' T (0, 0)) /\ c'.size = c.size /\ ∀ j, c'[j]? = if o <= j /\ j < o + vs.length /\ j < c.size then vs[j - o]? else c[j]? := by
 induction vs generalizing o w c with
 | nil => exact ⟨c, hb, rfl, fun j => by rw [zKM (by simp; omega)]⟩
 | cons v vs ih =>
  simp only [World.setCells];have h1 : (w.setCell ⟨b, o, none⟩ v).heap[b]? = some (.cells (c.setIfInBounds o v) T (0, 0)) := by
   simp [World.setCell, zMS, hb]
  obtain ⟨c', h2, h3, h4⟩ := ih (w := w.setCell ⟨b, o, none⟩ v) (o := o + 1) h1;refine ⟨c', h2, by rw [h3]; simp, fun j => ?_⟩;rw [h4 j];simp only [Array.size_setIfInBounds, zK0]
  by_cases hj : j = o
  · subst hj;rw [zKM (by omega)]
    by_cases hc : j < c.size
    · rw [zKN ⟨by omega, by omega, hc⟩, zMT hc]; simp
    · rw [zKM (by omega), zMx (by simp; omega), zMx (by omega)]
  · rw [zMU (Ne.symm hj)]
    by_cases hh : o + 1 <= j /\ j < o + 1 + vs.length /\ j < c.size
    · rw [zKN hh, zKN ⟨by omega, by omega, hh.2.2⟩];have : j - o = (j - (o + 1)) + 1 := by omega
      rw [this, zMf]
    · rw [zKM hh, zKM (by omega)]
theorem zaq (w : World) (b o : Nat) (vs : List Value) {b' : Nat} (h : b' ≠ b) : (w.setCells b o vs).heap[b']? = w.heap[b']? := by
 induction vs generalizing o w with
 | nil => rfl
 | cons v vs ih => simp only [World.setCells]; rw [ih, heap_setCell_other _ _ _ _ h]
theorem zcw (w : World) (b o : Nat) (vs : List Value) : (w.setCells b o vs).os = w.os /\ (w.setCells b o vs).tape = w.tape /\ (w.setCells b o vs).output = w.output /\ (w.setCells b o vs).heap.size = w.heap.size := by
 induction vs generalizing o w with
 | nil => exact ⟨rfl, rfl, rfl, rfl⟩
 | cons v vs ih => simp only [World.setCells]; obtain ⟨h1, h2, h3, h4⟩ := ih (w := w.setCell ⟨b, o, none⟩ v) (o := o + 1); exact ⟨h1, h2, h3, by rw [h4]; simp⟩
theorem zbU {α : Type} {k : Nat} {x : α} {l : List (Nat × α)} {p : Nat × α} (h : p ∈ zj k x l) : p = (k, x) \/ (p ∈ l /\ p.1 ≠ k) := by
 cases h with
 | head => exact .inl rfl
 | tail _ h => exact .inr (zcT.1 h)
theorem Rel.storeW (h : Rel C S a w ι R) {o i off : Nat} {v e e' : AV} {es : List AV} {u : Value} (hes : look o S.heap = some (.row es)) (he : es[i]? = some e) (hov : zaX e off v = some e')
    (hv : VA w R ι (mark S.heap) v u) (hvt : zae v = false) {p : Value} (hp : VA w R ι (mark S.heap) (.ref o i off) p) :
    ∃ b s, p = .pointer (some ⟨b, i * s + off, none⟩) /\ ι o = some (b, s) /\ u.cells.size = v.size /\ (∀ j, j < u.cells.toList.length -> (w.cell? ⟨b, i * s + off + 0 + j, none⟩).isSome = true /\ w.frozen? ⟨b, i * s + off + 0 + j, none⟩ = false) /\
     (∀ q ∈ u.cells.toList, q.oneCell' = true) /\ Rel C ⟨S.env, zj o (.row (es.set i e')) S.heap⟩ a (w.setCells b (i * s + off) u.cells.toList) ι R := by
 cases hp with
 | @ref _ _ _ b s hι hmk0 =>
  have hob := h.heap _ _ (zu hes)
  cases hob with
  | @row _ b' s' c T hι' hRb hb hs hes' hc hcell =>
   rw [hι] at hι'; cases hι';obtain ⟨hu1, hu2⟩ := hv.cells hvt;obtain ⟨ho1, ho2, ho3⟩ := zsv hov;have hilt : i < es.length := (zKP.1 he).1;have hesz : e.size = s := hes' e (zKU he);have hbound : i * s + s <= c.size := by
    have : (i + 1) * s <= es.length * s := zK6 _ hilt;rw [zLp] at this; omega
   have hvl : u.cells.toList.length = v.size := by rw [Array.length_toList, hu1]
   have hthere : ∀ j, j < u.cells.toList.length -> (w.cell? ⟨b, i * s + off + 0 + j, none⟩).isSome = true /\ w.frozen? ⟨b, i * s + off + 0 + j, none⟩ = false := fun j hj => by
    refine ⟨?_, frozen_of_row w b _ c T hb⟩;rw [zK hb];simp; omega
   have hone : ∀ q ∈ u.cells.toList, q.oneCell' = true := fun q hq => by
    obtain ⟨j, hj⟩ := zLl hq;have hlt : j < v.cells.length := by rw [AV.size_cells, <- hvl]; exact (zKP.1 hj).1
    obtain ⟨k1, q', k2, k3⟩ := hu2 j _ (zKR hlt);have : q' = q := by
     rw [<- zMW, hj] at k2; cases k2; rfl
    subst this;exact zhW k3 k1
   refine ⟨b, s, rfl, hι, hu1, hthere, hone, ?_⟩
   · obtain ⟨c', hc1, hc2, hc3⟩ := zcv w b (i * s + off) u.cells.toList hb;obtain ⟨r1, r2, r3, r4⟩ := zcw w b (i * s + off) u.cells.toList;have hKR : zU R w (w.setCells b (i * s + off) u.cells.toList) := fun b' hb' => zaq _ _ _ _ (fun e => hRb (e ▸ hb'));have hmk : ∀ q, mark (zj o (Obj.row (es.set i e')) S.heap) q = mark S.heap q := fun q => by
      by_cases e : q = o
      · subst e; rw [zaN]; simp [mark, hes]
      · exact zaO e
     have hmkf : mark (zj o (Obj.row (es.set i e')) S.heap) = mark S.heap := funext hmk;have hstep : ∀ q, Step w (w.setCells b (i * s + off) u.cells.toList) ι ι (mark S.heap) (mark S.heap) q := fun q => by
      refine ⟨fun _ _ h => h, fun b1 s1 hq => ?_, fun m h => ⟨m, h, zKV _⟩, fun m h => ⟨m, h, zKV _⟩⟩
      by_cases e : b1 = b
      · subst e;have hqo : q = o := h.inj _ _ _ _ _ hq hι;subst hqo;have hm0 : mark S.heap q = none := by simp [mark, hes]
        rw [hm0];intro c1 T1 hc1';rw [hb] at hc1'; cases hc1';exact ⟨c', hc1, hc2, fun j hj => by simp at hj⟩
      · exact Blk.of_eq (zaq _ _ _ _ e)
     refine h.change r1 r2 r3 (by omega) (fun b' _ => by
         by_cases e : b' = b
         · subst e; intro c1 T1 hc1'; rw [hb] at hc1'; cases hc1'; exact ⟨c', hc1, hc2, fun j hj => by simp at hj⟩
         · exact Blk.of_eq (zaq _ _ _ _ e)) (fun b' hb' => zaq _ _ _ _ (fun e => (h.own o b s hι).1 (e ▸ hb'))) (fun _ h => h) (fun b' hb' => by rw [r4]; exact h.rlt b' hb') h.rok hKR
      (fun q b1 s1 hq => by rw [r4]; exact h.own q b1 s1 hq) h.inj (fun q _ => by rw [hmkf]; exact hstep q) ?_
     rw [hmkf];intro q ob hq
     rcases zbU hq with hq | ⟨hq, hne⟩
     · cases hq
       refine .row hι hRb hc1 hs (fun x hx => ?_) (by rw [zMX, hc2]; exact hc) ?_
       · rcases zL9 hx with hx | rfl
         · exact hes' x hx
         · rw [ho2, hesz]
       · intro i2 e2 hi2 j x hj;rw [zMQ] at hi2;have inrow : ∀ (e2 : AV), es[i2]? = some e2 -> ∀ (j : Nat) (x : AV), e2.cells[j]? = some x -> ¬ (i2 = i /\ off <= j /\ j < off + v.size) ->
             x.cell = true /\ ∃ q, c'[i2 * s + j]? = some q /\ VA (w.setCells b (i * s + off) u.cells.toList) R ι (mark S.heap) x q := by
          intro e2 hi2 j x hj hnot;obtain ⟨k1, q, k2, k3⟩ := hcell i2 e2 hi2 j x hj;refine ⟨k1, q, ?_, k3.mono (fun _ h => h) hKR fun p _ => hstep p⟩;rw [hc3, zKM, k2];rintro ⟨g1, g2, g3⟩;have hjlt : j < s := by
           have := (zKP.1 hj).1;rw [AV.size_cells, hes' e2 (zKU hi2)] at this; exact this
          rw [hvl] at g2;have : i2 = i := by
           rcases Nat.lt_trichotomy i2 i with hlt | heq | hgt
           · have : (i2 + 1) * s <= i * s := zK6 _ hlt;rw [zLp] at this; omega
           · exact heq
           · have : (i + 1) * s <= i2 * s := zK6 _ hgt;rw [zLp] at this; omega
          subst this;exact hnot ⟨rfl, by omega, by omega⟩
         by_cases hii : i = i2
         · subst hii;rw [zKN rfl, zKN hilt] at hi2
           cases hi2
           rw [ho3 j] at hj
           by_cases hin : off <= j /\ j < off + v.size
           · rw [zKN hin] at hj;obtain ⟨k1, q, k2, k3⟩ := hu2 _ _ hj;refine ⟨k1, q, ?_, k3.mono (fun _ h => h) hKR fun p _ => hstep p⟩;rw [hc3, zKN ⟨by omega, by omega, by omega⟩, zMW];rw [show i * s + j - (i * s + off) = j - off by omega]; exact k2
           · rw [zKM hin] at hj;exact inrow e he j x hj (fun hh => hin hh.2)
         · rw [zKM hii] at hi2;exact inrow e2 hi2 j x hj (fun hh => hii hh.1.symm)
     · refine (h.heap q ob hq).mono (fun _ h => h) hKR (fun b1 s1 hb1 => ⟨hb1, ?_, fun h => h⟩) (fun h => h) fun p _ => hstep p;exact zaq _ _ _ _ fun e => hne (h.inj _ _ _ _ _ (e ▸ hb1) hι)
theorem Rel.store (h : Rel C S a w ι R) {o i off n : Nat} {t : TypeId} {v e e' : AV} {es : List AV} {u : Value} (hes : look o S.heap = some (.row es)) (he : es[i]? = some e) (hov : zaX e off v = some e')
    (hv : VA w R ι (mark S.heap) v u) (hvt : zae v = false) (hvn : v.size = n) (hsz : zA P t = some n) {p : Value} (hp : VA w R ι (mark S.heap) (.ref o i off) p) :
    ∃ w', (Instr.storeAt t p u).run P w = .ok () w' /\ Rel C ⟨S.env, zj o (.row (es.set i e')) S.heap⟩ a w' ι R := by
 obtain ⟨b, s, rfl, hι, hu1, hthere, hone, hrel⟩ := h.storeW hes he hov hv hvt hp;have hst := run_storeCells_cells (P := P) b (i * s + off) u.cells.toList 0 w (fun j hj => (hthere j hj).1) (fun j hj => (hthere j hj).2) hone;refine ⟨_, ?_, hrel⟩;simp only [Instr.storeAt, Instr.sureAddr, storeVar, Sem.run_bind, Sem.run_pure, Result.andThen_ok, za1 hsz, Sem.run_ite];simp only [ne_eq, hu1, hvn, not_true_eq_false, if_false, Sem.run_pure, Result.andThen_ok];simpa using hst
theorem Rel.clear (h : Rel C S a w ι R) {o off len n : Nat} {t e ty : TypeId} {zv : Value} {es : List AV} (hes : look o S.heap = some (.row es)) (hl : off + len = es.length) (hsz : es.head?.map AV.size = some n)
    (ht : P.underlying t = some (.slice e)) (hz : ∀ w, (zeroValue e).run P w = .ok zv w) (hzc : zv.cells.size = n) (hn0 : n ≠ 0) (hz1 : ∀ q ∈ zv.cells, q.oneCell' = true) {u : Value} (hp : VA w R ι (mark S.heap) (.osl o off len) u) :
    ∃ w', (Builtin.clear_ #[t] ty #[u]).run P w = .ok (.tuple #[]) w' /\ Rel C ⟨S.env, zj o (.row (es.take off)) S.heap⟩ a w' ι R := by
 have hob := h.heap _ _ (zu hes)
 cases hob with
 | @row _ b s c T hι hRb hb hs hes' hc hcell =>
  obtain ⟨e0, he0, hse⟩ : ∃ e0, es.head? = some e0 /\ e0.size = n := zKL.1 hsz;have hsn : s = n := by rw [<- hes' e0 (List.mem_of_mem_head? he0)]; exact hse
  subst hsn;obtain ⟨zs, hzs⟩ : ∃ zs, zs = (Builtin.zeroCells zv.cells len).toList := ⟨_, rfl⟩;have hzl : zs.length = len * s := by rw [hzs]; simp [Builtin.zeroCells, hzc]
  have hbound : off * s + len * s <= c.size := by rw [<- zLm, hl]; exact hc
  have hone : ∀ v ∈ zs, v.oneCell' = true := fun v hv => by
   rw [hzs] at hv;unfold Builtin.zeroCells at hv;rw [zMn, zKX] at hv;obtain ⟨q, _, rfl⟩ := hv;have hq : q % zv.cells.size < zv.cells.size := Nat.mod_lt _ (by omega);rw [getElem!_pos zv.cells (q % zv.cells.size) hq];exact hz1 _ (Array.getElem_mem hq)
  have hst := run_storeCells_cells (P := P) b (off * s) zs 0 w (fun j hj => by rw [zK hb]; simp; omega) (fun j _ => frozen_of_row w b _ c T hb) hone;have hrun : (Builtin.clear_ #[t] ty #[u]).run P w = .ok (.tuple #[]) (w.setCells b (off * s) zs) := by
   have h0 : len = 0 -> zs = [] := fun h0 => zLh.1 (by rw [hzl, h0, zMm])
   cases hp with
   | @osl0 _ _ ao =>
    rw [h0 rfl]
    cases ao <;> simp [Builtin.clear_, run_underlying ht, World.setCells]
   | osl hι' hmk hb' hlc hc' hL =>
    rw [hι] at hι'; cases hι'
    cases len with
    | zero => rw [h0 rfl]; simp [Builtin.clear_, run_underlying ht, World.setCells]
    | succ m =>
     simp only [zLL] at hst;simp [Builtin.clear_, run_underlying ht, hz, <- hzs, hst]
  refine ⟨_, hrun, ?_⟩;obtain ⟨c', hc1, hc2, hc3⟩ := zcv w b (off * s) zs hb;obtain ⟨r1, r2, r3, r4⟩ := zcw w b (off * s) zs;have hKR : zU R w (w.setCells b (off * s) zs) := fun b' hb' => zaq _ _ _ _ (fun e => hRb (e ▸ hb'));have hmkf : mark (zj o (Obj.row (es.take off)) S.heap) = mark S.heap := funext fun q => by
   by_cases e : q = o
   · subst e; rw [zaN]; simp [mark, hes]
   · exact zaO e
  have hstep : ∀ q, Step w (w.setCells b (off * s) zs) ι ι (mark S.heap) (mark S.heap) q := fun q => by
   refine ⟨fun _ _ h => h, fun b1 s1 hq => ?_, fun m h => ⟨m, h, zKV _⟩, fun m h => ⟨m, h, zKV _⟩⟩
   by_cases e : b1 = b
   · subst e;have hqo : q = o := h.inj _ _ _ _ _ hq hι;subst hqo;have hm0 : mark S.heap q = none := by simp [mark, hes]
     rw [hm0];intro c1 T1 hc1';rw [hb] at hc1'; cases hc1';exact ⟨c', hc1, hc2, fun j hj => by simp at hj⟩
   · exact Blk.of_eq (zaq _ _ _ _ e)
  refine h.change r1 r2 r3 (by omega) (fun b' _ => by
      by_cases e : b' = b
      · subst e; intro c1 T1 hc1'; rw [hb] at hc1'; cases hc1'; exact ⟨c', hc1, hc2, fun j hj => by simp at hj⟩
      · exact Blk.of_eq (zaq _ _ _ _ e)) (fun b' hb' => zaq _ _ _ _ (fun e => (h.own o b s hι).1 (e ▸ hb'))) (fun _ h => h) (fun b' hb' => by rw [r4]; exact h.rlt b' hb') h.rok hKR
   (fun q b1 s1 hq => by rw [r4]; exact h.own q b1 s1 hq) h.inj (fun q _ => by rw [hmkf]; exact hstep q) ?_
  rw [hmkf];intro q ob hq
  rcases zbU hq with hq | ⟨hq, hne⟩
  · cases hq
    refine .row hι hRb hc1 hs (fun x hx => hes' x (zLw hx)) ?_ fun i2 e2 hi2 j x hj => ?_
    · rw [hc2, zLc, zMC (by omega)];exact zL1 (zK6 _ (by omega)) hc
    · rw [zLR] at hi2
      split at hi2
      · rename_i hlt;obtain ⟨k1, qv, k2, k3⟩ := hcell i2 e2 hi2 j x hj;refine ⟨k1, qv, ?_, k3.mono (fun _ h => h) hKR fun p _ => hstep p⟩;rw [hc3, zKM, k2];rintro ⟨g1, _, _⟩;have hjlt : j < s := by
         have := (zKP.1 hj).1;rw [AV.size_cells, hes' e2 (zKU hi2)] at this; exact this
        have : (i2 + 1) * s <= off * s := zK6 _ hlt;rw [zLp] at this; omega
      · cases hi2
  · refine (h.heap q ob hq).mono (fun _ h => h) hKR (fun b1 s1 hb1 => ⟨hb1, ?_, fun h => h⟩) (fun h => h) fun p _ => hstep p;exact zaq _ _ _ _ fun e => hne (h.inj _ _ _ _ _ (e ▸ hb1) hι)
end Go.Sim

namespace Go.Sim
open Go (World Value Addr TypeId Act)
variable {P : Program} {C : Ctx} {S : St} {a : Act} {w : World} {ι : Inj} {R : Nat -> Prop}
theorem Rel.newRow (h : Rel C S a w ι R) {o s : Nat} {es : List AV} {c : Array Value} (T : TypeId) (hu : zb6 o S) (hs : 0 < s) (hsz : ∀ e ∈ es, e.size = s) (hc : es.length * s <= c.size)
    (hr : ∀ e ∈ es, e.refs o = false)
    (hcell : ∀ (i : Nat) (e : AV), es[i]? = some e -> ∀ (j : Nat) (x : AV), e.cells[j]? = some x -> x.cell = true /\ ∃ q, c[i * s + j]? = some q /\ VA w R ι (mark S.heap) x q) :
    Rel C ⟨S.env, zj o (.row es) S.heap⟩ a (w.alloc (.cells c T)) (upd ι o (w.heap.size, s)) R := by
 refine h.new c T hu (.row zav (fun hR => ?_) (heap_alloc_new w _) hs hsz hc fun i e hi j x hj => ?_)
 · have := h.rlt _ hR; omega
 · obtain ⟨k1, q, k2, k3⟩ := hcell i e hi j x hj;refine ⟨k1, q, k2, k3.mono (fun _ h => h) (zU.alloc h _) fun p hp => ?_⟩;have hpo : p ≠ o := fun e' => by
    subst e';have h1 := AV.cells_refs hj hp;rw [hr e (zKU hi)] at h1; cases h1
   exact Step.other (zQ hpo) (zaO hpo) fun b s hb => zay (h.own p b s hb).2
theorem Rel.newVar (h : Rel C S a w ι R) {o : Nat} {x : AV} {u : Value} (T : TypeId) (hu : zb6 o S) (hv : VA w R ι (mark S.heap) x u) (hx : zae x = false) (h0 : x.size ≠ 0) (hr : x.refs o = false) :
    Rel C ⟨S.env, zj o (.row [x]) S.heap⟩ a (w.alloc (.cells u.cells T)) (upd ι o (w.heap.size, x.size)) R /\
    VA (w.alloc (.cells u.cells T)) R (upd ι o (w.heap.size, x.size)) (mark (zj o (.row [x]) S.heap)) (.ref o 0 0) (.pointer (some ⟨w.heap.size, 0, none⟩)) := by
 obtain ⟨k1, k2⟩ := hv.cells hx;refine ⟨h.newRow T hu (by omega) (by simp) (by simp [k1]) (by simpa using hr) ?_, ?_⟩
 · intro i e hi j y hj
   match i, hi with
   | 0, hi =>
    simp at hi; subst hi;obtain ⟨k3, q, k4, k5⟩ := k2 j y hj;exact ⟨k3, q, by simpa using k4, k5⟩
   | n + 1, hi => simp at hi
 · have := VA.ref (w := w.alloc (.cells u.cells T)) (R := R) (ι := upd ι o (w.heap.size, x.size)) (mk := mark (zj o (.row [x]) S.heap)) (o := o) (i := 0) (off := 0) (b := w.heap.size) (s := x.size) zav (by rw [zaN]);simpa using this
def clr (ι : Inj) (o : Nat) : Inj := fun q => if q = o then none else ι q
theorem zfk {o : Nat} : clr ι o o = none := by simp [clr]
theorem zde {o q : Nat} (h : q ≠ o) : clr ι o q = ι q := by simp [clr, h]
theorem Rel.newNone (h : Rel C S a w ι R) {o n : Nat} (hu : zb6 o S) : Rel C ⟨S.env, zj o (.acc n) S.heap⟩ a w (clr ι o) R := by
 have hst : ∀ p, p ≠ o -> Step w w ι (clr ι o) (mark S.heap) (mark (zj o (.acc n) S.heap)) p := fun p hp => Step.other (zde hp) (zaO hp) fun _ _ _ => rfl;refine h.change rfl rfl rfl (zKV _) (fun _ _ => Blk.of_eq rfl) (fun _ _ => rfl) (fun _ h => h) h.rlt h.rok (fun _ _ => rfl) ?_ ?_ ?_ ?_
 · intro q b s hq
   by_cases e : q = o
   · subst e; rw [zfk] at hq; cases hq
   · rw [zde e] at hq; exact h.own q b s hq
 · intro q q' b s s' h1 h2
   by_cases e : q = o
   · subst e; rw [zfk] at h1; cases h1
   · by_cases e' : q' = o
     · subst e'; rw [zfk] at h2; cases h2
     · rw [zde e] at h1; rw [zde e'] at h2; exact h.inj _ _ _ _ _ h1 h2
 · intro p hp;refine hst p fun e => ?_;subst e; rw [hu.1] at hp; cases hp
 · intro q ob hq
   rcases zbU hq with hq | ⟨hq1, hne⟩
   · cases hq; exact .accN zfk
   · refine (h.heap q ob hq1).mono (fun _ h => h) (fun _ _ => rfl) (fun b s hb => ⟨by rw [zde hne, hb], rfl, fun h => h⟩) (fun h0 => by rw [zde hne, h0]) fun p hp => ?_;refine hst p fun e => ?_;subst e;have := zb4 (l := S.heap) hq1 hu.2;rw [hp] at this; cases this
theorem zen {mk : Nat -> Option Nat} {x : AV} {k : Int} {u : Value} (h : VA w R ι mk x u) (hx : z6 x = some k) : ∃ kd, u = .int kd k := by
 cases x with
 | d y => cases y with
  | int kd n => simp only [z6, Option.some.injEq] at hx; subst hx; exact ⟨kd, h.int_inv.1⟩
  | _ => simp [z6] at hx
 | _ => simp [z6] at hx
theorem zh8 {mk : Nat -> Option Nat} {x : AV} {k : Int} {u : Value} {y : Nat} {code : BoundsCode} (h : VA w R ι mk x u) (hx : z6 x = some k) (h0 : 0 <= k) (hy : k <= y) (w' : World) :
    (Instr.sliceBound u y code).run P w' = .ok k.toNat w' := by
 obtain ⟨kd, rfl⟩ := zen h hx;simp [Instr.sliceBound, asIntOf, h0, hy]
def VAo (w : World) (R : Nat -> Prop) (ι : Inj) (mk : Nat -> Option Nat) : Option AV -> Option Value -> Prop
 | none, none => True
 | some x, some u => VA w R ι mk x u
 | _, _ => False
theorem zcE {x : Option AV} {d y k : Nat} (h : zam x d y = some k) : (x = none /\ k = d) \/ ∃ v i, x = some v /\ z6 v = some i /\ 0 <= i /\ i <= y /\ k = i.toNat := by
 cases x with
 | none => simp only [zam, Option.some.injEq] at h; exact .inl ⟨rfl, h.symm⟩
 | some v =>
  simp only [zam] at h;obtain ⟨i, h1, h2⟩ := zKK.1 h
  split at h2
  · rename_i h3; cases h2; exact .inr ⟨v, i, rfl, h1, h3.1, h3.2, rfl⟩
  · cases h2
theorem zgd {mk : Nat -> Option Nat} {lo hi mx : Option AV} {ulo uhi umx : Option Value} {len cap l h : Nat} (hlo : VAo w R ι mk lo ulo) (hhi : VAo w R ι mk hi uhi) (hmx : VAo w R ι mk mx umx)
    (hb1 : zam hi len len = some h) (hb2 : zam lo 0 h = some l) (hlc : len <= cap) (hm : ∀ m, mx = some m -> z6 m = some (h : Int) /\ hi ≠ none) (isSlice : Bool) (w' : World) :
    h <= len /\ l <= h /\ (Instr.sliceBounds isSlice len cap ulo uhi umx).run P w' = .ok (l, h, if mx = none then cap else h) w' := by
 have e1 : h <= len := by
  rcases zcE hb1 with ⟨_, rfl⟩ | ⟨v, i, _, _, h1, h2, rfl⟩ <;> omega
 have e2 : l <= h := by
  rcases zcE hb2 with ⟨_, rfl⟩ | ⟨v, i, _, _, h1, h2, rfl⟩ <;> omega
 refine ⟨e1, e2, ?_⟩;have fM : ∀ m u, mx = some m -> umx = some u -> ∀ code, (Instr.sliceBound u cap code).run P w' = .ok h w' := fun m u h1 h2 code => by
  subst h1 h2;have := hm m rfl;have := zh8 (P := P) (code := code) (y := cap) hmx this.1 (by omega) (by omega) w';simpa using this
 have fH : ∀ v u (y : Nat), hi = some v -> uhi = some u -> h <= y -> ∀ code, (Instr.sliceBound u y code).run P w' = .ok h w' := fun v u y h1 h2 h3 code => by
  subst h1 h2
  rcases zcE hb1 with ⟨h4, _⟩ | ⟨v', i, h4, h5, h6, h7, rfl⟩
  · cases h4
  · cases h4
    exact zh8 (P := P) (code := code) (y := y) hhi h5 h6 (by omega) w'
 have fL : ∀ v u, lo = some v -> ulo = some u -> ∀ code, (Instr.sliceBound u h code).run P w' = .ok l w' := fun v u h1 h2 code => by
  subst h1 h2
  rcases zcE hb2 with ⟨h4, _⟩ | ⟨v', i, h4, h5, h6, h7, rfl⟩
  · cases h4
  · cases h4
    exact zh8 (P := P) (code := code) (y := h) hlo h5 h6 (by omega) w'
 have zH : hi = none -> h = len := fun e => by rcases zcE hb1 with ⟨_, h⟩ | ⟨v, _, h, _⟩; exact h; rw [e] at h; cases h
 have zL : lo = none -> l = 0 := fun e => by rcases zcE hb2 with ⟨_, h⟩ | ⟨v, _, h, _⟩; exact h; rw [e] at h; cases h
 cases mx with
 | none =>
  cases umx with
  | some _ => exact hmx.elim
  | none =>
   cases hi with
   | none =>
    cases uhi with
    | some _ => exact hhi.elim
    | none =>
     have := zH rfl; subst this
     cases lo with
     | none => cases ulo with
      | some _ => exact hlo.elim
      | none => have := zL rfl; subst this; simp [Instr.sliceBounds]
     | some v => cases ulo with
      | none => exact hlo.elim
      | some u => simp [Instr.sliceBounds, fL v u rfl rfl]
   | some v1 =>
    cases uhi with
    | none => exact hhi.elim
    | some u1 =>
     have f1 := fH v1 u1 cap rfl rfl (by omega)
     cases lo with
     | none => cases ulo with
      | some _ => exact hlo.elim
      | none => have := zL rfl; subst this; simp [Instr.sliceBounds, f1]
     | some v => cases ulo with
      | none => exact hlo.elim
      | some u => simp [Instr.sliceBounds, f1, fL v u rfl rfl]
 | some m =>
  cases umx with
  | none => exact hmx.elim
  | some um =>
   have f0 := fM m um rfl rfl
   cases hi with
   | none => exact absurd rfl (hm m rfl).2
   | some v1 =>
    cases uhi with
    | none => exact hhi.elim
    | some u1 =>
     have f1 := fH v1 u1 h rfl rfl (zKV _)
     cases lo with
     | none => cases ulo with
      | some _ => exact hlo.elim
      | none => have := zL rfl; subst this; simp [Instr.sliceBounds, f0, f1]
     | some v => cases ulo with
      | none => exact hlo.elim
      | some u => simp [Instr.sliceBounds, f0, f1, fL v u rfl rfl]
end Go.Sim

namespace Go.Sim
open Go (World Value Addr TypeId Act)
variable {P : Program} {C : Ctx} {S : St} {a : Act} {w : World} {ι : Inj} {R : Nat -> Prop}
theorem zc9 {n : Nat} {es : List D} (h : zab n es = true) : ∀ e ∈ es, e.size = n := by
 intro e he;have := zK4.1 h e he;simpa using this
theorem zx2 {es : List D} {l h i : Nat} {e : D} (hi : ((es.take h).drop l)[i]? = some e) : es[l + i]? = some e /\ l + i < h := by
 rw [zLv] at hi;have hlt : l + i < h := by have := (zKP.1 hi).1; simp at this; omega
 rw [zL0 hlt] at hi;exact ⟨hi, hlt⟩
theorem zdf {es : List D} {l h : Nat} {e : D} (he : e ∈ (es.take h).drop l) : e ∈ es := zLw (zLJ he)
theorem zx3 {es : List D} {l h : Nat} (hh : h <= es.length) : ((es.take h).drop l).length = h - l := by simp; omega
theorem Rd.cut {es : List D} {ao : Option Addr} {cap n l h m : Nat} (hr : Rd w R (.v (.sl es) (.slice ao es.length cap))) (hz : ∀ e ∈ es, e.size = n) (hh : h <= es.length) (hlh : l <= h) (hm : h <= m) :
    Rd w R (.v (.sl ((es.take h).drop l)) (.slice (if m = l then ao else ao.map (·.add (l * n))) (h - l) (m - l))) := by
 by_cases h0 : h = l
 · subst h0;have : (es.take h).drop h = [] := by simp
   rw [this, zLM]; exact .sl0
 · have hne : es ≠ [] := by rintro rfl; simp at hh; omega
   obtain ⟨b, off, s, cap', he, hR, hs, hl, hc, hsz, hel⟩ := hr.sl_inv hne
   cases he
   obtain ⟨e0, he0⟩ : ∃ e, e ∈ es := zL2 _ hne;have hns : s = n := by rw [<- hsz e0 he0]; exact hz e0 he0
   subst hns;rw [zKM (by omega)];have hlen := zx3 (es := es) (l := l) hh;have key := Rd.sl (w := w) (R := R) (es := (es.take h).drop l) (b := b) (off := off + l * s) (s := s) (cap := m - l) hR (by intro e; rw [e] at hlen; simp at hlen; omega) hs (by omega) (by omega)
    (fun e he => hsz e (zdf he)) (fun i e hi => by
     obtain ⟨h1, _⟩ := zx2 hi;have := hel _ _ h1
     rwa [show off + l * s + i * s = off + (l + i) * s by rw [zLm]; omega])
   rw [hlen] at key;simpa [Addr.add_mid] using key
theorem zh9 {t e : TypeId} {n : Nat} {ao : Option Addr} {len cap l h m : Nat} {ulo uhi umx : Option Value} (hu : P.underlying t = some (.slice e)) (hn : zA P e = some n)
    (hb : (Instr.sliceBounds true len cap ulo uhi umx).run P w = .ok (l, h, m) w) :
    (Instr.sliceAt t (.slice ao len cap) ulo uhi umx).run P w = .ok (.slice (if m = l then ao else ao.map (·.add (l * n))) (h - l) (m - l)) w := by
 simp only [Instr.sliceAt, Sem.run_bind, run_underlying hu, Result.andThen_ok, Instr.slice, hb, za1 hn, Sem.run_pure]
theorem zI9 {mk : Nat -> Option Nat} {t e : TypeId} {n : Nat} {x v : AV} {u : Value} {lo hi mx : Option AV} {ulo uhi umx : Option Value} (hr : Rel C S a w ι R) (hmk : mk = mark S.heap) (h : VA w R ι mk x u)
    (hlo : VAo w R ι mk lo ulo) (hhi : VAo w R ι mk hi uhi) (hmx : VAo w R ι mk mx umx) (hp : zak S.heap n lo hi mx x = some v) (hu : P.underlying t = some (.slice e)) (hn : zA P e = some n) :
    ∃ u', (Instr.sliceAt t u ulo uhi umx).run P w = .ok u' w /\ VA w R ι mk v u' := by
 have hsl : ∀ (es : List D) (h l : Nat), zam hi es.length es.length = some h -> zam lo 0 h = some l -> ∀ cap, es.length <= cap -> (∀ m, mx = some m -> z6 m = some (h : Int) /\ hi ≠ none) ->
     h <= es.length /\ l <= h /\ ∀ ao, (Instr.sliceAt t (.slice ao es.length cap) ulo uhi umx).run P w = .ok (.slice (if (if mx = none then cap else h) = l then ao else ao.map (·.add (l * n))) (h - l) ((if mx = none then cap else h) - l)) w := by
  intro es h l h1 h2 cap hc hm;obtain ⟨k1, k2, k3⟩ := zgd (P := P) hlo hhi hmx h1 h2 hc hm true w;exact ⟨k1, k2, fun ao => zh9 hu hn k3⟩
 cases x with
 | d y =>
  cases y with
  | sl es =>
   simp only [zak] at hp
   split at hp
   · rename_i hz;obtain ⟨hh, h1, hp⟩ := zKK.1 hp;obtain ⟨l, h2, hp⟩ := zKK.1 hp;obtain ⟨ao, cap, rfl, hc, hL⟩ := h.of_d.sl_len;have hz := zc9 hz
     split at hp
     · cases hp
       obtain ⟨k1, k2, k3⟩ := hsl es hh l h1 h2 cap hc (fun m hm => by cases hm);exact ⟨_, k3 ao, .d (h.of_d.cut hz k1 k2 (by simp; omega))⟩
     · rename_i m
       split at hp
       · rename_i hm; cases hp;obtain ⟨k1, k2, k3⟩ := hsl es hh l h1 h2 cap hc (fun m' hm' => by cases hm'; exact ⟨hm.1, by intro e; simp [e] at hm⟩);refine ⟨_, k3 ao, ?_⟩;simp only [reduceCtorEq, if_false];exact .xsl (h.of_d.cut hz k1 k2 (zKV _))
       · cases hp
   · cases hp
  | _ => simp [zak] at hp
 | xsl es =>
  simp only [zak] at hp
  split at hp
  · rename_i hz;obtain ⟨hh, h1, hp⟩ := zKK.1 hp;obtain ⟨l, h2, hp⟩ := zKK.1 hp
    cases h with
    | @xsl _ ao k h =>
     obtain ⟨ao', cap, he, hc, hL⟩ := h.sl_len
     cases he
     have hz := zc9 hz
     split at hp
     · cases hp
       obtain ⟨k1, k2, k3⟩ := hsl es hh l h1 h2 es.length hc (fun m hm => by cases hm);refine ⟨_, k3 ao, ?_⟩;have := h.cut hz k1 k2 k1;simp only [if_true]
       split
       · rename_i e; subst e; exact .xsl this
       · exact .d this
     · rename_i m
       split at hp
       · rename_i hm; cases hp;obtain ⟨k1, k2, k3⟩ := hsl es hh l h1 h2 es.length hc (fun m' hm' => by cases hm'; exact ⟨hm.1, by intro e; simp [e] at hm⟩);refine ⟨_, k3 ao, ?_⟩;simp only [reduceCtorEq, if_false];exact .xsl (h.cut hz k1 k2 (zKV _))
       · cases hp
  · cases hp
 | acc o es =>
  simp only [zak] at hp
  split at hp
  · rename_i hz;obtain ⟨hh, h1, hp⟩ := zKK.1 hp;obtain ⟨l, h2, hp⟩ := zKK.1 hp
    split at hp
    · rename_i hl0; subst hl0;have hv : v = .acc o (es.take hh) /\ ∀ m, mx = some m -> z6 m = some (hh : Int) /\ hi ≠ none := by
       split at hp
       · cases hp; exact ⟨rfl, fun m hm => by cases hm⟩
       · split at hp
         · rename_i hm; cases hp; exact ⟨rfl, fun m' hm' => by cases hm'; exact ⟨hm.1, by intro e; simp [e] at hm⟩⟩
         · cases hp
      obtain ⟨rfl, hm⟩ := hv;have tk : ∀ {i : Nat} {e : D}, (es.take hh)[i]? = some e -> es[i]? = some e := fun {i e} hi => by
       have hlt : i < hh := by have := (zKP.1 hi).1; simp at this; omega
       rwa [zL0 hlt] at hi
      have fin : ∀ (b off cap : Nat), es.length <= cap -> (∀ cap', hh <= cap' -> cap' <= cap -> (mx = none -> cap' = cap) -> (mx ≠ none -> cap' = hh) -> VA w R ι mk (.acc o (es.take hh)) (.slice (some ⟨b, off, none⟩) hh cap')) ->
          ∃ u', (Instr.sliceAt t (.slice (some ⟨b, off, none⟩) es.length cap) ulo uhi umx).run P w = .ok u' w /\ VA w R ι mk (.acc o (es.take hh)) u' := by
       intro b off cap hc hk;obtain ⟨k1, k2, k3⟩ := hsl es hh 0 h1 h2 cap hc hm;refine ⟨_, k3 _, ?_⟩;have e1 : (if (if mx = none then cap else hh) = 0 then (some ⟨b, off, none⟩ : Option Addr) else (some ⟨b, off, none⟩ : Option Addr).map (·.add (0 * n))) = some ⟨b, off, none⟩ := by
        split <;> simp [Addr.add]
       rw [e1, zL6, zL6];refine hk _ ?_ ?_ ?_ ?_
       · split <;> omega
       · split <;> omega
       · intro e; rw [zKN e]
       · intro e; rw [zKM e]
      have hlen : hh <= es.length := by rcases zcE h1 with ⟨_, rfl⟩ | ⟨v, i, _, _, _, h2, rfl⟩ <;> omega
      have htl : (es.take hh).length = hh := by simp; omega
      cases h with
      | accR hR hs hL hl hsz hh' hm' =>
       refine fin _ _ _ hl fun cap' c1 c2 c3 c4 => ?_;have := VA.accR (w := w) (R := R) (ι := ι) (mk := mk) (o := o) (es := es.take hh) (cap := cap') hR hs (by omega) (by omega) (fun e he => hsz e (zLw he)) (fun i e hi => hh' i e (tk hi)) (fun m hmm => by have := hm' m hmm; omega)
       rwa [htl] at this
      | @accC _ b s m cap _ c T hι hmk' hm' hL hl hsz hb hc hh' =>
       refine fin _ _ _ hl fun cap' c1 c2 c3 c4 => ?_;have := VA.accC (w := w) (R := R) (ι := ι) (mk := mk) (o := o) (es := es.take hh) (cap := cap') hι hmk' (by omega) (by omega) (by omega) (fun e he => hsz e (zLw he)) hb
        (zL1 (zK6 _ c2) hc) (fun i e hi => hh' i e (tk hi))
       rwa [htl] at this
      | acc0 =>
       obtain ⟨k1, k2, k3⟩ := hsl [] hh 0 h1 h2 0 (by simp) hm;have h0 : hh = 0 := by simp at hlen; exact hlen
       subst h0;refine ⟨_, k3 _, ?_⟩;have : (if mx = none then 0 else 0) = 0 := by split <;> rfl
       rw [this]; simp only [if_true, zL6, zMH];exact .acc0
    · cases hp
  · cases hp
 | osl o off len =>
  simp only [zak] at hp
  split at hp
  · obtain ⟨hh, h1, hp⟩ := zKK.1 hp;obtain ⟨l, h2, hp⟩ := zKK.1 hp
    split at hp
    · rename_i es hes
      split at hp
      · rename_i hl; cases hp
        cases h with
        | osl0 =>
         obtain ⟨k1, k2, k3⟩ := zgd (P := P) (cap := 0) hlo hhi hmx h1 h2 (zKV _) (fun m hm => by cases hm) true w;refine ⟨_, zh9 hu hn k3, ?_⟩;have e1 : hh = 0 := by omega
         have e2 : l = 0 := by omega
         subst e1 e2;simp only [if_true, zL6, zLM];exact .osl0
        | @osl _ _ _ cap b s c T hι hmk0 hb hlc hc hL =>
         obtain ⟨k1, k2, k3⟩ := zgd (P := P) (cap := cap) hlo hhi hmx h1 h2 hlc (fun m hm => by cases hm) true w;refine ⟨_, zh9 hu hn k3, ?_⟩;simp only [if_true]
         by_cases hcl : cap = l
         · rw [zKN hcl];have e1 : hh - l = 0 := by omega
           have e2 : cap - l = 0 := by omega
           rw [e1, e2]; exact .osl0
         · rw [zKM hcl];have hns : l * n = l * s := by
            rcases hl with rfl | hl
            · simp
            · cases es with
              | nil => simp at hl
              | cons e0 es' =>
               simp only [List.head?_cons, zLn, Option.some.injEq] at hl;have hob := hr.heap _ _ (zu hes)
               cases hob with
               | row hι' _ _ _ hsz _ _ =>
                rw [hι] at hι'; cases hι';rw [<- hl, hsz e0 (.head _)]
           simp only [zLn, Addr.add_mid];rw [hns, show off * s + l * s = (off + l) * s by rw [zLm]];refine .osl hι hmk0 hb (by omega) ?_ (by omega)
           rwa [show off + l + (cap - l) = off + cap by omega]
      · cases hp
    · cases hp
  · cases hp
 | _ => simp [zak] at hp
def zE (w : World) (R : Nat -> Prop) (n : Nat) (ys : List D) (news : List Value) : Prop :=
 news.length = ys.length * n /\ ∀ (i : Nat) (e : D), ys[i]? = some e -> ∀ (j : Nat) (c : D), e.cells[j]? = some c -> c.cell = true /\ ∃ q, news[i * n + j]? = some q /\ Rd w R (.v c q)
theorem zeh {n b off : Nat} {ys : List D} (hn : 0 < n) (hz : ∀ e ∈ ys, e.size = n) (h : ∀ (i : Nat) (e : D), ys[i]? = some e -> Rd w R (.el e b (off + i * n))) :
    ∃ news, zE w R n ys news /\ w.rangeAt b off news := by
 obtain ⟨qs, hl, hr, hq⟩ := zgZ (w := w) (b := b) (off := off) (n := ys.length * n) (Q := fun j q => ∀ e c, ys[j / n]? = some e -> e.cells[j % n]? = some c -> c.cell = true /\ Rd w R (.v c q)) fun j hj => by
  have h1 : j / n < ys.length := by rw [Nat.div_lt_iff_lt_mul hn]; exact hj
  have he : ys[j / n]? = some ys[j / n] := zKR h1;have h2 : j % n < (ys[j / n]).cells.length := by
   have := hz _ (zLq h1); unfold D.size at this; rw [this]; exact Nat.mod_lt _ hn
  have hc : (ys[j / n]).cells[j % n]? = some (ys[j / n]).cells[j % n] := zKR h2;obtain ⟨k1, q, k2, k3⟩ := (h _ _ he).v_of_cells _ _ hc;refine ⟨q, ?_, fun e c h3 h4 => by rw [he] at h3; cases h3; rw [hc] at h4; cases h4; exact ⟨k1, k3⟩⟩;rw [<- k2]; congr 2;have := Nat.div_add_mod j n;rw [zL4] at this; omega
 refine ⟨qs, ⟨hl, fun i e hi j c hc => ?_⟩, hr⟩;have hi' : i < ys.length := (zKP.1 hi).1;have hj' : j < n := by have := (zKP.1 hc).1; have h2 := hz e (zKU hi); unfold D.size at h2; omega
 have hlt : i * n + j < qs.length := by
  rw [hl];have : (i + 1) * n <= ys.length * n := zK6 _ hi';rw [zLp] at this; omega
 have hd : (i * n + j) / n = i := by rw [zL4, Nat.mul_add_div hn, Nat.div_eq_of_lt hj']; rfl
 have hm : (i * n + j) % n = j := by rw [zL4, Nat.mul_add_mod, Nat.mod_eq_of_lt hj']
 have hx := zKR hlt;obtain ⟨k1, k2⟩ := hq _ _ hx e c (by rw [hd]; exact hi) (by rw [hm]; exact hc);exact ⟨k1, _, hx, k2⟩
theorem zE.one {n : Nat} {ys : List D} {news : List Value} (h : zE w R n ys news) (hn : 0 < n) (hz : ∀ e ∈ ys, e.size = n) : ∀ u ∈ news, u.oneCell' = true := by
 intro u hu;obtain ⟨j, hj⟩ := zLl hu;have hlt := (zKP.1 hj).1;rw [h.1] at hlt;have h1 : j / n < ys.length := by rw [Nat.div_lt_iff_lt_mul hn]; exact hlt
 have he : ys[j / n]? = some ys[j / n] := zKR h1;have h2 : j % n < (ys[j / n]).cells.length := by
  have := hz _ (zLq h1); unfold D.size at this; rw [this]; exact Nat.mod_lt _ hn
 obtain ⟨k1, q, k2, k3⟩ := h.2 _ _ he _ _ (zKR h2);have hjj : j / n * n + j % n = j := by rw [zL4]; exact Nat.div_add_mod j n
 rw [hjj, hj] at k2
 cases k2
 exact zhW (mk := fun _ => none) (ι := fun _ => none) (.d k3) k1
theorem zmu {xs : List AV} {ds : List D} (h : zO xs = some ds) {i : Nat} {d : D} (hi : ds[i]? = some d) : xs[i]? = some (.d d) := by
 rw [zbX h, zKQ, hi]; rfl
theorem zJf {n : Nat} {tx e' : TypeId} {y : AV} {u : Value} {ys : List D} (hr : Rel C S a w ι R) (h : VA w R ι (mark S.heap) y u) (hs : zaC S.heap y = some ys) (hn : 0 < n) (hz : ∀ e ∈ ys, e.size = n)
    (hk : P.underlying tx = some (.slice e')) : ∃ news, Src P n tx u ys.length news w /\ zE w R n ys news := by
 have slice : ∀ (es : List D) (b off cap : Nat), u = .slice (some ⟨b, off, none⟩) es.length cap -> (∀ e ∈ es, e.size = n) -> (∀ (i : Nat) (e : D), es[i]? = some e -> Rd w R (.el e b (off + i * n))) ->
     ∃ news, Src P n tx u es.length news w /\ zE w R n es news := by
  rintro es b off cap rfl hz hh;obtain ⟨news, h1, h2⟩ := zeh hn hz hh;exact ⟨news, Src.ofSlice w hk _ _ _ _ h1.1 (fun j u hj => by rw [Addr.add_mid]; exact h2 j u hj) (h1.one hn hz), h1⟩
 have nothing : ∀ (ao : Option Addr) (cap : Nat), u = .slice ao 0 cap -> ∃ news, Src P n tx u ([] : List D).length news w /\ zE w R n [] news := by
  rintro ao cap rfl;have h0 : zE w R n [] [] := ⟨by simp, fun i e hi => by simp at hi⟩
  cases ao with
  | none => exact ⟨[], Src.ofNil w hk cap, h0⟩
  | some b => exact ⟨[], Src.ofSlice w hk b 0 cap [] (by simp) (by simp) (by simp), h0⟩
 have data : ∀ (es : List D), Rd w R (.v (.sl es) u) -> (∀ e ∈ es, e.size = n) -> ∃ news, Src P n tx u es.length news w /\ zE w R n es news := by
  intro es hrd hz
  by_cases h0 : es = []
  · subst h0;obtain ⟨ao, cap, rfl, _, _⟩ := hrd.sl_len;exact nothing ao cap rfl
  · obtain ⟨b, off, s, cap, hu, hR, hs', hl, hc, hsz, hel⟩ := hrd.sl_inv h0;obtain ⟨e0, he0⟩ : ∃ e, e ∈ es := zL2 _ h0;have hns : s = n := by rw [<- hsz e0 he0]; exact hz e0 he0
    subst hns;exact slice es b off cap hu hz hel
 cases y with
 | d x =>
  cases x with
  | sl es => simp only [zaC, slD, Option.some.injEq] at hs; subst hs; exact data es h.of_d hz
  | _ => simp [zaC, slD] at hs
 | nl b =>
  simp only [zaC, Option.some.injEq] at hs; subst hs
  cases h with
  | nl1 => exact nothing _ _ rfl
  | nl2 => exact nothing _ _ rfl
 | xsl es =>
  simp only [zaC, slD, Option.some.injEq] at hs; subst hs
  cases h with
  | xsl h => exact data es h hz
 | acc o es =>
  simp only [zaC, slD, Option.some.injEq] at hs; subst hs;have go : ∀ (b off s cap : Nat), u = .slice (some ⟨b, off, none⟩) es.length cap -> (∀ e ∈ es, e.size = s) -> (∀ (i : Nat) (e : D), es[i]? = some e -> Rd w R (.el e b (off + i * s))) -> ∃ news, Src P n tx u es.length news w /\ zE w R n es news := by
   intro b off s cap hu hsz hh
   by_cases h0 : es = []
   · subst h0; exact nothing _ cap hu
   · obtain ⟨e0, he0⟩ : ∃ e, e ∈ es := zL2 _ h0;have hns : s = n := by rw [<- hsz e0 he0]; exact hz e0 he0
     subst hns;exact slice es b off cap hu hz hh
  cases h with
  | accR hR hs hL hl hsz hh hm => exact go _ _ _ _ rfl hsz hh
  | accC hι hmk hm hL hl hsz hb hc hh => exact go _ 0 _ _ rfl hsz fun i e hi => by rw [zKT]; exact hh i e hi
  | acc0 => exact nothing _ 0 rfl
 | osl o off len =>
  simp only [zaC] at hs
  split at hs
  · rename_i es hes;obtain ⟨ds, hd, hs⟩ := zKK.1 hs
    split at hs
    · rename_i hlen; cases hs
      cases h with
      | osl0 =>
       have : ys = [] := zLh.1 hlen;subst this;exact nothing _ 0 rfl
      | @osl _ _ _ cap b s c T hι hmk0 hb hl hc hL =>
       have hob := hr.heap _ _ (zu hes)
       cases hob with
       | row hι' hR hb' hs' hsz _ hcell =>
        rw [hι] at hι'; cases hι';rw [hb] at hb'; cases hb'
        by_cases h0 : ys = []
        · subst h0; simp at hlen; subst hlen; exact nothing _ cap rfl
        · have hget : ∀ (i : Nat) (d : D), ys[i]? = some d -> es[off + i]? = some (.d d) := fun i d hi => by
           have h1 := zmu hd hi;have hlt : i < len := by rw [<- hlen]; exact (zKP.1 hi).1
           rw [zL0 hlt, zLv] at h1; exact h1
          obtain ⟨e0, he0⟩ : ∃ e, e ∈ ys := zL2 _ h0;obtain ⟨i0, hi0⟩ := zLl he0;have hns : s = n := by
           have h1 := hsz _ (zKU (hget i0 e0 hi0));have h2 := hz e0 he0;simp only [AV.size] at h1; omega
          subst hns;refine slice ys b (off * s) cap (by rw [hlen]) hz fun i d hi => ?_;have hd' := hget i d hi;have htup : ∀ vs, d ≠ .tup vs := fun vs e => by
           subst e;have := (hcell _ _ hd' 0 (.d (.tup vs)) rfl).1;simp [AV.cell, D.cell] at this
          refine Rd.el_of_cells htup fun j c' hj => ?_;obtain ⟨k1, q, k2, k3⟩ := hcell _ _ hd' j (.d c') (by simp [AV.cells, hj]);refine ⟨k1, q, ?_, k3.of_d⟩;rw [zK hb, <- k2]
          congr 1
          rw [zLm]
    · cases hs
  · cases hs
 | _ => simp [zaC, slD] at hs
end Go.Sim
