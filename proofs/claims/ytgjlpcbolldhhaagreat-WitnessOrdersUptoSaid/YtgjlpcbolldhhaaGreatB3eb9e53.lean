/-
  Code.
-/
import Derived.Test.YtgjlpcbolldhhaaGreatBf084a07
import Derived.Deep.LoopGhost
set_option linter.unusedSimpArgs false
set_option linter.unusedVariables false
set_option maxHeartbeats 10000000
set_option maxRecDepth 100000
namespace Go.Sim
open Go (World Value Addr TypeId Act)
variable {P : Program} {C : Ctx} {F : zC}
theorem zs5 {x : zh} {S : St} (h : x.guard = none) : Gd x S = some true := by simp [Gd, h]
theorem ziy {x : zh} {S : St} {t : Nat} {b c : Bool} (h : x.guard = some (t, b)) (hl : look t S.env = some (.d (.bool c))) : Gd x S = some (c == b) := by simp [Gd, h, hl]
theorem zs6 {x : zh} {S : St} {t : Nat} {b : Bool} (h : x.guard = some (t, b)) (hl : look t S.env = some (.d (.tup []))) : Gd x S = some false := by simp [Gd, h, hl]
def zbZ (fr : List Nat) (acc : List (List Nat × List Nat)) (p : List Nat × List Nat) : Bool := fr.all fun k => match acc[k]? with | some q => zcM q p | none => false
def zgq (fr : List (List Nat)) (acc ps : List (List Nat × List Nat)) : Prop :=
 ∀ j p, ps[j]? = some p -> zbZ ((fr[j]?).getD []) (acc ++ ps.take j) p = true
def zaJ (F : zC) (x : zh) (S : St) : Option St := (step F S.env S.heap (x.dst.getD 0) x.op).map fun p => St.put ⟨S.env, p.2⟩ x.dst p.1
def zaL (F : zC) (x : zh) (fr : List (List Nat)) (acc : List (List Nat × List Nat)) (S : St) : Option St :=
 if zbZ (fr.headD []) acc (feet x S) = true then zaJ F x S else none
def zcf (x : zh) (fr : List (List Nat)) (acc : List (List Nat × List Nat)) (S : St) : Option St :=
 if zbZ (fr.headD []) acc ([], []) = true then some (S.put x.dst (.d (.tup []))) else none
def zZ (F : zC) : List zh -> List (List Nat) -> List (List Nat × List Nat) -> St -> Option St
 | [], _, _, S => some S
 | x :: l, fr, acc, S =>
  match x.guard with
  | none => (zaL F x fr acc S).bind (zZ F l fr.tail (acc ++ [feet x S]))
  | some (t, b) =>
   match look t S.env with
   | some (.d (.bool c)) => if c = b then (zaL F x fr acc S).bind (zZ F l fr.tail (acc ++ [feet x S])) else (zcf x fr acc S).bind (zZ F l fr.tail (acc ++ [([], [])]))
   | some (.d (.tup [])) => (zcf x fr acc S).bind (zZ F l fr.tail (acc ++ [([], [])]))
   | _ => none
def zej (l : List zh) (S : St) : Bool := l.all fun x => x.newNames.all fun n => !refsEnv n S.env && !refsHeap n S.heap
def zby (F : zC) (l : List zh) (fr : List (List Nat)) (S : St) : Option St :=
 if (z4 S.env && z4 S.heap && zej l S) = true then zZ F l fr [] S else none
theorem zJo (hF : FOK P F) {x : zh} {S S' : St} (hcl : x.op.cleanB = true) (h : zaJ F x S = some S') : ∃ v δ, zdR F x S v δ (feet x S).1 (feet x S).2 /\ S' = ap x S v δ := by
 obtain ⟨⟨v, H'⟩, h1, h2⟩ := zKL.1 h;obtain ⟨δ, h3, h4⟩ := zJp hF hcl h1;subst h2;subst h4;exact ⟨v, δ, h3, rfl⟩
theorem zyS (hF : FOK P F) : ∀ (l : List zh) (fr : List (List Nat)) (acc : List (List Nat × List Nat)) (S S' : St), (∀ x ∈ l, x.op.cleanB = true) -> zZ F l fr acc S = some S' -> ∃ ps, Lex F l ps S S' /\ ps.length = l.length /\ zgq fr acc ps := by
 intro l
 induction l with
 | nil => intro fr acc S S' _ h; cases h; exact ⟨[], .nil, rfl, fun j p hp => by simp at hp⟩
 | cons x l ih =>
  intro fr acc S S' hc h;have step : ∀ (p : List Nat × List Nat) (v : AV) (δ : za), Y F x S v δ p -> zbZ (fr.headD []) acc p = true -> zZ F l fr.tail (acc ++ [p]) (ap x S v δ) = some S' -> ∃ ps, Lex F (x :: l) ps S S' /\ ps.length = (x :: l).length /\ zgq fr acc ps := by
   intro p v δ hy hcl hg;obtain ⟨ps, h1, h3, h4⟩ := ih _ _ _ _ (fun y hy => hc y (.tail _ hy)) hg;refine ⟨p :: ps, .cons hy h1, by simp [h3], fun j q hq => ?_⟩
   cases j with
   | zero =>
    simp at hq; subst hq;simp only [zMJ, zLt]
    cases fr <;> simpa using hcl
   | succ j =>
    have := h4 j q (by simpa using hq);rw [zK5] at this
    cases fr with
    | nil => simpa using this
    | cons f fr => simpa using this
  have run : ((zaL F x fr acc S).bind (zZ F l fr.tail (acc ++ [feet x S]))) = some S' -> Gd x S = some true -> ∃ ps, Lex F (x :: l) ps S S' /\ ps.length = (x :: l).length /\ zgq fr acc ps := by
   intro h hgd;obtain ⟨S1, h1, h2⟩ := zKK.1 h;unfold zaL at h1
   split at h1
   · rename_i hcl;obtain ⟨v, δ, h3, rfl⟩ := zJo hF (hc x (.head _)) h1;exact step (feet x S) v δ (.inl ⟨hgd, h3⟩) hcl h2
   · cases h1
  simp only [zZ] at h
  split at h
  · rename_i hg;exact run h (zs5 hg)
  · rename_i t b hg
    split at h
    · rename_i c hl
      split at h
      · rename_i hcb;exact run h (by rw [ziy hg hl]; simpa using hcb)
      · rename_i hcb;obtain ⟨S1, h1, h2⟩ := zKK.1 h;unfold zcf at h1
        split at h1
        · rename_i hcl
          cases h1
          refine step ([], []) (.d (.tup [])) [] (.inr ⟨by rw [ziy hg hl]; simpa using hcb, rfl, rfl⟩) hcl ?_;exact h2
        · cases h1
    · rename_i hl;obtain ⟨S1, h1, h2⟩ := zKK.1 h;unfold zcf at h1
      split at h1
      · rename_i hcl
        cases h1
        refine step ([], []) (.d (.tup [])) [] (.inr ⟨zs6 hg hl, rfl, rfl⟩) hcl ?_;exact h2
      · cases h1
    · cases h
theorem zCP {α : Type} {k : Nat} {l : List (Nat × α)} (h : z4 l = true) : z4 (zaR k l) = true := by
 induction l with
 | nil => rfl
 | cons p l ih =>
  obtain ⟨j, x⟩ := p;simp only [z4, zKW, zLC] at h;simp only [zaR]
  split
  · exact ih h.2
  · simp only [z4, zKW, zLC, ih h.2, and_true];rw [zMv] at *;exact fun q hq => h.1 q (zcT.1 hq).1
theorem zsj {α : Type} {k : Nat} {x : α} {l : List (Nat × α)} (h : z4 l = true) : z4 (zj k x l) = true := by
 simp only [zj, z4, zKW, zLC, zCP h, and_true];rw [zMv];intro q hq;have := (zcT.1 hq).2;simpa using this
theorem zCO {δ H : za} (h : z4 H = true) : z4 (zo δ H) = true := by
 induction δ with
 | nil => exact h
 | cons p δ ih => exact zsj ih
theorem Lex.nodup {ps : List (List Nat × List Nat)} {S E : St} {l : List zh} (h : Lex F l ps S E) : z4 S.env = true -> z4 S.heap = true -> z4 E.env = true /\ z4 E.heap = true := by
 induction h with
 | nil => exact fun h1 h2 => ⟨h1, h2⟩
 | @cons x _ _ _ S _ v δ _ _ ih =>
  refine fun h1 h2 => ih ?_ ?_
  · unfold ap St.put
    split
    · exact h1
    · exact zsj h1
  · rw [zbk]; exact zCO h2
theorem Rel.same {S E : St} {a : Act} {w : World} {ι : Inj} {R : Nat -> Prop} (h : Rel C S a w ι R) (hs : Same S E) (h1 : z4 E.env = true) (h2 : z4 E.heap = true) : Rel C E a w ι R := by
 have hm : mark E.heap = mark S.heap := funext fun o => by unfold mark; rw [hs.2 o]
 refine { h with env := fun t x hx => ?_, heap := fun o ob ho => ?_ }
 · rw [hm]; exact h.env t x (zu ((hs.1 t).trans (zsi h1 hx)))
 · rw [hm]; exact h.heap o ob (zu ((hs.2 o).trans (zsi h2 ho)))
theorem zrd {x : zh} {S : St} {v : AV} {δ : za} {o : Nat} (h : zbV o S) (hv : v.refs o = false) (hh : refsHeap o (zo δ S.heap) = false) : zbV o (ap x S v δ) := by
 refine ⟨?_, by rw [zbk]; exact hh⟩;unfold ap St.put
 split
 · exact h.1
 · rename_i d _
   cases hr : refsEnv o (zj d v S.env) with
   | false => rfl
   | true =>
    exfalso;have : refsEnv o (zaR d S.env) = false := by
     have h1 := h.1;revert h1;generalize S.env = l
     induction l with
     | nil => intro; rfl
     | cons p l ih =>
      obtain ⟨j, y⟩ := p;intro h1;simp only [refsEnv, zLZ] at h1;simp only [zaR]
      split
      · exact ih h1.2
      · simp [refsEnv, h1.1, ih h1.2]
    simp [zj, refsEnv, hv, this] at hr
theorem zbe.sound (hF : FOK P F) {hs : zw} {Q : Exit -> Act -> World -> Prop} {ops : Array Oper} {l : List zh} {pl : Nat -> List Nat × List Nat} {E : St} (hl : ops.toList.mapM (zbg P hs ops) = some l) (hd : ∀ o ∈ ops.toList, ∀ d, o.dst = some d -> d < C.n)
    (hnews : ∀ (i : Nat) (x : zh), l[i]? = some x -> ∀ n ∈ x.newNames, ∀ (j : Nat) (y : zh), l[j]? = some y -> j ≠ i -> n ∉ y.newNames)
    (hQ : ∀ S a w ι R, Same S E -> Rel C S a w ι R -> Q .normal a w) :
    ∀ (n : Nat) (listed : Array Bool) (S : St) (a : Act) (w : World) (ι : Inj) (R : Nat -> Prop), zbe F ops l pl E n listed S -> Rel C S a w ι R ->
     (∀ (i : Nat) (x : zh), l[i]? = some x -> listed.getD i true = false -> ∀ n ∈ x.newNames, zbV n S) -> wpAny P .any ops Q n listed a w := by
 intro n
 induction n with
 | zero => intro listed S a w ι R h hr _; exact ⟨h.1, hQ _ _ _ _ _ h.2 hr⟩
 | succ n ih =>
  intro listed S a w ι R h hr hf;refine ⟨fun h0 => hQ _ _ _ _ _ (h.1 h0) hr, fun i hi => ?_⟩;obtain ⟨x, v, δ, hx, hy, hn⟩ := h.2 i hi;obtain ⟨hun, o, ho, _⟩ := mem_ready.1 hi;have hmem : o ∈ ops.toList := by
   have := (zLj.1 ho);obtain ⟨h1, rfl⟩ := this;simp
  have hcx : zbg P hs ops o = some x := (zbc hl).2 i o x (by simpa using ho) hx;unfold wpOp;simp only [ho]
  -- the other new objects' names stay fresh
  have hothers : ∀ (m : Nat) (y : zh), l[m]? = some y -> (listed.setIfInBounds i true).getD m true = false -> ∀ n ∈ y.newNames, zbV n S /\ n ∉ x.newNames := by
   intro m y hm hum n hny;have hmi : m ≠ i := by
    rintro rfl;have hlt : m < ops.size := (zLj.1 ho).1;rw [zLH, Array.getElem?_setIfInBounds_self] at hum;rw [zLH] at hun
    split at hum
    · simp at hum
    · simp at hum
   rw [getD_set_ne true (Ne.symm hmi)] at hum;exact ⟨hf m y hm hum n hny, hnews m y hm n hny i x hx (Ne.symm hmi)⟩
  rcases hy with ⟨hg, hloc⟩ | ⟨hg, rfl, rfl⟩
  · obtain ⟨hop, hno⟩ := hloc.same S ⟨fun _ _ => rfl, fun _ _ => rfl, fun _ _ => rfl⟩ (hf i x hx hun);have hnext : ∀ S' a' w' ι' R', S' = ap x S v δ -> Rel C S' a' w' ι' R' -> wpAny P .any ops Q n (listed.setIfInBounds i true) a' w' := by
     rintro S' a' w' ι' R' rfl hr';refine ih _ _ _ _ _ _ hn hr' fun m y hm hum n hny => ?_;obtain ⟨h2, h3⟩ := hothers m y hm hum n hny;obtain ⟨h4, h5⟩ := hno _ h2 h3;exact zrd h2 h4 h5
    unfold zbg at hcx
    split at hcx
    · cases hcx
    · rename_i op hop'
      split at hcx
      · rename_i hgd
        cases hcx
        have hw : Region.wanted o (yielded ops a.tmps) = true := by simp [Region.wanted, hgd]
        rw [zKN hw];exact .inl (zic hF hop' (hd _ hmem) hop hr fun a' w' ι' R' hr' => hnext _ a' w' ι' R' rfl hr')
      · rename_i j b hgd;obtain ⟨t, ht, hcx⟩ := zKL.1 hcx
        cases hcx
        unfold Gd at hg;simp only at hg
        split at hg
        · rename_i c hc;have hyl : yielded ops a.tmps j = some c := by
           obtain ⟨u, h1, h2⟩ := hr.env t _ (zu hc);have := h2.bool_inv;subst this;have hlt : t < 1000000 := by
            obtain ⟨o', ho', ht'⟩ := zKK.1 ht;exact zLo (hd o' (by have := (zLj.1 ho'); obtain ⟨q, rfl⟩ := this; simp) t ht') C.le
           simp only [za2, zKN hlt] at h1;simp [yielded, ht, h1]
          have hw : Region.wanted o (yielded ops a.tmps) = (c == b) := by simp [Region.wanted, hgd, hyl]
          have : (c == b) = true := by simpa using hg
          rw [zKN (by rw [hw]; exact this)];exact .inl (zic hF hop' (hd _ hmem) hop hr fun a' w' ι' R' hr' => hnext _ a' w' ι' R' rfl hr')
        · cases hg
        · cases hg
  · have hnext : ∀ S' a' w' ι' R', S' = ap x S (.d (.tup [])) [] -> Rel C S' a' w' ι' R' -> wpAny P .any ops Q n (listed.setIfInBounds i true) a' w' := by
     rintro S' a' w' ι' R' rfl hr';refine ih _ _ _ _ _ _ hn hr' fun m y hm hum n hny => ?_;obtain ⟨h2, h3⟩ := hothers m y hm hum n hny;exact zrd h2 rfl h2.2
    unfold zbg at hcx
    split at hcx
    · cases hcx
    · rename_i op hop'
      split at hcx
      · cases hcx
        simp [Gd] at hg
      · rename_i j b hgd;obtain ⟨t, ht, hcx⟩ := zKL.1 hcx
        cases hcx
        unfold Gd at hg;simp only at hg
        split at hg
        · rename_i c hc;have hyl : yielded ops a.tmps j = some c := by
           obtain ⟨u, h1, h2⟩ := hr.env t _ (zu hc);have := h2.bool_inv;subst this;have hlt : t < 1000000 := by
            obtain ⟨o', ho', ht'⟩ := zKK.1 ht;exact zLo (hd o' (by have := (zLj.1 ho'); obtain ⟨q, rfl⟩ := this; simp) t ht') C.le
           simp only [za2, zKN hlt] at h1;simp [yielded, ht, h1]
          have hw : Region.wanted o (yielded ops a.tmps) = (c == b) := by simp [Region.wanted, hgd, hyl]
          have : (c == b) = false := by simpa using hg
          rw [zKM (by rw [hw, this]; simp)];exact hnext _ _ _ _ _ rfl (hr.putO zgm (hd _ hmem))
        · rename_i hc;have hyl : yielded ops a.tmps j = none := by
           obtain ⟨u, h1, h2⟩ := hr.env t _ (zu hc);have := h2.tup0_inv;subst this;have hlt : t < 1000000 := by
            obtain ⟨o', ho', ht'⟩ := zKK.1 ht;exact zLo (hd o' (by have := (zLj.1 ho'); obtain ⟨q, rfl⟩ := this; simp) t ht') C.le
           simp only [za2, zKN hlt] at h1;simp [yielded, ht, h1]
          have hw : Region.wanted o (yielded ops a.tmps) = false := by simp [Region.wanted, hgd, hyl]
          rw [zKM (by rw [hw]; simp)];exact hnext _ _ _ _ _ rfl (hr.putO zgm (hd _ hmem))
        · cases hg
theorem Rel.drawn {S : St} {a : Act} {w : World} {ι : Inj} {R : Nat -> Prop} (h : Rel C S a w ι R) (n : Nat) : Rel C S a { w with drawn := n } ι R := by
 have hm : ∀ {x : AV} {u : Value}, VA w R ι (mark S.heap) x u -> VA { w with drawn := n } R ι (mark S.heap) x u := fun hv =>
  hv.mono (fun _ h => h) (fun _ _ => rfl) fun o _ => Step.same fun _ _ _ => rfl
 refine { h with os := h.os, tape := h.tape, output := h.output, env := fun t x hx => ?_, heap := fun o ob ho => ?_ }
 · obtain ⟨u, h1, h2⟩ := h.env t x hx;exact ⟨u, h1, hm h2⟩
 · cases h.heap o ob ho with
   | row h1 h2 h3 h4 h5 h6 h7 => exact .row h1 h2 h3 h4 h5 h6 fun i e he j x hx => let ⟨k1, q, k2, k3⟩ := h7 i e he j x hx; ⟨k1, q, k2, hm k3⟩
   | acc h1 h2 h3 h4 h5 h6 => exact .acc h1 h2 h3 h4 h5 h6
   | accN h1 => exact .accN h1
   | frz h => exact .frz h
   | mp h1 h2 h3 h4 h5 h6 => exact .mp h1 h2 h3 h4 h5 fun i k x hi => let ⟨e, k1, k2, k3⟩ := h6 i k x hi; ⟨e, k1, k2, k3.mono_v (fun _ h => h) fun _ _ => rfl⟩
theorem zyn (hF : FOK P F) {hs : zw} {ops : Array Oper} {l : List zh} {S' : St} {Q : Exit -> Act -> World -> Prop} {S : St} {a : Act} {w : World} {ι : Inj} {R : Nat -> Prop} {id : Nat} (hl : ops.toList.mapM (zbg P hs ops) = some l)
    (hok : (P.follows .mixedOrders && zm7 ops l) = true) (hd : ∀ o ∈ ops.toList, ∀ d, o.dst = some d -> d < C.n) (hQ : ∀ a w ι R, Rel C S' a w ι R -> Q .normal a w)
    (h : zby F l ((List.range ops.size).map (zbP ops)) S = some S') (hr : Rel C S a w ι R) : (Code.region id ops true).wp P Q a w := by
 unfold zby at h
 split at h
 rotate_left
 · cases h
 rename_i hpre;simp only [zKW] at hpre;obtain ⟨⟨h1, h2⟩, h3⟩ := hpre;have h4 := h;simp only [zKW] at hok;obtain ⟨hm, hdk⟩ := hok;have hlen : l.length = ops.size := by have := (zbc hl).1; simpa using this
 have hx : ∀ j, j < ops.size -> ∃ o x, ops[j]? = some o /\ l[j]? = some x /\ (∀ e ∈ o.after, Region.binds .any e = true -> e.on < j) /\ (∀ k ∈ zbP ops j, ∃ y, l[k]? = some y /\ zcD y x = true) /\ x.op.cleanB = true /\
     zgL l ops.size j x = true := by
  intro j hj;have := zK4.1 hdk j (by simpa using hj);have ho : ops[j]? = some ops[j] := zLO hj;have hy : l[j]? = some (l[j]'(by omega)) := zKR _;refine ⟨_, _, ho, hy, ?_⟩;rw [ho, hy] at this;simp only [zKW] at this;obtain ⟨⟨⟨c1, c2⟩, c3⟩, c4⟩ := this;refine ⟨fun e he hb => ?_, fun k hk => ?_, c3, c4⟩
  · have := zK4.1 c1 e (by simpa using he);simpa [hb] using this
  · have := zK4.1 c2 k hk
    split at this
    · rename_i y hy'; exact ⟨y, hy', this⟩
    · cases this
 have hclean : ∀ x ∈ l, x.op.cleanB = true := fun x hmx => by
  obtain ⟨j, hj⟩ := zLl hmx;have hlt := (zKP.1 hj).1;obtain ⟨o, x', _, h6, _, _, h7, _⟩ := hx j (by omega);rw [hj] at h6; cases h6; exact h7
 obtain ⟨ps, hlex, hps, hclash⟩ := zyS hF l _ [] S S' hclean h4
 let pl : Nat -> List Nat × List Nat := fun i => (ps[i]?).getD ([], [])
 have hE := hlex.nodup h1 h2;refine wp_region_any hm (zbe.sound (C := C) (l := l) (pl := pl) (E := S') hF hl hd ?_ (fun S1 a' w' ι' R' hs hr' => hQ _ _ _ _ (hr'.same hs hE.1 hE.2)) _ _ _ _ _ _ _ ?_ (hr.drawn _) ?_)
 · intro i x hi n hn j y hj hji hny;have hlt := (zKP.1 hi).1;have hlt' := (zKP.1 hj).1;obtain ⟨o, x', _, h6, _, _, _, h8⟩ := hx i (by omega);rw [hi] at h6; cases h6;obtain ⟨o', y', _, h6', _, _, _, h8'⟩ := hx j (by omega);rw [hj] at h6'; cases h6';have ne1 : x.newNames.isEmpty = false := by cases hq : x.newNames with | nil => rw [hq] at hn; cases hn | cons => rfl
   have ne2 : y.newNames.isEmpty = false := by cases hq : y.newNames with | nil => rw [hq] at hny; cases hny | cons => rfl
   simp only [zgL, ne1, ne2, zMi] at h8 h8'
   split at h8
   · rename_i d hd1
     split at h8'
     · rename_i d' hd2;simp only [zKW, decide_eq_true_eq] at h8 h8';have h9 := zK4.1 h8.2 j (by simp; omega);rw [hj] at h9;simp only [ne2, zMi, zLs, beq_iff_eq, hji, false_or, hd2, zLC, beq_eq_false_iff_ne, ne_eq, Option.some.injEq] at h9;have sub : ∀ (z : zh) (e m : Nat), z.dst = some e -> m ∈ z.newNames -> m = e \/ m = e + 10000 \/ m = e + 20000 \/ m = e + 30000 := by
        intro z e m he hm;unfold zh.newNames at hm;rw [he] at hm;simp only [zLX] at hm
        split at hm
        · simpa [fr4] using hm
        · simpa [fr4] using hm
        · split at hm
          · simp at hm; exact .inl hm
          · cases hm
       have k1 := sub x d n hd1 hn;have k2 := sub y d' n hd2 hny;omega
     · cases h8'
   · cases h8
 · rw [<- hlen];refine zB2 (F := F) ?_ hlen.symm ?_ (fun j o ho e he hb => ?_) l ps 0 _ S (by simp) (fun j hj => ?_) (by simp) (by simp) (by omega) (fun i _ hi => ?_) hlex
   · intro k listed hk hls hun;obtain ⟨o, x, ho, _, h6, _⟩ := hx k (by omega);exact mem_ready.2 ⟨hun, o, ho, fun e he hb => hls _ (h6 e he hb)⟩
   · intro k j o x y hkj ho hk hj hno;have hjl := (zLj.1 ho).1;obtain ⟨o', y', ho', hy', _, h7, _⟩ := hx j hjl;rw [ho] at ho'; cases ho';rw [hj] at hy'; cases hy';have hfree : k ∈ zbP ops j := zCv hkj hno;obtain ⟨x', hx', hap⟩ := h7 k hfree;rw [hk] at hx'; cases hx';refine ⟨hap, ?_⟩;have hpj : ps[j]? = some (pl j) := by
      have : j < ps.length := by omega
      simp [pl, this]
     have hpk : ps[k]? = some (pl k) := by
      have : k < ps.length := by omega
      simp [pl, this]
     have := hclash j (pl j) hpj;have hfrj : (((List.range ops.size).map (zbP ops))[j]?).getD [] = zbP ops j := by simp [hjl]
     rw [hfrj, zLT] at this;have := zK4.1 this k hfree;rw [zL0 hkj, hpk] at this;exact this
   · obtain ⟨o', _, ho', _, h6, _⟩ := hx j (zLj.1 ho).1;rw [ho] at ho'; cases ho';exact h6 e he hb
   · simp [pl, show j < ps.length by omega]
   · rw [Array.getElem?_replicate, zKN (by omega)]
 · intro i x hi _ n hn;have := zK4.1 (zK4.1 h3 x (zKU hi)) n hn;simpa [zbV] using this
end Go.Sim

namespace Go.Sim
open Go (World Value Addr TypeId Act)
variable {P : Program} {C : Ctx} {F : zC}
def zaA (n : Nat) : Code -> Bool
 | .region _ ops _ => ops.toList.all fun o => match o.dst with | none => true | some d => d < n
 | .seq a b => zaA n a && zaA n b
 | .cond _ a b => zaA n a && zaA n b
 | .block _ b => zaA n b
 | .loop b => zaA n b
 | _ => true
theorem zsN {n id : Nat} {ops : Array Oper} {d : Bool} (h : zaA n (.region id ops d) = true) : ∀ o ∈ ops.toList, ∀ d, o.dst = some d -> d < n := by
 intro o ho d hd;have := zK4.1 h o ho;simpa [hd] using this
def zV (F : zC) : List zh -> St -> Option St
 | [], S => some S
 | o :: l, S =>
  match o.guard with
  | none => (zaJ F o S).bind (zV F l)
  | some (t, b) =>
   match look t S.env with
   | some (.d (.bool c)) => if c = b then (zaJ F o S).bind (zV F l) else zV F l (S.put o.dst (.d (.tup [])))
   | some (.d (.tup [])) => zV F l (S.put o.dst (.d (.tup [])))
   | _ => none
def zcO (ks : List Nat) (S : St) : zJ × St := (.normal, ⟨zbD ks S.env, S.heap⟩)
def zb5 (g : St -> Option (zJ × St)) (p : zJ × St) : Option (zJ × St) := match p.1 with | .normal => g p.2 | .exit i => some (.exit i, p.2) | .ret => some (.ret, p.2)
def zdb (id : Nat) (p : zJ × St) : zJ × St := match p.1 with | .exit i => if i = id then (.normal, p.2) else (.exit i, p.2) | .normal => (.normal, p.2) | .ret => (.ret, p.2)
def zbb (ks : List Nat) (g : St -> Option (zJ × St)) (p : zJ × St) : Option (zJ × St) := match p.1 with | .normal => g (norm ks p.2) | .exit i => some (.exit i, p.2) | .ret => some (.ret, p.2)
def zaW (ks : List Nat) (body : St -> Option (zJ × St)) : Nat -> St -> Option (zJ × St)
 | 0, _ => none
 | k + 1, S => (body S).bind (zbb ks (zaW ks body k))
def zcc (c : AV) (x y : Option (zJ × St)) : Option (zJ × St) := match c with | .d (.bool b) => if b = true then x else y | _ => none
def z9 (F : zC) (n : Nat) : zl -> St -> Option (zJ × St)
 | .skip, S => some (.normal, S)
 | .ops gs l ks, S => ((zbj gs S).bind (zV F l)).map (zcO ks)
 | .draw gs l fr ks, S => ((zbj gs S).bind (zby F l fr)).map (zcO ks)
 | .seq x y, S => (z9 F n x S).bind (zb5 (z9 F n y))
 | .cond c x y, S => zcc (c.ev S.env) (z9 F n x S) (z9 F n y S)
 | .block id x, S => (z9 F n x S).map (zdb id)
 | .loop ks x, S => zaW ks (z9 F n x) n (norm ks S)
 | .exit id ks, S => some (.exit id, endS ks S)
 | .ret ks, S => some (.ret, endS ks S)
def zdn : Code -> Nat
 | .region id _ _ => id
 | .seq a _ => zdn a
 | .block _ b => zdn b
 | .loop b => zdn b
 | _ => 1000000
def zao (P : Program) (hs : zw) : Code -> Option zl
 | .skip => some .skip
 | .region id ops false => (ops.toList.mapM (zbg P hs ops)).map fun l => .ops (zbR hs.ghost id) l (zbR hs.kill id)
 | .region id ops true => (ops.toList.mapM (zbg P hs ops)).bind fun l => if P.follows .mixedOrders && zm7 ops l then some (.draw (zbR hs.ghost id) l ((List.range ops.size).map (zbP ops)) (zbR hs.kill id)) else none
 | .seq a b => match zao P hs a, zao P hs b with | some x, some y => some (.seq x y) | _, _ => none
 | .cond c t e => match opd c, zao P hs t, zao P hs e with | some z, some x, some y => some (.cond z x y) | _, _, _ => none
 | .block id b => (zao P hs b).map (.block id)
 | .loop b => (zao P hs b).map (.loop (zbR hs.loop (zdn b)))
 | .exit id => some (.exit id (zbR hs.exit id))
 | .ret => some (.ret hs.ret)
 | _ => none
def zix (C : Ctx) (e : zJ) (S : St) : Exit -> Act -> World -> Prop := fun ex a w => ex = Out e /\ ∃ ι R, Rel C S a w ι R
theorem zyT (hF : FOK P F) {hs : zw} {ops : Array Oper} {Q : Exit -> Act -> World -> Prop} {S' : St} (hn : ∀ a w ι R, Rel C S' a w ι R -> Q .normal a w) (hd : ∀ o ∈ ops.toList, ∀ d, o.dst = some d -> d < C.n) :
    ∀ (l : List zh) (k : Nat), (ops.toList.drop k).mapM (zbg P hs ops) = some l -> ∀ (S : St) (a : Act) (w : World) (ι : Inj) (R : Nat -> Prop), zV F l S = some S' -> Rel C S a w ι R -> wpOps P ops Q (List.range' k (ops.size - k)) a w := by
 intro l
 induction l with
 | nil =>
  intro k hk S a w ι R h hr;have hlen := (zbc hk).1;simp at hlen;have : ops.size - k = 0 := by simpa using hlen.symm
  rw [this]
  cases h
  exact hn a w ι R hr
 | cons x l ih =>
  intro k hk S a w ι R h hr;obtain ⟨hl, hg⟩ := zbc hk;have hlt : k < ops.size := by simp at hl; omega
  have hsz : ops.size - k = (ops.size - (k + 1)) + 1 := by omega
  have hok : ops[k]? = some ops[k] := zLO hlt;have hx := hg 0 ops[k] x (by simp [hlt]) rfl;have hk' : (ops.toList.drop (k + 1)).mapM (zbg P hs ops) = some l := by
   have hdrop : ops.toList.drop k = ops[k] :: ops.toList.drop (k + 1) := by
    rw [zMr (by simpa using hlt)]; simp
   rw [hdrop, zLN] at hk;simp only [zK7, zLg] at hk;obtain ⟨y, _, hk⟩ := zKK.1 hk;obtain ⟨ys, hys, hk⟩ := zKK.1 hk
   cases hk; exact hys
  have hmem : ops[k] ∈ ops.toList := by simp
  rw [hsz, List.range'_succ];simp only [wpOps, hok];have take : ∀ {x0 : AOp} {g : Option (Nat × Bool)}, zn P ops[k].op = some x0 -> x = ⟨ops[k].dst, zck hs ops[k].dst x0, g⟩ -> (zaJ F x S).bind (zV F l) = some S' -> ops[k].wp P a w (fun a' w' => wpOps P ops Q (List.range' (k + 1) (ops.size - (k + 1))) a' w') Q := by
   intro x0 g hop hxe hb;obtain ⟨S1, h1, h2⟩ := zKK.1 hb;obtain ⟨⟨v, H'⟩, h3, h4⟩ := zKL.1 h1;subst hxe;subst h4;exact zic hF hop (hd _ hmem) h3 hr fun a' w' ι' R' hr' => ih (k + 1) hk' _ a' w' ι' R' h2 hr'
  unfold zbg at hx
  split at hx
  · cases hx
  · rename_i op hop
    split at hx
    · rename_i hgd
      cases hx
      simp only [zV] at h;have hw : Region.wanted ops[k] (yielded ops a.tmps) = true := by simp [Region.wanted, hgd]
      rw [zKN hw];exact .inl (take hop rfl h)
    · rename_i j b hgd;obtain ⟨t, ht, hx⟩ := zKL.1 hx
      cases hx
      simp only [zV] at h
      split at h
      · rename_i c hc;have hy : yielded ops a.tmps j = some c := by
         obtain ⟨u, h1, h2⟩ := hr.env t _ (zu hc);have := h2.bool_inv;subst this;have hlt : t < 1000000 := by
          obtain ⟨o', ho', ht'⟩ := zKK.1 ht;exact zLo (hd o' (by have := (zLj.1 ho'); obtain ⟨q, rfl⟩ := this; simp) t ht') C.le
         simp only [za2, zKN hlt] at h1;simp [yielded, ht, h1]
        have hw : Region.wanted ops[k] (yielded ops a.tmps) = (c == b) := by simp [Region.wanted, hgd, hy]
        by_cases hcb : c = b
        · rw [zKN (by rw [hw]; simpa using hcb)];rw [zKN hcb] at h;exact .inl (take hop rfl h)
        · rw [zKM (by rw [hw]; simpa using hcb)];rw [zKM hcb] at h;exact ih (k + 1) hk' _ _ _ _ _ h (hr.putO zgm (hd _ hmem))
      · rename_i hc;have hy : yielded ops a.tmps j = none := by
         obtain ⟨u, h1, h2⟩ := hr.env t _ (zu hc);have := h2.tup0_inv;subst this;have hlt : t < 1000000 := by
          obtain ⟨o', ho', ht'⟩ := zKK.1 ht;exact zLo (hd o' (by have := (zLj.1 ho'); obtain ⟨q, rfl⟩ := this; simp) t ht') C.le
         simp only [za2, zKN hlt] at h1;simp [yielded, ht, h1]
        have hw : Region.wanted ops[k] (yielded ops a.tmps) = false := by simp [Region.wanted, hgd, hy]
        rw [zKM (by rw [hw]; simp)];exact ih (k + 1) hk' _ _ _ _ _ h (hr.putO zgm (hd _ hmem))
      · cases h
theorem zyU (hF : FOK P F) {hs : zw} {n : Nat} : ∀ (c : Code) {x : zl} {S : St} {e : zJ} {S' : St} {a : Act} {w : World} {ι : Inj} {R : Nat -> Prop}, zao P hs c = some x -> zaA C.n c = true -> z9 F n x S = some (e, S') -> Rel C S a w ι R ->
    c.wp P (zix C e S') a w := by
 intro c
 induction c with
 | skip => intro x S e S' a w ι R hc _ h hr; simp only [zao, Option.some.injEq] at hc; subst hc; cases h; exact wp_skip ⟨rfl, ι, R, hr⟩
 | exit id => intro x S e S' a w ι R hc _ h hr; simp only [zao, Option.some.injEq] at hc; subst hc; cases h; exact wp_exit ⟨rfl, ι, R, hr.endS _⟩
 | ret => intro x S e S' a w ι R hc _ h hr; simp only [zao, Option.some.injEq] at hc; subst hc; cases h; exact wp_ret ⟨rfl, ι, R, hr.endS _⟩
 | region id ops d =>
  intro x S e S' a w ι R hc hs' h hr
  cases d with
  | false =>
   obtain ⟨l, hl, rfl⟩ := zKL.1 hc;simp only [z9] at h;obtain ⟨S2, h, h3⟩ := zKL.1 h;obtain ⟨S1, h1, h2⟩ := zKK.1 h
   cases h3
   refine wp_region ?_;obtain ⟨ι1, R1, hr1⟩ := zrk h1 hr;have := zyT hF (C := C) (Q := zix C .normal ⟨zbD (zbR hs.kill id) S2.env, S2.heap⟩) (fun a' w' ι' R' h2 => ⟨rfl, ι', R', h2.kill _⟩) (zsN hs') l 0 (by simpa using hl) S1 a w ι1 R1 h2 hr1;rw [List.range_eq_range'];simpa using this
  | true =>
   obtain ⟨l, hl, hc⟩ := zKK.1 hc
   split at hc
   · rename_i hok
     cases hc
     simp only [z9] at h;obtain ⟨S2, h, h3⟩ := zKL.1 h;obtain ⟨S1, h1, h2⟩ := zKK.1 h
     cases h3
     obtain ⟨ι1, R1, hr1⟩ := zrk h1 hr;exact zyn hF hl hok (zsN hs') (fun a' w' ι' R' h2 => ⟨rfl, ι', R', h2.kill _⟩) h2 hr1
   · cases hc
 | seq c1 c2 ih1 ih2 =>
  intro x S e S' a w ι R hc hs' h hr;simp only [zao] at hc
  split at hc
  · rename_i x1 x2 h1 h2
    cases hc
    simp only [zaA, zKW] at hs';simp only [z9] at h;obtain ⟨⟨e1, S1⟩, h3, h4⟩ := zKK.1 h;refine wp_seq (wp_mono (ih1 h1 hs'.1 h3 hr) ?_);rintro ex a' w' ⟨rfl, ι', R', hr'⟩
    cases e1 with
    | normal => exact ih2 h2 hs'.2 h4 hr'
    | exit i => cases h4; exact ⟨rfl, ι', R', hr'⟩
    | ret => cases h4; exact ⟨rfl, ι', R', hr'⟩
  · cases hc
 | cond c t el ih1 ih2 =>
  intro x S e S' a w ι R hc hs' h hr;simp only [zao] at hc
  split at hc
  · rename_i z x1 x2 h0 h1 h2
    cases hc
    simp only [zaA, zKW] at hs';simp only [z9] at h;have hv := hr.ev h0;unfold zcc at h
    split at h
    · rename_i b hb;rw [hb] at hv;refine wp_cond_split hv.bool_inv (fun hb' => ih1 h1 hs'.1 (by rw [zKN hb'] at h; exact h) hr) (fun hb' => ih2 h2 hs'.2 (by rw [zKM (by simp [hb'])] at h; exact h) hr)
    · cases h
  · cases hc
 | block id b ih =>
  intro x S e S' a w ι R hc hs' h hr;obtain ⟨y, hy, rfl⟩ := zKL.1 hc;simp only [z9] at h;obtain ⟨⟨e1, S1⟩, h1, h2⟩ := zKL.1 h;refine wp_block (wp_mono (ih hy hs' h1 hr) ?_);rintro ex a' w' ⟨rfl, ι', R', hr'⟩
  cases e1 with
  | normal => cases h2; exact ⟨rfl, ι', R', hr'⟩
  | exit i =>
   simp only [zdb] at h2;simp only [Out, Exit.inBlock]
   split
   · rename_i e; rw [zKN e] at h2; cases h2; exact ⟨rfl, ι', R', hr'⟩
   · rename_i e; rw [zKM e] at h2; cases h2; exact ⟨rfl, ι', R', hr'⟩
  | ret => cases h2; exact ⟨rfl, ι', R', hr'⟩
 | loop b ih =>
  intro x S e S' a w ι R hc hs' h hr;obtain ⟨y, hy, rfl⟩ := zKL.1 hc;simp only [z9] at h;refine wp_loop_ghost (fun k a w => ∃ S ι R, zaW (zbR hs.loop (zdn b)) (z9 F n y) k S = some (e, S') /\ Rel C S a w ι R) n ⟨_, ι, R, h, hr.norm _⟩ ?_;rintro k a1 w1 ⟨S1, ι1, R1, h1, hr1⟩
  cases k with
  | zero => simp [zaW] at h1
  | succ k =>
   simp only [zaW] at h1;obtain ⟨⟨e2, S2⟩, h2, h3⟩ := zKK.1 h1;refine wp_mono (ih hy hs' h2 hr1) ?_;rintro ex a' w' ⟨rfl, ι', R', hr'⟩
   cases e2 with
   | normal => exact ⟨k, by omega, _, ι', R', h3, hr'.norm _⟩
   | exit i => cases h3; exact ⟨rfl, ι', R', hr'⟩
   | ret => cases h3; exact ⟨rfl, ι', R', hr'⟩
 | _ => intro x S e S' a w ι R hc; simp [zao] at hc
end Go.Sim
