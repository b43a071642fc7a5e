/-
  Code.
-/
import Derived.Test.YtfggldgdejjlnaaGreatB673fee4
import Derived.Deep.LoopGhost
set_option linter.unusedSimpArgs false
set_option linter.unusedVariables false
set_option maxHeartbeats 10000000
set_option maxRecDepth 100000
namespace Go.Sim
open Go (World Value Addr TypeId Act)
variable {P : Program} {C : Ctx} {F : zaa}
theorem zB4 {x : zp} {S : St} (h : x.guard = none) : Gd x S = some true := by simp [Gd, h]
theorem zub {x : zp} {S : St} {t : Nat} {b c : Bool} (h : x.guard = some (t, b)) (hl : look t S.env = some (.d (.bool c))) : Gd x S = some (c == b) := by simp [Gd, h, hl]
theorem zB5 {x : zp} {S : St} {t : Nat} {b : Bool} (h : x.guard = some (t, b)) (hl : look t S.env = some (.d (.tup []))) : Gd x S = some false := by simp [Gd, h, hl]
def zdY (fr : List Nat) (acc : List (List Nat × List Nat)) (p : List Nat × List Nat) : Bool := fr.all fun k => match acc[k]? with | some q => zfy q p | none => false
def zoV (fr : List (List Nat)) (acc ps : List (List Nat × List Nat)) : Prop :=
 ∀ j p, ps[j]? = some p -> zdY ((fr[j]?).getD []) (acc ++ ps.take j) p = true
def zbN (F : zaa) (x : zp) (S : St) : Option St := (step F S.env S.heap (x.dst.getD 0) x.op).map fun p => St.put ⟨S.env, p.2⟩ x.dst p.1
def zbG (F : zaa) (x : zp) (fr : List (List Nat)) (acc : List (List Nat × List Nat)) (S : St) : Option St :=
 if zdY (fr.headD []) acc (feet x S) = true then zbN F x S else none
def zdZ (x : zp) (fr : List (List Nat)) (acc : List (List Nat × List Nat)) (S : St) : Option St :=
 if zdY (fr.headD []) acc ([], []) = true then some (S.put x.dst (.d (.tup []))) else none
def zaE (F : zaa) : List zp -> List (List Nat) -> List (List Nat × List Nat) -> St -> Option St
 | [], _, _, S => some S
 | x :: l, fr, acc, S =>
  match x.guard with
  | none => (zbG F x fr acc S).bind (zaE F l fr.tail (acc ++ [feet x S]))
  | some (t, b) =>
   match look t S.env with
   | some (.d (.bool c)) => if c = b then (zbG F x fr acc S).bind (zaE F l fr.tail (acc ++ [feet x S])) else (zdZ x fr acc S).bind (zaE F l fr.tail (acc ++ [([], [])]))
   | some (.d (.tup [])) => (zdZ x fr acc S).bind (zaE F l fr.tail (acc ++ [([], [])]))
   | _ => none
def zjA (l : List zp) (S : St) : Bool := l.all fun x => x.newNames.all fun n => !refsEnv n S.env && !refsHeap n S.heap
def zc6 (F : zaa) (l : List zp) (fr : List (List Nat)) (S : St) : Option St :=
 if (zaN S.env && zaN S.heap && zjA l S) = true then zaE F l fr [] S else none
theorem zO4 (hF : FOK P F) {x : zp} {S S' : St} (hcl : x.op.cleanB = true) (h : zbN F x S = some S') : ∃ v δ, zhF F x S v δ (feet x S).1 (feet x S).2 /\ S' = ap x S v δ := by
 obtain ⟨⟨v, H'⟩, h1, h2⟩ := zQQ.1 h;obtain ⟨δ, h3, h4⟩ := zO5 hF hcl h1;subst h2;subst h4;exact ⟨v, δ, h3, rfl⟩
theorem zEO (hF : FOK P F) : ∀ (l : List zp) (fr : List (List Nat)) (acc : List (List Nat × List Nat)) (S S' : St), (∀ x ∈ l, x.op.cleanB = true) -> zaE F l fr acc S = some S' -> ∃ ps, Lex F l ps S S' /\ ps.length = l.length /\ zoV fr acc ps := by
 intro l
 induction l with
 | nil => intro fr acc S S' _ h; cases h; exact ⟨[], .nil, rfl, fun j p hp => by simp at hp⟩
 | cons x l ih =>
  intro fr acc S S' hc h;have step : ∀ (p : List Nat × List Nat) (v : AV) (δ : zb), Y F x S v δ p -> zdY (fr.headD []) acc p = true -> zaE F l fr.tail (acc ++ [p]) (ap x S v δ) = some S' -> ∃ ps, Lex F (x :: l) ps S S' /\ ps.length = (x :: l).length /\ zoV fr acc ps := by
   intro p v δ hy hcl hg;obtain ⟨ps, h1, h3, h4⟩ := ih _ _ _ _ (fun y hy => hc y (.tail _ hy)) hg;refine ⟨p :: ps, .cons hy h1, by simp [h3], fun j q hq => ?_⟩
   cases j with
   | zero =>
    simp at hq; subst hq;simp only [zRW, zRG]
    cases fr <;> simpa using hcl
   | succ j =>
    have := h4 j q (by simpa using hq);rw [zRC] at this
    cases fr with
    | nil => simpa using this
    | cons f fr => simpa using this
  have run : ((zbG F x fr acc S).bind (zaE F l fr.tail (acc ++ [feet x S]))) = some S' -> Gd x S = some true -> ∃ ps, Lex F (x :: l) ps S S' /\ ps.length = (x :: l).length /\ zoV fr acc ps := by
   intro h hgd;obtain ⟨S1, h1, h2⟩ := zQP.1 h;unfold zbG at h1
   split at h1
   · rename_i hcl;obtain ⟨v, δ, h3, rfl⟩ := zO4 hF (hc x (.head _)) h1;exact step (feet x S) v δ (.inl ⟨hgd, h3⟩) hcl h2
   · cases h1
  simp only [zaE] at h
  split at h
  · rename_i hg;exact run h (zB4 hg)
  · rename_i t b hg
    split at h
    · rename_i c hl
      split at h
      · rename_i hcb;exact run h (by rw [zub hg hl]; simpa using hcb)
      · rename_i hcb;obtain ⟨S1, h1, h2⟩ := zQP.1 h;unfold zdZ at h1
        split at h1
        · rename_i hcl
          cases h1
          refine step ([], []) (.d (.tup [])) [] (.inr ⟨by rw [zub hg hl]; simpa using hcb, rfl, rfl⟩) hcl ?_;exact h2
        · cases h1
    · rename_i hl;obtain ⟨S1, h1, h2⟩ := zQP.1 h;unfold zdZ at h1
      split at h1
      · rename_i hcl
        cases h1
        refine step ([], []) (.d (.tup [])) [] (.inr ⟨zB5 hg hl, rfl, rfl⟩) hcl ?_;exact h2
      · cases h1
    · cases h
theorem zIY {α : Type} {k : Nat} {l : List (Nat × α)} (h : zaN l = true) : zaN (without k l) = true := by
 induction l with
 | nil => rfl
 | cons p l ih =>
  obtain ⟨j, x⟩ := p;simp only [zaN, zQ8, zRP] at h;simp only [without]
  split
  · exact ih h.2
  · simp only [zaN, zQ8, zRP, ih h.2, and_true];rw [zR8] at *;exact fun q hq => h.1 q (zfJ.1 hq).1
theorem zAb {α : Type} {k : Nat} {x : α} {l : List (Nat × α)} (h : zaN l = true) : zaN (zr k x l) = true := by
 simp only [zr, zaN, zQ8, zRP, zIY h, and_true];rw [zR8];intro q hq;have := (zfJ.1 hq).2;simpa using this
theorem zAa {α : Type} {l : List (Nat × α)} (h : zaN l = true) {k : Nat} {x : α} (hm : (k, x) ∈ l) : look k l = some x := by
 induction l with
 | nil => cases hm
 | cons p l ih =>
  obtain ⟨j, y⟩ := p;simp only [zaN, zQ8, zRP] at h;simp only [look]
  cases hm with
  | head => simp
  | tail _ hm =>
   rw [zQN, ih h.2 hm];rintro rfl;have := zR8.1 h.1 _ hm;simp at this
theorem zIX {δ H : zb} (h : zaN H = true) : zaN (zR δ H) = true := by
 induction δ with
 | nil => exact h
 | cons p δ ih => exact zAb ih
theorem Lex.nodup {ps : List (List Nat × List Nat)} {S E : St} {l : List zp} (h : Lex F l ps S E) : zaN S.env = true -> zaN S.heap = true -> zaN E.env = true /\ zaN E.heap = true := by
 induction h with
 | nil => exact fun h1 h2 => ⟨h1, h2⟩
 | @cons x _ _ _ S _ v δ _ _ ih =>
  refine fun h1 h2 => ih ?_ ?_
  · unfold ap St.put
    split
    · exact h1
    · exact zAb h1
  · rw [zcI]; exact zIX h2
theorem Rel.same {S E : St} {a : Act} {w : World} {ι : Inj} {R : Nat -> Prop} (h : Rel C S a w ι R) (hs : zbm S E) (h1 : zaN E.env = true) (h2 : zaN E.heap = true) : Rel C E a w ι R := by
 have hm : zf E.heap = zf S.heap := funext fun o => by unfold zf; rw [hs.2 o]
 refine { h with env := fun t x hx => ?_, heap := fun o ob ho => ?_ }
 · rw [hm]; exact h.env t x (zV ((hs.1 t).trans (zAa h1 hx)))
 · rw [hm]; exact h.heap o ob (zV ((hs.2 o).trans (zAa h2 ho)))
theorem zwu {x : zp} {S : St} {v : AV} {δ : zb} {o : Nat} (h : zdS o S) (hv : v.refs o = false) (hh : refsHeap o (zR δ S.heap) = false) : zdS o (ap x S v δ) := by
 refine ⟨?_, by rw [zcI]; exact hh⟩;unfold ap St.put
 split
 · exact h.1
 · rename_i d _
   cases hr : refsEnv o (zr d v S.env) with
   | false => rfl
   | true =>
    exfalso;have : refsEnv o (without d S.env) = false := by
     have h1 := h.1;revert h1;generalize S.env = l
     induction l with
     | nil => intro; rfl
     | cons p l ih =>
      obtain ⟨j, y⟩ := p;intro h1;simp only [refsEnv, zSG] at h1;simp only [without]
      split
      · exact ih h1.2
      · simp [refsEnv, h1.1, ih h1.2]
    simp [zr, refsEnv, hv, this] at hr
theorem zcu.sound (hF : FOK P F) {hs : zk} {Q : Exit -> Act -> World -> Prop} {ops : Array Oper} {l : List zp} {pl : Nat -> List Nat × List Nat} {E : St} (hl : ops.toList.mapM (zcC P hs ops) = some l) (hd : ∀ o ∈ ops.toList, ∀ d, o.dst = some d -> d < C.n)
    (hnews : ∀ (i : Nat) (x : zp), l[i]? = some x -> ∀ n ∈ x.newNames, ∀ (j : Nat) (y : zp), l[j]? = some y -> j ≠ i -> n ∉ y.newNames)
    (hQ : ∀ S a w ι R, zbm S E -> Rel C S a w ι R -> Q .normal a w) :
    ∀ (n : Nat) (listed : Array Bool) (S : St) (a : Act) (w : World) (ι : Inj) (R : Nat -> Prop), zcu F ops l pl E n listed S -> Rel C S a w ι R ->
     (∀ (i : Nat) (x : zp), l[i]? = some x -> listed.getD i true = false -> ∀ n ∈ x.newNames, zdS n S) -> wpAny P .any ops Q n listed a w := by
 intro n
 induction n with
 | zero => intro listed S a w ι R h hr _; exact ⟨h.1, hQ _ _ _ _ _ h.2 hr⟩
 | succ n ih =>
  intro listed S a w ι R h hr hf;refine ⟨fun h0 => hQ _ _ _ _ _ (h.1 h0) hr, fun i hi => ?_⟩;obtain ⟨x, v, δ, hx, hy, hn⟩ := h.2 i hi;obtain ⟨hun, o, ho, _⟩ := mem_ready.1 hi;have hmem : o ∈ ops.toList := by
   have := (zRn.1 ho);obtain ⟨h1, rfl⟩ := this;simp
  have hcx : zcC P hs ops o = some x := (zcr hl).2 i o x (by simpa using ho) hx;unfold wpOp;simp only [ho]
  -- the other new objects' names stay fresh
  have hothers : ∀ (m : Nat) (y : zp), l[m]? = some y -> (listed.setIfInBounds i true).getD m true = false -> ∀ n ∈ y.newNames, zdS n S /\ n ∉ x.newNames := by
   intro m y hm hum n hny;have hmi : m ≠ i := by
    rintro rfl;have hlt : m < ops.size := (zRn.1 ho).1;rw [zSp, Array.getElem?_setIfInBounds_self] at hum;rw [zSp] at hun
    split at hum
    · simp at hum
    · simp at hum
   rw [getD_set_ne true (Ne.symm hmi)] at hum;exact ⟨hf m y hm hum n hny, hnews m y hm n hny i x hx (Ne.symm hmi)⟩
  rcases hy with ⟨hg, hloc⟩ | ⟨hg, rfl, rfl⟩
  · obtain ⟨hop, hno⟩ := hloc.same S ⟨fun _ _ => rfl, fun _ _ => rfl, fun _ _ => rfl⟩ (hf i x hx hun);have hnext : ∀ S' a' w' ι' R', S' = ap x S v δ -> Rel C S' a' w' ι' R' -> wpAny P .any ops Q n (listed.setIfInBounds i true) a' w' := by
     rintro S' a' w' ι' R' rfl hr';refine ih _ _ _ _ _ _ hn hr' fun m y hm hum n hny => ?_;obtain ⟨h2, h3⟩ := hothers m y hm hum n hny;obtain ⟨h4, h5⟩ := hno _ h2 h3;exact zwu h2 h4 h5
    unfold zcC at hcx
    split at hcx
    · cases hcx
    · rename_i op hop'
      split at hcx
      · rename_i hgd
        cases hcx
        have hw : Region.wanted o (yielded ops a.tmps) = true := by simp [Region.wanted, hgd]
        rw [zQO hw];exact .inl (ztH hF hop' (hd _ hmem) hop hr fun a' w' ι' R' hr' => hnext _ a' w' ι' R' rfl hr')
      · rename_i j b hgd;obtain ⟨t, ht, hcx⟩ := zQQ.1 hcx
        cases hcx
        unfold Gd at hg;simp only at hg
        split at hg
        · rename_i c hc;have hyl : yielded ops a.tmps j = some c := by
           obtain ⟨u, h1, h2⟩ := hr.env t _ (zV hc);have := h2.bool_inv;subst this;have hlt : t < 1000000 := by
            obtain ⟨o', ho', ht'⟩ := zQP.1 ht;exact zRD (hd o' (by have := (zRn.1 ho'); obtain ⟨q, rfl⟩ := this; simp) t ht') C.le
           simp only [zcg, zQO hlt] at h1;simp [yielded, ht, h1]
          have hw : Region.wanted o (yielded ops a.tmps) = (c == b) := by simp [Region.wanted, hgd, hyl]
          have : (c == b) = true := by simpa using hg
          rw [zQO (by rw [hw]; exact this)];exact .inl (ztH hF hop' (hd _ hmem) hop hr fun a' w' ι' R' hr' => hnext _ a' w' ι' R' rfl hr')
        · cases hg
        · cases hg
  · have hnext : ∀ S' a' w' ι' R', S' = ap x S (.d (.tup [])) [] -> Rel C S' a' w' ι' R' -> wpAny P .any ops Q n (listed.setIfInBounds i true) a' w' := by
     rintro S' a' w' ι' R' rfl hr';refine ih _ _ _ _ _ _ hn hr' fun m y hm hum n hny => ?_;obtain ⟨h2, h3⟩ := hothers m y hm hum n hny;exact zwu h2 rfl h2.2
    unfold zcC at hcx
    split at hcx
    · cases hcx
    · rename_i op hop'
      split at hcx
      · cases hcx
        simp [Gd] at hg
      · rename_i j b hgd;obtain ⟨t, ht, hcx⟩ := zQQ.1 hcx
        cases hcx
        unfold Gd at hg;simp only at hg
        split at hg
        · rename_i c hc;have hyl : yielded ops a.tmps j = some c := by
           obtain ⟨u, h1, h2⟩ := hr.env t _ (zV hc);have := h2.bool_inv;subst this;have hlt : t < 1000000 := by
            obtain ⟨o', ho', ht'⟩ := zQP.1 ht;exact zRD (hd o' (by have := (zRn.1 ho'); obtain ⟨q, rfl⟩ := this; simp) t ht') C.le
           simp only [zcg, zQO hlt] at h1;simp [yielded, ht, h1]
          have hw : Region.wanted o (yielded ops a.tmps) = (c == b) := by simp [Region.wanted, hgd, hyl]
          have : (c == b) = false := by simpa using hg
          rw [zQN (by rw [hw, this]; simp)];exact hnext _ _ _ _ _ rfl (hr.putO zoM (hd _ hmem))
        · rename_i hc;have hyl : yielded ops a.tmps j = none := by
           obtain ⟨u, h1, h2⟩ := hr.env t _ (zV hc);have := h2.tup0_inv;subst this;have hlt : t < 1000000 := by
            obtain ⟨o', ho', ht'⟩ := zQP.1 ht;exact zRD (hd o' (by have := (zRn.1 ho'); obtain ⟨q, rfl⟩ := this; simp) t ht') C.le
           simp only [zcg, zQO hlt] at h1;simp [yielded, ht, h1]
          have hw : Region.wanted o (yielded ops a.tmps) = false := by simp [Region.wanted, hgd, hyl]
          rw [zQN (by rw [hw]; simp)];exact hnext _ _ _ _ _ rfl (hr.putO zoM (hd _ hmem))
        · cases hg
theorem Rel.drawn {S : St} {a : Act} {w : World} {ι : Inj} {R : Nat -> Prop} (h : Rel C S a w ι R) (n : Nat) : Rel C S a { w with drawn := n } ι R := by
 have hm : ∀ {x : AV} {u : Value}, VA w R ι (zf S.heap) x u -> VA { w with drawn := n } R ι (zf S.heap) x u := fun hv =>
  hv.mono (fun _ h => h) (fun _ _ => rfl) fun o _ => zal.same fun _ _ _ => rfl
 refine { h with os := h.os, tape := h.tape, output := h.output, env := fun t x hx => ?_, heap := fun o ob ho => ?_ }
 · obtain ⟨u, h1, h2⟩ := h.env t x hx;exact ⟨u, h1, hm h2⟩
 · cases h.heap o ob ho with
   | row h1 h2 h3 h4 h5 h6 h7 => exact .row h1 h2 h3 h4 h5 h6 fun i e he j x hx => let ⟨k1, q, k2, k3⟩ := h7 i e he j x hx; ⟨k1, q, k2, hm k3⟩
   | acc h1 h2 h3 h4 h5 h6 => exact .acc h1 h2 h3 h4 h5 h6
   | accN h1 => exact .accN h1
   | frz h => exact .frz h
   | mp h1 h2 h3 h4 h5 h6 => exact .mp h1 h2 h3 h4 h5 fun i k x hi => let ⟨e, k1, k2, k3⟩ := h6 i k x hi; ⟨e, k1, k2, k3.mono_v (fun _ h => h) fun _ _ => rfl⟩
theorem zEb (hF : FOK P F) {hs : zk} {ops : Array Oper} {l : List zp} {S' : St} {Q : Exit -> Act -> World -> Prop} {S : St} {a : Act} {w : World} {ι : Inj} {R : Nat -> Prop} {id : Nat} (hl : ops.toList.mapM (zcC P hs ops) = some l)
    (hok : (P.follows .mixedOrders && zwa ops l) = true) (hd : ∀ o ∈ ops.toList, ∀ d, o.dst = some d -> d < C.n) (hQ : ∀ a w ι R, Rel C S' a w ι R -> Q .normal a w)
    (h : zc6 F l ((List.range ops.size).map (zd5 ops)) S = some S') (hr : Rel C S a w ι R) : (Code.region id ops true).wp P Q a w := by
 unfold zc6 at h
 split at h
 rotate_left
 · cases h
 rename_i hpre;simp only [zQ8] at hpre;obtain ⟨⟨h1, h2⟩, h3⟩ := hpre;have h4 := h;simp only [zQ8] at hok;obtain ⟨hm, hdk⟩ := hok;have hlen : l.length = ops.size := by have := (zcr hl).1; simpa using this
 have hx : ∀ j, j < ops.size -> ∃ o x, ops[j]? = some o /\ l[j]? = some x /\ (∀ e ∈ o.after, Region.binds .any e = true -> e.on < j) /\ (∀ k ∈ zd5 ops j, ∃ y, l[k]? = some y /\ zfi y x = true) /\ x.op.cleanB = true /\
     zpd l ops.size j x = true := by
  intro j hj;have := zRb.1 hdk j (by simpa using hj);have ho : ops[j]? = some ops[j] := zR7 hj;have hy : l[j]? = some (l[j]'(by omega)) := zQ4 _;refine ⟨_, _, ho, hy, ?_⟩;rw [ho, hy] at this;simp only [zQ8] at this;obtain ⟨⟨⟨c1, c2⟩, c3⟩, c4⟩ := this;refine ⟨fun e he hb => ?_, fun k hk => ?_, c3, c4⟩
  · have := zRb.1 c1 e (by simpa using he);simpa [hb] using this
  · have := zRb.1 c2 k hk
    split at this
    · rename_i y hy'; exact ⟨y, hy', this⟩
    · cases this
 have hclean : ∀ x ∈ l, x.op.cleanB = true := fun x hmx => by
  obtain ⟨j, hj⟩ := zRu hmx;have hlt := (zQ6.1 hj).1;obtain ⟨o, x', _, h6, _, _, h7, _⟩ := hx j (by omega);rw [hj] at h6; cases h6; exact h7
 obtain ⟨ps, hlex, hps, hclash⟩ := zEO hF l _ [] S S' hclean h4
 let pl : Nat -> List Nat × List Nat := fun i => (ps[i]?).getD ([], [])
 have hE := hlex.nodup h1 h2;refine wp_region_any hm (zcu.sound (C := C) (l := l) (pl := pl) (E := S') hF hl hd ?_ (fun S1 a' w' ι' R' hs hr' => hQ _ _ _ _ (hr'.same hs hE.1 hE.2)) _ _ _ _ _ _ _ ?_ (hr.drawn _) ?_)
 · intro i x hi n hn j y hj hji hny;have hlt := (zQ6.1 hi).1;have hlt' := (zQ6.1 hj).1;obtain ⟨o, x', _, h6, _, _, _, h8⟩ := hx i (by omega);rw [hi] at h6; cases h6;obtain ⟨o', y', _, h6', _, _, _, h8'⟩ := hx j (by omega);rw [hj] at h6'; cases h6';have ne1 : x.newNames.isEmpty = false := by cases hq : x.newNames with | nil => rw [hq] at hn; cases hn | cons => rfl
   have ne2 : y.newNames.isEmpty = false := by cases hq : y.newNames with | nil => rw [hq] at hny; cases hny | cons => rfl
   simp only [zpd, ne1, ne2, zR6] at h8 h8'
   split at h8
   · rename_i d hd1
     split at h8'
     · rename_i d' hd2;simp only [zQ8, decide_eq_true_eq] at h8 h8';have h9 := zRb.1 h8.2 j (by simp; omega);rw [hj] at h9;simp only [ne2, zR6, zRM, beq_iff_eq, hji, false_or, hd2, zRP, beq_eq_false_iff_ne, ne_eq, Option.some.injEq] at h9;have sub : ∀ (z : zp) (e m : Nat), z.dst = some e -> m ∈ z.newNames -> m = e \/ m = e + 10000 \/ m = e + 20000 \/ m = e + 30000 := by
        intro z e m he hm;unfold zp.newNames at hm;rw [he] at hm;simp only [zSk] at hm
        split at hm
        · simpa [fr4] using hm
        · simpa [fr4] using hm
        · split at hm
          · simp at hm; exact .inl hm
          · cases hm
       have k1 := sub x d n hd1 hn;have k2 := sub y d' n hd2 hny;omega
     · cases h8'
   · cases h8
 · rw [<- hlen];refine zHV (F := F) ?_ hlen.symm ?_ (fun j o ho e he hb => ?_) l ps 0 _ S (by simp) (fun j hj => ?_) (by simp) (by simp) (by omega) (fun i _ hi => ?_) hlex
   · intro k listed hk hls hun;obtain ⟨o, x, ho, _, h6, _⟩ := hx k (by omega);exact mem_ready.2 ⟨hun, o, ho, fun e he hb => hls _ (h6 e he hb)⟩
   · intro k j o x y hkj ho hk hj hno;have hjl := (zRn.1 ho).1;obtain ⟨o', y', ho', hy', _, h7, _⟩ := hx j hjl;rw [ho] at ho'; cases ho';rw [hj] at hy'; cases hy';have hfree : k ∈ zd5 ops j := zIv hkj hno;obtain ⟨x', hx', hap⟩ := h7 k hfree;rw [hk] at hx'; cases hx';refine ⟨hap, ?_⟩;have hpj : ps[j]? = some (pl j) := by
      have : j < ps.length := by omega
      simp [pl, this]
     have hpk : ps[k]? = some (pl k) := by
      have : k < ps.length := by omega
      simp [pl, this]
     have := hclash j (pl j) hpj;have hfrj : (((List.range ops.size).map (zd5 ops))[j]?).getD [] = zd5 ops j := by simp [hjl]
     rw [hfrj, zSM] at this;have := zRb.1 this k hfree;rw [zSH hkj, hpk] at this;exact this
   · obtain ⟨o', _, ho', _, h6, _⟩ := hx j (zRn.1 ho).1;rw [ho] at ho'; cases ho';exact h6 e he hb
   · simp [pl, show j < ps.length by omega]
   · rw [Array.getElem?_replicate, zQO (by omega)]
 · intro i x hi _ n hn;have := zRb.1 (zRb.1 h3 x (zQ9 hi)) n hn;simpa [zdS] using this
end Go.Sim

namespace Go.Sim
open Go (World Value Addr TypeId Act)
variable {P : Program} {C : Ctx} {F : zaa}
def zeK {α : Type} (p : Nat × α) : List (Nat × α) -> List (Nat × α)
 | [] => [p]
 | q :: l => if p.1 <= q.1 then p :: q :: l else q :: zeK p l
def zbC {α : Type} : List (Nat × α) -> List (Nat × α)
 | [] => []
 | p :: l => zeK p (zbC l)
def gc (E : Env) (H : zb) : zb -> zb
 | [] => []
 | p :: l => if (refsEnv p.1 E || refsHeap p.1 H) = true then p :: gc E H l else gc E H l
def gc1 (E : Env) (H : zb) : zb := gc E H H
def zeL (ks : List Nat) : Env -> Env
 | [] => []
 | p :: l => if (ks.contains p.1 || decide (1000000 <= p.1)) = true then p :: zeL ks l else zeL ks l
def gcS (S : St) : St := ⟨S.env, gc1 S.env S.heap⟩
def endS (ks : List Nat) (S : St) : St := gcS ⟨zbC (zeL ks S.env), S.heap⟩
def zoA (H : zb) : zb := if zaN H = true then zbC H else H
def zlw : AV -> AV
 | .xsl es => .d (.sl es)
 | .d x => .d x
 | .ref o i off => .ref o i off
 | .osl o off len => .osl o off len
 | .acc o es => .acc o es
 | .pe o x => .pe o x
 | .agg cs => .agg cs
 | .tup vs => .tup vs
 | .fn f cs => .fn f cs
 | .nl b => .nl b
 | .mpr o => .mpr o
 | .undef => .undef
def deX : Env -> Env
 | [] => []
 | (t, x) :: l => (t, zlw x) :: deX l
theorem zDF {w : World} {R : Nat -> Prop} {ι : Inj} {mk : Nat -> Option Nat} {x : AV} {u : Value} (h : VA w R ι mk x u) : VA w R ι mk (zlw x) u := by
 cases x with
 | xsl es => cases h with | xsl h => exact .d h
 | _ => exact h
theorem zIu {t : Nat} {y : AV} : ∀ {E : Env}, (t, y) ∈ deX E -> ∃ x, (t, x) ∈ E /\ y = zlw x := by
 intro E
 induction E with
 | nil => intro h; cases h
 | cons p l ih =>
  intro h
  cases h with
  | head => exact ⟨p.2, .head _, rfl⟩
  | tail _ h => obtain ⟨x, h1, h2⟩ := ih h; exact ⟨x, .tail _ h1, h2⟩
def norm1 (S : St) : St := ⟨zbC (deX S.env), zoA (gc1 S.env (gc1 S.env S.heap))⟩
def norm (ks : List Nat) (S : St) : St := norm1 ⟨zc9 ks S.env, S.heap⟩
theorem zIw {α : Type} {p q : Nat × α} {l : List (Nat × α)} : q ∈ zeK p l ↔ q = p \/ q ∈ l := by
 induction l with
 | nil => simp [zeK]
 | cons r l ih =>
  simp only [zeK]
  split
  · simp
  · simp only [zRs, ih];constructor
    · rintro (h | h | h)
      · exact .inr (.inl h)
      · exact .inl h
      · exact .inr (.inr h)
    · rintro (h | h | h)
      · exact .inr (.inl h)
      · exact .inl h
      · exact .inr (.inr h)
theorem zke {α : Type} {q : Nat × α} {l : List (Nat × α)} : q ∈ zbC l ↔ q ∈ l := by
 induction l with
 | nil => simp [zbC]
 | cons p l ih => simp [zbC, zIw, ih]
theorem zH6 {α : Type} {k : Nat} {p : Nat × α} {l : List (Nat × α)} (h : ∀ x, (p.1, x) ∉ l) : look k (zeK p l) = if p.1 = k then some p.2 else look k l := by
 induction l with
 | nil => rfl
 | cons r l ih =>
  have hr : r.1 ≠ p.1 := fun e => h r.2 (by rw [<- e]; exact .head _);simp only [zeK]
  split
  · rfl
  · simp only [look];rw [ih fun x hx => h x (.tail _ hx)]
    by_cases e : r.1 = k
    · rw [zQO e, zQO e, zQN (by omega)]
    · rw [zQN e, zQN e]
theorem zGi {E : Env} {H l : zb} {p : Nat × Obj} : p ∈ gc E H l ↔ p ∈ l /\ (refsEnv p.1 E || refsHeap p.1 H) = true := by
 induction l with
 | nil => simp [gc]
 | cons q l ih =>
  simp only [gc]
  split
  · rename_i h;simp only [zRs, ih];constructor
    · rintro (rfl | ⟨h1, h2⟩)
      · exact ⟨.inl rfl, h⟩
      · exact ⟨.inr h1, h2⟩
    · rintro ⟨rfl | h1, h2⟩
      · exact .inl rfl
      · exact .inr ⟨h1, h2⟩
  · rename_i h;simp only [zRs, ih];constructor
    · rintro ⟨h1, h2⟩; exact ⟨.inr h1, h2⟩
    · rintro ⟨rfl | h1, h2⟩
      · exact absurd h2 h
      · exact ⟨h1, h2⟩
theorem zH5 {E : Env} {H l : zb} {o : Nat} (h : (refsEnv o E || refsHeap o H) = true) : look o (gc E H l) = look o l := by
 induction l with
 | nil => rfl
 | cons q l ih =>
  simp only [gc]
  by_cases hq : (refsEnv q.1 E || refsHeap q.1 H) = true
  · rw [zQO hq]; simp only [look, ih]
  · rw [zQN hq, ih];simp only [look];rw [zQN];intro e; rw [e] at hq; exact hq h
theorem Rel.gc {S : St} {a : Act} {w : World} {ι : Inj} {R : Nat -> Prop} (h : Rel C S a w ι R) : Rel C ⟨S.env, gc1 S.env S.heap⟩ a w ι R := by
 have hm : ∀ p, (refsEnv p S.env || refsHeap p S.heap) = true -> zf (gc1 S.env S.heap) p = zf S.heap p := fun p hp => by
  unfold zf gc1; rw [zH5 hp]
 have hst : ∀ p, (refsEnv p S.env || refsHeap p S.heap) = true -> zal w w ι ι (zf S.heap) (zf (gc1 S.env S.heap)) p := fun p hp => zal.other rfl (hm p hp) fun _ _ _ => rfl;have env1 : ∀ {t x p}, (t, x) ∈ S.env -> x.refs p = true -> refsEnv p S.env = true := fun {t x p} hx hp => by
  cases hh : refsEnv p S.env with
  | true => rfl
  | false => rw [zks hx hh] at hp; cases hp
 have heap1 : ∀ {t x p}, (t, x) ∈ S.heap -> x.refs p = true -> refsHeap p S.heap = true := fun {t x p} hx hp => by
  cases hh : refsHeap p S.heap with
  | true => rfl
  | false => rw [zed hx hh] at hp; cases hp
 refine { h with env := fun t x hx => ?_, heap := fun q ob hq => ?_ }
 · obtain ⟨u, h1, h2⟩ := h.env t x hx;exact ⟨u, h1, h2.mono (fun _ h => h) (fun _ _ => rfl) fun p hp => hst p (by rw [env1 hx hp]; rfl)⟩
 · have hq' := (zGi.1 hq).1;exact (h.heap q ob hq').mono (fun _ h => h) (fun _ _ => rfl) (fun _ _ hb => ⟨hb, rfl, fun h => h⟩) (fun h => h) fun p hp => hst p (by rw [heap1 hq' hp, zTp])
theorem zIx {ks : List Nat} {E : Env} {p : Nat × AV} (h : p ∈ zeL ks E) : p ∈ E := by
 induction E with
 | nil => cases h
 | cons q l ih =>
  simp only [zeL] at h
  split at h
  · cases h with
    | head => exact .head _
    | tail _ h => exact .tail _ (ih h)
  · exact .tail _ (ih h)
theorem Rel.endS {S : St} {a : Act} {w : World} {ι : Inj} {R : Nat -> Prop} (h : Rel C S a w ι R) (ks : List Nat) : Rel C (endS ks S) a w ι R := by
 have h1 : Rel C ⟨zbC (zeL ks S.env), S.heap⟩ a w ι R := h.weaken fun t x hx => zIx (zke.1 hx);exact h1.gc
theorem zIp {H : zb} {o : Nat} (hn : zaN H = true) : zf (zbC H) o = zf H o := by
 have : look o (zbC H) = look o H := by
  induction H with
  | nil => rfl
  | cons p l ih =>
   obtain ⟨k, ob⟩ := p;simp only [zaN, zQ8, zRP] at hn;simp only [zbC];rw [zH6, ih hn.2]
   · rfl
   · intro x hx;rw [zke] at hx;have := zR8.1 hn.1 _ hx;simp at this
 unfold zf; rw [this]
theorem Rel.sorted {S : St} {a : Act} {w : World} {ι : Inj} {R : Nat -> Prop} (h : Rel C S a w ι R) (hn : zaN S.heap = true) : Rel C ⟨zbC S.env, zbC S.heap⟩ a w ι R := by
 have hm : zf (zbC S.heap) = zf S.heap := funext fun o => zIp hn;refine { h with env := fun t x hx => ?_, heap := fun q ob hq => ?_ }
 · rw [hm]; exact h.env t x (zke.1 hx)
 · rw [hm]; exact h.heap q ob (zke.1 hq)
theorem Rel.norm1 {S : St} {a : Act} {w : World} {ι : Inj} {R : Nat -> Prop} (h : Rel C S a w ι R) : Rel C (norm1 S) a w ι R := by
 have h0 : Rel C ⟨S.env, gc1 S.env (gc1 S.env S.heap)⟩ a w ι R := (h.gc).gc;have h1 : Rel C ⟨deX S.env, gc1 S.env (gc1 S.env S.heap)⟩ a w ι R := by
  refine { h0 with env := fun t x hx => ?_ };obtain ⟨y, hy, rfl⟩ := zIu hx;obtain ⟨u, h2, h3⟩ := h0.env t y hy;exact ⟨u, h2, zDF h3⟩
 unfold Go.Sim.norm1 zoA
 split
 · rename_i hn; exact h1.sorted hn
 · exact { h1 with env := fun t x hx => h1.env t x (zke.1 hx) }
theorem Rel.norm {S : St} {a : Act} {w : World} {ι : Inj} {R : Nat -> Prop} (h : Rel C S a w ι R) (ks : List Nat) : Rel C (norm ks S) a w ι R := (h.kill ks).norm1
def zb1 (n : Nat) : Code -> Bool
 | .region _ ops _ => ops.toList.all fun o => match o.dst with | none => true | some d => d < n
 | .seq a b => zb1 n a && zb1 n b
 | .cond _ a b => zb1 n a && zb1 n b
 | .block _ b => zb1 n b
 | .loop b => zb1 n b
 | _ => true
theorem zBo {n id : Nat} {ops : Array Oper} {d : Bool} (h : zb1 n (.region id ops d) = true) : ∀ o ∈ ops.toList, ∀ d, o.dst = some d -> d < n := by
 intro o ho d hd;have := zRb.1 h o ho;simpa [hd] using this
def zaw (F : zaa) : List zp -> St -> Option St
 | [], S => some S
 | o :: l, S =>
  match o.guard with
  | none => (zbN F o S).bind (zaw F l)
  | some (t, b) =>
   match look t S.env with
   | some (.d (.bool c)) => if c = b then (zbN F o S).bind (zaw F l) else zaw F l (S.put o.dst (.d (.tup [])))
   | some (.d (.tup [])) => zaw F l (S.put o.dst (.d (.tup [])))
   | _ => none
def zfB (ks : List Nat) (S : St) : zJ × St := (.normal, ⟨zc9 ks S.env, S.heap⟩)
def zee (g : St -> Option (zJ × St)) (p : zJ × St) : Option (zJ × St) := match p.1 with | .normal => g p.2 | .exit i => some (.exit i, p.2) | .ret => some (.ret, p.2)
def zfj (id : Nat) (p : zJ × St) : zJ × St := match p.1 with | .exit i => if i = id then (.normal, p.2) else (.exit i, p.2) | .normal => (.normal, p.2) | .ret => (.ret, p.2)
def zbA (ks : List Nat) (g : St -> Option (zJ × St)) (p : zJ × St) : Option (zJ × St) := match p.1 with | .normal => g (norm ks p.2) | .exit i => some (.exit i, p.2) | .ret => some (.ret, p.2)
def zcb (ks : List Nat) (body : St -> Option (zJ × St)) : Nat -> St -> Option (zJ × St)
 | 0, _ => none
 | k + 1, S => (body S).bind (zbA ks (zcb ks body k))
def zeu (c : AV) (x y : Option (zJ × St)) : Option (zJ × St) := match c with | .d (.bool b) => if b = true then x else y | _ => none
def zaS (F : zaa) (n : Nat) : zh -> St -> Option (zJ × St)
 | .skip, S => some (.normal, S)
 | .ops gs l ks, S => ((zcG gs S).bind (zaw F l)).map (zfB ks)
 | .draw gs l fr ks, S => ((zcG gs S).bind (zc6 F l fr)).map (zfB ks)
 | .seq x y, S => (zaS F n x S).bind (zee (zaS F n y))
 | .cond c x y, S => zeu (c.ev S.env) (zaS F n x S) (zaS F n y S)
 | .block id x, S => (zaS F n x S).map (zfj id)
 | .loop ks x, S => zcb ks (zaS F n x) n (norm ks S)
 | .exit id ks, S => some (.exit id, endS ks S)
 | .ret ks, S => some (.ret, endS ks S)
def zfw : Code -> Nat
 | .region id _ _ => id
 | .seq a _ => zfw a
 | .block _ b => zfw b
 | .loop b => zfw b
 | _ => 1000000
def comp (P : Program) (hs : zk) : Code -> Option zh
 | .skip => some .skip
 | .region id ops false => (ops.toList.mapM (zcC P hs ops)).map fun l => .ops (zb8 hs.ghost id) l (zb8 hs.kill id)
 | .region id ops true => (ops.toList.mapM (zcC P hs ops)).bind fun l => if P.follows .mixedOrders && zwa ops l then some (.draw (zb8 hs.ghost id) l ((List.range ops.size).map (zd5 ops)) (zb8 hs.kill id)) else none
 | .seq a b => match comp P hs a, comp P hs b with | some x, some y => some (.seq x y) | _, _ => none
 | .cond c t e => match opd c, comp P hs t, comp P hs e with | some z, some x, some y => some (.cond z x y) | _, _, _ => none
 | .block id b => (comp P hs b).map (.block id)
 | .loop b => (comp P hs b).map (.loop (zb8 hs.loop (zfw b)))
 | .exit id => some (.exit id (zb8 hs.exit id))
 | .ret => some (.ret hs.ret)
 | _ => none
def zua (C : Ctx) (e : zJ) (S : St) : Exit -> Act -> World -> Prop := fun ex a w => ex = Out e /\ ∃ ι R, Rel C S a w ι R
theorem zEP (hF : FOK P F) {hs : zk} {ops : Array Oper} {Q : Exit -> Act -> World -> Prop} {S' : St} (hn : ∀ a w ι R, Rel C S' a w ι R -> Q .normal a w) (hd : ∀ o ∈ ops.toList, ∀ d, o.dst = some d -> d < C.n) :
    ∀ (l : List zp) (k : Nat), (ops.toList.drop k).mapM (zcC P hs ops) = some l -> ∀ (S : St) (a : Act) (w : World) (ι : Inj) (R : Nat -> Prop), zaw F l S = some S' -> Rel C S a w ι R -> wpOps P ops Q (List.range' k (ops.size - k)) a w := by
 intro l
 induction l with
 | nil =>
  intro k hk S a w ι R h hr;have hlen := (zcr hk).1;simp at hlen;have : ops.size - k = 0 := by simpa using hlen.symm
  rw [this]
  cases h
  exact hn a w ι R hr
 | cons x l ih =>
  intro k hk S a w ι R h hr;obtain ⟨hl, hg⟩ := zcr hk;have hlt : k < ops.size := by simp at hl; omega
  have hsz : ops.size - k = (ops.size - (k + 1)) + 1 := by omega
  have hok : ops[k]? = some ops[k] := zR7 hlt;have hx := hg 0 ops[k] x (by simp [hlt]) rfl;have hk' : (ops.toList.drop (k + 1)).mapM (zcC P hs ops) = some l := by
   have hdrop : ops.toList.drop k = ops[k] :: ops.toList.drop (k + 1) := by
    rw [zRH (by simpa using hlt)]; simp
   rw [hdrop, zSn] at hk;simp only [zRi, zRj] at hk;obtain ⟨y, _, hk⟩ := zQP.1 hk;obtain ⟨ys, hys, hk⟩ := zQP.1 hk
   cases hk; exact hys
  have hmem : ops[k] ∈ ops.toList := by simp
  rw [hsz, zR4];simp only [wpOps, hok];have take : ∀ {x0 : AOp} {g : Option (Nat × Bool)}, zI P ops[k].op = some x0 -> x = ⟨ops[k].dst, hint hs ops[k].dst x0, g⟩ -> (zbN F x S).bind (zaw F l) = some S' -> ops[k].wp P a w (fun a' w' => wpOps P ops Q (List.range' (k + 1) (ops.size - (k + 1))) a' w') Q := by
   intro x0 g hop hxe hb;obtain ⟨S1, h1, h2⟩ := zQP.1 hb;obtain ⟨⟨v, H'⟩, h3, h4⟩ := zQQ.1 h1;subst hxe;subst h4;exact ztH hF hop (hd _ hmem) h3 hr fun a' w' ι' R' hr' => ih (k + 1) hk' _ a' w' ι' R' h2 hr'
  unfold zcC at hx
  split at hx
  · cases hx
  · rename_i op hop
    split at hx
    · rename_i hgd
      cases hx
      simp only [zaw] at h;have hw : Region.wanted ops[k] (yielded ops a.tmps) = true := by simp [Region.wanted, hgd]
      rw [zQO hw];exact .inl (take hop rfl h)
    · rename_i j b hgd;obtain ⟨t, ht, hx⟩ := zQQ.1 hx
      cases hx
      simp only [zaw] at h
      split at h
      · rename_i c hc;have hy : yielded ops a.tmps j = some c := by
         obtain ⟨u, h1, h2⟩ := hr.env t _ (zV hc);have := h2.bool_inv;subst this;have hlt : t < 1000000 := by
          obtain ⟨o', ho', ht'⟩ := zQP.1 ht;exact zRD (hd o' (by have := (zRn.1 ho'); obtain ⟨q, rfl⟩ := this; simp) t ht') C.le
         simp only [zcg, zQO hlt] at h1;simp [yielded, ht, h1]
        have hw : Region.wanted ops[k] (yielded ops a.tmps) = (c == b) := by simp [Region.wanted, hgd, hy]
        by_cases hcb : c = b
        · rw [zQO (by rw [hw]; simpa using hcb)];rw [zQO hcb] at h;exact .inl (take hop rfl h)
        · rw [zQN (by rw [hw]; simpa using hcb)];rw [zQN hcb] at h;exact ih (k + 1) hk' _ _ _ _ _ h (hr.putO zoM (hd _ hmem))
      · rename_i hc;have hy : yielded ops a.tmps j = none := by
         obtain ⟨u, h1, h2⟩ := hr.env t _ (zV hc);have := h2.tup0_inv;subst this;have hlt : t < 1000000 := by
          obtain ⟨o', ho', ht'⟩ := zQP.1 ht;exact zRD (hd o' (by have := (zRn.1 ho'); obtain ⟨q, rfl⟩ := this; simp) t ht') C.le
         simp only [zcg, zQO hlt] at h1;simp [yielded, ht, h1]
        have hw : Region.wanted ops[k] (yielded ops a.tmps) = false := by simp [Region.wanted, hgd, hy]
        rw [zQN (by rw [hw]; simp)];exact ih (k + 1) hk' _ _ _ _ _ h (hr.putO zoM (hd _ hmem))
      · cases h
theorem zEQ (hF : FOK P F) {hs : zk} {n : Nat} : ∀ (c : Code) {x : zh} {S : St} {e : zJ} {S' : St} {a : Act} {w : World} {ι : Inj} {R : Nat -> Prop}, comp P hs c = some x -> zb1 C.n c = true -> zaS F n x S = some (e, S') -> Rel C S a w ι R ->
    c.wp P (zua C e S') a w := by
 intro c
 induction c with
 | skip => intro x S e S' a w ι R hc _ h hr; simp only [comp, Option.some.injEq] at hc; subst hc; cases h; exact wp_skip ⟨rfl, ι, R, hr⟩
 | exit id => intro x S e S' a w ι R hc _ h hr; simp only [comp, Option.some.injEq] at hc; subst hc; cases h; exact wp_exit ⟨rfl, ι, R, hr.endS _⟩
 | ret => intro x S e S' a w ι R hc _ h hr; simp only [comp, Option.some.injEq] at hc; subst hc; cases h; exact wp_ret ⟨rfl, ι, R, hr.endS _⟩
 | region id ops d =>
  intro x S e S' a w ι R hc hs' h hr
  cases d with
  | false =>
   obtain ⟨l, hl, rfl⟩ := zQQ.1 hc;simp only [zaS] at h;obtain ⟨S2, h, h3⟩ := zQQ.1 h;obtain ⟨S1, h1, h2⟩ := zQP.1 h
   cases h3
   refine wp_region ?_;obtain ⟨ι1, R1, hr1⟩ := zxD h1 hr;have := zEP hF (C := C) (Q := zua C .normal ⟨zc9 (zb8 hs.kill id) S2.env, S2.heap⟩) (fun a' w' ι' R' h2 => ⟨rfl, ι', R', h2.kill _⟩) (zBo hs') l 0 (by simpa using hl) S1 a w ι1 R1 h2 hr1;rw [zTs];simpa using this
  | true =>
   obtain ⟨l, hl, hc⟩ := zQP.1 hc
   split at hc
   · rename_i hok
     cases hc
     simp only [zaS] at h;obtain ⟨S2, h, h3⟩ := zQQ.1 h;obtain ⟨S1, h1, h2⟩ := zQP.1 h
     cases h3
     obtain ⟨ι1, R1, hr1⟩ := zxD h1 hr;exact zEb hF hl hok (zBo hs') (fun a' w' ι' R' h2 => ⟨rfl, ι', R', h2.kill _⟩) h2 hr1
   · cases hc
 | seq c1 c2 ih1 ih2 =>
  intro x S e S' a w ι R hc hs' h hr;simp only [comp] at hc
  split at hc
  · rename_i x1 x2 h1 h2
    cases hc
    simp only [zb1, zQ8] at hs';simp only [zaS] at h;obtain ⟨⟨e1, S1⟩, h3, h4⟩ := zQP.1 h;refine wp_seq (wp_mono (ih1 h1 hs'.1 h3 hr) ?_);rintro ex a' w' ⟨rfl, ι', R', hr'⟩
    cases e1 with
    | normal => exact ih2 h2 hs'.2 h4 hr'
    | exit i => cases h4; exact ⟨rfl, ι', R', hr'⟩
    | ret => cases h4; exact ⟨rfl, ι', R', hr'⟩
  · cases hc
 | cond c t el ih1 ih2 =>
  intro x S e S' a w ι R hc hs' h hr;simp only [comp] at hc
  split at hc
  · rename_i z x1 x2 h0 h1 h2
    cases hc
    simp only [zb1, zQ8] at hs';simp only [zaS] at h;have hv := hr.ev h0;unfold zeu at h
    split at h
    · rename_i b hb;rw [hb] at hv;refine wp_cond_split hv.bool_inv (fun hb' => ih1 h1 hs'.1 (by rw [zQO hb'] at h; exact h) hr) (fun hb' => ih2 h2 hs'.2 (by rw [zQN (by simp [hb'])] at h; exact h) hr)
    · cases h
  · cases hc
 | block id b ih =>
  intro x S e S' a w ι R hc hs' h hr;obtain ⟨y, hy, rfl⟩ := zQQ.1 hc;simp only [zaS] at h;obtain ⟨⟨e1, S1⟩, h1, h2⟩ := zQQ.1 h;refine wp_block (wp_mono (ih hy hs' h1 hr) ?_);rintro ex a' w' ⟨rfl, ι', R', hr'⟩
  cases e1 with
  | normal => cases h2; exact ⟨rfl, ι', R', hr'⟩
  | exit i =>
   simp only [zfj] at h2;simp only [Out, Exit.inBlock]
   split
   · rename_i e; rw [zQO e] at h2; cases h2; exact ⟨rfl, ι', R', hr'⟩
   · rename_i e; rw [zQN e] at h2; cases h2; exact ⟨rfl, ι', R', hr'⟩
  | ret => cases h2; exact ⟨rfl, ι', R', hr'⟩
 | loop b ih =>
  intro x S e S' a w ι R hc hs' h hr;obtain ⟨y, hy, rfl⟩ := zQQ.1 hc;simp only [zaS] at h;refine wp_loop_ghost (fun k a w => ∃ S ι R, zcb (zb8 hs.loop (zfw b)) (zaS F n y) k S = some (e, S') /\ Rel C S a w ι R) n ⟨_, ι, R, h, hr.norm _⟩ ?_;rintro k a1 w1 ⟨S1, ι1, R1, h1, hr1⟩
  cases k with
  | zero => simp [zcb] at h1
  | succ k =>
   simp only [zcb] at h1;obtain ⟨⟨e2, S2⟩, h2, h3⟩ := zQP.1 h1;refine wp_mono (ih hy hs' h2 hr1) ?_;rintro ex a' w' ⟨rfl, ι', R', hr'⟩
   cases e2 with
   | normal => exact ⟨k, by omega, _, ι', R', h3, hr'.norm _⟩
   | exit i => cases h3; exact ⟨rfl, ι', R', hr'⟩
   | ret => cases h3; exact ⟨rfl, ι', R', hr'⟩
 | _ => intro x S e S' a w ι R hc; simp [comp] at hc
end Go.Sim
