/-
  Equality of structs and arrays of numbers, bools and strings.
-/
import Derived.Test.YtgjlpcbolldhhaaGreatBaf8b9cd
set_option linter.unusedSimpArgs false
set_option linter.unusedVariables false
set_option maxHeartbeats 10000000
set_option maxRecDepth 100000
namespace Go.Sim
open Go (World Value Addr TypeId Act)
variable {P : Program} {C : Ctx} {S : St} {a : Act} {w : World} {ι : Inj} {R : Nat -> Prop}
theorem zB1 {f : Field} {fs : List Field} {n off : Nat} {d : Nat} {ls : List (Nat × Nat)} (h : zcR P n (zaV P d) off (f :: fs) = some ls) :
    f.name ≠ "_" /\ ∃ m l1 l2, zA P f.type = some m /\ f.offset + m <= n /\ m ≠ 0 /\ zaV P d f.type (off + f.offset) = some l1 /\ zcR P n (zaV P d) off fs = some l2 /\ ls = l1 ++ l2 := by
 simp only [zcR] at h
 split at h
 · rename_i m h1
   split at h
   · rename_i hc;obtain ⟨l1, h2, h⟩ := zKK.1 h;obtain ⟨l2, h3, rfl⟩ := zKL.1 h;exact ⟨hc.1, m, l1, l2, h1, hc.2.1, hc.2.2, h2, h3, rfl⟩
   · cases h
 · cases h
def zag (ag : Bool) (n off : Nat) (X : Array Value) : Value := if ag then .agg (X.extract off (off + n)) else X.getD off Go.undef
def zdt (X Y : Array Value) (l : Nat × Nat) : Option Bool :=
 match l.2, X[l.1]?, Y[l.1]? with
 | 0, some (.int k x), some (.int k' y) => if k = k' then some (x == y) else none
 | 1, some (.bool x), some (.bool y) => some (x == y)
 | 2, some (.string x), some (.string y) => some (x == y)
 | _, _, _ => none
def zaM (X Y : Array Value) : List (Nat × Nat) -> Option Bool
 | [] => some true
 | l :: ls => (zdt X Y l).bind fun x => (zaM X Y ls).map (x && ·)
theorem zrU {X Y : Array Value} {l1 l2 : List (Nat × Nat)} : ∀ {r : Bool}, zaM X Y (l1 ++ l2) = some r -> ∃ r1 r2, zaM X Y l1 = some r1 /\ zaM X Y l2 = some r2 /\ r = (r1 && r2) := by
 induction l1 with
 | nil => intro r h; exact ⟨true, r, rfl, h, by simp⟩
 | cons l ls ih =>
  intro r h;simp only [zLW, zaM] at h;obtain ⟨x, hx, h⟩ := zKK.1 h;obtain ⟨y, hy, rfl⟩ := zKL.1 h;obtain ⟨r1, r2, h1, h2, rfl⟩ := ih hy;exact ⟨x && r1, r2, by simp [zaM, hx, h1], h2, by simp [Bool.and_assoc]⟩
theorem zf3 {t : TypeId} {ag : Bool} {n m off o : Nat} {X : Array Value} (hag : zM P t = some ag) (hm : zA P t = some m) (ho : o + m <= n) (hX : off + n <= X.size) (h0 : m ≠ 0) :
    (part t (X.extract off (off + n)) o).run P w = .ok (zag ag m (off + o) X) w := by
 unfold part zag;simp only [Sem.run_bind, zep hag, Result.andThen_ok]
 cases ag with
 | true =>
  simp only [if_true, Sem.run_bind, za1 hm, Result.andThen_ok, Sem.run_pure]
  congr 2
  rw [Array.extract_extract]
  congr 1
  all_goals omega
 | false =>
  have h1 : (X.extract off (off + n))[o]? = some (X.getD (off + o) Go.undef) := by
   rw [Array.getElem?_extract_of_lt (by omega)];simp [zLH, show off + o < X.size by omega]
  simp [h1]
theorem zyy {t : TypeId} (hu : P.underlying t = some .bool) (k : Nat) (x y : Bool) : (Op.equalIn (k + 1) t (.bool x) (.bool y)).run P w = .ok (x == y) w := by
 unfold Op.equalIn;simp only [Sem.run_bind, run_underlying hu, Result.andThen_ok, Sem.run_pure]
theorem zyz {t : TypeId} {kk : IntKind} (hu : P.underlying t = some (.int kk)) (k : Nat) (j : IntKind) (x y : Int) : (Op.equalIn (k + 1) t (.int j x) (.int j y)).run P w = .ok (x == y) w := by
 unfold Op.equalIn;simp only [Sem.run_bind, run_underlying hu, Result.andThen_ok, if_true, Sem.run_pure]
theorem zyA {t : TypeId} (hu : P.underlying t = some .string) (k : Nat) (x y : ByteArray) : (Op.equalIn (k + 1) t (.string x) (.string y)).run P w = .ok (x == y) w := by
 unfold Op.equalIn;simp only [Sem.run_bind, run_underlying hu, Result.andThen_ok, Sem.run_pure]
theorem zhG {X Y : Array Value} {l k : Nat} {r : Bool} (h : zdt X Y (l, k) = some r) :
    (k = 0 /\ ∃ j x y, X.getD l Go.undef = .int j x /\ Y.getD l Go.undef = .int j y /\ r = (x == y)) \/ (k = 1 /\ ∃ x y, X.getD l Go.undef = .bool x /\ Y.getD l Go.undef = .bool y /\ r = (x == y)) \/
    (k = 2 /\ ∃ x y, X.getD l Go.undef = .string x /\ Y.getD l Go.undef = .string y /\ r = (x == y)) := by
 unfold zdt at h;simp only [zLH]
 split at h
 · rename_i h1 h2 h3;simp only at h1 h2 h3
   split at h
   · rename_i e; subst e; cases h; exact .inl ⟨h1, _, _, _, by rw [h2]; rfl, by rw [h3]; rfl, rfl⟩
   · cases h
 · rename_i h1 h2 h3;simp only at h1 h2 h3
   cases h; exact .inr (.inl ⟨h1, _, _, by rw [h2]; rfl, by rw [h3]; rfl, rfl⟩)
 · rename_i h1 h2 h3;simp only at h1 h2 h3
   cases h; exact .inr (.inr ⟨h1, _, _, by rw [h2]; rfl, by rw [h3]; rfl, rfl⟩)
 · cases h
theorem zrb {α : Type} (body : α -> Option Bool × PUnit -> Sem (ForInStep (Option Bool × PUnit))) (res : α -> Bool) : ∀ (l : List α), (∀ x ∈ l, (body x (none, ())).run P w = .ok (if res x = true then .yield (none, ()) else .done (some false, ())) w) ->
    (forIn l (none, ()) body).run P w = .ok (if l.all res = true then (none, ()) else (some false, ())) w := by
 intro l
 induction l with
 | nil => intro _; simp
 | cons x l ih =>
  intro h;rw [List.forIn_cons, Sem.run_bind, h x (.head _)]
  cases hr : res x with
  | true => simp [ih fun y hy => h y (.tail _ hy), hr]
  | false => simp [hr]
theorem zyC {X Y : Array Value} (hXY : X.size = Y.size) : ∀ (d : Nat) (t : TypeId) (off n : Nat) (ls : List (Nat × Nat)) (r : Bool) (D' : Nat), d <= D' -> zaV P d t off = some ls -> zA P t = some n -> n ≠ 0 -> off + n <= X.size -> zaM X Y ls = some r ->
    ∃ ag, zM P t = some ag /\ (Op.equalIn D' t (zag ag n off X) (zag ag n off Y)).run P w = .ok r w := by
 intro d
 induction d with
 | zero => intro t off n ls r D' _ h; simp [zaV] at h
 | succ d ih =>
  intro t off n ls r D' hD h hn h0 hb hr;obtain ⟨D'', rfl⟩ : ∃ k, D' = k + 1 := ⟨D' - 1, by omega⟩;simp only [zaV] at h;have one : ∀ {k : Nat}, ls = [(off, k)] -> zdt X Y (off, k) = some r := fun e => by
   subst e;simp only [zaM, zLn] at hr;obtain ⟨x, hx, hr⟩ := zKK.1 hr;simp only [zMM, Option.some.injEq] at hr;rw [hx, hr]
  split at h
  · rename_i hu;have h1 := zhG (one (by cases h; rfl));refine ⟨false, by simp [zM, hu], ?_⟩
    rcases h1 with ⟨h1, _⟩ | ⟨_, x, y, h1, h2, rfl⟩ | ⟨h1, _⟩
    · cases h1
    · simp only [zag, zLB, if_false, h1, h2]; exact zyy hu _ _ _
    · cases h1
  · rename_i hu;have h1 := zhG (one (by cases h; rfl));refine ⟨false, by simp [zM, hu], ?_⟩
    rcases h1 with ⟨_, j, x, y, h1, h2, rfl⟩ | ⟨h1, _⟩ | ⟨h1, _⟩
    · simp only [zag, zLB, if_false, h1, h2]; exact zyz hu _ _ _ _
    · cases h1
    · cases h1
  · rename_i hu;have h1 := zhG (one (by cases h; rfl));refine ⟨false, by simp [zM, hu], ?_⟩
    rcases h1 with ⟨h1, _⟩ | ⟨h1, _⟩ | ⟨_, x, y, h1, h2, rfl⟩
    · cases h1
    · cases h1
    · simp only [zag, zLB, if_false, h1, h2]; exact zyA hu _ _ _
  · rename_i fs hu;rw [hn] at h;simp only at h
    split at h
    · cases h
    · rename_i hst;refine ⟨true, by simp [zM, hu], ?_⟩;unfold Op.equalIn;simp only [zag, if_true, Sem.run_bind, run_underlying hu, Result.andThen_ok, run_program, hst, zLB, if_false];have key : ∀ (l : List Field) (ls : List (Nat × Nat)) (r : Bool), zcR P n (zaV P d) off l = some ls -> zaM X Y ls = some r -> ∃ res : Field -> Bool,
          (∀ f ∈ l, f.name ≠ "_" /\ ∃ ag m, zM P f.type = some ag /\ zA P f.type = some m /\ m ≠ 0 /\ f.offset + m <= n /\ ∃ q, (Op.equalIn D'' f.type (zag ag m (off + f.offset) X) (zag ag m (off + f.offset) Y)).run P w = .ok q w) /\
          r = l.all (fun f => match zM P f.type, zA P f.type with | some ag, some m => (match (Op.equalIn D'' f.type (zag ag m (off + f.offset) X) (zag ag m (off + f.offset) Y)).run P w with | .ok q _ => q | _ => false) | _, _ => false) := by
       intro l
       induction l with
       | nil => intro ls r h1 h2; simp [zcR] at h1; subst h1; simp [zaM] at h2; subst h2; exact ⟨fun _ => true, by simp, by simp⟩
       | cons f l ihl =>
        intro ls r h1 h2;obtain ⟨k0, m, l1, l2, k1, k2, k3, k4, k5, rfl⟩ := zB1 h1;obtain ⟨r1, r2, k6, k7, rfl⟩ := zrU h2;obtain ⟨_, k8, k9⟩ := ihl l2 r2 k5 k7;obtain ⟨ag, k10, k11⟩ := ih f.type (off + f.offset) m l1 r1 D'' (by omega) k4 k1 k3 (by omega) k6;refine ⟨fun _ => true, fun g hg => ?_, ?_⟩
        · cases hg with
          | head => exact ⟨k0, ag, m, k10, k1, k3, k2, r1, k11⟩
          | tail _ hg => exact k8 g hg
        · rw [zLy, <- k9];simp only [k10, k1, k11]
      obtain ⟨_, k1, k2⟩ := key fs.toList ls r h hr;rw [<- Array.forIn_toList];rw [zrb _ (fun f => match zM P f.type, zA P f.type with | some ag, some m => (match (Op.equalIn D'' f.type (zag ag m (off + f.offset) X) (zag ag m (off + f.offset) Y)).run P w with | .ok q _ => q | _ => false) | _, _ => false) fs.toList fun f hf => ?_]
      · rw [<- k2]
        cases r <;> simp
      · obtain ⟨k0, ag, m, k3, k4, k5, k6, q, k7⟩ := k1 f hf;rw [zKN k0];simp only [Sem.run_bind, zf3 k3 k4 k6 hb k5, zf3 k3 k4 k6 (by rw [<- hXY]; exact hb) k5, Result.andThen_ok, k7, k3, k4]
        cases q <;> simp
  · rename_i len e hu;rw [hn] at h
    split at h
    · rename_i n' m hn' he
      cases hn'
      split at h
      · cases h
      · rename_i hc;have hm0 : m ≠ 0 := fun h => hc (.inl h);have hlen : len * m = n := Classical.byContradiction fun h => hc (.inr h);refine ⟨true, by simp [zM, hu], ?_⟩;unfold Op.equalIn;simp only [zag, if_true, Sem.run_bind, run_underlying hu, Result.andThen_ok, za1 he];have key : ∀ (k base : Nat) (ls : List (Nat × Nat)) (r : Bool), zdu m (zaV P d e) (off + base * m) k = some ls -> zaM X Y ls = some r -> base + k = len ->
            (∀ i ∈ List.range' base k, ∃ ag, zM P e = some ag /\ ∃ q, (Op.equalIn D'' e (zag ag m (off + i * m) X) (zag ag m (off + i * m) Y)).run P w = .ok q w) /\
            r = (List.range' base k).all (fun i => match zM P e with | some ag => (match (Op.equalIn D'' e (zag ag m (off + i * m) X) (zag ag m (off + i * m) Y)).run P w with | .ok q _ => q | _ => false) | _ => false) := by
         intro k
         induction k with
         | zero => intro base ls r h1 h2 _; simp [zdu] at h1; subst h1; simp [zaM] at h2; subst h2; simp
         | succ k ihk =>
          intro base ls r h1 h2 hbk;simp only [zdu] at h1;obtain ⟨l1, k4, h1⟩ := zKK.1 h1;obtain ⟨l2, k5, rfl⟩ := zKL.1 h1;obtain ⟨r1, r2, k6, k7, rfl⟩ := zrU h2;have k5' : zdu m (zaV P d e) (off + (base + 1) * m) k = some l2 := by rw [zLm, Nat.one_mul, <- zLA]; exact k5
          obtain ⟨k8, k9⟩ := ihk (base + 1) l2 r2 k5' k7 (by omega);have hroom : (base + 1) * m <= len * m := zK6 _ (by omega);rw [zLm] at hroom;obtain ⟨ag, k10, k11⟩ := ih e (off + base * m) m l1 r1 D'' (by omega) k4 he hm0 (by omega) k6;rw [List.range'_succ];refine ⟨fun i hi => ?_, ?_⟩
          · cases hi with
            | head => exact ⟨ag, k10, r1, k11⟩
            | tail _ hi => exact k8 i hi
          · rw [zLy, <- k9];simp only [k10, k11]
        obtain ⟨k1, k2⟩ := key len 0 ls r (by simpa using h) hr (by omega);rw [Std.Legacy.Range.forIn_eq_forIn_range'];rw [zrb _ (fun i => match zM P e with | some ag => (match (Op.equalIn D'' e (zag ag m (off + i * m) X) (zag ag m (off + i * m) Y)).run P w with | .ok q _ => q | _ => false) | _ => false) _ fun i hi => ?_]
        · simp only [Std.Legacy.Range.size, zL6, Nat.add_one_sub_one, Nat.div_one];rw [<- k2]
          cases r <;> simp
        · have hi' : i ∈ List.range' 0 len := by simpa [Std.Legacy.Range.size] using hi
          obtain ⟨ag, k3, q, k7⟩ := k1 i hi';have hlt : i < len := by have := List.mem_range'.1 hi'; omega
          have hroom : (i + 1) * m <= len * m := zK6 _ (by omega);rw [zLm] at hroom;simp only [Sem.run_bind, zf3 k3 he (show i * m + m <= n by omega) hb hm0, zf3 k3 he (show i * m + m <= n by omega) (show off + n <= Y.size by rw [<- hXY]; exact hb) hm0, Result.andThen_ok, k7, k3]
          cases q <;> simp
    · cases h
  · cases h
theorem zB0 {zKJ bs : List D} {xs ys : List Value} (hx : xs.length = zKJ.length /\ ∀ (i : Nat) (c : D) (u : Value), zKJ[i]? = some c -> xs[i]? = some u -> Rd w R (.v c u))
    (hy : ys.length = bs.length /\ ∀ (i : Nat) (c : D) (u : Value), bs[i]? = some c -> ys[i]? = some u -> Rd w R (.v c u)) : ∀ {ls : List (Nat × Nat)} {r : Bool}, zb0 zKJ bs ls = some r -> zaM xs.toArray ys.toArray ls = some r := by
 intro ls
 induction ls with
 | nil => intro r h; simpa [zb0, zaM] using h
 | cons l ls ih =>
  intro r h;simp only [zb0] at h;obtain ⟨b, hb, h⟩ := zKK.1 h;obtain ⟨b', hb', rfl⟩ := zKL.1 h;have get : ∀ {zKJ : List D} {xs : List Value} {c : D}, (xs.length = zKJ.length /\ ∀ (i : Nat) (c : D) (u : Value), zKJ[i]? = some c -> xs[i]? = some u -> Rd w R (.v c u)) -> zKJ[l.1]? = some c -> ∃ u, xs[l.1]? = some u /\ Rd w R (.v c u) := by
   intro zKJ xs c h1 h2;have hlt := (zKP.1 h2).1;exact ⟨_, zKR (by omega), h1.2 _ _ _ h2 (zKR (by omega))⟩
  have : zdt xs.toArray ys.toArray l = some b := by
   unfold zg7 at hb;unfold zdt
   split at hb
   · rename_i k x k' y h1 h2 h3
     split at hb
     · rename_i e; subst e;obtain ⟨u, k1, k2⟩ := get hx h2;obtain ⟨u', k3, k4⟩ := get hy h3
       cases k2; cases k4
       cases hb
       simp [h1, k1, k3, Bool.beq_eq_decide_eq]
     · cases hb
   · rename_i x y h1 h2 h3;obtain ⟨u, k1, k2⟩ := get hx h2;obtain ⟨u', k3, k4⟩ := get hy h3
     cases k2; cases k4
     cases hb
     simp [h1, k1, k3]
   · rename_i x y h1 h2 h3;obtain ⟨u, k1, k2⟩ := get hx h2;obtain ⟨u', k3, k4⟩ := get hy h3
     cases k2; cases k4
     cases hb
     simp [h1, k1, k3];have : ((⟨x.toArray⟩ : ByteArray) == ⟨y.toArray⟩) = decide (x = y) := by
      rw [zMy];show (x.toArray == y.toArray) = true ↔ _;simp
     simpa using this
   · cases hb
  simp [zaM, this, ih hb']
theorem zft {o : Oper} {bop : BinOp} {t u : TypeId} {y z : Operand} {y' z' : Opd} {n : Nat} {ls : List (Nat × Nat)} {ng : Bool} {dst : Nat} {v : AV} {H' : za} (hop : o.op = .binOp bop t y z u) (hb : bop = if ng then .neq else .eql)
    (hl : zaV P 9 t 0 = some ls) (hag : zM P t = some true) (hg : P.eqGuardType P.depth t = false) (hn : zA P t = some n) (h0 : n ≠ 0) (hy : opd y = some y') (hz : opd z = some z') (h : Rel C S a w ι R)
    (hs : ze S.env S.heap dst (.eqs ng n ls y' z') = some (v, H')) : zk C S a v H' ((execOp a.eval o).run P w) := by
 simp only [ze] at hs
 split at hs
 · rename_i zKJ bs h1 h2
   split at hs
   · rename_i hc;obtain ⟨r, hr, hs⟩ := zKL.1 hs
     cases hs
     have e1 := h.ev hy; rw [h1] at e1;have e2 := h.ev hz; rw [h2] at e2;generalize hav : a.eval y = av at e1;generalize hbv : a.eval z = bv at e2;have e1 := e1.of_d;have e2 := e2.of_d
     cases e1 with
     | @agg _ xs hx1 _ hx2 =>
      cases e2 with
      | @agg _ ys hy1 _ hy2 =>
       have hle := zB0 ⟨hx1, hx2⟩ ⟨hy1, hy2⟩ hr;obtain ⟨ag, hag', hrun⟩ := zyC (P := P) (w := w) (X := xs.toArray) (Y := ys.toArray) (by simp; omega) 9 t 0 n ls r Op.maxDepth (by decide) hl hn h0 (by simp; omega) hle;rw [hag] at hag'; cases hag';have hv : ∀ zs : List Value, zs.length = n -> zag true n 0 zs.toArray = .agg zs.toArray := fun zs hz => by
        simp only [zag, if_true, zKT];rw [<- hz]; simp
       rw [hv xs (by omega), hv ys (by omega)] at hrun;refine zk.same h (.d .bool) (u := .bool (if ng = true then !r else r)) ?_;subst hb;have hrun' : (Op.equal t (.agg xs.toArray) (.agg ys.toArray)).run P w = .ok r w := hrun
       cases ng <;> simp [execOp, hop, hav, hbv, eqGuard, Go.binOp, hrun', hg]
   · cases hs
 · cases hs
end Go.Sim
