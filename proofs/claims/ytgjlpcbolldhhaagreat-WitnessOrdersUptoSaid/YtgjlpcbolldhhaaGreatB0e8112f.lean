/-
  Data of the form of an event, as events.
-/
import Derived.Test.YtgjlpcbolldhhaaGreatB6dfdb13
import Derived.Carry
import Derived.OpenShut
import Derived.ChangeSlices
import Derived.ChangeArms
import Derived.WideShapes
set_option linter.unusedSimpArgs false
set_option linter.unusedVariables false
set_option maxHeartbeats 10000000
set_option maxRecDepth 100000
namespace Go.Sim
open Go.ChangeShapes Go.WideShapes Go.RowKit
variable {P : Program} {G : FuncId -> Option AFn}
theorem zyf (hG : GOK P G) {f : FuncId} {ds : List D} {r : D} (h : zt G f (ds.map .d) [] = some (.d r, [])) {w : World} {us : List Value} (hl : us.length = ds.length)
    (hv : ∀ (i : Nat) (x : D) (u : Value), ds[i]? = some x -> us[i]? = some u -> Rd w (fun b => b < w.heap.size) (.v x u)) :
    Calls P f us.toArray w fun e w' => ∃ u, e = .returned u /\ Below w.heap.size w w' /\ ∃ R', Rd w' R' (.v r u) := by
 have h1 := (zxK hG f (ds.map .d) [] (.d r) [] h (by simp) (by simp)).2.1;refine (h1 w (fun b => b < w.heap.size) (fun _ => none) us (fun b hb => hb) (by simp) (by simp) (by simp) ⟨by simpa using hl, fun i x u hx hu => ?_⟩).mono fun e w' h => ?_
 · rw [zKQ] at hx;obtain ⟨d, hd, rfl⟩ := zKL.1 hx;exact .d (hv i d u hd hu)
 · obtain ⟨u, ι', R', h1, h2, h3, h4, h5, _, h6, _, _, _, _, _, _, h7⟩ := h;refine ⟨u, h1, ⟨h2, h3, h4, h5, fun k hk => h6 k hk (by simp)⟩, R', ?_⟩
   cases h7 with
   | d h7 => exact h7
section
variable {H : Type} {enc : TypeId × Value -> H}
theorem zsX (hl : laidOutB P = true) {W W' : World} (hb : Below W.heap.size W W') : ∀ {ts : List TypeId} {vs : List Value} {ds : List (DataW H)} {ps : List MemPlace},
    (∀ t ∈ ts, P.readableRec t = true /\ t < P.types.size) -> DataW.TrodAll enc P W 0 (fun _ => true) true ts vs ds ps -> (∀ x ∈ ps, x.block < W.heap.size) -> DataW.TrodAll enc P W' 0 (fun b => decide (b < W.heap.size)) true ts vs ds ps
 | [], [], [], _, _, h, _ => h
 | _ :: _, _ :: _, _ :: _, _, ht, ⟨p, q, h1, h2, e⟩, hlt =>
  ⟨p, q, Below.trod hl (ht _ (.head _)).1 (ht _ (.head _)).2 h1 hb (fun x hx => hlt x (by rw [e]; exact zLE _ hx)),
   zsX hl hb (fun t h => ht t (.tail _ h)) h2 (fun x hx => hlt x (by rw [e]; exact zL8 _ hx)), e⟩
theorem zHU {f : Func} {s : ChangeSpec} {W W' : World} {args : Array Value} {ds gs : List (DataW H)} {before : List MemPlace} {tb : TypeId} (hres : f.resultTypes = #[tb]) (htb : P.underlying tb = some .bool) (hl : laidOutB P = true)
    (ht : ∀ t ∈ f.params.toList, P.readableRec t = true /\ t < P.types.size) (hW : DataW.Whole enc P f.params.toList s.vars false W args.toList ds gs before) (hv : s.vars = [])
    (hs : s.fn H (ds ++ gs) = { results := [.lit (.bool true)], args := ds }) (hb : Below W.heap.size W W') : s.post enc P f false true false false W args (.bool true) W' := by
 have hlt : ∀ x ∈ before, x.block < W.heap.size := fun x hx => by simpa using hW.lt x hx
 obtain ⟨p, q, hA, hV, e, hfz, hnd⟩ := hW;have hV0 := hV;rw [hv] at hV0;obtain ⟨rfl, rfl⟩ := trodVars_none hV0;refine ⟨ds, [], before, [], p, [], ⟨p, [], hA, hV, e, hfz, hnd⟩, ?_, ?_, ?_, hb.frame _, fun h => by cases h⟩
 · rw [hs, hres];exact trodAll_mk1 (shut_bool htb _)
 · rw [hs];exact zsX hl hb ht hA (fun x hx => hlt x (by rw [e]; exact zLE _ hx))
 · rw [hs, hv]; rfl
end
theorem zsZ {k : IntKind} {n : Int} (h : (Lit.int k n).wf = true) : k.has n := by
 simp only [Lit.wf, zKW, decide_eq_true_eq] at h;simp [IntKind.has, h]
end Go.Sim

namespace Go.Sim
open Go.ChangeShapes Go.WideShapes Go.RowKit
variable {P : Program}
inductive Sh where
 | int (k : IntKind)
 | bool
 | str
 | sl (s : Sh)
 | agg (fs : List Sh)
 deriving Inhabited
mutual
def Sh.size : Sh -> Nat
 | .agg fs => Sh.sizeL fs
 | _ => 1
def Sh.sizeL : List Sh -> Nat
 | [] => 0
 | s :: l => s.size + Sh.sizeL l
end
def BIG : Nat := 1048576
mutual
def Sh.has : Sh -> D -> Prop
 | .int k, .int k' n => k' = k /\ k.has n
 | .bool, .bool _ => True
 | .str, .str s => s.length <= BIG
 | .sl s, .sl es => es.length <= BIG /\ ∀ e ∈ es, Sh.has s e
 | .agg fs, .agg cs => Sh.hasL fs cs
 | _, _ => False
def Sh.hasL : List Sh -> List D -> Prop
 | [], cs => cs = []
 | s :: l, cs => ∃ x r, Sh.has s x /\ cs = x.cells ++ r /\ Sh.hasL l r
end
def zeS (P : Program) (F : TypeId -> Option Sh) : Nat -> List Field -> Option (List Sh)
 | _, [] => some []
 | off, f :: fs =>
  match F f.type with
  | some s => if f.offset = off /\ P.cellsOf f.type = s.size then (zeS P F (off + s.size) fs).map (s :: ·) else none
  | none => none
def zdO (P : Program) : Nat -> TypeId -> Option Sh
 | 0, _ => none
 | n + 1, t =>
  match P.underlying t with
  | some .bool => some .bool
  | some (.int k) => some (.int k)
  | some .string => some .str
  | some (.slice e) => match zdO P n e with | some s => if P.cellsOf e = s.size /\ 0 < s.size then some (.sl s) else none | none => none
  | some (.struct fs) => match zeS P (zdO P n) 0 fs.toList with | some l => if P.cellsOf t = Sh.sizeL l then some (.agg l) else none | none => none
  | _ => none
structure zb7 {H : Type} (B : DataW H -> Nat) (Bs : List (DataW H) -> Nat) : Prop where
 sl : ∀ es sp, B (.slice es sp) = Bs es + Bs sp + 1
 agg : ∀ ps, B (.agg ps) = Bs ps + 1
 str : ∀ s, B (.lit (.string s)) = s.length + 1
 nil : Bs [] = 0
 cons : ∀ d r, Bs (d :: r) = B d + Bs r
 pos : ∀ d, 1 <= B d
theorem zb7.len {H : Type} {B : DataW H -> Nat} {Bs : List (DataW H) -> Nat} (b : zb7 B Bs) : ∀ l : List (DataW H), l.length <= Bs l := by
 intro l
 induction l with
 | nil => simp
 | cons d r ih => rw [b.cons, zK0]; have := b.pos d; omega
theorem zb7.mem {H : Type} {B : DataW H -> Nat} {Bs : List (DataW H) -> Nat} (b : zb7 B Bs) {d : DataW H} : ∀ {l : List (DataW H)}, d ∈ l -> B d <= Bs l := by
 intro l
 induction l with
 | nil => intro h; cases h
 | cons e r ih =>
  intro h;rw [b.cons]
  cases h with
  | head => omega
  | tail _ h => have := ih h; omega
theorem zxP {n : Nat} {Q : Nat -> D -> Prop} (h : ∀ i, i < n -> ∃ x, Q i x) : ∃ es : List D, es.length = n /\ ∀ i e, es[i]? = some e -> Q i e := by
 induction n with
 | zero => exact ⟨[], rfl, fun i e he => by simp at he⟩
 | succ n ih =>
  obtain ⟨es, hl, hq⟩ := ih fun i hi => h i (by omega);obtain ⟨x, hx⟩ := h n (by omega);refine ⟨es ++ [x], by simp [hl], fun i e he => ?_⟩
  by_cases hi : i < es.length
  · rw [zLk hi] at he; exact hq i e he
  · rw [zLd (by omega)] at he
    by_cases hi2 : i - es.length = 0
    · rw [hi2] at he;simp at he;subst he;rw [show i = n by omega];exact hx
    · rw [zMh (by simp; omega)] at he; cases he
theorem Sh.has_notup {s : Sh} {x : D} (h : Sh.has s x) : ∀ vs, x ≠ .tup vs := by
 intro vs e;subst e
 cases s <;> simp [Sh.has] at h
variable {H : Type} {enc : TypeId × Value -> H} {w : World} {spare : Nat -> Bool} {held : Bool} {B : DataW H -> Nat} {Bs : List (DataW H) -> Nat}
def zgp (w : World) (r : List D) (cs : List Value) : Prop := r.length = cs.length /\ ∀ (i : Nat) (c : D) (u : Value), r[i]? = some c -> cs[i]? = some u -> c.cell = true /\ Rd w (fun b => b < w.heap.size) (.v c u)
theorem zza (hB : zb7 B Bs) {F : TypeId -> Option Sh} {n : Nat} {cs : List Value}
    (ih : ∀ t cs d ps sh, DataW.trod enc P w 0 spare held n t cs = some (d, ps) -> F t = some sh -> B d <= BIG -> ∃ x, Sh.has sh x /\ x.size = sh.size /\ zgp w x.cells cs) :
    ∀ (fs : List Field) (off : Nat) (shs : List Sh) (xs : List (DataW H × List MemPlace)), zeS P F off fs = some shs -> xs.length = fs.length -> Bs (xs.map (·.1)) <= BIG ->
     (∀ (i : Nat) (f : Field), fs[i]? = some f -> DataW.trod enc P w 0 spare held n f.type ((cs.drop f.offset).take (P.cellsOf f.type)) = xs[i]?) -> off + Sh.sizeL shs <= cs.length ->
     ∃ r : List D, Sh.hasL shs r /\ r.length = Sh.sizeL shs /\ ∀ (j : Nat) (c : D) (u : Value), r[j]? = some c -> cs[off + j]? = some u -> c.cell = true /\ Rd w (fun b => b < w.heap.size) (.v c u) := by
 intro fs
 induction fs with
 | nil =>
  intro off shs xs h1 _ _ _ _;simp only [zeS, Option.some.injEq] at h1;subst h1;exact ⟨[], rfl, rfl, fun j c u h => by simp at h⟩
 | cons f fs ihf =>
  intro off shs xs h1 h2 h3 h4 h5;simp only [zeS] at h1
  split at h1
  · rename_i s hs
    split at h1
    · rename_i hc;obtain ⟨shs', h6, rfl⟩ := zKL.1 h1
      cases xs with
      | nil => simp at h2
      | cons y ys =>
       obtain ⟨d, ps⟩ := y;simp only [zKS, hB.cons] at h3;simp only [Sh.sizeL] at h5;have hf := h4 0 f rfl;simp only [zMt] at hf;obtain ⟨x, hx1, hx2, hx3, hx4⟩ := ih f.type _ d ps s hf hs (by omega);obtain ⟨r, hr1, hr2, hr3⟩ := ihf (off + s.size) shs' ys h6 (by simpa using h2) (by omega) (fun i g hg => by simpa using h4 (i + 1) g (by simpa using hg)) (by omega);have hxl : x.cells.length = s.size := hx2;refine ⟨x.cells ++ r, ⟨x, r, hx1, rfl, hr1⟩, by rw [zKO, hr2, hxl]; rfl, fun j c u hj hu => ?_⟩
       by_cases hlt : j < s.size
       · rw [zLk (by omega)] at hj;refine hx4 j c u hj ?_;rw [hc.1, hc.2, zLR, zKN hlt, zLv];exact hu
       · rw [zLd (by omega), hxl] at hj;exact hr3 (j - s.size) c u hj (by rw [show off + s.size + (j - s.size) = off + j by omega]; exact hu)
    · cases h1
  · cases h1
theorem zHI (hB : zb7 B Bs) : ∀ (n : Nat) (m : Nat) (t : TypeId) (cs : List Value) (d : DataW H) (ps : List MemPlace) (sh : Sh), DataW.trod enc P w 0 spare held n t cs = some (d, ps) -> zdO P m t = some sh -> B d <= BIG ->
    ∃ x, Sh.has sh x /\ x.size = sh.size /\ zgp w x.cells cs := by
 intro n
 induction n using Nat.strongRecOn with
 | ind n ih =>
  intro m t cs d ps sh h hsh hb
  cases m with
  | zero => cases hsh
  | succ m =>
   simp only [zdO] at hsh
   split at hsh
   · rename_i ht
     cases hsh
     obtain ⟨b, rfl, hx⟩ := DataW.trod_bool ht h;exact ⟨.bool b, trivial, rfl, rfl, fun i c u hc hu => by
      cases i with
      | zero => simp [D.cells] at hc hu; subst hc; subst hu; exact ⟨rfl, .bool⟩
      | succ i => simp [D.cells] at hc⟩
   · rename_i k ht
     cases hsh
     obtain ⟨z, rfl, hx, hw⟩ := DataW.trod_int ht h;exact ⟨.int k z, ⟨rfl, zsZ hw⟩, rfl, rfl, fun i c u hc hu => by
      cases i with
      | zero => simp [D.cells] at hc hu; subst hc; subst hu; exact ⟨rfl, .int (zsZ hw)⟩
      | succ i => simp [D.cells] at hc⟩
   · rename_i ht
     cases hsh
     obtain ⟨s, rfl, hx, _⟩ := DataW.trod_string ht h;simp only [Prod.mk.injEq] at hx;obtain ⟨rfl, -⟩ := hx;rw [hB.str] at hb;have hs : s.data.toList.length <= BIG := by omega
     refine ⟨.str s.data.toList, hs, rfl, rfl, fun i c u hc hu => ?_⟩
     cases i with
     | zero =>
      simp [D.cells] at hc hu; subst hc; subst hu;have := Rd.str (w := w) (R := fun b => b < w.heap.size) (s := s.data.toList) (zL1 hs (by simp [BIG, LIM]));simp only [Array.toArray_toList] at this;exact ⟨rfl, this⟩
     | succ i => simp [D.cells] at hc
   · rename_i e ht
     split at hsh
     · rename_i s hse
       split at hsh
       · rename_i hc
         cases hsh
         rcases DataW.trod_slice ht h with ⟨rfl, hx⟩ | ⟨a, len, cap, elems, rest, n', rfl, rfl, hx, hbase, hl, hm, hlen, hel, hsp, hns⟩
         · exact ⟨.sl [], ⟨by simp, by simp⟩, rfl, rfl, fun i c u hc hu => by
            cases i with
            | zero => simp [D.cells] at hc hu; subst hc; subst hu; exact ⟨rfl, .sl0⟩
            | succ i => simp [D.cells] at hc⟩
         · simp only [Prod.mk.injEq] at hx;obtain ⟨rfl, -⟩ := hx;rw [hB.sl] at hb;have hlb := hB.len (elems.map (·.1));rw [zKY, hlen] at hlb;have each : ∀ i, i < len -> ∃ x, Sh.has s x /\ x.size = s.size /\ ∃ cs', w.cells? 0 (a.add (i * P.cellsOf e)) (P.cellsOf e) = some cs' /\ zgp w x.cells cs' := by
            intro i hi;have h1 := hel i hi;rw [zKR (by omega)] at h1;obtain ⟨cs', h2, h3⟩ := zKK.1 h1;obtain ⟨x, hx1, hx2, hx3⟩ := ih n' (by omega) m e cs' (elems[i]'(by omega)).1 (elems[i]'(by omega)).2 s h3 hse (by
             have := hB.mem (d := (elems[i]'(by omega)).1) (l := elems.map (·.1)) (zLY (zLq _)); omega)
            exact ⟨x, hx1, hx2, cs', h2, hx3⟩
           obtain ⟨es, hes1, hes2⟩ := zxP each;have hall : ∀ x ∈ es, Sh.has s x /\ x.size = s.size := fun x hx => by
            obtain ⟨i, hi⟩ := zLl hx;exact ⟨(hes2 i x hi).1, (hes2 i x hi).2.1⟩
           refine ⟨.sl es, ⟨by omega, fun x hx => (hall x hx).1⟩, rfl, rfl, fun i c u hcc hu => ?_⟩
           cases i with
           | succ i => simp [D.cells] at hcc
           | zero =>
            simp [D.cells] at hcc hu; subst hcc; subst hu;refine ⟨rfl, ?_⟩;subst hes1
            by_cases h0 : es = []
            · subst h0; exact .sl0
            · have hpos := zLP.2 h0;have hce : P.cellsOf e = s.size := hc.1;obtain ⟨_, _, cs0, hcs0, _⟩ := hes2 0 es[0] (zKR hpos);have hc0 := (World.cells?_some hcs0).2.2 0 (by omega);have hl0 := (World.cells?_some hcs0).2.1;rw [zKR (by omega)] at hc0;obtain ⟨b, off, spot⟩ := a;have hspot : spot = none := by
               have := World.cell?_spot hc0;unfold Addr.add at this;revert this
               split <;> (try split) <;> simp_all
              subst hspot;have hlt : b < w.heap.size := World.block_lt_of_cell? w _ (by simpa [add_plain] using hc0);refine .sl (s := s.size) hlt h0 hc.2 (by simp only [LIM, BIG] at *; omega) hl (fun x hx => (hall x hx).2) fun i x hx => ?_;obtain ⟨hx1, hx2, cs', hcs', hx3, hx4⟩ := hes2 i x hx;obtain ⟨_, hl', hcell'⟩ := World.cells?_some hcs';refine Rd.el_of_cells (Sh.has_notup hx1) fun j c hj => ?_;have hjl : j < s.size := by
               have h1 := (zKP.1 hj).1;have h2 : x.cells.length = s.size := hx2;omega
              have hu : cs'[j]? = some (cs'[j]'(by omega)) := zKR (by omega);obtain ⟨k1, k2⟩ := hx4 j c _ hj hu;refine ⟨k1, _, ?_, k2⟩;have := hcell' j (by omega);rw [add_plain, add_plain, hu, hce] at this;exact this
       · cases hsh
     · cases hsh
   · rename_i fs ht
     split at hsh
     · rename_i l hl
       split at hsh
       · rename_i hc
         cases hsh
         obtain ⟨xs, n', rfl, hx, hcl, hxl, hf⟩ := DataW.trod_struct ht h;simp only [Prod.mk.injEq] at hx;obtain ⟨rfl, -⟩ := hx;rw [hB.agg] at hb;obtain ⟨r, hr1, hr2, hr3⟩ := zza (cs := cs) hB (fun t cs d ps sh h1 h2 h3 => ih n' (by omega) m t cs d ps sh h1 h2 h3) fs.toList 0 l xs hl (by simpa using hxl) (by omega) (fun i f hi => hf i f (by simpa using hi)) (by omega);exact ⟨.agg r, hr1, hr2, by rw [show D.cells (.agg r) = r from rfl]; omega, fun i c u hc hu => hr3 i c u hc (by simpa using hu)⟩
       · cases hsh
     · cases hsh
   · cases hsh
theorem zHJ (hB : zb7 B Bs) {m : Nat} {base : Nat} {t : TypeId} {v : Value} {d : DataW H} {ps : List MemPlace} {sh : Sh} (h : DataW.Trod enc P w 0 spare held t v d ps) (hsh : zdO P m t = some sh) (hb : B d <= BIG)
    (hv : Value.okWide P w .any base t v) : ∃ x, Sh.has sh x /\ Rd w (fun b => b < w.heap.size) (.v x v) := by
 obtain ⟨fuel, hf⟩ := h;obtain ⟨x, h1, h2, h3, h4⟩ := zHI hB fuel m t _ d ps sh hf hsh hb;refine ⟨x, h1, ?_⟩
 cases m with
 | zero => cases hsh
 | succ m =>
  have one : ∀ u : Value, v = u -> u.cells.toList = [u] -> x.cell = true -> Rd w (fun b => b < w.heap.size) (.v x v) := by
   intro u e1 e2 e3;subst e1;exact (h4 0 x v (by rw [D.cells_cell e3]; rfl) (by rw [e2]; rfl)).2
  simp only [zdO] at hsh
  split at hsh
  · rename_i ht
    cases hsh
    obtain ⟨b, hv⟩ := okWide_bool ht hv
    cases x <;> simp [Sh.has] at h1
    exact one _ hv rfl rfl
  · rename_i k ht
    cases hsh
    obtain ⟨b, hv⟩ := okWide_int ht hv
    cases x <;> simp [Sh.has] at h1
    exact one _ hv rfl rfl
  · rename_i ht
    cases hsh
    obtain ⟨b, hv⟩ := okWide_string ht hv
    cases x <;> simp [Sh.has] at h1
    exact one _ hv rfl rfl
  · rename_i e ht;obtain ⟨a, len, cap, hv⟩ := okWide_slice ht hv
    split at hsh
    · split at hsh
      · cases hsh
        cases x <;> simp [Sh.has] at h1
        exact one _ hv rfl rfl
      · cases hsh
    · cases hsh
  · rename_i fs ht;obtain ⟨cs, rfl, _⟩ := okWide_struct ht hv
    split at hsh
    · split at hsh
      · cases hsh
        cases x <;> simp [Sh.has] at h1
        rename_i cells;have := Rd.agg (w := w) (R := fun b => b < w.heap.size) (cs := cells) (vs := cs.toList) (by simpa [D.cells, Value.cells] using h3.symm) (fun c hc => by
         obtain ⟨i, hi⟩ := zLl hc;have hlt := (zKP.1 hi).1;have hlen : cells.length = cs.toList.length := by simpa [D.cells, Value.cells] using h3
         exact (h4 i c (cs.toList[i]'(by omega)) hi (by simp [Value.cells])).1) (fun i c u hc hu => (h4 i c u hc (by simpa [Value.cells] using hu)).2)
        simpa using this
      · cases hsh
    · cases hsh
  · cases hsh
end Go.Sim

namespace Go.Proofs.YtgjlpcbolldhhaaGreat
open Go Go.Sim
theorem zna {α : Type} {f : α -> D} {s : Sh} {x : D} (h : Sh.has (.sl s) x) (hs : ∀ e, Sh.has s e -> ∃ a, e = f a) : ∃ l : List α, x = .sl (l.map f) /\ l.length <= BIG := by
 cases x <;> simp only [Sh.has] at h
 rename_i es;obtain ⟨h1, h2⟩ := h;have : ∃ l : List α, es = l.map f := by
  clear h1
  induction es with
  | nil => exact ⟨[], rfl⟩
  | cons e es ih =>
   obtain ⟨a, rfl⟩ := hs e (h2 e (by simp));obtain ⟨l, rfl⟩ := ih fun e he => h2 e (by simp [he]);exact ⟨a :: l, rfl⟩
 obtain ⟨l, rfl⟩ := this;exact ⟨l, rfl, by simpa using h1⟩
theorem zg8 {k : IntKind} {x : D} (h : Sh.has (.int k) x) : ∃ n : Int, x = .int k n /\ k.has n := by
 cases x <;> simp only [Sh.has] at h
 obtain ⟨rfl, h⟩ := h;exact ⟨_, rfl, h⟩
theorem zbz {k : IntKind} {s : List Sh} {cs : List D} (h : Sh.hasL (.int k :: s) cs) : ∃ (n : Int) (r : List D), cs = .int k n :: r /\ k.has n /\ Sh.hasL s r := by
 simp only [Sh.hasL] at h;obtain ⟨x, r, h1, rfl, h2⟩ := h;obtain ⟨n, rfl, hn⟩ := zg8 h1;exact ⟨n, r, rfl, hn, h2⟩
abbrev shI : Sh := .int .i64
theorem zm9 {s : List Sh} {x : D} (h : Sh.has (.agg s) x) : ∃ cs, x = .agg cs /\ Sh.hasL s cs := by
 cases x <;> simp only [Sh.has] at h
 exact ⟨_, rfl, h⟩
theorem zyR {cs : List D} (h : Sh.hasL [] cs) : cs = [] := by cases cs with | nil => rfl | cons a l => simp [Sh.hasL] at h
abbrev zsL : Sh := .agg [shI, shI, shI, shI]
abbrev zsK : Sh := .agg [shI, shI, shI, shI, shI, shI, shI, .sl zsL, shI, shI]
theorem zyQ {x : D} (h : Sh.has zsL x) : ∃ m : Grant, x = zeg m := by
 obtain ⟨cs, rfl, h0⟩ := zm9 h;clear h;have h := h0;clear h0;obtain ⟨a1, r1, rfl, _, h⟩ := zbz h;obtain ⟨a2, r2, rfl, _, h⟩ := zbz h;obtain ⟨a3, r3, rfl, _, h⟩ := zbz h;obtain ⟨a4, r4, rfl, _, h⟩ := zbz h;obtain rfl := zyR h;exact ⟨⟨a1, a2, a3, a4⟩, rfl⟩
theorem zyO {x : D} (h : Sh.has zsK x) : ∃ m : Event, x = zm m /\ m.l.length <= BIG := by
 obtain ⟨cs, rfl, h0⟩ := zm9 h;clear h;have h := h0;clear h0;obtain ⟨a1, r1, rfl, _, h⟩ := zbz h;obtain ⟨a2, r2, rfl, _, h⟩ := zbz h;obtain ⟨a3, r3, rfl, _, h⟩ := zbz h;obtain ⟨a4, r4, rfl, _, h⟩ := zbz h;obtain ⟨a5, r5, rfl, _, h⟩ := zbz h;obtain ⟨a6, r6, rfl, _, h⟩ := zbz h;obtain ⟨a7, r7, rfl, _, h⟩ := zbz h;simp only [Sh.hasL] at h;obtain ⟨y, r8, h1, rfl, y2, r9, h2, rfl, y3, r10, h3, rfl, rfl⟩ := h;obtain ⟨l, rfl, hl⟩ := zna h1 fun e he => zyQ he;obtain ⟨n1, rfl, _⟩ := zg8 h2;obtain ⟨n2, rfl, _⟩ := zg8 h3;exact ⟨⟨a1, a2, a3, a4, a5, a6, a7, l, n1, n2⟩, rfl, hl⟩
theorem zyP {x : D} (h : Sh.has (.sl zsK) x) : ∃ l : List Event, x = .sl (l.map zm) /\ l.length <= BIG /\ ∀ e ∈ l, e.l.length <= BIG := by
 obtain ⟨l, rfl, hl⟩ := zna (α := { e : Event // e.l.length <= BIG }) (f := fun a => zm a.1) h fun e he => by
  obtain ⟨m, hm, hb⟩ := zyO he;exact ⟨⟨m, hb⟩, hm⟩
 refine ⟨l.map (·.1), by rw [zMs]; rfl, by rw [zKY]; exact hl, fun e he => ?_⟩;obtain ⟨a, _, rfl⟩ := zKX.1 he;exact a.2
end Go.Proofs.YtgjlpcbolldhhaaGreat
