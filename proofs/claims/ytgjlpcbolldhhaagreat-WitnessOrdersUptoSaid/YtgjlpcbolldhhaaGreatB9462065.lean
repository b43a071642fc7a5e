/-
  Abstract values and states of a running call, and the relati.
-/
import Derived.Calls
import Derived.Laws.Sem
import Derived.Laws.World
import Derived.Laws.Rows
import Derived.Below
set_option linter.unusedSimpArgs false
set_option linter.unusedVariables false
set_option maxHeartbeats 10000000
set_option maxRecDepth 100000
abbrev zKK:=@Option.bind_eq_some_iff
abbrev zKL:=@Option.map_eq_some_iff
abbrev zKM:=@if_neg
abbrev zKN:=@if_pos
abbrev zKO:=@List.length_append
abbrev zKP:=@List.getElem?_eq_some_iff
abbrev zKQ:=@List.getElem?_map
abbrev zKR:=@List.getElem?_eq_getElem
abbrev zKS:=@List.map_cons
abbrev zKT:=@Nat.zero_add
abbrev zKU:=@List.mem_of_getElem?
abbrev zKV:=@Nat.le_refl
abbrev zKW:=@Bool.and_eq_true
abbrev zKX:=@List.mem_map
abbrev zKY:=@List.length_map
abbrev zKZ:=@List.length_drop
abbrev zK0:=@List.length_cons
abbrev zK1:=@List.map_nil
abbrev zK2:=@List.length_nil
abbrev zK3:=@List.map_append
abbrev zK4:=@List.all_eq_true
abbrev zK5:=@List.append_assoc
abbrev zK6:=@Nat.mul_le_mul_right
abbrev zK7:=@Option.bind_eq_bind
abbrev zK8:=@Int.natCast_one
abbrev zK9:=@Int.natCast_zero
abbrev zLa:=@Int.cast_ofNat_Int
abbrev zLb:=@List.mem_append
abbrev zLc:=@List.length_take
abbrev zLd:=@List.getElem?_append_right
abbrev zLe:=@Int.natCast_add
abbrev zLf:=@Int.natCast_mul
abbrev zLg:=@Option.pure_def
abbrev zLh:=@List.length_eq_zero_iff
abbrev zLi:=@Option.bind_some
abbrev zLj:=@Array.getElem?_eq_some_iff
abbrev zLk:=@List.getElem?_append_left
abbrev zLl:=@List.getElem?_of_mem
abbrev zLm:=@Nat.add_mul
abbrev zLn:=@Option.map_some
abbrev zLo:=@Nat.lt_of_lt_of_le
abbrev zLp:=@Nat.succ_mul
abbrev zLq:=@List.getElem_mem
abbrev zLr:=@List.take_append_drop
abbrev zLs:=@Bool.or_eq_true
abbrev zLt:=@List.append_nil
abbrev zLu:=@List.mem_singleton
abbrev zLv:=@List.getElem?_drop
abbrev zLw:=@List.mem_of_mem_take
abbrev zLx:=@List.map_set
abbrev zLy:=@List.all_cons
abbrev zLz:=@Nat.mul_succ
abbrev zLA:=@Nat.add_assoc
abbrev zLB:=@Bool.false_eq_true
abbrev zLC:=@Bool.not_eq_true'
abbrev zLD:=@List.mem_cons
abbrev zLE:=@List.mem_append_left
abbrev zLF:=@List.map_congr_left
abbrev zLG:=@Option.isSome_iff_exists
abbrev zLH:=@Array.getD_eq_getD_getElem?
abbrev zLI:=@List.map_take
abbrev zLJ:=@List.mem_of_mem_drop
abbrev zLK:=@List.take_of_length_le
abbrev zLL:=@Nat.add_zero
abbrev zLM:=@Nat.sub_self
abbrev zLN:=@List.mapM_cons
abbrev zLO:=@Array.getElem?_eq_getElem
abbrev zLP:=@List.length_pos_iff
abbrev zLQ:=@List.map_drop
abbrev zLR:=@List.getElem?_take
abbrev zLS:=@List.pairwise_cons
abbrev zLT:=@List.nil_append
abbrev zLU:=@List.drop_eq_nil_of_le
abbrev zLV:=@Nat.lt_or_ge
abbrev zLW:=@List.cons_append
abbrev zLX:=@Option.getD_some
abbrev zLY:=@List.mem_map_of_mem
abbrev zLZ:=@Bool.or_eq_false_iff
abbrev zL0:=@List.getElem?_take_of_lt
abbrev zL1:=@Nat.le_trans
abbrev zL2:=@List.exists_mem_of_ne_nil
abbrev zL3:=@List.set_append_right
abbrev zL4:=@Nat.mul_comm
abbrev zL5:=@Bool.or_false
abbrev zL6:=@Nat.sub_zero
abbrev zL7:=@List.getD_eq_getElem?_getD
abbrev zL8:=@List.mem_append_right
abbrev zL9:=@List.mem_or_eq_of_mem_set
abbrev zMa:=@Nat.min_def
abbrev zMb:=@List.drop_drop
abbrev zMc:=@List.length_singleton
abbrev zMd:=@List.any_cons
abbrev zMe:=@List.any_nil
abbrev zMf:=@List.getElem?_cons_succ
abbrev zMg:=@List.getElem?_set_ne
abbrev zMh:=@List.getElem?_eq_none
abbrev zMi:=@Bool.false_or
abbrev zMj:=@List.mem_filter
abbrev zMk:=@Array.getElem?_append_left
abbrev zMl:=@List.getElem?_toArray
abbrev zMm:=@Nat.zero_mul
abbrev zMn:=@Array.toList_map
abbrev zMo:=@List.pairwise_append
abbrev zMp:=@Nat.zero_le
abbrev zMq:=@List.length_eq_one_iff
abbrev zMr:=@List.drop_eq_getElem_cons
abbrev zMs:=@List.map_map
abbrev zMt:=@List.getElem?_cons_zero
abbrev zMu:=@List.isEmpty_iff
abbrev zMv:=@List.any_eq_false
abbrev zMw:=@Array.getElem?_setIfInBounds
abbrev zMx:=@Array.getElem?_eq_none
abbrev zMy:=@Bool.eq_iff_iff
abbrev zMz:=@List.mem_replicate
abbrev zMA:=@Array.size_append
abbrev zMB:=@List.size_toArray
abbrev zMC:=@Nat.min_eq_left
abbrev zMD:=@Nat.add_sub_cancel
abbrev zME:=@List.take_sublist
abbrev zMF:=@List.drop_sublist
abbrev zMG:=@List.take_add_one
abbrev zMH:=@List.take_nil
abbrev zMI:=@List.drop_nil
abbrev zMJ:=@List.take_zero
abbrev zMK:=@List.singleton_append
abbrev zML:=@Bool.and_self
abbrev zMM:=@Bool.and_true
abbrev zMN:=@List.set_cons_zero
abbrev zMO:=@Nat.le_max_left
abbrev zMP:=@Nat.le_max_right
abbrev zMQ:=@List.getElem?_set
abbrev zMR:=@Array.getElem?_push
abbrev zMS:=@Array.getElem?_modify
abbrev zMT:=@Array.getElem?_setIfInBounds_self_of_lt
abbrev zMU:=@Array.getElem?_setIfInBounds_ne
abbrev zMV:=@Array.foldl_toList
abbrev zMW:=@Array.getElem?_toList
abbrev zMX:=@List.length_set
abbrev zMY:=@List.pairwise_iff_getElem
abbrev zMZ:=@Int.fdiv_eq_ediv_of_nonneg
abbrev zM0:=@Array.mapM_eq_mapM_toList
abbrev zM1:=@List.eq_of_mem_replicate
abbrev zM2:=@List.perm_append_singleton

namespace Go.Sim
inductive D where
 | int (k : IntKind) (n : Int)
 | bool (b : Bool)
 | str (s : List UInt8)
 | agg (cs : List D)
 | tup (vs : List D)
 | sl (es : List D)
 | pd (x : D)
 | fn (f : FuncId) (caps : List D)
 | nil
 deriving Inhabited
def D.cells : D -> List D
 | .agg cs => cs
 | x => [x]
def D.size (x : D) : Nat := x.cells.length
def D.cell : D -> Bool
 | .agg _ => false
 | .tup _ => false
 | _ => true
def LIM : Nat := 4294967296
def zfY : Value -> Bool
 | .pointer none => true
 | .nilFunc => true
 | .nilIface => true
 | _ => false
inductive It where
 | v (x : D) (u : Value)
 | el (x : D) (b off : Nat)
inductive Rd (w : World) (R : Nat -> Prop) : It -> Prop
 | int {k : IntKind} {n : Int} (h : k.has n) : Rd w R (.v (.int k n) (.int k n))
 | bool {b : Bool} : Rd w R (.v (.bool b) (.bool b))
 | str {s : List UInt8} (h : s.length <= LIM) : Rd w R (.v (.str s) (.string ⟨s.toArray⟩))
 | agg {cs : List D} {vs : List Value} (hl : vs.length = cs.length) (hc : ∀ c ∈ cs, c.cell = true)
     (h : ∀ (i : Nat) (c : D) (u : Value), cs[i]? = some c -> vs[i]? = some u -> Rd w R (.v c u)) : Rd w R (.v (.agg cs) (.agg vs.toArray))
 | tup {cs : List D} {vs : List Value} (hl : vs.length = cs.length)
     (h : ∀ (i : Nat) (c : D) (u : Value), cs[i]? = some c -> vs[i]? = some u -> Rd w R (.v c u)) : Rd w R (.v (.tup cs) (.tuple vs.toArray))
 | sl0 {a : Option Addr} {cap : Nat} : Rd w R (.v (.sl []) (.slice a 0 cap))
 | sl {es : List D} {b off s cap : Nat} (hR : R b) (h0 : es ≠ []) (hs : 0 < s) (hl : es.length <= LIM) (hcap : es.length <= cap) (hsz : ∀ e ∈ es, e.size = s)
     (h : ∀ (i : Nat) (e : D), es[i]? = some e -> Rd w R (.el e b (off + i * s))) : Rd w R (.v (.sl es) (.slice (some ⟨b, off, none⟩) es.length cap))
 | pd {x : D} {b off : Nat} (hR : R b) (h : Rd w R (.el x b off)) : Rd w R (.v (.pd x) (.pointer (some ⟨b, off, none⟩)))
 | fn {f : FuncId} {cs : List D} {vs : List Value} (hl : vs.length = cs.length)
     (h : ∀ (i : Nat) (c : D) (u : Value), cs[i]? = some c -> vs[i]? = some u -> Rd w R (.v c u)) : Rd w R (.v (.fn f cs) (.func (.func f) #[] vs.toArray))
 | nil {u : Value} (h : zfY u = true) : Rd w R (.v .nil u)
 | elagg {cs : List D} {b off : Nat} (hc : ∀ c ∈ cs, c.cell = true)
     (h : ∀ (i : Nat) (c : D), cs[i]? = some c -> Rd w R (.el c b (off + i))) : Rd w R (.el (.agg cs) b off)
 | elc {x : D} {u : Value} {b off : Nat} (hc : x.cell = true) (hv : w.cell? ⟨b, off, none⟩ = some u) (h : Rd w R (.v x u)) : Rd w R (.el x b off)
theorem zCM {u : Value} (h : zfY u = true) : u.cells = #[u] := by cases u <;> first | rfl | cases h
theorem D.size_cell {x : D} (h : x.cell = true) : x.size = 1 := by cases x <;> simp_all [D.cell, D.size, D.cells]
theorem D.cells_cell {x : D} (h : x.cell = true) : x.cells = [x] := by cases x <;> simp_all [D.cell, D.cells]
def zU (R : Nat -> Prop) (w w' : World) : Prop := ∀ b, R b -> w'.heap[b]? = w.heap[b]?
def It.near (w w' : World) : It -> Prop
 | .v _ _ => True
 | .el x b off => ∀ j, j < x.size -> w'.cell? ⟨b, off + j, none⟩ = w.cell? ⟨b, off + j, none⟩
theorem Rd.mono {w w' : World} {R R' : Nat -> Prop} {it : It} (h : Rd w R it) (hR : ∀ b, R b -> R' b) (hw : zU R w w') (hn : it.near w w') : Rd w' R' it := by
 induction h with
 | int h => exact .int h
 | bool => exact .bool
 | str h => exact .str h
 | agg hl hc _ ih => exact .agg hl hc fun i c u h1 h2 => ih i c u h1 h2 trivial
 | tup hl _ ih => exact .tup hl fun i c u h1 h2 => ih i c u h1 h2 trivial
 | sl0 => exact .sl0
 | sl hr h0 hs hl hcap hsz _ ih => exact .sl (hR _ hr) h0 hs hl hcap hsz fun i e h1 => ih i e h1 fun j _ => World.cell?_of_block (hw _ hr)
 | pd hr _ ih => exact .pd (hR _ hr) (ih fun j _ => World.cell?_of_block (hw _ hr))
 | fn hl _ ih => exact .fn hl fun i c u h1 h2 => ih i c u h1 h2 trivial
 | nil h => exact .nil h
 | @elagg cs b off hc _ ih =>
  refine .elagg hc fun i c h1 => ih i c h1 fun j hj => ?_;have hi : i < cs.length := (zKP.1 h1).1;have hcl : c.cell = true := hc c (zKU h1);rw [D.size_cell hcl] at hj;have := hn i (by simpa [D.size, D.cells] using hi);have hj0 : j = 0 := by omega
  subst hj0;simpa using this
 | @elc x u b off hc hv _ ih =>
  refine .elc hc ?_ (ih trivial);have := hn 0 (by rw [D.size_cell hc]; omega);simpa [hv] using this
theorem Rd.mono_v {w w' : World} {R R' : Nat -> Prop} {x : D} {u : Value} (h : Rd w R (.v x u)) (hR : ∀ b, R b -> R' b) (hw : zU R w w') : Rd w' R' (.v x u) := h.mono hR hw trivial
theorem Rd.cells_of_v {w : World} {R : Nat -> Prop} {x : D} {u : Value} (h : Rd w R (.v x u)) (hx : ∀ vs, x ≠ .tup vs) :
    u.cells.size = x.size /\ ∀ (i : Nat) (c : D), x.cells[i]? = some c -> c.cell = true /\ ∃ q, u.cells[i]? = some q /\ Rd w R (.v c q) := by
 have one : ∀ (x : D) (u : Value), x.cells = [x] -> u.cells = #[u] -> x.cell = true -> Rd w R (.v x u) -> (u.cells.size = x.size /\ ∀ (i : Nat) (c : D), x.cells[i]? = some c -> c.cell = true /\ ∃ q, u.cells[i]? = some q /\ Rd w R (.v c q)) := by
  intro x u h1 h2 h3 h4;refine ⟨by simp [D.size, h1, h2], fun i c hc => ?_⟩;rw [h1] at hc
  match i, hc with
  | 0, hc => simp at hc; subst hc; exact ⟨h3, u, by simp [h2], h4⟩
  | n + 1, hc => simp at hc
 generalize hit : It.v x u = it at h
 cases h with
 | agg hl hc h =>
  injection hit with e1 e2; subst e1 e2
  refine ⟨by simp [Value.cells, D.size, D.cells, hl], fun i c hi => ?_⟩;simp only [D.cells] at hi;have hlt : i < _ := (zKP.1 hi).1;rename_i cs vs;have hq : vs[i]? = some (vs[i]'(by omega)) := zKR _;exact ⟨hc c (zKU hi), _, by simp only [Value.cells, zMl]; exact hq, h i c _ hi hq⟩
 | tup hl h => injection hit with e1 e2; exact absurd e1 (hx _)
 | int h => injection hit with e1 e2; subst e1 e2; exact one _ _ rfl rfl rfl (.int h)
 | bool => injection hit with e1 e2; subst e1 e2; exact one _ _ rfl rfl rfl .bool
 | str h => injection hit with e1 e2; subst e1 e2; exact one _ _ rfl rfl rfl (.str h)
 | sl0 => injection hit with e1 e2; subst e1 e2; exact one _ _ rfl rfl rfl .sl0
 | sl a b c d e f g => injection hit with e1 e2; subst e1 e2; exact one _ _ rfl rfl rfl (.sl a b c d e f g)
 | pd a b => injection hit with e1 e2; subst e1 e2; exact one _ _ rfl rfl rfl (.pd a b)
 | fn a b => injection hit with e1 e2; subst e1 e2; exact one _ _ rfl rfl rfl (.fn a b)
 | nil h => injection hit with e1 e2; subst e1 e2; exact one _ _ rfl (zCM h) rfl (.nil h)
 | elagg => cases hit
 | elc => cases hit
theorem Rd.v_of_cells {w : World} {R : Nat -> Prop} {x : D} {b off : Nat} (h : Rd w R (.el x b off)) :
    ∀ (i : Nat) (c : D), x.cells[i]? = some c -> c.cell = true /\ ∃ q, w.cell? ⟨b, off + i, none⟩ = some q /\ Rd w R (.v c q) := by
 intro i c hi
 cases h with
 | elagg hc h =>
  simp only [D.cells] at hi;have h1 := h i c hi;have h2 := hc c (zKU hi)
  cases h1 with
  | elagg => simp [D.cell] at h2
  | elc hc' hv h => exact ⟨h2, _, hv, h⟩
 | elc hc hv h =>
  rw [D.cells_cell hc] at hi
  match i, hi with
  | 0, hi => simp at hi; subst hi; exact ⟨hc, _, by simpa using hv, h⟩
  | n + 1, hi => simp at hi
theorem Rd.el_of_cells {w : World} {R : Nat -> Prop} {x : D} {b off : Nat} (hx : ∀ vs, x ≠ .tup vs)
    (h : ∀ (i : Nat) (c : D), x.cells[i]? = some c -> c.cell = true /\ ∃ q, w.cell? ⟨b, off + i, none⟩ = some q /\ Rd w R (.v c q)) : Rd w R (.el x b off) := by
 by_cases hc : x.cell = true
 · obtain ⟨_, q, h1, h2⟩ := h 0 x (by rw [D.cells_cell hc]; rfl);exact .elc hc (by simpa using h1) h2
 · cases x with
   | agg cs =>
    refine .elagg (fun c hc => ?_) fun i c hi => ?_
    · obtain ⟨i, hi⟩ := zLl hc;exact (h i c hi).1
    · obtain ⟨h0, q, h1, h2⟩ := h i c hi;exact .elc h0 h1 h2
   | tup vs => exact absurd rfl (hx vs)
   | _ => simp [D.cell] at hc
inductive AV where
 | d (x : D)
 | ref (o i off : Nat)
 | osl (o off len : Nat)
 | acc (o : Nat) (es : List D)
 | pe (o : Nat) (x : D)
 | xsl (es : List D)
 | agg (cs : List AV)
 | tup (vs : List AV)
 | fn (f : FuncId) (caps : List AV)
 | nl (b : Bool)
 | mpr (o : Nat)
 | undef
 deriving Inhabited
def AV.cells : AV -> List AV
 | .d x => x.cells.map .d
 | .agg cs => cs
 | x => [x]
def AV.size : AV -> Nat
 | .d x => x.size
 | .agg cs => cs.length
 | _ => 1
def AV.cell : AV -> Bool
 | .d x => x.cell
 | .agg _ => false
 | .tup _ => false
 | .undef => false
 | _ => true
theorem AV.size_cells (x : AV) : x.cells.length = x.size := by cases x <;> simp [AV.cells, AV.size, D.size]
mutual
def AV.refs (o : Nat) : AV -> Bool
 | .ref p _ _ => p == o
 | .osl p _ _ => p == o
 | .acc p _ => p == o
 | .pe p _ => p == o
 | .agg cs => AV.refsL o cs
 | .tup vs => AV.refsL o vs
 | .fn _ cs => AV.refsL o cs
 | .d _ => false
 | .xsl _ => false
 | .nl _ => false
 | .mpr p => p == o
 | .undef => false
def AV.refsL (o : Nat) : List AV -> Bool
 | [] => false
 | x :: xs => AV.refs o x || AV.refsL o xs
end
theorem AV.refsL_mem {o : Nat} {x : AV} {xs : List AV} (h : x ∈ xs) (hx : AV.refs o x = true) : AV.refsL o xs = true := by
 induction xs with
 | nil => cases h
 | cons y ys ih =>
  simp only [AV.refsL, zLs]
  cases h with
  | head => exact .inl hx
  | tail _ h => exact .inr (ih h)
theorem AV.refsL_false {o : Nat} {x : AV} {xs : List AV} (h : x ∈ xs) (hx : AV.refsL o xs = false) : AV.refs o x = false := by
 cases hh : AV.refs o x with
 | false => rfl
 | true => rw [AV.refsL_mem h hh] at hx; cases hx
inductive Obj where
 | row (es : List AV)
 | acc (n : Nat)
 | frz (m : Option Nat)
 | mp (es : List (Int × D))
 deriving Inhabited
def Obj.refs (o : Nat) : Obj -> Bool
 | .row es => AV.refsL o es
 | .acc _ => false
 | .frz _ => false
 | .mp _ => false
abbrev za := List (Nat × Obj)
abbrev Env := List (Nat × AV)
structure St where
 env : Env
 heap : za
def look {α : Type} (k : Nat) : List (Nat × α) -> Option α
 | [] => none
 | (j, x) :: l => if j = k then some x else look k l
def zaR {α : Type} (k : Nat) : List (Nat × α) -> List (Nat × α)
 | [] => []
 | (j, x) :: l => if j = k then zaR k l else (j, x) :: zaR k l
def zj {α : Type} (k : Nat) (x : α) (l : List (Nat × α)) : List (Nat × α) := (k, x) :: zaR k l
theorem zu {α : Type} {k : Nat} {l : List (Nat × α)} {x : α} (h : look k l = some x) : (k, x) ∈ l := by
 induction l with
 | nil => cases h
 | cons p l ih =>
  obtain ⟨j, y⟩ := p;simp only [look] at h
  split at h
  · rename_i e; subst e; cases h; exact .head _
  · exact .tail _ (ih h)
theorem zcT {α : Type} {k : Nat} {l : List (Nat × α)} {p : Nat × α} : p ∈ zaR k l ↔ p ∈ l /\ p.1 ≠ k := by
 induction l with
 | nil => simp [zaR]
 | cons q l ih =>
  obtain ⟨j, y⟩ := q;simp only [zaR]
  by_cases e : j = k
  · rw [zKN e, ih];constructor
    · exact fun ⟨a, b⟩ => ⟨.tail _ a, b⟩
    · rintro ⟨a, b⟩
      cases a with
      | head => exact absurd e b
      | tail _ a => exact ⟨a, b⟩
  · rw [zKM e];constructor
    · intro h
      cases h with
      | head => exact ⟨.head _, e⟩
      | tail _ h => exact ⟨.tail _ (ih.1 h).1, (ih.1 h).2⟩
    · rintro ⟨a, b⟩
      cases a with
      | head => exact .head _
      | tail _ a => exact .tail _ (ih.2 ⟨a, b⟩)
theorem zCh {α : Type} {k j : Nat} {l : List (Nat × α)} (h : j ≠ k) : look j (zaR k l) = look j l := by
 induction l with
 | nil => rfl
 | cons p l ih =>
  obtain ⟨i, y⟩ := p;simp only [zaR, look]
  by_cases e : i = k
  · rw [zKN e, ih, zKM (by omega)]
  · rw [zKM e, look, ih]
@[simp] theorem zCg {α : Type} {k : Nat} {x : α} {l : List (Nat × α)} : look k (zj k x l) = some x := by simp [zj, look]
theorem zr5 {α : Type} {k j : Nat} {x : α} {l : List (Nat × α)} (h : j ≠ k) : look j (zj k x l) = look j l := by
 simp only [zj, look]; rw [zKM (Ne.symm h), zCh h]
def refsEnv (o : Nat) : Env -> Bool
 | [] => false
 | (_, x) :: l => x.refs o || refsEnv o l
def refsHeap (o : Nat) : za -> Bool
 | [] => false
 | (_, x) :: l => x.refs o || refsHeap o l
theorem zeH {o t : Nat} {x : AV} {l : Env} (h : (t, x) ∈ l) (hx : refsEnv o l = false) : x.refs o = false := by
 induction l with
 | nil => cases h
 | cons p l ih =>
  simp only [refsEnv, zLZ] at hx
  cases h with
  | head => exact hx.1
  | tail _ h => exact ih h hx.2
theorem zb4 {o t : Nat} {x : Obj} {l : za} (h : (t, x) ∈ l) (hx : refsHeap o l = false) : x.refs o = false := by
 induction l with
 | nil => cases h
 | cons p l ih =>
  simp only [refsHeap, zLZ] at hx
  cases h with
  | head => exact hx.1
  | tail _ h => exact ih h hx.2
def mark (H : za) (o : Nat) : Option Nat :=
 match look o H with
 | some (.acc n) => some n
 | some (.frz m) => m
 | _ => none
abbrev Inj := Nat -> Option (Nat × Nat)
inductive VA (w : World) (R : Nat -> Prop) (ι : Inj) (mk : Nat -> Option Nat) : AV -> Value -> Prop
 | d {x : D} {u : Value} (h : Rd w R (.v x u)) : VA w R ι mk (.d x) u
 | ref {o i off b s : Nat} (h : ι o = some (b, s)) (hmk : mk o = none) : VA w R ι mk (.ref o i off) (.pointer (some ⟨b, i * s + off, none⟩))
 | osl {o off len cap b s : Nat} {c : Array Value} {T : TypeId} (h : ι o = some (b, s)) (hmk : mk o = none) (hb : w.heap[b]? = some (.cells c T (0, 0)))
     (hl : len <= cap) (hc : (off + cap) * s <= c.size) (hL : len <= LIM) : VA w R ι mk (.osl o off len) (.slice (some ⟨b, off * s, none⟩) len cap)
 | osl0 {o off : Nat} {a : Option Addr} : VA w R ι mk (.osl o off 0) (.slice a 0 0)
 | accR {o b off s cap : Nat} {es : List D} (hR : R b) (hs : 0 < s) (hL : es.length <= LIM) (hl : es.length <= cap) (hsz : ∀ e ∈ es, e.size = s)
     (h : ∀ (i : Nat) (e : D), es[i]? = some e -> Rd w R (.el e b (off + i * s))) (hm : ∀ m, mk o = some m -> es.length < m) :
     VA w R ι mk (.acc o es) (.slice (some ⟨b, off, none⟩) es.length cap)
 | accC {o b s m cap : Nat} {es : List D} {c : Array Value} {T : TypeId} (hι : ι o = some (b, s)) (hmk : mk o = some m) (hm : es.length <= m) (hL : es.length <= LIM) (hl : es.length <= cap)
     (hsz : ∀ e ∈ es, e.size = s) (hb : w.heap[b]? = some (.cells c T (0, 0))) (hc : cap * s <= c.size)
     (h : ∀ (i : Nat) (e : D), es[i]? = some e -> Rd w R (.el e b (i * s))) : VA w R ι mk (.acc o es) (.slice (some ⟨b, 0, none⟩) es.length cap)
 | peR {o b off : Nat} {x : D} (hR : R b) (h : Rd w R (.el x b off)) : VA w R ι mk (.pe o x) (.pointer (some ⟨b, off, none⟩))
 | peC {o b s m off : Nat} {x : D} {c : Array Value} {T : TypeId} (hι : ι o = some (b, s)) (hmk : mk o = some m) (hb : w.heap[b]? = some (.cells c T (0, 0))) (hoff : off + x.size <= m * s)
     (h : Rd w R (.el x b off)) : VA w R ι mk (.pe o x) (.pointer (some ⟨b, off, none⟩))
 | acc0 {o : Nat} {a : Option Addr} : VA w R ι mk (.acc o []) (.slice a 0 0)
 | xsl {es : List D} {a : Option Addr} {n : Nat} (h : Rd w R (.v (.sl es) (.slice a n n))) : VA w R ι mk (.xsl es) (.slice a n n)
 | agg {cs : List AV} {vs : List Value} (hl : vs.length = cs.length) (hc : ∀ c ∈ cs, c.cell = true)
     (h : ∀ (i : Nat) (c : AV) (u : Value), cs[i]? = some c -> vs[i]? = some u -> VA w R ι mk c u) : VA w R ι mk (.agg cs) (.agg vs.toArray)
 | tup {cs : List AV} {vs : List Value} (hl : vs.length = cs.length)
     (h : ∀ (i : Nat) (c : AV) (u : Value), cs[i]? = some c -> vs[i]? = some u -> VA w R ι mk c u) : VA w R ι mk (.tup cs) (.tuple vs.toArray)
 | fn {f : FuncId} {cs : List AV} {vs : List Value} (hl : vs.length = cs.length)
     (h : ∀ (i : Nat) (c : AV) (u : Value), cs[i]? = some c -> vs[i]? = some u -> VA w R ι mk c u) : VA w R ι mk (.fn f cs) (.func (.func f) #[] vs.toArray)
 | nl1 {cap : Nat} : VA w R ι mk (.nl true) (.slice none 0 cap)
 | nl2 {a : Addr} {cap : Nat} : VA w R ι mk (.nl false) (.slice (some a) 0 cap)
 | mpr {o b s : Nat} (h : ι o = some (b, s)) (hmk : mk o = none) : VA w R ι mk (.mpr o) (.map (some b))
 | undef {u : Value} : VA w R ι mk .undef u
def Blk (w w' : World) (b k : Nat) : Prop :=
 ∀ (c : Array Value) (T : TypeId), w.heap[b]? = some (.cells c T (0, 0)) -> ∃ c', w'.heap[b]? = some (.cells c' T (0, 0)) /\ c'.size = c.size /\ ∀ j, j < k -> c'[j]? = c[j]?
theorem Blk.of_eq {w w' : World} {b k : Nat} (h : w'.heap[b]? = w.heap[b]?) : Blk w w' b k := fun c T hc => ⟨c, by rw [h, hc], rfl, fun _ _ => rfl⟩
theorem Blk.trans {w w' w'' : World} {b k : Nat} (h : Blk w w' b k) (h' : Blk w' w'' b k) : Blk w w'' b k := fun c T hc =>
 let ⟨c', h1, h2, h3⟩ := h c T hc
 let ⟨c'', h4, h5, h6⟩ := h' c' T h1
 ⟨c'', h4, h5.trans h2, fun j hj => (h6 j hj).trans (h3 j hj)⟩
theorem Blk.mono {w w' : World} {b k k' : Nat} (h : Blk w w' b k) (hk : k' <= k) : Blk w w' b k' :=
 fun c T hc => let ⟨c', h1, h2, h3⟩ := h c T hc; ⟨c', h1, h2, fun j hj => h3 j (by omega)⟩
theorem zK {w : World} {b j : Nat} {c : Array Value} {T : TypeId} {fz : Nat × Nat} (h : w.heap[b]? = some (.cells c T fz)) : w.cell? ⟨b, j, none⟩ = c[j]? := by
 simp [World.cell?, h]
structure Step (w w' : World) (ι ι' : Inj) (mk mk' : Nat -> Option Nat) (o : Nat) : Prop where
 inj : ∀ b s, ι o = some (b, s) -> ι' o = some (b, s)
 blk : ∀ b s, ι o = some (b, s) -> Blk w w' b ((mk o).getD 0 * s)
 up : ∀ m, mk o = some m -> ∃ m', mk' o = some m' /\ m <= m'
 down : ∀ m', mk' o = some m' -> ∃ m, mk o = some m /\ m <= m'
theorem Step.none {w w' : World} {ι ι' : Inj} {mk mk' : Nat -> Option Nat} {o : Nat} (h : Step w w' ι ι' mk mk' o) (hm : mk o = none) : mk' o = none := by
 cases hh : mk' o with
 | none => rfl
 | some m' => obtain ⟨m, h1, _⟩ := h.down m' hh; rw [hm] at h1; cases h1
theorem Step.same {w w' : World} {ι : Inj} {mk : Nat -> Option Nat} {o : Nat} (h : ∀ b s, ι o = some (b, s) -> w'.heap[b]? = w.heap[b]?) : Step w w' ι ι mk mk o :=
 ⟨fun _ _ h => h, fun b s hh => Blk.of_eq (h b s hh), fun m h => ⟨m, h, zKV _⟩, fun m h => ⟨m, h, zKV _⟩⟩
theorem Rd.el_blk {w w' : World} {R R' : Nat -> Prop} {x : D} {b off s k : Nat} (h : Rd w R (.el x b off)) (hR : ∀ b, R b -> R' b) (hw : zU R w w') (hb : Blk w w' b k)
    {c : Array Value} {T : TypeId} (hc : w.heap[b]? = some (.cells c T (0, 0))) (hs : x.size = s) (hk : off + s <= k) : Rd w' R' (.el x b off) := by
 refine h.mono hR hw fun j hj => ?_;obtain ⟨c', h1, _, h3⟩ := hb c T hc;rw [zK h1, zK hc, h3 _ (by omega)]
theorem VA.mono {w w' : World} {R R' : Nat -> Prop} {ι ι' : Inj} {mk mk' : Nat -> Option Nat} {x : AV} {u : Value} (h : VA w R ι mk x u) (hR : ∀ b, R b -> R' b) (hw : zU R w w')
    (hs : ∀ o, x.refs o = true -> Step w w' ι ι' mk mk' o) : VA w' R' ι' mk' x u := by
 induction h with
 | d h => exact .d (h.mono_v hR hw)
 | @ref o _ _ _ _ h hmk => exact .ref ((hs o (by simp [AV.refs])).inj _ _ h) ((hs o (by simp [AV.refs])).none hmk)
 | @osl o _ _ _ _ _ _ _ h hmk hb hl hc hL =>
  have st := hs o (by simp [AV.refs]);obtain ⟨c', h1, h2, _⟩ := st.blk _ _ h _ _ hb;exact .osl (st.inj _ _ h) (st.none hmk) h1 hl (by omega) hL
 | osl0 => exact .osl0
 | @accR o _ _ _ _ _ hr hs' hL hl hsz h hm =>
  have st := hs o (by simp [AV.refs]);refine .accR (hR _ hr) hs' hL hl hsz (fun i e hi => (h i e hi).mono hR hw fun j _ => World.cell?_of_block (hw _ hr)) fun m' hm' => ?_;obtain ⟨m, h1, h2⟩ := st.down _ hm';have := hm m h1; omega
 | @accC o b s m cap es c T hι hmk hm hL hl hsz hb hc h =>
  have st := hs o (by simp [AV.refs]);obtain ⟨m', h1, h2⟩ := st.up _ hmk;have hbk := st.blk _ _ hι;rw [hmk] at hbk;obtain ⟨c', h3, h4, _⟩ := hbk _ _ hb;refine .accC (st.inj _ _ hι) h1 (zL1 hm h2) hL hl hsz h3 (by omega) fun i e hi => ?_;have hlt : i < es.length := (zKP.1 hi).1;refine (h i e hi).el_blk hR hw hbk hb (hsz e (zKU hi)) ?_;simp only [zLX]
  calc i * s + s = (i + 1) * s := by rw [zLp]
   _ <= m * s := zK6 _ (by omega)
 | acc0 => exact .acc0
 | peR hr h => exact .peR (hR _ hr) (h.mono hR hw fun j _ => World.cell?_of_block (hw _ hr))
 | @peC o b s m off x c T hι hmk hb hoff h =>
  have st := hs o (by simp [AV.refs]);obtain ⟨m', h1, h2⟩ := st.up _ hmk;have hbk := st.blk _ _ hι;rw [hmk] at hbk;obtain ⟨c', h3, h4, _⟩ := hbk _ _ hb;exact .peC (st.inj _ _ hι) h1 h3 (zL1 hoff (zK6 _ h2)) (h.el_blk hR hw hbk hb rfl hoff)
 | xsl h => exact .xsl (h.mono_v hR hw)
 | agg hl hc _ ih => exact .agg hl hc fun i c u h1 h2 => ih i c u h1 h2 fun o ho => hs o (AV.refsL_mem (zKU h1) ho)
 | tup hl _ ih => exact .tup hl fun i c u h1 h2 => ih i c u h1 h2 fun o ho => hs o (AV.refsL_mem (zKU h1) ho)
 | fn hl _ ih => exact .fn hl fun i c u h1 h2 => ih i c u h1 h2 fun o ho => hs o (AV.refsL_mem (zKU h1) ho)
 | nl1 => exact .nl1
 | nl2 => exact .nl2
 | @mpr o _ _ h hmk => exact .mpr ((hs o (by simp [AV.refs])).inj _ _ h) ((hs o (by simp [AV.refs])).none hmk)
 | undef => exact .undef
inductive OB (w : World) (R : Nat -> Prop) (ι : Inj) (mk : Nat -> Option Nat) (o : Nat) : Obj -> Prop
 | row {es : List AV} {b s : Nat} {c : Array Value} {T : TypeId} (hι : ι o = some (b, s)) (hR : ¬ R b) (hb : w.heap[b]? = some (.cells c T (0, 0))) (hs : 0 < s)
     (hsz : ∀ e ∈ es, e.size = s) (hc : es.length * s <= c.size)
     (h : ∀ (i : Nat) (e : AV), es[i]? = some e -> ∀ (j : Nat) (x : AV), e.cells[j]? = some x -> x.cell = true /\ ∃ q, c[i * s + j]? = some q /\ VA w R ι mk x q) : OB w R ι mk o (.row es)
 | acc {n b s : Nat} {c : Array Value} {T : TypeId} (hpos : 0 < n) (hι : ι o = some (b, s)) (hR : ¬ R b) (hb : w.heap[b]? = some (.cells c T (0, 0))) (hs : 0 < s) (hc : n * s <= c.size) : OB w R ι mk o (.acc n)
 | accN {n : Nat} (hι : ι o = none) : OB w R ι mk o (.acc n)
 /-- An object that is data from now on. -/
 | frz {m : Option Nat} (h : ∀ b s, ι o = some (b, s) -> R b /\ 0 < s) : OB w R ι mk o (.frz m)
 | mp {es : List (Int × D)} {b s ck : Nat} {l : Array MapEntry} (hι : ι o = some (b, s)) (hR : ¬ R b) (hb : w.heap[b]? = some (.map l ck)) (hs : 0 < s)
     (hl : l.size = es.length) (h : ∀ (i : Nat) (k : Int) (x : D), es[i]? = some (k, x) -> ∃ e, l[i]? = some e /\ e.key = .int .i64 k /\ Rd w R (.v x e.val)) : OB w R ι mk o (.mp es)
structure Ctx where
 w0 : World
 keep : Nat -> Prop
 R0 : Nat -> Prop
 n : Nat
 gh : List Value
 le : n <= 1000000
def za2 (C : Ctx) (a : Act) (t : Nat) : Option Value := if t < 1000000 then a.tmps[t]? else C.gh[t - 1000000]?
structure Rel (C : Ctx) (S : St) (a : Act) (w : World) (ι : Inj) (R : Nat -> Prop) : Prop where
 defers : a.defers = []
 size : a.tmps.size = C.n
 os : w.os = C.w0.os
 tape : w.tape = C.w0.tape
 output : w.output = C.w0.output
 grow : C.w0.heap.size <= w.heap.size
 len : ∀ b, b < C.w0.heap.size -> Blk C.w0 w b 0
 keep : ∀ b, C.keep b -> w.heap[b]? = C.w0.heap[b]?
 keepLt : ∀ b, C.keep b -> b < C.w0.heap.size
 rlt : ∀ b, R b -> b < w.heap.size
 rok : ∀ b, R b -> C.R0 b \/ ¬ C.keep b
 r0 : ∀ b, C.R0 b -> R b
 own : ∀ o b s, ι o = some (b, s) -> ¬ C.keep b /\ b < w.heap.size
 inj : ∀ o o' b s s', ι o = some (b, s) -> ι o' = some (b, s') -> o = o'
 env : ∀ t x, (t, x) ∈ S.env -> ∃ u, za2 C a t = some u /\ VA w R ι (mark S.heap) x u
 heap : ∀ o ob, (o, ob) ∈ S.heap -> OB w R ι (mark S.heap) o ob
theorem AV.cells_refs {o : Nat} {e x : AV} {j : Nat} (h : e.cells[j]? = some x) (hx : x.refs o = true) : e.refs o = true := by
 cases e with
 | agg cs => exact AV.refsL_mem (zKU h) hx
 | d y =>
  simp only [AV.cells] at h;rw [zKQ] at h
  cases hh : y.cells[j]? with
  | none => simp [hh] at h
  | some z => simp [hh] at h; subst h; simp [AV.refs] at hx
 | _ =>
  simp only [AV.cells] at h
  match j, h with
  | 0, h => simp at h; subst h; exact hx
  | n + 1, h => simp at h
theorem OB.mono {w w' : World} {R R' : Nat -> Prop} {ι ι' : Inj} {mk mk' : Nat -> Option Nat} {o : Nat} {ob : Obj} (h : OB w R ι mk o ob) (hR : ∀ b, R b -> R' b) (hw : zU R w w')
    (hb : ∀ b s, ι o = some (b, s) -> ι' o = some (b, s) /\ w'.heap[b]? = w.heap[b]? /\ (R' b -> R b)) (h0 : ι o = none -> ι' o = none)
    (hs : ∀ p, ob.refs p = true -> Step w w' ι ι' mk mk' p) : OB w' R' ι' mk' o ob := by
 cases h with
 | row hι hr hb' hs' hsz hc h =>
  obtain ⟨h1, h2, h3⟩ := hb _ _ hι;refine .row h1 (fun k => hr (h3 k)) (by rw [h2]; exact hb') hs' hsz hc fun i e hi j x hj => ?_;obtain ⟨k1, q, k2, k3⟩ := h i e hi j x hj;exact ⟨k1, q, k2, k3.mono hR hw fun p hp => hs p (AV.refsL_mem (zKU hi) (AV.cells_refs hj hp))⟩
 | acc hpos hι hr hb' hs' hc =>
  obtain ⟨h1, h2, h3⟩ := hb _ _ hι;exact .acc hpos h1 (fun k => hr (h3 k)) (by rw [h2]; exact hb') hs' hc
 | accN hι => exact .accN (h0 hι)
 | frz h =>
  refine .frz fun b s hb' => ?_
  cases hι : ι o with
  | none => rw [h0 hι] at hb'; cases hb'
  | some p => obtain ⟨b0, s0⟩ := p; rw [(hb _ _ hι).1] at hb'; cases hb'; exact ⟨hR _ (h _ _ hι).1, (h _ _ hι).2⟩
 | mp hι hr hb' hs' hl h =>
  obtain ⟨h1, h2, h3⟩ := hb _ _ hι;refine .mp h1 (fun k => hr (h3 k)) (by rw [h2]; exact hb') hs' hl fun i k x hi => ?_;obtain ⟨e, k1, k2, k3⟩ := h i k x hi;exact ⟨e, k1, k2, k3.mono_v hR hw⟩
end Go.Sim
