/-
  Abstract values and states of a running call, and the relati.
-/
import Derived.Calls
import Derived.Laws.Sem
import Derived.Laws.World
import Derived.Laws.Rows
import Derived.Below
set_option linter.unusedSimpArgs false
set_option linter.unusedVariables false
set_option maxHeartbeats 10000000
set_option maxRecDepth 100000
abbrev zQN:=@if_neg
abbrev zQO:=@if_pos
abbrev zQP:=@Option.bind_eq_some_iff
abbrev zQQ:=@Option.map_eq_some_iff
abbrev zQR:=@List.map_nil
abbrev zQS:=@List.map_cons
abbrev zQT:=@List.length_append
abbrev zQU:=@Nat.zero_add
abbrev zQV:=@List.length_map
abbrev zQW:=@Int.natCast_zero
abbrev zQX:=@List.length_cons
abbrev zQY:=@List.map_append
abbrev zQZ:=@Int.natCast_one
abbrev zQ0:=@Int.cast_ofNat_Int
abbrev zQ1:=@List.length_nil
abbrev zQ2:=@Int.natCast_add
abbrev zQ3:=@List.mem_map
abbrev zQ4:=@List.getElem?_eq_getElem
abbrev zQ5:=@Int.natCast_mul
abbrev zQ6:=@List.getElem?_eq_some_iff
abbrev zQ7:=@List.getElem?_map
abbrev zQ8:=@Bool.and_eq_true
abbrev zQ9:=@List.mem_of_getElem?
abbrev zRa:=@Bool.false_eq_true
abbrev zRb:=@List.all_eq_true
abbrev zRc:=@List.mem_append
abbrev zRd:=@Nat.le_refl
abbrev zRe:=@List.getElem_mem
abbrev zRf:=@not_true_eq_false
abbrev zRg:=@Nat.mul_le_mul_right
abbrev zRh:=@not_false_eq_true
abbrev zRi:=@Option.bind_eq_bind
abbrev zRj:=@Option.pure_def
abbrev zRk:=@Option.bind_some
abbrev zRl:=@List.getD_eq_getElem?_getD
abbrev zRm:=@Classical.not_not
abbrev zRn:=@Array.getElem?_eq_some_iff
abbrev zRo:=@Int.toNat_natCast
abbrev zRp:=@List.length_drop
abbrev zRq:=@List.length_eq_zero_iff
abbrev zRr:=@List.mem_singleton
abbrev zRs:=@List.mem_cons
abbrev zRt:=@Option.map_some
abbrev zRu:=@List.getElem?_of_mem
abbrev zRv:=@Nat.add_mul
abbrev zRw:=@decide_eq_false
abbrev zRx:=@List.length_take
abbrev zRy:=@List.take_of_length_le
abbrev zRz:=@List.getElem?_drop
abbrev zRA:=@decide_eq_true
abbrev zRB:=@List.drop_zero
abbrev zRC:=@List.append_assoc
abbrev zRD:=@Nat.lt_of_lt_of_le
abbrev zRE:=@List.getElem?_append_left
abbrev zRF:=@Nat.succ_mul
abbrev zRG:=@List.append_nil
abbrev zRH:=@List.drop_eq_getElem_cons
abbrev zRI:=@List.length_singleton
abbrev zRJ:=@List.getElem?_append_right
abbrev zRK:=@Nat.mod_lt
abbrev zRL:=@List.all_cons
abbrev zRM:=@Bool.or_eq_true
abbrev zRN:=@List.map_set
abbrev zRO:=@List.getElem_of_mem
abbrev zRP:=@Bool.not_eq_true'
abbrev zRQ:=@List.nodup_append
abbrev zRR:=@List.findIdx?_eq_some_iff_getElem
abbrev zRS:=@List.length_set
abbrev zRT:=@List.mem_of_mem_take
abbrev zRU:=@Nat.le_trans
abbrev zRV:=@List.pairwise_iff_getElem
abbrev zRW:=@List.take_zero
abbrev zRX:=@Nat.mod_eq_of_lt
abbrev zRY:=@List.map_take
abbrev zRZ:=@List.drop_length
abbrev zR0:=@List.mem_filter
abbrev zR1:=@List.perm_middle
abbrev zR2:=@eq_true
abbrev zR3:=@List.mem_range
abbrev zR4:=@List.range'_succ
abbrev zR5:=@Nat.sub_zero
abbrev zR6:=@Bool.false_or
abbrev zR7:=@Array.getElem?_eq_getElem
abbrev zR8:=@List.any_eq_false
abbrev zR9:=@List.any_eq_true
abbrev zSa:=@Nat.zero_le
abbrev zSb:=@List.take_add_one
abbrev zSc:=@Bool.eq_iff_iff
abbrev zSd:=@and_self
abbrev zSe:=@List.getElem?_take
abbrev zSf:=@List.mem_append_left
abbrev zSg:=@List.length_filter_le
abbrev zSh:=@List.filter_append
abbrev zSi:=@List.pairwise_cons
abbrev zSj:=@List.nodup_cons
abbrev zSk:=@Option.getD_some
abbrev zSl:=@List.any_cons
abbrev zSm:=@List.map_congr_left
abbrev zSn:=@List.mapM_cons
abbrev zSo:=@Option.isSome_iff_exists
abbrev zSp:=@Array.getD_eq_getD_getElem?
abbrev zSq:=@List.mem_of_mem_drop
abbrev zSr:=@Nat.add_zero
abbrev zSs:=@Nat.add_comm
abbrev zSt:=@List.map_map
abbrev zSu:=@Bool.not_eq_true
abbrev zSv:=@Int.tdiv_eq_ediv_of_nonneg
abbrev zSw:=@Nat.sub_self
abbrev zSx:=@eq_false
abbrev zSy:=@List.take_length
abbrev zSz:=@Bool.true_and
abbrev zSA:=@Bool.false_and
abbrev zSB:=@List.length_pos_iff
abbrev zSC:=@List.getElem?_set
abbrev zSD:=@List.mem_range'_1
abbrev zSE:=@List.getElem?_eq_none
abbrev zSF:=@List.mem_map_of_mem
abbrev zSG:=@Bool.or_eq_false_iff
abbrev zSH:=@List.getElem?_take_of_lt
abbrev zSI:=@List.exists_mem_of_ne_nil
abbrev zSJ:=@List.filter_nil
abbrev zSK:=@List.getElem_take
abbrev zSL:=@List.drop_drop
abbrev zSM:=@List.nil_append
abbrev zSN:=@List.take_append_drop
abbrev zSO:=@List.map_drop
abbrev zSP:=@Bool.true_or
abbrev zSQ:=@Nat.lt_or_ge
abbrev zSR:=@Nat.add_assoc
abbrev zSS:=@List.mem_append_right
abbrev zST:=@Nat.zero_mul
abbrev zSU:=@Array.toList_map
abbrev zSV:=@List.mem_or_eq_of_mem_set
abbrev zSW:=@List.map_replicate
abbrev zSX:=@Nat.min_def
abbrev zSY:=@List.filter_eq_self
abbrev zSZ:=@List.all_nil
abbrev zS0:=@Bool.and_true
abbrev zS1:=@Nat.min_self
abbrev zS2:=@List.singleton_append
abbrev zS3:=@List.take_nil
abbrev zS4:=@and_false
abbrev zS5:=@false_and
abbrev zS6:=@true_and
abbrev zS7:=@List.cons_append
abbrev zS8:=@Classical.choose_spec
abbrev zS9:=@Array.getElem?_append_left
abbrev zTa:=@List.getElem?_toArray
abbrev zTb:=@List.isEmpty_iff
abbrev zTc:=@List.length_replicate
abbrev zTd:=@Nat.mul_comm
abbrev zTe:=@Int.toNat_of_nonneg
abbrev zTf:=@List.ext_getElem
abbrev zTg:=@Int.ofNat_tmod
abbrev zTh:=@List.getElem?_set_self
abbrev zTi:=@List.perm_append_comm
abbrev zTj:=@List.mem_iff_getElem
abbrev zTk:=@Nat.lt_trichotomy
abbrev zTl:=@List.findIdx?_eq_none_iff
abbrev zTm:=@List.getElem_cons_succ
abbrev zTn:=@Bool.and_self
abbrev zTo:=@Bool.true_eq_false
abbrev zTp:=@Bool.or_true
abbrev zTq:=@Bool.or_false
abbrev zTr:=@List.getElem?_cons_zero
abbrev zTs:=@List.range_eq_range'
abbrev zTt:=@Array.getElem?_setIfInBounds
abbrev zTu:=@Array.getElem?_eq_none
abbrev zTv:=@List.mem_replicate
abbrev zTw:=@Array.size_append
abbrev zTx:=@List.size_toArray
abbrev zTy:=@Int.tmod_nonneg
abbrev zTz:=@Int.tmod_lt_of_pos
abbrev zTA:=@Nat.add_mod_right
abbrev zTB:=@List.take_set_of_le
abbrev zTC:=@List.drop_set_of_lt
abbrev zTD:=@List.sublist_append_left
abbrev zTE:=@List.filter_sublist
abbrev zTF:=@List.eraseIdx_eq_take_drop_succ
abbrev zTG:=@List.length_eraseIdx
abbrev zTH:=@List.find?_eq_none
abbrev zTI:=@List.getElem_drop
abbrev zTJ:=@List.pairwise_append
abbrev zTK:=@List.take_sublist
abbrev zTL:=@List.drop_sublist
abbrev zTM:=@Int.fdiv_eq_ediv_of_nonneg
abbrev zTN:=@List.findIdx?_cons
abbrev zTO:=@List.getElem_map
abbrev zTP:=@List.getElem?_set_ne
abbrev zTQ:=@Bool.not_true
abbrev zTR:=@Bool.not_false
abbrev zTS:=@Option.map_none
abbrev zTT:=@List.getElem?_cons_succ
abbrev zTU:=@Nat.le_max_left
abbrev zTV:=@Nat.le_max_right
abbrev zTW:=@Array.getElem_mem
abbrev zTX:=@Array.getElem?_push
abbrev zTY:=@Array.getElem?_modify
abbrev zTZ:=@List.foldl_cons
abbrev zT0:=@Array.getElem?_setIfInBounds_self_of_lt
abbrev zT1:=@Array.getElem?_setIfInBounds_ne
abbrev zT2:=@Array.foldl_toList
abbrev zT3:=@Array.getElem?_toList
abbrev zT4:=@Nat.min_eq_left
abbrev zT5:=@List.drop_of_length_le
abbrev zT6:=@List.range_zero
abbrev zT7:=@List.foldl_nil
abbrev zT8:=@List.mem_of_mem_eraseIdx
abbrev zT9:=@List.mem_of_find?_eq_some
abbrev zUa:=@List.perm_ext_iff_of_nodup
abbrev zUb:=@List.length_erase_of_mem
abbrev zUc:=@Array.mapM_eq_mapM_toList
abbrev zUd:=@List.eq_nil_of_length_eq_zero
abbrev zUe:=@List.getElem?_replicate
abbrev zUf:=@List.eq_of_mem_replicate

namespace Go.Sim
inductive D where
 | int (k : IntKind) (n : Int)
 | bool (b : Bool)
 | str (s : List UInt8)
 | agg (cs : List D)
 | tup (vs : List D)
 | sl (es : List D)
 | pd (x : D)
 | fn (f : FuncId) (caps : List D)
 | nil
 deriving Inhabited
def D.cells : D -> List D
 | .agg cs => cs
 | x => [x]
def D.size (x : D) : Nat := x.cells.length
def D.cell : D -> Bool
 | .agg _ => false
 | .tup _ => false
 | _ => true
def LIM : Nat := 4294967296
def zn9 : Value -> Bool
 | .pointer none => true
 | .nilFunc => true
 | .nilIface => true
 | _ => false
inductive It where
 | v (x : D) (u : Value)
 | el (x : D) (b off : Nat)
inductive Rd (w : World) (R : Nat -> Prop) : It -> Prop
 | int {k : IntKind} {n : Int} (h : k.has n) : Rd w R (.v (.int k n) (.int k n))
 | bool {b : Bool} : Rd w R (.v (.bool b) (.bool b))
 | str {s : List UInt8} (h : s.length <= LIM) : Rd w R (.v (.str s) (.string ⟨s.toArray⟩))
 | agg {cs : List D} {vs : List Value} (hl : vs.length = cs.length) (hc : ∀ c ∈ cs, c.cell = true)
     (h : ∀ (i : Nat) (c : D) (u : Value), cs[i]? = some c -> vs[i]? = some u -> Rd w R (.v c u)) : Rd w R (.v (.agg cs) (.agg vs.toArray))
 | tup {cs : List D} {vs : List Value} (hl : vs.length = cs.length)
     (h : ∀ (i : Nat) (c : D) (u : Value), cs[i]? = some c -> vs[i]? = some u -> Rd w R (.v c u)) : Rd w R (.v (.tup cs) (.tuple vs.toArray))
 | sl0 {a : Option Addr} {cap : Nat} : Rd w R (.v (.sl []) (.slice a 0 cap))
 | sl {es : List D} {b off s cap : Nat} (hR : R b) (h0 : es ≠ []) (hs : 0 < s) (hl : es.length <= LIM) (hcap : es.length <= cap) (hsz : ∀ e ∈ es, e.size = s)
     (h : ∀ (i : Nat) (e : D), es[i]? = some e -> Rd w R (.el e b (off + i * s))) : Rd w R (.v (.sl es) (.slice (some ⟨b, off, none⟩) es.length cap))
 | pd {x : D} {b off : Nat} (hR : R b) (h : Rd w R (.el x b off)) : Rd w R (.v (.pd x) (.pointer (some ⟨b, off, none⟩)))
 | fn {f : FuncId} {cs : List D} {vs : List Value} (hl : vs.length = cs.length)
     (h : ∀ (i : Nat) (c : D) (u : Value), cs[i]? = some c -> vs[i]? = some u -> Rd w R (.v c u)) : Rd w R (.v (.fn f cs) (.func (.func f) #[] vs.toArray))
 | nil {u : Value} (h : zn9 u = true) : Rd w R (.v .nil u)
 | elagg {cs : List D} {b off : Nat} (hc : ∀ c ∈ cs, c.cell = true)
     (h : ∀ (i : Nat) (c : D), cs[i]? = some c -> Rd w R (.el c b (off + i))) : Rd w R (.el (.agg cs) b off)
 | elc {x : D} {u : Value} {b off : Nat} (hc : x.cell = true) (hv : w.cell? ⟨b, off, none⟩ = some u) (h : Rd w R (.v x u)) : Rd w R (.el x b off)
theorem zIV {u : Value} (h : zn9 u = true) : u.cells = #[u] := by cases u <;> first | rfl | cases h
theorem D.size_cell {x : D} (h : x.cell = true) : x.size = 1 := by cases x <;> simp_all [D.cell, D.size, D.cells]
theorem D.cells_cell {x : D} (h : x.cell = true) : x.cells = [x] := by cases x <;> simp_all [D.cell, D.cells]
def zaD (R : Nat -> Prop) (w w' : World) : Prop := ∀ b, R b -> w'.heap[b]? = w.heap[b]?
def It.near (w w' : World) : It -> Prop
 | .v _ _ => True
 | .el x b off => ∀ j, j < x.size -> w'.cell? ⟨b, off + j, none⟩ = w.cell? ⟨b, off + j, none⟩
theorem Rd.mono {w w' : World} {R R' : Nat -> Prop} {it : It} (h : Rd w R it) (hR : ∀ b, R b -> R' b) (hw : zaD R w w') (hn : it.near w w') : Rd w' R' it := by
 induction h with
 | int h => exact .int h
 | bool => exact .bool
 | str h => exact .str h
 | agg hl hc _ ih => exact .agg hl hc fun i c u h1 h2 => ih i c u h1 h2 trivial
 | tup hl _ ih => exact .tup hl fun i c u h1 h2 => ih i c u h1 h2 trivial
 | sl0 => exact .sl0
 | sl hr h0 hs hl hcap hsz _ ih => exact .sl (hR _ hr) h0 hs hl hcap hsz fun i e h1 => ih i e h1 fun j _ => World.cell?_of_block (hw _ hr)
 | pd hr _ ih => exact .pd (hR _ hr) (ih fun j _ => World.cell?_of_block (hw _ hr))
 | fn hl _ ih => exact .fn hl fun i c u h1 h2 => ih i c u h1 h2 trivial
 | nil h => exact .nil h
 | @elagg cs b off hc _ ih =>
  refine .elagg hc fun i c h1 => ih i c h1 fun j hj => ?_;have hi : i < cs.length := (zQ6.1 h1).1;have hcl : c.cell = true := hc c (zQ9 h1);rw [D.size_cell hcl] at hj;have := hn i (by simpa [D.size, D.cells] using hi);have hj0 : j = 0 := by omega
  subst hj0;simpa using this
 | @elc x u b off hc hv _ ih =>
  refine .elc hc ?_ (ih trivial);have := hn 0 (by rw [D.size_cell hc]; omega);simpa [hv] using this
theorem Rd.mono_v {w w' : World} {R R' : Nat -> Prop} {x : D} {u : Value} (h : Rd w R (.v x u)) (hR : ∀ b, R b -> R' b) (hw : zaD R w w') : Rd w' R' (.v x u) := h.mono hR hw trivial
theorem Rd.cells_of_v {w : World} {R : Nat -> Prop} {x : D} {u : Value} (h : Rd w R (.v x u)) (hx : ∀ vs, x ≠ .tup vs) :
    u.cells.size = x.size /\ ∀ (i : Nat) (c : D), x.cells[i]? = some c -> c.cell = true /\ ∃ q, u.cells[i]? = some q /\ Rd w R (.v c q) := by
 have one : ∀ (x : D) (u : Value), x.cells = [x] -> u.cells = #[u] -> x.cell = true -> Rd w R (.v x u) -> (u.cells.size = x.size /\ ∀ (i : Nat) (c : D), x.cells[i]? = some c -> c.cell = true /\ ∃ q, u.cells[i]? = some q /\ Rd w R (.v c q)) := by
  intro x u h1 h2 h3 h4;refine ⟨by simp [D.size, h1, h2], fun i c hc => ?_⟩;rw [h1] at hc
  match i, hc with
  | 0, hc => simp at hc; subst hc; exact ⟨h3, u, by simp [h2], h4⟩
  | n + 1, hc => simp at hc
 generalize hit : It.v x u = it at h
 cases h with
 | agg hl hc h =>
  injection hit with e1 e2; subst e1 e2
  refine ⟨by simp [Value.cells, D.size, D.cells, hl], fun i c hi => ?_⟩;simp only [D.cells] at hi;have hlt : i < _ := (zQ6.1 hi).1;rename_i cs vs;have hq : vs[i]? = some (vs[i]'(by omega)) := zQ4 _;exact ⟨hc c (zQ9 hi), _, by simp only [Value.cells, zTa]; exact hq, h i c _ hi hq⟩
 | tup hl h => injection hit with e1 e2; exact absurd e1 (hx _)
 | int h => injection hit with e1 e2; subst e1 e2; exact one _ _ rfl rfl rfl (.int h)
 | bool => injection hit with e1 e2; subst e1 e2; exact one _ _ rfl rfl rfl .bool
 | str h => injection hit with e1 e2; subst e1 e2; exact one _ _ rfl rfl rfl (.str h)
 | sl0 => injection hit with e1 e2; subst e1 e2; exact one _ _ rfl rfl rfl .sl0
 | sl a b c d e f g => injection hit with e1 e2; subst e1 e2; exact one _ _ rfl rfl rfl (.sl a b c d e f g)
 | pd a b => injection hit with e1 e2; subst e1 e2; exact one _ _ rfl rfl rfl (.pd a b)
 | fn a b => injection hit with e1 e2; subst e1 e2; exact one _ _ rfl rfl rfl (.fn a b)
 | nil h => injection hit with e1 e2; subst e1 e2; exact one _ _ rfl (zIV h) rfl (.nil h)
 | elagg => cases hit
 | elc => cases hit
theorem Rd.v_of_cells {w : World} {R : Nat -> Prop} {x : D} {b off : Nat} (h : Rd w R (.el x b off)) :
    ∀ (i : Nat) (c : D), x.cells[i]? = some c -> c.cell = true /\ ∃ q, w.cell? ⟨b, off + i, none⟩ = some q /\ Rd w R (.v c q) := by
 intro i c hi
 cases h with
 | elagg hc h =>
  simp only [D.cells] at hi;have h1 := h i c hi;have h2 := hc c (zQ9 hi)
  cases h1 with
  | elagg => simp [D.cell] at h2
  | elc hc' hv h => exact ⟨h2, _, hv, h⟩
 | elc hc hv h =>
  rw [D.cells_cell hc] at hi
  match i, hi with
  | 0, hi => simp at hi; subst hi; exact ⟨hc, _, by simpa using hv, h⟩
  | n + 1, hi => simp at hi
theorem Rd.el_of_cells {w : World} {R : Nat -> Prop} {x : D} {b off : Nat} (hx : ∀ vs, x ≠ .tup vs)
    (h : ∀ (i : Nat) (c : D), x.cells[i]? = some c -> c.cell = true /\ ∃ q, w.cell? ⟨b, off + i, none⟩ = some q /\ Rd w R (.v c q)) : Rd w R (.el x b off) := by
 by_cases hc : x.cell = true
 · obtain ⟨_, q, h1, h2⟩ := h 0 x (by rw [D.cells_cell hc]; rfl);exact .elc hc (by simpa using h1) h2
 · cases x with
   | agg cs =>
    refine .elagg (fun c hc => ?_) fun i c hi => ?_
    · obtain ⟨i, hi⟩ := zRu hc;exact (h i c hi).1
    · obtain ⟨h0, q, h1, h2⟩ := h i c hi;exact .elc h0 h1 h2
   | tup vs => exact absurd rfl (hx vs)
   | _ => simp [D.cell] at hc
inductive AV where
 | d (x : D)
 | ref (o i off : Nat)
 | osl (o off len : Nat)
 | acc (o : Nat) (es : List D)
 | pe (o : Nat) (x : D)
 | xsl (es : List D)
 | agg (cs : List AV)
 | tup (vs : List AV)
 | fn (f : FuncId) (caps : List AV)
 | nl (b : Bool)
 | mpr (o : Nat)
 | undef
 deriving Inhabited
def AV.cells : AV -> List AV
 | .d x => x.cells.map .d
 | .agg cs => cs
 | x => [x]
def AV.size : AV -> Nat
 | .d x => x.size
 | .agg cs => cs.length
 | _ => 1
def AV.cell : AV -> Bool
 | .d x => x.cell
 | .agg _ => false
 | .tup _ => false
 | .undef => false
 | _ => true
theorem AV.size_cells (x : AV) : x.cells.length = x.size := by cases x <;> simp [AV.cells, AV.size, D.size]
mutual
def AV.refs (o : Nat) : AV -> Bool
 | .ref p _ _ => p == o
 | .osl p _ _ => p == o
 | .acc p _ => p == o
 | .pe p _ => p == o
 | .agg cs => AV.refsL o cs
 | .tup vs => AV.refsL o vs
 | .fn _ cs => AV.refsL o cs
 | .d _ => false
 | .xsl _ => false
 | .nl _ => false
 | .mpr p => p == o
 | .undef => false
def AV.refsL (o : Nat) : List AV -> Bool
 | [] => false
 | x :: xs => AV.refs o x || AV.refsL o xs
end
theorem AV.refsL_mem {o : Nat} {x : AV} {xs : List AV} (h : x ∈ xs) (hx : AV.refs o x = true) : AV.refsL o xs = true := by
 induction xs with
 | nil => cases h
 | cons y ys ih =>
  simp only [AV.refsL, zRM]
  cases h with
  | head => exact .inl hx
  | tail _ h => exact .inr (ih h)
theorem AV.refsL_false {o : Nat} {x : AV} {xs : List AV} (h : x ∈ xs) (hx : AV.refsL o xs = false) : AV.refs o x = false := by
 cases hh : AV.refs o x with
 | false => rfl
 | true => rw [AV.refsL_mem h hh] at hx; cases hx
inductive Obj where
 | row (es : List AV)
 | acc (n : Nat)
 | frz (m : Option Nat)
 | mp (es : List (Int × D))
 deriving Inhabited
def Obj.refs (o : Nat) : Obj -> Bool
 | .row es => AV.refsL o es
 | .acc _ => false
 | .frz _ => false
 | .mp _ => false
abbrev zb := List (Nat × Obj)
abbrev Env := List (Nat × AV)
structure St where
 env : Env
 heap : zb
def look {α : Type} (k : Nat) : List (Nat × α) -> Option α
 | [] => none
 | (j, x) :: l => if j = k then some x else look k l
def without {α : Type} (k : Nat) : List (Nat × α) -> List (Nat × α)
 | [] => []
 | (j, x) :: l => if j = k then without k l else (j, x) :: without k l
def zr {α : Type} (k : Nat) (x : α) (l : List (Nat × α)) : List (Nat × α) := (k, x) :: without k l
theorem zV {α : Type} {k : Nat} {l : List (Nat × α)} {x : α} (h : look k l = some x) : (k, x) ∈ l := by
 induction l with
 | nil => cases h
 | cons p l ih =>
  obtain ⟨j, y⟩ := p;simp only [look] at h
  split at h
  · rename_i e; subst e; cases h; exact .head _
  · exact .tail _ (ih h)
theorem zfJ {α : Type} {k : Nat} {l : List (Nat × α)} {p : Nat × α} : p ∈ without k l ↔ p ∈ l /\ p.1 ≠ k := by
 induction l with
 | nil => simp [without]
 | cons q l ih =>
  obtain ⟨j, y⟩ := q;simp only [without]
  by_cases e : j = k
  · rw [zQO e, ih];constructor
    · exact fun ⟨a, b⟩ => ⟨.tail _ a, b⟩
    · rintro ⟨a, b⟩
      cases a with
      | head => exact absurd e b
      | tail _ a => exact ⟨a, b⟩
  · rw [zQN e];constructor
    · intro h
      cases h with
      | head => exact ⟨.head _, e⟩
      | tail _ h => exact ⟨.tail _ (ih.1 h).1, (ih.1 h).2⟩
    · rintro ⟨a, b⟩
      cases a with
      | head => exact .head _
      | tail _ a => exact .tail _ (ih.2 ⟨a, b⟩)
theorem zIc {α : Type} {k j : Nat} {l : List (Nat × α)} (h : j ≠ k) : look j (without k l) = look j l := by
 induction l with
 | nil => rfl
 | cons p l ih =>
  obtain ⟨i, y⟩ := p;simp only [without, look]
  by_cases e : i = k
  · rw [zQO e, ih, zQN (by omega)]
  · rw [zQN e, look, ih]
@[simp] theorem zIb {α : Type} {k : Nat} {x : α} {l : List (Nat × α)} : look k (zr k x l) = some x := by simp [zr, look]
theorem zzN {α : Type} {k j : Nat} {x : α} {l : List (Nat × α)} (h : j ≠ k) : look j (zr k x l) = look j l := by
 simp only [zr, look]; rw [zQN (Ne.symm h), zIc h]
def refsEnv (o : Nat) : Env -> Bool
 | [] => false
 | (_, x) :: l => x.refs o || refsEnv o l
def refsHeap (o : Nat) : zb -> Bool
 | [] => false
 | (_, x) :: l => x.refs o || refsHeap o l
theorem zks {o t : Nat} {x : AV} {l : Env} (h : (t, x) ∈ l) (hx : refsEnv o l = false) : x.refs o = false := by
 induction l with
 | nil => cases h
 | cons p l ih =>
  simp only [refsEnv, zSG] at hx
  cases h with
  | head => exact hx.1
  | tail _ h => exact ih h hx.2
theorem zed {o t : Nat} {x : Obj} {l : zb} (h : (t, x) ∈ l) (hx : refsHeap o l = false) : x.refs o = false := by
 induction l with
 | nil => cases h
 | cons p l ih =>
  simp only [refsHeap, zSG] at hx
  cases h with
  | head => exact hx.1
  | tail _ h => exact ih h hx.2
def zf (H : zb) (o : Nat) : Option Nat :=
 match look o H with
 | some (.acc n) => some n
 | some (.frz m) => m
 | _ => none
abbrev Inj := Nat -> Option (Nat × Nat)
inductive VA (w : World) (R : Nat -> Prop) (ι : Inj) (mk : Nat -> Option Nat) : AV -> Value -> Prop
 | d {x : D} {u : Value} (h : Rd w R (.v x u)) : VA w R ι mk (.d x) u
 | ref {o i off b s : Nat} (h : ι o = some (b, s)) (hmk : mk o = none) : VA w R ι mk (.ref o i off) (.pointer (some ⟨b, i * s + off, none⟩))
 | osl {o off len cap b s : Nat} {c : Array Value} {T : TypeId} (h : ι o = some (b, s)) (hmk : mk o = none) (hb : w.heap[b]? = some (.cells c T (0, 0)))
     (hl : len <= cap) (hc : (off + cap) * s <= c.size) (hL : len <= LIM) : VA w R ι mk (.osl o off len) (.slice (some ⟨b, off * s, none⟩) len cap)
 | osl0 {o off : Nat} {a : Option Addr} : VA w R ι mk (.osl o off 0) (.slice a 0 0)
 | accR {o b off s cap : Nat} {es : List D} (hR : R b) (hs : 0 < s) (hL : es.length <= LIM) (hl : es.length <= cap) (hsz : ∀ e ∈ es, e.size = s)
     (h : ∀ (i : Nat) (e : D), es[i]? = some e -> Rd w R (.el e b (off + i * s))) (hm : ∀ m, mk o = some m -> es.length < m) :
     VA w R ι mk (.acc o es) (.slice (some ⟨b, off, none⟩) es.length cap)
 | accC {o b s m cap : Nat} {es : List D} {c : Array Value} {T : TypeId} (hι : ι o = some (b, s)) (hmk : mk o = some m) (hm : es.length <= m) (hL : es.length <= LIM) (hl : es.length <= cap)
     (hsz : ∀ e ∈ es, e.size = s) (hb : w.heap[b]? = some (.cells c T (0, 0))) (hc : cap * s <= c.size)
     (h : ∀ (i : Nat) (e : D), es[i]? = some e -> Rd w R (.el e b (i * s))) : VA w R ι mk (.acc o es) (.slice (some ⟨b, 0, none⟩) es.length cap)
 | peR {o b off : Nat} {x : D} (hR : R b) (h : Rd w R (.el x b off)) : VA w R ι mk (.pe o x) (.pointer (some ⟨b, off, none⟩))
 | peC {o b s m off : Nat} {x : D} {c : Array Value} {T : TypeId} (hι : ι o = some (b, s)) (hmk : mk o = some m) (hb : w.heap[b]? = some (.cells c T (0, 0))) (hoff : off + x.size <= m * s)
     (h : Rd w R (.el x b off)) : VA w R ι mk (.pe o x) (.pointer (some ⟨b, off, none⟩))
 | acc0 {o : Nat} {a : Option Addr} : VA w R ι mk (.acc o []) (.slice a 0 0)
 | xsl {es : List D} {a : Option Addr} {n : Nat} (h : Rd w R (.v (.sl es) (.slice a n n))) : VA w R ι mk (.xsl es) (.slice a n n)
 | agg {cs : List AV} {vs : List Value} (hl : vs.length = cs.length) (hc : ∀ c ∈ cs, c.cell = true)
     (h : ∀ (i : Nat) (c : AV) (u : Value), cs[i]? = some c -> vs[i]? = some u -> VA w R ι mk c u) : VA w R ι mk (.agg cs) (.agg vs.toArray)
 | tup {cs : List AV} {vs : List Value} (hl : vs.length = cs.length)
     (h : ∀ (i : Nat) (c : AV) (u : Value), cs[i]? = some c -> vs[i]? = some u -> VA w R ι mk c u) : VA w R ι mk (.tup cs) (.tuple vs.toArray)
 | fn {f : FuncId} {cs : List AV} {vs : List Value} (hl : vs.length = cs.length)
     (h : ∀ (i : Nat) (c : AV) (u : Value), cs[i]? = some c -> vs[i]? = some u -> VA w R ι mk c u) : VA w R ι mk (.fn f cs) (.func (.func f) #[] vs.toArray)
 | nl1 {cap : Nat} : VA w R ι mk (.nl true) (.slice none 0 cap)
 | nl2 {a : Addr} {cap : Nat} : VA w R ι mk (.nl false) (.slice (some a) 0 cap)
 | mpr {o b s : Nat} (h : ι o = some (b, s)) (hmk : mk o = none) : VA w R ι mk (.mpr o) (.map (some b))
 | undef {u : Value} : VA w R ι mk .undef u
def Blk (w w' : World) (b k : Nat) : Prop :=
 ∀ (c : Array Value) (T : TypeId), w.heap[b]? = some (.cells c T (0, 0)) -> ∃ c', w'.heap[b]? = some (.cells c' T (0, 0)) /\ c'.size = c.size /\ ∀ j, j < k -> c'[j]? = c[j]?
theorem Blk.of_eq {w w' : World} {b k : Nat} (h : w'.heap[b]? = w.heap[b]?) : Blk w w' b k := fun c T hc => ⟨c, by rw [h, hc], rfl, fun _ _ => rfl⟩
theorem Blk.trans {w w' w'' : World} {b k : Nat} (h : Blk w w' b k) (h' : Blk w' w'' b k) : Blk w w'' b k := fun c T hc =>
 let ⟨c', h1, h2, h3⟩ := h c T hc
 let ⟨c'', h4, h5, h6⟩ := h' c' T h1
 ⟨c'', h4, h5.trans h2, fun j hj => (h6 j hj).trans (h3 j hj)⟩
theorem Blk.mono {w w' : World} {b k k' : Nat} (h : Blk w w' b k) (hk : k' <= k) : Blk w w' b k' :=
 fun c T hc => let ⟨c', h1, h2, h3⟩ := h c T hc; ⟨c', h1, h2, fun j hj => h3 j (by omega)⟩
theorem zan {w : World} {b j : Nat} {c : Array Value} {T : TypeId} {fz : Nat × Nat} (h : w.heap[b]? = some (.cells c T fz)) : w.cell? ⟨b, j, none⟩ = c[j]? := by
 simp [World.cell?, h]
structure zal (w w' : World) (ι ι' : Inj) (mk mk' : Nat -> Option Nat) (o : Nat) : Prop where
 inj : ∀ b s, ι o = some (b, s) -> ι' o = some (b, s)
 blk : ∀ b s, ι o = some (b, s) -> Blk w w' b ((mk o).getD 0 * s)
 up : ∀ m, mk o = some m -> ∃ m', mk' o = some m' /\ m <= m'
 down : ∀ m', mk' o = some m' -> ∃ m, mk o = some m /\ m <= m'
theorem zal.none {w w' : World} {ι ι' : Inj} {mk mk' : Nat -> Option Nat} {o : Nat} (h : zal w w' ι ι' mk mk' o) (hm : mk o = none) : mk' o = none := by
 cases hh : mk' o with
 | none => rfl
 | some m' => obtain ⟨m, h1, _⟩ := h.down m' hh; rw [hm] at h1; cases h1
theorem zal.same {w w' : World} {ι : Inj} {mk : Nat -> Option Nat} {o : Nat} (h : ∀ b s, ι o = some (b, s) -> w'.heap[b]? = w.heap[b]?) : zal w w' ι ι mk mk o :=
 ⟨fun _ _ h => h, fun b s hh => Blk.of_eq (h b s hh), fun m h => ⟨m, h, zRd _⟩, fun m h => ⟨m, h, zRd _⟩⟩
theorem Rd.el_blk {w w' : World} {R R' : Nat -> Prop} {x : D} {b off s k : Nat} (h : Rd w R (.el x b off)) (hR : ∀ b, R b -> R' b) (hw : zaD R w w') (hb : Blk w w' b k)
    {c : Array Value} {T : TypeId} (hc : w.heap[b]? = some (.cells c T (0, 0))) (hs : x.size = s) (hk : off + s <= k) : Rd w' R' (.el x b off) := by
 refine h.mono hR hw fun j hj => ?_;obtain ⟨c', h1, _, h3⟩ := hb c T hc;rw [zan h1, zan hc, h3 _ (by omega)]
theorem VA.mono {w w' : World} {R R' : Nat -> Prop} {ι ι' : Inj} {mk mk' : Nat -> Option Nat} {x : AV} {u : Value} (h : VA w R ι mk x u) (hR : ∀ b, R b -> R' b) (hw : zaD R w w')
    (hs : ∀ o, x.refs o = true -> zal w w' ι ι' mk mk' o) : VA w' R' ι' mk' x u := by
 induction h with
 | d h => exact .d (h.mono_v hR hw)
 | @ref o _ _ _ _ h hmk => exact .ref ((hs o (by simp [AV.refs])).inj _ _ h) ((hs o (by simp [AV.refs])).none hmk)
 | @osl o _ _ _ _ _ _ _ h hmk hb hl hc hL =>
  have st := hs o (by simp [AV.refs]);obtain ⟨c', h1, h2, _⟩ := st.blk _ _ h _ _ hb;exact .osl (st.inj _ _ h) (st.none hmk) h1 hl (by omega) hL
 | osl0 => exact .osl0
 | @accR o _ _ _ _ _ hr hs' hL hl hsz h hm =>
  have st := hs o (by simp [AV.refs]);refine .accR (hR _ hr) hs' hL hl hsz (fun i e hi => (h i e hi).mono hR hw fun j _ => World.cell?_of_block (hw _ hr)) fun m' hm' => ?_;obtain ⟨m, h1, h2⟩ := st.down _ hm';have := hm m h1; omega
 | @accC o b s m cap es c T hι hmk hm hL hl hsz hb hc h =>
  have st := hs o (by simp [AV.refs]);obtain ⟨m', h1, h2⟩ := st.up _ hmk;have hbk := st.blk _ _ hι;rw [hmk] at hbk;obtain ⟨c', h3, h4, _⟩ := hbk _ _ hb;refine .accC (st.inj _ _ hι) h1 (zRU hm h2) hL hl hsz h3 (by omega) fun i e hi => ?_;have hlt : i < es.length := (zQ6.1 hi).1;refine (h i e hi).el_blk hR hw hbk hb (hsz e (zQ9 hi)) ?_;simp only [zSk]
  calc i * s + s = (i + 1) * s := by rw [zRF]
   _ <= m * s := zRg _ (by omega)
 | acc0 => exact .acc0
 | peR hr h => exact .peR (hR _ hr) (h.mono hR hw fun j _ => World.cell?_of_block (hw _ hr))
 | @peC o b s m off x c T hι hmk hb hoff h =>
  have st := hs o (by simp [AV.refs]);obtain ⟨m', h1, h2⟩ := st.up _ hmk;have hbk := st.blk _ _ hι;rw [hmk] at hbk;obtain ⟨c', h3, h4, _⟩ := hbk _ _ hb;exact .peC (st.inj _ _ hι) h1 h3 (zRU hoff (zRg _ h2)) (h.el_blk hR hw hbk hb rfl hoff)
 | xsl h => exact .xsl (h.mono_v hR hw)
 | agg hl hc _ ih => exact .agg hl hc fun i c u h1 h2 => ih i c u h1 h2 fun o ho => hs o (AV.refsL_mem (zQ9 h1) ho)
 | tup hl _ ih => exact .tup hl fun i c u h1 h2 => ih i c u h1 h2 fun o ho => hs o (AV.refsL_mem (zQ9 h1) ho)
 | fn hl _ ih => exact .fn hl fun i c u h1 h2 => ih i c u h1 h2 fun o ho => hs o (AV.refsL_mem (zQ9 h1) ho)
 | nl1 => exact .nl1
 | nl2 => exact .nl2
 | @mpr o _ _ h hmk => exact .mpr ((hs o (by simp [AV.refs])).inj _ _ h) ((hs o (by simp [AV.refs])).none hmk)
 | undef => exact .undef
inductive OB (w : World) (R : Nat -> Prop) (ι : Inj) (mk : Nat -> Option Nat) (o : Nat) : Obj -> Prop
 | row {es : List AV} {b s : Nat} {c : Array Value} {T : TypeId} (hι : ι o = some (b, s)) (hR : ¬ R b) (hb : w.heap[b]? = some (.cells c T (0, 0))) (hs : 0 < s)
     (hsz : ∀ e ∈ es, e.size = s) (hc : es.length * s <= c.size)
     (h : ∀ (i : Nat) (e : AV), es[i]? = some e -> ∀ (j : Nat) (x : AV), e.cells[j]? = some x -> x.cell = true /\ ∃ q, c[i * s + j]? = some q /\ VA w R ι mk x q) : OB w R ι mk o (.row es)
 | acc {n b s : Nat} {c : Array Value} {T : TypeId} (hpos : 0 < n) (hι : ι o = some (b, s)) (hR : ¬ R b) (hb : w.heap[b]? = some (.cells c T (0, 0))) (hs : 0 < s) (hc : n * s <= c.size) : OB w R ι mk o (.acc n)
 | accN {n : Nat} (hι : ι o = none) : OB w R ι mk o (.acc n)
 /-- An object that is data from now on. -/
 | frz {m : Option Nat} (h : ∀ b s, ι o = some (b, s) -> R b /\ 0 < s) : OB w R ι mk o (.frz m)
 | mp {es : List (Int × D)} {b s ck : Nat} {l : Array MapEntry} (hι : ι o = some (b, s)) (hR : ¬ R b) (hb : w.heap[b]? = some (.map l ck)) (hs : 0 < s)
     (hl : l.size = es.length) (h : ∀ (i : Nat) (k : Int) (x : D), es[i]? = some (k, x) -> ∃ e, l[i]? = some e /\ e.key = .int .i64 k /\ Rd w R (.v x e.val)) : OB w R ι mk o (.mp es)
structure Ctx where
 w0 : World
 keep : Nat -> Prop
 R0 : Nat -> Prop
 n : Nat
 gh : List Value
 le : n <= 1000000
def zcg (C : Ctx) (a : Act) (t : Nat) : Option Value := if t < 1000000 then a.tmps[t]? else C.gh[t - 1000000]?
structure Rel (C : Ctx) (S : St) (a : Act) (w : World) (ι : Inj) (R : Nat -> Prop) : Prop where
 defers : a.defers = []
 size : a.tmps.size = C.n
 os : w.os = C.w0.os
 tape : w.tape = C.w0.tape
 output : w.output = C.w0.output
 grow : C.w0.heap.size <= w.heap.size
 len : ∀ b, b < C.w0.heap.size -> Blk C.w0 w b 0
 keep : ∀ b, C.keep b -> w.heap[b]? = C.w0.heap[b]?
 keepLt : ∀ b, C.keep b -> b < C.w0.heap.size
 rlt : ∀ b, R b -> b < w.heap.size
 rok : ∀ b, R b -> C.R0 b \/ ¬ C.keep b
 r0 : ∀ b, C.R0 b -> R b
 own : ∀ o b s, ι o = some (b, s) -> ¬ C.keep b /\ b < w.heap.size
 inj : ∀ o o' b s s', ι o = some (b, s) -> ι o' = some (b, s') -> o = o'
 env : ∀ t x, (t, x) ∈ S.env -> ∃ u, zcg C a t = some u /\ VA w R ι (zf S.heap) x u
 heap : ∀ o ob, (o, ob) ∈ S.heap -> OB w R ι (zf S.heap) o ob
theorem AV.cells_refs {o : Nat} {e x : AV} {j : Nat} (h : e.cells[j]? = some x) (hx : x.refs o = true) : e.refs o = true := by
 cases e with
 | agg cs => exact AV.refsL_mem (zQ9 h) hx
 | d y =>
  simp only [AV.cells] at h;rw [zQ7] at h
  cases hh : y.cells[j]? with
  | none => simp [hh] at h
  | some z => simp [hh] at h; subst h; simp [AV.refs] at hx
 | _ =>
  simp only [AV.cells] at h
  match j, h with
  | 0, h => simp at h; subst h; exact hx
  | n + 1, h => simp at h
theorem OB.mono {w w' : World} {R R' : Nat -> Prop} {ι ι' : Inj} {mk mk' : Nat -> Option Nat} {o : Nat} {ob : Obj} (h : OB w R ι mk o ob) (hR : ∀ b, R b -> R' b) (hw : zaD R w w')
    (hb : ∀ b s, ι o = some (b, s) -> ι' o = some (b, s) /\ w'.heap[b]? = w.heap[b]? /\ (R' b -> R b)) (h0 : ι o = none -> ι' o = none)
    (hs : ∀ p, ob.refs p = true -> zal w w' ι ι' mk mk' p) : OB w' R' ι' mk' o ob := by
 cases h with
 | row hι hr hb' hs' hsz hc h =>
  obtain ⟨h1, h2, h3⟩ := hb _ _ hι;refine .row h1 (fun k => hr (h3 k)) (by rw [h2]; exact hb') hs' hsz hc fun i e hi j x hj => ?_;obtain ⟨k1, q, k2, k3⟩ := h i e hi j x hj;exact ⟨k1, q, k2, k3.mono hR hw fun p hp => hs p (AV.refsL_mem (zQ9 hi) (AV.cells_refs hj hp))⟩
 | acc hpos hι hr hb' hs' hc =>
  obtain ⟨h1, h2, h3⟩ := hb _ _ hι;exact .acc hpos h1 (fun k => hr (h3 k)) (by rw [h2]; exact hb') hs' hc
 | accN hι => exact .accN (h0 hι)
 | frz h =>
  refine .frz fun b s hb' => ?_
  cases hι : ι o with
  | none => rw [h0 hι] at hb'; cases hb'
  | some p => obtain ⟨b0, s0⟩ := p; rw [(hb _ _ hι).1] at hb'; cases hb'; exact ⟨hR _ (h _ _ hι).1, (h _ _ hι).2⟩
 | mp hι hr hb' hs' hl h =>
  obtain ⟨h1, h2, h3⟩ := hb _ _ hι;refine .mp h1 (fun k => hr (h3 k)) (by rw [h2]; exact hb') hs' hl fun i k x hi => ?_;obtain ⟨e, k1, k2, k3⟩ := h i k x hi;exact ⟨e, k1, k2, k3.mono_v hR hw⟩
end Go.Sim
