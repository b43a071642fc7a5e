/-
  Loads, addresses, parts of values.
-/
import Derived.Calls
import Derived.Laws.Sem
import Derived.Laws.World
import Derived.Laws.Rows
import Derived.Below
import Derived.Deep.MidRow
import Derived.Deep.AppendSrc
import Derived.Lib.Strings
set_option linter.unusedSimpArgs false
set_option linter.unusedVariables false
set_option maxHeartbeats 10000000
set_option maxRecDepth 100000
abbrev zWy:=@if_neg
abbrev zWz:=@if_pos
abbrev zWA:=@List.map_nil
abbrev zWB:=@Option.bind_eq_some_iff
abbrev zWC:=@Option.map_eq_some_iff
abbrev zWD:=@List.map_cons
abbrev zWE:=@eq_false
abbrev zWF:=@List.getElem?_eq_getElem
abbrev zWG:=@List.getD_eq_getElem?_getD
abbrev zWH:=@List.getElem_mem
abbrev zWI:=@List.length_cons
abbrev zWJ:=@List.length_append
abbrev zWK:=@List.length_nil
abbrev zWL:=@Bool.false_eq_true
abbrev zWM:=@List.length_map
abbrev zWN:=@eq_true
abbrev zWO:=@Classical.not_not
abbrev zWP:=@List.mem_map
abbrev zWQ:=@List.map_append
abbrev zWR:=@not_true_eq_false
abbrev zWS:=@Bool.and_eq_true
abbrev zWT:=@List.getElem?_map
abbrev zWU:=@List.getElem?_eq_some_iff
abbrev zWV:=@Int.natCast_zero
abbrev zWW:=@List.nil_append
abbrev zWX:=@List.mem_of_getElem?
abbrev zWY:=@decide_eq_true
abbrev zWZ:=@List.append_nil
abbrev zW0:=@decide_eq_false
abbrev zW1:=@List.cons_append
abbrev zW2:=@List.all_eq_true
abbrev zW3:=@List.mem_append
abbrev zW4:=@Nat.zero_add
abbrev zW5:=@Nat.le_refl
abbrev zW6:=@List.length_singleton
abbrev zW7:=@List.mem_singleton
abbrev zW8:=@List.length_set
abbrev zW9:=@Option.bind_some
abbrev zXa:=@Option.bind_eq_bind
abbrev zXb:=@Int.toNat_natCast
abbrev zXc:=@Option.pure_def
abbrev zXd:=@not_false_eq_true
abbrev zXe:=@List.mem_cons
abbrev zXf:=@List.drop_eq_getElem_cons
abbrev zXg:=@List.drop_zero
abbrev zXh:=@Int.le_refl
abbrev zXi:=@Option.map_some
abbrev zXj:=@Nat.mul_le_mul_right
abbrev zXk:=@List.length_eq_zero_iff
abbrev zXl:=@Option.getD_some
abbrev zXm:=@Bool.eq_iff_iff
abbrev zXn:=@List.getElem?_of_mem
abbrev zXo:=@Nat.le_trans
abbrev zXp:=@List.drop_length
abbrev zXq:=@List.append_assoc
abbrev zXr:=@Bool.false_and
abbrev zXs:=@and_self
abbrev zXt:=@Bool.not_eq_true'
abbrev zXu:=@List.pairwise_iff_getElem
abbrev zXv:=@List.take_zero
abbrev zXw:=@List.length_replicate
abbrev zXx:=@List.mem_range
abbrev zXy:=@List.map_set
abbrev zXz:=@List.getElem?_append_right
abbrev zXA:=@Nat.add_mul
abbrev zXB:=@Bool.true_eq_false
abbrev zXC:=@Classical.choose_spec
abbrev zXD:=@Bool.or_eq_true
abbrev zXE:=@List.getElem?_append_left
abbrev zXF:=@false_and
abbrev zXG:=@List.any_eq_true
abbrev zXH:=@Nat.lt_of_lt_of_le
abbrev zXI:=@Array.getElem?_eq_some_iff
abbrev zXJ:=@List.length_filter_le
abbrev zXK:=@Int.natCast_one
abbrev zXL:=@List.all_cons
abbrev zXM:=@Nat.succ_mul
abbrev zXN:=@Nat.mod_lt
abbrev zXO:=@Int.natCast_add
abbrev zXP:=@List.findIdx?_eq_some_iff_getElem
abbrev zXQ:=@List.nodup_cons
abbrev zXR:=@Bool.true_and
abbrev zXS:=@true_and
abbrev zXT:=@List.getElem?_cons_zero
abbrev zXU:=@Nat.mod_eq_of_lt
abbrev zXV:=@Bool.and_self
abbrev zXW:=@Bool.and_false
abbrev zXX:=@List.any_eq_false
abbrev zXY:=@List.length_take
abbrev zXZ:=@or_false
abbrev zX0:=@Bool.false_or
abbrev zX1:=@Nat.add_zero
abbrev zX2:=@and_true
abbrev zX3:=@List.filter_cons
abbrev zX4:=@List.mem_filter
abbrev zX5:=@List.mem_append_left
abbrev zX6:=@List.length_pos_iff
abbrev zX7:=@List.mem_or_eq_of_mem_set
abbrev zX8:=@Nat.sub_zero
abbrev zX9:=@Int.tdiv_eq_ediv_of_nonneg
abbrev zYa:=@Int.cast_ofNat_Int
abbrev zYb:=@List.map_map
abbrev zYc:=@List.map_congr_left
abbrev zYd:=@Bool.and_true
abbrev zYe:=@List.mapM_cons
abbrev zYf:=@Option.isSome_iff_exists
abbrev zYg:=@List.range'_succ
abbrev zYh:=@Bool.or_eq_false_iff
abbrev zYi:=@Array.getD_eq_getD_getElem?
abbrev zYj:=@Nat.sub_self
abbrev zYk:=@List.getElem?_eq_none
abbrev zYl:=@List.getElem?_set_ne
abbrev zYm:=@List.mem_of_mem_take
abbrev zYn:=@Int.not_lt
abbrev zYo:=@and_false
abbrev zYp:=@List.take_of_length_le
abbrev zYq:=@List.take_length
abbrev zYr:=@List.getElem_of_mem
abbrev zYs:=@Bool.not_eq_true
abbrev zYt:=@List.getElem?_cons_succ
abbrev zYu:=@List.any_cons
abbrev zYv:=@List.filter_nil
abbrev zYw:=@List.getElem?_take_of_lt
abbrev zYx:=@List.nodup_append
abbrev zYy:=@List.map_take
abbrev zYz:=@List.getElem?_set_self
abbrev zYA:=@Int.le_trans
abbrev zYB:=@List.not_mem_nil
abbrev zYC:=@List.pairwise_cons
abbrev zYD:=@List.perm_middle
abbrev zYE:=@List.singleton_append
abbrev zYF:=@List.getElem?_set
abbrev zYG:=@List.take_add_one
abbrev zYH:=@List.mem_range'_1
abbrev zYI:=@List.map_replicate
abbrev zYJ:=@Bool.true_or
abbrev zYK:=@List.mem_map_of_mem
abbrev zYL:=@Nat.lt_or_ge
abbrev zYM:=@List.mem_append_right
abbrev zYN:=@List.getElem?_drop
abbrev zYO:=@List.exists_mem_of_ne_nil
abbrev zYP:=@true_or
abbrev zYQ:=@Int.tmod_eq_emod_of_nonneg
abbrev zYR:=@List.findIdx?_eq_none_iff
abbrev zYS:=@List.mem_iff_getElem
abbrev zYT:=@List.flatten_nil
abbrev zYU:=@Nat.add_assoc
abbrev zYV:=@Array.toList_map
abbrev zYW:=@Nat.mul_comm
abbrev zYX:=@List.mem_of_mem_drop
abbrev zYY:=@List.length_drop
abbrev zYZ:=@Int.natCast_mul
abbrev zY0:=@Bool.eq_false_iff
abbrev zY1:=@List.ext_getElem
abbrev zY2:=@List.filter_eq_nil_iff
abbrev zY3:=@List.length_range
abbrev zY4:=@List.getElem_map
abbrev zY5:=@List.getElem?_replicate
abbrev zY6:=@Nat.zero_lt_succ
abbrev zY7:=@List.getElem?_toArray
abbrev zY8:=@List.isEmpty_iff
abbrev zY9:=@List.range_eq_range'
abbrev zZa:=@Array.getElem?_setIfInBounds
abbrev zZb:=@Array.getElem?_eq_none
abbrev zZc:=@Nat.zero_mul
abbrev zZd:=@List.map_drop
abbrev zZe:=@List.mem_replicate
abbrev zZf:=@Nat.lt_trichotomy
abbrev zZg:=@Int.tmod_nonneg
abbrev zZh:=@List.getElem_set
abbrev zZi:=@List.foldl_append
abbrev zZj:=@List.length_eraseIdx
abbrev zZk:=@List.mem_of_mem_eraseIdx
abbrev zZl:=@Int.tmod_lt_of_pos
abbrev zZm:=@Int.ofNat_tmod
abbrev zZn:=@List.nodup_iff_pairwise_ne
abbrev zZo:=@List.perm_append_comm
abbrev zZp:=@List.getElem_cons_succ
abbrev zZq:=@Nat.add_mod_right
abbrev zZr:=@Bool.decide_and
abbrev zZs:=@Bool.not_true
abbrev zZt:=@Bool.not_false
abbrev zZu:=@Array.getElem?_append_left
abbrev zZv:=@Array.getElem?_eq_getElem
abbrev zZw:=@List.nodup_nil
abbrev zZx:=@Array.getElem?_modify
abbrev zZy:=@Array.getElem?_setIfInBounds_self_of_lt
abbrev zZz:=@Array.getElem?_setIfInBounds_ne
abbrev zZA:=@Array.foldl_toList
abbrev zZB:=@Array.getElem?_toList
abbrev zZC:=@Nat.lt_or_gt_of_ne
abbrev zZD:=@List.getElem?_take
abbrev zZE:=@List.getElem?_range
abbrev zZF:=@List.eq_of_mem_replicate
abbrev zZG:=@List.drop_of_length_le
abbrev zZH:=@Bool.of_not_eq_false
abbrev zZI:=@Bool.not_eq_false
abbrev zZJ:=@List.drop_eq_nil_of_le
abbrev zZK:=@List.foldl_nil
abbrev zZL:=@List.filter_append
abbrev zZM:=@Int.toNat_of_nonneg
abbrev zZN:=@List.range_succ
abbrev zZO:=@List.mem_cons_of_mem
abbrev zZP:=@List.eraseIdx_eq_take_drop_succ
abbrev zZQ:=@List.take_append_drop
abbrev zZR:=@List.pairwise_map
abbrev zZS:=@List.drop_left
abbrev zZT:=@List.flatten_cons
abbrev zZU:=@Nat.lt_irrefl
abbrev zZV:=@Array.mapM_eq_mapM_toList
abbrev zZW:=@List.eq_nil_of_length_eq_zero
abbrev zZX:=@Int.fdiv_eq_ediv_of_nonneg
abbrev zZY:=@List.set_eq_take_append_cons_drop
abbrev zZZ:=@List.length_erase_of_mem

namespace Go.Sim
inductive D where
 | int (k:IntKind) (n:Int)
 | bool (b:Bool)
 | str (s:List UInt8)
 | agg (cs:List D)
 | tup (vs:List D)
 | sl (es:List D)
 | pd (x:D)
 | fn (f:FuncId) (caps:List D)
 | nil
 deriving Inhabited
def D.cells:D->List D
 | .agg cs=>cs
 | x=>[x]
def D.size(x:D):Nat:=x.cells.length
def D.cell:D->Bool
 | .agg _=>false
 | .tup _=>false
 | _=>true
def LIM:Nat:=4294967296
def zoz:Value->Bool
 | .pointer none=>true
 | .nilFunc=>true
 | .nilIface=>true
 | _=>false
inductive It where
 | v (x:D) (u:Value)
 | el (x:D) (b off:Nat)
inductive Rd(w:World)(R:Nat->Prop):It->Prop
 | int {k:IntKind} {n:Int} (h:k.has n):Rd w R (.v (.int k n) (.int k n))
 | bool {b:Bool}:Rd w R (.v (.bool b) (.bool b))
 | str {s:List UInt8} (h:s.length<=LIM):Rd w R (.v (.str s) (.string ⟨s.toArray⟩))
 | agg {cs:List D} {vs:List Value} (hl:vs.length=cs.length) (hc:∀c∈cs,c.cell=true)
     (h:∀(i:Nat) (c:D) (u:Value),cs[i]? = some c->vs[i]? = some u->Rd w R (.v c u)):Rd w R (.v (.agg cs) (.agg vs.toArray))
 | tup {cs:List D} {vs:List Value} (hl:vs.length=cs.length)
     (h:∀(i:Nat) (c:D) (u:Value),cs[i]? = some c->vs[i]? = some u->Rd w R (.v c u)):Rd w R (.v (.tup cs) (.tuple vs.toArray))
 | sl0 {a:Option Addr} {cap:Nat}:Rd w R (.v (.sl []) (.slice a 0 cap))
 | sl {es:List D} {b off s cap:Nat} (hR:R b) (h0:es≠[]) (hs:0<s) (hl:es.length<=LIM) (hcap:es.length<=cap) (hsz:∀e∈es,e.size=s)
     (h:∀(i:Nat) (e:D),es[i]? = some e->Rd w R (.el e b (off+i * s))):Rd w R (.v (.sl es) (.slice (some ⟨b,off,none⟩) es.length cap))
 | pd {x:D} {b off:Nat} (hR:R b) (h:Rd w R (.el x b off)):Rd w R (.v (.pd x) (.pointer (some ⟨b,off,none⟩)))
 | fn {f:FuncId} {cs:List D} {vs:List Value} (hl:vs.length=cs.length)
     (h:∀(i:Nat) (c:D) (u:Value),cs[i]? = some c->vs[i]? = some u->Rd w R (.v c u)):Rd w R (.v (.fn f cs) (.func (.func f) #[] vs.toArray))
 | nil {u:Value} (h:zoz u=true):Rd w R (.v .nil u)
 | elagg {cs:List D} {b off:Nat} (hc:∀c∈cs,c.cell=true)
     (h:∀(i:Nat) (c:D),cs[i]? = some c->Rd w R (.el c b (off+i))):Rd w R (.el (.agg cs) b off)
 | elc {x:D} {u:Value} {b off:Nat} (hc:x.cell=true) (hv:w.cell? ⟨b,off,none⟩=some u) (h:Rd w R (.v x u)):Rd w R (.el x b off)
theorem zPi{u:Value}(h:zoz u=true):u.cells= #[u]:=by cases u<;>first|rfl|cases h
theorem D.size_cell{x:D}(h:x.cell=true):x.size=1:=by cases x<;>simp_all [D.cell,D.size,D.cells]
theorem D.cells_cell{x:D}(h:x.cell=true):x.cells=[x]:=by cases x<;>simp_all [D.cell,D.cells]
def zb2(R:Nat->Prop)(w w':World):Prop:=∀b,R b->w'.heap[b]? = w.heap[b]?
def It.near(w w':World):It->Prop
 | .v _ _=>True
 | .el x b off=>∀j,j<x.size->w'.cell? ⟨b,off+j,none⟩=w.cell? ⟨b,off+j,none⟩
theorem Rd.mono{w w':World}{R R':Nat->Prop}{it:It}(h:Rd w R it)(hR:∀b,R b->R' b)(hw:zb2 R w w')(hn:it.near w w'):Rd w' R' it:=by
 induction h with
 | int h=>exact .int h
 | bool=>exact .bool
 | str h=>exact .str h
 | agg hl hc _ ih=>exact .agg hl hc fun i c u h1 h2=>ih i c u h1 h2 trivial
 | tup hl _ ih=>exact .tup hl fun i c u h1 h2=>ih i c u h1 h2 trivial
 | sl0=>exact .sl0
 | sl hr h0 hs hl hcap hsz _ ih=>exact .sl (hR _ hr) h0 hs hl hcap hsz fun i e h1=>ih i e h1 fun j _=>World.cell?_of_block (hw _ hr)
 | pd hr _ ih=>exact .pd (hR _ hr) (ih fun j _=>World.cell?_of_block (hw _ hr))
 | fn hl _ ih=>exact .fn hl fun i c u h1 h2=>ih i c u h1 h2 trivial
 | nil h=>exact .nil h
 | @elagg cs b off hc _ ih=>
  refine .elagg hc fun i c h1=>ih i c h1 fun j hj=> ?_;have hi:i<cs.length:=(zWU.1 h1).1;have hcl:c.cell=true:=hc c (zWX h1);rw[D.size_cell hcl] at hj;have:=hn i (by simpa [D.size,D.cells] using hi);have hj0:j=0:=by omega
  subst hj0;simpa using this
 | @elc x u b off hc hv _ ih=>
  refine .elc hc ?_ (ih trivial);have:=hn 0 (by rw[D.size_cell hc];omega);simpa [hv] using this
theorem Rd.mono_v{w w':World}{R R':Nat->Prop}{x:D}{u:Value}(h:Rd w R (.v x u))(hR:∀b,R b->R' b)(hw:zb2 R w w'):Rd w' R' (.v x u):=h.mono hR hw trivial
theorem Rd.cells_of_v{w:World}{R:Nat->Prop}{x:D}{u:Value}(h:Rd w R (.v x u))(hx:∀vs,x≠ .tup vs):
    u.cells.size=x.size/\∀(i:Nat) (c:D),x.cells[i]? = some c->c.cell=true/\∃q,u.cells[i]? = some q/\Rd w R (.v c q):=by
 have one:∀(x:D) (u:Value),x.cells=[x]->u.cells= #[u]->x.cell=true->Rd w R (.v x u)->(u.cells.size=x.size/\∀(i:Nat) (c:D),x.cells[i]? = some c->c.cell=true/\∃q,u.cells[i]? = some q/\Rd w R (.v c q)):=by
  intro x u h1 h2 h3 h4;refine⟨by simp [D.size,h1,h2],fun i c hc=> ?_⟩;rw[h1] at hc
  match i,hc with
  | 0,hc=>simp at hc;subst hc;exact⟨h3,u,by simp [h2],h4⟩
  | n+1,hc=>simp at hc
 generalize hit:It.v x u=it at h
 cases h with
 | agg hl hc h=>
  injection hit with e1 e2;subst e1 e2
  refine⟨by simp [Value.cells,D.size,D.cells,hl],fun i c hi=> ?_⟩;simp only[D.cells] at hi;have hlt:i<_:=(zWU.1 hi).1;rename_i cs vs;have hq:vs[i]? = some (vs[i]'(by omega)):=zWF _;exact⟨hc c (zWX hi),_,by simp only[Value.cells,zY7];exact hq,h i c _ hi hq⟩
 | tup hl h=>injection hit with e1 e2;exact absurd e1 (hx _)
 | int h=>injection hit with e1 e2;subst e1 e2;exact one _ _ rfl rfl rfl (.int h)
 | bool=>injection hit with e1 e2;subst e1 e2;exact one _ _ rfl rfl rfl .bool
 | str h=>injection hit with e1 e2;subst e1 e2;exact one _ _ rfl rfl rfl (.str h)
 | sl0=>injection hit with e1 e2;subst e1 e2;exact one _ _ rfl rfl rfl .sl0
 | sl a b c d e f g=>injection hit with e1 e2;subst e1 e2;exact one _ _ rfl rfl rfl (.sl a b c d e f g)
 | pd a b=>injection hit with e1 e2;subst e1 e2;exact one _ _ rfl rfl rfl (.pd a b)
 | fn a b=>injection hit with e1 e2;subst e1 e2;exact one _ _ rfl rfl rfl (.fn a b)
 | nil h=>injection hit with e1 e2;subst e1 e2;exact one _ _ rfl (zPi h) rfl (.nil h)
 | elagg=>cases hit
 | elc=>cases hit
theorem Rd.v_of_cells{w:World}{R:Nat->Prop}{x:D}{b off:Nat}(h:Rd w R (.el x b off)):
    ∀(i:Nat) (c:D),x.cells[i]? = some c->c.cell=true/\∃q,w.cell? ⟨b,off+i,none⟩=some q/\Rd w R (.v c q):=by
 intro i c hi
 cases h with
 | elagg hc h=>
  simp only[D.cells] at hi;have h1:=h i c hi;have h2:=hc c (zWX hi)
  cases h1 with
  | elagg=>simp [D.cell] at h2
  | elc hc' hv h=>exact⟨h2,_,hv,h⟩
 | elc hc hv h=>
  rw[D.cells_cell hc] at hi
  match i,hi with
  | 0,hi=>simp at hi;subst hi;exact⟨hc,_,by simpa using hv,h⟩
  | n+1,hi=>simp at hi
theorem Rd.el_of_cells {w:World} {R:Nat->Prop} {x:D} {b off:Nat} (hx:∀vs,x≠ .tup vs)
    (h:∀(i:Nat) (c:D),x.cells[i]? = some c->c.cell=true/\∃q,w.cell? ⟨b,off+i,none⟩=some q/\Rd w R (.v c q)):Rd w R (.el x b off):=by
 by_cases hc:x.cell=true
 ·obtain⟨_,q,h1,h2⟩:=h 0 x (by rw[D.cells_cell hc];rfl);exact .elc hc (by simpa using h1) h2
 ·cases x with
  | agg cs=>
   refine .elagg (fun c hc=> ?_) fun i c hi=> ?_
   ·obtain⟨i,hi⟩:=zXn hc;exact (h i c hi).1
   ·obtain⟨h0,q,h1,h2⟩:=h i c hi;exact .elc h0 h1 h2
  | tup vs=>exact absurd rfl (hx vs)
  | _=>simp [D.cell] at hc
inductive AV where
 | d (x:D)
 | ref (o i off:Nat)
 | osl (o off len:Nat)
 | acc (o:Nat) (es:List D)
 | pe (o:Nat) (x:D)
 | xsl (es:List D)
 | agg (cs:List AV)
 | tup (vs:List AV)
 | fn (f:FuncId) (caps:List AV)
 | nl (b:Bool)
 | mpr (o:Nat)
 | undef
 deriving Inhabited
def AV.cells:AV->List AV
 | .d x=>x.cells.map .d
 | .agg cs=>cs
 | x=>[x]
def AV.size:AV->Nat
 | .d x=>x.size
 | .agg cs=>cs.length
 | _=>1
def AV.cell:AV->Bool
 | .d x=>x.cell
 | .agg _=>false
 | .tup _=>false
 | .undef=>false
 | _=>true
theorem AV.size_cells(x:AV):x.cells.length=x.size:=by cases x<;>simp [AV.cells,AV.size,D.size]
mutual
def AV.refs(o:Nat):AV->Bool
 | .ref p _ _=>p==o
 | .osl p _ _=>p==o
 | .acc p _=>p==o
 | .pe p _=>p==o
 | .agg cs=>AV.refsL o cs
 | .tup vs=>AV.refsL o vs
 | .fn _ cs=>AV.refsL o cs
 | .d _=>false
 | .xsl _=>false
 | .nl _=>false
 | .mpr p=>p==o
 | .undef=>false
def AV.refsL(o:Nat):List AV->Bool
 | []=>false
 | x::xs=>AV.refs o x||AV.refsL o xs
end
theorem AV.refsL_mem{o:Nat}{x:AV}{xs:List AV}(h:x∈xs)(hx:AV.refs o x=true):AV.refsL o xs=true:=by
 induction xs with
 | nil=>cases h
 | cons y ys ih=>
  simp only[AV.refsL,zXD]
  cases h with
  | head=>exact .inl hx
  | tail _ h=>exact .inr (ih h)
theorem AV.refsL_false{o:Nat}{x:AV}{xs:List AV}(h:x∈xs)(hx:AV.refsL o xs=false):AV.refs o x=false:=by
 cases hh:AV.refs o x with
 | false=>rfl
 | true=>rw[AV.refsL_mem h hh] at hx;cases hx
inductive Obj where
 | row (es:List AV)
 | acc (n:Nat)
 | frz (m:Option Nat)
 | mp (es:List (Int×D))
 deriving Inhabited
def Obj.refs(o:Nat):Obj->Bool
 | .row es=>AV.refsL o es
 | .acc _=>false
 | .frz _=>false
 | .mp _=>false
abbrev zf:=List (Nat×Obj)
abbrev Env:=List (Nat×AV)
structure St where
 env:Env
 heap:zf
def look{α:Type}(k:Nat):List (Nat×α)->Option α
 | []=>none
 | (j,x)::l=>if j=k then some x else look k l
def zeG{α:Type}(k:Nat):List (Nat×α)->List (Nat×α)
 | []=>[]
 | (j,x)::l=>if j=k then zeG k l else (j,x)::zeG k l
def zF{α:Type}(k:Nat)(x:α)(l:List (Nat×α)):List (Nat×α):=(k,x)::zeG k l
theorem zaq{α:Type}{k:Nat}{l:List (Nat×α)}{x:α}(h:look k l=some x):(k,x)∈l:=by
 induction l with
 | nil=>cases h
 | cons p l ih=>
  obtain⟨j,y⟩:=p;simp only[look] at h
  split at h
  ·rename_i e;subst e;cases h;exact .head _
  ·exact .tail _ (ih h)
theorem zjc{α:Type}{k:Nat}{l:List (Nat×α)}{p:Nat×α}:p∈zeG k l↔p∈l/\p.1≠k:=by
 induction l with
 | nil=>simp [zeG]
 | cons q l ih=>
  obtain⟨j,y⟩:=q;simp only[zeG]
  by_cases e:j=k
  ·rw[zWz e,ih];constructor
   ·exact fun⟨a,b⟩=>⟨.tail _ a,b⟩
   ·rintro⟨a,b⟩
    cases a with
    | head=>exact absurd e b
    | tail _ a=>exact⟨a,b⟩
  ·rw[zWy e];constructor
   ·intro h
    cases h with
    | head=>exact⟨.head _,e⟩
    | tail _ h=>exact⟨.tail _ (ih.1 h).1,(ih.1 h).2⟩
   ·rintro⟨a,b⟩
    cases a with
    | head=>exact .head _
    | tail _ a=>exact .tail _ (ih.2 ⟨a,b⟩)
theorem zOr{α:Type}{k j:Nat}{l:List (Nat×α)}(h:j≠k):look j (zeG k l)=look j l:=by
 induction l with
 | nil=>rfl
 | cons p l ih=>
  obtain⟨i,y⟩:=p;simp only[zeG,look]
  by_cases e:i=k
  ·rw[zWz e,ih,zWy (by omega)]
  ·rw[zWy e,look,ih]
@[simp] theorem zOq{α:Type}{k:Nat}{x:α}{l:List (Nat×α)}:look k (zF k x l)=some x:=by simp [zF,look]
theorem zAJ{α:Type}{k j:Nat}{x:α}{l:List (Nat×α)}(h:j≠k):look j (zF k x l)=look j l:=by
 simp only[zF,look];rw[zWy (Ne.symm h),zOr h]
def za1(o:Nat):Env->Bool
 | []=>false
 | (_,x)::l=>x.refs o||za1 o l
def zam(o:Nat):zf->Bool
 | []=>false
 | (_,x)::l=>x.refs o||zam o l
theorem zmv{o t:Nat}{x:AV}{l:Env}(h:(t,x)∈l)(hx:za1 o l=false):x.refs o=false:=by
 induction l with
 | nil=>cases h
 | cons p l ih=>
  simp only[za1,zYh] at hx
  cases h with
  | head=>exact hx.1
  | tail _ h=>exact ih h hx.2
theorem zhy{o t:Nat}{x:Obj}{l:zf}(h:(t,x)∈l)(hx:zam o l=false):x.refs o=false:=by
 induction l with
 | nil=>cases h
 | cons p l ih=>
  simp only[zam,zYh] at hx
  cases h with
  | head=>exact hx.1
  | tail _ h=>exact ih h hx.2
def mark(H:zf)(o:Nat):Option Nat:=
 match look o H with
 | some (.acc n)=>some n
 | some (.frz m)=>m
 | _=>none
abbrev Inj:=Nat->Option (Nat×Nat)
inductive VA(w:World)(R:Nat->Prop)(ι:Inj)(mk:Nat->Option Nat):AV->Value->Prop
 | d {x:D} {u:Value} (h:Rd w R (.v x u)):VA w R ι mk (.d x) u
 | ref {o i off b s:Nat} (h:ι o=some (b,s)) (hmk:mk o=none):VA w R ι mk (.ref o i off) (.pointer (some ⟨b,i * s+off,none⟩))
 | osl {o off len cap b s:Nat} {c:Array Value} {T:TypeId} (h:ι o=some (b,s)) (hmk:mk o=none) (hb:w.heap[b]? = some (.cells c T (0,0)))
     (hl:len<=cap) (hc:(off+cap) * s<=c.size) (hL:len<=LIM):VA w R ι mk (.osl o off len) (.slice (some ⟨b,off * s,none⟩) len cap)
 | osl0 {o off:Nat} {a:Option Addr}:VA w R ι mk (.osl o off 0) (.slice a 0 0)
 | accR {o b off s cap:Nat} {es:List D} (hR:R b) (hs:0<s) (hL:es.length<=LIM) (hl:es.length<=cap) (hsz:∀e∈es,e.size=s)
     (h:∀(i:Nat) (e:D),es[i]? = some e->Rd w R (.el e b (off+i * s))) (hm:∀m,mk o=some m->es.length<m):
     VA w R ι mk (.acc o es) (.slice (some ⟨b,off,none⟩) es.length cap)
 | accC {o b s m cap:Nat} {es:List D} {c:Array Value} {T:TypeId} (hι:ι o=some (b,s)) (hmk:mk o=some m) (hm:es.length<=m) (hL:es.length<=LIM) (hl:es.length<=cap)
     (hsz:∀e∈es,e.size=s) (hb:w.heap[b]? = some (.cells c T (0,0))) (hc:cap * s<=c.size)
     (h:∀(i:Nat) (e:D),es[i]? = some e->Rd w R (.el e b (i * s))):VA w R ι mk (.acc o es) (.slice (some ⟨b,0,none⟩) es.length cap)
 | peR {o b off:Nat} {x:D} (hR:R b) (h:Rd w R (.el x b off)):VA w R ι mk (.pe o x) (.pointer (some ⟨b,off,none⟩))
 | peC {o b s m off:Nat} {x:D} {c:Array Value} {T:TypeId} (hι:ι o=some (b,s)) (hmk:mk o=some m) (hb:w.heap[b]? = some (.cells c T (0,0))) (hoff:off+x.size<=m * s)
     (h:Rd w R (.el x b off)):VA w R ι mk (.pe o x) (.pointer (some ⟨b,off,none⟩))
 | acc0 {o:Nat} {a:Option Addr}:VA w R ι mk (.acc o []) (.slice a 0 0)
 | xsl {es:List D} {a:Option Addr} {n:Nat} (h:Rd w R (.v (.sl es) (.slice a n n))):VA w R ι mk (.xsl es) (.slice a n n)
 | agg {cs:List AV} {vs:List Value} (hl:vs.length=cs.length) (hc:∀c∈cs,c.cell=true)
     (h:∀(i:Nat) (c:AV) (u:Value),cs[i]? = some c->vs[i]? = some u->VA w R ι mk c u):VA w R ι mk (.agg cs) (.agg vs.toArray)
 | tup {cs:List AV} {vs:List Value} (hl:vs.length=cs.length)
     (h:∀(i:Nat) (c:AV) (u:Value),cs[i]? = some c->vs[i]? = some u->VA w R ι mk c u):VA w R ι mk (.tup cs) (.tuple vs.toArray)
 | fn {f:FuncId} {cs:List AV} {vs:List Value} (hl:vs.length=cs.length)
     (h:∀(i:Nat) (c:AV) (u:Value),cs[i]? = some c->vs[i]? = some u->VA w R ι mk c u):VA w R ι mk (.fn f cs) (.func (.func f) #[] vs.toArray)
 | nl1 {cap:Nat}:VA w R ι mk (.nl true) (.slice none 0 cap)
 | nl2 {a:Addr} {cap:Nat}:VA w R ι mk (.nl false) (.slice (some a) 0 cap)
 | mpr {o b s:Nat} (h:ι o=some (b,s)) (hmk:mk o=none):VA w R ι mk (.mpr o) (.map (some b))
 | undef {u:Value}:VA w R ι mk .undef u
def Blk(w w':World)(b k:Nat):Prop:=
 ∀(c:Array Value) (T:TypeId),w.heap[b]? = some (.cells c T (0,0))->∃c',w'.heap[b]? = some (.cells c' T (0,0))/\c'.size=c.size/\∀j,j<k->c'[j]? = c[j]?
theorem Blk.of_eq{w w':World}{b k:Nat}(h:w'.heap[b]? = w.heap[b]?):Blk w w' b k:=fun c T hc=>⟨c,by rw[h,hc],rfl,fun _ _=>rfl⟩
theorem Blk.trans{w w' w'':World}{b k:Nat}(h:Blk w w' b k)(h':Blk w' w'' b k):Blk w w'' b k:=fun c T hc=>
 let ⟨c',h1,h2,h3⟩:=h c T hc
 let ⟨c'',h4,h5,h6⟩:=h' c' T h1
 ⟨c'',h4,h5.trans h2,fun j hj=>(h6 j hj).trans (h3 j hj)⟩
theorem Blk.mono{w w':World}{b k k':Nat}(h:Blk w w' b k)(hk:k'<=k):Blk w w' b k':=
 fun c T hc=>let ⟨c',h1,h2,h3⟩:=h c T hc;⟨c',h1,h2,fun j hj=>h3 j (by omega)⟩
theorem zcD{w:World}{b j:Nat}{c:Array Value}{T:TypeId}{fz:Nat×Nat}(h:w.heap[b]? = some (.cells c T fz)):w.cell? ⟨b,j,none⟩=c[j]? := by
 simp [World.cell?,h]
structure Step(w w':World)(ι ι':Inj)(mk mk':Nat->Option Nat)(o:Nat):Prop where
 inj:∀b s,ι o=some (b,s)->ι' o=some (b,s)
 blk:∀b s,ι o=some (b,s)->Blk w w' b ((mk o).getD 0 * s)
 up:∀m,mk o=some m->∃m',mk' o=some m'/\m<=m'
 down:∀m',mk' o=some m'->∃m,mk o=some m/\m<=m'
theorem Step.none{w w':World}{ι ι':Inj}{mk mk':Nat->Option Nat}{o:Nat}(h:Step w w' ι ι' mk mk' o)(hm:mk o=none):mk' o=none:=by
 cases hh:mk' o with
 | none=>rfl
 | some m'=>obtain⟨m,h1,_⟩:=h.down m' hh;rw[hm] at h1;cases h1
theorem Step.same{w w':World}{ι:Inj}{mk:Nat->Option Nat}{o:Nat}(h:∀b s,ι o=some (b,s)->w'.heap[b]? = w.heap[b]?):Step w w' ι ι mk mk o:=
 ⟨fun _ _ h=>h,fun b s hh=>Blk.of_eq (h b s hh),fun m h=>⟨m,h,zW5 _⟩,fun m h=>⟨m,h,zW5 _⟩⟩
theorem Rd.el_blk {w w':World} {R R':Nat->Prop} {x:D} {b off s k:Nat} (h:Rd w R (.el x b off)) (hR:∀b,R b->R' b) (hw:zb2 R w w') (hb:Blk w w' b k)
    {c:Array Value} {T:TypeId} (hc:w.heap[b]? = some (.cells c T (0,0))) (hs:x.size=s) (hk:off+s<=k):Rd w' R' (.el x b off):=by
 refine h.mono hR hw fun j hj=> ?_;obtain⟨c',h1,_,h3⟩:=hb c T hc;rw[zcD h1,zcD hc,h3 _ (by omega)]
theorem VA.mono {w w':World} {R R':Nat->Prop} {ι ι':Inj} {mk mk':Nat->Option Nat} {x:AV} {u:Value} (h:VA w R ι mk x u) (hR:∀b,R b->R' b) (hw:zb2 R w w')
    (hs:∀o,x.refs o=true->Step w w' ι ι' mk mk' o):VA w' R' ι' mk' x u:=by
 induction h with
 | d h=>exact .d (h.mono_v hR hw)
 | @ref o _ _ _ _ h hmk=>exact .ref ((hs o (by simp [AV.refs])).inj _ _ h) ((hs o (by simp [AV.refs])).none hmk)
 | @osl o _ _ _ _ _ _ _ h hmk hb hl hc hL=>
  have st:=hs o (by simp [AV.refs]);obtain⟨c',h1,h2,_⟩:=st.blk _ _ h _ _ hb;exact .osl (st.inj _ _ h) (st.none hmk) h1 hl (by omega) hL
 | osl0=>exact .osl0
 | @accR o _ _ _ _ _ hr hs' hL hl hsz h hm=>
  have st:=hs o (by simp [AV.refs]);refine .accR (hR _ hr) hs' hL hl hsz (fun i e hi=>(h i e hi).mono hR hw fun j _=>World.cell?_of_block (hw _ hr)) fun m' hm'=> ?_;obtain⟨m,h1,h2⟩:=st.down _ hm';have:=hm m h1;omega
 | @accC o b s m cap es c T hι hmk hm hL hl hsz hb hc h=>
  have st:=hs o (by simp [AV.refs]);obtain⟨m',h1,h2⟩:=st.up _ hmk;have hbk:=st.blk _ _ hι;rw[hmk] at hbk;obtain⟨c',h3,h4,_⟩:=hbk _ _ hb;refine .accC (st.inj _ _ hι) h1 (zXo hm h2) hL hl hsz h3 (by omega) fun i e hi=> ?_;have hlt:i<es.length:=(zWU.1 hi).1;refine (h i e hi).el_blk hR hw hbk hb (hsz e (zWX hi)) ?_;simp only[zXl]
  calc i * s+s=(i+1) * s:=by rw[zXM]
   _<=m * s:=zXj _ (by omega)
 | acc0=>exact .acc0
 | peR hr h=>exact .peR (hR _ hr) (h.mono hR hw fun j _=>World.cell?_of_block (hw _ hr))
 | @peC o b s m off x c T hι hmk hb hoff h=>
  have st:=hs o (by simp [AV.refs]);obtain⟨m',h1,h2⟩:=st.up _ hmk;have hbk:=st.blk _ _ hι;rw[hmk] at hbk;obtain⟨c',h3,h4,_⟩:=hbk _ _ hb;exact .peC (st.inj _ _ hι) h1 h3 (zXo hoff (zXj _ h2)) (h.el_blk hR hw hbk hb rfl hoff)
 | xsl h=>exact .xsl (h.mono_v hR hw)
 | agg hl hc _ ih=>exact .agg hl hc fun i c u h1 h2=>ih i c u h1 h2 fun o ho=>hs o (AV.refsL_mem (zWX h1) ho)
 | tup hl _ ih=>exact .tup hl fun i c u h1 h2=>ih i c u h1 h2 fun o ho=>hs o (AV.refsL_mem (zWX h1) ho)
 | fn hl _ ih=>exact .fn hl fun i c u h1 h2=>ih i c u h1 h2 fun o ho=>hs o (AV.refsL_mem (zWX h1) ho)
 | nl1=>exact .nl1
 | nl2=>exact .nl2
 | @mpr o _ _ h hmk=>exact .mpr ((hs o (by simp [AV.refs])).inj _ _ h) ((hs o (by simp [AV.refs])).none hmk)
 | undef=>exact .undef
inductive OB(w:World)(R:Nat->Prop)(ι:Inj)(mk:Nat->Option Nat)(o:Nat):Obj->Prop
 | row {es:List AV} {b s:Nat} {c:Array Value} {T:TypeId} (hι:ι o=some (b,s)) (hR:¬R b) (hb:w.heap[b]? = some (.cells c T (0,0))) (hs:0<s)
     (hsz:∀e∈es,e.size=s) (hc:es.length * s<=c.size)
     (h:∀(i:Nat) (e:AV),es[i]? = some e->∀(j:Nat) (x:AV),e.cells[j]? = some x->x.cell=true/\∃q,c[i * s+j]? = some q/\VA w R ι mk x q):OB w R ι mk o (.row es)
 | acc {n b s:Nat} {c:Array Value} {T:TypeId} (hpos:0<n) (hι:ι o=some (b,s)) (hR:¬R b) (hb:w.heap[b]? = some (.cells c T (0,0))) (hs:0<s) (hc:n * s<=c.size):OB w R ι mk o (.acc n)
 | accN {n:Nat} (hι:ι o=none):OB w R ι mk o (.acc n)
 /-- An object that is data from now on. -/
 | frz {m:Option Nat} (h:∀b s,ι o=some (b,s)->R b/\0<s):OB w R ι mk o (.frz m)
 | mp {es:List (Int×D)} {b s ck:Nat} {l:Array MapEntry} (hι:ι o=some (b,s)) (hR:¬R b) (hb:w.heap[b]? = some (.map l ck)) (hs:0<s)
     (hl:l.size=es.length) (h:∀(i:Nat) (k:Int) (x:D),es[i]? = some (k,x)->∃e,l[i]? = some e/\e.key= .int .i64 k/\Rd w R (.v x e.val)):OB w R ι mk o (.mp es)
structure Ctx where
 w0:World
 keep:Nat->Prop
 R0:Nat->Prop
 n:Nat
 gh:List Value
 le:n<=1000000
def ze6(C:Ctx)(a:Act)(t:Nat):Option Value:=if t<1000000 then a.tmps[t]? else C.gh[t - 1000000]?
structure Rel(C:Ctx)(S:St)(a:Act)(w:World)(ι:Inj)(R:Nat->Prop):Prop where
 defers:a.defers=[]
 size:a.tmps.size=C.n
 os:w.os=C.w0.os
 tape:w.tape=C.w0.tape
 output:w.output=C.w0.output
 grow:C.w0.heap.size<=w.heap.size
 len:∀b,b<C.w0.heap.size->Blk C.w0 w b 0
 keep:∀b,C.keep b->w.heap[b]? = C.w0.heap[b]?
 keepLt:∀b,C.keep b->b<C.w0.heap.size
 rlt:∀b,R b->b<w.heap.size
 rok:∀b,R b->C.R0 b\/¬C.keep b
 r0:∀b,C.R0 b->R b
 own:∀o b s,ι o=some (b,s)->¬C.keep b/\b<w.heap.size
 inj:∀o o' b s s',ι o=some (b,s)->ι o'=some (b,s')->o=o'
 env:∀t x,(t,x)∈S.env->∃u,ze6 C a t=some u/\VA w R ι (mark S.heap) x u
 heap:∀o ob,(o,ob)∈S.heap->OB w R ι (mark S.heap) o ob
theorem AV.cells_refs{o:Nat}{e x:AV}{j:Nat}(h:e.cells[j]? = some x)(hx:x.refs o=true):e.refs o=true:=by
 cases e with
 | agg cs=>exact AV.refsL_mem (zWX h) hx
 | d y=>
  simp only[AV.cells] at h;rw[zWT] at h
  cases hh:y.cells[j]? with
  | none=>simp [hh] at h
  | some z=>simp [hh] at h;subst h;simp [AV.refs] at hx
 | _=>
  simp only[AV.cells] at h
  match j,h with
  | 0,h=>simp at h;subst h;exact hx
  | n+1,h=>simp at h
theorem OB.mono {w w':World} {R R':Nat->Prop} {ι ι':Inj} {mk mk':Nat->Option Nat} {o:Nat} {ob:Obj} (h:OB w R ι mk o ob) (hR:∀b,R b->R' b) (hw:zb2 R w w')
    (hb:∀b s,ι o=some (b,s)->ι' o=some (b,s)/\w'.heap[b]? = w.heap[b]? /\ (R' b->R b)) (h0:ι o=none->ι' o=none)
    (hs:∀p,ob.refs p=true->Step w w' ι ι' mk mk' p):OB w' R' ι' mk' o ob:=by
 cases h with
 | row hι hr hb' hs' hsz hc h=>
  obtain⟨h1,h2,h3⟩:=hb _ _ hι;refine .row h1 (fun k=>hr (h3 k)) (by rw[h2];exact hb') hs' hsz hc fun i e hi j x hj=> ?_;obtain⟨k1,q,k2,k3⟩:=h i e hi j x hj;exact⟨k1,q,k2,k3.mono hR hw fun p hp=>hs p (AV.refsL_mem (zWX hi) (AV.cells_refs hj hp))⟩
 | acc hpos hι hr hb' hs' hc=>
  obtain⟨h1,h2,h3⟩:=hb _ _ hι;exact .acc hpos h1 (fun k=>hr (h3 k)) (by rw[h2];exact hb') hs' hc
 | accN hι=>exact .accN (h0 hι)
 | frz h=>
  refine .frz fun b s hb'=> ?_
  cases hι:ι o with
  | none=>rw[h0 hι] at hb';cases hb'
  | some p=>obtain⟨b0,s0⟩:=p;rw[(hb _ _ hι).1] at hb';cases hb';exact⟨hR _ (h _ _ hι).1,(h _ _ hι).2⟩
 | mp hι hr hb' hs' hl h=>
  obtain⟨h1,h2,h3⟩:=hb _ _ hι;refine .mp h1 (fun k=>hr (h3 k)) (by rw[h2];exact hb') hs' hl fun i k x hi=> ?_;obtain⟨e,k1,k2,k3⟩:=h i k x hi;exact⟨e,k1,k2,k3.mono_v hR hw⟩
inductive Opd where
 | t (n:Nat)
 | c (x:AV)
def Opd.ev(E:Env):Opd->AV
 | .t n=>(look n E).getD .undef
 | .c x=>x
inductive AOp where
 | mv (x:Opd)
 | pick (c a b:Opd)
 | alloc (z:AV)
 | box (x:Opd)
 | build (z:List AV) (ps:List (Nat×Nat×Opd))
 | bsl (len n:Nat) (z:AV) (ps:List (Nat×Opd))
 | ld (ag:Bool) (n:Nat) (p:Opd)
 | st (n:Nat) (p x:Opd)
 | nilc (x:Opd)
 | bin (op:BinOp) (x y:Opd)
 | eqb (ng:Bool) (x y:Opd)
 | eqs (ng:Bool) (n:Nat) (ls:List (Nat×Nat)) (x y:Opd)
 | nacc
 | un (op:UnOp) (x:Opd)
 | cvi (k:IntKind) (x:Opd)
 | s2b (x:Opd)
 | b2s (x:Opd)
 | mkfn (f:FuncId) (cs:List Opd)
 | fad (ag:Bool) (off n:Nat) (x:Opd)
 | fld (ag:Bool) (off n:Nat) (x:Opd)
 | iad (n:Nat) (x i:Opd)
 | iada (ag:Bool) (len n:Nat) (x i:Opd)
 | idx (x i:Opd)
 | idxa (ag:Bool) (len n:Nat) (x i:Opd)
 | slc (n:Nat) (x:Opd) (lo hi mx:Option Opd)
 | sls (x:Opd) (lo hi:Option Opd)
 | ext (x:Opd) (i:Nat)
 | len (x:Opd)
 | lens (x:Opd)
 | app (n:Nat) (x y:Opd)
 | apps (x y:Opd)
 | clr (n:Nat) (x:Opd)
 | mm (mx:Bool) (xs:List Opd)
 | mks (n:Nat) (z:AV) (l c:Opd)
 | nileq (ng:Bool) (x:Opd)
 | call (f:FuncId) (ms:List Bool) (xs:List Opd)
 | callv (f:Opd) (ms:List Bool) (xs:List Opd)
 | atl (p:Opd)
 | ats (p x:Opd)
 | atc (p x y:Opd)
 | mkm
 | lkp (ok:Bool) (z:D) (x k:Opd)
 | mup (x k v:Opd)
structure zA where
 dst:Option Nat
 op:AOp
 guard:Option (Nat×Bool)
def zbH:List AV->Option (List D)
 | []=>some []
 | .d x::l=>(zbH l).map (x:: ·)
 | _=>none
def AV.mkAgg(cs:List AV):AV:=match zbH cs with|some ds=> .d (.agg ds)|none=> .agg cs
def AV.mkTup(cs:List AV):AV:=match zbH cs with|some ds=> .d (.tup ds)|none=> .tup cs
def AV.mkFn(f:FuncId)(cs:List AV):AV:=match zbH cs with|some ds=> .d (.fn f ds)|none=> .fn f cs
def zhM:Value->Option AV
 | .int k n=>if k.min<=n/\n<=k.max then some (.d (.int k n)) else none
 | .bool b=>some (.d (.bool b))
 | .string s=>if s.data.toList.length<=LIM then some (.d (.str s.data.toList)) else none
 | .slice none 0 0=>some (.xsl [])
 | v=>if zoz v=true then some (.d .nil) else none
def zf6:Value->Option AV
 | .agg cs=>(cs.toList.mapM zhM).map AV.mkAgg
 | v=>zhM v
def opd:Operand->Option Opd
 | .tmp t=>if t<1000000 then some (.t t) else none
 | .const v=>if zoz v then some (.c .undef) else (zf6 v).map .c
 | .global _=>none
 | .func f=>some (.c (.d (.fn f [])))
def zbu(P:Program)(t:TypeId):Option Bool:=
 match P.underlying t with
 | some (.struct _)=>some true
 | some (.array _ _)=>some true
 | some _=>some false
 | none=>none
def zaP(P:Program)(t:TypeId):Option Nat:=(P.info? t).map (·.size)
def zcO(P:Program)(t:TypeId):Option AV:=((P.info? t).bind (·.zero)).bind zf6
def zef(P:Program)(f:FuncId):Bool:=match P.funcs[f]? with|some fn=>fn.body.isSome&& !(fn.name== "runtime.NumGoroutine")|none=>false
def zm5(P:Program)(f:FuncId):Nat:=
 match P.funcs[f]? with
 | some fn=>if fn.body.isNone&&fn.origin== "" then (if fn.name== "sync/atomic.LoadInt64" then 1 else if fn.name== "sync/atomic.StoreInt64" then 2 else if fn.name== "sync/atomic.CompareAndSwapInt64" then 3 else 0) else 0
 | none=>0
def zjM:Nat->List Opd->Option AOp
 | 1,[p]=>some (.atl p)
 | 2,[p,x]=>some (.ats p x)
 | 3,[p,x,y]=>some (.atc p x y)
 | _,_=>none
def zi6(P:Program)(n:Nat)(g:TypeId->Nat->Option (List (Nat×Nat)))(off:Nat):List Field->Option (List (Nat×Nat))
 | []=>some []
 | f::fs=>match zaP P f.type with
  | some m=>if f.name≠ "_" /\ f.offset+m<=n/\m≠0 then (g f.type (off+f.offset)).bind fun l1=>(zi6 P n g off fs).map (l1++ ·) else none
  | none=>none
def zko(m:Nat)(g:Nat->Option (List (Nat×Nat)))(off:Nat):Nat->Option (List (Nat×Nat))
 | 0=>some []
 | k+1=>(g off).bind fun l1=>(zko m g (off+m) k).map (l1++ ·)
def zd3(P:Program):Nat->TypeId->Nat->Option (List (Nat×Nat))
 | 0,_,_=>none
 | d+1,t,off=>
  match P.underlying t with
  | some .bool=>some [(off,1)]
  | some (.int _)=>some [(off,0)]
  | some .string=>some [(off,2)]
  | some (.struct fs)=>match zaP P t with|some n=>if P.stoodInHeld t then none else zi6 P n (zd3 P d) off fs.toList|none=>none
  | some (.array len e)=>match zaP P t,zaP P e with|some n,some m=>if m=0\/len * m≠n then none else zko m (zd3 P d e) off len|_,_=>none
  | _=>none
def zqZ:Operand->Bool
 | .const (.slice none _ _)=>true
 | _=>false
def z7(P:Program)(o:Op):Option AOp:=
 match o with
 | .move x| .assign x=>(opd x).map .mv
 | .pick c a b=>do pure (.pick (<- opd c) (<- opd a) (<- opd b))
 | .alloc t=>do
  let z <- zcO P t
  if z.size=0 then none else pure (.alloc z)
 | .box _ x=>(opd x).map .box
 | .load t p=>do
  let n <- zaP P t
  if n=0 then none else pure (.ld (<- zbu P t) n (<- opd p))
 | .store t p x=>do
  let n <- zaP P t
  if n=0 then none else pure (.st n (<- opd p) (<- opd x))
 | .nilCheck x=>(opd x).map .nilc
 | .binOp op t x y _=>
  match P.underlying t with
  | some (.int _)|some .string=>do pure (.bin op (<- opd x) (<- opd y))
  | some .bool=>
   match op with
   | .eql=>do pure (.eqb false (<- opd x) (<- opd y))
   | .neq=>do pure (.eqb true (<- opd x) (<- opd y))
   | _=>none
  | some (.struct _)|some (.array _ _)=>
   match zd3 P 9 t 0,zaP P t with
   | some ls,some n=>if P.eqGuardType P.depth t=true\/n=0 then none else
    match op with
    | .eql=>do pure (.eqs false n ls (<- opd x) (<- opd y))
    | .neq=>do pure (.eqs true n ls (<- opd x) (<- opd y))
    | _=>none
   | _,_=>none
  | some (.slice _)=>
   if zqZ y then
    match op with
    | .eql=>(opd x).map (.nileq false)
    | .neq=>(opd x).map (.nileq true)
    | _=>none
   else none
  | _=>none
 | .unOp op _ x=>(opd x).map (.un op)
 | .convert s t x=>
  match P.underlying s,P.underlying t with
  | some (.int _),some (.int k)=>(opd x).map (.cvi k)
  | some .string,some (.slice e)=>if P.underlying e matches some (.int .u8) then (opd x).map .s2b else none
  | some (.slice e),some .string=>if P.underlying e matches some (.int .u8) then (opd x).map .b2s else none
  | _,_=>none
 | .makeFunc (.func f) first cs=>if first.size=0 then do pure (.mkfn f (<- cs.toList.mapM opd)) else none
 | .fieldAddr t x f=>
  match P.underlying t with
  | some (.struct fs)=>do
   let fd <- fs[f]?
   let n <- zaP P fd.type
   if n=0 then none else pure (.fad (<- zbu P fd.type) fd.offset n (<- opd x))
  | _=>none
 | .field t x f=>
  match P.underlying t with
  | some (.struct fs)=>do
   let fd <- fs[f]?
   let n <- zaP P fd.type
   if n=0 then none else pure (.fld (<- zbu P fd.type) fd.offset n (<- opd x))
  | _=>none
 | .indexAddr t x i=>
  match P.underlying t with
  | some (.slice e)=>do
   let n <- zaP P e
   if n=0 then none else pure (.iad n (<- opd x) (<- opd i))
  | some (.array len e)=>do
   let n <- zaP P e
   if n=0 then none else pure (.iada (<- zbu P e) len n (<- opd x) (<- opd i))
  | _=>none
 | .index t x i=>
  match P.underlying t with
  | some .string=>do pure (.idx (<- opd x) (<- opd i))
  | some (.array len e)=>do
   let n <- zaP P e
   if n=0 then none else pure (.idxa (<- zbu P e) len n (<- opd x) (<- opd i))
  | _=>none
 | .slice t x lo hi mx=>
  match P.underlying t with
  | some (.slice e)=>do
   let n <- zaP P e
   if n=0 then none else pure (.slc n (<- opd x) (<- lo.mapM opd) (<- hi.mapM opd) (<- mx.mapM opd))
  | some .string=>do
   if mx.isSome then none else pure (.sls (<- opd x) (<- lo.mapM opd) (<- hi.mapM opd))
  | _=>none
 | .extract x i=>do pure (.ext (<- opd x) i)
 | .build t ps=>
  match P.underlying t with
  | some (.struct fs)=>do
   let z <- zcO P t
   let _ <- fs.toList.mapM fun f=>zaP P f.type
   let qs <- ps.toList.mapM fun p=>do
    let fd <- fs[p.1]?
    let n <- zaP P fd.type
    pure (fd.offset,n, <- opd p.2)
   pure (.build z.cells qs)
  | some (.array _ e)=>do
   let z <- zcO P t
   let n <- zaP P e
   let qs <- ps.toList.mapM fun p=>do pure (p.1 * n,n, <- opd p.2)
   pure (.build z.cells qs)
  | _=>none
 | .buildSlice t len ps=>
  match P.underlying t with
  | some (.slice e)=>do
   let n <- zaP P e
   let z <- zcO P e
   let qs <- ps.toList.mapM fun p=>do pure (p.1, <- opd p.2)
   if n=0\/16777216<len * n then none else pure (.bsl len n z qs)
  | _=>none
 | .makeSlice t l c=>
  match P.underlying t with
  | some (.slice e)=>do
   let n <- zaP P e
   let i <- P.info? e
   let z <- zcO P e
   if n=0\/32768<i.bytes then none else pure (.mks n z (<- opd l) (<- opd c))
  | _=>none
 | .call c=>
  match c.callee with
  | .value (.func f)=>if zef P f then do pure (.call f [] (<- c.args.toList.mapM opd)) else do zjM (zm5 P f) (<- c.args.toList.mapM opd)
  | .value (.tmp t)=>if t<1000000 then do pure (.callv (.t t) [] (<- c.args.toList.mapM opd)) else none
  | .builtin .len=>
   match (c.argTypes[0]?).bind P.underlying,c.args.toList with
   | some .string,[x]=>(opd x).map .lens
   | some (.slice _),[x]=>(opd x).map .len
   | _,_=>none
  | .builtin .append=>
   match (c.argTypes[0]?).bind P.underlying,(c.argTypes[1]?).bind P.underlying,c.args.toList with
   | some (.slice e),some (.slice _),[x,y]=>do
    let n <- zaP P e
    let i <- P.info? e
    let z <- zcO P e
    if n=0\/z.size≠n\/32768<i.bytes then none else pure (.app n (<- opd x) (<- opd y))
   | some (.slice e),some .string,[x,y]=>do
    let n <- zaP P e
    let i <- P.info? e
    let z <- zcO P e
    if n≠1\/z.size≠n\/32768<i.bytes then none else pure (.apps (<- opd x) (<- opd y))
   | _,_,_=>none
  | .builtin .clear=>
   match (c.argTypes[0]?).bind P.underlying,c.args.toList with
   | some (.slice e),[x]=>do
    let n <- zaP P e
    let z <- zcO P e
    if n=0\/z.size≠n then none else pure (.clr n (<- opd x))
   | _,_=>none
  | .builtin .min=>do pure (.mm false (<- c.args.toList.mapM opd))
  | .builtin .max=>do pure (.mm true (<- c.args.toList.mapM opd))
  | _=>none
 | .makeMap t r=>
  match P.underlying t,r with
  | some (.map k _),none=>if P.underlying k matches some (.int .i64) then some .mkm else none
  | _,_=>none
 | .lookup t x i ok=>
  match P.underlying t with
  | some (.map k e)=>match P.underlying k,zcO P e with
   | some (.int .i64),some (.d z)=>do pure (.lkp ok z (<- opd x) (<- opd i))
   | _,_=>none
  | _=>none
 | .mapUpdate t x i v=>
  match P.underlying t with
  | some (.map k _)=>if P.underlying k matches some (.int .i64) then do pure (.mup (<- opd x) (<- opd i) (<- opd v)) else none
  | _=>none
 | _=>none
def zdh(op:BinOp)(k:IntKind)(a b:Int):Option D:=
 match op with
 | .add=>some (.int k (k.wrap (a+b)))
 | .sub=>some (.int k (k.wrap (a - b)))
 | .mul=>some (.int k (k.wrap (a * b)))
 | .quo=>if b=0 then none else some (.int k (k.wrap (a.tdiv b)))
 | .rem=>if b=0 then none else some (.int k (a.tmod b))
 | .and=>some (.int k (k.wrap (BitVec.ofInt k.bits a &&& BitVec.ofInt k.bits b).toNat))
 | .or=>some (.int k (k.wrap (BitVec.ofInt k.bits a ||| BitVec.ofInt k.bits b).toNat))
 | .xor=>some (.int k (k.wrap (BitVec.ofInt k.bits a ^^^ BitVec.ofInt k.bits b).toNat))
 | .andNot=>some (.int k (k.wrap (BitVec.ofInt k.bits a &&& ~~~BitVec.ofInt k.bits b).toNat))
 | .eql=>some (.bool (decide (a=b)))
 | .neq=>some (.bool (!decide (a=b)))
 | .lss=>some (.bool (decide (a<b)))
 | .leq=>some (.bool (decide (a<=b)))
 | .gtr=>some (.bool (decide (b<a)))
 | .geq=>some (.bool (decide (b<=a)))
 | _=>none
def zkU(op:BinOp)(k:IntKind)(a b:Int):Option D:=
 if b<0 then none else
 match op with
 | .shl=>some (.int k (k.wrap (a * 2 ^ (min b.toNat k.bits))))
 | .shr=>some (.int k (a.fdiv (2 ^ (min b.toNat k.bits))))
 | _=>none
def zmN(op:BinOp)(a b:List UInt8):Option D:=
 match op with
 | .add=>if (a++b).length<=LIM then some (.str (a++b)) else none
 | .eql=>some (.bool (decide (a=b)))
 | .neq=>some (.bool (!decide (a=b)))
 | _=>none
def zhb(op:BinOp):D->D->Option D
 | .int k a,.int k' b=>
  match op with
  | .shl=>zkU .shl k a b
  | .shr=>zkU .shr k a b
  | op=>if k=k' then zdh op k a b else none
 | .str a,.str b=>zmN op a b
 | _,_=>none
def D.asAgg:D->D
 | .agg cs=> .agg cs
 | x=> .agg [x]
def zcn(ag:Bool)(off n:Nat)(x:D):Option D:=
 if ag then
  if off=0/\n=x.size then some x.asAgg
  else if off+n<=x.size then some (.agg ((x.cells.drop off).take n)) else none
 else if n=1 then x.cells[off]? else none
def ze3(ag:Bool)(off n:Nat)(x:AV):Option AV:=
 match x with
 | .d x=>(zcn ag off n x).map .d
 | x=>
  if ag then
   if off+n<=x.size then some (AV.mkAgg ((x.cells.drop off).take n)) else none
  else if n=1 then x.cells[off]? else none
def zd6{α:Type}(l:List α)(off:Nat)(m:List α):List α:=l.take off++m++l.drop (off+m.length)
def zb8:AV->Bool
 | .d (.tup _)=>true
 | .tup _=>true
 | .undef=>true
 | _=>false
def zc7(x:AV)(off:Nat)(v:AV):Option AV:=
 if off=0/\v.size=x.size then some v
 else if off+v.size<=x.size then some (AV.mkAgg (zd6 x.cells off v.cells)) else none
def slD:AV->Option (List D)
 | .d (.sl es)=>some es
 | .xsl es=>some es
 | .acc _ es=>some es
 | _=>none
def toD(H:zf):AV->Option D
 | .d x=>some x
 | .xsl es=>some (.sl es)
 | .acc _ es=>some (.sl es)
 | .osl o off len=>
  match look o H with
  | some (.row es)=>(zbH ((es.drop off).take len)).bind fun ds=>if ds.length=len then some (.sl ds) else none
  | _=>none
 | .agg cs=>(toDs H cs).map .agg
 | .tup cs=>(toDs H cs).map .tup
 | .fn f cs=>(toDs H cs).map (.fn f)
 | .ref o i 0=>
  match look o H with
  | some (.row es)=>(es[i]?).bind fun e=>match e with| .d x=>some (.pd x)|_=>none
  | _=>none
 | _=>none
where toDs (H:zf):List AV->Option (List D)
 | []=>some []
 | x::xs=>match toD H x,toDs H xs with|some y,some ys=>some (y::ys)|_,_=>none
mutual
def AV.objs:AV->List Nat
 | .ref o _ _=>[o]
 | .osl o _ _=>[o]
 | .acc o _=>[o]
 | .pe o _=>[o]
 | .mpr o=>[o]
 | .agg cs=>AV.objsL cs
 | .tup cs=>AV.objsL cs
 | .fn _ cs=>AV.objsL cs
 | _=>[]
def AV.objsL:List AV->List Nat
 | []=>[]
 | x::xs=>AV.objs x++AV.objsL xs
end
def zbB(z:List AV):List (Nat×Nat×AV)->Option (List AV)
 | []=>some z
 | (off,n,v)::rest=>if v.size=n/\off+n<=z.length/\zb8 v=false then zbB (zd6 z off v.cells) rest else none
def zjA:AV->AV
 | .xsl es=> .d (.sl es)
 | .d x=> .d x
 | .ref o i off=> .ref o i off
 | .osl o off len=> .osl o off len
 | .acc o es=> .acc o es
 | .pe o x=> .pe o x
 | .agg cs=> .agg cs
 | .tup vs=> .tup vs
 | .fn f cs=> .fn f cs
 | .nl b=> .nl b
 | .mpr o=> .mpr o
 | .undef=> .undef
def zmT:List AV->List AV
 | []=>[]
 | x::xs=>zjA x::zmT xs
theorem zmU:∀xs:List AV,zmT xs=xs.map zjA
 | []=>rfl
 | x::xs=>by simp [zmT,zmU xs]
theorem ztC:∀ {cs:List AV} {ds:List D},zbH cs=some ds->ds.length=cs.length
 | [],ds,h=>by simp only[zbH,Option.some.injEq] at h;subst h;rfl
 | .d x::l,ds,h=>by
  simp only[zbH,zWC] at h;obtain⟨a,h1,rfl⟩:=h;simp [ztC h1]
 | .ref .. :: _,_,h| .osl .. :: _,_,h| .acc .. :: _,_,h| .pe .. :: _,_,h| .xsl _::_,_,h| .agg _::_,_,h| .tup _::_,_,h| .fn .. :: _,_,h| .nl _::_,_,h| .mpr _::_,_,h| .undef::_,_,h=>by simp [zbH] at h
theorem zOT(cs:List AV):(AV.mkAgg cs).size=cs.length:=by
 unfold AV.mkAgg
 split
 ·rename_i ds h;simp [AV.size,D.size,D.cells,ztC h]
 ·rfl
def unX:AV->AV
 | .xsl es=> .d (.sl es)
 | .d x=> .d x
 | .ref o i off=> .ref o i off
 | .osl o off len=> .osl o off len
 | .acc o es=> .acc o es
 | .pe o x=> .pe o x
 | .agg cs=>AV.mkAgg (zmT cs)
 | .tup vs=> .tup vs
 | .fn f cs=> .fn f cs
 | .nl b=> .nl b
 | .mpr o=> .mpr o
 | .undef=> .undef
theorem zCN(v:AV):(unX v).size=v.size:=by
 cases v with
 | agg cs=>simp only[unX,zOT,zmU,zWM];rfl
 | _=>rfl
theorem zVR{v:AV}(h:zb8 v=false):zb8 (unX v)=false:=by
 cases v with
 | agg cs=>simp only[unX,AV.mkAgg];split<;>rfl
 | _=>simp_all [unX,zb8]
def zeS(z:List AV):List (Nat×AV)->Option (List AV)
 | []=>some z
 | (i,v)::rest=>if i<z.length/\zb8 v=false then zeS (z.set i (unX v)) rest else none
def zbX:AV->Option Int
 | .d (.int _ n)=>some n
 | _=>none
def zcC(x:Option AV)(dflt y:Nat):Option Nat:=
 match x with
 | none=>some dflt
 | some v=>(zbX v).bind fun n=>if 0<=n/\n<=y then some n.toNat else none
def zgC:List D->Option (List UInt8)
 | []=>some []
 | .int .u8 n::l=>(zgC l).map (UInt8.ofNat n.toNat:: ·)
 | _=>none
def mmD(mx:Bool):AV->List AV->Option AV
 | x,[]=>some x
 | .d (.int k a),.d (.int k' b)::r=>if k=k' then mmD mx (.d (.int k (if mx then (if a<b then b else a) else (if b<a then b else a)))) r else none
 | _,_=>none
def ldA(H:zf)(ag:Bool)(n:Nat):AV->Option AV
 | .d (.pd x)=>(zcn ag 0 n x).map .d
 | .pe _ x=>(zcn ag 0 n x).map .d
 | .ref o i off=>
  match look o H with
  | some (.row es)=>(es[i]?).bind (ze3 ag off n)
  | _=>none
 | _=>none
def zeR(ag:Bool)(off n:Nat):AV->Option AV
 | .ref o i f=>some (.ref o i (f+off))
 | .d (.pd y)=>(zcn ag off n y).map fun z=> .d (.pd z)
 | .pe o y=>(zcn ag off n y).map fun z=> .pe o z
 | _=>none
def zdg(H:zf)(n:Nat)(i:Int):AV->Option AV
 | .osl o off len=>if i<len then
     match look o H with
     | some (.row es)=>(es[off+i.toNat]?).bind fun e=>if e.size=n then some (.ref o (off+i.toNat) 0) else none
     | _=>none
     else none
 | .acc o es=>(es[i.toNat]?).bind fun e=>if e.size=n then some (.pe o e) else none
 | .d (.sl es)=>(es[i.toNat]?).bind fun e=>if e.size=n then some (.d (.pd e)) else none
 | .xsl es=>(es[i.toNat]?).bind fun e=>if e.size=n then some (.d (.pd e)) else none
 | _=>none
def zas(n:Nat)(es:List D):Bool:=es.all fun e=>e.size==n
def zcy(H:zf)(n:Nat)(lo hi mx:Option AV):AV->Option AV
 | .d (.sl es)=>
  if zas n es then
   (zcC hi es.length es.length).bind fun h=>(zcC lo 0 h).bind fun l=>
    match mx with
    | none=>some (.d (.sl ((es.take h).drop l)))
    | some m=>if zbX m=some (h:Int)/\hi.isSome then some (.xsl ((es.take h).drop l)) else none
  else none
 | .xsl es=>
  if zas n es then
   (zcC hi es.length es.length).bind fun h=>(zcC lo 0 h).bind fun l=>
    match mx with
    | none=>some (if h=es.length then .xsl ((es.take h).drop l) else .d (.sl ((es.take h).drop l)))
    | some m=>if zbX m=some (h:Int)/\hi.isSome then some (.xsl ((es.take h).drop l)) else none
  else none
 | .acc o es=>
  if zas n es then
   (zcC hi es.length es.length).bind fun h=>(zcC lo 0 h).bind fun l=>
    if l=0 then
     match mx with
     | none=>some (.acc o (es.take h))
     | some m=>if zbX m=some (h:Int)/\hi.isSome then some (.acc o (es.take h)) else none
    else none
  else none
 | .osl o off len=>
  match mx with
  | none=>(zcC hi len len).bind fun h=>(zcC lo 0 h).bind fun l=>
   match look o H with
   | some (.row es)=>if l=0\/es.head?.map AV.size=some n then some (.osl o (off+l) (h - l)) else none
   | _=>none
  | some _=>none
 | _=>none
def zdQ(H:zf):AV->Option (List D)
 | .osl o off len=>
  match look o H with
  | some (.row es)=>(zbH ((es.drop off).take len)).bind fun ds=>if ds.length=len then some ds else none
  | _=>none
 | .nl _=>some []
 | y=>slD y
def zcv(E:Env)(H:zf)(dst n:Nat)(ys:List D):AV->Option (AV×zf)
 | .xsl es=>if (ys.isEmpty&& !es.isEmpty)=true then (if zas n es=true then some (.xsl es,H) else none) else if zas n (es++ys)/\(es++ys).length<=LIM/\za1 dst E=false/\zam dst H=false then some (.acc dst (es++ys),zF dst (.acc (es.length+ys.length)) H) else none
 | .acc o es=>match look o H with
  | some (.acc m)=>if es.length=m/\zas n (es++ys)/\(es++ys).length<=LIM then some (.acc o (es++ys),zF o (.acc (m+ys.length)) H) else none
  | _=>none
 | _=>none
def zhT:Nat->Option D->Option D->Option Bool
 | 0,some (.int k x),some (.int k' y)=>if k=k' then some (decide (x=y)) else none
 | 1,some (.bool x),some (.bool y)=>some (x==y)
 | 2,some (.str x),some (.str y)=>some (decide (x=y))
 | _,_,_=>none
def zeP(x y:List D):List (Nat×Nat)->Option Bool
 | []=>some true
 | l::ls=>(zhT l.2 x[l.1]? y[l.1]?).bind fun b=>(zeP x y ls).map (b&& ·)
def znC(ag:Bool)(off n:Nat):AV->Option AV
 | .d (.agg cs)=>(zcn ag off n (.agg cs)).map .d
 | .agg cs=>ze3 ag off n (.agg cs)
 | _=>none
def zhr(k:Int):List (Int×D)->Option D
 | []=>none
 | (j,x)::l=>if j=k then some x else zhr k l
def zia(k:Int)(x:D):List (Int×D)->List (Int×D)
 | []=>[(k,x)]
 | (j,y)::l=>if j=k then (j,x)::l else (j,y)::zia k x l
def ziY:AV->Option Int
 | .d (.int .i64 n)=>some n
 | _=>none
def zfe(H:zf):AV->Option Int
 | .ref o i off=>
  match look o H with
  | some (.row es)=>(es[i]?).bind fun e=>(e.cells[off]?).bind ziY
  | _=>none
 | _=>none
def zgB(H:zf)(n:Int):AV->Option zf
 | .ref o i off=>
  match look o H with
  | some (.row es)=>(es[i]?).bind fun e=>((e.cells[off]?).bind ziY).bind fun _=>(zc7 e off (.d (.int .i64 n))).map fun e'=>zF o (.row (es.set i e')) H
  | _=>none
 | _=>none
def zkp(H:zf)(ok:Bool)(z:D):AV->AV->Option AV
 | .mpr o,.d (.int .i64 n)=>match look o H with
  | some (.mp es)=>some (.d (if ok then .tup [(zhr n es).getD z,.bool (zhr n es).isSome] else (zhr n es).getD z))
  | _=>none
 | _,_=>none
def zl4(H:zf):AV->AV->AV->Option (AV×zf)
 | .mpr o,.d (.int .i64 n),.d y=>match look o H with
  | some (.mp es)=>some (.undef,zF o (.mp (zia n y es)) H)
  | _=>none
 | _,_,_=>none
def zm(E:Env)(H:zf)(dst:Nat):AOp->Option (AV×zf)
 | .mv x=>some (x.ev E,H)
 | .pick c a b=>match c.ev E with| .d (.bool t)=>some (if t then a.ev E else b.ev E,H)|_=>none
 | .alloc z=>if za1 dst E=false/\zam dst H=false then some (.ref dst 0 0,zF dst (.row [z]) H) else none
 | .box x=>if za1 dst E=false/\zam dst H=false/\zb8 (x.ev E)=false/\(x.ev E).size≠0 then some (.ref dst 0 0,zF dst (.row [x.ev E]) H) else none
 | .ld ag n p=>(ldA H ag n (p.ev E)).map fun v=>(v,H)
 | .st n p x=>match p.ev E with
  | .ref o i off=>if (x.ev E).size=n/\zb8 (x.ev E)=false then
      match look o H with
      | some (.row es)=>(es[i]?).bind fun e=>(zc7 e off (x.ev E)).map fun e'=>(.undef,zF o (.row (es.set i e')) H)
      | _=>none
      else none
  | _=>none
 | .nilc x=>match x.ev E with
  | .ref o i f=>some (.ref o i f,H)
  | .d (.pd y)=>some (.d (.pd y),H)
  | .d (.fn f cs)=>some (.d (.fn f cs),H)
  | .pe o y=>some (.pe o y,H)
  | .fn f cs=>some (.fn f cs,H)
  | _=>none
 | .bin op x y=>match x.ev E,y.ev E with
  | .d a,.d b=>(zhb op a b).map fun v=>(.d v,H)
  | _,_=>none
 | .eqb ng x y=>match x.ev E,y.ev E with
  | .d (.bool a),.d (.bool b)=>some (.d (.bool (if ng then !(a==b) else a==b)),H)
  | _,_=>none
 | .eqs ng n ls x y=>match x.ev E,y.ev E with
  | .d (.agg a),.d (.agg b)=>if a.length=n/\b.length=n then (zeP a b ls).map fun r=>(.d (.bool (if ng then !r else r)),H) else none
  | _,_=>none
 | .nacc=>if za1 dst E=false/\zam dst H=false then some (.acc dst [],zF dst (.acc 0) H) else none
 | .un op x=>match op,x.ev E with
  | .not,.d (.bool b)=>some (.d (.bool (!b)),H)
  | .neg,.d (.int k n)=>some (.d (.int k (k.wrap (0 - n))),H)
  | _,_=>none
 | .cvi k x=>match x.ev E with| .d (.int _ n)=>some (.d (.int k (k.wrap n)),H)|_=>none
 | .fad ag off n x=>(zeR ag off n (x.ev E)).map fun v=>(v,H)
 | .fld ag off n x=>match x.ev E with
  | .d (.agg cs)=>(zcn ag off n (.agg cs)).map fun v=>(.d v,H)
  | .agg cs=>(ze3 ag off n (.agg cs)).map fun v=>(v,H)
  | _=>none
 | .iad n x i=>(zbX (i.ev E)).bind fun k=>if 0<=k then (zdg H n k (x.ev E)).map fun v=>(v,H) else none
 | .iada ag len n x i=>(zbX (i.ev E)).bind fun k=>if 0<=k/\k<len then (zeR ag (k.toNat * n) n (x.ev E)).map fun v=>(v,H) else none
 | .idxa ag len n x i=>(zbX (i.ev E)).bind fun k=>if 0<=k/\k<len then (znC ag (k.toNat * n) n (x.ev E)).map fun v=>(v,H) else none
 | .idx x i=>match x.ev E,zbX (i.ev E) with
  | .d (.str s),some k=>if 0<=k then (s[k.toNat]?).map fun b=>(.d (.int .u8 b.toNat),H) else none
  | _,_=>none
 | .slc n x lo hi mx=>(zcy H n (lo.map (·.ev E)) (hi.map (·.ev E)) (mx.map (·.ev E)) (x.ev E)).map fun v=>(v,H)
 | .sls x lo hi=>match x.ev E with
  | .d (.str s)=>(zcC (hi.map (·.ev E)) s.length s.length).bind fun h=>(zcC (lo.map (·.ev E)) 0 h).map fun l=>(.d (.str ((s.take h).drop l)),H)
  | _=>none
 | .ext x i=>match x.ev E with
  | .d (.tup vs)=>(vs[i]?).map fun v=>(.d v,H)
  | .tup vs=>(vs[i]?).map fun v=>(v,H)
  | _=>none
 | .lens x=>match x.ev E with
  | .d (.str s)=>some (.d (.int .i64 s.length),H)
  | _=>none
 | .len x=>match x.ev E with
  | .osl _ _ len=>some (.d (.int .i64 len),H)
  | y=>(slD y).map fun es=>(.d (.int .i64 es.length),H)
 | .mm mx xs=>match xs.map (·.ev E) with|[]=>none|y::ys=>(mmD mx y ys).map fun v=>(v,H)
 | .mkfn f cs=>some (AV.mkFn f (cs.map (·.ev E)),H)
 | .build z ps=>(zbB z (ps.map fun p=>(p.1,p.2.1,p.2.2.ev E))).map fun cs=>(AV.mkAgg cs,H)
 | .bsl len n z ps=>if z.size=n/\(ps.all fun p=>(p.2.ev E).size==n)=true then
     (zeS (List.replicate len z) (ps.map fun p=>(p.1,p.2.ev E))).bind fun es=>
      match zbH es with
      | some ds=>some (.xsl ds,H)
      | none=>if za1 dst E=false/\zam dst H=false then some (.osl dst 0 len,zF dst (.row es) H) else none
     else none
 | .mks n z l c=>match l.ev E,c.ev E with
  | .d (.int .i64 a),.d (.int .i64 b)=>if 0<=a/\a=b/\a<=LIM/\z.size=n/\za1 dst E=false/\zam dst H=false then some (.osl dst 0 a.toNat,zF dst (.row (List.replicate a.toNat z)) H) else none
  | _,_=>none
 | .s2b x=>match x.ev E with
  | .d (.str s)=>some (.d (.sl (s.map fun b=> .int .u8 b.toNat)),H)
  | _=>none
 | .b2s x=>(slD (x.ev E)).bind fun es=>(zgC es).map fun s=>(.d (.str s),H)
 | .app n x y=>(zdQ H (y.ev E)).bind fun ys=>zcv E H dst n ys (x.ev E)
 | .clr n x=>match x.ev E with
  | .osl o off len=>
   match look o H with
   | some (.row es)=>if off+len=es.length/\es.head?.map AV.size=some n then some (.undef,zF o (.row (es.take off)) H) else none
   | _=>none
  | _=>none
 | .apps x y=>match y.ev E with
  | .d (.str s)=>zcv E H dst 1 (s.map fun b=> .int .u8 b.toNat) (x.ev E)
  | _=>none
 | .atl p=>(zfe H (p.ev E)).map fun n=>(.d (.int .i64 n),H)
 | .ats p x=>(ziY (x.ev E)).bind fun n=>(zgB H n (p.ev E)).map fun H'=>(.d (.tup []),H')
 | .atc p x y=>(ziY (x.ev E)).bind fun old=>(ziY (y.ev E)).bind fun n=>(zfe H (p.ev E)).bind fun v=>if v=old then (zgB H n (p.ev E)).map fun H'=>(.d (.bool true),H') else some (.d (.bool false),H)
 | .mkm=>if za1 dst E=false/\zam dst H=false then some (.mpr dst,zF dst (.mp []) H) else none
 | .lkp ok z x k=>(zkp H ok z (x.ev E) (k.ev E)).map fun v=>(v,H)
 | .mup x k v=>zl4 H (x.ev E) (k.ev E) (v.ev E)
 | _=>none
end Go.Sim

namespace Go.Sim
open Go (World Value Addr TypeId)
theorem zOm{α:Type}{k:Nat}{x:α}{l:List (Nat×α)}(h:(k,x)∈l):∃y,look k l=some y:=by
 induction l with
 | nil=>cases h
 | cons p l ih=>
  obtain⟨j,y⟩:=p;simp only[look]
  by_cases e:j=k
  ·rw[zWz e];exact⟨_,rfl⟩
  ·rw[zWy e]
   cases h with
   | head=>exact absurd rfl e
   | tail _ h=>exact ih h
variable {C:Ctx} {S:St} {a:Act} {w:World} {ι:Inj} {R:Nat->Prop}
theorem Rel.put(h:Rel C S a w ι R){x:AV}{u:Value}(hv:VA w R ι (mark S.heap) x u){d:Nat}(hd:d<C.n):
    Rel C ⟨zF d x S.env,S.heap⟩ (a.put (some d) u) w ι R:=by
 refine⟨h.defers,by simp [Act.put,h.size],h.os,h.tape,h.output,h.grow,h.len,h.keep,h.keepLt,h.rlt,h.rok,h.r0,h.own,h.inj,?_,h.heap⟩;intro t y hy;simp only[zF] at hy
 cases hy with
 | head=>
  refine⟨u,?_,hv⟩;have:=C.le;simp only[ze6,Act.put];rw[zWz (by omega),zZy (by rw[h.size];exact hd)]
 | tail _ hy=>
  obtain⟨h1,h2⟩:=zjc.1 hy;obtain⟨u',h3,h4⟩:=h.env t y h1;refine⟨u',?_,h4⟩;simp only[ze6,Act.put] at h3 ⊢;rw[zZz (Ne.symm h2)];exact h3
theorem Rel.put_none(h:Rel C S a w ι R)(u:Value):Rel C S (a.put none u) w ι R:=h
theorem Rel.weaken(h:Rel C S a w ι R){E:Env}(hE:∀t x,(t,x)∈E->(t,x)∈S.env):Rel C ⟨E,S.heap⟩ a w ι R:=
 ⟨h.defers,h.size,h.os,h.tape,h.output,h.grow,h.len,h.keep,h.keepLt,h.rlt,h.rok,h.r0,h.own,h.inj,fun t x hx=>h.env t x (hE t x hx),h.heap⟩
theorem Rel.tmp(h:Rel C S a w ι R){t:Nat}{x:AV}(ht:t<1000000)(hx:look t S.env=some x):VA w R ι (mark S.heap) x (a.eval (.tmp t)):=by
 obtain⟨u,h1,h2⟩:=h.env t x (zaq hx);simp only[ze6,zWz ht] at h1;simp only[Act.eval,zYi,h1,zXl];exact h2
theorem znf{v:Value}{x:AV}(h:zhM v=some x)(w:World)(R:Nat->Prop)(ι:Inj)(mk:Nat->Option Nat):VA w R ι mk x v/\x.cell=true:=by
 unfold zhM at h
 split at h
 ·split at h
  ·rename_i hk;cases h;exact⟨.d (.int hk),rfl⟩
  ·cases h
 ·cases h;exact⟨.d .bool,rfl⟩
 ·split at h
  ·rename_i s hs
   cases h
   refine⟨.d ?_,rfl⟩;have:=Rd.str (w:=w) (R:=R) hs;have e:(⟨s.data.toList.toArray⟩:ByteArray)=s:=by cases s;simp
   rwa [e] at this
  ·cases h
 ·cases h;exact⟨.xsl .sl0,rfl⟩
 ·split at h
  ·rename_i hk;cases h;exact⟨.d (.nil hk),rfl⟩
  ·cases h
theorem zhJ{cs:List AV}{ds:List D}(h:zbH cs=some ds):cs=ds.map .d:=by
 induction cs generalizing ds with
 | nil=>simp [zbH] at h;subst h;rfl
 | cons x l ih=>
  cases x with
  | d y=>
   simp only[zbH,zWC] at h;obtain⟨ds',h1,h2⟩:=h;subst h2;rw[ih h1];rfl
  | _=>simp [zbH] at h
theorem VA.of_d{mk:Nat->Option Nat}{x:D}{u:Value}(h:VA w R ι mk (.d x) u):Rd w R (.v x u):=by cases h;assumption
theorem VA.mkAgg {mk:Nat->Option Nat} {cs:List AV} {vs:List Value} (hl:vs.length=cs.length) (hc:∀c∈cs,c.cell=true)
    (h:∀(i:Nat) (c:AV) (u:Value),cs[i]? = some c->vs[i]? = some u->VA w R ι mk c u):VA w R ι mk (AV.mkAgg cs) (.agg vs.toArray):=by
 unfold AV.mkAgg
 cases hd:zbH cs with
 | none=>exact .agg hl hc h
 | some ds=>
  have:=zhJ hd;subst this;refine .d (.agg (by simpa using hl) (fun c hm=> ?_) fun i c u h1 h2=>(h i (.d c) u (by simp [h1]) h2).of_d);exact hc (.d c) (by simpa using hm)
theorem VA.mkTup {mk:Nat->Option Nat} {cs:List AV} {vs:List Value} (hl:vs.length=cs.length)
    (h:∀(i:Nat) (c:AV) (u:Value),cs[i]? = some c->vs[i]? = some u->VA w R ι mk c u):VA w R ι mk (AV.mkTup cs) (.tuple vs.toArray):=by
 unfold AV.mkTup
 cases hd:zbH cs with
 | none=>exact .tup hl h
 | some ds=>
  have:=zhJ hd;subst this;exact .d (.tup (by simpa using hl) fun i c u h1 h2=>(h i (.d c) u (by simp [h1]) h2).of_d)
theorem VA.mkFn {mk:Nat->Option Nat} {f:FuncId} {cs:List AV} {vs:List Value} (hl:vs.length=cs.length)
    (h:∀(i:Nat) (c:AV) (u:Value),cs[i]? = some c->vs[i]? = some u->VA w R ι mk c u):VA w R ι mk (AV.mkFn f cs) (.func (.func f) #[] vs.toArray):=by
 unfold AV.mkFn
 cases hd:zbH cs with
 | none=>exact .fn hl h
 | some ds=>
  have:=zhJ hd;subst this;exact .d (.fn (by simpa using hl) fun i c u h1 h2=>(h i (.d c) u (by simp [h1]) h2).of_d)
theorem zfm{α β:Type}{f:α->Option β}:∀ {l:List α} {m:List β},l.mapM f=some m->m.length=l.length/\∀(i:Nat) (x:α) (y:β),l[i]? = some x->m[i]? = some y->f x=some y:=by
 intro l
 induction l with
 | nil=>intro m h;simp at h;subst h;simp
 | cons x l ih=>
  intro m h;simp only[zYe,zXa,zXc] at h;obtain⟨y,hy,h⟩:=zWB.1 h;obtain⟨ys,hys,h⟩:=zWB.1 h
  cases h
  obtain⟨h1,h2⟩:=ih hys;refine⟨by simp [h1],fun i a b ha hb=> ?_⟩
  match i,ha,hb with
  | 0,ha,hb=>simp at ha hb;subst ha hb;exact hy
  | n+1,ha,hb=>exact h2 n a b (by simpa using ha) (by simpa using hb)
theorem znk{v:Value}{x:AV}(h:zf6 v=some x)(w:World)(R:Nat->Prop)(ι:Inj)(mk:Nat->Option Nat):VA w R ι mk x v:=by
 unfold zf6 at h
 split at h
 ·rename_i cs;obtain⟨ds,h1,h2⟩:=zWC.1 h;subst h2;obtain⟨hl,hg⟩:=zfm h1;have e:cs=cs.toList.toArray:=by simp
  rw[e];refine VA.mkAgg hl.symm (fun c hc=> ?_) fun i c u h3 h4=>(znf (hg i u c h4 h3) w R ι mk).1;obtain⟨i,hi⟩:=zXn hc;have hlt:i<cs.toList.length:=by rw[<- hl];exact (zWU.1 hi).1
  exact (znf (hg i _ c (zWF hlt) hi) w R ι mk).2
 ·exact (znf h w R ι mk).1
theorem Rel.ev(h:Rel C S a w ι R){o:Operand}{x:Opd}(hx:opd o=some x):VA w R ι (mark S.heap) (x.ev S.env) (a.eval o):=by
 cases o with
 | tmp t=>
  simp only[opd] at hx
  split at hx
  ·rename_i ht
   cases hx
   simp only[Opd.ev]
   cases hl:look t S.env with
   | none=>exact .undef
   | some y=>exact h.tmp ht hl
  ·cases hx
 | const v=>
  simp only[opd] at hx
  split at hx
  ·cases hx;exact .undef
  ·obtain⟨y,h1,h2⟩:=zWC.1 hx;subst h2;exact znk h1 _ _ _ _
 | global g=>cases hx
 | func f=>
  simp only[opd,Option.some.injEq] at hx;subst hx;exact .d (.fn (cs:=[]) (vs:=[]) rfl (by simp))
theorem Rel.change (h:Rel C S a w ι R) {w':World} {ι':Inj} {R':Nat->Prop} {H':zf}
    (os:w'.os=w.os) (tape:w'.tape=w.tape) (output:w'.output=w.output) (grow:w.heap.size<=w'.heap.size) (blk:∀b,b<w.heap.size->Blk w w' b 0)
    (keep:∀b,C.keep b->w'.heap[b]? = w.heap[b]?) (hR:∀b,R b->R' b) (rlt:∀b,R' b->b<w'.heap.size) (rok:∀b,R' b->C.R0 b\/¬C.keep b)
    (hK:zb2 R w w') (own:∀o b s,ι' o=some (b,s)->¬C.keep b/\b<w'.heap.size) (inj:∀o o' b s s',ι' o=some (b,s)->ι' o'=some (b,s')->o=o')
    (st:∀p,za1 p S.env=true->Step w w' ι ι' (mark S.heap) (mark H') p)
    (hp:∀o ob,(o,ob)∈H'->OB w' R' ι' (mark H') o ob):Rel C ⟨S.env,H'⟩ a w' ι' R':=by
 refine⟨h.defers,h.size,os.trans h.os,tape.trans h.tape,output.trans h.output,zXo h.grow grow,fun b hb=>(h.len b hb).trans (blk b (zXH hb h.grow)),fun b hb=>(keep b hb).trans (h.keep b hb),h.keepLt,rlt,rok,
  fun b hb=>hR b (h.r0 b hb),own,inj,?_,hp⟩
 intro t x hx;obtain⟨u,h1,h2⟩:=h.env t x hx;refine⟨u,h1,h2.mono hR hK fun p hp=>st p ?_⟩
 cases hh:za1 p S.env with
 | true=>rfl
 | false=>rw[zmv hx hh] at hp;cases hp
def zhF(o:Nat)(S:St):Prop:=za1 o S.env=false/\zam o S.heap=false
def upd(ι:Inj)(o:Nat)(p:Nat×Nat):Inj:=fun q=>if q=o then some p else ι q
theorem zdz{o:Nat}{p:Nat×Nat}:upd ι o p o=some p:=by simp [upd]
theorem zbE{o q:Nat}{p:Nat×Nat}(h:q≠o):upd ι o p q=ι q:=by simp [upd,h]
theorem zer{H:zf}{o q:Nat}{ob:Obj}(h:q≠o):mark (zF o ob H) q=mark H q:=by simp [mark,zAJ h]
theorem zeq{H:zf}{o:Nat}{ob:Obj}:mark (zF o ob H) o=(match ob with| .acc n=>some n| .frz m=>m|_=>none):=by
 simp only[mark,zOq];cases ob<;>rfl
theorem zdC{o:Go.Obj}{b:Nat}(h:b<w.heap.size):(w.alloc o).heap[b]? = w.heap[b]? := heap_alloc_old w o b h
theorem zb2.alloc(h:Rel C S a w ι R)(o:Go.Obj):zb2 R w (w.alloc o):=fun b hb=>zdC (h.rlt b hb)
theorem Step.other{w':World}{H':zf}{ι':Inj}{p:Nat}(hι:ι' p=ι p)(hm:mark H' p=mark S.heap p)(hb:∀b s,ι p=some (b,s)->w'.heap[b]? = w.heap[b]?):
    Step w w' ι ι' (mark S.heap) (mark H') p:=
 ⟨fun b s h=>by rw[hι,h],fun b s h=>Blk.of_eq (hb b s h),fun m h=>⟨m,by rw[hm,h],zW5 _⟩,fun m h=>⟨m,by rw[<- hm,h],zW5 _⟩⟩
theorem Rel.new (h:Rel C S a w ι R) {o s:Nat} {ob:Obj} (c:Array Value) (T:TypeId) (hu:zhF o S)
    (hob:OB (w.alloc (.cells c T)) R (upd ι o (w.heap.size,s)) (mark (zF o ob S.heap)) o ob):
    Rel C ⟨S.env,zF o ob S.heap⟩ a (w.alloc (.cells c T)) (upd ι o (w.heap.size,s)) R:=by
 have hst:∀p,p≠o->Step w (w.alloc (.cells c T)) ι (upd ι o (w.heap.size,s)) (mark S.heap) (mark (zF o ob S.heap)) p:=fun p hp=>
  Step.other (zbE hp) (zer hp) fun b s hb=>zdC (h.own p b s hb).2
 refine h.change rfl rfl rfl (by simp) (fun b hb=>Blk.of_eq (zdC hb)) (fun b hb=>zdC (zXH (h.keepLt b hb) h.grow)) (fun _ hb=>hb) (fun b hb=>by have:=h.rlt b hb;simp;omega) h.rok (zb2.alloc h _) ?_ ?_ ?_ ?_
 ·intro q b s' hq
  by_cases e:q=o
  ·subst e;rw[zdz] at hq;cases hq;exact⟨fun hk=>by have:=h.keepLt _ hk;have:=h.grow;omega,by simp⟩
  ·rw[zbE e] at hq;have:=h.own q b s' hq;exact⟨this.1,by simp;omega⟩
 ·intro q q' b s1 s2 h1 h2
  by_cases e:q=o<;>by_cases e':q'=o
  ·rw[e,e']
  ·subst e;rw[zdz] at h1;rw[zbE e'] at h2;cases h1;have:=(h.own _ _ _ h2).2;omega
  ·subst e';rw[zdz] at h2;rw[zbE e] at h1;cases h2;have:=(h.own _ _ _ h1).2;omega
  ·rw[zbE e] at h1;rw[zbE e'] at h2;exact h.inj _ _ _ _ _ h1 h2
 ·intro p hp;refine hst p fun e=> ?_;subst e;rw[hu.1] at hp;cases hp
 ·intro q ob' hq
  cases hq with
  | head=>exact hob
  | tail _ hq=>
   obtain⟨h1,h2⟩:=zjc.1 hq;refine (h.heap q ob' h1).mono (fun _ hb=>hb) (zb2.alloc h _) (fun b s' hb=>⟨by rw[zbE h2,hb],zdC (h.own q b s' hb).2,fun hb=>hb⟩) (fun h0=>by rw[zbE h2,h0]) fun p hp=> ?_;refine hst p fun e=> ?_;subst e;have:=zhy h1 hu.2;rw[hp] at this;cases this
theorem Rel.newRO(h:Rel C S a w ι R)(ob:Go.Obj):Rel C S a (w.alloc ob) ι (fun b=>R b\/b=w.heap.size):=by
 have hst:∀p,Step w (w.alloc ob) ι ι (mark S.heap) (mark S.heap) p:=fun p=>Step.same fun b s hb=>zdC (h.own p b s hb).2;refine h.change (H':=S.heap) rfl rfl rfl (by simp) (fun b hb=>Blk.of_eq (zdC hb)) (fun b hb=>zdC (zXH (h.keepLt b hb) h.grow)) (fun _ hb=> .inl hb) ?_ ?_ (zb2.alloc h _) ?_ h.inj (fun p _=>hst p) ?_
 ·rintro b (hb|rfl)
  ·have:=h.rlt b hb;simp;omega
  ·simp
 ·rintro b (hb|rfl)
  ·exact h.rok b hb
  ·exact .inr fun hk=>by have:=h.keepLt _ hk;have:=h.grow;omega
 ·intro o b s ho;have:=h.own o b s ho;exact⟨this.1,by simp;omega⟩
 ·intro q ob' hq;refine (h.heap q ob' hq).mono (fun _ hb=> .inl hb) (zb2.alloc h _) (fun b s' hb=> ?_) (fun h0=>h0) fun p _=>hst p;have:=(h.own q b s' hb).2;refine⟨hb,zdC this,?_⟩;rintro (hr|hr)
  ·exact hr
  ·omega
theorem Rel.drew(h:Rel C S a w ι R):Rel C S a w.drew ι R:=
 ⟨h.defers,h.size,h.os,h.tape,h.output,h.grow,h.len,h.keep,h.keepLt,h.rlt,h.rok,h.r0,h.own,h.inj,
  fun t x hx=>let ⟨u,h1,h2⟩:=h.env t x hx;⟨u,h1,h2.mono (fun _ h=>h) (fun _ _=>rfl) fun _ _=>Step.same fun _ _ _=>rfl⟩,
  fun o ob ho=>(h.heap o ob ho).mono (fun _ h=>h) (fun _ _=>rfl) (fun _ _ hb=>⟨hb,rfl,fun h=>h⟩) (fun h=>h) fun _ _=>Step.same fun _ _ _=>rfl⟩
end Go.Sim

namespace Go.Sim
open Go (World Value Addr TypeId Act)
def zM(C:Ctx)(S:St)(a:Act)(v:AV)(H:zf)(r:Result Next):Prop:=
 ∃u w' ι' R',(r= .ok (.value u) w'\/(r= .ok .skip w'/\u=Go.undef))/\Rel C ⟨S.env,H⟩ a w' ι' R'/\VA w' R' ι' (mark H) v u
variable {P:Program} {C:Ctx} {S:St} {a:Act} {w:World} {ι:Inj} {R:Nat->Prop}
theorem zM.same(h:Rel C S a w ι R){v:AV}{u:Value}(hv:VA w R ι (mark S.heap) v u){r:Result Next}(hr:r= .ok (.value u) w):zM C S a v S.heap r:=
 ⟨u,w,ι,R,.inl hr,h,hv⟩
section inv
variable {mk:Nat->Option Nat}
theorem VA.int_inv{k:IntKind}{n:Int}{u:Value}(h:VA w R ι mk (.d (.int k n)) u):u= .int k n/\k.has n:=by
 cases h with|d h=>cases h with|int h=>exact⟨rfl,h⟩
theorem VA.bool_inv{b:Bool}{u:Value}(h:VA w R ι mk (.d (.bool b)) u):u= .bool b:=by
 cases h with|d h=>cases h;rfl
theorem VA.str_inv{s:List UInt8}{u:Value}(h:VA w R ι mk (.d (.str s)) u):u= .string ⟨s.toArray⟩/\s.length<=LIM:=by
 cases h with|d h=>cases h with|str h=>exact⟨rfl,h⟩
theorem VA.pd_inv{x:D}{u:Value}(h:VA w R ι mk (.d (.pd x)) u):∃b off,u= .pointer (some ⟨b,off,none⟩)/\R b/\Rd w R (.el x b off):=by
 cases h with|d h=>cases h with|pd h1 h2=>exact⟨_,_,rfl,h1,h2⟩
theorem VA.tupD_inv{cs:List D}{u:Value}(h:VA w R ι mk (.d (.tup cs)) u):∃vs:List Value,u= .tuple vs.toArray/\vs.length=cs.length/\∀(i:Nat) (c:D) (q:Value),cs[i]? = some c->vs[i]? = some q->Rd w R (.v c q):=by
 cases h with|d h=>cases h with|tup h1 h2=>exact⟨_,rfl,h1,h2⟩
theorem VA.tup_inv{cs:List AV}{u:Value}(h:VA w R ι mk (.tup cs) u):∃vs:List Value,u= .tuple vs.toArray/\vs.length=cs.length/\∀(i:Nat) (c:AV) (q:Value),cs[i]? = some c->vs[i]? = some q->VA w R ι mk c q:=by
 cases h with|tup h1 h2=>exact⟨_,rfl,h1,h2⟩
end inv
theorem zfG(k:IntKind)(n:Int):k.has (k.wrap n):=by
 cases k<;>simp [IntKind.has,IntKind.wrap,IntKind.min,IntKind.max,IntKind.bits,IntKind.signed]<;>(try split)<;>omega
theorem zVA{k:IntKind}{x y:Int}(hx:k.has x):k.has (x.tmod y):=by
 have h1:(x.tmod y).natAbs<=x.natAbs:=by rw[Int.natAbs_tmod];exact Nat.mod_le _ _
 have h2:0<=x->0<=x.tmod y:=fun h=>zZg _ h;have h3:x<=0->x.tmod y<=0:=fun h=>by have:=zZg y (show 0<= -x by omega);rw[Int.neg_tmod] at this;omega
 generalize x.tmod y=z at *
 cases k<;>simp [IntKind.has,IntKind.min,IntKind.max,IntKind.bits,IntKind.signed] at * <;> omega
theorem zNa{T:TypeId}{op:BinOp}{k:IntKind}{x y:Int}{r:D}(h:zdh op k x y=some r)(hx:k.has x)(hop:op≠ .shl/\op≠ .shr)(w':World):
    ∃u,(binOp op T (.int k x) (.int k y)).run P w'= .ok u w'/\∀(w:World) (R:Nat->Prop),Rd w R (.v r u):=by
 cases op<;>simp only[zdh,Option.some.injEq,reduceCtorEq] at h
 case add=>subst h;exact⟨_,by simp [binOp,Op.intArith],fun w R=> .int (zfG _ _)⟩
 case sub=>subst h;exact⟨_,by simp [binOp,Op.intArith],fun w R=> .int (zfG _ _)⟩
 case mul=>subst h;exact⟨_,by simp [binOp,Op.intArith],fun w R=> .int (zfG _ _)⟩
 case quo=>split at h;cases h;rename_i h0;cases h;exact⟨_,by simp [binOp,Op.intDiv,h0],fun w R=> .int (zfG _ _)⟩
 case rem=>split at h;cases h;rename_i h0;cases h;exact⟨_,by simp [binOp,Op.intDiv,h0],fun w R=> .int (zVA hx)⟩
 case and=>subst h;exact⟨_,by simp [binOp,Op.intBits],fun w R=> .int (zfG _ _)⟩
 case or=>subst h;exact⟨_,by simp [binOp,Op.intBits],fun w R=> .int (zfG _ _)⟩
 case xor=>subst h;exact⟨_,by simp [binOp,Op.intBits],fun w R=> .int (zfG _ _)⟩
 case andNot=>subst h;exact⟨_,by simp [binOp,Op.intBits],fun w R=> .int (zfG _ _)⟩
 all_goals (subst h;exact⟨_,by simp [binOp,Op.intCmp];try rfl,fun w R=> .bool⟩)
theorem zQP{k:IntKind}{x:Int}(n:Nat)(hx:k.has x):k.has (x.fdiv (2 ^ n)):=by
 have hp:(0:Int)<2 ^ n:=Int.pow_pos (by omega);rw[zZX _ (Int.le_of_lt hp)];have h1:0<=x->0<=x / 2 ^ n/\x / 2 ^ n<=x:=fun h=>⟨Int.ediv_nonneg h (Int.le_of_lt hp),Int.ediv_le_self _ h⟩;have h2:x<0->x<=x / 2 ^ n/\x / 2 ^ n<0:=fun h=>by
  refine⟨?_,Int.ediv_neg_of_neg_of_pos h hp⟩;rw[Int.le_ediv_iff_mul_le hp];have h1:(1:Int)<=2 ^ n:=hp;have:=Int.mul_le_mul_of_nonpos_left (a:=x) (b:=2 ^ n) (c:=1) (by omega) h1;simpa using this
 generalize x / 2 ^ n=z at *
 cases k<;>simp [IntKind.has,IntKind.min,IntKind.max,IntKind.bits,IntKind.signed] at * <;> omega
theorem zUi{op:BinOp}{k k':IntKind}{x y:Int}{r:D}(h:zkU op k x y=some r)(hx:k.has x)(T:TypeId)(w':World):
    ∃u,(binOp op T (.int k x) (.int k' y)).run P w'= .ok u w'/\∀(w:World) (R:Nat->Prop),Rd w R (.v r u):=by
 unfold zkU at h
 split at h
 ·cases h
 ·rename_i hy
  cases op<;>simp only[Option.some.injEq,reduceCtorEq] at h
  ·subst h;exact⟨_,by simp [binOp,Op.shift,hy],fun w R=> .int (zfG _ _)⟩
  ·subst h;exact⟨_,by simp [binOp,Op.shift,hy],fun w R=> .int (zQP _ hx)⟩
theorem zCH(a:List UInt8):(⟨a.toArray⟩:ByteArray).toList=a:=by
 rw[ByteArray.toList_eq]
theorem zUY{op:BinOp}{x y:List UInt8}{r:D}(h:zmN op x y=some r)(T:TypeId)(w':World):
    ∃u,(binOp op T (.string ⟨x.toArray⟩) (.string ⟨y.toArray⟩)).run P w'= .ok u w'/\∀(w:World) (R:Nat->Prop),Rd w R (.v r u):=by
 cases op<;>simp only[zmN,Option.some.injEq,reduceCtorEq] at h
 case add=>
  split at h
  ·rename_i hl;cases h;refine⟨.string ⟨(x++y).toArray⟩,?_,fun w R=> .str hl⟩;have h1:¬(IntKind.i64.max<((x.length:Int)+(y.length:Int))):=by
    simp only[zWJ,LIM] at hl;simp [IntKind.max,IntKind.signed,IntKind.bits];omega
   simp only[zYn,IntKind.max,IntKind.signed,IntKind.bits] at h1;have h2:((⟨x.toArray⟩:ByteArray)++⟨y.toArray⟩)=⟨(x++y).toArray⟩:=by
    ext1;simp
   simp [binOp,Op.stringOp,h2,ByteArray.size,IntKind.max,IntKind.signed,IntKind.bits];simpa using h1
  ·cases h
 case eql=>subst h;exact⟨.bool (decide (x=y)),by simp [binOp,Op.stringOp,zCH];by_cases e:x=y<;>simp [e],fun w R=> .bool⟩
 case neq=>subst h;exact⟨.bool (!decide (x=y)),by simp [binOp,Op.stringOp,zCH];by_cases e:x=y<;>simp [e],fun w R=> .bool⟩
end Go.Sim

namespace Go.Sim
open Go (World Value Addr TypeId Act)
variable {P:Program} {C:Ctx} {S:St} {a:Act} {w:World} {ι:Inj} {R:Nat->Prop}
theorem zlL{t:TypeId}{ag:Bool}(h:zbu P t=some ag)(w:World):(isAgg t).run P w= .ok ag w:=by
 unfold zbu at h;unfold isAgg
 cases hu:P.underlying t with
 | none=>simp [hu] at h
 | some d=>
  rw[Sem.run_bind,run_underlying hu w]
  cases d<;>simp [hu] at h<;>subst h<;>simp
theorem ze5{t:TypeId}{n:Nat}(h:zaP P t=some n)(w:World):(sizeOf t).run P w= .ok n w:=by
 unfold zaP at h;obtain⟨i,h1,h2⟩:=zWC.1 h;simp [sizeOf,typeInfo,h1,h2]
theorem zp3{w:World}{b off n:Nat}{Q:Nat->Value->Prop}(h:∀j,j<n->∃q,w.cell? ⟨b,off+j,none⟩=some q/\Q j q):
    ∃qs:List Value,qs.length=n/\w.rangeAt b off qs/\∀j q,qs[j]? = some q->Q j q:=by
 refine⟨(List.range n).map fun j=>(w.cell? ⟨b,off+j,none⟩).getD Go.undef,by simp,?_,?_⟩
 ·intro j v hv;have hj:j<n:=by have:=(zWU.1 hv).1;simpa using this
  obtain⟨q,h1,_⟩:=h j hj;rw[zWT,zZE hj] at hv;simp [h1] at hv;rw[h1,hv]
 ·intro j v hv;have hj:j<n:=by have:=(zWU.1 hv).1;simpa using this
  obtain⟨q,h1,h2⟩:=h j hj;rw[zWT,zZE hj] at hv;simp [h1] at hv;subst hv;exact h2
theorem zAA{t:TypeId}{n b off:Nat}{qs:List Value}(hag:zbu P t=some true)(hn:zaP P t=some n)(hl:qs.length=n)(hr:w.rangeAt b off qs):
    (loadVar t ⟨b,off,none⟩).run P w= .ok (.agg qs.toArray) w:=by
 have h1:=run_loadCells_list (P:=P) w ⟨b,off,none⟩ qs (fun j v hv=>by rw[Addr.add_mid];exact hr j v hv);rw[hl] at h1;simp [loadVar,zlL hag,ze5 hn,h1]
theorem zAB{t:TypeId}{b off:Nat}{q:Value}(hag:zbu P t=some false)(hq:w.cell? ⟨b,off,none⟩=some q):
    (loadVar t ⟨b,off,none⟩).run P w= .ok q w:=by
 simp [loadVar,zlL hag,hq]
theorem D.size_agg(cs:List D):(D.agg cs).size=cs.length:=rfl
theorem zDQ(x:D):x.asAgg= .agg x.cells:=by cases x<;>rfl
theorem zhv{ag:Bool}{off n:Nat}{x y:D}(h:zcn ag off n x=some y)(hn:n≠0):
    off+n<=x.size/\((ag=true/\y= .agg ((x.cells.drop off).take n))\/(ag=false/\n=1/\x.cells[off]? = some y)):=by
 unfold zcn at h
 cases ag with
 | true=>
  simp only[if_true] at h
  split at h
  ·rename_i h1;cases h;refine⟨by omega,.inl ⟨rfl,?_⟩⟩;rw[zDQ,h1.1,h1.2];simp [D.size]
  ·split at h
   ·rename_i h1;cases h;exact⟨h1,.inl ⟨rfl,rfl⟩⟩
   ·cases h
 | false=>
  simp only[zWL,if_false] at h
  split at h
  ·rename_i h1;have:=(zWU.1 h).1;exact⟨by simp [D.size];omega,.inr ⟨rfl,h1,h⟩⟩
  ·cases h
theorem zo6{α:Type}{l:List α}{off n j:Nat}(h:off+n<=l.length)(hj:j<n):((l.drop off).take n)[j]? = l[off+j]? := by
 rw[zYw hj,zYN]
theorem Rd.part_el{x y:D}{b o off n:Nat}{ag:Bool}(h:Rd w R (.el x b o))(hp:zcn ag off n x=some y)(hn:n≠0):Rd w R (.el y b (o+off)):=by
 obtain⟨h1,h2|⟨_,_,h2⟩⟩:=zhv hp hn
 ·obtain⟨_,rfl⟩:=h2;have hc:=h.v_of_cells;refine Rd.el_of_cells (fun vs=>by simp) fun i c hi=> ?_;have hi:((x.cells.drop off).take n)[i]? = some c:=hi;have hlt:i<n:=by have:=(zWU.1 hi).1;simp at this;omega
  rw[zo6 h1 hlt] at hi;obtain⟨k1,q,k2,k3⟩:=hc _ _ hi;exact⟨k1,q,by rw[<- k2];congr 2;omega,k3⟩
 ·obtain⟨k1,q,k2,k3⟩:=h.v_of_cells _ _ h2;exact .elc k1 k2 k3
theorem Rd.load{x y:D}{b o n:Nat}{ag:Bool}{t:TypeId}(h:Rd w R (.el x b o))(hp:zcn ag 0 n x=some y)(hn:n≠0)(hag:zbu P t=some ag)(hsz:zaP P t=some n):
    ∃u,(loadVar t ⟨b,o,none⟩).run P w= .ok u w/\Rd w R (.v y u):=by
 obtain⟨h1,⟨rfl,rfl⟩|⟨rfl,h0,h2⟩⟩:=zhv hp hn
 ·have hc:=h.v_of_cells;have hlen:n<=x.cells.length:=by simpa [D.size] using h1
  obtain⟨qs,hl,hr,hq⟩:=zp3 (w:=w) (b:=b) (off:=o) (n:=n) (Q:=fun j q=>∀c,x.cells[j]? = some c->c.cell=true/\Rd w R (.v c q)) fun j hj=>by
   have he:x.cells[j]? = some x.cells[j]:=zWF (by omega);obtain⟨k1,q,k2,k3⟩:=hc j _ he;exact⟨q,k2,fun c hc'=>by rw[he] at hc';cases hc';exact⟨k1,k3⟩⟩
  refine⟨_,zAA hag hsz hl hr,?_⟩;have key:∀(i:Nat) (c:D),((x.cells.drop 0).take n)[i]? = some c->i<n/\x.cells[i]? = some c:=fun i c hi=>by
   have hlt:i<n:=by have:=(zWU.1 hi).1;simp at this;omega
   rw[zo6 (by omega) hlt] at hi;exact⟨hlt,by simpa using hi⟩
  refine .agg (by simp;omega) (fun c hc'=> ?_) fun i c u h3 h4=>(hq i u h4 c (key i c h3).2).2;obtain⟨i,hi⟩:=zXn hc';obtain⟨hlt,hx⟩:=key i c hi;obtain⟨k1,_⟩:=hc i c hx;exact k1
 ·obtain⟨k1,q,k2,k3⟩:=h.v_of_cells _ _ h2;exact⟨q,zAB hag (by simpa using k2),k3⟩
def ElA(w:World)(R:Nat->Prop)(ι:Inj)(mk:Nat->Option Nat)(e:AV)(b off:Nat):Prop:=
 ∀(j:Nat) (x:AV),e.cells[j]? = some x->x.cell=true/\∃q,w.cell? ⟨b,off+j,none⟩=some q/\VA w R ι mk x q
theorem ElA.load{mk:Nat->Option Nat}{e v:AV}{b o off n:Nat}{ag:Bool}{t:TypeId}(h:ElA w R ι mk e b o)(hp:ze3 ag off n e=some v)(hn:n≠0)(hag:zbu P t=some ag)(hsz:zaP P t=some n):
    ∃u,(loadVar t ⟨b,o+off,none⟩).run P w= .ok u w/\VA w R ι mk v u:=by
 have general:∀(m:Nat),m=n->off+n<=e.cells.length->ag=true->∃u,(loadVar t ⟨b,o+off,none⟩).run P w= .ok u w/\VA w R ι mk (AV.mkAgg ((e.cells.drop off).take n)) u:=by
  intro m _ hlen hagt;obtain⟨qs,hl,hr,hq⟩:=zp3 (w:=w) (b:=b) (off:=o+off) (n:=n) (Q:=fun j q=>∀c,e.cells[off+j]? = some c->c.cell=true/\VA w R ι mk c q) fun j hj=>by
   have he:e.cells[off+j]? = some e.cells[off+j]:=zWF (by omega);obtain⟨k1,q,k2,k3⟩:=h _ _ he;exact⟨q,by rw[<- k2];congr 2;omega,fun c hc'=>by rw[he] at hc';cases hc';exact⟨k1,k3⟩⟩
  refine⟨_,zAA (hagt ▸ hag) hsz hl hr,?_⟩;have key:∀(i:Nat) (c:AV),((e.cells.drop off).take n)[i]? = some c->i<n/\e.cells[off+i]? = some c:=fun i c hi=>by
   have hlt:i<n:=by have:=(zWU.1 hi).1;simp at this;omega
   rw[zo6 (by omega) hlt] at hi;exact⟨hlt,hi⟩
  refine VA.mkAgg (by simp;omega) (fun c hc'=> ?_) fun i c u h3 h4=>(hq i u h4 c (key i c h3).2).2;obtain⟨i,hi⟩:=zXn hc';exact (h _ _ (key i c hi).2).1
 cases e with
 | d x=>
  simp only[ze3,zWC] at hp;obtain⟨y,hp,rfl⟩:=hp;have hel:Rd w R (.el x b o)\/∃vs,x= .tup vs:=by
   by_cases hx:∃vs,x= .tup vs
   ·exact .inr hx
   ·refine .inl (Rd.el_of_cells (fun vs hvs=>hx ⟨vs,hvs⟩) fun i c hi=> ?_);obtain⟨k1,q,k2,k3⟩:=h i (.d c) (by simp [AV.cells,hi]);exact⟨k1,q,k2,k3.of_d⟩
  rcases hel with hel|⟨vs,rfl⟩
  ·obtain⟨h1,_⟩:=zhv hp hn;have h2:=hel.part_el hp hn;have:∃z,zcn ag 0 n y=some z/\z=y:=by
    obtain⟨h1,⟨rfl,rfl⟩|⟨rfl,h0,h2⟩⟩:=zhv hp hn
    ·refine⟨_,?_,rfl⟩;simp only[zcn,if_true];have e:n=(D.agg (List.take n (List.drop off x.cells))).size:=by rw[D.size_agg,zXY,zYY];have h1:off+n<=x.cells.length:=h1;omega
     rw[zWz ⟨trivial,e⟩];rfl
    ·refine⟨y,?_,rfl⟩;subst h0;have:=(hel.v_of_cells _ _ h2).1;simp [zcn,D.cells_cell this]
   obtain⟨z,hz,rfl⟩:=this;obtain⟨u,k1,k2⟩:=h2.load hz hn hag hsz;exact⟨u,k1,.d k2⟩
  ·have:=(h 0 (.d (.tup vs)) (by simp [AV.cells,D.cells])).1;simp [AV.cell,D.cell] at this
 | _=>
  simp only[ze3] at hp
  cases ag with
  | true=>
   simp only[if_true] at hp
   split at hp
   ·rename_i h1;cases hp;exact general n rfl (by rw[AV.size_cells];omega) rfl
   ·cases hp
  | false=>
   simp only[zWL,if_false] at hp
   split at hp
   ·obtain⟨k1,q,k2,k3⟩:=h _ _ hp;exact⟨q,zAB hag k2,k3⟩
   ·cases hp
end Go.Sim
