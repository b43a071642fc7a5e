/-
  Loads, addresses, parts of values.
-/
import Derived.Calls
import Derived.Laws.Sem
import Derived.Laws.World
import Derived.Laws.Rows
import Derived.Below
import Derived.Deep.MidRow
import Derived.Deep.AppendSrc
import Derived.Lib.Strings
set_option linter.unusedSimpArgs false
set_option linter.unusedVariables false
set_option maxHeartbeats 10000000
set_option maxRecDepth 100000
abbrev zYP:=@if_neg
abbrev zYQ:=@if_pos
abbrev zYR:=@Option.bind_eq_some_iff
abbrev zYS:=@List.map_nil
abbrev zYT:=@Option.map_eq_some_iff
abbrev zYU:=@List.map_cons
abbrev zYV:=@eq_false
abbrev zYW:=@List.length_cons
abbrev zYX:=@Bool.false_eq_true
abbrev zYY:=@List.length_nil
abbrev zYZ:=@List.length_append
abbrev zY0:=@List.mem_map
abbrev zY1:=@List.getElem?_eq_getElem
abbrev zY2:=@not_true_eq_false
abbrev zY3:=@List.length_map
abbrev zY4:=@List.getElem_mem
abbrev zY5:=@List.map_append
abbrev zY6:=@Bool.and_eq_true
abbrev zY7:=@List.getElem?_eq_some_iff
abbrev zY8:=@eq_true
abbrev zY9:=@Classical.not_not
abbrev zZa:=@List.getElem?_map
abbrev zZb:=@List.nil_append
abbrev zZc:=@decide_eq_false
abbrev zZd:=@List.append_nil
abbrev zZe:=@decide_eq_true
abbrev zZf:=@List.mem_of_getElem?
abbrev zZg:=@Int.natCast_zero
abbrev zZh:=@List.cons_append
abbrev zZi:=@List.all_eq_true
abbrev zZj:=@Nat.zero_add
abbrev zZk:=@Nat.le_refl
abbrev zZl:=@List.mem_append
abbrev zZm:=@not_false_eq_true
abbrev zZn:=@Option.bind_some
abbrev zZo:=@Option.bind_eq_bind
abbrev zZp:=@List.length_singleton
abbrev zZq:=@List.drop_zero
abbrev zZr:=@List.drop_eq_getElem_cons
abbrev zZs:=@Option.pure_def
abbrev zZt:=@List.mem_singleton
abbrev zZu:=@List.length_set
abbrev zZv:=@Option.map_some
abbrev zZw:=@List.getD_eq_getElem?_getD
abbrev zZx:=@List.mem_cons
abbrev zZy:=@Nat.mul_le_mul_right
abbrev zZz:=@Int.toNat_natCast
abbrev zZA:=@List.drop_length
abbrev zZB:=@Bool.eq_iff_iff
abbrev zZC:=@List.length_eq_zero_iff
abbrev zZD:=@List.getElem?_of_mem
abbrev zZE:=@List.take_zero
abbrev zZF:=@List.append_assoc
abbrev zZG:=@Nat.le_trans
abbrev zZH:=@Bool.false_and
abbrev zZI:=@and_self
abbrev zZJ:=@List.mem_range
abbrev zZK:=@Bool.true_eq_false
abbrev zZL:=@Bool.not_eq_true'
abbrev zZM:=@Bool.or_eq_true
abbrev zZN:=@Nat.add_mul
abbrev zZO:=@Nat.mod_lt
abbrev zZP:=@Int.natCast_one
abbrev zZQ:=@Classical.choose_spec
abbrev zZR:=@Int.natCast_add
abbrev zZS:=@List.nodup_cons
abbrev zZT:=@Array.getElem?_eq_some_iff
abbrev zZU:=@List.length_replicate
abbrev zZV:=@List.findIdx?_eq_some_iff_getElem
abbrev zZW:=@List.any_eq_true
abbrev zZX:=@Bool.and_self
abbrev zZY:=@Bool.false_or
abbrev zZZ:=@true_and
abbrev zZ0:=@List.all_cons
abbrev zZ1:=@Nat.lt_of_lt_of_le
abbrev zZ2:=@Nat.succ_mul
abbrev zZ3:=@false_and
abbrev zZ4:=@List.pairwise_iff_getElem
abbrev zZ5:=@Bool.and_false
abbrev zZ6:=@List.any_eq_false
abbrev zZ7:=@List.map_set
abbrev zZ8:=@Nat.mod_eq_of_lt
abbrev zZ9:=@Int.tdiv_eq_ediv_of_nonneg
abbrev z0a:=@Int.cast_ofNat_Int
abbrev z0b:=@Bool.true_and
abbrev z0c:=@List.range'_succ
abbrev z0d:=@List.getElem?_append_right
abbrev z0e:=@List.nodup_append
abbrev z0f:=@Nat.sub_zero
abbrev z0g:=@Bool.not_eq_true
abbrev z0h:=@List.length_filter_le
abbrev z0i:=@List.map_map
abbrev z0j:=@Nat.add_zero
abbrev z0k:=@and_true
abbrev z0l:=@List.any_cons
abbrev z0m:=@List.filter_cons
abbrev z0n:=@List.mem_append_left
abbrev z0o:=@List.length_pos_iff
abbrev z0p:=@List.getElem?_append_left
abbrev z0q:=@or_false
abbrev z0r:=@List.map_congr_left
abbrev z0s:=@Option.getD_some
abbrev z0t:=@Bool.true_or
abbrev z0u:=@Bool.and_true
abbrev z0v:=@List.getElem?_cons_zero
abbrev z0w:=@List.mapM_cons
abbrev z0x:=@Option.isSome_iff_exists
abbrev z0y:=@List.mem_filter
abbrev z0z:=@Bool.or_eq_false_iff
abbrev z0A:=@Array.getD_eq_getD_getElem?
abbrev z0B:=@List.mem_or_eq_of_mem_set
abbrev z0C:=@List.getElem_of_mem
abbrev z0D:=@List.getElem?_cons_succ
abbrev z0E:=@List.filter_nil
abbrev z0F:=@List.getElem?_eq_none
abbrev z0G:=@List.map_take
abbrev z0H:=@List.mem_of_mem_take
abbrev z0I:=@List.length_take
abbrev z0J:=@List.not_mem_nil
abbrev z0K:=@List.pairwise_cons
abbrev z0L:=@List.perm_middle
abbrev z0M:=@List.singleton_append
abbrev z0N:=@List.getElem?_take_of_lt
abbrev z0O:=@List.getElem?_set
abbrev z0P:=@and_false
abbrev z0Q:=@List.take_of_length_le
abbrev z0R:=@Bool.decide_and
abbrev z0S:=@List.mem_range'_1
abbrev z0T:=@List.mem_map_of_mem
abbrev z0U:=@Nat.lt_or_ge
abbrev z0V:=@List.mem_append_right
abbrev z0W:=@List.getElem?_drop
abbrev z0X:=@List.exists_mem_of_ne_nil
abbrev z0Y:=@true_or
abbrev z0Z:=@List.findIdx?_eq_none_iff
abbrev z00:=@List.mem_iff_getElem
abbrev z01:=@Int.le_refl
abbrev z02:=@List.flatten_nil
abbrev z03:=@Bool.or_true
abbrev z04:=@Bool.or_false
abbrev z05:=@Nat.sub_self
abbrev z06:=@Nat.add_assoc
abbrev z07:=@Array.toList_map
abbrev z08:=@Nat.mul_comm
abbrev z09:=@List.length_drop
abbrev z1a:=@Int.tmod_nonneg
abbrev z1b:=@Int.not_lt
abbrev z1c:=@Int.natCast_mul
abbrev z1d:=@Bool.eq_false_iff
abbrev z1e:=@Nat.zero_le
abbrev z1f:=@List.take_length
abbrev z1g:=@List.foldl_nil
abbrev z1h:=@Int.tmod_lt_of_pos
abbrev z1i:=@List.take_add_one
abbrev z1j:=@Int.ofNat_tmod
abbrev z1k:=@List.getElem_map
abbrev z1l:=@Bool.not_true
abbrev z1m:=@Bool.not_false
abbrev z1n:=@List.any_nil
abbrev z1o:=@Nat.zero_lt_succ
abbrev z1p:=@List.getElem?_toArray
abbrev z1q:=@List.isEmpty_iff
abbrev z1r:=@List.range_eq_range'
abbrev z1s:=@Array.getElem?_setIfInBounds
abbrev z1t:=@Array.getElem?_eq_none
abbrev z1u:=@Nat.zero_mul
abbrev z1v:=@List.nodup_nil
abbrev z1w:=@List.map_drop
abbrev z1x:=@List.mem_replicate
abbrev z1y:=@List.mem_of_mem_drop
abbrev z1z:=@Nat.lt_trichotomy
abbrev z1A:=@List.nodup_iff_pairwise_ne
abbrev z1B:=@List.perm_append_comm
abbrev z1C:=@List.pairwise_map
abbrev z1D:=@List.getElem_cons_succ
abbrev z1E:=@Nat.add_mod_right
abbrev z1F:=@List.map_replicate
abbrev z1G:=@Option.map_none
abbrev z1H:=@Nat.le_max_left
abbrev z1I:=@Nat.le_max_right
abbrev z1J:=@Array.getElem?_append_left
abbrev z1K:=@Array.getElem?_eq_getElem
abbrev z1L:=@Array.getElem?_modify
abbrev z1M:=@List.foldl_cons
abbrev z1N:=@Array.getElem?_setIfInBounds_self_of_lt
abbrev z1O:=@Array.getElem?_setIfInBounds_ne
abbrev z1P:=@Array.foldl_toList
abbrev z1Q:=@Array.getElem?_toList
abbrev z1R:=@List.getElem?_take
abbrev z1S:=@List.eq_of_mem_replicate
abbrev z1T:=@List.drop_of_length_le
abbrev z1U:=@List.findIdx?_cons
abbrev z1V:=@List.getElem_set
abbrev z1W:=@Bool.not_eq_false
abbrev z1X:=@List.drop_eq_nil_of_le
abbrev z1Y:=@List.foldl_append
abbrev z1Z:=@List.filter_append
abbrev z10:=@Int.toNat_of_nonneg
abbrev z11:=@List.range_succ
abbrev z12:=@List.range_zero
abbrev z13:=@List.mem_cons_of_mem
abbrev z14:=@List.filter_eq_nil_iff
abbrev z15:=@List.ext_getElem
abbrev z16:=@List.eraseIdx_eq_take_drop_succ
abbrev z17:=@List.take_append_drop
abbrev z18:=@List.length_eraseIdx
abbrev z19:=@List.length_range
abbrev z2a:=@Int.tmod_eq_emod_of_nonneg
abbrev z2b:=@List.drop_left
abbrev z2c:=@List.flatten_cons
abbrev z2d:=@Nat.lt_irrefl
abbrev z2e:=@Array.mapM_eq_mapM_toList
abbrev z2f:=@List.eq_nil_of_length_eq_zero
abbrev z2g:=@List.getElem?_replicate
abbrev z2h:=@Int.fdiv_eq_ediv_of_nonneg
abbrev z2i:=@List.length_erase_of_mem
abbrev z2j:=@List.mem_of_mem_eraseIdx

namespace Go.Sim
inductive D where
 | int (k:IntKind) (n:Int)
 | bool (b:Bool)
 | str (s:List UInt8)
 | agg (cs:List D)
 | tup (vs:List D)
 | sl (es:List D)
 | pd (x:D)
 | fn (f:FuncId) (caps:List D)
 | nil
 deriving Inhabited
def D.cells:D->List D
 | .agg cs=>cs
 | x=>[x]
def D.size(x:D):Nat:=x.cells.length
def D.cell:D->Bool
 | .agg _=>false
 | .tup _=>false
 | _=>true
def LIM:Nat:=4294967296
def zoQ:Value->Bool
 | .pointer none=>true
 | .nilFunc=>true
 | .nilIface=>true
 | _=>false
inductive It where
 | v (x:D) (u:Value)
 | el (x:D) (b off:Nat)
inductive Rd(w:World)(R:Nat->Prop):It->Prop
 | int {k:IntKind} {n:Int} (h:k.has n):Rd w R (.v (.int k n) (.int k n))
 | bool {b:Bool}:Rd w R (.v (.bool b) (.bool b))
 | str {s:List UInt8} (h:s.length<=LIM):Rd w R (.v (.str s) (.string ⟨s.toArray⟩))
 | agg {cs:List D} {vs:List Value} (hl:vs.length=cs.length) (hc:∀c∈cs,c.cell=true)
     (h:∀(i:Nat) (c:D) (u:Value),cs[i]? = some c->vs[i]? = some u->Rd w R (.v c u)):Rd w R (.v (.agg cs) (.agg vs.toArray))
 | tup {cs:List D} {vs:List Value} (hl:vs.length=cs.length)
     (h:∀(i:Nat) (c:D) (u:Value),cs[i]? = some c->vs[i]? = some u->Rd w R (.v c u)):Rd w R (.v (.tup cs) (.tuple vs.toArray))
 | sl0 {a:Option Addr} {cap:Nat}:Rd w R (.v (.sl []) (.slice a 0 cap))
 | sl {es:List D} {b off s cap:Nat} (hR:R b) (h0:es≠[]) (hs:0<s) (hl:es.length<=LIM) (hcap:es.length<=cap) (hsz:∀e∈es,e.size=s)
     (h:∀(i:Nat) (e:D),es[i]? = some e->Rd w R (.el e b (off+i * s))):Rd w R (.v (.sl es) (.slice (some ⟨b,off,none⟩) es.length cap))
 | pd {x:D} {b off:Nat} (hR:R b) (h:Rd w R (.el x b off)):Rd w R (.v (.pd x) (.pointer (some ⟨b,off,none⟩)))
 | fn {f:FuncId} {cs:List D} {vs:List Value} (hl:vs.length=cs.length)
     (h:∀(i:Nat) (c:D) (u:Value),cs[i]? = some c->vs[i]? = some u->Rd w R (.v c u)):Rd w R (.v (.fn f cs) (.func (.func f) #[] vs.toArray))
 | nil {u:Value} (h:zoQ u=true):Rd w R (.v .nil u)
 | elagg {cs:List D} {b off:Nat} (hc:∀c∈cs,c.cell=true)
     (h:∀(i:Nat) (c:D),cs[i]? = some c->Rd w R (.el c b (off+i))):Rd w R (.el (.agg cs) b off)
 | elc {x:D} {u:Value} {b off:Nat} (hc:x.cell=true) (hv:w.cell? ⟨b,off,none⟩=some u) (h:Rd w R (.v x u)):Rd w R (.el x b off)
theorem zRL{u:Value}(h:zoQ u=true):u.cells= #[u]:=by cases u<;>first|rfl|cases h
theorem D.size_cell{x:D}(h:x.cell=true):x.size=1:=by cases x<;>simp_all [D.cell,D.size,D.cells]
theorem D.cells_cell{x:D}(h:x.cell=true):x.cells=[x]:=by cases x<;>simp_all [D.cell,D.cells]
def zbM(R:Nat->Prop)(w w':World):Prop:=∀b,R b->w'.heap[b]? = w.heap[b]?
def It.near(w w':World):It->Prop
 | .v _ _=>True
 | .el x b off=>∀j,j<x.size->w'.cell? ⟨b,off+j,none⟩=w.cell? ⟨b,off+j,none⟩
theorem Rd.mono{w w':World}{R R':Nat->Prop}{it:It}(h:Rd w R it)(hR:∀b,R b->R' b)(hw:zbM R w w')(hn:it.near w w'):Rd w' R' it:=by
 induction h with
 | int h=>exact .int h
 | bool=>exact .bool
 | str h=>exact .str h
 | agg hl hc _ ih=>exact .agg hl hc fun i c u h1 h2=>ih i c u h1 h2 trivial
 | tup hl _ ih=>exact .tup hl fun i c u h1 h2=>ih i c u h1 h2 trivial
 | sl0=>exact .sl0
 | sl hr h0 hs hl hcap hsz _ ih=>exact .sl (hR _ hr) h0 hs hl hcap hsz fun i e h1=>ih i e h1 fun j _=>World.cell?_of_block (hw _ hr)
 | pd hr _ ih=>exact .pd (hR _ hr) (ih fun j _=>World.cell?_of_block (hw _ hr))
 | fn hl _ ih=>exact .fn hl fun i c u h1 h2=>ih i c u h1 h2 trivial
 | nil h=>exact .nil h
 | @elagg cs b off hc _ ih=>
  refine .elagg hc fun i c h1=>ih i c h1 fun j hj=> ?_;have hi:i<cs.length:=(zY7.1 h1).1;have hcl:c.cell=true:=hc c (zZf h1);rw[D.size_cell hcl] at hj;have:=hn i (by simpa [D.size,D.cells] using hi);have hj0:j=0:=by omega
  subst hj0;simpa using this
 | @elc x u b off hc hv _ ih=>
  refine .elc hc ?_ (ih trivial);have:=hn 0 (by rw[D.size_cell hc];omega);simpa [hv] using this
theorem Rd.mono_v{w w':World}{R R':Nat->Prop}{x:D}{u:Value}(h:Rd w R (.v x u))(hR:∀b,R b->R' b)(hw:zbM R w w'):Rd w' R' (.v x u):=h.mono hR hw trivial
theorem Rd.cells_of_v{w:World}{R:Nat->Prop}{x:D}{u:Value}(h:Rd w R (.v x u))(hx:∀vs,x≠ .tup vs):
    u.cells.size=x.size/\∀(i:Nat) (c:D),x.cells[i]? = some c->c.cell=true/\∃q,u.cells[i]? = some q/\Rd w R (.v c q):=by
 have one:∀(x:D) (u:Value),x.cells=[x]->u.cells= #[u]->x.cell=true->Rd w R (.v x u)->(u.cells.size=x.size/\∀(i:Nat) (c:D),x.cells[i]? = some c->c.cell=true/\∃q,u.cells[i]? = some q/\Rd w R (.v c q)):=by
  intro x u h1 h2 h3 h4;refine⟨by simp [D.size,h1,h2],fun i c hc=> ?_⟩;rw[h1] at hc
  match i,hc with
  | 0,hc=>simp at hc;subst hc;exact⟨h3,u,by simp [h2],h4⟩
  | n+1,hc=>simp at hc
 generalize hit:It.v x u=it at h
 cases h with
 | agg hl hc h=>
  injection hit with e1 e2;subst e1 e2
  refine⟨by simp [Value.cells,D.size,D.cells,hl],fun i c hi=> ?_⟩;simp only[D.cells] at hi;have hlt:i<_:=(zY7.1 hi).1;rename_i cs vs;have hq:vs[i]? = some (vs[i]'(by omega)):=zY1 _;exact⟨hc c (zZf hi),_,by simp only[Value.cells,z1p];exact hq,h i c _ hi hq⟩
 | tup hl h=>injection hit with e1 e2;exact absurd e1 (hx _)
 | int h=>injection hit with e1 e2;subst e1 e2;exact one _ _ rfl rfl rfl (.int h)
 | bool=>injection hit with e1 e2;subst e1 e2;exact one _ _ rfl rfl rfl .bool
 | str h=>injection hit with e1 e2;subst e1 e2;exact one _ _ rfl rfl rfl (.str h)
 | sl0=>injection hit with e1 e2;subst e1 e2;exact one _ _ rfl rfl rfl .sl0
 | sl a b c d e f g=>injection hit with e1 e2;subst e1 e2;exact one _ _ rfl rfl rfl (.sl a b c d e f g)
 | pd a b=>injection hit with e1 e2;subst e1 e2;exact one _ _ rfl rfl rfl (.pd a b)
 | fn a b=>injection hit with e1 e2;subst e1 e2;exact one _ _ rfl rfl rfl (.fn a b)
 | nil h=>injection hit with e1 e2;subst e1 e2;exact one _ _ rfl (zRL h) rfl (.nil h)
 | elagg=>cases hit
 | elc=>cases hit
theorem Rd.v_of_cells{w:World}{R:Nat->Prop}{x:D}{b off:Nat}(h:Rd w R (.el x b off)):
    ∀(i:Nat) (c:D),x.cells[i]? = some c->c.cell=true/\∃q,w.cell? ⟨b,off+i,none⟩=some q/\Rd w R (.v c q):=by
 intro i c hi
 cases h with
 | elagg hc h=>
  simp only[D.cells] at hi;have h1:=h i c hi;have h2:=hc c (zZf hi)
  cases h1 with
  | elagg=>simp [D.cell] at h2
  | elc hc' hv h=>exact⟨h2,_,hv,h⟩
 | elc hc hv h=>
  rw[D.cells_cell hc] at hi
  match i,hi with
  | 0,hi=>simp at hi;subst hi;exact⟨hc,_,by simpa using hv,h⟩
  | n+1,hi=>simp at hi
theorem Rd.el_of_cells {w:World} {R:Nat->Prop} {x:D} {b off:Nat} (hx:∀vs,x≠ .tup vs)
    (h:∀(i:Nat) (c:D),x.cells[i]? = some c->c.cell=true/\∃q,w.cell? ⟨b,off+i,none⟩=some q/\Rd w R (.v c q)):Rd w R (.el x b off):=by
 by_cases hc:x.cell=true
 ·obtain⟨_,q,h1,h2⟩:=h 0 x (by rw[D.cells_cell hc];rfl);exact .elc hc (by simpa using h1) h2
 ·cases x with
  | agg cs=>
   refine .elagg (fun c hc=> ?_) fun i c hi=> ?_
   ·obtain⟨i,hi⟩:=zZD hc;exact (h i c hi).1
   ·obtain⟨h0,q,h1,h2⟩:=h i c hi;exact .elc h0 h1 h2
  | tup vs=>exact absurd rfl (hx vs)
  | _=>simp [D.cell] at hc
inductive AV where
 | d (x:D)
 | ref (o i off:Nat)
 | osl (o off len:Nat)
 | acc (o:Nat) (es:List D)
 | pe (o:Nat) (x:D)
 | xsl (es:List D)
 | agg (cs:List AV)
 | tup (vs:List AV)
 | fn (f:FuncId) (caps:List AV)
 | nl (b:Bool)
 | mpr (o:Nat)
 | undef
 deriving Inhabited
def AV.cells:AV->List AV
 | .d x=>x.cells.map .d
 | .agg cs=>cs
 | x=>[x]
def AV.size:AV->Nat
 | .d x=>x.size
 | .agg cs=>cs.length
 | _=>1
def AV.cell:AV->Bool
 | .d x=>x.cell
 | .agg _=>false
 | .tup _=>false
 | .undef=>false
 | _=>true
theorem AV.size_cells(x:AV):x.cells.length=x.size:=by cases x<;>simp [AV.cells,AV.size,D.size]
mutual
def AV.refs(o:Nat):AV->Bool
 | .ref p _ _=>p==o
 | .osl p _ _=>p==o
 | .acc p _=>p==o
 | .pe p _=>p==o
 | .agg cs=>AV.refsL o cs
 | .tup vs=>AV.refsL o vs
 | .fn _ cs=>AV.refsL o cs
 | .d _=>false
 | .xsl _=>false
 | .nl _=>false
 | .mpr p=>p==o
 | .undef=>false
def AV.refsL(o:Nat):List AV->Bool
 | []=>false
 | x::xs=>AV.refs o x||AV.refsL o xs
end
theorem AV.refsL_mem{o:Nat}{x:AV}{xs:List AV}(h:x∈xs)(hx:AV.refs o x=true):AV.refsL o xs=true:=by
 induction xs with
 | nil=>cases h
 | cons y ys ih=>
  simp only[AV.refsL,zZM]
  cases h with
  | head=>exact .inl hx
  | tail _ h=>exact .inr (ih h)
theorem AV.refsL_false{o:Nat}{x:AV}{xs:List AV}(h:x∈xs)(hx:AV.refsL o xs=false):AV.refs o x=false:=by
 cases hh:AV.refs o x with
 | false=>rfl
 | true=>rw[AV.refsL_mem h hh] at hx;cases hx
inductive Obj where
 | row (es:List AV)
 | acc (n:Nat)
 | frz (m:Option Nat)
 | mp (es:List (Int×D))
 deriving Inhabited
def Obj.refs(o:Nat):Obj->Bool
 | .row es=>AV.refsL o es
 | .acc _=>false
 | .frz _=>false
 | .mp _=>false
abbrev zf:=List (Nat×Obj)
abbrev Env:=List (Nat×AV)
structure St where
 env:Env
 heap:zf
def look{α:Type}(k:Nat):List (Nat×α)->Option α
 | []=>none
 | (j,x)::l=>if j=k then some x else look k l
def zeb{α:Type}(k:Nat):List (Nat×α)->List (Nat×α)
 | []=>[]
 | (j,x)::l=>if j=k then zeb k l else (j,x)::zeb k l
def zN{α:Type}(k:Nat)(x:α)(l:List (Nat×α)):List (Nat×α):=(k,x)::zeb k l
theorem zar{α:Type}{k:Nat}{l:List (Nat×α)}{x:α}(h:look k l=some x):(k,x)∈l:=by
 induction l with
 | nil=>cases h
 | cons p l ih=>
  obtain⟨j,y⟩:=p;simp only[look] at h
  split at h
  ·rename_i e;subst e;cases h;exact .head _
  ·exact .tail _ (ih h)
theorem ziT{α:Type}{k:Nat}{l:List (Nat×α)}{p:Nat×α}:p∈zeb k l↔p∈l/\p.1≠k:=by
 induction l with
 | nil=>simp [zeb]
 | cons q l ih=>
  obtain⟨j,y⟩:=q;simp only[zeb]
  by_cases e:j=k
  ·rw[zYQ e,ih];constructor
   ·exact fun⟨a,b⟩=>⟨.tail _ a,b⟩
   ·rintro⟨a,b⟩
    cases a with
    | head=>exact absurd e b
    | tail _ a=>exact⟨a,b⟩
  ·rw[zYP e];constructor
   ·intro h
    cases h with
    | head=>exact⟨.head _,e⟩
    | tail _ h=>exact⟨.tail _ (ih.1 h).1,(ih.1 h).2⟩
   ·rintro⟨a,b⟩
    cases a with
    | head=>exact .head _
    | tail _ a=>exact .tail _ (ih.2 ⟨a,b⟩)
theorem zQS{α:Type}{k j:Nat}{l:List (Nat×α)}(h:j≠k):look j (zeb k l)=look j l:=by
 induction l with
 | nil=>rfl
 | cons p l ih=>
  obtain⟨i,y⟩:=p;simp only[zeb,look]
  by_cases e:i=k
  ·rw[zYQ e,ih,zYP (by omega)]
  ·rw[zYP e,look,ih]
@[simp] theorem zQR{α:Type}{k:Nat}{x:α}{l:List (Nat×α)}:look k (zN k x l)=some x:=by simp [zN,look]
theorem zCj{α:Type}{k j:Nat}{x:α}{l:List (Nat×α)}(h:j≠k):look j (zN k x l)=look j l:=by
 simp only[zN,look];rw[zYP (Ne.symm h),zQS h]
def zaV(o:Nat):Env->Bool
 | []=>false
 | (_,x)::l=>x.refs o||zaV o l
def zam(o:Nat):zf->Bool
 | []=>false
 | (_,x)::l=>x.refs o||zam o l
theorem zmp{o t:Nat}{x:AV}{l:Env}(h:(t,x)∈l)(hx:zaV o l=false):x.refs o=false:=by
 induction l with
 | nil=>cases h
 | cons p l ih=>
  simp only[zaV,z0z] at hx
  cases h with
  | head=>exact hx.1
  | tail _ h=>exact ih h hx.2
theorem zhc{o t:Nat}{x:Obj}{l:zf}(h:(t,x)∈l)(hx:zam o l=false):x.refs o=false:=by
 induction l with
 | nil=>cases h
 | cons p l ih=>
  simp only[zam,z0z] at hx
  cases h with
  | head=>exact hx.1
  | tail _ h=>exact ih h hx.2
def mark(H:zf)(o:Nat):Option Nat:=
 match look o H with
 | some (.acc n)=>some n
 | some (.frz m)=>m
 | _=>none
abbrev Inj:=Nat->Option (Nat×Nat)
inductive VA(w:World)(R:Nat->Prop)(ι:Inj)(mk:Nat->Option Nat):AV->Value->Prop
 | d {x:D} {u:Value} (h:Rd w R (.v x u)):VA w R ι mk (.d x) u
 | ref {o i off b s:Nat} (h:ι o=some (b,s)) (hmk:mk o=none):VA w R ι mk (.ref o i off) (.pointer (some ⟨b,i * s+off,none⟩))
 | osl {o off len cap b s:Nat} {c:Array Value} {T:TypeId} (h:ι o=some (b,s)) (hmk:mk o=none) (hb:w.heap[b]? = some (.cells c T (0,0)))
     (hl:len<=cap) (hc:(off+cap) * s<=c.size) (hL:len<=LIM):VA w R ι mk (.osl o off len) (.slice (some ⟨b,off * s,none⟩) len cap)
 | osl0 {o off:Nat} {a:Option Addr}:VA w R ι mk (.osl o off 0) (.slice a 0 0)
 | accR {o b off s cap:Nat} {es:List D} (hR:R b) (hs:0<s) (hL:es.length<=LIM) (hl:es.length<=cap) (hsz:∀e∈es,e.size=s)
     (h:∀(i:Nat) (e:D),es[i]? = some e->Rd w R (.el e b (off+i * s))) (hm:∀m,mk o=some m->es.length<m):
     VA w R ι mk (.acc o es) (.slice (some ⟨b,off,none⟩) es.length cap)
 | accC {o b s m cap:Nat} {es:List D} {c:Array Value} {T:TypeId} (hι:ι o=some (b,s)) (hmk:mk o=some m) (hm:es.length<=m) (hL:es.length<=LIM) (hl:es.length<=cap)
     (hsz:∀e∈es,e.size=s) (hb:w.heap[b]? = some (.cells c T (0,0))) (hc:cap * s<=c.size)
     (h:∀(i:Nat) (e:D),es[i]? = some e->Rd w R (.el e b (i * s))):VA w R ι mk (.acc o es) (.slice (some ⟨b,0,none⟩) es.length cap)
 | peR {o b off:Nat} {x:D} (hR:R b) (h:Rd w R (.el x b off)):VA w R ι mk (.pe o x) (.pointer (some ⟨b,off,none⟩))
 | peC {o b s m off:Nat} {x:D} {c:Array Value} {T:TypeId} (hι:ι o=some (b,s)) (hmk:mk o=some m) (hb:w.heap[b]? = some (.cells c T (0,0))) (hoff:off+x.size<=m * s)
     (h:Rd w R (.el x b off)):VA w R ι mk (.pe o x) (.pointer (some ⟨b,off,none⟩))
 | acc0 {o:Nat} {a:Option Addr}:VA w R ι mk (.acc o []) (.slice a 0 0)
 | xsl {es:List D} {a:Option Addr} {n:Nat} (h:Rd w R (.v (.sl es) (.slice a n n))):VA w R ι mk (.xsl es) (.slice a n n)
 | agg {cs:List AV} {vs:List Value} (hl:vs.length=cs.length) (hc:∀c∈cs,c.cell=true)
     (h:∀(i:Nat) (c:AV) (u:Value),cs[i]? = some c->vs[i]? = some u->VA w R ι mk c u):VA w R ι mk (.agg cs) (.agg vs.toArray)
 | tup {cs:List AV} {vs:List Value} (hl:vs.length=cs.length)
     (h:∀(i:Nat) (c:AV) (u:Value),cs[i]? = some c->vs[i]? = some u->VA w R ι mk c u):VA w R ι mk (.tup cs) (.tuple vs.toArray)
 | fn {f:FuncId} {cs:List AV} {vs:List Value} (hl:vs.length=cs.length)
     (h:∀(i:Nat) (c:AV) (u:Value),cs[i]? = some c->vs[i]? = some u->VA w R ι mk c u):VA w R ι mk (.fn f cs) (.func (.func f) #[] vs.toArray)
 | nl1 {cap:Nat}:VA w R ι mk (.nl true) (.slice none 0 cap)
 | nl2 {a:Addr} {cap:Nat}:VA w R ι mk (.nl false) (.slice (some a) 0 cap)
 | mpr {o b s:Nat} (h:ι o=some (b,s)) (hmk:mk o=none):VA w R ι mk (.mpr o) (.map (some b))
 | undef {u:Value}:VA w R ι mk .undef u
def Blk(w w':World)(b k:Nat):Prop:=
 ∀(c:Array Value) (T:TypeId),w.heap[b]? = some (.cells c T (0,0))->∃c',w'.heap[b]? = some (.cells c' T (0,0))/\c'.size=c.size/\∀j,j<k->c'[j]? = c[j]?
theorem Blk.of_eq{w w':World}{b k:Nat}(h:w'.heap[b]? = w.heap[b]?):Blk w w' b k:=fun c T hc=>⟨c,by rw[h,hc],rfl,fun _ _=>rfl⟩
theorem Blk.trans{w w' w'':World}{b k:Nat}(h:Blk w w' b k)(h':Blk w' w'' b k):Blk w w'' b k:=fun c T hc=>
 let ⟨c',h1,h2,h3⟩:=h c T hc
 let ⟨c'',h4,h5,h6⟩:=h' c' T h1
 ⟨c'',h4,h5.trans h2,fun j hj=>(h6 j hj).trans (h3 j hj)⟩
theorem Blk.mono{w w':World}{b k k':Nat}(h:Blk w w' b k)(hk:k'<=k):Blk w w' b k':=
 fun c T hc=>let ⟨c',h1,h2,h3⟩:=h c T hc;⟨c',h1,h2,fun j hj=>h3 j (by omega)⟩
theorem zcr{w:World}{b j:Nat}{c:Array Value}{T:TypeId}{fz:Nat×Nat}(h:w.heap[b]? = some (.cells c T fz)):w.cell? ⟨b,j,none⟩=c[j]? := by
 simp [World.cell?,h]
structure Step(w w':World)(ι ι':Inj)(mk mk':Nat->Option Nat)(o:Nat):Prop where
 inj:∀b s,ι o=some (b,s)->ι' o=some (b,s)
 blk:∀b s,ι o=some (b,s)->Blk w w' b ((mk o).getD 0 * s)
 up:∀m,mk o=some m->∃m',mk' o=some m'/\m<=m'
 down:∀m',mk' o=some m'->∃m,mk o=some m/\m<=m'
theorem Step.none{w w':World}{ι ι':Inj}{mk mk':Nat->Option Nat}{o:Nat}(h:Step w w' ι ι' mk mk' o)(hm:mk o=none):mk' o=none:=by
 cases hh:mk' o with
 | none=>rfl
 | some m'=>obtain⟨m,h1,_⟩:=h.down m' hh;rw[hm] at h1;cases h1
theorem Step.same{w w':World}{ι:Inj}{mk:Nat->Option Nat}{o:Nat}(h:∀b s,ι o=some (b,s)->w'.heap[b]? = w.heap[b]?):Step w w' ι ι mk mk o:=
 ⟨fun _ _ h=>h,fun b s hh=>Blk.of_eq (h b s hh),fun m h=>⟨m,h,zZk _⟩,fun m h=>⟨m,h,zZk _⟩⟩
theorem Rd.el_blk {w w':World} {R R':Nat->Prop} {x:D} {b off s k:Nat} (h:Rd w R (.el x b off)) (hR:∀b,R b->R' b) (hw:zbM R w w') (hb:Blk w w' b k)
    {c:Array Value} {T:TypeId} (hc:w.heap[b]? = some (.cells c T (0,0))) (hs:x.size=s) (hk:off+s<=k):Rd w' R' (.el x b off):=by
 refine h.mono hR hw fun j hj=> ?_;obtain⟨c',h1,_,h3⟩:=hb c T hc;rw[zcr h1,zcr hc,h3 _ (by omega)]
theorem VA.mono {w w':World} {R R':Nat->Prop} {ι ι':Inj} {mk mk':Nat->Option Nat} {x:AV} {u:Value} (h:VA w R ι mk x u) (hR:∀b,R b->R' b) (hw:zbM R w w')
    (hs:∀o,x.refs o=true->Step w w' ι ι' mk mk' o):VA w' R' ι' mk' x u:=by
 induction h with
 | d h=>exact .d (h.mono_v hR hw)
 | @ref o _ _ _ _ h hmk=>exact .ref ((hs o (by simp [AV.refs])).inj _ _ h) ((hs o (by simp [AV.refs])).none hmk)
 | @osl o _ _ _ _ _ _ _ h hmk hb hl hc hL=>
  have st:=hs o (by simp [AV.refs]);obtain⟨c',h1,h2,_⟩:=st.blk _ _ h _ _ hb;exact .osl (st.inj _ _ h) (st.none hmk) h1 hl (by omega) hL
 | osl0=>exact .osl0
 | @accR o _ _ _ _ _ hr hs' hL hl hsz h hm=>
  have st:=hs o (by simp [AV.refs]);refine .accR (hR _ hr) hs' hL hl hsz (fun i e hi=>(h i e hi).mono hR hw fun j _=>World.cell?_of_block (hw _ hr)) fun m' hm'=> ?_;obtain⟨m,h1,h2⟩:=st.down _ hm';have:=hm m h1;omega
 | @accC o b s m cap es c T hι hmk hm hL hl hsz hb hc h=>
  have st:=hs o (by simp [AV.refs]);obtain⟨m',h1,h2⟩:=st.up _ hmk;have hbk:=st.blk _ _ hι;rw[hmk] at hbk;obtain⟨c',h3,h4,_⟩:=hbk _ _ hb;refine .accC (st.inj _ _ hι) h1 (zZG hm h2) hL hl hsz h3 (by omega) fun i e hi=> ?_;have hlt:i<es.length:=(zY7.1 hi).1;refine (h i e hi).el_blk hR hw hbk hb (hsz e (zZf hi)) ?_;simp only[z0s]
  calc i * s+s=(i+1) * s:=by rw[zZ2]
   _<=m * s:=zZy _ (by omega)
 | acc0=>exact .acc0
 | peR hr h=>exact .peR (hR _ hr) (h.mono hR hw fun j _=>World.cell?_of_block (hw _ hr))
 | @peC o b s m off x c T hι hmk hb hoff h=>
  have st:=hs o (by simp [AV.refs]);obtain⟨m',h1,h2⟩:=st.up _ hmk;have hbk:=st.blk _ _ hι;rw[hmk] at hbk;obtain⟨c',h3,h4,_⟩:=hbk _ _ hb;exact .peC (st.inj _ _ hι) h1 h3 (zZG hoff (zZy _ h2)) (h.el_blk hR hw hbk hb rfl hoff)
 | xsl h=>exact .xsl (h.mono_v hR hw)
 | agg hl hc _ ih=>exact .agg hl hc fun i c u h1 h2=>ih i c u h1 h2 fun o ho=>hs o (AV.refsL_mem (zZf h1) ho)
 | tup hl _ ih=>exact .tup hl fun i c u h1 h2=>ih i c u h1 h2 fun o ho=>hs o (AV.refsL_mem (zZf h1) ho)
 | fn hl _ ih=>exact .fn hl fun i c u h1 h2=>ih i c u h1 h2 fun o ho=>hs o (AV.refsL_mem (zZf h1) ho)
 | nl1=>exact .nl1
 | nl2=>exact .nl2
 | @mpr o _ _ h hmk=>exact .mpr ((hs o (by simp [AV.refs])).inj _ _ h) ((hs o (by simp [AV.refs])).none hmk)
 | undef=>exact .undef
inductive OB(w:World)(R:Nat->Prop)(ι:Inj)(mk:Nat->Option Nat)(o:Nat):Obj->Prop
 | row {es:List AV} {b s:Nat} {c:Array Value} {T:TypeId} (hι:ι o=some (b,s)) (hR:¬R b) (hb:w.heap[b]? = some (.cells c T (0,0))) (hs:0<s)
     (hsz:∀e∈es,e.size=s) (hc:es.length * s<=c.size)
     (h:∀(i:Nat) (e:AV),es[i]? = some e->∀(j:Nat) (x:AV),e.cells[j]? = some x->x.cell=true/\∃q,c[i * s+j]? = some q/\VA w R ι mk x q):OB w R ι mk o (.row es)
 | acc {n b s:Nat} {c:Array Value} {T:TypeId} (hpos:0<n) (hι:ι o=some (b,s)) (hR:¬R b) (hb:w.heap[b]? = some (.cells c T (0,0))) (hs:0<s) (hc:n * s<=c.size):OB w R ι mk o (.acc n)
 | accN {n:Nat} (hι:ι o=none):OB w R ι mk o (.acc n)
 /-- An object that is data from now on. -/
 | frz {m:Option Nat} (h:∀b s,ι o=some (b,s)->R b/\0<s):OB w R ι mk o (.frz m)
 | mp {es:List (Int×D)} {b s ck:Nat} {l:Array MapEntry} (hι:ι o=some (b,s)) (hR:¬R b) (hb:w.heap[b]? = some (.map l ck)) (hs:0<s)
     (hl:l.size=es.length) (h:∀(i:Nat) (k:Int) (x:D),es[i]? = some (k,x)->∃e,l[i]? = some e/\e.key= .int .i64 k/\Rd w R (.v x e.val)):OB w R ι mk o (.mp es)
structure Ctx where
 w0:World
 keep:Nat->Prop
 R0:Nat->Prop
 n:Nat
 gh:List Value
 le:n<=1000000
def zeC(C:Ctx)(a:Act)(t:Nat):Option Value:=if t<1000000 then a.tmps[t]? else C.gh[t - 1000000]?
structure Rel(C:Ctx)(S:St)(a:Act)(w:World)(ι:Inj)(R:Nat->Prop):Prop where
 defers:a.defers=[]
 size:a.tmps.size=C.n
 os:w.os=C.w0.os
 tape:w.tape=C.w0.tape
 output:w.output=C.w0.output
 grow:C.w0.heap.size<=w.heap.size
 len:∀b,b<C.w0.heap.size->Blk C.w0 w b 0
 keep:∀b,C.keep b->w.heap[b]? = C.w0.heap[b]?
 keepLt:∀b,C.keep b->b<C.w0.heap.size
 rlt:∀b,R b->b<w.heap.size
 rok:∀b,R b->C.R0 b\/¬C.keep b
 r0:∀b,C.R0 b->R b
 own:∀o b s,ι o=some (b,s)->¬C.keep b/\b<w.heap.size
 inj:∀o o' b s s',ι o=some (b,s)->ι o'=some (b,s')->o=o'
 env:∀t x,(t,x)∈S.env->∃u,zeC C a t=some u/\VA w R ι (mark S.heap) x u
 heap:∀o ob,(o,ob)∈S.heap->OB w R ι (mark S.heap) o ob
theorem AV.cells_refs{o:Nat}{e x:AV}{j:Nat}(h:e.cells[j]? = some x)(hx:x.refs o=true):e.refs o=true:=by
 cases e with
 | agg cs=>exact AV.refsL_mem (zZf h) hx
 | d y=>
  simp only[AV.cells] at h;rw[zZa] at h
  cases hh:y.cells[j]? with
  | none=>simp [hh] at h
  | some z=>simp [hh] at h;subst h;simp [AV.refs] at hx
 | _=>
  simp only[AV.cells] at h
  match j,h with
  | 0,h=>simp at h;subst h;exact hx
  | n+1,h=>simp at h
theorem OB.mono {w w':World} {R R':Nat->Prop} {ι ι':Inj} {mk mk':Nat->Option Nat} {o:Nat} {ob:Obj} (h:OB w R ι mk o ob) (hR:∀b,R b->R' b) (hw:zbM R w w')
    (hb:∀b s,ι o=some (b,s)->ι' o=some (b,s)/\w'.heap[b]? = w.heap[b]? /\ (R' b->R b)) (h0:ι o=none->ι' o=none)
    (hs:∀p,ob.refs p=true->Step w w' ι ι' mk mk' p):OB w' R' ι' mk' o ob:=by
 cases h with
 | row hι hr hb' hs' hsz hc h=>
  obtain⟨h1,h2,h3⟩:=hb _ _ hι;refine .row h1 (fun k=>hr (h3 k)) (by rw[h2];exact hb') hs' hsz hc fun i e hi j x hj=> ?_;obtain⟨k1,q,k2,k3⟩:=h i e hi j x hj;exact⟨k1,q,k2,k3.mono hR hw fun p hp=>hs p (AV.refsL_mem (zZf hi) (AV.cells_refs hj hp))⟩
 | acc hpos hι hr hb' hs' hc=>
  obtain⟨h1,h2,h3⟩:=hb _ _ hι;exact .acc hpos h1 (fun k=>hr (h3 k)) (by rw[h2];exact hb') hs' hc
 | accN hι=>exact .accN (h0 hι)
 | frz h=>
  refine .frz fun b s hb'=> ?_
  cases hι:ι o with
  | none=>rw[h0 hι] at hb';cases hb'
  | some p=>obtain⟨b0,s0⟩:=p;rw[(hb _ _ hι).1] at hb';cases hb';exact⟨hR _ (h _ _ hι).1,(h _ _ hι).2⟩
 | mp hι hr hb' hs' hl h=>
  obtain⟨h1,h2,h3⟩:=hb _ _ hι;refine .mp h1 (fun k=>hr (h3 k)) (by rw[h2];exact hb') hs' hl fun i k x hi=> ?_;obtain⟨e,k1,k2,k3⟩:=h i k x hi;exact⟨e,k1,k2,k3.mono_v hR hw⟩
inductive Opd where
 | t (n:Nat)
 | c (x:AV)
def Opd.ev(E:Env):Opd->AV
 | .t n=>(look n E).getD .undef
 | .c x=>x
inductive AOp where
 | mv (x:Opd)
 | pick (c a b:Opd)
 | alloc (z:AV)
 | box (x:Opd)
 | build (z:List AV) (ps:List (Nat×Nat×Opd))
 | bsl (len n:Nat) (z:AV) (ps:List (Nat×Opd))
 | ld (ag:Bool) (n:Nat) (p:Opd)
 | st (n:Nat) (p x:Opd)
 | nilc (x:Opd)
 | bin (op:BinOp) (x y:Opd)
 | eqb (ng:Bool) (x y:Opd)
 | eqs (ng:Bool) (n:Nat) (ls:List (Nat×Nat)) (x y:Opd)
 | nacc
 | un (op:UnOp) (x:Opd)
 | cvi (k:IntKind) (x:Opd)
 | s2b (x:Opd)
 | b2s (x:Opd)
 | mkfn (f:FuncId) (cs:List Opd)
 | fad (ag:Bool) (off n:Nat) (x:Opd)
 | fld (ag:Bool) (off n:Nat) (x:Opd)
 | iad (n:Nat) (x i:Opd)
 | iada (ag:Bool) (len n:Nat) (x i:Opd)
 | idx (x i:Opd)
 | idxa (ag:Bool) (len n:Nat) (x i:Opd)
 | slc (n:Nat) (x:Opd) (lo hi mx:Option Opd)
 | sls (x:Opd) (lo hi:Option Opd)
 | ext (x:Opd) (i:Nat)
 | len (x:Opd)
 | lens (x:Opd)
 | app (n:Nat) (x y:Opd)
 | apps (x y:Opd)
 | clr (n:Nat) (x:Opd)
 | mm (mx:Bool) (xs:List Opd)
 | mks (n:Nat) (z:AV) (l c:Opd)
 | nileq (ng:Bool) (x:Opd)
 | call (f:FuncId) (ms:List Bool) (xs:List Opd)
 | callv (f:Opd) (ms:List Bool) (xs:List Opd)
 | atl (p:Opd)
 | ats (p x:Opd)
 | atc (p x y:Opd)
 | mkm
 | lkp (ok:Bool) (z:D) (x k:Opd)
 | mup (x k v:Opd)
structure zC where
 dst:Option Nat
 op:AOp
 guard:Option (Nat×Bool)
def zbq:List AV->Option (List D)
 | []=>some []
 | .d x::l=>(zbq l).map (x:: ·)
 | _=>none
def AV.mkAgg(cs:List AV):AV:=match zbq cs with|some ds=> .d (.agg ds)|none=> .agg cs
def AV.mkTup(cs:List AV):AV:=match zbq cs with|some ds=> .d (.tup ds)|none=> .tup cs
def AV.mkFn(f:FuncId)(cs:List AV):AV:=match zbq cs with|some ds=> .d (.fn f ds)|none=> .fn f cs
def zhv:Value->Option AV
 | .int k n=>if k.min<=n/\n<=k.max then some (.d (.int k n)) else none
 | .bool b=>some (.d (.bool b))
 | .string s=>if s.data.toList.length<=LIM then some (.d (.str s.data.toList)) else none
 | .slice none 0 0=>some (.xsl [])
 | v=>if zoQ v=true then some (.d .nil) else none
def zfN:Value->Option AV
 | .agg cs=>(cs.toList.mapM zhv).map AV.mkAgg
 | v=>zhv v
def opd:Operand->Option Opd
 | .tmp t=>if t<1000000 then some (.t t) else none
 | .const v=>if zoQ v then some (.c .undef) else (zfN v).map .c
 | .global _=>none
 | .func f=>some (.c (.d (.fn f [])))
def zbi(P:Program)(t:TypeId):Option Bool:=
 match P.underlying t with
 | some (.struct _)=>some true
 | some (.array _ _)=>some true
 | some _=>some false
 | none=>none
def zaM(P:Program)(t:TypeId):Option Nat:=(P.info? t).map (·.size)
def zct(P:Program)(t:TypeId):Option AV:=((P.info? t).bind (·.zero)).bind zfN
def zdG(P:Program)(f:FuncId):Bool:=match P.funcs[f]? with|some fn=>fn.body.isSome&& !(fn.name== "runtime.NumGoroutine")|none=>false
def zm0(P:Program)(f:FuncId):Nat:=
 match P.funcs[f]? with
 | some fn=>if fn.body.isNone&&fn.origin== "" then (if fn.name== "sync/atomic.LoadInt64" then 1 else if fn.name== "sync/atomic.StoreInt64" then 2 else if fn.name== "sync/atomic.CompareAndSwapInt64" then 3 else 0) else 0
 | none=>0
def zjr:Nat->List Opd->Option AOp
 | 1,[p]=>some (.atl p)
 | 2,[p,x]=>some (.ats p x)
 | 3,[p,x,y]=>some (.atc p x y)
 | _,_=>none
def ziN(P:Program)(n:Nat)(g:TypeId->Nat->Option (List (Nat×Nat)))(off:Nat):List Field->Option (List (Nat×Nat))
 | []=>some []
 | f::fs=>match zaM P f.type with
  | some m=>if f.name≠ "_" /\ f.offset+m<=n/\m≠0 then (g f.type (off+f.offset)).bind fun l1=>(ziN P n g off fs).map (l1++ ·) else none
  | none=>none
def zj9(m:Nat)(g:Nat->Option (List (Nat×Nat)))(off:Nat):Nat->Option (List (Nat×Nat))
 | 0=>some []
 | k+1=>(g off).bind fun l1=>(zj9 m g (off+m) k).map (l1++ ·)
def zes(P:Program):Nat->TypeId->Nat->Option (List (Nat×Nat))
 | 0,_,_=>none
 | d+1,t,off=>
  match P.underlying t with
  | some .bool=>some [(off,1)]
  | some (.int _)=>some [(off,0)]
  | some .string=>some [(off,2)]
  | some (.struct fs)=>match zaM P t with|some n=>if P.stoodInHeld t then none else ziN P n (zes P d) off fs.toList|none=>none
  | some (.array len e)=>match zaM P t,zaM P e with|some n,some m=>if m=0\/len * m≠n then none else zj9 m (zes P d e) off len|_,_=>none
  | _=>none
def zrz:Operand->Bool
 | .const (.slice none _ _)=>true
 | _=>false
def zaa(P:Program)(o:Op):Option AOp:=
 match o with
 | .move x| .assign x=>(opd x).map .mv
 | .pick c a b=>do pure (.pick (<- opd c) (<- opd a) (<- opd b))
 | .alloc t=>do
  let z <- zct P t
  if z.size=0 then none else pure (.alloc z)
 | .box _ x=>(opd x).map .box
 | .load t p=>do
  let n <- zaM P t
  if n=0 then none else pure (.ld (<- zbi P t) n (<- opd p))
 | .store t p x=>do
  let n <- zaM P t
  if n=0 then none else pure (.st n (<- opd p) (<- opd x))
 | .nilCheck x=>(opd x).map .nilc
 | .binOp op t x y _=>
  match P.underlying t with
  | some (.int _)|some .string=>do pure (.bin op (<- opd x) (<- opd y))
  | some .bool=>
   match op with
   | .eql=>do pure (.eqb false (<- opd x) (<- opd y))
   | .neq=>do pure (.eqb true (<- opd x) (<- opd y))
   | _=>none
  | some (.struct _)|some (.array _ _)=>
   match zes P 9 t 0,zaM P t with
   | some ls,some n=>if P.eqGuardType P.depth t=true\/n=0 then none else
    match op with
    | .eql=>do pure (.eqs false n ls (<- opd x) (<- opd y))
    | .neq=>do pure (.eqs true n ls (<- opd x) (<- opd y))
    | _=>none
   | _,_=>none
  | some (.slice _)=>
   if zrz y then
    match op with
    | .eql=>(opd x).map (.nileq false)
    | .neq=>(opd x).map (.nileq true)
    | _=>none
   else none
  | _=>none
 | .unOp op _ x=>(opd x).map (.un op)
 | .convert s t x=>
  match P.underlying s,P.underlying t with
  | some (.int _),some (.int k)=>(opd x).map (.cvi k)
  | some .string,some (.slice e)=>if P.underlying e matches some (.int .u8) then (opd x).map .s2b else none
  | some (.slice e),some .string=>if P.underlying e matches some (.int .u8) then (opd x).map .b2s else none
  | _,_=>none
 | .makeFunc (.func f) first cs=>if first.size=0 then do pure (.mkfn f (<- cs.toList.mapM opd)) else none
 | .fieldAddr t x f=>
  match P.underlying t with
  | some (.struct fs)=>do
   let fd <- fs[f]?
   let n <- zaM P fd.type
   if n=0 then none else pure (.fad (<- zbi P fd.type) fd.offset n (<- opd x))
  | _=>none
 | .field t x f=>
  match P.underlying t with
  | some (.struct fs)=>do
   let fd <- fs[f]?
   let n <- zaM P fd.type
   if n=0 then none else pure (.fld (<- zbi P fd.type) fd.offset n (<- opd x))
  | _=>none
 | .indexAddr t x i=>
  match P.underlying t with
  | some (.slice e)=>do
   let n <- zaM P e
   if n=0 then none else pure (.iad n (<- opd x) (<- opd i))
  | some (.array len e)=>do
   let n <- zaM P e
   if n=0 then none else pure (.iada (<- zbi P e) len n (<- opd x) (<- opd i))
  | _=>none
 | .index t x i=>
  match P.underlying t with
  | some .string=>do pure (.idx (<- opd x) (<- opd i))
  | some (.array len e)=>do
   let n <- zaM P e
   if n=0 then none else pure (.idxa (<- zbi P e) len n (<- opd x) (<- opd i))
  | _=>none
 | .slice t x lo hi mx=>
  match P.underlying t with
  | some (.slice e)=>do
   let n <- zaM P e
   if n=0 then none else pure (.slc n (<- opd x) (<- lo.mapM opd) (<- hi.mapM opd) (<- mx.mapM opd))
  | some .string=>do
   if mx.isSome then none else pure (.sls (<- opd x) (<- lo.mapM opd) (<- hi.mapM opd))
  | _=>none
 | .extract x i=>do pure (.ext (<- opd x) i)
 | .build t ps=>
  match P.underlying t with
  | some (.struct fs)=>do
   let z <- zct P t
   let _ <- fs.toList.mapM fun f=>zaM P f.type
   let qs <- ps.toList.mapM fun p=>do
    let fd <- fs[p.1]?
    let n <- zaM P fd.type
    pure (fd.offset,n, <- opd p.2)
   pure (.build z.cells qs)
  | some (.array _ e)=>do
   let z <- zct P t
   let n <- zaM P e
   let qs <- ps.toList.mapM fun p=>do pure (p.1 * n,n, <- opd p.2)
   pure (.build z.cells qs)
  | _=>none
 | .buildSlice t len ps=>
  match P.underlying t with
  | some (.slice e)=>do
   let n <- zaM P e
   let z <- zct P e
   let qs <- ps.toList.mapM fun p=>do pure (p.1, <- opd p.2)
   if n=0\/16777216<len * n then none else pure (.bsl len n z qs)
  | _=>none
 | .makeSlice t l c=>
  match P.underlying t with
  | some (.slice e)=>do
   let n <- zaM P e
   let i <- P.info? e
   let z <- zct P e
   if n=0\/32768<i.bytes then none else pure (.mks n z (<- opd l) (<- opd c))
  | _=>none
 | .call c=>
  match c.callee with
  | .value (.func f)=>if zdG P f then do pure (.call f [] (<- c.args.toList.mapM opd)) else do zjr (zm0 P f) (<- c.args.toList.mapM opd)
  | .value (.tmp t)=>if t<1000000 then do pure (.callv (.t t) [] (<- c.args.toList.mapM opd)) else none
  | .builtin .len=>
   match (c.argTypes[0]?).bind P.underlying,c.args.toList with
   | some .string,[x]=>(opd x).map .lens
   | some (.slice _),[x]=>(opd x).map .len
   | _,_=>none
  | .builtin .append=>
   match (c.argTypes[0]?).bind P.underlying,(c.argTypes[1]?).bind P.underlying,c.args.toList with
   | some (.slice e),some (.slice _),[x,y]=>do
    let n <- zaM P e
    let i <- P.info? e
    let z <- zct P e
    if n=0\/z.size≠n\/32768<i.bytes then none else pure (.app n (<- opd x) (<- opd y))
   | some (.slice e),some .string,[x,y]=>do
    let n <- zaM P e
    let i <- P.info? e
    let z <- zct P e
    if n≠1\/z.size≠n\/32768<i.bytes then none else pure (.apps (<- opd x) (<- opd y))
   | _,_,_=>none
  | .builtin .clear=>
   match (c.argTypes[0]?).bind P.underlying,c.args.toList with
   | some (.slice e),[x]=>do
    let n <- zaM P e
    let z <- zct P e
    if n=0\/z.size≠n then none else pure (.clr n (<- opd x))
   | _,_=>none
  | .builtin .min=>do pure (.mm false (<- c.args.toList.mapM opd))
  | .builtin .max=>do pure (.mm true (<- c.args.toList.mapM opd))
  | _=>none
 | .makeMap t r=>
  match P.underlying t,r with
  | some (.map k _),none=>if P.underlying k matches some (.int .i64) then some .mkm else none
  | _,_=>none
 | .lookup t x i ok=>
  match P.underlying t with
  | some (.map k e)=>match P.underlying k,zct P e with
   | some (.int .i64),some (.d z)=>do pure (.lkp ok z (<- opd x) (<- opd i))
   | _,_=>none
  | _=>none
 | .mapUpdate t x i v=>
  match P.underlying t with
  | some (.map k _)=>if P.underlying k matches some (.int .i64) then do pure (.mup (<- opd x) (<- opd i) (<- opd v)) else none
  | _=>none
 | _=>none
def zcN(op:BinOp)(k:IntKind)(a b:Int):Option D:=
 match op with
 | .add=>some (.int k (k.wrap (a+b)))
 | .sub=>some (.int k (k.wrap (a - b)))
 | .mul=>some (.int k (k.wrap (a * b)))
 | .quo=>if b=0 then none else some (.int k (k.wrap (a.tdiv b)))
 | .rem=>if b=0 then none else some (.int k (a.tmod b))
 | .and=>some (.int k (k.wrap (BitVec.ofInt k.bits a &&& BitVec.ofInt k.bits b).toNat))
 | .or=>some (.int k (k.wrap (BitVec.ofInt k.bits a ||| BitVec.ofInt k.bits b).toNat))
 | .xor=>some (.int k (k.wrap (BitVec.ofInt k.bits a ^^^ BitVec.ofInt k.bits b).toNat))
 | .andNot=>some (.int k (k.wrap (BitVec.ofInt k.bits a &&& ~~~BitVec.ofInt k.bits b).toNat))
 | .eql=>some (.bool (decide (a=b)))
 | .neq=>some (.bool (!decide (a=b)))
 | .lss=>some (.bool (decide (a<b)))
 | .leq=>some (.bool (decide (a<=b)))
 | .gtr=>some (.bool (decide (b<a)))
 | .geq=>some (.bool (decide (b<=a)))
 | _=>none
def zkK(op:BinOp)(k:IntKind)(a b:Int):Option D:=
 if b<0 then none else
 match op with
 | .shl=>some (.int k (k.wrap (a * 2 ^ (min b.toNat k.bits))))
 | .shr=>some (.int k (a.fdiv (2 ^ (min b.toNat k.bits))))
 | _=>none
def zmI(op:BinOp)(a b:List UInt8):Option D:=
 match op with
 | .add=>if (a++b).length<=LIM then some (.str (a++b)) else none
 | .eql=>some (.bool (decide (a=b)))
 | .neq=>some (.bool (!decide (a=b)))
 | _=>none
def zgQ(op:BinOp):D->D->Option D
 | .int k a,.int k' b=>
  match op with
  | .shl=>zkK .shl k a b
  | .shr=>zkK .shr k a b
  | op=>if k=k' then zcN op k a b else none
 | .str a,.str b=>zmI op a b
 | _,_=>none
def D.asAgg:D->D
 | .agg cs=> .agg cs
 | x=> .agg [x]
def zb9(ag:Bool)(off n:Nat)(x:D):Option D:=
 if ag then
  if off=0/\n=x.size then some x.asAgg
  else if off+n<=x.size then some (.agg ((x.cells.drop off).take n)) else none
 else if n=1 then x.cells[off]? else none
def zdX(ag:Bool)(off n:Nat)(x:AV):Option AV:=
 match x with
 | .d x=>(zb9 ag off n x).map .d
 | x=>
  if ag then
   if off+n<=x.size then some (AV.mkAgg ((x.cells.drop off).take n)) else none
  else if n=1 then x.cells[off]? else none
def zfB{α:Type}(l:List α)(off:Nat)(m:List α):List α:=l.take off++m++l.drop (off+m.length)
def zbX:AV->Bool
 | .d (.tup _)=>true
 | .tup _=>true
 | .undef=>true
 | _=>false
def zds(x:AV)(off:Nat)(v:AV):Option AV:=
 if off=0/\v.size=x.size then some v
 else if off+v.size<=x.size then some (AV.mkAgg (zfB x.cells off v.cells)) else none
def slD:AV->Option (List D)
 | .d (.sl es)=>some es
 | .xsl es=>some es
 | .acc _ es=>some es
 | _=>none
def toD(H:zf):AV->Option D
 | .d x=>some x
 | .xsl es=>some (.sl es)
 | .acc _ es=>some (.sl es)
 | .osl o off len=>
  match look o H with
  | some (.row es)=>(zbq ((es.drop off).take len)).bind fun ds=>if ds.length=len then some (.sl ds) else none
  | _=>none
 | .agg cs=>(toDs H cs).map .agg
 | .tup cs=>(toDs H cs).map .tup
 | .fn f cs=>(toDs H cs).map (.fn f)
 | .ref o i 0=>
  match look o H with
  | some (.row es)=>(es[i]?).bind fun e=>match e with| .d x=>some (.pd x)|_=>none
  | _=>none
 | _=>none
where toDs (H:zf):List AV->Option (List D)
 | []=>some []
 | x::xs=>match toD H x,toDs H xs with|some y,some ys=>some (y::ys)|_,_=>none
mutual
def AV.objs:AV->List Nat
 | .ref o _ _=>[o]
 | .osl o _ _=>[o]
 | .acc o _=>[o]
 | .pe o _=>[o]
 | .mpr o=>[o]
 | .agg cs=>AV.objsL cs
 | .tup cs=>AV.objsL cs
 | .fn _ cs=>AV.objsL cs
 | _=>[]
def AV.objsL:List AV->List Nat
 | []=>[]
 | x::xs=>AV.objs x++AV.objsL xs
end
def zbz(z:List AV):List (Nat×Nat×AV)->Option (List AV)
 | []=>some z
 | (off,n,v)::rest=>if v.size=n/\off+n<=z.length/\zbX v=false then zbz (zfB z off v.cells) rest else none
def zjh:AV->AV
 | .xsl es=> .d (.sl es)
 | .d x=> .d x
 | .ref o i off=> .ref o i off
 | .osl o off len=> .osl o off len
 | .acc o es=> .acc o es
 | .pe o x=> .pe o x
 | .agg cs=> .agg cs
 | .tup vs=> .tup vs
 | .fn f cs=> .fn f cs
 | .nl b=> .nl b
 | .mpr o=> .mpr o
 | .undef=> .undef
def zmN:List AV->List AV
 | []=>[]
 | x::xs=>zjh x::zmN xs
theorem zmO:∀xs:List AV,zmN xs=xs.map zjh
 | []=>rfl
 | x::xs=>by simp [zmN,zmO xs]
theorem zt7:∀ {cs:List AV} {ds:List D},zbq cs=some ds->ds.length=cs.length
 | [],ds,h=>by simp only[zbq,Option.some.injEq] at h;subst h;rfl
 | .d x::l,ds,h=>by
  simp only[zbq,zYT] at h;obtain⟨a,h1,rfl⟩:=h;simp [zt7 h1]
 | .ref .. :: _,_,h| .osl .. :: _,_,h| .acc .. :: _,_,h| .pe .. :: _,_,h| .xsl _::_,_,h| .agg _::_,_,h| .tup _::_,_,h| .fn .. :: _,_,h| .nl _::_,_,h| .mpr _::_,_,h| .undef::_,_,h=>by simp [zbq] at h
theorem zRr(cs:List AV):(AV.mkAgg cs).size=cs.length:=by
 unfold AV.mkAgg
 split
 ·rename_i ds h;simp [AV.size,D.size,D.cells,zt7 h]
 ·rfl
def unX:AV->AV
 | .xsl es=> .d (.sl es)
 | .d x=> .d x
 | .ref o i off=> .ref o i off
 | .osl o off len=> .osl o off len
 | .acc o es=> .acc o es
 | .pe o x=> .pe o x
 | .agg cs=>AV.mkAgg (zmN cs)
 | .tup vs=> .tup vs
 | .fn f cs=> .fn f cs
 | .nl b=> .nl b
 | .mpr o=> .mpr o
 | .undef=> .undef
theorem zEp(v:AV):(unX v).size=v.size:=by
 cases v with
 | agg cs=>simp only[unX,zRr,zmO,zY3];rfl
 | _=>rfl
theorem zX7{v:AV}(h:zbX v=false):zbX (unX v)=false:=by
 cases v with
 | agg cs=>simp only[unX,AV.mkAgg];split<;>rfl
 | _=>simp_all [unX,zbX]
def zeo(z:List AV):List (Nat×AV)->Option (List AV)
 | []=>some z
 | (i,v)::rest=>if i<z.length/\zbX v=false then zeo (z.set i (unX v)) rest else none
def zbC:AV->Option Int
 | .d (.int _ n)=>some n
 | _=>none
def zcq(x:Option AV)(dflt y:Nat):Option Nat:=
 match x with
 | none=>some dflt
 | some v=>(zbC v).bind fun n=>if 0<=n/\n<=y then some n.toNat else none
def zgh:List D->Option (List UInt8)
 | []=>some []
 | .int .u8 n::l=>(zgh l).map (UInt8.ofNat n.toNat:: ·)
 | _=>none
def mmD(mx:Bool):AV->List AV->Option AV
 | x,[]=>some x
 | .d (.int k a),.d (.int k' b)::r=>if k=k' then mmD mx (.d (.int k (if mx then (if a<b then b else a) else (if b<a then b else a)))) r else none
 | _,_=>none
def ldA(H:zf)(ag:Bool)(n:Nat):AV->Option AV
 | .d (.pd x)=>(zb9 ag 0 n x).map .d
 | .pe _ x=>(zb9 ag 0 n x).map .d
 | .ref o i off=>
  match look o H with
  | some (.row es)=>(es[i]?).bind (zdX ag off n)
  | _=>none
 | _=>none
def zem(ag:Bool)(off n:Nat):AV->Option AV
 | .ref o i f=>some (.ref o i (f+off))
 | .d (.pd y)=>(zb9 ag off n y).map fun z=> .d (.pd z)
 | .pe o y=>(zb9 ag off n y).map fun z=> .pe o z
 | _=>none
def zcM(H:zf)(n:Nat)(i:Int):AV->Option AV
 | .osl o off len=>if i<len then
     match look o H with
     | some (.row es)=>(es[off+i.toNat]?).bind fun e=>if e.size=n then some (.ref o (off+i.toNat) 0) else none
     | _=>none
     else none
 | .acc o es=>(es[i.toNat]?).bind fun e=>if e.size=n then some (.pe o e) else none
 | .d (.sl es)=>(es[i.toNat]?).bind fun e=>if e.size=n then some (.d (.pd e)) else none
 | .xsl es=>(es[i.toNat]?).bind fun e=>if e.size=n then some (.d (.pd e)) else none
 | _=>none
def zap(n:Nat)(es:List D):Bool:=es.all fun e=>e.size==n
def zcn(H:zf)(n:Nat)(lo hi mx:Option AV):AV->Option AV
 | .d (.sl es)=>
  if zap n es then
   (zcq hi es.length es.length).bind fun h=>(zcq lo 0 h).bind fun l=>
    match mx with
    | none=>some (.d (.sl ((es.take h).drop l)))
    | some m=>if zbC m=some (h:Int)/\hi.isSome then some (.xsl ((es.take h).drop l)) else none
  else none
 | .xsl es=>
  if zap n es then
   (zcq hi es.length es.length).bind fun h=>(zcq lo 0 h).bind fun l=>
    match mx with
    | none=>some (if h=es.length then .xsl ((es.take h).drop l) else .d (.sl ((es.take h).drop l)))
    | some m=>if zbC m=some (h:Int)/\hi.isSome then some (.xsl ((es.take h).drop l)) else none
  else none
 | .acc o es=>
  if zap n es then
   (zcq hi es.length es.length).bind fun h=>(zcq lo 0 h).bind fun l=>
    if l=0 then
     match mx with
     | none=>some (.acc o (es.take h))
     | some m=>if zbC m=some (h:Int)/\hi.isSome then some (.acc o (es.take h)) else none
    else none
  else none
 | .osl o off len=>
  match mx with
  | none=>(zcq hi len len).bind fun h=>(zcq lo 0 h).bind fun l=>
   match look o H with
   | some (.row es)=>if l=0\/es.head?.map AV.size=some n then some (.osl o (off+l) (h - l)) else none
   | _=>none
  | some _=>none
 | _=>none
def zdg(H:zf):AV->Option (List D)
 | .osl o off len=>
  match look o H with
  | some (.row es)=>(zbq ((es.drop off).take len)).bind fun ds=>if ds.length=len then some ds else none
  | _=>none
 | .nl _=>some []
 | y=>slD y
def zcj(E:Env)(H:zf)(dst n:Nat)(ys:List D):AV->Option (AV×zf)
 | .xsl es=>if (ys.isEmpty&& !es.isEmpty)=true then (if zap n es=true then some (.xsl es,H) else none) else if zap n (es++ys)/\(es++ys).length<=LIM/\zaV dst E=false/\zam dst H=false then some (.acc dst (es++ys),zN dst (.acc (es.length+ys.length)) H) else none
 | .acc o es=>match look o H with
  | some (.acc m)=>if es.length=m/\zap n (es++ys)/\(es++ys).length<=LIM then some (.acc o (es++ys),zN o (.acc (m+ys.length)) H) else none
  | _=>none
 | _=>none
def zhD:Nat->Option D->Option D->Option Bool
 | 0,some (.int k x),some (.int k' y)=>if k=k' then some (decide (x=y)) else none
 | 1,some (.bool x),some (.bool y)=>some (x==y)
 | 2,some (.str x),some (.str y)=>some (decide (x=y))
 | _,_,_=>none
def zek(x y:List D):List (Nat×Nat)->Option Bool
 | []=>some true
 | l::ls=>(zhD l.2 x[l.1]? y[l.1]?).bind fun b=>(zek x y ls).map (b&& ·)
def zjN(ag:Bool)(off n:Nat):AV->Option AV
 | .d (.agg cs)=>(zb9 ag off n (.agg cs)).map .d
 | .agg cs=>zdX ag off n (.agg cs)
 | _=>none
def zcQ(k:Int):List (Int×D)->Option D
 | []=>none
 | (j,x)::l=>if j=k then some x else zcQ k l
def zdW(k:Int)(x:D):List (Int×D)->List (Int×D)
 | []=>[(k,x)]
 | (j,y)::l=>if j=k then (j,x)::l else (j,y)::zdW k x l
def ziF:AV->Option Int
 | .d (.int .i64 n)=>some n
 | _=>none
def zeP(H:zf):AV->Option Int
 | .ref o i off=>
  match look o H with
  | some (.row es)=>(es[i]?).bind fun e=>(e.cells[off]?).bind ziF
  | _=>none
 | _=>none
def zgg(H:zf)(n:Int):AV->Option zf
 | .ref o i off=>
  match look o H with
  | some (.row es)=>(es[i]?).bind fun e=>((e.cells[off]?).bind ziF).bind fun _=>(zds e off (.d (.int .i64 n))).map fun e'=>zN o (.row (es.set i e')) H
  | _=>none
 | _=>none
def zg1(H:zf)(ok:Bool)(z:D):AV->AV->Option AV
 | .mpr o,.d (.int .i64 n)=>match look o H with
  | some (.mp es)=>some (.d (if ok then .tup [(zcQ n es).getD z,.bool (zcQ n es).isSome] else (zcQ n es).getD z))
  | _=>none
 | _,_=>none
def ziU(H:zf):AV->AV->AV->Option (AV×zf)
 | .mpr o,.d (.int .i64 n),.d y=>match look o H with
  | some (.mp es)=>some (.undef,zN o (.mp (zdW n y es)) H)
  | _=>none
 | _,_,_=>none
def zn(E:Env)(H:zf)(dst:Nat):AOp->Option (AV×zf)
 | .mv x=>some (x.ev E,H)
 | .pick c a b=>match c.ev E with| .d (.bool t)=>some (if t then a.ev E else b.ev E,H)|_=>none
 | .alloc z=>if zaV dst E=false/\zam dst H=false then some (.ref dst 0 0,zN dst (.row [z]) H) else none
 | .box x=>if zaV dst E=false/\zam dst H=false/\zbX (x.ev E)=false/\(x.ev E).size≠0 then some (.ref dst 0 0,zN dst (.row [x.ev E]) H) else none
 | .ld ag n p=>(ldA H ag n (p.ev E)).map fun v=>(v,H)
 | .st n p x=>match p.ev E with
  | .ref o i off=>if (x.ev E).size=n/\zbX (x.ev E)=false then
      match look o H with
      | some (.row es)=>(es[i]?).bind fun e=>(zds e off (x.ev E)).map fun e'=>(.undef,zN o (.row (es.set i e')) H)
      | _=>none
      else none
  | _=>none
 | .nilc x=>match x.ev E with
  | .ref o i f=>some (.ref o i f,H)
  | .d (.pd y)=>some (.d (.pd y),H)
  | .d (.fn f cs)=>some (.d (.fn f cs),H)
  | .pe o y=>some (.pe o y,H)
  | .fn f cs=>some (.fn f cs,H)
  | _=>none
 | .bin op x y=>match x.ev E,y.ev E with
  | .d a,.d b=>(zgQ op a b).map fun v=>(.d v,H)
  | _,_=>none
 | .eqb ng x y=>match x.ev E,y.ev E with
  | .d (.bool a),.d (.bool b)=>some (.d (.bool (if ng then !(a==b) else a==b)),H)
  | _,_=>none
 | .eqs ng n ls x y=>match x.ev E,y.ev E with
  | .d (.agg a),.d (.agg b)=>if a.length=n/\b.length=n then (zek a b ls).map fun r=>(.d (.bool (if ng then !r else r)),H) else none
  | _,_=>none
 | .nacc=>if zaV dst E=false/\zam dst H=false then some (.acc dst [],zN dst (.acc 0) H) else none
 | .un op x=>match op,x.ev E with
  | .not,.d (.bool b)=>some (.d (.bool (!b)),H)
  | .neg,.d (.int k n)=>some (.d (.int k (k.wrap (0 - n))),H)
  | _,_=>none
 | .cvi k x=>match x.ev E with| .d (.int _ n)=>some (.d (.int k (k.wrap n)),H)|_=>none
 | .fad ag off n x=>(zem ag off n (x.ev E)).map fun v=>(v,H)
 | .fld ag off n x=>match x.ev E with
  | .d (.agg cs)=>(zb9 ag off n (.agg cs)).map fun v=>(.d v,H)
  | .agg cs=>(zdX ag off n (.agg cs)).map fun v=>(v,H)
  | _=>none
 | .iad n x i=>(zbC (i.ev E)).bind fun k=>if 0<=k then (zcM H n k (x.ev E)).map fun v=>(v,H) else none
 | .iada ag len n x i=>(zbC (i.ev E)).bind fun k=>if 0<=k/\k<len then (zem ag (k.toNat * n) n (x.ev E)).map fun v=>(v,H) else none
 | .idxa ag len n x i=>(zbC (i.ev E)).bind fun k=>if 0<=k/\k<len then (zjN ag (k.toNat * n) n (x.ev E)).map fun v=>(v,H) else none
 | .idx x i=>match x.ev E,zbC (i.ev E) with
  | .d (.str s),some k=>if 0<=k then (s[k.toNat]?).map fun b=>(.d (.int .u8 b.toNat),H) else none
  | _,_=>none
 | .slc n x lo hi mx=>(zcn H n (lo.map (·.ev E)) (hi.map (·.ev E)) (mx.map (·.ev E)) (x.ev E)).map fun v=>(v,H)
 | .sls x lo hi=>match x.ev E with
  | .d (.str s)=>(zcq (hi.map (·.ev E)) s.length s.length).bind fun h=>(zcq (lo.map (·.ev E)) 0 h).map fun l=>(.d (.str ((s.take h).drop l)),H)
  | _=>none
 | .ext x i=>match x.ev E with
  | .d (.tup vs)=>(vs[i]?).map fun v=>(.d v,H)
  | .tup vs=>(vs[i]?).map fun v=>(v,H)
  | _=>none
 | .lens x=>match x.ev E with
  | .d (.str s)=>some (.d (.int .i64 s.length),H)
  | _=>none
 | .len x=>match x.ev E with
  | .osl _ _ len=>some (.d (.int .i64 len),H)
  | y=>(slD y).map fun es=>(.d (.int .i64 es.length),H)
 | .mm mx xs=>match xs.map (·.ev E) with|[]=>none|y::ys=>(mmD mx y ys).map fun v=>(v,H)
 | .mkfn f cs=>some (AV.mkFn f (cs.map (·.ev E)),H)
 | .build z ps=>(zbz z (ps.map fun p=>(p.1,p.2.1,p.2.2.ev E))).map fun cs=>(AV.mkAgg cs,H)
 | .bsl len n z ps=>if z.size=n/\(ps.all fun p=>(p.2.ev E).size==n)=true then
     (zeo (List.replicate len z) (ps.map fun p=>(p.1,p.2.ev E))).bind fun es=>
      match zbq es with
      | some ds=>some (.xsl ds,H)
      | none=>if zaV dst E=false/\zam dst H=false then some (.osl dst 0 len,zN dst (.row es) H) else none
     else none
 | .mks n z l c=>match l.ev E,c.ev E with
  | .d (.int .i64 a),.d (.int .i64 b)=>if 0<=a/\a=b/\a<=LIM/\z.size=n/\zaV dst E=false/\zam dst H=false then some (.osl dst 0 a.toNat,zN dst (.row (List.replicate a.toNat z)) H) else none
  | _,_=>none
 | .s2b x=>match x.ev E with
  | .d (.str s)=>some (.d (.sl (s.map fun b=> .int .u8 b.toNat)),H)
  | _=>none
 | .b2s x=>(slD (x.ev E)).bind fun es=>(zgh es).map fun s=>(.d (.str s),H)
 | .app n x y=>(zdg H (y.ev E)).bind fun ys=>zcj E H dst n ys (x.ev E)
 | .clr n x=>match x.ev E with
  | .osl o off len=>
   match look o H with
   | some (.row es)=>if off+len=es.length/\es.head?.map AV.size=some n then some (.undef,zN o (.row (es.take off)) H) else none
   | _=>none
  | _=>none
 | .apps x y=>match y.ev E with
  | .d (.str s)=>zcj E H dst 1 (s.map fun b=> .int .u8 b.toNat) (x.ev E)
  | _=>none
 | .atl p=>(zeP H (p.ev E)).map fun n=>(.d (.int .i64 n),H)
 | .ats p x=>(ziF (x.ev E)).bind fun n=>(zgg H n (p.ev E)).map fun H'=>(.d (.tup []),H')
 | .atc p x y=>(ziF (x.ev E)).bind fun old=>(ziF (y.ev E)).bind fun n=>(zeP H (p.ev E)).bind fun v=>if v=old then (zgg H n (p.ev E)).map fun H'=>(.d (.bool true),H') else some (.d (.bool false),H)
 | .mkm=>if zaV dst E=false/\zam dst H=false then some (.mpr dst,zN dst (.mp []) H) else none
 | .lkp ok z x k=>(zg1 H ok z (x.ev E) (k.ev E)).map fun v=>(v,H)
 | .mup x k v=>ziU H (x.ev E) (k.ev E) (v.ev E)
 | _=>none
end Go.Sim

namespace Go.Sim
open Go (World Value Addr TypeId)
theorem zQN{α:Type}{k:Nat}{x:α}{l:List (Nat×α)}(h:(k,x)∈l):∃y,look k l=some y:=by
 induction l with
 | nil=>cases h
 | cons p l ih=>
  obtain⟨j,y⟩:=p;simp only[look]
  by_cases e:j=k
  ·rw[zYQ e];exact⟨_,rfl⟩
  ·rw[zYP e]
   cases h with
   | head=>exact absurd rfl e
   | tail _ h=>exact ih h
variable {C:Ctx} {S:St} {a:Act} {w:World} {ι:Inj} {R:Nat->Prop}
theorem Rel.put(h:Rel C S a w ι R){x:AV}{u:Value}(hv:VA w R ι (mark S.heap) x u){d:Nat}(hd:d<C.n):
    Rel C ⟨zN d x S.env,S.heap⟩ (a.put (some d) u) w ι R:=by
 refine⟨h.defers,by simp [Act.put,h.size],h.os,h.tape,h.output,h.grow,h.len,h.keep,h.keepLt,h.rlt,h.rok,h.r0,h.own,h.inj,?_,h.heap⟩;intro t y hy;simp only[zN] at hy
 cases hy with
 | head=>
  refine⟨u,?_,hv⟩;have:=C.le;simp only[zeC,Act.put];rw[zYQ (by omega),z1N (by rw[h.size];exact hd)]
 | tail _ hy=>
  obtain⟨h1,h2⟩:=ziT.1 hy;obtain⟨u',h3,h4⟩:=h.env t y h1;refine⟨u',?_,h4⟩;simp only[zeC,Act.put] at h3 ⊢;rw[z1O (Ne.symm h2)];exact h3
theorem Rel.put_none(h:Rel C S a w ι R)(u:Value):Rel C S (a.put none u) w ι R:=h
theorem Rel.weaken(h:Rel C S a w ι R){E:Env}(hE:∀t x,(t,x)∈E->(t,x)∈S.env):Rel C ⟨E,S.heap⟩ a w ι R:=
 ⟨h.defers,h.size,h.os,h.tape,h.output,h.grow,h.len,h.keep,h.keepLt,h.rlt,h.rok,h.r0,h.own,h.inj,fun t x hx=>h.env t x (hE t x hx),h.heap⟩
theorem Rel.tmp(h:Rel C S a w ι R){t:Nat}{x:AV}(ht:t<1000000)(hx:look t S.env=some x):VA w R ι (mark S.heap) x (a.eval (.tmp t)):=by
 obtain⟨u,h1,h2⟩:=h.env t x (zar hx);simp only[zeC,zYQ ht] at h1;simp only[Act.eval,z0A,h1,z0s];exact h2
theorem znh{v:Value}{x:AV}(h:zhv v=some x)(w:World)(R:Nat->Prop)(ι:Inj)(mk:Nat->Option Nat):VA w R ι mk x v/\x.cell=true:=by
 unfold zhv at h
 split at h
 ·split at h
  ·rename_i hk;cases h;exact⟨.d (.int hk),rfl⟩
  ·cases h
 ·cases h;exact⟨.d .bool,rfl⟩
 ·split at h
  ·rename_i s hs
   cases h
   refine⟨.d ?_,rfl⟩;have:=Rd.str (w:=w) (R:=R) hs;have e:(⟨s.data.toList.toArray⟩:ByteArray)=s:=by cases s;simp
   rwa [e] at this
  ·cases h
 ·cases h;exact⟨.xsl .sl0,rfl⟩
 ·split at h
  ·rename_i hk;cases h;exact⟨.d (.nil hk),rfl⟩
  ·cases h
theorem zhq{cs:List AV}{ds:List D}(h:zbq cs=some ds):cs=ds.map .d:=by
 induction cs generalizing ds with
 | nil=>simp [zbq] at h;subst h;rfl
 | cons x l ih=>
  cases x with
  | d y=>
   simp only[zbq,zYT] at h;obtain⟨ds',h1,h2⟩:=h;subst h2;rw[ih h1];rfl
  | _=>simp [zbq] at h
theorem VA.of_d{mk:Nat->Option Nat}{x:D}{u:Value}(h:VA w R ι mk (.d x) u):Rd w R (.v x u):=by cases h;assumption
theorem VA.mkAgg {mk:Nat->Option Nat} {cs:List AV} {vs:List Value} (hl:vs.length=cs.length) (hc:∀c∈cs,c.cell=true)
    (h:∀(i:Nat) (c:AV) (u:Value),cs[i]? = some c->vs[i]? = some u->VA w R ι mk c u):VA w R ι mk (AV.mkAgg cs) (.agg vs.toArray):=by
 unfold AV.mkAgg
 cases hd:zbq cs with
 | none=>exact .agg hl hc h
 | some ds=>
  have:=zhq hd;subst this;refine .d (.agg (by simpa using hl) (fun c hm=> ?_) fun i c u h1 h2=>(h i (.d c) u (by simp [h1]) h2).of_d);exact hc (.d c) (by simpa using hm)
theorem VA.mkTup {mk:Nat->Option Nat} {cs:List AV} {vs:List Value} (hl:vs.length=cs.length)
    (h:∀(i:Nat) (c:AV) (u:Value),cs[i]? = some c->vs[i]? = some u->VA w R ι mk c u):VA w R ι mk (AV.mkTup cs) (.tuple vs.toArray):=by
 unfold AV.mkTup
 cases hd:zbq cs with
 | none=>exact .tup hl h
 | some ds=>
  have:=zhq hd;subst this;exact .d (.tup (by simpa using hl) fun i c u h1 h2=>(h i (.d c) u (by simp [h1]) h2).of_d)
theorem VA.mkFn {mk:Nat->Option Nat} {f:FuncId} {cs:List AV} {vs:List Value} (hl:vs.length=cs.length)
    (h:∀(i:Nat) (c:AV) (u:Value),cs[i]? = some c->vs[i]? = some u->VA w R ι mk c u):VA w R ι mk (AV.mkFn f cs) (.func (.func f) #[] vs.toArray):=by
 unfold AV.mkFn
 cases hd:zbq cs with
 | none=>exact .fn hl h
 | some ds=>
  have:=zhq hd;subst this;exact .d (.fn (by simpa using hl) fun i c u h1 h2=>(h i (.d c) u (by simp [h1]) h2).of_d)
theorem ze0{α β:Type}{f:α->Option β}:∀ {l:List α} {m:List β},l.mapM f=some m->m.length=l.length/\∀(i:Nat) (x:α) (y:β),l[i]? = some x->m[i]? = some y->f x=some y:=by
 intro l
 induction l with
 | nil=>intro m h;simp at h;subst h;simp
 | cons x l ih=>
  intro m h;simp only[z0w,zZo,zZs] at h;obtain⟨y,hy,h⟩:=zYR.1 h;obtain⟨ys,hys,h⟩:=zYR.1 h
  cases h
  obtain⟨h1,h2⟩:=ih hys;refine⟨by simp [h1],fun i a b ha hb=> ?_⟩
  match i,ha,hb with
  | 0,ha,hb=>simp at ha hb;subst ha hb;exact hy
  | n+1,ha,hb=>exact h2 n a b (by simpa using ha) (by simpa using hb)
theorem znm{v:Value}{x:AV}(h:zfN v=some x)(w:World)(R:Nat->Prop)(ι:Inj)(mk:Nat->Option Nat):VA w R ι mk x v:=by
 unfold zfN at h
 split at h
 ·rename_i cs;obtain⟨ds,h1,h2⟩:=zYT.1 h;subst h2;obtain⟨hl,hg⟩:=ze0 h1;have e:cs=cs.toList.toArray:=by simp
  rw[e];refine VA.mkAgg hl.symm (fun c hc=> ?_) fun i c u h3 h4=>(znh (hg i u c h4 h3) w R ι mk).1;obtain⟨i,hi⟩:=zZD hc;have hlt:i<cs.toList.length:=by rw[<- hl];exact (zY7.1 hi).1
  exact (znh (hg i _ c (zY1 hlt) hi) w R ι mk).2
 ·exact (znh h w R ι mk).1
theorem Rel.ev(h:Rel C S a w ι R){o:Operand}{x:Opd}(hx:opd o=some x):VA w R ι (mark S.heap) (x.ev S.env) (a.eval o):=by
 cases o with
 | tmp t=>
  simp only[opd] at hx
  split at hx
  ·rename_i ht
   cases hx
   simp only[Opd.ev]
   cases hl:look t S.env with
   | none=>exact .undef
   | some y=>exact h.tmp ht hl
  ·cases hx
 | const v=>
  simp only[opd] at hx
  split at hx
  ·cases hx;exact .undef
  ·obtain⟨y,h1,h2⟩:=zYT.1 hx;subst h2;exact znm h1 _ _ _ _
 | global g=>cases hx
 | func f=>
  simp only[opd,Option.some.injEq] at hx;subst hx;exact .d (.fn (cs:=[]) (vs:=[]) rfl (by simp))
theorem Rel.change (h:Rel C S a w ι R) {w':World} {ι':Inj} {R':Nat->Prop} {H':zf}
    (os:w'.os=w.os) (tape:w'.tape=w.tape) (output:w'.output=w.output) (grow:w.heap.size<=w'.heap.size) (blk:∀b,b<w.heap.size->Blk w w' b 0)
    (keep:∀b,C.keep b->w'.heap[b]? = w.heap[b]?) (hR:∀b,R b->R' b) (rlt:∀b,R' b->b<w'.heap.size) (rok:∀b,R' b->C.R0 b\/¬C.keep b)
    (hK:zbM R w w') (own:∀o b s,ι' o=some (b,s)->¬C.keep b/\b<w'.heap.size) (inj:∀o o' b s s',ι' o=some (b,s)->ι' o'=some (b,s')->o=o')
    (st:∀p,zaV p S.env=true->Step w w' ι ι' (mark S.heap) (mark H') p)
    (hp:∀o ob,(o,ob)∈H'->OB w' R' ι' (mark H') o ob):Rel C ⟨S.env,H'⟩ a w' ι' R':=by
 refine⟨h.defers,h.size,os.trans h.os,tape.trans h.tape,output.trans h.output,zZG h.grow grow,fun b hb=>(h.len b hb).trans (blk b (zZ1 hb h.grow)),fun b hb=>(keep b hb).trans (h.keep b hb),h.keepLt,rlt,rok,
  fun b hb=>hR b (h.r0 b hb),own,inj,?_,hp⟩
 intro t x hx;obtain⟨u,h1,h2⟩:=h.env t x hx;refine⟨u,h1,h2.mono hR hK fun p hp=>st p ?_⟩
 cases hh:zaV p S.env with
 | true=>rfl
 | false=>rw[zmp hx hh] at hp;cases hp
def zhl(o:Nat)(S:St):Prop:=zaV o S.env=false/\zam o S.heap=false
def upd(ι:Inj)(o:Nat)(p:Nat×Nat):Inj:=fun q=>if q=o then some p else ι q
theorem zcX{o:Nat}{p:Nat×Nat}:upd ι o p o=some p:=by simp [upd]
theorem zbp{o q:Nat}{p:Nat×Nat}(h:q≠o):upd ι o p q=ι q:=by simp [upd,h]
theorem zdU{H:zf}{o q:Nat}{ob:Obj}(h:q≠o):mark (zN o ob H) q=mark H q:=by simp [mark,zCj h]
theorem zdT{H:zf}{o:Nat}{ob:Obj}:mark (zN o ob H) o=(match ob with| .acc n=>some n| .frz m=>m|_=>none):=by
 simp only[mark,zQR];cases ob<;>rfl
theorem zc2{o:Go.Obj}{b:Nat}(h:b<w.heap.size):(w.alloc o).heap[b]? = w.heap[b]? := heap_alloc_old w o b h
theorem zbM.alloc(h:Rel C S a w ι R)(o:Go.Obj):zbM R w (w.alloc o):=fun b hb=>zc2 (h.rlt b hb)
theorem Step.other{w':World}{H':zf}{ι':Inj}{p:Nat}(hι:ι' p=ι p)(hm:mark H' p=mark S.heap p)(hb:∀b s,ι p=some (b,s)->w'.heap[b]? = w.heap[b]?):
    Step w w' ι ι' (mark S.heap) (mark H') p:=
 ⟨fun b s h=>by rw[hι,h],fun b s h=>Blk.of_eq (hb b s h),fun m h=>⟨m,by rw[hm,h],zZk _⟩,fun m h=>⟨m,by rw[<- hm,h],zZk _⟩⟩
theorem Rel.new (h:Rel C S a w ι R) {o s:Nat} {ob:Obj} (c:Array Value) (T:TypeId) (hu:zhl o S)
    (hob:OB (w.alloc (.cells c T)) R (upd ι o (w.heap.size,s)) (mark (zN o ob S.heap)) o ob):
    Rel C ⟨S.env,zN o ob S.heap⟩ a (w.alloc (.cells c T)) (upd ι o (w.heap.size,s)) R:=by
 have hst:∀p,p≠o->Step w (w.alloc (.cells c T)) ι (upd ι o (w.heap.size,s)) (mark S.heap) (mark (zN o ob S.heap)) p:=fun p hp=>
  Step.other (zbp hp) (zdU hp) fun b s hb=>zc2 (h.own p b s hb).2
 refine h.change rfl rfl rfl (by simp) (fun b hb=>Blk.of_eq (zc2 hb)) (fun b hb=>zc2 (zZ1 (h.keepLt b hb) h.grow)) (fun _ hb=>hb) (fun b hb=>by have:=h.rlt b hb;simp;omega) h.rok (zbM.alloc h _) ?_ ?_ ?_ ?_
 ·intro q b s' hq
  by_cases e:q=o
  ·subst e;rw[zcX] at hq;cases hq;exact⟨fun hk=>by have:=h.keepLt _ hk;have:=h.grow;omega,by simp⟩
  ·rw[zbp e] at hq;have:=h.own q b s' hq;exact⟨this.1,by simp;omega⟩
 ·intro q q' b s1 s2 h1 h2
  by_cases e:q=o<;>by_cases e':q'=o
  ·rw[e,e']
  ·subst e;rw[zcX] at h1;rw[zbp e'] at h2;cases h1;have:=(h.own _ _ _ h2).2;omega
  ·subst e';rw[zcX] at h2;rw[zbp e] at h1;cases h2;have:=(h.own _ _ _ h1).2;omega
  ·rw[zbp e] at h1;rw[zbp e'] at h2;exact h.inj _ _ _ _ _ h1 h2
 ·intro p hp;refine hst p fun e=> ?_;subst e;rw[hu.1] at hp;cases hp
 ·intro q ob' hq
  cases hq with
  | head=>exact hob
  | tail _ hq=>
   obtain⟨h1,h2⟩:=ziT.1 hq;refine (h.heap q ob' h1).mono (fun _ hb=>hb) (zbM.alloc h _) (fun b s' hb=>⟨by rw[zbp h2,hb],zc2 (h.own q b s' hb).2,fun hb=>hb⟩) (fun h0=>by rw[zbp h2,h0]) fun p hp=> ?_;refine hst p fun e=> ?_;subst e;have:=zhc h1 hu.2;rw[hp] at this;cases this
theorem Rel.newRO(h:Rel C S a w ι R)(ob:Go.Obj):Rel C S a (w.alloc ob) ι (fun b=>R b\/b=w.heap.size):=by
 have hst:∀p,Step w (w.alloc ob) ι ι (mark S.heap) (mark S.heap) p:=fun p=>Step.same fun b s hb=>zc2 (h.own p b s hb).2;refine h.change (H':=S.heap) rfl rfl rfl (by simp) (fun b hb=>Blk.of_eq (zc2 hb)) (fun b hb=>zc2 (zZ1 (h.keepLt b hb) h.grow)) (fun _ hb=> .inl hb) ?_ ?_ (zbM.alloc h _) ?_ h.inj (fun p _=>hst p) ?_
 ·rintro b (hb|rfl)
  ·have:=h.rlt b hb;simp;omega
  ·simp
 ·rintro b (hb|rfl)
  ·exact h.rok b hb
  ·exact .inr fun hk=>by have:=h.keepLt _ hk;have:=h.grow;omega
 ·intro o b s ho;have:=h.own o b s ho;exact⟨this.1,by simp;omega⟩
 ·intro q ob' hq;refine (h.heap q ob' hq).mono (fun _ hb=> .inl hb) (zbM.alloc h _) (fun b s' hb=> ?_) (fun h0=>h0) fun p _=>hst p;have:=(h.own q b s' hb).2;refine⟨hb,zc2 this,?_⟩;rintro (hr|hr)
  ·exact hr
  ·omega
theorem Rel.drew(h:Rel C S a w ι R):Rel C S a w.drew ι R:=
 ⟨h.defers,h.size,h.os,h.tape,h.output,h.grow,h.len,h.keep,h.keepLt,h.rlt,h.rok,h.r0,h.own,h.inj,
  fun t x hx=>let ⟨u,h1,h2⟩:=h.env t x hx;⟨u,h1,h2.mono (fun _ h=>h) (fun _ _=>rfl) fun _ _=>Step.same fun _ _ _=>rfl⟩,
  fun o ob ho=>(h.heap o ob ho).mono (fun _ h=>h) (fun _ _=>rfl) (fun _ _ hb=>⟨hb,rfl,fun h=>h⟩) (fun h=>h) fun _ _=>Step.same fun _ _ _=>rfl⟩
end Go.Sim

namespace Go.Sim
open Go (World Value Addr TypeId Act)
def zT(C:Ctx)(S:St)(a:Act)(v:AV)(H:zf)(r:Result Next):Prop:=
 ∃u w' ι' R',(r= .ok (.value u) w'\/(r= .ok .skip w'/\u=Go.undef))/\Rel C ⟨S.env,H⟩ a w' ι' R'/\VA w' R' ι' (mark H) v u
variable {P:Program} {C:Ctx} {S:St} {a:Act} {w:World} {ι:Inj} {R:Nat->Prop}
theorem zT.same(h:Rel C S a w ι R){v:AV}{u:Value}(hv:VA w R ι (mark S.heap) v u){r:Result Next}(hr:r= .ok (.value u) w):zT C S a v S.heap r:=
 ⟨u,w,ι,R,.inl hr,h,hv⟩
section inv
variable {mk:Nat->Option Nat}
theorem VA.int_inv{k:IntKind}{n:Int}{u:Value}(h:VA w R ι mk (.d (.int k n)) u):u= .int k n/\k.has n:=by
 cases h with|d h=>cases h with|int h=>exact⟨rfl,h⟩
theorem VA.bool_inv{b:Bool}{u:Value}(h:VA w R ι mk (.d (.bool b)) u):u= .bool b:=by
 cases h with|d h=>cases h;rfl
theorem VA.str_inv{s:List UInt8}{u:Value}(h:VA w R ι mk (.d (.str s)) u):u= .string ⟨s.toArray⟩/\s.length<=LIM:=by
 cases h with|d h=>cases h with|str h=>exact⟨rfl,h⟩
theorem VA.pd_inv{x:D}{u:Value}(h:VA w R ι mk (.d (.pd x)) u):∃b off,u= .pointer (some ⟨b,off,none⟩)/\R b/\Rd w R (.el x b off):=by
 cases h with|d h=>cases h with|pd h1 h2=>exact⟨_,_,rfl,h1,h2⟩
theorem VA.tupD_inv{cs:List D}{u:Value}(h:VA w R ι mk (.d (.tup cs)) u):∃vs:List Value,u= .tuple vs.toArray/\vs.length=cs.length/\∀(i:Nat) (c:D) (q:Value),cs[i]? = some c->vs[i]? = some q->Rd w R (.v c q):=by
 cases h with|d h=>cases h with|tup h1 h2=>exact⟨_,rfl,h1,h2⟩
theorem VA.tup_inv{cs:List AV}{u:Value}(h:VA w R ι mk (.tup cs) u):∃vs:List Value,u= .tuple vs.toArray/\vs.length=cs.length/\∀(i:Nat) (c:AV) (q:Value),cs[i]? = some c->vs[i]? = some q->VA w R ι mk c q:=by
 cases h with|tup h1 h2=>exact⟨_,rfl,h1,h2⟩
end inv
theorem zfi(k:IntKind)(n:Int):k.has (k.wrap n):=by
 cases k<;>simp [IntKind.has,IntKind.wrap,IntKind.min,IntKind.max,IntKind.bits,IntKind.signed]<;>(try split)<;>omega
theorem zXS{k:IntKind}{x y:Int}(hx:k.has x):k.has (x.tmod y):=by
 have h1:(x.tmod y).natAbs<=x.natAbs:=by rw[Int.natAbs_tmod];exact Nat.mod_le _ _
 have h2:0<=x->0<=x.tmod y:=fun h=>z1a _ h;have h3:x<=0->x.tmod y<=0:=fun h=>by have:=z1a y (show 0<= -x by omega);rw[Int.neg_tmod] at this;omega
 generalize x.tmod y=z at *
 cases k<;>simp [IntKind.has,IntKind.min,IntKind.max,IntKind.bits,IntKind.signed] at * <;> omega
theorem zPw{T:TypeId}{op:BinOp}{k:IntKind}{x y:Int}{r:D}(h:zcN op k x y=some r)(hx:k.has x)(hop:op≠ .shl/\op≠ .shr)(w':World):
    ∃u,(binOp op T (.int k x) (.int k y)).run P w'= .ok u w'/\∀(w:World) (R:Nat->Prop),Rd w R (.v r u):=by
 cases op<;>simp only[zcN,Option.some.injEq,reduceCtorEq] at h
 case add=>subst h;exact⟨_,by simp [binOp,Op.intArith],fun w R=> .int (zfi _ _)⟩
 case sub=>subst h;exact⟨_,by simp [binOp,Op.intArith],fun w R=> .int (zfi _ _)⟩
 case mul=>subst h;exact⟨_,by simp [binOp,Op.intArith],fun w R=> .int (zfi _ _)⟩
 case quo=>split at h;cases h;rename_i h0;cases h;exact⟨_,by simp [binOp,Op.intDiv,h0],fun w R=> .int (zfi _ _)⟩
 case rem=>split at h;cases h;rename_i h0;cases h;exact⟨_,by simp [binOp,Op.intDiv,h0],fun w R=> .int (zXS hx)⟩
 case and=>subst h;exact⟨_,by simp [binOp,Op.intBits],fun w R=> .int (zfi _ _)⟩
 case or=>subst h;exact⟨_,by simp [binOp,Op.intBits],fun w R=> .int (zfi _ _)⟩
 case xor=>subst h;exact⟨_,by simp [binOp,Op.intBits],fun w R=> .int (zfi _ _)⟩
 case andNot=>subst h;exact⟨_,by simp [binOp,Op.intBits],fun w R=> .int (zfi _ _)⟩
 all_goals (subst h;exact⟨_,by simp [binOp,Op.intCmp];try rfl,fun w R=> .bool⟩)
theorem zS8{k:IntKind}{x:Int}(n:Nat)(hx:k.has x):k.has (x.fdiv (2 ^ n)):=by
 have hp:(0:Int)<2 ^ n:=Int.pow_pos (by omega);rw[z2h _ (Int.le_of_lt hp)];have h1:0<=x->0<=x / 2 ^ n/\x / 2 ^ n<=x:=fun h=>⟨Int.ediv_nonneg h (Int.le_of_lt hp),Int.ediv_le_self _ h⟩;have h2:x<0->x<=x / 2 ^ n/\x / 2 ^ n<0:=fun h=>by
  refine⟨?_,Int.ediv_neg_of_neg_of_pos h hp⟩;rw[Int.le_ediv_iff_mul_le hp];have h1:(1:Int)<=2 ^ n:=hp;have:=Int.mul_le_mul_of_nonpos_left (a:=x) (b:=2 ^ n) (c:=1) (by omega) h1;simpa using this
 generalize x / 2 ^ n=z at *
 cases k<;>simp [IntKind.has,IntKind.min,IntKind.max,IntKind.bits,IntKind.signed] at * <;> omega
theorem zWy{op:BinOp}{k k':IntKind}{x y:Int}{r:D}(h:zkK op k x y=some r)(hx:k.has x)(T:TypeId)(w':World):
    ∃u,(binOp op T (.int k x) (.int k' y)).run P w'= .ok u w'/\∀(w:World) (R:Nat->Prop),Rd w R (.v r u):=by
 unfold zkK at h
 split at h
 ·cases h
 ·rename_i hy
  cases op<;>simp only[Option.some.injEq,reduceCtorEq] at h
  ·subst h;exact⟨_,by simp [binOp,Op.shift,hy],fun w R=> .int (zfi _ _)⟩
  ·subst h;exact⟨_,by simp [binOp,Op.shift,hy],fun w R=> .int (zS8 _ hx)⟩
theorem zEk(a:List UInt8):(⟨a.toArray⟩:ByteArray).toList=a:=by
 rw[ByteArray.toList_eq]
theorem zXj{op:BinOp}{x y:List UInt8}{r:D}(h:zmI op x y=some r)(T:TypeId)(w':World):
    ∃u,(binOp op T (.string ⟨x.toArray⟩) (.string ⟨y.toArray⟩)).run P w'= .ok u w'/\∀(w:World) (R:Nat->Prop),Rd w R (.v r u):=by
 cases op<;>simp only[zmI,Option.some.injEq,reduceCtorEq] at h
 case add=>
  split at h
  ·rename_i hl;cases h;refine⟨.string ⟨(x++y).toArray⟩,?_,fun w R=> .str hl⟩;have h1:¬(IntKind.i64.max<((x.length:Int)+(y.length:Int))):=by
    simp only[zYZ,LIM] at hl;simp [IntKind.max,IntKind.signed,IntKind.bits];omega
   simp only[z1b,IntKind.max,IntKind.signed,IntKind.bits] at h1;have h2:((⟨x.toArray⟩:ByteArray)++⟨y.toArray⟩)=⟨(x++y).toArray⟩:=by
    ext1;simp
   simp [binOp,Op.stringOp,h2,ByteArray.size,IntKind.max,IntKind.signed,IntKind.bits];simpa using h1
  ·cases h
 case eql=>subst h;exact⟨.bool (decide (x=y)),by simp [binOp,Op.stringOp,zEk];by_cases e:x=y<;>simp [e],fun w R=> .bool⟩
 case neq=>subst h;exact⟨.bool (!decide (x=y)),by simp [binOp,Op.stringOp,zEk];by_cases e:x=y<;>simp [e],fun w R=> .bool⟩
end Go.Sim

namespace Go.Sim
open Go (World Value Addr TypeId Act)
variable {P:Program} {C:Ctx} {S:St} {a:Act} {w:World} {ι:Inj} {R:Nat->Prop}
theorem zlF{t:TypeId}{ag:Bool}(h:zbi P t=some ag)(w:World):(isAgg t).run P w= .ok ag w:=by
 unfold zbi at h;unfold isAgg
 cases hu:P.underlying t with
 | none=>simp [hu] at h
 | some d=>
  rw[Sem.run_bind,run_underlying hu w]
  cases d<;>simp [hu] at h<;>subst h<;>simp
theorem zeB{t:TypeId}{n:Nat}(h:zaM P t=some n)(w:World):(sizeOf t).run P w= .ok n w:=by
 unfold zaM at h;obtain⟨i,h1,h2⟩:=zYT.1 h;simp [sizeOf,typeInfo,h1,h2]
theorem zqx{w:World}{b off n:Nat}{Q:Nat->Value->Prop}(h:∀j,j<n->∃q,w.cell? ⟨b,off+j,none⟩=some q/\Q j q):
    ∃qs:List Value,qs.length=n/\w.rangeAt b off qs/\∀j q,qs[j]? = some q->Q j q:=by
 refine⟨(List.range n).map fun j=>(w.cell? ⟨b,off+j,none⟩).getD Go.undef,by simp,?_,?_⟩
 ·intro j v hv;have hj:j<n:=by have:=(zY7.1 hv).1;simpa using this
  obtain⟨q,h1,_⟩:=h j hj;rw[zZa,List.getElem?_range hj] at hv;simp [h1] at hv;rw[h1,hv]
 ·intro j v hv;have hj:j<n:=by have:=(zY7.1 hv).1;simpa using this
  obtain⟨q,h1,h2⟩:=h j hj;rw[zZa,List.getElem?_range hj] at hv;simp [h1] at hv;subst hv;exact h2
theorem zCc{t:TypeId}{n b off:Nat}{qs:List Value}(hag:zbi P t=some true)(hn:zaM P t=some n)(hl:qs.length=n)(hr:w.rangeAt b off qs):
    (loadVar t ⟨b,off,none⟩).run P w= .ok (.agg qs.toArray) w:=by
 have h1:=run_loadCells_list (P:=P) w ⟨b,off,none⟩ qs (fun j v hv=>by rw[Addr.add_mid];exact hr j v hv);rw[hl] at h1;simp [loadVar,zlF hag,zeB hn,h1]
theorem zCd{t:TypeId}{b off:Nat}{q:Value}(hag:zbi P t=some false)(hq:w.cell? ⟨b,off,none⟩=some q):
    (loadVar t ⟨b,off,none⟩).run P w= .ok q w:=by
 simp [loadVar,zlF hag,hq]
theorem D.size_agg(cs:List D):(D.agg cs).size=cs.length:=rfl
theorem zFM(x:D):x.asAgg= .agg x.cells:=by cases x<;>rfl
theorem zha{ag:Bool}{off n:Nat}{x y:D}(h:zb9 ag off n x=some y)(hn:n≠0):
    off+n<=x.size/\((ag=true/\y= .agg ((x.cells.drop off).take n))\/(ag=false/\n=1/\x.cells[off]? = some y)):=by
 unfold zb9 at h
 cases ag with
 | true=>
  simp only[if_true] at h
  split at h
  ·rename_i h1;cases h;refine⟨by omega,.inl ⟨rfl,?_⟩⟩;rw[zFM,h1.1,h1.2];simp [D.size]
  ·split at h
   ·rename_i h1;cases h;exact⟨h1,.inl ⟨rfl,rfl⟩⟩
   ·cases h
 | false=>
  simp only[zYX,if_false] at h
  split at h
  ·rename_i h1;have:=(zY7.1 h).1;exact⟨by simp [D.size];omega,.inr ⟨rfl,h1,h⟩⟩
  ·cases h
theorem zpi{α:Type}{l:List α}{off n j:Nat}(h:off+n<=l.length)(hj:j<n):((l.drop off).take n)[j]? = l[off+j]? := by
 rw[z0N hj,z0W]
theorem Rd.part_el{x y:D}{b o off n:Nat}{ag:Bool}(h:Rd w R (.el x b o))(hp:zb9 ag off n x=some y)(hn:n≠0):Rd w R (.el y b (o+off)):=by
 obtain⟨h1,h2|⟨_,_,h2⟩⟩:=zha hp hn
 ·obtain⟨_,rfl⟩:=h2;have hc:=h.v_of_cells;refine Rd.el_of_cells (fun vs=>by simp) fun i c hi=> ?_;have hi:((x.cells.drop off).take n)[i]? = some c:=hi;have hlt:i<n:=by have:=(zY7.1 hi).1;simp at this;omega
  rw[zpi h1 hlt] at hi;obtain⟨k1,q,k2,k3⟩:=hc _ _ hi;exact⟨k1,q,by rw[<- k2];congr 2;omega,k3⟩
 ·obtain⟨k1,q,k2,k3⟩:=h.v_of_cells _ _ h2;exact .elc k1 k2 k3
theorem Rd.load{x y:D}{b o n:Nat}{ag:Bool}{t:TypeId}(h:Rd w R (.el x b o))(hp:zb9 ag 0 n x=some y)(hn:n≠0)(hag:zbi P t=some ag)(hsz:zaM P t=some n):
    ∃u,(loadVar t ⟨b,o,none⟩).run P w= .ok u w/\Rd w R (.v y u):=by
 obtain⟨h1,⟨rfl,rfl⟩|⟨rfl,h0,h2⟩⟩:=zha hp hn
 ·have hc:=h.v_of_cells;have hlen:n<=x.cells.length:=by simpa [D.size] using h1
  obtain⟨qs,hl,hr,hq⟩:=zqx (w:=w) (b:=b) (off:=o) (n:=n) (Q:=fun j q=>∀c,x.cells[j]? = some c->c.cell=true/\Rd w R (.v c q)) fun j hj=>by
   have he:x.cells[j]? = some x.cells[j]:=zY1 (by omega);obtain⟨k1,q,k2,k3⟩:=hc j _ he;exact⟨q,k2,fun c hc'=>by rw[he] at hc';cases hc';exact⟨k1,k3⟩⟩
  refine⟨_,zCc hag hsz hl hr,?_⟩;have key:∀(i:Nat) (c:D),((x.cells.drop 0).take n)[i]? = some c->i<n/\x.cells[i]? = some c:=fun i c hi=>by
   have hlt:i<n:=by have:=(zY7.1 hi).1;simp at this;omega
   rw[zpi (by omega) hlt] at hi;exact⟨hlt,by simpa using hi⟩
  refine .agg (by simp;omega) (fun c hc'=> ?_) fun i c u h3 h4=>(hq i u h4 c (key i c h3).2).2;obtain⟨i,hi⟩:=zZD hc';obtain⟨hlt,hx⟩:=key i c hi;obtain⟨k1,_⟩:=hc i c hx;exact k1
 ·obtain⟨k1,q,k2,k3⟩:=h.v_of_cells _ _ h2;exact⟨q,zCd hag (by simpa using k2),k3⟩
def ElA(w:World)(R:Nat->Prop)(ι:Inj)(mk:Nat->Option Nat)(e:AV)(b off:Nat):Prop:=
 ∀(j:Nat) (x:AV),e.cells[j]? = some x->x.cell=true/\∃q,w.cell? ⟨b,off+j,none⟩=some q/\VA w R ι mk x q
theorem ElA.load{mk:Nat->Option Nat}{e v:AV}{b o off n:Nat}{ag:Bool}{t:TypeId}(h:ElA w R ι mk e b o)(hp:zdX ag off n e=some v)(hn:n≠0)(hag:zbi P t=some ag)(hsz:zaM P t=some n):
    ∃u,(loadVar t ⟨b,o+off,none⟩).run P w= .ok u w/\VA w R ι mk v u:=by
 have general:∀(m:Nat),m=n->off+n<=e.cells.length->ag=true->∃u,(loadVar t ⟨b,o+off,none⟩).run P w= .ok u w/\VA w R ι mk (AV.mkAgg ((e.cells.drop off).take n)) u:=by
  intro m _ hlen hagt;obtain⟨qs,hl,hr,hq⟩:=zqx (w:=w) (b:=b) (off:=o+off) (n:=n) (Q:=fun j q=>∀c,e.cells[off+j]? = some c->c.cell=true/\VA w R ι mk c q) fun j hj=>by
   have he:e.cells[off+j]? = some e.cells[off+j]:=zY1 (by omega);obtain⟨k1,q,k2,k3⟩:=h _ _ he;exact⟨q,by rw[<- k2];congr 2;omega,fun c hc'=>by rw[he] at hc';cases hc';exact⟨k1,k3⟩⟩
  refine⟨_,zCc (hagt ▸ hag) hsz hl hr,?_⟩;have key:∀(i:Nat) (c:AV),((e.cells.drop off).take n)[i]? = some c->i<n/\e.cells[off+i]? = some c:=fun i c hi=>by
   have hlt:i<n:=by have:=(zY7.1 hi).1;simp at this;omega
   rw[zpi (by omega) hlt] at hi;exact⟨hlt,hi⟩
  refine VA.mkAgg (by simp;omega) (fun c hc'=> ?_) fun i c u h3 h4=>(hq i u h4 c (key i c h3).2).2;obtain⟨i,hi⟩:=zZD hc';exact (h _ _ (key i c hi).2).1
 cases e with
 | d x=>
  simp only[zdX,zYT] at hp;obtain⟨y,hp,rfl⟩:=hp;have hel:Rd w R (.el x b o)\/∃vs,x= .tup vs:=by
   by_cases hx:∃vs,x= .tup vs
   ·exact .inr hx
   ·refine .inl (Rd.el_of_cells (fun vs hvs=>hx ⟨vs,hvs⟩) fun i c hi=> ?_);obtain⟨k1,q,k2,k3⟩:=h i (.d c) (by simp [AV.cells,hi]);exact⟨k1,q,k2,k3.of_d⟩
  rcases hel with hel|⟨vs,rfl⟩
  ·obtain⟨h1,_⟩:=zha hp hn;have h2:=hel.part_el hp hn;have:∃z,zb9 ag 0 n y=some z/\z=y:=by
    obtain⟨h1,⟨rfl,rfl⟩|⟨rfl,h0,h2⟩⟩:=zha hp hn
    ·refine⟨_,?_,rfl⟩;simp only[zb9,if_true];have e:n=(D.agg (List.take n (List.drop off x.cells))).size:=by rw[D.size_agg,z0I,z09];have h1:off+n<=x.cells.length:=h1;omega
     rw[zYQ ⟨trivial,e⟩];rfl
    ·refine⟨y,?_,rfl⟩;subst h0;have:=(hel.v_of_cells _ _ h2).1;simp [zb9,D.cells_cell this]
   obtain⟨z,hz,rfl⟩:=this;obtain⟨u,k1,k2⟩:=h2.load hz hn hag hsz;exact⟨u,k1,.d k2⟩
  ·have:=(h 0 (.d (.tup vs)) (by simp [AV.cells,D.cells])).1;simp [AV.cell,D.cell] at this
 | _=>
  simp only[zdX] at hp
  cases ag with
  | true=>
   simp only[if_true] at hp
   split at hp
   ·rename_i h1;cases hp;exact general n rfl (by rw[AV.size_cells];omega) rfl
   ·cases hp
  | false=>
   simp only[zYX,if_false] at hp
   split at hp
   ·obtain⟨k1,q,k2,k3⟩:=h _ _ hp;exact⟨q,zCd hag k2,k3⟩
   ·cases hp
end Go.Sim
