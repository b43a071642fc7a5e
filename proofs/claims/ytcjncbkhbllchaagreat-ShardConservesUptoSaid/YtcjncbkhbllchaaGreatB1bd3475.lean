/-
  A list that was just made, handed back as a row that can be written.
-/
import Derived.Test.YtcjncbkhbllchaaGreatBfe3f0f3
set_option linter.unusedSimpArgs false
set_option linter.unusedVariables false
namespace Go.Sim
open Go (World Value Addr TypeId Act Ending Program)
variable {P : Program}
def accRow : AV × Heap → Option (AV × Heap)
 | (.acc 0 [], [(0, .acc 0)]) => some (.xsl [], [])
 | (.acc 0 (e :: es), [(0, .acc n)]) => if n = (e :: es).length then some (.osl 0 0 n, [(0, .row ((e :: es).map .d))]) else none
 | _ => none
def rowed (G0 : FuncId → Option AFn) (k : Nat) (f : FuncId) (args : List AV) (os : Heap) : Option (AV × Heap) :=
 if os.isEmpty = true then (callF G0 k f args os).bind accRow else none
theorem gf_row {f : FuncId} {args : List AV} {os : Heap} {es : List D} (h0 : es ≠ []) (h : GF P f args os (.acc 0 es) [(0, .acc es.length)]) : GF P f args os (.osl 0 0 es.length) [(0, .row (es.map .d))] := by
 intro w R ι us hR hι hinj hob hv
 refine (h w R ι us hR hι hinj hob hv).mono fun e w' => ?_
 rintro ⟨u, ι', R', rfl, p1, p2, p3, p4, p5, p6, p7, p8, p9, p10, p11, p12, p13⟩
 have hob := p12 _ _ (.head _)
 have hm0 : es.length ≠ 0 := fun e => h0 (List.length_eq_zero_iff.1 e)
 have hmk : mark [(0, Obj.acc es.length)] 0 = some es.length := by simp [mark, look]
 have hmk' : mark [(0, Obj.row (es.map .d))] 0 = none := by simp [mark, look]
 have key : OB w' R' ι' (mark [(0, .row (es.map .d))]) 0 (.row (es.map .d)) ∧ VA w' R' ι' (mark [(0, .row (es.map .d))]) (.osl 0 0 es.length) u := by
   generalize hme : mark [(0, Obj.acc es.length)] = me at *
   generalize hde : es = ds at p13
   cases p13 with
   | accR _ _ _ _ _ _ hlt => have := hlt _ hmk; rw [hde] at this; omega
   | acc0 => exact absurd hde h0
   | @accC _ b s m' cap _ c T hι2 hmk2 _ hL hcap hsz hb hc hel =>
     subst hde
     cases hob with
     | accN hι' => rw [hι2] at hι'; cases hι'
     | acc _ hι' hR2 hb' hs0 _ =>
       rw [hι2] at hι'; cases hι'
       refine ⟨.row hι2 hR2 hb hs0 (fun e he => ?_) ?_ fun i e hi j x hj => ?_, ?_⟩
       · obtain ⟨d, hd, rfl⟩ := List.mem_map.1 he; exact hsz d hd
       · rw [List.length_map]; exact Nat.le_trans (Nat.mul_le_mul_right _ hcap) hc
       · rw [List.getElem?_map] at hi
         obtain ⟨d, hd, rfl⟩ := Option.map_eq_some_iff.1 hi
         simp only [AV.cells, List.getElem?_map] at hj
         obtain ⟨cd, hcd, rfl⟩ := Option.map_eq_some_iff.1 hj
         obtain ⟨k1, q, k2, k3⟩ := (hel i d hd).v_of_cells j cd hcd
         exact ⟨k1, q, by rw [zih hb] at k2; exact k2, .d k3⟩
       · have := VA.osl (w := w') (R := R') (mk := mark [(0, Obj.row (es.map .d))]) (off := 0) (len := es.length) (cap := cap) hι2 hmk' hb hcap (by simpa using hc) hL
         simpa only [Nat.zero_mul] using this
 refine ⟨u, ι', R', rfl, p1, p2, p3, p4, p5, p6, p7, fun b hb => ?_, p9, p10, p11, fun o ob hm => ?_, key.2⟩
 · obtain ⟨q1, q2⟩ := p8 b hb
   refine ⟨q1, ?_⟩
   rcases q2 with q | q | ⟨o, s, qa, qb⟩
   · exact .inl q
   · exact .inr (.inl q)
   · exfalso
     simp only [look] at qb
     split at qb
     · cases qb
     · cases qb
 · simp only [List.mem_singleton, Prod.mk.injEq] at hm
   obtain ⟨rfl, rfl⟩ := hm
   exact key.1
theorem zn9 {f : FuncId} {args : List AV} {os : Heap} (h : GF P f args os (.acc 0 []) [(0, .acc 0)]) : GF P f args os (.xsl []) [] := by
 intro w R ι us hR hι hinj hob hv
 refine (h w R ι us hR hι hinj hob hv).mono fun e w' => ?_
 rintro ⟨u, ι', R', rfl, p1, p2, p3, p4, p5, p6, p7, p8, p9, p10, p11, p12, p13⟩
 have hmk : mark [(0, Obj.acc 0)] 0 = some 0 := by simp [mark, look]
 have hob := p12 _ _ (.head _)
 have key : ∃ a, u = .slice a 0 0 := by
   generalize hme : mark [(0, Obj.acc 0)] = me at *
   generalize hde : ([] : List D) = ds at p13
   cases p13 with
   | accR _ _ _ _ _ _ hlt => have := hlt _ hmk; omega
   | acc0 => exact ⟨_, rfl⟩
   | @accC _ b s m' cap _ c T hι2 hmk2 _ hL hcap hsz hb hc hel =>
     cases hob with
     | accN hι' => rw [hι2] at hι'; cases hι'
     | acc hpos _ _ _ _ _ => omega
 obtain ⟨a, rfl⟩ := key
 refine ⟨_, ι', R', rfl, p1, p2, p3, p4, p5, p6, p7, fun b hb => ?_, p9, p10, p11, fun o ob hm => (by simp at hm), .xsl .sl0⟩
 obtain ⟨q1, q2⟩ := p8 b hb
 refine ⟨q1, ?_⟩
 rcases q2 with q | q | ⟨o, s, qa, qb⟩
 · exact .inl q
 · exact .inr (.inl q)
 · exfalso
   simp only [look] at qb
   split at qb
   · cases qb
   · cases qb
theorem zx8 {G0 : FuncId → Option AFn} (hG : GOK P G0) (k : Nat) (f : FuncId) : FnOK P f (.ext (rowed G0 k f)) := by
 intro args os r os' h h1 h2
 unfold rowed at h
 split at h
 · rename_i hos
   have hos : os = [] := List.isEmpty_iff.1 hos
   subst hos
   obtain ⟨p, hp, hr⟩ := Option.bind_eq_some_iff.1 h
   obtain ⟨p1, p2⟩ := p
   obtain ⟨q1, q2, q3⟩ := zmF hG k f args [] p1 p2 hp h1 h2
   refine ⟨q1, ?_⟩
   unfold accRow at hr
   split at hr
   · cases hr
     rename_i he
     cases he
     exact ⟨zn9 q2, ⟨fun n hn => by simp [look] at hn, fun i hi => absurd hi (by simp), fun q hq => by simp [AV.refs] at hq, fun n ob h => by simp at h⟩⟩
   · rename_i e es n he
     cases he
     split at hr
     · rename_i hn
       cases hr
       subst hn
       refine ⟨gf_row (by simp) q2, ⟨fun n hn => ?_, fun i hi => absurd hi (by simp), fun q hq => ?_, fun n ob hm q hq => ?_⟩⟩
       · simp only [look] at hn
         split at hn
         · omega
         · cases hn
       · have : q = 0 := by
           simp only [AV.refs] at hq
           first | exact of_decide_eq_true hq | exact (of_decide_eq_true hq).symm | exact (beq_iff_eq.1 hq) | exact (beq_iff_eq.1 hq).symm
         subst this; simp [look]
       · simp only [List.mem_singleton, Prod.mk.injEq] at hm
         obtain ⟨rfl, rfl⟩ := hm
         exfalso
         simp only [Obj.refs] at hq
         generalize (e :: es) = l at hq
         induction l with
         | nil => simp [AV.refsL] at hq
         | cons x l ih => simp only [List.map_cons, AV.refsL, AV.refs, Bool.false_or] at hq; exact ih hq
     · cases hr
   · cases hr
 · cases h
def rowF (F : Sem1) (f : FuncId) (args : List AV) (os : Heap) : Option (AV × Heap) :=
 if os.isEmpty = true then (F f args os).bind accRow else none
theorem zvY {F : Sem1} (hF : FOK P F) (f : FuncId) : FnOK P f (.ext (rowF F f)) := by
 intro args os r os' h h1 h2
 unfold rowF at h
 split at h
 · rename_i hos
   have hos : os = [] := List.isEmpty_iff.1 hos
   subst hos
   obtain ⟨p, hp, hr⟩ := Option.bind_eq_some_iff.1 h
   obtain ⟨p1, p2⟩ := p
   obtain ⟨q1, q2, q3⟩ := hF f args [] p1 p2 hp h1 h2
   refine ⟨q1, ?_⟩
   unfold accRow at hr
   split at hr
   · cases hr
     rename_i he
     cases he
     exact ⟨zn9 q2, ⟨fun n hn => by simp [look] at hn, fun i hi => absurd hi (by simp), fun q hq => by simp [AV.refs] at hq, fun n ob h => by simp at h⟩⟩
   · rename_i e es n he
     cases he
     split at hr
     · rename_i hn
       cases hr
       subst hn
       refine ⟨gf_row (by simp) q2, ⟨fun n hn => ?_, fun i hi => absurd hi (by simp), fun q hq => ?_, fun n ob hm q hq => ?_⟩⟩
       · simp only [look] at hn
         split at hn
         · omega
         · cases hn
       · have : q = 0 := by
           simp only [AV.refs] at hq
           first | exact of_decide_eq_true hq | exact (of_decide_eq_true hq).symm | exact (beq_iff_eq.1 hq) | exact (beq_iff_eq.1 hq).symm
         subst this; simp [look]
       · simp only [List.mem_singleton, Prod.mk.injEq] at hm
         obtain ⟨rfl, rfl⟩ := hm
         exfalso
         simp only [Obj.refs] at hq
         generalize (e :: es) = l at hq
         induction l with
         | nil => simp [AV.refsL] at hq
         | cons x l ih => simp only [List.map_cons, AV.refsL, AV.refs, Bool.false_or] at hq; exact ih hq
     · cases hr
   · cases hr
 · cases h
noncomputable def layer (G : FuncId → Option AFn) (rows done : List FuncId) (f : FuncId) : Option AFn :=
 if rows.contains f then some (.ext (rowF (callL G) f)) else if done.contains f then some (.ext (callL G f)) else G f
theorem ztq {G : FuncId → Option AFn} (hG : GOK P G) (rows done : List FuncId) : GOK P (layer G rows done) := by
 intro f fn h
 unfold layer at h
 split at h
 · cases h; exact zvY (zli hG) f
 · split at h
   · cases h; exact fun args os r os' h1 h2 h3 => zli hG f args os r os' h1 h2 h3
   · exact hG f fn h
theorem zil {G : FuncId → Option AFn} {rows done : List FuncId} {f : FuncId} {args : List AV} {os : Heap} (h : layer G rows done f = some (.ext (callL G f))) : callL (layer G rows done) f args os = callL G f args os := by
 rw [zjs h]
theorem znu {G : FuncId → Option AFn} {rows done : List FuncId} {f : FuncId} {args : List AV} {es : List D} (h : layer G rows done f = some (.ext (rowF (callL G) f))) (h0 : es ≠ []) (hc : callL G f args [] = some (.acc 0 es, [(0, .acc es.length)])) :
   callL (layer G rows done) f args [] = some (.osl 0 0 es.length, [(0, .row (es.map .d))]) := by
 rw [zjs h]
 unfold rowF
 rw [if_pos (by rfl), hc]
 cases es with
 | nil => exact absurd rfl h0
 | cons e es => simp [accRow]
theorem znv {G : FuncId → Option AFn} {rows done : List FuncId} {f : FuncId} {args : List AV} (h : layer G rows done f = some (.ext (rowF (callL G) f))) (hc : callL G f args [] = some (.acc 0 [], [(0, .acc 0)])) :
   callL (layer G rows done) f args [] = some (.xsl [], []) := by
 rw [zjs h]
 unfold rowF
 rw [if_pos (by rfl), hc]
 simp [accRow]
end Go.Sim
