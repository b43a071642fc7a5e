/-
  Part of the calculus in which the claim is proved: Codes that are reckoned where they are defined
-/
import Derived.Test.YtcjncbkhbllchaaGreatB0e9576a
import Derived.Test.YtcjncbkhbllchaaGreatB21f0e28
import Derived.KernelRfl
set_option linter.unusedSimpArgs false
set_option linter.unusedVariables false
set_option maxHeartbeats 10000000
set_option maxRecDepth 100000
namespace Go.Sim
variable {G : FuncId → Option AFn} {F : Sem1} {E : Env} {H : Heap}
theorem x_skip : exL G .skip ⟨E, H⟩ = some (.normal, ⟨E, H⟩) := zvB
theorem zvf {ks : List Nat} : endS ks ⟨E, H⟩ = gcS ⟨sortE (keepE ks E), H⟩ := rfl
theorem gcS_ap : gcS ⟨E, H⟩ = ⟨E, gc1 E H⟩ := rfl
theorem x_exit {i : Nat} {ks : List Nat} : exL G (.exit i ks) ⟨E, H⟩ = some (.exit i, endS ks ⟨E, H⟩) := zvx
theorem x_ret {ks : List Nat} : exL G (.ret ks) ⟨E, H⟩ = some (.ret, endS ks ⟨E, H⟩) := zvz
theorem x_ops {gs : List Nat} {l : List AOper} {ks : List Nat} : exL G (.ops gs l ks) ⟨E, H⟩ = ((ghosts gs ⟨E, H⟩).bind (execOps (callL G) l)).map (killS ks) := zvy
theorem x_draw {gs : List Nat} {l : List AOper} {fr : List (List Nat)} {ks : List Nat} : exL G (.draw gs l fr ks) ⟨E, H⟩ = ((ghosts gs ⟨E, H⟩).bind (drawF (callL G) l fr)).map (killS ks) := zvw
theorem x_seq {x y : ACode} : exL G (.seq x y) ⟨E, H⟩ = (exL G x ⟨E, H⟩).bind (seqF (exL G y)) := zvA
theorem x_cond {c : Opd} {x y : ACode} : exL G (.cond c x y) ⟨E, H⟩ = condF (c.ev E) (exL G x ⟨E, H⟩) (exL G y ⟨E, H⟩) := zvv
noncomputable def condE (G : FuncId → Option AFn) (x y : ACode) (E : Env) (H : Heap) : AV → Option (AExit × St)
 | .d (.bool b) => if b = true then exL G x ⟨E, H⟩ else exL G y ⟨E, H⟩
 | _ => none
theorem x_cond' {c : Opd} {x y : ACode} : exL G (.cond c x y) ⟨E, H⟩ = condE G x y E H (c.ev E) := by
 rw [x_cond]
 unfold condF condE
 generalize c.ev E = v
 split <;> simp_all
theorem zuw {b : Bool} {x y : ACode} : condE G x y E H (.d (.bool b)) = if b = true then exL G x ⟨E, H⟩ else exL G y ⟨E, H⟩ := rfl
theorem zB6 {id : Nat} {x : ACode} : exL G (.block id x) ⟨E, H⟩ = (exL G x ⟨E, H⟩).map (blockF id) := zvu
theorem x_loop {ks : List Nat} {x : ACode} : exL G (.loop ks x) ⟨E, H⟩ = loopL G ks x (norm ks ⟨E, H⟩) := rfl
theorem zww {S : St} : ghosts [] S = some S := rfl
theorem zwv {g : Nat} {gs : List Nat} : ghosts (g :: gs) ⟨E, H⟩ = (ghost1 g ⟨E, H⟩).bind (ghosts gs) := rfl
theorem zxh {ks : List Nat} : killS ks ⟨E, H⟩ = (.normal, ⟨killEnv ks E, H⟩) := rfl
theorem zys {ks : List Nat} : norm ks ⟨E, H⟩ = norm1 ⟨killEnv ks E, H⟩ := rfl
theorem zyr : norm1 ⟨E, H⟩ = ⟨sortE (deX E), sortH (gc1 E (gc1 E H))⟩ := rfl
theorem seqF_n {g : St → Option (AExit × St)} {S : St} : seqF g (.normal, S) = g S := rfl
theorem seqF_e {g : St → Option (AExit × St)} {i : Nat} {S : St} : seqF g (.exit i, S) = some (.exit i, S) := rfl
theorem seqF_r {g : St → Option (AExit × St)} {S : St} : seqF g (.ret, S) = some (.ret, S) := rfl
theorem zxI {ks : List Nat} {g : St → Option (AExit × St)} {S : St} : loopF ks g (.normal, S) = g (norm ks S) := rfl
theorem zxH {ks : List Nat} {g : St → Option (AExit × St)} {i : Nat} {S : St} : loopF ks g (.exit i, S) = some (.exit i, S) := rfl
theorem zxJ {ks : List Nat} {g : St → Option (AExit × St)} {S : St} : loopF ks g (.ret, S) = some (.ret, S) := rfl
theorem ztY {id : Nat} {S : St} : blockF id (.normal, S) = (.normal, S) := rfl
theorem ztX {id i : Nat} {S : St} : blockF id (.exit i, S) = if i = id then (.normal, S) else (.exit i, S) := rfl
theorem ztZ {id : Nat} {S : St} : blockF id (.ret, S) = (.ret, S) := rfl
def reAt (t : Nat) (v : AV) : Env → Env
 | [] => []
 | (j, x) :: l => if j = t then (j, v) :: l else (j, x) :: reAt t v l
theorem zoT {t : Nat} {v : AV} : ∀ {E : Env}, look t E = some v → reAt t v E = E := by
 intro E
 induction E with
 | nil => intro h; cases h
 | cons p l ih =>
  obtain ⟨j, x⟩ := p
  intro h
  simp only [look] at h
  simp only [reAt]
  split
  · rename_i e; rw [if_pos e] at h; cases h; rfl
  · rename_i e; rw [if_neg e] at h; rw [ih h]
def guardE {α : Type} (v : Option AV) (k j : Bool → Option α) : Option α :=
 match v with
 | some (.d (.bool true)) => k true
 | some (.d (.bool false)) => k false
 | _ => none
theorem o_nil : execOps F [] ⟨E, H⟩ = some ⟨E, H⟩ := rfl
theorem o_one {d : Option Nat} {op : AOp} {l : List AOper} : execOps F (⟨d, op, none⟩ :: l) ⟨E, H⟩ = (stepS F ⟨d, op, none⟩ ⟨E, H⟩).bind (execOps F l) := rfl
def gOps (F : Sem1) (d : Option Nat) (op : AOp) (b : Bool) (l : List AOper) (E : Env) (H : Heap) (c : Bool) : Option St := if c = b then (stepS F ⟨d, op, none⟩ ⟨E, H⟩).bind (execOps F l) else execOps F l (St.put ⟨E, H⟩ d (.d (.tup [])))
theorem gOps_t {d : Option Nat} {op : AOp} {l : List AOper} : gOps F d op true l E H true = (stepS F ⟨d, op, none⟩ ⟨E, H⟩).bind (execOps F l) := rfl
theorem gOps_f {d : Option Nat} {op : AOp} {l : List AOper} : gOps F d op false l E H false = (stepS F ⟨d, op, none⟩ ⟨E, H⟩).bind (execOps F l) := rfl
theorem gOps_n {d : Option Nat} {op : AOp} {l : List AOper} : gOps F d op true l E H false = execOps F l (St.put ⟨E, H⟩ d (.d (.tup []))) := rfl
theorem gOps_m {d : Option Nat} {op : AOp} {l : List AOper} : gOps F d op false l E H true = execOps F l (St.put ⟨E, H⟩ d (.d (.tup []))) := rfl
def gAsk (F : Sem1) (d : Option Nat) (op : AOp) (t : Nat) (b : Bool) (l : List AOper) (E : Env) (H : Heap) (v : Option AV) : Option St :=
 match v with
 | some (.d (.bool c)) => if c = true then gOps F d op b l (reAt t (.d (.bool true)) E) H true else gOps F d op b l (reAt t (.d (.bool false)) E) H false
 | some (.d (.tup [])) => execOps F l (St.put ⟨E, H⟩ d (.d (.tup [])))
 | _ => none
theorem gAsk_s {d : Option Nat} {op : AOp} {t : Nat} {b : Bool} {l : List AOper} : gAsk F d op t b l E H (some (.d (.tup []))) = execOps F l (St.put ⟨E, H⟩ d (.d (.tup []))) := rfl
theorem gAsk_b {d : Option Nat} {op : AOp} {t : Nat} {b c : Bool} {l : List AOper} : gAsk F d op t b l E H (some (.d (.bool c))) = if c = true then gOps F d op b l (reAt t (.d (.bool true)) E) H true else gOps F d op b l (reAt t (.d (.bool false)) E) H false := rfl
theorem zyu {d : Option Nat} {op : AOp} {l : List AOper} {t : Nat} {b : Bool} : execOps F (⟨d, op, some (t, b)⟩ :: l) ⟨E, H⟩ = gAsk F d op t b l E H (look t E) := by
 simp only [execOps, gAsk]
 generalize hv : look t E = v
 split
 · rename_i c
   cases c with
   | true => simp only [zoT hv, if_true]; rfl
   | false => simp only [zoT hv, Bool.false_eq_true, if_false]; rfl
 · rfl
 · rename_i hno hno2
   split
   · exact absurd rfl (hno _)
   · exact absurd rfl hno2
   · rfl
theorem d_ap {l : List AOper} {fr : List (List Nat)} : drawF F l fr ⟨E, H⟩ = if (nodupK E && nodupK H && freshFor l ⟨E, H⟩) = true then execDraw F l fr [] ⟨E, H⟩ else none := rfl
theorem d_nil {fr : List (List Nat)} {acc : List (List Nat × List Nat)} : execDraw F [] fr acc ⟨E, H⟩ = some ⟨E, H⟩ := rfl
theorem d_one {d : Option Nat} {op : AOp} {l : List AOper} {f : List Nat} {fr : List (List Nat)} {acc : List (List Nat × List Nat)} : execDraw F (⟨d, op, none⟩ :: l) (f :: fr) acc ⟨E, H⟩ = (drawTake F ⟨d, op, none⟩ (f :: fr) acc ⟨E, H⟩).bind (execDraw F l fr (acc ++ [op.feet E H (d.getD 0)])) := rfl
def dOps (F : Sem1) (d : Option Nat) (op : AOp) (t : Nat) (b : Bool) (l : List AOper) (f : List Nat) (fr : List (List Nat)) (acc : List (List Nat × List Nat)) (E : Env) (H : Heap) (c : Bool) : Option St :=
 if c = b then (drawTake F ⟨d, op, none⟩ (f :: fr) acc ⟨E, H⟩).bind (execDraw F l fr (acc ++ [op.feet E H (d.getD 0)])) else (drawSkip ⟨d, op, some (t, b)⟩ (f :: fr) acc ⟨E, H⟩).bind (execDraw F l fr (acc ++ [([], [])]))
theorem dOps_t {d : Option Nat} {op : AOp} {t : Nat} {l : List AOper} {f : List Nat} {fr : List (List Nat)} {acc : List (List Nat × List Nat)} : dOps F d op t true l f fr acc E H true = (drawTake F ⟨d, op, none⟩ (f :: fr) acc ⟨E, H⟩).bind (execDraw F l fr (acc ++ [op.feet E H (d.getD 0)])) := rfl
theorem dOps_f {d : Option Nat} {op : AOp} {t : Nat} {l : List AOper} {f : List Nat} {fr : List (List Nat)} {acc : List (List Nat × List Nat)} : dOps F d op t false l f fr acc E H false = (drawTake F ⟨d, op, none⟩ (f :: fr) acc ⟨E, H⟩).bind (execDraw F l fr (acc ++ [op.feet E H (d.getD 0)])) := rfl
theorem dOps_n {d : Option Nat} {op : AOp} {t : Nat} {l : List AOper} {f : List Nat} {fr : List (List Nat)} {acc : List (List Nat × List Nat)} : dOps F d op t true l f fr acc E H false = (drawSkip ⟨d, op, some (t, true)⟩ (f :: fr) acc ⟨E, H⟩).bind (execDraw F l fr (acc ++ [([], [])])) := rfl
theorem dOps_m {d : Option Nat} {op : AOp} {t : Nat} {l : List AOper} {f : List Nat} {fr : List (List Nat)} {acc : List (List Nat × List Nat)} : dOps F d op t false l f fr acc E H true = (drawSkip ⟨d, op, some (t, false)⟩ (f :: fr) acc ⟨E, H⟩).bind (execDraw F l fr (acc ++ [([], [])])) := rfl
def dAsk (F : Sem1) (d : Option Nat) (op : AOp) (t : Nat) (b : Bool) (l : List AOper) (f : List Nat) (fr : List (List Nat)) (acc : List (List Nat × List Nat)) (E : Env) (H : Heap) (v : Option AV) : Option St :=
 match v with
 | some (.d (.bool c)) => if c = true then dOps F d op t b l f fr acc (reAt t (.d (.bool true)) E) H true else dOps F d op t b l f fr acc (reAt t (.d (.bool false)) E) H false
 | some (.d (.tup [])) => (drawSkip ⟨d, op, some (t, b)⟩ (f :: fr) acc ⟨E, H⟩).bind (execDraw F l fr (acc ++ [([], [])]))
 | _ => none
theorem dAsk_b {d : Option Nat} {op : AOp} {t : Nat} {b c : Bool} {l : List AOper} {f : List Nat} {fr : List (List Nat)} {acc : List (List Nat × List Nat)} : dAsk F d op t b l f fr acc E H (some (.d (.bool c))) =
    if c = true then dOps F d op t b l f fr acc (reAt t (.d (.bool true)) E) H true else dOps F d op t b l f fr acc (reAt t (.d (.bool false)) E) H false := rfl
theorem zuM {d : Option Nat} {op : AOp} {l : List AOper} {f : List Nat} {fr : List (List Nat)} {acc : List (List Nat × List Nat)} {t : Nat} {b : Bool} : execDraw F (⟨d, op, some (t, b)⟩ :: l) (f :: fr) acc ⟨E, H⟩ = dAsk F d op t b l f fr acc E H (look t E) := by
 simp only [execDraw, dAsk]
 generalize hv : look t E = v
 split
 · rename_i c
   cases c with
   | true => simp only [zoT hv, if_true]; rfl
   | false => simp only [zoT hv, Bool.false_eq_true, if_false]; rfl
 · rfl
 · rename_i hno hno2
   split
   · exact absurd rfl (hno _)
   · exact absurd rfl hno2
   · rfl
theorem dt_ap {d : Option Nat} {op : AOp} {f : List Nat} {fr : List (List Nat)} {acc : List (List Nat × List Nat)} : drawTake F ⟨d, op, none⟩ (f :: fr) acc ⟨E, H⟩ = if clashless f acc (op.feet E H (d.getD 0)) = true then stepS F ⟨d, op, none⟩ ⟨E, H⟩ else none := rfl
theorem ds_ap {x : AOper} {f : List Nat} {fr : List (List Nat)} {acc : List (List Nat × List Nat)} : drawSkip x (f :: fr) acc ⟨E, H⟩ = if clashless f acc ([], []) = true then some (St.put ⟨E, H⟩ x.dst (.d (.tup []))) else none := rfl
theorem put_s {d : Nat} {v : AV} : St.put ⟨E, H⟩ (some d) v = ⟨setAt d v E, H⟩ := rfl
def putO (E : Env) (d : Option Nat) (r : Option (AV × Heap)) : Option St := r.map fun p => St.put ⟨E, p.2⟩ d p.1
theorem putO_n {v : AV} : putO E none (some (v, H)) = some ⟨E, H⟩ := rfl
theorem putO_s {d : Nat} {v : AV} : putO E (some d) (some (v, H)) = some ⟨setAt d v E, H⟩ := rfl
theorem s_ap {d : Option Nat} {op : AOp} {g : Option (Nat × Bool)} : stepS F ⟨d, op, g⟩ ⟨E, H⟩ = putO E d (step F E H (d.getD 0) op) := rfl
variable {dst : Nat}
theorem zA0 {ng : Bool} {x : Opd} : step F E H dst (.nileq ng x) = nileqA H ng (x.ev E) := rfl
theorem zuf {g : FuncId} {cs : List D} {ms : List Bool} {args : List AV} : callvA F E H dst ms (.d (.fn g cs)) args = callA F E H dst ms g (args ++ cs.map .d) := rfl
theorem zue {v : AV} {δ : Heap} : callS H (some (v, δ)) = some (v, putsH δ H) := rfl
theorem zu8 {ms : List Bool} {f : FuncId} {args : List AV} : callA F E H dst ms f args = if frzF ms args.length = true then (callArgs H ms args).bind (frzB F E H dst ms f (dataObjs ms args)) else callA0 F E H dst ms f args := rfl
theorem zu6 {ms : List Bool} {f : FuncId} {args : List AV} : callA0 F E H dst ms f args = (callArgs H ms args).bind (callB F E H dst (namesOf H ms args) (dataObjs ms args) f) := rfl
theorem zwn {ms : List Bool} {f : FuncId} {dob : List Nat} {as : List AV} : frzB F E H dst ms f dob as = if frzOk H dob = true then (callA0 F E (putsH (frzL H dob) H) dst ms f as).map fun p => (p.1, p.2 ++ frzL H dob) else none := rfl
theorem zuO (ds : List D) : dataObjs [] (ds.map .d) = [] := by
 induction ds with
 | nil => rfl
 | cons d ds ih => simp only [List.map_cons, dataObjs, ih, AV.objs, List.append_nil]
theorem zlH {f : FuncId} {ds : List D} : callA F E H dst [] f (ds.map .d) = (F f (ds.map .d) []).bind (callC E H dst [] []) := by
 have h1 : callArgs H [] (ds.map .d) = some (ds.map .d) := by
  induction ds with
  | nil => rfl
  | cons d ds ih => simp only [List.map_cons, callArgs, ih, toD, Option.bind_some, Option.map_some]
 have h2 : keptObjs [] (ds.map .d) = [] := by cases ds <;> rfl
 have h3 := zuO ds
 have h4 : (ds.map AV.d).map (AV.ren (toCallee [])) = ds.map .d := by
  rw [List.map_map]; exact List.map_congr_left fun _ _ => rfl
 unfold callA
 rw [if_neg (by simp [frzF])]
 unfold callA0
 rw [h1, h3]
 simp only [Option.bind_some, namesOf, h2, addNew, reach, List.flatMap_nil, callB, okNames, List.all_nil, disjL, Bool.and_self, if_true, h4, osOf, List.map_nil]
theorem ca0 {f : FuncId} : callA F E H dst [] f [] = (F f [] []).bind (callC E H dst [] []) := zlH (ds := [])
theorem ca1 {f : FuncId} {a : D} : callA F E H dst [] f [.d a] = (F f [.d a] []).bind (callC E H dst [] []) := zlH (ds := [a])
theorem ca2 {f : FuncId} {a b : D} : callA F E H dst [] f [.d a, .d b] = (F f [.d a, .d b] []).bind (callC E H dst [] []) := zlH (ds := [a, b])
theorem ca3 {f : FuncId} {a b c : D} : callA F E H dst [] f [.d a, .d b, .d c] = (F f [.d a, .d b, .d c] []).bind (callC E H dst [] []) := zlH (ds := [a, b, c])
theorem ca4 {f : FuncId} {a b c d : D} : callA F E H dst [] f [.d a, .d b, .d c, .d d] = (F f [.d a, .d b, .d c, .d d] []).bind (callC E H dst [] []) := zlH (ds := [a, b, c, d])
theorem ca5 {f : FuncId} {a b c d e : D} : callA F E H dst [] f [.d a, .d b, .d c, .d d, .d e] = (F f [.d a, .d b, .d c, .d d, .d e] []).bind (callC E H dst [] []) := zlH (ds := [a, b, c, d, e])
theorem cv1 {f : FuncId} {a : D} {cs : List D} : callA F E H dst [] f (.d a :: cs.map .d) = (F f (.d a :: cs.map .d) []).bind (callC E H dst [] []) := zlH (ds := a :: cs)
theorem zy3 {c : Prop} [Decidable c] {e : AExit} {t : Nat} {x y : Bool} : (if c then some (e, (⟨(t, .d (.bool x)) :: E, H⟩ : St)) else some (e, ⟨(t, .d (.bool y)) :: E, H⟩)) = some (e, ⟨(t, .d (.bool (if c then x else y))) :: E, H⟩) := by split <;> rfl
theorem zxd {c x : Bool} : (if c = true then x else false) = (c && x) := by cases c <;> rfl
theorem ite_or {c x : Bool} : (if c = true then true else x) = (c || x) := by cases c <;> rfl
theorem ztW {α β : Type} {c : Prop} [Decidable c] {x y : Option α} {k : α → Option β} : (if c then x else y).bind k = if c then x.bind k else y.bind k := by split <;> rfl
theorem zxR {α β : Type} {c : Prop} [Decidable c] {x y : Option α} {k : α → β} : (if c then x else y).map k = if c then x.map k else y.map k := by split <;> rfl
theorem zw2 {sl : Bool} {rs : List ARes} {os : Heap} {S : St} : finish sl rs os (.normal, S) = (resA S rs).bind (finishV sl os S) := rfl
theorem zw3 {sl : Bool} {rs : List ARes} {os : Heap} {S : St} : finish sl rs os (.ret, S) = (resA S rs).bind (finishV sl os S) := rfl
theorem zw1 {os : Heap} {S : St} {v : AV} : finishV true os S v = (toD S.heap v).bind (sealV os S v) := rfl
theorem zw0 {os : Heap} {S : St} {v : AV} : finishV false os S v = finishN os S v (outNames S.heap os v) := rfl
theorem s_mv {x : Opd} : step F E H dst (.mv x) = astep E H dst (.mv x) := rfl
theorem f_mv {x : Opd} : AOp.feet E H dst (.mv x) = (toks (AOp.foot E dst (.mv x)), toks (AOp.wr E dst (.mv x))) := rfl
theorem s_pick {c a b : Opd} : step F E H dst (.pick c a b) = astep E H dst (.pick c a b) := rfl
theorem f_pick {c a b : Opd} : AOp.feet E H dst (.pick c a b) = (toks (AOp.foot E dst (.pick c a b)), toks (AOp.wr E dst (.pick c a b))) := rfl
theorem zzZ {z : AV} : step F E H dst (.alloc z) = astep E H dst (.alloc z) := rfl
theorem zvL {z : AV} : AOp.feet E H dst (.alloc z) = (toks (AOp.foot E dst (.alloc z)), toks (AOp.wr E dst (.alloc z))) := rfl
theorem s_box {x : Opd} : step F E H dst (.box x) = astep E H dst (.box x) := rfl
theorem zvM {z : List AV} {ps : List (Nat × Nat × Opd)} : AOp.feet E H dst (.build z ps) = (toks (AOp.foot E dst (.build z ps)), toks (AOp.wr E dst (.build z ps))) := rfl
theorem f_bsl {len n : Nat} {z : AV} {ps : List (Nat × Opd)} : AOp.feet E H dst (.bsl len n z ps) = (toks (AOp.foot E dst (.bsl len n z ps)), toks (AOp.wr E dst (.bsl len n z ps))) := rfl
theorem f_ld {ag : Bool} {n : Nat} {p : Opd} : AOp.feet E H dst (.ld ag n p) = (toks (AOp.foot E dst (.ld ag n p)), toks (AOp.wr E dst (.ld ag n p))) := rfl
theorem s_mkm : step F E H dst .mkm = astep E H dst .mkm := rfl
theorem f_st {n : Nat} {p x : Opd} : AOp.feet E H dst (.st n p x) = (toks (AOp.foot E dst (.st n p x)), evens (AOp.wr E dst (.st n p x))) := rfl
theorem s_nilc {x : Opd} : step F E H dst (.nilc x) = astep E H dst (.nilc x) := rfl
theorem f_nilc {x : Opd} : AOp.feet E H dst (.nilc x) = (toks (AOp.foot E dst (.nilc x)), toks (AOp.wr E dst (.nilc x))) := rfl
theorem f_bin {op : BinOp} {x y : Opd} : AOp.feet E H dst (.bin op x y) = (toks (AOp.foot E dst (.bin op x y)), toks (AOp.wr E dst (.bin op x y))) := rfl
theorem s_eqb {ng : Bool} {x y : Opd} : step F E H dst (.eqb ng x y) = astep E H dst (.eqb ng x y) := rfl
theorem f_eqb {ng : Bool} {x y : Opd} : AOp.feet E H dst (.eqb ng x y) = (toks (AOp.foot E dst (.eqb ng x y)), toks (AOp.wr E dst (.eqb ng x y))) := rfl
theorem f_eqs {ng : Bool} {n : Nat} {ls : List (Nat × Nat)} {x y : Opd} : AOp.feet E H dst (.eqs ng n ls x y) = (toks (AOp.foot E dst (.eqs ng n ls x y)), toks (AOp.wr E dst (.eqs ng n ls x y))) := rfl
theorem s_nacc  : step F E H dst (.nacc) = astep E H dst (.nacc) := rfl
theorem s_un {op : UnOp} {x : Opd} : step F E H dst (.un op x) = astep E H dst (.un op x) := rfl
theorem f_un {op : UnOp} {x : Opd} : AOp.feet E H dst (.un op x) = (toks (AOp.foot E dst (.un op x)), toks (AOp.wr E dst (.un op x))) := rfl
theorem s_cvi {k : IntKind} {x : Opd} : step F E H dst (.cvi k x) = astep E H dst (.cvi k x) := rfl
theorem f_fad {ag : Bool} {off n : Nat} {x : Opd} : AOp.feet E H dst (.fad ag off n x) = (toks (AOp.foot E dst (.fad ag off n x)), toks (AOp.wr E dst (.fad ag off n x))) := rfl
theorem f_iad {n : Nat} {x i : Opd} : AOp.feet E H dst (.iad n x i) = (odds (AOp.foot E dst (.iad n x i)), []) := rfl
theorem f_slc {n : Nat} {x : Opd} {lo hi mx : Option Opd} : AOp.feet E H dst (.slc n x lo hi mx) = (toks (AOp.foot E dst (.slc n x lo hi mx)), toks (AOp.wr E dst (.slc n x lo hi mx))) := rfl
theorem f_sls {x : Opd} {lo hi : Option Opd} : AOp.feet E H dst (.sls x lo hi) = (toks (AOp.foot E dst (.sls x lo hi)), toks (AOp.wr E dst (.sls x lo hi))) := rfl
theorem f_ext {x : Opd} {i : Nat} : AOp.feet E H dst (.ext x i) = (toks (AOp.foot E dst (.ext x i)), toks (AOp.wr E dst (.ext x i))) := rfl
theorem f_len {x : Opd} : AOp.feet E H dst (.len x) = (toks (AOp.foot E dst (.len x)), toks (AOp.wr E dst (.len x))) := rfl
theorem s_lens {x : Opd} : step F E H dst (.lens x) = astep E H dst (.lens x) := rfl
theorem f_app {n : Nat} {x y : Opd} : AOp.feet E H dst (.app n x y) = (toks (AOp.foot E dst (.app n x y)), toks (AOp.wr E dst (.app n x y))) := rfl
theorem f_mm {mx : Bool} {xs : List Opd} : AOp.feet E H dst (.mm mx xs) = (toks (AOp.foot E dst (.mm mx xs)), toks (AOp.wr E dst (.mm mx xs))) := rfl
theorem s_mks {n : Nat} {z : AV} {l c : Opd} : step F E H dst (.mks n z l c) = astep E H dst (.mks n z l c) := rfl
theorem zAf {k : IntKind} {n : Int} : D.size (.int k n) = 1 := rfl
theorem zui {k : IntKind} {n : Int} : D.cells (.int k n) = [(.int k n)] := rfl
theorem zAe {b : Bool} : D.size (.bool b) = 1 := rfl
theorem zuh {b : Bool} : D.cells (.bool b) = [(.bool b)] := rfl
theorem zAh {s : List UInt8} : D.size (.str s) = 1 := rfl
theorem zuk {s : List UInt8} : D.cells (.str s) = [(.str s)] := rfl
theorem zAg {es : List D} : D.size (.sl es) = 1 := rfl
theorem zuj {es : List D} : D.cells (.sl es) = [(.sl es)] := rfl
theorem size_agg {cs : List D} : D.size (.agg cs) = cs.length := rfl
theorem zug {cs : List D} : D.cells (.agg cs) = cs := rfl
theorem ztK {cs : List D} : D.asAgg (.agg cs) = .agg cs := rfl
theorem ztO {x : D} : AV.size (.d x) = x.size := rfl
theorem ztA {x : D} : AV.cells (.d x) = x.cells.map .d := rfl
theorem ztP {o off len : Nat} : AV.size (.osl o off len) = 1 := rfl
theorem ztB {o off len : Nat} : AV.cells (.osl o off len) = [(.osl o off len)] := rfl
theorem ztM {o : Nat} {es : List D} : AV.size (.acc o es) = 1 := rfl
theorem zty {o : Nat} {es : List D} : AV.cells (.acc o es) = [(.acc o es)] := rfl
theorem ztQ {es : List D} : AV.size (.xsl es) = 1 := rfl
theorem ztC {es : List D} : AV.cells (.xsl es) = [(.xsl es)] := rfl
theorem ztN {cs : List AV} : AV.size (.agg cs) = cs.length := rfl
theorem ztz {cs : List AV} : AV.cells (.agg cs) = cs := rfl
section
variable {k : IntKind} {a b : Int}
def andI (k : IntKind) (a b : Int) : Int := k.wrap (BitVec.ofInt k.bits a &&& BitVec.ofInt k.bits b).toNat
def xorI (k : IntKind) (a b : Int) : Int := k.wrap (BitVec.ofInt k.bits a ^^^ BitVec.ofInt k.bits b).toNat
theorem ib_add : intBin .add k a b = some (.int k (k.wrap (a + b))) := rfl
theorem ib_sub : intBin .sub k a b = some (.int k (k.wrap (a - b))) := rfl
theorem ib_mul : intBin .mul k a b = some (.int k (k.wrap (a * b))) := rfl
theorem ib_quo : intBin .quo k a b = if b = 0 then none else some (.int k (k.wrap (a.tdiv b))) := rfl
theorem ib_rem : intBin .rem k a b = if b = 0 then none else some (.int k (a.tmod b)) := rfl
theorem ib_eql : intBin .eql k a b = some (.bool (decide (a = b))) := rfl
theorem ib_neq : intBin .neq k a b = some (.bool (!decide (a = b))) := rfl
theorem ib_lss : intBin .lss k a b = some (.bool (decide (a < b))) := rfl
theorem ib_leq : intBin .leq k a b = some (.bool (decide (a ≤ b))) := rfl
theorem ib_gtr : intBin .gtr k a b = some (.bool (decide (b < a))) := rfl
theorem ib_geq : intBin .geq k a b = some (.bool (decide (b ≤ a))) := rfl
theorem ib_and : intBin .and k a b = some (.int k (andI k a b)) := rfl
theorem ib_xor : intBin .xor k a b = some (.int k (xorI k a b)) := rfl
end
theorem zvn {ng : Bool} {n : Nat} {ls : List (Nat × Nat)} {a b : List D} : eqsV H ng n ls (.d (.agg a)) (.d (.agg b)) = if a.length = n ∧ b.length = n then retB H ng (eqCells a b ls) else none := rfl
attribute [go_sem] atlC atlE atlO atlV atsF atsI atsX
attribute [go_sem] s_mkm s_lkp' s_mup' lkpR lkpO lkpI lkpV mupO mupY mupI mupV
theorem zyO {x : AV} {off : Nat} {v : AV} : over x off v = if off = 0 ∧ v.size = x.size then some v else if off + v.size ≤ x.size then some (AV.mkAgg (splice x.cells off v.cells)) else none := rfl
attribute [go_sem] x_skip x_exit x_ret x_ops x_draw x_seq x_cond' zuw zB6 x_loop zww zwv zxh zys zyr deX deX1 zvf gcS_ap keepE seqF_n seqF_e seqF_r zxI zxH zxJ ztY ztX ztZ gOps_t gOps_f gOps_n gOps_m gAsk_b gAsk_s dOps_t dOps_f dOps_n dOps_m dAsk_b reAt zy3 zxd ite_or ztW zxR o_nil o_one zyu d_ap d_nil d_one zuM dt_ap ds_ap put_s putO_n putO_s s_ap zA0 zuf zue zw2 zw3 zw1 zw0 s_mv s_pick zzZ s_box s_nilc s_eqb s_nacc s_un s_cvi s_lens s_mks f_mv f_pick zvL zvM f_bsl f_ld f_st f_nilc f_bin f_eqb f_eqs f_un f_fad f_iad f_slc f_sls f_ext f_len f_app f_mm zAf zui zAe zuh zAh zuk zAg zuj size_agg zug ztK ztO ztA ztP ztB ztM zty ztQ ztC ztN ztz List.map_append astep Opd.ev List.map_cons List.map_nil Go.Sim.look setAt without Option.getD_some Option.getD_none binD ib_add ib_sub ib_mul ib_quo ib_rem ib_eql ib_neq ib_lss ib_leq ib_gtr ib_geq ib_and ib_xor shiftBin strBin Option.map_some Option.map_none Option.bind_some Option.bind_none killEnv List.contains_cons List.contains_nil Bool.or_true Bool.true_or Bool.or_false Bool.false_or Bool.or_self Bool.false_eq_true Bool.true_eq_false Nat.zero_add Nat.add_zero beq_self_eq_true refsEnv refsHeap AV.refs AV.refsL Obj.refs Bool.and_true Bool.true_and Bool.and_false Bool.false_and Bool.and_self and_self and_true true_and partD partA List.getElem?_cons_zero List.getElem?_cons_succ List.getElem?_nil List.length_cons List.length_nil List.drop_zero List.drop_succ_cons List.take_succ_cons List.take_zero zyO splice AV.mkAgg AV.mkTup AV.mkFn allD zzD zzC zzE resL consP consP.consQ tupO res_c res_t resO toD toD.toDs idxOf slD ne_eq not_true_eq_false not_false_eq_true Nat.succ_ne_self Bool.not_true Bool.not_false eq_self_iff_true nodupK AOp.foot AOp.wr AOp.looks AOp.news AOp.opds objsOf AV.objs AV.objsL List.all_cons List.all_nil List.any_cons List.any_nil List.headD_cons List.headD_nil List.tail_cons List.tail_nil List.nil_append List.cons_append List.append_nil fillE unX unX0 unXL fillA List.set_cons_zero List.set_cons_succ Nat.lt_add_one Nat.zero_lt_one Nat.one_lt_two Nat.zero_lt_succ indep AOper.newNames fr4 callFeet callFeet0 callFeetT callvFeet toks callArgs dataObjs keptObjs namesOf reach addNew rowObjs toCallee pos AV.ren AV.renL Obj.ren callB callC AV.flat AV.flatL Obj.flat D.flat D.flatL putsH mmD bytesD finishN sealV outNames outName frs ghost1 toRow toRow1 toRow2 nilEnv nilV toAcc toAcc1 toAcc2 nilOEnv nilO toNm toNm1 toDat toDat1 datEnv datV datO renEnv rnm Option.isNone_some Option.isNone_none findAcc rowV accV sortE insE sortH gc1 gc nileqA eqCells eqCell List.flatMap_nil List.flatMap_cons List.filter_nil List.filter_cons List.getD_cons_zero List.getD_cons_succ decide_true decide_false if_true if_false List.isEmpty_nil List.isEmpty_cons zyB okN okN1 subB zyM osN zwl zwk zwe flatH zv2 zv1 zzx zzw zyz zyy zvt zvs zv4 zv3 clash1 zup zuo freshNs zwj zwi zzU zzT ztx ztw enterN zvg zwu zwt okO1 okO zyC okG1 okG zyA outN zyN evs evO evB evF szF retA retD retB dO pdO peO ldE ldO ldV s_ld' fadV s_fad' szR szP szD iadO iadV iadI s_iad' stF stE stO stV s_st' s_clr' clrV clrO fldV binV s_bin' zvn s_eqs' idxB idxV s_idx' bdI bd slM xslM accM slL slH xslL xslH accL accH oslO oslL oslH oslM slcV s_slc' slsL slsH slsV s_sls' extV s_ext' lenO lenV s_len' mmV s_mm' s_mkfn' buildV s_build' bslD bslE s_bsl' b2sB b2sV s_b2s' srcO srcO.srcL srcV appO appV appY s_app' s_call' s_callv' f_call' f_callv'
theorem ztF {n : Nat} : allSize n [] = true := rfl
theorem znq {n : Nat} {e : D} {es : List D} : allSize n (e :: es) = (e.size == n && allSize n es) := rfl
theorem ztE {n : Nat} {es fs : List D} : allSize n (es ++ fs) = (allSize n es && allSize n fs) := by simp [allSize]
theorem allD_d {ds : List D} : allD (ds.map .d) = some ds := zlb ds
theorem tc_0 {ns : List Nat} : toCaller ns dst 0 = dst := by simp [toCaller]
theorem tc_at {ns : List Nat} {n : Nat} (h : ¬ n < 1000000) : toCaller ns dst n = ns.getD (n - 1000000) 0 := by unfold toCaller; rw [if_neg h]
theorem tc_a0 {ns : List Nat} {a : Nat} : toCaller (a :: ns) dst 1000000 = a := by rw [tc_at (by omega)]; rfl
attribute [go_sem] tc_0 tc_a0
attribute [go_sem] nilC nilCs nilE nilEs nilOb nilHp nilS
attribute [go_sem] okC rowC okCs rowCs okE rowE okEs rowEs okHp rowHp findAccC orE findAccE findAccH findAcc2 toRow3
attribute [go_sem] zsJ zyv ztF znq ztE allD_d
attribute [go_sem high] ca0 ca1 ca2 ca3 ca4 ca5 cv1
attribute [go_sem low] zu8 zu6
attribute [go_sem] zwn frzF zwp zwo zwr zwq mark List.drop_nil Option.isSome_some Option.isSome_none
def D.isT : D → Bool
 | .tup _ => true
 | _ => false
theorem zx7 {x : D} : isTup (.d x) = x.isT := by cases x <;> rfl
theorem zx3 {k : IntKind} {n : Int} : D.isT (.int k n) = false := rfl
theorem zx2 {b : Bool} : D.isT (.bool b) = false := rfl
theorem zx4 {s : List UInt8} : D.isT (.str s) = false := rfl
theorem zx1 {cs : List D} : D.isT (.agg cs) = false := rfl
theorem isT_sl {es : List D} : D.isT (.sl es) = false := rfl
theorem zx8 {o off len : Nat} : isTup (.osl o off len) = false := rfl
theorem zx5 {o : Nat} {es : List D} : isTup (.acc o es) = false := rfl
theorem zx9 {es : List D} : isTup (.xsl es) = false := rfl
theorem zx6 {cs : List AV} : isTup (.agg cs) = false := rfl
attribute [go_sem] zx7 zx3 zx2 zx4 zx1 isT_sl zx8 zx5 zx9 zx6
theorem zzz {ρ : Nat → Nat} {ds : List D} : (ds.map AV.d).map (AV.ren ρ) = ds.map .d := by rw [List.map_map]; exact List.map_congr_left fun _ _ => rfl
attribute [go_sem] zzz
theorem GOK.of {P : Program} (tab : List (Nat × AFn)) (h : ∀ p ∈ tab, FnOK P p.1 p.2) : GOK P (fun f => look f tab) := fun f fn hf => h (f, fn) (zjJ hf)
end Go.Sim

namespace Go.Sim
abbrev oM (d s : Nat) : AOper := ⟨some d, .mv (.t s), none⟩
abbrev oP (d : Nat) (x : AOp) : AOper := ⟨some d, x, none⟩
abbrev oQ (d : Nat) (x : AOp) (t : Nat) (b : Bool) : AOper := ⟨some d, x, some (t, b)⟩
abbrev oN (x : AOp) : AOper := ⟨none, x, none⟩
abbrev kI (n : Int) : Opd := .c (.d (.int .i64 n))
abbrev aI (n : Int) : AV := .d (.int .i64 n)
open Go (World Value Addr TypeId Act)
def insF (S : Nat) (args : List AV) (os : Heap) : Option (AV × Heap) :=
 match args, os with
 | [.osl o 0 n, .d (.int .i64 i), .d (.sl [v])], [(p, .row es)] =>
  (allD es).bind fun ds => if o = 1000000 ∧ p = 1000000 ∧ ds ≠ [] ∧ n = ds.length ∧ 0 ≤ i ∧ i ≤ ds.length ∧ allSize S (v :: ds) = true ∧ ds.length + 1 ≤ LIM then some (.d (.sl (ds.take i.toNat ++ [v] ++ ds.drop i.toNat)), [(1000000, .frz none)]) else none
 | [.xsl [], .d (.int .i64 i), .d (.sl [v])], [] => if i = 0 ∧ v.size = S then some (.d (.sl [v]), []) else none
 | _, _ => none
def delF (S : Nat) (args : List AV) (os : Heap) : Option (AV × Heap) :=
 match args, os with
 | [.osl o 0 n, .d (.int .i64 i), .d (.int .i64 j)], [(p, .row es)] =>
  (allD es).bind fun ds => if o = 1000000 ∧ p = 1000000 ∧ ds ≠ [] ∧ n = ds.length ∧ 0 ≤ i ∧ i < j ∧ j ≤ ds.length ∧ allSize S ds = true ∧ ds.length ≤ LIM then some (.d (.sl (ds.take i.toNat ++ ds.drop j.toNat)), [(1000000, .frz none)]) else none
 | _, _ => none
theorem zwK {S : Nat} {args : List AV} {os os' : Heap} {r : AV} (h : insF S args os = some (r, os')) :
    (∃ (ds : List D) (i : Nat) (v : D), args = .osl 1000000 0 ds.length :: [D.int .i64 i, D.sl [v]].map .d ∧ os = [(1000000, .row (ds.map .d))] ∧ ds ≠ [] ∧ i ≤ ds.length ∧ (∀ e ∈ v :: ds, e.size = S) ∧ ds.length + 1 ≤ LIM ∧ r = .d (.sl (ds.take i ++ [v] ++ ds.drop i)) ∧ os' = [(1000000, .frz none)]) ∨
    (∃ v : D, args = [.xsl [], .d (.int .i64 0), .d (.sl [v])] ∧ os = [] ∧ v.size = S ∧ r = .d (.sl [v]) ∧ os' = []) := by
 unfold insF at h
 split at h
 · rename_i o n i v p es
   obtain ⟨ds, hd, hh⟩ := Option.bind_eq_some_iff.1 h
   clear h
   split at hh
   · rename_i hc
     obtain ⟨rfl, rfl, h1, rfl, h2, h3, h4, h5⟩ := hc
     cases hh
     refine .inl ⟨ds, i.toNat, v, by simp only [List.map_cons, List.map_nil, Int.toNat_of_nonneg h2], by rw [zko hd], h1, by omega, fun e he => ?_, h5, rfl, rfl⟩
     simpa using (List.all_eq_true.1 h4) e he
   · cases hh
 · rename_i i v
   split at h
   · rename_i hc
     obtain ⟨rfl, h1⟩ := hc
     cases h
     exact .inr ⟨v, rfl, rfl, h1, rfl, rfl⟩
   · cases h
 · cases h
theorem zuT {S : Nat} {args : List AV} {os os' : Heap} {r : AV} (h : delF S args os = some (r, os')) :
    ∃ (ds : List D) (i j : Nat), args = .osl 1000000 0 ds.length :: [D.int .i64 i, D.int .i64 j].map .d ∧ os = [(1000000, .row (ds.map .d))] ∧ ds ≠ [] ∧ i < j ∧ j ≤ ds.length ∧ (∀ e ∈ ds, e.size = S) ∧ ds.length ≤ LIM ∧ r = .d (.sl (ds.take i ++ ds.drop j)) ∧ os' = [(1000000, .frz none)] := by
 unfold delF at h
 split at h
 · rename_i o n i j p es
   obtain ⟨ds, hd, hh⟩ := Option.bind_eq_some_iff.1 h
   clear h
   split at hh
   · rename_i hc
     obtain ⟨rfl, rfl, h1, rfl, h2, h3, h4, h5, h6⟩ := hc
     cases hh
     refine ⟨ds, i.toNat, j.toNat, by simp only [List.map_cons, List.map_nil, Int.toNat_of_nonneg h2, Int.toNat_of_nonneg (show 0 ≤ j by omega)], by rw [zko hd], h1, by omega, by omega, fun e he => ?_, h6, rfl, rfl⟩
     simpa using (List.all_eq_true.1 h5) e he
   · cases hh
 · cases h
variable {G : FuncId → Option AFn}
theorem zwS {f : FuncId} {S : Nat} (h : G f = some (.ext (insF S))) (ds : List D) (v : D) (i : Nat) (h0 : ds ≠ []) (hi : i ≤ ds.length) (hz : ∀ e ∈ v :: ds, e.size = S) (hL : ds.length + 1 ≤ 4294967296) :
    callL G f [.osl 1000000 0 ds.length, .d (.int .i64 i), .d (.sl [v])] [(1000000, .row (ds.map .d))] = some (.d (.sl (ds.take i ++ [v] ++ ds.drop i)), [(1000000, .frz none)]) := by
 rw [zns h]
 show (allD (ds.map AV.d)).bind _ = _
 rw [zlb]
 show (if _ then _ else _) = _
 split
 · rw [Int.toNat_natCast]
 · rename_i hc
   exact absurd ⟨rfl, rfl, h0, rfl, by omega, by omega, List.all_eq_true.2 fun e he => by simpa using hz e he, hL⟩ hc
theorem zwT {f : FuncId} {S : Nat} (h : G f = some (.ext (insF S))) (v : D) (hz : v.size = S) :
    callL G f [.xsl [], .d (.int .i64 0), .d (.sl [v])] [] = some (.d (.sl [v]), []) := by
 rw [zns h]
 show (if _ then _ else _) = _
 split
 · rfl
 · rename_i hc
   exact absurd ⟨rfl, hz⟩ hc
theorem zuW {f : FuncId} {S : Nat} (h : G f = some (.ext (delF S))) (ds : List D) (i j : Nat) (hi : i < j) (hj : j ≤ ds.length) (hz : ∀ e ∈ ds, e.size = S) (hL : ds.length ≤ 4294967296) :
    callL G f [.osl 1000000 0 ds.length, .d (.int .i64 i), .d (.int .i64 j)] [(1000000, .row (ds.map .d))] = some (.d (.sl (ds.take i ++ ds.drop j)), [(1000000, .frz none)]) := by
 rw [zns h]
 show (allD (ds.map AV.d)).bind _ = _
 rw [zlb]
 show (if _ then _ else _) = _
 split
 · rw [Int.toNat_natCast, Int.toNat_natCast]
 · rename_i hc
   exact absurd ⟨rfl, rfl, by rintro rfl; simp at hj; omega, rfl, by omega, by omega, by omega, List.all_eq_true.2 fun e he => by simpa using hz e he, hL⟩ hc
end Go.Sim

namespace Go.Proofs.YtcjncbkhbllchaaGreat
open Go Go.Sim
abbrev z9O : Nat := 3
abbrev z9N : Nat := 5
abbrev z1D : Nat := 6
abbrev zT : Nat := 7
abbrev zV : Nat := 8
abbrev zU : Nat := 9
abbrev zm : Nat := 10
abbrev z2K : Nat := 11
abbrev z1E : Nat := 12
abbrev z0V : Nat := 13
abbrev z2E : Nat := 14
abbrev z2H : Nat := 15
abbrev z2J : Nat := 16
abbrev zd : Nat := 17
abbrev z09 : Nat := 19
abbrev zG : Nat := 20
abbrev z6B : Nat := 23
abbrev z6A : Nat := 24
abbrev zo : Nat := 25
abbrev zl : Nat := 26
abbrev z2F : Nat := 27
abbrev z2G : Nat := 28
abbrev z0e : Nat := 29
abbrev z0O : Nat := 30
abbrev z0N : Nat := 31
abbrev zC : Nat := 32
abbrev ze : Nat := 33
abbrev z1t : Nat := 34
abbrev z1o : Nat := 35
abbrev z1r : Nat := 36
abbrev zN : Nat := 37
abbrev z0Z : Nat := 38
abbrev z10 : Nat := 39
abbrev z2N : Nat := 40
abbrev z2O : Nat := 41
abbrev z0m : Nat := 42
abbrev z2Q : Nat := 43
abbrev z0f : Nat := 44
abbrev z1R : Nat := 45
abbrev z2L : Nat := 46
abbrev z0W : Nat := 47
abbrev z0X : Nat := 48
abbrev z2M : Nat := 49
abbrev z2R : Nat := 50
abbrev zE : Nat := 51
abbrev z0g : Nat := 52
abbrev z0h : Nat := 53
abbrev z0k : Nat := 54
abbrev z0r : Nat := 55
abbrev z0n : Nat := 56
abbrev z0c : Nat := 58
abbrev z2o : Nat := 59
abbrev z0p : Nat := 60
abbrev z2U : Nat := 61
abbrev z2P : Nat := 62
abbrev z0l : Nat := 64
abbrev z1G : Nat := 66
abbrev z1J : Nat := 67
abbrev z24 : Nat := 68
abbrev z2i : Nat := 69
abbrev z2v : Nat := 70
abbrev z0j : Nat := 71
abbrev z0a : Nat := 72
abbrev z2s : Nat := 73
abbrev z2I : Nat := 74
abbrev z2q : Nat := 75
abbrev z2n : Nat := 76
abbrev z2r : Nat := 77
abbrev z1F : Nat := 78
abbrev z2t : Nat := 79
abbrev z08 : Nat := 80
abbrev z2k : Nat := 81
abbrev z2p : Nat := 82
abbrev z2l : Nat := 83
abbrev zB : Nat := 84
abbrev z0P : Nat := 85
abbrev z1U : Nat := 86
abbrev z1p : Nat := 87
abbrev z12 : Nat := 88
abbrev z11 : Nat := 89
abbrev zt : Nat := 90
abbrev z0s : Nat := 91
abbrev z2z : Nat := 92
abbrev z0U : Nat := 93
abbrev zp : Nat := 94
abbrev z0i : Nat := 95
abbrev z1Q : Nat := 96
abbrev z1I : Nat := 97
abbrev z2y : Nat := 98
abbrev z0q : Nat := 99
abbrev z0o : Nat := 100
abbrev z1H : Nat := 101
abbrev z1K : Nat := 102
abbrev z2C : Nat := 103
abbrev z2B : Nat := 104
abbrev z0S : Nat := 105
abbrev z00 : Nat := 106
abbrev z21 : Nat := 112
abbrev z2X : Nat := 113
abbrev z0Y : Nat := 114
abbrev z1L : Nat := 115
abbrev z01 : Nat := 116
abbrev zY : Nat := 117
abbrev zX : Nat := 118
abbrev z13 : Nat := 119
abbrev zn : Nat := 120
abbrev zZ : Nat := 121
abbrev z0Q : Nat := 122
abbrev zJ : Nat := 123
abbrev z2a : Nat := 124
abbrev z2j : Nat := 125
abbrev z0b : Nat := 126
abbrev zK : Nat := 127
abbrev zM : Nat := 128
abbrev zI : Nat := 129
abbrev z02 : Nat := 130
abbrev z2w : Nat := 131
abbrev z05 : Nat := 132
abbrev zq : Nat := 133
abbrev z0d : Nat := 134
abbrev z2x : Nat := 135
abbrev z1X : Nat := 136
abbrev z1W : Nat := 137
abbrev z03 : Nat := 138
abbrev z06 : Nat := 139
abbrev z2u : Nat := 140
abbrev z07 : Nat := 141
abbrev zr : Nat := 142
abbrev z04 : Nat := 143
abbrev z1T : Nat := 144
abbrev z1V : Nat := 145
abbrev z1q : Nat := 146
abbrev z14 : Nat := 147
abbrev zF : Nat := 148
abbrev z2A : Nat := 149
abbrev z2D : Nat := 150
abbrev z30 : Nat := 151
abbrev z1N : Nat := 152
abbrev z1x : Nat := 153
abbrev z1M : Nat := 154
abbrev z2S : Nat := 156
abbrev zD : Nat := 157
abbrev zW : Nat := 158
abbrev z1A : Nat := 159
abbrev z0L : Nat := 160
abbrev z1C : Nat := 161
abbrev z1B : Nat := 162
abbrev z2Y : Nat := 163
abbrev z15 : Nat := 164
abbrev z0K : Nat := 165
abbrev z20 : Nat := 166
abbrev z2e : Nat := 167
abbrev z2d : Nat := 168
abbrev z2b : Nat := 169
abbrev z25 : Nat := 170
abbrev z26 : Nat := 171
abbrev z23 : Nat := 172
abbrev z2h : Nat := 173
abbrev z1Z : Nat := 174
abbrev z27 : Nat := 175
abbrev z28 : Nat := 176
abbrev z2m : Nat := 177
abbrev z1s : Nat := 178
abbrev z1u : Nat := 179
abbrev z1S : Nat := 180
abbrev z0T : Nat := 181
abbrev z3A : Nat := 184
abbrev z2T : Nat := 185
abbrev z0J : Nat := 186
abbrev z1y : Nat := 187
abbrev z2V : Nat := 188
abbrev z1w : Nat := 189
abbrev z2W : Nat := 190
abbrev z0M : Nat := 191
abbrev z1z : Nat := 192
abbrev z17 : Nat := 193
abbrev z1O : Nat := 194
abbrev z1v : Nat := 195
abbrev z1Y : Nat := 196
abbrev z29 : Nat := 197
abbrev z2g : Nat := 198
abbrev z0R : Nat := 199
abbrev z22 : Nat := 200
abbrev z2Z : Nat := 202
abbrev z16 : Nat := 203
abbrev z9P : Nat := 211
abbrev z1P : Nat := 212
abbrev z2f : Nat := 213
abbrev z2c : Nat := 214
end Go.Proofs.YtcjncbkhbllchaaGreat

namespace Go.Sim
open Go (Program Func)
def val {x : Option ACode} (c : ACode) (_ : x = some c) : ACode := c
theorem iP (n : Nat) : Int.ofNat n = (n : Int) := rfl
theorem iN (n : Nat) : Int.negSucc n = -((n : Int) + 1) := rfl
def bodies : ACode → List ACode
 | .seq a b => bodies a ++ bodies b
 | .cond _ a b => bodies a ++ bodies b
 | .block _ a => bodies a
 | .loop _ a => bodies a ++ [a]
 | _ => []
def setB : ACode → List ACode → ACode × List ACode
 | .seq a b, ls => (.seq (setB a ls).1 (setB b (setB a ls).2).1, (setB b (setB a ls).2).2)
 | .cond z a b, ls => (.cond z (setB a ls).1 (setB b (setB a ls).2).1, (setB b (setB a ls).2).2)
 | .block i a, ls => (.block i (setB a ls).1, (setB a ls).2)
 | .loop ks a, ls => (match ls.drop (bodies a).length with | x :: _ => .loop ks x | [] => .loop ks a, ls.drop ((bodies a).length + 1))
 | c, ls => (c, ls)
def comp0 (P : Program) (hs : Hints) (F : List (Nat × List (List Nat))) : Code → Option ACode
 | .skip => some .skip
 | .region id ops false => (ops.toList.mapM (compOper P hs ops)).map fun l => .ops (killOf hs.ghost id) l (killOf hs.kill id)
 | .region id ops true => (ops.toList.mapM (compOper P hs ops)).map fun l => .draw (killOf hs.ghost id) l ((look id F).getD []) (killOf hs.kill id)
 | .seq a b => match comp0 P hs F a, comp0 P hs F b with | some x, some y => some (.seq x y) | _, _ => none
 | .cond c t e => match opd c, comp0 P hs F t, comp0 P hs F e with | some z, some x, some y => some (.cond z x y) | _, _, _ => none
 | .block id b => (comp0 P hs F b).map (.block id)
 | .loop b => (comp0 P hs F b).map (.loop (killOf hs.loop (firstId b)))
 | .exit id => some (.exit id (killOf hs.exit id))
 | .ret => some (.ret hs.ret)
 | _ => none
def codeC (P : Program) (fn : Func) (hs : Hints) (F : List (Nat × List (List Nat))) (ls : List ACode) : Option ACode := (fn.body.bind (comp0 P hs F)).map fun c => (setB c ls).1
def codeL (P : Program) (fn : Func) (hs : Hints) (F : List (Nat × List (List Nat))) (j : Nat) (ls : List ACode) : Option ACode := (fn.body.bind (comp0 P hs F)).bind fun c => (bodies c)[j]?.map fun b => (setB b ls).1
def vl {x : Option ACode} {c : ACode} (_ : x = some c := by conv => lhs; reduce; try simp only [iP, iN, Int.cast_ofNat_Int, Int.natCast_zero, Int.natCast_one]) : ACode := c
theorem vl_eq {x : Option ACode} {c : ACode} (h : x = some c) : vl h = c := rfl
attribute [go_sem ↓] vl_eq
def xp : List Nat → List Nat
 | [] => []
 | n :: l => if n < 1000 then n :: xp l else List.range' (n / 1000) (n % 1000 + 1 - n / 1000) ++ xp l
def kx : List (Nat × List Nat) → List (Nat × List Nat)
 | [] => []
 | (i, l) :: r => (i, xp l) :: kx r
def xq : List Nat → List Nat
 | [] => []
 | n :: l => if n < 1000 then n :: xq l else List.range' (n / 1000 - 1) (n % 1000 + 2 - n / 1000) ++ xq l
def qx : List (Nat × List (List Nat)) → List (Nat × List (List Nat))
 | [] => []
 | (i, l) :: r => (i, l.map xq) :: qx r
theorem tk {α : Type} {a b : α} (h : a = b := by kernel_rfl) : a = b := h
theorem fokC {P : Program} {f i : Nat} {fn : Func} {c : ACode} {rs : List ARes} {nt : Nat} {sl : Bool} (hs : Hints) (hf : P.funcs[i]? = some fn) (h0 : f = i := by kernel_rfl) (h1 : callable P f = true := by kernel_rfl) (h2 : fn.body.bind (comp P hs) = some c := by kernel_rfl) (h3 : fn.body.map (slotsOk fn.ntmps) = some true := by kernel_rfl) (h4 : fn.results.toList.mapM (compRes P) = some rs := by kernel_rfl) (h5 : fn.ntmps = nt := by kernel_rfl) (h6 : nt ≤ 1000000 := by decide) : FnOK P f (.code c rs nt sl) := ⟨h1, fn, hs, h0 ▸ hf, h2, h3, h4, h5, h6⟩
theorem fokN {P : Program} {f i : Nat} {fn : Func} {c : ACode} {rs : List ARes} {nt : Nat} (hs : Hints) (hf : P.funcs[i]? = some fn) (h0 : f = i := by kernel_rfl) (h1 : callable P f = true := by kernel_rfl) (h2 : fn.body.bind (comp P hs) = some c := by kernel_rfl) (h3 : fn.body.map (slotsOk fn.ntmps) = some true := by kernel_rfl) (h4 : fn.results.toList.mapM (compRes P) = some rs := by kernel_rfl) (h5 : fn.ntmps = nt := by kernel_rfl) (h6 : nt ≤ 1000000 := by decide) : FnOK P f (.nils c rs nt) := ⟨h1, fn, hs, h0 ▸ hf, h2, h3, h4, h5, h6⟩
end Go.Sim
