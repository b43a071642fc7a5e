/-
  The meaning of code, step by step, as rewriting: each step is taken only at a state that is written out.
  What slices.Insert and slices.Delete do, as functions that a contract gives.
  Numbers of functions.
  Codes that are reckoned where they are defined.
-/
import Derived.Test.YtcjncbkhbllchaaGreatB635af8a
import Derived.Test.YtcjncbkhbllchaaGreatBfe3f0f3
set_option linter.unusedSimpArgs false
set_option linter.unusedVariables false
namespace Go.Sim
variable {G : FuncId → Option AFn} {F : Sem1} {E : Env} {H : Heap}
theorem x_skip : exL G .skip ⟨E, H⟩ = some (.normal, ⟨E, H⟩) := zrz
theorem zrh {ks : List Nat} : endS ks ⟨E, H⟩ = gcS ⟨sortE (keepE ks E), H⟩ := rfl
theorem gcS_ap : gcS ⟨E, H⟩ = ⟨E, gc1 E H⟩ := rfl
theorem x_exit {i : Nat} {ks : List Nat} : exL G (.exit i ks) ⟨E, H⟩ = some (.exit i, endS ks ⟨E, H⟩) := zrv
theorem x_ret {ks : List Nat} : exL G (.ret ks) ⟨E, H⟩ = some (.ret, endS ks ⟨E, H⟩) := zrx
theorem x_ops {gs : List Nat} {l : List AOper} {ks : List Nat} : exL G (.ops gs l ks) ⟨E, H⟩ = ((ghosts gs ⟨E, H⟩).bind (execOps (callL G) l)).map (killS ks) := zrw
theorem x_draw {gs : List Nat} {l : List AOper} {fr : List (List Nat)} {ks : List Nat} : exL G (.draw gs l fr ks) ⟨E, H⟩ = ((ghosts gs ⟨E, H⟩).bind (drawF (callL G) l fr)).map (killS ks) := zru
theorem x_seq {x y : ACode} : exL G (.seq x y) ⟨E, H⟩ = (exL G x ⟨E, H⟩).bind (seqF (exL G y)) := zry
theorem x_cond {c : Opd} {x y : ACode} : exL G (.cond c x y) ⟨E, H⟩ = condF (c.ev E) (exL G x ⟨E, H⟩) (exL G y ⟨E, H⟩) := zrt
noncomputable def condE (G : FuncId → Option AFn) (x y : ACode) (E : Env) (H : Heap) : AV → Option (AExit × St)
 | .d (.bool b) => if b = true then exL G x ⟨E, H⟩ else exL G y ⟨E, H⟩
 | _ => none
theorem x_cond' {c : Opd} {x y : ACode} : exL G (.cond c x y) ⟨E, H⟩ = condE G x y E H (c.ev E) := by
 rw [x_cond]
 unfold condF condE
 generalize c.ev E = v
 split <;> simp_all
theorem zqn {b : Bool} {x y : ACode} : condE G x y E H (.d (.bool b)) = if b = true then exL G x ⟨E, H⟩ else exL G y ⟨E, H⟩ := rfl
theorem zqp {x y : ACode} : condE G x y E H (.d (.bool true)) = exL G x ⟨E, H⟩ := rfl
theorem zqo {x y : ACode} : condE G x y E H (.d (.bool false)) = exL G y ⟨E, H⟩ := rfl
theorem zx5 {id : Nat} {x : ACode} : exL G (.block id x) ⟨E, H⟩ = (exL G x ⟨E, H⟩).map (blockF id) := zrs
theorem x_loop {ks : List Nat} {x : ACode} : exL G (.loop ks x) ⟨E, H⟩ = loopL G ks x (norm ks ⟨E, H⟩) := rfl
theorem zsq {S : St} : ghosts [] S = some S := rfl
theorem zsp {g : Nat} {gs : List Nat} : ghosts (g :: gs) ⟨E, H⟩ = (ghost1 g ⟨E, H⟩).bind (ghosts gs) := rfl
theorem ztl {ks : List Nat} : killS ks ⟨E, H⟩ = (.normal, ⟨killEnv ks E, H⟩) := rfl
theorem zuw {ks : List Nat} : norm ks ⟨E, H⟩ = norm1 ⟨killEnv ks E, H⟩ := rfl
theorem zuv : norm1 ⟨E, H⟩ = ⟨sortE (deX E), sortH (gc1 E (gc1 E H))⟩ := rfl
theorem seqF_n {g : St → Option (AExit × St)} {S : St} : seqF g (.normal, S) = g S := rfl
theorem seqF_e {g : St → Option (AExit × St)} {i : Nat} {S : St} : seqF g (.exit i, S) = some (.exit i, S) := rfl
theorem seqF_r {g : St → Option (AExit × St)} {S : St} : seqF g (.ret, S) = some (.ret, S) := rfl
theorem ztN {ks : List Nat} {g : St → Option (AExit × St)} {S : St} : loopF ks g (.normal, S) = g (norm ks S) := rfl
theorem ztM {ks : List Nat} {g : St → Option (AExit × St)} {i : Nat} {S : St} : loopF ks g (.exit i, S) = some (.exit i, S) := rfl
theorem ztO {ks : List Nat} {g : St → Option (AExit × St)} {S : St} : loopF ks g (.ret, S) = some (.ret, S) := rfl
theorem zpM {id : Nat} {S : St} : blockF id (.normal, S) = (.normal, S) := rfl
theorem zpL {id i : Nat} {S : St} : blockF id (.exit i, S) = if i = id then (.normal, S) else (.exit i, S) := rfl
theorem zpN {id : Nat} {S : St} : blockF id (.ret, S) = (.ret, S) := rfl
theorem zqq {b : Bool} {x y : Option (AExit × St)} : condF (.d (.bool b)) x y = if b = true then x else y := rfl
theorem zqs {x y : Option (AExit × St)} : condF (.d (.bool true)) x y = x := rfl
theorem zqr {x y : Option (AExit × St)} : condF (.d (.bool false)) x y = y := rfl
def reAt (t : Nat) (v : AV) : Env → Env
 | [] => []
 | (j, x) :: l => if j = t then (j, v) :: l else (j, x) :: reAt t v l
theorem zkO {t : Nat} {v : AV} : ∀ {E : Env}, look t E = some v → reAt t v E = E := by
 intro E
 induction E with
 | nil => intro h; cases h
 | cons p l ih =>
   obtain ⟨j, x⟩ := p
   intro h
   simp only [look] at h
   simp only [reAt]
   split
   · rename_i e; rw [if_pos e] at h; cases h; rfl
   · rename_i e; rw [if_neg e] at h; rw [ih h]
def guardE {α : Type} (v : Option AV) (k j : Bool → Option α) : Option α :=
 match v with
 | some (.d (.bool true)) => k true
 | some (.d (.bool false)) => k false
 | _ => none
theorem o_nil : execOps F [] ⟨E, H⟩ = some ⟨E, H⟩ := rfl
theorem o_one {d : Option Nat} {op : AOp} {l : List AOper} : execOps F (⟨d, op, none⟩ :: l) ⟨E, H⟩ = (stepS F ⟨d, op, none⟩ ⟨E, H⟩).bind (execOps F l) := rfl
def gOps (F : Sem1) (d : Option Nat) (op : AOp) (b : Bool) (l : List AOper) (E : Env) (H : Heap) (c : Bool) : Option St := if c = b then (stepS F ⟨d, op, none⟩ ⟨E, H⟩).bind (execOps F l) else execOps F l (St.put ⟨E, H⟩ d (.d (.tup [])))
theorem gOps_t {d : Option Nat} {op : AOp} {l : List AOper} : gOps F d op true l E H true = (stepS F ⟨d, op, none⟩ ⟨E, H⟩).bind (execOps F l) := rfl
theorem gOps_f {d : Option Nat} {op : AOp} {l : List AOper} : gOps F d op false l E H false = (stepS F ⟨d, op, none⟩ ⟨E, H⟩).bind (execOps F l) := rfl
theorem gOps_n {d : Option Nat} {op : AOp} {l : List AOper} : gOps F d op true l E H false = execOps F l (St.put ⟨E, H⟩ d (.d (.tup []))) := rfl
theorem gOps_m {d : Option Nat} {op : AOp} {l : List AOper} : gOps F d op false l E H true = execOps F l (St.put ⟨E, H⟩ d (.d (.tup []))) := rfl
def gAsk (F : Sem1) (d : Option Nat) (op : AOp) (t : Nat) (b : Bool) (l : List AOper) (E : Env) (H : Heap) (v : Option AV) : Option St :=
 match v with
 | some (.d (.bool c)) => if c = true then gOps F d op b l (reAt t (.d (.bool true)) E) H true else gOps F d op b l (reAt t (.d (.bool false)) E) H false
 | some (.d (.tup [])) => execOps F l (St.put ⟨E, H⟩ d (.d (.tup [])))
 | _ => none
theorem gAsk_s {d : Option Nat} {op : AOp} {t : Nat} {b : Bool} {l : List AOper} : gAsk F d op t b l E H (some (.d (.tup []))) = execOps F l (St.put ⟨E, H⟩ d (.d (.tup []))) := rfl
theorem gAsk_b {d : Option Nat} {op : AOp} {t : Nat} {b c : Bool} {l : List AOper} : gAsk F d op t b l E H (some (.d (.bool c))) = if c = true then gOps F d op b l (reAt t (.d (.bool true)) E) H true else gOps F d op b l (reAt t (.d (.bool false)) E) H false := rfl
theorem zuz {d : Option Nat} {op : AOp} {l : List AOper} {t : Nat} {b : Bool} : execOps F (⟨d, op, some (t, b)⟩ :: l) ⟨E, H⟩ = gAsk F d op t b l E H (look t E) := by
 simp only [execOps, gAsk]
 generalize hv : look t E = v
 split
 · rename_i c
   cases c with
   | true => simp only [zkO hv, if_true]; rfl
   | false => simp only [zkO hv, Bool.false_eq_true, if_false]; rfl
 · rfl
 · rename_i hno hno2
   split
   · exact absurd rfl (hno _)
   · exact absurd rfl hno2
   · rfl
theorem d_ap {l : List AOper} {fr : List (List Nat)} : drawF F l fr ⟨E, H⟩ = if (nodupK E && nodupK H && freshFor l ⟨E, H⟩) = true then execDraw F l fr [] ⟨E, H⟩ else none := rfl
theorem d_nil {fr : List (List Nat)} {acc : List (List Nat × List Nat)} : execDraw F [] fr acc ⟨E, H⟩ = some ⟨E, H⟩ := rfl
theorem d_one {d : Option Nat} {op : AOp} {l : List AOper} {f : List Nat} {fr : List (List Nat)} {acc : List (List Nat × List Nat)} : execDraw F (⟨d, op, none⟩ :: l) (f :: fr) acc ⟨E, H⟩ = (drawTake F ⟨d, op, none⟩ (f :: fr) acc ⟨E, H⟩).bind (execDraw F l fr (acc ++ [op.feet E H (d.getD 0)])) := rfl
def dOps (F : Sem1) (d : Option Nat) (op : AOp) (t : Nat) (b : Bool) (l : List AOper) (f : List Nat) (fr : List (List Nat)) (acc : List (List Nat × List Nat)) (E : Env) (H : Heap) (c : Bool) : Option St :=
 if c = b then (drawTake F ⟨d, op, none⟩ (f :: fr) acc ⟨E, H⟩).bind (execDraw F l fr (acc ++ [op.feet E H (d.getD 0)])) else (drawSkip ⟨d, op, some (t, b)⟩ (f :: fr) acc ⟨E, H⟩).bind (execDraw F l fr (acc ++ [([], [])]))
theorem dOps_t {d : Option Nat} {op : AOp} {t : Nat} {l : List AOper} {f : List Nat} {fr : List (List Nat)} {acc : List (List Nat × List Nat)} : dOps F d op t true l f fr acc E H true = (drawTake F ⟨d, op, none⟩ (f :: fr) acc ⟨E, H⟩).bind (execDraw F l fr (acc ++ [op.feet E H (d.getD 0)])) := rfl
theorem dOps_f {d : Option Nat} {op : AOp} {t : Nat} {l : List AOper} {f : List Nat} {fr : List (List Nat)} {acc : List (List Nat × List Nat)} : dOps F d op t false l f fr acc E H false = (drawTake F ⟨d, op, none⟩ (f :: fr) acc ⟨E, H⟩).bind (execDraw F l fr (acc ++ [op.feet E H (d.getD 0)])) := rfl
theorem dOps_n {d : Option Nat} {op : AOp} {t : Nat} {l : List AOper} {f : List Nat} {fr : List (List Nat)} {acc : List (List Nat × List Nat)} : dOps F d op t true l f fr acc E H false = (drawSkip ⟨d, op, some (t, true)⟩ (f :: fr) acc ⟨E, H⟩).bind (execDraw F l fr (acc ++ [([], [])])) := rfl
theorem dOps_m {d : Option Nat} {op : AOp} {t : Nat} {l : List AOper} {f : List Nat} {fr : List (List Nat)} {acc : List (List Nat × List Nat)} : dOps F d op t false l f fr acc E H true = (drawSkip ⟨d, op, some (t, false)⟩ (f :: fr) acc ⟨E, H⟩).bind (execDraw F l fr (acc ++ [([], [])])) := rfl
def dAsk (F : Sem1) (d : Option Nat) (op : AOp) (t : Nat) (b : Bool) (l : List AOper) (f : List Nat) (fr : List (List Nat)) (acc : List (List Nat × List Nat)) (E : Env) (H : Heap) (v : Option AV) : Option St :=
 match v with
 | some (.d (.bool c)) => if c = true then dOps F d op t b l f fr acc (reAt t (.d (.bool true)) E) H true else dOps F d op t b l f fr acc (reAt t (.d (.bool false)) E) H false
 | some (.d (.tup [])) => (drawSkip ⟨d, op, some (t, b)⟩ (f :: fr) acc ⟨E, H⟩).bind (execDraw F l fr (acc ++ [([], [])]))
 | _ => none
theorem dAsk_s {d : Option Nat} {op : AOp} {t : Nat} {b : Bool} {l : List AOper} {f : List Nat} {fr : List (List Nat)} {acc : List (List Nat × List Nat)} : dAsk F d op t b l f fr acc E H (some (.d (.tup []))) = (drawSkip ⟨d, op, some (t, b)⟩ (f :: fr) acc ⟨E, H⟩).bind (execDraw F l fr (acc ++ [([], [])])) := rfl
theorem dAsk_b {d : Option Nat} {op : AOp} {t : Nat} {b c : Bool} {l : List AOper} {f : List Nat} {fr : List (List Nat)} {acc : List (List Nat × List Nat)} : dAsk F d op t b l f fr acc E H (some (.d (.bool c))) =
   if c = true then dOps F d op t b l f fr acc (reAt t (.d (.bool true)) E) H true else dOps F d op t b l f fr acc (reAt t (.d (.bool false)) E) H false := rfl
theorem zqH {d : Option Nat} {op : AOp} {l : List AOper} {f : List Nat} {fr : List (List Nat)} {acc : List (List Nat × List Nat)} {t : Nat} {b : Bool} : execDraw F (⟨d, op, some (t, b)⟩ :: l) (f :: fr) acc ⟨E, H⟩ = dAsk F d op t b l f fr acc E H (look t E) := by
 simp only [execDraw, dAsk]
 generalize hv : look t E = v
 split
 · rename_i c
   cases c with
   | true => simp only [zkO hv, if_true]; rfl
   | false => simp only [zkO hv, Bool.false_eq_true, if_false]; rfl
 · rfl
 · rename_i hno hno2
   split
   · exact absurd rfl (hno _)
   · exact absurd rfl hno2
   · rfl
theorem dt_ap {d : Option Nat} {op : AOp} {f : List Nat} {fr : List (List Nat)} {acc : List (List Nat × List Nat)} : drawTake F ⟨d, op, none⟩ (f :: fr) acc ⟨E, H⟩ = if clashless f acc (op.feet E H (d.getD 0)) = true then stepS F ⟨d, op, none⟩ ⟨E, H⟩ else none := rfl
theorem ds_ap {x : AOper} {f : List Nat} {fr : List (List Nat)} {acc : List (List Nat × List Nat)} : drawSkip x (f :: fr) acc ⟨E, H⟩ = if clashless f acc ([], []) = true then some (St.put ⟨E, H⟩ x.dst (.d (.tup []))) else none := rfl
theorem put_n {v : AV} : St.put ⟨E, H⟩ none v = ⟨E, H⟩ := rfl
theorem put_s {d : Nat} {v : AV} : St.put ⟨E, H⟩ (some d) v = ⟨setAt d v E, H⟩ := rfl
def putO (E : Env) (d : Option Nat) (r : Option (AV × Heap)) : Option St := r.map fun p => St.put ⟨E, p.2⟩ d p.1
theorem putO_n {v : AV} : putO E none (some (v, H)) = some ⟨E, H⟩ := rfl
theorem putO_s {d : Nat} {v : AV} : putO E (some d) (some (v, H)) = some ⟨setAt d v E, H⟩ := rfl
theorem s_ap {d : Option Nat} {op : AOp} {g : Option (Nat × Bool)} : stepS F ⟨d, op, g⟩ ⟨E, H⟩ = putO E d (step F E H (d.getD 0) op) := rfl
variable {dst : Nat}
theorem zw3 {ng : Bool} {x : Opd} : step F E H dst (.nileq ng x) = nileqA H ng (x.ev E) := rfl
theorem zq4 {g : FuncId} {cs : List D} {ms : List Bool} {args : List AV} : callvA F E H dst ms (.d (.fn g cs)) args = callA F E H dst ms g (args ++ cs.map .d) := rfl
theorem zq3 {g : FuncId} {cs : List AV} {ms : List Bool} {args : List AV} : callvA F E H dst ms (.fn g cs) args = callA F E H dst ms g (args ++ cs) := rfl
theorem zq2 {v : AV} {δ : Heap} : callS H (some (v, δ)) = some (v, putsH δ H) := rfl
theorem zpV {ms : List Bool} {f : FuncId} {args : List AV} : callA F E H dst ms f args = if frzF ms args.length = true then (callArgs H ms args).bind (frzB F E H dst ms f (dataObjs ms args)) else callA0 F E H dst ms f args := rfl
theorem zpT {ms : List Bool} {f : FuncId} {args : List AV} : callA0 F E H dst ms f args = (callArgs H ms args).bind (callB F E H dst (namesOf H ms args) (dataObjs ms args) f) := rfl
theorem zsg {ms : List Bool} {f : FuncId} {dob : List Nat} {as : List AV} : frzB F E H dst ms f dob as = if frzOk H dob = true then (callA0 F E (putsH (frzL H dob) H) dst ms f as).map fun p => (p.1, p.2 ++ frzL H dob) else none := rfl
theorem zqI (ds : List D) : dataObjs [] (ds.map .d) = [] := by
 induction ds with
 | nil => rfl
 | cons d ds ih => simp only [List.map_cons, dataObjs, ih, AV.objs, List.append_nil]
theorem ziY {f : FuncId} {ds : List D} : callA F E H dst [] f (ds.map .d) = (F f (ds.map .d) []).bind (callC E H dst [] []) := by
 have h1 : callArgs H [] (ds.map .d) = some (ds.map .d) := by
   induction ds with
   | nil => rfl
   | cons d ds ih => simp only [List.map_cons, callArgs, ih, toD, Option.bind_some, Option.map_some]
 have h2 : keptObjs [] (ds.map .d) = [] := by cases ds <;> rfl
 have h3 := zqI ds
 have h4 : (ds.map AV.d).map (AV.ren (toCallee [])) = ds.map .d := by
   rw [List.map_map]; exact List.map_congr_left fun _ _ => rfl
 unfold callA
 rw [if_neg (by simp [frzF])]
 unfold callA0
 rw [h1, h3]
 simp only [Option.bind_some, namesOf, h2, addNew, reach, List.flatMap_nil, callB, okNames, List.all_nil, disjL, Bool.and_self, if_true, h4, osOf, List.map_nil]
theorem zpZ {r : D} : callC E H dst [] [] (.d r, []) = some (.d r, []) := by simp [callC, freshOK, AV.ren, renH]
theorem ca0 {f : FuncId} : callA F E H dst [] f [] = (F f [] []).bind (callC E H dst [] []) := ziY (ds := [])
theorem ca1 {f : FuncId} {a : D} : callA F E H dst [] f [.d a] = (F f [.d a] []).bind (callC E H dst [] []) := ziY (ds := [a])
theorem ca2 {f : FuncId} {a b : D} : callA F E H dst [] f [.d a, .d b] = (F f [.d a, .d b] []).bind (callC E H dst [] []) := ziY (ds := [a, b])
theorem ca3 {f : FuncId} {a b c : D} : callA F E H dst [] f [.d a, .d b, .d c] = (F f [.d a, .d b, .d c] []).bind (callC E H dst [] []) := ziY (ds := [a, b, c])
theorem ca4 {f : FuncId} {a b c d : D} : callA F E H dst [] f [.d a, .d b, .d c, .d d] = (F f [.d a, .d b, .d c, .d d] []).bind (callC E H dst [] []) := ziY (ds := [a, b, c, d])
theorem ca5 {f : FuncId} {a b c d e : D} : callA F E H dst [] f [.d a, .d b, .d c, .d d, .d e] = (F f [.d a, .d b, .d c, .d d, .d e] []).bind (callC E H dst [] []) := ziY (ds := [a, b, c, d, e])
theorem cv1 {f : FuncId} {a : D} {cs : List D} : callA F E H dst [] f (.d a :: cs.map .d) = (F f (.d a :: cs.map .d) []).bind (callC E H dst [] []) := ziY (ds := a :: cs)
theorem cv2 {f : FuncId} {a b : D} {cs : List D} : callA F E H dst [] f (.d a :: .d b :: cs.map .d) = (F f (.d a :: .d b :: cs.map .d) []).bind (callC E H dst [] []) := ziY (ds := a :: b :: cs)
theorem zu8 {c : Prop} [Decidable c] {e : AExit} {t : Nat} {x y : Bool} : (if c then some (e, (⟨(t, .d (.bool x)) :: E, H⟩ : St)) else some (e, ⟨(t, .d (.bool y)) :: E, H⟩)) = some (e, ⟨(t, .d (.bool (if c then x else y))) :: E, H⟩) := by split <;> rfl
theorem ztj {c x : Bool} : (if c = true then x else false) = (c && x) := by cases c <;> rfl
theorem ite_or {c x : Bool} : (if c = true then true else x) = (c || x) := by cases c <;> rfl
theorem zpK {α β : Type} {c : Prop} [Decidable c] {x y : Option α} {k : α → Option β} : (if c then x else y).bind k = if c then x.bind k else y.bind k := by split <;> rfl
theorem ztW {α β : Type} {c : Prop} [Decidable c] {x y : Option α} {k : α → β} : (if c then x else y).map k = if c then x.map k else y.map k := by split <;> rfl
theorem zrZ {sl : Bool} {rs : List ARes} {os : Heap} {S : St} : finish sl rs os (.normal, S) = (resA S rs).bind (finishV sl os S) := rfl
theorem zs0 {sl : Bool} {rs : List ARes} {os : Heap} {S : St} : finish sl rs os (.ret, S) = (resA S rs).bind (finishV sl os S) := rfl
theorem zrY {os : Heap} {S : St} {v : AV} : finishV true os S v = (toD S.heap v).bind (sealV os S v) := rfl
theorem zrX {os : Heap} {S : St} {v : AV} : finishV false os S v = finishN os S v (outNames S.heap os v) := rfl
theorem zw5 {S : St} {v : AV} {d : D} : sealV [] S v d = some (.d d, []) := by
 have : disjL v.objs [] = true := by simp [disjL]
 simp [sealV, finishN, outNames, AV.objs, addNew, reach, okOut, okGhost, outH, AV.ren, frs, this]
theorem s_mv {x : Opd} : step F E H dst (.mv x) = astep E H dst (.mv x) := rfl
theorem f_mv {x : Opd} : AOp.feet E H dst (.mv x) = (toks (AOp.foot E dst (.mv x)), toks (AOp.wr E dst (.mv x))) := rfl
theorem s_pick {c a b : Opd} : step F E H dst (.pick c a b) = astep E H dst (.pick c a b) := rfl
theorem f_pick {c a b : Opd} : AOp.feet E H dst (.pick c a b) = (toks (AOp.foot E dst (.pick c a b)), toks (AOp.wr E dst (.pick c a b))) := rfl
theorem zw2 {z : AV} : step F E H dst (.alloc z) = astep E H dst (.alloc z) := rfl
theorem zrH {z : AV} : AOp.feet E H dst (.alloc z) = (toks (AOp.foot E dst (.alloc z)), toks (AOp.wr E dst (.alloc z))) := rfl
theorem s_box {x : Opd} : step F E H dst (.box x) = astep E H dst (.box x) := rfl
theorem f_box {x : Opd} : AOp.feet E H dst (.box x) = (toks (AOp.foot E dst (.box x)), toks (AOp.wr E dst (.box x))) := rfl
theorem zrI {z : List AV} {ps : List (Nat × Nat × Opd)} : AOp.feet E H dst (.build z ps) = (toks (AOp.foot E dst (.build z ps)), toks (AOp.wr E dst (.build z ps))) := rfl
theorem f_bsl {len n : Nat} {z : AV} {ps : List (Nat × Opd)} : AOp.feet E H dst (.bsl len n z ps) = (toks (AOp.foot E dst (.bsl len n z ps)), toks (AOp.wr E dst (.bsl len n z ps))) := rfl
theorem f_ld {ag : Bool} {n : Nat} {p : Opd} : AOp.feet E H dst (.ld ag n p) = (toks (AOp.foot E dst (.ld ag n p)), toks (AOp.wr E dst (.ld ag n p))) := rfl
theorem f_atl {p : Opd} : AOp.feet E H dst (.atl p) = (toks (AOp.foot E dst (.atl p)), toks (AOp.wr E dst (.atl p))) := rfl
theorem f_ats {p x : Opd} : AOp.feet E H dst (.ats p x) = (toks (AOp.foot E dst (.ats p x)), toks (AOp.wr E dst (.ats p x))) := rfl
theorem f_atc {p x y : Opd} : AOp.feet E H dst (.atc p x y) = (toks (AOp.foot E dst (.atc p x y)), toks (AOp.wr E dst (.atc p x y))) := rfl
theorem s_mkm : step F E H dst .mkm = astep E H dst .mkm := rfl
theorem f_mkm : AOp.feet E H dst .mkm = (toks (AOp.foot E dst .mkm), toks (AOp.wr E dst .mkm)) := rfl
theorem f_lkp {ok : Bool} {z : D} {x k : Opd} : AOp.feet E H dst (.lkp ok z x k) = (toks (AOp.foot E dst (.lkp ok z x k)), toks (AOp.wr E dst (.lkp ok z x k))) := rfl
theorem f_mup {x k v : Opd} : AOp.feet E H dst (.mup x k v) = (toks (AOp.foot E dst (.mup x k v)), toks (AOp.wr E dst (.mup x k v))) := rfl
theorem f_clr {n : Nat} {x : Opd} : AOp.feet E H dst (.clr n x) = (toks (AOp.foot E dst (.clr n x)), toks (AOp.wr E dst (.clr n x))) := rfl
theorem f_st {n : Nat} {p x : Opd} : AOp.feet E H dst (.st n p x) = (toks (AOp.foot E dst (.st n p x)), evens (AOp.wr E dst (.st n p x))) := rfl
theorem s_nilc {x : Opd} : step F E H dst (.nilc x) = astep E H dst (.nilc x) := rfl
theorem f_nilc {x : Opd} : AOp.feet E H dst (.nilc x) = (toks (AOp.foot E dst (.nilc x)), toks (AOp.wr E dst (.nilc x))) := rfl
theorem f_bin {op : BinOp} {x y : Opd} : AOp.feet E H dst (.bin op x y) = (toks (AOp.foot E dst (.bin op x y)), toks (AOp.wr E dst (.bin op x y))) := rfl
theorem s_eqb {ng : Bool} {x y : Opd} : step F E H dst (.eqb ng x y) = astep E H dst (.eqb ng x y) := rfl
theorem f_eqb {ng : Bool} {x y : Opd} : AOp.feet E H dst (.eqb ng x y) = (toks (AOp.foot E dst (.eqb ng x y)), toks (AOp.wr E dst (.eqb ng x y))) := rfl
theorem f_eqs {ng : Bool} {n : Nat} {ls : List (Nat × Nat)} {x y : Opd} : AOp.feet E H dst (.eqs ng n ls x y) = (toks (AOp.foot E dst (.eqs ng n ls x y)), toks (AOp.wr E dst (.eqs ng n ls x y))) := rfl
theorem s_nacc  : step F E H dst (.nacc) = astep E H dst (.nacc) := rfl
theorem f_nacc  : AOp.feet E H dst (.nacc) = (toks (AOp.foot E dst (.nacc)), toks (AOp.wr E dst (.nacc))) := rfl
theorem s_un {op : UnOp} {x : Opd} : step F E H dst (.un op x) = astep E H dst (.un op x) := rfl
theorem f_un {op : UnOp} {x : Opd} : AOp.feet E H dst (.un op x) = (toks (AOp.foot E dst (.un op x)), toks (AOp.wr E dst (.un op x))) := rfl
theorem s_cvi {k : IntKind} {x : Opd} : step F E H dst (.cvi k x) = astep E H dst (.cvi k x) := rfl
theorem f_cvi {k : IntKind} {x : Opd} : AOp.feet E H dst (.cvi k x) = (toks (AOp.foot E dst (.cvi k x)), toks (AOp.wr E dst (.cvi k x))) := rfl
theorem f_s2b {x : Opd} : AOp.feet E H dst (.s2b x) = (toks (AOp.foot E dst (.s2b x)), toks (AOp.wr E dst (.s2b x))) := rfl
theorem f_b2s {x : Opd} : AOp.feet E H dst (.b2s x) = (toks (AOp.foot E dst (.b2s x)), toks (AOp.wr E dst (.b2s x))) := rfl
theorem f_mkfn {f : FuncId} {cs : List Opd} : AOp.feet E H dst (.mkfn f cs) = (toks (AOp.foot E dst (.mkfn f cs)), toks (AOp.wr E dst (.mkfn f cs))) := rfl
theorem f_fad {ag : Bool} {off n : Nat} {x : Opd} : AOp.feet E H dst (.fad ag off n x) = (toks (AOp.foot E dst (.fad ag off n x)), toks (AOp.wr E dst (.fad ag off n x))) := rfl
theorem f_fld {ag : Bool} {off n : Nat} {x : Opd} : AOp.feet E H dst (.fld ag off n x) = (toks (AOp.foot E dst (.fld ag off n x)), toks (AOp.wr E dst (.fld ag off n x))) := rfl
theorem f_iad {n : Nat} {x i : Opd} : AOp.feet E H dst (.iad n x i) = (odds (AOp.foot E dst (.iad n x i)), []) := rfl
theorem f_iada {ag : Bool} {len n : Nat} {x i : Opd} : AOp.feet E H dst (.iada ag len n x i) = (toks (AOp.foot E dst (.iada ag len n x i)), toks (AOp.wr E dst (.iada ag len n x i))) := rfl
theorem f_idx {x i : Opd} : AOp.feet E H dst (.idx x i) = (toks (AOp.foot E dst (.idx x i)), toks (AOp.wr E dst (.idx x i))) := rfl
theorem f_idxa {ag : Bool} {len n : Nat} {x i : Opd} : AOp.feet E H dst (.idxa ag len n x i) = (toks (AOp.foot E dst (.idxa ag len n x i)), toks (AOp.wr E dst (.idxa ag len n x i))) := rfl
theorem f_slc {n : Nat} {x : Opd} {lo hi mx : Option Opd} : AOp.feet E H dst (.slc n x lo hi mx) = (toks (AOp.foot E dst (.slc n x lo hi mx)), toks (AOp.wr E dst (.slc n x lo hi mx))) := rfl
theorem f_sls {x : Opd} {lo hi : Option Opd} : AOp.feet E H dst (.sls x lo hi) = (toks (AOp.foot E dst (.sls x lo hi)), toks (AOp.wr E dst (.sls x lo hi))) := rfl
theorem f_ext {x : Opd} {i : Nat} : AOp.feet E H dst (.ext x i) = (toks (AOp.foot E dst (.ext x i)), toks (AOp.wr E dst (.ext x i))) := rfl
theorem f_len {x : Opd} : AOp.feet E H dst (.len x) = (toks (AOp.foot E dst (.len x)), toks (AOp.wr E dst (.len x))) := rfl
theorem s_lens {x : Opd} : step F E H dst (.lens x) = astep E H dst (.lens x) := rfl
theorem f_lens {x : Opd} : AOp.feet E H dst (.lens x) = (toks (AOp.foot E dst (.lens x)), toks (AOp.wr E dst (.lens x))) := rfl
theorem f_app {n : Nat} {x y : Opd} : AOp.feet E H dst (.app n x y) = (toks (AOp.foot E dst (.app n x y)), toks (AOp.wr E dst (.app n x y))) := rfl
theorem f_apps {x y : Opd} : AOp.feet E H dst (.apps x y) = (toks (AOp.foot E dst (.apps x y)), toks (AOp.wr E dst (.apps x y))) := rfl
theorem f_mm {mx : Bool} {xs : List Opd} : AOp.feet E H dst (.mm mx xs) = (toks (AOp.foot E dst (.mm mx xs)), toks (AOp.wr E dst (.mm mx xs))) := rfl
theorem s_mks {n : Nat} {z : AV} {l c : Opd} : step F E H dst (.mks n z l c) = astep E H dst (.mks n z l c) := rfl
theorem f_mks {n : Nat} {z : AV} {l c : Opd} : AOp.feet E H dst (.mks n z l c) = (toks (AOp.foot E dst (.mks n z l c)), toks (AOp.wr E dst (.mks n z l c))) := rfl
theorem zrJ {ng : Bool} {x : Opd} : AOp.feet E H dst (.nileq ng x) = (toks (AOp.foot E dst (.nileq ng x)), toks (AOp.wr E dst (.nileq ng x))) := rfl
theorem zwf {k : IntKind} {n : Int} : D.size (.int k n) = 1 := rfl
theorem zq8 {k : IntKind} {n : Int} : D.cells (.int k n) = [(.int k n)] := rfl
theorem zps {k : IntKind} {n : Int} : D.asAgg (.int k n) = .agg [(.int k n)] := rfl
theorem zwd {b : Bool} : D.size (.bool b) = 1 := rfl
theorem zq6 {b : Bool} : D.cells (.bool b) = [(.bool b)] := rfl
theorem zpp {b : Bool} : D.asAgg (.bool b) = .agg [(.bool b)] := rfl
theorem zwi {s : List UInt8} : D.size (.str s) = 1 := rfl
theorem zqb {s : List UInt8} : D.cells (.str s) = [(.str s)] := rfl
theorem zpv {s : List UInt8} : D.asAgg (.str s) = .agg [(.str s)] := rfl
theorem zwh {es : List D} : D.size (.sl es) = 1 := rfl
theorem zqa {es : List D} : D.cells (.sl es) = [(.sl es)] := rfl
theorem zpu {es : List D} : D.asAgg (.sl es) = .agg [(.sl es)] := rfl
theorem zwg {x : D} : D.size (.pd x) = 1 := rfl
theorem zq9 {x : D} : D.cells (.pd x) = [(.pd x)] := rfl
theorem zpt {x : D} : D.asAgg (.pd x) = .agg [(.pd x)] := rfl
theorem zwe {f : FuncId} {cs : List D} : D.size (.fn f cs) = 1 := rfl
theorem zq7 {f : FuncId} {cs : List D} : D.cells (.fn f cs) = [(.fn f cs)] := rfl
theorem zpr {f : FuncId} {cs : List D} : D.asAgg (.fn f cs) = .agg [(.fn f cs)] := rfl
theorem size_agg {cs : List D} : D.size (.agg cs) = cs.length := rfl
theorem zq5 {cs : List D} : D.cells (.agg cs) = cs := rfl
theorem zpo {cs : List D} : D.asAgg (.agg cs) = .agg cs := rfl
theorem zpy {x : D} : AV.size (.d x) = x.size := rfl
theorem zpd {x : D} : AV.cells (.d x) = x.cells.map .d := rfl
theorem zpC {o i off : Nat} : AV.size (.ref o i off) = 1 := rfl
theorem zph {o i off : Nat} : AV.cells (.ref o i off) = [(.ref o i off)] := rfl
theorem zpA {o off len : Nat} : AV.size (.osl o off len) = 1 := rfl
theorem zpf {o off len : Nat} : AV.cells (.osl o off len) = [(.osl o off len)] := rfl
theorem zpw {o : Nat} {es : List D} : AV.size (.acc o es) = 1 := rfl
theorem zpb {o : Nat} {es : List D} : AV.cells (.acc o es) = [(.acc o es)] := rfl
theorem zpB {o : Nat} {x : D} : AV.size (.pe o x) = 1 := rfl
theorem zpg {o : Nat} {x : D} : AV.cells (.pe o x) = [(.pe o x)] := rfl
theorem zpD {es : List D} : AV.size (.xsl es) = 1 := rfl
theorem zpi {es : List D} : AV.cells (.xsl es) = [(.xsl es)] := rfl
theorem zpz {f : FuncId} {cs : List AV} : AV.size (.fn f cs) = 1 := rfl
theorem zpe {f : FuncId} {cs : List AV} : AV.cells (.fn f cs) = [(.fn f cs)] := rfl
theorem zpx {cs : List AV} : AV.size (.agg cs) = cs.length := rfl
theorem zpc {cs : List AV} : AV.cells (.agg cs) = cs := rfl
section
variable {k : IntKind} {a b : Int}
def andI (k : IntKind) (a b : Int) : Int := k.wrap (BitVec.ofInt k.bits a &&& BitVec.ofInt k.bits b).toNat
def orI (k : IntKind) (a b : Int) : Int := k.wrap (BitVec.ofInt k.bits a ||| BitVec.ofInt k.bits b).toNat
def xorI (k : IntKind) (a b : Int) : Int := k.wrap (BitVec.ofInt k.bits a ^^^ BitVec.ofInt k.bits b).toNat
def andNotI (k : IntKind) (a b : Int) : Int := k.wrap (BitVec.ofInt k.bits a &&& ~~~BitVec.ofInt k.bits b).toNat
theorem ib_add : intBin .add k a b = some (.int k (k.wrap (a + b))) := rfl
theorem ib_sub : intBin .sub k a b = some (.int k (k.wrap (a - b))) := rfl
theorem ib_mul : intBin .mul k a b = some (.int k (k.wrap (a * b))) := rfl
theorem ib_quo : intBin .quo k a b = if b = 0 then none else some (.int k (k.wrap (a.tdiv b))) := rfl
theorem ib_rem : intBin .rem k a b = if b = 0 then none else some (.int k (a.tmod b)) := rfl
theorem ib_eql : intBin .eql k a b = some (.bool (decide (a = b))) := rfl
theorem ib_neq : intBin .neq k a b = some (.bool (!decide (a = b))) := rfl
theorem ib_lss : intBin .lss k a b = some (.bool (decide (a < b))) := rfl
theorem ib_leq : intBin .leq k a b = some (.bool (decide (a ≤ b))) := rfl
theorem ib_gtr : intBin .gtr k a b = some (.bool (decide (b < a))) := rfl
theorem ib_geq : intBin .geq k a b = some (.bool (decide (b ≤ a))) := rfl
theorem ib_and : intBin .and k a b = some (.int k (andI k a b)) := rfl
theorem ib_or : intBin .or k a b = some (.int k (orI k a b)) := rfl
theorem ib_xor : intBin .xor k a b = some (.int k (xorI k a b)) := rfl
theorem zsA : intBin .andNot k a b = some (.int k (andNotI k a b)) := rfl
end
theorem zrn {ng : Bool} {n : Nat} {ls : List (Nat × Nat)} {a b : List D} : eqsV H ng n ls (.d (.agg a)) (.d (.agg b)) = if a.length = n ∧ b.length = n then retB H ng (eqCells a b ls) else none := rfl
attribute [go_sem] f_atl f_ats f_atc s_atl' s_ats' s_atc' atlC atlE atlO atlV retI atsF atsI atsX atcI atcY atcX
attribute [go_sem] s_mkm f_mkm f_lkp f_mup s_lkp' s_mup' lkpR lkpO lkpI lkpV mupO mupY mupI mupV
theorem zuS {x : AV} {off : Nat} {v : AV} : over x off v = if off = 0 ∧ v.size = x.size then some v else if off + v.size ≤ x.size then some (AV.mkAgg (splice x.cells off v.cells)) else none := rfl
attribute [go_sem] x_skip x_exit x_ret x_ops x_draw x_seq x_cond' zqn zqp zqo zx5 x_loop zsq zsp ztl zuw zuv deX deX1 zrh gcS_ap keepE seqF_n seqF_e seqF_r ztN ztM ztO zpM zpL zpN zqq zqs zqr gOps_t gOps_f gOps_n gOps_m gAsk_b gAsk_s dAsk_s dOps_t dOps_f dOps_n dOps_m dAsk_b reAt zu8 ztj ite_or zpK ztW o_nil o_one zuz d_ap d_nil d_one zqH dt_ap ds_ap put_n put_s putO_n putO_s s_ap zw3 zq4 zq3 zq2 zpZ zrZ zs0 zrY zrX zw5 zrJ s_mv s_pick zw2 s_box s_nilc s_eqb s_nacc s_un s_cvi s_lens s_mks f_mv f_pick zrH f_box zrI f_bsl f_ld f_st f_clr f_nilc f_bin f_eqb f_eqs f_nacc f_un f_cvi f_s2b f_b2s f_mkfn f_fad f_fld f_iad f_iada f_idx f_idxa fldW idxaI s_idxa' f_slc f_sls f_ext f_len f_lens f_app f_apps f_mm f_mks zwf zq8 zps zwd zq6 zpp zwi zqb zpv zwh zqa zpu zwg zq9 zpt zwe zq7 zpr size_agg zq5 zpo zpy zpd zpC zph zpA zpf zpw zpb zpB zpg zpD zpi zpz zpe zpx zpc List.map_append astep Opd.ev List.map_cons List.map_nil Go.Sim.look setAt without Option.getD_some Option.getD_none binD ib_add ib_sub ib_mul ib_quo ib_rem ib_eql ib_neq ib_lss ib_leq ib_gtr ib_geq ib_and ib_or ib_xor zsA shiftBin strBin Option.map_some Option.map_none Option.bind_some Option.bind_none killEnv List.contains_cons List.contains_nil Bool.or_true Bool.true_or Bool.or_false Bool.false_or Bool.or_self Bool.false_eq_true Bool.true_eq_false Nat.zero_add Nat.add_zero beq_self_eq_true refsEnv refsHeap AV.refs AV.refsL Obj.refs Bool.and_true Bool.true_and Bool.and_false Bool.false_and Bool.and_self and_self and_true true_and partD partA List.getElem?_cons_zero List.getElem?_cons_succ List.getElem?_nil List.length_cons List.length_nil List.drop_zero List.drop_succ_cons List.take_succ_cons List.take_zero zuS splice AV.mkAgg AV.mkTup AV.mkFn allD zvD zvC zvE resL consP consP.consQ tupO res_c res_t resO toD toD.toDs idxOf slD ne_eq not_true_eq_false not_false_eq_true Nat.succ_ne_self Bool.not_true Bool.not_false eq_self_iff_true nodupK AOp.foot AOp.wr AOp.looks AOp.news AOp.opds objsOf AV.objs AV.objsL List.all_cons List.all_nil List.any_cons List.any_nil List.headD_cons List.headD_nil List.tail_cons List.tail_nil List.nil_append List.cons_append List.append_nil fillE unX unX0 unXL fillA List.set_cons_zero List.set_cons_succ Nat.lt_add_one Nat.zero_lt_one Nat.one_lt_two Nat.zero_lt_succ indep AOper.newNames fr4 callFeet callFeet0 callFeetT callvFeet toks callArgs dataObjs keptObjs namesOf reach addNew rowObjs toCallee pos AV.ren AV.renL Obj.ren callB callC AV.flat AV.flatL Obj.flat D.flat D.flatL putsH mmD bytesD finishN sealV outNames outName frs ghost1 toRow toRow1 toRow2 nilEnv nilV toAcc toAcc1 toAcc2 nilOEnv nilO toNm toNm1 renEnv rnm Option.isNone_some Option.isNone_none findAcc rowV accV sortE insE sortH gc1 gc nileqA eqCells eqCell List.flatMap_nil List.flatMap_cons List.filter_nil List.filter_cons List.getD_cons_zero List.getD_cons_succ decide_true decide_false if_true if_false List.isEmpty_nil List.isEmpty_cons zuE okN okN1 subB zuP osN zse zsd zs6 flatH zqU zqT zvx zvw zuC zuB zrr zrq zqW zqV clash1 zqh zqg freshNs zsc zsb zvX zvW zpa zp9 enterN zri zso zsn okO1 okO zuF okG1 okG zuD outN zuQ evs evO evB evF szF retA zvK retD zvL retB dO pdO peO ldE ldO ldV s_ld' fadV s_fad' szR szP szD iadO iadV iadI s_iad' iadaI s_iada' stF stE stO stV s_st' s_clr' clrV clrO fldV s_fld' binV s_bin' zrn s_eqs' idxB idxV s_idx' bdI bd slM xslM accM slL slH xslL xslH accL accH oslO oslL oslH oslM slcV s_slc' slsL slsH slsV s_sls' extV s_ext' lenO lenV s_len' mmV s_mm' s_mkfn' buildV s_build' bslD bslE s_bsl' b2sB b2sV s_b2s' s2bV s_s2b'' srcO srcO.srcL srcV appO appV appY s_app' appsV s_apps' s_call' s_callv' f_call' f_callv'
theorem zpl {n : Nat} : allSize n [] = true := rfl
theorem zjq {n : Nat} {e : D} {es : List D} : allSize n (e :: es) = (e.size == n && allSize n es) := rfl
theorem zpk {n : Nat} {es fs : List D} : allSize n (es ++ fs) = (allSize n es && allSize n fs) := by simp [allSize]
theorem allD_d {ds : List D} : allD (ds.map .d) = some ds := ziX ds
theorem tc_0 {ns : List Nat} : toCaller ns dst 0 = dst := by simp [toCaller]
theorem tc_1 {ns : List Nat} : toCaller ns dst 1 = dst + 10000 := by simp [toCaller]
theorem tc_2 {ns : List Nat} : toCaller ns dst 2 = dst + 20000 := by simp [toCaller]
theorem tc_3 {ns : List Nat} : toCaller ns dst 3 = dst + 30000 := by simp [toCaller]
theorem tc_at {ns : List Nat} {n : Nat} (h : ¬ n < 1000000) : toCaller ns dst n = ns.getD (n - 1000000) 0 := by unfold toCaller; rw [if_neg h]
theorem tc_a0 {ns : List Nat} {a : Nat} : toCaller (a :: ns) dst 1000000 = a := by rw [tc_at (by omega)]; rfl
theorem tc_a1 {ns : List Nat} {a b : Nat} : toCaller (a :: b :: ns) dst 1000001 = b := by rw [tc_at (by omega)]; rfl
theorem tc_a2 {ns : List Nat} {a b c : Nat} : toCaller (a :: b :: c :: ns) dst 1000002 = c := by rw [tc_at (by omega)]; rfl
theorem tc_a3 {ns : List Nat} {a b c d : Nat} : toCaller (a :: b :: c :: d :: ns) dst 1000003 = d := by rw [tc_at (by omega)]; rfl
attribute [go_sem] tc_0 tc_1 tc_2 tc_3 tc_a0 tc_a1 tc_a2 tc_a3
theorem okEs_d {o m : Nat} : ∀ {ds : List D}, okEs o m (ds.map .d) = true
 | [] => rfl
 | d :: ds => by rw [List.map_cons]; simp only [okEs, okEs_d]; rfl
theorem zoD {o m : Nat} : ∀ {ds : List D}, rowEs o m (ds.map .d) = ds.map .d
 | [] => rfl
 | d :: ds => by rw [List.map_cons]; simp only [rowEs, zoD]; rfl
theorem zmY {o m : Nat} : ∀ {ds : List D}, findAccE o m (ds.map .d) = none
 | [] => rfl
 | d :: ds => by rw [List.map_cons]; simp only [findAccE, zmY, findAccC]; rfl
theorem zo0 {o : Nat} : ∀ {ds : List D}, nilEs o (ds.map .d) = ds.map .d
 | [] => rfl
 | d :: ds => by rw [List.map_cons]; simp only [nilEs, zo0]; rfl
attribute [go_sem] zo0 nilC nilCs nilE nilEs nilOb nilHp nilS
attribute [go_sem] okEs_d zoD zmY okC rowC okCs rowCs okE rowE okEs rowEs okHp rowHp findAccC orE findAccE findAccH findAcc2 toRow3
attribute [go_sem] zos zuA zpl zjq zpk allD_d
attribute [go_sem high] ca0 ca1 ca2 ca3 ca4 ca5 cv1 cv2
attribute [go_sem low] zpV zpT
attribute [go_sem] zsg frzF zsi zsh zsk zsj mark List.drop_nil Option.isSome_some Option.isSome_none
def D.isT : D → Bool
 | .tup _ => true
 | _ => false
theorem zt9 {x : D} : isTup (.d x) = x.isT := by cases x <;> rfl
theorem zt5 {k : IntKind} {n : Int} : D.isT (.int k n) = false := rfl
theorem zt4 {b : Bool} : D.isT (.bool b) = false := rfl
theorem zt6 {s : List UInt8} : D.isT (.str s) = false := rfl
theorem zt3 {cs : List D} : D.isT (.agg cs) = false := rfl
theorem isT_sl {es : List D} : D.isT (.sl es) = false := rfl
theorem isT_pd {x : D} : D.isT (.pd x) = false := rfl
theorem isT_fn {f : FuncId} {cs : List D} : D.isT (.fn f cs) = false := rfl
theorem zte {o i off : Nat} : isTup (.ref o i off) = false := rfl
theorem ztc {o off len : Nat} : isTup (.osl o off len) = false := rfl
theorem zt7 {o : Nat} {es : List D} : isTup (.acc o es) = false := rfl
theorem ztd {o : Nat} {x : D} : isTup (.pe o x) = false := rfl
theorem ztf {es : List D} : isTup (.xsl es) = false := rfl
theorem zt8 {cs : List AV} : isTup (.agg cs) = false := rfl
theorem zta {f : FuncId} {cs : List AV} : isTup (.fn f cs) = false := rfl
theorem ztb {b : Bool} : isTup (.nl b) = false := rfl
attribute [go_sem] zt9 zt5 zt4 zt6 zt3 isT_sl isT_pd isT_fn zte ztc zt7 ztd ztf zt8 zta ztb
theorem zvz {ρ : Nat → Nat} {ds : List D} : (ds.map AV.d).map (AV.ren ρ) = ds.map .d := by rw [List.map_map]; exact List.map_congr_left fun _ _ => rfl
attribute [go_sem] zvz
theorem GOK.of {P : Program} (tab : List (Nat × AFn)) (h : ∀ p ∈ tab, FnOK P p.1 p.2) : GOK P (fun f => look f tab) := fun f fn hf => h (f, fn) (zif hf)
end Go.Sim

namespace Go.Sim
abbrev oM (d s : Nat) : AOper := ⟨some d, .mv (.t s), none⟩
abbrev oP (d : Nat) (x : AOp) : AOper := ⟨some d, x, none⟩
abbrev oQ (d : Nat) (x : AOp) (t : Nat) (b : Bool) : AOper := ⟨some d, x, some (t, b)⟩
abbrev oN (x : AOp) : AOper := ⟨none, x, none⟩
abbrev kI (n : Int) : Opd := .c (.d (.int .i64 n))
abbrev aI (n : Int) : AV := .d (.int .i64 n)
open Go (World Value Addr TypeId Act)
def insF (S : Nat) (args : List AV) (os : Heap) : Option (AV × Heap) :=
 match args, os with
 | [.osl o 0 n, .d (.int .i64 i), .d (.sl [v])], [(p, .row es)] =>
   (allD es).bind fun ds => if o = 1000000 ∧ p = 1000000 ∧ ds ≠ [] ∧ n = ds.length ∧ 0 ≤ i ∧ i ≤ ds.length ∧ allSize S (v :: ds) = true ∧ ds.length + 1 ≤ LIM then some (.d (.sl (ds.take i.toNat ++ [v] ++ ds.drop i.toNat)), [(1000000, .frz none)]) else none
 | [.xsl [], .d (.int .i64 i), .d (.sl [v])], [] => if i = 0 ∧ v.size = S then some (.d (.sl [v]), []) else none
 | _, _ => none
def delF (S : Nat) (args : List AV) (os : Heap) : Option (AV × Heap) :=
 match args, os with
 | [.osl o 0 n, .d (.int .i64 i), .d (.int .i64 j)], [(p, .row es)] =>
   (allD es).bind fun ds => if o = 1000000 ∧ p = 1000000 ∧ ds ≠ [] ∧ n = ds.length ∧ 0 ≤ i ∧ i < j ∧ j ≤ ds.length ∧ allSize S ds = true ∧ ds.length ≤ LIM then some (.d (.sl (ds.take i.toNat ++ ds.drop j.toNat)), [(1000000, .frz none)]) else none
 | _, _ => none
theorem zsJ {S : Nat} {args : List AV} {os os' : Heap} {r : AV} (h : insF S args os = some (r, os')) :
   (∃ (ds : List D) (i : Nat) (v : D), args = .osl 1000000 0 ds.length :: [D.int .i64 i, D.sl [v]].map .d ∧ os = [(1000000, .row (ds.map .d))] ∧ ds ≠ [] ∧ i ≤ ds.length ∧ (∀ e ∈ v :: ds, e.size = S) ∧ ds.length + 1 ≤ LIM ∧ r = .d (.sl (ds.take i ++ [v] ++ ds.drop i)) ∧ os' = [(1000000, .frz none)]) ∨
   (∃ v : D, args = [.xsl [], .d (.int .i64 0), .d (.sl [v])] ∧ os = [] ∧ v.size = S ∧ r = .d (.sl [v]) ∧ os' = []) := by
 unfold insF at h
 split at h
 · rename_i o n i v p es
   obtain ⟨ds, hd, hh⟩ := Option.bind_eq_some_iff.1 h
   clear h
   split at hh
   · rename_i hc
     obtain ⟨rfl, rfl, h1, rfl, h2, h3, h4, h5⟩ := hc
     cases hh
     refine .inl ⟨ds, i.toNat, v, by simp only [List.map_cons, List.map_nil, Int.toNat_of_nonneg h2], by rw [ziP hd], h1, by omega, fun e he => ?_, h5, rfl, rfl⟩
     simpa using (List.all_eq_true.1 h4) e he
   · cases hh
 · rename_i i v
   split at h
   · rename_i hc
     obtain ⟨rfl, h1⟩ := hc
     cases h
     exact .inr ⟨v, rfl, rfl, h1, rfl, rfl⟩
   · cases h
 · cases h
theorem zqL {S : Nat} {args : List AV} {os os' : Heap} {r : AV} (h : delF S args os = some (r, os')) :
   ∃ (ds : List D) (i j : Nat), args = .osl 1000000 0 ds.length :: [D.int .i64 i, D.int .i64 j].map .d ∧ os = [(1000000, .row (ds.map .d))] ∧ ds ≠ [] ∧ i < j ∧ j ≤ ds.length ∧ (∀ e ∈ ds, e.size = S) ∧ ds.length ≤ LIM ∧ r = .d (.sl (ds.take i ++ ds.drop j)) ∧ os' = [(1000000, .frz none)] := by
 unfold delF at h
 split at h
 · rename_i o n i j p es
   obtain ⟨ds, hd, hh⟩ := Option.bind_eq_some_iff.1 h
   clear h
   split at hh
   · rename_i hc
     obtain ⟨rfl, rfl, h1, rfl, h2, h3, h4, h5, h6⟩ := hc
     cases hh
     refine ⟨ds, i.toNat, j.toNat, by simp only [List.map_cons, List.map_nil, Int.toNat_of_nonneg h2, Int.toNat_of_nonneg (show 0 ≤ j by omega)], by rw [ziP hd], h1, by omega, by omega, fun e he => ?_, h6, rfl, rfl⟩
     simpa using (List.all_eq_true.1 h5) e he
   · cases hh
 · cases h
variable {G : FuncId → Option AFn}
theorem zsV {f : FuncId} {S : Nat} (h : G f = some (.ext (insF S))) (ds : List D) (v : D) (i : Nat) (h0 : ds ≠ []) (hi : i ≤ ds.length) (hz : ∀ e ∈ v :: ds, e.size = S) (hL : ds.length + 1 ≤ 4294967296) :
   callL G f [.osl 1000000 0 ds.length, .d (.int .i64 i), .d (.sl [v])] [(1000000, .row (ds.map .d))] = some (.d (.sl (ds.take i ++ [v] ++ ds.drop i)), [(1000000, .frz none)]) := by
 rw [zjs h]
 show (allD (ds.map AV.d)).bind _ = _
 rw [ziX]
 show (if _ then _ else _) = _
 split
 · rw [Int.toNat_natCast]
 · rename_i hc
   exact absurd ⟨rfl, rfl, h0, rfl, by omega, by omega, List.all_eq_true.2 fun e he => by simpa using hz e he, hL⟩ hc
theorem zsW {f : FuncId} {S : Nat} (h : G f = some (.ext (insF S))) (v : D) (hz : v.size = S) :
   callL G f [.xsl [], .d (.int .i64 0), .d (.sl [v])] [] = some (.d (.sl [v]), []) := by
 rw [zjs h]
 show (if _ then _ else _) = _
 split
 · rfl
 · rename_i hc
   exact absurd ⟨rfl, hz⟩ hc
theorem zqO {f : FuncId} {S : Nat} (h : G f = some (.ext (delF S))) (ds : List D) (i j : Nat) (hi : i < j) (hj : j ≤ ds.length) (hz : ∀ e ∈ ds, e.size = S) (hL : ds.length ≤ 4294967296) :
   callL G f [.osl 1000000 0 ds.length, .d (.int .i64 i), .d (.int .i64 j)] [(1000000, .row (ds.map .d))] = some (.d (.sl (ds.take i ++ ds.drop j)), [(1000000, .frz none)]) := by
 rw [zjs h]
 show (allD (ds.map AV.d)).bind _ = _
 rw [ziX]
 show (if _ then _ else _) = _
 split
 · rw [Int.toNat_natCast, Int.toNat_natCast]
 · rename_i hc
   exact absurd ⟨rfl, rfl, by rintro rfl; simp at hj; omega, rfl, by omega, by omega, by omega, List.all_eq_true.2 fun e he => by simpa using hz e he, hL⟩ hc
end Go.Sim

namespace Go.Proofs.YtcjncbkhbllchaaGreat
open Go Go.Sim
abbrev z1l : Nat := 5
abbrev zM : Nat := 7
abbrev zR : Nat := 8
abbrev z18 : Nat := 9
abbrev zB : Nat := 10
abbrev z2a : Nat := 11
abbrev z1m : Nat := 12
abbrev z0y : Nat := 13
abbrev z25 : Nat := 14
abbrev z28 : Nat := 15
abbrev zQ : Nat := 17
abbrev z1U : Nat := 19
abbrev z0q : Nat := 20
abbrev zg : Nat := 23
abbrev zP : Nat := 24
abbrev zV : Nat := 25
abbrev zO : Nat := 26
abbrev z26 : Nat := 27
abbrev z27 : Nat := 28
abbrev zF : Nat := 29
abbrev z17 : Nat := 33
abbrev z1b : Nat := 34
abbrev z14 : Nat := 35
abbrev z19 : Nat := 36
abbrev z08 : Nat := 37
abbrev z2e : Nat := 38
abbrev z2f : Nat := 39
abbrev z2g : Nat := 40
abbrev z2h : Nat := 41
abbrev z04 : Nat := 42
abbrev z2j : Nat := 43
abbrev zZ : Nat := 44
abbrev z1y : Nat := 45
abbrev z2c : Nat := 46
abbrev z0z : Nat := 47
abbrev z29 : Nat := 48
abbrev z2d : Nat := 49
abbrev z2k : Nat := 50
abbrev zD : Nat := 51
abbrev z00 : Nat := 52
abbrev z01 : Nat := 53
abbrev z2b : Nat := 54
abbrev z2l : Nat := 55
abbrev z05 : Nat := 56
abbrev z1X : Nat := 58
abbrev z1W : Nat := 59
abbrev z06 : Nat := 60
abbrev z2o : Nat := 61
abbrev z2i : Nat := 62
abbrev z03 : Nat := 64
abbrev z1n : Nat := 66
abbrev z1q : Nat := 67
abbrev z1H : Nat := 68
abbrev z1S : Nat := 69
abbrev z1Y : Nat := 70
abbrev zN : Nat := 84
abbrev z1B : Nat := 85
abbrev z1C : Nat := 86
abbrev z15 : Nat := 87
abbrev z2q : Nat := 88
abbrev z0C : Nat := 89
abbrev zq : Nat := 90
abbrev z09 : Nat := 91
abbrev z20 : Nat := 92
abbrev z0x : Nat := 93
abbrev zp : Nat := 94
abbrev z02 : Nat := 95
abbrev z1x : Nat := 96
abbrev z1p : Nat := 97
abbrev z1Z : Nat := 98
abbrev z07 : Nat := 99
abbrev z0B : Nat := 100
abbrev z1o : Nat := 101
abbrev z1r : Nat := 102
abbrev z23 : Nat := 103
abbrev z22 : Nat := 104
abbrev z0v : Nat := 105
abbrev zX : Nat := 106
abbrev z1F : Nat := 112
abbrev z2s : Nat := 113
abbrev z0A : Nat := 114
abbrev z1s : Nat := 115
abbrev zY : Nat := 116
abbrev zU : Nat := 117
abbrev zT : Nat := 118
abbrev z0D : Nat := 119
abbrev zo : Nat := 120
abbrev zW : Nat := 121
abbrev z0u : Nat := 122
abbrev z0r : Nat := 123
abbrev z1L : Nat := 124
abbrev z1T : Nat := 125
abbrev z0s : Nat := 133
abbrev z1R : Nat := 139
abbrev z0t : Nat := 142
abbrev z1A : Nat := 144
abbrev z1D : Nat := 145
abbrev z16 : Nat := 146
abbrev z2v : Nat := 147
abbrev zE : Nat := 148
abbrev z21 : Nat := 149
abbrev z24 : Nat := 150
abbrev z2w : Nat := 151
abbrev z1u : Nat := 152
abbrev z1f : Nat := 153
abbrev z1t : Nat := 154
abbrev z2m : Nat := 156
abbrev zC : Nat := 157
abbrev zS : Nat := 158
abbrev z1i : Nat := 159
abbrev z0o : Nat := 160
abbrev z1k : Nat := 161
abbrev z1j : Nat := 162
abbrev z2t : Nat := 163
abbrev z0E : Nat := 164
abbrev z0n : Nat := 165
abbrev z1E : Nat := 166
abbrev z1O : Nat := 167
abbrev z1N : Nat := 168
abbrev z1M : Nat := 169
abbrev z1I : Nat := 170
abbrev z1J : Nat := 171
abbrev z1K : Nat := 175
abbrev z1V : Nat := 177
abbrev z1a : Nat := 178
abbrev z1c : Nat := 179
abbrev z1z : Nat := 180
abbrev z0w : Nat := 181
abbrev z38 : Nat := 184
abbrev z2n : Nat := 185
abbrev z0m : Nat := 186
abbrev z1g : Nat := 187
abbrev z2p : Nat := 188
abbrev z1e : Nat := 189
abbrev z2r : Nat := 190
abbrev z0p : Nat := 191
abbrev z1h : Nat := 192
abbrev z0G : Nat := 193
abbrev z1v : Nat := 194
abbrev z1d : Nat := 195
abbrev z1Q : Nat := 198
abbrev z1G : Nat := 200
abbrev z2u : Nat := 202
abbrev z0F : Nat := 203
abbrev z8W : Nat := 211
abbrev z1w : Nat := 212
abbrev z1P : Nat := 213
end Go.Proofs.YtcjncbkhbllchaaGreat

namespace Go.Sim
open Go (Program Func)
def val {x : Option ACode} (c : ACode) (_ : x = some c) : ACode := c
theorem val_eq {x : Option ACode} {c : ACode} (h : x = some c) : val c h = c := rfl
attribute [go_sem ↓] val_eq
theorem iP (n : Nat) : Int.ofNat n = (n : Int) := rfl
theorem iN (n : Nat) : Int.negSucc n = -((n : Int) + 1) := rfl
def bodies : ACode → List ACode
 | .seq a b => bodies a ++ bodies b
 | .cond _ a b => bodies a ++ bodies b
 | .block _ a => bodies a
 | .loop _ a => bodies a ++ [a]
 | _ => []
def setB : ACode → List ACode → ACode × List ACode
 | .seq a b, ls => (.seq (setB a ls).1 (setB b (setB a ls).2).1, (setB b (setB a ls).2).2)
 | .cond z a b, ls => (.cond z (setB a ls).1 (setB b (setB a ls).2).1, (setB b (setB a ls).2).2)
 | .block i a, ls => (.block i (setB a ls).1, (setB a ls).2)
 | .loop ks a, ls => (match ls.drop (bodies a).length with | x :: _ => .loop ks x | [] => .loop ks a, ls.drop ((bodies a).length + 1))
 | c, ls => (c, ls)
def comp0 (P : Program) (hs : Hints) (F : List (Nat × List (List Nat))) : Code → Option ACode
 | .skip => some .skip
 | .region id ops false => (ops.toList.mapM (compOper P hs ops)).map fun l => .ops (killOf hs.ghost id) l (killOf hs.kill id)
 | .region id ops true => (ops.toList.mapM (compOper P hs ops)).map fun l => .draw (killOf hs.ghost id) l ((look id F).getD []) (killOf hs.kill id)
 | .seq a b => match comp0 P hs F a, comp0 P hs F b with | some x, some y => some (.seq x y) | _, _ => none
 | .cond c t e => match opd c, comp0 P hs F t, comp0 P hs F e with | some z, some x, some y => some (.cond z x y) | _, _, _ => none
 | .block id b => (comp0 P hs F b).map (.block id)
 | .loop b => (comp0 P hs F b).map (.loop (killOf hs.loop (firstId b)))
 | .exit id => some (.exit id (killOf hs.exit id))
 | .ret => some (.ret hs.ret)
 | _ => none
def codeC (P : Program) (fn : Func) (hs : Hints) (F : List (Nat × List (List Nat))) (ls : List ACode) : Option ACode := (fn.body.bind (comp0 P hs F)).map fun c => (setB c ls).1
def codeL (P : Program) (fn : Func) (hs : Hints) (F : List (Nat × List (List Nat))) (j : Nat) (ls : List ACode) : Option ACode := (fn.body.bind (comp0 P hs F)).bind fun c => (bodies c)[j]?.map fun b => (setB b ls).1
end Go.Sim
