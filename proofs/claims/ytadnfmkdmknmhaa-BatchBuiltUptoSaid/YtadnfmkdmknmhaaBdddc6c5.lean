/-
  The meaning of code, step by step, as rewriting: each step is taken only at a state that is written out.
  What slices.Insert and slices.Delete do, as functions that a contract gives.
  Numbers of functions.
  Codes that are reckoned where they are defined.
-/
import Derived.Test.YtadnfmkdmknmhaaB86759e4
import Derived.Test.YtadnfmkdmknmhaaB9b05509
import Derived.KernelRfl
set_option linter.unusedSimpArgs false
set_option linter.unusedVariables false
namespace Go.Sim
variable {G : FuncId → Option AFn} {F : Sem1} {E : Env} {H : Heap}
theorem x_skip : exL G .skip ⟨E, H⟩ = some (.normal, ⟨E, H⟩) := exL_skip
theorem endS_ap {ks : List Nat} : endS ks ⟨E, H⟩ = gcS ⟨sortE (keepE ks E), H⟩ := rfl
theorem gcS_ap : gcS ⟨E, H⟩ = ⟨E, gc1 E H⟩ := rfl
theorem x_exit {i : Nat} {ks : List Nat} : exL G (.exit i ks) ⟨E, H⟩ = some (.exit i, endS ks ⟨E, H⟩) := exL_exit
theorem x_ret {ks : List Nat} : exL G (.ret ks) ⟨E, H⟩ = some (.ret, endS ks ⟨E, H⟩) := exL_ret
theorem x_ops {gs : List Nat} {l : List AOper} {ks : List Nat} : exL G (.ops gs l ks) ⟨E, H⟩ = ((ghosts gs ⟨E, H⟩).bind (execOps (callL G) l)).map (killS ks) := exL_ops
theorem x_draw {gs : List Nat} {l : List AOper} {fr : List (List Nat)} {ks : List Nat} : exL G (.draw gs l fr ks) ⟨E, H⟩ = ((ghosts gs ⟨E, H⟩).bind (drawF (callL G) l fr)).map (killS ks) := exL_draw
theorem x_seq {x y : ACode} : exL G (.seq x y) ⟨E, H⟩ = (exL G x ⟨E, H⟩).bind (seqF (exL G y)) := exL_seq
theorem x_cond {c : Opd} {x y : ACode} : exL G (.cond c x y) ⟨E, H⟩ = condF (c.ev E) (exL G x ⟨E, H⟩) (exL G y ⟨E, H⟩) := exL_cond
noncomputable def condE (G : FuncId → Option AFn) (x y : ACode) (E : Env) (H : Heap) : AV → Option (AExit × St)
  | .d (.bool b) => if b = true then exL G x ⟨E, H⟩ else exL G y ⟨E, H⟩
  | _ => none
theorem x_cond' {c : Opd} {x y : ACode} : exL G (.cond c x y) ⟨E, H⟩ = condE G x y E H (c.ev E) := by
  rw [x_cond]
  unfold condF condE
  generalize c.ev E = v
  split <;> simp_all
theorem condE_b {b : Bool} {x y : ACode} : condE G x y E H (.d (.bool b)) = if b = true then exL G x ⟨E, H⟩ else exL G y ⟨E, H⟩ := rfl
theorem condE_t {x y : ACode} : condE G x y E H (.d (.bool true)) = exL G x ⟨E, H⟩ := rfl
theorem condE_f {x y : ACode} : condE G x y E H (.d (.bool false)) = exL G y ⟨E, H⟩ := rfl
theorem x_block {id : Nat} {x : ACode} : exL G (.block id x) ⟨E, H⟩ = (exL G x ⟨E, H⟩).map (blockF id) := exL_block
theorem x_loop {ks : List Nat} {x : ACode} : exL G (.loop ks x) ⟨E, H⟩ = loopL G ks x (norm ks ⟨E, H⟩) := rfl
theorem ghosts_nil {S : St} : ghosts [] S = some S := rfl
theorem ghosts_cons {g : Nat} {gs : List Nat} : ghosts (g :: gs) ⟨E, H⟩ = (ghost1 g ⟨E, H⟩).bind (ghosts gs) := rfl
theorem killS_ap {ks : List Nat} : killS ks ⟨E, H⟩ = (.normal, ⟨killEnv ks E, H⟩) := rfl
theorem norm_ap {ks : List Nat} : norm ks ⟨E, H⟩ = norm1 ⟨killEnv ks E, H⟩ := rfl
theorem norm1_ap : norm1 ⟨E, H⟩ = ⟨sortE (deX E), sortH (gc1 E (gc1 E H))⟩ := rfl
theorem seqF_n {g : St → Option (AExit × St)} {S : St} : seqF g (.normal, S) = g S := rfl
theorem seqF_e {g : St → Option (AExit × St)} {i : Nat} {S : St} : seqF g (.exit i, S) = some (.exit i, S) := rfl
theorem seqF_r {g : St → Option (AExit × St)} {S : St} : seqF g (.ret, S) = some (.ret, S) := rfl
theorem loopF_n {ks : List Nat} {g : St → Option (AExit × St)} {S : St} : loopF ks g (.normal, S) = g (norm ks S) := rfl
theorem loopF_e {ks : List Nat} {g : St → Option (AExit × St)} {i : Nat} {S : St} : loopF ks g (.exit i, S) = some (.exit i, S) := rfl
theorem loopF_r {ks : List Nat} {g : St → Option (AExit × St)} {S : St} : loopF ks g (.ret, S) = some (.ret, S) := rfl
theorem blockF_n {id : Nat} {S : St} : blockF id (.normal, S) = (.normal, S) := rfl
theorem blockF_e {id i : Nat} {S : St} : blockF id (.exit i, S) = if i = id then (.normal, S) else (.exit i, S) := rfl
theorem blockF_r {id : Nat} {S : St} : blockF id (.ret, S) = (.ret, S) := rfl
theorem condF_b {b : Bool} {x y : Option (AExit × St)} : condF (.d (.bool b)) x y = if b = true then x else y := rfl
theorem condF_t {x y : Option (AExit × St)} : condF (.d (.bool true)) x y = x := rfl
theorem condF_f {x y : Option (AExit × St)} : condF (.d (.bool false)) x y = y := rfl
def reAt (t : Nat) (v : AV) : Env → Env
  | [] => []
  | (j, x) :: l => if j = t then (j, v) :: l else (j, x) :: reAt t v l
theorem reAt_eq {t : Nat} {v : AV} : ∀ {E : Env}, look t E = some v → reAt t v E = E := by
  intro E
  induction E with
  | nil => intro h; cases h
  | cons p l ih =>
    obtain ⟨j, x⟩ := p
    intro h
    simp only [look] at h
    simp only [reAt]
    split
    · rename_i e; rw [if_pos e] at h; cases h; rfl
    · rename_i e; rw [if_neg e] at h; rw [ih h]
def guardE {α : Type} (v : Option AV) (k j : Bool → Option α) : Option α :=
  match v with
  | some (.d (.bool true)) => k true
  | some (.d (.bool false)) => k false
  | _ => none
theorem o_nil : execOps F [] ⟨E, H⟩ = some ⟨E, H⟩ := rfl
theorem o_one {d : Option Nat} {op : AOp} {l : List AOper} : execOps F (⟨d, op, none⟩ :: l) ⟨E, H⟩ = (stepS F ⟨d, op, none⟩ ⟨E, H⟩).bind (execOps F l) := rfl
def gOps (F : Sem1) (d : Option Nat) (op : AOp) (b : Bool) (l : List AOper) (E : Env) (H : Heap) (c : Bool) : Option St := if c = b then (stepS F ⟨d, op, none⟩ ⟨E, H⟩).bind (execOps F l) else execOps F l (St.put ⟨E, H⟩ d (.d (.tup [])))
theorem gOps_t {d : Option Nat} {op : AOp} {l : List AOper} : gOps F d op true l E H true = (stepS F ⟨d, op, none⟩ ⟨E, H⟩).bind (execOps F l) := rfl
theorem gOps_f {d : Option Nat} {op : AOp} {l : List AOper} : gOps F d op false l E H false = (stepS F ⟨d, op, none⟩ ⟨E, H⟩).bind (execOps F l) := rfl
theorem gOps_n {d : Option Nat} {op : AOp} {l : List AOper} : gOps F d op true l E H false = execOps F l (St.put ⟨E, H⟩ d (.d (.tup []))) := rfl
theorem gOps_m {d : Option Nat} {op : AOp} {l : List AOper} : gOps F d op false l E H true = execOps F l (St.put ⟨E, H⟩ d (.d (.tup []))) := rfl
def gAsk (F : Sem1) (d : Option Nat) (op : AOp) (t : Nat) (b : Bool) (l : List AOper) (E : Env) (H : Heap) (v : Option AV) : Option St :=
  match v with
  | some (.d (.bool c)) => if c = true then gOps F d op b l (reAt t (.d (.bool true)) E) H true else gOps F d op b l (reAt t (.d (.bool false)) E) H false
  | some (.d (.tup [])) => execOps F l (St.put ⟨E, H⟩ d (.d (.tup [])))
  | _ => none
theorem gAsk_s {d : Option Nat} {op : AOp} {t : Nat} {b : Bool} {l : List AOper} : gAsk F d op t b l E H (some (.d (.tup []))) = execOps F l (St.put ⟨E, H⟩ d (.d (.tup []))) := rfl
theorem gAsk_b {d : Option Nat} {op : AOp} {t : Nat} {b c : Bool} {l : List AOper} : gAsk F d op t b l E H (some (.d (.bool c))) = if c = true then gOps F d op b l (reAt t (.d (.bool true)) E) H true else gOps F d op b l (reAt t (.d (.bool false)) E) H false := rfl
theorem o_guard {d : Option Nat} {op : AOp} {l : List AOper} {t : Nat} {b : Bool} : execOps F (⟨d, op, some (t, b)⟩ :: l) ⟨E, H⟩ = gAsk F d op t b l E H (look t E) := by
  simp only [execOps, gAsk]
  generalize hv : look t E = v
  split
  · rename_i c
    cases c with
    | true => simp only [reAt_eq hv, if_true]; rfl
    | false => simp only [reAt_eq hv, Bool.false_eq_true, if_false]; rfl
  · rfl
  · rename_i hno hno2
    split
    · exact absurd rfl (hno _)
    · exact absurd rfl hno2
    · rfl
theorem d_ap {l : List AOper} {fr : List (List Nat)} : drawF F l fr ⟨E, H⟩ = if (nodupK E && nodupK H && freshFor l ⟨E, H⟩) = true then execDraw F l fr [] ⟨E, H⟩ else none := rfl
theorem d_nil {fr : List (List Nat)} {acc : List (List Nat × List Nat)} : execDraw F [] fr acc ⟨E, H⟩ = some ⟨E, H⟩ := rfl
theorem d_one {d : Option Nat} {op : AOp} {l : List AOper} {f : List Nat} {fr : List (List Nat)} {acc : List (List Nat × List Nat)} : execDraw F (⟨d, op, none⟩ :: l) (f :: fr) acc ⟨E, H⟩ = (drawTake F ⟨d, op, none⟩ (f :: fr) acc ⟨E, H⟩).bind (execDraw F l fr (acc ++ [op.feet E H (d.getD 0)])) := rfl
def dOps (F : Sem1) (d : Option Nat) (op : AOp) (t : Nat) (b : Bool) (l : List AOper) (f : List Nat) (fr : List (List Nat)) (acc : List (List Nat × List Nat)) (E : Env) (H : Heap) (c : Bool) : Option St :=
  if c = b then (drawTake F ⟨d, op, none⟩ (f :: fr) acc ⟨E, H⟩).bind (execDraw F l fr (acc ++ [op.feet E H (d.getD 0)])) else (drawSkip ⟨d, op, some (t, b)⟩ (f :: fr) acc ⟨E, H⟩).bind (execDraw F l fr (acc ++ [([], [])]))
theorem dOps_t {d : Option Nat} {op : AOp} {t : Nat} {l : List AOper} {f : List Nat} {fr : List (List Nat)} {acc : List (List Nat × List Nat)} : dOps F d op t true l f fr acc E H true = (drawTake F ⟨d, op, none⟩ (f :: fr) acc ⟨E, H⟩).bind (execDraw F l fr (acc ++ [op.feet E H (d.getD 0)])) := rfl
theorem dOps_f {d : Option Nat} {op : AOp} {t : Nat} {l : List AOper} {f : List Nat} {fr : List (List Nat)} {acc : List (List Nat × List Nat)} : dOps F d op t false l f fr acc E H false = (drawTake F ⟨d, op, none⟩ (f :: fr) acc ⟨E, H⟩).bind (execDraw F l fr (acc ++ [op.feet E H (d.getD 0)])) := rfl
theorem dOps_n {d : Option Nat} {op : AOp} {t : Nat} {l : List AOper} {f : List Nat} {fr : List (List Nat)} {acc : List (List Nat × List Nat)} : dOps F d op t true l f fr acc E H false = (drawSkip ⟨d, op, some (t, true)⟩ (f :: fr) acc ⟨E, H⟩).bind (execDraw F l fr (acc ++ [([], [])])) := rfl
theorem dOps_m {d : Option Nat} {op : AOp} {t : Nat} {l : List AOper} {f : List Nat} {fr : List (List Nat)} {acc : List (List Nat × List Nat)} : dOps F d op t false l f fr acc E H true = (drawSkip ⟨d, op, some (t, false)⟩ (f :: fr) acc ⟨E, H⟩).bind (execDraw F l fr (acc ++ [([], [])])) := rfl
def dAsk (F : Sem1) (d : Option Nat) (op : AOp) (t : Nat) (b : Bool) (l : List AOper) (f : List Nat) (fr : List (List Nat)) (acc : List (List Nat × List Nat)) (E : Env) (H : Heap) (v : Option AV) : Option St :=
  match v with
  | some (.d (.bool c)) => if c = true then dOps F d op t b l f fr acc (reAt t (.d (.bool true)) E) H true else dOps F d op t b l f fr acc (reAt t (.d (.bool false)) E) H false
  | some (.d (.tup [])) => (drawSkip ⟨d, op, some (t, b)⟩ (f :: fr) acc ⟨E, H⟩).bind (execDraw F l fr (acc ++ [([], [])]))
  | _ => none
theorem dAsk_s {d : Option Nat} {op : AOp} {t : Nat} {b : Bool} {l : List AOper} {f : List Nat} {fr : List (List Nat)} {acc : List (List Nat × List Nat)} : dAsk F d op t b l f fr acc E H (some (.d (.tup []))) = (drawSkip ⟨d, op, some (t, b)⟩ (f :: fr) acc ⟨E, H⟩).bind (execDraw F l fr (acc ++ [([], [])])) := rfl
theorem dAsk_b {d : Option Nat} {op : AOp} {t : Nat} {b c : Bool} {l : List AOper} {f : List Nat} {fr : List (List Nat)} {acc : List (List Nat × List Nat)} : dAsk F d op t b l f fr acc E H (some (.d (.bool c))) =
    if c = true then dOps F d op t b l f fr acc (reAt t (.d (.bool true)) E) H true else dOps F d op t b l f fr acc (reAt t (.d (.bool false)) E) H false := rfl
theorem d_guard {d : Option Nat} {op : AOp} {l : List AOper} {f : List Nat} {fr : List (List Nat)} {acc : List (List Nat × List Nat)} {t : Nat} {b : Bool} : execDraw F (⟨d, op, some (t, b)⟩ :: l) (f :: fr) acc ⟨E, H⟩ = dAsk F d op t b l f fr acc E H (look t E) := by
  simp only [execDraw, dAsk]
  generalize hv : look t E = v
  split
  · rename_i c
    cases c with
    | true => simp only [reAt_eq hv, if_true]; rfl
    | false => simp only [reAt_eq hv, Bool.false_eq_true, if_false]; rfl
  · rfl
  · rename_i hno hno2
    split
    · exact absurd rfl (hno _)
    · exact absurd rfl hno2
    · rfl
theorem dt_ap {d : Option Nat} {op : AOp} {f : List Nat} {fr : List (List Nat)} {acc : List (List Nat × List Nat)} : drawTake F ⟨d, op, none⟩ (f :: fr) acc ⟨E, H⟩ = if clashless f acc (op.feet E H (d.getD 0)) = true then stepS F ⟨d, op, none⟩ ⟨E, H⟩ else none := rfl
theorem ds_ap {x : AOper} {f : List Nat} {fr : List (List Nat)} {acc : List (List Nat × List Nat)} : drawSkip x (f :: fr) acc ⟨E, H⟩ = if clashless f acc ([], []) = true then some (St.put ⟨E, H⟩ x.dst (.d (.tup []))) else none := rfl
theorem put_n {v : AV} : St.put ⟨E, H⟩ none v = ⟨E, H⟩ := rfl
theorem put_s {d : Nat} {v : AV} : St.put ⟨E, H⟩ (some d) v = ⟨setAt d v E, H⟩ := rfl
def putO (E : Env) (d : Option Nat) (r : Option (AV × Heap)) : Option St := r.map fun p => St.put ⟨E, p.2⟩ d p.1
theorem putO_n {v : AV} : putO E none (some (v, H)) = some ⟨E, H⟩ := rfl
theorem putO_s {d : Nat} {v : AV} : putO E (some d) (some (v, H)) = some ⟨setAt d v E, H⟩ := rfl
theorem s_ap {d : Option Nat} {op : AOp} {g : Option (Nat × Bool)} : stepS F ⟨d, op, g⟩ ⟨E, H⟩ = putO E d (step F E H (d.getD 0) op) := rfl
variable {dst : Nat}
theorem s_nileq {ng : Bool} {x : Opd} : step F E H dst (.nileq ng x) = nileqA H ng (x.ev E) := rfl
theorem callvA_d {g : FuncId} {cs : List D} {ms : List Bool} {args : List AV} : callvA F E H dst ms (.d (.fn g cs)) args = callA F E H dst ms g (args ++ cs.map .d) := rfl
theorem callvA_a {g : FuncId} {cs : List AV} {ms : List Bool} {args : List AV} : callvA F E H dst ms (.fn g cs) args = callA F E H dst ms g (args ++ cs) := rfl
theorem callS_s {v : AV} {δ : Heap} : callS H (some (v, δ)) = some (v, putsH δ H) := rfl
theorem callA_eq {ms : List Bool} {f : FuncId} {args : List AV} : callA F E H dst ms f args = if frzF ms args.length = true then (callArgs H ms args).bind (frzB F E H dst ms f (dataObjs ms args)) else callA0 F E H dst ms f args := rfl
theorem callA0_eq {ms : List Bool} {f : FuncId} {args : List AV} : callA0 F E H dst ms f args = (callArgs H ms args).bind (callB F E H dst (namesOf H ms args) (dataObjs ms args) f) := rfl
theorem frzB_ap {ms : List Bool} {f : FuncId} {dob : List Nat} {as : List AV} : frzB F E H dst ms f dob as = if frzOk H dob = true then (callA0 F E (putsH (frzL H dob) H) dst ms f as).map fun p => (p.1, p.2 ++ frzL H dob) else none := rfl
theorem dataObjs_d (ds : List D) : dataObjs [] (ds.map .d) = [] := by
  induction ds with
  | nil => rfl
  | cons d ds ih => simp only [List.map_cons, dataObjs, ih, AV.objs, List.append_nil]
theorem callA_data {f : FuncId} {ds : List D} : callA F E H dst [] f (ds.map .d) = (F f (ds.map .d) []).bind (callC E H dst [] []) := by
  have h1 : callArgs H [] (ds.map .d) = some (ds.map .d) := by
    induction ds with
    | nil => rfl
    | cons d ds ih => simp only [List.map_cons, callArgs, ih, toD, Option.bind_some, Option.map_some]
  have h2 : keptObjs [] (ds.map .d) = [] := by cases ds <;> rfl
  have h3 := dataObjs_d ds
  have h4 : (ds.map AV.d).map (AV.ren (toCallee [])) = ds.map .d := by
    rw [List.map_map]; exact List.map_congr_left fun _ _ => rfl
  unfold callA
  rw [if_neg (by simp [frzF])]
  unfold callA0
  rw [h1, h3]
  simp only [Option.bind_some, namesOf, h2, addNew, reach, List.flatMap_nil, callB, okNames, List.all_nil, disjL, Bool.and_self, if_true, h4, osOf, List.map_nil]
theorem callC_d {r : D} : callC E H dst [] [] (.d r, []) = some (.d r, []) := by simp [callC, freshOK, AV.ren, renH]
theorem ca0 {f : FuncId} : callA F E H dst [] f [] = (F f [] []).bind (callC E H dst [] []) := callA_data (ds := [])
theorem ca1 {f : FuncId} {a : D} : callA F E H dst [] f [.d a] = (F f [.d a] []).bind (callC E H dst [] []) := callA_data (ds := [a])
theorem ca2 {f : FuncId} {a b : D} : callA F E H dst [] f [.d a, .d b] = (F f [.d a, .d b] []).bind (callC E H dst [] []) := callA_data (ds := [a, b])
theorem ca3 {f : FuncId} {a b c : D} : callA F E H dst [] f [.d a, .d b, .d c] = (F f [.d a, .d b, .d c] []).bind (callC E H dst [] []) := callA_data (ds := [a, b, c])
theorem ca4 {f : FuncId} {a b c d : D} : callA F E H dst [] f [.d a, .d b, .d c, .d d] = (F f [.d a, .d b, .d c, .d d] []).bind (callC E H dst [] []) := callA_data (ds := [a, b, c, d])
theorem ca5 {f : FuncId} {a b c d e : D} : callA F E H dst [] f [.d a, .d b, .d c, .d d, .d e] = (F f [.d a, .d b, .d c, .d d, .d e] []).bind (callC E H dst [] []) := callA_data (ds := [a, b, c, d, e])
theorem cv1 {f : FuncId} {a : D} {cs : List D} : callA F E H dst [] f (.d a :: cs.map .d) = (F f (.d a :: cs.map .d) []).bind (callC E H dst [] []) := callA_data (ds := a :: cs)
theorem cv2 {f : FuncId} {a b : D} {cs : List D} : callA F E H dst [] f (.d a :: .d b :: cs.map .d) = (F f (.d a :: .d b :: cs.map .d) []).bind (callC E H dst [] []) := callA_data (ds := a :: b :: cs)
theorem merge_b {c : Prop} [Decidable c] {e : AExit} {t : Nat} {x y : Bool} : (if c then some (e, (⟨(t, .d (.bool x)) :: E, H⟩ : St)) else some (e, ⟨(t, .d (.bool y)) :: E, H⟩)) = some (e, ⟨(t, .d (.bool (if c then x else y))) :: E, H⟩) := by split <;> rfl
theorem ite_and {c x : Bool} : (if c = true then x else false) = (c && x) := by cases c <;> rfl
theorem ite_or {c x : Bool} : (if c = true then true else x) = (c || x) := by cases c <;> rfl
theorem bind_ite {α β : Type} {c : Prop} [Decidable c] {x y : Option α} {k : α → Option β} : (if c then x else y).bind k = if c then x.bind k else y.bind k := by split <;> rfl
theorem map_ite {α β : Type} {c : Prop} [Decidable c] {x y : Option α} {k : α → β} : (if c then x else y).map k = if c then x.map k else y.map k := by split <;> rfl
theorem finish_n {sl : Bool} {rs : List ARes} {os : Heap} {S : St} : finish sl rs os (.normal, S) = (resA S rs).bind (finishV sl os S) := rfl
theorem finish_r {sl : Bool} {rs : List ARes} {os : Heap} {S : St} : finish sl rs os (.ret, S) = (resA S rs).bind (finishV sl os S) := rfl
theorem finishV_t {os : Heap} {S : St} {v : AV} : finishV true os S v = (toD S.heap v).bind (sealV os S v) := rfl
theorem finishV_f {os : Heap} {S : St} {v : AV} : finishV false os S v = finishN os S v (outNames S.heap os v) := rfl
theorem sealV_n {S : St} {v : AV} {d : D} : sealV [] S v d = some (.d d, []) := by
  have : disjL v.objs [] = true := by simp [disjL]
  simp [sealV, finishN, outNames, AV.objs, addNew, reach, okOut, okGhost, outH, AV.ren, frs, this]
theorem s_mv {x : Opd} : step F E H dst (.mv x) = astep E H dst (.mv x) := rfl
theorem f_mv {x : Opd} : AOp.feet E H dst (.mv x) = (toks (AOp.foot E dst (.mv x)), toks (AOp.wr E dst (.mv x))) := rfl
theorem s_pick {c a b : Opd} : step F E H dst (.pick c a b) = astep E H dst (.pick c a b) := rfl
theorem f_pick {c a b : Opd} : AOp.feet E H dst (.pick c a b) = (toks (AOp.foot E dst (.pick c a b)), toks (AOp.wr E dst (.pick c a b))) := rfl
theorem s_alloc {z : AV} : step F E H dst (.alloc z) = astep E H dst (.alloc z) := rfl
theorem f_alloc {z : AV} : AOp.feet E H dst (.alloc z) = (toks (AOp.foot E dst (.alloc z)), toks (AOp.wr E dst (.alloc z))) := rfl
theorem s_box {x : Opd} : step F E H dst (.box x) = astep E H dst (.box x) := rfl
theorem f_box {x : Opd} : AOp.feet E H dst (.box x) = (toks (AOp.foot E dst (.box x)), toks (AOp.wr E dst (.box x))) := rfl
theorem f_build {z : List AV} {ps : List (Nat × Nat × Opd)} : AOp.feet E H dst (.build z ps) = (toks (AOp.foot E dst (.build z ps)), toks (AOp.wr E dst (.build z ps))) := rfl
theorem f_bsl {len n : Nat} {z : AV} {ps : List (Nat × Opd)} : AOp.feet E H dst (.bsl len n z ps) = (toks (AOp.foot E dst (.bsl len n z ps)), toks (AOp.wr E dst (.bsl len n z ps))) := rfl
theorem f_ld {ag : Bool} {n : Nat} {p : Opd} : AOp.feet E H dst (.ld ag n p) = (toks (AOp.foot E dst (.ld ag n p)), toks (AOp.wr E dst (.ld ag n p))) := rfl
theorem f_atl {p : Opd} : AOp.feet E H dst (.atl p) = (toks (AOp.foot E dst (.atl p)), toks (AOp.wr E dst (.atl p))) := rfl
theorem f_ats {p x : Opd} : AOp.feet E H dst (.ats p x) = (toks (AOp.foot E dst (.ats p x)), toks (AOp.wr E dst (.ats p x))) := rfl
theorem f_atc {p x y : Opd} : AOp.feet E H dst (.atc p x y) = (toks (AOp.foot E dst (.atc p x y)), toks (AOp.wr E dst (.atc p x y))) := rfl
theorem s_mkm : step F E H dst .mkm = astep E H dst .mkm := rfl
theorem f_mkm : AOp.feet E H dst .mkm = (toks (AOp.foot E dst .mkm), toks (AOp.wr E dst .mkm)) := rfl
theorem f_lkp {ok : Bool} {z : D} {x k : Opd} : AOp.feet E H dst (.lkp ok z x k) = (toks (AOp.foot E dst (.lkp ok z x k)), toks (AOp.wr E dst (.lkp ok z x k))) := rfl
theorem f_mup {x k v : Opd} : AOp.feet E H dst (.mup x k v) = (toks (AOp.foot E dst (.mup x k v)), toks (AOp.wr E dst (.mup x k v))) := rfl
theorem f_clr {n : Nat} {x : Opd} : AOp.feet E H dst (.clr n x) = (toks (AOp.foot E dst (.clr n x)), toks (AOp.wr E dst (.clr n x))) := rfl
theorem f_st {n : Nat} {p x : Opd} : AOp.feet E H dst (.st n p x) = (toks (AOp.foot E dst (.st n p x)), evens (AOp.wr E dst (.st n p x))) := rfl
theorem s_nilc {x : Opd} : step F E H dst (.nilc x) = astep E H dst (.nilc x) := rfl
theorem f_nilc {x : Opd} : AOp.feet E H dst (.nilc x) = (toks (AOp.foot E dst (.nilc x)), toks (AOp.wr E dst (.nilc x))) := rfl
theorem f_bin {op : BinOp} {x y : Opd} : AOp.feet E H dst (.bin op x y) = (toks (AOp.foot E dst (.bin op x y)), toks (AOp.wr E dst (.bin op x y))) := rfl
theorem s_eqb {ng : Bool} {x y : Opd} : step F E H dst (.eqb ng x y) = astep E H dst (.eqb ng x y) := rfl
theorem f_eqb {ng : Bool} {x y : Opd} : AOp.feet E H dst (.eqb ng x y) = (toks (AOp.foot E dst (.eqb ng x y)), toks (AOp.wr E dst (.eqb ng x y))) := rfl
theorem f_eqs {ng : Bool} {n : Nat} {ls : List (Nat × Nat)} {x y : Opd} : AOp.feet E H dst (.eqs ng n ls x y) = (toks (AOp.foot E dst (.eqs ng n ls x y)), toks (AOp.wr E dst (.eqs ng n ls x y))) := rfl
theorem s_nacc  : step F E H dst (.nacc) = astep E H dst (.nacc) := rfl
theorem f_nacc  : AOp.feet E H dst (.nacc) = (toks (AOp.foot E dst (.nacc)), toks (AOp.wr E dst (.nacc))) := rfl
theorem s_un {op : UnOp} {x : Opd} : step F E H dst (.un op x) = astep E H dst (.un op x) := rfl
theorem f_un {op : UnOp} {x : Opd} : AOp.feet E H dst (.un op x) = (toks (AOp.foot E dst (.un op x)), toks (AOp.wr E dst (.un op x))) := rfl
theorem s_cvi {k : IntKind} {x : Opd} : step F E H dst (.cvi k x) = astep E H dst (.cvi k x) := rfl
theorem f_cvi {k : IntKind} {x : Opd} : AOp.feet E H dst (.cvi k x) = (toks (AOp.foot E dst (.cvi k x)), toks (AOp.wr E dst (.cvi k x))) := rfl
theorem f_s2b {x : Opd} : AOp.feet E H dst (.s2b x) = (toks (AOp.foot E dst (.s2b x)), toks (AOp.wr E dst (.s2b x))) := rfl
theorem f_b2s {x : Opd} : AOp.feet E H dst (.b2s x) = (toks (AOp.foot E dst (.b2s x)), toks (AOp.wr E dst (.b2s x))) := rfl
theorem f_mkfn {f : FuncId} {cs : List Opd} : AOp.feet E H dst (.mkfn f cs) = (toks (AOp.foot E dst (.mkfn f cs)), toks (AOp.wr E dst (.mkfn f cs))) := rfl
theorem f_fad {ag : Bool} {off n : Nat} {x : Opd} : AOp.feet E H dst (.fad ag off n x) = (toks (AOp.foot E dst (.fad ag off n x)), toks (AOp.wr E dst (.fad ag off n x))) := rfl
theorem f_fld {ag : Bool} {off n : Nat} {x : Opd} : AOp.feet E H dst (.fld ag off n x) = (toks (AOp.foot E dst (.fld ag off n x)), toks (AOp.wr E dst (.fld ag off n x))) := rfl
theorem f_iad {n : Nat} {x i : Opd} : AOp.feet E H dst (.iad n x i) = (odds (AOp.foot E dst (.iad n x i)), []) := rfl
theorem f_iada {ag : Bool} {len n : Nat} {x i : Opd} : AOp.feet E H dst (.iada ag len n x i) = (toks (AOp.foot E dst (.iada ag len n x i)), toks (AOp.wr E dst (.iada ag len n x i))) := rfl
theorem f_idx {x i : Opd} : AOp.feet E H dst (.idx x i) = (toks (AOp.foot E dst (.idx x i)), toks (AOp.wr E dst (.idx x i))) := rfl
theorem f_idxa {ag : Bool} {len n : Nat} {x i : Opd} : AOp.feet E H dst (.idxa ag len n x i) = (toks (AOp.foot E dst (.idxa ag len n x i)), toks (AOp.wr E dst (.idxa ag len n x i))) := rfl
theorem f_slc {n : Nat} {x : Opd} {lo hi mx : Option Opd} : AOp.feet E H dst (.slc n x lo hi mx) = (toks (AOp.foot E dst (.slc n x lo hi mx)), toks (AOp.wr E dst (.slc n x lo hi mx))) := rfl
theorem f_sls {x : Opd} {lo hi : Option Opd} : AOp.feet E H dst (.sls x lo hi) = (toks (AOp.foot E dst (.sls x lo hi)), toks (AOp.wr E dst (.sls x lo hi))) := rfl
theorem f_ext {x : Opd} {i : Nat} : AOp.feet E H dst (.ext x i) = (toks (AOp.foot E dst (.ext x i)), toks (AOp.wr E dst (.ext x i))) := rfl
theorem f_len {x : Opd} : AOp.feet E H dst (.len x) = (toks (AOp.foot E dst (.len x)), toks (AOp.wr E dst (.len x))) := rfl
theorem s_lens {x : Opd} : step F E H dst (.lens x) = astep E H dst (.lens x) := rfl
theorem f_lens {x : Opd} : AOp.feet E H dst (.lens x) = (toks (AOp.foot E dst (.lens x)), toks (AOp.wr E dst (.lens x))) := rfl
theorem f_app {n : Nat} {x y : Opd} : AOp.feet E H dst (.app n x y) = (toks (AOp.foot E dst (.app n x y)), toks (AOp.wr E dst (.app n x y))) := rfl
theorem f_apps {x y : Opd} : AOp.feet E H dst (.apps x y) = (toks (AOp.foot E dst (.apps x y)), toks (AOp.wr E dst (.apps x y))) := rfl
theorem f_mm {mx : Bool} {xs : List Opd} : AOp.feet E H dst (.mm mx xs) = (toks (AOp.foot E dst (.mm mx xs)), toks (AOp.wr E dst (.mm mx xs))) := rfl
theorem s_mks {n : Nat} {z : AV} {l c : Opd} : step F E H dst (.mks n z l c) = astep E H dst (.mks n z l c) := rfl
theorem f_mks {n : Nat} {z : AV} {l c : Opd} : AOp.feet E H dst (.mks n z l c) = (toks (AOp.foot E dst (.mks n z l c)), toks (AOp.wr E dst (.mks n z l c))) := rfl
theorem f_nileq {ng : Bool} {x : Opd} : AOp.feet E H dst (.nileq ng x) = (toks (AOp.foot E dst (.nileq ng x)), toks (AOp.wr E dst (.nileq ng x))) := rfl
theorem size_int {k : IntKind} {n : Int} : D.size (.int k n) = 1 := rfl
theorem cells_int {k : IntKind} {n : Int} : D.cells (.int k n) = [(.int k n)] := rfl
theorem asAgg_int {k : IntKind} {n : Int} : D.asAgg (.int k n) = .agg [(.int k n)] := rfl
theorem size_bool {b : Bool} : D.size (.bool b) = 1 := rfl
theorem cells_bool {b : Bool} : D.cells (.bool b) = [(.bool b)] := rfl
theorem asAgg_bool {b : Bool} : D.asAgg (.bool b) = .agg [(.bool b)] := rfl
theorem size_str {s : List UInt8} : D.size (.str s) = 1 := rfl
theorem cells_str {s : List UInt8} : D.cells (.str s) = [(.str s)] := rfl
theorem asAgg_str {s : List UInt8} : D.asAgg (.str s) = .agg [(.str s)] := rfl
theorem size_sl {es : List D} : D.size (.sl es) = 1 := rfl
theorem cells_sl {es : List D} : D.cells (.sl es) = [(.sl es)] := rfl
theorem asAgg_sl {es : List D} : D.asAgg (.sl es) = .agg [(.sl es)] := rfl
theorem size_pd {x : D} : D.size (.pd x) = 1 := rfl
theorem cells_pd {x : D} : D.cells (.pd x) = [(.pd x)] := rfl
theorem asAgg_pd {x : D} : D.asAgg (.pd x) = .agg [(.pd x)] := rfl
theorem size_fn {f : FuncId} {cs : List D} : D.size (.fn f cs) = 1 := rfl
theorem cells_fn {f : FuncId} {cs : List D} : D.cells (.fn f cs) = [(.fn f cs)] := rfl
theorem asAgg_fn {f : FuncId} {cs : List D} : D.asAgg (.fn f cs) = .agg [(.fn f cs)] := rfl
theorem size_agg {cs : List D} : D.size (.agg cs) = cs.length := rfl
theorem cells_agg {cs : List D} : D.cells (.agg cs) = cs := rfl
theorem asAgg_agg {cs : List D} : D.asAgg (.agg cs) = .agg cs := rfl
theorem asize_d {x : D} : AV.size (.d x) = x.size := rfl
theorem acells_d {x : D} : AV.cells (.d x) = x.cells.map .d := rfl
theorem asize_ref {o i off : Nat} : AV.size (.ref o i off) = 1 := rfl
theorem acells_ref {o i off : Nat} : AV.cells (.ref o i off) = [(.ref o i off)] := rfl
theorem asize_osl {o off len : Nat} : AV.size (.osl o off len) = 1 := rfl
theorem acells_osl {o off len : Nat} : AV.cells (.osl o off len) = [(.osl o off len)] := rfl
theorem asize_acc {o : Nat} {es : List D} : AV.size (.acc o es) = 1 := rfl
theorem acells_acc {o : Nat} {es : List D} : AV.cells (.acc o es) = [(.acc o es)] := rfl
theorem asize_pe {o : Nat} {x : D} : AV.size (.pe o x) = 1 := rfl
theorem acells_pe {o : Nat} {x : D} : AV.cells (.pe o x) = [(.pe o x)] := rfl
theorem asize_xsl {es : List D} : AV.size (.xsl es) = 1 := rfl
theorem acells_xsl {es : List D} : AV.cells (.xsl es) = [(.xsl es)] := rfl
theorem asize_fn {f : FuncId} {cs : List AV} : AV.size (.fn f cs) = 1 := rfl
theorem acells_fn {f : FuncId} {cs : List AV} : AV.cells (.fn f cs) = [(.fn f cs)] := rfl
theorem asize_agg {cs : List AV} : AV.size (.agg cs) = cs.length := rfl
theorem acells_agg {cs : List AV} : AV.cells (.agg cs) = cs := rfl
section
variable {k : IntKind} {a b : Int}
def andI (k : IntKind) (a b : Int) : Int := k.wrap (BitVec.ofInt k.bits a &&& BitVec.ofInt k.bits b).toNat
def orI (k : IntKind) (a b : Int) : Int := k.wrap (BitVec.ofInt k.bits a ||| BitVec.ofInt k.bits b).toNat
def xorI (k : IntKind) (a b : Int) : Int := k.wrap (BitVec.ofInt k.bits a ^^^ BitVec.ofInt k.bits b).toNat
def andNotI (k : IntKind) (a b : Int) : Int := k.wrap (BitVec.ofInt k.bits a &&& ~~~BitVec.ofInt k.bits b).toNat
theorem ib_add : intBin .add k a b = some (.int k (k.wrap (a + b))) := rfl
theorem ib_sub : intBin .sub k a b = some (.int k (k.wrap (a - b))) := rfl
theorem ib_mul : intBin .mul k a b = some (.int k (k.wrap (a * b))) := rfl
theorem ib_quo : intBin .quo k a b = if b = 0 then none else some (.int k (k.wrap (a.tdiv b))) := rfl
theorem ib_rem : intBin .rem k a b = if b = 0 then none else some (.int k (a.tmod b)) := rfl
theorem ib_eql : intBin .eql k a b = some (.bool (decide (a = b))) := rfl
theorem ib_neq : intBin .neq k a b = some (.bool (!decide (a = b))) := rfl
theorem ib_lss : intBin .lss k a b = some (.bool (decide (a < b))) := rfl
theorem ib_leq : intBin .leq k a b = some (.bool (decide (a ≤ b))) := rfl
theorem ib_gtr : intBin .gtr k a b = some (.bool (decide (b < a))) := rfl
theorem ib_geq : intBin .geq k a b = some (.bool (decide (b ≤ a))) := rfl
theorem ib_and : intBin .and k a b = some (.int k (andI k a b)) := rfl
theorem ib_or : intBin .or k a b = some (.int k (orI k a b)) := rfl
theorem ib_xor : intBin .xor k a b = some (.int k (xorI k a b)) := rfl
theorem ib_andNot : intBin .andNot k a b = some (.int k (andNotI k a b)) := rfl
end
theorem eqsV_agg {ng : Bool} {n : Nat} {ls : List (Nat × Nat)} {a b : List D} : eqsV H ng n ls (.d (.agg a)) (.d (.agg b)) = if a.length = n ∧ b.length = n then retB H ng (eqCells a b ls) else none := rfl
attribute [go_sem] f_atl f_ats f_atc s_atl' s_ats' s_atc' atlC atlE atlO atlV retI atsF atsI atsX atcI atcY atcX
attribute [go_sem] s_mkm f_mkm f_lkp f_mup s_lkp' s_mup' lkpR lkpO lkpI lkpV mupO mupY mupI mupV
theorem over_ap {x : AV} {off : Nat} {v : AV} : over x off v = if off = 0 ∧ v.size = x.size then some v else if off + v.size ≤ x.size then some (AV.mkAgg (splice x.cells off v.cells)) else none := rfl
attribute [go_sem] x_skip x_exit x_ret x_ops x_draw x_seq x_cond' condE_b condE_t condE_f x_block x_loop ghosts_nil ghosts_cons killS_ap norm_ap norm1_ap deX deX1 endS_ap gcS_ap keepE seqF_n seqF_e seqF_r loopF_n loopF_e loopF_r blockF_n blockF_e blockF_r condF_b condF_t condF_f gOps_t gOps_f gOps_n gOps_m gAsk_b gAsk_s dAsk_s dOps_t dOps_f dOps_n dOps_m dAsk_b reAt merge_b ite_and ite_or bind_ite map_ite o_nil o_one o_guard d_ap d_nil d_one d_guard dt_ap ds_ap put_n put_s putO_n putO_s s_ap s_nileq callvA_d callvA_a callS_s callC_d finish_n finish_r finishV_t finishV_f sealV_n f_nileq s_mv s_pick s_alloc s_box s_nilc s_eqb s_nacc s_un s_cvi s_lens s_mks f_mv f_pick f_alloc f_box f_build f_bsl f_ld f_st f_clr f_nilc f_bin f_eqb f_eqs f_nacc f_un f_cvi f_s2b f_b2s f_mkfn f_fad f_fld f_iad f_iada f_idx f_idxa fldW idxaI s_idxa' f_slc f_sls f_ext f_len f_lens f_app f_apps f_mm f_mks size_int cells_int asAgg_int size_bool cells_bool asAgg_bool size_str cells_str asAgg_str size_sl cells_sl asAgg_sl size_pd cells_pd asAgg_pd size_fn cells_fn asAgg_fn size_agg cells_agg asAgg_agg asize_d acells_d asize_ref acells_ref asize_osl acells_osl asize_acc acells_acc asize_pe acells_pe asize_xsl acells_xsl asize_fn acells_fn asize_agg acells_agg List.map_append astep Opd.ev List.map_cons List.map_nil Go.Sim.look setAt without Option.getD_some Option.getD_none binD ib_add ib_sub ib_mul ib_quo ib_rem ib_eql ib_neq ib_lss ib_leq ib_gtr ib_geq ib_and ib_or ib_xor ib_andNot shiftBin strBin Option.map_some Option.map_none Option.bind_some Option.bind_none killEnv List.contains_cons List.contains_nil Bool.or_true Bool.true_or Bool.or_false Bool.false_or Bool.or_self Bool.false_eq_true Bool.true_eq_false Nat.zero_add Nat.add_zero beq_self_eq_true refsEnv refsHeap AV.refs AV.refsL Obj.refs Bool.and_true Bool.true_and Bool.and_false Bool.false_and Bool.and_self and_self and_true true_and partD partA List.getElem?_cons_zero List.getElem?_cons_succ List.getElem?_nil List.length_cons List.length_nil List.drop_zero List.drop_succ_cons List.take_succ_cons List.take_zero over_ap splice AV.mkAgg AV.mkTup AV.mkFn allD res_one res_nil res_two resL consP consP.consQ tupO res_c res_t resO toD toD.toDs idxOf slD ne_eq not_true_eq_false not_false_eq_true Nat.succ_ne_self Bool.not_true Bool.not_false eq_self_iff_true nodupK AOp.foot AOp.wr AOp.looks AOp.news AOp.opds objsOf AV.objs AV.objsL List.all_cons List.all_nil List.any_cons List.any_nil List.headD_cons List.headD_nil List.tail_cons List.tail_nil List.nil_append List.cons_append List.append_nil fillE unX unX0 unXL fillA List.set_cons_zero List.set_cons_succ Nat.lt_add_one Nat.zero_lt_one Nat.one_lt_two Nat.zero_lt_succ indep AOper.newNames fr4 callFeet callFeet0 callFeetT callvFeet toks callArgs dataObjs keptObjs namesOf reach addNew rowObjs toCallee pos AV.ren AV.renL Obj.ren callB callC AV.flat AV.flatL Obj.flat D.flat D.flatL putsH mmD bytesD finishN sealV outNames outName frs ghost1 toRow toRow1 toRow2 nilEnv nilV toAcc toAcc1 toAcc2 nilOEnv nilO toNm toNm1 toDat toDat1 datEnv datV datO renEnv rnm Option.isNone_some Option.isNone_none findAcc rowV accV sortE insE sortH gc1 gc nileqA eqCells eqCell List.flatMap_nil List.flatMap_cons List.filter_nil List.filter_cons List.getD_cons_zero List.getD_cons_succ decide_true decide_false if_true if_false List.isEmpty_nil List.isEmpty_cons okNames_eq okN okN1 subB osOf_eq osN freshOK_nil freshOK_cons flatRes_eq flatH disjL_nil disjL_cons renH_nil renH_cons odds_nil odds_cons evens_nil evens_cons disjN_nil disjN_cons clash1 clashless_nil clashless_cons freshNs freshFor_nil freshFor_cons rowEnv_nil rowEnv_cons accEnv_nil accEnv_cons enterN enter_eq ghostE_nil ghostE_cons okO1 okO okOut_eq okG1 okG okGhost_eq outN outH_eq evs evO evB evF szF retA retA_ite retD retD_ite retB dO pdO peO ldE ldO ldV s_ld' fadV s_fad' szR szP szD iadO iadV iadI s_iad' iadaI s_iada' stF stE stO stV s_st' s_clr' clrV clrO fldV s_fld' binV s_bin' eqsV_agg s_eqs' idxB idxV s_idx' bdI bd slM xslM accM slL slH xslL xslH accL accH oslO oslL oslH oslM slcV s_slc' slsL slsH slsV s_sls' extV s_ext' lenO lenV s_len' mmV s_mm' s_mkfn' buildV s_build' bslD bslE s_bsl' b2sB b2sV s_b2s' s2bV s_s2b'' srcO srcO.srcL srcV appO appV appY s_app' appsV s_apps' s_call' s_callv' f_call' f_callv'
theorem allSize_nil {n : Nat} : allSize n [] = true := rfl
theorem allSize_cons {n : Nat} {e : D} {es : List D} : allSize n (e :: es) = (e.size == n && allSize n es) := rfl
theorem allSize_append {n : Nat} {es fs : List D} : allSize n (es ++ fs) = (allSize n es && allSize n fs) := by simp [allSize]
theorem allD_d {ds : List D} : allD (ds.map .d) = some ds := allD_map ds
theorem tc_0 {ns : List Nat} : toCaller ns dst 0 = dst := by simp [toCaller]
theorem tc_1 {ns : List Nat} : toCaller ns dst 1 = dst + 10000 := by simp [toCaller]
theorem tc_2 {ns : List Nat} : toCaller ns dst 2 = dst + 20000 := by simp [toCaller]
theorem tc_3 {ns : List Nat} : toCaller ns dst 3 = dst + 30000 := by simp [toCaller]
theorem tc_at {ns : List Nat} {n : Nat} (h : ¬ n < 1000000) : toCaller ns dst n = ns.getD (n - 1000000) 0 := by unfold toCaller; rw [if_neg h]
theorem tc_a0 {ns : List Nat} {a : Nat} : toCaller (a :: ns) dst 1000000 = a := by rw [tc_at (by omega)]; rfl
theorem tc_a1 {ns : List Nat} {a b : Nat} : toCaller (a :: b :: ns) dst 1000001 = b := by rw [tc_at (by omega)]; rfl
theorem tc_a2 {ns : List Nat} {a b c : Nat} : toCaller (a :: b :: c :: ns) dst 1000002 = c := by rw [tc_at (by omega)]; rfl
theorem tc_a3 {ns : List Nat} {a b c d : Nat} : toCaller (a :: b :: c :: d :: ns) dst 1000003 = d := by rw [tc_at (by omega)]; rfl
attribute [go_sem] tc_0 tc_1 tc_2 tc_3 tc_a0 tc_a1 tc_a2 tc_a3
theorem okEs_d {o m : Nat} : ∀ {ds : List D}, okEs o m (ds.map .d) = true
  | [] => rfl
  | d :: ds => by rw [List.map_cons]; simp only [okEs, okEs_d]; rfl
theorem rowEs_d {o m : Nat} : ∀ {ds : List D}, rowEs o m (ds.map .d) = ds.map .d
  | [] => rfl
  | d :: ds => by rw [List.map_cons]; simp only [rowEs, rowEs_d]; rfl
theorem findAccE_d {o m : Nat} : ∀ {ds : List D}, findAccE o m (ds.map .d) = none
  | [] => rfl
  | d :: ds => by rw [List.map_cons]; simp only [findAccE, findAccE_d, findAccC]; rfl
theorem nilEs_d {o : Nat} : ∀ {ds : List D}, nilEs o (ds.map .d) = ds.map .d
  | [] => rfl
  | d :: ds => by rw [List.map_cons]; simp only [nilEs, nilEs_d]; rfl
theorem datEs_d {o : Nat} : ∀ {ds : List D}, datEs o (ds.map .d) = ds.map .d
  | [] => rfl
  | d :: ds => by rw [List.map_cons]; simp only [datEs, datEs_d]; rfl
attribute [go_sem] datEs_d datC datCs datE datEs datOb datHp datS
attribute [go_sem] nilEs_d nilC nilCs nilE nilEs nilOb nilHp nilS
theorem okAel_d {o m : Nat} : ∀ {ds : List D}, okAel o m (ds.map .d) = true
  | [] => rfl
  | d :: ds => by rw [List.map_cons]; simp only [okAel, okAel_d]; rfl
theorem acAel_d {o : Nat} {es : List D} : ∀ {ds : List D}, acAel o es (ds.map .d) = ds.map .d
  | [] => rfl
  | d :: ds => by rw [List.map_cons]; simp only [acAel, acAel_d]; rfl
attribute [go_sem] okAel_d acAel_d okA acA okAs acAs okAe acAe okAel acAel okAh acAh toAcc3
attribute [go_sem] okEs_d rowEs_d findAccE_d okC rowC okCs rowCs okE rowE okEs rowEs okHp rowHp findAccC orE findAccE findAccH findAcc2 toRow3
attribute [go_sem] refsL_d objsL_d allSize_nil allSize_cons allSize_append allD_d
attribute [go_sem high] ca0 ca1 ca2 ca3 ca4 ca5 cv1 cv2
attribute [go_sem low] callA_eq callA0_eq
attribute [go_sem] frzB_ap frzF frzL_nil frzL_cons frzOk_nil frzOk_cons mark List.drop_nil Option.isSome_some Option.isSome_none
def D.isT : D → Bool
  | .tup _ => true
  | _ => false
theorem isTup_d {x : D} : isTup (.d x) = x.isT := by cases x <;> rfl
theorem isT_int {k : IntKind} {n : Int} : D.isT (.int k n) = false := rfl
theorem isT_bool {b : Bool} : D.isT (.bool b) = false := rfl
theorem isT_str {s : List UInt8} : D.isT (.str s) = false := rfl
theorem isT_agg {cs : List D} : D.isT (.agg cs) = false := rfl
theorem isT_sl {es : List D} : D.isT (.sl es) = false := rfl
theorem isT_pd {x : D} : D.isT (.pd x) = false := rfl
theorem isT_fn {f : FuncId} {cs : List D} : D.isT (.fn f cs) = false := rfl
theorem isTup_ref {o i off : Nat} : isTup (.ref o i off) = false := rfl
theorem isTup_osl {o off len : Nat} : isTup (.osl o off len) = false := rfl
theorem isTup_acc {o : Nat} {es : List D} : isTup (.acc o es) = false := rfl
theorem isTup_pe {o : Nat} {x : D} : isTup (.pe o x) = false := rfl
theorem isTup_xsl {es : List D} : isTup (.xsl es) = false := rfl
theorem isTup_agg {cs : List AV} : isTup (.agg cs) = false := rfl
theorem isTup_fn {f : FuncId} {cs : List AV} : isTup (.fn f cs) = false := rfl
theorem isTup_nl {b : Bool} : isTup (.nl b) = false := rfl
attribute [go_sem] isTup_d isT_int isT_bool isT_str isT_agg isT_sl isT_pd isT_fn isTup_ref isTup_osl isTup_acc isTup_pe isTup_xsl isTup_agg isTup_fn isTup_nl
theorem ren_map_d {ρ : Nat → Nat} {ds : List D} : (ds.map AV.d).map (AV.ren ρ) = ds.map .d := by rw [List.map_map]; exact List.map_congr_left fun _ _ => rfl
attribute [go_sem] ren_map_d
theorem GOK.of {P : Program} (tab : List (Nat × AFn)) (h : ∀ p ∈ tab, FnOK P p.1 p.2) : GOK P (fun f => look f tab) := fun f fn hf => h (f, fn) (look_mem hf)
end Go.Sim

namespace Go.Sim
abbrev oM (d s : Nat) : AOper := ⟨some d, .mv (.t s), none⟩
abbrev oP (d : Nat) (x : AOp) : AOper := ⟨some d, x, none⟩
abbrev oQ (d : Nat) (x : AOp) (t : Nat) (b : Bool) : AOper := ⟨some d, x, some (t, b)⟩
abbrev oN (x : AOp) : AOper := ⟨none, x, none⟩
abbrev kI (n : Int) : Opd := .c (.d (.int .i64 n))
abbrev aI (n : Int) : AV := .d (.int .i64 n)
open Go (World Value Addr TypeId Act)
variable {G : FuncId → Option AFn}
end Go.Sim

namespace Go.Proofs.Ytadnfmkdmknmhaa
open Go Go.Sim
abbrev N_law17_BatchBuilt : Nat := 3
abbrev N_base_New : Nat := 4
abbrev N_base_Src_Setup : Nat := 5
abbrev N_base_Src_Command : Nat := 6
abbrev N_base_Src_N : Nat := 7
abbrev N_base_Src_Range : Nat := 8
abbrev N_base_Src_Pick : Nat := 9
abbrev N_base_Src_Body : Nat := 10
abbrev N_batch_Start : Nat := 11
abbrev N_ref17_Start : Nat := 12
abbrev N_law17_same : Nat := 13
abbrev N_batch_Validate : Nat := 14
abbrev N_ref17_Validate : Nat := 15
abbrev N_batch_Entries : Nat := 16
abbrev N_ref17_Entries : Nat := 17
abbrev N_law17_awake : Nat := 18
abbrev N_base_fitted : Nat := 19
abbrev N_base_Src_Raw : Nat := 20
abbrev N_batch_in : Nat := 21
abbrev N_arena_New : Nat := 22
abbrev N_ref12_New : Nat := 23
abbrev N_ref17_SameInvocation : Nat := 24
abbrev N_ref17_SameResults : Nat := 25
abbrev N_ref15_Same : Nat := 26
abbrev N_batch_Validate_1 : Nat := 27
abbrev N_batch_Validate_2 : Nat := 28
abbrev N_slices_ContainsFunc_string : Nat := 29
abbrev N_ref17_in : Nat := 30
abbrev N_batch_Next : Nat := 31
abbrev N_arena_in : Nat := 32
abbrev N_directory_New : Nat := 33
abbrev N_dead_New : Nat := 34
abbrev N_shard_Free : Nat := 35
abbrev N_directory_Span : Nat := 36
abbrev N_shard_New : Nat := 37
abbrev N_ref12_in : Nat := 38
abbrev N_ref10_New : Nat := 39
abbrev N_ref07_Free : Nat := 40
abbrev N_ref07_New : Nat := 41
abbrev N_ref08_New : Nat := 42
abbrev N_ref17_SameTexts : Nat := 43
abbrev N_ref17_SameTokens : Nat := 44
abbrev N_ref13_Same : Nat := 45
abbrev N_ref15_sameShards : Nat := 46
abbrev N_ref08_Same : Nat := 47
abbrev N_ref11_Same : Nat := 48
abbrev N_ref10_Same : Nat := 49
abbrev N_ref15_SameOutcome : Nat := 50
abbrev N_ref03_Same : Nat := 51
abbrev N_slices_IndexFunc_string : Nat := 52
abbrev N_slices_Clip_api_Result : Nat := 53
abbrev N_ring_New : Nat := 54
abbrev N_directory_Validate : Nat := 55
abbrev N_directory_find : Nat := 56
abbrev N_shard_spans : Nat := 57
abbrev N_ref04_New : Nat := 58
abbrev N_ref07_span : Nat := 59
abbrev N_ref13_SameInts : Nat := 60
abbrev N_ref07_Same : Nat := 61
abbrev N_directory_tiles : Nat := 62
abbrev N_slices_ContainsFunc_api_Span : Nat := 63
abbrev N_directory_Validate_1 : Nat := 64
abbrev N_directory_forwards : Nat := 65
abbrev N_slices_IndexFunc_api_Span : Nat := 66
abbrev N_directory_find_1 : Nat := 67
abbrev N_ref04_Same : Nat := 68
abbrev N_ref06_Same : Nat := 69
abbrev N_ref06_SameLeases : Nat := 70
abbrev N_ref05_Same : Nat := 71
end Go.Proofs.Ytadnfmkdmknmhaa

namespace Go.Sim
open Go (Program Func)
def val {x : Option ACode} (c : ACode) (_ : x = some c) : ACode := c
theorem val_eq {x : Option ACode} {c : ACode} (h : x = some c) : val c h = c := rfl
attribute [go_sem ↓] val_eq
theorem iP (n : Nat) : Int.ofNat n = (n : Int) := rfl
theorem iN (n : Nat) : Int.negSucc n = -((n : Int) + 1) := rfl
def bodies : ACode → List ACode
  | .seq a b => bodies a ++ bodies b
  | .cond _ a b => bodies a ++ bodies b
  | .block _ a => bodies a
  | .loop _ a => bodies a ++ [a]
  | _ => []
def setB : ACode → List ACode → ACode × List ACode
  | .seq a b, ls => (.seq (setB a ls).1 (setB b (setB a ls).2).1, (setB b (setB a ls).2).2)
  | .cond z a b, ls => (.cond z (setB a ls).1 (setB b (setB a ls).2).1, (setB b (setB a ls).2).2)
  | .block i a, ls => (.block i (setB a ls).1, (setB a ls).2)
  | .loop ks a, ls => (match ls.drop (bodies a).length with | x :: _ => .loop ks x | [] => .loop ks a, ls.drop ((bodies a).length + 1))
  | c, ls => (c, ls)
def comp0 (P : Program) (hs : Hints) (F : List (Nat × List (List Nat))) : Code → Option ACode
  | .skip => some .skip
  | .region id ops false => (ops.toList.mapM (compOper P hs ops)).map fun l => .ops (killOf hs.ghost id) l (killOf hs.kill id)
  | .region id ops true => (ops.toList.mapM (compOper P hs ops)).map fun l => .draw (killOf hs.ghost id) l ((look id F).getD []) (killOf hs.kill id)
  | .seq a b => match comp0 P hs F a, comp0 P hs F b with | some x, some y => some (.seq x y) | _, _ => none
  | .cond c t e => match opd c, comp0 P hs F t, comp0 P hs F e with | some z, some x, some y => some (.cond z x y) | _, _, _ => none
  | .block id b => (comp0 P hs F b).map (.block id)
  | .loop b => (comp0 P hs F b).map (.loop (killOf hs.loop (firstId b)))
  | .exit id => some (.exit id (killOf hs.exit id))
  | .ret => some (.ret hs.ret)
  | _ => none
def codeC (P : Program) (fn : Func) (hs : Hints) (F : List (Nat × List (List Nat))) (ls : List ACode) : Option ACode := (fn.body.bind (comp0 P hs F)).map fun c => (setB c ls).1
def codeL (P : Program) (fn : Func) (hs : Hints) (F : List (Nat × List (List Nat))) (j : Nat) (ls : List ACode) : Option ACode := (fn.body.bind (comp0 P hs F)).bind fun c => (bodies c)[j]?.map fun b => (setB b ls).1
def vl {x : Option ACode} {c : ACode} (_ : x = some c := by conv => lhs; reduce; try simp only [iP, iN, Int.cast_ofNat_Int, Int.natCast_zero, Int.natCast_one]) : ACode := c
theorem vl_eq {x : Option ACode} {c : ACode} (h : x = some c) : vl h = c := rfl
attribute [go_sem ↓] vl_eq
def xp : List Nat → List Nat
  | [] => []
  | n :: l => if n < 1000 then n :: xp l else List.range' (n / 1000) (n % 1000 + 1 - n / 1000) ++ xp l
def kx : List (Nat × List Nat) → List (Nat × List Nat)
  | [] => []
  | (i, l) :: r => (i, xp l) :: kx r
def xq : List Nat → List Nat
  | [] => []
  | n :: l => if n < 1000 then n :: xq l else List.range' (n / 1000 - 1) (n % 1000 + 2 - n / 1000) ++ xq l
def qx : List (Nat × List (List Nat)) → List (Nat × List (List Nat))
  | [] => []
  | (i, l) :: r => (i, l.map xq) :: qx r
theorem tk {α : Type} {a b : α} (h : a = b := by kernel_rfl) : a = b := h
theorem fokC {P : Program} {f i : Nat} {fn : Func} {c : ACode} {rs : List ARes} {nt : Nat} {sl : Bool} (hs : Hints) (hf : P.funcs[i]? = some fn) (h0 : f = i := by kernel_rfl) (h1 : callable P f = true := by kernel_rfl) (h2 : fn.body.bind (comp P hs) = some c := by kernel_rfl) (h3 : fn.body.map (slotsOk fn.ntmps) = some true := by kernel_rfl) (h4 : fn.results.toList.mapM (compRes P) = some rs := by kernel_rfl) (h5 : fn.ntmps = nt := by kernel_rfl) (h6 : nt ≤ 1000000 := by decide) : FnOK P f (.code c rs nt sl) := ⟨h1, fn, hs, h0 ▸ hf, h2, h3, h4, h5, h6⟩
end Go.Sim
