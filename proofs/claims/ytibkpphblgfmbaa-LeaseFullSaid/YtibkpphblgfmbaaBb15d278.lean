/-
  The steps of the calculus in forms that rewriting takes at once: no state stands under a binder.
  The meaning of code, step by step, as rewriting: each step is taken only at a state that is written out.
  Loops, where what comes out is told by a law rather than by a function.
  A list that was just made, handed back as a row that can be written.
  What slices.Insert and slices.Delete do, as functions that a contract gives.
  Numbers of functions.
-/
import Derived.Test.YtibkpphblgfmbaaBedacbeb
set_option linter.unusedSimpArgs false
set_option linter.unusedVariables false
namespace Go.Sim
variable {F : Sem1} {E : Env} {H : Heap} {dst : Nat}

/-! ### Lists of names -/
def subB (full : List Nat) : List Nat → Bool
  | [] => true
  | x :: l => full.contains x && subB full l
theorem subB_eq {full : List Nat} : ∀ {l : List Nat}, l.all full.contains = subB full l
  | [] => rfl
  | x :: l => by rw [List.all_cons, subB_eq]; rfl
def okN1 (full : List Nat) : Option Obj → Bool
  | some (.row es) => subB full (AV.objsL es)
  | _ => false
def okN (H : Heap) (full : List Nat) : List Nat → Bool
  | [] => true
  | o :: l => okN1 full (look o H) && okN H full l
theorem okNames_eq {ns : List Nat} : okNames H ns = okN H ns ns := by
  have : ∀ full l : List Nat, (l.all fun o => match look o H with | some (.row es) => (AV.objsL es).all full.contains | _ => false) = okN H full l := by
    intro full l
    induction l with
    | nil => rfl
    | cons o l ih =>
      rw [List.all_cons, ih]
      simp only [okN]
      congr 1
      unfold okN1
      split <;> simp_all [subB_eq]
  exact this ns ns
def osN (H : Heap) (full : List Nat) : List Nat → Heap
  | [] => []
  | o :: l => (toCallee full o, ((look o H).getD (.acc 0)).ren (toCallee full)) :: osN H full l
theorem osOf_eq {ns : List Nat} : osOf H ns = osN H ns ns := by
  have : ∀ full l : List Nat, (l.map fun o => (toCallee full o, ((look o H).getD (.acc 0)).ren (toCallee full))) = osN H full l := by
    intro full l
    induction l with
    | nil => rfl
    | cons o l ih => rw [List.map_cons, ih]; rfl
  exact this ns ns
theorem freshOK_nil {ns : List Nat} : freshOK E H dst ns [] = true := rfl
theorem freshOK_cons {ns : List Nat} {n : Nat} {ob : Obj} {l : Heap} : freshOK E H dst ns ((n, ob) :: l) = ((decide (1000000 ≤ n) || (!refsEnv (dst + 10000 * n) E && !refsHeap (dst + 10000 * n) H && !ns.contains (dst + 10000 * n))) && freshOK E H dst ns l) := rfl
def flatH : Heap → Bool
  | [] => true
  | (_, ob) :: l => ob.flat && flatH l
theorem flatRes_eq {v : AV} {δ : Heap} : flatRes (v, δ) = (v.flat && flatH δ) := by
  unfold flatRes
  congr 1
  show (δ.all fun q => q.2.flat) = flatH δ
  induction δ with
  | nil => rfl
  | cons p l ih => rw [List.all_cons, ih]; rfl
theorem disjL_nil {b : List Nat} : disjL [] b = true := rfl
theorem disjL_cons {a : Nat} {l b : List Nat} : disjL (a :: l) b = (!b.contains a && disjL l b) := rfl
theorem renH_nil {ρ : Nat → Nat} : renH ρ [] = [] := rfl
theorem renH_cons {ρ : Nat → Nat} {n : Nat} {ob : Obj} {l : Heap} : renH ρ ((n, ob) :: l) = (ρ n, ob.ren ρ) :: renH ρ l := rfl
theorem frzL_nil : frzL H [] = [] := rfl
theorem frzL_cons {o : Nat} {l : List Nat} : frzL H (o :: l) = (o, .frz (mark H o)) :: frzL H l := rfl
theorem frzOk_nil : frzOk H [] = true := rfl
theorem frzOk_cons {o : Nat} {l : List Nat} : frzOk H (o :: l) = ((look o H).isSome && frzOk H l) := rfl
theorem odds_nil : odds [] = [] := rfl
theorem odds_cons {o : Nat} {l : List Nat} : odds (o :: l) = (2 * o + 1) :: odds l := rfl
theorem evens_nil : evens [] = [] := rfl
theorem evens_cons {o : Nat} {l : List Nat} : evens (o :: l) = (2 * o) :: evens l := rfl
theorem disjN_nil {b : List Nat} : disjN [] b = true := rfl
theorem disjN_cons {a : Nat} {l b : List Nat} : disjN (a :: l) b = (!b.contains a && disjN l b) := rfl
def clash1 (p : List Nat × List Nat) : Option (List Nat × List Nat) → Bool
  | some q => indep q p
  | none => false
theorem clashless_nil {acc : List (List Nat × List Nat)} {p : List Nat × List Nat} : clashless [] acc p = true := rfl
theorem clashless_cons {k : Nat} {fr : List Nat} {acc : List (List Nat × List Nat)} {p : List Nat × List Nat} : clashless (k :: fr) acc p = (clash1 p (acc[k]?) && clashless fr acc p) := rfl
def freshNs (E : Env) (H : Heap) : List Nat → Bool
  | [] => true
  | n :: l => (!refsEnv n E && !refsHeap n H) && freshNs E H l
theorem freshFor_nil {S : St} : freshFor [] S = true := rfl
theorem freshFor_cons {x : AOper} {l : List AOper} : freshFor (x :: l) ⟨E, H⟩ = (freshNs E H x.newNames && freshFor l ⟨E, H⟩) := by
  have : ∀ ns : List Nat, (ns.all fun n => !refsEnv n E && !refsHeap n H) = freshNs E H ns := by
    intro ns
    induction ns with
    | nil => rfl
    | cons n l ih => rw [List.all_cons, ih]; rfl
  rw [← this]; rfl
theorem rowEnv_nil {o m : Nat} : rowEnv o m [] = [] := rfl
theorem rowEnv_cons {o m t : Nat} {x : AV} {l : Env} : rowEnv o m ((t, x) :: l) = (t, rowV o m x) :: rowEnv o m l := rfl
theorem accEnv_nil {o : Nat} {ds : List D} : accEnv o ds [] = [] := rfl
theorem accEnv_cons {o t : Nat} {ds : List D} {x : AV} {l : Env} : accEnv o ds ((t, x) :: l) = (t, accV o ds x) :: accEnv o ds l := rfl
def enterN : Nat → List AV → Env
  | _, [] => []
  | n, x :: l => (n, x) :: enterN (n + 1) l
theorem enter_eq {args : List AV} : enter args = enterN 0 args := by
  have : ∀ (l : List AV) (n : Nat), ((l.zipIdx n).map fun p => (p.2, p.1)) = enterN n l := by
    intro l
    induction l with
    | nil => intro n; rfl
    | cons x l ih => intro n; rw [List.zipIdx_cons, List.map_cons, ih]; rfl
  exact this args 0
theorem ghostE_nil : ghostE [] = [] := rfl
theorem ghostE_cons {n : Nat} {ob : Obj} {l : Heap} : ghostE ((n, ob) :: l) = (n, .ref n 1 0) :: ghostE l := rfl
def okO1 (full : List Nat) (k o : Nat) : Option Obj → Bool
  | some (.row es) => subB full (AV.objsL es) && (decide (o < 1000000) || decide (o < 1000000 + k))
  | some (.acc _) => decide (o < 1000000)
  | some (.frz m) => m.isNone && decide (1000000 ≤ o) && (decide (o < 1000000) || decide (o < 1000000 + k))
  | _ => false
def okO (H : Heap) (full : List Nat) (k : Nat) : List Nat → Bool
  | [] => true
  | o :: l => okO1 full k o (look o H) && okO H full k l
theorem okOut_eq {os : Heap} {ns : List Nat} : okOut H os ns = (okO H ns os.length ns && decide ((frs ns).length ≤ 4)) := by
  have : ∀ full l : List Nat, (l.all fun o => (match look o H with | some (.row es) => (AV.objsL es).all full.contains | some (.acc _) => decide (o < 1000000) | some (.frz m) => m.isNone && decide (1000000 ≤ o) | none => false) && (decide (o < 1000000) || decide (o < 1000000 + os.length))) = okO H full os.length l := by
    intro full l
    induction l with
    | nil => rfl
    | cons o l ih =>
      rw [List.all_cons, ih]
      simp only [okO]
      congr 1
      unfold okO1
      split <;> simp_all [subB_eq]
  unfold okOut
  exact congrArg (· && decide ((frs ns).length ≤ 4)) (this ns ns)
def okG1 (o : Nat) : Option AV → Bool
  | some (.ref p 1 0) => p == o
  | _ => false
def okG (E : Env) : Heap → Bool
  | [] => true
  | (o, _) :: l => okG1 o (look o E) && okG E l
theorem okGhost_eq {os : Heap} : okGhost E os = okG E os := by
  unfold okGhost
  induction os with
  | nil => rfl
  | cons p l ih =>
    rw [List.all_cons, ih]
    simp only [okG]
    congr 1
def outN (H : Heap) (full : List Nat) : List Nat → Heap
  | [] => []
  | o :: l => (outName full o, ((look o H).getD (.acc 0)).ren (outName full)) :: outN H full l
theorem outH_eq {ns : List Nat} : outH H ns = outN H ns ns := by
  have : ∀ full l : List Nat, (l.map fun o => (outName full o, ((look o H).getD (.acc 0)).ren (outName full))) = outN H full l := by
    intro full l
    induction l with
    | nil => rfl
    | cons o l ih => rw [List.map_cons, ih]; rfl
  exact this ns ns

/-! ### Operands -/
def evs (E : Env) : List Opd → List AV
  | [] => []
  | x :: xs => x.ev E :: evs E xs
theorem map_evs {xs : List Opd} : xs.map (·.ev E) = evs E xs := by
  induction xs with
  | nil => rfl
  | cons x xs ih => rw [List.map_cons, ih]; rfl
def evO (E : Env) : Option Opd → Option AV
  | none => none
  | some x => some (x.ev E)
theorem mapO_ev {x : Option Opd} : x.map (·.ev E) = evO E x := by cases x <;> rfl
def evB (E : Env) : List (Nat × Nat × Opd) → List (Nat × Nat × AV)
  | [] => []
  | (a, b, x) :: l => (a, b, x.ev E) :: evB E l
theorem mapB_ev {l : List (Nat × Nat × Opd)} : (l.map fun p => (p.1, p.2.1, p.2.2.ev E)) = evB E l := by
  induction l with
  | nil => rfl
  | cons p l ih => rw [List.map_cons, ih]; rfl
def evF (E : Env) : List (Nat × Opd) → List (Nat × AV)
  | [] => []
  | (a, x) :: l => (a, x.ev E) :: evF E l
theorem mapF_ev {l : List (Nat × Opd)} : (l.map fun p => (p.1, p.2.ev E)) = evF E l := by
  induction l with
  | nil => rfl
  | cons p l ih => rw [List.map_cons, ih]; rfl
def szF (n : Nat) : List (Nat × AV) → Bool
  | [] => true
  | (_, x) :: l => (x.size == n) && szF n l
theorem all_sz {n : Nat} {l : List (Nat × Opd)} : (l.all fun p => (p.2.ev E).size == n) = szF n (evF E l) := by
  induction l with
  | nil => rfl
  | cons p l ih => rw [List.all_cons, ih]; rfl

theorem s_call' {f : FuncId} {ms : List Bool} {xs : List Opd} : step F E H dst (.call f ms xs) = callS H (callA F E H dst ms f (evs E xs)) := by rw [← map_evs]; rfl
theorem s_callv' {f : Opd} {ms : List Bool} {xs : List Opd} : step F E H dst (.callv f ms xs) = callS H (callvA F E H dst ms (f.ev E) (evs E xs)) := by rw [← map_evs]; rfl
theorem f_call' {f : FuncId} {ms : List Bool} {xs : List Opd} : AOp.feet E H dst (.call f ms xs) = callFeetT H dst ms (evs E xs) := by rw [← map_evs]; rfl
theorem f_callv' {f : Opd} {ms : List Bool} {xs : List Opd} : AOp.feet E H dst (.callv f ms xs) = callvFeet H dst ms (f.ev E) (evs E xs) := by rw [← map_evs]; rfl

/-! ### Results -/
def retA (H : Heap) : Option AV → Option (AV × Heap)
  | none => none
  | some v => some (v, H)
theorem retA_eq {x : Option AV} : x.map (fun v => (v, H)) = retA H x := by cases x <;> rfl
theorem retA_ite {c : Prop} [Decidable c] {x y : Option AV} : retA H (if c then x else y) = if c then retA H x else retA H y := by split <;> rfl
def retD (H : Heap) : Option D → Option (AV × Heap)
  | none => none
  | some v => some (.d v, H)
theorem retD_eq {x : Option D} : x.map (fun v => (AV.d v, H)) = retD H x := by cases x <;> rfl
theorem retD_ite {c : Prop} [Decidable c] {x y : Option D} : retD H (if c then x else y) = if c then retD H x else retD H y := by split <;> rfl
def retB (H : Heap) (ng : Bool) : Option Bool → Option (AV × Heap)
  | none => none
  | some b => some (.d (.bool (if ng then !b else b)), H)
def dO : Option D → Option AV
  | none => none
  | some v => some (.d v)
theorem dO_eq {x : Option D} : x.map AV.d = dO x := by cases x <;> rfl
def pdO : Option D → Option AV
  | none => none
  | some v => some (.d (.pd v))
def peO (o : Nat) : Option D → Option AV
  | none => none
  | some v => some (.pe o v)

/-! ### Loads -/
def ldR (ag : Bool) (n : Nat) : Option AV → Option AV
  | some e => partA ag off n e
  | none => none
  where off : Nat := 0
def ldE (ag : Bool) (n off : Nat) : Option AV → Option AV
  | some e => partA ag off n e
  | none => none
def ldO (ag : Bool) (n i off : Nat) : Option Obj → Option AV
  | some (.row es) => ldE ag n off es[i]?
  | _ => none
def ldV (H : Heap) (ag : Bool) (n : Nat) : AV → Option AV
  | .d (.pd x) => dO (partD ag 0 n x)
  | .pe _ x => dO (partD ag 0 n x)
  | .ref o i off => ldO ag n i off (look o H)
  | _ => none
theorem ldV_eq {ag : Bool} {n : Nat} {v : AV} : ldA H ag n v = ldV H ag n v := by
  unfold ldA
  split
  · exact dO_eq
  · exact dO_eq
  · rename_i o i off
    simp only [ldV]
    generalize look o H = q
    rcases q with _ | (es | m | m)
    · rfl
    · show es[i]?.bind _ = ldE ag n off es[i]?
      cases es[i]? <;> rfl
    · rfl
    · rfl
  · unfold ldV; split <;> simp_all
theorem s_ld' {ag : Bool} {n : Nat} {p : Opd} : step F E H dst (.ld ag n p) = retA H (ldV H ag n (p.ev E)) := by
  show (ldA H ag n (p.ev E)).map (fun v => (v, H)) = _
  rw [retA_eq, ldV_eq]
def fadV (ag : Bool) (off n : Nat) : AV → Option AV
  | .ref o i f => some (.ref o i (f + off))
  | .d (.pd y) => pdO (partD ag off n y)
  | .pe o y => peO o (partD ag off n y)
  | _ => none
theorem fadV_eq {ag : Bool} {off n : Nat} {v : AV} : fadA ag off n v = fadV ag off n v := by
  unfold fadA
  split
  · rfl
  · rename_i y; simp only [fadV]; cases partD ag off n y <;> rfl
  · rename_i o y; simp only [fadV]; cases partD ag off n y <;> rfl
  · unfold fadV; split <;> simp_all
theorem s_fad' {ag : Bool} {off n : Nat} {x : Opd} : step F E H dst (.fad ag off n x) = retA H (fadV ag off n (x.ev E)) := by
  show (fadA ag off n (x.ev E)).map (fun v => (v, H)) = _
  rw [retA_eq, fadV_eq]
/-! ### Elements -/
def szR (n o i : Nat) : Option AV → Option AV
  | some e => if e.size = n then some (.ref o i 0) else none
  | none => none
def szP (n o : Nat) : Option D → Option AV
  | some e => if e.size = n then some (.pe o e) else none
  | none => none
def szD (n : Nat) : Option D → Option AV
  | some e => if e.size = n then some (.d (.pd e)) else none
  | none => none
def iadO (n o i : Nat) : Option Obj → Option AV
  | some (.row es) => szR n o i es[i]?
  | _ => none
def iadV (H : Heap) (n : Nat) (i : Int) : AV → Option AV
  | .osl o off len => if i < len then iadO n o (off + i.toNat) (look o H) else none
  | .acc o es => szP n o es[i.toNat]?
  | .d (.sl es) => szD n es[i.toNat]?
  | .xsl es => szD n es[i.toNat]?
  | _ => none
theorem iadV_eq {n : Nat} {i : Int} {v : AV} : iadA H n i v = iadV H n i v := by
  unfold iadA
  split
  · rename_i o off len
    simp only [iadV]
    split
    · generalize look o H = q
      rcases q with _ | (es | m | m)
      · rfl
      · show es[off + i.toNat]?.bind _ = szR n o (off + i.toNat) es[off + i.toNat]?
        cases es[off + i.toNat]? <;> rfl
      · rfl
      · rfl
    · rfl
  · rename_i o es; simp only [iadV]; unfold szP; cases es[i.toNat]? <;> rfl
  · rename_i es; simp only [iadV]; unfold szD; cases es[i.toNat]? <;> rfl
  · rename_i es; simp only [iadV]; unfold szD; cases es[i.toNat]? <;> rfl
  · unfold iadV; split <;> simp_all
def iadI (H : Heap) (n : Nat) (v : AV) : Option Int → Option (AV × Heap)
  | some k => if 0 ≤ k then retA H (iadV H n k v) else none
  | none => none
theorem s_iad' {n : Nat} {x i : Opd} : step F E H dst (.iad n x i) = iadI H n (x.ev E) (idxOf (i.ev E)) := by
  show (idxOf (i.ev E)).bind _ = _
  unfold iadI
  cases idxOf (i.ev E) with
  | none => rfl
  | some k => simp only [Option.bind_some, iadV_eq, retA_eq]
def iadaI (H : Heap) (ag : Bool) (len n : Nat) (v : AV) : Option Int → Option (AV × Heap)
  | some k => if 0 ≤ k ∧ k < len then retA H (fadV ag (k.toNat * n) n v) else none
  | none => none
theorem s_iada' {ag : Bool} {len n : Nat} {x i : Opd} : step F E H dst (.iada ag len n x i) = iadaI H ag len n (x.ev E) (idxOf (i.ev E)) := by
  show (idxOf (i.ev E)).bind _ = _
  unfold iadaI
  cases idxOf (i.ev E) with
  | none => rfl
  | some k => simp only [Option.bind_some, fadV_eq, retA_eq]
/-! ### Stores -/
def stF (H : Heap) (o i : Nat) (es : List AV) : Option AV → Option (AV × Heap)
  | some e => some (.undef, setAt o (.row (es.set i e)) H)
  | none => none
def stE (H : Heap) (o i off : Nat) (es : List AV) (v : AV) : Option AV → Option (AV × Heap)
  | some e => stF H o i es (over e off v)
  | none => none
def stO (H : Heap) (o i off : Nat) (v : AV) : Option Obj → Option (AV × Heap)
  | some (.row es) => stE H o i off es v es[i]?
  | _ => none
def stV (H : Heap) (n : Nat) (v : AV) : AV → Option (AV × Heap)
  | .ref o i off => if v.size = n ∧ isTup v = false then stO H o i off v (look o H) else none
  | _ => none
def clrO (H : Heap) (n o off len : Nat) : Option Obj → Option (AV × Heap)
  | some (.row es) => if off + len = es.length ∧ es.head?.map AV.size = some n then some (.undef, setAt o (.row (es.take off)) H) else none
  | _ => none
def clrV (H : Heap) (n : Nat) : AV → Option (AV × Heap)
  | .osl o off len => clrO H n o off len (look o H)
  | _ => none
theorem s_clr' {n : Nat} {x : Opd} : step F E H dst (.clr n x) = clrV H n (x.ev E) := by
  show astep E H dst (.clr n x) = _
  simp only [astep]
  generalize x.ev E = xv
  split
  · rename_i o off len
    simp only [clrV]
    generalize look o H = q
    rcases q with _ | (es | m | m) <;> rfl
  · unfold clrV; split <;> simp_all
theorem s_st' {n : Nat} {p x : Opd} : step F E H dst (.st n p x) = stV H n (x.ev E) (p.ev E) := by
  show astep E H dst (.st n p x) = _
  simp only [astep]
  generalize p.ev E = pv
  split
  · rename_i o i off
    simp only [stV]
    split
    · generalize look o H = q
      rcases q with _ | (es | m | m)
      · rfl
      · show es[i]?.bind _ = stE H o i off es (x.ev E) es[i]?
        cases es[i]? with
        | none => rfl
        | some e =>
          show Option.map _ (over e off (x.ev E)) = stF H o i es (over e off (x.ev E))
          cases over e off (x.ev E) <;> rfl
      · rfl
      · rfl
    · rfl
  · unfold stV; split <;> simp_all
/-! ### Fields, numbers, equality -/
def fldV (H : Heap) (ag : Bool) (off n : Nat) : AV → Option (AV × Heap)
  | .d (.agg cs) => retD H (partD ag off n (.agg cs))
  | .agg cs => retA H (partA ag off n (.agg cs))
  | _ => none
theorem s_fld' {ag : Bool} {off n : Nat} {x : Opd} : step F E H dst (.fld ag off n x) = fldV H ag off n (x.ev E) := by
  show astep E H dst (.fld ag off n x) = _
  simp only [astep]
  generalize x.ev E = v
  split
  · exact retD_eq
  · exact retA_eq
  · unfold fldV; split <;> simp_all
def fldW (ag : Bool) (off n : Nat) : AV → Option AV
  | .d (.agg cs) => dO (partD ag off n (.agg cs))
  | .agg cs => partA ag off n (.agg cs)
  | _ => none
theorem fldW_eq {ag : Bool} {off n : Nat} {v : AV} : fldA ag off n v = fldW ag off n v := by
  unfold fldA
  split
  · exact dO_eq
  · rfl
  · unfold fldW; split <;> simp_all
def idxaI (H : Heap) (ag : Bool) (len n : Nat) (v : AV) : Option Int → Option (AV × Heap)
  | some k => if 0 ≤ k ∧ k < len then retA H (fldW ag (k.toNat * n) n v) else none
  | none => none
theorem s_idxa' {ag : Bool} {len n : Nat} {x i : Opd} : step F E H dst (.idxa ag len n x i) = idxaI H ag len n (x.ev E) (idxOf (i.ev E)) := by
  show (idxOf (i.ev E)).bind _ = _
  unfold idxaI
  cases idxOf (i.ev E) with
  | none => rfl
  | some k => simp only [Option.bind_some, fldW_eq, retA_eq]
def binV (H : Heap) (op : BinOp) : AV → AV → Option (AV × Heap)
  | .d a, .d b => retD H (binD op a b)
  | _, _ => none
theorem s_bin' {op : BinOp} {x y : Opd} : step F E H dst (.bin op x y) = binV H op (x.ev E) (y.ev E) := by
  show astep E H dst (.bin op x y) = _
  simp only [astep]
  generalize x.ev E = v
  generalize y.ev E = u
  split
  · exact retD_eq
  · unfold binV; split <;> simp_all
def eqsV (H : Heap) (ng : Bool) (n : Nat) (ls : List (Nat × Nat)) : AV → AV → Option (AV × Heap)
  | .d (.agg a), .d (.agg b) => if a.length = n ∧ b.length = n then retB H ng (eqCells a b ls) else none
  | _, _ => none
theorem s_eqs' {ng : Bool} {n : Nat} {ls : List (Nat × Nat)} {x y : Opd} : step F E H dst (.eqs ng n ls x y) = eqsV H ng n ls (x.ev E) (y.ev E) := by
  show astep E H dst (.eqs ng n ls x y) = _
  simp only [astep]
  generalize x.ev E = v
  generalize y.ev E = u
  split
  · rename_i a b
    simp only [eqsV]
    split
    · cases eqCells a b ls <;> rfl
    · rfl
  · unfold eqsV; split <;> simp_all
def idxB (H : Heap) : Option UInt8 → Option (AV × Heap)
  | some b => some (.d (.int .u8 b.toNat), H)
  | none => none
def idxV (H : Heap) : AV → Option Int → Option (AV × Heap)
  | .d (.str s), some k => if 0 ≤ k then idxB H s[k.toNat]? else none
  | _, _ => none
theorem s_idx' {x i : Opd} : step F E H dst (.idx x i) = idxV H (x.ev E) (idxOf (i.ev E)) := by
  show astep E H dst (.idx x i) = _
  simp only [astep]
  generalize x.ev E = v
  generalize idxOf (i.ev E) = u
  split
  · rename_i s k
    simp only [idxV]
    split
    · unfold idxB; cases s[k.toNat]? <;> rfl
    · rfl
  · unfold idxV; split <;> simp_all
/-! ### Slices -/
def bdI (y : Nat) : Option Int → Option Nat
  | some n => if 0 ≤ n ∧ n ≤ y then some n.toNat else none
  | none => none
def bd (dflt y : Nat) : Option AV → Option Nat
  | none => some dflt
  | some v => bdI y (idxOf v)
theorem bd_eq {x : Option AV} {dflt y : Nat} : bound x dflt y = bd dflt y x := by
  cases x with
  | none => rfl
  | some v =>
    simp only [bound, bd]
    unfold bdI
    cases idxOf v <;> rfl
def slM (es : List D) (h l : Nat) (hi : Option AV) : Option AV → Option AV
  | none => some (.d (.sl ((es.take h).drop l)))
  | some m => if idxOf m = some (h : Int) ∧ hi.isSome then some (.xsl ((es.take h).drop l)) else none
def xslM (es : List D) (h l : Nat) (hi : Option AV) : Option AV → Option AV
  | none => some (if h = es.length then .xsl ((es.take h).drop l) else .d (.sl ((es.take h).drop l)))
  | some m => if idxOf m = some (h : Int) ∧ hi.isSome then some (.xsl ((es.take h).drop l)) else none
def accM (o : Nat) (es : List D) (h : Nat) (hi : Option AV) : Option AV → Option AV
  | none => some (.acc o (es.take h))
  | some m => if idxOf m = some (h : Int) ∧ hi.isSome then some (.acc o (es.take h)) else none
def slL (es : List D) (hi mx : Option AV) (h : Nat) : Option Nat → Option AV
  | some l => slM es h l hi mx
  | none => none
def slH (es : List D) (lo hi mx : Option AV) : Option Nat → Option AV
  | some h => slL es hi mx h (bd 0 h lo)
  | none => none
def xslL (es : List D) (hi mx : Option AV) (h : Nat) : Option Nat → Option AV
  | some l => xslM es h l hi mx
  | none => none
def xslH (es : List D) (lo hi mx : Option AV) : Option Nat → Option AV
  | some h => xslL es hi mx h (bd 0 h lo)
  | none => none
def accL (o : Nat) (es : List D) (hi mx : Option AV) (h : Nat) : Option Nat → Option AV
  | some l => if l = 0 then accM o es h hi mx else none
  | none => none
def accH (o : Nat) (es : List D) (lo hi mx : Option AV) : Option Nat → Option AV
  | some h => accL o es hi mx h (bd 0 h lo)
  | none => none
def oslO (n o off h l : Nat) : Option Obj → Option AV
  | some (.row es) => if l = 0 ∨ es.head?.map AV.size = some n then some (.osl o (off + l) (h - l)) else none
  | _ => none
def oslL (H : Heap) (n o off h : Nat) : Option Nat → Option AV
  | some l => oslO n o off h l (look o H)
  | none => none
def oslH (H : Heap) (n o off : Nat) (lo : Option AV) : Option Nat → Option AV
  | some h => oslL H n o off h (bd 0 h lo)
  | none => none
def oslM (H : Heap) (n o off len : Nat) (lo hi : Option AV) : Option AV → Option AV
  | none => oslH H n o off lo (bd len len hi)
  | some _ => none
def slcV (H : Heap) (n : Nat) (lo hi mx : Option AV) : AV → Option AV
  | .d (.sl es) => if allSize n es then slH es lo hi mx (bd es.length es.length hi) else none
  | .xsl es => if allSize n es then xslH es lo hi mx (bd es.length es.length hi) else none
  | .acc o es => if allSize n es then accH o es lo hi mx (bd es.length es.length hi) else none
  | .osl o off len => oslM H n o off len lo hi mx
  | _ => none
theorem slcV_eq {n : Nat} {lo hi mx : Option AV} {v : AV} : slcA H n lo hi mx v = slcV H n lo hi mx v := by
  unfold slcA
  split
  · rename_i es
    simp only [slcV]
    split
    · simp only [bd_eq]
      unfold slH
      cases bd es.length es.length hi with
      | none => rfl
      | some h =>
        simp only [Option.bind_some]
        unfold slL
        cases bd 0 h lo with
        | none => rfl
        | some l => simp only [Option.bind_some]; cases mx <;> rfl
    · rfl
  · rename_i es
    simp only [slcV]
    split
    · simp only [bd_eq]
      unfold xslH
      cases bd es.length es.length hi with
      | none => rfl
      | some h =>
        simp only [Option.bind_some]
        unfold xslL
        cases bd 0 h lo with
        | none => rfl
        | some l => simp only [Option.bind_some]; cases mx <;> rfl
    · rfl
  · rename_i o es
    simp only [slcV]
    split
    · simp only [bd_eq]
      unfold accH
      cases bd es.length es.length hi with
      | none => rfl
      | some h =>
        simp only [Option.bind_some]
        unfold accL
        cases bd 0 h lo with
        | none => rfl
        | some l => simp only [Option.bind_some]; cases mx <;> rfl
    · rfl
  · rename_i o off len
    cases mx with
    | some m => rfl
    | none =>
      simp only [bd_eq, slcV, oslM]
      unfold oslH
      cases bd len len hi with
      | none => rfl
      | some h =>
        simp only [Option.bind_some]
        unfold oslL
        cases bd 0 h lo with
        | none => rfl
        | some l => simp only [Option.bind_some]; unfold oslO; rfl
  · unfold slcV; split <;> simp_all
theorem s_slc' {n : Nat} {x : Opd} {lo hi mx : Option Opd} : step F E H dst (.slc n x lo hi mx) = retA H (slcV H n (evO E lo) (evO E hi) (evO E mx) (x.ev E)) := by
  show (slcA H n (lo.map (·.ev E)) (hi.map (·.ev E)) (mx.map (·.ev E)) (x.ev E)).map (fun v => (v, H)) = _
  rw [retA_eq, slcV_eq, mapO_ev, mapO_ev, mapO_ev]
def slsL (H : Heap) (s : List UInt8) (h : Nat) : Option Nat → Option (AV × Heap)
  | some l => some (.d (.str ((s.take h).drop l)), H)
  | none => none
def slsH (H : Heap) (s : List UInt8) (lo : Option AV) : Option Nat → Option (AV × Heap)
  | some h => slsL H s h (bd 0 h lo)
  | none => none
def slsV (H : Heap) (lo hi : Option AV) : AV → Option (AV × Heap)
  | .d (.str s) => slsH H s lo (bd s.length s.length hi)
  | _ => none
theorem s_sls' {x : Opd} {lo hi : Option Opd} : step F E H dst (.sls x lo hi) = slsV H (evO E lo) (evO E hi) (x.ev E) := by
  show astep E H dst (.sls x lo hi) = _
  simp only [astep]
  generalize x.ev E = v
  split
  · rename_i s
    simp only [bd_eq, mapO_ev, slsV]
    unfold slsH
    cases bd s.length s.length (evO E hi) with
    | none => rfl
    | some h =>
      simp only [Option.bind_some]
      unfold slsL
      cases bd 0 h (evO E lo) <;> rfl
  · unfold slsV; split <;> simp_all
def extV (H : Heap) (i : Nat) : AV → Option (AV × Heap)
  | .d (.tup vs) => retD H vs[i]?
  | .tup vs => retA H vs[i]?
  | _ => none
theorem s_ext' {x : Opd} {i : Nat} : step F E H dst (.ext x i) = extV H i (x.ev E) := by
  show astep E H dst (.ext x i) = _
  simp only [astep]
  generalize x.ev E = v
  split
  · exact retD_eq
  · exact retA_eq
  · unfold extV; split <;> simp_all
def lenO (H : Heap) : Option (List D) → Option (AV × Heap)
  | some es => some (.d (.int .i64 es.length), H)
  | none => none
def lenV (H : Heap) : AV → Option (AV × Heap)
  | .osl _ _ len => some (.d (.int .i64 len), H)
  | .d (.sl es) => some (.d (.int .i64 es.length), H)
  | .acc _ es => some (.d (.int .i64 es.length), H)
  | .xsl es => some (.d (.int .i64 es.length), H)
  | y => lenO H (slD y)
theorem s_len' {x : Opd} : step F E H dst (.len x) = lenV H (x.ev E) := by
  show astep E H dst (.len x) = _
  simp only [astep]
  generalize x.ev E = v
  split
  · rfl
  · unfold lenV
    split
    · simp_all
    · rfl
    · rfl
    · rfl
    · unfold lenO; cases slD v <;> rfl
def mmV (H : Heap) (mx : Bool) : List AV → Option (AV × Heap)
  | [] => none
  | y :: ys => retA H (mmD mx y ys)
theorem s_mm' {mx : Bool} {xs : List Opd} : step F E H dst (.mm mx xs) = mmV H mx (evs E xs) := by
  show astep E H dst (.mm mx xs) = _
  simp only [astep, map_evs]
  cases evs E xs with
  | nil => rfl
  | cons y ys => exact retA_eq
theorem s_mkfn' {f : FuncId} {cs : List Opd} : step F E H dst (.mkfn f cs) = some (AV.mkFn f (evs E cs), H) := by
  show astep E H dst (.mkfn f cs) = _
  simp only [astep, map_evs]
def buildV (H : Heap) : Option (List AV) → Option (AV × Heap)
  | some cs => some (AV.mkAgg cs, H)
  | none => none
theorem s_build' {z : List AV} {ps : List (Nat × Nat × Opd)} : step F E H dst (.build z ps) = buildV H (fillA z (evB E ps)) := by
  show astep E H dst (.build z ps) = _
  simp only [astep, mapB_ev]
  unfold buildV
  cases fillA z (evB E ps) <;> rfl
def bslD (E : Env) (H : Heap) (dst len : Nat) (es : List AV) : Option (List D) → Option (AV × Heap)
  | some ds => some (.xsl ds, H)
  | none => if refsEnv dst E = false ∧ refsHeap dst H = false then some (.osl dst 0 len, setAt dst (.row es) H) else none
def bslE (E : Env) (H : Heap) (dst len : Nat) : Option (List AV) → Option (AV × Heap)
  | some es => bslD E H dst len es (allD es)
  | none => none
theorem s_bsl' {len n : Nat} {z : AV} {ps : List (Nat × Opd)} : step F E H dst (.bsl len n z ps) = if z.size = n ∧ szF n (evF E ps) = true then bslE E H dst len (fillE (List.replicate len z) (evF E ps)) else none := by
  show astep E H dst (.bsl len n z ps) = _
  simp only [astep, mapF_ev, all_sz]
  split
  · unfold bslE
    cases fillE (List.replicate len z) (evF E ps) with
    | none => rfl
    | some es => simp only [Option.bind_some]; unfold bslD; rfl
  · rfl
def b2sB (H : Heap) : Option (List UInt8) → Option (AV × Heap)
  | some s => some (.d (.str s), H)
  | none => none
def b2sV (H : Heap) : Option (List D) → Option (AV × Heap)
  | some es => b2sB H (bytesD es)
  | none => none
theorem s_b2s' {x : Opd} : step F E H dst (.b2s x) = b2sV H (slD (x.ev E)) := by
  show astep E H dst (.b2s x) = _
  simp only [astep]
  unfold b2sV
  cases slD (x.ev E) with
  | none => rfl
  | some es => simp only [Option.bind_some]; unfold b2sB; cases bytesD es <;> rfl
def byD (s : List UInt8) : List D := s.map fun b => .int .u8 b.toNat
theorem s_s2b' {x : Opd} : step F E H dst (.s2b x) = match x.ev E with | .d (.str s) => some (.d (.sl (byD s)), H) | _ => none := rfl
def s2bV (H : Heap) : AV → Option (AV × Heap)
  | .d (.str s) => some (.d (.sl (byD s)), H)
  | _ => none
theorem s_s2b'' {x : Opd} : step F E H dst (.s2b x) = s2bV H (x.ev E) := by
  rw [s_s2b']; unfold s2bV; rfl
/-! ### Appending -/
def srcO (off len : Nat) : Option Obj → Option (List D)
  | some (.row es) => srcL len (allD ((es.drop off).take len))
  | _ => none
  where srcL (len : Nat) : Option (List D) → Option (List D)
    | some ds => if ds.length = len then some ds else none
    | none => none
def srcV (H : Heap) : AV → Option (List D)
  | .osl o off len => srcO off len (look o H)
  | .nl _ => some []
  | y => slD y
theorem srcV_eq {v : AV} : srcD H v = srcV H v := by
  unfold srcD
  split
  · rename_i o off len
    simp only [srcV]
    generalize look o H = q
    rcases q with _ | (es | m | m)
    · rfl
    · show (allD ((es.drop off).take len)).bind _ = srcO.srcL len (allD ((es.drop off).take len))
      cases allD ((es.drop off).take len) <;> rfl
    · rfl
    · rfl
  · rfl
  · unfold srcV; split <;> simp_all
def appO (H : Heap) (o n : Nat) (es ys : List D) : Option Obj → Option (AV × Heap)
  | some (.acc m) => if es.length = m ∧ allSize n (es ++ ys) ∧ (es ++ ys).length ≤ LIM then some (.acc o (es ++ ys), setAt o (.acc (m + ys.length)) H) else none
  | _ => none
def appV (E : Env) (H : Heap) (dst n : Nat) (ys : List D) : AV → Option (AV × Heap)
  | .xsl es => if allSize n (es ++ ys) ∧ (es ++ ys).length ≤ LIM ∧ refsEnv dst E = false ∧ refsHeap dst H = false ∧ (es.isEmpty || !ys.isEmpty) = true then some (.acc dst (es ++ ys), setAt dst (.acc (es.length + ys.length)) H) else none
  | .acc o es => appO H o n es ys (look o H)
  | _ => none
theorem appV_eq {n : Nat} {ys : List D} {v : AV} : appA E H dst n ys v = appV E H dst n ys v := by
  unfold appA
  split
  · rfl
  · simp only [appV]; unfold appO; rfl
  · unfold appV; split <;> simp_all
def appY (E : Env) (H : Heap) (dst n : Nat) (v : AV) : Option (List D) → Option (AV × Heap)
  | some ys => appV E H dst n ys v
  | none => none
theorem s_app' {n : Nat} {x y : Opd} : step F E H dst (.app n x y) = appY E H dst n (x.ev E) (srcV H (y.ev E)) := by
  show astep E H dst (.app n x y) = _
  simp only [astep, srcV_eq]
  unfold appY
  cases srcV H (y.ev E) with
  | none => rfl
  | some ys => simp only [Option.bind_some, appV_eq]
def appsV (E : Env) (H : Heap) (dst : Nat) (v : AV) : AV → Option (AV × Heap)
  | .d (.str s) => appV E H dst 1 (byD s) v
  | _ => none
theorem s_apps' {x y : Opd} : step F E H dst (.apps x y) = appsV E H dst (x.ev E) (y.ev E) := by
  show astep E H dst (.apps x y) = _
  simp only [astep]
  generalize y.ev E = v
  split
  · exact appV_eq
  · unfold appsV; split <;> simp_all
/-! ### What is handed back -/
def resO (H : Heap) (ag : Bool) (sz : Nat) : Option AV → Option AV
  | some v => ldV H ag sz v
  | none => none
theorem res_c {n sz : Nat} {ag : Bool} : ARes.ev ⟨E, H⟩ (.c n ag sz) = resO H ag sz (look n E) := by
  show (look n E).bind (ldA H ag sz) = _
  cases look n E with
  | none => rfl
  | some v => exact ldV_eq
theorem res_t {n : Nat} : ARes.ev ⟨E, H⟩ (.t n) = look n E := rfl
def consO (vs : Option (List AV)) : Option AV → Option (List AV)
  | some v => vs.map (v :: ·)
  | none => none
def consP (v : Option AV) : Option (List AV) → Option (List AV)
  | some vs => consQ vs v
  | none => none
  where consQ (vs : List AV) : Option AV → Option (List AV)
    | some v => some (v :: vs)
    | none => none
def resL (S : St) : List ARes → Option (List AV)
  | [] => some []
  | r :: rs => consP (r.ev S) (resL S rs)
theorem resL_eq {S : St} {rs : List ARes} : rs.mapM (ARes.ev S) = resL S rs := by
  induction rs with
  | nil => rfl
  | cons r rs ih =>
    rw [List.mapM_cons, ih]
    simp only [resL]
    cases r.ev S with
    | none => cases resL S rs <;> rfl
    | some v => cases resL S rs <;> rfl
def tupO : Option (List AV) → Option AV
  | some vs => some (AV.mkTup vs)
  | none => none
theorem res_one {S : St} {r : ARes} : resA S [r] = r.ev S := rfl
theorem res_nil {S : St} : resA S [] = some (AV.mkTup []) := rfl
theorem res_two {S : St} {a b : ARes} {l : List ARes} : resA S (a :: b :: l) = tupO (resL S (a :: b :: l)) := by
  show ((a :: b :: l).mapM (ARes.ev S)).map AV.mkTup = _
  rw [resL_eq]
  cases resL S (a :: b :: l) <;> rfl
theorem bind_some' {α β : Type} {x : α} {f : α → Option β} : (some x).bind f = f x := rfl
end Go.Sim

namespace Go.Sim
variable {G : FuncId → Option AFn} {F : Sem1} {E : Env} {H : Heap}

theorem x_skip : exL G .skip ⟨E, H⟩ = some (.normal, ⟨E, H⟩) := exL_skip
theorem endS_ap {ks : List Nat} : endS ks ⟨E, H⟩ = gcS ⟨sortE (keepE ks E), H⟩ := rfl
theorem gcS_ap : gcS ⟨E, H⟩ = ⟨E, gc1 E H⟩ := rfl
theorem x_exit {i : Nat} {ks : List Nat} : exL G (.exit i ks) ⟨E, H⟩ = some (.exit i, endS ks ⟨E, H⟩) := exL_exit
theorem x_ret {ks : List Nat} : exL G (.ret ks) ⟨E, H⟩ = some (.ret, endS ks ⟨E, H⟩) := exL_ret
theorem x_ops {gs : List Nat} {l : List AOper} {ks : List Nat} : exL G (.ops gs l ks) ⟨E, H⟩ = ((ghosts gs ⟨E, H⟩).bind (execOps (callL G) l)).map (killS ks) := exL_ops
theorem x_draw {gs : List Nat} {l : List AOper} {fr : List (List Nat)} {ks : List Nat} : exL G (.draw gs l fr ks) ⟨E, H⟩ = ((ghosts gs ⟨E, H⟩).bind (drawF (callL G) l fr)).map (killS ks) := exL_draw
theorem x_seq {x y : ACode} : exL G (.seq x y) ⟨E, H⟩ = (exL G x ⟨E, H⟩).bind (seqF (exL G y)) := exL_seq
theorem x_cond {c : Opd} {x y : ACode} : exL G (.cond c x y) ⟨E, H⟩ = condF (c.ev E) (exL G x ⟨E, H⟩) (exL G y ⟨E, H⟩) := exL_cond
noncomputable def condE (G : FuncId → Option AFn) (x y : ACode) (E : Env) (H : Heap) : AV → Option (AExit × St)
  | .d (.bool b) => if b = true then exL G x ⟨E, H⟩ else exL G y ⟨E, H⟩
  | _ => none
theorem x_cond' {c : Opd} {x y : ACode} : exL G (.cond c x y) ⟨E, H⟩ = condE G x y E H (c.ev E) := by
  rw [x_cond]
  unfold condF condE
  generalize c.ev E = v
  split <;> simp_all
theorem condE_b {b : Bool} {x y : ACode} : condE G x y E H (.d (.bool b)) = if b = true then exL G x ⟨E, H⟩ else exL G y ⟨E, H⟩ := rfl
theorem condE_t {x y : ACode} : condE G x y E H (.d (.bool true)) = exL G x ⟨E, H⟩ := rfl
theorem condE_f {x y : ACode} : condE G x y E H (.d (.bool false)) = exL G y ⟨E, H⟩ := rfl
theorem x_block {id : Nat} {x : ACode} : exL G (.block id x) ⟨E, H⟩ = (exL G x ⟨E, H⟩).map (blockF id) := exL_block
theorem x_loop {ks : List Nat} {x : ACode} : exL G (.loop ks x) ⟨E, H⟩ = loopL G ks x (norm ks ⟨E, H⟩) := rfl

theorem ghosts_nil {S : St} : ghosts [] S = some S := rfl
theorem ghosts_cons {g : Nat} {gs : List Nat} : ghosts (g :: gs) ⟨E, H⟩ = (ghost1 g ⟨E, H⟩).bind (ghosts gs) := rfl
theorem killS_ap {ks : List Nat} : killS ks ⟨E, H⟩ = (.normal, ⟨killEnv ks E, H⟩) := rfl
theorem norm_ap {ks : List Nat} : norm ks ⟨E, H⟩ = norm1 ⟨killEnv ks E, H⟩ := rfl
theorem norm1_ap : norm1 ⟨E, H⟩ = ⟨sortE (deX E), sortH (gc1 E (gc1 E H))⟩ := rfl
theorem seqF_n {g : St → Option (AExit × St)} {S : St} : seqF g (.normal, S) = g S := rfl
theorem seqF_e {g : St → Option (AExit × St)} {i : Nat} {S : St} : seqF g (.exit i, S) = some (.exit i, S) := rfl
theorem seqF_r {g : St → Option (AExit × St)} {S : St} : seqF g (.ret, S) = some (.ret, S) := rfl
theorem loopF_n {ks : List Nat} {g : St → Option (AExit × St)} {S : St} : loopF ks g (.normal, S) = g (norm ks S) := rfl
theorem loopF_e {ks : List Nat} {g : St → Option (AExit × St)} {i : Nat} {S : St} : loopF ks g (.exit i, S) = some (.exit i, S) := rfl
theorem loopF_r {ks : List Nat} {g : St → Option (AExit × St)} {S : St} : loopF ks g (.ret, S) = some (.ret, S) := rfl
theorem blockF_n {id : Nat} {S : St} : blockF id (.normal, S) = (.normal, S) := rfl
theorem blockF_e {id i : Nat} {S : St} : blockF id (.exit i, S) = if i = id then (.normal, S) else (.exit i, S) := rfl
theorem blockF_r {id : Nat} {S : St} : blockF id (.ret, S) = (.ret, S) := rfl
theorem condF_b {b : Bool} {x y : Option (AExit × St)} : condF (.d (.bool b)) x y = if b = true then x else y := rfl
theorem condF_t {x y : Option (AExit × St)} : condF (.d (.bool true)) x y = x := rfl
theorem condF_f {x y : Option (AExit × St)} : condF (.d (.bool false)) x y = y := rfl

/-- One slot's value told anew. -/
def reAt (t : Nat) (v : AV) : Env → Env
  | [] => []
  | (j, x) :: l => if j = t then (j, v) :: l else (j, x) :: reAt t v l
theorem reAt_eq {t : Nat} {v : AV} : ∀ {E : Env}, look t E = some v → reAt t v E = E := by
  intro E
  induction E with
  | nil => intro h; cases h
  | cons p l ih =>
    obtain ⟨j, x⟩ := p
    intro h
    simp only [look] at h
    simp only [reAt]
    split
    · rename_i e; rw [if_pos e] at h; cases h; rfl
    · rename_i e; rw [if_neg e] at h; rw [ih h]

/-- An operation behind a question: 'k' where the answer is known, else 'j' for either answer. -/
def guardE {α : Type} (v : Option AV) (k j : Bool → Option α) : Option α :=
  match v with
  | some (.d (.bool true)) => k true
  | some (.d (.bool false)) => k false
  | _ => none
theorem guardE_t {α : Type} {k j : Bool → Option α} : guardE (some (.d (.bool true))) k j = k true := rfl
theorem guardE_f {α : Type} {k j : Bool → Option α} : guardE (some (.d (.bool false))) k j = k false := rfl
def guardJ {α : Type} (c : Bool) (j : Bool → Option α) : Option α := if c = true then j true else j false
theorem o_nil : execOps F [] ⟨E, H⟩ = some ⟨E, H⟩ := rfl
theorem o_one {d : Option Nat} {op : AOp} {l : List AOper} : execOps F (⟨d, op, none⟩ :: l) ⟨E, H⟩ = (stepS F ⟨d, op, none⟩ ⟨E, H⟩).bind (execOps F l) := rfl
def gOps (F : Sem1) (d : Option Nat) (op : AOp) (b : Bool) (l : List AOper) (E : Env) (H : Heap) (c : Bool) : Option St := if c = b then (stepS F ⟨d, op, none⟩ ⟨E, H⟩).bind (execOps F l) else execOps F l (St.put ⟨E, H⟩ d (.d (.tup [])))
theorem gOps_t {d : Option Nat} {op : AOp} {l : List AOper} : gOps F d op true l E H true = (stepS F ⟨d, op, none⟩ ⟨E, H⟩).bind (execOps F l) := rfl
theorem gOps_f {d : Option Nat} {op : AOp} {l : List AOper} : gOps F d op false l E H false = (stepS F ⟨d, op, none⟩ ⟨E, H⟩).bind (execOps F l) := rfl
theorem gOps_n {d : Option Nat} {op : AOp} {l : List AOper} : gOps F d op true l E H false = execOps F l (St.put ⟨E, H⟩ d (.d (.tup []))) := rfl
theorem gOps_m {d : Option Nat} {op : AOp} {l : List AOper} : gOps F d op false l E H true = execOps F l (St.put ⟨E, H⟩ d (.d (.tup []))) := rfl
/-- What is known of slot 't' decides; where it is not known, both ways. -/
def gAsk (F : Sem1) (d : Option Nat) (op : AOp) (t : Nat) (b : Bool) (l : List AOper) (E : Env) (H : Heap) (v : Option AV) : Option St :=
  match v with
  | some (.d (.bool c)) => if c = true then gOps F d op b l (reAt t (.d (.bool true)) E) H true else gOps F d op b l (reAt t (.d (.bool false)) E) H false
  | some (.d (.tup [])) => execOps F l (St.put ⟨E, H⟩ d (.d (.tup [])))
  | _ => none
theorem gAsk_s {d : Option Nat} {op : AOp} {t : Nat} {b : Bool} {l : List AOper} : gAsk F d op t b l E H (some (.d (.tup []))) = execOps F l (St.put ⟨E, H⟩ d (.d (.tup []))) := rfl
theorem gAsk_b {d : Option Nat} {op : AOp} {t : Nat} {b c : Bool} {l : List AOper} : gAsk F d op t b l E H (some (.d (.bool c))) = if c = true then gOps F d op b l (reAt t (.d (.bool true)) E) H true else gOps F d op b l (reAt t (.d (.bool false)) E) H false := rfl
theorem o_guard {d : Option Nat} {op : AOp} {l : List AOper} {t : Nat} {b : Bool} : execOps F (⟨d, op, some (t, b)⟩ :: l) ⟨E, H⟩ = gAsk F d op t b l E H (look t E) := by
  simp only [execOps, gAsk]
  generalize hv : look t E = v
  split
  · rename_i c
    cases c with
    | true => simp only [reAt_eq hv, if_true]; rfl
    | false => simp only [reAt_eq hv, Bool.false_eq_true, if_false]; rfl
  · rfl
  · rename_i hno hno2
    split
    · exact absurd rfl (hno _)
    · exact absurd rfl hno2
    · rfl
theorem d_ap {l : List AOper} {fr : List (List Nat)} : drawF F l fr ⟨E, H⟩ = if (nodupK E && nodupK H && freshFor l ⟨E, H⟩) = true then execDraw F l fr [] ⟨E, H⟩ else none := rfl
theorem d_nil {fr : List (List Nat)} {acc : List (List Nat × List Nat)} : execDraw F [] fr acc ⟨E, H⟩ = some ⟨E, H⟩ := rfl
theorem d_one {d : Option Nat} {op : AOp} {l : List AOper} {f : List Nat} {fr : List (List Nat)} {acc : List (List Nat × List Nat)} : execDraw F (⟨d, op, none⟩ :: l) (f :: fr) acc ⟨E, H⟩ = (drawTake F ⟨d, op, none⟩ (f :: fr) acc ⟨E, H⟩).bind (execDraw F l fr (acc ++ [op.feet E H (d.getD 0)])) := rfl
def dOps (F : Sem1) (d : Option Nat) (op : AOp) (t : Nat) (b : Bool) (l : List AOper) (f : List Nat) (fr : List (List Nat)) (acc : List (List Nat × List Nat)) (E : Env) (H : Heap) (c : Bool) : Option St :=
  if c = b then (drawTake F ⟨d, op, none⟩ (f :: fr) acc ⟨E, H⟩).bind (execDraw F l fr (acc ++ [op.feet E H (d.getD 0)])) else (drawSkip ⟨d, op, some (t, b)⟩ (f :: fr) acc ⟨E, H⟩).bind (execDraw F l fr (acc ++ [([], [])]))
theorem dOps_t {d : Option Nat} {op : AOp} {t : Nat} {l : List AOper} {f : List Nat} {fr : List (List Nat)} {acc : List (List Nat × List Nat)} : dOps F d op t true l f fr acc E H true = (drawTake F ⟨d, op, none⟩ (f :: fr) acc ⟨E, H⟩).bind (execDraw F l fr (acc ++ [op.feet E H (d.getD 0)])) := rfl
theorem dOps_f {d : Option Nat} {op : AOp} {t : Nat} {l : List AOper} {f : List Nat} {fr : List (List Nat)} {acc : List (List Nat × List Nat)} : dOps F d op t false l f fr acc E H false = (drawTake F ⟨d, op, none⟩ (f :: fr) acc ⟨E, H⟩).bind (execDraw F l fr (acc ++ [op.feet E H (d.getD 0)])) := rfl
theorem dOps_n {d : Option Nat} {op : AOp} {t : Nat} {l : List AOper} {f : List Nat} {fr : List (List Nat)} {acc : List (List Nat × List Nat)} : dOps F d op t true l f fr acc E H false = (drawSkip ⟨d, op, some (t, true)⟩ (f :: fr) acc ⟨E, H⟩).bind (execDraw F l fr (acc ++ [([], [])])) := rfl
theorem dOps_m {d : Option Nat} {op : AOp} {t : Nat} {l : List AOper} {f : List Nat} {fr : List (List Nat)} {acc : List (List Nat × List Nat)} : dOps F d op t false l f fr acc E H true = (drawSkip ⟨d, op, some (t, false)⟩ (f :: fr) acc ⟨E, H⟩).bind (execDraw F l fr (acc ++ [([], [])])) := rfl
def dAsk (F : Sem1) (d : Option Nat) (op : AOp) (t : Nat) (b : Bool) (l : List AOper) (f : List Nat) (fr : List (List Nat)) (acc : List (List Nat × List Nat)) (E : Env) (H : Heap) (v : Option AV) : Option St :=
  match v with
  | some (.d (.bool c)) => if c = true then dOps F d op t b l f fr acc (reAt t (.d (.bool true)) E) H true else dOps F d op t b l f fr acc (reAt t (.d (.bool false)) E) H false
  | some (.d (.tup [])) => (drawSkip ⟨d, op, some (t, b)⟩ (f :: fr) acc ⟨E, H⟩).bind (execDraw F l fr (acc ++ [([], [])]))
  | _ => none
theorem dAsk_s {d : Option Nat} {op : AOp} {t : Nat} {b : Bool} {l : List AOper} {f : List Nat} {fr : List (List Nat)} {acc : List (List Nat × List Nat)} : dAsk F d op t b l f fr acc E H (some (.d (.tup []))) = (drawSkip ⟨d, op, some (t, b)⟩ (f :: fr) acc ⟨E, H⟩).bind (execDraw F l fr (acc ++ [([], [])])) := rfl
theorem dAsk_b {d : Option Nat} {op : AOp} {t : Nat} {b c : Bool} {l : List AOper} {f : List Nat} {fr : List (List Nat)} {acc : List (List Nat × List Nat)} : dAsk F d op t b l f fr acc E H (some (.d (.bool c))) =
    if c = true then dOps F d op t b l f fr acc (reAt t (.d (.bool true)) E) H true else dOps F d op t b l f fr acc (reAt t (.d (.bool false)) E) H false := rfl
theorem d_guard {d : Option Nat} {op : AOp} {l : List AOper} {f : List Nat} {fr : List (List Nat)} {acc : List (List Nat × List Nat)} {t : Nat} {b : Bool} : execDraw F (⟨d, op, some (t, b)⟩ :: l) (f :: fr) acc ⟨E, H⟩ = dAsk F d op t b l f fr acc E H (look t E) := by
  simp only [execDraw, dAsk]
  generalize hv : look t E = v
  split
  · rename_i c
    cases c with
    | true => simp only [reAt_eq hv, if_true]; rfl
    | false => simp only [reAt_eq hv, Bool.false_eq_true, if_false]; rfl
  · rfl
  · rename_i hno hno2
    split
    · exact absurd rfl (hno _)
    · exact absurd rfl hno2
    · rfl
theorem dt_ap {d : Option Nat} {op : AOp} {f : List Nat} {fr : List (List Nat)} {acc : List (List Nat × List Nat)} : drawTake F ⟨d, op, none⟩ (f :: fr) acc ⟨E, H⟩ = if clashless f acc (op.feet E H (d.getD 0)) = true then stepS F ⟨d, op, none⟩ ⟨E, H⟩ else none := rfl
theorem ds_ap {x : AOper} {f : List Nat} {fr : List (List Nat)} {acc : List (List Nat × List Nat)} : drawSkip x (f :: fr) acc ⟨E, H⟩ = if clashless f acc ([], []) = true then some (St.put ⟨E, H⟩ x.dst (.d (.tup []))) else none := rfl
theorem put_n {v : AV} : St.put ⟨E, H⟩ none v = ⟨E, H⟩ := rfl
theorem put_s {d : Nat} {v : AV} : St.put ⟨E, H⟩ (some d) v = ⟨setAt d v E, H⟩ := rfl

def putO (E : Env) (d : Option Nat) (r : Option (AV × Heap)) : Option St := r.map fun p => St.put ⟨E, p.2⟩ d p.1
theorem putO_n {v : AV} : putO E none (some (v, H)) = some ⟨E, H⟩ := rfl
theorem putO_s {d : Nat} {v : AV} : putO E (some d) (some (v, H)) = some ⟨setAt d v E, H⟩ := rfl
theorem s_ap {d : Option Nat} {op : AOp} {g : Option (Nat × Bool)} : stepS F ⟨d, op, g⟩ ⟨E, H⟩ = putO E d (step F E H (d.getD 0) op) := rfl

variable {dst : Nat}
theorem s_call {f : FuncId} {ms : List Bool} {xs : List Opd} : step F E H dst (.call f ms xs) = callS H (callA F E H dst ms f (xs.map (·.ev E))) := rfl
theorem s_callv {f : Opd} {ms : List Bool} {xs : List Opd} : step F E H dst (.callv f ms xs) = callS H (callvA F E H dst ms (f.ev E) (xs.map (·.ev E))) := rfl
theorem s_nileq {ng : Bool} {x : Opd} : step F E H dst (.nileq ng x) = nileqA H ng (x.ev E) := rfl
theorem callvA_d {g : FuncId} {cs : List D} {ms : List Bool} {args : List AV} : callvA F E H dst ms (.d (.fn g cs)) args = callA F E H dst ms g (args ++ cs.map .d) := rfl
theorem callvA_a {g : FuncId} {cs : List AV} {ms : List Bool} {args : List AV} : callvA F E H dst ms (.fn g cs) args = callA F E H dst ms g (args ++ cs) := rfl
theorem callS_s {v : AV} {δ : Heap} : callS H (some (v, δ)) = some (v, putsH δ H) := rfl

theorem callA_eq {ms : List Bool} {f : FuncId} {args : List AV} : callA F E H dst ms f args = if frzF ms args.length = true then (callArgs H ms args).bind (frzB F E H dst ms f (dataObjs ms args)) else callA0 F E H dst ms f args := rfl
theorem callA0_eq {ms : List Bool} {f : FuncId} {args : List AV} : callA0 F E H dst ms f args = (callArgs H ms args).bind (callB F E H dst (namesOf H ms args) (dataObjs ms args) f) := rfl
theorem frzB_ap {ms : List Bool} {f : FuncId} {dob : List Nat} {as : List AV} : frzB F E H dst ms f dob as = if frzOk H dob = true then (callA0 F E (putsH (frzL H dob) H) dst ms f as).map fun p => (p.1, p.2 ++ frzL H dob) else none := rfl
/-! Calls on data alone -/
theorem dataObjs_d (ds : List D) : dataObjs [] (ds.map .d) = [] := by
  induction ds with
  | nil => rfl
  | cons d ds ih => simp only [List.map_cons, dataObjs, ih, AV.objs, List.append_nil]
theorem callA_data {f : FuncId} {ds : List D} : callA F E H dst [] f (ds.map .d) = (F f (ds.map .d) []).bind (callC E H dst [] []) := by
  have h1 : callArgs H [] (ds.map .d) = some (ds.map .d) := by
    induction ds with
    | nil => rfl
    | cons d ds ih => simp only [List.map_cons, callArgs, ih, toD, Option.bind_some, Option.map_some]
  have h2 : keptObjs [] (ds.map .d) = [] := by cases ds <;> rfl
  have h3 := dataObjs_d ds
  have h4 : (ds.map AV.d).map (AV.ren (toCallee [])) = ds.map .d := by
    rw [List.map_map]; exact List.map_congr_left fun _ _ => rfl
  unfold callA
  rw [if_neg (by simp [frzF])]
  unfold callA0
  rw [h1, h3]
  simp only [Option.bind_some, namesOf, h2, addNew, reach, List.flatMap_nil, callB, okNames, List.all_nil, disjL, Bool.and_self, if_true, h4, osOf, List.map_nil]

theorem callC_d {r : D} : callC E H dst [] [] (.d r, []) = some (.d r, []) := by simp [callC, freshOK, AV.ren, renH]
theorem ca0 {f : FuncId} : callA F E H dst [] f [] = (F f [] []).bind (callC E H dst [] []) := callA_data (ds := [])
theorem ca1 {f : FuncId} {a : D} : callA F E H dst [] f [.d a] = (F f [.d a] []).bind (callC E H dst [] []) := callA_data (ds := [a])
theorem ca2 {f : FuncId} {a b : D} : callA F E H dst [] f [.d a, .d b] = (F f [.d a, .d b] []).bind (callC E H dst [] []) := callA_data (ds := [a, b])
theorem ca3 {f : FuncId} {a b c : D} : callA F E H dst [] f [.d a, .d b, .d c] = (F f [.d a, .d b, .d c] []).bind (callC E H dst [] []) := callA_data (ds := [a, b, c])
theorem ca4 {f : FuncId} {a b c d : D} : callA F E H dst [] f [.d a, .d b, .d c, .d d] = (F f [.d a, .d b, .d c, .d d] []).bind (callC E H dst [] []) := callA_data (ds := [a, b, c, d])
theorem ca5 {f : FuncId} {a b c d e : D} : callA F E H dst [] f [.d a, .d b, .d c, .d d, .d e] = (F f [.d a, .d b, .d c, .d d, .d e] []).bind (callC E H dst [] []) := callA_data (ds := [a, b, c, d, e])

theorem cv1 {f : FuncId} {a : D} {cs : List D} : callA F E H dst [] f (.d a :: cs.map .d) = (F f (.d a :: cs.map .d) []).bind (callC E H dst [] []) := callA_data (ds := a :: cs)
theorem cv2 {f : FuncId} {a b : D} {cs : List D} : callA F E H dst [] f (.d a :: .d b :: cs.map .d) = (F f (.d a :: .d b :: cs.map .d) []).bind (callC E H dst [] []) := callA_data (ds := a :: b :: cs)

/-- Both ways of a question meet again. -/
theorem merge_b {c : Prop} [Decidable c] {e : AExit} {t : Nat} {x y : Bool} : (if c then some (e, (⟨(t, .d (.bool x)) :: E, H⟩ : St)) else some (e, ⟨(t, .d (.bool y)) :: E, H⟩)) = some (e, ⟨(t, .d (.bool (if c then x else y))) :: E, H⟩) := by split <;> rfl
theorem ite_and {c x : Bool} : (if c = true then x else false) = (c && x) := by cases c <;> rfl
theorem ite_or {c x : Bool} : (if c = true then true else x) = (c || x) := by cases c <;> rfl
/-- What is asked of both ways of a question. -/
theorem bind_ite {α β : Type} {c : Prop} [Decidable c] {x y : Option α} {k : α → Option β} : (if c then x else y).bind k = if c then x.bind k else y.bind k := by split <;> rfl
theorem map_ite {α β : Type} {c : Prop} [Decidable c] {x y : Option α} {k : α → β} : (if c then x else y).map k = if c then x.map k else y.map k := by split <;> rfl

theorem finish_n {sl : Bool} {rs : List ARes} {os : Heap} {S : St} : finish sl rs os (.normal, S) = (resA S rs).bind (finishV sl os S) := rfl
theorem finish_r {sl : Bool} {rs : List ARes} {os : Heap} {S : St} : finish sl rs os (.ret, S) = (resA S rs).bind (finishV sl os S) := rfl
theorem finishV_t {os : Heap} {S : St} {v : AV} : finishV true os S v = (toD S.heap v).bind (sealV os S v) := rfl
theorem finishV_f {os : Heap} {S : St} {v : AV} : finishV false os S v = finishN os S v (outNames S.heap os v) := rfl
theorem sealV_n {S : St} {v : AV} {d : D} : sealV [] S v d = some (.d d, []) := by
  have : disjL v.objs [] = true := by simp [disjL]
  simp [sealV, finishN, outNames, AV.objs, addNew, reach, okOut, okGhost, outH, AV.ren, frs, this]
theorem s_mv {x : Opd} : step F E H dst (.mv x) = astep E H dst (.mv x) := rfl
theorem f_mv {x : Opd} : AOp.feet E H dst (.mv x) = (toks (AOp.foot E dst (.mv x)), toks (AOp.wr E dst (.mv x))) := rfl
theorem s_pick {c a b : Opd} : step F E H dst (.pick c a b) = astep E H dst (.pick c a b) := rfl
theorem f_pick {c a b : Opd} : AOp.feet E H dst (.pick c a b) = (toks (AOp.foot E dst (.pick c a b)), toks (AOp.wr E dst (.pick c a b))) := rfl
theorem s_alloc {z : AV} : step F E H dst (.alloc z) = astep E H dst (.alloc z) := rfl
theorem f_alloc {z : AV} : AOp.feet E H dst (.alloc z) = (toks (AOp.foot E dst (.alloc z)), toks (AOp.wr E dst (.alloc z))) := rfl
theorem s_box {x : Opd} : step F E H dst (.box x) = astep E H dst (.box x) := rfl
theorem f_box {x : Opd} : AOp.feet E H dst (.box x) = (toks (AOp.foot E dst (.box x)), toks (AOp.wr E dst (.box x))) := rfl
theorem s_build {z : List AV} {ps : List (Nat × Nat × Opd)} : step F E H dst (.build z ps) = astep E H dst (.build z ps) := rfl
theorem f_build {z : List AV} {ps : List (Nat × Nat × Opd)} : AOp.feet E H dst (.build z ps) = (toks (AOp.foot E dst (.build z ps)), toks (AOp.wr E dst (.build z ps))) := rfl
theorem s_bsl {len n : Nat} {z : AV} {ps : List (Nat × Opd)} : step F E H dst (.bsl len n z ps) = astep E H dst (.bsl len n z ps) := rfl
theorem f_bsl {len n : Nat} {z : AV} {ps : List (Nat × Opd)} : AOp.feet E H dst (.bsl len n z ps) = (toks (AOp.foot E dst (.bsl len n z ps)), toks (AOp.wr E dst (.bsl len n z ps))) := rfl
theorem s_ld {ag : Bool} {n : Nat} {p : Opd} : step F E H dst (.ld ag n p) = astep E H dst (.ld ag n p) := rfl
theorem f_ld {ag : Bool} {n : Nat} {p : Opd} : AOp.feet E H dst (.ld ag n p) = (toks (AOp.foot E dst (.ld ag n p)), toks (AOp.wr E dst (.ld ag n p))) := rfl
theorem f_clr {n : Nat} {x : Opd} : AOp.feet E H dst (.clr n x) = (toks (AOp.foot E dst (.clr n x)), toks (AOp.wr E dst (.clr n x))) := rfl
theorem s_st {n : Nat} {p x : Opd} : step F E H dst (.st n p x) = astep E H dst (.st n p x) := rfl
theorem f_st {n : Nat} {p x : Opd} : AOp.feet E H dst (.st n p x) = (toks (AOp.foot E dst (.st n p x)), evens (AOp.wr E dst (.st n p x))) := rfl
theorem s_nilc {x : Opd} : step F E H dst (.nilc x) = astep E H dst (.nilc x) := rfl
theorem f_nilc {x : Opd} : AOp.feet E H dst (.nilc x) = (toks (AOp.foot E dst (.nilc x)), toks (AOp.wr E dst (.nilc x))) := rfl
theorem s_bin {op : BinOp} {x y : Opd} : step F E H dst (.bin op x y) = astep E H dst (.bin op x y) := rfl
theorem f_bin {op : BinOp} {x y : Opd} : AOp.feet E H dst (.bin op x y) = (toks (AOp.foot E dst (.bin op x y)), toks (AOp.wr E dst (.bin op x y))) := rfl
theorem s_eqb {ng : Bool} {x y : Opd} : step F E H dst (.eqb ng x y) = astep E H dst (.eqb ng x y) := rfl
theorem f_eqb {ng : Bool} {x y : Opd} : AOp.feet E H dst (.eqb ng x y) = (toks (AOp.foot E dst (.eqb ng x y)), toks (AOp.wr E dst (.eqb ng x y))) := rfl
theorem s_eqs {ng : Bool} {n : Nat} {ls : List (Nat × Nat)} {x y : Opd} : step F E H dst (.eqs ng n ls x y) = astep E H dst (.eqs ng n ls x y) := rfl
theorem f_eqs {ng : Bool} {n : Nat} {ls : List (Nat × Nat)} {x y : Opd} : AOp.feet E H dst (.eqs ng n ls x y) = (toks (AOp.foot E dst (.eqs ng n ls x y)), toks (AOp.wr E dst (.eqs ng n ls x y))) := rfl
theorem s_nacc  : step F E H dst (.nacc) = astep E H dst (.nacc) := rfl
theorem f_nacc  : AOp.feet E H dst (.nacc) = (toks (AOp.foot E dst (.nacc)), toks (AOp.wr E dst (.nacc))) := rfl
theorem s_un {op : UnOp} {x : Opd} : step F E H dst (.un op x) = astep E H dst (.un op x) := rfl
theorem f_un {op : UnOp} {x : Opd} : AOp.feet E H dst (.un op x) = (toks (AOp.foot E dst (.un op x)), toks (AOp.wr E dst (.un op x))) := rfl
theorem s_cvi {k : IntKind} {x : Opd} : step F E H dst (.cvi k x) = astep E H dst (.cvi k x) := rfl
theorem f_cvi {k : IntKind} {x : Opd} : AOp.feet E H dst (.cvi k x) = (toks (AOp.foot E dst (.cvi k x)), toks (AOp.wr E dst (.cvi k x))) := rfl
theorem s_s2b {x : Opd} : step F E H dst (.s2b x) = astep E H dst (.s2b x) := rfl
theorem f_s2b {x : Opd} : AOp.feet E H dst (.s2b x) = (toks (AOp.foot E dst (.s2b x)), toks (AOp.wr E dst (.s2b x))) := rfl
theorem s_b2s {x : Opd} : step F E H dst (.b2s x) = astep E H dst (.b2s x) := rfl
theorem f_b2s {x : Opd} : AOp.feet E H dst (.b2s x) = (toks (AOp.foot E dst (.b2s x)), toks (AOp.wr E dst (.b2s x))) := rfl
theorem s_mkfn {f : FuncId} {cs : List Opd} : step F E H dst (.mkfn f cs) = astep E H dst (.mkfn f cs) := rfl
theorem f_mkfn {f : FuncId} {cs : List Opd} : AOp.feet E H dst (.mkfn f cs) = (toks (AOp.foot E dst (.mkfn f cs)), toks (AOp.wr E dst (.mkfn f cs))) := rfl
theorem s_fad {ag : Bool} {off n : Nat} {x : Opd} : step F E H dst (.fad ag off n x) = astep E H dst (.fad ag off n x) := rfl
theorem f_fad {ag : Bool} {off n : Nat} {x : Opd} : AOp.feet E H dst (.fad ag off n x) = (toks (AOp.foot E dst (.fad ag off n x)), toks (AOp.wr E dst (.fad ag off n x))) := rfl
theorem s_fld {ag : Bool} {off n : Nat} {x : Opd} : step F E H dst (.fld ag off n x) = astep E H dst (.fld ag off n x) := rfl
theorem f_fld {ag : Bool} {off n : Nat} {x : Opd} : AOp.feet E H dst (.fld ag off n x) = (toks (AOp.foot E dst (.fld ag off n x)), toks (AOp.wr E dst (.fld ag off n x))) := rfl
theorem s_iad {n : Nat} {x i : Opd} : step F E H dst (.iad n x i) = astep E H dst (.iad n x i) := rfl
theorem f_iad {n : Nat} {x i : Opd} : AOp.feet E H dst (.iad n x i) = (odds (AOp.foot E dst (.iad n x i)), []) := rfl
theorem s_iada {ag : Bool} {len n : Nat} {x i : Opd} : step F E H dst (.iada ag len n x i) = astep E H dst (.iada ag len n x i) := rfl
theorem f_iada {ag : Bool} {len n : Nat} {x i : Opd} : AOp.feet E H dst (.iada ag len n x i) = (toks (AOp.foot E dst (.iada ag len n x i)), toks (AOp.wr E dst (.iada ag len n x i))) := rfl
theorem s_idx {x i : Opd} : step F E H dst (.idx x i) = astep E H dst (.idx x i) := rfl
theorem f_idx {x i : Opd} : AOp.feet E H dst (.idx x i) = (toks (AOp.foot E dst (.idx x i)), toks (AOp.wr E dst (.idx x i))) := rfl
theorem f_idxa {ag : Bool} {len n : Nat} {x i : Opd} : AOp.feet E H dst (.idxa ag len n x i) = (toks (AOp.foot E dst (.idxa ag len n x i)), toks (AOp.wr E dst (.idxa ag len n x i))) := rfl
theorem s_slc {n : Nat} {x : Opd} {lo hi mx : Option Opd} : step F E H dst (.slc n x lo hi mx) = astep E H dst (.slc n x lo hi mx) := rfl
theorem f_slc {n : Nat} {x : Opd} {lo hi mx : Option Opd} : AOp.feet E H dst (.slc n x lo hi mx) = (toks (AOp.foot E dst (.slc n x lo hi mx)), toks (AOp.wr E dst (.slc n x lo hi mx))) := rfl
theorem s_sls {x : Opd} {lo hi : Option Opd} : step F E H dst (.sls x lo hi) = astep E H dst (.sls x lo hi) := rfl
theorem f_sls {x : Opd} {lo hi : Option Opd} : AOp.feet E H dst (.sls x lo hi) = (toks (AOp.foot E dst (.sls x lo hi)), toks (AOp.wr E dst (.sls x lo hi))) := rfl
theorem s_ext {x : Opd} {i : Nat} : step F E H dst (.ext x i) = astep E H dst (.ext x i) := rfl
theorem f_ext {x : Opd} {i : Nat} : AOp.feet E H dst (.ext x i) = (toks (AOp.foot E dst (.ext x i)), toks (AOp.wr E dst (.ext x i))) := rfl
theorem s_len {x : Opd} : step F E H dst (.len x) = astep E H dst (.len x) := rfl
theorem f_len {x : Opd} : AOp.feet E H dst (.len x) = (toks (AOp.foot E dst (.len x)), toks (AOp.wr E dst (.len x))) := rfl
theorem s_lens {x : Opd} : step F E H dst (.lens x) = astep E H dst (.lens x) := rfl
theorem f_lens {x : Opd} : AOp.feet E H dst (.lens x) = (toks (AOp.foot E dst (.lens x)), toks (AOp.wr E dst (.lens x))) := rfl
theorem s_app {n : Nat} {x y : Opd} : step F E H dst (.app n x y) = astep E H dst (.app n x y) := rfl
theorem f_app {n : Nat} {x y : Opd} : AOp.feet E H dst (.app n x y) = (toks (AOp.foot E dst (.app n x y)), toks (AOp.wr E dst (.app n x y))) := rfl
theorem s_apps {x y : Opd} : step F E H dst (.apps x y) = astep E H dst (.apps x y) := rfl
theorem f_apps {x y : Opd} : AOp.feet E H dst (.apps x y) = (toks (AOp.foot E dst (.apps x y)), toks (AOp.wr E dst (.apps x y))) := rfl
theorem s_mm {mx : Bool} {xs : List Opd} : step F E H dst (.mm mx xs) = astep E H dst (.mm mx xs) := rfl
theorem f_mm {mx : Bool} {xs : List Opd} : AOp.feet E H dst (.mm mx xs) = (toks (AOp.foot E dst (.mm mx xs)), toks (AOp.wr E dst (.mm mx xs))) := rfl
theorem s_mks {n : Nat} {z : AV} {l c : Opd} : step F E H dst (.mks n z l c) = astep E H dst (.mks n z l c) := rfl
theorem f_mks {n : Nat} {z : AV} {l c : Opd} : AOp.feet E H dst (.mks n z l c) = (toks (AOp.foot E dst (.mks n z l c)), toks (AOp.wr E dst (.mks n z l c))) := rfl
theorem f_call {f : FuncId} {ms : List Bool} {xs : List Opd} : AOp.feet E H dst (.call f ms xs) = callFeetT H dst ms (xs.map (·.ev E)) := rfl
theorem f_callv {f : Opd} {ms : List Bool} {xs : List Opd} : AOp.feet E H dst (.callv f ms xs) = callvFeet H dst ms (f.ev E) (xs.map (·.ev E)) := rfl
theorem f_nileq {ng : Bool} {x : Opd} : AOp.feet E H dst (.nileq ng x) = (toks (AOp.foot E dst (.nileq ng x)), toks (AOp.wr E dst (.nileq ng x))) := rfl

/-! ### Sizes and cells -/
theorem size_int {k : IntKind} {n : Int} : D.size (.int k n) = 1 := rfl
theorem cells_int {k : IntKind} {n : Int} : D.cells (.int k n) = [(.int k n)] := rfl
theorem asAgg_int {k : IntKind} {n : Int} : D.asAgg (.int k n) = .agg [(.int k n)] := rfl
theorem size_bool {b : Bool} : D.size (.bool b) = 1 := rfl
theorem cells_bool {b : Bool} : D.cells (.bool b) = [(.bool b)] := rfl
theorem asAgg_bool {b : Bool} : D.asAgg (.bool b) = .agg [(.bool b)] := rfl
theorem size_str {s : List UInt8} : D.size (.str s) = 1 := rfl
theorem cells_str {s : List UInt8} : D.cells (.str s) = [(.str s)] := rfl
theorem asAgg_str {s : List UInt8} : D.asAgg (.str s) = .agg [(.str s)] := rfl
theorem size_sl {es : List D} : D.size (.sl es) = 1 := rfl
theorem cells_sl {es : List D} : D.cells (.sl es) = [(.sl es)] := rfl
theorem asAgg_sl {es : List D} : D.asAgg (.sl es) = .agg [(.sl es)] := rfl
theorem size_pd {x : D} : D.size (.pd x) = 1 := rfl
theorem cells_pd {x : D} : D.cells (.pd x) = [(.pd x)] := rfl
theorem asAgg_pd {x : D} : D.asAgg (.pd x) = .agg [(.pd x)] := rfl
theorem size_fn {f : FuncId} {cs : List D} : D.size (.fn f cs) = 1 := rfl
theorem cells_fn {f : FuncId} {cs : List D} : D.cells (.fn f cs) = [(.fn f cs)] := rfl
theorem asAgg_fn {f : FuncId} {cs : List D} : D.asAgg (.fn f cs) = .agg [(.fn f cs)] := rfl
theorem size_agg {cs : List D} : D.size (.agg cs) = cs.length := rfl
theorem cells_agg {cs : List D} : D.cells (.agg cs) = cs := rfl
theorem asAgg_agg {cs : List D} : D.asAgg (.agg cs) = .agg cs := rfl
theorem asize_d {x : D} : AV.size (.d x) = x.size := rfl
theorem acells_d {x : D} : AV.cells (.d x) = x.cells.map .d := rfl
theorem asize_ref {o i off : Nat} : AV.size (.ref o i off) = 1 := rfl
theorem acells_ref {o i off : Nat} : AV.cells (.ref o i off) = [(.ref o i off)] := rfl
theorem asize_osl {o off len : Nat} : AV.size (.osl o off len) = 1 := rfl
theorem acells_osl {o off len : Nat} : AV.cells (.osl o off len) = [(.osl o off len)] := rfl
theorem asize_acc {o : Nat} {es : List D} : AV.size (.acc o es) = 1 := rfl
theorem acells_acc {o : Nat} {es : List D} : AV.cells (.acc o es) = [(.acc o es)] := rfl
theorem asize_pe {o : Nat} {x : D} : AV.size (.pe o x) = 1 := rfl
theorem acells_pe {o : Nat} {x : D} : AV.cells (.pe o x) = [(.pe o x)] := rfl
theorem asize_xsl {es : List D} : AV.size (.xsl es) = 1 := rfl
theorem acells_xsl {es : List D} : AV.cells (.xsl es) = [(.xsl es)] := rfl
theorem asize_fn {f : FuncId} {cs : List AV} : AV.size (.fn f cs) = 1 := rfl
theorem acells_fn {f : FuncId} {cs : List AV} : AV.cells (.fn f cs) = [(.fn f cs)] := rfl
theorem asize_agg {cs : List AV} : AV.size (.agg cs) = cs.length := rfl
theorem acells_agg {cs : List AV} : AV.cells (.agg cs) = cs := rfl


/-! ### Numbers -/
section
variable {k : IntKind} {a b : Int}
def andI (k : IntKind) (a b : Int) : Int := k.wrap (BitVec.ofInt k.bits a &&& BitVec.ofInt k.bits b).toNat
def orI (k : IntKind) (a b : Int) : Int := k.wrap (BitVec.ofInt k.bits a ||| BitVec.ofInt k.bits b).toNat
def xorI (k : IntKind) (a b : Int) : Int := k.wrap (BitVec.ofInt k.bits a ^^^ BitVec.ofInt k.bits b).toNat
def andNotI (k : IntKind) (a b : Int) : Int := k.wrap (BitVec.ofInt k.bits a &&& ~~~BitVec.ofInt k.bits b).toNat
theorem ib_add : intBin .add k a b = some (.int k (k.wrap (a + b))) := rfl
theorem ib_sub : intBin .sub k a b = some (.int k (k.wrap (a - b))) := rfl
theorem ib_mul : intBin .mul k a b = some (.int k (k.wrap (a * b))) := rfl
theorem ib_quo : intBin .quo k a b = if b = 0 then none else some (.int k (k.wrap (a.tdiv b))) := rfl
theorem ib_rem : intBin .rem k a b = if b = 0 then none else some (.int k (a.tmod b)) := rfl
theorem ib_eql : intBin .eql k a b = some (.bool (decide (a = b))) := rfl
theorem ib_neq : intBin .neq k a b = some (.bool (!decide (a = b))) := rfl
theorem ib_lss : intBin .lss k a b = some (.bool (decide (a < b))) := rfl
theorem ib_leq : intBin .leq k a b = some (.bool (decide (a ≤ b))) := rfl
theorem ib_gtr : intBin .gtr k a b = some (.bool (decide (b < a))) := rfl
theorem ib_geq : intBin .geq k a b = some (.bool (decide (b ≤ a))) := rfl
theorem ib_and : intBin .and k a b = some (.int k (andI k a b)) := rfl
theorem ib_or : intBin .or k a b = some (.int k (orI k a b)) := rfl
theorem ib_xor : intBin .xor k a b = some (.int k (xorI k a b)) := rfl
theorem ib_andNot : intBin .andNot k a b = some (.int k (andNotI k a b)) := rfl
end
theorem eqsV_agg {ng : Bool} {n : Nat} {ls : List (Nat × Nat)} {a b : List D} : eqsV H ng n ls (.d (.agg a)) (.d (.agg b)) = if a.length = n ∧ b.length = n then retB H ng (eqCells a b ls) else none := rfl
attribute [go_sem] x_skip x_exit x_ret x_ops x_draw x_seq x_cond' condE_b condE_t condE_f x_block x_loop ghosts_nil ghosts_cons killS_ap norm_ap norm1_ap deX deX1 endS_ap gcS_ap keepE seqF_n seqF_e seqF_r loopF_n loopF_e loopF_r blockF_n blockF_e blockF_r condF_b condF_t condF_f gOps_t gOps_f gOps_n gOps_m gAsk_b gAsk_s dAsk_s dOps_t dOps_f dOps_n dOps_m dAsk_b reAt merge_b ite_and ite_or bind_ite map_ite o_nil o_one o_guard d_ap d_nil d_one d_guard dt_ap ds_ap put_n put_s putO_n putO_s s_ap s_nileq callvA_d callvA_a callS_s callC_d finish_n finish_r finishV_t finishV_f sealV_n f_nileq s_mv s_pick s_alloc s_box s_nilc s_eqb s_nacc s_un s_cvi s_lens s_mks f_mv f_pick f_alloc f_box f_build f_bsl f_ld f_st f_clr f_nilc f_bin f_eqb f_eqs f_nacc f_un f_cvi f_s2b f_b2s f_mkfn f_fad f_fld f_iad f_iada f_idx f_idxa fldW idxaI s_idxa' f_slc f_sls f_ext f_len f_lens f_app f_apps f_mm f_mks size_int cells_int asAgg_int size_bool cells_bool asAgg_bool size_str cells_str asAgg_str size_sl cells_sl asAgg_sl size_pd cells_pd asAgg_pd size_fn cells_fn asAgg_fn size_agg cells_agg asAgg_agg asize_d acells_d asize_ref acells_ref asize_osl acells_osl asize_acc acells_acc asize_pe acells_pe asize_xsl acells_xsl asize_fn acells_fn asize_agg acells_agg List.map_append astep Opd.ev List.map_cons List.map_nil Go.Sim.look setAt without Option.getD_some Option.getD_none binD ib_add ib_sub ib_mul ib_quo ib_rem ib_eql ib_neq ib_lss ib_leq ib_gtr ib_geq ib_and ib_or ib_xor ib_andNot shiftBin strBin Option.map_some Option.map_none Option.bind_some Option.bind_none killEnv List.contains_cons List.contains_nil Bool.or_true Bool.true_or Bool.or_false Bool.false_or Bool.or_self Bool.false_eq_true Bool.true_eq_false Nat.zero_add Nat.add_zero beq_self_eq_true refsEnv refsHeap AV.refs AV.refsL Obj.refs Bool.and_true Bool.true_and Bool.and_false Bool.false_and Bool.and_self and_self and_true true_and partD partA List.getElem?_cons_zero List.getElem?_cons_succ List.getElem?_nil List.length_cons List.length_nil List.drop_zero List.drop_succ_cons List.take_succ_cons List.take_zero over splice AV.mkAgg AV.mkTup AV.mkFn allD res_one res_nil res_two resL consP consP.consQ tupO res_c res_t resO toD toD.toDs idxOf slD ne_eq not_true_eq_false not_false_eq_true Nat.succ_ne_self Bool.not_true Bool.not_false eq_self_iff_true nodupK AOp.foot AOp.wr AOp.looks AOp.news AOp.opds objsOf AV.objs AV.objsL List.all_cons List.all_nil List.any_cons List.any_nil List.headD_cons List.headD_nil List.tail_cons List.tail_nil List.nil_append List.cons_append List.append_nil fillE unX fillA List.set_cons_zero List.set_cons_succ Nat.lt_add_one Nat.zero_lt_one Nat.one_lt_two Nat.zero_lt_succ indep AOper.newNames fr4 callFeet callFeet0 callFeetT callvFeet toks callArgs dataObjs keptObjs namesOf reach addNew rowObjs toCallee pos AV.ren AV.renL Obj.ren callB callC AV.flat AV.flatL Obj.flat D.flat D.flatL putsH mmD bytesD finishN sealV outNames outName frs ghost1 toRow toRow1 toRow2 nilEnv nilV toAcc toAcc1 toAcc2 nilOEnv nilO toNm toNm1 renEnv rnm Option.isNone_some Option.isNone_none findAcc rowV accV sortE insE sortH gc1 gc nileqA eqCells eqCell List.flatMap_nil List.flatMap_cons List.filter_nil List.filter_cons List.getD_cons_zero List.getD_cons_succ decide_true decide_false if_true if_false List.isEmpty_nil List.isEmpty_cons okNames_eq okN okN1 subB osOf_eq osN freshOK_nil freshOK_cons flatRes_eq flatH disjL_nil disjL_cons renH_nil renH_cons odds_nil odds_cons evens_nil evens_cons disjN_nil disjN_cons clash1 clashless_nil clashless_cons freshNs freshFor_nil freshFor_cons rowEnv_nil rowEnv_cons accEnv_nil accEnv_cons enterN enter_eq ghostE_nil ghostE_cons okO1 okO okOut_eq okG1 okG okGhost_eq outN outH_eq evs evO evB evF szF retA retA_ite retD retD_ite retB dO pdO peO ldE ldO ldV s_ld' fadV s_fad' szR szP szD iadO iadV iadI s_iad' iadaI s_iada' stF stE stO stV s_st' s_clr' clrV clrO fldV s_fld' binV s_bin' eqsV_agg s_eqs' idxB idxV s_idx' bdI bd slM xslM accM slL slH xslL xslH accL accH oslO oslL oslH oslM slcV s_slc' slsL slsH slsV s_sls' extV s_ext' lenO lenV s_len' mmV s_mm' s_mkfn' buildV s_build' bslD bslE s_bsl' b2sB b2sV s_b2s' s2bV s_s2b'' srcO srcO.srcL srcV appO appV appY s_app' appsV s_apps' s_call' s_callv' f_call' f_callv'
theorem allSize_nil {n : Nat} : allSize n [] = true := rfl
theorem allSize_cons {n : Nat} {e : D} {es : List D} : allSize n (e :: es) = (e.size == n && allSize n es) := rfl
theorem allSize_append {n : Nat} {es fs : List D} : allSize n (es ++ fs) = (allSize n es && allSize n fs) := by simp [allSize]
theorem allD_d {ds : List D} : allD (ds.map .d) = some ds := allD_map ds
theorem tc_0 {ns : List Nat} : toCaller ns dst 0 = dst := by simp [toCaller]
theorem tc_1 {ns : List Nat} : toCaller ns dst 1 = dst + 10000 := by simp [toCaller]
theorem tc_2 {ns : List Nat} : toCaller ns dst 2 = dst + 20000 := by simp [toCaller]
theorem tc_3 {ns : List Nat} : toCaller ns dst 3 = dst + 30000 := by simp [toCaller]
theorem tc_at {ns : List Nat} {n : Nat} (h : ¬ n < 1000000) : toCaller ns dst n = ns.getD (n - 1000000) 0 := by unfold toCaller; rw [if_neg h]
theorem tc_a0 {ns : List Nat} {a : Nat} : toCaller (a :: ns) dst 1000000 = a := by rw [tc_at (by omega)]; rfl
theorem tc_a1 {ns : List Nat} {a b : Nat} : toCaller (a :: b :: ns) dst 1000001 = b := by rw [tc_at (by omega)]; rfl
theorem tc_a2 {ns : List Nat} {a b c : Nat} : toCaller (a :: b :: c :: ns) dst 1000002 = c := by rw [tc_at (by omega)]; rfl
theorem tc_a3 {ns : List Nat} {a b c d : Nat} : toCaller (a :: b :: c :: d :: ns) dst 1000003 = d := by rw [tc_at (by omega)]; rfl
attribute [go_sem] tc_0 tc_1 tc_2 tc_3 tc_a0 tc_a1 tc_a2 tc_a3
theorem okEs_d {o m : Nat} : ∀ {ds : List D}, okEs o m (ds.map .d) = true
  | [] => rfl
  | d :: ds => by rw [List.map_cons]; simp only [okEs, okEs_d]; rfl
theorem rowEs_d {o m : Nat} : ∀ {ds : List D}, rowEs o m (ds.map .d) = ds.map .d
  | [] => rfl
  | d :: ds => by rw [List.map_cons]; simp only [rowEs, rowEs_d]; rfl
theorem findAccE_d {o m : Nat} : ∀ {ds : List D}, findAccE o m (ds.map .d) = none
  | [] => rfl
  | d :: ds => by rw [List.map_cons]; simp only [findAccE, findAccE_d, findAccC]; rfl
attribute [go_sem] okEs_d rowEs_d findAccE_d okC rowC okCs rowCs okE rowE okEs rowEs okHp rowHp findAccC orE findAccE findAccH findAcc2 toRow3
attribute [go_sem] refsL_d objsL_d allSize_nil allSize_cons allSize_append allD_d
attribute [go_sem high] ca0 ca1 ca2 ca3 ca4 ca5 cv1 cv2
attribute [go_sem low] callA_eq callA0_eq
attribute [go_sem] frzB_ap frzF frzL_nil frzL_cons frzOk_nil frzOk_cons mark List.drop_nil Option.isSome_some Option.isSome_none
def D.isT : D → Bool
  | .tup _ => true
  | _ => false
theorem isTup_d {x : D} : isTup (.d x) = x.isT := by cases x <;> rfl
theorem isT_int {k : IntKind} {n : Int} : D.isT (.int k n) = false := rfl
theorem isT_bool {b : Bool} : D.isT (.bool b) = false := rfl
theorem isT_str {s : List UInt8} : D.isT (.str s) = false := rfl
theorem isT_agg {cs : List D} : D.isT (.agg cs) = false := rfl
theorem isT_sl {es : List D} : D.isT (.sl es) = false := rfl
theorem isT_pd {x : D} : D.isT (.pd x) = false := rfl
theorem isT_fn {f : FuncId} {cs : List D} : D.isT (.fn f cs) = false := rfl
theorem isTup_ref {o i off : Nat} : isTup (.ref o i off) = false := rfl
theorem isTup_osl {o off len : Nat} : isTup (.osl o off len) = false := rfl
theorem isTup_acc {o : Nat} {es : List D} : isTup (.acc o es) = false := rfl
theorem isTup_pe {o : Nat} {x : D} : isTup (.pe o x) = false := rfl
theorem isTup_xsl {es : List D} : isTup (.xsl es) = false := rfl
theorem isTup_agg {cs : List AV} : isTup (.agg cs) = false := rfl
theorem isTup_fn {f : FuncId} {cs : List AV} : isTup (.fn f cs) = false := rfl
theorem isTup_nl {b : Bool} : isTup (.nl b) = false := rfl
attribute [go_sem] isTup_d isT_int isT_bool isT_str isT_agg isT_sl isT_pd isT_fn isTup_ref isTup_osl isTup_acc isTup_pe isTup_xsl isTup_agg isTup_fn isTup_nl
theorem ren_map_d {ρ : Nat → Nat} {ds : List D} : (ds.map AV.d).map (AV.ren ρ) = ds.map .d := by rw [List.map_map]; exact List.map_congr_left fun _ _ => rfl
attribute [go_sem] ren_map_d
theorem GOK.of {P : Program} (tab : List (Nat × AFn)) (h : ∀ p ∈ tab, FnOK P p.1 p.2) : GOK P (fun f => look f tab) := fun f fn hf => h (f, fn) (look_mem hf)
end Go.Sim

namespace Go.Sim
variable {G : FuncId → Option AFn}
theorem loop_indP {T : Type} {ks : List Nat} {x : ACode} (μ : T → Nat) (inv : T → Prop) (st : T → St) (Q : T → Option (AExit × St) → Prop)
    (h : ∀ t, inv t → ∀ L : St → Option (AExit × St), (∀ t', inv t' → μ t' < μ t → Q t' (L (st t'))) → Q t ((exL G x (st t)).bind (loopF ks L))) : ∀ t, inv t → Q t (loopL G ks x (st t)) := by
  intro t
  generalize hk : μ t = k
  induction k using Nat.strongRecOn generalizing t with
  | ind k ih =>
    intro hi
    rw [loopL_eq]
    exact h t hi _ fun t' hi' hlt => ih (μ t') (by omega) t' rfl hi'
end Go.Sim

namespace Go.Sim
open Go (World Value Addr TypeId Act Ending Program)

variable {P : Program}

def accRow : AV × Heap → Option (AV × Heap)
  | (.acc 0 [], [(0, .acc 0)]) => some (.xsl [], [])
  | (.acc 0 (e :: es), [(0, .acc n)]) => if n = (e :: es).length then some (.osl 0 0 n, [(0, .row ((e :: es).map .d))]) else none
  | _ => none
def rowed (G0 : FuncId → Option AFn) (k : Nat) (f : FuncId) (args : List AV) (os : Heap) : Option (AV × Heap) :=
  if os.isEmpty = true then (callF G0 k f args os).bind accRow else none

theorem gf_row {f : FuncId} {args : List AV} {os : Heap} {es : List D} (h0 : es ≠ []) (h : GF P f args os (.acc 0 es) [(0, .acc es.length)]) : GF P f args os (.osl 0 0 es.length) [(0, .row (es.map .d))] := by
  intro w R ι us hR hι hinj hob hv
  refine (h w R ι us hR hι hinj hob hv).mono fun e w' => ?_
  rintro ⟨u, ι', R', rfl, p1, p2, p3, p4, p5, p6, p7, p8, p9, p10, p11, p12, p13⟩
  have hob := p12 _ _ (.head _)
  have hm0 : es.length ≠ 0 := fun e => h0 (List.length_eq_zero_iff.1 e)
  have hmk : mark [(0, Obj.acc es.length)] 0 = some es.length := by simp [mark, look]
  have hmk' : mark [(0, Obj.row (es.map .d))] 0 = none := by simp [mark, look]
  have key : OB w' R' ι' (mark [(0, .row (es.map .d))]) 0 (.row (es.map .d)) ∧ VA w' R' ι' (mark [(0, .row (es.map .d))]) (.osl 0 0 es.length) u := by
    generalize hme : mark [(0, Obj.acc es.length)] = me at *
    generalize hde : es = ds at p13
    cases p13 with
    | accR _ _ _ _ _ _ hlt => have := hlt _ hmk; rw [hde] at this; omega
    | acc0 => exact absurd hde h0
    | @accC _ b s m' cap _ c T hι2 hmk2 _ hL hcap hsz hb hc hel =>
      subst hde
      cases hob with
      | accN hι' => rw [hι2] at hι'; cases hι'
      | acc _ hι' hR2 hb' hs0 _ =>
        rw [hι2] at hι'; cases hι'
        refine ⟨.row hι2 hR2 hb hs0 (fun e he => ?_) ?_ fun i e hi j x hj => ?_, ?_⟩
        · obtain ⟨d, hd, rfl⟩ := List.mem_map.1 he; exact hsz d hd
        · rw [List.length_map]; exact Nat.le_trans (Nat.mul_le_mul_right _ hcap) hc
        · rw [List.getElem?_map] at hi
          obtain ⟨d, hd, rfl⟩ := Option.map_eq_some_iff.1 hi
          simp only [AV.cells, List.getElem?_map] at hj
          obtain ⟨cd, hcd, rfl⟩ := Option.map_eq_some_iff.1 hj
          obtain ⟨k1, q, k2, k3⟩ := (hel i d hd).v_of_cells j cd hcd
          exact ⟨k1, q, by rw [cell_of hb] at k2; exact k2, .d k3⟩
        · have := VA.osl (w := w') (R := R') (mk := mark [(0, Obj.row (es.map .d))]) (off := 0) (len := es.length) (cap := cap) hι2 hmk' hb hcap (by simpa using hc) hL
          simpa only [Nat.zero_mul] using this
  refine ⟨u, ι', R', rfl, p1, p2, p3, p4, p5, p6, p7, fun b hb => ?_, p9, p10, p11, fun o ob hm => ?_, key.2⟩
  · obtain ⟨q1, q2⟩ := p8 b hb
    refine ⟨q1, ?_⟩
    rcases q2 with q | q | ⟨o, s, qa, qb⟩
    · exact .inl q
    · exact .inr (.inl q)
    · exfalso
      simp only [look] at qb
      split at qb
      · cases qb
      · cases qb
  · simp only [List.mem_singleton, Prod.mk.injEq] at hm
    obtain ⟨rfl, rfl⟩ := hm
    exact key.1
theorem gf_none {f : FuncId} {args : List AV} {os : Heap} (h : GF P f args os (.acc 0 []) [(0, .acc 0)]) : GF P f args os (.xsl []) [] := by
  intro w R ι us hR hι hinj hob hv
  refine (h w R ι us hR hι hinj hob hv).mono fun e w' => ?_
  rintro ⟨u, ι', R', rfl, p1, p2, p3, p4, p5, p6, p7, p8, p9, p10, p11, p12, p13⟩
  have hmk : mark [(0, Obj.acc 0)] 0 = some 0 := by simp [mark, look]
  have hob := p12 _ _ (.head _)
  have key : ∃ a, u = .slice a 0 0 := by
    generalize hme : mark [(0, Obj.acc 0)] = me at *
    generalize hde : ([] : List D) = ds at p13
    cases p13 with
    | accR _ _ _ _ _ _ hlt => have := hlt _ hmk; omega
    | acc0 => exact ⟨_, rfl⟩
    | @accC _ b s m' cap _ c T hι2 hmk2 _ hL hcap hsz hb hc hel =>
      cases hob with
      | accN hι' => rw [hι2] at hι'; cases hι'
      | acc hpos _ _ _ _ _ => omega
  obtain ⟨a, rfl⟩ := key
  refine ⟨_, ι', R', rfl, p1, p2, p3, p4, p5, p6, p7, fun b hb => ?_, p9, p10, p11, fun o ob hm => (by simp at hm), .xsl .sl0⟩
  obtain ⟨q1, q2⟩ := p8 b hb
  refine ⟨q1, ?_⟩
  rcases q2 with q | q | ⟨o, s, qa, qb⟩
  · exact .inl q
  · exact .inr (.inl q)
  · exfalso
    simp only [look] at qb
    split at qb
    · cases qb
    · cases qb
theorem rowed_ok {G0 : FuncId → Option AFn} (hG : GOK P G0) (k : Nat) (f : FuncId) : FnOK P f (.ext (rowed G0 k f)) := by
  intro args os r os' h h1 h2
  unfold rowed at h
  split at h
  · rename_i hos
    have hos : os = [] := List.isEmpty_iff.1 hos
    subst hos
    obtain ⟨p, hp, hr⟩ := Option.bind_eq_some_iff.1 h
    obtain ⟨p1, p2⟩ := p
    obtain ⟨q1, q2, q3⟩ := callF_ok hG k f args [] p1 p2 hp h1 h2
    refine ⟨q1, ?_⟩
    unfold accRow at hr
    split at hr
    · cases hr
      rename_i he
      cases he
      exact ⟨gf_none q2, ⟨fun n hn => by simp [look] at hn, fun i hi => absurd hi (by simp), fun q hq => by simp [AV.refs] at hq, fun n ob h => by simp at h⟩⟩
    · rename_i e es n he
      cases he
      split at hr
      · rename_i hn
        cases hr
        subst hn
        refine ⟨gf_row (by simp) q2, ⟨fun n hn => ?_, fun i hi => absurd hi (by simp), fun q hq => ?_, fun n ob hm q hq => ?_⟩⟩
        · simp only [look] at hn
          split at hn
          · omega
          · cases hn
        · have : q = 0 := by
            simp only [AV.refs] at hq
            first | exact of_decide_eq_true hq | exact (of_decide_eq_true hq).symm | exact (beq_iff_eq.1 hq) | exact (beq_iff_eq.1 hq).symm
          subst this; simp [look]
        · simp only [List.mem_singleton, Prod.mk.injEq] at hm
          obtain ⟨rfl, rfl⟩ := hm
          exfalso
          simp only [Obj.refs] at hq
          generalize (e :: es) = l at hq
          induction l with
          | nil => simp [AV.refsL] at hq
          | cons x l ih => simp only [List.map_cons, AV.refsL, AV.refs, Bool.false_or] at hq; exact ih hq
      · cases hr
    · cases hr
  · cases h
def updR (G : FuncId → Option AFn) (k : Nat) (fs : List FuncId) (f : FuncId) : Option AFn := if fs.contains f then some (.ext (rowed G k f)) else G f
theorem updR_ok {G : FuncId → Option AFn} (hG : GOK P G) (k : Nat) (fs : List FuncId) : GOK P (updR G k fs) := by
  intro f fn h
  unfold updR at h
  split at h
  · cases h; exact rowed_ok hG k f
  · exact hG f fn h
end Go.Sim

namespace Go.Sim
open Go (World Value Addr TypeId Act)

/-- slices.Insert of one element: the slice that was given is not used any more. -/
def insF (S : Nat) (args : List AV) (os : Heap) : Option (AV × Heap) :=
  match args, os with
  | [.osl o 0 n, .d (.int .i64 i), .d (.sl [v])], [(p, .row es)] =>
    (allD es).bind fun ds => if o = 1000000 ∧ p = 1000000 ∧ ds ≠ [] ∧ n = ds.length ∧ 0 ≤ i ∧ i ≤ ds.length ∧ allSize S (v :: ds) = true ∧ ds.length + 1 ≤ LIM then some (.d (.sl (ds.take i.toNat ++ [v] ++ ds.drop i.toNat)), [(1000000, .frz none)]) else none
  | [.xsl [], .d (.int .i64 i), .d (.sl [v])], [] => if i = 0 ∧ v.size = S then some (.d (.sl [v]), []) else none
  | _, _ => none
/-- slices.Delete: the slice that was given is not used any more. -/
def delF (S : Nat) (args : List AV) (os : Heap) : Option (AV × Heap) :=
  match args, os with
  | [.osl o 0 n, .d (.int .i64 i), .d (.int .i64 j)], [(p, .row es)] =>
    (allD es).bind fun ds => if o = 1000000 ∧ p = 1000000 ∧ ds ≠ [] ∧ n = ds.length ∧ 0 ≤ i ∧ i < j ∧ j ≤ ds.length ∧ allSize S ds = true ∧ ds.length ≤ LIM then some (.d (.sl (ds.take i.toNat ++ ds.drop j.toNat)), [(1000000, .frz none)]) else none
  | _, _ => none

theorem insF_some {S : Nat} {args : List AV} {os os' : Heap} {r : AV} (h : insF S args os = some (r, os')) :
    (∃ (ds : List D) (i : Nat) (v : D), args = .osl 1000000 0 ds.length :: [D.int .i64 i, D.sl [v]].map .d ∧ os = [(1000000, .row (ds.map .d))] ∧ ds ≠ [] ∧ i ≤ ds.length ∧ (∀ e ∈ v :: ds, e.size = S) ∧ ds.length + 1 ≤ LIM ∧ r = .d (.sl (ds.take i ++ [v] ++ ds.drop i)) ∧ os' = [(1000000, .frz none)]) ∨
    (∃ v : D, args = [.xsl [], .d (.int .i64 0), .d (.sl [v])] ∧ os = [] ∧ v.size = S ∧ r = .d (.sl [v]) ∧ os' = []) := by
  unfold insF at h
  split at h
  · rename_i o n i v p es
    obtain ⟨ds, hd, hh⟩ := Option.bind_eq_some_iff.1 h
    clear h
    split at hh
    · rename_i hc
      obtain ⟨rfl, rfl, h1, rfl, h2, h3, h4, h5⟩ := hc
      cases hh
      refine .inl ⟨ds, i.toNat, v, by simp only [List.map_cons, List.map_nil, Int.toNat_of_nonneg h2], by rw [allD_spec hd], h1, by omega, fun e he => ?_, h5, rfl, rfl⟩
      simpa using (List.all_eq_true.1 h4) e he
    · cases hh
  · rename_i i v
    split at h
    · rename_i hc
      obtain ⟨rfl, h1⟩ := hc
      cases h
      exact .inr ⟨v, rfl, rfl, h1, rfl, rfl⟩
    · cases h
  · cases h
theorem delF_some {S : Nat} {args : List AV} {os os' : Heap} {r : AV} (h : delF S args os = some (r, os')) :
    ∃ (ds : List D) (i j : Nat), args = .osl 1000000 0 ds.length :: [D.int .i64 i, D.int .i64 j].map .d ∧ os = [(1000000, .row (ds.map .d))] ∧ ds ≠ [] ∧ i < j ∧ j ≤ ds.length ∧ (∀ e ∈ ds, e.size = S) ∧ ds.length ≤ LIM ∧ r = .d (.sl (ds.take i ++ ds.drop j)) ∧ os' = [(1000000, .frz none)] := by
  unfold delF at h
  split at h
  · rename_i o n i j p es
    obtain ⟨ds, hd, hh⟩ := Option.bind_eq_some_iff.1 h
    clear h
    split at hh
    · rename_i hc
      obtain ⟨rfl, rfl, h1, rfl, h2, h3, h4, h5, h6⟩ := hc
      cases hh
      refine ⟨ds, i.toNat, j.toNat, by simp only [List.map_cons, List.map_nil, Int.toNat_of_nonneg h2, Int.toNat_of_nonneg (show 0 ≤ j by omega)], by rw [allD_spec hd], h1, by omega, by omega, fun e he => ?_, h6, rfl, rfl⟩
      simpa using (List.all_eq_true.1 h5) e he
    · cases hh
  · cases h

variable {G : FuncId → Option AFn}
theorem ins_call {f : FuncId} {S : Nat} (h : G f = some (.ext (insF S))) (ds : List D) (v : D) (i : Nat) (h0 : ds ≠ []) (hi : i ≤ ds.length) (hz : ∀ e ∈ v :: ds, e.size = S) (hL : ds.length + 1 ≤ 4294967296) :
    callL G f [.osl 1000000 0 ds.length, .d (.int .i64 i), .d (.sl [v])] [(1000000, .row (ds.map .d))] = some (.d (.sl (ds.take i ++ [v] ++ ds.drop i)), [(1000000, .frz none)]) := by
  rw [callL_ext h]
  show (allD (ds.map AV.d)).bind _ = _
  rw [allD_map]
  show (if _ then _ else _) = _
  split
  · rw [Int.toNat_natCast]
  · rename_i hc
    exact absurd ⟨rfl, rfl, h0, rfl, by omega, by omega, List.all_eq_true.2 fun e he => by simpa using hz e he, hL⟩ hc
theorem ins_call0 {f : FuncId} {S : Nat} (h : G f = some (.ext (insF S))) (v : D) (hz : v.size = S) :
    callL G f [.xsl [], .d (.int .i64 0), .d (.sl [v])] [] = some (.d (.sl [v]), []) := by
  rw [callL_ext h]
  show (if _ then _ else _) = _
  split
  · rfl
  · rename_i hc
    exact absurd ⟨rfl, hz⟩ hc
theorem del_call {f : FuncId} {S : Nat} (h : G f = some (.ext (delF S))) (ds : List D) (i j : Nat) (hi : i < j) (hj : j ≤ ds.length) (hz : ∀ e ∈ ds, e.size = S) (hL : ds.length ≤ 4294967296) :
    callL G f [.osl 1000000 0 ds.length, .d (.int .i64 i), .d (.int .i64 j)] [(1000000, .row (ds.map .d))] = some (.d (.sl (ds.take i ++ ds.drop j)), [(1000000, .frz none)]) := by
  rw [callL_ext h]
  show (allD (ds.map AV.d)).bind _ = _
  rw [allD_map]
  show (if _ then _ else _) = _
  split
  · rw [Int.toNat_natCast, Int.toNat_natCast]
  · rename_i hc
    exact absurd ⟨rfl, rfl, by rintro rfl; simp at hj; omega, rfl, by omega, by omega, by omega, List.all_eq_true.2 fun e he => by simpa using hz e he, hL⟩ hc
end Go.Sim

namespace Go.Proofs.Ytibkpphblgfmbaa
open Go Go.Sim
def N_main_main : Nat := 0
def N_gosem_cut : Nat := 1
def N_gosem_cut_init : Nat := 2
def N_law31_BagScript : Nat := 3
def N_law31_BagKeeps : Nat := 4
def N_law31_BagExclusive : Nat := 5
def N_law06_LeaseLapses : Nat := 6
def N_law06_LeaseFull : Nat := 7
def N_law06_LeaseRaw : Nat := 8
def N_law06_LeaseScript : Nat := 9
def N_base_New : Nat := 10
def N_bag_New : Nat := 11
def N_base_Src_Range : Nat := 12
def N_base_Src_More : Nat := 13
def N_law31_event : Nat := 14
def N_law31_agrees : Nat := 15
def N_base_Src_N : Nat := 16
def N_bag_Step : Nat := 17
def N_law31_awake : Nat := 18
def N_bag_Find : Nat := 19
def N_bag_Valid : Nat := 20
def N_base_Src_Table : Nat := 21
def N_lease_Lapsed : Nat := 22
def N_law06_awake : Nat := 23
def N_lease_Grant : Nat := 24
def N_law06_agrees : Nat := 25
def N_base_Src_Message : Nat := 26
def N_lease_Release : Nat := 27
def N_lease_Extend : Nat := 28
def N_lease_Validate : Nat := 29
def N_due_Validate : Nat := 30
def N_lease_Find : Nat := 31
def N_bag_in : Nat := 32
def N_ref31_Counts : Nat := 33
def N_base_Src_Pick : Nat := 34
def N_ref31_Step : Nat := 35
def N_ref31_Find : Nat := 36
def N_bag_Counts : Nat := 37
def N_ref31_Same : Nat := 38
def N_ref31_Valid : Nat := 39
def N_base_Src_Raw : Nat := 40
def N_bag_timed : Nat := 41
def N_slices_Clone_api_Item : Nat := 42
def N_bag_carry : Nat := 43
def N_bag_index : Nat := 44
def N_ref06_Grant : Nat := 45
def N_slices_DeleteFunc_int : Nat := 46
def N_due_Until : Nat := 47
def N_lease_Lapsed_1 : Nat := 48
def N_lease_find : Nat := 49
def N_message_Purged : Nat := 50
def N_ref05_SameInts : Nat := 51
def N_message_Validate : Nat := 52
def N_lease_time : Nat := 53
def N_due_Push : Nat := 54
def N_slices_Insert_api_Lease : Nat := 55
def N_slices_Clone_api_Lease : Nat := 56
def N_ref06_Validate : Nat := 57
def N_ref06_Lapsed : Nat := 58
def N_ref06_Find : Nat := 59
def N_ref06_Same : Nat := 60
def N_ref06_Release : Nat := 61
def N_ref06_Extend : Nat := 62
def N_ref02_Into : Nat := 63
def N_ref02_Route : Nat := 64
def N_base_Src_Body : Nat := 65
def N_due_Remove : Nat := 66
def N_lease_without_api_Lease : Nat := 67
def N_lease_matches : Nat := 68
def N_slices_ContainsFunc_api_Due : Nat := 69
def N_due_Validate_1 : Nat := 70
def N_due_valid : Nat := 71
def N_due_find : Nat := 72
def N_due_before : Nat := 73
def N_ref31_timed : Nat := 74
def N_ref31_step : Nat := 75
def N_ref31_index : Nat := 76
def N_bag_tick : Nat := 77
def N_bag_send : Nat := 78
def N_bag_receive : Nat := 79
def N_bag_settle : Nat := 80
def N_bag_purge : Nat := 81
def N_bag_redrive : Nat := 82
def N_bag_expire : Nat := 83
def N_slices_IndexFunc_api_Item : Nat := 84
def N_bag_index_1 : Nat := 85
def N_ref03_Validate : Nat := 86
def N_ref06_find : Nat := 87
def N_ref05_Push : Nat := 88
def N_slices_IndexFunc_int : Nat := 89
def N_slices_Clone_api_Due : Nat := 90
def N_slices_SortFunc_api_Due : Nat := 91
def N_due_compare : Nat := 92
def N_slices_BinarySearchFunc_api_Lease : Nat := 93
def N_lease_find_1 : Nat := 94
def N_cmp_Compare_int : Nat := 95
def N_message_in : Nat := 96
def N_due_up : Nat := 97
def N_slices_overlaps_api_Lease : Nat := 98
def N_slices_rotateRight_api_Lease : Nat := 99
def N_ref05_Validate : Nat := 100
def N_ref05_Until : Nat := 101
def N_ref03_Purged : Nat := 102
def N_ref06_SameLeases : Nat := 103
def N_ref05_Same : Nat := 104
def N_ref05_Remove : Nat := 105
def N_ref01_Put : Nat := 106
def N_ref02_Sum : Nat := 107
def N_due_drop : Nat := 108
def N_slices_Delete_api_Lease : Nat := 109
def N_slices_Contains_api_Due : Nat := 110
def N_slices_IndexFunc_api_Due : Nat := 111
def N_due_find_1 : Nat := 112
def N_ref31_send : Nat := 113
def N_ref31_receive : Nat := 114
def N_ref31_settle : Nat := 115
def N_ref31_set : Nat := 116
def N_ref31_released : Nat := 117
def N_bag_send_1 : Nat := 118
def N_slices_Insert_api_Item : Nat := 119
def N_bag_each : Nat := 120
def N_bag_receive_1 : Nat := 121
def N_bag_follows : Nat := 122
def N_bag_back : Nat := 123
def N_bag_redrive_1 : Nat := 124
def N_bag_expire_1 : Nat := 125
def N_ref03_in : Nat := 126
def N_ref05_sound : Nat := 127
def N_ref05_index : Nat := 128
def N_ref05_up : Nat := 129
def N_slices_pdqsortCmpFunc_api_Due : Nat := 130
def N_math_bits_Len : Nat := 131
def N_cmp_Or_int : Nat := 132
def N_cmp_isNaN_int : Nat := 133
def N_slices_rotateLeft_api_Lease : Nat := 134
def N_ref05_before : Nat := 135
def N_ref05_cut : Nat := 136
def N_due_down : Nat := 137
def N_slices_Index_api_Due : Nat := 138
def N_slices_overlaps_api_Item : Nat := 139
def N_slices_rotateRight_api_Item : Nat := 140
def N_ref05_swap : Nat := 141
def N_slices_insertionSortCmpFunc_api_Due : Nat := 142
def N_slices_heapSortCmpFunc_api_Due : Nat := 143
def N_slices_breakPatternsCmpFunc_api_Due : Nat := 144
def N_slices_choosePivotCmpFunc_api_Due : Nat := 145
def N_slices_reverseRangeCmpFunc_api_Due : Nat := 146
def N_slices_partialInsertionSortCmpFunc_api_Due : Nat := 147
def N_slices_partitionEqualCmpFunc_api_Due : Nat := 148
def N_slices_partitionCmpFunc_api_Due : Nat := 149
def N_math_bits_Len32 : Nat := 150
def N_math_bits_Len64 : Nat := 151
def N_slices_Reverse_api_Lease : Nat := 152
def N_ref05_down : Nat := 153
def N_slices_rotateLeft_api_Item : Nat := 154
def N_slices_siftDownCmpFunc_api_Due : Nat := 155
def N_slices_nextPowerOfTwo : Nat := 156
def N_slices_xorshift_Next : Nat := 157
def N_slices_medianAdjacentCmpFunc_api_Due : Nat := 158
def N_slices_medianCmpFunc_api_Due : Nat := 159
def N_slices_Reverse_api_Item : Nat := 160
def N_slices_order2CmpFunc_api_Due : Nat := 161
def N_runtime_boundsError_Error : Nat := 162
def N_runtime_boundsError_RuntimeError : Nat := 163
def N_runtime_errorString_Error : Nat := 164
def N_runtime_errorString_RuntimeError : Nat := 165
def N_runtime_plainError_Error : Nat := 166
def N_runtime_plainError_RuntimeError : Nat := 167
def N_runtime_errorAddressString_Error : Nat := 168
def N_runtime_errorAddressString_RuntimeError : Nat := 169
def N_runtime_TypeAssertionError_Error : Nat := 170
def N_runtime_TypeAssertionError_RuntimeError : Nat := 171
def N_runtime_PanicNilError_Error : Nat := 172
def N_runtime_PanicNilError_RuntimeError : Nat := 173
def N_internal_abi_Type_Align : Nat := 174
def N_internal_runtime_maps_unhashableTypeError_Error : Nat := 175
def N_internal_runtime_maps_unhashableTypeError_RuntimeError : Nat := 176
def N_internal_abi_Kind_String : Nat := 177
end Go.Proofs.Ytibkpphblgfmbaa
