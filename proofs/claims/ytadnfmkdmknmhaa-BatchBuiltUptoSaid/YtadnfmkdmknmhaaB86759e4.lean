/-
  The steps of the calculus in forms that rewriting takes at once: no state stands under a binder.
-/
import Derived.Test.YtadnfmkdmknmhaaB9b05509
set_option linter.unusedSimpArgs false
set_option linter.unusedVariables false
namespace Go.Sim
variable {F : Sem1} {E : Env} {H : Heap} {dst : Nat}
def subB (full : List Nat) : List Nat → Bool
  | [] => true
  | x :: l => full.contains x && subB full l
theorem subB_eq {full : List Nat} : ∀ {l : List Nat}, l.all full.contains = subB full l
  | [] => rfl
  | x :: l => by rw [List.all_cons, subB_eq]; rfl
def okN1 (full : List Nat) : Option Obj → Bool
  | some (.row es) => subB full (AV.objsL es)
  | _ => false
def okN (H : Heap) (full : List Nat) : List Nat → Bool
  | [] => true
  | o :: l => okN1 full (look o H) && okN H full l
theorem okNames_eq {ns : List Nat} : okNames H ns = okN H ns ns := by
  have : ∀ full l : List Nat, (l.all fun o => match look o H with | some (.row es) => (AV.objsL es).all full.contains | _ => false) = okN H full l := by
    intro full l
    induction l with
    | nil => rfl
    | cons o l ih =>
      rw [List.all_cons, ih]
      simp only [okN]
      congr 1
      unfold okN1
      split <;> simp_all [subB_eq]
  exact this ns ns
def osN (H : Heap) (full : List Nat) : List Nat → Heap
  | [] => []
  | o :: l => (toCallee full o, ((look o H).getD (.acc 0)).ren (toCallee full)) :: osN H full l
theorem osOf_eq {ns : List Nat} : osOf H ns = osN H ns ns := by
  have : ∀ full l : List Nat, (l.map fun o => (toCallee full o, ((look o H).getD (.acc 0)).ren (toCallee full))) = osN H full l := by
    intro full l
    induction l with
    | nil => rfl
    | cons o l ih => rw [List.map_cons, ih]; rfl
  exact this ns ns
theorem freshOK_nil {ns : List Nat} : freshOK E H dst ns [] = true := rfl
theorem freshOK_cons {ns : List Nat} {n : Nat} {ob : Obj} {l : Heap} : freshOK E H dst ns ((n, ob) :: l) = ((decide (1000000 ≤ n) || (!refsEnv (dst + 10000 * n) E && !refsHeap (dst + 10000 * n) H && !ns.contains (dst + 10000 * n))) && freshOK E H dst ns l) := rfl
def flatH : Heap → Bool
  | [] => true
  | (_, ob) :: l => ob.flat && flatH l
theorem flatRes_eq {v : AV} {δ : Heap} : flatRes (v, δ) = (v.flat && flatH δ) := by
  unfold flatRes
  congr 1
  show (δ.all fun q => q.2.flat) = flatH δ
  induction δ with
  | nil => rfl
  | cons p l ih => rw [List.all_cons, ih]; rfl
theorem disjL_nil {b : List Nat} : disjL [] b = true := rfl
theorem disjL_cons {a : Nat} {l b : List Nat} : disjL (a :: l) b = (!b.contains a && disjL l b) := rfl
theorem renH_nil {ρ : Nat → Nat} : renH ρ [] = [] := rfl
theorem renH_cons {ρ : Nat → Nat} {n : Nat} {ob : Obj} {l : Heap} : renH ρ ((n, ob) :: l) = (ρ n, ob.ren ρ) :: renH ρ l := rfl
theorem frzL_nil : frzL H [] = [] := rfl
theorem frzL_cons {o : Nat} {l : List Nat} : frzL H (o :: l) = (o, .frz (mark H o)) :: frzL H l := rfl
theorem frzOk_nil : frzOk H [] = true := rfl
theorem frzOk_cons {o : Nat} {l : List Nat} : frzOk H (o :: l) = ((look o H).isSome && frzOk H l) := rfl
theorem odds_nil : odds [] = [] := rfl
theorem odds_cons {o : Nat} {l : List Nat} : odds (o :: l) = (2 * o + 1) :: odds l := rfl
theorem evens_nil : evens [] = [] := rfl
theorem evens_cons {o : Nat} {l : List Nat} : evens (o :: l) = (2 * o) :: evens l := rfl
theorem disjN_nil {b : List Nat} : disjN [] b = true := rfl
theorem disjN_cons {a : Nat} {l b : List Nat} : disjN (a :: l) b = (!b.contains a && disjN l b) := rfl
def clash1 (p : List Nat × List Nat) : Option (List Nat × List Nat) → Bool
  | some q => indep q p
  | none => false
theorem clashless_nil {acc : List (List Nat × List Nat)} {p : List Nat × List Nat} : clashless [] acc p = true := rfl
theorem clashless_cons {k : Nat} {fr : List Nat} {acc : List (List Nat × List Nat)} {p : List Nat × List Nat} : clashless (k :: fr) acc p = (clash1 p (acc[k]?) && clashless fr acc p) := rfl
def freshNs (E : Env) (H : Heap) : List Nat → Bool
  | [] => true
  | n :: l => (!refsEnv n E && !refsHeap n H) && freshNs E H l
theorem freshFor_nil {S : St} : freshFor [] S = true := rfl
theorem freshFor_cons {x : AOper} {l : List AOper} : freshFor (x :: l) ⟨E, H⟩ = (freshNs E H x.newNames && freshFor l ⟨E, H⟩) := by
  have : ∀ ns : List Nat, (ns.all fun n => !refsEnv n E && !refsHeap n H) = freshNs E H ns := by
    intro ns
    induction ns with
    | nil => rfl
    | cons n l ih => rw [List.all_cons, ih]; rfl
  rw [← this]; rfl
theorem rowEnv_nil {o m : Nat} : rowEnv o m [] = [] := rfl
theorem rowEnv_cons {o m t : Nat} {x : AV} {l : Env} : rowEnv o m ((t, x) :: l) = (t, rowV o m x) :: rowEnv o m l := rfl
theorem accEnv_nil {o : Nat} {ds : List D} : accEnv o ds [] = [] := rfl
theorem accEnv_cons {o t : Nat} {ds : List D} {x : AV} {l : Env} : accEnv o ds ((t, x) :: l) = (t, accV o ds x) :: accEnv o ds l := rfl
def enterN : Nat → List AV → Env
  | _, [] => []
  | n, x :: l => (n, x) :: enterN (n + 1) l
theorem enter_eq {args : List AV} : enter args = enterN 0 args := by
  have : ∀ (l : List AV) (n : Nat), ((l.zipIdx n).map fun p => (p.2, p.1)) = enterN n l := by
    intro l
    induction l with
    | nil => intro n; rfl
    | cons x l ih => intro n; rw [List.zipIdx_cons, List.map_cons, ih]; rfl
  exact this args 0
theorem ghostE_nil : ghostE [] = [] := rfl
theorem ghostE_cons {n : Nat} {ob : Obj} {l : Heap} : ghostE ((n, ob) :: l) = (n, .ref n 1 0) :: ghostE l := rfl
def okO1 (full : List Nat) (k o : Nat) : Option Obj → Bool
  | some (.row es) => subB full (AV.objsL es) && (decide (o < 1000000) || decide (o < 1000000 + k))
  | some (.acc _) => decide (o < 1000000)
  | some (.frz m) => m.isNone && decide (1000000 ≤ o) && (decide (o < 1000000) || decide (o < 1000000 + k))
  | _ => false
def okO (H : Heap) (full : List Nat) (k : Nat) : List Nat → Bool
  | [] => true
  | o :: l => okO1 full k o (look o H) && okO H full k l
theorem okOut_eq {os : Heap} {ns : List Nat} : okOut H os ns = (okO H ns os.length ns && decide ((frs ns).length ≤ 4)) := by
  have : ∀ full l : List Nat, (l.all fun o => (match look o H with | some (.row es) => (AV.objsL es).all full.contains | some (.acc _) => decide (o < 1000000) | some (.frz m) => m.isNone && decide (1000000 ≤ o) | _ => false) && (decide (o < 1000000) || decide (o < 1000000 + os.length))) = okO H full os.length l := by
    intro full l
    induction l with
    | nil => rfl
    | cons o l ih =>
      rw [List.all_cons, ih]
      simp only [okO]
      congr 1
      unfold okO1
      split <;> simp_all [subB_eq]
  unfold okOut
  exact congrArg (· && decide ((frs ns).length ≤ 4)) (this ns ns)
def okG1 (o : Nat) : Option AV → Bool
  | some (.ref p 1 0) => p == o
  | _ => false
def okG (E : Env) : Heap → Bool
  | [] => true
  | (o, _) :: l => okG1 o (look o E) && okG E l
theorem okGhost_eq {os : Heap} : okGhost E os = okG E os := by
  unfold okGhost
  induction os with
  | nil => rfl
  | cons p l ih =>
    rw [List.all_cons, ih]
    simp only [okG]
    congr 1
def outN (H : Heap) (full : List Nat) : List Nat → Heap
  | [] => []
  | o :: l => (outName full o, ((look o H).getD (.acc 0)).ren (outName full)) :: outN H full l
theorem outH_eq {ns : List Nat} : outH H ns = outN H ns ns := by
  have : ∀ full l : List Nat, (l.map fun o => (outName full o, ((look o H).getD (.acc 0)).ren (outName full))) = outN H full l := by
    intro full l
    induction l with
    | nil => rfl
    | cons o l ih => rw [List.map_cons, ih]; rfl
  exact this ns ns
def evs (E : Env) : List Opd → List AV
  | [] => []
  | x :: xs => x.ev E :: evs E xs
theorem map_evs {xs : List Opd} : xs.map (·.ev E) = evs E xs := by
  induction xs with
  | nil => rfl
  | cons x xs ih => rw [List.map_cons, ih]; rfl
def evO (E : Env) : Option Opd → Option AV
  | none => none
  | some x => some (x.ev E)
theorem mapO_ev {x : Option Opd} : x.map (·.ev E) = evO E x := by cases x <;> rfl
def evB (E : Env) : List (Nat × Nat × Opd) → List (Nat × Nat × AV)
  | [] => []
  | (a, b, x) :: l => (a, b, x.ev E) :: evB E l
theorem mapB_ev {l : List (Nat × Nat × Opd)} : (l.map fun p => (p.1, p.2.1, p.2.2.ev E)) = evB E l := by
  induction l with
  | nil => rfl
  | cons p l ih => rw [List.map_cons, ih]; rfl
def evF (E : Env) : List (Nat × Opd) → List (Nat × AV)
  | [] => []
  | (a, x) :: l => (a, x.ev E) :: evF E l
theorem mapF_ev {l : List (Nat × Opd)} : (l.map fun p => (p.1, p.2.ev E)) = evF E l := by
  induction l with
  | nil => rfl
  | cons p l ih => rw [List.map_cons, ih]; rfl
def szF (n : Nat) : List (Nat × AV) → Bool
  | [] => true
  | (_, x) :: l => (x.size == n) && szF n l
theorem all_sz {n : Nat} {l : List (Nat × Opd)} : (l.all fun p => (p.2.ev E).size == n) = szF n (evF E l) := by
  induction l with
  | nil => rfl
  | cons p l ih => rw [List.all_cons, ih]; rfl
theorem s_call' {f : FuncId} {ms : List Bool} {xs : List Opd} : step F E H dst (.call f ms xs) = callS H (callA F E H dst ms f (evs E xs)) := by rw [← map_evs]; rfl
theorem s_callv' {f : Opd} {ms : List Bool} {xs : List Opd} : step F E H dst (.callv f ms xs) = callS H (callvA F E H dst ms (f.ev E) (evs E xs)) := by rw [← map_evs]; rfl
theorem f_call' {f : FuncId} {ms : List Bool} {xs : List Opd} : AOp.feet E H dst (.call f ms xs) = callFeetT H dst ms (evs E xs) := by rw [← map_evs]; rfl
theorem f_callv' {f : Opd} {ms : List Bool} {xs : List Opd} : AOp.feet E H dst (.callv f ms xs) = callvFeet H dst ms (f.ev E) (evs E xs) := by rw [← map_evs]; rfl
def retA (H : Heap) : Option AV → Option (AV × Heap)
  | none => none
  | some v => some (v, H)
theorem retA_eq {x : Option AV} : x.map (fun v => (v, H)) = retA H x := by cases x <;> rfl
theorem retA_ite {c : Prop} [Decidable c] {x y : Option AV} : retA H (if c then x else y) = if c then retA H x else retA H y := by split <;> rfl
def retD (H : Heap) : Option D → Option (AV × Heap)
  | none => none
  | some v => some (.d v, H)
theorem retD_eq {x : Option D} : x.map (fun v => (AV.d v, H)) = retD H x := by cases x <;> rfl
theorem retD_ite {c : Prop} [Decidable c] {x y : Option D} : retD H (if c then x else y) = if c then retD H x else retD H y := by split <;> rfl
def retB (H : Heap) (ng : Bool) : Option Bool → Option (AV × Heap)
  | none => none
  | some b => some (.d (.bool (if ng then !b else b)), H)
def dO : Option D → Option AV
  | none => none
  | some v => some (.d v)
theorem dO_eq {x : Option D} : x.map AV.d = dO x := by cases x <;> rfl
def pdO : Option D → Option AV
  | none => none
  | some v => some (.d (.pd v))
def peO (o : Nat) : Option D → Option AV
  | none => none
  | some v => some (.pe o v)
def ldR (ag : Bool) (n : Nat) : Option AV → Option AV
  | some e => partA ag off n e
  | none => none
  where off : Nat := 0
def ldE (ag : Bool) (n off : Nat) : Option AV → Option AV
  | some e => partA ag off n e
  | none => none
def ldO (ag : Bool) (n i off : Nat) : Option Obj → Option AV
  | some (.row es) => ldE ag n off es[i]?
  | _ => none
def ldV (H : Heap) (ag : Bool) (n : Nat) : AV → Option AV
  | .d (.pd x) => dO (partD ag 0 n x)
  | .pe _ x => dO (partD ag 0 n x)
  | .ref o i off => ldO ag n i off (look o H)
  | _ => none
theorem ldV_eq {ag : Bool} {n : Nat} {v : AV} : ldA H ag n v = ldV H ag n v := by
  unfold ldA
  split
  · exact dO_eq
  · exact dO_eq
  · rename_i o i off
    simp only [ldV]
    generalize look o H = q
    rcases q with _ | (es | m | m | m)
    · rfl
    · show es[i]?.bind _ = ldE ag n off es[i]?
      cases es[i]? <;> rfl
    · rfl
    · rfl
    · rfl
  · unfold ldV; split <;> simp_all
theorem s_ld' {ag : Bool} {n : Nat} {p : Opd} : step F E H dst (.ld ag n p) = retA H (ldV H ag n (p.ev E)) := by
  show (ldA H ag n (p.ev E)).map (fun v => (v, H)) = _
  rw [retA_eq, ldV_eq]
def fadV (ag : Bool) (off n : Nat) : AV → Option AV
  | .ref o i f => some (.ref o i (f + off))
  | .d (.pd y) => pdO (partD ag off n y)
  | .pe o y => peO o (partD ag off n y)
  | _ => none
theorem fadV_eq {ag : Bool} {off n : Nat} {v : AV} : fadA ag off n v = fadV ag off n v := by
  unfold fadA
  split
  · rfl
  · rename_i y; simp only [fadV]; cases partD ag off n y <;> rfl
  · rename_i o y; simp only [fadV]; cases partD ag off n y <;> rfl
  · unfold fadV; split <;> simp_all
theorem s_fad' {ag : Bool} {off n : Nat} {x : Opd} : step F E H dst (.fad ag off n x) = retA H (fadV ag off n (x.ev E)) := by
  show (fadA ag off n (x.ev E)).map (fun v => (v, H)) = _
  rw [retA_eq, fadV_eq]
def szR (n o i : Nat) : Option AV → Option AV
  | some e => if e.size = n then some (.ref o i 0) else none
  | none => none
def szP (n o : Nat) : Option D → Option AV
  | some e => if e.size = n then some (.pe o e) else none
  | none => none
def szD (n : Nat) : Option D → Option AV
  | some e => if e.size = n then some (.d (.pd e)) else none
  | none => none
def iadO (n o i : Nat) : Option Obj → Option AV
  | some (.row es) => szR n o i es[i]?
  | _ => none
def iadV (H : Heap) (n : Nat) (i : Int) : AV → Option AV
  | .osl o off len => if i < len then iadO n o (off + i.toNat) (look o H) else none
  | .acc o es => szP n o es[i.toNat]?
  | .d (.sl es) => szD n es[i.toNat]?
  | .xsl es => szD n es[i.toNat]?
  | _ => none
theorem iadV_eq {n : Nat} {i : Int} {v : AV} : iadA H n i v = iadV H n i v := by
  unfold iadA
  split
  · rename_i o off len
    simp only [iadV]
    split
    · generalize look o H = q
      rcases q with _ | (es | m | m | m)
      · rfl
      · show es[off + i.toNat]?.bind _ = szR n o (off + i.toNat) es[off + i.toNat]?
        cases es[off + i.toNat]? <;> rfl
      · rfl
      · rfl
      · rfl
    · rfl
  · rename_i o es; simp only [iadV]; unfold szP; cases es[i.toNat]? <;> rfl
  · rename_i es; simp only [iadV]; unfold szD; cases es[i.toNat]? <;> rfl
  · rename_i es; simp only [iadV]; unfold szD; cases es[i.toNat]? <;> rfl
  · unfold iadV; split <;> simp_all
def iadI (H : Heap) (n : Nat) (v : AV) : Option Int → Option (AV × Heap)
  | some k => if 0 ≤ k then retA H (iadV H n k v) else none
  | none => none
theorem s_iad' {n : Nat} {x i : Opd} : step F E H dst (.iad n x i) = iadI H n (x.ev E) (idxOf (i.ev E)) := by
  show (idxOf (i.ev E)).bind _ = _
  unfold iadI
  cases idxOf (i.ev E) with
  | none => rfl
  | some k => simp only [Option.bind_some, iadV_eq, retA_eq]
def iadaI (H : Heap) (ag : Bool) (len n : Nat) (v : AV) : Option Int → Option (AV × Heap)
  | some k => if 0 ≤ k ∧ k < len then retA H (fadV ag (k.toNat * n) n v) else none
  | none => none
theorem s_iada' {ag : Bool} {len n : Nat} {x i : Opd} : step F E H dst (.iada ag len n x i) = iadaI H ag len n (x.ev E) (idxOf (i.ev E)) := by
  show (idxOf (i.ev E)).bind _ = _
  unfold iadaI
  cases idxOf (i.ev E) with
  | none => rfl
  | some k => simp only [Option.bind_some, fadV_eq, retA_eq]
def stF (H : Heap) (o i : Nat) (es : List AV) : Option AV → Option (AV × Heap)
  | some e => some (.undef, setAt o (.row (es.set i e)) H)
  | none => none
def stE (H : Heap) (o i off : Nat) (es : List AV) (v : AV) : Option AV → Option (AV × Heap)
  | some e => stF H o i es (over e off v)
  | none => none
def stO (H : Heap) (o i off : Nat) (v : AV) : Option Obj → Option (AV × Heap)
  | some (.row es) => stE H o i off es v es[i]?
  | _ => none
def stV (H : Heap) (n : Nat) (v : AV) : AV → Option (AV × Heap)
  | .ref o i off => if v.size = n ∧ isTup v = false then stO H o i off v (look o H) else none
  | _ => none
def clrO (H : Heap) (n o off len : Nat) : Option Obj → Option (AV × Heap)
  | some (.row es) => if off + len = es.length ∧ es.head?.map AV.size = some n then some (.undef, setAt o (.row (es.take off)) H) else none
  | _ => none
def clrV (H : Heap) (n : Nat) : AV → Option (AV × Heap)
  | .osl o off len => clrO H n o off len (look o H)
  | _ => none
def atlC : Option AV → Option Int
  | some (.d (.int .i64 n)) => some n
  | _ => none
def atlE (off : Nat) : Option AV → Option Int
  | some e => atlC e.cells[off]?
  | none => none
def atlO (i off : Nat) : Option Obj → Option Int
  | some (.row es) => atlE off es[i]?
  | _ => none
def atlV (H : Heap) : AV → Option Int
  | .ref o i off => atlO i off (look o H)
  | _ => none
theorem atlV_eq {p : AV} : atlA H p = atlV H p := by
  cases p with
  | ref o i off =>
    simp only [atlA, atlV]
    generalize look o H = q
    rcases q with _ | (es | m | m | m)
    · rfl
    · show (es[i]?).bind _ = atlE off es[i]?
      cases es[i]? with
      | none => rfl
      | some e =>
        show (e.cells[off]?).bind i64D = atlC e.cells[off]?
        cases e.cells[off]? with
        | none => rfl
        | some y => show i64D y = atlC (some y); unfold i64D atlC; split <;> simp_all
    · rfl
    · rfl
    · rfl
  | _ => rfl
def retI (H : Heap) : Option Int → Option (AV × Heap)
  | some n => some (.d (.int .i64 n), H)
  | none => none
theorem s_atl' {p : Opd} : step F E H dst (.atl p) = retI H (atlV H (p.ev E)) := by
  show (atlA H (p.ev E)).map _ = _
  rw [atlV_eq]
  cases atlV H (p.ev E) <;> rfl
def atsF (v : D) : Option (AV × Heap) → Option (AV × Heap)
  | some p => some (.d v, p.2)
  | none => none
def atsI (H : Heap) (p : AV) (n : Int) : Option Int → Option (AV × Heap)
  | some _ => atsF (.tup []) (stV H 1 (.d (.int .i64 n)) p)
  | none => none
def atsX (H : Heap) (p : AV) : AV → Option (AV × Heap)
  | .d (.int .i64 n) => atsI H p n (atlV H p)
  | _ => none
theorem ats_st {p : AV} {n : Int} {v : D} : (atsA H n p).map (fun H' => (AV.d v, H')) = match atlV H p with | some _ => atsF v (stV H 1 (.d (.int .i64 n)) p) | none => none := by
  cases p with
  | ref o i off =>
    simp only [atsA, atlV, stV]
    rw [if_pos ⟨rfl, rfl⟩]
    generalize look o H = q
    rcases q with _ | (es | m | m | m)
    · rfl
    · show ((es[i]?).bind _).map _ = match atlE off es[i]? with | some _ => atsF v (stE H o i off es (.d (.int .i64 n)) es[i]?) | none => none
      cases es[i]? with
      | none => rfl
      | some e =>
        show (((e.cells[off]?).bind i64D).bind _).map _ = match atlC e.cells[off]? with | some _ => atsF v (stF H o i es (over e off (.d (.int .i64 n)))) | none => none
        have : (e.cells[off]?).bind i64D = atlC e.cells[off]? := by
          cases e.cells[off]? with
          | none => rfl
          | some y => show i64D y = atlC (some y); unfold i64D atlC; split <;> simp_all
        rw [this]
        cases atlC e.cells[off]? with
        | none => rfl
        | some m =>
          show ((over e off (.d (.int .i64 n))).map _).map _ = atsF v (stF H o i es (over e off (.d (.int .i64 n))))
          cases over e off (.d (.int .i64 n)) <;> rfl
    · rfl
    · rfl
    · rfl
  | _ => rfl
theorem i64_or (x : AV) : (∃ n, x = .d (.int .i64 n)) ∨ (i64D x = none ∧ ∀ n, x ≠ .d (.int .i64 n)) := by
  unfold i64D
  split
  · exact .inl ⟨_, rfl⟩
  · rename_i h; exact .inr ⟨rfl, fun n e => h n e⟩
theorem s_ats' {p x : Opd} : step F E H dst (.ats p x) = atsX H (p.ev E) (x.ev E) := by
  show (i64D (x.ev E)).bind _ = _
  rcases i64_or (x.ev E) with ⟨n, e⟩ | ⟨e1, e2⟩
  · rw [e]
    show (atsA H _ (p.ev E)).map _ = atsI H (p.ev E) n (atlV H (p.ev E))
    rw [ats_st]; unfold atsI; cases atlV H (p.ev E) <;> rfl
  · rw [e1]; unfold atsX; split <;> simp_all
def atcI (H : Heap) (p : AV) (old n : Int) : Option Int → Option (AV × Heap)
  | some v => if v = old then atsF (.bool true) (stV H 1 (.d (.int .i64 n)) p) else some (.d (.bool false), H)
  | none => none
def atcY (H : Heap) (p : AV) (old : Int) : AV → Option (AV × Heap)
  | .d (.int .i64 n) => atcI H p old n (atlV H p)
  | _ => none
def atcX (H : Heap) (p y : AV) : AV → Option (AV × Heap)
  | .d (.int .i64 old) => atcY H p old y
  | _ => none
theorem s_atc' {p x y : Opd} : step F E H dst (.atc p x y) = atcX H (p.ev E) (y.ev E) (x.ev E) := by
  show (i64D (x.ev E)).bind _ = _
  rcases i64_or (x.ev E) with ⟨old, e⟩ | ⟨e1, e2⟩
  · rw [e]
    show (i64D (y.ev E)).bind _ = atcY H (p.ev E) old (y.ev E)
    rcases i64_or (y.ev E) with ⟨n, e⟩ | ⟨e1, e2⟩
    · rw [e]
      show (atlA H (p.ev E)).bind _ = atcI H (p.ev E) old n (atlV H (p.ev E))
      rw [atlV_eq]
      have := ats_st (H := H) (p := p.ev E) (n := n) (v := .bool true)
      cases hv : atlV H (p.ev E) with
      | none => rfl
      | some v =>
        rw [hv] at this
        show (if v = old then (atsA H n (p.ev E)).map _ else _) = if v = old then _ else _
        rw [this]
    · rw [e1]; unfold atcY; split <;> simp_all
  · rw [e1]; unfold atcX; split <;> simp_all
def lkpR (ok : Bool) (z : D) (q : Option D) : D := if ok then .tup [q.getD z, .bool q.isSome] else q.getD z
def lkpO (ok : Bool) (z : D) (n : Int) : Option Obj → Option AV
  | some (.mp es) => some (.d (lkpR ok z (mget n es)))
  | _ => none
def lkpI (ok : Bool) (z : D) (r : Option Obj) : AV → Option AV
  | .d (.int .i64 n) => lkpO ok z n r
  | _ => none
def lkpV (H : Heap) (ok : Bool) (z : D) (k : AV) : AV → Option AV
  | .mpr o => lkpI ok z (look o H) k
  | _ => none
theorem s_lkp' {ok : Bool} {z : D} {x k : Opd} : step F E H dst (.lkp ok z x k) = retA H (lkpV H ok z (k.ev E) (x.ev E)) := by
  have e : lkpA H ok z (x.ev E) (k.ev E) = lkpV H ok z (k.ev E) (x.ev E) := by
    generalize x.ev E = xv
    generalize k.ev E = kv
    unfold lkpA
    split
    · rename_i o n
      simp only [lkpV, lkpI]
      generalize look o H = q
      rcases q with _ | (es | m | m | m) <;> rfl
    · rename_i hno
      unfold lkpV
      split
      · rename_i o
        unfold lkpI
        split
        · exact absurd rfl (hno _ _ rfl)
        · rfl
      · rfl
  show (lkpA H ok z (x.ev E) (k.ev E)).map _ = _
  rw [e, retA_eq]
def mupO (H : Heap) (o : Nat) (n : Int) (y : D) : Option Obj → Option (AV × Heap)
  | some (.mp es) => some (.undef, setAt o (.mp (mset n y es)) H)
  | _ => none
def mupY (H : Heap) (o : Nat) (n : Int) : AV → Option (AV × Heap)
  | .d y => mupO H o n y (look o H)
  | _ => none
def mupI (H : Heap) (o : Nat) (y : AV) : AV → Option (AV × Heap)
  | .d (.int .i64 n) => mupY H o n y
  | _ => none
def mupV (H : Heap) (k y : AV) : AV → Option (AV × Heap)
  | .mpr o => mupI H o y k
  | _ => none
theorem s_mup' {x k v : Opd} : step F E H dst (.mup x k v) = mupV H (k.ev E) (v.ev E) (x.ev E) := by
  show mupA H (x.ev E) (k.ev E) (v.ev E) = _
  generalize x.ev E = xv
  generalize k.ev E = kv
  generalize v.ev E = yv
  unfold mupA
  split
  · rename_i o n y
    simp only [mupV, mupI, mupY]
    generalize look o H = q
    rcases q with _ | (es | m | m | m) <;> rfl
  · rename_i hno
    unfold mupV
    split
    · unfold mupI
      split
      · unfold mupY
        split
        · exact absurd rfl (hno _ _ _ rfl rfl)
        · rfl
      · rfl
    · rfl
theorem s_clr' {n : Nat} {x : Opd} : step F E H dst (.clr n x) = clrV H n (x.ev E) := by
  show astep E H dst (.clr n x) = _
  simp only [astep]
  generalize x.ev E = xv
  split
  · rename_i o off len
    simp only [clrV]
    generalize look o H = q
    rcases q with _ | (es | m | m | m) <;> rfl
  · unfold clrV; split <;> simp_all
theorem s_st' {n : Nat} {p x : Opd} : step F E H dst (.st n p x) = stV H n (x.ev E) (p.ev E) := by
  show astep E H dst (.st n p x) = _
  simp only [astep]
  generalize p.ev E = pv
  split
  · rename_i o i off
    simp only [stV]
    split
    · generalize look o H = q
      rcases q with _ | (es | m | m | m)
      · rfl
      · show es[i]?.bind _ = stE H o i off es (x.ev E) es[i]?
        cases es[i]? with
        | none => rfl
        | some e =>
          show Option.map _ (over e off (x.ev E)) = stF H o i es (over e off (x.ev E))
          cases over e off (x.ev E) <;> rfl
      · rfl
      · rfl
      · rfl
    · rfl
  · unfold stV; split <;> simp_all
def fldV (H : Heap) (ag : Bool) (off n : Nat) : AV → Option (AV × Heap)
  | .d (.agg cs) => retD H (partD ag off n (.agg cs))
  | .agg cs => retA H (partA ag off n (.agg cs))
  | _ => none
theorem s_fld' {ag : Bool} {off n : Nat} {x : Opd} : step F E H dst (.fld ag off n x) = fldV H ag off n (x.ev E) := by
  show astep E H dst (.fld ag off n x) = _
  simp only [astep]
  generalize x.ev E = v
  split
  · exact retD_eq
  · exact retA_eq
  · unfold fldV; split <;> simp_all
def fldW (ag : Bool) (off n : Nat) : AV → Option AV
  | .d (.agg cs) => dO (partD ag off n (.agg cs))
  | .agg cs => partA ag off n (.agg cs)
  | _ => none
theorem fldW_eq {ag : Bool} {off n : Nat} {v : AV} : fldA ag off n v = fldW ag off n v := by
  unfold fldA
  split
  · exact dO_eq
  · rfl
  · unfold fldW; split <;> simp_all
def idxaI (H : Heap) (ag : Bool) (len n : Nat) (v : AV) : Option Int → Option (AV × Heap)
  | some k => if 0 ≤ k ∧ k < len then retA H (fldW ag (k.toNat * n) n v) else none
  | none => none
theorem s_idxa' {ag : Bool} {len n : Nat} {x i : Opd} : step F E H dst (.idxa ag len n x i) = idxaI H ag len n (x.ev E) (idxOf (i.ev E)) := by
  show (idxOf (i.ev E)).bind _ = _
  unfold idxaI
  cases idxOf (i.ev E) with
  | none => rfl
  | some k => simp only [Option.bind_some, fldW_eq, retA_eq]
def binV (H : Heap) (op : BinOp) : AV → AV → Option (AV × Heap)
  | .d a, .d b => retD H (binD op a b)
  | _, _ => none
theorem s_bin' {op : BinOp} {x y : Opd} : step F E H dst (.bin op x y) = binV H op (x.ev E) (y.ev E) := by
  show astep E H dst (.bin op x y) = _
  simp only [astep]
  generalize x.ev E = v
  generalize y.ev E = u
  split
  · exact retD_eq
  · unfold binV; split <;> simp_all
def eqsV (H : Heap) (ng : Bool) (n : Nat) (ls : List (Nat × Nat)) : AV → AV → Option (AV × Heap)
  | .d (.agg a), .d (.agg b) => if a.length = n ∧ b.length = n then retB H ng (eqCells a b ls) else none
  | _, _ => none
theorem s_eqs' {ng : Bool} {n : Nat} {ls : List (Nat × Nat)} {x y : Opd} : step F E H dst (.eqs ng n ls x y) = eqsV H ng n ls (x.ev E) (y.ev E) := by
  show astep E H dst (.eqs ng n ls x y) = _
  simp only [astep]
  generalize x.ev E = v
  generalize y.ev E = u
  split
  · rename_i a b
    simp only [eqsV]
    split
    · cases eqCells a b ls <;> rfl
    · rfl
  · unfold eqsV; split <;> simp_all
def idxB (H : Heap) : Option UInt8 → Option (AV × Heap)
  | some b => some (.d (.int .u8 b.toNat), H)
  | none => none
def idxV (H : Heap) : AV → Option Int → Option (AV × Heap)
  | .d (.str s), some k => if 0 ≤ k then idxB H s[k.toNat]? else none
  | _, _ => none
theorem s_idx' {x i : Opd} : step F E H dst (.idx x i) = idxV H (x.ev E) (idxOf (i.ev E)) := by
  show astep E H dst (.idx x i) = _
  simp only [astep]
  generalize x.ev E = v
  generalize idxOf (i.ev E) = u
  split
  · rename_i s k
    simp only [idxV]
    split
    · unfold idxB; cases s[k.toNat]? <;> rfl
    · rfl
  · unfold idxV; split <;> simp_all
def bdI (y : Nat) : Option Int → Option Nat
  | some n => if 0 ≤ n ∧ n ≤ y then some n.toNat else none
  | none => none
def bd (dflt y : Nat) : Option AV → Option Nat
  | none => some dflt
  | some v => bdI y (idxOf v)
theorem bd_eq {x : Option AV} {dflt y : Nat} : bound x dflt y = bd dflt y x := by
  cases x with
  | none => rfl
  | some v =>
    simp only [bound, bd]
    unfold bdI
    cases idxOf v <;> rfl
def slM (es : List D) (h l : Nat) (hi : Option AV) : Option AV → Option AV
  | none => some (.d (.sl ((es.take h).drop l)))
  | some m => if idxOf m = some (h : Int) ∧ hi.isSome then some (.xsl ((es.take h).drop l)) else none
def xslM (es : List D) (h l : Nat) (hi : Option AV) : Option AV → Option AV
  | none => some (if h = es.length then .xsl ((es.take h).drop l) else .d (.sl ((es.take h).drop l)))
  | some m => if idxOf m = some (h : Int) ∧ hi.isSome then some (.xsl ((es.take h).drop l)) else none
def accM (o : Nat) (es : List D) (h : Nat) (hi : Option AV) : Option AV → Option AV
  | none => some (.acc o (es.take h))
  | some m => if idxOf m = some (h : Int) ∧ hi.isSome then some (.acc o (es.take h)) else none
def slL (es : List D) (hi mx : Option AV) (h : Nat) : Option Nat → Option AV
  | some l => slM es h l hi mx
  | none => none
def slH (es : List D) (lo hi mx : Option AV) : Option Nat → Option AV
  | some h => slL es hi mx h (bd 0 h lo)
  | none => none
def xslL (es : List D) (hi mx : Option AV) (h : Nat) : Option Nat → Option AV
  | some l => xslM es h l hi mx
  | none => none
def xslH (es : List D) (lo hi mx : Option AV) : Option Nat → Option AV
  | some h => xslL es hi mx h (bd 0 h lo)
  | none => none
def accL (o : Nat) (es : List D) (hi mx : Option AV) (h : Nat) : Option Nat → Option AV
  | some l => if l = 0 then accM o es h hi mx else none
  | none => none
def accH (o : Nat) (es : List D) (lo hi mx : Option AV) : Option Nat → Option AV
  | some h => accL o es hi mx h (bd 0 h lo)
  | none => none
def oslO (n o off h l : Nat) : Option Obj → Option AV
  | some (.row es) => if l = 0 ∨ es.head?.map AV.size = some n then some (.osl o (off + l) (h - l)) else none
  | _ => none
def oslL (H : Heap) (n o off h : Nat) : Option Nat → Option AV
  | some l => oslO n o off h l (look o H)
  | none => none
def oslH (H : Heap) (n o off : Nat) (lo : Option AV) : Option Nat → Option AV
  | some h => oslL H n o off h (bd 0 h lo)
  | none => none
def oslM (H : Heap) (n o off len : Nat) (lo hi : Option AV) : Option AV → Option AV
  | none => oslH H n o off lo (bd len len hi)
  | some _ => none
def slcV (H : Heap) (n : Nat) (lo hi mx : Option AV) : AV → Option AV
  | .d (.sl es) => if allSize n es then slH es lo hi mx (bd es.length es.length hi) else none
  | .xsl es => if allSize n es then xslH es lo hi mx (bd es.length es.length hi) else none
  | .acc o es => if allSize n es then accH o es lo hi mx (bd es.length es.length hi) else none
  | .osl o off len => oslM H n o off len lo hi mx
  | _ => none
theorem slcV_eq {n : Nat} {lo hi mx : Option AV} {v : AV} : slcA H n lo hi mx v = slcV H n lo hi mx v := by
  unfold slcA
  split
  · rename_i es
    simp only [slcV]
    split
    · simp only [bd_eq]
      unfold slH
      cases bd es.length es.length hi with
      | none => rfl
      | some h =>
        simp only [Option.bind_some]
        unfold slL
        cases bd 0 h lo with
        | none => rfl
        | some l => simp only [Option.bind_some]; cases mx <;> rfl
    · rfl
  · rename_i es
    simp only [slcV]
    split
    · simp only [bd_eq]
      unfold xslH
      cases bd es.length es.length hi with
      | none => rfl
      | some h =>
        simp only [Option.bind_some]
        unfold xslL
        cases bd 0 h lo with
        | none => rfl
        | some l => simp only [Option.bind_some]; cases mx <;> rfl
    · rfl
  · rename_i o es
    simp only [slcV]
    split
    · simp only [bd_eq]
      unfold accH
      cases bd es.length es.length hi with
      | none => rfl
      | some h =>
        simp only [Option.bind_some]
        unfold accL
        cases bd 0 h lo with
        | none => rfl
        | some l => simp only [Option.bind_some]; cases mx <;> rfl
    · rfl
  · rename_i o off len
    cases mx with
    | some m => rfl
    | none =>
      simp only [bd_eq, slcV, oslM]
      unfold oslH
      cases bd len len hi with
      | none => rfl
      | some h =>
        simp only [Option.bind_some]
        unfold oslL
        cases bd 0 h lo with
        | none => rfl
        | some l => simp only [Option.bind_some]; unfold oslO; rfl
  · unfold slcV; split <;> simp_all
theorem s_slc' {n : Nat} {x : Opd} {lo hi mx : Option Opd} : step F E H dst (.slc n x lo hi mx) = retA H (slcV H n (evO E lo) (evO E hi) (evO E mx) (x.ev E)) := by
  show (slcA H n (lo.map (·.ev E)) (hi.map (·.ev E)) (mx.map (·.ev E)) (x.ev E)).map (fun v => (v, H)) = _
  rw [retA_eq, slcV_eq, mapO_ev, mapO_ev, mapO_ev]
def slsL (H : Heap) (s : List UInt8) (h : Nat) : Option Nat → Option (AV × Heap)
  | some l => some (.d (.str ((s.take h).drop l)), H)
  | none => none
def slsH (H : Heap) (s : List UInt8) (lo : Option AV) : Option Nat → Option (AV × Heap)
  | some h => slsL H s h (bd 0 h lo)
  | none => none
def slsV (H : Heap) (lo hi : Option AV) : AV → Option (AV × Heap)
  | .d (.str s) => slsH H s lo (bd s.length s.length hi)
  | _ => none
theorem s_sls' {x : Opd} {lo hi : Option Opd} : step F E H dst (.sls x lo hi) = slsV H (evO E lo) (evO E hi) (x.ev E) := by
  show astep E H dst (.sls x lo hi) = _
  simp only [astep]
  generalize x.ev E = v
  split
  · rename_i s
    simp only [bd_eq, mapO_ev, slsV]
    unfold slsH
    cases bd s.length s.length (evO E hi) with
    | none => rfl
    | some h =>
      simp only [Option.bind_some]
      unfold slsL
      cases bd 0 h (evO E lo) <;> rfl
  · unfold slsV; split <;> simp_all
def extV (H : Heap) (i : Nat) : AV → Option (AV × Heap)
  | .d (.tup vs) => retD H vs[i]?
  | .tup vs => retA H vs[i]?
  | _ => none
theorem s_ext' {x : Opd} {i : Nat} : step F E H dst (.ext x i) = extV H i (x.ev E) := by
  show astep E H dst (.ext x i) = _
  simp only [astep]
  generalize x.ev E = v
  split
  · exact retD_eq
  · exact retA_eq
  · unfold extV; split <;> simp_all
def lenO (H : Heap) : Option (List D) → Option (AV × Heap)
  | some es => some (.d (.int .i64 es.length), H)
  | none => none
def lenV (H : Heap) : AV → Option (AV × Heap)
  | .osl _ _ len => some (.d (.int .i64 len), H)
  | .d (.sl es) => some (.d (.int .i64 es.length), H)
  | .acc _ es => some (.d (.int .i64 es.length), H)
  | .xsl es => some (.d (.int .i64 es.length), H)
  | y => lenO H (slD y)
theorem s_len' {x : Opd} : step F E H dst (.len x) = lenV H (x.ev E) := by
  show astep E H dst (.len x) = _
  simp only [astep]
  generalize x.ev E = v
  split
  · rfl
  · unfold lenV
    split
    · simp_all
    · rfl
    · rfl
    · rfl
    · unfold lenO; cases slD v <;> rfl
def mmV (H : Heap) (mx : Bool) : List AV → Option (AV × Heap)
  | [] => none
  | y :: ys => retA H (mmD mx y ys)
theorem s_mm' {mx : Bool} {xs : List Opd} : step F E H dst (.mm mx xs) = mmV H mx (evs E xs) := by
  show astep E H dst (.mm mx xs) = _
  simp only [astep, map_evs]
  cases evs E xs with
  | nil => rfl
  | cons y ys => exact retA_eq
theorem s_mkfn' {f : FuncId} {cs : List Opd} : step F E H dst (.mkfn f cs) = some (AV.mkFn f (evs E cs), H) := by
  show astep E H dst (.mkfn f cs) = _
  simp only [astep, map_evs]
def buildV (H : Heap) : Option (List AV) → Option (AV × Heap)
  | some cs => some (AV.mkAgg cs, H)
  | none => none
theorem s_build' {z : List AV} {ps : List (Nat × Nat × Opd)} : step F E H dst (.build z ps) = buildV H (fillA z (evB E ps)) := by
  show astep E H dst (.build z ps) = _
  simp only [astep, mapB_ev]
  unfold buildV
  cases fillA z (evB E ps) <;> rfl
def bslD (E : Env) (H : Heap) (dst len : Nat) (es : List AV) : Option (List D) → Option (AV × Heap)
  | some ds => some (.xsl ds, H)
  | none => if refsEnv dst E = false ∧ refsHeap dst H = false then some (.osl dst 0 len, setAt dst (.row es) H) else none
def bslE (E : Env) (H : Heap) (dst len : Nat) : Option (List AV) → Option (AV × Heap)
  | some es => bslD E H dst len es (allD es)
  | none => none
theorem s_bsl' {len n : Nat} {z : AV} {ps : List (Nat × Opd)} : step F E H dst (.bsl len n z ps) = if z.size = n ∧ szF n (evF E ps) = true then bslE E H dst len (fillE (List.replicate len z) (evF E ps)) else none := by
  show astep E H dst (.bsl len n z ps) = _
  simp only [astep, mapF_ev, all_sz]
  split
  · unfold bslE
    cases fillE (List.replicate len z) (evF E ps) with
    | none => rfl
    | some es => simp only [Option.bind_some]; unfold bslD; rfl
  · rfl
def b2sB (H : Heap) : Option (List UInt8) → Option (AV × Heap)
  | some s => some (.d (.str s), H)
  | none => none
def b2sV (H : Heap) : Option (List D) → Option (AV × Heap)
  | some es => b2sB H (bytesD es)
  | none => none
theorem s_b2s' {x : Opd} : step F E H dst (.b2s x) = b2sV H (slD (x.ev E)) := by
  show astep E H dst (.b2s x) = _
  simp only [astep]
  unfold b2sV
  cases slD (x.ev E) with
  | none => rfl
  | some es => simp only [Option.bind_some]; unfold b2sB; cases bytesD es <;> rfl
def byD (s : List UInt8) : List D := s.map fun b => .int .u8 b.toNat
theorem s_s2b' {x : Opd} : step F E H dst (.s2b x) = match x.ev E with | .d (.str s) => some (.d (.sl (byD s)), H) | _ => none := rfl
def s2bV (H : Heap) : AV → Option (AV × Heap)
  | .d (.str s) => some (.d (.sl (byD s)), H)
  | _ => none
theorem s_s2b'' {x : Opd} : step F E H dst (.s2b x) = s2bV H (x.ev E) := by
  rw [s_s2b']; unfold s2bV; rfl
def srcO (off len : Nat) : Option Obj → Option (List D)
  | some (.row es) => srcL len (allD ((es.drop off).take len))
  | _ => none
  where srcL (len : Nat) : Option (List D) → Option (List D)
    | some ds => if ds.length = len then some ds else none
    | none => none
def srcV (H : Heap) : AV → Option (List D)
  | .osl o off len => srcO off len (look o H)
  | .nl _ => some []
  | y => slD y
theorem srcV_eq {v : AV} : srcD H v = srcV H v := by
  unfold srcD
  split
  · rename_i o off len
    simp only [srcV]
    generalize look o H = q
    rcases q with _ | (es | m | m | m)
    · rfl
    · show (allD ((es.drop off).take len)).bind _ = srcO.srcL len (allD ((es.drop off).take len))
      cases allD ((es.drop off).take len) <;> rfl
    · rfl
    · rfl
    · rfl
  · rfl
  · unfold srcV; split <;> simp_all
def appO (H : Heap) (o n : Nat) (es ys : List D) : Option Obj → Option (AV × Heap)
  | some (.acc m) => if es.length = m ∧ allSize n (es ++ ys) ∧ (es ++ ys).length ≤ LIM then some (.acc o (es ++ ys), setAt o (.acc (m + ys.length)) H) else none
  | _ => none
def appV (E : Env) (H : Heap) (dst n : Nat) (ys : List D) : AV → Option (AV × Heap)
  | .xsl es => if (ys.isEmpty && !es.isEmpty) = true then (if allSize n es = true then some (.xsl es, H) else none) else if allSize n (es ++ ys) ∧ (es ++ ys).length ≤ LIM ∧ refsEnv dst E = false ∧ refsHeap dst H = false then some (.acc dst (es ++ ys), setAt dst (.acc (es.length + ys.length)) H) else none
  | .acc o es => appO H o n es ys (look o H)
  | _ => none
theorem appV_eq {n : Nat} {ys : List D} {v : AV} : appA E H dst n ys v = appV E H dst n ys v := by
  unfold appA
  split
  · rfl
  · simp only [appV]; unfold appO; rfl
  · unfold appV; split <;> simp_all
def appY (E : Env) (H : Heap) (dst n : Nat) (v : AV) : Option (List D) → Option (AV × Heap)
  | some ys => appV E H dst n ys v
  | none => none
theorem s_app' {n : Nat} {x y : Opd} : step F E H dst (.app n x y) = appY E H dst n (x.ev E) (srcV H (y.ev E)) := by
  show astep E H dst (.app n x y) = _
  simp only [astep, srcV_eq]
  unfold appY
  cases srcV H (y.ev E) with
  | none => rfl
  | some ys => simp only [Option.bind_some, appV_eq]
def appsV (E : Env) (H : Heap) (dst : Nat) (v : AV) : AV → Option (AV × Heap)
  | .d (.str s) => appV E H dst 1 (byD s) v
  | _ => none
theorem s_apps' {x y : Opd} : step F E H dst (.apps x y) = appsV E H dst (x.ev E) (y.ev E) := by
  show astep E H dst (.apps x y) = _
  simp only [astep]
  generalize y.ev E = v
  split
  · exact appV_eq
  · unfold appsV; split <;> simp_all
def resO (H : Heap) (ag : Bool) (sz : Nat) : Option AV → Option AV
  | some v => ldV H ag sz v
  | none => none
theorem res_c {n sz : Nat} {ag : Bool} : ARes.ev ⟨E, H⟩ (.c n ag sz) = resO H ag sz (look n E) := by
  show (look n E).bind (ldA H ag sz) = _
  cases look n E with
  | none => rfl
  | some v => exact ldV_eq
theorem res_t {n : Nat} : ARes.ev ⟨E, H⟩ (.t n) = look n E := rfl
def consP (v : Option AV) : Option (List AV) → Option (List AV)
  | some vs => consQ vs v
  | none => none
  where consQ (vs : List AV) : Option AV → Option (List AV)
    | some v => some (v :: vs)
    | none => none
def resL (S : St) : List ARes → Option (List AV)
  | [] => some []
  | r :: rs => consP (r.ev S) (resL S rs)
theorem resL_eq {S : St} {rs : List ARes} : rs.mapM (ARes.ev S) = resL S rs := by
  induction rs with
  | nil => rfl
  | cons r rs ih =>
    rw [List.mapM_cons, ih]
    simp only [resL]
    cases r.ev S with
    | none => cases resL S rs <;> rfl
    | some v => cases resL S rs <;> rfl
def tupO : Option (List AV) → Option AV
  | some vs => some (AV.mkTup vs)
  | none => none
theorem res_one {S : St} {r : ARes} : resA S [r] = r.ev S := rfl
theorem res_nil {S : St} : resA S [] = some (AV.mkTup []) := rfl
theorem res_two {S : St} {a b : ARes} {l : List ARes} : resA S (a :: b :: l) = tupO (resL S (a :: b :: l)) := by
  show ((a :: b :: l).mapM (ARes.ev S)).map AV.mkTup = _
  rw [resL_eq]
  cases resL S (a :: b :: l) <;> rfl
end Go.Sim
