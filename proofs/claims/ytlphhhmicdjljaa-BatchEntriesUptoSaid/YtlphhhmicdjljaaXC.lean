/-
  A call by a sound meaning of functions is sound.
-/
import Derived.Test.YtlphhhmicdjljaaXB
namespace Go.Sim
set_option linter.unusedSimpArgs false
set_option linter.unusedVariables false
open Go (World Value Addr TypeId Act)

variable {P : Program}

theorem toD_sealed {C : Ctx} {S : St} {a : Act} {w : World} {ι : Inj} {R : Nat → Prop} (hr : Rel C S a w ι R) {x : AV} {u : Value} (h : VA w R ι (mark S.heap) x u) {d : D} {os : List Nat} (hd : toD S.heap x = some d) (ho : ∀ o ∈ x.objs, o ∈ os) :
    Rd w (Sealed R ι os) (.v d u) := toD_ok hr h hd ho

/-- A CALL. -/
theorem callA0_ok {F : Sem1} (hF : FOK P F) {C : Ctx} {S : St} {a : Act} {w : World} {ι : Inj} {R : Nat → Prop} {dst : Nat} {ms : List Bool} {f : FuncId} {args : List AV} {v : AV} {δ : Heap} {us : List Value}
    (h : callA0 F S.env S.heap dst ms f args = some (v, δ)) (hr : Rel C S a w ι R) (hv : VAs w R ι (mark S.heap) args us) :
    Calls P f us.toArray w fun e w' => ∃ u ι' R', e = .returned u ∧ Rel C ⟨S.env, putsH δ S.heap⟩ a w' ι' R' ∧ VA w' R' ι' (mark (putsH δ S.heap)) v u := by
  unfold callA0 at h
  obtain ⟨as, has, h⟩ := Option.bind_eq_some_iff.1 h
  have hnod : (namesOf S.heap ms args).Nodup := namesOf_nodup _ _ _
  have hkept : ∀ o, o ∈ keptObjs ms args → o ∈ namesOf S.heap ms args := fun o ho => namesOf_mem ho
  obtain ⟨hlen, hget⟩ := callArgs_get has
  clear has
  generalize hns : namesOf S.heap ms args = ns at *
  generalize hdob : dataObjs ms args = dob at *
  unfold callB at h
  split at h
  · rename_i hc
    simp only [Bool.and_eq_true] at hc
    obtain ⟨hok, hdis⟩ := hc
    obtain ⟨⟨r, os'⟩, hf, h⟩ := Option.bind_eq_some_iff.1 h
    unfold callC at h
    split at h
    · rename_i hc2
      simp only [Bool.and_eq_true] at hc2
      obtain ⟨hfresh, hflat⟩ := hc2
      cases h
      generalize hρ : toCaller ns dst = ρ
      have hrow : ∀ o ∈ ns, ∃ es, look o S.heap = some (.row es) ∧ ∀ q ∈ AV.objsL es, q ∈ ns := fun o ho => by
        have := List.all_eq_true.1 hok o ho
        split at this
        · rename_i es hes; exact ⟨es, hes, fun q hq => by simpa using List.all_eq_true.1 this q hq⟩
        · cases this
      have hrc : ∀ o, o ∈ ns → ρ (toCallee ns o) = o := fun o ho => by rw [← hρ]; exact toCaller_callee ho
      have hget0 : ∀ n ob, (n, ob) ∈ osOf S.heap ns → ∃ o ∈ ns, n = toCallee ns o ∧ ∃ es, look o S.heap = some (.row es) ∧ ob = (Obj.row es).ren (toCallee ns) := fun n ob hm => by
        obtain ⟨o, ho, h1, h2⟩ := mem_osOf hm
        obtain ⟨es, hes, _⟩ := hrow o ho
        exact ⟨o, ho, h1, es, hes, by rw [h2, hes]; rfl⟩
      have hlook0 : ∀ o ∈ ns, ∃ es, look o S.heap = some (.row es) ∧ look (toCallee ns o) (osOf S.heap ns) = some ((Obj.row es).ren (toCallee ns)) := fun o ho => by
        obtain ⟨es, hes, _⟩ := hrow o ho
        exact ⟨es, hes, by rw [look_osOf ho, hes]; rfl⟩
      have hosrow : ∀ p ∈ osOf S.heap ns, ∃ es, p.2 = .row es := fun ⟨n, ob⟩ hm => by
        obtain ⟨o, _, _, es, _, h2⟩ := hget0 n ob hm
        exact ⟨_, h2⟩
      obtain ⟨_, hG, hW⟩ := hF f _ _ r os' hf hosrow (fun i p hp => (osOf_get hnod i p hp).1)
      have hnlen : (osOf S.heap ns).length = ns.length := by simp [osOf]
      rw [hnlen] at hW
      -- the fresh names
      have hfr : ∀ n, (look n os').isSome = true → n < 1000000 → unref (ρ n) S ∧ ρ n ∉ ns ∧ ρ n = dst + 10000 * n := fun n hn hlt => by
        obtain ⟨ob, hob⟩ := Option.isSome_iff_exists.1 hn
        have := List.all_eq_true.1 hfresh _ (look_mem hob)
        have h0 : ρ n = dst + 10000 * n := by rw [← hρ]; simp [toCaller, hlt]
        simp only [Bool.or_eq_true, Bool.and_eq_true, Bool.not_eq_true', decide_eq_true_eq] at this
        rcases this with h1 | ⟨⟨h1, h2⟩, h3⟩
        · omega
        · exact ⟨by rw [h0]; exact ⟨h1, h2⟩, by rw [h0]; simpa using h3, h0⟩
      have hgiven : ∀ n, (look n os').isSome = true → 1000000 ≤ n → ∃ o ∈ ns, n = toCallee ns o ∧ ρ n = o := fun n hn hge => by
        rcases hW.names n hn with h1 | ⟨_, h1⟩
        · omega
        · obtain ⟨o, hi⟩ : ∃ o, ns[n - 1000000]? = some o := ⟨_, List.getElem?_eq_getElem (by omega)⟩
          have hm := List.mem_of_getElem? hi
          have hp := pos_get hnod hi
          have hn' : n = toCallee ns o := by simp only [toCallee, hp]; omega
          refine ⟨o, hm, hn', ?_⟩
          rw [hn', hrc _ hm]
      have hinj : ∀ n, (look n os').isSome = true → ∀ m, (look m os').isSome = true → ρ m = ρ n → m = n := fun n hn m hm e => by
        rcases Nat.lt_or_ge n 1000000 with h1 | h1 <;> rcases Nat.lt_or_ge m 1000000 with h2 | h2
        · have e1 := (hfr n hn h1).2.2
          have e2 := (hfr m hm h2).2.2
          omega
        · obtain ⟨o, ho, _, h3⟩ := hgiven m hm h2
          rw [h3] at e; rw [e] at ho
          exact absurd ho (hfr n hn h1).2.1
        · obtain ⟨o, ho, _, h3⟩ := hgiven n hn h1
          rw [h3] at e; rw [← e] at ho
          exact absurd ho (hfr m hm h2).2.1
        · obtain ⟨o, ho, h3, h4⟩ := hgiven n hn h1
          obtain ⟨o', ho', h5, h6⟩ := hgiven m hm h2
          rw [h3, h5, ← h4, ← h6, e]
      let ι0 : Inj := fun n => if (look n (osOf S.heap ns)).isSome = true then ι (ρ n) else none
      have hsome0 : ∀ n, (look n (osOf S.heap ns)).isSome = true → ∃ o ∈ ns, n = toCallee ns o ∧ ρ n = o := fun n hn => by
        obtain ⟨ob, hob⟩ := Option.isSome_iff_exists.1 hn
        obtain ⟨o, ho, h1, _⟩ := hget0 n ob (look_mem hob)
        exact ⟨o, ho, h1, by rw [h1, hrc o ho]⟩
      have hι0 : ∀ n b s, ι0 n = some (b, s) → (look n (osOf S.heap ns)).isSome = true ∧ ι (ρ n) = some (b, s) := fun n b s hh => by
        simp only [ι0] at hh
        split at hh
        · rename_i h1; exact ⟨h1, hh⟩
        · cases hh
      have hmS : ∀ o ∈ ns, mark S.heap o = none := fun o ho => by
        obtain ⟨es, hes, _⟩ := hrow o ho; simp [mark, hes]
      have hmo : ∀ o ∈ ns, mark (osOf S.heap ns) (toCallee ns o) = none := fun o ho => by
        obtain ⟨es, _, h2⟩ := hlook0 o ho
        simp [mark, h2, Obj.ren]
      have hs0 : ∀ o ∈ ns, (look (toCallee ns o) (osOf S.heap ns)).isSome = true := fun o ho => by
        obtain ⟨es, _, h2⟩ := hlook0 o ho; simp [h2]
      have toC : ∀ q ∈ ns, (∀ p, ι q = some p → ι0 (toCallee ns q) = some p) ∧ mark (osOf S.heap ns) (toCallee ns q) = mark S.heap q := fun q hq => by
        refine ⟨fun p hp => ?_, by rw [hmo q hq, hmS q hq]⟩
        simp only [ι0]; rw [if_pos (hs0 q hq), hrc q hq]; exact hp
      have hRn : ∀ o ∈ ns, ∀ b s, ι o = some (b, s) → ¬ R b := fun o ho b s hh => by
        obtain ⟨es, hes, _⟩ := hrow o ho
        cases hr.heap _ _ (look_mem hes) with
        | row k1 k2 => rw [hh] at k1; cases k1; exact k2
      let Rc : Nat → Prop := Sealed R ι dob
      have hdisj : ∀ o ∈ dob, o ∉ ns := fun o ho => by
        have := List.all_eq_true.1 hdis o ho; simpa using this
      have hRcn : ∀ o ∈ ns, ∀ b s, ι o = some (b, s) → ¬ Rc b := fun o ho b s hh => by
        rintro (hb | ⟨q, s', hq, hq'⟩)
        · exact hRn o ho b s hh hb
        · have := hr.inj _ _ _ _ _ hh hq'
          subst this
          exact hdisj _ hq ho
      have hRclt : ∀ b, Rc b → b < w.heap.size := by
        rintro b (hb | ⟨o, s, _, hb⟩)
        · exact hr.rlt b hb
        · exact (hr.own _ _ _ hb).2
      refine (hG w Rc ι0 us hRclt (fun n b s hh => ?_) (fun n n' b s s' h1 h2 => ?_) (fun n ob hm => ?_) ⟨by simp [hlen, hv.1], fun i x u h1 h2 => ?_⟩).mono fun e w' hh => ?_
      · obtain ⟨k1, k2⟩ := hι0 n b s hh
        obtain ⟨o, ho, _, k3⟩ := hsome0 n k1
        rw [k3] at k2
        exact ⟨(hr.own _ b s k2).2, hRcn o ho b s k2, k1⟩
      · obtain ⟨k1, k2⟩ := hι0 _ _ _ h1
        obtain ⟨k3, k4⟩ := hι0 _ _ _ h2
        obtain ⟨o, ho, k5, k6⟩ := hsome0 n k1
        obtain ⟨o', ho', k7, k8⟩ := hsome0 n' k3
        have := hr.inj _ _ _ _ _ k2 k4
        rw [k6, k8] at this
        rw [k5, k7, this]
      · obtain ⟨o, ho, h1, es, hes, h2⟩ := hget0 n ob hm
        obtain ⟨es', hes', hcl⟩ := hrow o ho
        rw [hes] at hes'; cases hes'
        have hob0 := (hr.heap _ _ (look_mem hes)).toR (R' := R) (.inl fun _ h => h) (fun _ h => h)
        have hobR : OB w Rc ι (mark S.heap) o (.row es) := by
          cases hr.heap _ _ (look_mem hes) with
          | row k1 k2 k3 k4 k5 k6 k7 => exact .row k1 (hRcn o ho _ _ k1) k3 k4 k5 k6 fun i e he j x hx => let ⟨j1, q, j2, j3⟩ := k7 i e he j x hx; ⟨j1, q, j2, j3.toR (.inl fun _ h => .inl h)⟩
        have := hobR.ren (ρ := toCallee ns) (ι' := ι0) (mk' := mark (osOf S.heap ns)) (by simp only [ι0]; rw [if_pos (hs0 o ho), hrc o ho]) fun q hq => toC q (hcl q (refsL_objs es q hq))
        rw [h1, h2]; exact this
      · rw [List.getElem?_map] at h1
        obtain ⟨y, hy, rfl⟩ := Option.map_eq_some_iff.1 h1
        have hlt := (List.getElem?_eq_some_iff.1 hy).1
        rw [hlen] at hlt
        have hx : args[i]? = some args[i] := List.getElem?_eq_getElem hlt
        rcases hget i _ y hx hy with ⟨h3, h4⟩ | ⟨d, h3, h4, h5⟩
        · subst h3
          exact ((hv.2 i _ u hx h2).toR (.inl fun _ h => .inl h)).ren fun q hq => toC q (hkept q (h4 q (refs_objs _ q hq)))
        · subst h4
          exact .d (toD_sealed hr (hv.2 i _ u hx h2) h3 h5)
      obtain ⟨u, ι', R', rfl, e1, e2, e3, e4, e5, e6, e7, e8, e9, e10, e11, e12, e13⟩ := hh
      let R2 : Nat → Prop := fun b => R' b ∧ (R b ∨ w.heap.size ≤ b)
      have hR2 : ∀ b, R b → R2 b := fun b hb => ⟨e7 b (.inl hb), .inl hb⟩
      have hlow : (∀ b, R' b → R2 b) ∨ flatRes (r, os') = true := by
        simp only [Bool.or_eq_true, List.isEmpty_iff] at hflat
        rcases hflat with h0 | h0
        · left
          intro b hb
          refine ⟨hb, ?_⟩
          rcases (e8 b hb).2 with h1 | h1
          · rcases h1 with h1 | ⟨o, s, ho, _⟩
            · exact .inl h1
            · rw [h0] at ho; cases ho
          · exact .inr h1
        · exact .inr h0
      have hlowV : VA w' R2 ι' (mark os') r u := e13.toR (hlow.imp id fun hf => by simp only [flatRes, Bool.and_eq_true] at hf; exact hf.1)
      have hlowO : ∀ n ob, (n, ob) ∈ os' → OB w' R2 ι' (mark os') n ob := fun n ob hm => (e12 n ob hm).toR (hlow.imp id fun hf => by
        simp only [flatRes, Bool.and_eq_true] at hf; exact List.all_eq_true.1 hf.2 _ hm) fun b hb => hb.1
      let im : Nat → Prop := fun o => ∃ n, (look n os').isSome = true ∧ ρ n = o
      have him : ∀ n, (look n os').isSome = true → im (ρ n) := fun n h1 => ⟨n, h1, rfl⟩
      have hcase0 : ∀ o, (∃ n, (look n os').isSome = true ∧ ρ n = o) ∨ ¬ im o := fun o => Classical.em _
      have : ∃ back : Nat → Nat, ∀ n, (look n os').isSome = true → back (ρ n) = n := by
        have hpt : ∀ o, ∃ m, ∀ n, (look n os').isSome = true → ρ n = o → m = n := fun o => by
          rcases hcase0 o with ⟨n, h1, h2⟩ | h1
          · exact ⟨n, fun m hm h3 => hinj m hm n h1 (h2.trans h3.symm)⟩
          · exact ⟨0, fun m hm h3 => absurd ⟨m, hm, h3⟩ h1⟩
        obtain ⟨g, hg⟩ := Classical.axiomOfChoice hpt
        exact ⟨g, fun n hn => hg _ n hn rfl⟩
      obtain ⟨back, hback⟩ := this
      have hex : ∃ ι2 : Inj, (∀ n, (look n os').isSome = true → ι2 (ρ n) = ι' n) ∧ (∀ o, ¬ im o → ι2 o = ι o) := by
        refine ⟨fun o => @ite _ (im o) (Classical.propDecidable _) (ι' (back o)) (ι o), fun n hn => ?_, fun o ho => ?_⟩
        · show @ite _ (im (ρ n)) (Classical.propDecidable _) (ι' (back (ρ n))) (ι (ρ n)) = ι' n
          rw [if_pos (him n hn), hback n hn]
        · show @ite _ (im o) (Classical.propDecidable _) (ι' (back o)) (ι o) = ι o
          rw [if_neg ho]
      obtain ⟨ι2, hι2, hι2n⟩ := hex
      have hcase : ∀ o, (∃ n, (look n os').isSome = true ∧ ρ n = o) ∨ ¬ im o := fun o => Classical.em _
      have hm2 : ∀ n, (look n os').isSome = true → mark (putsH (renH ρ os') S.heap) (ρ n) = mark os' n := fun n h1 => by
        obtain ⟨ob, hob⟩ := Option.isSome_iff_exists.1 h1
        unfold mark
        rw [look_putsH, look_renH (hinj n h1), hob]
        cases ob <;> rfl
      have hm2n : ∀ o, ¬ im o → mark (putsH (renH ρ os') S.heap) o = mark S.heap o := fun o h1 => by
        unfold mark
        rw [look_putsH]
        cases hl : look o (renH ρ os') with
        | none => rfl
        | some ob =>
          exfalso
          obtain ⟨⟨n, ob'⟩, hm, he⟩ := List.mem_map.1 (look_mem hl)
          simp only [Prod.mk.injEq] at he
          exact h1 (he.1 ▸ him n (isSome_of_mem hm))
      have hKR : Keeps R w w' := fun b hb => e6 b (hr.rlt b hb) fun n s hn => by
        obtain ⟨k1, k2⟩ := hι0 _ _ _ hn
        obtain ⟨o, ho, _, k3⟩ := hsome0 n k1
        rw [k3] at k2
        exact hRn o ho b s k2 hb
      have hkeepc : ∀ o ∈ ns, (look (toCallee ns o) os').isSome = true ∧ ∃ es, look (toCallee ns o) os' = some (.row es) := fun o ho => by
        obtain ⟨es, hes⟩ := hW.keep (pos o ns) (pos_lt ho)
        exact ⟨by simp only [toCallee]; rw [hes]; rfl, es, hes⟩
      have hst : ∀ p, ¬ unref p S → Step w w' ι ι2 (mark S.heap) (mark (putsH (renH ρ os') S.heap)) p := fun p hp => by
        rcases hcase p with ⟨n, h1, rfl⟩ | h1
        · rcases Nat.lt_or_ge n 1000000 with h2 | h2
          · exact absurd (hfr n h1 h2).1 hp
          · obtain ⟨o, ho, h3, h4⟩ := hgiven n h1 h2
            have k0 := hs0 o ho
            obtain ⟨_, es, hes⟩ := hkeepc o ho
            rw [← h3] at hes k0
            have k1 : mark S.heap (ρ n) = none := by rw [h4]; exact hmS o ho
            have k2 : mark (putsH (renH ρ os') S.heap) (ρ n) = none := by rw [hm2 n h1]; simp [mark, hes]
            refine ⟨fun b s hh => ?_, fun b s hh => ?_, fun m hh => (by rw [k1] at hh; cases hh), fun m hh => (by rw [k2] at hh; cases hh)⟩
            · rw [hι2 n h1]; exact e9 n b s (by simp only [ι0, if_pos k0]; exact hh)
            · rw [k1]; simpa using e5 b (hr.own _ _ _ hh).2
        · refine Step.other (hι2n p h1) (hm2n p h1) fun b s hh => e6 b (hr.own _ _ _ hh).2 fun n s' hn => ?_
          obtain ⟨k1, k2⟩ := hι0 _ _ _ hn
          obtain ⟨o, ho, k3, k4⟩ := hsome0 n k1
          have := hr.inj _ _ _ _ _ hh k2
          subst this
          exact h1 ⟨n, by rw [k3]; exact (hkeepc o ho).1, rfl⟩
      have hnk : ∀ n b s, ι0 n = some (b, s) → ¬ C.keep b := fun n b s hn => (hr.own _ b s (hι0 n b s hn).2).1
      have hrel : Rel C ⟨S.env, putsH (renH ρ os') S.heap⟩ a w' ι2 R2 := by
        refine hr.change e1 e2 e3 e4 e5 (fun b hb => e6 b (Nat.lt_of_lt_of_le (hr.keepLt b hb) hr.grow) fun o s ho => hnk o b s ho hb) hR2 (fun b hb => (e8 b hb.1).1) (fun b hb => ?_) hKR ?_ ?_ (fun p hp => hst p fun hu => by rw [hu.1] at hp; cases hp) ?_
        · rcases hb.2 with h1 | h1
          · exact hr.rok b h1
          · exact .inr fun hkp => by have := hr.keepLt b hkp; have := hr.grow; omega
        · intro o b s ho
          rcases hcase o with ⟨n, h1, rfl⟩ | h1
          · rw [hι2 n h1] at ho
            obtain ⟨k1, k2 | k2⟩ := e10 n b s ho
            · exact ⟨hnk n b s k2, k1⟩
            · exact ⟨fun hkp => by have := hr.keepLt b hkp; have := hr.grow; omega, k1⟩
          · rw [hι2n o h1] at ho
            have := hr.own o b s ho
            exact ⟨this.1, by omega⟩
        · have mixed : ∀ n o b s s', (look n os').isSome = true → ¬ im o → ι' n = some (b, s) → ι o = some (b, s') → False := fun n o b s s' h1 h2 h3 h4 => by
            obtain ⟨_, k2 | k2⟩ := e10 n b s h3
            · obtain ⟨k3, k4⟩ := hι0 _ _ _ k2
              have := hr.inj _ _ _ _ _ h4 k4
              subst this
              exact h2 (him n h1)
            · have := (hr.own _ _ _ h4).2; omega
          intro o o' b s s' h1 h2
          rcases hcase o with ⟨n, k1, rfl⟩ | k1 <;> rcases hcase o' with ⟨n', k2, rfl⟩ | k2
          · rw [hι2 n k1] at h1; rw [hι2 n' k2] at h2; rw [e11 _ _ _ _ _ h1 h2]
          · rw [hι2 n k1] at h1; rw [hι2n _ k2] at h2; exact (mixed _ _ _ _ _ k1 k2 h1 h2).elim
          · rw [hι2n _ k1] at h1; rw [hι2 n' k2] at h2; exact (mixed _ _ _ _ _ k2 k1 h2 h1).elim
          · rw [hι2n _ k1] at h1; rw [hι2n _ k2] at h2; exact hr.inj _ _ _ _ _ h1 h2
        · intro o ob ho
          rcases mem_putsH ho with ho | ⟨ho, hno⟩
          · obtain ⟨⟨n, ob'⟩, hm, he⟩ := List.mem_map.1 ho
            cases he
            exact (hlowO n ob' hm).ren (hι2 n (isSome_of_mem hm)) fun q hq => by
              have h1 := hW.resH n ob' hm q hq
              exact ⟨fun p hp => by rw [hι2 q h1]; exact hp, hm2 q h1⟩
          · have h1 : ¬ im o := fun ⟨n, h1, h2⟩ => look_renH_none hno n h1 h2
            refine (hr.heap o ob ho).mono hR2 hKR (fun b s hb => ⟨by rw [hι2n o h1]; exact hb, ?_, ?_⟩) (fun h0 => by rw [hι2n o h1]; exact h0) fun p hp => hst p fun hu => by
              have := refsHeap_mem ho hu.2
              rw [hp] at this; cases this
            · refine e6 b (hr.own _ _ _ hb).2 fun n s' hn => ?_
              obtain ⟨k1, k2⟩ := hι0 _ _ _ hn
              obtain ⟨q, hq, k3, k4⟩ := hsome0 n k1
              have := hr.inj _ _ _ _ _ hb k2
              subst this
              exact h1 ⟨n, by rw [k3]; exact (hkeepc q hq).1, rfl⟩
            · intro hb'
              rcases hb'.2 with h3 | h3
              · exact h3
              · have := (hr.own _ _ _ hb).2; omega
      exact ⟨u, ι2, R2, rfl, hrel, hlowV.ren fun q hq => ⟨fun p hp => by rw [hι2 q (hW.res q hq)]; exact hp, hm2 q (hW.res q hq)⟩⟩
    · cases h
  · cases h

theorem callA0_callable {F : Sem1} (hF : FOK P F) {E : Env} {H : Heap} {dst : Nat} {ms : List Bool} {f : FuncId} {args : List AV} {p : AV × Heap} (h : callA0 F E H dst ms f args = some p) : callable P f = true := by
  unfold callA0 at h
  obtain ⟨as, has, h⟩ := Option.bind_eq_some_iff.1 h
  have hnod : (namesOf H ms args).Nodup := namesOf_nodup _ _ _
  unfold callB at h
  split at h
  · rename_i hc
    simp only [Bool.and_eq_true] at hc
    obtain ⟨⟨r, os'⟩, hf, _⟩ := Option.bind_eq_some_iff.1 h
    refine (hF f _ _ r os' hf (fun ⟨n, ob⟩ hm => ?_) (fun i p hp => (osOf_get hnod i p hp).1)).1
    obtain ⟨o, ho, _, h2⟩ := mem_osOf hm
    have := List.all_eq_true.1 hc.1 o ho
    split at this
    · rename_i es hes; exact ⟨_, by rw [h2, hes]; rfl⟩
    · cases this
  · cases h

theorem look_frzL {H : Heap} {o : Nat} : ∀ {os : List Nat}, look o (frzL H os) = if o ∈ os then some (.frz (mark H o)) else none := by
  intro os
  induction os with
  | nil => rfl
  | cons p os ih =>
    simp only [frzL, List.map_cons, look, List.mem_cons] at ih ⊢
    by_cases h : p = o
    · subst h; simp
    · rw [if_neg h, ih]
      by_cases h2 : o ∈ os
      · rw [if_pos h2, if_pos (.inr h2)]
      · rw [if_neg h2, if_neg]; rintro (rfl | h3)
        · exact h rfl
        · exact h2 h3
theorem mark_frz {H : Heap} {os : List Nat} : mark (putsH (frzL H os) H) = mark H := by
  funext o
  have : mark (putsH (frzL H os) H) o = match look o (putsH (frzL H os) H) with | some (.acc n) => some n | some (.frz m) => m | _ => none := rfl
  rw [this, look_putsH, look_frzL]
  by_cases h : o ∈ os
  · rw [if_pos h]; rfl
  · rw [if_neg h]; rfl
theorem Rel.freeze {C : Ctx} {S : St} {a : Act} {w : World} {ι : Inj} {R : Nat → Prop} (hr : Rel C S a w ι R) {os : List Nat} (hok : frzOk S.heap os = true) : Rel C ⟨S.env, putsH (frzL S.heap os) S.heap⟩ a w ι (Sealed R ι os) := by
  have hR : ∀ b, R b → Sealed R ι os b := fun b h => .inl h
  refine { hr with rlt := fun b hb => ?_, rok := fun b hb => ?_, r0 := fun b hb => .inl (hr.r0 b hb), env := fun t x hx => ?_, heap := fun o ob ho => ?_ }
  · rcases hb with hb | ⟨o, s, _, hb⟩
    · exact hr.rlt b hb
    · exact (hr.own _ _ _ hb).2
  · rcases hb with hb | ⟨o, s, _, hb⟩
    · exact hr.rok b hb
    · exact .inr (hr.own _ _ _ hb).1
  · obtain ⟨u, h1, h2⟩ := hr.env t x hx
    exact ⟨u, h1, by rw [mark_frz]; exact h2.toR (.inl hR)⟩
  · rw [mark_frz]
    rcases mem_putsH ho with ho | ⟨ho, hno⟩
    · obtain ⟨q, hq, he⟩ := List.mem_map.1 ho
      cases he
      obtain ⟨ob', hl⟩ := Option.isSome_iff_exists.1 (List.all_eq_true.1 hok _ hq)
      refine .frz fun b s hb => ⟨.inr ⟨_, s, hq, hb⟩, ?_⟩
      cases hr.heap _ _ (look_mem hl) with
      | row k1 _ _ k4 => rw [hb] at k1; cases k1; exact k4
      | acc _ k2 _ _ k5 => rw [hb] at k2; cases k2; exact k5
      | accN k1 => rw [hb] at k1; cases k1
      | frz k => exact (k b s hb).2
    · rw [look_frzL] at hno
      split at hno
      · cases hno
      · rename_i hne
        have hns : ∀ b s, ι o = some (b, s) → ¬ R b → ¬ Sealed R ι os b := fun b s hb hn => by
          rintro (h | ⟨o', s', ho', hb'⟩)
          · exact hn h
          · have := hr.inj _ _ _ _ _ hb hb'
            subst this; exact hne ho'
        cases hr.heap _ _ ho with
        | row k1 k2 k3 k4 k5 k6 k7 => exact .row k1 (hns _ _ k1 k2) k3 k4 k5 k6 fun i e he j x hx => let ⟨j1, q, j2, j3⟩ := k7 i e he j x hx; ⟨j1, q, j2, j3.toR (.inl hR)⟩
        | acc k1 k2 k3 k4 k5 k6 => exact .acc k1 k2 (hns _ _ k2 k3) k4 k5 k6
        | accN k1 => exact .accN k1
        | frz k => exact .frz fun b s hb => ⟨.inl (k b s hb).1, (k b s hb).2⟩
theorem putsH_append {δ ε H : Heap} : putsH (δ ++ ε) H = putsH δ (putsH ε H) := by
  induction δ with
  | nil => rfl
  | cons p δ ih => obtain ⟨o, ob⟩ := p; simp only [List.cons_append, putsH, ih]

/-- A CALL. -/
theorem callA_ok {F : Sem1} (hF : FOK P F) {C : Ctx} {S : St} {a : Act} {w : World} {ι : Inj} {R : Nat → Prop} {dst : Nat} {ms : List Bool} {f : FuncId} {args : List AV} {v : AV} {δ : Heap} {us : List Value}
    (h : callA F S.env S.heap dst ms f args = some (v, δ)) (hr : Rel C S a w ι R) (hv : VAs w R ι (mark S.heap) args us) :
    Calls P f us.toArray w fun e w' => ∃ u ι' R', e = .returned u ∧ Rel C ⟨S.env, putsH δ S.heap⟩ a w' ι' R' ∧ VA w' R' ι' (mark (putsH δ S.heap)) v u := by
  unfold callA at h
  split at h
  · obtain ⟨as, has, h⟩ := Option.bind_eq_some_iff.1 h
    unfold frzB at h
    split at h
    · rename_i hok
      obtain ⟨⟨v', δ'⟩, h1, h2⟩ := Option.map_eq_some_iff.1 h
      cases h2
      obtain ⟨hlen, hget⟩ := callArgs_get has
      have hr' := hr.freeze hok
      have := callA0_ok hF (S := ⟨S.env, putsH (frzL S.heap (dataObjs ms args)) S.heap⟩) h1 hr' (us := us) ⟨by rw [hlen]; exact hv.1, fun i x u hx hu => by
        have hlt := (List.getElem?_eq_some_iff.1 hx).1
        rw [hlen] at hlt
        have ha : args[i]? = some args[i] := List.getElem?_eq_getElem hlt
        rw [mark_frz]
        rcases hget i _ x ha hx with ⟨h3, _⟩ | ⟨d, h3, h4, h5⟩
        · subst h3; exact (hv.2 i _ u ha hu).toR (.inl fun _ h => .inl h)
        · subst h4; exact .d (toD_sealed hr (hv.2 i _ u ha hu) h3 h5)⟩
      simp only [putsH_append]
      exact this
    · cases h
  · exact callA0_ok hF h hr hv
theorem callA_callable {F : Sem1} (hF : FOK P F) {E : Env} {H : Heap} {dst : Nat} {ms : List Bool} {f : FuncId} {args : List AV} {p : AV × Heap} (h : callA F E H dst ms f args = some p) : callable P f = true := by
  unfold callA at h
  split at h
  · obtain ⟨as, _, h⟩ := Option.bind_eq_some_iff.1 h
    unfold frzB at h
    split at h
    · obtain ⟨q, h1, _⟩ := Option.map_eq_some_iff.1 h
      exact callA0_callable hF h1
    · cases h
  · exact callA0_callable hF h
end Go.Sim
