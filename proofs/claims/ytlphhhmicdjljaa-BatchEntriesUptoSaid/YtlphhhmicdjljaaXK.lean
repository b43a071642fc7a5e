/-
  The meaning of functions without a bound on the steps.
-/
import Derived.Test.YtlphhhmicdjljaaXJ
namespace Go.Sim
set_option linter.unusedSimpArgs false
set_option linter.unusedVariables false
open Go (World Value Addr TypeId Act)

variable {P : Program}

/-! ### Limits -/
open Classical in
noncomputable def lim {α : Type} (x : Nat → Option α) : Option α := if h : ∃ n, (x n).isSome = true then x (Classical.choose h) else none

def Mono {α : Type} (x : Nat → Option α) : Prop := ∀ n m a, n ≤ m → x n = some a → x m = some a

theorem Mono.of_succ {α : Type} {x : Nat → Option α} (h : ∀ n a, x n = some a → x (n + 1) = some a) : Mono x := by
  intro n m a hnm hx
  induction hnm with
  | refl => exact hx
  | step _ ih => exact h _ _ ih

theorem lim_iff {α : Type} {x : Nat → Option α} (h : Mono x) {a : α} : lim x = some a ↔ ∃ n, x n = some a := by
  unfold lim
  constructor
  · intro hl
    split at hl
    · exact ⟨_, hl⟩
    · cases hl
  · rintro ⟨n, hn⟩
    have hex : ∃ n, (x n).isSome = true := ⟨n, by rw [hn]; rfl⟩
    rw [dif_pos hex]
    have hs := Classical.choose_spec hex
    obtain ⟨b, hb⟩ := Option.isSome_iff_exists.1 hs
    have h1 := h _ (max n (Classical.choose hex)) a (Nat.le_max_left ..) hn
    have h2 := h _ (max n (Classical.choose hex)) b (Nat.le_max_right ..) hb
    rw [h1] at h2; cases h2
    exact hb

theorem opt_ext {α : Type} {x y : Option α} (h : ∀ a, x = some a ↔ y = some a) : x = y := by
  cases x with
  | some a => exact ((h a).1 rfl).symm
  | none =>
    cases y with
    | none => rfl
    | some a => exact absurd ((h a).2 rfl) (by simp)

theorem lim_const {α : Type} (x : Option α) : lim (fun _ => x) = x :=
  opt_ext fun a => (lim_iff (x := fun _ => x) (fun _ _ _ _ h => h)).trans ⟨fun ⟨_, h⟩ => h, fun h => ⟨0, h⟩⟩

theorem Mono.bind {α β : Type} {x : Nat → Option α} {g : Nat → α → Option β} (hx : Mono x) (hg : ∀ a, Mono fun n => g n a) : Mono fun n => (x n).bind (g n) := by
  intro n m b hnm h
  obtain ⟨a, h1, h2⟩ := Option.bind_eq_some_iff.1 h
  exact Option.bind_eq_some_iff.2 ⟨a, hx n m a hnm h1, hg a n m b hnm h2⟩

theorem lim_bind {α β : Type} {x : Nat → Option α} {g : Nat → α → Option β} (hx : Mono x) (hg : ∀ a, Mono fun n => g n a) : lim (fun n => (x n).bind (g n)) = (lim x).bind fun a => lim fun n => g n a := by
  refine opt_ext fun b => ?_
  rw [lim_iff (hx.bind hg)]
  constructor
  · rintro ⟨n, h⟩
    obtain ⟨a, h1, h2⟩ := Option.bind_eq_some_iff.1 h
    exact Option.bind_eq_some_iff.2 ⟨a, (lim_iff hx).2 ⟨n, h1⟩, (lim_iff (hg a)).2 ⟨n, h2⟩⟩
  · intro h
    obtain ⟨a, h1, h2⟩ := Option.bind_eq_some_iff.1 h
    obtain ⟨n, h3⟩ := (lim_iff hx).1 h1
    obtain ⟨m, h4⟩ := (lim_iff (hg a)).1 h2
    exact ⟨max n m, Option.bind_eq_some_iff.2 ⟨a, hx _ _ _ (Nat.le_max_left ..) h3, hg a _ _ _ (Nat.le_max_right ..) h4⟩⟩

theorem Mono.map {α β : Type} {x : Nat → Option α} {g : α → β} (hx : Mono x) : Mono fun n => (x n).map g := by
  intro n m b hnm h
  obtain ⟨a, h1, rfl⟩ := Option.map_eq_some_iff.1 h
  exact Option.map_eq_some_iff.2 ⟨a, hx n m a hnm h1, rfl⟩
theorem lim_map {α β : Type} {x : Nat → Option α} {g : α → β} (hx : Mono x) : lim (fun n => (x n).map g) = (lim x).map g := by
  refine opt_ext fun b => ?_
  rw [lim_iff hx.map]
  constructor
  · rintro ⟨n, h⟩
    obtain ⟨a, h1, rfl⟩ := Option.map_eq_some_iff.1 h
    exact Option.map_eq_some_iff.2 ⟨a, (lim_iff hx).2 ⟨n, h1⟩, rfl⟩
  · intro h
    obtain ⟨a, h1, rfl⟩ := Option.map_eq_some_iff.1 h
    obtain ⟨n, h2⟩ := (lim_iff hx).1 h1
    exact ⟨n, Option.map_eq_some_iff.2 ⟨a, h2, rfl⟩⟩

theorem Mono.const {α : Type} {x : Option α} : Mono fun _ => x := fun _ _ _ _ h => h

theorem Mono.ite {α : Type} {c : Prop} [Decidable c] {x y : Nat → Option α} (hx : Mono x) (hy : Mono y) : Mono fun n => if c then x n else y n := by
  by_cases h : c
  · simpa [h] using hx
  · simpa [h] using hy

/-! ### More steps, no other outcome -/
variable (G : FuncId → Option AFn)

noncomputable def callL : Sem1 := fun f args os => lim fun n => callF G n f args os
noncomputable def exL (c : ACode) (S : St) : Option (AExit × St) := lim fun n => exec (callF G n) n c S
noncomputable def loopL (ks : List Nat) (c : ACode) (S : St) : Option (AExit × St) := lim fun n => loopN ks (exec (callF G n) n c) n S

variable {G}

section mono
variable {F F' : Nat → Sem1} (hF : ∀ f args os, Mono fun n => F n f args os)
include hF

theorem callB_mono {E : Env} {H : Heap} {dst : Nat} {ns dob : List Nat} {f : FuncId} {as : List AV} : (Mono fun n => callB (F n) E H dst ns dob f as) := by
  unfold callB
  exact Mono.ite ((hF f _ _).bind (fun _ => Mono.const)) Mono.const
theorem callA0_mono {E : Env} {H : Heap} {dst : Nat} {ms : List Bool} {f : FuncId} {args : List AV} : Mono fun n => callA0 (F n) E H dst ms f args :=
  Mono.bind Mono.const fun _ => callB_mono hF
theorem frzB_mono {E : Env} {H : Heap} {dst : Nat} {ms : List Bool} {f : FuncId} {dob : List Nat} {as : List AV} : Mono fun n => frzB (F n) E H dst ms f dob as := by
  unfold frzB
  exact Mono.ite (Mono.map (callA0_mono hF)) Mono.const
theorem callA_mono {E : Env} {H : Heap} {dst : Nat} {ms : List Bool} {f : FuncId} {args : List AV} : Mono fun n => callA (F n) E H dst ms f args := by
  unfold callA
  exact Mono.ite (Mono.bind Mono.const fun _ => frzB_mono hF) (callA0_mono hF)
theorem callvA_mono {E : Env} {H : Heap} {dst : Nat} {ms : List Bool} {f : AV} {args : List AV} : Mono fun n => callvA (F n) E H dst ms f args := by
  unfold callvA
  split
  · exact callA_mono hF
  · exact callA_mono hF
  · exact Mono.const
theorem step_mono {E : Env} {H : Heap} {dst : Nat} {op : AOp} : Mono fun n => step (F n) E H dst op := by
  cases op with
  | call f ms xs => exact (callA_mono hF).map
  | callv f ms xs => exact (callvA_mono hF).map
  | _ => exact Mono.const
theorem stepS_mono {x : AOper} {S : St} : Mono fun n => stepS (F n) x S := (step_mono hF).map
theorem execOps_mono : ∀ {l : List AOper} {S : St}, Mono fun n => execOps (F n) l S := by
  intro l
  induction l with
  | nil => intro S; exact Mono.const
  | cons o l ih =>
    intro S
    simp only [execOps]
    split
    · exact (stepS_mono hF).bind (fun _ => ih)
    · split
      · exact Mono.ite ((stepS_mono hF).bind (fun _ => ih)) ih
      · exact ih
      · exact Mono.const
theorem drawTake_mono {x : AOper} {fr : List (List Nat)} {acc : List (List Nat × List Nat)} {S : St} : Mono fun n => drawTake (F n) x fr acc S := by
  unfold drawTake
  exact Mono.ite (stepS_mono hF) Mono.const
theorem execDraw_mono : ∀ {l : List AOper} {fr : List (List Nat)} {acc : List (List Nat × List Nat)} {S : St}, Mono fun n => execDraw (F n) l fr acc S := by
  intro l
  induction l with
  | nil => intro fr acc S; exact Mono.const
  | cons o l ih =>
    intro fr acc S
    simp only [execDraw]
    split
    · exact (drawTake_mono hF).bind (fun _ => ih)
    · split
      · exact Mono.ite ((drawTake_mono hF).bind (fun _ => ih)) (Mono.bind Mono.const (fun _ => ih))
      · exact Mono.bind Mono.const (fun _ => ih)
      · exact Mono.const
theorem drawF_mono {l : List AOper} {fr : List (List Nat)} {S : St} : Mono fun n => drawF (F n) l fr S := by
  unfold drawF
  exact Mono.ite (execDraw_mono hF) Mono.const

omit hF in
theorem seqF_mono {g : Nat → St → Option (AExit × St)} (hg : ∀ S, Mono fun n => g n S) {p : AExit × St} : Mono fun n => seqF (g n) p := by
  unfold seqF
  split
  · exact hg _
  · exact Mono.const
  · exact Mono.const
omit hF in
theorem loopF_mono {g : Nat → St → Option (AExit × St)} (hg : ∀ S, Mono fun n => g n S) {ks : List Nat} {p : AExit × St} : Mono fun n => loopF ks (g n) p := by
  unfold loopF
  split
  · exact hg _
  · exact Mono.const
  · exact Mono.const

omit hF in
theorem loopN_mono1 {b : Nat → St → Option (AExit × St)} (hb : ∀ S, Mono fun n => b n S) : ∀ {ks : List Nat} {k : Nat} {S : St}, Mono fun n => loopN ks (b n) k S := by
  intro ks k
  induction k with
  | zero => intro S; exact Mono.const
  | succ k ih => intro S; exact (hb S).bind fun p => loopF_mono fun _ => ih
omit hF in
theorem loopN_mono2 {ks : List Nat} {b : St → Option (AExit × St)} : ∀ {S : St}, Mono fun k => loopN ks b k S := by
  intro S
  refine Mono.of_succ fun k => ?_
  induction k generalizing S with
  | zero => intro a h; cases h
  | succ k ih =>
    intro a h
    simp only [loopN] at h ⊢
    obtain ⟨p, h1, h2⟩ := Option.bind_eq_some_iff.1 h
    refine Option.bind_eq_some_iff.2 ⟨p, h1, ?_⟩
    unfold loopF at h2 ⊢
    split at h2
    · exact ih _ h2
    · exact h2
    · exact h2
omit hF in
theorem loopN_mono {b : Nat → St → Option (AExit × St)} (hb : ∀ S, Mono fun n => b n S) {ks : List Nat} {S : St} : Mono fun n => loopN ks (b n) n S := fun n m a hnm h =>
  loopN_mono1 hb n m a hnm (loopN_mono2 n m a hnm h)

theorem exec_mono : ∀ {c : ACode} {S : St}, Mono fun n => exec (F n) n c S := by
  intro c
  induction c with
  | skip => intro S; exact Mono.const
  | exit i ks => intro S; exact Mono.const
  | ret ks => intro S; exact Mono.const
  | ops gs l ks => intro S; exact (Mono.bind Mono.const fun _ => execOps_mono hF).map
  | draw gs l fr ks => intro S; exact (Mono.bind Mono.const fun _ => drawF_mono hF).map
  | seq x y ih1 ih2 => intro S; exact ih1.bind fun p => seqF_mono fun S => ih2
  | cond c x y ih1 ih2 =>
    intro S
    simp only [exec, condF]
    split
    · exact Mono.ite ih1 ih2
    · exact Mono.const
  | block id x ih => intro S; exact ih.map
  | loop ks x ih => intro S; exact loopN_mono fun S => ih
end mono

theorem callF_mono (f : FuncId) (args : List AV) (os : Heap) : Mono fun n => callF G n f args os := by
  refine Mono.of_succ fun n => ?_
  induction n generalizing f args os with
  | zero => intro a h; cases h
  | succ n ih =>
    -- two steps: more fuel for the calls, more rounds
    have code : ∀ (c : ACode) (rs : List ARes) (nt : Nat) (sl : Bool) (args : List AV) (os : Heap) (a : AV × Heap), codeF (callF G n) n args os c rs nt sl = some a → codeF (callF G (n + 1)) (n + 1) args os c rs nt sl = some a := by
      intro c rs nt sl args os a h2
      simp only [codeF] at h2 ⊢
      split at h2
      · rename_i hc
        rw [if_pos hc]
        obtain ⟨p, h3, h4⟩ := Option.bind_eq_some_iff.1 h2
        refine Option.bind_eq_some_iff.2 ⟨p, ?_, h4⟩
        let Fs : Nat → Sem1 := fun k => if k ≤ n then callF G n else callF G (n + 1)
        have hFs : ∀ f args os, Mono fun k => Fs k f args os := fun f args os => Mono.of_succ fun k a h => by
          simp only [Fs] at h ⊢
          split at h
          · split
            · exact h
            · exact ih f args os a h
          · rename_i hk
            rw [if_neg (by omega)]; exact h
        have := exec_mono (F := Fs) hFs (c := c) (S := ⟨enter args ++ ghostE os, os⟩) n (n + 1) p (by omega)
        simp only [Fs, Nat.le_refl, if_true] at this
        rw [if_neg (by omega)] at this
        exact this h3
      · cases h2
    intro a h
    have h : (G f).bind (fnF (callF G n) n args os) = some a := h
    show (G f).bind (fnF (callF G (n + 1)) (n + 1) args os) = some a
    obtain ⟨fn, h1, h2⟩ := Option.bind_eq_some_iff.1 h
    refine Option.bind_eq_some_iff.2 ⟨fn, h1, ?_⟩
    cases fn with
    | ext g => exact h2
    | code c rs nt sl => exact code c rs nt sl args os a h2
    | nils c rs nt =>
      have new0 : ∀ {x : Option (AV × Heap)}, isNew0 x = true → x = some (.acc 0 [], [(0, .acc 0)]) := fun {x} hx => by
        unfold isNew0 at hx
        split at hx
        · rfl
        · cases hx
      show nilsF (callF G (n + 1)) (n + 1) args os c rs nt = some a
      have h2 : nilsF (callF G n) n args os c rs nt = some a := h2
      unfold nilsF at h2 ⊢
      split at h2
      · rename_i he
        rw [if_pos he]
        split at h2
        · rename_i hn
          simp only [Bool.and_eq_true] at hn
          rw [code _ _ _ _ _ _ _ (new0 hn.1), code _ _ _ _ _ _ _ (new0 hn.2)]
          exact h2
        · cases h2
      · rename_i he
        rw [if_neg he]
        exact code _ _ _ _ _ _ _ h2

theorem callL_iff {f : FuncId} {args : List AV} {os : Heap} {p : AV × Heap} : callL G f args os = some p ↔ ∃ n, callF G n f args os = some p := lim_iff (callF_mono f args os)

/-! ### Equations -/
theorem lim_callA0 {E : Env} {H : Heap} {dst : Nat} {ms : List Bool} {f : FuncId} {args : List AV} : lim (fun n => callA0 (callF G n) E H dst ms f args) = callA0 (callL G) E H dst ms f args := by
  unfold callA0
  rw [lim_bind Mono.const fun _ => callB_mono callF_mono, lim_const]
  congr 1; funext as
  unfold callB
  split
  · rw [lim_bind (g := fun _ => callC E H dst (namesOf H ms args) (dataObjs ms args)) (callF_mono _ _ _) fun _ => Mono.const]
    congr 1; funext p
    exact lim_const _
  · exact lim_const _
theorem lim_callA {E : Env} {H : Heap} {dst : Nat} {ms : List Bool} {f : FuncId} {args : List AV} : lim (fun n => callA (callF G n) E H dst ms f args) = callA (callL G) E H dst ms f args := by
  unfold callA
  split
  · rw [lim_bind Mono.const fun _ => frzB_mono callF_mono, lim_const]
    congr 1; funext as
    unfold frzB
    split
    · rw [lim_map (callA0_mono callF_mono), lim_callA0]
    · exact lim_const _
  · exact lim_callA0
theorem lim_step {E : Env} {H : Heap} {dst : Nat} {op : AOp} : lim (fun n => step (callF G n) E H dst op) = step (callL G) E H dst op := by
  cases op with
  | call f ms xs => exact (lim_map (callA_mono callF_mono)).trans (congrArg _ lim_callA)
  | callv f ms xs =>
    refine (lim_map (callvA_mono callF_mono)).trans (congrArg _ ?_)
    unfold callvA
    split
    · exact lim_callA
    · exact lim_callA
    · exact lim_const _
  | _ => exact lim_const _
theorem lim_stepS {x : AOper} {S : St} : lim (fun n => stepS (callF G n) x S) = stepS (callL G) x S := (lim_map (step_mono callF_mono)).trans (congrArg _ lim_step)
theorem lim_execOps : ∀ {l : List AOper} {S : St}, lim (fun n => execOps (callF G n) l S) = execOps (callL G) l S := by
  intro l
  induction l with
  | nil => intro S; exact lim_const _
  | cons o l ih =>
    intro S
    have key : lim (fun n => (stepS (callF G n) o S).bind (execOps (callF G n) l)) = (stepS (callL G) o S).bind (execOps (callL G) l) := by
      rw [lim_bind (stepS_mono callF_mono) fun _ => execOps_mono callF_mono, lim_stepS]
      congr 1; funext p; exact ih
    simp only [execOps]
    split
    · exact key
    · split
      · split
        · exact key
        · exact ih
      · exact ih
      · exact lim_const _
theorem lim_drawTake {x : AOper} {fr : List (List Nat)} {acc : List (List Nat × List Nat)} {S : St} : lim (fun n => drawTake (callF G n) x fr acc S) = drawTake (callL G) x fr acc S := by
  unfold drawTake
  split
  · exact lim_stepS
  · exact lim_const _
theorem lim_execDraw : ∀ {l : List AOper} {fr : List (List Nat)} {acc : List (List Nat × List Nat)} {S : St}, lim (fun n => execDraw (callF G n) l fr acc S) = execDraw (callL G) l fr acc S := by
  intro l
  induction l with
  | nil => intro fr acc S; exact lim_const _
  | cons o l ih =>
    intro fr acc S
    have key : lim (fun n => (drawTake (callF G n) o fr acc S).bind (execDraw (callF G n) l fr.tail (acc ++ [feet o S]))) = (drawTake (callL G) o fr acc S).bind (execDraw (callL G) l fr.tail (acc ++ [feet o S])) := by
      rw [lim_bind (drawTake_mono callF_mono) fun _ => execDraw_mono callF_mono, lim_drawTake]
      congr 1; funext p; exact ih
    simp only [execDraw]
    split
    · exact key
    · split
      · split
        · exact key
        · rw [lim_bind Mono.const fun _ => execDraw_mono callF_mono, lim_const]
          congr 1; funext p; exact ih
      · rw [lim_bind Mono.const fun _ => execDraw_mono callF_mono, lim_const]
        congr 1; funext p; exact ih
      · exact lim_const _
theorem lim_drawF {l : List AOper} {fr : List (List Nat)} {S : St} : lim (fun n => drawF (callF G n) l fr S) = drawF (callL G) l fr S := by
  unfold drawF
  split
  · exact lim_execDraw
  · exact lim_const _

theorem exL_skip {S : St} : exL G .skip S = some (.normal, S) := lim_const _
theorem exL_exit {i : Nat} {ks : List Nat} {S : St} : exL G (.exit i ks) S = some (.exit i, endS ks S) := lim_const _
theorem exL_ret {ks : List Nat} {S : St} : exL G (.ret ks) S = some (.ret, endS ks S) := lim_const _
theorem exL_ops {gs : List Nat} {l : List AOper} {ks : List Nat} {S : St} : exL G (.ops gs l ks) S = ((ghosts gs S).bind (execOps (callL G) l)).map (killS ks) := by
  refine (lim_map (Mono.bind Mono.const fun _ => execOps_mono callF_mono)).trans (congrArg _ ?_)
  rw [lim_bind Mono.const fun _ => execOps_mono callF_mono, lim_const]
  congr 1; funext p; exact lim_execOps
theorem exL_draw {gs : List Nat} {l : List AOper} {fr : List (List Nat)} {ks : List Nat} {S : St} : exL G (.draw gs l fr ks) S = ((ghosts gs S).bind (drawF (callL G) l fr)).map (killS ks) := by
  refine (lim_map (Mono.bind Mono.const fun _ => drawF_mono callF_mono)).trans (congrArg _ ?_)
  rw [lim_bind Mono.const fun _ => drawF_mono callF_mono, lim_const]
  congr 1; funext p; exact lim_drawF
theorem exL_seq {x y : ACode} {S : St} : exL G (.seq x y) S = (exL G x S).bind (seqF (exL G y)) := by
  refine (lim_bind (exec_mono callF_mono) fun p => seqF_mono fun S => exec_mono callF_mono).trans ?_
  congr 1; funext p
  unfold seqF
  split
  · rfl
  · exact lim_const _
  · exact lim_const _
theorem exL_cond {c : Opd} {x y : ACode} {S : St} : exL G (.cond c x y) S = condF (c.ev S.env) (exL G x S) (exL G y S) := by
  show lim (fun n => condF (c.ev S.env) (exec (callF G n) n x S) (exec (callF G n) n y S)) = _
  unfold condF
  split
  · split
    · rfl
    · rfl
  · exact lim_const _
theorem exL_block {id : Nat} {x : ACode} {S : St} : exL G (.block id x) S = (exL G x S).map (blockF id) := lim_map (exec_mono callF_mono)
theorem exL_loop {ks : List Nat} {x : ACode} {S : St} : exL G (.loop ks x) S = loopL G ks x (norm ks S) := rfl
theorem loopL_eq {ks : List Nat} {x : ACode} {S : St} : loopL G ks x S = (exL G x S).bind (loopF ks (loopL G ks x)) := by
  have hm : ∀ S, Mono fun n => loopN ks (exec (callF G n) n x) n S := fun S => loopN_mono fun S => exec_mono callF_mono
  have e1 : (exL G x S).bind (loopF ks (loopL G ks x)) = lim fun n => (exec (callF G n) n x S).bind (loopF ks (loopN ks (exec (callF G n) n x) n)) := by
    rw [lim_bind (exec_mono callF_mono) fun p => loopF_mono hm]
    congr 1; funext p
    unfold loopF
    split
    · rfl
    · exact (lim_const _).symm
    · exact (lim_const _).symm
  rw [e1]
  refine opt_ext fun a => ?_
  rw [loopL, lim_iff (hm S), lim_iff ((exec_mono callF_mono).bind fun p => loopF_mono hm)]
  constructor
  · rintro ⟨n, h⟩
    cases n with
    | zero => cases h
    | succ n =>
      simp only [loopN] at h
      obtain ⟨p, h1, h2⟩ := Option.bind_eq_some_iff.1 h
      refine ⟨n + 1, Option.bind_eq_some_iff.2 ⟨p, h1, ?_⟩⟩
      unfold loopF at h2 ⊢
      split at h2
      · exact loopN_mono2 n (n + 1) a (by omega) h2
      · exact h2
      · exact h2
  · rintro ⟨n, h⟩
    obtain ⟨p, h1, h2⟩ := Option.bind_eq_some_iff.1 h
    refine ⟨n + 1, ?_⟩
    simp only [loopN]
    refine Option.bind_eq_some_iff.2 ⟨p, exec_mono callF_mono n (n + 1) p (by omega) h1, ?_⟩
    unfold loopF at h2 ⊢
    split at h2
    · exact loopN_mono1 (fun S => exec_mono callF_mono) n (n + 1) a (by omega) h2
    · exact h2
    · exact h2

theorem lim_codeF {c : ACode} {rs : List ARes} {nt : Nat} {sl : Bool} {args : List AV} {os : Heap} (hl : args.length ≤ nt) : (Mono fun n => codeF (callF G n) n args os c rs nt sl) ∧ lim (fun n => codeF (callF G n) n args os c rs nt sl) = (exL G c ⟨enter args ++ ghostE os, os⟩).bind (finish sl rs os) := by
  have e : (fun n => codeF (callF G n) n args os c rs nt sl) = fun n => (exec (callF G n) n c ⟨enter args ++ ghostE os, os⟩).bind (finish sl rs os) := by
    funext n; simp only [codeF]; rw [if_pos hl]
  rw [e]
  refine ⟨Mono.bind (g := fun _ p => finish sl rs os p) (exec_mono callF_mono) fun p => Mono.const, ?_⟩
  rw [lim_bind (g := fun _ p => finish sl rs os p) (exec_mono callF_mono) fun p => Mono.const]
  show (exL G c ⟨enter args ++ ghostE os, os⟩).bind _ = _
  congr 1; funext p; exact lim_const _

theorem lim_shift {α : Type} {x y : Nat → Option α} (hx : Mono x) (hy : Mono y) (h0 : x 0 = none) (h : ∀ n, x (n + 1) = y n) : lim x = lim y := by
  refine opt_ext fun a => ?_
  rw [lim_iff hx, lim_iff hy]
  constructor
  · rintro ⟨n, h1⟩
    cases n with
    | zero => rw [h0] at h1; cases h1
    | succ n => exact ⟨n, by rw [← h]; exact h1⟩
  · rintro ⟨n, h1⟩; exact ⟨n + 1, by rw [h]; exact h1⟩

/-- A function, by its code. -/
theorem callL_code {f : FuncId} {c : ACode} {rs : List ARes} {nt : Nat} {sl : Bool} (h : G f = some (.code c rs nt sl)) {args : List AV} {os : Heap} (hl : args.length ≤ nt) : callL G f args os = (exL G c ⟨enter args ++ ghostE os, os⟩).bind (finish sl rs os) := by
  obtain ⟨h1, h2⟩ := lim_codeF (G := G) (c := c) (rs := rs) (os := os) (sl := sl) hl
  rw [← h2]
  exact lim_shift (callF_mono f args os) h1 rfl fun n => by simp only [callF, h, Option.bind_some, fnF]
theorem callL_nils {f : FuncId} {c : ACode} {rs : List ARes} {nt : Nat} (h : G f = some (.nils c rs nt)) {es : List D} (h0 : es ≠ []) (hl : 1 ≤ nt) : callL G f [.d (.sl es)] [] = (exL G c ⟨enter [.d (.sl es)], []⟩).bind (finish false rs []) := by
  obtain ⟨h1, h2⟩ := lim_codeF (G := G) (c := c) (rs := rs) (sl := false) (os := []) (args := [.d (.sl es)]) hl
  rw [show enter [.d (.sl es)] = enter [AV.d (.sl es)] ++ ghostE [] by simp [ghostE], ← h2]
  refine lim_shift (callF_mono f _ []) h1 rfl fun n => ?_
  simp only [callF, h, Option.bind_some, fnF, nilsF]
  rw [if_neg]
  intro hc
  simp only [Bool.and_eq_true] at hc
  unfold isEmp at hc
  split at hc
  · rename_i e; cases e; exact h0 rfl
  · exact absurd hc.1 (by simp)
theorem callL_nils0 {f : FuncId} {c : ACode} {rs : List ARes} {nt : Nat} (h : G f = some (.nils c rs nt)) (hl : 1 ≤ nt) (h1 : (exL G c ⟨enter [.nl true], []⟩).bind (finish false rs []) = some (.acc 0 [], [(0, .acc 0)]))
    (h2 : (exL G c ⟨enter [.nl false], []⟩).bind (finish false rs []) = some (.acc 0 [], [(0, .acc 0)])) : callL G f [.d (.sl [])] [] = some (.acc 0 [], [(0, .acc 0)]) := by
  obtain ⟨k1, k2⟩ := lim_codeF (G := G) (c := c) (rs := rs) (sl := false) (os := []) (args := [.nl true]) hl
  obtain ⟨k3, k4⟩ := lim_codeF (G := G) (c := c) (rs := rs) (sl := false) (os := []) (args := [.nl false]) hl
  rw [show enter [.nl true] ++ ghostE [] = enter [AV.nl true] by simp [ghostE], h1] at k2
  rw [show enter [.nl false] ++ ghostE [] = enter [AV.nl false] by simp [ghostE], h2] at k4
  obtain ⟨n, hn⟩ := (lim_iff k1).1 k2
  obtain ⟨m, hm⟩ := (lim_iff k3).1 k4
  refine callL_iff.2 ⟨max n m + 1, ?_⟩
  simp only [callF, h, Option.bind_some, fnF, nilsF, isEmp, List.isEmpty_nil, Bool.and_self, if_true]
  rw [show codeF (callF G (max n m)) (max n m) [.nl true] [] c rs nt false = _ from k1 n _ _ (Nat.le_max_left ..) hn, show codeF (callF G (max n m)) (max n m) [.nl false] [] c rs nt false = _ from k3 m _ _ (Nat.le_max_right ..) hm]
  rfl
theorem callL_ext {f : FuncId} {g : List AV → Heap → Option (AV × Heap)} (h : G f = some (.ext g)) {args : List AV} {os : Heap} : callL G f args os = g args os := by
  refine opt_ext fun a => ?_
  rw [callL_iff]
  constructor
  · rintro ⟨n, h1⟩
    cases n with
    | zero => cases h1
    | succ n => simpa [callF, h, fnF] using h1
  · intro h1; exact ⟨1, by simpa [callF, h, fnF] using h1⟩

/-- By reckoning. -/
theorem callL_of {n : Nat} {f : FuncId} {args : List AV} {os : Heap} {p : AV × Heap} (h : callF G n f args os = some p) : callL G f args os = some p := callL_iff.2 ⟨n, h⟩

theorem callL_ok (hG : GOK P G) : FOK P (callL G) := by
  intro f args os r os' h h1 h2
  obtain ⟨n, hn⟩ := callL_iff.1 h
  exact callF_ok hG n f args os r os' hn h1 h2

/-! ### Loops -/
/-- A loop that runs through states 'st t' with 'inv t': what holds of 'r' at the ends of the rounds. -/
theorem loop_ind {T : Type} {ks : List Nat} {x : ACode} (μ : T → Nat) (inv : T → Prop) (st : T → St) (r : T → Option (AExit × St))
    (h : ∀ t, inv t → ∀ L : St → Option (AExit × St), (∀ t', inv t' → μ t' < μ t → L (st t') = r t') → (exL G x (st t)).bind (loopF ks L) = r t) : ∀ t, inv t → loopL G ks x (st t) = r t := by
  intro t
  generalize hk : μ t = k
  induction k using Nat.strongRecOn generalizing t with
  | ind k ih =>
    intro hi
    rw [loopL_eq]
    exact h t hi _ fun t' hi' hlt => ih (μ t') (by omega) t' rfl hi'

end Go.Sim
