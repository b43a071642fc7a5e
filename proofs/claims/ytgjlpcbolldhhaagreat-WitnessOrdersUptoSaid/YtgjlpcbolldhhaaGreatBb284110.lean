/-
  An array that was appended to becomes one that is written, a.
-/
import Derived.Test.YtgjlpcbolldhhaaGreatB2f59c7a
set_option linter.unusedSimpArgs false
set_option linter.unusedVariables false
set_option maxHeartbeats 10000000
set_option maxRecDepth 100000
namespace Go.Sim
open Go (World Value Addr TypeId Act)
variable {P : Program} {C : Ctx}
def zcI (o m : Nat) : Env -> Option (List D)
 | [] => none
 | (_, .acc p es) :: l => if p = o /\ es.length = m then some es else zcI o m l
 | _ :: l => zcI o m l
def zbS (o m : Nat) (x : AV) : AV :=
 match x with
 | .acc p es => if p = o then (if es.length = m then .osl o 0 m else .undef) else .acc p es
 | x => if x.refs o then .undef else x
def zeO (o m : Nat) (E : Env) : Env := E.map fun p => (p.1, zbS o m p.2)
def zbW (o : Nat) (ds : List D) (x : AV) : AV :=
 match x with
 | .osl p off len => if p = o then (if off = 0 /\ len = ds.length then .acc o ds else .undef) else .osl p off len
 | x => if x.refs o then .undef else x
def zmq (o : Nat) (ds : List D) (E : Env) : Env := E.map fun p => (p.1, zbW o ds p.2)
def zeA (o : Nat) : AV -> AV
 | .acc p [] => if p = o then .xsl [] else .acc p []
 | x => x
def zcr (o : Nat) : Env -> Env
 | [] => []
 | (t, x) :: l => (t, zeA o x) :: zcr o l
def okC (o m : Nat) : AV -> Bool
 | .acc p es => if p = o then es.length == m else true
 | x => !x.refs o
def zau (o m : Nat) : AV -> AV
 | .acc p es => if p = o then .osl o 0 m else .acc p es
 | x => x
def zeC (o m : Nat) : List AV -> Bool
 | [] => true
 | x :: l => okC o m x && zeC o m l
def zeN (o m : Nat) : List AV -> List AV
 | [] => []
 | x :: l => zau o m x :: zeN o m l
def okE (o m : Nat) : AV -> Bool
 | .agg cs => zeC o m cs
 | x => okC o m x
def zg (o m : Nat) : AV -> AV
 | .agg cs => .agg (zeN o m cs)
 | x => zau o m x
def zdC (o m : Nat) : List AV -> Bool
 | [] => true
 | x :: l => okE o m x && zdC o m l
def zdI (o m : Nat) : List AV -> List AV
 | [] => []
 | x :: l => zg o m x :: zdI o m l
def zbH (o m : Nat) : za -> Bool
 | [] => true
 | (_, .row es) :: l => zdC o m es && zbH o m l
 | (_, .acc _) :: l => zbH o m l
 | (_, .frz _) :: l => zbH o m l
 | (_, .mp _) :: l => zbH o m l
def zap (o m : Nat) : za -> za
 | [] => []
 | (q, .row es) :: l => (q, .row (zdI o m es)) :: zap o m l
 | (q, .acc n) :: l => (q, .acc n) :: zap o m l
 | (q, .frz n) :: l => (q, .frz n) :: zap o m l
 | (q, .mp n) :: l => (q, .mp n) :: zap o m l
def zcg (o m : Nat) : List AV -> Option (List D)
 | [] => none
 | .acc p es :: l => if p = o /\ es.length = m then some es else zcg o m l
 | _ :: l => zcg o m l
def orE {α : Type} (x : Option α) : Option α -> Option α
 | some a => some a
 | none => x
def zch (o m : Nat) : List AV -> Option (List D)
 | [] => none
 | .agg cs :: l => orE (zch o m l) (zcg o m cs)
 | x :: l => orE (zch o m l) (zcg o m [x])
def zbB (o m : Nat) : za -> Option (List D)
 | [] => none
 | (_, .row es) :: l => orE (zbB o m l) (zch o m es)
 | (_, .acc _) :: l => zbB o m l
 | (_, .frz _) :: l => zbB o m l
 | (_, .mp _) :: l => zbB o m l
def zfx (o m : Nat) (E : Env) (H : za) : Option (List D) := orE (zbB o m H) (zcI o m E)
def ziq (o m : Nat) (E : Env) (H : za) (es : List D) (b : Bool) : Option St :=
 if b = false then some ⟨zeO o m E, zj o (.row (es.map .d)) H⟩ else if zbH o m H = true then some ⟨zeO o m E, zj o (.row (es.map .d)) (zap o m H)⟩ else none
def zio (o m : Nat) (E : Env) (H : za) : Option (List D) -> Option St
 | some es => if m ≠ 0 then ziq o m E H es (refsHeap o H) else none
 | none => none
def zcU (o : Nat) (x : AV) : AV :=
 match x with
 | .acc p [] => if p = o then .xsl [] else .acc p []
 | x => x
def zey (o : Nat) : List AV -> List AV
 | [] => []
 | x :: l => zcU o x :: zey o l
def zdx (o : Nat) (x : AV) : AV :=
 match x with
 | .agg cs => .agg (zey o cs)
 | x => x
def zdy (o : Nat) : List AV -> List AV
 | [] => []
 | x :: l => zdx o x :: zdy o l
def zfX (o : Nat) (ob : Obj) : Obj :=
 match ob with
 | .row es => .row (zdy o es)
 | x => x
def zbF (o : Nat) : za -> za
 | [] => []
 | (q, ob) :: l => (q, zfX o ob) :: zbF o l
def zhT (o : Nat) (E : Env) (H : za) (b : Bool) : Option St := if b = false then some ⟨zcr o E, H⟩ else some ⟨zcr o E, zbF o H⟩
def zin (o : Nat) (E : Env) (H : za) : Option Obj -> Option St
 | some (.acc m) => if m = 0 then zhT o E H (refsHeap o H) else zio o m E H (zfx o m E H)
 | some (.row es) => some ⟨E, H⟩
 | some (.frz m) => some ⟨E, H⟩
 | some (.mp m) => some ⟨E, H⟩
 | none => some ⟨E, H⟩
def zgl (o : Nat) (S : St) : Option St := zin o S.env S.heap (look o S.heap)
def zez (o : Nat) : AV -> AV
 | .osl p off 0 => if p = o then .d (.sl []) else .osl p off 0
 | x => x
def zdz (o : Nat) : Env -> Env
 | [] => []
 | (t, x) :: l => (t, zez o x) :: zdz o l
def okA (o n : Nat) : AV -> Bool
 | .osl p off len => if p = o then off == 0 && len == n else true
 | x => !x.refs o
def acA (o : Nat) (ds : List D) : AV -> AV
 | .osl p off len => if p = o then .acc o ds else .osl p off len
 | x => x
def zeB (o n : Nat) : List AV -> Bool
 | [] => true
 | x :: l => okA o n x && zeB o n l
def zd7 (o : Nat) (ds : List D) : List AV -> List AV
 | [] => []
 | x :: l => acA o ds x :: zd7 o ds l
def zfZ (o n : Nat) : AV -> Bool
 | .agg cs => zeB o n cs
 | x => okA o n x
def zca (o : Nat) (ds : List D) : AV -> AV
 | .agg cs => .agg (zd7 o ds cs)
 | x => acA o ds x
def zdB (o n : Nat) : List AV -> Bool
 | [] => true
 | x :: l => zfZ o n x && zdB o n l
def zc8 (o : Nat) (ds : List D) : List AV -> List AV
 | [] => []
 | x :: l => zca o ds x :: zc8 o ds l
def zbG (o n : Nat) : za -> Bool
 | [] => true
 | (_, .row es) :: l => zdB o n es && zbG o n l
 | (_, .acc _) :: l => zbG o n l
 | (_, .frz _) :: l => zbG o n l
 | (_, .mp _) :: l => zbG o n l
def zal (o : Nat) (ds : List D) : za -> za
 | [] => []
 | (q, .row es) :: l => (q, .row (zc8 o ds es)) :: zal o ds l
 | (q, .acc n) :: l => (q, .acc n) :: zal o ds l
 | (q, .frz n) :: l => (q, .frz n) :: zal o ds l
 | (q, .mp n) :: l => (q, .mp n) :: zal o ds l
def zii (o : Nat) (E : Env) (H : za) (ds : List D) : Option St :=
 if zbG o ds.length H = true then some ⟨zmq o ds E, zj o (.acc ds.length) (zal o ds H)⟩ else none
def zih (o : Nat) (E : Env) (H : za) (es : List AV) : Option (List D) -> Option St
 | some ds => if es = [] then some ⟨zdz o E, H⟩ else if es ≠ [] /\ refsHeap o H = false then some ⟨zmq o ds E, zj o (.acc ds.length) H⟩ else zii o E H ds
 | none => none
def zig (o : Nat) (E : Env) (H : za) : Option Obj -> Option St
 | some (.row es) => zih o E H es (zO es)
 | some (.acc m) => some ⟨E, H⟩
 | some (.frz m) => some ⟨E, H⟩
 | some (.mp m) => some ⟨E, H⟩
 | none => some ⟨E, H⟩
def zgi (o : Nat) (S : St) : Option St := zig o S.env S.heap (look o S.heap)
def rnm (o o' n : Nat) : Nat := if n = o then o' else n
def zeI (ρ : Nat -> Nat) : Env -> Env
 | [] => []
 | (t, x) :: l => (t, x.ren ρ) :: zeI ρ l
def zim (o o' : Nat) (E : Env) (H : za) : Option Obj -> Option St
 | some _ => if (look o' H).isNone = true /\ refsEnv o' E = false /\ refsHeap o' H = false then some ⟨zeI (rnm o o') E, zaz (rnm o o') H⟩ else none
 | none => some ⟨E, H⟩
def zgk (o o' : Nat) (S : St) : Option St := zim o o' S.env S.heap (look o S.heap)
def zee (x : AV) : Option D -> AV
 | some d => .d d
 | none => x
def zef (o : Nat) (H : za) : AV -> AV
 | .acc p es => if p = o then .d (.sl es) else .acc p es
 | .osl p off len => if p = o then zee (.osl p off len) (toD H (.osl p off len)) else .osl p off len
 | .ref p i k => if p = o then zee (.ref p i k) (toD H (.ref p i k)) else .ref p i k
 | x => x
def zcd (o : Nat) (H : za) : Env -> Env
 | [] => []
 | (t, x) :: l => (t, zef o H x) :: zcd o H l
def zcG (o : Nat) (x : AV) : AV :=
 match x with
 | .acc p es => if p = o then .d (.sl es) else .acc p es
 | x => x
def zed (o : Nat) : List AV -> List AV
 | [] => []
 | x :: l => zcG o x :: zed o l
def zdh (o : Nat) (x : AV) : AV :=
 match x with
 | .agg cs => .agg (zed o cs)
 | x => x
def zdi (o : Nat) : List AV -> List AV
 | [] => []
 | x :: l => zdh o x :: zdi o l
def zfn (o : Nat) (ob : Obj) : Obj :=
 match ob with
 | .row es => .row (zdi o es)
 | x => x
def zbx (o : Nat) : za -> za
 | [] => []
 | (q, ob) :: l => (q, zfn o ob) :: zbx o l
def zg3 (o : Nat) (E : Env) (H : za) (b : Bool) : Option St := if b = false then some ⟨zcd o H E, zo (zP H [o]) H⟩ else some ⟨zcd o H E, zbx o (zo (zP H [o]) H)⟩
def zik (o : Nat) (E : Env) (H : za) : Option Obj -> Option St
 | some _ => zg3 o E H (refsHeap o H)
 | none => some ⟨E, H⟩
def zgj (o : Nat) (S : St) : Option St := zik o S.env S.heap (look o S.heap)
def zfE (g : Nat) (S : St) : Option St := if g < 4000000 then (if g % 2 = 0 then zgl (g / 2) S else zgi (g / 2) S) else if g < 6000000 then zgk (g - 4000000) (g - 3500000) S else if g < 8000000 then zgj (g - 6000000) S else some (norm1 S)
def zbj : List Nat -> St -> Option St
 | [], S => some S
 | g :: gs, S => (zfE g S).bind (zbj gs)
theorem zzd {o m : Nat} {es : List D} : ∀ {E : Env}, zcI o m E = some es -> ∃ t, (t, AV.acc o es) ∈ E /\ es.length = m := by
 intro E
 induction E with
 | nil => intro h; cases h
 | cons p l ih =>
  obtain ⟨t, x⟩ := p;intro h
  cases x with
  | acc q es' =>
   simp only [zcI] at h
   split at h
   · rename_i hc;obtain ⟨rfl, hl⟩ := hc
     cases h; exact ⟨t, .head _, hl⟩
   · obtain ⟨t', h1, h2⟩ := ih h; exact ⟨t', .tail _ h1, h2⟩
  | _ => simp only [zcI] at h; obtain ⟨t', h1, h2⟩ := ih h; exact ⟨t', .tail _ h1, h2⟩
theorem Rel.recast {S : St} {a : Act} {w : World} {ι : Inj} {R : Nat -> Prop} (h : Rel C S a w ι R) {o : Nat} {ob : Obj} {g : AV -> AV} (hh : refsHeap o S.heap = false)
    (hob : OB w R ι (mark (zj o ob S.heap)) o ob)
    (hg : ∀ x u, VA w R ι (mark S.heap) x u -> (x.refs o = true -> VA w R ι (mark (zj o ob S.heap)) (g x) u) /\ (x.refs o = false -> g x = x)) :
    Rel C ⟨S.env.map fun p => (p.1, g p.2), zj o ob S.heap⟩ a w ι R := by
 have hst : ∀ p, p ≠ o -> Step w w ι ι (mark S.heap) (mark (zj o ob S.heap)) p := fun p hp => Step.other rfl (zaO hp) fun _ _ _ => rfl;refine { h with env := fun t x hx => ?_, heap := fun q ob' hq => ?_ }
 · obtain ⟨⟨t', y⟩, hm, he⟩ := zKX.1 hx
   cases he
   obtain ⟨u, h1, h2⟩ := h.env t' y hm;refine ⟨u, h1, ?_⟩
   cases hr : y.refs o with
   | true => exact (hg y u h2).1 hr
   | false =>
    show VA w R ι _ (g y) u;rw [(hg y u h2).2 hr];exact h2.mono (fun _ h => h) (fun _ _ => rfl) fun p hp => hst p fun e => by subst e; rw [hr] at hp; cases hp
 · rcases zbU hq with hq2 | ⟨hq2, hne⟩
   · cases hq2; exact hob
   · exact (h.heap q ob' hq2).mono (fun _ h => h) (fun _ _ => rfl) (fun _ _ hb => ⟨hb, rfl, fun h => h⟩) (fun h => h) fun p hp => hst p fun e => by
      rw [e] at hp;have := zb4 (l := S.heap) hq2 hh;rw [hp] at this; cases this
theorem zCL {w : World} {R : Nat -> Prop} {ι : Inj} {mk : Nat -> Option Nat} {o : Nat} {x : AV} {u : Value} (hι : ι o = none) (hm : mk o = some 0) (h : VA w R ι mk x u) : VA w R ι mk (zeA o x) u := by
 unfold zeA
 split
 · split
   · rename_i hp;subst hp
     cases h with
     | accR _ _ _ _ _ _ hlt => have := hlt 0 hm; simp at this
     | accC hι' => rw [hι] at hι'; cases hι'
     | acc0 => exact .xsl .sl0
   · exact h
 · exact h
theorem zCK {w : World} {R : Nat -> Prop} {ι : Inj} {mk : Nat -> Option Nat} {o : Nat} {x : AV} {u : Value} (h : VA w R ι mk x u) : VA w R ι mk (zez o x) u := by
 unfold zez
 split
 · split
   · cases h <;> exact .d .sl0
   · exact h
 · exact h
theorem zCJ {o : Nat} {E : Env} : zdz o E = E.map fun p => (p.1, zez o p.2) := by
 induction E with
 | nil => rfl
 | cons p l ih => obtain ⟨t, x⟩ := p; simp only [zdz, ih]; rfl
theorem Rel.nilsO {S : St} {a : Act} {w : World} {ι : Inj} {R : Nat -> Prop} (h : Rel C S a w ι R) {o : Nat} : Rel C ⟨zdz o S.env, S.heap⟩ a w ι R := by
 refine { h with env := fun t x hx => ?_ };rw [zCJ] at hx;obtain ⟨⟨t', y⟩, hm, he⟩ := zKX.1 hx
 cases he
 obtain ⟨u, h1, h2⟩ := h.env t' y hm;exact ⟨u, h1, zCK h2⟩
theorem zCI {o : Nat} {E : Env} : zcr o E = E.map fun p => (p.1, zeA o p.2) := by
 induction E with
 | nil => rfl
 | cons p l ih => obtain ⟨t, x⟩ := p; simp only [zcr, ih]; rfl
theorem Rel.nils {S : St} {a : Act} {w : World} {ι : Inj} {R : Nat -> Prop} (h : Rel C S a w ι R) {o : Nat} (hlk : look o S.heap = some (.acc 0)) : Rel C ⟨zcr o S.env, S.heap⟩ a w ι R := by
 have hι : ι o = none := by
  cases h.heap _ _ (zu hlk) with
  | acc hpos => exact absurd hpos (by decide)
  | accN hι => exact hι
 have hmk : mark S.heap o = some 0 := by simp [mark, hlk]
 refine { h with env := fun t x hx => ?_ };rw [zCI] at hx;obtain ⟨⟨t', y⟩, hm, he⟩ := zKX.1 hx
 cases he
 obtain ⟨u, h1, h2⟩ := h.env t' y hm;exact ⟨u, h1, zCL hι hmk h2⟩
theorem zCG {o : Nat} {x : AV} (h : x.cell = true) : (zcU o x).cell = true := by
 unfold zcU
 split
 · split <;> rfl
 · exact h
theorem zhS {o : Nat} : ∀ {l : List AV}, zey o l = l.map (zcU o)
 | [] => rfl
 | x :: l => by simp only [zey, zKS, zhS]
theorem zsg {o : Nat} : ∀ {l : List AV}, zdy o l = l.map (zdx o)
 | [] => rfl
 | x :: l => by simp only [zdy, zKS, zsg]
theorem zsh {o q : Nat} {ob : Obj} : ∀ {H : za}, (q, ob) ∈ zbF o H -> ∃ ob0, (q, ob0) ∈ H /\ ob = zfX o ob0
 | [], h => by cases h
 | (q', ob') :: l, h => by
  simp only [zbF] at h
  cases h with
  | head => exact ⟨_, .head _, rfl⟩
  | tail _ h => obtain ⟨ob0, h1, h2⟩ := zsh h; exact ⟨ob0, .tail _ h1, h2⟩
theorem zr2 {o q : Nat} : ∀ {H : za}, look q (zbF o H) = (look q H).map (zfX o)
 | [] => rfl
 | (q', ob') :: l => by
  simp only [zbF, look]
  split
  · rfl
  · exact zr2
theorem zsb {o : Nat} {H : za} : mark (zbF o H) = mark H := funext fun p => by
 unfold mark;rw [zr2]
 rcases look p H with _ | (es | m | m | m) <;> rfl
theorem zCH {w : World} {R : Nat -> Prop} {ι : Inj} {mk : Nat -> Option Nat} {o : Nat} {x : AV} {u : Value} (hι : ι o = none) (hm : mk o = some 0) (h : VA w R ι mk x u) : VA w R ι mk (zcU o x) u := by
 unfold zcU
 split
 · split
   · rename_i hp;subst hp
     cases h with
     | accR _ _ _ _ _ _ hlt => have := hlt 0 hm; simp at this
     | accC hι' => rw [hι] at hι'; cases hι'
     | acc0 => exact .xsl .sl0
   · exact h
 · exact h
theorem Rel.nilsH {S : St} {a : Act} {w : World} {ι : Inj} {R : Nat -> Prop} (h : Rel C S a w ι R) {o : Nat} (hlk : look o S.heap = some (.acc 0)) : Rel C ⟨zcr o S.env, zbF o S.heap⟩ a w ι R := by
 have h := h.nils hlk;have hι : ι o = none := by
  cases h.heap _ _ (zu hlk) with
  | acc hpos => exact absurd hpos (by decide)
  | accN hι => exact hι
 have hmk : mark S.heap o = some 0 := by simp [mark, hlk]
 refine { h with env := fun t x hx => ?_, heap := fun q ob hq => ?_ }
 · show ∃ u, za2 C a t = some u /\ VA w R ι (mark (zbF o S.heap)) x u;rw [zsb]; exact h.env t x hx
 · show OB w R ι (mark (zbF o S.heap)) q ob;rw [zsb];obtain ⟨ob0, h1, rfl⟩ := zsh hq;have hob := h.heap q ob0 h1
   cases ob0 with
   | acc n => exact hob
   | frz n => exact hob
   | mp n => exact hob
   | row es =>
    cases hob with
    | row hι' hR hb hs0 hsz hc hel =>
     show OB w R ι _ q (.row (zdy o es));rw [zsg];have hsize : ∀ e : AV, (zdx o e).size = e.size := fun e => by
      unfold zdx
      split
      · simp only [AV.size, zhS, zKY]
      · rfl
     refine .row hι' hR hb hs0 (fun e he => ?_) (by rw [zKY]; exact hc) fun i e hi j x hj => ?_
     · obtain ⟨e0, he0, rfl⟩ := zKX.1 he;rw [hsize]; exact hsz e0 he0
     · rw [zKQ] at hi;obtain ⟨e0, he0, rfl⟩ := zKL.1 hi;unfold zdx at hj
       split at hj
       · rename_i cs;simp only [AV.cells, zhS, zKQ] at hj;obtain ⟨x0, hx0, rfl⟩ := zKL.1 hj;obtain ⟨k1, qv, k2, k3⟩ := hel i _ he0 j x0 hx0;exact ⟨zCG k1, qv, k2, zCH hι hmk k3⟩
       · exact hel i _ he0 j x hj
theorem zIp {o m : Nat} {x : AV} : (zau o m x).size = x.size := by
 unfold zau
 split
 · split <;> rfl
 · rfl
theorem zIo {o m : Nat} {x : AV} (h : x.cell = true) : (zau o m x).cell = true := by
 unfold zau
 split
 · split <;> rfl
 · exact h
theorem zh7 {o m : Nat} : ∀ {l : List AV}, zeN o m l = l.map (zau o m)
 | [] => rfl
 | x :: l => by simp only [zeN, zKS, zh7]
theorem zgb {o m : Nat} : ∀ {l : List AV}, zdI o m l = l.map (zg o m)
 | [] => rfl
 | x :: l => by simp only [zdI, zKS, zgb]
theorem zsm {o m : Nat} {x : AV} : ∀ {l : List AV}, zeC o m l = true -> x ∈ l -> okC o m x = true
 | [], _, h => by cases h
 | y :: l, hk, h => by
  simp only [zeC, zKW] at hk
  cases h with
  | head => exact hk.1
  | tail _ h => exact zsm hk.2 h
theorem zsn {o m : Nat} {x : AV} : ∀ {l : List AV}, zdC o m l = true -> x ∈ l -> okE o m x = true
 | [], _, h => by cases h
 | y :: l, hk, h => by
  simp only [zdC, zKW] at hk
  cases h with
  | head => exact hk.1
  | tail _ h => exact zsn hk.2 h
theorem zIr {o m : Nat} {x : AV} : (zg o m x).size = x.size := by
 unfold zg
 split
 · simp only [AV.size, zh7, zKY]
 · exact zIp
theorem zIq {o m : Nat} {e x' : AV} {j : Nat} (hk : okE o m e = true) (h : (zg o m e).cells[j]? = some x') : ∃ x, e.cells[j]? = some x /\ okC o m x = true /\ x' = zau o m x := by
 have one : ∀ e : AV, e.cells = [e] -> okC o m e = true -> (zau o m e).cells = [zau o m e] -> (zau o m e).cells[j]? = some x' -> ∃ x, e.cells[j]? = some x /\ okC o m x = true /\ x' = zau o m x := by
  intro e h1 h2 h3 h4;rw [h3] at h4
  match j, h4 with
  | 0, h4 => simp at h4; subst h4; exact ⟨e, by rw [h1]; rfl, h2, rfl⟩
  | n + 1, h4 => simp at h4
 cases e with
 | agg cs =>
  simp only [zg, AV.cells, zh7, zKQ] at h;obtain ⟨x, h1, h2⟩ := zKL.1 h;exact ⟨x, h1, zsm hk (zKU h1), h2.symm⟩
 | d y =>
  simp only [zg, zau, AV.cells, zKQ] at h;obtain ⟨c, h1, h2⟩ := zKL.1 h;subst h2;exact ⟨.d c, by simp [AV.cells, h1], rfl, rfl⟩
 | acc p es => exact one _ rfl hk (by unfold zau; simp only; split <;> rfl) h
 | ref p i f => exact one _ rfl hk rfl h
 | osl p i f => exact one _ rfl hk rfl h
 | pe p i => exact one _ rfl hk rfl h
 | xsl p => exact one _ rfl hk rfl h
 | tup p => exact one _ rfl hk rfl h
 | fn p i => exact one _ rfl hk rfl h
 | nl p => exact one _ rfl hk rfl h
 | mpr p => exact one _ rfl hk rfl h
 | undef => exact one _ rfl hk rfl h
def zsG (o m : Nat) : Obj -> Obj
 | .row es => .row (zdI o m es)
 | x => x
theorem zeP {o m : Nat} {q : Nat} {ob : Obj} : ∀ {H : za}, zbH o m H = true -> (q, ob) ∈ zap o m H -> ∃ ob0, (q, ob0) ∈ H /\ ob = zsG o m ob0 /\ (∀ es, ob0 = .row es -> zdC o m es = true)
 | [], _, h => by cases h
 | (q', .row es) :: l, hk, h => by
  simp only [zbH, zKW] at hk;simp only [zap] at h
  cases h with
  | head => exact ⟨_, .head _, rfl, fun es' e => by cases e; exact hk.1⟩
  | tail _ h => obtain ⟨ob0, h1, h2, h3⟩ := zeP hk.2 h; exact ⟨ob0, .tail _ h1, h2, h3⟩
 | (q', .acc n) :: l, hk, h => by
  simp only [zbH] at hk;simp only [zap] at h
  cases h with
  | head => exact ⟨_, .head _, rfl, fun es' e => by cases e⟩
  | tail _ h => obtain ⟨ob0, h1, h2, h3⟩ := zeP hk h; exact ⟨ob0, .tail _ h1, h2, h3⟩
 | (q', .frz n) :: l, hk, h => by
  simp only [zbH] at hk;simp only [zap] at h
  cases h with
  | head => exact ⟨_, .head _, rfl, fun es' e => by cases e⟩
  | tail _ h => obtain ⟨ob0, h1, h2, h3⟩ := zeP hk h; exact ⟨ob0, .tail _ h1, h2, h3⟩
 | (q', .mp n) :: l, hk, h => by
  simp only [zbH] at hk;simp only [zap] at h
  cases h with
  | head => exact ⟨_, .head _, rfl, fun es' e => by cases e⟩
  | tail _ h => obtain ⟨ob0, h1, h2, h3⟩ := zeP hk h; exact ⟨ob0, .tail _ h1, h2, h3⟩
theorem zev {o m q : Nat} : ∀ {H : za}, mark (zap o m H) q = mark H q
 | [] => rfl
 | (q', .row es) :: l => by
  have ih := zev (o := o) (m := m) (q := q) (H := l);unfold mark at ih ⊢;simp only [zap, Go.Sim.look]
  by_cases h : q' = q
  · rw [zKN h, zKN h]
  · rw [zKM h, zKM h]; exact ih
 | (q', .acc n) :: l => by
  have ih := zev (o := o) (m := m) (q := q) (H := l);unfold mark at ih ⊢;simp only [zap, Go.Sim.look]
  by_cases h : q' = q
  · rw [zKN h, zKN h]
  · rw [zKM h, zKM h]; exact ih
 | (q', .frz n) :: l => by
  have ih := zev (o := o) (m := m) (q := q) (H := l);unfold mark at ih ⊢;simp only [zap, Go.Sim.look]
  by_cases h : q' = q
  · rw [zKN h, zKN h]
  · rw [zKM h, zKM h]; exact ih
 | (q', .mp n) :: l => by
  have ih := zev (o := o) (m := m) (q := q) (H := l);unfold mark at ih ⊢;simp only [zap, Go.Sim.look]
  by_cases h : q' = q
  · rw [zKN h, zKN h]
  · rw [zKM h, zKM h]; exact ih
theorem zeF {α : Type} {x y : Option α} {a : α} (h : orE x y = some a) : y = some a \/ x = some a := by
 cases y with
 | some b => exact .inl h
 | none => exact .inr h
theorem zcJ {o m : Nat} {es : List D} : ∀ {l : List AV}, zcg o m l = some es -> AV.acc o es ∈ l /\ es.length = m
 | [], h => by cases h
 | x :: l, h => by
  cases x with
  | acc q es' =>
   simp only [zcg] at h
   split at h
   · rename_i hc;obtain ⟨rfl, hl⟩ := hc
     cases h; exact ⟨.head _, hl⟩
   · exact ⟨.tail _ (zcJ h).1, (zcJ h).2⟩
  | _ => simp only [zcg] at h; exact ⟨.tail _ (zcJ h).1, (zcJ h).2⟩
theorem zfy {o m : Nat} {es : List D} : ∀ {l : List AV}, zch o m l = some es -> ∃ e ∈ l, ∃ j : Nat, e.cells[j]? = some (AV.acc o es) /\ es.length = m
 | [], h => by cases h
 | x :: l, h => by
  cases x with
  | agg cs =>
   simp only [zch] at h
   rcases zeF h with h | h
   · obtain ⟨h1, h2⟩ := zcJ h;obtain ⟨j, hj⟩ := zLl h1;exact ⟨_, .head _, j, hj, h2⟩
   · obtain ⟨e, h1, h2⟩ := zfy h; exact ⟨e, .tail _ h1, h2⟩
  | acc p es' =>
   simp only [zch] at h
   rcases zeF h with h | h
   · obtain ⟨h1, h2⟩ := zcJ h;simp only [zLu] at h1;exact ⟨_, .head _, 0, by rw [<- h1]; rfl, h2⟩
   · obtain ⟨e, h1, h2⟩ := zfy h; exact ⟨e, .tail _ h1, h2⟩
  | _ =>
   simp only [zch] at h
   rcases zeF h with h | h
   · obtain ⟨h1, h2⟩ := zcJ h;simp at h1
   · obtain ⟨e, h1, h2⟩ := zfy h; exact ⟨e, .tail _ h1, h2⟩
theorem zei {o m : Nat} {es : List D} : ∀ {H : za}, zbB o m H = some es -> ∃ q fs, (q, Obj.row fs) ∈ H /\ ∃ e ∈ fs, ∃ j : Nat, e.cells[j]? = some (AV.acc o es) /\ es.length = m
 | [], h => by cases h
 | (q, .row fs) :: l, h => by
  simp only [zbB] at h
  rcases zeF h with h | h
  · exact ⟨q, fs, .head _, zfy h⟩
  · obtain ⟨q, fs, h1, h2⟩ := zei h; exact ⟨q, fs, .tail _ h1, h2⟩
 | (q, .acc n) :: l, h => by
  simp only [zbB] at h;obtain ⟨q, fs, h1, h2⟩ := zei h; exact ⟨q, fs, .tail _ h1, h2⟩
 | (q, .frz n) :: l, h => by
  simp only [zbB] at h;obtain ⟨q, fs, h1, h2⟩ := zei h; exact ⟨q, fs, .tail _ h1, h2⟩
 | (q, .mp n) :: l, h => by
  simp only [zbB] at h;obtain ⟨q, fs, h1, h2⟩ := zei h; exact ⟨q, fs, .tail _ h1, h2⟩
theorem zJO {o : Nat} {S S' : St} {a : Act} {w : World} {ι : Inj} {R : Nat -> Prop} (hs : zgl o S = some S') (h : Rel C S a w ι R) : Rel C S' a w ι R := by
 unfold zgl at hs;generalize hlk : look o S.heap = q at hs;unfold zin at hs
 split at hs
 · rename_i m
   split at hs
   · rename_i hm0;subst hm0;unfold zhT at hs
     split at hs
     · cases hs; exact h.nils hlk
     · cases hs; exact h.nilsH hlk
   rename_i hm0;generalize hes : zfx o m S.env S.heap = qe at hs;unfold zio at hs
   split at hs
   · rename_i es;rw [zKN hm0] at hs;have hmk : mark S.heap o = some m := by simp [mark, hlk]
     have hvl : es.length = m /\ ∃ u, VA w R ι (mark S.heap) (.acc o es) u := by
      unfold zfx at hes
      rcases zeF hes with hes | hes
      · obtain ⟨t, ht, hl⟩ := zzd hes;obtain ⟨u, _, hv⟩ := h.env t _ ht;exact ⟨hl, u, hv⟩
      · obtain ⟨q, fs, hq, e, he, j, hj, hl⟩ := zei hes;obtain ⟨i, hi⟩ := zLl he
        cases h.heap _ _ hq with
        | row _ _ _ _ _ _ hel =>
         obtain ⟨_, qv, _, hv⟩ := hel i e hi j _ hj;exact ⟨hl, qv, hv⟩
     obtain ⟨hl, u, hv⟩ := hvl;have hob := h.heap _ _ (zu hlk);have key : ∀ mk' : Nat -> Option Nat, mk' o = none -> ((∀ p, p ≠ o -> mk' p = mark S.heap p) -> OB w R ι mk' o (.row (es.map .d))) /\ ∀ (es' : List D) (u : Value), es'.length = m -> VA w R ι (mark S.heap) (.acc o es') u -> VA w R ι mk' (.osl o 0 m) u := by
      intro mk' hmk';refine ⟨fun _ => ?_, fun es' u hlen hx => ?_⟩
      · cases hv with
        | accR _ _ _ _ _ _ hlt => have := hlt m hmk; omega
        | acc0 => simp at hl; exact absurd hl.symm hm0
        | @accC _ b s m' cap _ c T hι hmk2 _ hL hcap hsz hb hc hel =>
         cases hob with
         | accN hι' => rw [hι] at hι'; cases hι'
         | acc _ hι' hR hb' hs0 _ =>
          rw [hι] at hι'; cases hι';refine .row hι hR hb hs0 (fun e he => ?_) ?_ fun i e hi j x hj => ?_
          · obtain ⟨d, hd, rfl⟩ := zKX.1 he; exact hsz d hd
          · rw [zKY]; exact zL1 (zK6 _ hcap) hc
          · rw [zKQ] at hi;obtain ⟨d, hd, rfl⟩ := zKL.1 hi;simp only [AV.cells, zKQ] at hj;obtain ⟨cd, hcd, rfl⟩ := zKL.1 hj;obtain ⟨k1, q, k2, k3⟩ := (hel i d hd).v_of_cells j cd hcd;exact ⟨k1, q, by rw [zK hb] at k2; exact k2, .d k3⟩
      · cases hx with
        | accR _ _ _ _ _ _ hlt => have := hlt m hmk; omega
        | acc0 => simp at hlen; exact absurd hlen.symm hm0
        | @accC _ b s m' cap _ c T hι hmk2 _ hL hcap hsz hb hc hel =>
         have := VA.osl (w := w) (R := R) (mk := mk') (off := 0) (len := es'.length) (cap := cap) hι hmk' hb hcap (by simpa using hc) hL;simp only [zMm] at this;rw [hlen] at this ⊢;exact this
     unfold ziq at hs
     by_cases hh : refsHeap o S.heap = false
     · rw [zKN hh] at hs
       cases hs
       have hmk' : mark (zj o (.row (es.map .d)) S.heap) o = none := by rw [zaN]
       have hk := key _ hmk';refine h.recast (g := zbS o m) hh (hk.1 fun p hp => zaO hp) fun x u hx => ⟨fun hr => ?_, fun hr => ?_⟩
       · unfold zbS
         split
         · rename_i p es';have hp : p = o := by simpa [AV.refs] using hr
           rw [zKN hp];subst hp
           split
           · rename_i hlen;exact hk.2 _ _ hlen hx
           · exact .undef
         · rw [zKN hr]; exact .undef
       · unfold zbS
         split
         · rename_i p es';have hp : ¬ p = o := by simpa [AV.refs] using hr
           rw [zKM hp]
         · rw [zKM (by simp [hr])]
     · rw [zKM hh] at hs
       split at hs
       rotate_left
       · cases hs
       rename_i hokh
       cases hs
       have hmn : ∀ p, p ≠ o -> mark (zj o (.row (es.map .d)) (zap o m S.heap)) p = mark S.heap p := fun p hp => by rw [zaO hp, zev]
       have hmk' : mark (zj o (.row (es.map .d)) (zap o m S.heap)) o = none := by rw [zaN]
       have hk := key _ hmk';have hst : ∀ p, p ≠ o -> Step w w ι ι (mark S.heap) (mark (zj o (.row (es.map .d)) (zap o m S.heap))) p := fun p hp => Step.other rfl (hmn p hp) fun _ _ _ => rfl;have hkeep : ∀ (x : AV) (u : Value), x.refs o = false -> VA w R ι (mark S.heap) x u -> VA w R ι (mark (zj o (.row (es.map .d)) (zap o m S.heap))) x u := fun x u hr hx =>
        hx.mono (fun _ h => h) (fun _ _ => rfl) fun p hp => hst p fun e => by subst e; rw [hr] at hp; cases hp
       refine { h with env := fun t x hx => ?_, heap := fun q ob' hq => ?_ }
       · obtain ⟨⟨t', y⟩, hm, he⟩ := zKX.1 hx
         cases he
         obtain ⟨u, h1, h2⟩ := h.env t' y hm;refine ⟨u, h1, ?_⟩;show VA w R ι _ (zbS o m y) u
         cases hr : y.refs o with
         | true =>
          unfold zbS
          split
          · rename_i p es';have hp : p = o := by simpa [AV.refs] using hr
            rw [zKN hp];subst hp
            split
            · rename_i hlen;exact hk.2 _ _ hlen h2
            · exact .undef
          · rw [zKN hr]; exact .undef
         | false =>
          have : zbS o m y = y := by
           unfold zbS
           split
           · rename_i p es';have hp : ¬ p = o := by simpa [AV.refs] using hr
             rw [zKM hp]
           · rw [zKM (by simp [hr])]
          rw [this];exact hkeep _ _ hr h2
       · rcases zbU hq with hq2 | ⟨hq2, hne⟩
         · cases hq2; exact hk.1 hmn
         · obtain ⟨ob0, hm0', hob', hrow⟩ := zeP hokh hq2;subst hob';have hob0 := h.heap q ob0 hm0'
           cases ob0 with
           | acc n => exact hob0.mono (fun _ h => h) (fun _ _ => rfl) (fun _ _ hb => ⟨hb, rfl, fun h => h⟩) (fun h => h) fun p hp => by simp [Obj.refs] at hp
           | frz n => exact hob0.mono (fun _ h => h) (fun _ _ => rfl) (fun _ _ hb => ⟨hb, rfl, fun h => h⟩) (fun h => h) fun p hp => by simp [Obj.refs] at hp
           | mp n => exact hob0.mono (fun _ h => h) (fun _ _ => rfl) (fun _ _ hb => ⟨hb, rfl, fun h => h⟩) (fun h => h) fun p hp => by simp [Obj.refs] at hp
           | row fs =>
            have hoke := hrow fs rfl;simp only [zsG]
            cases hob0 with
            | row hι hR hb hs0 hsz hc hel =>
             refine .row hι hR hb hs0 (fun e he => ?_) (by rw [zgb, zKY]; exact hc) fun i e hi j x hj => ?_
             · rw [zgb] at he;obtain ⟨e0, he0, rfl⟩ := zKX.1 he;rw [zIr]; exact hsz e0 he0
             · rw [zgb, zKQ] at hi;obtain ⟨e0, he0, rfl⟩ := zKL.1 hi;obtain ⟨x0, hx0, hkc, rfl⟩ := zIq (zsn hoke (zKU he0)) hj;obtain ⟨k1, qv, k2, k3⟩ := hel i e0 he0 j x0 hx0;refine ⟨zIo k1, qv, k2, ?_⟩
               by_cases hacc : ∃ es', x0 = .acc o es'
               · obtain ⟨es', rfl⟩ := hacc;simp only [okC, if_true, beq_iff_eq] at hkc;simp only [zau, if_true];exact hk.2 _ _ hkc k3
               · have hr : x0.refs o = false /\ zau o m x0 = x0 := by
                  cases x0 with
                  | acc p es' =>
                   have hp : ¬ p = o := fun e => hacc ⟨es', by rw [e]⟩;exact ⟨by simpa [AV.refs] using hp, by simp only [zau, zKM hp]⟩
                  | _ => exact ⟨by simpa [okC] using hkc, rfl⟩
                 rw [hr.2];exact hkeep _ _ hr.1 k3
   · cases hs
 · cases hs; exact h
 · cases hs; exact h
 · cases hs; exact h
 · cases hs; exact h
theorem zs8 {o : Nat} {ds : List D} {x : AV} : (acA o ds x).size = x.size := by
 unfold acA
 split
 · split <;> rfl
 · rfl
theorem zs7 {o : Nat} {ds : List D} {x : AV} (h : x.cell = true) : (acA o ds x).cell = true := by
 unfold acA
 split
 · split <;> rfl
 · exact h
theorem zgG {o : Nat} {ds : List D} : ∀ {l : List AV}, zd7 o ds l = l.map (acA o ds)
 | [] => rfl
 | x :: l => by simp only [zd7, zKS, zgG]
theorem zfb {o : Nat} {ds : List D} : ∀ {l : List AV}, zc8 o ds l = l.map (zca o ds)
 | [] => rfl
 | x :: l => by simp only [zc8, zKS, zfb]
theorem zsl {o m : Nat} {x : AV} : ∀ {l : List AV}, zeB o m l = true -> x ∈ l -> okA o m x = true
 | [], _, h => by cases h
 | y :: l, hk, h => by
  simp only [zeB, zKW] at hk
  cases h with
  | head => exact hk.1
  | tail _ h => exact zsl hk.2 h
theorem zsk {o m : Nat} {x : AV} : ∀ {l : List AV}, zdB o m l = true -> x ∈ l -> zfZ o m x = true
 | [], _, h => by cases h
 | y :: l, hk, h => by
  simp only [zdB, zKW] at hk
  cases h with
  | head => exact hk.1
  | tail _ h => exact zsk hk.2 h
theorem zta {o : Nat} {ds : List D} {x : AV} : (zca o ds x).size = x.size := by
 unfold zca
 split
 · simp only [AV.size, zgG, zKY]
 · exact zs8
theorem zs9 {o m : Nat} {ds : List D} {e x' : AV} {j : Nat} (hk : zfZ o m e = true) (h : (zca o ds e).cells[j]? = some x') : ∃ x, e.cells[j]? = some x /\ okA o m x = true /\ x' = acA o ds x := by
 have one : ∀ e : AV, e.cells = [e] -> okA o m e = true -> (acA o ds e).cells = [acA o ds e] -> (acA o ds e).cells[j]? = some x' -> ∃ x, e.cells[j]? = some x /\ okA o m x = true /\ x' = acA o ds x := by
  intro e h1 h2 h3 h4;rw [h3] at h4
  match j, h4 with
  | 0, h4 => simp at h4; subst h4; exact ⟨e, by rw [h1]; rfl, h2, rfl⟩
  | n + 1, h4 => simp at h4
 cases e with
 | agg cs =>
  simp only [zca, AV.cells, zgG, zKQ] at h;obtain ⟨x, h1, h2⟩ := zKL.1 h;exact ⟨x, h1, zsl hk (zKU h1), h2.symm⟩
 | d y =>
  simp only [zca, acA, AV.cells, zKQ] at h;obtain ⟨c, h1, h2⟩ := zKL.1 h;subst h2;exact ⟨.d c, by simp [AV.cells, h1], rfl, rfl⟩
 | osl p i f => exact one _ rfl hk (by unfold acA; simp only; split <;> rfl) h
 | ref p i f => exact one _ rfl hk rfl h
 | acc p i => exact one _ rfl hk rfl h
 | pe p i => exact one _ rfl hk rfl h
 | xsl p => exact one _ rfl hk rfl h
 | tup p => exact one _ rfl hk rfl h
 | fn p i => exact one _ rfl hk rfl h
 | nl p => exact one _ rfl hk rfl h
 | mpr p => exact one _ rfl hk rfl h
 | undef => exact one _ rfl hk rfl h
def zmo (o : Nat) (ds : List D) : Obj -> Obj
 | .row es => .row (zc8 o ds es)
 | x => x
theorem zd6 {o m : Nat} {ds : List D} {q : Nat} {ob : Obj} : ∀ {H : za}, zbG o m H = true -> (q, ob) ∈ zal o ds H -> ∃ ob0, (q, ob0) ∈ H /\ ob = zmo o ds ob0 /\ (∀ es, ob0 = .row es -> zdB o m es = true)
 | [], _, h => by cases h
 | (q', .row es) :: l, hk, h => by
  simp only [zbG, zKW] at hk;simp only [zal] at h
  cases h with
  | head => exact ⟨_, .head _, rfl, fun es' e => by cases e; exact hk.1⟩
  | tail _ h => obtain ⟨ob0, h1, h2, h3⟩ := zd6 hk.2 h; exact ⟨ob0, .tail _ h1, h2, h3⟩
 | (q', .acc n) :: l, hk, h => by
  simp only [zbG] at hk;simp only [zal] at h
  cases h with
  | head => exact ⟨_, .head _, rfl, fun es' e => by cases e⟩
  | tail _ h => obtain ⟨ob0, h1, h2, h3⟩ := zd6 hk h; exact ⟨ob0, .tail _ h1, h2, h3⟩
 | (q', .frz n) :: l, hk, h => by
  simp only [zbG] at hk;simp only [zal] at h
  cases h with
  | head => exact ⟨_, .head _, rfl, fun es' e => by cases e⟩
  | tail _ h => obtain ⟨ob0, h1, h2, h3⟩ := zd6 hk h; exact ⟨ob0, .tail _ h1, h2, h3⟩
 | (q', .mp n) :: l, hk, h => by
  simp only [zbG] at hk;simp only [zal] at h
  cases h with
  | head => exact ⟨_, .head _, rfl, fun es' e => by cases e⟩
  | tail _ h => obtain ⟨ob0, h1, h2, h3⟩ := zd6 hk h; exact ⟨ob0, .tail _ h1, h2, h3⟩
theorem zeu {o q : Nat} {ds : List D} : ∀ {H : za}, mark (zal o ds H) q = mark H q
 | [] => rfl
 | (q', .row es) :: l => by
  have ih := zeu (o := o) (ds := ds) (q := q) (H := l);unfold mark at ih ⊢;simp only [zal, Go.Sim.look]
  by_cases h : q' = q
  · rw [zKN h, zKN h]
  · rw [zKM h, zKM h]; exact ih
 | (q', .acc n) :: l => by
  have ih := zeu (o := o) (ds := ds) (q := q) (H := l);unfold mark at ih ⊢;simp only [zal, Go.Sim.look]
  by_cases h : q' = q
  · rw [zKN h, zKN h]
  · rw [zKM h, zKM h]; exact ih
 | (q', .frz n) :: l => by
  have ih := zeu (o := o) (ds := ds) (q := q) (H := l);unfold mark at ih ⊢;simp only [zal, Go.Sim.look]
  by_cases h : q' = q
  · rw [zKN h, zKN h]
  · rw [zKM h, zKM h]; exact ih
 | (q', .mp n) :: l => by
  have ih := zeu (o := o) (ds := ds) (q := q) (H := l);unfold mark at ih ⊢;simp only [zal, Go.Sim.look]
  by_cases h : q' = q
  · rw [zKN h, zKN h]
  · rw [zKM h, zKM h]; exact ih
theorem zJJ {o : Nat} {S S' : St} {a : Act} {w : World} {ι : Inj} {R : Nat -> Prop} (hs : zgi o S = some S') (h : Rel C S a w ι R) : Rel C S' a w ι R := by
 unfold zgi at hs;generalize hlk : look o S.heap = q at hs;unfold zig at hs
 split at hs
 · rename_i es;generalize hds : zO es = qe at hs;unfold zih at hs
   split at hs
   · rename_i ds
     split at hs
     · cases hs; exact h.nilsO
     rename_i hne0
     split at hs
     rotate_left
     · rename_i hc0;unfold zii at hs
       split at hs
       rotate_left
       · cases hs
       rename_i hokh
       cases hs
       have hesd := zbX hds;have hmn : ∀ p, p ≠ o -> mark (zj o (.acc ds.length) (zal o ds S.heap)) p = mark S.heap p := fun p hp => by rw [zaO hp, zeu]
       have hmk' : mark (zj o (.acc ds.length) (zal o ds S.heap)) o = some ds.length := by rw [zaN]
       have hdn : ds ≠ [] := by rintro rfl; exact hne0 hesd
       have hst : ∀ p, p ≠ o -> Step w w ι ι (mark S.heap) (mark (zj o (.acc ds.length) (zal o ds S.heap))) p := fun p hp => Step.other rfl (hmn p hp) fun _ _ _ => rfl;have hkeep : ∀ (x : AV) (u : Value), x.refs o = false -> VA w R ι (mark S.heap) x u -> VA w R ι (mark (zj o (.acc ds.length) (zal o ds S.heap))) x u := fun x u hr hx =>
        hx.mono (fun _ h => h) (fun _ _ => rfl) fun p hp => hst p fun e => by subst e; rw [hr] at hp; cases hp
       cases h.heap _ _ (zu hlk) with
       | @row _ b s c T hι hR hb hs0 hsz hc hel =>
        have hrd : ∀ (i : Nat) (d : D), ds[i]? = some d -> Rd w R (.el d b (i * s)) := fun i d hi => by
         have hei : es[i]? = some (.d d) := by rw [hesd]; simp [hi]
         refine Rd.el_of_cells (fun vs hvs => ?_) fun j cd hj => ?_
         · subst hvs;have := (hel i _ hei 0 (.d (.tup vs)) rfl).1;simp [AV.cell, D.cell] at this
         · obtain ⟨k1, q, k2, k3⟩ := hel i _ hei j (.d cd) (by simp [AV.cells, hj]);exact ⟨k1, q, by rw [zK hb]; exact k2, k3.of_d⟩
        have hsz' : ∀ d ∈ ds, d.size = s := fun d hd => hsz (.d d) (by rw [hesd]; exact zLY hd);have key : ∀ u, VA w R ι (mark S.heap) (.osl o 0 ds.length) u -> VA w R ι (mark (zj o (.acc ds.length) (zal o ds S.heap))) (.acc o ds) u := fun u hx => by
         generalize hlen : ds.length = n at hx hmk'
         cases hx with
         | osl0 => exact absurd (zLh.1 hlen) hdn
         | @osl _ _ _ cap b' s' c' T' hι' hmk2 hb' hcap hc' hL =>
          rw [hι] at hι'; cases hι';rw [hb] at hb'; cases hb';subst hlen;rw [zMm];exact .accC hι hmk' (zKV _) hL hcap hsz' hb (by simpa using hc') hrd
        refine { h with env := fun t x hx => ?_, heap := fun q ob' hq => ?_ }
        · obtain ⟨⟨t', y⟩, hm, he⟩ := zKX.1 hx
          cases he
          obtain ⟨u, h1, h2⟩ := h.env t' y hm;refine ⟨u, h1, ?_⟩;show VA w R ι _ (zbW o ds y) u
          cases hr : y.refs o with
          | true =>
           unfold zbW
           split
           · rename_i p off len;have hp : p = o := by simpa [AV.refs] using hr
             rw [zKN hp];subst hp
             split
             · rename_i hcc;obtain ⟨rfl, rfl⟩ := hcc;exact key _ h2
             · exact .undef
           · rw [zKN hr]; exact .undef
          | false =>
           have : zbW o ds y = y := by
            unfold zbW
            split
            · rename_i p off len;have hp : ¬ p = o := by simpa [AV.refs] using hr
              rw [zKM hp]
            · rw [zKM (by simp [hr])]
           rw [this];exact hkeep _ _ hr h2
        · rcases zbU hq with hq2 | ⟨hq2, hne⟩
          · cases hq2
            refine .acc (zLP.2 hdn) hι hR hb hs0 ?_;rw [hesd] at hc; simpa using hc
          · obtain ⟨ob0, hm0', hob', hrow⟩ := zd6 hokh hq2;subst hob';have hob0 := h.heap q ob0 hm0'
            cases ob0 with
            | acc n => exact hob0.mono (fun _ h => h) (fun _ _ => rfl) (fun _ _ hb => ⟨hb, rfl, fun h => h⟩) (fun h => h) fun p hp => by simp [Obj.refs] at hp
            | frz n => exact hob0.mono (fun _ h => h) (fun _ _ => rfl) (fun _ _ hb => ⟨hb, rfl, fun h => h⟩) (fun h => h) fun p hp => by simp [Obj.refs] at hp
            | mp n => exact hob0.mono (fun _ h => h) (fun _ _ => rfl) (fun _ _ hb => ⟨hb, rfl, fun h => h⟩) (fun h => h) fun p hp => by simp [Obj.refs] at hp
            | row fs =>
             have hoke := hrow fs rfl;simp only [zmo]
             cases hob0 with
             | row hι hR hb hs0 hsz hc hel =>
              refine .row hι hR hb hs0 (fun e he => ?_) (by rw [zfb, zKY]; exact hc) fun i e hi j x hj => ?_
              · rw [zfb] at he;obtain ⟨e0, he0, rfl⟩ := zKX.1 he;rw [zta]; exact hsz e0 he0
              · rw [zfb, zKQ] at hi;obtain ⟨e0, he0, rfl⟩ := zKL.1 hi;obtain ⟨x0, hx0, hkc, rfl⟩ := zs9 (zsk hoke (zKU he0)) hj;obtain ⟨k1, qv, k2, k3⟩ := hel i e0 he0 j x0 hx0;refine ⟨zs7 k1, qv, k2, ?_⟩
                by_cases hacc : ∃ i n, x0 = .osl o i n
                · obtain ⟨i', n', rfl⟩ := hacc;simp only [okA, if_true, zKW, beq_iff_eq] at hkc;obtain ⟨rfl, rfl⟩ := hkc;simp only [acA, if_true];exact key _ k3
                · have hr : x0.refs o = false /\ acA o ds x0 = x0 := by
                   cases x0 with
                   | osl p i' n' =>
                    have hp : ¬ p = o := fun e => hacc ⟨i', n', by rw [e]⟩;exact ⟨by simpa [AV.refs] using hp, by simp only [acA, zKM hp]⟩
                   | _ => exact ⟨by simpa [okA] using hkc, rfl⟩
                  rw [hr.2];exact hkeep _ _ hr.1 k3
     rename_i hc;obtain ⟨hne, hh⟩ := hc
     cases hs
     have hesd := zbX hds;have hmk' : mark (zj o (.acc ds.length) S.heap) o = some ds.length := by rw [zaN]
     have hdn : ds ≠ [] := by rintro rfl; exact hne hesd
     cases h.heap _ _ (zu hlk) with
     | @row _ b s c T hι hR hb hs0 hsz hc hel =>
      have hrd : ∀ (i : Nat) (d : D), ds[i]? = some d -> Rd w R (.el d b (i * s)) := fun i d hi => by
       have hei : es[i]? = some (.d d) := by rw [hesd]; simp [hi]
       refine Rd.el_of_cells (fun vs hvs => ?_) fun j cd hj => ?_
       · subst hvs;have := (hel i _ hei 0 (.d (.tup vs)) rfl).1;simp [AV.cell, D.cell] at this
       · obtain ⟨k1, q, k2, k3⟩ := hel i _ hei j (.d cd) (by simp [AV.cells, hj]);exact ⟨k1, q, by rw [zK hb]; exact k2, k3.of_d⟩
      have hsz' : ∀ d ∈ ds, d.size = s := fun d hd => hsz (.d d) (by rw [hesd]; exact zLY hd);refine h.recast (g := zbW o ds) hh ?_ fun x u hx => ⟨fun hr => ?_, fun hr => ?_⟩
      · refine .acc (zLP.2 hdn) hι hR hb hs0 ?_;rw [hesd] at hc; simpa using hc
      · unfold zbW
        split
        · rename_i p off len;have hp : p = o := by simpa [AV.refs] using hr
          rw [zKN hp];subst hp
          split
          · rename_i hcc;obtain ⟨rfl, rfl⟩ := hcc;generalize hlen : ds.length = n at hx hmk'
            cases hx with
            | osl0 => exact absurd (zLh.1 hlen) hdn
            | @osl _ _ _ cap b' s' c' T' hι' hmk2 hb' hcap hc' hL =>
             rw [hι] at hι'; cases hι';rw [hb] at hb'; cases hb';subst hlen;rw [zMm];exact .accC hι hmk' (zKV _) hL hcap hsz' hb (by simpa using hc') hrd
          · exact .undef
        · rw [zKN hr]; exact .undef
      · unfold zbW
        split
        · rename_i p off len;have hp : ¬ p = o := by simpa [AV.refs] using hr
          rw [zKM hp]
        · rw [zKM (by simp [hr])]
   · cases hs
 · cases hs; exact h
 · cases hs; exact h
 · cases hs; exact h
 · cases hs; exact h
theorem zIg {o o' a b : Nat} (ha : a ≠ o') (hb : b ≠ o') (h : rnm o o' a = rnm o o' b) : a = b := by
 unfold rnm at h
 split at h <;> split at h
 · rename_i h1 h2; rw [h1, h2]
 · exact absurd h.symm hb
 · exact absurd h ha
 · exact h
theorem zJN {o o' : Nat} {S S' : St} {a : Act} {w : World} {ι : Inj} {R : Nat -> Prop} (hs : zgk o o' S = some S') (h : Rel C S a w ι R) : ∃ ι', Rel C S' a w ι' R := by
 unfold zgk at hs;generalize hlk : look o S.heap = q at hs
 cases q with
 | none => cases hs; exact ⟨ι, h⟩
 | some ob =>
  simp only [zim] at hs
  split at hs
  · rename_i hc;obtain ⟨hn, he, hh⟩ := hc
    cases hs
    have hn' : look o' S.heap = none := by simpa using hn
    have hmk : ∀ n, n ≠ o' -> mark (zaz (rnm o o') S.heap) (rnm o o' n) = mark S.heap n := by
     intro n hno;unfold mark;rw [zr3 fun m hm e => zIg (fun e2 => by rw [e2, hn'] at hm; cases hm) hno e]
     cases look n S.heap with
     | none => rfl
     | some ob => cases ob <;> rfl
    have hι : ∀ n, n ≠ o' -> (fun q => if q = o' then ι o else if q = o then none else ι q) (rnm o o' n) = ι n := by
     intro n hno;unfold rnm
     by_cases e : n = o
     · subst e; simp
     · simp [e, hno]
    refine ⟨fun q => if q = o' then ι o else if q = o then none else ι q, { h with own := ?_, inj := ?_, env := ?_, heap := ?_ }⟩
    · intro q b s hq
      split at hq
      · exact h.own o b s hq
      · split at hq
        · cases hq
        · exact h.own q b s hq
    · intro q q' b s s' hq hq'
      split at hq <;> split at hq'
      · rename_i e1 e2; rw [e1, e2]
      · split at hq'
        · cases hq'
        · rename_i e1 e2 e3; exact absurd (h.inj o q' b s s' hq hq') (Ne.symm e3)
      · split at hq
        · cases hq
        · rename_i e1 e2 e3; exact absurd (h.inj q o b s s' hq hq') e3
      · split at hq
        · cases hq
        · split at hq'
          · cases hq'
          · exact h.inj q q' b s s' hq hq'
    · intro t x hx;have : ∃ y, (t, y) ∈ S.env /\ x = y.ren (rnm o o') := by
       have key : ∀ (E : Env), (t, x) ∈ zeI (rnm o o') E -> ∃ y, (t, y) ∈ E /\ x = y.ren (rnm o o') := by
        intro E
        induction E with
        | nil => intro h; cases h
        | cons p l ih =>
         obtain ⟨t', y⟩ := p;intro h;simp only [zeI] at h
         cases h with
         | head => exact ⟨y, .head _, rfl⟩
         | tail _ h => obtain ⟨z, h1, h2⟩ := ih h; exact ⟨z, .tail _ h1, h2⟩
       exact key _ hx
      obtain ⟨y, hy, rfl⟩ := this;obtain ⟨u, h1, h2⟩ := h.env t y hy;refine ⟨u, h1, h2.ren fun n hn2 => ?_⟩;have hno : n ≠ o' := fun e => by subst e; rw [zeH hy he] at hn2; cases hn2
      exact ⟨fun p hp => (hι n hno).trans hp, hmk n hno⟩
    · intro n ob' hm;obtain ⟨⟨m, ob2⟩, hm2, he2⟩ := zKX.1 hm
      cases he2
      have hno : m ≠ o' := fun e => by
       subst e;have hs2 : (look m S.heap).isSome = true := by
        have key : ∀ (l : za), (m, ob2) ∈ l -> (look m l).isSome = true := by
         intro l
         induction l with
         | nil => intro h; cases h
         | cons p l ih =>
          obtain ⟨k, y⟩ := p;intro h;simp only [look]
          split
          · rfl
          · rename_i hne
            cases h with
            | head => exact absurd rfl hne
            | tail _ h => exact ih h
        exact key _ hm2
       rw [hn'] at hs2; cases hs2
      refine (h.heap m ob2 hm2).ren (hι m hno) fun n hn2 => ?_;have hno2 : n ≠ o' := fun e => by subst e; rw [zb4 hm2 hh] at hn2; cases hn2
      exact ⟨fun p hp => (hι n hno2).trans hp, hmk n hno2⟩
  · cases hs
theorem zyd {o : Nat} {H : za} {E : Env} : zcd o H E = E.map fun p => (p.1, zef o H p.2) := by
 induction E with
 | nil => rfl
 | cons p l ih => obtain ⟨t, x⟩ := p; simp only [zcd, ih]; rfl
theorem zyb {o : Nat} {x : AV} (h : x.cell = true) : (zcG o x).cell = true := by
 unfold zcG
 split
 · split <;> rfl
 · exact h
theorem zg2 {o : Nat} : ∀ {l : List AV}, zed o l = l.map (zcG o)
 | [] => rfl
 | x :: l => by simp only [zed, zKS, zg2]
theorem zm5 {o : Nat} : ∀ {l : List AV}, zdi o l = l.map (zdh o)
 | [] => rfl
 | x :: l => by simp only [zdi, zKS, zm5]
theorem zm6 {o q : Nat} {ob : Obj} : ∀ {H : za}, (q, ob) ∈ zbx o H -> ∃ ob0, (q, ob0) ∈ H /\ ob = zfn o ob0
 | [], h => by cases h
 | (q', ob') :: l, h => by
  simp only [zbx] at h
  cases h with
  | head => exact ⟨_, .head _, rfl⟩
  | tail _ h => obtain ⟨ob0, h1, h2⟩ := zm6 h; exact ⟨ob0, .tail _ h1, h2⟩
theorem zr0 {o q : Nat} : ∀ {H : za}, look q (zbx o H) = (look q H).map (zfn o)
 | [] => rfl
 | (q', ob') :: l => by
  simp only [zbx, look]
  split
  · rfl
  · exact zr0
theorem zsa {o : Nat} {H : za} : mark (zbx o H) = mark H := funext fun p => by
 unfold mark;rw [zr0]
 rcases look p H with _ | (es | m | m | m) <;> rfl
theorem zsU {S : St} {a : Act} {w : World} {ι : Inj} {R : Nat -> Prop} {o : Nat} {ob : Obj} (hlk : look o S.heap = some ob) (h : Rel C S a w ι R) : Rel C ⟨zcd o S.heap S.env, zo (zP S.heap [o]) S.heap⟩ a w ι (za6 R ι [o]) := by
 have hf := h.freeze (os := [o]) (by simp [zcj, hlk]);refine { hf with env := fun t x hx => ?_ };rw [zyd] at hx;obtain ⟨⟨t', y⟩, hm, he⟩ := zKX.1 hx
 cases he
 obtain ⟨u, h1, h2⟩ := h.env t' y hm;obtain ⟨u', h1', h2'⟩ := hf.env t' y hm;rw [h1] at h1'
 cases h1'
 refine ⟨u, h1, ?_⟩;show VA w _ ι _ (zef o S.heap y) u;unfold zef
 split
 · rename_i p es
   split
   · rename_i hp;exact .d (zdN h h2 rfl fun q hq => by simpa [AV.objs, hp] using hq)
   · exact h2'
 · rename_i p off len
   split
   · rename_i hp;unfold zee
     split
     · rename_i d hd;exact .d (zdN h h2 hd fun q hq => by simpa [AV.objs, hp] using hq)
     · exact h2'
   · exact h2'
 · rename_i p i k
   split
   · rename_i hp;unfold zee
     split
     · rename_i d hd;exact .d (zdN h h2 hd fun q hq => by simpa [AV.objs, hp] using hq)
     · exact h2'
   · exact h2'
 · exact h2'
theorem zyc {S : St} {a : Act} {w : World} {ι : Inj} {R : Nat -> Prop} (h : Rel C S a w ι R) {o : Nat} {mk : Nat -> Option Nat} {x : AV} {u : Value} (h1 : VA w R ι (mark S.heap) x u) (h2 : VA w (za6 R ι [o]) ι mk x u) : VA w (za6 R ι [o]) ι mk (zcG o x) u := by
 unfold zcG
 split
 · split
   · rename_i hp;exact .d (zdN h h1 rfl fun q hq => by simpa [AV.objs, hp] using hq)
   · exact h2
 · exact h2
theorem zJL {S : St} {a : Act} {w : World} {ι : Inj} {R : Nat -> Prop} {o : Nat} {ob : Obj} (hlk : look o S.heap = some ob) (h : Rel C S a w ι R) : Rel C ⟨zcd o S.heap S.env, zbx o (zo (zP S.heap [o]) S.heap)⟩ a w ι (za6 R ι [o]) := by
 have hd := zsU hlk h;refine { hd with env := fun t x hx => ?_, heap := fun q ob1 hq => ?_ }
 · show ∃ u, za2 C a t = some u /\ VA w _ ι (mark (zbx o (zo (zP S.heap [o]) S.heap))) x u;rw [zsa]; exact hd.env t x hx
 · show OB w _ ι (mark (zbx o (zo (zP S.heap [o]) S.heap))) q ob1;rw [zsa];obtain ⟨ob0, h1, rfl⟩ := zm6 hq;have hob := hd.heap q ob0 h1
   cases ob0 with
   | acc n => exact hob
   | frz n => exact hob
   | mp n => exact hob
   | row es =>
    have hold : OB w R ι (mark S.heap) q (.row es) := by
     rcases zhP h1 with h3 | ⟨h3, _⟩
     · obtain ⟨p, _, he⟩ := zKX.1 h3
       cases he
     · exact h.heap q _ h3
    cases hob with
    | row hι' hR hb hs0 hsz hc hel =>
     cases hold with
     | row hι2 hR2 hb2 hs2 hsz2 hc2 hel2 =>
      rw [hι'] at hι2
      cases hι2
      rw [hb] at hb2
      cases hb2
      show OB w _ ι _ q (.row (zdi o es));rw [zm5];have hsize : ∀ e : AV, (zdh o e).size = e.size := fun e => by
       unfold zdh
       split
       · simp only [AV.size, zg2, zKY]
       · rfl
      refine .row hι' hR hb hs0 (fun e he => ?_) (by rw [zKY]; exact hc) fun i e hi j x hj => ?_
      · obtain ⟨e0, he0, rfl⟩ := zKX.1 he;rw [hsize]; exact hsz e0 he0
      · rw [zKQ] at hi;obtain ⟨e0, he0, rfl⟩ := zKL.1 hi;unfold zdh at hj
        split at hj
        · rename_i cs;simp only [AV.cells, zg2, zKQ] at hj;obtain ⟨x0, hx0, rfl⟩ := zKL.1 hj;obtain ⟨k1, qv, k2, k3⟩ := hel i _ he0 j x0 hx0;obtain ⟨_, qv2, k22, k32⟩ := hel2 i _ he0 j x0 hx0;rw [k2] at k22
          cases k22
          exact ⟨zyb k1, qv, k2, zyc h k32 k3⟩
        · exact hel i _ he0 j x hj
theorem zJM {S S' : St} {a : Act} {w : World} {ι : Inj} {R : Nat -> Prop} {o : Nat} (hs : zgj o S = some S') (h : Rel C S a w ι R) : ∃ R', Rel C S' a w ι R' := by
 unfold zgj zik at hs
 split at hs
 · rename_i ob hlk;unfold zg3 at hs
   split at hs
   · cases hs
     exact ⟨_, zsU hlk h⟩
   · cases hs
     exact ⟨_, zJL hlk h⟩
 · cases hs; exact ⟨R, h⟩
theorem zrk {S' : St} {a : Act} {w : World} : ∀ {gs : List Nat} {S : St} {ι : Inj} {R : Nat -> Prop}, zbj gs S = some S' -> Rel C S a w ι R -> ∃ ι' R', Rel C S' a w ι' R' := by
 intro gs
 induction gs with
 | nil => intro S ι R hs h; cases hs; exact ⟨ι, R, h⟩
 | cons g gs ih =>
  intro S ι R hs h;obtain ⟨S1, h1, h2⟩ := zKK.1 hs;have : ∃ ι' R', Rel C S1 a w ι' R' := by
   unfold zfE at h1
   split at h1
   · split at h1
     · exact ⟨ι, R, zJO h1 h⟩
     · exact ⟨ι, R, zJJ h1 h⟩
   · split at h1
     · obtain ⟨ι', h'⟩ := zJN h1 h; exact ⟨ι', R, h'⟩
     · split at h1
       · obtain ⟨R', h'⟩ := zJM h1 h; exact ⟨ι, R', h'⟩
       · cases h1; exact ⟨ι, R, h.norm1⟩
  obtain ⟨ι', R', h'⟩ := this;exact ih h2 h'
end Go.Sim
