/-
  An array that was appended to becomes one that is written, a.
-/
import Derived.Test.YtfggldgdejjlnaaGreatB77a5765
set_option linter.unusedSimpArgs false
set_option linter.unusedVariables false
set_option maxHeartbeats 10000000
set_option maxRecDepth 100000
namespace Go.Sim
open Go (World Value Addr TypeId Act)
variable {P : Program} {C : Ctx}
def zfu (o m : Nat) : Env -> Option (List D)
 | [] => none
 | (_, .acc p es) :: l => if p = o /\ es.length = m then some es else zfu o m l
 | _ :: l => zfu o m l
def zdP (o m : Nat) (x : AV) : AV :=
 match x with
 | .acc p es => if p = o then (if es.length = m then .osl o 0 m else .undef) else .acc p es
 | x => if x.refs o then .undef else x
def zky (o m : Nat) (E : Env) : Env := E.map fun p => (p.1, zdP o m p.2)
def zdw (o : Nat) (ds : List D) (x : AV) : AV :=
 match x with
 | .osl p off len => if p = o then (if off = 0 /\ len = ds.length then .acc o ds else .undef) else .osl p off len
 | x => if x.refs o then .undef else x
def ziY (o : Nat) (ds : List D) (E : Env) : Env := E.map fun p => (p.1, zdw o ds p.2)
def zki (o : Nat) : AV -> AV
 | .acc p [] => if p = o then .xsl [] else .acc p []
 | x => x
def zeO (o : Nat) : Env -> Env
 | [] => []
 | (t, x) :: l => (t, zki o x) :: zeO o l
def okC (o m : Nat) : AV -> Bool
 | .acc p es => if p = o then es.length == m else true
 | x => !x.refs o
def zbt (o m : Nat) : AV -> AV
 | .acc p es => if p = o then .osl o 0 m else .acc p es
 | x => x
def zkk (o m : Nat) : List AV -> Bool
 | [] => true
 | x :: l => okC o m x && zkk o m l
def zkx (o m : Nat) : List AV -> List AV
 | [] => []
 | x :: l => zbt o m x :: zkx o m l
def okE (o m : Nat) : AV -> Bool
 | .agg cs => zkk o m cs
 | x => okC o m x
def zeT (o m : Nat) : AV -> AV
 | .agg cs => .agg (zkx o m cs)
 | x => zbt o m x
def zhj (o m : Nat) : List AV -> Bool
 | [] => true
 | x :: l => okE o m x && zhj o m l
def zhu (o m : Nat) : List AV -> List AV
 | [] => []
 | x :: l => zeT o m x :: zhu o m l
def zdh (o m : Nat) : zb -> Bool
 | [] => true
 | (_, .row es) :: l => zhj o m es && zdh o m l
 | (_, .acc _) :: l => zdh o m l
 | (_, .frz _) :: l => zdh o m l
 | (_, .mp _) :: l => zdh o m l
def zbd (o m : Nat) : zb -> zb
 | [] => []
 | (q, .row es) :: l => (q, .row (zhu o m es)) :: zbd o m l
 | (q, .acc n) :: l => (q, .acc n) :: zbd o m l
 | (q, .frz n) :: l => (q, .frz n) :: zbd o m l
 | (q, .mp n) :: l => (q, .mp n) :: zbd o m l
def zeA (o m : Nat) : List AV -> Option (List D)
 | [] => none
 | .acc p es :: l => if p = o /\ es.length = m then some es else zeA o m l
 | _ :: l => zeA o m l
def orE {α : Type} (x : Option α) : Option α -> Option α
 | some a => some a
 | none => x
def zeB (o m : Nat) : List AV -> Option (List D)
 | [] => none
 | .agg cs :: l => orE (zeB o m l) (zeA o m cs)
 | x :: l => orE (zeB o m l) (zeA o m [x])
def zc8 (o m : Nat) : zb -> Option (List D)
 | [] => none
 | (_, .row es) :: l => orE (zc8 o m l) (zeB o m es)
 | (_, .acc _) :: l => zc8 o m l
 | (_, .frz _) :: l => zc8 o m l
 | (_, .mp _) :: l => zc8 o m l
def zlG (o m : Nat) (E : Env) (H : zb) : Option (List D) := orE (zc8 o m H) (zfu o m E)
def ztW (o m : Nat) (E : Env) (H : zb) (es : List D) (b : Bool) : Option St :=
 if b = false then some ⟨zky o m E, zr o (.row (es.map .d)) H⟩ else if zdh o m H = true then some ⟨zky o m E, zr o (.row (es.map .d)) (zbd o m H)⟩ else none
def ztV (o m : Nat) (E : Env) (H : zb) : Option (List D) -> Option St
 | some es => if m ≠ 0 then ztW o m E H es (refsHeap o H) else none
 | none => none
def zfL (o : Nat) (x : AV) : AV :=
 match x with
 | .acc p [] => if p = o then .xsl [] else .acc p []
 | x => x
def zkg (o : Nat) : List AV -> List AV
 | [] => []
 | x :: l => zfL o x :: zkg o l
def zhe (o : Nat) (x : AV) : AV :=
 match x with
 | .agg cs => .agg (zkg o cs)
 | x => x
def zhf (o : Nat) : List AV -> List AV
 | [] => []
 | x :: l => zhe o x :: zhf o l
def zn8 (o : Nat) (ob : Obj) : Obj :=
 match ob with
 | .row es => .row (zhf o es)
 | x => x
def zdf (o : Nat) : zb -> zb
 | [] => []
 | (q, ob) :: l => (q, zn8 o ob) :: zdf o l
def zta (o : Nat) (E : Env) (H : zb) (b : Bool) : Option St := if b = false then some ⟨zeO o E, H⟩ else some ⟨zeO o E, zdf o H⟩
def ztU (o : Nat) (E : Env) (H : zb) : Option Obj -> Option St
 | some (.acc m) => if m = 0 then zta o E H (refsHeap o H) else ztV o m E H (zlG o m E H)
 | some (.row es) => some ⟨E, H⟩
 | some (.frz m) => some ⟨E, H⟩
 | some (.mp m) => some ⟨E, H⟩
 | none => some ⟨E, H⟩
def zoK (o : Nat) (S : St) : Option St := ztU o S.env S.heap (look o S.heap)
def zkh (o : Nat) : AV -> AV
 | .osl p off 0 => if p = o then .d (.sl []) else .osl p off 0
 | x => x
def zhg (o : Nat) : Env -> Env
 | [] => []
 | (t, x) :: l => (t, zkh o x) :: zhg o l
def okA (o n : Nat) : AV -> Bool
 | .osl p off len => if p = o then off == 0 && len == n else true
 | x => !x.refs o
def acA (o : Nat) (ds : List D) : AV -> AV
 | .osl p off len => if p = o then .acc o ds else .osl p off len
 | x => x
def zkj (o n : Nat) : List AV -> Bool
 | [] => true
 | x :: l => okA o n x && zkj o n l
def ziX (o : Nat) (ds : List D) : List AV -> List AV
 | [] => []
 | x :: l => acA o ds x :: ziX o ds l
def zoa (o n : Nat) : AV -> Bool
 | .agg cs => zkj o n cs
 | x => okA o n x
def zep (o : Nat) (ds : List D) : AV -> AV
 | .agg cs => .agg (ziX o ds cs)
 | x => acA o ds x
def zhi (o n : Nat) : List AV -> Bool
 | [] => true
 | x :: l => zoa o n x && zhi o n l
def zgm (o : Nat) (ds : List D) : List AV -> List AV
 | [] => []
 | x :: l => zep o ds x :: zgm o ds l
def zdg (o n : Nat) : zb -> Bool
 | [] => true
 | (_, .row es) :: l => zhi o n es && zdg o n l
 | (_, .acc _) :: l => zdg o n l
 | (_, .frz _) :: l => zdg o n l
 | (_, .mp _) :: l => zdg o n l
def za6 (o : Nat) (ds : List D) : zb -> zb
 | [] => []
 | (q, .row es) :: l => (q, .row (zgm o ds es)) :: za6 o ds l
 | (q, .acc n) :: l => (q, .acc n) :: za6 o ds l
 | (q, .frz n) :: l => (q, .frz n) :: za6 o ds l
 | (q, .mp n) :: l => (q, .mp n) :: za6 o ds l
def ztP (o : Nat) (E : Env) (H : zb) (ds : List D) : Option St :=
 if zdg o ds.length H = true then some ⟨ziY o ds E, zr o (.acc ds.length) (za6 o ds H)⟩ else none
def ztO (o : Nat) (E : Env) (H : zb) (es : List AV) : Option (List D) -> Option St
 | some ds => if es = [] then some ⟨zhg o E, H⟩ else if es ≠ [] /\ refsHeap o H = false then some ⟨ziY o ds E, zr o (.acc ds.length) H⟩ else ztP o E H ds
 | none => none
def ztN (o : Nat) (E : Env) (H : zb) : Option Obj -> Option St
 | some (.row es) => ztO o E H es (zab es)
 | some (.acc m) => some ⟨E, H⟩
 | some (.frz m) => some ⟨E, H⟩
 | some (.mp m) => some ⟨E, H⟩
 | none => some ⟨E, H⟩
def zoH (o : Nat) (S : St) : Option St := ztN o S.env S.heap (look o S.heap)
def rnm (o o' n : Nat) : Nat := if n = o then o' else n
def zku (ρ : Nat -> Nat) : Env -> Env
 | [] => []
 | (t, x) :: l => (t, x.ren ρ) :: zku ρ l
def ztT (o o' : Nat) (E : Env) (H : zb) : Option Obj -> Option St
 | some _ => if (look o' H).isNone = true /\ refsEnv o' E = false /\ refsHeap o' H = false then some ⟨zku (rnm o o') E, zbB (rnm o o') H⟩ else none
 | none => some ⟨E, H⟩
def zoJ (o o' : Nat) (S : St) : Option St := ztT o o' S.env S.heap (look o S.heap)
def zjg (x : AV) : Option D -> AV
 | some d => .d d
 | none => x
def zjh (o : Nat) (H : zb) : AV -> AV
 | .acc p es => if p = o then .d (.sl es) else .acc p es
 | .osl p off len => if p = o then zjg (.osl p off len) (toD H (.osl p off len)) else .osl p off len
 | .ref p i k => if p = o then zjg (.ref p i k) (toD H (.ref p i k)) else .ref p i k
 | x => x
def zew (o : Nat) (H : zb) : Env -> Env
 | [] => []
 | (t, x) :: l => (t, zjh o H x) :: zew o H l
def zfq (o : Nat) (x : AV) : AV :=
 match x with
 | .acc p es => if p = o then .d (.sl es) else .acc p es
 | x => x
def zjf (o : Nat) : List AV -> List AV
 | [] => []
 | x :: l => zfq o x :: zjf o l
def zgD (o : Nat) (x : AV) : AV :=
 match x with
 | .agg cs => .agg (zjf o cs)
 | x => x
def zgE (o : Nat) : List AV -> List AV
 | [] => []
 | x :: l => zgD o x :: zgE o l
def zlu (o : Nat) (ob : Obj) : Obj :=
 match ob with
 | .row es => .row (zgE o es)
 | x => x
def zc5 (o : Nat) : zb -> zb
 | [] => []
 | (q, ob) :: l => (q, zlu o ob) :: zc5 o l
def zqa (o : Nat) (E : Env) (H : zb) (b : Bool) : Option St := if b = false then some ⟨zew o H E, zR (zau H [o]) H⟩ else some ⟨zew o H E, zc5 o (zR (zau H [o]) H)⟩
def ztR (o : Nat) (E : Env) (H : zb) : Option Obj -> Option St
 | some _ => zqa o E H (refsHeap o H)
 | none => some ⟨E, H⟩
def zoI (o : Nat) (S : St) : Option St := ztR o S.env S.heap (look o S.heap)
def znr (g : Nat) (S : St) : Option St := if g < 4000000 then (if g % 2 = 0 then zoK (g / 2) S else zoH (g / 2) S) else if g < 6000000 then zoJ (g - 4000000) (g - 3500000) S else zoI (g - 6000000) S
def zcG : List Nat -> St -> Option St
 | [], S => some S
 | g :: gs, S => (znr g S).bind (zcG gs)
theorem zFl {o m : Nat} {es : List D} : ∀ {E : Env}, zfu o m E = some es -> ∃ t, (t, AV.acc o es) ∈ E /\ es.length = m := by
 intro E
 induction E with
 | nil => intro h; cases h
 | cons p l ih =>
  obtain ⟨t, x⟩ := p;intro h
  cases x with
  | acc q es' =>
   simp only [zfu] at h
   split at h
   · rename_i hc;obtain ⟨rfl, hl⟩ := hc
     cases h; exact ⟨t, .head _, hl⟩
   · obtain ⟨t', h1, h2⟩ := ih h; exact ⟨t', .tail _ h1, h2⟩
  | _ => simp only [zfu] at h; obtain ⟨t', h1, h2⟩ := ih h; exact ⟨t', .tail _ h1, h2⟩
theorem Rel.recast {S : St} {a : Act} {w : World} {ι : Inj} {R : Nat -> Prop} (h : Rel C S a w ι R) {o : Nat} {ob : Obj} {g : AV -> AV} (hh : refsHeap o S.heap = false)
    (hob : OB w R ι (zf (zr o ob S.heap)) o ob)
    (hg : ∀ x u, VA w R ι (zf S.heap) x u -> (x.refs o = true -> VA w R ι (zf (zr o ob S.heap)) (g x) u) /\ (x.refs o = false -> g x = x)) :
    Rel C ⟨S.env.map fun p => (p.1, g p.2), zr o ob S.heap⟩ a w ι R := by
 have hst : ∀ p, p ≠ o -> zal w w ι ι (zf S.heap) (zf (zr o ob S.heap)) p := fun p hp => zal.other rfl (zbW hp) fun _ _ _ => rfl;refine { h with env := fun t x hx => ?_, heap := fun q ob' hq => ?_ }
 · obtain ⟨⟨t', y⟩, hm, he⟩ := zQ3.1 hx
   cases he
   obtain ⟨u, h1, h2⟩ := h.env t' y hm;refine ⟨u, h1, ?_⟩
   cases hr : y.refs o with
   | true => exact (hg y u h2).1 hr
   | false =>
    show VA w R ι _ (g y) u;rw [(hg y u h2).2 hr];exact h2.mono (fun _ h => h) (fun _ _ => rfl) fun p hp => hst p fun e => by subst e; rw [hr] at hp; cases hp
 · rcases zdQ hq with hq2 | ⟨hq2, hne⟩
   · cases hq2; exact hob
   · exact (h.heap q ob' hq2).mono (fun _ h => h) (fun _ _ => rfl) (fun _ _ hb => ⟨hb, rfl, fun h => h⟩) (fun h => h) fun p hp => hst p fun e => by
      rw [e] at hp;have := zed (l := S.heap) hq2 hh;rw [hp] at this; cases this
theorem zIU {w : World} {R : Nat -> Prop} {ι : Inj} {mk : Nat -> Option Nat} {o : Nat} {x : AV} {u : Value} (hι : ι o = none) (hm : mk o = some 0) (h : VA w R ι mk x u) : VA w R ι mk (zki o x) u := by
 unfold zki
 split
 · split
   · rename_i hp;subst hp
     cases h with
     | accR _ _ _ _ _ _ hlt => have := hlt 0 hm; simp at this
     | accC hι' => rw [hι] at hι'; cases hι'
     | acc0 => exact .xsl .sl0
   · exact h
 · exact h
theorem zIT {w : World} {R : Nat -> Prop} {ι : Inj} {mk : Nat -> Option Nat} {o : Nat} {x : AV} {u : Value} (h : VA w R ι mk x u) : VA w R ι mk (zkh o x) u := by
 unfold zkh
 split
 · split
   · cases h <;> exact .d .sl0
   · exact h
 · exact h
theorem zIS {o : Nat} {E : Env} : zhg o E = E.map fun p => (p.1, zkh o p.2) := by
 induction E with
 | nil => rfl
 | cons p l ih => obtain ⟨t, x⟩ := p; simp only [zhg, ih]; rfl
theorem Rel.nilsO {S : St} {a : Act} {w : World} {ι : Inj} {R : Nat -> Prop} (h : Rel C S a w ι R) {o : Nat} : Rel C ⟨zhg o S.env, S.heap⟩ a w ι R := by
 refine { h with env := fun t x hx => ?_ };rw [zIS] at hx;obtain ⟨⟨t', y⟩, hm, he⟩ := zQ3.1 hx
 cases he
 obtain ⟨u, h1, h2⟩ := h.env t' y hm;exact ⟨u, h1, zIT h2⟩
theorem zIR {o : Nat} {E : Env} : zeO o E = E.map fun p => (p.1, zki o p.2) := by
 induction E with
 | nil => rfl
 | cons p l ih => obtain ⟨t, x⟩ := p; simp only [zeO, ih]; rfl
theorem Rel.nils {S : St} {a : Act} {w : World} {ι : Inj} {R : Nat -> Prop} (h : Rel C S a w ι R) {o : Nat} (hlk : look o S.heap = some (.acc 0)) : Rel C ⟨zeO o S.env, S.heap⟩ a w ι R := by
 have hι : ι o = none := by
  cases h.heap _ _ (zV hlk) with
  | acc hpos => exact absurd hpos (by decide)
  | accN hι => exact hι
 have hmk : zf S.heap o = some 0 := by simp [zf, hlk]
 refine { h with env := fun t x hx => ?_ };rw [zIR] at hx;obtain ⟨⟨t', y⟩, hm, he⟩ := zQ3.1 hx
 cases he
 obtain ⟨u, h1, h2⟩ := h.env t' y hm;exact ⟨u, h1, zIU hι hmk h2⟩
theorem zIP {o : Nat} {x : AV} (h : x.cell = true) : (zfL o x).cell = true := by
 unfold zfL
 split
 · split <;> rfl
 · exact h
theorem zs9 {o : Nat} : ∀ {l : List AV}, zkg o l = l.map (zfL o)
 | [] => rfl
 | x :: l => by simp only [zkg, zQS, zs9]
theorem zz8 {o : Nat} : ∀ {l : List AV}, zhf o l = l.map (zhe o)
 | [] => rfl
 | x :: l => by simp only [zhf, zQS, zz8]
theorem zz9 {o q : Nat} {ob : Obj} : ∀ {H : zb}, (q, ob) ∈ zdf o H -> ∃ ob0, (q, ob0) ∈ H /\ ob = zn8 o ob0
 | [], h => by cases h
 | (q', ob') :: l, h => by
  simp only [zdf] at h
  cases h with
  | head => exact ⟨_, .head _, rfl⟩
  | tail _ h => obtain ⟨ob0, h1, h2⟩ := zz9 h; exact ⟨ob0, .tail _ h1, h2⟩
theorem zzK {o q : Nat} : ∀ {H : zb}, look q (zdf o H) = (look q H).map (zn8 o)
 | [] => rfl
 | (q', ob') :: l => by
  simp only [zdf, look]
  split
  · rfl
  · exact zzK
theorem zzU {o : Nat} {H : zb} : zf (zdf o H) = zf H := funext fun p => by
 unfold zf;rw [zzK]
 rcases look p H with _ | (es | m | m | m) <;> rfl
theorem zIQ {w : World} {R : Nat -> Prop} {ι : Inj} {mk : Nat -> Option Nat} {o : Nat} {x : AV} {u : Value} (hι : ι o = none) (hm : mk o = some 0) (h : VA w R ι mk x u) : VA w R ι mk (zfL o x) u := by
 unfold zfL
 split
 · split
   · rename_i hp;subst hp
     cases h with
     | accR _ _ _ _ _ _ hlt => have := hlt 0 hm; simp at this
     | accC hι' => rw [hι] at hι'; cases hι'
     | acc0 => exact .xsl .sl0
   · exact h
 · exact h
theorem Rel.nilsH {S : St} {a : Act} {w : World} {ι : Inj} {R : Nat -> Prop} (h : Rel C S a w ι R) {o : Nat} (hlk : look o S.heap = some (.acc 0)) : Rel C ⟨zeO o S.env, zdf o S.heap⟩ a w ι R := by
 have h := h.nils hlk;have hι : ι o = none := by
  cases h.heap _ _ (zV hlk) with
  | acc hpos => exact absurd hpos (by decide)
  | accN hι => exact hι
 have hmk : zf S.heap o = some 0 := by simp [zf, hlk]
 refine { h with env := fun t x hx => ?_, heap := fun q ob hq => ?_ }
 · show ∃ u, zcg C a t = some u /\ VA w R ι (zf (zdf o S.heap)) x u;rw [zzU]; exact h.env t x hx
 · show OB w R ι (zf (zdf o S.heap)) q ob;rw [zzU];obtain ⟨ob0, h1, rfl⟩ := zz9 hq;have hob := h.heap q ob0 h1
   cases ob0 with
   | acc n => exact hob
   | frz n => exact hob
   | mp n => exact hob
   | row es =>
    cases hob with
    | row hι' hR hb hs0 hsz hc hel =>
     show OB w R ι _ q (.row (zhf o es));rw [zz8];have hsize : ∀ e : AV, (zhe o e).size = e.size := fun e => by
      unfold zhe
      split
      · simp only [AV.size, zs9, zQV]
      · rfl
     refine .row hι' hR hb hs0 (fun e he => ?_) (by rw [zQV]; exact hc) fun i e hi j x hj => ?_
     · obtain ⟨e0, he0, rfl⟩ := zQ3.1 he;rw [hsize]; exact hsz e0 he0
     · rw [zQ7] at hi;obtain ⟨e0, he0, rfl⟩ := zQQ.1 hi;unfold zhe at hj
       split at hj
       · rename_i cs;simp only [AV.cells, zs9, zQ7] at hj;obtain ⟨x0, hx0, rfl⟩ := zQQ.1 hj;obtain ⟨k1, qv, k2, k3⟩ := hel i _ he0 j x0 hx0;exact ⟨zIP k1, qv, k2, zIQ hι hmk k3⟩
       · exact hel i _ he0 j x hj
theorem zNO {o m : Nat} {x : AV} : (zbt o m x).size = x.size := by
 unfold zbt
 split
 · split <;> rfl
 · rfl
theorem zNN {o m : Nat} {x : AV} (h : x.cell = true) : (zbt o m x).cell = true := by
 unfold zbt
 split
 · split <;> rfl
 · exact h
theorem zty {o m : Nat} : ∀ {l : List AV}, zkx o m l = l.map (zbt o m)
 | [] => rfl
 | x :: l => by simp only [zkx, zQS, zty]
theorem zou {o m : Nat} : ∀ {l : List AV}, zhu o m l = l.map (zeT o m)
 | [] => rfl
 | x :: l => by simp only [zhu, zQS, zou]
theorem zAh {o m : Nat} {x : AV} : ∀ {l : List AV}, zkk o m l = true -> x ∈ l -> okC o m x = true
 | [], _, h => by cases h
 | y :: l, hk, h => by
  simp only [zkk, zQ8] at hk
  cases h with
  | head => exact hk.1
  | tail _ h => exact zAh hk.2 h
theorem zAi {o m : Nat} {x : AV} : ∀ {l : List AV}, zhj o m l = true -> x ∈ l -> okE o m x = true
 | [], _, h => by cases h
 | y :: l, hk, h => by
  simp only [zhj, zQ8] at hk
  cases h with
  | head => exact hk.1
  | tail _ h => exact zAi hk.2 h
theorem zNQ {o m : Nat} {x : AV} : (zeT o m x).size = x.size := by
 unfold zeT
 split
 · simp only [AV.size, zty, zQV]
 · exact zNO
theorem zNP {o m : Nat} {e x' : AV} {j : Nat} (hk : okE o m e = true) (h : (zeT o m e).cells[j]? = some x') : ∃ x, e.cells[j]? = some x /\ okC o m x = true /\ x' = zbt o m x := by
 have one : ∀ e : AV, e.cells = [e] -> okC o m e = true -> (zbt o m e).cells = [zbt o m e] -> (zbt o m e).cells[j]? = some x' -> ∃ x, e.cells[j]? = some x /\ okC o m x = true /\ x' = zbt o m x := by
  intro e h1 h2 h3 h4;rw [h3] at h4
  match j, h4 with
  | 0, h4 => simp at h4; subst h4; exact ⟨e, by rw [h1]; rfl, h2, rfl⟩
  | n + 1, h4 => simp at h4
 cases e with
 | agg cs =>
  simp only [zeT, AV.cells, zty, zQ7] at h;obtain ⟨x, h1, h2⟩ := zQQ.1 h;exact ⟨x, h1, zAh hk (zQ9 h1), h2.symm⟩
 | d y =>
  simp only [zeT, zbt, AV.cells, zQ7] at h;obtain ⟨c, h1, h2⟩ := zQQ.1 h;subst h2;exact ⟨.d c, by simp [AV.cells, h1], rfl, rfl⟩
 | acc p es => exact one _ rfl hk (by unfold zbt; simp only; split <;> rfl) h
 | ref p i f => exact one _ rfl hk rfl h
 | osl p i f => exact one _ rfl hk rfl h
 | pe p i => exact one _ rfl hk rfl h
 | xsl p => exact one _ rfl hk rfl h
 | tup p => exact one _ rfl hk rfl h
 | fn p i => exact one _ rfl hk rfl h
 | nl p => exact one _ rfl hk rfl h
 | mpr p => exact one _ rfl hk rfl h
 | undef => exact one _ rfl hk rfl h
def zBc (o m : Nat) : Obj -> Obj
 | .row es => .row (zhu o m es)
 | x => x
theorem zkz {o m : Nat} {q : Nat} {ob : Obj} : ∀ {H : zb}, zdh o m H = true -> (q, ob) ∈ zbd o m H -> ∃ ob0, (q, ob0) ∈ H /\ ob = zBc o m ob0 /\ (∀ es, ob0 = .row es -> zhj o m es = true)
 | [], _, h => by cases h
 | (q', .row es) :: l, hk, h => by
  simp only [zdh, zQ8] at hk;simp only [zbd] at h
  cases h with
  | head => exact ⟨_, .head _, rfl, fun es' e => by cases e; exact hk.1⟩
  | tail _ h => obtain ⟨ob0, h1, h2, h3⟩ := zkz hk.2 h; exact ⟨ob0, .tail _ h1, h2, h3⟩
 | (q', .acc n) :: l, hk, h => by
  simp only [zdh] at hk;simp only [zbd] at h
  cases h with
  | head => exact ⟨_, .head _, rfl, fun es' e => by cases e⟩
  | tail _ h => obtain ⟨ob0, h1, h2, h3⟩ := zkz hk h; exact ⟨ob0, .tail _ h1, h2, h3⟩
 | (q', .frz n) :: l, hk, h => by
  simp only [zdh] at hk;simp only [zbd] at h
  cases h with
  | head => exact ⟨_, .head _, rfl, fun es' e => by cases e⟩
  | tail _ h => obtain ⟨ob0, h1, h2, h3⟩ := zkz hk h; exact ⟨ob0, .tail _ h1, h2, h3⟩
 | (q', .mp n) :: l, hk, h => by
  simp only [zdh] at hk;simp only [zbd] at h
  cases h with
  | head => exact ⟨_, .head _, rfl, fun es' e => by cases e⟩
  | tail _ h => obtain ⟨ob0, h1, h2, h3⟩ := zkz hk h; exact ⟨ob0, .tail _ h1, h2, h3⟩
theorem zkc {o m q : Nat} : ∀ {H : zb}, zf (zbd o m H) q = zf H q
 | [] => rfl
 | (q', .row es) :: l => by
  have ih := zkc (o := o) (m := m) (q := q) (H := l);unfold zf at ih ⊢;simp only [zbd, Go.Sim.look]
  by_cases h : q' = q
  · rw [zQO h, zQO h]
  · rw [zQN h, zQN h]; exact ih
 | (q', .acc n) :: l => by
  have ih := zkc (o := o) (m := m) (q := q) (H := l);unfold zf at ih ⊢;simp only [zbd, Go.Sim.look]
  by_cases h : q' = q
  · rw [zQO h, zQO h]
  · rw [zQN h, zQN h]; exact ih
 | (q', .frz n) :: l => by
  have ih := zkc (o := o) (m := m) (q := q) (H := l);unfold zf at ih ⊢;simp only [zbd, Go.Sim.look]
  by_cases h : q' = q
  · rw [zQO h, zQO h]
  · rw [zQN h, zQN h]; exact ih
 | (q', .mp n) :: l => by
  have ih := zkc (o := o) (m := m) (q := q) (H := l);unfold zf at ih ⊢;simp only [zbd, Go.Sim.look]
  by_cases h : q' = q
  · rw [zQO h, zQO h]
  · rw [zQN h, zQN h]; exact ih
theorem zkm {α : Type} {x y : Option α} {a : α} (h : orE x y = some a) : y = some a \/ x = some a := by
 cases y with
 | some b => exact .inl h
 | none => exact .inr h
theorem zfv {o m : Nat} {es : List D} : ∀ {l : List AV}, zeA o m l = some es -> AV.acc o es ∈ l /\ es.length = m
 | [], h => by cases h
 | x :: l, h => by
  cases x with
  | acc q es' =>
   simp only [zeA] at h
   split at h
   · rename_i hc;obtain ⟨rfl, hl⟩ := hc
     cases h; exact ⟨.head _, hl⟩
   · exact ⟨.tail _ (zfv h).1, (zfv h).2⟩
  | _ => simp only [zeA] at h; exact ⟨.tail _ (zfv h).1, (zfv h).2⟩
theorem zlH {o m : Nat} {es : List D} : ∀ {l : List AV}, zeB o m l = some es -> ∃ e ∈ l, ∃ j : Nat, e.cells[j]? = some (AV.acc o es) /\ es.length = m
 | [], h => by cases h
 | x :: l, h => by
  cases x with
  | agg cs =>
   simp only [zeB] at h
   rcases zkm h with h | h
   · obtain ⟨h1, h2⟩ := zfv h;obtain ⟨j, hj⟩ := zRu h1;exact ⟨_, .head _, j, hj, h2⟩
   · obtain ⟨e, h1, h2⟩ := zlH h; exact ⟨e, .tail _ h1, h2⟩
  | acc p es' =>
   simp only [zeB] at h
   rcases zkm h with h | h
   · obtain ⟨h1, h2⟩ := zfv h;simp only [zRr] at h1;exact ⟨_, .head _, 0, by rw [<- h1]; rfl, h2⟩
   · obtain ⟨e, h1, h2⟩ := zlH h; exact ⟨e, .tail _ h1, h2⟩
  | _ =>
   simp only [zeB] at h
   rcases zkm h with h | h
   · obtain ⟨h1, h2⟩ := zfv h;simp at h1
   · obtain ⟨e, h1, h2⟩ := zlH h; exact ⟨e, .tail _ h1, h2⟩
theorem zjj {o m : Nat} {es : List D} : ∀ {H : zb}, zc8 o m H = some es -> ∃ q fs, (q, Obj.row fs) ∈ H /\ ∃ e ∈ fs, ∃ j : Nat, e.cells[j]? = some (AV.acc o es) /\ es.length = m
 | [], h => by cases h
 | (q, .row fs) :: l, h => by
  simp only [zc8] at h
  rcases zkm h with h | h
  · exact ⟨q, fs, .head _, zlH h⟩
  · obtain ⟨q, fs, h1, h2⟩ := zjj h; exact ⟨q, fs, .tail _ h1, h2⟩
 | (q, .acc n) :: l, h => by
  simp only [zc8] at h;obtain ⟨q, fs, h1, h2⟩ := zjj h; exact ⟨q, fs, .tail _ h1, h2⟩
 | (q, .frz n) :: l, h => by
  simp only [zc8] at h;obtain ⟨q, fs, h1, h2⟩ := zjj h; exact ⟨q, fs, .tail _ h1, h2⟩
 | (q, .mp n) :: l, h => by
  simp only [zc8] at h;obtain ⟨q, fs, h1, h2⟩ := zjj h; exact ⟨q, fs, .tail _ h1, h2⟩
theorem zPy {o : Nat} {S S' : St} {a : Act} {w : World} {ι : Inj} {R : Nat -> Prop} (hs : zoK o S = some S') (h : Rel C S a w ι R) : Rel C S' a w ι R := by
 unfold zoK at hs;generalize hlk : look o S.heap = q at hs;unfold ztU at hs
 split at hs
 · rename_i m
   split at hs
   · rename_i hm0;subst hm0;unfold zta at hs
     split at hs
     · cases hs; exact h.nils hlk
     · cases hs; exact h.nilsH hlk
   rename_i hm0;generalize hes : zlG o m S.env S.heap = qe at hs;unfold ztV at hs
   split at hs
   · rename_i es;rw [zQO hm0] at hs;have hmk : zf S.heap o = some m := by simp [zf, hlk]
     have hvl : es.length = m /\ ∃ u, VA w R ι (zf S.heap) (.acc o es) u := by
      unfold zlG at hes
      rcases zkm hes with hes | hes
      · obtain ⟨t, ht, hl⟩ := zFl hes;obtain ⟨u, _, hv⟩ := h.env t _ ht;exact ⟨hl, u, hv⟩
      · obtain ⟨q, fs, hq, e, he, j, hj, hl⟩ := zjj hes;obtain ⟨i, hi⟩ := zRu he
        cases h.heap _ _ hq with
        | row _ _ _ _ _ _ hel =>
         obtain ⟨_, qv, _, hv⟩ := hel i e hi j _ hj;exact ⟨hl, qv, hv⟩
     obtain ⟨hl, u, hv⟩ := hvl;have hob := h.heap _ _ (zV hlk);have key : ∀ mk' : Nat -> Option Nat, mk' o = none -> ((∀ p, p ≠ o -> mk' p = zf S.heap p) -> OB w R ι mk' o (.row (es.map .d))) /\ ∀ (es' : List D) (u : Value), es'.length = m -> VA w R ι (zf S.heap) (.acc o es') u -> VA w R ι mk' (.osl o 0 m) u := by
      intro mk' hmk';refine ⟨fun _ => ?_, fun es' u hlen hx => ?_⟩
      · cases hv with
        | accR _ _ _ _ _ _ hlt => have := hlt m hmk; omega
        | acc0 => simp at hl; exact absurd hl.symm hm0
        | @accC _ b s m' cap _ c T hι hmk2 _ hL hcap hsz hb hc hel =>
         cases hob with
         | accN hι' => rw [hι] at hι'; cases hι'
         | acc _ hι' hR hb' hs0 _ =>
          rw [hι] at hι'; cases hι';refine .row hι hR hb hs0 (fun e he => ?_) ?_ fun i e hi j x hj => ?_
          · obtain ⟨d, hd, rfl⟩ := zQ3.1 he; exact hsz d hd
          · rw [zQV]; exact zRU (zRg _ hcap) hc
          · rw [zQ7] at hi;obtain ⟨d, hd, rfl⟩ := zQQ.1 hi;simp only [AV.cells, zQ7] at hj;obtain ⟨cd, hcd, rfl⟩ := zQQ.1 hj;obtain ⟨k1, q, k2, k3⟩ := (hel i d hd).v_of_cells j cd hcd;exact ⟨k1, q, by rw [zan hb] at k2; exact k2, .d k3⟩
      · cases hx with
        | accR _ _ _ _ _ _ hlt => have := hlt m hmk; omega
        | acc0 => simp at hlen; exact absurd hlen.symm hm0
        | @accC _ b s m' cap _ c T hι hmk2 _ hL hcap hsz hb hc hel =>
         have := VA.osl (w := w) (R := R) (mk := mk') (off := 0) (len := es'.length) (cap := cap) hι hmk' hb hcap (by simpa using hc) hL;simp only [zST] at this;rw [hlen] at this ⊢;exact this
     unfold ztW at hs
     by_cases hh : refsHeap o S.heap = false
     · rw [zQO hh] at hs
       cases hs
       have hmk' : zf (zr o (.row (es.map .d)) S.heap) o = none := by rw [zbV]
       have hk := key _ hmk';refine h.recast (g := zdP o m) hh (hk.1 fun p hp => zbW hp) fun x u hx => ⟨fun hr => ?_, fun hr => ?_⟩
       · unfold zdP
         split
         · rename_i p es';have hp : p = o := by simpa [AV.refs] using hr
           rw [zQO hp];subst hp
           split
           · rename_i hlen;exact hk.2 _ _ hlen hx
           · exact .undef
         · rw [zQO hr]; exact .undef
       · unfold zdP
         split
         · rename_i p es';have hp : ¬ p = o := by simpa [AV.refs] using hr
           rw [zQN hp]
         · rw [zQN (by simp [hr])]
     · rw [zQN hh] at hs
       split at hs
       rotate_left
       · cases hs
       rename_i hokh
       cases hs
       have hmn : ∀ p, p ≠ o -> zf (zr o (.row (es.map .d)) (zbd o m S.heap)) p = zf S.heap p := fun p hp => by rw [zbW hp, zkc]
       have hmk' : zf (zr o (.row (es.map .d)) (zbd o m S.heap)) o = none := by rw [zbV]
       have hk := key _ hmk';have hst : ∀ p, p ≠ o -> zal w w ι ι (zf S.heap) (zf (zr o (.row (es.map .d)) (zbd o m S.heap))) p := fun p hp => zal.other rfl (hmn p hp) fun _ _ _ => rfl;have hkeep : ∀ (x : AV) (u : Value), x.refs o = false -> VA w R ι (zf S.heap) x u -> VA w R ι (zf (zr o (.row (es.map .d)) (zbd o m S.heap))) x u := fun x u hr hx =>
        hx.mono (fun _ h => h) (fun _ _ => rfl) fun p hp => hst p fun e => by subst e; rw [hr] at hp; cases hp
       refine { h with env := fun t x hx => ?_, heap := fun q ob' hq => ?_ }
       · obtain ⟨⟨t', y⟩, hm, he⟩ := zQ3.1 hx
         cases he
         obtain ⟨u, h1, h2⟩ := h.env t' y hm;refine ⟨u, h1, ?_⟩;show VA w R ι _ (zdP o m y) u
         cases hr : y.refs o with
         | true =>
          unfold zdP
          split
          · rename_i p es';have hp : p = o := by simpa [AV.refs] using hr
            rw [zQO hp];subst hp
            split
            · rename_i hlen;exact hk.2 _ _ hlen h2
            · exact .undef
          · rw [zQO hr]; exact .undef
         | false =>
          have : zdP o m y = y := by
           unfold zdP
           split
           · rename_i p es';have hp : ¬ p = o := by simpa [AV.refs] using hr
             rw [zQN hp]
           · rw [zQN (by simp [hr])]
          rw [this];exact hkeep _ _ hr h2
       · rcases zdQ hq with hq2 | ⟨hq2, hne⟩
         · cases hq2; exact hk.1 hmn
         · obtain ⟨ob0, hm0', hob', hrow⟩ := zkz hokh hq2;subst hob';have hob0 := h.heap q ob0 hm0'
           cases ob0 with
           | acc n => exact hob0.mono (fun _ h => h) (fun _ _ => rfl) (fun _ _ hb => ⟨hb, rfl, fun h => h⟩) (fun h => h) fun p hp => by simp [Obj.refs] at hp
           | frz n => exact hob0.mono (fun _ h => h) (fun _ _ => rfl) (fun _ _ hb => ⟨hb, rfl, fun h => h⟩) (fun h => h) fun p hp => by simp [Obj.refs] at hp
           | mp n => exact hob0.mono (fun _ h => h) (fun _ _ => rfl) (fun _ _ hb => ⟨hb, rfl, fun h => h⟩) (fun h => h) fun p hp => by simp [Obj.refs] at hp
           | row fs =>
            have hoke := hrow fs rfl;simp only [zBc]
            cases hob0 with
            | row hι hR hb hs0 hsz hc hel =>
             refine .row hι hR hb hs0 (fun e he => ?_) (by rw [zou, zQV]; exact hc) fun i e hi j x hj => ?_
             · rw [zou] at he;obtain ⟨e0, he0, rfl⟩ := zQ3.1 he;rw [zNQ]; exact hsz e0 he0
             · rw [zou, zQ7] at hi;obtain ⟨e0, he0, rfl⟩ := zQQ.1 hi;obtain ⟨x0, hx0, hkc, rfl⟩ := zNP (zAi hoke (zQ9 he0)) hj;obtain ⟨k1, qv, k2, k3⟩ := hel i e0 he0 j x0 hx0;refine ⟨zNN k1, qv, k2, ?_⟩
               by_cases hacc : ∃ es', x0 = .acc o es'
               · obtain ⟨es', rfl⟩ := hacc;simp only [okC, if_true, beq_iff_eq] at hkc;simp only [zbt, if_true];exact hk.2 _ _ hkc k3
               · have hr : x0.refs o = false /\ zbt o m x0 = x0 := by
                  cases x0 with
                  | acc p es' =>
                   have hp : ¬ p = o := fun e => hacc ⟨es', by rw [e]⟩;exact ⟨by simpa [AV.refs] using hp, by simp only [zbt, zQN hp]⟩
                  | _ => exact ⟨by simpa [okC] using hkc, rfl⟩
                 rw [hr.2];exact hkeep _ _ hr.1 k3
   · cases hs
 · cases hs; exact h
 · cases hs; exact h
 · cases hs; exact h
 · cases hs; exact h
theorem zB9 {o : Nat} {ds : List D} {x : AV} : (acA o ds x).size = x.size := by
 unfold acA
 split
 · split <;> rfl
 · rfl
theorem zB8 {o : Nat} {ds : List D} {x : AV} (h : x.cell = true) : (acA o ds x).cell = true := by
 unfold acA
 split
 · split <;> rfl
 · exact h
theorem zo7 {o : Nat} {ds : List D} : ∀ {l : List AV}, ziX o ds l = l.map (acA o ds)
 | [] => rfl
 | x :: l => by simp only [ziX, zQS, zo7]
theorem zkO {o : Nat} {ds : List D} : ∀ {l : List AV}, zgm o ds l = l.map (zep o ds)
 | [] => rfl
 | x :: l => by simp only [zgm, zQS, zkO]
theorem zAg {o m : Nat} {x : AV} : ∀ {l : List AV}, zkj o m l = true -> x ∈ l -> okA o m x = true
 | [], _, h => by cases h
 | y :: l, hk, h => by
  simp only [zkj, zQ8] at hk
  cases h with
  | head => exact hk.1
  | tail _ h => exact zAg hk.2 h
theorem zAf {o m : Nat} {x : AV} : ∀ {l : List AV}, zhi o m l = true -> x ∈ l -> zoa o m x = true
 | [], _, h => by cases h
 | y :: l, hk, h => by
  simp only [zhi, zQ8] at hk
  cases h with
  | head => exact hk.1
  | tail _ h => exact zAf hk.2 h
theorem zCb {o : Nat} {ds : List D} {x : AV} : (zep o ds x).size = x.size := by
 unfold zep
 split
 · simp only [AV.size, zo7, zQV]
 · exact zB9
theorem zCa {o m : Nat} {ds : List D} {e x' : AV} {j : Nat} (hk : zoa o m e = true) (h : (zep o ds e).cells[j]? = some x') : ∃ x, e.cells[j]? = some x /\ okA o m x = true /\ x' = acA o ds x := by
 have one : ∀ e : AV, e.cells = [e] -> okA o m e = true -> (acA o ds e).cells = [acA o ds e] -> (acA o ds e).cells[j]? = some x' -> ∃ x, e.cells[j]? = some x /\ okA o m x = true /\ x' = acA o ds x := by
  intro e h1 h2 h3 h4;rw [h3] at h4
  match j, h4 with
  | 0, h4 => simp at h4; subst h4; exact ⟨e, by rw [h1]; rfl, h2, rfl⟩
  | n + 1, h4 => simp at h4
 cases e with
 | agg cs =>
  simp only [zep, AV.cells, zo7, zQ7] at h;obtain ⟨x, h1, h2⟩ := zQQ.1 h;exact ⟨x, h1, zAg hk (zQ9 h1), h2.symm⟩
 | d y =>
  simp only [zep, acA, AV.cells, zQ7] at h;obtain ⟨c, h1, h2⟩ := zQQ.1 h;subst h2;exact ⟨.d c, by simp [AV.cells, h1], rfl, rfl⟩
 | osl p i f => exact one _ rfl hk (by unfold acA; simp only; split <;> rfl) h
 | ref p i f => exact one _ rfl hk rfl h
 | acc p i => exact one _ rfl hk rfl h
 | pe p i => exact one _ rfl hk rfl h
 | xsl p => exact one _ rfl hk rfl h
 | tup p => exact one _ rfl hk rfl h
 | fn p i => exact one _ rfl hk rfl h
 | nl p => exact one _ rfl hk rfl h
 | mpr p => exact one _ rfl hk rfl h
 | undef => exact one _ rfl hk rfl h
def zue (o : Nat) (ds : List D) : Obj -> Obj
 | .row es => .row (zgm o ds es)
 | x => x
theorem ziW {o m : Nat} {ds : List D} {q : Nat} {ob : Obj} : ∀ {H : zb}, zdg o m H = true -> (q, ob) ∈ za6 o ds H -> ∃ ob0, (q, ob0) ∈ H /\ ob = zue o ds ob0 /\ (∀ es, ob0 = .row es -> zhi o m es = true)
 | [], _, h => by cases h
 | (q', .row es) :: l, hk, h => by
  simp only [zdg, zQ8] at hk;simp only [za6] at h
  cases h with
  | head => exact ⟨_, .head _, rfl, fun es' e => by cases e; exact hk.1⟩
  | tail _ h => obtain ⟨ob0, h1, h2, h3⟩ := ziW hk.2 h; exact ⟨ob0, .tail _ h1, h2, h3⟩
 | (q', .acc n) :: l, hk, h => by
  simp only [zdg] at hk;simp only [za6] at h
  cases h with
  | head => exact ⟨_, .head _, rfl, fun es' e => by cases e⟩
  | tail _ h => obtain ⟨ob0, h1, h2, h3⟩ := ziW hk h; exact ⟨ob0, .tail _ h1, h2, h3⟩
 | (q', .frz n) :: l, hk, h => by
  simp only [zdg] at hk;simp only [za6] at h
  cases h with
  | head => exact ⟨_, .head _, rfl, fun es' e => by cases e⟩
  | tail _ h => obtain ⟨ob0, h1, h2, h3⟩ := ziW hk h; exact ⟨ob0, .tail _ h1, h2, h3⟩
 | (q', .mp n) :: l, hk, h => by
  simp only [zdg] at hk;simp only [za6] at h
  cases h with
  | head => exact ⟨_, .head _, rfl, fun es' e => by cases e⟩
  | tail _ h => obtain ⟨ob0, h1, h2, h3⟩ := ziW hk h; exact ⟨ob0, .tail _ h1, h2, h3⟩
theorem zkb {o q : Nat} {ds : List D} : ∀ {H : zb}, zf (za6 o ds H) q = zf H q
 | [] => rfl
 | (q', .row es) :: l => by
  have ih := zkb (o := o) (ds := ds) (q := q) (H := l);unfold zf at ih ⊢;simp only [za6, Go.Sim.look]
  by_cases h : q' = q
  · rw [zQO h, zQO h]
  · rw [zQN h, zQN h]; exact ih
 | (q', .acc n) :: l => by
  have ih := zkb (o := o) (ds := ds) (q := q) (H := l);unfold zf at ih ⊢;simp only [za6, Go.Sim.look]
  by_cases h : q' = q
  · rw [zQO h, zQO h]
  · rw [zQN h, zQN h]; exact ih
 | (q', .frz n) :: l => by
  have ih := zkb (o := o) (ds := ds) (q := q) (H := l);unfold zf at ih ⊢;simp only [za6, Go.Sim.look]
  by_cases h : q' = q
  · rw [zQO h, zQO h]
  · rw [zQN h, zQN h]; exact ih
 | (q', .mp n) :: l => by
  have ih := zkb (o := o) (ds := ds) (q := q) (H := l);unfold zf at ih ⊢;simp only [za6, Go.Sim.look]
  by_cases h : q' = q
  · rw [zQO h, zQO h]
  · rw [zQN h, zQN h]; exact ih
theorem zPs {o : Nat} {S S' : St} {a : Act} {w : World} {ι : Inj} {R : Nat -> Prop} (hs : zoH o S = some S') (h : Rel C S a w ι R) : Rel C S' a w ι R := by
 unfold zoH at hs;generalize hlk : look o S.heap = q at hs;unfold ztN at hs
 split at hs
 · rename_i es;generalize hds : zab es = qe at hs;unfold ztO at hs
   split at hs
   · rename_i ds
     split at hs
     · cases hs; exact h.nilsO
     rename_i hne0
     split at hs
     rotate_left
     · rename_i hc0;unfold ztP at hs
       split at hs
       rotate_left
       · cases hs
       rename_i hokh
       cases hs
       have hesd := zdx hds;have hmn : ∀ p, p ≠ o -> zf (zr o (.acc ds.length) (za6 o ds S.heap)) p = zf S.heap p := fun p hp => by rw [zbW hp, zkb]
       have hmk' : zf (zr o (.acc ds.length) (za6 o ds S.heap)) o = some ds.length := by rw [zbV]
       have hdn : ds ≠ [] := by rintro rfl; exact hne0 hesd
       have hst : ∀ p, p ≠ o -> zal w w ι ι (zf S.heap) (zf (zr o (.acc ds.length) (za6 o ds S.heap))) p := fun p hp => zal.other rfl (hmn p hp) fun _ _ _ => rfl;have hkeep : ∀ (x : AV) (u : Value), x.refs o = false -> VA w R ι (zf S.heap) x u -> VA w R ι (zf (zr o (.acc ds.length) (za6 o ds S.heap))) x u := fun x u hr hx =>
        hx.mono (fun _ h => h) (fun _ _ => rfl) fun p hp => hst p fun e => by subst e; rw [hr] at hp; cases hp
       cases h.heap _ _ (zV hlk) with
       | @row _ b s c T hι hR hb hs0 hsz hc hel =>
        have hrd : ∀ (i : Nat) (d : D), ds[i]? = some d -> Rd w R (.el d b (i * s)) := fun i d hi => by
         have hei : es[i]? = some (.d d) := by rw [hesd]; simp [hi]
         refine Rd.el_of_cells (fun vs hvs => ?_) fun j cd hj => ?_
         · subst hvs;have := (hel i _ hei 0 (.d (.tup vs)) rfl).1;simp [AV.cell, D.cell] at this
         · obtain ⟨k1, q, k2, k3⟩ := hel i _ hei j (.d cd) (by simp [AV.cells, hj]);exact ⟨k1, q, by rw [zan hb]; exact k2, k3.of_d⟩
        have hsz' : ∀ d ∈ ds, d.size = s := fun d hd => hsz (.d d) (by rw [hesd]; exact zSF hd);have key : ∀ u, VA w R ι (zf S.heap) (.osl o 0 ds.length) u -> VA w R ι (zf (zr o (.acc ds.length) (za6 o ds S.heap))) (.acc o ds) u := fun u hx => by
         generalize hlen : ds.length = n at hx hmk'
         cases hx with
         | osl0 => exact absurd (zRq.1 hlen) hdn
         | @osl _ _ _ cap b' s' c' T' hι' hmk2 hb' hcap hc' hL =>
          rw [hι] at hι'; cases hι';rw [hb] at hb'; cases hb';subst hlen;rw [zST];exact .accC hι hmk' (zRd _) hL hcap hsz' hb (by simpa using hc') hrd
        refine { h with env := fun t x hx => ?_, heap := fun q ob' hq => ?_ }
        · obtain ⟨⟨t', y⟩, hm, he⟩ := zQ3.1 hx
          cases he
          obtain ⟨u, h1, h2⟩ := h.env t' y hm;refine ⟨u, h1, ?_⟩;show VA w R ι _ (zdw o ds y) u
          cases hr : y.refs o with
          | true =>
           unfold zdw
           split
           · rename_i p off len;have hp : p = o := by simpa [AV.refs] using hr
             rw [zQO hp];subst hp
             split
             · rename_i hcc;obtain ⟨rfl, rfl⟩ := hcc;exact key _ h2
             · exact .undef
           · rw [zQO hr]; exact .undef
          | false =>
           have : zdw o ds y = y := by
            unfold zdw
            split
            · rename_i p off len;have hp : ¬ p = o := by simpa [AV.refs] using hr
              rw [zQN hp]
            · rw [zQN (by simp [hr])]
           rw [this];exact hkeep _ _ hr h2
        · rcases zdQ hq with hq2 | ⟨hq2, hne⟩
          · cases hq2
            refine .acc (zSB.2 hdn) hι hR hb hs0 ?_;rw [hesd] at hc; simpa using hc
          · obtain ⟨ob0, hm0', hob', hrow⟩ := ziW hokh hq2;subst hob';have hob0 := h.heap q ob0 hm0'
            cases ob0 with
            | acc n => exact hob0.mono (fun _ h => h) (fun _ _ => rfl) (fun _ _ hb => ⟨hb, rfl, fun h => h⟩) (fun h => h) fun p hp => by simp [Obj.refs] at hp
            | frz n => exact hob0.mono (fun _ h => h) (fun _ _ => rfl) (fun _ _ hb => ⟨hb, rfl, fun h => h⟩) (fun h => h) fun p hp => by simp [Obj.refs] at hp
            | mp n => exact hob0.mono (fun _ h => h) (fun _ _ => rfl) (fun _ _ hb => ⟨hb, rfl, fun h => h⟩) (fun h => h) fun p hp => by simp [Obj.refs] at hp
            | row fs =>
             have hoke := hrow fs rfl;simp only [zue]
             cases hob0 with
             | row hι hR hb hs0 hsz hc hel =>
              refine .row hι hR hb hs0 (fun e he => ?_) (by rw [zkO, zQV]; exact hc) fun i e hi j x hj => ?_
              · rw [zkO] at he;obtain ⟨e0, he0, rfl⟩ := zQ3.1 he;rw [zCb]; exact hsz e0 he0
              · rw [zkO, zQ7] at hi;obtain ⟨e0, he0, rfl⟩ := zQQ.1 hi;obtain ⟨x0, hx0, hkc, rfl⟩ := zCa (zAf hoke (zQ9 he0)) hj;obtain ⟨k1, qv, k2, k3⟩ := hel i e0 he0 j x0 hx0;refine ⟨zB8 k1, qv, k2, ?_⟩
                by_cases hacc : ∃ i n, x0 = .osl o i n
                · obtain ⟨i', n', rfl⟩ := hacc;simp only [okA, if_true, zQ8, beq_iff_eq] at hkc;obtain ⟨rfl, rfl⟩ := hkc;simp only [acA, if_true];exact key _ k3
                · have hr : x0.refs o = false /\ acA o ds x0 = x0 := by
                   cases x0 with
                   | osl p i' n' =>
                    have hp : ¬ p = o := fun e => hacc ⟨i', n', by rw [e]⟩;exact ⟨by simpa [AV.refs] using hp, by simp only [acA, zQN hp]⟩
                   | _ => exact ⟨by simpa [okA] using hkc, rfl⟩
                  rw [hr.2];exact hkeep _ _ hr.1 k3
     rename_i hc;obtain ⟨hne, hh⟩ := hc
     cases hs
     have hesd := zdx hds;have hmk' : zf (zr o (.acc ds.length) S.heap) o = some ds.length := by rw [zbV]
     have hdn : ds ≠ [] := by rintro rfl; exact hne hesd
     cases h.heap _ _ (zV hlk) with
     | @row _ b s c T hι hR hb hs0 hsz hc hel =>
      have hrd : ∀ (i : Nat) (d : D), ds[i]? = some d -> Rd w R (.el d b (i * s)) := fun i d hi => by
       have hei : es[i]? = some (.d d) := by rw [hesd]; simp [hi]
       refine Rd.el_of_cells (fun vs hvs => ?_) fun j cd hj => ?_
       · subst hvs;have := (hel i _ hei 0 (.d (.tup vs)) rfl).1;simp [AV.cell, D.cell] at this
       · obtain ⟨k1, q, k2, k3⟩ := hel i _ hei j (.d cd) (by simp [AV.cells, hj]);exact ⟨k1, q, by rw [zan hb]; exact k2, k3.of_d⟩
      have hsz' : ∀ d ∈ ds, d.size = s := fun d hd => hsz (.d d) (by rw [hesd]; exact zSF hd);refine h.recast (g := zdw o ds) hh ?_ fun x u hx => ⟨fun hr => ?_, fun hr => ?_⟩
      · refine .acc (zSB.2 hdn) hι hR hb hs0 ?_;rw [hesd] at hc; simpa using hc
      · unfold zdw
        split
        · rename_i p off len;have hp : p = o := by simpa [AV.refs] using hr
          rw [zQO hp];subst hp
          split
          · rename_i hcc;obtain ⟨rfl, rfl⟩ := hcc;generalize hlen : ds.length = n at hx hmk'
            cases hx with
            | osl0 => exact absurd (zRq.1 hlen) hdn
            | @osl _ _ _ cap b' s' c' T' hι' hmk2 hb' hcap hc' hL =>
             rw [hι] at hι'; cases hι';rw [hb] at hb'; cases hb';subst hlen;rw [zST];exact .accC hι hmk' (zRd _) hL hcap hsz' hb (by simpa using hc') hrd
          · exact .undef
        · rw [zQO hr]; exact .undef
      · unfold zdw
        split
        · rename_i p off len;have hp : ¬ p = o := by simpa [AV.refs] using hr
          rw [zQN hp]
        · rw [zQN (by simp [hr])]
   · cases hs
 · cases hs; exact h
 · cases hs; exact h
 · cases hs; exact h
 · cases hs; exact h
theorem zNH {o o' a b : Nat} (ha : a ≠ o') (hb : b ≠ o') (h : rnm o o' a = rnm o o' b) : a = b := by
 unfold rnm at h
 split at h <;> split at h
 · rename_i h1 h2; rw [h1, h2]
 · exact absurd h.symm hb
 · exact absurd h ha
 · exact h
theorem zPx {o o' : Nat} {S S' : St} {a : Act} {w : World} {ι : Inj} {R : Nat -> Prop} (hs : zoJ o o' S = some S') (h : Rel C S a w ι R) : ∃ ι', Rel C S' a w ι' R := by
 unfold zoJ at hs;generalize hlk : look o S.heap = q at hs
 cases q with
 | none => cases hs; exact ⟨ι, h⟩
 | some ob =>
  simp only [ztT] at hs
  split at hs
  · rename_i hc;obtain ⟨hn, he, hh⟩ := hc
    cases hs
    have hn' : look o' S.heap = none := by simpa using hn
    have hmk : ∀ n, n ≠ o' -> zf (zbB (rnm o o') S.heap) (rnm o o' n) = zf S.heap n := by
     intro n hno;unfold zf;rw [zzL fun m hm e => zNH (fun e2 => by rw [e2, hn'] at hm; cases hm) hno e]
     cases look n S.heap with
     | none => rfl
     | some ob => cases ob <;> rfl
    have hι : ∀ n, n ≠ o' -> (fun q => if q = o' then ι o else if q = o then none else ι q) (rnm o o' n) = ι n := by
     intro n hno;unfold rnm
     by_cases e : n = o
     · subst e; simp
     · simp [e, hno]
    refine ⟨fun q => if q = o' then ι o else if q = o then none else ι q, { h with own := ?_, inj := ?_, env := ?_, heap := ?_ }⟩
    · intro q b s hq
      split at hq
      · exact h.own o b s hq
      · split at hq
        · cases hq
        · exact h.own q b s hq
    · intro q q' b s s' hq hq'
      split at hq <;> split at hq'
      · rename_i e1 e2; rw [e1, e2]
      · split at hq'
        · cases hq'
        · rename_i e1 e2 e3; exact absurd (h.inj o q' b s s' hq hq') (Ne.symm e3)
      · split at hq
        · cases hq
        · rename_i e1 e2 e3; exact absurd (h.inj q o b s s' hq hq') e3
      · split at hq
        · cases hq
        · split at hq'
          · cases hq'
          · exact h.inj q q' b s s' hq hq'
    · intro t x hx;have : ∃ y, (t, y) ∈ S.env /\ x = y.ren (rnm o o') := by
       have key : ∀ (E : Env), (t, x) ∈ zku (rnm o o') E -> ∃ y, (t, y) ∈ E /\ x = y.ren (rnm o o') := by
        intro E
        induction E with
        | nil => intro h; cases h
        | cons p l ih =>
         obtain ⟨t', y⟩ := p;intro h;simp only [zku] at h
         cases h with
         | head => exact ⟨y, .head _, rfl⟩
         | tail _ h => obtain ⟨z, h1, h2⟩ := ih h; exact ⟨z, .tail _ h1, h2⟩
       exact key _ hx
      obtain ⟨y, hy, rfl⟩ := this;obtain ⟨u, h1, h2⟩ := h.env t y hy;refine ⟨u, h1, h2.ren fun n hn2 => ?_⟩;have hno : n ≠ o' := fun e => by subst e; rw [zks hy he] at hn2; cases hn2
      exact ⟨fun p hp => (hι n hno).trans hp, hmk n hno⟩
    · intro n ob' hm;obtain ⟨⟨m, ob2⟩, hm2, he2⟩ := zQ3.1 hm
      cases he2
      have hno : m ≠ o' := fun e => by
       subst e;have hs2 : (look m S.heap).isSome = true := by
        have key : ∀ (l : zb), (m, ob2) ∈ l -> (look m l).isSome = true := by
         intro l
         induction l with
         | nil => intro h; cases h
         | cons p l ih =>
          obtain ⟨k, y⟩ := p;intro h;simp only [look]
          split
          · rfl
          · rename_i hne
            cases h with
            | head => exact absurd rfl hne
            | tail _ h => exact ih h
        exact key _ hm2
       rw [hn'] at hs2; cases hs2
      refine (h.heap m ob2 hm2).ren (hι m hno) fun n hn2 => ?_;have hno2 : n ≠ o' := fun e => by subst e; rw [zed hm2 hh] at hn2; cases hn2
      exact ⟨fun p hp => (hι n hno2).trans hp, hmk n hno2⟩
  · cases hs
theorem zDC {o : Nat} {H : zb} {E : Env} : zew o H E = E.map fun p => (p.1, zjh o H p.2) := by
 induction E with
 | nil => rfl
 | cons p l ih => obtain ⟨t, x⟩ := p; simp only [zew, ih]; rfl
theorem zDA {o : Nat} {x : AV} (h : x.cell = true) : (zfq o x).cell = true := by
 unfold zfq
 split
 · split <;> rfl
 · exact h
theorem zp9 {o : Nat} : ∀ {l : List AV}, zjf o l = l.map (zfq o)
 | [] => rfl
 | x :: l => by simp only [zjf, zQS, zp9]
theorem zv0 {o : Nat} : ∀ {l : List AV}, zgE o l = l.map (zgD o)
 | [] => rfl
 | x :: l => by simp only [zgE, zQS, zv0]
theorem zv1 {o q : Nat} {ob : Obj} : ∀ {H : zb}, (q, ob) ∈ zc5 o H -> ∃ ob0, (q, ob0) ∈ H /\ ob = zlu o ob0
 | [], h => by cases h
 | (q', ob') :: l, h => by
  simp only [zc5] at h
  cases h with
  | head => exact ⟨_, .head _, rfl⟩
  | tail _ h => obtain ⟨ob0, h1, h2⟩ := zv1 h; exact ⟨ob0, .tail _ h1, h2⟩
theorem zzI {o q : Nat} : ∀ {H : zb}, look q (zc5 o H) = (look q H).map (zlu o)
 | [] => rfl
 | (q', ob') :: l => by
  simp only [zc5, look]
  split
  · rfl
  · exact zzI
theorem zzT {o : Nat} {H : zb} : zf (zc5 o H) = zf H := funext fun p => by
 unfold zf;rw [zzI]
 rcases look p H with _ | (es | m | m | m) <;> rfl
theorem zBA {S : St} {a : Act} {w : World} {ι : Inj} {R : Nat -> Prop} {o : Nat} {ob : Obj} (hlk : look o S.heap = some ob) (h : Rel C S a w ι R) : Rel C ⟨zew o S.heap S.env, zR (zau S.heap [o]) S.heap⟩ a w ι (zcl R ι [o]) := by
 have hf := h.freeze (os := [o]) (by simp [zdF, hlk]);refine { hf with env := fun t x hx => ?_ };rw [zDC] at hx;obtain ⟨⟨t', y⟩, hm, he⟩ := zQ3.1 hx
 cases he
 obtain ⟨u, h1, h2⟩ := h.env t' y hm;obtain ⟨u', h1', h2'⟩ := hf.env t' y hm;rw [h1] at h1'
 cases h1'
 refine ⟨u, h1, ?_⟩;show VA w _ ι _ (zjh o S.heap y) u;unfold zjh
 split
 · rename_i p es
   split
   · rename_i hp;exact .d (zhA h h2 rfl fun q hq => by simpa [AV.objs, hp] using hq)
   · exact h2'
 · rename_i p off len
   split
   · rename_i hp;unfold zjg
     split
     · rename_i d hd;exact .d (zhA h h2 hd fun q hq => by simpa [AV.objs, hp] using hq)
     · exact h2'
   · exact h2'
 · rename_i p i k
   split
   · rename_i hp;unfold zjg
     split
     · rename_i d hd;exact .d (zhA h h2 hd fun q hq => by simpa [AV.objs, hp] using hq)
     · exact h2'
   · exact h2'
 · exact h2'
theorem zDB {S : St} {a : Act} {w : World} {ι : Inj} {R : Nat -> Prop} (h : Rel C S a w ι R) {o : Nat} {mk : Nat -> Option Nat} {x : AV} {u : Value} (h1 : VA w R ι (zf S.heap) x u) (h2 : VA w (zcl R ι [o]) ι mk x u) : VA w (zcl R ι [o]) ι mk (zfq o x) u := by
 unfold zfq
 split
 · split
   · rename_i hp;exact .d (zhA h h1 rfl fun q hq => by simpa [AV.objs, hp] using hq)
   · exact h2
 · exact h2
theorem zPu {S : St} {a : Act} {w : World} {ι : Inj} {R : Nat -> Prop} {o : Nat} {ob : Obj} (hlk : look o S.heap = some ob) (h : Rel C S a w ι R) : Rel C ⟨zew o S.heap S.env, zc5 o (zR (zau S.heap [o]) S.heap)⟩ a w ι (zcl R ι [o]) := by
 have hd := zBA hlk h;refine { hd with env := fun t x hx => ?_, heap := fun q ob1 hq => ?_ }
 · show ∃ u, zcg C a t = some u /\ VA w _ ι (zf (zc5 o (zR (zau S.heap [o]) S.heap))) x u;rw [zzT]; exact hd.env t x hx
 · show OB w _ ι (zf (zc5 o (zR (zau S.heap [o]) S.heap))) q ob1;rw [zzT];obtain ⟨ob0, h1, rfl⟩ := zv1 hq;have hob := hd.heap q ob0 h1
   cases ob0 with
   | acc n => exact hob
   | frz n => exact hob
   | mp n => exact hob
   | row es =>
    have hold : OB w R ι (zf S.heap) q (.row es) := by
     rcases zs4 h1 with h3 | ⟨h3, _⟩
     · obtain ⟨p, _, he⟩ := zQ3.1 h3
       cases he
     · exact h.heap q _ h3
    cases hob with
    | row hι' hR hb hs0 hsz hc hel =>
     cases hold with
     | row hι2 hR2 hb2 hs2 hsz2 hc2 hel2 =>
      rw [hι'] at hι2
      cases hι2
      rw [hb] at hb2
      cases hb2
      show OB w _ ι _ q (.row (zgE o es));rw [zv0];have hsize : ∀ e : AV, (zgD o e).size = e.size := fun e => by
       unfold zgD
       split
       · simp only [AV.size, zp9, zQV]
       · rfl
      refine .row hι' hR hb hs0 (fun e he => ?_) (by rw [zQV]; exact hc) fun i e hi j x hj => ?_
      · obtain ⟨e0, he0, rfl⟩ := zQ3.1 he;rw [hsize]; exact hsz e0 he0
      · rw [zQ7] at hi;obtain ⟨e0, he0, rfl⟩ := zQQ.1 hi;unfold zgD at hj
        split at hj
        · rename_i cs;simp only [AV.cells, zp9, zQ7] at hj;obtain ⟨x0, hx0, rfl⟩ := zQQ.1 hj;obtain ⟨k1, qv, k2, k3⟩ := hel i _ he0 j x0 hx0;obtain ⟨_, qv2, k22, k32⟩ := hel2 i _ he0 j x0 hx0;rw [k2] at k22
          cases k22
          exact ⟨zDA k1, qv, k2, zDB h k32 k3⟩
        · exact hel i _ he0 j x hj
theorem zPv {S S' : St} {a : Act} {w : World} {ι : Inj} {R : Nat -> Prop} {o : Nat} (hs : zoI o S = some S') (h : Rel C S a w ι R) : ∃ R', Rel C S' a w ι R' := by
 unfold zoI ztR at hs
 split at hs
 · rename_i ob hlk;unfold zqa at hs
   split at hs
   · cases hs
     exact ⟨_, zBA hlk h⟩
   · cases hs
     exact ⟨_, zPu hlk h⟩
 · cases hs; exact ⟨R, h⟩
theorem zxD {S' : St} {a : Act} {w : World} : ∀ {gs : List Nat} {S : St} {ι : Inj} {R : Nat -> Prop}, zcG gs S = some S' -> Rel C S a w ι R -> ∃ ι' R', Rel C S' a w ι' R' := by
 intro gs
 induction gs with
 | nil => intro S ι R hs h; cases hs; exact ⟨ι, R, h⟩
 | cons g gs ih =>
  intro S ι R hs h;obtain ⟨S1, h1, h2⟩ := zQP.1 hs;have : ∃ ι' R', Rel C S1 a w ι' R' := by
   unfold znr at h1
   split at h1
   · split at h1
     · exact ⟨ι, R, zPy h1 h⟩
     · exact ⟨ι, R, zPs h1 h⟩
   · split at h1
     · obtain ⟨ι', h'⟩ := zPx h1 h; exact ⟨ι', R, h'⟩
     · obtain ⟨R', h'⟩ := zPv h1 h; exact ⟨ι, R', h'⟩
  obtain ⟨ι', R', h'⟩ := this;exact ih h2 h'
end Go.Sim
