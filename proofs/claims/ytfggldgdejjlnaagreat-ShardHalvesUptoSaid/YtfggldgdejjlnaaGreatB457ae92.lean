/-
  Codes that are reckoned where they are defined.
-/
import Derived.Test.YtfggldgdejjlnaaGreatB4ae5fa5
import Derived.Test.YtfggldgdejjlnaaGreatB84b65f5
import Derived.KernelRfl
set_option linter.unusedSimpArgs false
set_option linter.unusedVariables false
set_option maxHeartbeats 10000000
set_option maxRecDepth 100000
namespace Go.Sim
abbrev oM (d s : Nat) : zp := ⟨some d, .mv (.t s), none⟩
abbrev oP (d : Nat) (x : AOp) : zp := ⟨some d, x, none⟩
abbrev oQ (d : Nat) (x : AOp) (t : Nat) (b : Bool) : zp := ⟨some d, x, some (t, b)⟩
abbrev oN (x : AOp) : zp := ⟨none, x, none⟩
abbrev kI (n : Int) : Opd := .c (.d (.int .i64 n))
abbrev aI (n : Int) : AV := .d (.int .i64 n)
open Go (World Value Addr TypeId Act)
def zfz (S : Nat) (args : List AV) (os : zb) : Option (AV × zb) :=
 match args, os with
 | [.osl o 0 n, .d (.int .i64 i), .d (.sl [v])], [(p, .row es)] =>
  (zab es).bind fun ds => if o = 1000000 /\ p = 1000000 /\ ds ≠ [] /\ n = ds.length /\ 0 <= i /\ i <= ds.length /\ zao S (v :: ds) = true /\ ds.length + 1 <= LIM then some (.d (.sl (ds.take i.toNat ++ [v] ++ ds.drop i.toNat)), [(1000000, .frz none)]) else none
 | [.xsl [], .d (.int .i64 i), .d (.sl [v])], [] => if i = 0 /\ v.size = S then some (.d (.sl [v]), []) else none
 | _, _ => none
def zgF (S : Nat) (args : List AV) (os : zb) : Option (AV × zb) :=
 match args, os with
 | [.osl o 0 n, .d (.int .i64 i), .d (.int .i64 j)], [(p, .row es)] =>
  (zab es).bind fun ds => if o = 1000000 /\ p = 1000000 /\ ds ≠ [] /\ n = ds.length /\ 0 <= i /\ i < j /\ j <= ds.length /\ zao S ds = true /\ ds.length <= LIM then some (.d (.sl (ds.take i.toNat ++ ds.drop j.toNat)), [(1000000, .frz none)]) else none
 | _, _ => none
theorem zGZ {S : Nat} {args : List AV} {os os' : zb} {r : AV} (h : zfz S args os = some (r, os')) :
    (∃ (ds : List D) (i : Nat) (v : D), args = .osl 1000000 0 ds.length :: [D.int .i64 i, D.sl [v]].map .d /\ os = [(1000000, .row (ds.map .d))] /\ ds ≠ [] /\ i <= ds.length /\ (∀ e ∈ v :: ds, e.size = S) /\ ds.length + 1 <= LIM /\ r = .d (.sl (ds.take i ++ [v] ++ ds.drop i)) /\ os' = [(1000000, .frz none)]) \/
    (∃ v : D, args = [.xsl [], .d (.int .i64 0), .d (.sl [v])] /\ os = [] /\ v.size = S /\ r = .d (.sl [v]) /\ os' = []) := by
 unfold zfz at h
 split at h
 · rename_i o n i v p es;obtain ⟨ds, hd, hh⟩ := zQP.1 h;clear h
   split at hh
   · rename_i hc;obtain ⟨rfl, rfl, h1, rfl, h2, h3, h4, h5⟩ := hc
     cases hh
     refine .inl ⟨ds, i.toNat, v, by simp only [zQS, zQR, zTe h2], by rw [zdx hd], h1, by omega, fun e he => ?_, h5, rfl, rfl⟩;simpa using (zRb.1 h4) e he
   · cases hh
 · rename_i i v
   split at h
   · rename_i hc;obtain ⟨rfl, h1⟩ := hc
     cases h
     exact .inr ⟨v, rfl, rfl, h1, rfl, rfl⟩
   · cases h
 · cases h
theorem zDG {S : Nat} {args : List AV} {os os' : zb} {r : AV} (h : zgF S args os = some (r, os')) :
    ∃ (ds : List D) (i j : Nat), args = .osl 1000000 0 ds.length :: [D.int .i64 i, D.int .i64 j].map .d /\ os = [(1000000, .row (ds.map .d))] /\ ds ≠ [] /\ i < j /\ j <= ds.length /\ (∀ e ∈ ds, e.size = S) /\ ds.length <= LIM /\ r = .d (.sl (ds.take i ++ ds.drop j)) /\ os' = [(1000000, .frz none)] := by
 unfold zgF at h
 split at h
 · rename_i o n i j p es;obtain ⟨ds, hd, hh⟩ := zQP.1 h;clear h
   split at hh
   · rename_i hc;obtain ⟨rfl, rfl, h1, rfl, h2, h3, h4, h5, h6⟩ := hc
     cases hh
     refine ⟨ds, i.toNat, j.toNat, by simp only [zQS, zQR, zTe h2, zTe (show 0 <= j by omega)], by rw [zdx hd], h1, by omega, by omega, fun e he => ?_, h6, rfl, rfl⟩;simpa using (zRb.1 h5) e he
   · cases hh
 · cases h
variable {G : FuncId -> Option AFn}
theorem zHb {f : FuncId} {S : Nat} (h : G f = some (.ext (zfz S))) (ds : List D) (v : D) (i : Nat) (h0 : ds ≠ []) (hi : i <= ds.length) (hz : ∀ e ∈ v :: ds, e.size = S) (hL : ds.length + 1 <= 4294967296) :
    zd G f [.osl 1000000 0 ds.length, .d (.int .i64 i), .d (.sl [v])] [(1000000, .row (ds.map .d))] = some (.d (.sl (ds.take i ++ [v] ++ ds.drop i)), [(1000000, .frz none)]) := by
 rw [zgA h];show (zab (ds.map AV.d)).bind _ = _;rw [zcA];show (if _ then _ else _) = _
 split
 · rw [zRo]
 · rename_i hc;exact absurd ⟨rfl, rfl, h0, rfl, by omega, by omega, zRb.2 fun e he => by simpa using hz e he, hL⟩ hc
theorem zHc {f : FuncId} {S : Nat} (h : G f = some (.ext (zfz S))) (v : D) (hz : v.size = S) :
    zd G f [.xsl [], .d (.int .i64 0), .d (.sl [v])] [] = some (.d (.sl [v]), []) := by
 rw [zgA h];show (if _ then _ else _) = _
 split
 · rfl
 · rename_i hc;exact absurd ⟨rfl, hz⟩ hc
theorem zDJ {f : FuncId} {S : Nat} (h : G f = some (.ext (zgF S))) (ds : List D) (i j : Nat) (hi : i < j) (hj : j <= ds.length) (hz : ∀ e ∈ ds, e.size = S) (hL : ds.length <= 4294967296) :
    zd G f [.osl 1000000 0 ds.length, .d (.int .i64 i), .d (.int .i64 j)] [(1000000, .row (ds.map .d))] = some (.d (.sl (ds.take i ++ ds.drop j)), [(1000000, .frz none)]) := by
 rw [zgA h];show (zab (ds.map AV.d)).bind _ = _;rw [zcA];show (if _ then _ else _) = _
 split
 · rw [zRo, zRo]
 · rename_i hc;exact absurd ⟨rfl, rfl, by rintro rfl; simp at hj; omega, rfl, by omega, by omega, by omega, zRb.2 fun e he => by simpa using hz e he, hL⟩ hc
end Go.Sim

namespace Go.Proofs.YtfggldgdejjlnaaGreat
open Go Go.Sim
abbrev zf2 : Nat := 3
abbrev zcW : Nat := 4
abbrev zcX : Nat := 5
abbrev zcv : Nat := 6
abbrev zdV : Nat := 7
abbrev zdm : Nat := 8
abbrev zcj : Nat := 9
abbrev zci : Nat := 10
abbrev ze9 : Nat := 11
abbrev zcY : Nat := 12
abbrev zcw : Nat := 13
abbrev zcZ : Nat := 14
abbrev zhN : Nat := 15
abbrev zhG : Nat := 16
abbrev zfX : Nat := 17
abbrev zdr : Nat := 18
abbrev zgc : Nat := 19
abbrev zdn : Nat := 20
abbrev ziE : Nat := 21
abbrev ziF : Nat := 22
abbrev ziD : Nat := 23
abbrev zga : Nat := 24
abbrev ziw : Nat := 25
abbrev ziv : Nat := 26
abbrev zdo : Nat := 27
abbrev zdu : Nat := 28
abbrev zdt : Nat := 29
abbrev zfe : Nat := 30
abbrev zds : Nat := 31
abbrev zfa : Nat := 32
abbrev zdp : Nat := 33
abbrev zem : Nat := 34
abbrev zel : Nat := 35
abbrev zcx : Nat := 36
abbrev zhH : Nat := 37
abbrev zhL : Nat := 38
abbrev zcy : Nat := 39
abbrev zdq : Nat := 40
abbrev zfg : Nat := 41
abbrev zen : Nat := 42
abbrev zff : Nat := 43
abbrev zcz : Nat := 44
abbrev zeo : Nat := 45
abbrev zix : Nat := 46
abbrev zfb : Nat := 47
abbrev zgd : Nat := 48
abbrev zfc : Nat := 49
abbrev ziI : Nat := 50
abbrev ziJ : Nat := 51
abbrev ziK : Nat := 52
abbrev ziL : Nat := 53
abbrev zh7 : Nat := 54
abbrev ziG : Nat := 55
abbrev zhZ : Nat := 56
abbrev ziM : Nat := 57
abbrev ze7 : Nat := 58
abbrev ziH : Nat := 59
abbrev zie : Nat := 60
abbrev ziy : Nat := 61
abbrev ze5 : Nat := 62
abbrev zfh : Nat := 63
abbrev zgb : Nat := 64
abbrev zge : Nat := 65
abbrev zfd : Nat := 66
abbrev zhY : Nat := 67
abbrev zf9 : Nat := 68
abbrev zhI : Nat := 69
abbrev zhK : Nat := 70
abbrev zgg : Nat := 71
abbrev zek : Nat := 72
abbrev ziQ : Nat := 73
abbrev zdU : Nat := 74
abbrev zej : Nat := 75
abbrev ze8 : Nat := 76
abbrev zh6 : Nat := 77
abbrev zgf : Nat := 78
abbrev zdT : Nat := 79
abbrev ze4 : Nat := 80
abbrev zh1 : Nat := 81
abbrev zh0 : Nat := 82
abbrev ziB : Nat := 83
abbrev ziA : Nat := 84
abbrev zf7 : Nat := 85
abbrev zhX : Nat := 86
abbrev zig : Nat := 87
abbrev zf6 : Nat := 88
abbrev ze6 : Nat := 89
abbrev zhR : Nat := 90
abbrev zh2 : Nat := 91
abbrev ze2 : Nat := 92
abbrev ziV : Nat := 93
abbrev ziu : Nat := 94
abbrev zhM : Nat := 95
abbrev zhO : Nat := 96
abbrev zh8 : Nat := 97
abbrev ziU : Nat := 98
abbrev ziz : Nat := 99
abbrev ziC : Nat := 100
abbrev ziS : Nat := 101
abbrev zgh : Nat := 102
abbrev zfZ : Nat := 103
abbrev ziN : Nat := 104
abbrev zei : Nat := 105
abbrev ze1 : Nat := 106
abbrev ze3 : Nat := 107
abbrev zh3 : Nat := 108
abbrev zf3 : Nat := 109
abbrev ziO : Nat := 110
abbrev zfY : Nat := 111
abbrev zhW : Nat := 112
abbrev zhU : Nat := 113
abbrev zhS : Nat := 114
abbrev ziP : Nat := 115
abbrev zhV : Nat := 116
abbrev zif : Nat := 119
abbrev zf4 : Nat := 120
abbrev zhJ : Nat := 121
abbrev zf5 : Nat := 122
abbrev zir : Nat := 123
abbrev zf8 : Nat := 124
abbrev zgj : Nat := 125
abbrev zh4 : Nat := 126
abbrev zhP : Nat := 127
abbrev zhQ : Nat := 128
abbrev zf0 : Nat := 129
abbrev zkM : Nat := 130
abbrev zid : Nat := 131
abbrev ziR : Nat := 132
abbrev zf1 : Nat := 133
abbrev ziT : Nat := 134
abbrev zih : Nat := 136
abbrev zii : Nat := 137
abbrev zia : Nat := 138
abbrev zib : Nat := 139
abbrev ze0 : Nat := 140
abbrev zis : Nat := 141
abbrev zit : Nat := 142
abbrev zij : Nat := 143
abbrev zgi : Nat := 144
abbrev zud : Nat := 152
abbrev zh5 : Nat := 153
abbrev zhT : Nat := 154
abbrev zh9 : Nat := 156
abbrev zic : Nat := 157
abbrev zik : Nat := 158
abbrev zin : Nat := 159
abbrev zim : Nat := 160
abbrev ziq : Nat := 161
abbrev zil : Nat := 167
abbrev zio : Nat := 168
end Go.Proofs.YtfggldgdejjlnaaGreat

namespace Go.Sim
open Go (Program Func)
def val {x : Option zh} (c : zh) (_ : x = some c) : zh := c
theorem iP (n : Nat) : Int.ofNat n = (n : Int) := rfl
theorem iN (n : Nat) : Int.negSucc n = -((n : Int) + 1) := rfl
def zcB : zh -> List zh
 | .seq a b => zcB a ++ zcB b
 | .cond _ a b => zcB a ++ zcB b
 | .block _ a => zcB a
 | .loop _ a => zcB a ++ [a]
 | _ => []
def zce : zh -> List zh -> zh × List zh
 | .seq a b, ls => (.seq (zce a ls).1 (zce b (zce a ls).2).1, (zce b (zce a ls).2).2)
 | .cond z a b, ls => (.cond z (zce a ls).1 (zce b (zce a ls).2).1, (zce b (zce a ls).2).2)
 | .block i a, ls => (.block i (zce a ls).1, (zce a ls).2)
 | .loop ks a, ls => (match ls.drop (zcB a).length with | x :: _ => .loop ks x | [] => .loop ks a, ls.drop ((zcB a).length + 1))
 | c, ls => (c, ls)
def zes (P : Program) (hs : zk) (F : List (Nat × List (List Nat))) : Code -> Option zh
 | .skip => some .skip
 | .region id ops false => (ops.toList.mapM (zcC P hs ops)).map fun l => .ops (zb8 hs.ghost id) l (zb8 hs.kill id)
 | .region id ops true => (ops.toList.mapM (zcC P hs ops)).map fun l => .draw (zb8 hs.ghost id) l ((look id F).getD []) (zb8 hs.kill id)
 | .seq a b => match zes P hs F a, zes P hs F b with | some x, some y => some (.seq x y) | _, _ => none
 | .cond c t e => match opd c, zes P hs F t, zes P hs F e with | some z, some x, some y => some (.cond z x y) | _, _, _ => none
 | .block id b => (zes P hs F b).map (.block id)
 | .loop b => (zes P hs F b).map (.loop (zb8 hs.loop (zfw b)))
 | .exit id => some (.exit id (zb8 hs.exit id))
 | .ret => some (.ret hs.ret)
 | _ => none
def zm (P : Program) (fn : Func) (hs : zk) (F : List (Nat × List (List Nat))) (ls : List zh) : Option zh := (fn.body.bind (zes P hs F)).map fun c => (zce c ls).1
def zY (P : Program) (fn : Func) (hs : zk) (F : List (Nat × List (List Nat))) (j : Nat) (ls : List zh) : Option zh := (fn.body.bind (zes P hs F)).bind fun c => (zcB c)[j]?.map fun b => (zce b ls).1
def vl {x : Option zh} {c : zh} (_ : x = some c := by conv => lhs; reduce; try simp only [iP, iN, zQ0, zQW, zQZ]) : zh := c
theorem zPY {x : Option zh} {c : zh} (h : x = some c) : vl h = c := rfl
attribute [go_sem ↓] zPY
def xp : List Nat -> List Nat
 | [] => []
 | n :: l => if n < 1000 then n :: xp l else List.range' (n / 1000) (n % 1000 + 1 - n / 1000) ++ xp l
def kx : List (Nat × List Nat) -> List (Nat × List Nat)
 | [] => []
 | (i, l) :: r => (i, xp l) :: kx r
def xq : List Nat -> List Nat
 | [] => []
 | n :: l => if n < 1000 then n :: xq l else List.range' (n / 1000 - 1) (n % 1000 + 2 - n / 1000) ++ xq l
def qx : List (Nat × List (List Nat)) -> List (Nat × List (List Nat))
 | [] => []
 | (i, l) :: r => (i, l.map xq) :: qx r
theorem tk {α : Type} {a b : α} (h : a = b := by kernel_rfl) : a = b := h
theorem zn {P : Program} {f i : Nat} {fn : Func} {c : zh} {rs : List zar} {nt : Nat} {sl : Bool} (hs : zk) (hf : P.funcs[i]? = some fn) (h0 : f = i := by kernel_rfl) (h1 : zbQ P f = true := by kernel_rfl) (h2 : fn.body.bind (comp P hs) = some c := by kernel_rfl) (h3 : fn.body.map (zb1 fn.ntmps) = some true := by kernel_rfl) (h4 : fn.results.toList.mapM (zet P) = some rs := by kernel_rfl) (h5 : fn.ntmps = nt := by kernel_rfl) (h6 : nt <= 1000000 := by decide) : zl P f (.code c rs nt sl) := ⟨h1, fn, hs, h0 ▸ hf, h2, h3, h4, h5, h6⟩
theorem zq9 {P : Program} {f i : Nat} {fn : Func} {c : zh} {rs : List zar} {nt : Nat} (hs : zk) (hf : P.funcs[i]? = some fn) (h0 : f = i := by kernel_rfl) (h1 : zbQ P f = true := by kernel_rfl) (h2 : fn.body.bind (comp P hs) = some c := by kernel_rfl) (h3 : fn.body.map (zb1 fn.ntmps) = some true := by kernel_rfl) (h4 : fn.results.toList.mapM (zet P) = some rs := by kernel_rfl) (h5 : fn.ntmps = nt := by kernel_rfl) (h6 : nt <= 1000000 := by decide) : zl P f (.nils c rs nt) := ⟨h1, fn, hs, h0 ▸ hf, h2, h3, h4, h5, h6⟩
end Go.Sim
