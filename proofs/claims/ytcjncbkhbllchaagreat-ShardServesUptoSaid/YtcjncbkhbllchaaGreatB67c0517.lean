/-
  Part of the calculus in which the claim is proved: lease
-/
import Derived.Test.YtcjncbkhbllchaaGreatB70c8139
import Derived.Test.YtcjncbkhbllchaaGreatBf955c6f
set_option linter.unusedSimpArgs false
set_option linter.unusedVariables false
set_option maxHeartbeats 10000000
set_option maxRecDepth 100000
namespace Go.Proofs.YtcjncbkhbllchaaGreat
open Go Go.Sim
theorem znd {α : Type} (l : List α) (i j : Nat) (x d : α) (hi : i < l.length) : (l.set i x).getD j d = if i = j then x else l.getD j d := by
 rw [List.getD_eq_getElem?_getD, List.getD_eq_getElem?_getD, List.getElem?_set]
 split
 · rename_i e; subst e; simp
 · rfl
theorem modInj {n h i j : Nat} (hi : i < n) (hj : j < n) (e : (h + i) % n = (h + j) % n) : i = j := by
 have h1 := Nat.mod_lt h (show 0 < n by omega)
 rw [Nat.add_mod h i, Nat.add_mod h j, Nat.mod_eq_of_lt hi, Nat.mod_eq_of_lt hj] at e
 generalize h % n = a at *
 by_cases c1 : a + i < n
 · rw [Nat.mod_eq_of_lt c1] at e
   by_cases c2 : a + j < n
   · rw [Nat.mod_eq_of_lt c2] at e; omega
   · rw [show a + j = (a + j - n) + n by omega, Nat.add_mod_right, Nat.mod_eq_of_lt (by omega)] at e; omega
 · rw [show a + i = (a + i - n) + n by omega, Nat.add_mod_right, Nat.mod_eq_of_lt (by omega)] at e
   by_cases c2 : a + j < n
   · rw [Nat.mod_eq_of_lt c2] at e; omega
   · rw [show a + j = (a + j - n) + n by omega, Nat.add_mod_right, Nat.mod_eq_of_lt (by omega)] at e; omega
theorem wN_at {n h : Nat} {l : List Message} (hn : 1 ≤ n) : ∀ {i : Nat}, i ≤ n → ∀ {j : Nat}, j < n → (wN n h l i).getD ((h + j) % n) zMessage = if j < i then l.getD j zMessage else zMessage := by
 intro i
 induction i with
 | zero =>
  intro _ j hj
  rw [if_neg (by omega)]
  have : (h + j) % n < n := Nat.mod_lt _ (by omega)
  simp [wN, List.getD_eq_getElem?_getD, List.getElem?_replicate, this]
 | succ i ih =>
  intro hi j hj
  have hm : (h + i) % n < n := Nat.mod_lt _ (by omega)
  rw [zqq, znd _ _ _ _ _ (by rw [wN_len]; exact hm), ih (by omega) hj]
  by_cases e : (h + i) % n = (h + j) % n
  · obtain rfl := modInj (by omega) hj e
    rw [if_pos rfl, if_pos (by omega)]
  · rw [if_neg e]
    by_cases c : j < i
    · rw [if_pos c, if_pos (by omega)]
    · rw [if_neg c, if_neg]
      intro h2
      obtain rfl : j = i := by omega
      exact e rfl
def rg (n h : Nat) (l : List Message) : Ring := ⟨wN n h l l.length, h, l.length⟩
theorem zl4 {n h : Nat} {l : List Message} (hn : 1 ≤ n) (hl : l.length ≤ n) : ordN (wN n h l l.length) h l.length = l := by
 unfold ordN
 rw [wN_len]
 refine List.ext_getElem (by simp) fun j h1 h2 => ?_
 simp only [List.getElem_map, List.getElem_range]
 rw [wN_at hn hl (by omega), if_pos h2, getDT h2]
theorem zw7 {l : List Message} (h : ∀ m ∈ l, msgV m = 0) : firstE l = 0 := by
 induction l with
 | nil => rfl
 | cons m l ih =>
  unfold firstE
  rw [if_neg (by simpa using h m (by simp))]
  exact ih fun x hx => h x (by simp [hx])
theorem zoZ {n h : Nat} {l : List Message} (hn : 1 ≤ n) (hn2 : n ≤ 12) (hh : h < n) (hl : l.length ≤ n) (hm : ∀ m ∈ l, msgV m = 0) (hd : (l.map (·.id)).Nodup) : ringV (rg n h l) = 0 := by
 have ho : ordD (rg n h l) = l := by rw [rg, zkq, zl4 hn hl]
 unfold ringV
 rw [ho]
 have hlen : (rg n h l).cells.length = n := wN_len _ _ _ _
 rw [if_neg (by rw [Classical.not_not]; exact ⟨by rw [hlen]; omega, by rw [hlen]; omega, by simp [rg], by rw [hlen]; simp [rg]; omega, by simp [rg], by rw [hlen]; simp [rg]; omega⟩)]
 rw [if_neg, if_neg (by rw [zw7 hm]; simp), if_neg (by unfold dupI; simpa using hd)]
 unfold restF
 rw [hlen]
 rw [List.any_eq_true]
 rintro ⟨j, h1, h2⟩
 rw [List.mem_range'_1] at h1
 have hz : (rg n h l).size.toNat = l.length := by simp [rg]
 have e := wN_at (h := h) (l := l) hn hl (show j < n by omega)
 rw [if_neg (by omega)] at e
 exact of_decide_eq_true h2 e
theorem zpT {n h : Nat} {l : List Message} {m : Message} (hn : 1 ≤ n) (hn2 : n ≤ 12) (hh : h < n) (hl : l.length < n) (hm : ∀ m ∈ l, msgV m = 0) (hd : (l.map (·.id)).Nodup) (hv : msgV m = 0) (hi : ∀ x ∈ l, x.id ≠ m.id) : pushR (rg n h l) m = 0 := by
 unfold pushR
 rw [if_neg (by rw [zoZ hn hn2 hh (by omega) hm hd]; simp), if_neg (by rw [hv]; simp), if_neg (by simp [rg, wN_len]; omega), if_neg]
 rw [rg, zkq, zl4 hn (by omega)]
 have : fstI l m.id < 0 := by
  unfold fstI
  rw [znv]
  intro x hx
  simpa using hi x hx
 omega
theorem zrm {m : Message} {id lo hi : Int} (h : msgGood m id lo hi) (h1 : 1 ≤ id) (h2 : id ≤ 1000) (h3 : 0 ≤ lo) (h4 : hi < 65536) : msgV m = 0 := by
 obtain ⟨g1, g2, g3, g4, g5, g6, g7, g8, g9, g10, g11, g12⟩ := h
 unfold msgV
 rw [if_pos ⟨by omega, by omega, by omega, by omega, by omega, by omega, by omega, by omega, by omega, by omega, by omega, by omega⟩, if_neg (by omega)]
theorem pb_rg {n h : Nat} {l : List Message} {m : Message} (hn : 1 ≤ n) (hn2 : n ≤ 12) (hh : h < n) (hl : l.length < n) (hm : ∀ m ∈ l, msgV m = 0) (hd : (l.map (·.id)).Nodup) (hv : msgV m = 0) (hi : ∀ x ∈ l, x.id ≠ m.id) : callL G zq [.d (eRing (rg n h l)), .d (eMessage m)] [] = some (.d (.tup [eRing (rg n h (l ++ [m])), .int .i64 0]), []) := by
 have hp := zpT hn hn2 hh hl hm hd hv hi
 have := zz2 (wN n h l l.length) h l.length m hp
 rw [zl4 hn (by omega), wN_len] at this
 rw [show rg n h l = ⟨wN n h l l.length, h, l.length⟩ from rfl, this]
 unfold rg
 rw [List.length_append, List.length_singleton]
theorem pf_rg {n h : Nat} {l : List Message} {m : Message} (hn : 1 ≤ n) (hn2 : n ≤ 12) (hh : h < n) (hl : l.length < n) (hm : ∀ m ∈ l, msgV m = 0) (hd : (l.map (·.id)).Nodup) (hv : msgV m = 0) (hi : ∀ x ∈ l, x.id ≠ m.id) : callL G zr [.d (eRing (rg n h l)), .d (eMessage m)] [] = some (.d (.tup [eRing (rg n ((h + n - 1) % n) (m :: l)), .int .i64 0]), []) := by
 have hp := zpT hn hn2 hh hl hm hd hv hi
 have := zz3 (wN n h l l.length) h l.length m hp
 rw [zl4 hn (by omega), wN_len] at this
 rw [show rg n h l = ⟨wN n h l l.length, h, l.length⟩ from rfl, this]
 rfl
theorem zzO {n h p : Nat} (hn : 1 ≤ n) (hp : p < n) : ∃ j, j < n ∧ (h + j) % n = p := by
 have hh : h % n < n := Nat.mod_lt _ (by omega)
 by_cases c : h % n ≤ p
 · refine ⟨p - h % n, by omega, ?_⟩
   rw [← Nat.mod_add_mod, show h % n + (p - h % n) = p by omega, Nat.mod_eq_of_lt hp]
 · refine ⟨p + n - h % n, by omega, ?_⟩
   rw [← Nat.mod_add_mod, show h % n + (p + n - h % n) = p + n by omega, Nat.add_mod_right, Nat.mod_eq_of_lt hp]
theorem znS {n h : Nat} {a b : List Message} (hn : 1 ≤ n) (ha : a.length = n) (hb : b.length = n) (H : ∀ j, j < n → a.getD ((h + j) % n) zMessage = b.getD ((h + j) % n) zMessage) : a = b := by
 refine List.ext_getElem (by omega) fun p h1 h2 => ?_
 obtain ⟨j, hj, e⟩ := zzO (h := h) hn (show p < n by omega)
 have := H j hj
 rw [e] at this
 simpa [List.getD_eq_getElem?_getD, h1, h2] using this
theorem mod_lt' {n i : Nat} (hn : 1 ≤ n) : i % n < n := Nat.mod_lt _ (by omega)
theorem zB1 {n h : Nat} {L : List Message} {m : Message} (hl : L.length < n) : wN n h (L ++ [m]) (L.length + 1) = (wN n h L L.length).set ((h + L.length) % n) m := by
 refine znS (n := n) (h := h) (by omega) (wN_len _ _ _ _) (by rw [List.length_set, wN_len]) fun j hj => ?_
 rw [wN_at (by omega) (by omega) hj, znd _ _ _ _ _ (by rw [wN_len]; exact mod_lt' (by omega))]
 by_cases c : j = L.length
 · subst c
   simp
 · have : ¬ (h + L.length) % n = (h + j) % n := fun e => c (modInj hl hj e).symm
   rw [if_neg this, wN_at (by omega) (by omega) hj]
   by_cases c2 : j < L.length
   · rw [if_pos (by omega), if_pos c2]
     simp [List.getD_eq_getElem?_getD, List.getElem?_append_left c2]
   · rw [if_neg (by omega), if_neg c2]
theorem zB0 {n h : Nat} {L : List Message} {m : Message} (hl : L.length < n) (hh : h < n) : wN n ((h + n - 1) % n) (m :: L) (L.length + 1) = (wN n h L L.length).set ((h + n - 1) % n) m := by
 have hb : (h + n - 1) % n < n := mod_lt' (by omega)
 refine znS (n := n) (h := (h + n - 1) % n) (by omega) (wN_len _ _ _ _) (by rw [List.length_set, wN_len]) fun j hj => ?_
 rw [wN_at (by omega) (by omega) hj, znd _ _ _ _ _ (by rw [wN_len]; exact hb)]
 have e0 : ((h + n - 1) % n + 0) % n = (h + n - 1) % n := by rw [Nat.add_zero, Nat.mod_eq_of_lt hb]
 cases j with
 | zero => rw [e0, if_pos rfl, if_pos (by omega)]; rfl
 | succ k =>
  have : ¬ (h + n - 1) % n = ((h + n - 1) % n + (k + 1)) % n := fun e => by
   have := modInj (h := (h + n - 1) % n) (i := 0) (j := k + 1) (by omega) hj (by rw [e0]; exact e)
   omega
  rw [if_neg this, Nat.mod_add_mod, show h + n - 1 + (k + 1) = h + k + n by omega, Nat.add_mod_right, wN_at (by omega) (by omega) (by omega)]
  by_cases c2 : k < L.length
  · rw [if_pos (by omega), if_pos c2]
    simp [List.getD_eq_getElem?_getD]
  · rw [if_neg (by omega), if_neg c2]
theorem wN_upd {n h i z : Nat} {M : List Message} {m : Message} (hz : z ≤ n) (hm : M.length = z) (hi : i < z) : wN n h (M.set i m) z = (wN n h M z).set ((h + i) % n) m := by
 refine znS (n := n) (h := h) (by omega) (wN_len _ _ _ _) (by rw [List.length_set, wN_len]) fun j hj => ?_
 have q1 := znd (wN n h M z) ((h + i) % n) ((h + j) % n) m zMessage (by rw [wN_len]; exact mod_lt' (by omega))
 have q2 := znd M i j m zMessage (by omega)
 rw [wN_at (by omega) hz hj, q1, q2, wN_at (by omega) hz hj]
 by_cases c : i = j
 · subst c
   simp [hi]
 · have : ¬ (h + i) % n = (h + j) % n := fun e => c (modInj (by omega) hj e)
   rw [if_neg this, if_neg c]
theorem wN_pop {n h z : Nat} {M : List Message} (hz : z < n) (hm : M.length = z + 1) : wN n h (M.take z) z = (wN n h M (z + 1)).set ((h + z) % n) zMessage := by
 refine znS (n := n) (h := h) (by omega) (wN_len _ _ _ _) (by rw [List.length_set, wN_len]) fun j hj => ?_
 rw [wN_at (by omega) (by omega) hj, znd _ _ _ _ _ (by rw [wN_len]; exact mod_lt' (by omega)), wN_at (by omega) (by omega) hj]
 by_cases c : z = j
 · subst c
   simp
 · have : ¬ (h + z) % n = (h + j) % n := fun e => c (modInj (by omega) hj e)
   rw [if_neg this]
   by_cases c2 : j < z
   · rw [if_pos c2, if_pos (by omega)]
     simp [List.getD_eq_getElem?_getD, List.getElem?_take, c2]
   · rw [if_neg c2, if_neg (by omega)]
theorem zpt {l : List Message} {j : Nat} (h : j < l.length) : l[j] = l.getD j zMessage := by
 rw [List.getD_eq_getElem?_getD, List.getElem?_eq_getElem h]; rfl
def mvN (L : List Message) (k i : Nat) : List Message := (List.range L.length).map fun j => L.getD (if k ≤ j ∧ j < i then j + 1 else j) zMessage
theorem zkk (L : List Message) (k i : Nat) : (mvN L k i).length = L.length := by simp [mvN]
theorem mvN_at {L : List Message} {k i j : Nat} (hj : j < L.length) : (mvN L k i).getD j zMessage = L.getD (if k ≤ j ∧ j < i then j + 1 else j) zMessage := by
 simp [mvN, List.getD_eq_getElem?_getD, hj]
theorem zyc (L : List Message) (k : Nat) : mvN L k k = L := by
 refine List.ext_getElem (zkk _ _ _) fun j h1 h2 => ?_
 have := mvN_at (k := k) (i := k) h2
 rw [if_neg (by omega)] at this
 simpa [List.getD_eq_getElem?_getD, h1, h2] using this
theorem zyb {L : List Message} {k i : Nat} (hk : k ≤ i) (hi : i + 1 < L.length) : (mvN L k i).set i (L.getD (i + 1) zMessage) = mvN L k (i + 1) := by
 refine List.ext_getElem (by rw [List.length_set, zkk, zkk]) fun j h1 h2 => ?_
 have hj : j < L.length := by rw [zkk] at h2; exact h2
 have a1 := znd (mvN L k i) i j (L.getD (i + 1) zMessage) zMessage (by rw [zkk]; omega)
 have a2 := mvN_at (k := k) (i := i) hj
 have a3 := mvN_at (k := k) (i := i + 1) hj
 have b1 := zpt h1
 have b2 := zpt h2
 rw [b1, b2, a1, a2, a3]
 by_cases c : i = j
 · subst c
   rw [if_pos rfl, if_pos (by omega)]
 · rw [if_neg c]
   by_cases c2 : k ≤ j ∧ j < i
   · rw [if_pos c2, if_pos (by omega)]
   · rw [if_neg c2, if_neg (by omega)]
theorem zya {L : List Message} {k : Nat} (hk : k < L.length) : (mvN L k (L.length - 1)).take (L.length - 1) = L.eraseIdx k := by
 refine List.ext_getElem (by rw [List.length_take, zkk, List.length_eraseIdx, if_pos hk]; omega) fun j h1 h2 => ?_
 have hj : j < L.length - 1 := by rw [List.length_take, zkk] at h1; omega
 rw [List.getElem_take, List.getElem_eraseIdx]
 have a2 := mvN_at (L := L) (k := k) (i := L.length - 1) (j := j) (by omega)
 have b2 : (mvN L k (L.length - 1))[j]'(by rw [zkk]; omega) = (mvN L k (L.length - 1)).getD j zMessage := by
  rw [List.getD_eq_getElem?_getD, List.getElem?_eq_getElem (by rw [zkk]; omega)]; rfl
 rw [b2, a2]
 by_cases c : j < k
 · rw [if_neg (by omega), dif_pos c, List.getD_eq_getElem?_getD, List.getElem?_eq_getElem (by omega)]; rfl
 · rw [if_pos (by omega), dif_neg c, List.getD_eq_getElem?_getD, List.getElem?_eq_getElem (by omega)]; rfl
theorem zw6 : ∀ {l : List Message}, firstE l = 0 → ∀ m ∈ l, msgV m = 0 := by
 intro l
 induction l with
 | nil => intro _ m hm; cases hm
 | cons x l ih =>
  intro h m hm
  unfold firstE at h
  split at h
  · rename_i q; exact absurd h q
  · rename_i q
    cases hm with
    | head => simpa using q
    | tail _ hm => exact ih h m hm
theorem rg_of {r : Ring} (hr : ringV r = 0) : ∃ n h : Nat, r = rg n h (ordD r) ∧ 1 ≤ n ∧ n ≤ 12 ∧ h < n ∧ (ordD r).length ≤ n ∧ (∀ m ∈ ordD r, msgV m = 0) ∧ ((ordD r).map (·.id)).Nodup := by
 have hok := zjR hr
 obtain ⟨c, h, z, rfl, h1, h2, h3, h4⟩ := zno hok
 rw [zq6 hok] at hr
 have ho : ordD ⟨c, h, z⟩ = ordN c h z := zkq c h z
 rw [ho]
 have hl : (ordN c h z).length = z := zkn c h z
 split at hr
 · cases hr
 rename_i hrest
 split at hr
 · rename_i q; exact absurd hr q
 rename_i hfirst
 split at hr
 · cases hr
 rename_i hdup
 refine ⟨c.length, h, ?_, h1, h2, h3, by omega, ?_, ?_⟩
 · unfold rg
   rw [hl]
   congr 1
   refine znS (n := c.length) (h := h) h1 rfl (wN_len _ _ _ _) fun j hj => ?_
   rw [wN_at h1 h4 hj]
   by_cases cj : j < z
   · rw [if_pos cj]
     simp [ordN, List.getD_eq_getElem?_getD, cj]
   · rw [if_neg cj]
     have hr2 : restF ⟨c, h, z⟩ z c.length = false := by simpa using hrest
     unfold restF at hr2
     rw [List.any_eq_false] at hr2
     have := hr2 j (List.mem_range'_1.2 ⟨by omega, by omega⟩)
     simpa using this
 · have hf : firstE (ordN c h z) = 0 := by simpa using hfirst
   generalize ordN c h z = w at *
   clear hl ho hdup hrest
   intro m hm
   have := zw6 hf m hm
   exact this
 · have : dupI ((ordN c h z).map (·.id)) = false := by simpa using hdup
   unfold dupI at this
   simpa using this
theorem zpk (es : List D) (hs : allSize 7 es = true) (hL : es.length ≤ 4294967296) : callL G z11 [.d (.sl es)] [] = some (.acc 0 es, [(0, .acc es.length)]) := by
 cases es with
 | nil =>
  refine znQ z3y (by decide) ?_ ?_
  · simp -implicitDefEqProofs only [z0C, go_sem]
  · simp -implicitDefEqProofs only [z0C, Nat.zero_le, go_sem]
 | cons e es =>
  rw [znP z3y (by simp) (by decide)]
  simp only [znq] at hs
  simp only [List.length_cons] at hL
  simp -implicitDefEqProofs (disch := omega) only [z0C, go_sem, *]
theorem zru (l : List Message) (g : Nat) (cs : List D) (p : Message → Bool) (hL : l.length ≤ 4294967296) (hp : ∀ a ∈ l, callL G g (.d (eMessage a) :: cs.map .d) [] = some (.d (.bool (p a)), [])) : callL G z2X [.d (.sl (l.map eMessage)), .d (.fn g cs)] [] = some (.d (.int .i64 (idxI p l)), []) := by
 have := zl3 (G := G) (x := l_slices_IndexFunc_api_Message_0) (ks := []) l.length (atB l p) (fun k => ⟨[(0, .d (.sl (l.map eMessage))), (1, .d (.fn g cs)), (7, .d (.int .i64 l.length)), (8, .d (.int .i64 k))], []⟩) (fun k => (.ret, ⟨[(4, .d (.int .i64 k))], []⟩)) (.exit 0, ⟨[], []⟩) (fun k hk L => by
  simp only [l_slices_IndexFunc_api_Message_0]
  by_cases h0 : k < l.length
  · have h1 := hp l[k] (List.getElem_mem h0)
    simp only [eMessage] at h1
    simp only [atB_at h0]
    cases h2 : p l[k]
    · rw [h2] at h1
      simp -implicitDefEqProofs (disch := omega) only [go_sem, h1, eMessage]
    · rw [h2] at h1
      simp -implicitDefEqProofs (disch := omega) only [go_sem, h1, eMessage]
  · simp -implicitDefEqProofs (disch := omega) only [go_sem, Nat.zero_add])
 rw [znu] at this
 simp only [Int.natCast_add, Int.natCast_one, Int.natCast_zero, Int.natCast_mul, Int.cast_ofNat_Int, List.length_append, List.length_map, List.map_nil, List.length_nil, List.map_append, List.map_cons, List.length_cons, Nat.zero_add, srcO, mapSet] at this
 unfold idxI
 cases h : l.findIdx? p with
 | none => rw [h] at this; rw [zjI z8K (by simp)]; simp -implicitDefEqProofs (disch := omega) only [z77, go_sem, this]
 | some i => rw [h] at this; rw [zjI z8K (by simp)]; simp -implicitDefEqProofs (disch := omega) only [z77, go_sem, this]
theorem zuE (l : List Message) (g : Nat) (cs : List D) (p : Message → Bool) (hL : l.length ≤ 4294967296) (hp : ∀ a ∈ l, callL G g (.d (eMessage a) :: cs.map .d) [] = some (.d (.bool (p a)), [])) : callL G z2U [.d (.sl (l.map eMessage)), .d (.fn g cs)] [] = some (.d (.bool (l.any p)), []) := by
 rw [zjI zc5 (by simp)]; simp -implicitDefEqProofs (disch := omega) only [zaV, go_sem, zru l g cs p hL hp, zoF]
theorem fcl_ok (m : Message) (id : Int) : callL G z0T [.d (eMessage m), .d (.pd (.int .i64 id))] [] = some (.d (.bool (decide (m.id = id))), []) := by
 simp only [eMessage]
 rw [zjI zbT (by simp)]; simp -implicitDefEqProofs (disch := omega) only [zaI, getDT, go_sem, *]
theorem zsT (c : List Message) (h z : Nat) (id : Int) (h1 : c.length ≤ 12) (h2 : h < c.length) (h3 : z ≤ c.length) : callL G z2A [.d (.agg [.sl (c.map eMessage), .int .i64 h, .int .i64 z]), .d (.int .i64 id)] [] = some (.d (.int .i64 (fstI (ordN c h z) id)), []) := by
 have hl := zpD c h z h1 h2 h3
 have hn := zkn c h z
 have hi := zru (ordN c h z) z0T [.pd (.int .i64 id)] (fun m => decide (m.id = id)) (by omega) (fun a _ => fcl_ok a id)
 unfold fstI
 generalize idxI (fun m : Message => decide (m.id = id)) (ordN c h z) = q at *
 generalize ordN c h z = w at *
 rw [zjI zbS (by simp)]; simp -implicitDefEqProofs (disch := omega) only [zaH, getDT, go_sem, *]
theorem zsU (r : Ring) (m : Message) (hL : r.cells.length ≤ 4294967296) : callL G z2C [.d (eRing r), .d (eMessage m)] [] = some (.d (.int .i64 (pushR r m)), []) := by
 have hv := zp0 r hL
 have hm := znk m
 unfold pushR
 by_cases e1 : ringV r = 0
 · rw [e1] at hv
   obtain ⟨c, h, z, rfl, h1, h2, h3, h4⟩ := zno (zjR e1)
   have hi := zsT c h z m.id h2 h3 h4
   simp only [e1, ne_eq, not_true_eq_false, if_false]
   rw [zkq]
   clear e1
   generalize fstI (ordN c h z) m.id = q at *
   by_cases e2 : msgV m = 0
   · rw [e2] at hm
     simp only [e2, ne_eq, not_true_eq_false, if_false]
     simp only [eRing, eMessage] at hv hm hi ⊢
     by_cases e3 : (z : Int) = c.length
     · rw [if_pos e3]
       obtain rfl : z = c.length := by omega
       clear e3
       rw [zjI z1k (by simp)]; simp -implicitDefEqProofs (disch := omega) only [z1e, getDT, go_sem, *]
     · simp only [e3, if_false]
       by_cases e4 : 0 ≤ q
       · simp only [e4, if_true]
         rw [zjI z1k (by simp)]; simp -implicitDefEqProofs (disch := omega) only [z1e, eMessage, getDT, go_sem, *]
       · simp only [e4, if_false]
         rw [zjI z1k (by simp)]; simp -implicitDefEqProofs (disch := omega) only [z1e, eMessage, getDT, go_sem, *]
   · simp only [e2, ne_eq, not_false_eq_true, if_true]
     generalize msgV m = v at *
     simp only [eRing, eMessage] at hv hm ⊢
     rw [zjI z1k (by simp)]; simp -implicitDefEqProofs (disch := omega) only [z1e, getDT, go_sem, *]
 · simp only [e1, ne_eq, not_false_eq_true, if_true]
   generalize ringV r = v at *
   simp only [eRing, eMessage] at hv ⊢
   rw [zjI z1k (by simp)]; simp -implicitDefEqProofs (disch := omega) only [z1e, getDT, go_sem, *]
theorem own_ok (c : List Message) (h z : Int) (h0 : 1 ≤ c.length) (h1 : c.length ≤ 12) : callL G z2B [.d (.agg [.sl (c.map eMessage), .int .i64 h, .int .i64 z])] [] = some (.agg [.acc 0 (c.map eMessage), .d (.int .i64 h), .d (.int .i64 z)], [(0, .acc c.length)]) := by
 have hc := zpk (c.map eMessage) (zkh c) (by simp; omega)
 simp only [Int.natCast_add, Int.natCast_one, Int.natCast_zero, Int.natCast_mul, Int.cast_ofNat_Int, List.length_append, List.length_map, List.map_nil, List.length_nil, List.map_append, List.map_cons, List.length_cons, Nat.zero_add, srcO, mapSet] at hc
 rw [zjI zbV (by simp)]; simp -implicitDefEqProofs (disch := omega) only [zaK, getDT, go_sem, *]
def pbD (r : Ring) (m : Message) : Ring × Int := if pushR r m = 0 then (rg r.cells.length r.head.toNat (ordD r ++ [m]), 0) else (zRing, pushR r m)
theorem zp2 (r : Ring) (m : Message) (hL : r.cells.length ≤ 4294967296) : callL G z0g [.d (eRing r), .d (eMessage m)] [] = some (.d (.tup [eRing (pbD r m).1, .int .i64 (pbD r m).2]), []) := by
 have hr := zsU r m hL
 unfold pbD
 by_cases e1 : pushR r m = 0
 · rw [if_pos e1]
   rw [e1] at hr
   have e2 := znE e1
   clear e1
   obtain ⟨n, h, hrg, h1, h2, h3, h4, h5, h6⟩ := rg_of e2.1
   have e3 := e2.2.2.1
   clear e2 h5 h6
   have hc : r.cells.length = n := by rw [hrg]; exact wN_len _ _ _ _
   have hh : r.head.toNat = h := by rw [hrg]; rfl
   rw [hc, hh]
   rw [hc] at e3
   have hz : r.size = ((ordD r).length : Int) := by rw [zke]; have := congrArg Ring.size hrg; simp only [rg] at this; omega
   generalize ordD r = L at *
   subst hrg
   clear hh
   simp only [rg, eRing, List.length_append, List.length_singleton] at hr e3 hz ⊢
   have hl : L.length < n := by omega
   rw [zB1 hl]
   have hcl := zkp
   have ho := own_ok (wN n h L L.length) h L.length (by rw [wN_len]; omega) (by rw [wN_len]; omega)
   have hce := zkp (wN n h L L.length) h L.length L.length (by rw [wN_len]; omega) (by rw [wN_len]; omega) (by omega) (by omega)
   have hj : (h + L.length) % n < n := mod_lt' (by omega)
   rw [wN_len] at hce ho
   have hwl := wN_len n h L L.length
   clear hcl e3 hz hc
   generalize (h + L.length) % n = j at *
   rw [List.map_set]
   generalize wN n h L L.length = w at *
   rw [zjI zbQ (by simp)]; simp -implicitDefEqProofs (disch := omega) only [z6V, getDT, go_sem, *]; (try simp only [pA, pB, pC, pD, pE, pF, pG, pH, pI, pJ, pK, pL, pM, pN, pO, pP, if_true, if_false]); repeat' (first | done | rfl | ((first | refine iteC (fun hq => ?_) (fun hq => ?_) | refine iteP (fun hq => ?_) (fun hq => ?_)) <;> (try (first | (exfalso; omega) | contradiction)) <;> (try simp -implicitDefEqProofs (disch := omega) only [getDT, go_sem, *]) <;> (try simp only [pA, pB, pC, pD, pE, pF, pG, pH, pI, pJ, pK, pL, pM, pN, pO, pP, if_true, if_false]))); (all_goals try rfl); (all_goals try (repeat' (first | done | rfl | (exfalso; omega) | contradiction | (refine iteR (fun hq => ?_) (fun hq => ?_)))))
 · rw [if_neg e1]
   generalize pushR r m = v at *
   simp only [eRing, zRing, eMessage] at *
   rw [zjI zbQ (by simp)]; simp -implicitDefEqProofs (disch := omega) only [z6V, getDT, go_sem, *]
def tkS (n h : Nat) (L : List Message) (m : Message) (k i : Nat) : St := ⟨[(2, .ref 2 0 0), (4, .ref 4 0 0), (5, .ref 5 0 0), (6, .ref 6 0 0), (7, .d (.int .i64 i))], [(2, .row [.agg [.osl 9 0 n, .d (.int .i64 h), .d (.int .i64 L.length)]]), (4, .row [.agg [.xsl [], .d (.int .i64 0), .d (.int .i64 0)]]), (5, .row [.d (eMessage zMessage)]), (6, .row [.d (eMessage m)]), (9, .row (((wN n h (mvN L k i) L.length).map eMessage).map .d))]⟩
theorem zAI (n h k : Nat) (L : List Message) (m : Message) (h1 : 1 ≤ n) (h2 : n ≤ 12) (h3 : h < n) (h4 : L.length ≤ n) (hk : k < L.length) : ∀ i, k ≤ i ∧ i ≤ L.length - 1 → loopL G [] l_ring_take_0 (tkS n h L m k i) = some (.exit 0, ⟨[(2, .ref 2 0 0), (4, .ref 4 0 0), (5, .ref 5 0 0), (6, .ref 6 0 0)], [(2, .row [.agg [.osl 9 0 n, .d (.int .i64 h), .d (.int .i64 L.length)]]), (4, .row [.agg [.xsl [], .d (.int .i64 0), .d (.int .i64 0)]]), (5, .row [.d (eMessage zMessage)]), (6, .row [.d (eMessage m)]), (9, .row (((wN n h (mvN L k (L.length - 1)) L.length).map eMessage).map .d))]⟩) := by
 refine zjM (fun i => L.length - i) (fun i => k ≤ i ∧ i ≤ L.length - 1) (tkS n h L m k) _ fun i hi L' ih => ?_
 by_cases h0 : i < L.length - 1
 · have i1 := ih (i + 1) (by omega) (by omega)
   clear ih
   have hw := wN_len n h (mvN L k i) L.length
   have c1 := zkp (wN n h (mvN L k i) L.length) h L.length i (by omega) (by omega) (by omega) (by omega)
   have c2 := zkp (wN n h (mvN L k i) L.length) h L.length (i + 1) (by omega) (by omega) (by omega) (by omega)
   rw [hw] at c1 c2
   have j1 : (h + i) % n < n := mod_lt' h1
   have j2 : (h + (i + 1)) % n < n := mod_lt' h1
   have e1 := wN_at (n := n) (h := h) (l := mvN L k i) h1 h4 (j := i + 1) (by omega)
   rw [if_pos (by omega), mvN_at (by omega), if_neg (by omega)] at e1
   have e2 := wN_upd (n := n) (h := h) (i := i) (m := L.getD (i + 1) zMessage) h4 (zkk L k i) (by omega)
   rw [zyb hi.1 (by omega), ← e1] at e2
   rw [tkS, e2] at i1
   clear e1 e2
   generalize wN n h (mvN L k (L.length - 1)) L.length = wz at *
   simp only [tkS, l_ring_take_0]
   generalize wN n h (mvN L k i) L.length = w at *
   generalize (h + i) % n = a at *
   generalize (h + (i + 1)) % n = b at *
   rw [getDT (show b < w.length by omega), List.map_set] at i1
   simp only [eMessage] at *
   simp only [Int.natCast_add, Int.natCast_one, Int.natCast_zero, Int.natCast_mul, Int.cast_ofNat_Int, List.length_append, List.length_map, List.map_nil, List.length_nil, List.map_append, List.map_cons, List.length_cons, Nat.zero_add, srcO, mapSet] at i1 c1 c2
   simp -implicitDefEqProofs (disch := omega) only [eMessage, getDT, go_sem, *]
 · clear ih
   obtain rfl : i = L.length - 1 := by omega
   simp only [tkS, l_ring_take_0]
   generalize wN n h (mvN L k (L.length - 1)) L.length = w at *
   have e : ((L.length - 1 : Nat) : Int) = (L.length : Int) - 1 := by omega
   rw [e]
   simp -implicitDefEqProofs (disch := omega) only [getDT, go_sem, *]
theorem zp8 (n h k : Nat) (L : List Message) (h1 : 1 ≤ n) (h2 : n ≤ 12) (h3 : h < n) (h4 : L.length ≤ n) (hk : k < L.length) : callL G z2D [.d (eRing (rg n h L)), .d (.int .i64 k)] [] = some (.d (.tup [eRing (rg n h (L.eraseIdx k)), eMessage (L.getD k zMessage)]), []) := by
 have ho := own_ok (wN n h L L.length) h L.length (by rw [wN_len]; omega) (by rw [wN_len]; omega)
 have c1 := zkp (wN n h L L.length) h L.length k (by rw [wN_len]; omega) (by rw [wN_len]; omega) (by omega) (by omega)
 have c2 := zkp (wN n h (mvN L k (L.length - 1)) L.length) h ((L.length - 1 : Nat)) (L.length - 1) (by rw [wN_len]; omega) (by rw [wN_len]; omega) (by omega) (by omega)
 rw [wN_len] at ho c1 c2
 have e1 := wN_at (n := n) (h := h) (l := L) h1 h4 (j := k) (by omega)
 rw [if_pos hk] at e1
 have hl := zAI n h k L (L.getD k zMessage) h1 h2 h3 h4 hk k (by omega)
 have ep := wN_pop (n := n) (h := h) (z := L.length - 1) (M := mvN L k (L.length - 1)) (by omega) (by rw [zkk]; omega)
 rw [zya hk, show L.length - 1 + 1 = L.length by omega] at ep
 have el : (L.eraseIdx k).length = L.length - 1 := by rw [List.length_eraseIdx, if_pos hk]
 have er : eRing (rg n h (L.eraseIdx k)) = .agg [.sl ((((wN n h (mvN L k (L.length - 1)) L.length).map eMessage).set ((h + (L.length - 1)) % n) (eMessage zMessage))), .int .i64 h, .int .i64 ((L.length : Int) - 1)] := by
  have ez : ((L.length - 1 : Nat) : Int) = (L.length : Int) - 1 := by omega
  simp only [eRing, rg, el, ep, List.map_set, ez]
 rw [er]
 clear er ep el
 have j1 : (h + k) % n < n := mod_lt' h1
 have j2 : (h + (L.length - 1)) % n < n := mod_lt' h1
 have w1 := wN_len n h L L.length
 have w2 := wN_len n h (mvN L k (L.length - 1)) L.length
 rw [tkS, zyc, ← e1] at hl
 rw [← e1]
 clear e1
 have ez : ((L.length - 1 : Nat) : Int) = (L.length : Int) - 1 := by omega
 rw [ez] at c2
 simp only [eRing, rg]
 generalize wN n h (mvN L k (L.length - 1)) L.length = w' at *
 generalize wN n h L L.length = w at *
 generalize (h + k) % n = a at *
 generalize (h + (L.length - 1)) % n = b at *
 rw [getDT (show a < w.length by omega)] at hl ⊢
 simp only [eMessage, zMessage] at *
 rw [zjI zbW (by simp)]; simp -implicitDefEqProofs (disch := omega) only [zaL, eMessage, getDT, go_sem, *]; (try simp only [pA, pB, pC, pD, pE, pF, pG, pH, pI, pJ, pK, pL, pM, pN, pO, pP, if_true, if_false]); repeat' (first | done | rfl | ((first | refine iteC (fun hq => ?_) (fun hq => ?_) | refine iteP (fun hq => ?_) (fun hq => ?_)) <;> (try (first | (exfalso; omega) | contradiction)) <;> (try simp -implicitDefEqProofs (disch := omega) only [eMessage, getDT, go_sem, *]) <;> (try simp only [pA, pB, pC, pD, pE, pF, pG, pH, pI, pJ, pK, pL, pM, pN, pO, pP, if_true, if_false]))); (all_goals try rfl); (all_goals try (repeat' (first | done | rfl | (exfalso; omega) | contradiction | (refine iteR (fun hq => ?_) (fun hq => ?_)))))
def rmE (r : Ring) (id : Int) : Int := if ringV r ≠ 0 then ringV r else if fstI (ordD r) id < 0 then 4 else 0
def rmD (r : Ring) (id : Int) : Ring × Message × Int := if rmE r id = 0 then (rg r.cells.length r.head.toNat ((ordD r).eraseIdx (fstI (ordD r) id).toNat), (ordD r).getD (fstI (ordD r) id).toNat zMessage, 0) else (zRing, zMessage, rmE r id)
theorem zps {l : List Message} {id : Int} (h : 0 ≤ fstI l id) : (fstI l id).toNat < l.length := by
 unfold fstI idxI at h ⊢
 cases hc : l.findIdx? (fun m : Message => decide (m.id = id)) with
 | none => rw [hc] at h; simp at h
 | some i =>
  obtain ⟨hi, _⟩ := List.findIdx?_eq_some_iff_getElem.1 hc
  simpa using hi
theorem zzX (r : Ring) (id : Int) (hL : r.cells.length ≤ 4294967296) : callL G z0i [.d (eRing r), .d (.int .i64 id)] [] = some (.d (.tup [eRing (rmD r id).1, eMessage (rmD r id).2.1, .int .i64 (rmD r id).2.2]), []) := by
 have hv := zp0 r hL
 by_cases e1 : ringV r = 0
 · obtain ⟨n, h, hrg, h1, h2, h3, h4, h5, h6⟩ := rg_of e1
   have hc : r.cells.length = n := by rw [hrg]; exact wN_len _ _ _ _
   have hh : r.head.toNat = h := by rw [hrg]; rfl
   have hf := zsT (wN n h (ordD r) (ordD r).length) h (ordD r).length id (by rw [wN_len]; exact h2) (by rw [wN_len]; exact h3) (by rw [wN_len]; exact h4)
   rw [zl4 h1 h4] at hf
   rw [e1] at hv
   by_cases e2 : fstI (ordD r) id < 0
   · have he : rmE r id = 4 := by unfold rmE; rw [if_neg (fun hc => hc e1), if_pos e2]
     have hd : rmD r id = (zRing, zMessage, 4) := by unfold rmD; rw [he, if_neg (by decide)]
     rw [hd]
     clear he hd h5 h6 e1 hc hh
     generalize fstI (ordD r) id = q at *
     generalize ordD r = L at *
     subst hrg
     simp only [eRing, rg, zRing, zMessage, eMessage, List.map_nil] at *
     rw [zjI z8z (by simp)]; simp -implicitDefEqProofs (disch := omega) only [z3X, getDT, go_sem, *]
   · have he : rmE r id = 0 := by unfold rmE; rw [if_neg (fun hc => hc e1), if_neg e2]
     have hd : rmD r id = (rg n h ((ordD r).eraseIdx (fstI (ordD r) id).toNat), (ordD r).getD (fstI (ordD r) id).toNat zMessage, 0) := by unfold rmD; rw [if_pos he, hc, hh]
     have hk := zps (show 0 ≤ fstI (ordD r) id by omega)
     have ht := zp8 n h (fstI (ordD r) id).toNat (ordD r) h1 h2 h3 h4 hk
     rw [hd]
     have eq : ((fstI (ordD r) id).toNat : Int) = fstI (ordD r) id := by omega
     rw [eq] at ht
     clear he hd h5 h6 e1 hc hh hk eq
     generalize rg n h ((ordD r).eraseIdx (fstI (ordD r) id).toNat) = r2 at *
     generalize (ordD r).getD (fstI (ordD r) id).toNat zMessage = m at *
     generalize fstI (ordD r) id = q at *
     generalize ordD r = L at *
     subst hrg
     simp only [eRing, rg, eMessage] at *
     rw [zjI z8z (by simp)]; simp -implicitDefEqProofs (disch := omega) only [z3X, getDT, go_sem, *]
 · have he : rmE r id = ringV r := by unfold rmE; rw [if_pos e1]
   have hd : rmD r id = (zRing, zMessage, ringV r) := by unfold rmD; rw [he, if_neg e1]
   rw [hd]
   clear he hd
   generalize ringV r = v at *
   simp only [eRing, zRing, zMessage, eMessage, List.map_nil] at *
   rw [zjI z8z (by simp)]; simp -implicitDefEqProofs (disch := omega) only [z3X, getDT, go_sem, *]
def pfD (r : Ring) (m : Message) : Ring × Int := if pushR r m = 0 then (rg r.cells.length ((r.head.toNat + r.cells.length - 1) % r.cells.length) (m :: ordD r), 0) else (zRing, pushR r m)
theorem zzW (r : Ring) (m : Message) (hL : r.cells.length ≤ 4294967296) : callL G z0h [.d (eRing r), .d (eMessage m)] [] = some (.d (.tup [eRing (pfD r m).1, .int .i64 (pfD r m).2]), []) := by
 have hr := zsU r m hL
 unfold pfD
 by_cases e1 : pushR r m = 0
 · rw [if_pos e1]
   rw [e1] at hr
   have e2 := znE e1
   clear e1
   obtain ⟨n, h, hrg, h1, h2, h3, h4, h5, h6⟩ := rg_of e2.1
   have e3 := e2.2.2.1
   clear e2 h5 h6
   have hc : r.cells.length = n := by rw [hrg]; exact wN_len _ _ _ _
   have hh : r.head.toNat = h := by rw [hrg]; rfl
   rw [hc, hh]
   rw [hc] at e3
   have hz : r.size = ((ordD r).length : Int) := by rw [zke]; have := congrArg Ring.size hrg; simp only [rg] at this; omega
   generalize ordD r = L at *
   subst hrg
   clear hh
   simp only [rg, eRing, List.length_cons] at hr e3 hz ⊢
   have hl : L.length < n := by omega
   rw [zB0 hl h3]
   have ho := own_ok (wN n h L L.length) h L.length (by rw [wN_len]; omega) (by rw [wN_len]; omega)
   have hce := zkp (wN n h L L.length) h L.length (n - 1) (by rw [wN_len]; omega) (by rw [wN_len]; omega) (by omega) (by omega)
   have hj : (h + n - 1) % n < n := mod_lt' (by omega)
   rw [wN_len] at hce ho
   have hwl := wN_len n h L L.length
   rw [show h + (n - 1) = h + n - 1 by omega, show ((n - 1 : Nat) : Int) = (n : Int) - 1 by omega] at hce
   clear e3 hz hc
   generalize (h + n - 1) % n = j at *
   rw [List.map_set]
   generalize wN n h L L.length = w at *
   rw [zjI zbR (by simp)]; simp -implicitDefEqProofs (disch := omega) only [z6W, getDT, go_sem, *]; (try simp only [pA, pB, pC, pD, pE, pF, pG, pH, pI, pJ, pK, pL, pM, pN, pO, pP, if_true, if_false]); repeat' (first | done | rfl | ((first | refine iteC (fun hq => ?_) (fun hq => ?_) | refine iteP (fun hq => ?_) (fun hq => ?_)) <;> (try (first | (exfalso; omega) | contradiction)) <;> (try simp -implicitDefEqProofs (disch := omega) only [getDT, go_sem, *]) <;> (try simp only [pA, pB, pC, pD, pE, pF, pG, pH, pI, pJ, pK, pL, pM, pN, pO, pP, if_true, if_false]))); (all_goals try rfl); (all_goals try (repeat' (first | done | rfl | (exfalso; omega) | contradiction | (refine iteR (fun hq => ?_) (fun hq => ?_)))))
 · rw [if_neg e1]
   generalize pushR r m = v at *
   simp only [eRing, zRing, eMessage] at *
   rw [zjI zbR (by simp)]; simp -implicitDefEqProofs (disch := omega) only [z6W, getDT, go_sem, *]
structure RO where
 h : Nat
 L : List Message
 id : Int
 a : Nat
 i : Nat
def roS (l : List Int) (lo hi : Int) (n : Nat) (s : RO) : St := ⟨[(0, .ref 1000000 0 0), (3, .d (.int .i64 s.id)), (4, .d (.int .i64 lo)), (5, .d (.int .i64 hi)), (12, .ref 12 0 0), (13, .ref 13 0 0), (15, .d (.int .i64 s.i)), (1000000, .ref 1000000 1 0)], [(12, .row [.agg [.xsl [], .d (.int .i64 0), .d (.int .i64 0)]]), (13, .row [.d (eRing (rg n s.h s.L))]), (1000000, srcO l s.a)]⟩
def mOK (lo hi id0 : Int) (L : List Message) (id : Int) : Prop := (∀ m ∈ L, msgV m = 0 ∧ lo ≤ m.route ∧ m.route ≤ hi ∧ id0 ≤ m.id ∧ m.id < id ∧ m.count ≤ 3) ∧ (L.map (·.id)).Nodup
def roInv (lo hi id0 : Int) (n : Nat) (s : RO) : Prop := s.h < n ∧ s.L.length + s.i ≤ n ∧ s.L.length + s.i ≤ 6 ∧ id0 + s.L.length = s.id ∧ mOK lo hi id0 s.L s.id
theorem zxM {lo hi id0 id : Int} {L : List Message} {m : Message} (h : mOK lo hi id0 L id) (hg : msgGood m id lo hi) (hv : msgV m = 0) (h0 : id0 ≤ id) : mOK lo hi id0 (L ++ [m]) (id + 1) ∧ mOK lo hi id0 (m :: L) (id + 1) := by
 obtain ⟨h1, h2⟩ := h
 have hne : ∀ x ∈ L, x.id ≠ m.id := fun x hx => by have := h1 x hx; have := hg.1; omega
 have hm : msgV m = 0 ∧ lo ≤ m.route ∧ m.route ≤ hi ∧ id0 ≤ m.id ∧ m.id < id + 1 ∧ m.count ≤ 3 := ⟨hv, hg.2.1, hg.2.2.1, by have := hg.1; omega, by have := hg.1; omega, hg.2.2.2.2.2.2.1⟩
 have hall : ∀ x ∈ L, msgV x = 0 ∧ lo ≤ x.route ∧ x.route ≤ hi ∧ id0 ≤ x.id ∧ x.id < id + 1 ∧ x.count ≤ 3 := fun x hx => by
  obtain ⟨k1, k2, k3, k4, k5, k6⟩ := h1 x hx; exact ⟨k1, k2, k3, k4, by omega, k6⟩
 refine ⟨⟨fun x hx => ?_, ?_⟩, ⟨fun x hx => ?_, ?_⟩⟩
 · rcases List.mem_append.1 hx with hx | hx
   · exact hall x hx
   · rw [List.mem_singleton] at hx; subst hx; exact hm
 · rw [List.map_append, List.nodup_append]
   refine ⟨h2, by simp, fun a ha b hb => ?_⟩
   obtain ⟨x, hx, rfl⟩ := List.mem_map.1 ha
   simp at hb; subst hb
   exact hne x hx
 · rcases List.mem_cons.1 hx with rfl | hx
   · exact hm
   · exact hall x hx
 · rw [List.map_cons, List.nodup_cons]
   refine ⟨fun hc => ?_, h2⟩
   obtain ⟨x, hx, e⟩ := List.mem_map.1 hc
   exact hne x hx e
def roPhi (l : List Int) (lo hi id0 : Int) (n : Nat) (r : Option (AExit × St)) : Prop := ∃ h L a' id, h < n ∧ L.length ≤ n ∧ L.length ≤ 6 ∧ id ≤ id0 + 6 ∧ mOK lo hi id0 L id ∧ r = some (.exit 0, ⟨[(12, .ref 12 0 0), (13, .ref 13 0 0), (1000000, .ref 1000000 1 0)], [(12, .row [.agg [.xsl [], .d (.int .i64 0), .d (.int .i64 0)]]), (13, .row [.d (eRing (rg n h L))]), (1000000, srcO l a')]⟩)
theorem zzN (l : List Int) (lo hi id0 : Int) (n : Nat) (hL : l.length ≤ 4000) (h2 : 0 ≤ lo) (h3 : lo ≤ hi) (h4 : hi < 65536) (hid : 1 ≤ id0) (hid2 : id0 ≤ 900) (hn : 1 ≤ n) (hn2 : n ≤ 12) : ∀ s : RO, roInv lo hi id0 n s → roPhi l lo hi id0 n (loopL G [] l_base_Src_RingOf_0 (roS l lo hi n s)) := by
 refine znh (fun s : RO => s.i) (roInv lo hi id0 n) (roS l lo hi n) (fun _ => Post (roPhi l lo hi id0 n)) fun ⟨h, L, id, a, i⟩ ⟨i1, i2, i3, i4, i5⟩ LL ih => ?_
 simp only at i1 i2 i3 i4 i5
 by_cases h0 : 0 < i
 · obtain ⟨c, a1, q1, c1, c2⟩ := ((⟨_, _, n_ok l a 2 hL (by omega) (by omega), nD_in l a (by omega)⟩ : ∃ y a', callL G zm [.ref 1000000 0 0, .d (.int .i64 2)] [(1000000, srcO l a)] = some (.d (.int .i64 y), [(1000000, srcO l a')]) ∧ 0 ≤ y ∧ y < 2))
   obtain ⟨m, a2, hg, hmc⟩ := zpK l a1 id lo hi hL h2 h3 h4
   have hv := zrm hg (by omega) (by omega) h2 h4
   have hall : ∀ m ∈ L, msgV m = 0 := fun m hm => (i5.1 m hm).1
   have hne : ∀ x ∈ L, x.id ≠ m.id := fun x hx => by have := i5.1 x hx; have := hg.1; omega
   have p1 := pb_rg hn hn2 i1 (by omega) hall i5.2 hv hne
   have p2 := pf_rg hn hn2 i1 (by omega) hall i5.2 hv hne
   have hp := zxM i5 hg hv (by omega)
   have e : ((i - 1 : Nat) : Int) = (i : Int) - 1 := by omega
   have j1 := ih ⟨h, L ++ [m], id + 1, a2, i - 1⟩ ⟨i1, by simp only [List.length_append, List.length_singleton]; omega, by simp only [List.length_append, List.length_singleton]; omega, by simp only [List.length_append, List.length_singleton]; omega, hp.1⟩ (by simp only; omega)
   have j2 := ih ⟨(h + n - 1) % n, m :: L, id + 1, a2, i - 1⟩ ⟨Nat.mod_lt _ (by omega), by simp only [List.length_cons]; omega, by simp only [List.length_cons]; omega, by simp only [List.length_cons]; omega, hp.2⟩ (by simp only; omega)
   clear ih hp hv hall hne hg i5
   simp only [roS, e] at j1 j2
   simp only [roS, l_base_Src_RingOf_0]
   generalize rg n h (L ++ [m]) = r1 at *
   generalize rg n ((h + n - 1) % n) (m :: L) = r2 at *
   generalize rg n h L = r0 at *
   by_cases hc : c = 0
   · subst hc
     clear j2 p2
     simp only [eRing, eMessage] at p1 j1 hmc ⊢
     simp -implicitDefEqProofs (disch := omega) only [getDT, go_sem, *]
   · obtain rfl : c = 1 := by omega
     clear j1 p1
     simp only [eRing, eMessage] at p2 j2 hmc ⊢
     simp -implicitDefEqProofs (disch := omega) only [getDT, go_sem, *]
 · clear ih
   obtain rfl : i = 0 := by omega
   simp only [roS, l_base_Src_RingOf_0]
   generalize hr : rg n h L = r0
   simp only [eRing]
   simp -implicitDefEqProofs (disch := omega) only [getDT, go_sem, *]
   subst hr
   exact ⟨h, L, a, id, i1, by omega, by omega, by omega, i5, rfl⟩
theorem zzK (l : List Int) (a : Nat) (n : Nat) (id lo hi : Int) (hL : l.length ≤ 4000) (h2 : 0 ≤ lo) (h3 : lo ≤ hi) (h4 : hi < 65536) (hid : 1 ≤ id) (hid2 : id ≤ 900) (hn : 1 ≤ n) (hn2 : n ≤ 12) : ∃ h L a' idn, h < n ∧ L.length ≤ n ∧ L.length ≤ 6 ∧ idn ≤ id + 6 ∧ mOK lo hi id L idn ∧
    callL G z1s [.ref 1000000 0 0, .d (.int .i64 n), .d (.int .i64 6), .d (.int .i64 id), .d (.int .i64 lo), .d (.int .i64 hi)] [(1000000, srcO l a)] = some (.d (eRing (rg n h L)), [(1000000, srcO l a')]) := by
 have hw := zsf n hn hn2
 have q1 := n_ok l a n hL (by omega) (by omega)
 have b1 := nD_in l a (n := n) (by omega)
 obtain ⟨h0, hh⟩ : ∃ h0 : Nat, nD l a n = h0 := ⟨(nD l a n).toNat, by omega⟩
 rw [hh] at q1 b1
 clear hh
 generalize (rawD l a).2 = a1 at *
 obtain ⟨k, hk, hk2⟩ : ∃ k : Nat, (n < 6 ∧ k = n + 1 ∨ ¬ n < 6 ∧ k = 7) ∧ 1 ≤ k := by
  by_cases hc : n < 6
  · exact ⟨n + 1, .inl ⟨hc, rfl⟩, by omega⟩
  · exact ⟨7, .inr ⟨hc, rfl⟩, by omega⟩
 have q2 := n_ok l a1 k hL (by omega) (by omega)
 have b2 := nD_in l a1 (n := k) (by omega)
 obtain ⟨i, hi0⟩ : ∃ i : Nat, nD l a1 k = i := ⟨(nD l a1 k).toNat, by omega⟩
 rw [hi0] at q2 b2
 clear hi0
 generalize (rawD l a1).2 = a2 at *
 obtain ⟨h, L, a', idn, g1, g2, g3, g4, g5, hl⟩ := zzN l lo hi id n hL h2 h3 h4 hid hid2 hn hn2 ⟨h0, [], id, a2, i⟩ ⟨by simp only; omega, by simp only [List.length_nil]; omega, by simp only [List.length_nil]; omega, by simp, by simp [mOK]⟩
 refine ⟨h, L, a', idn, g1, g2, g3, g4, g5, ?_⟩
 clear g5
 have ez : (List.replicate n zMessage).length = n := List.length_replicate
 have e0 : rg n h0 [] = ⟨List.replicate n zMessage, h0, 0⟩ := rfl
 simp only [roS, e0] at hl
 generalize hz : rg n h L = z at *
 clear hz e0
 generalize List.replicate n zMessage = c at *
 simp only [eRing] at hw hl ⊢
 rcases hk with ⟨hc, rfl⟩ | ⟨hc, rfl⟩
 · have hc2 : (n : Int) < 6 := by omega
   simp only [Int.natCast_add, Int.natCast_one, Int.natCast_zero, Int.natCast_mul, Int.cast_ofNat_Int, List.length_append, List.length_map, List.map_nil, List.length_nil, List.map_append, List.map_cons, List.length_cons, Nat.zero_add, srcO, mapSet] at q2
   rw [zjI z8i (by simp)]; simp -implicitDefEqProofs (disch := omega) only [z6I, getDT, go_sem, *]
 · have hc2 : ¬ (n : Int) < 6 := by omega
   simp only [Int.natCast_add, Int.natCast_one, Int.natCast_zero, Int.natCast_mul, Int.cast_ofNat_Int, List.length_append, List.length_map, List.map_nil, List.length_nil, List.map_append, List.map_cons, List.length_cons, Nat.zero_add, srcO, mapSet] at q2
   rw [zjI z8i (by simp)]; simp -implicitDefEqProofs (disch := omega) only [z6I, getDT, go_sem, *]
def posL (l : List Lease) (id : Int) : Nat := (l.filter fun x => decide (x.msg.id < id)).length
theorem zoQ (l : List Lease) (id : Int) : posL l id ≤ l.length := List.length_filter_le _ _
theorem pos_lt {l : List Lease} (h : l.Pairwise fun x y => x.msg.id < y.msg.id) {id : Int} : ∀ {k : Nat} (hk : k < l.length), k < posL l id ↔ l[k].msg.id < id := by
 induction l with
 | nil => intro k hk; exact absurd hk (by simp)
 | cons x l ih =>
  intro k hk
  obtain ⟨h1, h2⟩ := List.pairwise_cons.1 h
  by_cases hx : x.msg.id < id
  · have e : posL (x :: l) id = posL l id + 1 := by simp [posL, hx]
    rw [e]
    cases k with
    | zero => simp [hx]
    | succ k => have := ih h2 (k := k) (by simpa using hk); simp only [List.getElem_cons_succ]; rw [← this]; omega
  · have e : posL (x :: l) id = 0 := by
     unfold posL
     rw [List.length_eq_zero_iff, List.filter_eq_nil_iff]
     intro y hy
     simp only [decide_eq_true_eq]
     rcases List.mem_cons.1 hy with rfl | hy
     · exact hx
     · have := h1 y hy; omega
    rw [e]
    have hle : id ≤ ((x :: l)[k]).msg.id := by
     cases k with
     | zero => simp only [List.getElem_cons_zero]; omega
     | succ k => simp only [List.getElem_cons_succ]; have := h1 _ (List.getElem_mem (l := l) (n := k) (by simpa using hk)); omega
    omega
theorem zqZ (a b : Int) : (cmpI a b < 0) ↔ a < b := by unfold cmpI; split <;> (try split) <;> omega
theorem zqY (a b : Int) : (cmpI a b = 0) ↔ a = b := by unfold cmpI; split <;> (try split) <;> omega
theorem znc {l : List Lease} (h : l.Pairwise fun x y => x.msg.id < y.msg.id) (id : Int) : (0 ≤ findL l id) ↔ ∃ hp : posL l id < l.length, l[posL l id].msg.id = id := by
 constructor
 · intro h0
   obtain ⟨k, hk, e1, e2⟩ := znW h0
   have a1 := pos_lt h (id := id) hk
   have hle : posL l id ≤ k := by omega
   have hpl : posL l id < l.length := by omega
   have a2 := pos_lt h (id := id) hpl
   refine ⟨hpl, ?_⟩
   have : ¬ posL l id < k := fun hlt => by
    have := List.pairwise_iff_getElem.1 h (posL l id) k hpl hk hlt
    omega
   have : posL l id = k := by omega
   simp only [this, e2]
 · rintro ⟨hp, e⟩
   have := zpq h hp
   rw [e] at this; omega
theorem znV {l : List Lease} (h : l.Pairwise fun x y => x.msg.id < y.msg.id) {id : Int} (h0 : 0 ≤ findL l id) : findL l id = posL l id := by
 obtain ⟨hp, e⟩ := (znc h id).1 h0
 have := zpq h hp
 rwa [e] at this
theorem zk6 {t : Table} (h : tabV t = 0) : t.l.length ≤ 12 ∧ leasesE t.l = 0 ∧ validateD t.heap = 0 ∧ matchP t = true := by
 unfold tabV at h
 split at h
 · cases h
 split at h
 · omega
 split at h
 · omega
 split at h
 · rename_i h1 h2 h3 h4; exact ⟨by omega, by simpa using h2, by simpa using h3, h4⟩
 · cases h
theorem zsN (h : List Due) (id : Int) (hL : h.length ≤ 4294967296) : (removeD h id).1.length ≤ 4294967296 := by
 unfold removeD
 split
 · simp
 · rename_i h0
   have o := (zla h).1 (by simpa using h0)
   split
   · simp
   · rename_i h1
     have hlt := zr8 h id
     have := (drop_ok' o (findD h id).toNat (by omega)).2.length_eq
     simp only [List.length_cons] at this
     have hh := o.len
     show (dropL h (findD h id).toNat).length ≤ _
     omega
def insLs (l : List Lease) (m : Message) (d : Int) : List Lease := l.take (posL l m.id) ++ [⟨m, d⟩] ++ l.drop (posL l m.id)
def grantE (t : Table) (m : Message) (d : Int) : Int :=
 if tabV t ≠ 0 then tabV t else if msgV m ≠ 0 then msgV m else if m.gen = 0 then 7 else if ¬ (0 ≤ d ∧ d ≤ 1073741824) then 1 else if t.l.length = 12 then 3 else if 0 ≤ findL t.l m.id then 10 else (pushD t.heap (d, m.id)).2
def grantD (t : Table) (m : Message) (d : Int) : Table × Int := if grantE t m d = 0 then (⟨insLs t.l m d, (pushD t.heap (d, m.id)).1⟩, 0) else (zTable, grantE t m d)
theorem zwM (l : List Lease) (m : Message) (d : Int) : (insLs l m d).map eLease = (l.map eLease).take (posL l m.id) ++ [eLease ⟨m, d⟩] ++ (l.map eLease).drop (posL l m.id) := by
 simp only [insLs, List.map_append, List.map_take, List.map_drop, List.map_cons, List.map_nil]
def findT (t : Table) (id : Int) : Lease × Bool := if tabV t = 0 ∧ 0 ≤ findL t.l id then (t.l.getD (findL t.l id).toNat zLease, true) else (zLease, false)
def dropI (l : List Lease) (i : Nat) : List Lease := l.take i ++ l.drop (i + 1)
def relE (t : Table) (id : Int) : Int := if tabV t ≠ 0 then tabV t else if ¬ 0 ≤ findL t.l id then 4 else (removeD t.heap id).2
def relD (t : Table) (id : Int) : Table × Message × Int := if relE t id = 0 then (⟨dropI t.l (findL t.l id).toNat, (removeD t.heap id).1⟩, (t.l.getD (findL t.l id).toNat zLease).msg, 0) else (zTable, zMessage, relE t id)
def extE (t : Table) (id d : Int) : Int := if tabV t ≠ 0 then tabV t else if ¬ 0 ≤ findL t.l id then 4 else if ¬ (0 ≤ d ∧ d ≤ 1073741824) then 1 else if (removeD t.heap id).2 ≠ 0 then (removeD t.heap id).2 else (pushD (removeD t.heap id).1 (d, id)).2
def setD (l : List Lease) (i : Nat) (d : Int) : List Lease := l.set i { l.getD i zLease with deadline := d }
def extD (t : Table) (id d : Int) : Table × Int := if extE t id d = 0 then (⟨setD t.l (findL t.l id).toNat d, (pushD (removeD t.heap id).1 (d, id)).1⟩, 0) else (zTable, extE t id d)
end Go.Proofs.YtcjncbkhbllchaaGreat
