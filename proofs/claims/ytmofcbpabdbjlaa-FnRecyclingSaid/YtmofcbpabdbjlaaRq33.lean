/-
  What is proved: what RepeatVector (of the program and of the reference) returns.
  Condition: vectors of size at most 1048576.
-/
import Derived.Deep.Cut
import Derived.Test.YtmofcbpabdbjlaaRq5
import Derived.Test.YtmofcbpabdbjlaaRq8
import Derived.Test.YtmofcbpabdbjlaaRq16
import Derived.Test.YtmofcbpabdbjlaaRq17
import Derived.Test.YtmofcbpabdbjlaaRq18
import Derived.Test.YtmofcbpabdbjlaaRq32
namespace Go.Proofs.Ytmofcbpabdbjlaa

set_option maxRecDepth 8000

open Go.RowKit Go.ChangeShapes Go.WideShapes Go.Deep

set_option linter.unusedVariables false

set_option linter.unusedSimpArgs false

/-- a list, so many times -/
def rpN {α : Type} (n : Nat) (l : List α) : List α := (List.replicate n l).flatten

theorem rpN_zero {α : Type} (l : List α) : rpN 0 l = [] := rfl

theorem rpN_nil {α : Type} (n : Nat) : rpN n ([] : List α) = [] := by
  unfold rpN
  rw [List.flatten_replicate_nil]

theorem rpN_succ {α : Type} (n : Nat) (l : List α) : rpN (n + 1) l = rpN n l ++ l := by
  unfold rpN
  rw [List.replicate_succ', List.flatten_append]
  simp

theorem zbh {α : Type} (n : Nat) (l : List α) : (rpN n l).length = n * l.length := by
  induction n with
  | zero => simp [rpN_zero]
  | succ n ih => rw [rpN_succ, List.length_append, ih, Nat.succ_mul]

theorem rpN_get {α : Type} (n : Nat) (l : List α) (i : Nat) (h : i < n * l.length) (h' : i % l.length < l.length) : (rpN n l)[i]'(by rw [zbh]; exact h) = l[i % l.length] := by
  induction n with
  | zero => simp at h
  | succ n ih =>
    have e := rpN_succ n l
    have h1 : (rpN n l ++ l)[i]? = some l[i % l.length] := by
      by_cases hi : i < n * l.length
      · rw [List.getElem?_append_left (by rw [zbh]; exact hi)]
        rw [List.getElem?_eq_getElem (by rw [zbh]; exact hi), ih hi]
      · rw [List.getElem?_append_right (by rw [zbh]; omega), zbh]
        have h2 : i - n * l.length = i % l.length := by
          rw [Nat.succ_mul] at h
          have : i = (i - n * l.length) + l.length * n := by rw [Nat.mul_comm l.length n]; omega
          rw [this, Nat.add_mul_mod_self_left, Nat.mod_eq_of_lt (by omega)]
          rw [Nat.mul_comm l.length n]
          omega
        rw [h2]
        exact List.getElem?_eq_getElem h'
    rw [← e] at h1
    exact (List.getElem?_eq_some_iff.1 h1).2

theorem rpN_mem {α : Type} {n : Nat} {l : List α} {x : α} (h : x ∈ rpN n l) : x ∈ l := by
  unfold rpN at h
  rw [List.mem_flatten] at h
  obtain ⟨l', h1, h2⟩ := h
  rw [List.eq_of_mem_replicate h1] at h2
  exact h2

theorem rp_itz (n : Nat) (l : List It) : itz (rpN n l) = n * itz l := by
  have app : ∀ a b : List It, itz (a ++ b) = itz a + itz b := fun a b => by
    induction a with
    | nil => simp [itz]
    | cons x a ih => simp [itz, ih, Nat.add_assoc]
  induction n with
  | zero => simp [rpN_zero, itz]
  | succ n ih => rw [rpN_succ, app, ih, Nat.succ_mul]

theorem rp_stz (n : Nat) (l : List ByteArray) : stz (rpN n l) = n * stz l := by
  have app : ∀ a b : List ByteArray, stz (a ++ b) = stz a + stz b := fun a b => by
    induction a with
    | nil => simp [stz]
    | cons x a ih => simp [stz, ih, Nat.add_assoc]
  induction n with
  | zero => simp [rpN_zero, stz]
  | succ n ih => rw [rpN_succ, app, ih, Nat.succ_mul]

theorem rp_szL (n : Nat) (l : List VT) : szL (rpN n l) = n * szL l := by
  have app : ∀ a b : List VT, szL (a ++ b) = szL a + szL b := fun a b => by
    induction a with
    | nil => simp [szL]
    | cons x a ih => simp [szL, ih, Nat.add_assoc]
  induction n with
  | zero => simp [rpN_zero, szL]
  | succ n ih => rw [rpN_succ, app, ih, Nat.succ_mul]

def lvC (cs ls : List ByteArray) : List ByteArray := if ls.length = 0 then [] else cs

/-- the vector, so many times -/
def rpV (t : VT) (n : Nat) : VT := .mk t.kind (rpN n t.items) (rpN n t.parts) (rpN n t.names) (lvC t.cls t.levels) t.levels 0 0

def elemS : ByteArray := ⟨#[110, 111, 116, 32, 97, 32, 118, 101, 99, 116, 111, 114, 32, 111, 102, 32, 101, 108, 101, 109, 101, 110, 116, 115]⟩

def rpG (n : Int) (L : Nat) : Bool := decide (0 ≤ n) && decide (n ≤ 40) && decide (n * L ≤ 40)

def rpT (n : Int) (t : VT) : VT := if isV t then (if t.kind = 5 then vecI 0 [] else if rpG n (lenV t) then (if isV (rpV t n.toNat) then rpV t n.toNat else vecI 0 []) else vecI 0 []) else vecI 0 []

def rpS (n : Int) (t : VT) : ByteArray := if isV t then (if t.kind = 5 then elemS else if rpG n (lenV t) then (if isV (rpV t n.toNat) then ⟨#[]⟩ else bigS) else bigS) else badS

theorem rpV_sz {t : VT} {n : Nat} (hn : n ≤ 40) (h : szV t ≤ 1048576) : szV (rpV t n) ≤ 268435456 := by
  obtain ⟨k, is, ps, ns, cs, ls, c, e⟩ := t
  have HT : szV (.mk k is ps ns cs ls c e) = szI is + szL ps + szS ns + szS cs + szS ls := rfl
  have HR : szV (rpV (.mk k is ps ns cs ls c e) n) = szI (rpN n is) + szL (rpN n ps) + szS (rpN n ns) + szS (lvC cs ls) + szS ls := rfl
  rw [HT] at h
  rw [HR]
  have h1 : szS (lvC cs ls) ≤ szS cs := by
    unfold lvC
    split
    · exact Nat.zero_le _
    · exact Nat.le_refl _
  have e1 : szI (rpN n is) = n * szI is := by
    unfold szI
    rw [zbh, rp_itz, Nat.mul_add]
  have e2 : szS (rpN n ns) = n * szS ns := by
    unfold szS
    rw [zbh, rp_stz, Nat.mul_add]
  have e3 := rp_szL n ps
  have m1 : n * szI is ≤ 40 * szI is := Nat.mul_le_mul_right _ hn
  have m2 : n * szS ns ≤ 40 * szS ns := Nat.mul_le_mul_right _ hn
  have m3 : n * szL ps ≤ 40 * szL ps := Nat.mul_le_mul_right _ hn
  omega

theorem rpT_sz (n : Int) (t : VT) : szV (rpT n t) ≤ 1048576 := by
  have z : szV (vecI 0 []) ≤ 1048576 := by simp [vecI, szV, szI, szL, szS, stz, itz]
  unfold rpT
  split
  · split
    · exact z
    · split
      · split
        · rename_i h
          exact Nat.le_trans (isV_small h) (by decide)
        · exact z
      · exact z
  · exact z

theorem isV_len {t : VT} (h : isV t = true) : lenV t ≤ 40 := by
  obtain ⟨k, is, ps, ns, cs, ls, c, e⟩ := t
  exact (isV_facts h).2.1

theorem VL.app {ps qs : List VT} {pvs qvs : List (List Value)} {Ls Ms : List (List Res)} (h : VL ps pvs Ls) (h' : VL qs qvs Ms) : VL (ps ++ qs) (pvs ++ qvs) (Ls ++ Ms) := by
  obtain ⟨h1, h2, h3⟩ := h
  obtain ⟨g1, g2, g3⟩ := h'
  refine ⟨by simp [h1, g1], by simp [h2, g2], fun i a b c => ?_⟩
  by_cases hi : i < ps.length
  · rw [List.getElem_append_left hi, List.getElem_append_left (by omega), List.getElem_append_left (by omega)]
    exact h3 i hi _ _
  · simp only [List.length_append] at a b c
    have e1 : (pvs ++ qvs)[i]'(by simpa using b) = qvs[i - ps.length]'(by omega) := by rw [List.getElem_append_right (by omega)]; simp only [h1]
    have e2 : (Ls ++ Ms)[i]'(by simpa using c) = Ms[i - ps.length]'(by omega) := by rw [List.getElem_append_right (by omega)]; simp only [h2]
    rw [List.getElem_append_right (by omega), e1, e2]
    exact g3 _ _ _ _

theorem VL.one8 {ps : List VT} {pvs : List (List Value)} {Ls : List (List Res)} (h : VL ps pvs Ls) : pvs.flatten.all (·.oneCell') = true := by
  rw [List.all_eq_true]
  intro x hx
  obtain ⟨l, hl, hx⟩ := List.mem_flatten.1 hx
  obtain ⟨i, hi, rfl⟩ := List.mem_iff_getElem.1 hl
  have := (h.at_ i (by rw [← h.len]; exact hi) hi (by rw [h.len', ← h.len]; exact hi)).one
  exact List.all_eq_true.1 this x hx

set_option maxRecDepth 20000 in
set_option maxHeartbeats 4000000 in
theorem impl_withLv (k : Int) (v0 v1 v2 v3 v6 v7 : Value) (Ac Al : Option Addr) (cc cl : Nat) (cs ls : List ByteArray) (w : World) (h4 : Sl w 1 Ac cs.length (stc cs)) (h5 : Sl w 1 Al ls.length (stc ls)) (z4 : cs.length ≤ 1048576) (z5 : ls.length ≤ 1048576) (hk1 : Value.oneCell' v0 = true) (hk2 : Value.oneCell' v1 = true) (hk3 : Value.oneCell' v2 = true) (hk4 : Value.oneCell' v3 = true) (hk6 : Value.oneCell' v6 = true) (hk7 : Value.oneCell' v7 = true) :
    Calls Try.prog 107 #[.agg #[.int .i64 k, .slice none 0 0, .slice none 0 0, .slice none 0 0, .slice none 0 0, .slice none 0 0, .int .i64 0, .int .i64 0], .agg #[v0, v1, v2, v3, .slice Ac cs.length cc, .slice Al ls.length cl, v6, v7]] w fun e w' =>
      ∃ (A B : Option Addr) (c d : Nat), e = .returned (.agg #[.int .i64 k, .slice none 0 0, .slice none 0 0, .slice none 0 0, .slice A (lvC cs ls).length c, .slice B ls.length d, .int .i64 0, .int .i64 0]) ∧ Own w [row 9 1 (.slice A (lvC cs ls).length c) (lvC cs ls).length (stc (lvC cs ls)), row 9 1 (.slice B ls.length d) ls.length (stc ls)] w' := by
  have C4 := fun u (hb : Below w.heap.size w u) => zba Ac cc cs u (h4.below hb) z4
  have C5 := fun u (hb : Below w.heap.size w u) => zba Al cl ls u (h5.below hb) z5
  by_cases hl : ls.length = 0
  · have e : ls = [] := List.length_eq_zero_iff.1 hl
    subst e
    have e1 : lvC cs [] = [] := rfl
    rw [e1]
    clear C4 C5 h4 h5 z4 z5 hl e1
    go_enter Try.func107, Try.ntmps107
    have hO := Own.nil w
    go_wp2_with (first | ((with_reducible refine zae ?_); refine zal rfl hO rfl ?_; (refine nm 2 rfl ?_; clear hO; intro b2 u hO); simp only [zL, zK] at hO) | ((with_reducible refine zag ?_); refine zbx rfl hO rfl rfl ?_; (first | (refine nm 0 rfl ?_; clear hO; intro b0 u hO) | (refine nm 1 rfl ?_; clear hO; intro b1 u hO) | fail); simp only [zL, zK] at hO) | ((with_reducible refine zaa ?_); refine zlb rfl hO rfl _ (by exact at0) ?_) | ((with_reducible refine zaa ?_); refine zlf rfl hO rfl _ (by exact at1) ?_) | ((with_reducible refine zab ?_); refine zsb rfl hO rfl _ (by exact at2) rfl ?_; clear hO; intro u hO; simp only [zC, zB] at hO) | fail)
    have hR := ((hO.addNil 9 1).addNil 9 1).pick [3, 4] (by decide)
    exact zar rfl hO rfl 2 at2 rfl rfl ⟨_, _, _, _, rfl, hR⟩
  · have e1 : lvC cs ls = cs := if_neg hl
    rw [e1]
    have i1 : (0 : Int) < (ls.length : Int) := by omega
    clear h4 h5 z4 z5 hl e1
    go_enter Try.func107, Try.ntmps107
    have hO := Own.nil w
    go_wp2_with (first | ((with_reducible refine zae ?_); refine zal rfl hO rfl ?_; (refine nm 2 rfl ?_; clear hO; intro b2 u hO); simp only [zL, zK] at hO) | ((with_reducible refine zag ?_); refine zbx rfl hO rfl rfl ?_; (first | (refine nm 0 rfl ?_; clear hO; intro b0 u hO) | (refine nm 1 rfl ?_; clear hO; intro b1 u hO) | fail); simp only [zL, zK] at hO) | ((with_reducible refine zaa ?_); refine zlf rfl hO rfl _ (by exact at1) ?_) | fail)
    refine (C4 _ hO.below).mono ?_
    rintro e u ⟨A1, c1, rfl, hb⟩
    replace hO := hO.call hb
    clear hb
    simp only [zK, zL] at hO
    go_wp2_with (first | ((with_reducible refine zaa ?_); refine zlf rfl hO rfl _ (by exact at2) ?_) | ((with_reducible refine zab ?_); refine zsf rfl hO rfl _ (by exact at1) (zM rfl) ?_; clear hO; intro u hO; simp only [zC, zB] at hO) | fail)
    refine (C5 _ hO.below).mono ?_
    rintro e u ⟨A2, c2, rfl, hb⟩
    replace hO := hO.call hb
    clear hb
    simp only [zK, zL] at hO
    go_wp2_with (first | ((with_reducible refine zaa ?_); refine zlb rfl hO rfl _ (by exact at2) ?_) | ((with_reducible refine zab ?_); refine zsb rfl hO rfl _ (by exact at4) rfl ?_; clear hO; intro u hO; simp only [zC, zB] at hO) | ((with_reducible refine zab ?_); refine zsf rfl hO rfl _ (by exact at2) (zM rfl) ?_; clear hO; intro u hO; simp only [zC, zB] at hO) | fail)
    exact zar rfl hO rfl 4 at4 rfl rfl ⟨_, _, _, _, rfl, hO.pick [1, 0] (by decide)⟩

set_option maxRecDepth 20000 in
set_option maxHeartbeats 8000000 in
theorem impl_rp (n : Int) (t : VT) (vs : List Value) (w : World) (hv : RdV w t vs) (hz : szV t ≤ 1048576) : Calls Try.prog 38 #[.agg vs.toArray, .int .i64 n] w (RetVS (rpT n t) (rpS n t) w) := by
  have CA := fun u (hb : Below w.heap.size w u) => impl_isVec t _ u (hv.grow hb) hz
  have HT : Hid (rpT n t = if isV t then (if t.kind = 5 then vecI 0 [] else if rpG n (lenV t) then (if isV (rpV t n.toNat) then rpV t n.toNat else vecI 0 []) else vecI 0 []) else vecI 0 []) := Lib.hid rfl
  have HS : Hid (rpS n t = if isV t then (if t.kind = 5 then elemS else if rpG n (lenV t) then (if isV (rpV t n.toNat) then ⟨#[]⟩ else bigS) else bigS) else badS) := Lib.hid rfl
  have KV : Hid (isV t = true → t.kind ≠ 5 → lenV t ≤ 40) := Lib.hid (fun h _ => isV_len h)
  have HZ : Hid (szV t ≤ 1048576) := Lib.hid hz
  obtain ⟨X, hX⟩ : ∃ X, rpT n t = X := ⟨_, rfl⟩
  obtain ⟨Y, hY⟩ : ∃ Y, rpS n t = Y := ⟨_, rfl⟩
  rw [hX] at HT
  rw [hY] at HS
  rw [hX, hY]
  clear hX hY
  obtain ⟨qt, hqt⟩ : ∃ q, isV t = q := ⟨_, rfl⟩
  rw [hqt] at CA HT HS KV
  have HQ := Lib.hid hqt
  clear hqt
  obtain ⟨k, is, ps, ns, cs, ls, c, e⟩ := t
  replace HT : Hid (X = if qt then (if k = 5 then vecI 0 [] else if rpG n (lenN k is.length ps.length) then (if isV (rpV (.mk k is ps ns cs ls c e) n.toNat) then rpV (.mk k is ps ns cs ls c e) n.toNat else vecI 0 []) else vecI 0 []) else vecI 0 []) := HT
  replace HS : Hid (Y = if qt then (if k = 5 then elemS else if rpG n (lenN k is.length ps.length) then (if isV (rpV (.mk k is ps ns cs ls c e) n.toNat) then ⟨#[]⟩ else bigS) else bigS) else badS) := HS
  replace KV : Hid (qt = true → k ≠ 5 → lenN k is.length ps.length ≤ 40) := KV
  have HT0 : szV (.mk k is ps ns cs ls c e) = szI is + szL ps + szS ns + szS cs + szS ls := rfl
  have hzp := szL_eq ps
  unfold szI szS at HT0
  have z1 : is.length ≤ 1048576 := by omega
  have z2 : ps.length ≤ 1048576 := by omega
  have z3 : ns.length ≤ 1048576 := by omega
  have z4 : cs.length ≤ 1048576 := by omega
  have z5 : ls.length ≤ 1048576 := by omega
  clear HT0 hzp
  have CP := fun u (hb : Below w.heap.size w u) => (impl_copyV (.mk k is ps ns cs ls c e) _ u (hv.grow hb) hz).mono fun e' w' h => RetV.exC h
  obtain ⟨Ai, Ap, An, Ac, Al, ci, cp, cn, cc, cl, pvs0, rfl, h1, h2, h3, h4, h5⟩ := hv.open
  have CW := fun u (hb : Below w.heap.size w u) => impl_withLv k (.int .i64 k) (.slice Ai is.length ci) (.slice Ap ps.length cp) (.slice An ns.length cn) (.int .i64 c) (.int .i64 e) Ac Al cc cl cs ls u (h4.below hb) (h5.below hb) z4 z5 rfl rfl rfl rfl rfl rfl
  have LA := fun u => impl_length k Ai Ap is.length ps.length ci cp (.slice An ns.length cn) (.slice Ac cs.length cc) (.slice Al ls.length cl) (.int .i64 c) (.int .i64 e) u (by omega)
  obtain ⟨L, hL⟩ : ∃ L, lenN k is.length ps.length = L := ⟨_, rfl⟩
  rw [hL] at LA HT HS KV
  have HL := Lib.hid hL
  clear hv hz h1 h2 h3 h4 h5 hL
  cases qt with
  | false =>
    have HF : Hid (X = vecI 0 []) := Lib.hid (by rw [HT.out]; rfl)
    have HG : Hid (Y = badS) := Lib.hid (by rw [HS.out]; rfl)
    clear HT HS KV HQ HZ HL CP CW z1 z2 z3 z4 z5
    clear LA
    go_enter Try.func38, Try.ntmps38
    have hO := Own.nil w
    go_wp2_with (first | ((with_reducible refine (CA _ hO.below).mono ?_); rintro e u ⟨rfl, hb⟩; (replace hO := hO.step hb; clear hb)) | (with_reducible refine zam ?_) | ((with_reducible refine zae ?_); refine zal rfl hO rfl ?_; (refine nm 1 rfl ?_; clear hO; intro b1 u hO); simp only [zL, zK] at hO) | ((with_reducible refine zag ?_); refine zbx rfl hO rfl rfl ?_; (refine nm 0 rfl ?_; clear hO; intro b0 u hO); simp only [zL, zK] at hO) | ((with_reducible refine zaa ?_); refine zlb rfl hO rfl _ (by exact at0) ?_) | ((with_reducible refine zab ?_); refine zsc rfl hO rfl _ (by exact at1) ?_; clear hO; intro u hO; simp only [zC, zB] at hO) | fail)
    obtain ⟨F0, hvo0, hF⟩ := Own.vec0 u 0
    exact ⟨za0 rfl hO rfl 1 at1 rfl rfl rfl ⟨_, _, by rw [HG.out]; rfl, by rw [HF.out]; exact hvo0, (hO.call hF).pick [0] (by decide)⟩⟩
  | true =>
  by_cases hk : k = 5
  · subst hk
    have HF : Hid (X = vecI 0 []) := Lib.hid (by rw [HT.out]; rfl)
    have HG : Hid (Y = elemS) := Lib.hid (by rw [HS.out]; rfl)
    clear HT HS KV HQ HZ HL CP CW z1 z2 z3 z4 z5
    clear LA
    go_enter Try.func38, Try.ntmps38
    have hO := Own.nil w
    go_wp2_with (first | ((with_reducible refine (CA _ hO.below).mono ?_); rintro e u ⟨rfl, hb⟩; (replace hO := hO.step hb; clear hb)) | (with_reducible refine zam ?_) | ((with_reducible refine zae ?_); refine zal rfl hO rfl ?_; (refine nm 1 rfl ?_; clear hO; intro b1 u hO); simp only [zL, zK] at hO) | ((with_reducible refine zag ?_); refine zbx rfl hO rfl rfl ?_; (refine nm 0 rfl ?_; clear hO; intro b0 u hO); simp only [zL, zK] at hO) | ((with_reducible refine zaa ?_); refine zlb rfl hO rfl _ (by exact at0) ?_) | ((with_reducible refine zaa ?_); refine zlf rfl hO rfl _ (by exact at0) ?_) | ((with_reducible refine zab ?_); refine zsc rfl hO rfl _ (by exact at1) ?_; clear hO; intro u hO; simp only [zC, zB] at hO) | fail)
    obtain ⟨F0, hvo0, hF⟩ := Own.vec0 u 0
    exact ⟨za0 rfl hO rfl 1 at1 rfl rfl rfl ⟨_, _, by rw [HG.out]; rfl, by rw [HF.out]; exact hvo0, (hO.call hF).pick [0] (by decide)⟩⟩
  have q5 : (k == 5) = false := by simp [hk]
  have l40 := KV.out rfl hk
  by_cases g1 : n < 0
  · have HF : Hid (X = vecI 0 []) := Lib.hid (by rw [HT.out]; simp [hk, rpG, show ¬ (0 ≤ n) by omega])
    have HG : Hid (Y = bigS) := Lib.hid (by rw [HS.out]; simp [hk, rpG, show ¬ (0 ≤ n) by omega])
    clear HT HS KV HQ HZ HL CP CW z1 z2 z3 z4 z5
    go_enter Try.func38, Try.ntmps38
    have hO := Own.nil w
    go_wp2_with (first | ((with_reducible refine (CA _ hO.below).mono ?_); rintro e u ⟨rfl, hb⟩; (replace hO := hO.step hb; clear hb)) | (with_reducible refine zam ?_) | ((with_reducible refine zae ?_); refine zal rfl hO rfl ?_; (refine nm 1 rfl ?_; clear hO; intro b1 u hO); simp only [zL, zK] at hO) | ((with_reducible refine zag ?_); refine zbx rfl hO rfl rfl ?_; (refine nm 0 rfl ?_; clear hO; intro b0 u hO); simp only [zL, zK] at hO) | ((with_reducible refine zaa ?_); refine zlb rfl hO rfl _ (by exact at0) ?_) | ((with_reducible refine zaa ?_); refine zlf rfl hO rfl _ (by exact at0) ?_) | ((with_reducible refine zab ?_); refine zsc rfl hO rfl _ (by exact at1) ?_; clear hO; intro u hO; simp only [zC, zB] at hO) | fail)
    obtain ⟨F0, hvo0, hF⟩ := Own.vec0 u 0
    exact ⟨za0 rfl hO rfl 1 at1 rfl rfl rfl ⟨_, _, by rw [HG.out]; rfl, by rw [HF.out]; exact hvo0, (hO.call hF).pick [0] (by decide)⟩⟩
  by_cases g2 : 40 < n
  · have HF : Hid (X = vecI 0 []) := Lib.hid (by rw [HT.out]; simp [hk, rpG, show ¬ (n ≤ 40) by omega])
    have HG : Hid (Y = bigS) := Lib.hid (by rw [HS.out]; simp [hk, rpG, show ¬ (n ≤ 40) by omega])
    clear HT HS KV HQ HZ HL CP CW z1 z2 z3 z4 z5
    go_enter Try.func38, Try.ntmps38
    have hO := Own.nil w
    go_wp2_with (first | ((with_reducible refine (CA _ hO.below).mono ?_); rintro e u ⟨rfl, hb⟩; (replace hO := hO.step hb; clear hb)) | (with_reducible refine zam ?_) | ((with_reducible refine zae ?_); refine zal rfl hO rfl ?_; (refine nm 1 rfl ?_; clear hO; intro b1 u hO); simp only [zL, zK] at hO) | ((with_reducible refine zag ?_); refine zbx rfl hO rfl rfl ?_; (refine nm 0 rfl ?_; clear hO; intro b0 u hO); simp only [zL, zK] at hO) | ((with_reducible refine zaa ?_); refine zlb rfl hO rfl _ (by exact at0) ?_) | ((with_reducible refine zaa ?_); refine zlf rfl hO rfl _ (by exact at0) ?_) | ((with_reducible refine zab ?_); refine zsc rfl hO rfl _ (by exact at1) ?_; clear hO; intro u hO; simp only [zC, zB] at hO) | fail)
    obtain ⟨F0, hvo0, hF⟩ := Own.vec0 u 0
    exact ⟨za0 rfl hO rfl 1 at1 rfl rfl rfl ⟨_, _, by rw [HG.out]; rfl, by rw [HF.out]; exact hvo0, (hO.call hF).pick [0] (by decide)⟩⟩
  obtain ⟨m, rfl⟩ : ∃ m : Nat, n = m := ⟨n.toNat, by omega⟩
  obtain ⟨p, hp⟩ : ∃ p, m * L = p := ⟨_, rfl⟩
  have m40 : m ≤ 40 := by omega
  have hmul : (m : Int) * (L : Int) = (p : Int) := by rw [← hp, Int.natCast_mul]
  have hmul2 : (L : Int) * (m : Int) = (p : Int) := by rw [Int.mul_comm]; exact hmul
  have p1600 : p ≤ 1600 := by rw [← hp]; exact Nat.mul_le_mul m40 l40
  have hG : rpG (m : Int) L = decide (p ≤ 40) := by
    unfold rpG
    rw [hmul, decide_eq_true (by omega), decide_eq_true (by omega)]
    simp only [Bool.true_and]
    exact decide_eq_decide.2 (by omega)
  by_cases g3 : 40 < p
  · have gp : ¬ p ≤ 40 := by omega
    have HF : Hid (X = vecI 0 []) := Lib.hid (by rw [HT.out]; rw [hG, decide_eq_false gp]; simp [hk])
    have HG : Hid (Y = bigS) := Lib.hid (by rw [HS.out]; rw [hG, decide_eq_false gp]; simp [hk])
    clear HT HS KV HQ HZ HL CP CW z1 z2 z3 z4 z5
    clear gp hG hp
    go_enter Try.func38, Try.ntmps38
    have hO := Own.nil w
    go_wp2_with (first | ((with_reducible refine (CA _ hO.below).mono ?_); rintro e u ⟨rfl, hb⟩; (replace hO := hO.step hb; clear hb)) | ((with_reducible refine (LA _).mono ?_); rintro e u ⟨rfl, hb⟩; (replace hO := hO.step hb; clear hb)) | (with_reducible refine zam ?_) | ((with_reducible refine zae ?_); refine zal rfl hO rfl ?_; (refine nm 1 rfl ?_; clear hO; intro b1 u hO); simp only [zL, zK] at hO) | ((with_reducible refine zag ?_); refine zbx rfl hO rfl rfl ?_; (refine nm 0 rfl ?_; clear hO; intro b0 u hO); simp only [zL, zK] at hO) | ((with_reducible refine zaa ?_); refine zaf rfl (by (first | rfl | (simp only [Region.wanted, yielded, *]; go_simp; done) | fail)) hO rfl _ (by exact at0) (by rfl) (by simp only [Act.put, zA, zB, zC]; rfl) ?_) | ((with_reducible refine zaa ?_); refine zlf rfl hO rfl _ (by exact at0) ?_) | ((with_reducible refine zab ?_); refine zsc rfl hO rfl _ (by exact at1) ?_; clear hO; intro u hO; simp only [zC, zB] at hO) | fail)
    obtain ⟨F0, hvo0, hF⟩ := Own.vec0 u 0
    exact ⟨za0 rfl hO rfl 1 at1 rfl rfl rfl ⟨_, _, by rw [HG.out]; rfl, by rw [HF.out]; exact hvo0, (hO.call hF).pick [0] (by decide)⟩⟩
  have gp : p ≤ 40 := by omega
  have HT' : Hid (X = if isV (rpV (.mk k is ps ns cs ls c e) m) then rpV (.mk k is ps ns cs ls c e) m else vecI 0 []) := Lib.hid (by rw [HT.out, hG, decide_eq_true gp]; simp [hk])
  have HS' : Hid (Y = if isV (rpV (.mk k is ps ns cs ls c e) m) then ⟨#[]⟩ else bigS) := Lib.hid (by rw [HS.out, hG, decide_eq_true gp]; simp [hk])
  have hszR := rpV_sz m40 HZ.out
  have hq1 := HQ.out
  have hL := HL.out
  clear HT HS hG KV HQ HL
  have CF : ∀ (vs : List Value) (u : World), RdV u (rpV (.mk k is ps ns cs ls c e) m) vs → Calls Try.prog 66 #[.agg vs.toArray] u fun e' w' => e' = .returned (.tuple #[.agg (if isV (rpV (.mk k is ps ns cs ls c e) m) then vs else zero8).toArray, .string (if isV (rpV (.mk k is ps ns cs ls c e) m) then ⟨#[]⟩ else bigS)]) ∧ Below u.heap.size u w' := fun vs u h => impl_fitsG (rpV (.mk k is ps ns cs ls c e) m) vs u h hszR
  have HR : Hid (rpV (.mk k is ps ns cs ls c e) m = .mk k (rpN m is) (rpN m ps) (rpN m ns) (lvC cs ls) ls 0 0) := Lib.hid rfl
  obtain ⟨q, hq⟩ : ∃ q, isV (rpV (.mk k is ps ns cs ls c e) m) = q := ⟨_, rfl⟩
  rw [hq] at CF HT' HS'
  rw [HR.out] at CF HT'
  have f1 : is.length ≤ 1048576 := z1
  clear hq hszR HR hq1 hL hmul2 l40 hp
  have HM := Lib.hid m40
  have c1 : ∀ j : Nat, j ≤ m → (rpN j is).length ≤ 52428800 ∧ (rpN j ps).length ≤ 52428800 ∧ (rpN j ns).length ≤ 52428800 := fun j hj => by
    rw [zbh, zbh, zbh]
    have hj40 : j ≤ 50 := by have := HM.out; omega
    exact ⟨Nat.mul_le_mul hj40 z1, Nat.mul_le_mul hj40 z2, Nat.mul_le_mul hj40 z3⟩
  have HC1 := Lib.hid c1
  clear c1 f1
  go_enter Try.func38, Try.ntmps38
  have hO := Own.nil w
  go_wp2_with (first | ((with_reducible refine (CA _ hO.below).mono ?_); rintro e u ⟨rfl, hb⟩; (replace hO := hO.step hb; clear hb)) | ((with_reducible refine (LA _).mono ?_); rintro e u ⟨rfl, hb⟩; (replace hO := hO.step hb; clear hb)) | ((with_reducible refine zae ?_); refine zal rfl hO rfl ?_; (refine nm 1 rfl ?_; clear hO; intro b1 u hO); simp only [zL, zK] at hO) | ((with_reducible refine zag ?_); refine zbx rfl hO rfl rfl ?_; (refine nm 0 rfl ?_; clear hO; intro b0 u hO); simp only [zL, zK] at hO) | ((with_reducible refine zaa ?_); refine zaf rfl (by (first | rfl | (simp only [Region.wanted, yielded, *]; go_simp; done) | fail)) hO rfl _ (by exact at0) (by rfl) (by simp only [Act.put, zA, zB, zC]; rfl) ?_) | ((with_reducible refine zaa ?_); refine zlf rfl hO rfl _ (by exact at0) ?_) | fail)
  refine (CW _ hO.below).mono ?_
  rintro e u ⟨A4, A5, c4, c5, rfl, hb⟩
  replace hO := hO.call hb
  clear hb
  simp only [zK, zL] at hO
  clear CW
  go_wp2_with (first | ((with_reducible refine zae ?_); refine zal rfl hO rfl ?_; (refine nm 4 rfl ?_; clear hO; intro b4 u hO); simp only [zL, zK] at hO) | ((with_reducible refine zab ?_); refine zsc rfl hO rfl _ (by exact at4) ?_; clear hO; intro u hO; simp only [zC, zB] at hO) | fail)
  replace hO := ((hO.addNil 83 3).addNil 29 8).addNil 9 1
  simp only [List.cons_append, List.nil_append] at hO
  replace hO := Own.pack (F := []) hO
  go_loopw [7] (fun i u => ∃ (j : Nat) (A1 A2 A3 : Option Addr) (c1 c2 c3 : Nat) (pvs : List (List Value)) (Ls : List (List Res)), j ≤ m ∧ i = .int .i64 j ∧ VL (rpN j ps) pvs Ls ∧ Own w [pack Ls.flatten, row 83 3 (.slice A1 (rpN j is).length c1) (rpN j is).length (itc (rpN j is)), row 29 8 (.slice A2 (rpN j ps).length c2) (rpN j ps).length pvs.flatten, row 9 1 (.slice A3 (rpN j ns).length c3) (rpN j ns).length (stc (rpN j ns)), row 9 1 (.slice A4 (lvC cs ls).length c4) (lvC cs ls).length (stc (lvC cs ls)), row 9 1 (.slice A5 ls.length c5) ls.length (stc ls), box b0 29 [.int .i64 k, .slice Ai is.length ci, .slice Ap ps.length cp, .slice An ns.length cn, .slice Ac cs.length cc, .slice Al ls.length cl, .int .i64 c, .int .i64 e], box b1 29 [.int .i64 0, .slice none 0 0, .slice none 0 0, .slice none 0 0, .slice none 0 0, .slice none 0 0, .int .i64 0, .int .i64 0], box b4 29 [.int .i64 k, .slice A1 (rpN j is).length c1, .slice A2 (rpN j ps).length c2, .slice A3 (rpN j ns).length c3, .slice A4 (lvC cs ls).length c4, .slice A5 ls.length c5, .int .i64 0, .int .i64 0]] u) (fun i _ => m - (intOf i).toNat)
  case atStart => exact ⟨0, none, none, none, 0, 0, 0, [], [], Nat.zero_le _, rfl, VL.nil, hO.pick [0, 6, 7, 8, 1, 2, 3, 4, 5] (by decide)⟩
  case round =>
    clear hO
    obtain ⟨j, A1, A2, A3, c1, c2, c3, pvs, Ls, hj, rfl, hvl, hO⟩ := hrel
    by_cases hlt : j < m
    · have i1 : (j : Int) < (m : Int) := by omega
      obtain ⟨lI, lP, lN⟩ := HC1.out j hj
      have S1 := Lib.hid (rpN_succ j is)
      have S2 := Lib.hid (rpN_succ j ps)
      have S3 := Lib.hid (rpN_succ j ns)
      obtain ⟨I, hI⟩ : ∃ I, rpN j is = I := ⟨_, rfl⟩
      obtain ⟨P, hP⟩ : ∃ P, rpN j ps = P := ⟨_, rfl⟩
      obtain ⟨N, hN⟩ : ∃ N, rpN j ns = N := ⟨_, rfl⟩
      rw [hI] at hO lI S1
      rw [hP] at hO lP S2 hvl
      rw [hN] at hO lN S3
      clear hI hP hN
      go_wp2_with (first | ((with_reducible refine zaa ?_); refine zlb rfl hO rfl _ (by exact at6) ?_) | fail)
      refine (CP _ hO.below).mono ?_
      rintro e u ⟨Ci, Cp, Cn, Cc, Cl, ri, rp, rn, rc, rl', F1, rfl, hvo1, hb⟩
      replace hO := hO.call hb
      clear hb
      simp only [zK, zL] at hO
      have hX := hO.openV hvo1
      clear hO hvo1
      obtain ⟨pvs1, Ls1, hvl1, hO⟩ := hX
      replace hO := hO.pick [6, 5, 0, 1, 2, 7, 8, 9, 10, 11, 12, 13, 14] (by decide)
      simp only [zN, zO, zE, zD] at hO
      replace hO := hO.merge
      go_wp2_with (first | ((with_reducible refine zae ?_); refine zal rfl hO rfl ?_; (refine nm 12 rfl ?_; clear hO; intro b12 u hO); simp only [zL, zK] at hO) | ((with_reducible refine zaa ?_); refine zlf rfl hO rfl _ (by (first | exact at11 | exact at12 | fail)) ?_) | ((with_reducible refine zab ?_); refine zsc rfl hO rfl _ (by exact at12) ?_; clear hO; intro u hO; simp only [zC, zB] at hO) | ((with_reducible refine zab ?_); refine zsf rfl hO rfl _ (by exact at11) (zM rfl) ?_; clear hO; intro u hO; simp only [zC, zB] at hO) | ((with_reducible refine zan ?_); refine za2 hO rfl (by rfl) rfl rfl _ (by (first | exact at4 | exact at5 | exact at6 | fail)) ((hO.row_sl 1 rfl)) (itc_one _) (by omega) (by omega) rfl (fun A' c' => by simp only [Act.put, zA, zB, zC]; rfl) ?_; clear hO; intro A' c' u hO; simp only [zC, zB, Nat.zero_add, zL] at hO; (try simp only [Nat.zero_add])) | ((with_reducible refine zan ?_); refine za2 hO rfl (by rfl) rfl rfl _ (by (first | exact at5 | exact at6 | fail)) ((hO.row_sl 2 rfl)) (hvl1.one8) (by omega) (by omega) rfl (fun A' c' => by simp only [Act.put, zA, zB, zC]; rfl) ?_; clear hO; intro A' c' u hO; simp only [zC, zB, Nat.zero_add, zL] at hO; (try simp only [Nat.zero_add])) | ((with_reducible refine zan ?_); refine za2 hO rfl (by rfl) rfl rfl _ (by exact at6) ((hO.row_sl 3 rfl)) (stc_one _) (by omega) (by omega) rfl (fun A' c' => by simp only [Act.put, zA, zB, zC]; rfl) ?_; clear hO; intro A' c' u hO; simp only [zC, zB, Nat.zero_add, zL] at hO; (try simp only [Nat.zero_add])) | fail)
      replace hO := hO.pick [0, 4, 5, 6, 7, 8, 9, 10, 11] (by decide)
      simp only [zN, zO, zE, zD] at hO
      have L1 : (rpN (j + 1) is).length = I.length + is.length := by rw [S1.out, List.length_append]
      have L2 : (rpN (j + 1) ps).length = P.length + ps.length := by rw [S2.out, List.length_append]
      have L3 : (rpN (j + 1) ns).length = N.length + ns.length := by rw [S3.out, List.length_append]
      rw [← L1, ← L2, ← L3, ← List.flatten_append, ← List.flatten_append, ← itc_app, ← stc_app, ← S1.out, ← S3.out] at hO
      go_roundw
      case rel => exact ⟨j + 1, _, _, _, _, _, _, _, _, by omega, by go_num, by rw [S2.out]; exact hvl.app hvl1, hO⟩
      case measure => simp [intOf]; omega
    · have hjm : j = m := by omega
      subst hjm
      clear HC1 HM CP hlt hj
      go_wp2_with (first | ((with_reducible refine zaa ?_); refine zlb rfl hO rfl _ (by exact at8) ?_) | fail)
      replace hO := hO.pick [1, 2, 3, 4, 5, 0, 6, 7, 8] (by decide)
      simp only [zN, zO, zE, zD] at hO
      have hX : ∃ F, VO (.mk k (rpN j is) (rpN j ps) (rpN j ns) (lvC cs ls) ls 0 0) [.int .i64 k, .slice A1 (rpN j is).length c1, .slice A2 (rpN j ps).length c2, .slice A3 (rpN j ns).length c3, .slice A4 (lvC cs ls).length c4, .slice A5 ls.length c5, .int .i64 0, .int .i64 0] F ∧ Own w (pack F :: [box b0 29 [.int .i64 k, .slice Ai is.length ci, .slice Ap ps.length cp, .slice An ns.length cn, .slice Ac cs.length cc, .slice Al ls.length cl, .int .i64 c, .int .i64 e], box b1 29 [.int .i64 0, .slice none 0 0, .slice none 0 0, .slice none 0 0, .slice none 0 0, .slice none 0 0, .int .i64 0, .int .i64 0], box b4 29 [.int .i64 k, .slice A1 (rpN j is).length c1, .slice A2 (rpN j ps).length c2, .slice A3 (rpN j ns).length c3, .slice A4 (lvC cs ls).length c4, .slice A5 ls.length c5, .int .i64 0, .int .i64 0]]) wr := ⟨_, VO.close hvl, Own.packs' [_, _, _, _, _] hO⟩
      clear hO hvl
      obtain ⟨F, hvo, hO⟩ := hX
      cases q with
      | true =>
        have HF : Hid (X = .mk k (rpN j is) (rpN j ps) (rpN j ns) (lvC cs ls) ls 0 0) := Lib.hid (by rw [HT'.out, if_pos rfl])
        have HG : Hid (Y = ⟨#[]⟩) := Lib.hid (by rw [HS'.out, if_pos rfl])
        simp only [if_true] at CF
        clear HT' HS'
        go_wp2_with (first | ((with_reducible refine (CF _ _ (hO.rdp 0 rfl hvo)).mono ?_); rintro e u ⟨rfl, hb⟩; (replace hO := hO.step hb; clear hb)) | (with_reducible refine zam ?_) | ((with_reducible refine zab ?_); refine zsc rfl hO rfl _ (by exact at2) ?_; clear hO; intro u hO; simp only [zC, zB] at hO) | fail)
        exact ⟨za0 rfl hO rfl 2 at2 rfl rfl rfl ⟨_, _, by rw [HG.out]; rfl, by rw [HF.out]; exact hvo, hO.pick [0] (by decide)⟩⟩
      | false =>
        have HF : Hid (X = vecI 0 []) := Lib.hid (by rw [HT'.out]; rfl)
        have HG : Hid (Y = bigS) := Lib.hid (by rw [HS'.out]; rfl)
        simp only [Bool.false_eq_true, if_false] at CF
        clear HT' HS'
        go_wp2_with (first | ((with_reducible refine (CF _ _ (hO.rdp 0 rfl hvo)).mono ?_); rintro e u ⟨rfl, hb⟩; (replace hO := hO.step hb; clear hb)) | (with_reducible refine zam ?_) | ((with_reducible refine zab ?_); refine zsc rfl hO rfl _ (by exact at2) ?_; clear hO; intro u hO; simp only [zC, zB] at hO) | fail)
        obtain ⟨F0, hvo0, hF⟩ := Own.vec0 u 0
        exact ⟨za0 rfl hO rfl 2 at2 rfl rfl rfl ⟨_, _, by rw [HG.out]; rfl, by rw [HF.out]; exact hvo0, (hO.call hF).pick [0] (by decide)⟩⟩

end Go.Proofs.Ytmofcbpabdbjlaa
