/-
  What is proved: what RepeatVector (of the program and of the reference) returns.
  Condition: vectors of size at most 1048576.
-/
import Derived.Test.YtmofcbpabdbjlaaCopy
import Derived.Test.YtmofcbpabdbjlaaCopyS
import Derived.Test.YtmofcbpabdbjlaaSm
import Derived.Test.YtmofcbpabdbjlaaAt
import Derived.Test.YtmofcbpabdbjlaaSt
import Derived.Test.YtmofcbpabdbjlaaJt
import Derived.Deep.Cut
namespace Go.Proofs.Ytmofcbpabdbjlaa
set_option maxRecDepth 8000
open Go.RowKit Go.ChangeShapes Go.WideShapes Go.Deep
set_option linter.unusedVariables false
set_option linter.unusedSimpArgs false

/-- a list, so many times -/
def rpN {α : Type} (n : Nat) (l : List α) : List α := (List.replicate n l).flatten
theorem rpN_zero {α : Type} (l : List α) : rpN 0 l = [] := rfl
theorem rpN_nil {α : Type} (n : Nat) : rpN n ([] : List α) = [] := by
  unfold rpN
  rw [List.flatten_replicate_nil]
theorem rpN_succ {α : Type} (n : Nat) (l : List α) : rpN (n + 1) l = rpN n l ++ l := by
  unfold rpN
  rw [List.replicate_succ', List.flatten_append]
  simp
theorem rpN_len {α : Type} (n : Nat) (l : List α) : (rpN n l).length = n * l.length := by
  induction n with
  | zero => simp [rpN_zero]
  | succ n ih => rw [rpN_succ, List.length_append, ih, Nat.succ_mul]
theorem rpN_get {α : Type} (n : Nat) (l : List α) (i : Nat) (h : i < n * l.length) (h' : i % l.length < l.length) : (rpN n l)[i]'(by rw [rpN_len]; exact h) = l[i % l.length] := by
  induction n with
  | zero => simp at h
  | succ n ih =>
    have e := rpN_succ n l
    have h1 : (rpN n l ++ l)[i]? = some l[i % l.length] := by
      by_cases hi : i < n * l.length
      · rw [List.getElem?_append_left (by rw [rpN_len]; exact hi)]
        rw [List.getElem?_eq_getElem (by rw [rpN_len]; exact hi), ih hi]
      · rw [List.getElem?_append_right (by rw [rpN_len]; omega), rpN_len]
        have h2 : i - n * l.length = i % l.length := by
          rw [Nat.succ_mul] at h
          have : i = (i - n * l.length) + l.length * n := by rw [Nat.mul_comm l.length n]; omega
          rw [this, Nat.add_mul_mod_self_left, Nat.mod_eq_of_lt (by omega)]
          rw [Nat.mul_comm l.length n]
          omega
        rw [h2]
        exact List.getElem?_eq_getElem h'
    rw [← e] at h1
    exact (List.getElem?_eq_some_iff.1 h1).2
theorem rpN_mem {α : Type} {n : Nat} {l : List α} {x : α} (h : x ∈ rpN n l) : x ∈ l := by
  unfold rpN at h
  rw [List.mem_flatten] at h
  obtain ⟨l', h1, h2⟩ := h
  rw [List.eq_of_mem_replicate h1] at h2
  exact h2
theorem take_snocR {α : Type} {l : List α} {k : Nat} (h : k < l.length) {x : α} (hx : l[k] = x) : l.take (k + 1) = l.take k ++ [x] := by
  subst hx
  exact take_snoc' h
/-- the places that the reference takes -/
def rqL (L n : Nat) : List Int := (List.range n).map fun i => ((i % L : Nat) : Int) + 1
theorem rqL_succ (L n : Nat) : rqL L (n + 1) = rqL L n ++ [((n % L : Nat) : Int) + 1] := by
  unfold rqL
  rw [List.range_succ, List.map_append]
  rfl
theorem rqL_len (L n : Nat) : (rqL L n).length = n := by simp [rqL]
theorem rqL_get (L n : Nat) {i : Nat} (h : i < n) (h' : i < (rqL L n).length) : (rqL L n)[i] = ((i % L : Nat) : Int) + 1 := by simp [rqL]

theorem rp_itz (n : Nat) (l : List It) : itz (rpN n l) = n * itz l := by
  have app : ∀ a b : List It, itz (a ++ b) = itz a + itz b := fun a b => by
    induction a with
    | nil => simp [itz]
    | cons x a ih => simp [itz, ih, Nat.add_assoc]
  induction n with
  | zero => simp [rpN_zero, itz]
  | succ n ih => rw [rpN_succ, app, ih, Nat.succ_mul]
theorem rp_stz (n : Nat) (l : List ByteArray) : stz (rpN n l) = n * stz l := by
  have app : ∀ a b : List ByteArray, stz (a ++ b) = stz a + stz b := fun a b => by
    induction a with
    | nil => simp [stz]
    | cons x a ih => simp [stz, ih, Nat.add_assoc]
  induction n with
  | zero => simp [rpN_zero, stz]
  | succ n ih => rw [rpN_succ, app, ih, Nat.succ_mul]
theorem rp_szL (n : Nat) (l : List VT) : szL (rpN n l) = n * szL l := by
  have app : ∀ a b : List VT, szL (a ++ b) = szL a + szL b := fun a b => by
    induction a with
    | nil => simp [szL]
    | cons x a ih => simp [szL, ih, Nat.add_assoc]
  induction n with
  | zero => simp [rpN_zero, szL]
  | succ n ih => rw [rpN_succ, app, ih, Nat.succ_mul]

def lvC (cs ls : List ByteArray) : List ByteArray := if ls.length = 0 then [] else cs
/-- the vector, so many times -/
def rpV (t : VT) (n : Nat) : VT := .mk t.kind (rpN n t.items) (rpN n t.parts) (rpN n t.names) (lvC t.cls t.levels) t.levels 0 0
def elemS : ByteArray := ⟨#[110, 111, 116, 32, 97, 32, 118, 101, 99, 116, 111, 114, 32, 111, 102, 32, 101, 108, 101, 109, 101, 110, 116, 115]⟩
def rpG (n : Int) (L : Nat) : Bool := decide (0 ≤ n) && decide (n ≤ 40) && decide (n * L ≤ 40)
def rpT (n : Int) (t : VT) : VT := if isV t then (if t.kind = 5 then vecI 0 [] else if rpG n (lenV t) then (if isV (rpV t n.toNat) then rpV t n.toNat else vecI 0 []) else vecI 0 []) else vecI 0 []
def rpS (n : Int) (t : VT) : ByteArray := if isV t then (if t.kind = 5 then elemS else if rpG n (lenV t) then (if isV (rpV t n.toNat) then ⟨#[]⟩ else bigS) else bigS) else badS
theorem rpV_sz {t : VT} {n : Nat} (hn : n ≤ 40) (h : szV t ≤ 1048576) : szV (rpV t n) ≤ 268435456 := by
  obtain ⟨k, is, ps, ns, cs, ls, c, e⟩ := t
  have HT : szV (.mk k is ps ns cs ls c e) = szI is + szL ps + szS ns + szS cs + szS ls := rfl
  have HR : szV (rpV (.mk k is ps ns cs ls c e) n) = szI (rpN n is) + szL (rpN n ps) + szS (rpN n ns) + szS (lvC cs ls) + szS ls := rfl
  rw [HT] at h
  rw [HR]
  have h1 : szS (lvC cs ls) ≤ szS cs := by
    unfold lvC
    split
    · exact Nat.zero_le _
    · exact Nat.le_refl _
  have e1 : szI (rpN n is) = n * szI is := by
    unfold szI
    rw [rpN_len, rp_itz, Nat.mul_add]
  have e2 : szS (rpN n ns) = n * szS ns := by
    unfold szS
    rw [rpN_len, rp_stz, Nat.mul_add]
  have e3 := rp_szL n ps
  have m1 : n * szI is ≤ 40 * szI is := Nat.mul_le_mul_right _ hn
  have m2 : n * szS ns ≤ 40 * szS ns := Nat.mul_le_mul_right _ hn
  have m3 : n * szL ps ≤ 40 * szL ps := Nat.mul_le_mul_right _ hn
  omega
theorem rpT_sz (n : Int) (t : VT) : szV (rpT n t) ≤ 1048576 := by
  have z : szV (vecI 0 []) ≤ 1048576 := by simp [vecI, szV, szI, szL, szS, stz, itz]
  unfold rpT
  split
  · split
    · exact z
    · split
      · split
        · rename_i h
          exact Nat.le_trans (isV_small h) (by decide)
        · exact z
      · exact z
  · exact z
theorem isV_len {t : VT} (h : isV t = true) : lenV t ≤ 40 := by
  obtain ⟨k, is, ps, ns, cs, ls, c, e⟩ := t
  exact (isV_facts h).2.1
theorem VL.app {ps qs : List VT} {pvs qvs : List (List Value)} {Ls Ms : List (List Res)} (h : VL ps pvs Ls) (h' : VL qs qvs Ms) : VL (ps ++ qs) (pvs ++ qvs) (Ls ++ Ms) := by
  obtain ⟨h1, h2, h3⟩ := h
  obtain ⟨g1, g2, g3⟩ := h'
  refine ⟨by simp [h1, g1], by simp [h2, g2], fun i a b c => ?_⟩
  by_cases hi : i < ps.length
  · rw [List.getElem_append_left hi, List.getElem_append_left (by omega), List.getElem_append_left (by omega)]
    exact h3 i hi _ _
  · simp only [List.length_append] at a b c
    have e1 : (pvs ++ qvs)[i]'(by simpa using b) = qvs[i - ps.length]'(by omega) := by rw [List.getElem_append_right (by omega)]; simp only [h1]
    have e2 : (Ls ++ Ms)[i]'(by simpa using c) = Ms[i - ps.length]'(by omega) := by rw [List.getElem_append_right (by omega)]; simp only [h2]
    rw [List.getElem_append_right (by omega), e1, e2]
    exact g3 _ _ _ _
theorem VL.one8 {ps : List VT} {pvs : List (List Value)} {Ls : List (List Res)} (h : VL ps pvs Ls) : pvs.flatten.all (·.oneCell') = true := by
  rw [List.all_eq_true]
  intro x hx
  obtain ⟨l, hl, hx⟩ := List.mem_flatten.1 hx
  obtain ⟨i, hi, rfl⟩ := List.mem_iff_getElem.1 hl
  have := (h.at_ i (by rw [← h.len]; exact hi) hi (by rw [h.len', ← h.len]; exact hi)).one
  exact List.all_eq_true.1 this x hx

set_option maxRecDepth 20000 in
set_option maxHeartbeats 4000000 in
theorem impl_withLv (k : Int) (v0 v1 v2 v3 v6 v7 : Value) (Ac Al : Option Addr) (cc cl : Nat) (cs ls : List ByteArray) (w : World) (h4 : Sl w 1 Ac cs.length (stc cs)) (h5 : Sl w 1 Al ls.length (stc ls)) (z4 : cs.length ≤ 1048576) (z5 : ls.length ≤ 1048576) (hk1 : Value.oneCell' v0 = true) (hk2 : Value.oneCell' v1 = true) (hk3 : Value.oneCell' v2 = true) (hk4 : Value.oneCell' v3 = true) (hk6 : Value.oneCell' v6 = true) (hk7 : Value.oneCell' v7 = true) :
    Calls Try.prog 107 #[.agg #[.int .i64 k, .slice none 0 0, .slice none 0 0, .slice none 0 0, .slice none 0 0, .slice none 0 0, .int .i64 0, .int .i64 0], .agg #[v0, v1, v2, v3, .slice Ac cs.length cc, .slice Al ls.length cl, v6, v7]] w fun e w' =>
      ∃ (A B : Option Addr) (c d : Nat), e = .returned (.agg #[.int .i64 k, .slice none 0 0, .slice none 0 0, .slice none 0 0, .slice A (lvC cs ls).length c, .slice B ls.length d, .int .i64 0, .int .i64 0]) ∧ Own w [row 9 1 (.slice A (lvC cs ls).length c) (lvC cs ls).length (stc (lvC cs ls)), row 9 1 (.slice B ls.length d) ls.length (stc ls)] w' := by
  have C4 := fun u (hb : Below w.heap.size w u) => impl_copyTexts Ac cc cs u (h4.below hb) z4
  have C5 := fun u (hb : Below w.heap.size w u) => impl_copyTexts Al cl ls u (h5.below hb) z5
  by_cases hl : ls.length = 0
  · have e : ls = [] := List.length_eq_zero_iff.1 hl
    subst e
    have e1 : lvC cs [] = [] := rfl
    rw [e1]
    clear C4 C5 h4 h5 z4 z5 hl e1
    go_enter Try.func107, Try.ntmps107
    have hO := Own.nil w
    go_wp2_with (first
      | ((with_reducible refine wpl_alloc ?_); refine wpList_alloc_own rfl (by rfl) hO rfl (fun b => by simp only [Act.put, zA, zB, zC]; rfl) ?_; (refine nm 2 rfl ?_; clear hO; intro b2 u hO); simp only [zL, zK] at hO)
      | ((with_reducible refine wpl_box ?_); refine wpList_box_own rfl (by rfl) hO rfl rfl (fun b => by simp only [Act.put, zA, zB, zC]; rfl) ?_; (first | (refine nm 0 rfl ?_; clear hO; intro b0 u hO) | (refine nm 1 rfl ?_; clear hO; intro b1 u hO) | fail); simp only [zL, zK] at hO)
      | ((with_reducible refine wpl_load ?_); refine wpList_load_box rfl (by rfl) hO rfl _ (by exact at0) (by rfl) (by simp only [Act.put, zA, zB, zC]; rfl) ?_)
      | ((with_reducible refine wpl_load ?_); refine wpList_load_field rfl (by rfl) hO rfl _ (by exact at1) (by rfl) (by simp only [Act.put, zA, zB, zC]; rfl) ?_)
      | ((with_reducible refine wpl_store ?_); refine wpList_store_box rfl (by rfl) hO rfl _ (by exact at2) rfl (by rfl) (by rfl) (by rfl) (by rfl) (by rfl) ?_; clear hO; intro u hO; simp only [zC, zB] at hO)
      | fail)
    have hR := ((hO.addNil 9 1).addNil 9 1).pick [3, 4] (by decide)
    exact ret_box rfl hO rfl 2 at2 rfl rfl ⟨_, _, _, _, rfl, hR⟩
  · have e1 : lvC cs ls = cs := if_neg hl
    rw [e1]
    have i1 : (0 : Int) < (ls.length : Int) := by omega
    clear h4 h5 z4 z5 hl e1
    go_enter Try.func107, Try.ntmps107
    have hO := Own.nil w
    go_wp2_with (first
      | ((with_reducible refine wpl_alloc ?_); refine wpList_alloc_own rfl (by rfl) hO rfl (fun b => by simp only [Act.put, zA, zB, zC]; rfl) ?_; (refine nm 2 rfl ?_; clear hO; intro b2 u hO); simp only [zL, zK] at hO)
      | ((with_reducible refine wpl_box ?_); refine wpList_box_own rfl (by rfl) hO rfl rfl (fun b => by simp only [Act.put, zA, zB, zC]; rfl) ?_; (first | (refine nm 0 rfl ?_; clear hO; intro b0 u hO) | (refine nm 1 rfl ?_; clear hO; intro b1 u hO) | fail); simp only [zL, zK] at hO)
      | ((with_reducible refine wpl_load ?_); refine wpList_load_field rfl (by rfl) hO rfl _ (by exact at1) (by rfl) (by simp only [Act.put, zA, zB, zC]; rfl) ?_)
      | fail)
    refine (C4 _ hO.below).mono ?_
    rintro e u ⟨A1, c1, rfl, hb⟩
    replace hO := hO.call hb
    clear hb
    simp only [zK, zL] at hO
    go_wp2_with (first
      | ((with_reducible refine wpl_load ?_); refine wpList_load_field rfl (by rfl) hO rfl _ (by exact at2) (by rfl) (by simp only [Act.put, zA, zB, zC]; rfl) ?_)
      | ((with_reducible refine wpl_store ?_); refine wpList_store_field rfl (by rfl) hO rfl _ (by exact at1) (zM rfl) (by simp only [Act.eval, zJ, zF, zD, zE, zP]; rfl) (by rfl) (by rfl) (by rfl) ?_; clear hO; intro u hO; simp only [zC, zB] at hO)
      | fail)
    refine (C5 _ hO.below).mono ?_
    rintro e u ⟨A2, c2, rfl, hb⟩
    replace hO := hO.call hb
    clear hb
    simp only [zK, zL] at hO
    go_wp2_with (first
      | ((with_reducible refine wpl_load ?_); refine wpList_load_box rfl (by rfl) hO rfl _ (by exact at2) (by rfl) (by simp only [Act.put, zA, zB, zC]; rfl) ?_)
      | ((with_reducible refine wpl_store ?_); refine wpList_store_box rfl (by rfl) hO rfl _ (by exact at4) rfl (by rfl) (by rfl) (by rfl) (by rfl) (by rfl) ?_; clear hO; intro u hO; simp only [zC, zB] at hO)
      | ((with_reducible refine wpl_store ?_); refine wpList_store_field rfl (by rfl) hO rfl _ (by exact at2) (zM rfl) (by simp only [Act.eval, zJ, zF, zD, zE, zP]; rfl) (by rfl) (by rfl) (by rfl) ?_; clear hO; intro u hO; simp only [zC, zB] at hO)
      | fail)
    exact ret_box rfl hO rfl 4 at4 rfl rfl ⟨_, _, _, _, rfl, hO.pick [1, 0] (by decide)⟩

set_option maxRecDepth 20000 in
set_option maxHeartbeats 8000000 in
theorem impl_rp (n : Int) (t : VT) (vs : List Value) (w : World) (hv : RdV w t vs) (hz : szV t ≤ 1048576) : Calls Try.prog 38 #[.agg vs.toArray, .int .i64 n] w (RetVS (rpT n t) (rpS n t) w) := by
  have CA := fun u (hb : Below w.heap.size w u) => impl_isVec t _ u (hv.grow hb) hz
  have HT : Hid (rpT n t = if isV t then (if t.kind = 5 then vecI 0 [] else if rpG n (lenV t) then (if isV (rpV t n.toNat) then rpV t n.toNat else vecI 0 []) else vecI 0 []) else vecI 0 []) := Lib.hid rfl
  have HS : Hid (rpS n t = if isV t then (if t.kind = 5 then elemS else if rpG n (lenV t) then (if isV (rpV t n.toNat) then ⟨#[]⟩ else bigS) else bigS) else badS) := Lib.hid rfl
  have KV : Hid (isV t = true → t.kind ≠ 5 → lenV t ≤ 40) := Lib.hid (fun h _ => isV_len h)
  have HZ : Hid (szV t ≤ 1048576) := Lib.hid hz
  obtain ⟨X, hX⟩ : ∃ X, rpT n t = X := ⟨_, rfl⟩
  obtain ⟨Y, hY⟩ : ∃ Y, rpS n t = Y := ⟨_, rfl⟩
  rw [hX] at HT
  rw [hY] at HS
  rw [hX, hY]
  clear hX hY
  obtain ⟨qt, hqt⟩ : ∃ q, isV t = q := ⟨_, rfl⟩
  rw [hqt] at CA HT HS KV
  have HQ := Lib.hid hqt
  clear hqt
  obtain ⟨k, is, ps, ns, cs, ls, c, e⟩ := t
  replace HT : Hid (X = if qt then (if k = 5 then vecI 0 [] else if rpG n (lenN k is.length ps.length) then (if isV (rpV (.mk k is ps ns cs ls c e) n.toNat) then rpV (.mk k is ps ns cs ls c e) n.toNat else vecI 0 []) else vecI 0 []) else vecI 0 []) := HT
  replace HS : Hid (Y = if qt then (if k = 5 then elemS else if rpG n (lenN k is.length ps.length) then (if isV (rpV (.mk k is ps ns cs ls c e) n.toNat) then ⟨#[]⟩ else bigS) else bigS) else badS) := HS
  replace KV : Hid (qt = true → k ≠ 5 → lenN k is.length ps.length ≤ 40) := KV
  have HT0 : szV (.mk k is ps ns cs ls c e) = szI is + szL ps + szS ns + szS cs + szS ls := rfl
  have hzp := szL_eq ps
  unfold szI szS at HT0
  have z1 : is.length ≤ 1048576 := by omega
  have z2 : ps.length ≤ 1048576 := by omega
  have z3 : ns.length ≤ 1048576 := by omega
  have z4 : cs.length ≤ 1048576 := by omega
  have z5 : ls.length ≤ 1048576 := by omega
  clear HT0 hzp
  have CP := fun u (hb : Below w.heap.size w u) => (impl_copyV (.mk k is ps ns cs ls c e) _ u (hv.grow hb) hz).mono fun e' w' h => RetV.exC h
  obtain ⟨Ai, Ap, An, Ac, Al, ci, cp, cn, cc, cl, pvs0, rfl, h1, h2, h3, h4, h5⟩ := hv.open
  have CW := fun u (hb : Below w.heap.size w u) => impl_withLv k (.int .i64 k) (.slice Ai is.length ci) (.slice Ap ps.length cp) (.slice An ns.length cn) (.int .i64 c) (.int .i64 e) Ac Al cc cl cs ls u (h4.below hb) (h5.below hb) z4 z5 rfl rfl rfl rfl rfl rfl
  have LA := fun u => impl_length k Ai Ap is.length ps.length ci cp (.slice An ns.length cn) (.slice Ac cs.length cc) (.slice Al ls.length cl) (.int .i64 c) (.int .i64 e) u (by omega)
  obtain ⟨L, hL⟩ : ∃ L, lenN k is.length ps.length = L := ⟨_, rfl⟩
  rw [hL] at LA HT HS KV
  have HL := Lib.hid hL
  clear hv hz h1 h2 h3 h4 h5 hL
  cases qt with
  | false =>
    have HF : Hid (X = vecI 0 []) := Lib.hid (by rw [HT.out]; rfl)
    have HG : Hid (Y = badS) := Lib.hid (by rw [HS.out]; rfl)
    clear HT HS KV HQ HZ HL CP CW z1 z2 z3 z4 z5
    clear LA
    go_enter Try.func38, Try.ntmps38
    have hO := Own.nil w
    go_wp2_with (first
      | ((with_reducible refine (CA _ hO.below).mono ?_); rintro e u ⟨rfl, hb⟩; (replace hO := hO.step hb; clear hb))
      | (with_reducible refine stop_ret ?_)
      | ((with_reducible refine wpl_alloc ?_); refine wpList_alloc_own rfl (by rfl) hO rfl (fun b => by simp only [Act.put, zA, zB, zC]; rfl) ?_; (refine nm 1 rfl ?_; clear hO; intro b1 u hO); simp only [zL, zK] at hO)
      | ((with_reducible refine wpl_box ?_); refine wpList_box_own rfl (by rfl) hO rfl rfl (fun b => by simp only [Act.put, zA, zB, zC]; rfl) ?_; (refine nm 0 rfl ?_; clear hO; intro b0 u hO); simp only [zL, zK] at hO)
      | ((with_reducible refine wpl_load ?_); refine wpList_load_box rfl (by rfl) hO rfl _ (by exact at0) (by rfl) (by simp only [Act.put, zA, zB, zC]; rfl) ?_)
      | ((with_reducible refine wpl_store ?_); refine wpList_store_box rfl (by rfl) hO rfl _ (by exact at1) (by simp only [Act.eval, zJ, zF, zD, zE, zP]; rfl) (by rfl) (by rfl) (by rfl) (by rfl) (by rfl) ?_; clear hO; intro u hO; simp only [zC, zB] at hO)
      | fail)
    obtain ⟨F0, hvo0, hF⟩ := Own.vec0 u 0
    exact ⟨ret_box2 rfl hO rfl 1 at1 rfl rfl rfl ⟨_, _, by rw [HG.out]; rfl, by rw [HF.out]; exact hvo0, (hO.call hF).pick [0] (by decide)⟩⟩
  | true =>
  by_cases hk : k = 5
  · subst hk
    have HF : Hid (X = vecI 0 []) := Lib.hid (by rw [HT.out]; rfl)
    have HG : Hid (Y = elemS) := Lib.hid (by rw [HS.out]; rfl)
    clear HT HS KV HQ HZ HL CP CW z1 z2 z3 z4 z5
    clear LA
    go_enter Try.func38, Try.ntmps38
    have hO := Own.nil w
    go_wp2_with (first
      | ((with_reducible refine (CA _ hO.below).mono ?_); rintro e u ⟨rfl, hb⟩; (replace hO := hO.step hb; clear hb))
      | (with_reducible refine stop_ret ?_)
      | ((with_reducible refine wpl_alloc ?_); refine wpList_alloc_own rfl (by rfl) hO rfl (fun b => by simp only [Act.put, zA, zB, zC]; rfl) ?_; (refine nm 1 rfl ?_; clear hO; intro b1 u hO); simp only [zL, zK] at hO)
      | ((with_reducible refine wpl_box ?_); refine wpList_box_own rfl (by rfl) hO rfl rfl (fun b => by simp only [Act.put, zA, zB, zC]; rfl) ?_; (refine nm 0 rfl ?_; clear hO; intro b0 u hO); simp only [zL, zK] at hO)
      | ((with_reducible refine wpl_load ?_); refine wpList_load_box rfl (by rfl) hO rfl _ (by exact at0) (by rfl) (by simp only [Act.put, zA, zB, zC]; rfl) ?_)
      | ((with_reducible refine wpl_load ?_); refine wpList_load_field rfl (by rfl) hO rfl _ (by exact at0) (by rfl) (by simp only [Act.put, zA, zB, zC]; rfl) ?_)
      | ((with_reducible refine wpl_store ?_); refine wpList_store_box rfl (by rfl) hO rfl _ (by exact at1) (by simp only [Act.eval, zJ, zF, zD, zE, zP]; rfl) (by rfl) (by rfl) (by rfl) (by rfl) (by rfl) ?_; clear hO; intro u hO; simp only [zC, zB] at hO)
      | fail)
    obtain ⟨F0, hvo0, hF⟩ := Own.vec0 u 0
    exact ⟨ret_box2 rfl hO rfl 1 at1 rfl rfl rfl ⟨_, _, by rw [HG.out]; rfl, by rw [HF.out]; exact hvo0, (hO.call hF).pick [0] (by decide)⟩⟩
  have q5 : (k == 5) = false := by simp [hk]
  have l40 := KV.out rfl hk
  by_cases g1 : n < 0
  · have HF : Hid (X = vecI 0 []) := Lib.hid (by rw [HT.out]; simp [hk, rpG, show ¬ (0 ≤ n) by omega])
    have HG : Hid (Y = bigS) := Lib.hid (by rw [HS.out]; simp [hk, rpG, show ¬ (0 ≤ n) by omega])
    clear HT HS KV HQ HZ HL CP CW z1 z2 z3 z4 z5
    go_enter Try.func38, Try.ntmps38
    have hO := Own.nil w
    go_wp2_with (first
      | ((with_reducible refine (CA _ hO.below).mono ?_); rintro e u ⟨rfl, hb⟩; (replace hO := hO.step hb; clear hb))
      | (with_reducible refine stop_ret ?_)
      | ((with_reducible refine wpl_alloc ?_); refine wpList_alloc_own rfl (by rfl) hO rfl (fun b => by simp only [Act.put, zA, zB, zC]; rfl) ?_; (refine nm 1 rfl ?_; clear hO; intro b1 u hO); simp only [zL, zK] at hO)
      | ((with_reducible refine wpl_box ?_); refine wpList_box_own rfl (by rfl) hO rfl rfl (fun b => by simp only [Act.put, zA, zB, zC]; rfl) ?_; (refine nm 0 rfl ?_; clear hO; intro b0 u hO); simp only [zL, zK] at hO)
      | ((with_reducible refine wpl_load ?_); refine wpList_load_box rfl (by rfl) hO rfl _ (by exact at0) (by rfl) (by simp only [Act.put, zA, zB, zC]; rfl) ?_)
      | ((with_reducible refine wpl_load ?_); refine wpList_load_field rfl (by rfl) hO rfl _ (by exact at0) (by rfl) (by simp only [Act.put, zA, zB, zC]; rfl) ?_)
      | ((with_reducible refine wpl_store ?_); refine wpList_store_box rfl (by rfl) hO rfl _ (by exact at1) (by simp only [Act.eval, zJ, zF, zD, zE, zP]; rfl) (by rfl) (by rfl) (by rfl) (by rfl) (by rfl) ?_; clear hO; intro u hO; simp only [zC, zB] at hO)
      | fail)
    obtain ⟨F0, hvo0, hF⟩ := Own.vec0 u 0
    exact ⟨ret_box2 rfl hO rfl 1 at1 rfl rfl rfl ⟨_, _, by rw [HG.out]; rfl, by rw [HF.out]; exact hvo0, (hO.call hF).pick [0] (by decide)⟩⟩
  by_cases g2 : 40 < n
  · have HF : Hid (X = vecI 0 []) := Lib.hid (by rw [HT.out]; simp [hk, rpG, show ¬ (n ≤ 40) by omega])
    have HG : Hid (Y = bigS) := Lib.hid (by rw [HS.out]; simp [hk, rpG, show ¬ (n ≤ 40) by omega])
    clear HT HS KV HQ HZ HL CP CW z1 z2 z3 z4 z5
    go_enter Try.func38, Try.ntmps38
    have hO := Own.nil w
    go_wp2_with (first
      | ((with_reducible refine (CA _ hO.below).mono ?_); rintro e u ⟨rfl, hb⟩; (replace hO := hO.step hb; clear hb))
      | (with_reducible refine stop_ret ?_)
      | ((with_reducible refine wpl_alloc ?_); refine wpList_alloc_own rfl (by rfl) hO rfl (fun b => by simp only [Act.put, zA, zB, zC]; rfl) ?_; (refine nm 1 rfl ?_; clear hO; intro b1 u hO); simp only [zL, zK] at hO)
      | ((with_reducible refine wpl_box ?_); refine wpList_box_own rfl (by rfl) hO rfl rfl (fun b => by simp only [Act.put, zA, zB, zC]; rfl) ?_; (refine nm 0 rfl ?_; clear hO; intro b0 u hO); simp only [zL, zK] at hO)
      | ((with_reducible refine wpl_load ?_); refine wpList_load_box rfl (by rfl) hO rfl _ (by exact at0) (by rfl) (by simp only [Act.put, zA, zB, zC]; rfl) ?_)
      | ((with_reducible refine wpl_load ?_); refine wpList_load_field rfl (by rfl) hO rfl _ (by exact at0) (by rfl) (by simp only [Act.put, zA, zB, zC]; rfl) ?_)
      | ((with_reducible refine wpl_store ?_); refine wpList_store_box rfl (by rfl) hO rfl _ (by exact at1) (by simp only [Act.eval, zJ, zF, zD, zE, zP]; rfl) (by rfl) (by rfl) (by rfl) (by rfl) (by rfl) ?_; clear hO; intro u hO; simp only [zC, zB] at hO)
      | fail)
    obtain ⟨F0, hvo0, hF⟩ := Own.vec0 u 0
    exact ⟨ret_box2 rfl hO rfl 1 at1 rfl rfl rfl ⟨_, _, by rw [HG.out]; rfl, by rw [HF.out]; exact hvo0, (hO.call hF).pick [0] (by decide)⟩⟩
  obtain ⟨m, rfl⟩ : ∃ m : Nat, n = m := ⟨n.toNat, by omega⟩
  obtain ⟨p, hp⟩ : ∃ p, m * L = p := ⟨_, rfl⟩
  have m40 : m ≤ 40 := by omega
  have hmul : (m : Int) * (L : Int) = (p : Int) := by rw [← hp, Int.natCast_mul]
  have hmul2 : (L : Int) * (m : Int) = (p : Int) := by rw [Int.mul_comm]; exact hmul
  have p1600 : p ≤ 1600 := by rw [← hp]; exact Nat.mul_le_mul m40 l40
  have hG : rpG (m : Int) L = decide (p ≤ 40) := by
    unfold rpG
    rw [hmul, decide_eq_true (by omega), decide_eq_true (by omega)]
    simp only [Bool.true_and]
    exact decide_eq_decide.2 (by omega)
  by_cases g3 : 40 < p
  · have gp : ¬ p ≤ 40 := by omega
    have HF : Hid (X = vecI 0 []) := Lib.hid (by rw [HT.out]; rw [hG, decide_eq_false gp]; simp [hk])
    have HG : Hid (Y = bigS) := Lib.hid (by rw [HS.out]; rw [hG, decide_eq_false gp]; simp [hk])
    clear HT HS KV HQ HZ HL CP CW z1 z2 z3 z4 z5
    clear gp hG hp
    go_enter Try.func38, Try.ntmps38
    have hO := Own.nil w
    go_wp2_with (first
      | ((with_reducible refine (CA _ hO.below).mono ?_); rintro e u ⟨rfl, hb⟩; (replace hO := hO.step hb; clear hb))
      | ((with_reducible refine (LA _).mono ?_); rintro e u ⟨rfl, hb⟩; (replace hO := hO.step hb; clear hb))
      | (with_reducible refine stop_ret ?_)
      | ((with_reducible refine wpl_alloc ?_); refine wpList_alloc_own rfl (by rfl) hO rfl (fun b => by simp only [Act.put, zA, zB, zC]; rfl) ?_; (refine nm 1 rfl ?_; clear hO; intro b1 u hO); simp only [zL, zK] at hO)
      | ((with_reducible refine wpl_box ?_); refine wpList_box_own rfl (by rfl) hO rfl rfl (fun b => by simp only [Act.put, zA, zB, zC]; rfl) ?_; (refine nm 0 rfl ?_; clear hO; intro b0 u hO); simp only [zL, zK] at hO)
      | ((with_reducible refine wpl_load ?_); refine wpList_load_box rfl (by (first | rfl | (simp only [Region.wanted, yielded, *]; go_simp; done) | fail)) hO rfl _ (by exact at0) (by rfl) (by simp only [Act.put, zA, zB, zC]; rfl) ?_)
      | ((with_reducible refine wpl_load ?_); refine wpList_load_field rfl (by rfl) hO rfl _ (by exact at0) (by rfl) (by simp only [Act.put, zA, zB, zC]; rfl) ?_)
      | ((with_reducible refine wpl_store ?_); refine wpList_store_box rfl (by rfl) hO rfl _ (by exact at1) (by simp only [Act.eval, zJ, zF, zD, zE, zP]; rfl) (by rfl) (by rfl) (by rfl) (by rfl) (by rfl) ?_; clear hO; intro u hO; simp only [zC, zB] at hO)
      | fail)
    obtain ⟨F0, hvo0, hF⟩ := Own.vec0 u 0
    exact ⟨ret_box2 rfl hO rfl 1 at1 rfl rfl rfl ⟨_, _, by rw [HG.out]; rfl, by rw [HF.out]; exact hvo0, (hO.call hF).pick [0] (by decide)⟩⟩
  have gp : p ≤ 40 := by omega
  have HT' : Hid (X = if isV (rpV (.mk k is ps ns cs ls c e) m) then rpV (.mk k is ps ns cs ls c e) m else vecI 0 []) := Lib.hid (by rw [HT.out, hG, decide_eq_true gp]; simp [hk])
  have HS' : Hid (Y = if isV (rpV (.mk k is ps ns cs ls c e) m) then ⟨#[]⟩ else bigS) := Lib.hid (by rw [HS.out, hG, decide_eq_true gp]; simp [hk])
  have hszR := rpV_sz m40 HZ.out
  have hq1 := HQ.out
  have hL := HL.out
  clear HT HS hG KV HQ HL
  have CF : ∀ (vs : List Value) (u : World), RdV u (rpV (.mk k is ps ns cs ls c e) m) vs → Calls Try.prog 66 #[.agg vs.toArray] u fun e' w' => e' = .returned (.tuple #[.agg (if isV (rpV (.mk k is ps ns cs ls c e) m) then vs else zero8).toArray, .string (if isV (rpV (.mk k is ps ns cs ls c e) m) then ⟨#[]⟩ else bigS)]) ∧ Below u.heap.size u w' := fun vs u h => impl_fitsG (rpV (.mk k is ps ns cs ls c e) m) vs u h hszR
  have HR : Hid (rpV (.mk k is ps ns cs ls c e) m = .mk k (rpN m is) (rpN m ps) (rpN m ns) (lvC cs ls) ls 0 0) := Lib.hid rfl
  obtain ⟨q, hq⟩ : ∃ q, isV (rpV (.mk k is ps ns cs ls c e) m) = q := ⟨_, rfl⟩
  rw [hq] at CF HT' HS'
  rw [HR.out] at CF HT'
  have f1 : is.length ≤ 1048576 := z1
  clear hq hszR HR hq1 hL hmul2 l40 hp
  have HM := Lib.hid m40
  have c1 : ∀ j : Nat, j ≤ m → (rpN j is).length ≤ 52428800 ∧ (rpN j ps).length ≤ 52428800 ∧ (rpN j ns).length ≤ 52428800 := fun j hj => by
    rw [rpN_len, rpN_len, rpN_len]
    have hj40 : j ≤ 50 := by have := HM.out; omega
    exact ⟨Nat.mul_le_mul hj40 z1, Nat.mul_le_mul hj40 z2, Nat.mul_le_mul hj40 z3⟩
  have HC1 := Lib.hid c1
  clear c1 f1
  go_enter Try.func38, Try.ntmps38
  have hO := Own.nil w
  go_wp2_with (first
    | ((with_reducible refine (CA _ hO.below).mono ?_); rintro e u ⟨rfl, hb⟩; (replace hO := hO.step hb; clear hb))
    | ((with_reducible refine (LA _).mono ?_); rintro e u ⟨rfl, hb⟩; (replace hO := hO.step hb; clear hb))
    | ((with_reducible refine wpl_alloc ?_); refine wpList_alloc_own rfl (by rfl) hO rfl (fun b => by simp only [Act.put, zA, zB, zC]; rfl) ?_; (refine nm 1 rfl ?_; clear hO; intro b1 u hO); simp only [zL, zK] at hO)
    | ((with_reducible refine wpl_box ?_); refine wpList_box_own rfl (by rfl) hO rfl rfl (fun b => by simp only [Act.put, zA, zB, zC]; rfl) ?_; (refine nm 0 rfl ?_; clear hO; intro b0 u hO); simp only [zL, zK] at hO)
    | ((with_reducible refine wpl_load ?_); refine wpList_load_box rfl (by (first | rfl | (simp only [Region.wanted, yielded, *]; go_simp; done) | fail)) hO rfl _ (by exact at0) (by rfl) (by simp only [Act.put, zA, zB, zC]; rfl) ?_)
    | ((with_reducible refine wpl_load ?_); refine wpList_load_field rfl (by rfl) hO rfl _ (by exact at0) (by rfl) (by simp only [Act.put, zA, zB, zC]; rfl) ?_)
    | fail)
  refine (CW _ hO.below).mono ?_
  rintro e u ⟨A4, A5, c4, c5, rfl, hb⟩
  replace hO := hO.call hb
  clear hb
  simp only [zK, zL] at hO
  clear CW
  go_wp2_with (first
    | ((with_reducible refine wpl_alloc ?_); refine wpList_alloc_own rfl (by rfl) hO rfl (fun b => by simp only [Act.put, zA, zB, zC]; rfl) ?_; (refine nm 4 rfl ?_; clear hO; intro b4 u hO); simp only [zL, zK] at hO)
    | ((with_reducible refine wpl_store ?_); refine wpList_store_box rfl (by rfl) hO rfl _ (by exact at4) (by simp only [Act.eval, zJ, zF, zD, zE, zP]; rfl) (by rfl) (by rfl) (by rfl) (by rfl) (by rfl) ?_; clear hO; intro u hO; simp only [zC, zB] at hO)
    | fail)
  replace hO := ((hO.addNil 83 3).addNil 29 8).addNil 9 1
  simp only [List.cons_append, List.nil_append] at hO
  replace hO := Own.pack (F := []) hO
  go_loopw [7] (fun i u => ∃ (j : Nat) (A1 A2 A3 : Option Addr) (c1 c2 c3 : Nat) (pvs : List (List Value)) (Ls : List (List Res)), j ≤ m ∧ i = .int .i64 j ∧ VL (rpN j ps) pvs Ls ∧ Own w [pack Ls.flatten, row 83 3 (.slice A1 (rpN j is).length c1) (rpN j is).length (itc (rpN j is)), row 29 8 (.slice A2 (rpN j ps).length c2) (rpN j ps).length pvs.flatten, row 9 1 (.slice A3 (rpN j ns).length c3) (rpN j ns).length (stc (rpN j ns)), row 9 1 (.slice A4 (lvC cs ls).length c4) (lvC cs ls).length (stc (lvC cs ls)), row 9 1 (.slice A5 ls.length c5) ls.length (stc ls), box b0 29 [.int .i64 k, .slice Ai is.length ci, .slice Ap ps.length cp, .slice An ns.length cn, .slice Ac cs.length cc, .slice Al ls.length cl, .int .i64 c, .int .i64 e], box b1 29 [.int .i64 0, .slice none 0 0, .slice none 0 0, .slice none 0 0, .slice none 0 0, .slice none 0 0, .int .i64 0, .int .i64 0], box b4 29 [.int .i64 k, .slice A1 (rpN j is).length c1, .slice A2 (rpN j ps).length c2, .slice A3 (rpN j ns).length c3, .slice A4 (lvC cs ls).length c4, .slice A5 ls.length c5, .int .i64 0, .int .i64 0]] u) (fun i _ => m - (intOf i).toNat)
  case atStart => exact ⟨0, none, none, none, 0, 0, 0, [], [], Nat.zero_le _, rfl, VL.nil, hO.pick [0, 6, 7, 8, 1, 2, 3, 4, 5] (by decide)⟩
  case round =>
    clear hO
    obtain ⟨j, A1, A2, A3, c1, c2, c3, pvs, Ls, hj, rfl, hvl, hO⟩ := hrel
    by_cases hlt : j < m
    · have i1 : (j : Int) < (m : Int) := by omega
      obtain ⟨lI, lP, lN⟩ := HC1.out j hj
      have S1 := Lib.hid (rpN_succ j is)
      have S2 := Lib.hid (rpN_succ j ps)
      have S3 := Lib.hid (rpN_succ j ns)
      obtain ⟨I, hI⟩ : ∃ I, rpN j is = I := ⟨_, rfl⟩
      obtain ⟨P, hP⟩ : ∃ P, rpN j ps = P := ⟨_, rfl⟩
      obtain ⟨N, hN⟩ : ∃ N, rpN j ns = N := ⟨_, rfl⟩
      rw [hI] at hO lI S1
      rw [hP] at hO lP S2 hvl
      rw [hN] at hO lN S3
      clear hI hP hN
      go_wp2_with (first
        | ((with_reducible refine wpl_load ?_); refine wpList_load_box rfl (by rfl) hO rfl _ (by exact at6) (by rfl) (by simp only [Act.put, zA, zB, zC]; rfl) ?_)
        | fail)
      refine (CP _ hO.below).mono ?_
      rintro e u ⟨Ci, Cp, Cn, Cc, Cl, ri, rp, rn, rc, rl', F1, rfl, hvo1, hb⟩
      replace hO := hO.call hb
      clear hb
      simp only [zK, zL] at hO
      have hX := hO.openV hvo1
      clear hO hvo1
      obtain ⟨pvs1, Ls1, hvl1, hO⟩ := hX
      replace hO := hO.pick [6, 5, 0, 1, 2, 7, 8, 9, 10, 11, 12, 13, 14] (by decide)
      simp only [zN, zO, zE, zD] at hO
      replace hO := hO.merge
      go_wp2_with (first
        | ((with_reducible refine wpl_alloc ?_); refine wpList_alloc_own rfl (by rfl) hO rfl (fun b => by simp only [Act.put, zA, zB, zC]; rfl) ?_; (refine nm 12 rfl ?_; clear hO; intro b12 u hO); simp only [zL, zK] at hO)
        | ((with_reducible refine wpl_load ?_); refine wpList_load_field rfl (by rfl) hO rfl _ (by (first | exact at11 | exact at12 | fail)) (by rfl) (by simp only [Act.put, zA, zB, zC]; rfl) ?_)
        | ((with_reducible refine wpl_store ?_); refine wpList_store_box rfl (by rfl) hO rfl _ (by exact at12) (by simp only [Act.eval, zJ, zF, zD, zE, zP]; rfl) (by rfl) (by rfl) (by rfl) (by rfl) (by rfl) ?_; clear hO; intro u hO; simp only [zC, zB] at hO)
        | ((with_reducible refine wpl_store ?_); refine wpList_store_field rfl (by rfl) hO rfl _ (by exact at11) (zM rfl) (by simp only [Act.eval, zJ, zF, zD, zE, zP]; rfl) (by rfl) (by rfl) (by rfl) ?_; clear hO; intro u hO; simp only [zC, zB] at hO)
        | ((with_reducible refine wpl_append ?_); refine wpList_append_src hO rfl (by rfl) rfl rfl _ (by (first | exact at4 | exact at5 | exact at6 | fail)) ((hO.row_sl 1 rfl)) (itc_one _) (by omega) (by omega) rfl (fun A' c' => by simp only [Act.put, zA, zB, zC]; rfl) ?_; clear hO; intro A' c' u hO; simp only [zC, zB, Nat.zero_add, zL] at hO; (try simp only [Nat.zero_add]))
        | ((with_reducible refine wpl_append ?_); refine wpList_append_src hO rfl (by rfl) rfl rfl _ (by (first | exact at5 | exact at6 | fail)) ((hO.row_sl 2 rfl)) (hvl1.one8) (by omega) (by omega) rfl (fun A' c' => by simp only [Act.put, zA, zB, zC]; rfl) ?_; clear hO; intro A' c' u hO; simp only [zC, zB, Nat.zero_add, zL] at hO; (try simp only [Nat.zero_add]))
        | ((with_reducible refine wpl_append ?_); refine wpList_append_src hO rfl (by rfl) rfl rfl _ (by exact at6) ((hO.row_sl 3 rfl)) (stc_one _) (by omega) (by omega) rfl (fun A' c' => by simp only [Act.put, zA, zB, zC]; rfl) ?_; clear hO; intro A' c' u hO; simp only [zC, zB, Nat.zero_add, zL] at hO; (try simp only [Nat.zero_add]))
        | fail)
      replace hO := hO.pick [0, 4, 5, 6, 7, 8, 9, 10, 11] (by decide)
      simp only [zN, zO, zE, zD] at hO
      have L1 : (rpN (j + 1) is).length = I.length + is.length := by rw [S1.out, List.length_append]
      have L2 : (rpN (j + 1) ps).length = P.length + ps.length := by rw [S2.out, List.length_append]
      have L3 : (rpN (j + 1) ns).length = N.length + ns.length := by rw [S3.out, List.length_append]
      rw [← L1, ← L2, ← L3, ← List.flatten_append, ← List.flatten_append, ← itc_app, ← stc_app, ← S1.out, ← S3.out] at hO
      go_roundw
      case rel => exact ⟨j + 1, _, _, _, _, _, _, _, _, by omega, by go_num, by rw [S2.out]; exact hvl.app hvl1, hO⟩
      case measure => simp [intOf]; omega
    · have hjm : j = m := by omega
      subst hjm
      clear HC1 HM CP hlt hj
      go_wp2_with (first
        | ((with_reducible refine wpl_load ?_); refine wpList_load_box rfl (by rfl) hO rfl _ (by exact at8) (by rfl) (by simp only [Act.put, zA, zB, zC]; rfl) ?_)
        | fail)
      replace hO := hO.pick [1, 2, 3, 4, 5, 0, 6, 7, 8] (by decide)
      simp only [zN, zO, zE, zD] at hO
      have hX : ∃ F, VO (.mk k (rpN j is) (rpN j ps) (rpN j ns) (lvC cs ls) ls 0 0) [.int .i64 k, .slice A1 (rpN j is).length c1, .slice A2 (rpN j ps).length c2, .slice A3 (rpN j ns).length c3, .slice A4 (lvC cs ls).length c4, .slice A5 ls.length c5, .int .i64 0, .int .i64 0] F ∧ Own w (pack F :: [box b0 29 [.int .i64 k, .slice Ai is.length ci, .slice Ap ps.length cp, .slice An ns.length cn, .slice Ac cs.length cc, .slice Al ls.length cl, .int .i64 c, .int .i64 e], box b1 29 [.int .i64 0, .slice none 0 0, .slice none 0 0, .slice none 0 0, .slice none 0 0, .slice none 0 0, .int .i64 0, .int .i64 0], box b4 29 [.int .i64 k, .slice A1 (rpN j is).length c1, .slice A2 (rpN j ps).length c2, .slice A3 (rpN j ns).length c3, .slice A4 (lvC cs ls).length c4, .slice A5 ls.length c5, .int .i64 0, .int .i64 0]]) wr := ⟨_, VO.close hvl, Own.packs' [_, _, _, _, _] hO⟩
      clear hO hvl
      obtain ⟨F, hvo, hO⟩ := hX
      cases q with
      | true =>
        have HF : Hid (X = .mk k (rpN j is) (rpN j ps) (rpN j ns) (lvC cs ls) ls 0 0) := Lib.hid (by rw [HT'.out, if_pos rfl])
        have HG : Hid (Y = ⟨#[]⟩) := Lib.hid (by rw [HS'.out, if_pos rfl])
        simp only [if_true] at CF
        clear HT' HS'
        go_wp2_with (first
          | ((with_reducible refine (CF _ _ (hO.rdp 0 rfl hvo)).mono ?_); rintro e u ⟨rfl, hb⟩; (replace hO := hO.step hb; clear hb))
          | (with_reducible refine stop_ret ?_)
          | ((with_reducible refine wpl_store ?_); refine wpList_store_box rfl (by rfl) hO rfl _ (by exact at2) (by simp only [Act.eval, zJ, zF, zD, zE, zP]; rfl) (by rfl) (by rfl) (by rfl) (by rfl) (by rfl) ?_; clear hO; intro u hO; simp only [zC, zB] at hO)
          | fail)
        exact ⟨ret_box2 rfl hO rfl 2 at2 rfl rfl rfl ⟨_, _, by rw [HG.out]; rfl, by rw [HF.out]; exact hvo, hO.pick [0] (by decide)⟩⟩
      | false =>
        have HF : Hid (X = vecI 0 []) := Lib.hid (by rw [HT'.out]; rfl)
        have HG : Hid (Y = bigS) := Lib.hid (by rw [HS'.out]; rfl)
        simp only [Bool.false_eq_true, if_false] at CF
        clear HT' HS'
        go_wp2_with (first
          | ((with_reducible refine (CF _ _ (hO.rdp 0 rfl hvo)).mono ?_); rintro e u ⟨rfl, hb⟩; (replace hO := hO.step hb; clear hb))
          | (with_reducible refine stop_ret ?_)
          | ((with_reducible refine wpl_store ?_); refine wpList_store_box rfl (by rfl) hO rfl _ (by exact at2) (by simp only [Act.eval, zJ, zF, zD, zE, zP]; rfl) (by rfl) (by rfl) (by rfl) (by rfl) (by rfl) ?_; clear hO; intro u hO; simp only [zC, zB] at hO)
          | fail)
        obtain ⟨F0, hvo0, hF⟩ := Own.vec0 u 0
        exact ⟨ret_box2 rfl hO rfl 2 at2 rfl rfl rfl ⟨_, _, by rw [HG.out]; rfl, by rw [HF.out]; exact hvo0, (hO.call hF).pick [0] (by decide)⟩⟩

theorem rp_names {ns : List ByteArray} (h : ns.length = 0 ∨ allE ns = false) (n : Nat) : tdN (rpN n ns) = rpN n ns := by
  rcases h with h | h
  · rw [List.length_eq_zero_iff.1 h, rpN_nil]
    rfl
  · cases n with
    | zero => rfl
    | succ n =>
      unfold tdN
      rw [if_neg]
      intro h2
      rw [rpN_succ] at h2
      unfold allE at h h2
      rw [List.all_append, Bool.and_eq_true] at h2
      rw [h] at h2
      exact absurd h2.2 (by decide)
theorem rp_step {α : Type} {n L m j : Nat} {l : List α} (hl : l.length = L) (hm : m < n * L) (hj : m % L = j) (h : j < l.length) : (rpN n l).take (m + 1) = (rpN n l).take m ++ [l[j]] := by
  subst hl
  subst hj
  exact take_snocR (by rw [rpN_len]; exact hm) (rpN_get n l m hm h)
theorem rp_step0 {α : Type} {n m : Nat} {l : List α} (hl : l = []) : (rpN n l).take (m + 1) = (rpN n l).take m := by
  subst hl
  rw [rpN_nil, List.take_nil, List.take_nil]
theorem rp_full {α : Type} {n L : Nat} {l : List α} (hl : l.length = L ∨ l = []) {m : Nat} (hm : n * L = m) : (rpN n l).take m = rpN n l := by
  rcases hl with hl | hl
  · rw [List.take_of_length_le]
    rw [rpN_len, hl, hm]
    exact Nat.le_refl _
  · subst hl
    rw [rpN_nil, List.take_nil]

set_option maxRecDepth 20000 in
set_option maxHeartbeats 8000000 in
theorem spec_pick (k : Int) (is : List It) (ps : List VT) (ns cs ls : List ByteArray) (c e : Int) (n : Nat) (vs : List Value) (A : Option Addr) (ca T : Nat) (w : World) (hv : RdV w (.mk k is ps ns cs ls c e) vs) (hV : isV (.mk k is ps ns cs ls c e) = true) (h5 : k ≠ 5) (hz : szV (.mk k is ps ns cs ls c e) ≤ 1048576) (L : Nat) (hL : lenN k is.length ps.length = L) (hT : n * L = T) (h40 : T ≤ 40) (hA : Sl w 1 A T (ints (rqL L T))) : Calls Try.prog 105 #[.agg vs.toArray, .slice A T ca] w (RetV (rpV (.mk k is ps ns cs ls c e) n) w) := by
  obtain ⟨b1, b2, b3, b4, b5, b6, b7, b8, b9, b10, b11, b12⟩ := node_facts (isV_node hV)
  have HP := Lib.hid (isV_parts hV).2
  have HRP := Lib.hid (rp_names (b3.imp id (fun h => h.2)) n)
  have HSZ := Lib.hid hz
  have HT0 : szV (.mk k is ps ns cs ls c e) = szI is + szL ps + szS ns + szS cs + szS ls := rfl
  have hzp := szL_eq ps
  unfold szI szS at HT0
  have z1 : is.length ≤ 1048576 := by omega
  have z2 : ps.length ≤ 1048576 := by omega
  have z3 : ns.length ≤ 1048576 := by omega
  have z4 : cs.length ≤ 1048576 := by omega
  have z5 : ls.length ≤ 1048576 := by omega
  have HPL := Lib.hid (show szL ps ≤ 1048576 by omega)
  rw [hL] at b2 b3
  have hL2 : is.length + ps.length = L := by rw [← hL]; unfold lenN; rw [if_neg h5]
  have HI4 : Hid (k = 4 → is = []) := Lib.hid (fun h => by
    cases hq : is with
    | nil => rfl
    | cons x l =>
      have := b7 x (by rw [hq]; exact List.mem_cons_self)
      unfold itB at this
      simp only [Bool.and_eq_true, decide_eq_true_eq] at this
      omega)
  have HP4 : Hid (k ≠ 4 → ps = []) := Lib.hid (fun h => by
    rcases b8 with h' | h'
    · exact List.length_eq_zero_iff.1 h'
    · exact absurd h' h)
  have HNN : Hid (ns.length = 0 ∨ ns.length = L) := Lib.hid (b3.imp id (fun h => h.1))
  have LA := fun (Ai Ap : Option Addr) (ci cp : Nat) (v3 v4 v5 : Value) u => spec_len k Ai Ap is.length ps.length ci cp v3 v4 v5 (.int .i64 c) (.int .i64 e) u (by omega)
  rw [hL] at LA
  have HC : ∀ m : Nat, ((rpN n is).take m).length ≤ m ∧ ((rpN n ps).take m).length ≤ m ∧ ((rpN n ns).take m).length ≤ m := fun m => ⟨by rw [List.length_take]; omega, by rw [List.length_take]; omega, by rw [List.length_take]; omega⟩
  have HCL := Lib.hid HC
  have HTT := Lib.hid hT
  have L40 := b2
  have HLL := Lib.hid hL2
  have HR : Hid (rpV (.mk k is ps ns cs ls c e) n = .mk k (rpN n is) (rpN n ps) (rpN n ns) (lvC cs ls) ls 0 0) := Lib.hid rfl
  have CLEAN := fun (Ai Ap An Ac Al : Option Addr) (ni ci np cp cn nc cc nl cl : Nat) u (h : Sl u 1 An (rpN n ns).length (stc (rpN n ns))) => spec_clean k Ai Ap An Ac Al ni ci np cp cn nc cc nl cl 0 0 (rpN n ns) u h (by
    have h1 := (HC T).2.2
    have h2 : ((rpN n ns).take T) = rpN n ns := rp_full (L := L) (by rcases HNN.out with h | h; exact .inr (List.length_eq_zero_iff.1 h); exact .inl h) hT
    rw [h2] at h1
    omega)
  obtain ⟨Ai, Ap, An, Ac, Al, ci, cp, cn, cc, cl, pvs0, rfl, h1, h2, h3, h4, h5'⟩ := hv.open
  replace LA := fun u => LA Ai Ap ci cp (.slice An ns.length cn) (.slice Ac cs.length cc) (.slice Al ls.length cl) u
  clear HC b1 b2 b3 b4 b5 b6 b7 b8 b9 b10 b11 b12 hv hV hz HT0 hzp hL hL2 hT h5
  go_enter Try.func105, Try.ntmps105
  have hO := Own.nil w
  go_upto_if 15 with (first
    | ((with_reducible refine wpl_alloc ?_); refine wpList_alloc_own rfl (by rfl) hO rfl (fun b => by simp only [Act.put, zA, zB, zC]; rfl) ?_; (first | (refine nm 1 rfl ?_; clear hO; intro b1 u hO) | (refine nm 2 rfl ?_; clear hO; intro b2 u hO) | fail); simp only [zL, zK] at hO)
    | ((with_reducible refine wpl_box ?_); refine wpList_box_own rfl (by rfl) hO rfl rfl (fun b => by simp only [Act.put, zA, zB, zC]; rfl) ?_; (refine nm 0 rfl ?_; clear hO; intro b0 u hO); simp only [zL, zK] at hO)
    | ((with_reducible refine wpl_load ?_); refine wpList_load_field rfl (by rfl) hO rfl _ (by exact at0) (by rfl) (by simp only [Act.put, zA, zB, zC]; rfl) ?_)
    | ((with_reducible refine wpl_store ?_); refine wpList_store_box rfl (by rfl) hO rfl _ (by exact at2) (by simp only [Act.eval, zJ, zF, zD, zE, zP]; rfl) (by rfl) (by rfl) (by rfl) (by rfl) (by rfl) ?_; clear hO; intro u hO; simp only [zC, zB] at hO)
    | fail)
  go_cut [] from 6 (fun u => ∃ (A4 A5 : Option Addr) (c4 c5 : Nat), Own w [row 9 1 (.slice A4 (lvC cs ls).length c4) (lvC cs ls).length (stc (lvC cs ls)), row 9 1 (.slice A5 ls.length c5) ls.length (stc ls), box b0 29 [.int .i64 k, .slice Ai is.length ci, .slice Ap ps.length cp, .slice An ns.length cn, .slice Ac cs.length cc, .slice Al ls.length cl, .int .i64 c, .int .i64 e], box b1 29 [.int .i64 0, .slice none 0 0, .slice none 0 0, .slice none 0 0, .slice none 0 0, .slice none 0 0, .int .i64 0, .int .i64 0], box b2 29 [.int .i64 k, .slice none 0 0, .slice none 0 0, .slice none 0 0, .slice A4 (lvC cs ls).length c4, .slice A5 ls.length c5, .int .i64 0, .int .i64 0]] u)
  case first =>
    by_cases hl : ls.length = 0
    · have e : ls = [] := List.length_eq_zero_iff.1 hl
      subst e
      have e1 : lvC cs [] = [] := rfl
      go_wp2_with (first
        | (with_reducible refine stop_ret ?_)
        | ((with_reducible refine wpl_alloc ?_); refine wpList_alloc_own rfl (by rfl) hO rfl (fun b => by simp only [Act.put, zA, zB, zC]; rfl) ?_; (first | (refine nm 0 rfl ?_; clear hO; intro b0 u hO) | (refine nm 1 rfl ?_; clear hO; intro b1 u hO) | (refine nm 2 rfl ?_; clear hO; intro b2 u hO) | (refine nm 3 rfl ?_; clear hO; intro b3 u hO) | (refine nm 4 rfl ?_; clear hO; intro b4 u hO) | (refine nm 5 rfl ?_; clear hO; intro b5 u hO) | (refine nm 6 rfl ?_; clear hO; intro b6 u hO) | (refine nm 7 rfl ?_; clear hO; intro b7 u hO) | (refine nm 8 rfl ?_; clear hO; intro b8 u hO) | (refine nm 9 rfl ?_; clear hO; intro b9 u hO) | (refine nm 10 rfl ?_; clear hO; intro b10 u hO) | (refine nm 11 rfl ?_; clear hO; intro b11 u hO)); simp only [zL, zK] at hO)
        | ((with_reducible refine wpl_box ?_); refine wpList_box_own rfl (by rfl) hO rfl rfl (fun b => by simp only [Act.put, zA, zB, zC]; rfl) ?_; (first | (refine nm 0 rfl ?_; clear hO; intro b0 u hO) | (refine nm 1 rfl ?_; clear hO; intro b1 u hO) | (refine nm 2 rfl ?_; clear hO; intro b2 u hO) | (refine nm 3 rfl ?_; clear hO; intro b3 u hO) | (refine nm 4 rfl ?_; clear hO; intro b4 u hO) | (refine nm 5 rfl ?_; clear hO; intro b5 u hO) | (refine nm 6 rfl ?_; clear hO; intro b6 u hO) | (refine nm 7 rfl ?_; clear hO; intro b7 u hO) | (refine nm 8 rfl ?_; clear hO; intro b8 u hO) | (refine nm 9 rfl ?_; clear hO; intro b9 u hO) | (refine nm 10 rfl ?_; clear hO; intro b10 u hO) | (refine nm 11 rfl ?_; clear hO; intro b11 u hO)); simp only [zL, zK] at hO)
        | ((with_reducible refine wpl_load ?_); refine wpList_load_box rfl (by (first | rfl | (simp only [Region.wanted, yielded, *]; go_simp; done) | (simp [Region.wanted, yielded, *]; done) | fail)) hO rfl _ (by (first | exact at0 | exact at1 | exact at2 | exact at3 | exact at4 | exact at5 | exact at6 | exact at7 | exact at8 | exact at9 | exact at10 | exact at11)) (by rfl) (by simp only [Act.put, zA, zB, zC]; rfl) ?_)
        | ((with_reducible refine wpl_load ?_); refine wpList_load_field rfl (by (first | rfl | (simp only [Region.wanted, yielded, *]; go_simp; done) | (simp [Region.wanted, yielded, *]; done) | fail)) hO rfl _ (by (first | exact at0 | exact at1 | exact at2 | exact at3 | exact at4 | exact at5 | exact at6 | exact at7 | exact at8 | exact at9 | exact at10 | exact at11)) (by rfl) (by simp only [Act.put, zA, zB, zC]; rfl) ?_)
        | ((with_reducible refine wpl_store ?_); refine wpList_store_box rfl (by rfl) hO rfl _ (by (first | exact at0 | exact at1 | exact at2 | exact at3 | exact at4 | exact at5 | exact at6 | exact at7 | exact at8 | exact at9 | exact at10 | exact at11)) (by simp only [Act.eval, zJ, zF, zD, zE, zP]; rfl) (by rfl) (by rfl) (by rfl) (by rfl) (by rfl) ?_; clear hO; intro u hO; simp only [zC, zB] at hO)
        | ((with_reducible refine wpl_store ?_); refine wpList_store_field rfl (by rfl) hO rfl _ (by (first | exact at0 | exact at1 | exact at2 | exact at3 | exact at4 | exact at5 | exact at6 | exact at7 | exact at8 | exact at9 | exact at10 | exact at11)) (zM rfl) (by simp only [Act.eval, zJ, zF, zD, zE, zP]; rfl) (by rfl) (by rfl) (by rfl) ?_; clear hO; intro u hO; simp only [zC, zB] at hO)
        | ((with_reducible refine wpl_call ?_); refine wpList_append_str hO rfl (by rfl) rfl rfl _ (by (first | exact at0 | exact at1 | exact at2 | exact at3 | exact at4 | exact at5 | exact at6 | exact at7 | exact at8 | exact at9 | exact at10 | exact at11)) (by omega) rfl (fun A' c' => by simp only [Act.put, zA, zB, zC]; rfl) ?_; clear hO; intro A' c' u hO; simp only [zC, zB] at hO)
        | ((with_reducible refine wpl_call ?_); refine wpList_append_lit hO rfl (by rfl) rfl rfl _ (by (first | exact at0 | exact at1 | exact at2 | exact at3 | exact at4 | exact at5 | exact at6 | exact at7 | exact at8 | exact at9 | exact at10 | exact at11)) (by rfl) (by simp [Value.oneCell']) (by omega) (by omega) rfl (fun A' c' => by simp only [Act.put, zA, zB, zC]; rfl) ?_; clear hO; intro A' c' u hO; simp only [zC, zB] at hO)
        | ((with_reducible refine wpl_build ?_); refine wpList_build_row0 hO rfl (by rfl) rfl (fun b => by simp only [Act.put, zA, zB, zC]; rfl) ?_; clear hO; intro bb u hO; simp only [zL, zK] at hO)
        | ((with_reducible refine wpl_append ?_); refine wpList_append_src hO rfl (by rfl) rfl rfl _ (by (first | exact at0 | exact at1 | exact at2 | exact at3 | exact at4 | exact at5 | exact at6 | exact at7 | exact at8 | exact at9 | exact at10 | exact at11 | exact at12)) ((h4.below hO.below)) (stc_one _) (by omega) (by omega) rfl (fun A' c' => by simp only [Act.put, zA, zB, zC]; rfl) ?_; clear hO; intro A' c' u hO; simp only [zC, zB, Nat.zero_add, zL] at hO; (try simp only [Nat.zero_add]))
        | ((with_reducible refine wpl_append ?_); refine wpList_append_src hO rfl (by rfl) rfl rfl _ (by (first | exact at0 | exact at1 | exact at2 | exact at3 | exact at4 | exact at5 | exact at6 | exact at7 | exact at8 | exact at9 | exact at10 | exact at11 | exact at12)) ((h5'.below hO.below)) (stc_one _) (by omega) (by omega) rfl (fun A' c' => by simp only [Act.put, zA, zB, zC]; rfl) ?_; clear hO; intro A' c' u hO; simp only [zC, zB, Nat.zero_add, zL] at hO; (try simp only [Nat.zero_add]))
        | ((with_reducible refine wpl_build ?_); refine wpList_build_list (cs := []) hO rfl (by rfl) [] (by rfl) (by rfl) rfl (zM rfl) (by rfl) rfl (fun b => by simp only [Act.put, zA, zB, zC]; rfl) ?_; clear hO; intro bb u hO; simp only [zL, zK] at hO)
        | ((with_reducible refine wpl_build ?_); refine wpList_build_list (cs := [.string ⟨#[60, 78, 65, 62]⟩]) hO rfl (by rfl) [.string ⟨#[60, 78, 65, 62]⟩] (by rfl) (by rfl) rfl (zM rfl) (by rfl) rfl (fun b => by simp only [Act.put, zA, zB, zC]; rfl) ?_; clear hO; intro bb u hO; simp only [zL, zK] at hO)
        | ((with_reducible refine wpl_append ?_); refine wpList_append_box hO rfl (by rfl) rfl rfl _ (by (first | exact at0 | exact at1 | exact at2 | exact at3 | exact at4 | exact at5 | exact at6 | exact at7 | exact at8 | exact at9 | exact at10 | exact at11 | exact at12)) _ (by (first | exact at0 | exact at1 | exact at2 | exact at3 | exact at4 | exact at5 | exact at6 | exact at7 | exact at8 | exact at9 | exact at10 | exact at11 | exact at12)) (by rfl) (by simp [Value.oneCell']) (by omega) (by omega) rfl (fun A' c' => by simp only [Act.put, zA, zB, zC]; rfl) ?_; clear hO; intro A' c' u hO; simp only [zC, zB] at hO)
        | fail)
      go_meet
      case rel => exact ⟨none, none, 0, 0, ((hO.addNil 9 1).addNil 9 1).pick [3, 4, 0, 1, 2] (by decide)⟩
    · have e1 : Hid (lvC cs ls = cs) := Lib.hid (if_neg hl)
      have i1 : (0 : Int) < (ls.length : Int) := by omega
      go_wp2_with (first
        | ((with_reducible refine wpl_load ?_); refine wpList_load_field rfl (by rfl) hO rfl _ (by exact at0) (by rfl) (by simp only [Act.put, zA, zB, zC]; rfl) ?_)
        | ((with_reducible refine wpl_store ?_); refine wpList_store_field rfl (by rfl) hO rfl _ (by exact at2) (zM rfl) (by simp only [Act.eval, zJ, zF, zD, zE, zP]; rfl) (by rfl) (by rfl) (by rfl) ?_; clear hO; intro u hO; simp only [zC, zB] at hO)
        | ((with_reducible refine wpl_build ?_); refine wpList_build_row0 hO rfl (by rfl) rfl (fun b => by simp only [Act.put, zA, zB, zC]; rfl) ?_; clear hO; intro bb u hO; simp only [zL, zK] at hO)
        | ((with_reducible refine wpl_append ?_); refine wpList_append_src hO rfl (by rfl) rfl rfl _ (by (first | exact at3 | exact at4 | fail)) ((h4.below hO.below)) (stc_one _) (by omega) (by omega) rfl (fun A' c' => by simp only [Act.put, zA, zB, zC]; rfl) ?_; clear hO; intro A' c' u hO; simp only [zC, zB, Nat.zero_add, zL] at hO; (try simp only [Nat.zero_add]))
        | ((with_reducible refine wpl_append ?_); refine wpList_append_src hO rfl (by rfl) rfl rfl _ (by exact at4) ((h5'.below hO.below)) (stc_one _) (by omega) (by omega) rfl (fun A' c' => by simp only [Act.put, zA, zB, zC]; rfl) ?_; clear hO; intro A' c' u hO; simp only [zC, zB, Nat.zero_add, zL] at hO; (try simp only [Nat.zero_add]))
        | fail)
      go_meet
      case rel =>
        have e2 := e1.out
        rw [e2]
        exact ⟨_, _, _, _, hO.pick [3, 4, 0, 1, 2] (by decide)⟩
  case rest =>
    clear hO h4 h5'
    obtain ⟨A4, A5, c4, c5, hO⟩ := hcut
    go_wp2_with (first
      | (with_reducible refine stop_ret ?_)
      | ((with_reducible refine wpl_alloc ?_); refine wpList_alloc_own rfl (by rfl) hO rfl (fun b => by simp only [Act.put, zA, zB, zC]; rfl) ?_; (first | (refine nm 0 rfl ?_; clear hO; intro b0 u hO) | (refine nm 1 rfl ?_; clear hO; intro b1 u hO) | (refine nm 2 rfl ?_; clear hO; intro b2 u hO) | (refine nm 3 rfl ?_; clear hO; intro b3 u hO) | (refine nm 4 rfl ?_; clear hO; intro b4 u hO) | (refine nm 5 rfl ?_; clear hO; intro b5 u hO) | (refine nm 6 rfl ?_; clear hO; intro b6 u hO) | (refine nm 7 rfl ?_; clear hO; intro b7 u hO) | (refine nm 8 rfl ?_; clear hO; intro b8 u hO) | (refine nm 9 rfl ?_; clear hO; intro b9 u hO) | (refine nm 10 rfl ?_; clear hO; intro b10 u hO) | (refine nm 11 rfl ?_; clear hO; intro b11 u hO)); simp only [zL, zK] at hO)
      | ((with_reducible refine wpl_box ?_); refine wpList_box_own rfl (by rfl) hO rfl rfl (fun b => by simp only [Act.put, zA, zB, zC]; rfl) ?_; (first | (refine nm 0 rfl ?_; clear hO; intro b0 u hO) | (refine nm 1 rfl ?_; clear hO; intro b1 u hO) | (refine nm 2 rfl ?_; clear hO; intro b2 u hO) | (refine nm 3 rfl ?_; clear hO; intro b3 u hO) | (refine nm 4 rfl ?_; clear hO; intro b4 u hO) | (refine nm 5 rfl ?_; clear hO; intro b5 u hO) | (refine nm 6 rfl ?_; clear hO; intro b6 u hO) | (refine nm 7 rfl ?_; clear hO; intro b7 u hO) | (refine nm 8 rfl ?_; clear hO; intro b8 u hO) | (refine nm 9 rfl ?_; clear hO; intro b9 u hO) | (refine nm 10 rfl ?_; clear hO; intro b10 u hO) | (refine nm 11 rfl ?_; clear hO; intro b11 u hO)); simp only [zL, zK] at hO)
      | ((with_reducible refine wpl_load ?_); refine wpList_load_box rfl (by (first | rfl | (simp only [Region.wanted, yielded, *]; go_simp; done) | (simp [Region.wanted, yielded, *]; done) | fail)) hO rfl _ (by (first | exact at0 | exact at1 | exact at2 | exact at3 | exact at4 | exact at5 | exact at6 | exact at7 | exact at8 | exact at9 | exact at10 | exact at11)) (by rfl) (by simp only [Act.put, zA, zB, zC]; rfl) ?_)
      | ((with_reducible refine wpl_load ?_); refine wpList_load_field rfl (by (first | rfl | (simp only [Region.wanted, yielded, *]; go_simp; done) | (simp [Region.wanted, yielded, *]; done) | fail)) hO rfl _ (by (first | exact at0 | exact at1 | exact at2 | exact at3 | exact at4 | exact at5 | exact at6 | exact at7 | exact at8 | exact at9 | exact at10 | exact at11)) (by rfl) (by simp only [Act.put, zA, zB, zC]; rfl) ?_)
      | ((with_reducible refine wpl_store ?_); refine wpList_store_box rfl (by rfl) hO rfl _ (by (first | exact at0 | exact at1 | exact at2 | exact at3 | exact at4 | exact at5 | exact at6 | exact at7 | exact at8 | exact at9 | exact at10 | exact at11)) (by simp only [Act.eval, zJ, zF, zD, zE, zP]; rfl) (by rfl) (by rfl) (by rfl) (by rfl) (by rfl) ?_; clear hO; intro u hO; simp only [zC, zB] at hO)
      | ((with_reducible refine wpl_store ?_); refine wpList_store_field rfl (by rfl) hO rfl _ (by (first | exact at0 | exact at1 | exact at2 | exact at3 | exact at4 | exact at5 | exact at6 | exact at7 | exact at8 | exact at9 | exact at10 | exact at11)) (zM rfl) (by simp only [Act.eval, zJ, zF, zD, zE, zP]; rfl) (by rfl) (by rfl) (by rfl) ?_; clear hO; intro u hO; simp only [zC, zB] at hO)
      | ((with_reducible refine wpl_call ?_); refine wpList_append_str hO rfl (by rfl) rfl rfl _ (by (first | exact at0 | exact at1 | exact at2 | exact at3 | exact at4 | exact at5 | exact at6 | exact at7 | exact at8 | exact at9 | exact at10 | exact at11)) (by omega) rfl (fun A' c' => by simp only [Act.put, zA, zB, zC]; rfl) ?_; clear hO; intro A' c' u hO; simp only [zC, zB] at hO)
      | ((with_reducible refine wpl_call ?_); refine wpList_append_lit hO rfl (by rfl) rfl rfl _ (by (first | exact at0 | exact at1 | exact at2 | exact at3 | exact at4 | exact at5 | exact at6 | exact at7 | exact at8 | exact at9 | exact at10 | exact at11)) (by rfl) (by simp [Value.oneCell']) (by omega) (by omega) rfl (fun A' c' => by simp only [Act.put, zA, zB, zC]; rfl) ?_; clear hO; intro A' c' u hO; simp only [zC, zB] at hO)
      | ((with_reducible refine wpl_build ?_); refine wpList_build_row0 hO rfl (by rfl) rfl (fun b => by simp only [Act.put, zA, zB, zC]; rfl) ?_; clear hO; intro bb u hO; simp only [zL, zK] at hO)
      | ((with_reducible refine wpl_append ?_); refine wpList_append_src hO rfl (by rfl) rfl rfl _ (by (first | exact at0 | exact at1 | exact at2 | exact at3 | exact at4 | exact at5 | exact at6 | exact at7 | exact at8 | exact at9 | exact at10 | exact at11 | exact at12)) ((h4.below hO.below)) (stc_one _) (by omega) (by omega) rfl (fun A' c' => by simp only [Act.put, zA, zB, zC]; rfl) ?_; clear hO; intro A' c' u hO; simp only [zC, zB, Nat.zero_add, zL] at hO; (try simp only [Nat.zero_add]))
      | ((with_reducible refine wpl_append ?_); refine wpList_append_src hO rfl (by rfl) rfl rfl _ (by (first | exact at0 | exact at1 | exact at2 | exact at3 | exact at4 | exact at5 | exact at6 | exact at7 | exact at8 | exact at9 | exact at10 | exact at11 | exact at12)) ((h5'.below hO.below)) (stc_one _) (by omega) (by omega) rfl (fun A' c' => by simp only [Act.put, zA, zB, zC]; rfl) ?_; clear hO; intro A' c' u hO; simp only [zC, zB, Nat.zero_add, zL] at hO; (try simp only [Nat.zero_add]))
      | ((with_reducible refine wpl_build ?_); refine wpList_build_list (cs := []) hO rfl (by rfl) [] (by rfl) (by rfl) rfl (zM rfl) (by rfl) rfl (fun b => by simp only [Act.put, zA, zB, zC]; rfl) ?_; clear hO; intro bb u hO; simp only [zL, zK] at hO)
      | ((with_reducible refine wpl_build ?_); refine wpList_build_list (cs := [.string ⟨#[60, 78, 65, 62]⟩]) hO rfl (by rfl) [.string ⟨#[60, 78, 65, 62]⟩] (by rfl) (by rfl) rfl (zM rfl) (by rfl) rfl (fun b => by simp only [Act.put, zA, zB, zC]; rfl) ?_; clear hO; intro bb u hO; simp only [zL, zK] at hO)
      | ((with_reducible refine wpl_append ?_); refine wpList_append_box hO rfl (by rfl) rfl rfl _ (by (first | exact at0 | exact at1 | exact at2 | exact at3 | exact at4 | exact at5 | exact at6 | exact at7 | exact at8 | exact at9 | exact at10 | exact at11 | exact at12)) _ (by (first | exact at0 | exact at1 | exact at2 | exact at3 | exact at4 | exact at5 | exact at6 | exact at7 | exact at8 | exact at9 | exact at10 | exact at11 | exact at12)) (by rfl) (by simp [Value.oneCell']) (by omega) (by omega) rfl (fun A' c' => by simp only [Act.put, zA, zB, zC]; rfl) ?_; clear hO; intro A' c' u hO; simp only [zC, zB] at hO)
      | fail)
    replace hO := ((hO.addNil 83 3).addNil 29 8).addNil 9 1
    simp only [List.cons_append, List.nil_append] at hO
    replace hO := Own.pack (F := []) hO
    go_loopw [6] (fun i u => ∃ (m : Nat) (A1 A2 A3 : Option Addr) (c1 c2 c3 : Nat) (pvs : List (List Value)) (Ls : List (List Res)), m ≤ T ∧ i = .int .i64 m ∧ VL ((rpN n ps).take m) pvs Ls ∧ Own w [pack Ls.flatten, row 83 3 (.slice A1 ((rpN n is).take m).length c1) ((rpN n is).take m).length (itc ((rpN n is).take m)), row 29 8 (.slice A2 ((rpN n ps).take m).length c2) ((rpN n ps).take m).length pvs.flatten, row 9 1 (.slice A3 ((rpN n ns).take m).length c3) ((rpN n ns).take m).length (stc ((rpN n ns).take m)), row 9 1 (.slice A4 (lvC cs ls).length c4) (lvC cs ls).length (stc (lvC cs ls)), row 9 1 (.slice A5 ls.length c5) ls.length (stc ls), box b0 29 [.int .i64 k, .slice Ai is.length ci, .slice Ap ps.length cp, .slice An ns.length cn, .slice Ac cs.length cc, .slice Al ls.length cl, .int .i64 c, .int .i64 e], box b1 29 [.int .i64 0, .slice none 0 0, .slice none 0 0, .slice none 0 0, .slice none 0 0, .slice none 0 0, .int .i64 0, .int .i64 0], box b2 29 [.int .i64 k, .slice A1 ((rpN n is).take m).length c1, .slice A2 ((rpN n ps).take m).length c2, .slice A3 ((rpN n ns).take m).length c3, .slice A4 (lvC cs ls).length c4, .slice A5 ls.length c5, .int .i64 0, .int .i64 0]] u) (fun i _ => T - (intOf i).toNat)
    case atStart => exact ⟨0, none, none, none, 0, 0, 0, [], [], Nat.zero_le _, rfl, VL.nil, hO.pick [0, 6, 7, 8, 1, 2, 3, 4, 5] (by decide)⟩
    case round =>
      clear hO
      obtain ⟨m, A1, A2, A3, c1, c2, c3, pvs, Ls, hm, rfl, hvl, hO⟩ := hrel
      by_cases hlt : m < T
      · have i1 : (m : Int) < (T : Int) := by omega
        have hL0 : 0 < L := by
          rcases Nat.eq_zero_or_pos L with h | h
          · have := HTT.out
            subst h
            omega
          · exact h
        obtain ⟨j, hj⟩ : ∃ j, m % L = j := ⟨_, rfl⟩
        have a1 : j < L := by rw [← hj]; exact Nat.mod_lt _ hL0
        have hmn : m < n * L := by rw [HTT.out]; exact hlt
        obtain ⟨bt, ot, rfl, hbt, d0⟩ := hA.nt hO.below hlt (by rw [rqL_len]; exact hlt)
        rw [rqL_get _ _ hlt, hj] at d0
        have hs : (j : Int) + 1 - 1 = (j : Int) := by omega
        have CI := fun u => spec_in (j : Int) 0 ((L : Int) - 1) u
        have hin : inI (j : Int) 0 ((L : Int) - 1) = true := by rw [inI_eq, decide_eq_true (by omega), decide_eq_true (by omega)]; rfl
        rw [hin] at CI
        obtain ⟨lI, lP, lN⟩ := HCL.out m
        by_cases h4 : k = 4
        · subst h4
          have e4 := HI4.out rfl
          have hLp : ps.length = L := by have := HLL.out; rw [e4] at this; simpa using this
          have aP : j < ps.length := by omega
          have S1 := Lib.hid (rp_step0 (n := n) (m := m) e4)
          have S2 := Lib.hid (rp_step hLp hmn hj aP)
          have hvx := HP.out _ (List.getElem_mem aP)
          have hsz := szL_mem HPL.out aP
          obtain ⟨x, hx⟩ : ∃ x, ps[j]'aP = x := ⟨_, rfl⟩
          obtain ⟨xk, xi, xp, xn, xc, xl, xo, xe⟩ := x
          obtain ⟨b, off, rfl, hb, Bi, Bp, Bn, Bc, Bl, di, dp, dn, dc, dl, hrd, f0, f1, f2, f3, f4, f5, f6, f7⟩ := h2.ptc (Below.refl _ _) aP hx
          rw [hx] at S2 hvx hsz
          have CP := fun u (hb : Below w.heap.size w u) => (spec_copy _ (isV_lB hvx) _ u (hrd.grow hb) hsz).mono fun e' w' h => RetV.exC h
          have i2 : (j : Int) < (ps.length : Int) := by omega
          clear hx hvx hsz e4 hLp
          by_cases hn : ns.length = 0
          · have S3 := Lib.hid (rp_step0 (n := n) (m := m) (List.length_eq_zero_iff.1 hn))
            have i3 : ¬ 0 < ns.length := by omega
            clear hn
            obtain ⟨I, hI⟩ : ∃ I, (rpN n is).take m = I := ⟨_, rfl⟩
            obtain ⟨P, hP⟩ : ∃ P, (rpN n ps).take m = P := ⟨_, rfl⟩
            obtain ⟨N, hN⟩ : ∃ N, (rpN n ns).take m = N := ⟨_, rfl⟩
            rw [hI] at hO lI S1
            rw [hP] at hO lP S2 hvl
            rw [hN] at hO lN S3
            clear hI hP hN
            go_wp2_with (first
              | ((with_reducible refine (LA _).mono ?_); rintro e u ⟨rfl, hb⟩; (replace hO := hO.step hb; clear hb))
              | ((with_reducible refine (CI _).mono ?_); rintro e u ⟨rfl, hb⟩; subst hb)
              | ((with_reducible refine wpl_load ?_); refine wpList_load_box rfl (by rfl) hO rfl _ (by exact at6) (by rfl) (by simp only [Act.put, zA, zB, zC]; rfl) ?_)
              | ((with_reducible refine wpl_load ?_); refine wpList_load_field rfl (by rfl) hO rfl _ (by exact at6) (by rfl) (by simp only [Act.put, zA, zB, zC]; rfl) ?_)
              | fail)
            clear d0
            refine J.wp_region_c (n := 113) [0, 1, 2, 3, 4, 5, 6] [7, 8] (deps := fun i => [[], [0], [], [2], [], [2, 3, 4], [2, 3, 4, 5], [2, 3, 4, 5, 6], [2, 3, 4, 5, 6, 7], [], [], []].getD i []) (fun i d => [fun _ => True, fun _ => True, fun _ => True, fun _ => True, fun _ => True, fun _ => True, fun _ => True, (J.freshC xk xi xp xn xc xl xo xe), (J.freshS 29 ((d 7).1.cells.toList)), fun _ => True, fun _ => True, fun _ => True].getD i (fun _ => True)) (r := 3) (lst := #[true, true, true, true, true, true, true, true, true, false, false, false]) (by kernel_rfl) (by kernel_rfl) (by kernel_rfl) rfl (by decide) (by kernel_rfl) hO ?_
            refine J.Chain.cons (by rfl) (by rfl) (fun M u hO K hK => by (simp only [wp_at_zero, wp_at_succ]; go_step; exact hK _ hO)) (by simp only [J.putL, zI, zG, zH, J.dstOf, zF, zD, zE, zS, zQ, zR, Act.put, zA, zB, zC]; rfl) ?_
            refine J.Chain.cons (by rfl) (by rfl) (fun M u hO K hK => by (exact wp_load_field hO rfl rfl _ (by exact at8) (by rfl) (by rfl) (hK _ hO))) (by simp only [J.putL, zI, zG, zH, J.dstOf, zF, zD, zE, zS, zQ, zR, Act.put, zA, zB, zC]; rfl) ?_
            refine J.Chain.cons (by rfl) (by rfl) (fun M u hO K hK => by (simp only [wp_at_zero, wp_at_succ]; go_step; exact hK _ hO)) (by simp only [J.putL, zI, zG, zH, J.dstOf, zF, zD, zE, zS, zQ, zR, Act.put, zA, zB, zC]; rfl) ?_
            refine J.Chain.cons (by rfl) (by rfl) (fun M u hO K hK => by (exact wp_load_field hO rfl rfl _ (by exact at6) (by rfl) (by rfl) (hK _ hO))) (by simp only [J.putL, zI, zG, zH, J.dstOf, zF, zD, zE, zS, zQ, zR, Act.put, zA, zB, zC]; rfl) ?_
            refine J.Chain.cons (by rfl) (by rfl) (fun M u hO K hK => by (simp only [wp_at_zero, wp_at_succ]; go_step; exact hK _ hO)) (by simp only [J.putL, zI, zG, zH, J.dstOf, zF, zD, zE, zS, zQ, zR, Act.put, zA, zB, zC]; rfl) ?_
            refine J.Chain.cons (by rfl) (by rfl) (fun M u hO K hK => by (simp only [wp_at_zero, wp_at_succ]; go_step; exact hK _ hO)) (by simp only [J.putL, zI, zG, zH, J.dstOf, zF, zD, zE, zS, zQ, zR, Act.put, zA, zB, zC]; rfl) ?_
            refine J.Chain.cons (by rfl) (by rfl) (fun M u hO K hK => by ((have e0 := (hO.old hb).trans f0; have e1 := (hO.old hb).trans f1; have e2 := (hO.old hb).trans f2; have e3 := (hO.old hb).trans f3; have e4 := (hO.old hb).trans f4; have e5 := (hO.old hb).trans f5; have e6 := (hO.old hb).trans f6; have e7 := (hO.old hb).trans f7; simp only [wp_at_zero, wp_at_succ]; go_step; exact hK _ hO))) (by simp only [J.putL, zI, zG, zH, J.dstOf, zF, zD, zE, zS, zQ, zR, Act.put, zA, zB, zC]; rfl) ?_
            refine J.Chain.nil ⟨?_, ?_⟩
            · refine J.Each.cons (by rfl) ?_ ?_; exact ⟨rfl, fun vs M u hO _ K hK => by ((try simp only [J.putL, zI, zG, zH, J.dstOf, zF, zD, zE, zS, zQ, zR, Act.put, zA, zB, zC]); (try simp only [wp_at_zero, wp_at_succ]); go_step; refine (CP _ hO.below).mono ?_; rintro e u ⟨Ci, Cp, Cn, Cc, Cl, ri, rp, rn, rc, rl, F, rfl, hvo, hb⟩; have hK' := hK _ _ _ (show (J.freshC xk xi xp xn xc xl xo xe) _ from ⟨Ci, Cp, Cn, Cc, Cl, ri, rp, rn, rc, rl, F, rfl, hvo⟩) ((hO.call hb).perm List.perm_append_comm); clear hK; simp only [J.putL, zI, zG, zH, J.dstOf, zF, zD, zE, zS, zQ, zR, Act.put, zA, zB, zC] at hK'; exact hK')⟩; refine J.Each.cons (by rfl) ?_ ?_; exact ⟨rfl, fun vs M u hO hF K hK => by (obtain ⟨Ci, Cp, Cn, Cc, Cl, ri, rp, rn, rc, rl, F, e7, hvo⟩ := (hF 7 (by decide) (by decide)).1; refine wp_build_one (cs := [.int .i64 xk, .slice Ci xi.length ri, .slice Cp xp.length rp, .slice Cn xn.length rn, .slice Cc xc.length rc, .slice Cl xl.length rl, .int .i64 xo, .int .i64 xe]) hO rfl (by simp only [Act.eval, zJ, zP, J.putL, zI, zG, zH, J.dstOf, zF, zD, zE, zS, zQ, zR, Act.put, zA, zB, zC, e7]; rfl) rfl rfl (zM rfl) rfl fun b u hO => ?_; exact hK _ _ _ (show J.freshS 29 ((vs 7).1.cells.toList) _ from ⟨b, by rw [e7]; rfl⟩) hO)⟩; exact J.Each.nil
            intro vs u hO hF
            obtain ⟨Ci, Cp, Cn, Cc, Cl, ri, rp, rn, rc, rl, F, h7, hvo⟩ : (J.freshC xk xi xp xn xc xl xo xe) (vs 7) := hF 7 (by decide)
            have q8 : J.freshS 29 ((vs 7).1.cells.toList) (vs 8) := hF 8 (by decide)
            rw [h7] at q8
            obtain ⟨y8, h8⟩ : J.freshS 29 [.int .i64 xk, .slice Ci xi.length ri, .slice Cp xp.length rp, .slice Cn xn.length rn, .slice Cc xc.length rc, .slice Cl xl.length rl, .int .i64 xo, .int .i64 xe] (vs 8) := q8
            clear hF
            simp only [List.flatMap_cons, List.flatMap_nil, h7, h8, List.append_nil, zL, zK] at hO
            simp only [h7, h8, J.putL, zI, zG, zH, J.dstOf, zF, zD, zE, zS, zQ, zR, Act.put, zA, zB, zC]
            clear h7 h8 vs
            refine J.wpAny_one (i := 9) (by kernel_rfl) (by rfl) rfl fun K hK => ?_
            refine wp_append_box hO rfl rfl rfl _ (by exact at2) _ (by exact at10) (by rfl) (by simp [Value.oneCell']) (by omega) (by omega) rfl ?_
            clear hO
            intro A' c' u hO
            simp only [zC, zB] at hO
            simp only [Act.put, zA, zB, zC]
            refine hK _ _ ?_
            clear hK K
            refine J.wpAny_one (i := 10) (by kernel_rfl) (by rfl) rfl fun K hK => ?_
            simp only [wp_at_zero, wp_at_succ]
            go_step
            refine hK _ _ ?_
            clear hK K
            refine J.wpAny_one (i := 11) (by kernel_rfl) (by rfl) rfl fun K hK => ?_
            (refine wp_store_field hO rfl rfl _ (by exact at8) (zM rfl) (by simp only [Act.eval, zJ, zF, zD, zE, zP]; rfl) (by rfl) (by rfl) (by rfl) ?_; clear hO; intro u hO; simp only [zC, zB] at hO; refine hK _ _ ?_; clear hK K)
            refine wpAny_done (by kernel_rfl) ?_ _
            go_wp2_with (first
              | ((with_reducible refine wpl_load ?_); refine wpList_load_field rfl (by rfl) hO rfl _ (by exact at6) (by rfl) (by simp only [Act.put, zA, zB, zC]; rfl) ?_)
              | fail)
            replace hO := hO.pick [0, 9, 1, 2, 3, 4, 5, 6, 7, 8] (by decide)
            simp only [zN, zO, zE, zD] at hO
            replace hO := hO.merge
            rw [← flat_snoc, ← flat_snoc] at hO
            rw [← S1.out] at hO
            have L2 : ((rpN n ps).take (m + 1)).length = P.length + 1 := by rw [S2.out, List.length_append]; rfl
            rw [← L2] at hO
            rw [← S3.out] at hO
            go_roundw
            case rel => exact ⟨m + 1, _, _, _, _, _, _, _, _, by omega, by go_num, by rw [S2.out]; exact hvl.snoc hvo, hO⟩
            case measure => simp [intOf]; omega
          · have aN : j < ns.length := by rcases HNN.out with h | h <;> omega
            have S3 := Lib.hid (rp_step (l := ns) (by rcases HNN.out with h | h; exact absurd h hn; exact h) hmn hj aN)
            obtain ⟨y, hy⟩ : ∃ y, ns[j]'aN = y := ⟨_, rfl⟩
            obtain ⟨bn, on, rfl, hbn, g0⟩ := h3.tx (Below.refl _ _) aN hy
            rw [hy] at S3
            have i3 : 0 < ns.length := by omega
            have i4 : (j : Int) < (ns.length : Int) := by omega
            clear hn hy aN
            obtain ⟨I, hI⟩ : ∃ I, (rpN n is).take m = I := ⟨_, rfl⟩
            obtain ⟨P, hP⟩ : ∃ P, (rpN n ps).take m = P := ⟨_, rfl⟩
            obtain ⟨N, hN⟩ : ∃ N, (rpN n ns).take m = N := ⟨_, rfl⟩
            rw [hI] at hO lI S1
            rw [hP] at hO lP S2 hvl
            rw [hN] at hO lN S3
            clear hI hP hN
            go_wp2_with (first
              | ((with_reducible refine (LA _).mono ?_); rintro e u ⟨rfl, hb⟩; (replace hO := hO.step hb; clear hb))
              | ((with_reducible refine (CI _).mono ?_); rintro e u ⟨rfl, hb⟩; subst hb)
              | ((with_reducible refine wpl_load ?_); refine wpList_load_box rfl (by rfl) hO rfl _ (by exact at6) (by rfl) (by simp only [Act.put, zA, zB, zC]; rfl) ?_)
              | ((with_reducible refine wpl_load ?_); refine wpList_load_field rfl (by rfl) hO rfl _ (by exact at6) (by rfl) (by simp only [Act.put, zA, zB, zC]; rfl) ?_)
              | fail)
            clear d0
            refine J.wp_region_c (n := 113) [0, 1, 2, 3, 4, 5, 6] [7, 8] (deps := fun i => [[], [0], [], [2], [], [2, 3, 4], [2, 3, 4, 5], [2, 3, 4, 5, 6], [2, 3, 4, 5, 6, 7], [], [], []].getD i []) (fun i d => [fun _ => True, fun _ => True, fun _ => True, fun _ => True, fun _ => True, fun _ => True, fun _ => True, (J.freshC xk xi xp xn xc xl xo xe), (J.freshS 29 ((d 7).1.cells.toList)), fun _ => True, fun _ => True, fun _ => True].getD i (fun _ => True)) (r := 3) (lst := #[true, true, true, true, true, true, true, true, true, false, false, false]) (by kernel_rfl) (by kernel_rfl) (by kernel_rfl) rfl (by decide) (by kernel_rfl) hO ?_
            refine J.Chain.cons (by rfl) (by rfl) (fun M u hO K hK => by (simp only [wp_at_zero, wp_at_succ]; go_step; exact hK _ hO)) (by simp only [J.putL, zI, zG, zH, J.dstOf, zF, zD, zE, zS, zQ, zR, Act.put, zA, zB, zC]; rfl) ?_
            refine J.Chain.cons (by rfl) (by rfl) (fun M u hO K hK => by (exact wp_load_field hO rfl rfl _ (by exact at8) (by rfl) (by rfl) (hK _ hO))) (by simp only [J.putL, zI, zG, zH, J.dstOf, zF, zD, zE, zS, zQ, zR, Act.put, zA, zB, zC]; rfl) ?_
            refine J.Chain.cons (by rfl) (by rfl) (fun M u hO K hK => by (simp only [wp_at_zero, wp_at_succ]; go_step; exact hK _ hO)) (by simp only [J.putL, zI, zG, zH, J.dstOf, zF, zD, zE, zS, zQ, zR, Act.put, zA, zB, zC]; rfl) ?_
            refine J.Chain.cons (by rfl) (by rfl) (fun M u hO K hK => by (exact wp_load_field hO rfl rfl _ (by exact at6) (by rfl) (by rfl) (hK _ hO))) (by simp only [J.putL, zI, zG, zH, J.dstOf, zF, zD, zE, zS, zQ, zR, Act.put, zA, zB, zC]; rfl) ?_
            refine J.Chain.cons (by rfl) (by rfl) (fun M u hO K hK => by (simp only [wp_at_zero, wp_at_succ]; go_step; exact hK _ hO)) (by simp only [J.putL, zI, zG, zH, J.dstOf, zF, zD, zE, zS, zQ, zR, Act.put, zA, zB, zC]; rfl) ?_
            refine J.Chain.cons (by rfl) (by rfl) (fun M u hO K hK => by (simp only [wp_at_zero, wp_at_succ]; go_step; exact hK _ hO)) (by simp only [J.putL, zI, zG, zH, J.dstOf, zF, zD, zE, zS, zQ, zR, Act.put, zA, zB, zC]; rfl) ?_
            refine J.Chain.cons (by rfl) (by rfl) (fun M u hO K hK => by ((have e0 := (hO.old hb).trans f0; have e1 := (hO.old hb).trans f1; have e2 := (hO.old hb).trans f2; have e3 := (hO.old hb).trans f3; have e4 := (hO.old hb).trans f4; have e5 := (hO.old hb).trans f5; have e6 := (hO.old hb).trans f6; have e7 := (hO.old hb).trans f7; simp only [wp_at_zero, wp_at_succ]; go_step; exact hK _ hO))) (by simp only [J.putL, zI, zG, zH, J.dstOf, zF, zD, zE, zS, zQ, zR, Act.put, zA, zB, zC]; rfl) ?_
            refine J.Chain.nil ⟨?_, ?_⟩
            · refine J.Each.cons (by rfl) ?_ ?_; exact ⟨rfl, fun vs M u hO _ K hK => by ((try simp only [J.putL, zI, zG, zH, J.dstOf, zF, zD, zE, zS, zQ, zR, Act.put, zA, zB, zC]); (try simp only [wp_at_zero, wp_at_succ]); go_step; refine (CP _ hO.below).mono ?_; rintro e u ⟨Ci, Cp, Cn, Cc, Cl, ri, rp, rn, rc, rl, F, rfl, hvo, hb⟩; have hK' := hK _ _ _ (show (J.freshC xk xi xp xn xc xl xo xe) _ from ⟨Ci, Cp, Cn, Cc, Cl, ri, rp, rn, rc, rl, F, rfl, hvo⟩) ((hO.call hb).perm List.perm_append_comm); clear hK; simp only [J.putL, zI, zG, zH, J.dstOf, zF, zD, zE, zS, zQ, zR, Act.put, zA, zB, zC] at hK'; exact hK')⟩; refine J.Each.cons (by rfl) ?_ ?_; exact ⟨rfl, fun vs M u hO hF K hK => by (obtain ⟨Ci, Cp, Cn, Cc, Cl, ri, rp, rn, rc, rl, F, e7, hvo⟩ := (hF 7 (by decide) (by decide)).1; refine wp_build_one (cs := [.int .i64 xk, .slice Ci xi.length ri, .slice Cp xp.length rp, .slice Cn xn.length rn, .slice Cc xc.length rc, .slice Cl xl.length rl, .int .i64 xo, .int .i64 xe]) hO rfl (by simp only [Act.eval, zJ, zP, J.putL, zI, zG, zH, J.dstOf, zF, zD, zE, zS, zQ, zR, Act.put, zA, zB, zC, e7]; rfl) rfl rfl (zM rfl) rfl fun b u hO => ?_; exact hK _ _ _ (show J.freshS 29 ((vs 7).1.cells.toList) _ from ⟨b, by rw [e7]; rfl⟩) hO)⟩; exact J.Each.nil
            intro vs u hO hF
            obtain ⟨Ci, Cp, Cn, Cc, Cl, ri, rp, rn, rc, rl, F, h7, hvo⟩ : (J.freshC xk xi xp xn xc xl xo xe) (vs 7) := hF 7 (by decide)
            have q8 : J.freshS 29 ((vs 7).1.cells.toList) (vs 8) := hF 8 (by decide)
            rw [h7] at q8
            obtain ⟨y8, h8⟩ : J.freshS 29 [.int .i64 xk, .slice Ci xi.length ri, .slice Cp xp.length rp, .slice Cn xn.length rn, .slice Cc xc.length rc, .slice Cl xl.length rl, .int .i64 xo, .int .i64 xe] (vs 8) := q8
            clear hF
            simp only [List.flatMap_cons, List.flatMap_nil, h7, h8, List.append_nil, zL, zK] at hO
            simp only [h7, h8, J.putL, zI, zG, zH, J.dstOf, zF, zD, zE, zS, zQ, zR, Act.put, zA, zB, zC]
            clear h7 h8 vs
            refine J.wpAny_one (i := 9) (by kernel_rfl) (by rfl) rfl fun K hK => ?_
            refine wp_append_box hO rfl rfl rfl _ (by exact at2) _ (by exact at10) (by rfl) (by simp [Value.oneCell']) (by omega) (by omega) rfl ?_
            clear hO
            intro A' c' u hO
            simp only [zC, zB] at hO
            simp only [Act.put, zA, zB, zC]
            refine hK _ _ ?_
            clear hK K
            refine J.wpAny_one (i := 10) (by kernel_rfl) (by rfl) rfl fun K hK => ?_
            simp only [wp_at_zero, wp_at_succ]
            go_step
            refine hK _ _ ?_
            clear hK K
            refine J.wpAny_one (i := 11) (by kernel_rfl) (by rfl) rfl fun K hK => ?_
            (refine wp_store_field hO rfl rfl _ (by exact at8) (zM rfl) (by simp only [Act.eval, zJ, zF, zD, zE, zP]; rfl) (by rfl) (by rfl) (by rfl) ?_; clear hO; intro u hO; simp only [zC, zB] at hO; refine hK _ _ ?_; clear hK K)
            refine wpAny_done (by kernel_rfl) ?_ _
            go_wp2_with (first
              | ((with_reducible refine wpl_load ?_); refine wpList_load_field rfl (by rfl) hO rfl _ (by exact at6) (by rfl) (by simp only [Act.put, zA, zB, zC]; rfl) ?_)
              | fail)
            replace hO := hO.pick [0, 9, 1, 2, 3, 4, 5, 6, 7, 8] (by decide)
            simp only [zN, zO, zE, zD] at hO
            replace hO := hO.merge
            rw [← flat_snoc, ← flat_snoc] at hO
            refine J.wp_region_c (n := 113) [0, 1, 2, 3, 4, 5, 6] [7] (deps := fun i => [[], [0], [], [2], [], [2, 3, 4], [2, 3, 4, 5], [2, 3, 4, 5, 6], [], [], []].getD i []) (fun _ _ => (J.freshS 9 [.string y])) (r := 3) (lst := #[true, true, true, true, true, true, true, true, false, false, false]) (by kernel_rfl) (by kernel_rfl) (by kernel_rfl) rfl (by decide) (by kernel_rfl) hO ?_
            refine J.Chain.cons (by rfl) (by rfl) (fun M u hO K hK => by (simp only [wp_at_zero, wp_at_succ]; go_step; exact hK _ hO)) (by simp only [J.putL, zI, zG, zH, J.dstOf, zF, zD, zE, zS, zQ, zR, Act.put, zA, zB, zC]; rfl) ?_
            refine J.Chain.cons (by rfl) (by rfl) (fun M u hO K hK => by (exact wp_load_field hO rfl rfl _ (by exact at8) (by rfl) (by rfl) (hK _ hO))) (by simp only [J.putL, zI, zG, zH, J.dstOf, zF, zD, zE, zS, zQ, zR, Act.put, zA, zB, zC]; rfl) ?_
            refine J.Chain.cons (by rfl) (by rfl) (fun M u hO K hK => by (simp only [wp_at_zero, wp_at_succ]; go_step; exact hK _ hO)) (by simp only [J.putL, zI, zG, zH, J.dstOf, zF, zD, zE, zS, zQ, zR, Act.put, zA, zB, zC]; rfl) ?_
            refine J.Chain.cons (by rfl) (by rfl) (fun M u hO K hK => by (exact wp_load_field hO rfl rfl _ (by exact at6) (by rfl) (by rfl) (hK _ hO))) (by simp only [J.putL, zI, zG, zH, J.dstOf, zF, zD, zE, zS, zQ, zR, Act.put, zA, zB, zC]; rfl) ?_
            refine J.Chain.cons (by rfl) (by rfl) (fun M u hO K hK => by (simp only [wp_at_zero, wp_at_succ]; go_step; exact hK _ hO)) (by simp only [J.putL, zI, zG, zH, J.dstOf, zF, zD, zE, zS, zQ, zR, Act.put, zA, zB, zC]; rfl) ?_
            refine J.Chain.cons (by rfl) (by rfl) (fun M u hO K hK => by (simp only [wp_at_zero, wp_at_succ]; go_step; exact hK _ hO)) (by simp only [J.putL, zI, zG, zH, J.dstOf, zF, zD, zE, zS, zQ, zR, Act.put, zA, zB, zC]; rfl) ?_
            refine J.Chain.cons (by rfl) (by rfl) (fun M u hO K hK => by ((have e0 := (hO.old hbn).trans g0; simp only [wp_at_zero, wp_at_succ]; go_step; exact hK _ hO))) (by simp only [J.putL, zI, zG, zH, J.dstOf, zF, zD, zE, zS, zQ, zR, Act.put, zA, zB, zC]; rfl) ?_
            refine J.Chain.nil ⟨?_, ?_⟩
            · refine J.Each.cons (by rfl) ?_ ?_; exact ⟨rfl, fun vs M u hO _ K hK => by (refine wp_build_one (cs := [.string y]) hO rfl (by simp only [Act.eval, zJ, zP, J.putL, zI, zG, zH, J.dstOf, zF, zD, zE, zS, zQ, zR, Act.put, zA, zB, zC]; rfl) rfl rfl (zM rfl) rfl fun b u hO => ?_; exact hK _ _ _ (show (J.freshS 9 [.string y]) _ from ⟨b, rfl⟩) hO)⟩; exact J.Each.nil
            intro vs u hO hF
            obtain ⟨b3, h7⟩ : J.freshS _ _ (vs 7) := hF 7 (by decide)
            clear hF
            simp only [List.flatMap_cons, List.flatMap_nil, h7, List.append_nil, zL, zK] at hO
            simp only [h7, J.putL, zI, zG, zH, J.dstOf, zF, zD, zE, zS, zQ, zR, Act.put, zA, zB, zC]
            clear h7 vs
            refine J.wpAny_one (i := 8) (by kernel_rfl) (by rfl) rfl fun K hK => ?_
            refine wp_append_box hO rfl rfl rfl _ (by exact at3) _ (by exact at9) (by rfl) (by simp [Value.oneCell']) (by omega) (by omega) rfl ?_
            clear hO
            intro A' c' u hO
            simp only [zC, zB] at hO
            simp only [Act.put, zA, zB, zC]
            refine hK _ _ ?_
            clear hK K
            refine J.wpAny_one (i := 9) (by kernel_rfl) (by rfl) rfl fun K hK => ?_
            simp only [wp_at_zero, wp_at_succ]
            go_step
            refine hK _ _ ?_
            clear hK K
            refine J.wpAny_one (i := 10) (by kernel_rfl) (by rfl) rfl fun K hK => ?_
            (refine wp_store_field hO rfl rfl _ (by exact at8) (zM rfl) (by simp only [Act.eval, zJ, zF, zD, zE, zP]; rfl) (by rfl) (by rfl) (by rfl) ?_; clear hO; intro u hO; simp only [zC, zB] at hO; refine hK _ _ ?_; clear hK K)
            refine wpAny_done (by kernel_rfl) ?_ _
            go_wp2_with (first
              | (with_reducible refine stop_ret ?_)
              | ((with_reducible refine wpl_alloc ?_); refine wpList_alloc_own rfl (by rfl) hO rfl (fun b => by simp only [Act.put, zA, zB, zC]; rfl) ?_; (first | (refine nm 0 rfl ?_; clear hO; intro b0 u hO) | (refine nm 1 rfl ?_; clear hO; intro b1 u hO) | (refine nm 2 rfl ?_; clear hO; intro b2 u hO) | (refine nm 3 rfl ?_; clear hO; intro b3 u hO) | (refine nm 4 rfl ?_; clear hO; intro b4 u hO) | (refine nm 5 rfl ?_; clear hO; intro b5 u hO) | (refine nm 6 rfl ?_; clear hO; intro b6 u hO) | (refine nm 7 rfl ?_; clear hO; intro b7 u hO) | (refine nm 8 rfl ?_; clear hO; intro b8 u hO) | (refine nm 9 rfl ?_; clear hO; intro b9 u hO) | (refine nm 10 rfl ?_; clear hO; intro b10 u hO) | (refine nm 11 rfl ?_; clear hO; intro b11 u hO)); simp only [zL, zK] at hO)
              | ((with_reducible refine wpl_box ?_); refine wpList_box_own rfl (by rfl) hO rfl rfl (fun b => by simp only [Act.put, zA, zB, zC]; rfl) ?_; (first | (refine nm 0 rfl ?_; clear hO; intro b0 u hO) | (refine nm 1 rfl ?_; clear hO; intro b1 u hO) | (refine nm 2 rfl ?_; clear hO; intro b2 u hO) | (refine nm 3 rfl ?_; clear hO; intro b3 u hO) | (refine nm 4 rfl ?_; clear hO; intro b4 u hO) | (refine nm 5 rfl ?_; clear hO; intro b5 u hO) | (refine nm 6 rfl ?_; clear hO; intro b6 u hO) | (refine nm 7 rfl ?_; clear hO; intro b7 u hO) | (refine nm 8 rfl ?_; clear hO; intro b8 u hO) | (refine nm 9 rfl ?_; clear hO; intro b9 u hO) | (refine nm 10 rfl ?_; clear hO; intro b10 u hO) | (refine nm 11 rfl ?_; clear hO; intro b11 u hO)); simp only [zL, zK] at hO)
              | ((with_reducible refine wpl_load ?_); refine wpList_load_box rfl (by (first | rfl | (simp only [Region.wanted, yielded, *]; go_simp; done) | (simp [Region.wanted, yielded, *]; done) | fail)) hO rfl _ (by (first | exact at0 | exact at1 | exact at2 | exact at3 | exact at4 | exact at5 | exact at6 | exact at7 | exact at8 | exact at9 | exact at10 | exact at11)) (by rfl) (by simp only [Act.put, zA, zB, zC]; rfl) ?_)
              | ((with_reducible refine wpl_load ?_); refine wpList_load_field rfl (by (first | rfl | (simp only [Region.wanted, yielded, *]; go_simp; done) | (simp [Region.wanted, yielded, *]; done) | fail)) hO rfl _ (by (first | exact at0 | exact at1 | exact at2 | exact at3 | exact at4 | exact at5 | exact at6 | exact at7 | exact at8 | exact at9 | exact at10 | exact at11)) (by rfl) (by simp only [Act.put, zA, zB, zC]; rfl) ?_)
              | ((with_reducible refine wpl_store ?_); refine wpList_store_box rfl (by rfl) hO rfl _ (by (first | exact at0 | exact at1 | exact at2 | exact at3 | exact at4 | exact at5 | exact at6 | exact at7 | exact at8 | exact at9 | exact at10 | exact at11)) (by simp only [Act.eval, zJ, zF, zD, zE, zP]; rfl) (by rfl) (by rfl) (by rfl) (by rfl) (by rfl) ?_; clear hO; intro u hO; simp only [zC, zB] at hO)
              | ((with_reducible refine wpl_store ?_); refine wpList_store_field rfl (by rfl) hO rfl _ (by (first | exact at0 | exact at1 | exact at2 | exact at3 | exact at4 | exact at5 | exact at6 | exact at7 | exact at8 | exact at9 | exact at10 | exact at11)) (zM rfl) (by simp only [Act.eval, zJ, zF, zD, zE, zP]; rfl) (by rfl) (by rfl) (by rfl) ?_; clear hO; intro u hO; simp only [zC, zB] at hO)
              | ((with_reducible refine wpl_call ?_); refine wpList_append_str hO rfl (by rfl) rfl rfl _ (by (first | exact at0 | exact at1 | exact at2 | exact at3 | exact at4 | exact at5 | exact at6 | exact at7 | exact at8 | exact at9 | exact at10 | exact at11)) (by omega) rfl (fun A' c' => by simp only [Act.put, zA, zB, zC]; rfl) ?_; clear hO; intro A' c' u hO; simp only [zC, zB] at hO)
              | ((with_reducible refine wpl_call ?_); refine wpList_append_lit hO rfl (by rfl) rfl rfl _ (by (first | exact at0 | exact at1 | exact at2 | exact at3 | exact at4 | exact at5 | exact at6 | exact at7 | exact at8 | exact at9 | exact at10 | exact at11)) (by rfl) (by simp [Value.oneCell']) (by omega) (by omega) rfl (fun A' c' => by simp only [Act.put, zA, zB, zC]; rfl) ?_; clear hO; intro A' c' u hO; simp only [zC, zB] at hO)
              | ((with_reducible refine wpl_build ?_); refine wpList_build_row0 hO rfl (by rfl) rfl (fun b => by simp only [Act.put, zA, zB, zC]; rfl) ?_; clear hO; intro bb u hO; simp only [zL, zK] at hO)
              | ((with_reducible refine wpl_append ?_); refine wpList_append_src hO rfl (by rfl) rfl rfl _ (by (first | exact at0 | exact at1 | exact at2 | exact at3 | exact at4 | exact at5 | exact at6 | exact at7 | exact at8 | exact at9 | exact at10 | exact at11 | exact at12)) ((h4.below hO.below)) (stc_one _) (by omega) (by omega) rfl (fun A' c' => by simp only [Act.put, zA, zB, zC]; rfl) ?_; clear hO; intro A' c' u hO; simp only [zC, zB, Nat.zero_add, zL] at hO; (try simp only [Nat.zero_add]))
              | ((with_reducible refine wpl_append ?_); refine wpList_append_src hO rfl (by rfl) rfl rfl _ (by (first | exact at0 | exact at1 | exact at2 | exact at3 | exact at4 | exact at5 | exact at6 | exact at7 | exact at8 | exact at9 | exact at10 | exact at11 | exact at12)) ((h5'.below hO.below)) (stc_one _) (by omega) (by omega) rfl (fun A' c' => by simp only [Act.put, zA, zB, zC]; rfl) ?_; clear hO; intro A' c' u hO; simp only [zC, zB, Nat.zero_add, zL] at hO; (try simp only [Nat.zero_add]))
              | ((with_reducible refine wpl_build ?_); refine wpList_build_list (cs := []) hO rfl (by rfl) [] (by rfl) (by rfl) rfl (zM rfl) (by rfl) rfl (fun b => by simp only [Act.put, zA, zB, zC]; rfl) ?_; clear hO; intro bb u hO; simp only [zL, zK] at hO)
              | ((with_reducible refine wpl_build ?_); refine wpList_build_list (cs := [.string ⟨#[60, 78, 65, 62]⟩]) hO rfl (by rfl) [.string ⟨#[60, 78, 65, 62]⟩] (by rfl) (by rfl) rfl (zM rfl) (by rfl) rfl (fun b => by simp only [Act.put, zA, zB, zC]; rfl) ?_; clear hO; intro bb u hO; simp only [zL, zK] at hO)
              | ((with_reducible refine wpl_append ?_); refine wpList_append_box hO rfl (by rfl) rfl rfl _ (by (first | exact at0 | exact at1 | exact at2 | exact at3 | exact at4 | exact at5 | exact at6 | exact at7 | exact at8 | exact at9 | exact at10 | exact at11 | exact at12)) _ (by (first | exact at0 | exact at1 | exact at2 | exact at3 | exact at4 | exact at5 | exact at6 | exact at7 | exact at8 | exact at9 | exact at10 | exact at11 | exact at12)) (by rfl) (by simp [Value.oneCell']) (by omega) (by omega) rfl (fun A' c' => by simp only [Act.put, zA, zB, zC]; rfl) ?_; clear hO; intro A' c' u hO; simp only [zC, zB] at hO)
              | fail)
            replace hO := hO.pick [0, 1, 2, 3, 4, 5, 6, 7, 8] (by decide)
            simp only [zN, zO, zE, zD] at hO
            rw [← S1.out] at hO
            have L2 : ((rpN n ps).take (m + 1)).length = P.length + 1 := by rw [S2.out, List.length_append]; rfl
            rw [← L2] at hO
            have L3 : ((rpN n ns).take (m + 1)).length = N.length + 1 := by rw [S3.out, List.length_append]; rfl
            have E3 : stc ((rpN n ns).take (m + 1)) = stc N ++ [.string y] := by rw [S3.out, stc_app]; rfl
            rw [← L3, ← E3] at hO
            go_roundw
            case rel => exact ⟨m + 1, _, _, _, _, _, _, _, _, by omega, by go_num, by rw [S2.out]; exact hvl.snoc hvo, hO⟩
            case measure => simp [intOf]; omega
        · have e4 := HP4.out h4
          have hLi : is.length = L := by have := HLL.out; rw [e4] at this; simpa using this
          have aP : j < is.length := by omega
          have S1 := Lib.hid (rp_step hLi hmn hj aP)
          have S2 := Lib.hid (rp_step0 (n := n) (m := m) e4)
          obtain ⟨x, hx⟩ : ∃ x, is[j]'aP = x := ⟨_, rfl⟩
          obtain ⟨b, off, rfl, hb, f0, f1, f2⟩ := h1.it (Below.refl _ _) aP hx
          rw [hx] at S1
          obtain ⟨xn, xd, xt⟩ := x
          simp only at f0 f1 f2
          have i2 : (j : Int) < (is.length : Int) := by omega
          have q4 : (k == 4) = false := by simp [h4]
          clear hx e4 hLi
          by_cases hn : ns.length = 0
          · have S3 := Lib.hid (rp_step0 (n := n) (m := m) (List.length_eq_zero_iff.1 hn))
            have i3 : ¬ 0 < ns.length := by omega
            clear hn
            obtain ⟨I, hI⟩ : ∃ I, (rpN n is).take m = I := ⟨_, rfl⟩
            obtain ⟨P, hP⟩ : ∃ P, (rpN n ps).take m = P := ⟨_, rfl⟩
            obtain ⟨N, hN⟩ : ∃ N, (rpN n ns).take m = N := ⟨_, rfl⟩
            rw [hI] at hO lI S1
            rw [hP] at hO lP S2 hvl
            rw [hN] at hO lN S3
            clear hI hP hN
            go_wp2_with (first
              | ((with_reducible refine (LA _).mono ?_); rintro e u ⟨rfl, hb⟩; (replace hO := hO.step hb; clear hb))
              | ((with_reducible refine (CI _).mono ?_); rintro e u ⟨rfl, hb⟩; subst hb)
              | ((with_reducible refine wpl_load ?_); refine wpList_load_box rfl (by rfl) hO rfl _ (by exact at6) (by rfl) (by simp only [Act.put, zA, zB, zC]; rfl) ?_)
              | ((with_reducible refine wpl_load ?_); refine wpList_load_field rfl (by rfl) hO rfl _ (by exact at6) (by rfl) (by simp only [Act.put, zA, zB, zC]; rfl) ?_)
              | fail)
            clear d0
            refine J.wp_region_c (n := 113) [0, 1, 2, 3, 4, 5, 6] [7] (deps := fun i => [[], [0], [], [2], [], [2, 3, 4], [2, 3, 4, 5], [2, 3, 4, 5, 6], [], [], []].getD i []) (fun _ _ => (J.freshS 83 [.int .i64 xn, .int .i64 xd, .string xt])) (r := 3) (lst := #[true, true, true, true, true, true, true, true, false, false, false]) (by kernel_rfl) (by kernel_rfl) (by kernel_rfl) rfl (by decide) (by kernel_rfl) hO ?_
            refine J.Chain.cons (by rfl) (by rfl) (fun M u hO K hK => by (simp only [wp_at_zero, wp_at_succ]; go_step; exact hK _ hO)) (by simp only [J.putL, zI, zG, zH, J.dstOf, zF, zD, zE, zS, zQ, zR, Act.put, zA, zB, zC]; rfl) ?_
            refine J.Chain.cons (by rfl) (by rfl) (fun M u hO K hK => by (exact wp_load_field hO rfl rfl _ (by exact at8) (by rfl) (by rfl) (hK _ hO))) (by simp only [J.putL, zI, zG, zH, J.dstOf, zF, zD, zE, zS, zQ, zR, Act.put, zA, zB, zC]; rfl) ?_
            refine J.Chain.cons (by rfl) (by rfl) (fun M u hO K hK => by (simp only [wp_at_zero, wp_at_succ]; go_step; exact hK _ hO)) (by simp only [J.putL, zI, zG, zH, J.dstOf, zF, zD, zE, zS, zQ, zR, Act.put, zA, zB, zC]; rfl) ?_
            refine J.Chain.cons (by rfl) (by rfl) (fun M u hO K hK => by (exact wp_load_field hO rfl rfl _ (by exact at6) (by rfl) (by rfl) (hK _ hO))) (by simp only [J.putL, zI, zG, zH, J.dstOf, zF, zD, zE, zS, zQ, zR, Act.put, zA, zB, zC]; rfl) ?_
            refine J.Chain.cons (by rfl) (by rfl) (fun M u hO K hK => by (simp only [wp_at_zero, wp_at_succ]; go_step; exact hK _ hO)) (by simp only [J.putL, zI, zG, zH, J.dstOf, zF, zD, zE, zS, zQ, zR, Act.put, zA, zB, zC]; rfl) ?_
            refine J.Chain.cons (by rfl) (by rfl) (fun M u hO K hK => by (simp only [wp_at_zero, wp_at_succ]; go_step; exact hK _ hO)) (by simp only [J.putL, zI, zG, zH, J.dstOf, zF, zD, zE, zS, zQ, zR, Act.put, zA, zB, zC]; rfl) ?_
            refine J.Chain.cons (by rfl) (by rfl) (fun M u hO K hK => by ((have e0 := (hO.old hb).trans f0; have e1 := (hO.old hb).trans f1; have e2 := (hO.old hb).trans f2; simp only [wp_at_zero, wp_at_succ]; go_step; exact hK _ hO))) (by simp only [J.putL, zI, zG, zH, J.dstOf, zF, zD, zE, zS, zQ, zR, Act.put, zA, zB, zC]; rfl) ?_
            refine J.Chain.nil ⟨?_, ?_⟩
            · refine J.Each.cons (by rfl) ?_ ?_; exact ⟨rfl, fun vs M u hO _ K hK => by (refine wp_build_one (cs := [.int .i64 xn, .int .i64 xd, .string xt]) hO rfl (by simp only [Act.eval, zJ, zP, J.putL, zI, zG, zH, J.dstOf, zF, zD, zE, zS, zQ, zR, Act.put, zA, zB, zC]; rfl) rfl rfl (zM rfl) rfl fun b u hO => ?_; exact hK _ _ _ (show (J.freshS 83 [.int .i64 xn, .int .i64 xd, .string xt]) _ from ⟨b, rfl⟩) hO)⟩; exact J.Each.nil
            intro vs u hO hF
            obtain ⟨b3, h7⟩ : J.freshS _ _ (vs 7) := hF 7 (by decide)
            clear hF
            simp only [List.flatMap_cons, List.flatMap_nil, h7, List.append_nil, zL, zK] at hO
            simp only [h7, J.putL, zI, zG, zH, J.dstOf, zF, zD, zE, zS, zQ, zR, Act.put, zA, zB, zC]
            clear h7 vs
            refine J.wpAny_one (i := 8) (by kernel_rfl) (by rfl) rfl fun K hK => ?_
            refine wp_append_box hO rfl rfl rfl _ (by exact at1) _ (by exact at9) (by rfl) (by simp [Value.oneCell']) (by omega) (by omega) rfl ?_
            clear hO
            intro A' c' u hO
            simp only [zC, zB] at hO
            simp only [Act.put, zA, zB, zC]
            refine hK _ _ ?_
            clear hK K
            refine J.wpAny_one (i := 9) (by kernel_rfl) (by rfl) rfl fun K hK => ?_
            simp only [wp_at_zero, wp_at_succ]
            go_step
            refine hK _ _ ?_
            clear hK K
            refine J.wpAny_one (i := 10) (by kernel_rfl) (by rfl) rfl fun K hK => ?_
            (refine wp_store_field hO rfl rfl _ (by exact at8) (zM rfl) (by simp only [Act.eval, zJ, zF, zD, zE, zP]; rfl) (by rfl) (by rfl) (by rfl) ?_; clear hO; intro u hO; simp only [zC, zB] at hO; refine hK _ _ ?_; clear hK K)
            refine wpAny_done (by kernel_rfl) ?_ _
            go_wp2_with (first
              | ((with_reducible refine wpl_load ?_); refine wpList_load_field rfl (by rfl) hO rfl _ (by exact at6) (by rfl) (by simp only [Act.put, zA, zB, zC]; rfl) ?_)
              | fail)
            replace hO := hO.pick [0, 1, 2, 3, 4, 5, 6, 7, 8] (by decide)
            simp only [zN, zO, zE, zD] at hO
            have L1 : ((rpN n is).take (m + 1)).length = I.length + 1 := by rw [S1.out, List.length_append]; rfl
            have E1 : itc ((rpN n is).take (m + 1)) = itc I ++ [.int .i64 xn, .int .i64 xd, .string xt] := by rw [S1.out, itc_app]; rfl
            rw [← L1, ← E1] at hO
            rw [← S2.out] at hO
            rw [← S3.out] at hO
            go_roundw
            case rel => exact ⟨m + 1, _, _, _, _, _, _, _, _, by omega, by go_num, by rw [S2.out]; exact hvl, hO⟩
            case measure => simp [intOf]; omega
          · have aN : j < ns.length := by rcases HNN.out with h | h <;> omega
            have S3 := Lib.hid (rp_step (l := ns) (by rcases HNN.out with h | h; exact absurd h hn; exact h) hmn hj aN)
            obtain ⟨y, hy⟩ : ∃ y, ns[j]'aN = y := ⟨_, rfl⟩
            obtain ⟨bn, on, rfl, hbn, g0⟩ := h3.tx (Below.refl _ _) aN hy
            rw [hy] at S3
            have i3 : 0 < ns.length := by omega
            have i4 : (j : Int) < (ns.length : Int) := by omega
            clear hn hy aN
            obtain ⟨I, hI⟩ : ∃ I, (rpN n is).take m = I := ⟨_, rfl⟩
            obtain ⟨P, hP⟩ : ∃ P, (rpN n ps).take m = P := ⟨_, rfl⟩
            obtain ⟨N, hN⟩ : ∃ N, (rpN n ns).take m = N := ⟨_, rfl⟩
            rw [hI] at hO lI S1
            rw [hP] at hO lP S2 hvl
            rw [hN] at hO lN S3
            clear hI hP hN
            go_wp2_with (first
              | ((with_reducible refine (LA _).mono ?_); rintro e u ⟨rfl, hb⟩; (replace hO := hO.step hb; clear hb))
              | ((with_reducible refine (CI _).mono ?_); rintro e u ⟨rfl, hb⟩; subst hb)
              | ((with_reducible refine wpl_load ?_); refine wpList_load_box rfl (by rfl) hO rfl _ (by exact at6) (by rfl) (by simp only [Act.put, zA, zB, zC]; rfl) ?_)
              | ((with_reducible refine wpl_load ?_); refine wpList_load_field rfl (by rfl) hO rfl _ (by exact at6) (by rfl) (by simp only [Act.put, zA, zB, zC]; rfl) ?_)
              | fail)
            clear d0
            refine J.wp_region_c (n := 113) [0, 1, 2, 3, 4, 5, 6] [7] (deps := fun i => [[], [0], [], [2], [], [2, 3, 4], [2, 3, 4, 5], [2, 3, 4, 5, 6], [], [], []].getD i []) (fun _ _ => (J.freshS 83 [.int .i64 xn, .int .i64 xd, .string xt])) (r := 3) (lst := #[true, true, true, true, true, true, true, true, false, false, false]) (by kernel_rfl) (by kernel_rfl) (by kernel_rfl) rfl (by decide) (by kernel_rfl) hO ?_
            refine J.Chain.cons (by rfl) (by rfl) (fun M u hO K hK => by (simp only [wp_at_zero, wp_at_succ]; go_step; exact hK _ hO)) (by simp only [J.putL, zI, zG, zH, J.dstOf, zF, zD, zE, zS, zQ, zR, Act.put, zA, zB, zC]; rfl) ?_
            refine J.Chain.cons (by rfl) (by rfl) (fun M u hO K hK => by (exact wp_load_field hO rfl rfl _ (by exact at8) (by rfl) (by rfl) (hK _ hO))) (by simp only [J.putL, zI, zG, zH, J.dstOf, zF, zD, zE, zS, zQ, zR, Act.put, zA, zB, zC]; rfl) ?_
            refine J.Chain.cons (by rfl) (by rfl) (fun M u hO K hK => by (simp only [wp_at_zero, wp_at_succ]; go_step; exact hK _ hO)) (by simp only [J.putL, zI, zG, zH, J.dstOf, zF, zD, zE, zS, zQ, zR, Act.put, zA, zB, zC]; rfl) ?_
            refine J.Chain.cons (by rfl) (by rfl) (fun M u hO K hK => by (exact wp_load_field hO rfl rfl _ (by exact at6) (by rfl) (by rfl) (hK _ hO))) (by simp only [J.putL, zI, zG, zH, J.dstOf, zF, zD, zE, zS, zQ, zR, Act.put, zA, zB, zC]; rfl) ?_
            refine J.Chain.cons (by rfl) (by rfl) (fun M u hO K hK => by (simp only [wp_at_zero, wp_at_succ]; go_step; exact hK _ hO)) (by simp only [J.putL, zI, zG, zH, J.dstOf, zF, zD, zE, zS, zQ, zR, Act.put, zA, zB, zC]; rfl) ?_
            refine J.Chain.cons (by rfl) (by rfl) (fun M u hO K hK => by (simp only [wp_at_zero, wp_at_succ]; go_step; exact hK _ hO)) (by simp only [J.putL, zI, zG, zH, J.dstOf, zF, zD, zE, zS, zQ, zR, Act.put, zA, zB, zC]; rfl) ?_
            refine J.Chain.cons (by rfl) (by rfl) (fun M u hO K hK => by ((have e0 := (hO.old hb).trans f0; have e1 := (hO.old hb).trans f1; have e2 := (hO.old hb).trans f2; simp only [wp_at_zero, wp_at_succ]; go_step; exact hK _ hO))) (by simp only [J.putL, zI, zG, zH, J.dstOf, zF, zD, zE, zS, zQ, zR, Act.put, zA, zB, zC]; rfl) ?_
            refine J.Chain.nil ⟨?_, ?_⟩
            · refine J.Each.cons (by rfl) ?_ ?_; exact ⟨rfl, fun vs M u hO _ K hK => by (refine wp_build_one (cs := [.int .i64 xn, .int .i64 xd, .string xt]) hO rfl (by simp only [Act.eval, zJ, zP, J.putL, zI, zG, zH, J.dstOf, zF, zD, zE, zS, zQ, zR, Act.put, zA, zB, zC]; rfl) rfl rfl (zM rfl) rfl fun b u hO => ?_; exact hK _ _ _ (show (J.freshS 83 [.int .i64 xn, .int .i64 xd, .string xt]) _ from ⟨b, rfl⟩) hO)⟩; exact J.Each.nil
            intro vs u hO hF
            obtain ⟨b3, h7⟩ : J.freshS _ _ (vs 7) := hF 7 (by decide)
            clear hF
            simp only [List.flatMap_cons, List.flatMap_nil, h7, List.append_nil, zL, zK] at hO
            simp only [h7, J.putL, zI, zG, zH, J.dstOf, zF, zD, zE, zS, zQ, zR, Act.put, zA, zB, zC]
            clear h7 vs
            refine J.wpAny_one (i := 8) (by kernel_rfl) (by rfl) rfl fun K hK => ?_
            refine wp_append_box hO rfl rfl rfl _ (by exact at1) _ (by exact at9) (by rfl) (by simp [Value.oneCell']) (by omega) (by omega) rfl ?_
            clear hO
            intro A' c' u hO
            simp only [zC, zB] at hO
            simp only [Act.put, zA, zB, zC]
            refine hK _ _ ?_
            clear hK K
            refine J.wpAny_one (i := 9) (by kernel_rfl) (by rfl) rfl fun K hK => ?_
            simp only [wp_at_zero, wp_at_succ]
            go_step
            refine hK _ _ ?_
            clear hK K
            refine J.wpAny_one (i := 10) (by kernel_rfl) (by rfl) rfl fun K hK => ?_
            (refine wp_store_field hO rfl rfl _ (by exact at8) (zM rfl) (by simp only [Act.eval, zJ, zF, zD, zE, zP]; rfl) (by rfl) (by rfl) (by rfl) ?_; clear hO; intro u hO; simp only [zC, zB] at hO; refine hK _ _ ?_; clear hK K)
            refine wpAny_done (by kernel_rfl) ?_ _
            go_wp2_with (first
              | ((with_reducible refine wpl_load ?_); refine wpList_load_field rfl (by rfl) hO rfl _ (by exact at6) (by rfl) (by simp only [Act.put, zA, zB, zC]; rfl) ?_)
              | fail)
            replace hO := hO.pick [0, 1, 2, 3, 4, 5, 6, 7, 8] (by decide)
            simp only [zN, zO, zE, zD] at hO
            refine J.wp_region_c (n := 113) [0, 1, 2, 3, 4, 5, 6] [7] (deps := fun i => [[], [0], [], [2], [], [2, 3, 4], [2, 3, 4, 5], [2, 3, 4, 5, 6], [], [], []].getD i []) (fun _ _ => (J.freshS 9 [.string y])) (r := 3) (lst := #[true, true, true, true, true, true, true, true, false, false, false]) (by kernel_rfl) (by kernel_rfl) (by kernel_rfl) rfl (by decide) (by kernel_rfl) hO ?_
            refine J.Chain.cons (by rfl) (by rfl) (fun M u hO K hK => by (simp only [wp_at_zero, wp_at_succ]; go_step; exact hK _ hO)) (by simp only [J.putL, zI, zG, zH, J.dstOf, zF, zD, zE, zS, zQ, zR, Act.put, zA, zB, zC]; rfl) ?_
            refine J.Chain.cons (by rfl) (by rfl) (fun M u hO K hK => by (exact wp_load_field hO rfl rfl _ (by exact at8) (by rfl) (by rfl) (hK _ hO))) (by simp only [J.putL, zI, zG, zH, J.dstOf, zF, zD, zE, zS, zQ, zR, Act.put, zA, zB, zC]; rfl) ?_
            refine J.Chain.cons (by rfl) (by rfl) (fun M u hO K hK => by (simp only [wp_at_zero, wp_at_succ]; go_step; exact hK _ hO)) (by simp only [J.putL, zI, zG, zH, J.dstOf, zF, zD, zE, zS, zQ, zR, Act.put, zA, zB, zC]; rfl) ?_
            refine J.Chain.cons (by rfl) (by rfl) (fun M u hO K hK => by (exact wp_load_field hO rfl rfl _ (by exact at6) (by rfl) (by rfl) (hK _ hO))) (by simp only [J.putL, zI, zG, zH, J.dstOf, zF, zD, zE, zS, zQ, zR, Act.put, zA, zB, zC]; rfl) ?_
            refine J.Chain.cons (by rfl) (by rfl) (fun M u hO K hK => by (simp only [wp_at_zero, wp_at_succ]; go_step; exact hK _ hO)) (by simp only [J.putL, zI, zG, zH, J.dstOf, zF, zD, zE, zS, zQ, zR, Act.put, zA, zB, zC]; rfl) ?_
            refine J.Chain.cons (by rfl) (by rfl) (fun M u hO K hK => by (simp only [wp_at_zero, wp_at_succ]; go_step; exact hK _ hO)) (by simp only [J.putL, zI, zG, zH, J.dstOf, zF, zD, zE, zS, zQ, zR, Act.put, zA, zB, zC]; rfl) ?_
            refine J.Chain.cons (by rfl) (by rfl) (fun M u hO K hK => by ((have e0 := (hO.old hbn).trans g0; simp only [wp_at_zero, wp_at_succ]; go_step; exact hK _ hO))) (by simp only [J.putL, zI, zG, zH, J.dstOf, zF, zD, zE, zS, zQ, zR, Act.put, zA, zB, zC]; rfl) ?_
            refine J.Chain.nil ⟨?_, ?_⟩
            · refine J.Each.cons (by rfl) ?_ ?_; exact ⟨rfl, fun vs M u hO _ K hK => by (refine wp_build_one (cs := [.string y]) hO rfl (by simp only [Act.eval, zJ, zP, J.putL, zI, zG, zH, J.dstOf, zF, zD, zE, zS, zQ, zR, Act.put, zA, zB, zC]; rfl) rfl rfl (zM rfl) rfl fun b u hO => ?_; exact hK _ _ _ (show (J.freshS 9 [.string y]) _ from ⟨b, rfl⟩) hO)⟩; exact J.Each.nil
            intro vs u hO hF
            obtain ⟨b3, h7⟩ : J.freshS _ _ (vs 7) := hF 7 (by decide)
            clear hF
            simp only [List.flatMap_cons, List.flatMap_nil, h7, List.append_nil, zL, zK] at hO
            simp only [h7, J.putL, zI, zG, zH, J.dstOf, zF, zD, zE, zS, zQ, zR, Act.put, zA, zB, zC]
            clear h7 vs
            refine J.wpAny_one (i := 8) (by kernel_rfl) (by rfl) rfl fun K hK => ?_
            refine wp_append_box hO rfl rfl rfl _ (by exact at3) _ (by exact at9) (by rfl) (by simp [Value.oneCell']) (by omega) (by omega) rfl ?_
            clear hO
            intro A' c' u hO
            simp only [zC, zB] at hO
            simp only [Act.put, zA, zB, zC]
            refine hK _ _ ?_
            clear hK K
            refine J.wpAny_one (i := 9) (by kernel_rfl) (by rfl) rfl fun K hK => ?_
            simp only [wp_at_zero, wp_at_succ]
            go_step
            refine hK _ _ ?_
            clear hK K
            refine J.wpAny_one (i := 10) (by kernel_rfl) (by rfl) rfl fun K hK => ?_
            (refine wp_store_field hO rfl rfl _ (by exact at8) (zM rfl) (by simp only [Act.eval, zJ, zF, zD, zE, zP]; rfl) (by rfl) (by rfl) (by rfl) ?_; clear hO; intro u hO; simp only [zC, zB] at hO; refine hK _ _ ?_; clear hK K)
            refine wpAny_done (by kernel_rfl) ?_ _
            go_wp2_with (first
              | (with_reducible refine stop_ret ?_)
              | ((with_reducible refine wpl_alloc ?_); refine wpList_alloc_own rfl (by rfl) hO rfl (fun b => by simp only [Act.put, zA, zB, zC]; rfl) ?_; (first | (refine nm 0 rfl ?_; clear hO; intro b0 u hO) | (refine nm 1 rfl ?_; clear hO; intro b1 u hO) | (refine nm 2 rfl ?_; clear hO; intro b2 u hO) | (refine nm 3 rfl ?_; clear hO; intro b3 u hO) | (refine nm 4 rfl ?_; clear hO; intro b4 u hO) | (refine nm 5 rfl ?_; clear hO; intro b5 u hO) | (refine nm 6 rfl ?_; clear hO; intro b6 u hO) | (refine nm 7 rfl ?_; clear hO; intro b7 u hO) | (refine nm 8 rfl ?_; clear hO; intro b8 u hO) | (refine nm 9 rfl ?_; clear hO; intro b9 u hO) | (refine nm 10 rfl ?_; clear hO; intro b10 u hO) | (refine nm 11 rfl ?_; clear hO; intro b11 u hO)); simp only [zL, zK] at hO)
              | ((with_reducible refine wpl_box ?_); refine wpList_box_own rfl (by rfl) hO rfl rfl (fun b => by simp only [Act.put, zA, zB, zC]; rfl) ?_; (first | (refine nm 0 rfl ?_; clear hO; intro b0 u hO) | (refine nm 1 rfl ?_; clear hO; intro b1 u hO) | (refine nm 2 rfl ?_; clear hO; intro b2 u hO) | (refine nm 3 rfl ?_; clear hO; intro b3 u hO) | (refine nm 4 rfl ?_; clear hO; intro b4 u hO) | (refine nm 5 rfl ?_; clear hO; intro b5 u hO) | (refine nm 6 rfl ?_; clear hO; intro b6 u hO) | (refine nm 7 rfl ?_; clear hO; intro b7 u hO) | (refine nm 8 rfl ?_; clear hO; intro b8 u hO) | (refine nm 9 rfl ?_; clear hO; intro b9 u hO) | (refine nm 10 rfl ?_; clear hO; intro b10 u hO) | (refine nm 11 rfl ?_; clear hO; intro b11 u hO)); simp only [zL, zK] at hO)
              | ((with_reducible refine wpl_load ?_); refine wpList_load_box rfl (by (first | rfl | (simp only [Region.wanted, yielded, *]; go_simp; done) | (simp [Region.wanted, yielded, *]; done) | fail)) hO rfl _ (by (first | exact at0 | exact at1 | exact at2 | exact at3 | exact at4 | exact at5 | exact at6 | exact at7 | exact at8 | exact at9 | exact at10 | exact at11)) (by rfl) (by simp only [Act.put, zA, zB, zC]; rfl) ?_)
              | ((with_reducible refine wpl_load ?_); refine wpList_load_field rfl (by (first | rfl | (simp only [Region.wanted, yielded, *]; go_simp; done) | (simp [Region.wanted, yielded, *]; done) | fail)) hO rfl _ (by (first | exact at0 | exact at1 | exact at2 | exact at3 | exact at4 | exact at5 | exact at6 | exact at7 | exact at8 | exact at9 | exact at10 | exact at11)) (by rfl) (by simp only [Act.put, zA, zB, zC]; rfl) ?_)
              | ((with_reducible refine wpl_store ?_); refine wpList_store_box rfl (by rfl) hO rfl _ (by (first | exact at0 | exact at1 | exact at2 | exact at3 | exact at4 | exact at5 | exact at6 | exact at7 | exact at8 | exact at9 | exact at10 | exact at11)) (by simp only [Act.eval, zJ, zF, zD, zE, zP]; rfl) (by rfl) (by rfl) (by rfl) (by rfl) (by rfl) ?_; clear hO; intro u hO; simp only [zC, zB] at hO)
              | ((with_reducible refine wpl_store ?_); refine wpList_store_field rfl (by rfl) hO rfl _ (by (first | exact at0 | exact at1 | exact at2 | exact at3 | exact at4 | exact at5 | exact at6 | exact at7 | exact at8 | exact at9 | exact at10 | exact at11)) (zM rfl) (by simp only [Act.eval, zJ, zF, zD, zE, zP]; rfl) (by rfl) (by rfl) (by rfl) ?_; clear hO; intro u hO; simp only [zC, zB] at hO)
              | ((with_reducible refine wpl_call ?_); refine wpList_append_str hO rfl (by rfl) rfl rfl _ (by (first | exact at0 | exact at1 | exact at2 | exact at3 | exact at4 | exact at5 | exact at6 | exact at7 | exact at8 | exact at9 | exact at10 | exact at11)) (by omega) rfl (fun A' c' => by simp only [Act.put, zA, zB, zC]; rfl) ?_; clear hO; intro A' c' u hO; simp only [zC, zB] at hO)
              | ((with_reducible refine wpl_call ?_); refine wpList_append_lit hO rfl (by rfl) rfl rfl _ (by (first | exact at0 | exact at1 | exact at2 | exact at3 | exact at4 | exact at5 | exact at6 | exact at7 | exact at8 | exact at9 | exact at10 | exact at11)) (by rfl) (by simp [Value.oneCell']) (by omega) (by omega) rfl (fun A' c' => by simp only [Act.put, zA, zB, zC]; rfl) ?_; clear hO; intro A' c' u hO; simp only [zC, zB] at hO)
              | ((with_reducible refine wpl_build ?_); refine wpList_build_row0 hO rfl (by rfl) rfl (fun b => by simp only [Act.put, zA, zB, zC]; rfl) ?_; clear hO; intro bb u hO; simp only [zL, zK] at hO)
              | ((with_reducible refine wpl_append ?_); refine wpList_append_src hO rfl (by rfl) rfl rfl _ (by (first | exact at0 | exact at1 | exact at2 | exact at3 | exact at4 | exact at5 | exact at6 | exact at7 | exact at8 | exact at9 | exact at10 | exact at11 | exact at12)) ((h4.below hO.below)) (stc_one _) (by omega) (by omega) rfl (fun A' c' => by simp only [Act.put, zA, zB, zC]; rfl) ?_; clear hO; intro A' c' u hO; simp only [zC, zB, Nat.zero_add, zL] at hO; (try simp only [Nat.zero_add]))
              | ((with_reducible refine wpl_append ?_); refine wpList_append_src hO rfl (by rfl) rfl rfl _ (by (first | exact at0 | exact at1 | exact at2 | exact at3 | exact at4 | exact at5 | exact at6 | exact at7 | exact at8 | exact at9 | exact at10 | exact at11 | exact at12)) ((h5'.below hO.below)) (stc_one _) (by omega) (by omega) rfl (fun A' c' => by simp only [Act.put, zA, zB, zC]; rfl) ?_; clear hO; intro A' c' u hO; simp only [zC, zB, Nat.zero_add, zL] at hO; (try simp only [Nat.zero_add]))
              | ((with_reducible refine wpl_build ?_); refine wpList_build_list (cs := []) hO rfl (by rfl) [] (by rfl) (by rfl) rfl (zM rfl) (by rfl) rfl (fun b => by simp only [Act.put, zA, zB, zC]; rfl) ?_; clear hO; intro bb u hO; simp only [zL, zK] at hO)
              | ((with_reducible refine wpl_build ?_); refine wpList_build_list (cs := [.string ⟨#[60, 78, 65, 62]⟩]) hO rfl (by rfl) [.string ⟨#[60, 78, 65, 62]⟩] (by rfl) (by rfl) rfl (zM rfl) (by rfl) rfl (fun b => by simp only [Act.put, zA, zB, zC]; rfl) ?_; clear hO; intro bb u hO; simp only [zL, zK] at hO)
              | ((with_reducible refine wpl_append ?_); refine wpList_append_box hO rfl (by rfl) rfl rfl _ (by (first | exact at0 | exact at1 | exact at2 | exact at3 | exact at4 | exact at5 | exact at6 | exact at7 | exact at8 | exact at9 | exact at10 | exact at11 | exact at12)) _ (by (first | exact at0 | exact at1 | exact at2 | exact at3 | exact at4 | exact at5 | exact at6 | exact at7 | exact at8 | exact at9 | exact at10 | exact at11 | exact at12)) (by rfl) (by simp [Value.oneCell']) (by omega) (by omega) rfl (fun A' c' => by simp only [Act.put, zA, zB, zC]; rfl) ?_; clear hO; intro A' c' u hO; simp only [zC, zB] at hO)
              | fail)
            replace hO := hO.pick [0, 1, 2, 3, 4, 5, 6, 7, 8] (by decide)
            simp only [zN, zO, zE, zD] at hO
            have L1 : ((rpN n is).take (m + 1)).length = I.length + 1 := by rw [S1.out, List.length_append]; rfl
            have E1 : itc ((rpN n is).take (m + 1)) = itc I ++ [.int .i64 xn, .int .i64 xd, .string xt] := by rw [S1.out, itc_app]; rfl
            rw [← L1, ← E1] at hO
            rw [← S2.out] at hO
            have L3 : ((rpN n ns).take (m + 1)).length = N.length + 1 := by rw [S3.out, List.length_append]; rfl
            have E3 : stc ((rpN n ns).take (m + 1)) = stc N ++ [.string y] := by rw [S3.out, stc_app]; rfl
            rw [← L3, ← E3] at hO
            go_roundw
            case rel => exact ⟨m + 1, _, _, _, _, _, _, _, _, by omega, by go_num, by rw [S2.out]; exact hvl, hO⟩
            case measure => simp [intOf]; omega
      · have hmn : m = T := by omega
        subst hmn
        have D : (is.length = L ∨ is = []) ∧ (ps.length = L ∨ ps = []) := by
          have h0 := HLL.out
          by_cases h4 : k = 4
          · have h1 := HI4.out h4
            exact ⟨.inr h1, .inl (by rw [h1] at h0; simpa using h0)⟩
          · have h1 := HP4.out h4
            exact ⟨.inl (by rw [h1] at h0; simpa using h0), .inr h1⟩
        have E1 : (rpN n is).take m = rpN n is := rp_full D.1 HTT.out
        have E2 : (rpN n ps).take m = rpN n ps := rp_full D.2 HTT.out
        have E3 : (rpN n ns).take m = rpN n ns := rp_full (by rcases HNN.out with h | h; exact .inr (List.length_eq_zero_iff.1 h); exact .inl h) HTT.out
        rw [E1, E2, E3] at hO
        rw [E2] at hvl
        clear E1 E2 E3 D HCL HTT HLL HNN HI4 HP4 HP HPL HSZ hlt hm hA h1 h2 h3
        go_wp2_with (first
          | ((with_reducible refine wpl_load ?_); refine wpList_load_box rfl (by rfl) hO rfl _ (by exact at8) (by rfl) (by simp only [Act.put, zA, zB, zC]; rfl) ?_)
          | fail)
        refine (CLEAN A1 A2 A3 A4 A5 (rpN n is).length c1 (rpN n ps).length c2 c3 (lvC cs ls).length c4 ls.length c5 _ (hO.row_sl 3 rfl)).mono ?_
        rintro e9 u ⟨T', t', rfl, hb⟩
        replace hO := hO.front 3 rfl
        simp only [List.eraseIdx_cons_zero, List.eraseIdx_cons_succ] at hO
        replace hO := hO.tidy hb
        clear hb CLEAN
        rw [HRP.out] at hO
        rw [HRP.out]
        go_wp2_with (first
          | (with_reducible refine stop_ret ?_)
          | ((with_reducible refine wpl_store ?_); refine wpList_store_box rfl (by rfl) hO rfl _ (by exact at7) (by simp only [Act.eval, zJ, zF, zD, zE, zP]; rfl) (by rfl) (by rfl) (by rfl) (by rfl) (by rfl) ?_; clear hO; intro u hO; simp only [zC, zB] at hO)
          | fail)
        exact ⟨ret_box rfl hO rfl 7 at7 rfl rfl ⟨_, _, rfl, by rw [HR.out]; exact VO.close hvl, Own.packs [_, _, _, _, _] (hO.pick [2, 3, 0, 4, 5, 1] (by decide))⟩⟩

set_option maxRecDepth 20000 in
set_option maxHeartbeats 8000000 in
theorem spec_rp (n : Int) (t : VT) (vs : List Value) (w : World) (hv : RdV w t vs) (hz : szV t ≤ 1048576) : Calls Try.prog 37 #[.agg vs.toArray, .int .i64 n] w (RetVS (rpT n t) (rpS n t) w) := by
  have CA := fun u (hb : Below w.heap.size w u) => spec_isVec t _ u (hv.grow hb) hz
  have HT : Hid (rpT n t = if isV t then (if t.kind = 5 then vecI 0 [] else if rpG n (lenV t) then (if isV (rpV t n.toNat) then rpV t n.toNat else vecI 0 []) else vecI 0 []) else vecI 0 []) := Lib.hid rfl
  have HS : Hid (rpS n t = if isV t then (if t.kind = 5 then elemS else if rpG n (lenV t) then (if isV (rpV t n.toNat) then ⟨#[]⟩ else bigS) else bigS) else badS) := Lib.hid rfl
  have KV : Hid (isV t = true → t.kind ≠ 5 → lenV t ≤ 40) := Lib.hid (fun h _ => isV_len h)
  have HZ : Hid (szV t ≤ 1048576) := Lib.hid hz
  obtain ⟨X, hX⟩ : ∃ X, rpT n t = X := ⟨_, rfl⟩
  obtain ⟨Y, hY⟩ : ∃ Y, rpS n t = Y := ⟨_, rfl⟩
  rw [hX] at HT
  rw [hY] at HS
  rw [hX, hY]
  clear hX hY
  obtain ⟨qt, hqt⟩ : ∃ q, isV t = q := ⟨_, rfl⟩
  rw [hqt] at CA HT HS KV
  have HQ := Lib.hid hqt
  clear hqt
  obtain ⟨k, is, ps, ns, cs, ls, c, e⟩ := t
  replace HT : Hid (X = if qt then (if k = 5 then vecI 0 [] else if rpG n (lenN k is.length ps.length) then (if isV (rpV (.mk k is ps ns cs ls c e) n.toNat) then rpV (.mk k is ps ns cs ls c e) n.toNat else vecI 0 []) else vecI 0 []) else vecI 0 []) := HT
  replace HS : Hid (Y = if qt then (if k = 5 then elemS else if rpG n (lenN k is.length ps.length) then (if isV (rpV (.mk k is ps ns cs ls c e) n.toNat) then ⟨#[]⟩ else bigS) else bigS) else badS) := HS
  replace KV : Hid (qt = true → k ≠ 5 → lenN k is.length ps.length ≤ 40) := KV
  have HT0 : szV (.mk k is ps ns cs ls c e) = szI is + szL ps + szS ns + szS cs + szS ls := rfl
  have hzp := szL_eq ps
  unfold szI szS at HT0
  have z1 : is.length ≤ 1048576 := by omega
  have z2 : ps.length ≤ 1048576 := by omega
  have z3 : ns.length ≤ 1048576 := by omega
  have z4 : cs.length ≤ 1048576 := by omega
  have z5 : ls.length ≤ 1048576 := by omega
  clear HT0 hzp
  have CPK := fun (h1 : isV (.mk k is ps ns cs ls c e) = true) (h5 : k ≠ 5) (m : Nat) (A : Option Addr) (ca T : Nat) u (hb : Below w.heap.size w u) => spec_pick k is ps ns cs ls c e m _ A ca T u (hv.grow hb) h1 h5
  obtain ⟨Ai, Ap, An, Ac, Al, ci, cp, cn, cc, cl, pvs0, rfl, h1, h2, h3, h4, h5⟩ := hv.open
  have LA := fun u => spec_len k Ai Ap is.length ps.length ci cp (.slice An ns.length cn) (.slice Ac cs.length cc) (.slice Al ls.length cl) (.int .i64 c) (.int .i64 e) u (by omega)
  obtain ⟨L, hL⟩ : ∃ L, lenN k is.length ps.length = L := ⟨_, rfl⟩
  rw [hL] at LA HT HS KV
  have HL := Lib.hid hL
  clear hv hz h1 h2 h3 h4 h5 hL
  cases qt with
  | false =>
    have HF : Hid (X = vecI 0 []) := Lib.hid (by rw [HT.out]; rfl)
    have HG : Hid (Y = badS) := Lib.hid (by rw [HS.out]; rfl)
    clear HT HS KV HQ HZ HL CPK z1 z2 z3 z4 z5
    clear LA
    go_enter Try.func37, Try.ntmps37
    have hO := Own.nil w
    go_wp2_with (first
      | ((with_reducible refine (CA _ hO.below).mono ?_); rintro e u ⟨rfl, hb⟩; (replace hO := hO.step hb; clear hb))
      | ((with_reducible refine (spec_bad _).mono ?_); rintro e u ⟨rfl, hb⟩; (replace hO := hO.step hb; clear hb))
      | (with_reducible refine stop_ret ?_)
      | ((with_reducible refine wpl_alloc ?_); refine wpList_alloc_own rfl (by rfl) hO rfl (fun b => by simp only [Act.put, zA, zB, zC]; rfl) ?_; (refine nm 1 rfl ?_; clear hO; intro b1 u hO); simp only [zL, zK] at hO)
      | ((with_reducible refine wpl_box ?_); refine wpList_box_own rfl (by rfl) hO rfl rfl (fun b => by simp only [Act.put, zA, zB, zC]; rfl) ?_; (refine nm 0 rfl ?_; clear hO; intro b0 u hO); simp only [zL, zK] at hO)
      | ((with_reducible refine wpl_load ?_); refine wpList_load_box rfl (by rfl) hO rfl _ (by exact at0) (by rfl) (by simp only [Act.put, zA, zB, zC]; rfl) ?_)
      | ((with_reducible refine wpl_store ?_); refine wpList_store_box rfl (by rfl) hO rfl _ (by exact at1) (by simp only [Act.eval, zJ, zF, zD, zE, zP]; rfl) (by rfl) (by rfl) (by rfl) (by rfl) (by rfl) ?_; clear hO; intro u hO; simp only [zC, zB] at hO)
      | fail)
    obtain ⟨F0, hvo0, hF⟩ := Own.vec0 u 0
    exact ⟨ret_box2 rfl hO rfl 1 at1 rfl rfl rfl ⟨_, _, by rw [HG.out]; rfl, by rw [HF.out]; exact hvo0, (hO.call hF).pick [0] (by decide)⟩⟩
  | true =>
  by_cases hk : k = 5
  · subst hk
    have HF : Hid (X = vecI 0 []) := Lib.hid (by rw [HT.out]; rfl)
    have HG : Hid (Y = elemS) := Lib.hid (by rw [HS.out]; rfl)
    clear HT HS KV HQ HZ HL CPK z1 z2 z3 z4 z5
    clear LA
    go_enter Try.func37, Try.ntmps37
    have hO := Own.nil w
    go_wp2_with (first
      | ((with_reducible refine (CA _ hO.below).mono ?_); rintro e u ⟨rfl, hb⟩; (replace hO := hO.step hb; clear hb))
      | (with_reducible refine stop_ret ?_)
      | ((with_reducible refine wpl_alloc ?_); refine wpList_alloc_own rfl (by rfl) hO rfl (fun b => by simp only [Act.put, zA, zB, zC]; rfl) ?_; (refine nm 1 rfl ?_; clear hO; intro b1 u hO); simp only [zL, zK] at hO)
      | ((with_reducible refine wpl_box ?_); refine wpList_box_own rfl (by rfl) hO rfl rfl (fun b => by simp only [Act.put, zA, zB, zC]; rfl) ?_; (refine nm 0 rfl ?_; clear hO; intro b0 u hO); simp only [zL, zK] at hO)
      | ((with_reducible refine wpl_load ?_); refine wpList_load_box rfl (by rfl) hO rfl _ (by exact at0) (by rfl) (by simp only [Act.put, zA, zB, zC]; rfl) ?_)
      | ((with_reducible refine wpl_load ?_); refine wpList_load_field rfl (by rfl) hO rfl _ (by exact at0) (by rfl) (by simp only [Act.put, zA, zB, zC]; rfl) ?_)
      | ((with_reducible refine wpl_store ?_); refine wpList_store_box rfl (by rfl) hO rfl _ (by exact at1) (by simp only [Act.eval, zJ, zF, zD, zE, zP]; rfl) (by rfl) (by rfl) (by rfl) (by rfl) (by rfl) ?_; clear hO; intro u hO; simp only [zC, zB] at hO)
      | fail)
    obtain ⟨F0, hvo0, hF⟩ := Own.vec0 u 0
    exact ⟨ret_box2 rfl hO rfl 1 at1 rfl rfl rfl ⟨_, _, by rw [HG.out]; rfl, by rw [HF.out]; exact hvo0, (hO.call hF).pick [0] (by decide)⟩⟩
  have q5 : (k == 5) = false := by simp [hk]
  have l40 := KV.out rfl hk
  have CI := fun u => spec_in n 0 40 u
  have hin : inI n 0 40 = (decide (0 ≤ n) && decide (n ≤ 40)) := inI_eq n 0 40
  by_cases g0 : ¬ (0 ≤ n ∧ n ≤ 40)
  · have hi : inI n 0 40 = false := by rw [hin]; rw [Bool.and_eq_false_iff, decide_eq_false_iff_not, decide_eq_false_iff_not]; omega
    rw [hi] at CI
    have HF : Hid (X = vecI 0 []) := Lib.hid (by rw [HT.out]; rw [show rpG n L = false from by unfold rpG; rw [← hin, hi]; rfl]; simp [hk])
    have HG : Hid (Y = bigS) := Lib.hid (by rw [HS.out]; rw [show rpG n L = false from by unfold rpG; rw [← hin, hi]; rfl]; simp [hk])
    clear HT HS KV HQ HZ HL CPK z1 z2 z3 z4 z5
    clear hi hin g0
    go_enter Try.func37, Try.ntmps37
    have hO := Own.nil w
    go_wp2_with (first
      | ((with_reducible refine (CA _ hO.below).mono ?_); rintro e u ⟨rfl, hb⟩; (replace hO := hO.step hb; clear hb))
      | ((with_reducible refine (CI _).mono ?_); rintro e u ⟨rfl, hb⟩; subst hb)
      | (with_reducible refine stop_ret ?_)
      | ((with_reducible refine wpl_alloc ?_); refine wpList_alloc_own rfl (by rfl) hO rfl (fun b => by simp only [Act.put, zA, zB, zC]; rfl) ?_; (refine nm 1 rfl ?_; clear hO; intro b1 u hO); simp only [zL, zK] at hO)
      | ((with_reducible refine wpl_box ?_); refine wpList_box_own rfl (by rfl) hO rfl rfl (fun b => by simp only [Act.put, zA, zB, zC]; rfl) ?_; (refine nm 0 rfl ?_; clear hO; intro b0 u hO); simp only [zL, zK] at hO)
      | ((with_reducible refine wpl_load ?_); refine wpList_load_box rfl (by rfl) hO rfl _ (by exact at0) (by rfl) (by simp only [Act.put, zA, zB, zC]; rfl) ?_)
      | ((with_reducible refine wpl_load ?_); refine wpList_load_field rfl (by rfl) hO rfl _ (by exact at0) (by rfl) (by simp only [Act.put, zA, zB, zC]; rfl) ?_)
      | ((with_reducible refine wpl_store ?_); refine wpList_store_box rfl (by rfl) hO rfl _ (by exact at1) (by simp only [Act.eval, zJ, zF, zD, zE, zP]; rfl) (by rfl) (by rfl) (by rfl) (by rfl) (by rfl) ?_; clear hO; intro u hO; simp only [zC, zB] at hO)
      | fail)
    obtain ⟨F0, hvo0, hF⟩ := Own.vec0 u 0
    exact ⟨ret_box2 rfl hO rfl 1 at1 rfl rfl rfl ⟨_, _, by rw [HG.out]; rfl, by rw [HF.out]; exact hvo0, (hO.call hF).pick [0] (by decide)⟩⟩
  have hi : inI n 0 40 = true := by rw [hin]; rw [Bool.and_eq_true, decide_eq_true_eq, decide_eq_true_eq]; omega
  rw [hi] at CI
  obtain ⟨g1, g2⟩ := Decidable.not_not.1 g0
  replace g1 : ¬ n < 0 := by omega
  replace g2 : ¬ 40 < n := by omega
  clear g0 hi hin
  obtain ⟨m, rfl⟩ : ∃ m : Nat, n = m := ⟨n.toNat, by omega⟩
  obtain ⟨p, hp⟩ : ∃ p, m * L = p := ⟨_, rfl⟩
  have m40 : m ≤ 40 := by omega
  have hmul : (m : Int) * (L : Int) = (p : Int) := by rw [← hp, Int.natCast_mul]
  have hmul2 : (L : Int) * (m : Int) = (p : Int) := by rw [Int.mul_comm]; exact hmul
  have p1600 : p ≤ 1600 := by rw [← hp]; exact Nat.mul_le_mul m40 l40
  have hG : rpG (m : Int) L = decide (p ≤ 40) := by
    unfold rpG
    rw [hmul, decide_eq_true (by omega), decide_eq_true (by omega)]
    simp only [Bool.true_and]
    exact decide_eq_decide.2 (by omega)
  by_cases g3 : 40 < p
  · have gp : ¬ p ≤ 40 := by omega
    have HF : Hid (X = vecI 0 []) := Lib.hid (by rw [HT.out]; rw [hG, decide_eq_false gp]; simp [hk])
    have HG : Hid (Y = bigS) := Lib.hid (by rw [HS.out]; rw [hG, decide_eq_false gp]; simp [hk])
    clear HT HS KV HQ HZ HL CPK z1 z2 z3 z4 z5
    clear gp hG hp
    go_enter Try.func37, Try.ntmps37
    have hO := Own.nil w
    go_wp2_with (first
      | ((with_reducible refine (CA _ hO.below).mono ?_); rintro e u ⟨rfl, hb⟩; (replace hO := hO.step hb; clear hb))
      | ((with_reducible refine (CI _).mono ?_); rintro e u ⟨rfl, hb⟩; subst hb)
      | ((with_reducible refine (LA _).mono ?_); rintro e u ⟨rfl, hb⟩; (replace hO := hO.step hb; clear hb))
      | (with_reducible refine stop_ret ?_)
      | ((with_reducible refine wpl_alloc ?_); refine wpList_alloc_own rfl (by rfl) hO rfl (fun b => by simp only [Act.put, zA, zB, zC]; rfl) ?_; (refine nm 1 rfl ?_; clear hO; intro b1 u hO); simp only [zL, zK] at hO)
      | ((with_reducible refine wpl_box ?_); refine wpList_box_own rfl (by rfl) hO rfl rfl (fun b => by simp only [Act.put, zA, zB, zC]; rfl) ?_; (refine nm 0 rfl ?_; clear hO; intro b0 u hO); simp only [zL, zK] at hO)
      | ((with_reducible refine wpl_load ?_); refine wpList_load_box rfl (by rfl) hO rfl _ (by exact at0) (by rfl) (by simp only [Act.put, zA, zB, zC]; rfl) ?_)
      | ((with_reducible refine wpl_load ?_); refine wpList_load_field rfl (by rfl) hO rfl _ (by exact at0) (by rfl) (by simp only [Act.put, zA, zB, zC]; rfl) ?_)
      | ((with_reducible refine wpl_store ?_); refine wpList_store_box rfl (by rfl) hO rfl _ (by exact at1) (by simp only [Act.eval, zJ, zF, zD, zE, zP]; rfl) (by rfl) (by rfl) (by rfl) (by rfl) (by rfl) ?_; clear hO; intro u hO; simp only [zC, zB] at hO)
      | fail)
    obtain ⟨F0, hvo0, hF⟩ := Own.vec0 u 0
    exact ⟨ret_box2 rfl hO rfl 1 at1 rfl rfl rfl ⟨_, _, by rw [HG.out]; rfl, by rw [HF.out]; exact hvo0, (hO.call hF).pick [0] (by decide)⟩⟩
  have gp : p ≤ 40 := by omega
  have HT' : Hid (X = if isV (rpV (.mk k is ps ns cs ls c e) m) then rpV (.mk k is ps ns cs ls c e) m else vecI 0 []) := Lib.hid (by rw [HT.out, hG, decide_eq_true gp]; simp [hk])
  have HS' : Hid (Y = if isV (rpV (.mk k is ps ns cs ls c e) m) then ⟨#[]⟩ else bigS) := Lib.hid (by rw [HS.out, hG, decide_eq_true gp]; simp [hk])
  have hszR := rpV_sz m40 HZ.out
  have hq1 := HQ.out
  have hL := HL.out
  clear HT HS hG KV HQ HL
  have L40 := Lib.hid l40
  have CF : ∀ (vs : List Value) (u : World), RdV u (rpV (.mk k is ps ns cs ls c e) m) vs → Calls Try.prog 61 #[.agg vs.toArray] u fun e' w' => e' = .returned (.tuple #[.agg (if isV (rpV (.mk k is ps ns cs ls c e) m) then vs else zero8).toArray, .string (if isV (rpV (.mk k is ps ns cs ls c e) m) then ⟨#[]⟩ else bigS)]) ∧ Below u.heap.size u w' := fun vs u h => spec_fitG (rpV (.mk k is ps ns cs ls c e) m) vs u h hszR
  have HR : Hid (rpV (.mk k is ps ns cs ls c e) m = .mk k (rpN m is) (rpN m ps) (rpN m ns) (lvC cs ls) ls 0 0) := Lib.hid rfl
  have CK := fun (A : Option Addr) (ca : Nat) u (hb : Below w.heap.size w u) (hA : Sl u 1 A p (ints (rqL L p))) => (CPK hq1 hk m A ca p u hb HZ.out L hL hp gp hA).mono fun e' w' h => RetV.exC (xk := k) (xi := rpN m is) (xp := rpN m ps) (xn := rpN m ns) (xc := lvC cs ls) (xl := ls) (xo := 0) (xe := 0) h
  obtain ⟨q, hq⟩ : ∃ q, isV (rpV (.mk k is ps ns cs ls c e) m) = q := ⟨_, rfl⟩
  rw [hq] at CF HT' HS'
  rw [HR.out] at CF HT'
  have HPZ : Hid (0 < p → 0 < L) := Lib.hid (fun h => by
    rcases Nat.eq_zero_or_pos L with h' | h'
    · subst h'
      simp at hp
      omega
    · exact h')
  clear hq hszR HR hq1 hL CPK HZ l40 hp
  go_enter Try.func37, Try.ntmps37
  have hO := Own.nil w
  go_wp2_with (first
    | ((with_reducible refine (CA _ hO.below).mono ?_); rintro e u ⟨rfl, hb⟩; (replace hO := hO.step hb; clear hb))
    | ((with_reducible refine (CI _).mono ?_); rintro e u ⟨rfl, hb⟩; subst hb)
    | ((with_reducible refine (LA _).mono ?_); rintro e u ⟨rfl, hb⟩; (replace hO := hO.step hb; clear hb))
    | ((with_reducible refine wpl_alloc ?_); refine wpList_alloc_own rfl (by rfl) hO rfl (fun b => by simp only [Act.put, zA, zB, zC]; rfl) ?_; (refine nm 1 rfl ?_; clear hO; intro b1 u hO); simp only [zL, zK] at hO)
    | ((with_reducible refine wpl_box ?_); refine wpList_box_own rfl (by rfl) hO rfl rfl (fun b => by simp only [Act.put, zA, zB, zC]; rfl) ?_; (refine nm 0 rfl ?_; clear hO; intro b0 u hO); simp only [zL, zK] at hO)
    | ((with_reducible refine wpl_load ?_); refine wpList_load_box rfl (by rfl) hO rfl _ (by exact at0) (by rfl) (by simp only [Act.put, zA, zB, zC]; rfl) ?_)
    | ((with_reducible refine wpl_load ?_); refine wpList_load_field rfl (by rfl) hO rfl _ (by exact at0) (by rfl) (by simp only [Act.put, zA, zB, zC]; rfl) ?_)
    | ((with_reducible refine wpl_build ?_); refine wpList_build_row0 hO rfl (by rfl) rfl (fun b => by simp only [Act.put, zA, zB, zC]; rfl) ?_; clear hO; intro bb u hO; simp only [zL, zK] at hO)
    | fail)
  go_loopw [6, 7] (fun s i u => ∃ (j : Nat) (A' : Option Addr) (c' : Nat), j ≤ p ∧ i = .int .i64 j ∧ s = .slice A' j c' ∧ Own w [row 3 1 (.slice A' j c') j (ints (rqL L j)), box b0 29 [.int .i64 k, .slice Ai is.length ci, .slice Ap ps.length cp, .slice An ns.length cn, .slice Ac cs.length cc, .slice Al ls.length cl, .int .i64 c, .int .i64 e], box b1 29 [.int .i64 0, .slice none 0 0, .slice none 0 0, .slice none 0 0, .slice none 0 0, .slice none 0 0, .int .i64 0, .int .i64 0]] u) (fun _ i _ => p - (intOf i).toNat)
  case atStart => exact ⟨0, _, _, Nat.zero_le _, rfl, rfl, hO.pick [2, 0, 1] (by decide)⟩
  case round =>
    clear hO
    obtain ⟨j, A', c', hj, rfl, rfl, hO⟩ := hrel
    by_cases hlt : j < p
    · have i1 : (j : Int) < (p : Int) := by omega
      have l0 := HPZ.out (by omega)
      have n1 : ¬ L = 0 := by omega
      obtain ⟨r, hr⟩ : ∃ r, j % L = r := ⟨_, rfl⟩
      have m1 : (j : Int) % (L : Int) = (r : Int) := by rw [← Int.natCast_emod, hr]
      have r1 : r < L := by rw [← hr]; exact Nat.mod_lt _ l0
      have l41 : L ≤ 40 := L40.out
      have HSS : Hid (ints (rqL L (j + 1)) = ints (rqL L j) ++ [.int .i64 ((r : Int) + 1)]) := Lib.hid (by rw [rqL_succ, hr]; simp [ints])
      clear hr
      go_wp2_with (first
        | ((with_reducible refine (LA _).mono ?_); rintro e u ⟨rfl, hb⟩; (replace hO := hO.step hb; clear hb))
        | ((with_reducible refine wpl_load ?_); refine wpList_load_box rfl (by rfl) hO rfl _ (by exact at1) (by rfl) (by simp only [Act.put, zA, zB, zC]; rfl) ?_)
        | ((with_reducible refine wpl_build ?_); refine wpList_build_one (cs := [.int .i64 ((r : Int) + 1)]) hO rfl (by rfl) (by simp only [Act.eval, zJ, zF, zD, zE, zP]; rfl) rfl rfl (zM rfl) rfl (fun b => by simp only [Act.put, zA, zB, zC]; rfl) ?_; clear hO; intro bb u hO; simp only [zL, zK] at hO)
        | ((with_reducible refine wpl_append ?_); refine wpList_append_box hO rfl (by rfl) rfl rfl _ (by exact at0) _ (by exact at3) (by rfl) (by simp [Value.oneCell']) (by omega) (by omega) rfl (fun A' c' => by simp only [Act.put, zA, zB, zC]; rfl) ?_; clear hO; intro A' c' u hO; simp only [zC, zB] at hO)
        | fail)
      replace hO := hO.pick [0, 1, 2] (by decide)
      simp only [zN, zO, zE, zD] at hO
      rw [← HSS.out] at hO
      go_roundw
      case rel => exact ⟨j + 1, _, _, by omega, by go_num, rfl, hO⟩
      case measure => simp [intOf]; omega
    · have hjp : j = p := by omega
      subst hjp
      clear hlt hj
      go_wp2_with (first
        | ((with_reducible refine (LA _).mono ?_); rintro e u ⟨rfl, hb⟩; (replace hO := hO.step hb; clear hb))
        | ((with_reducible refine wpl_load ?_); refine wpList_load_box rfl (by rfl) hO rfl _ (by exact at1) (by rfl) (by simp only [Act.put, zA, zB, zC]; rfl) ?_)
        | fail)
      refine (CK _ _ _ hO.below (hO.row_sl 0 rfl)).mono ?_
      rintro e9 u ⟨C1, C2, C3, C4, C5, d1, d2, d3, d4, d5, F, rfl, hvo, hb⟩
      replace hO := hO.call hb
      clear hb CK
      simp only [List.cons_append, List.nil_append] at hO
      replace hO := hO.pick [0, 2, 3] (by decide)
      simp only [zN, zO, zE, zD] at hO
      cases q with
      | true =>
        have HF : Hid (X = .mk k (rpN m is) (rpN m ps) (rpN m ns) (lvC cs ls) ls 0 0) := Lib.hid (by rw [HT'.out, if_pos rfl])
        have HG : Hid (Y = ⟨#[]⟩) := Lib.hid (by rw [HS'.out, if_pos rfl])
        simp only [if_true] at CF
        clear HT' HS'
        go_wp2_with (first
          | ((with_reducible refine (CF _ _ (hO.rdp 0 rfl hvo)).mono ?_); rintro e u ⟨rfl, hb⟩; (replace hO := hO.step hb; clear hb))
          | (with_reducible refine stop_ret ?_)
          | ((with_reducible refine wpl_alloc ?_); refine wpList_alloc_own rfl (by rfl) hO rfl (fun b => by simp only [Act.put, zA, zB, zC]; rfl) ?_; (refine nm 3 rfl ?_; clear hO; intro b3 u hO); simp only [zL, zK] at hO)
          | ((with_reducible refine wpl_load ?_); refine wpList_load_box rfl (by rfl) hO rfl _ (by exact at3) (by rfl) (by simp only [Act.put, zA, zB, zC]; rfl) ?_)
          | ((with_reducible refine wpl_store ?_); refine wpList_store_box rfl (by rfl) hO rfl _ (by (first | exact at2 | exact at3 | fail)) (by simp only [Act.eval, zJ, zF, zD, zE, zP]; rfl) (by rfl) (by rfl) (by rfl) (by rfl) (by rfl) ?_; clear hO; intro u hO; simp only [zC, zB] at hO)
          | fail)
        exact ⟨ret_box2 rfl hO rfl 2 at2 rfl rfl rfl ⟨_, _, by rw [HG.out]; rfl, by rw [HF.out]; exact hvo, hO.pick [0] (by decide)⟩⟩
      | false =>
        have HF : Hid (X = vecI 0 []) := Lib.hid (by rw [HT'.out]; rfl)
        have HG : Hid (Y = bigS) := Lib.hid (by rw [HS'.out]; rfl)
        simp only [Bool.false_eq_true, if_false] at CF
        clear HT' HS'
        go_wp2_with (first
          | ((with_reducible refine (CF _ _ (hO.rdp 0 rfl hvo)).mono ?_); rintro e u ⟨rfl, hb⟩; (replace hO := hO.step hb; clear hb))
          | (with_reducible refine stop_ret ?_)
          | ((with_reducible refine wpl_alloc ?_); refine wpList_alloc_own rfl (by rfl) hO rfl (fun b => by simp only [Act.put, zA, zB, zC]; rfl) ?_; (refine nm 3 rfl ?_; clear hO; intro b3 u hO); simp only [zL, zK] at hO)
          | ((with_reducible refine wpl_load ?_); refine wpList_load_box rfl (by rfl) hO rfl _ (by exact at3) (by rfl) (by simp only [Act.put, zA, zB, zC]; rfl) ?_)
          | ((with_reducible refine wpl_store ?_); refine wpList_store_box rfl (by rfl) hO rfl _ (by (first | exact at2 | exact at3 | fail)) (by simp only [Act.eval, zJ, zF, zD, zE, zP]; rfl) (by rfl) (by rfl) (by rfl) (by rfl) (by rfl) ?_; clear hO; intro u hO; simp only [zC, zB] at hO)
          | fail)
        obtain ⟨F0, hvo0, hF⟩ := Own.vec0 u 0
        exact ⟨ret_box2 rfl hO rfl 2 at2 rfl rfl rfl ⟨_, _, by rw [HG.out]; rfl, by rw [HF.out]; exact hvo0, (hO.call hF).pick [0] (by decide)⟩⟩

end Go.Proofs.Ytmofcbpabdbjlaa
