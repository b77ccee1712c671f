/-
  What is proved: how items, texts and parts are read cell by cell; what the statements take of their bound for vectors. what the statements' copies of items, parts and vectors return: memory of the call's own.
  No condition beyond those of the theorems. Condition: vectors of size at most 1048576.
-/
import Derived.Test.YtmofcbpabdbjlaaVa
import Derived.Test.YtmofcbpabdbjlaaJ
import Derived.Test.YtmofcbpabdbjlaaGcd
import Derived.Test.YtmofcbpabdbjlaaW2
import Derived.Test.YtmofcbpabdbjlaaVr
namespace Go.Proofs.Ytmofcbpabdbjlaa
set_option maxRecDepth 8000

section
open Go.RowKit Go.ChangeShapes Go.WideShapes
set_option linter.unusedVariables false
set_option linter.unusedSimpArgs false

/-- the cells of item i, in a world in which the memory of w is as it was -/
theorem Sl.it {w u : World} {A : Option Addr} {l : List It} (h : Sl w 3 A l.length (itc l)) (hb : Below w.heap.size w u) {i : Nat} (hi : i < l.length) {x : It} (hx : l[i]'hi = x) :
    ∃ b off, A = some ⟨b, off, none⟩ ∧ b < w.heap.size ∧ u.cell? ⟨b, off + i * 3, none⟩ = some (.int .i64 x.num) ∧ u.cell? ⟨b, off + i * 3 + 1, none⟩ = some (.int .i64 x.den) ∧ u.cell? ⟨b, off + i * 3 + 2, none⟩ = some (.string x.text) := by
  subst hx
  obtain ⟨b, off, e, hlt, hc⟩ := h.at' (f := itc1) (fun _ _ => rfl) hi
  exact ⟨b, off, e, hlt, (hb.cell (p := ⟨b, _, none⟩) hlt).trans (hc 0 _ rfl), (hb.cell (p := ⟨b, _, none⟩) hlt).trans (hc 1 _ rfl), (hb.cell (p := ⟨b, _, none⟩) hlt).trans (hc 2 _ rfl)⟩

theorem Sl.tx {w u : World} {A : Option Addr} {l : List ByteArray} (h : Sl w 1 A l.length (stc l)) (hb : Below w.heap.size w u) {i : Nat} (hi : i < l.length) {x : ByteArray} (hx : l[i]'hi = x) :
    ∃ b off, A = some ⟨b, off, none⟩ ∧ b < w.heap.size ∧ u.cell? ⟨b, off + i, none⟩ = some (.string x) := by
  subst hx
  obtain ⟨b, off, e, hlt, hc⟩ := h.cell1 hi
  rw [stc_at hi] at hc
  exact ⟨b, off, e, hlt, (hb.cell (p := ⟨b, _, none⟩) hlt).trans hc⟩

/-- the cells of part i -/
theorem RdL.pt {w u : World} {A : Option Addr} {ps : List VT} {pvs : List (List Value)} (h : RdL w A ps pvs) (hb : Below w.heap.size w u) {i : Nat} (hi : i < ps.length) {t : VT} (ht : ps[i]'hi = t) :
    ∃ b off, A = some ⟨b, off, none⟩ ∧ b < w.heap.size ∧ ∃ v0 v1 v2 v3 v4 v5 v6 v7, RdV u t [v0, v1, v2, v3, v4, v5, v6, v7] ∧ u.cell? ⟨b, off + i * 8, none⟩ = some v0 ∧ u.cell? ⟨b, off + i * 8 + 1, none⟩ = some v1 ∧ u.cell? ⟨b, off + i * 8 + 2, none⟩ = some v2 ∧ u.cell? ⟨b, off + i * 8 + 3, none⟩ = some v3 ∧
      u.cell? ⟨b, off + i * 8 + 4, none⟩ = some v4 ∧ u.cell? ⟨b, off + i * 8 + 5, none⟩ = some v5 ∧ u.cell? ⟨b, off + i * 8 + 6, none⟩ = some v6 ∧ u.cell? ⟨b, off + i * 8 + 7, none⟩ = some v7 := by
  subst ht
  obtain ⟨b, off, e, hlt, vs, hv, hc⟩ := h.cells hi
  match vs, hv.len, hv, hc with
  | [v0, v1, v2, v3, v4, v5, v6, v7], _, hv, hc =>
    have q : ∀ j u', [v0, v1, v2, v3, v4, v5, v6, v7][j]? = some u' → u.cell? ⟨b, off + (i * 8 + j), none⟩ = some u' := fun j u' hu => (hb.cell (p := ⟨b, _, none⟩) hlt).trans (hc j u' hu)
    exact ⟨b, off, e, hlt, v0, v1, v2, v3, v4, v5, v6, v7, hv.grow hb, q 0 _ rfl, q 1 _ rfl, q 2 _ rfl, q 3 _ rfl, q 4 _ rfl, q 5 _ rfl, q 6 _ rfl, q 7 _ rfl⟩

theorem left_add {lf : Int} {a b : Nat} (h : ¬ lf < a) : leftI (lf - a) b = leftI lf (a + b) := by
  unfold leftI
  by_cases h2 : lf - a < b
  · rw [if_pos h2, if_pos (by omega)]
  · rw [if_neg h2, if_neg (by omega)]; omega
theorem left_nn {lf : Int} {a : Nat} (h : ¬ lf < a) : 0 ≤ leftI lf a ∧ leftI lf a ≤ lf := by rw [left_yes h]; omega

theorem laws_szItems (A : Option Addr) (c : Nat) (l : List It) (lf : Int) (w : World) (h : Sl w 3 A l.length (itc l)) (hn : l.length ≤ 9223372036854775807) (hl : 0 ≤ lf ∧ lf ≤ 1048576) (hs : ∀ s ∈ l, s.text.size ≤ maxLen) :
    Calls Try.prog 74 #[.slice A l.length c, .int .i64 lf] w fun e w' => e = .returned (.int .i64 (leftI lf (szI l))) ∧ Below w.heap.size w w' := by
  obtain ⟨hl1, hl2⟩ := hl
  by_cases h0 : lf < l.length
  · have HR := Lib.hid (left_no (lf := lf) (z := szI l) (by unfold szI; omega))
    go_enter Try.func74, Try.ntmps74
    have hO := Own.nil w
    go_wp2_with (first
      | ((with_reducible refine wpl_alloc ?_); refine wpList_alloc_own rfl (by rfl) hO rfl (fun b => by simp only [Act.put, zA, zB, zC]; rfl) ?_; (first | (refine nm 0 rfl ?_; clear hO; intro b0 u hO)); simp only [zL, zK] at hO)
      | ((with_reducible refine wpl_box ?_); refine wpList_box_own rfl (by rfl) hO rfl rfl (fun b => by simp only [Act.put, zA, zB, zC]; rfl) ?_; (first | (refine nm 0 rfl ?_; clear hO; intro b0 u hO)); simp only [zL, zK] at hO)
      | fail)
    go_ret
    exact ⟨ret_int HR.out.symm, hO.below⟩
  · have h0' : (l.length : Int) ≤ lf := by omega
    clear h0
    go_enter Try.func74, Try.ntmps74
    have hO := Own.nil w
    go_wp2_with (first
      | ((with_reducible refine wpl_alloc ?_); refine wpList_alloc_own rfl (by rfl) hO rfl (fun b => by simp only [Act.put, zA, zB, zC]; rfl) ?_; (first | (refine nm 0 rfl ?_; clear hO; intro b0 u hO)); simp only [zL, zK] at hO)
      | ((with_reducible refine wpl_box ?_); refine wpList_box_own rfl (by rfl) hO rfl rfl (fun b => by simp only [Act.put, zA, zB, zC]; rfl) ?_; (first | (refine nm 0 rfl ?_; clear hO; intro b0 u hO)); simp only [zL, zK] at hO)
      | fail)
    go_loopw [1, 5] (fun r i u => ∃ k : Nat, k ≤ l.length ∧ i = .int .i64 k ∧ r = .int .i64 (lf - l.length - (itz (l.take k) : Nat)) ∧ ((itz (l.take k) : Nat) : Int) ≤ lf - l.length ∧ Own w [] u) (fun _ i _ => l.length - (intOf i).toNat)
    case atStart => exact ⟨0, Nat.zero_le _, rfl, by simp [itz], by simp [itz]; omega, hO⟩
    case round =>
      clear hO
      obtain ⟨k, hk, rfl, rfl, hle, hO⟩ := hrel
      by_cases hlt : k < l.length
      · have hsz := hs _ (List.getElem_mem hlt)
        have HST := Lib.hid (itz_succ hlt)
        have HTL := Lib.hid (itz_take_le l (k + 1))
        obtain ⟨x, hx⟩ : ∃ x, l[k]'hlt = x := ⟨_, rfl⟩
        obtain ⟨b, off, rfl, hb, c0, c1, c2⟩ := h.it hO.below hlt hx
        rw [hx] at hsz HST
        clear hx
        obtain ⟨z, hz⟩ : ∃ z, itz (l.take k) = z := ⟨_, rfl⟩
        rw [hz] at hle HST
        rw [hz]
        have HZ := Lib.hid hz
        clear hz
        by_cases hov : lf - l.length - z < x.text.size
        · have HR := Lib.hid (left_no (lf := lf) (z := szI l) (by have := HST.out; have := HTL.out; unfold szI; omega))
          have HE := Lib.hid (if_pos hov : (if lf - l.length - z < x.text.size then (-1 : Int) else lf - l.length - z - x.text.size) = -1)
          go_wp2_with fail
          refine (laws_szItem _ _ _ _ _ hsz (by omega)).mono ?_
          rintro e u ⟨rfl, hb⟩
          (replace hO := hO.step hb; clear hb)
          rw [HE.out]
          go_wp2_with fail
          go_ret
          exact ⟨ret_int HR.out.symm, hO.below⟩
        · have HE := Lib.hid (if_neg hov : (if lf - l.length - z < x.text.size then (-1 : Int) else lf - l.length - z - x.text.size) = lf - l.length - z - x.text.size)
          have hov' : 0 ≤ lf - l.length - z - x.text.size := by omega
          clear hov
          go_wp2_with fail
          refine (laws_szItem _ _ _ _ _ hsz (by omega)).mono ?_
          rintro e u ⟨rfl, hb⟩
          (replace hO := hO.step hb; clear hb)
          rw [HE.out]
          go_wp2_with fail
          go_roundw
          case rel => exact ⟨k + 1, by omega, by go_num, by rw [HST.out]; exact congrArg (Value.int .i64) (by omega), by rw [HST.out]; omega, hO⟩
          case measure => simp [intOf]; omega
      · have hkn : k = l.length := by omega
        have htk : l.take k = l := List.take_of_length_le (by omega)
        rw [htk] at hle
        rw [htk]
        have HR := Lib.hid (show leftI lf (szI l) = lf - l.length - (itz l : Nat) by rw [left_yes (by unfold szI; omega)]; unfold szI; omega)
        clear htk
        subst hkn
        go_wp2_with fail
        go_ret
        exact ⟨ret_int HR.out.symm, hO.below⟩

def PSz (t : VT) : Prop := ∀ (vs : List Value) (lf : Int) (w : World), RdV w t vs → wfV t → 0 ≤ lf ∧ lf ≤ 1048576 → Calls Try.prog 29 #[.agg vs.toArray, .int .i64 lf] w fun e w' => e = .returned (.int .i64 (leftI lf (szV t))) ∧ Below w.heap.size w w'

theorem laws_szVecs (ps : List VT) (hP : ∀ p ∈ ps, PSz p) (A : Option Addr) (c : Nat) (pvs : List (List Value)) (lf : Int) (w : World) (h : RdL w A ps pvs) (hw : wfL ps) (hn : ps.length ≤ 9223372036854775807) (hl : 0 ≤ lf ∧ lf ≤ 1048576) :
    Calls Try.prog 16 #[.slice A ps.length c, .int .i64 lf] w fun e w' => e = .returned (.int .i64 (leftI lf (szL ps))) ∧ Below w.heap.size w w' := by
  obtain ⟨hl1, hl2⟩ := hl
  have HL := szL_eq ps
  by_cases h0 : lf < ps.length
  · have HR := Lib.hid (left_no (lf := lf) (z := szL ps) (by omega))
    clear HL
    go_enter Try.func16, Try.ntmps16
    have hO := Own.nil w
    go_wp2_with (first
      | ((with_reducible refine wpl_alloc ?_); refine wpList_alloc_own rfl (by rfl) hO rfl (fun b => by simp only [Act.put, zA, zB, zC]; rfl) ?_; (first | (refine nm 0 rfl ?_; clear hO; intro b0 u hO)); simp only [zL, zK] at hO)
      | ((with_reducible refine wpl_box ?_); refine wpList_box_own rfl (by rfl) hO rfl rfl (fun b => by simp only [Act.put, zA, zB, zC]; rfl) ?_; (first | (refine nm 0 rfl ?_; clear hO; intro b0 u hO)); simp only [zL, zK] at hO)
      | fail)
    go_ret
    exact ⟨ret_int HR.out.symm, hO.below⟩
  · have h0' : (ps.length : Int) ≤ lf := by omega
    clear h0
    have HS := Lib.hid HL
    clear HL
    go_enter Try.func16, Try.ntmps16
    have hO := Own.nil w
    go_wp2_with (first
      | ((with_reducible refine wpl_alloc ?_); refine wpList_alloc_own rfl (by rfl) hO rfl (fun b => by simp only [Act.put, zA, zB, zC]; rfl) ?_; (first | (refine nm 0 rfl ?_; clear hO; intro b0 u hO)); simp only [zL, zK] at hO)
      | ((with_reducible refine wpl_box ?_); refine wpList_box_own rfl (by rfl) hO rfl rfl (fun b => by simp only [Act.put, zA, zB, zC]; rfl) ?_; (first | (refine nm 0 rfl ?_; clear hO; intro b0 u hO)); simp only [zL, zK] at hO)
      | fail)
    go_loopw [1, 5] (fun r i u => ∃ k : Nat, k ≤ ps.length ∧ i = .int .i64 k ∧ r = .int .i64 (lf - ps.length - (szP (ps.take k) : Nat)) ∧ ((szP (ps.take k) : Nat) : Int) ≤ lf - ps.length ∧ Own w [] u) (fun _ i _ => ps.length - (intOf i).toNat)
    case atStart => exact ⟨0, Nat.zero_le _, rfl, by simp [szP], by simp [szP]; omega, hO⟩
    case round =>
      clear hO
      obtain ⟨k, hk, rfl, rfl, hle, hO⟩ := hrel
      by_cases hlt : k < ps.length
      · have hp := hP _ (List.getElem_mem hlt)
        have hwf := wfL_mem hw _ (List.getElem_mem hlt)
        have HST := Lib.hid (szP_succ hlt)
        have HTL := Lib.hid (szP_take_le ps (k + 1))
        obtain ⟨x, hx⟩ : ∃ x, ps[k]'hlt = x := ⟨_, rfl⟩
        obtain ⟨b, off, rfl, hb, v0, v1, v2, v3, v4, v5, v6, v7, hv, c0, c1, c2, c3, c4, c5, c6, c7⟩ := h.pt hO.below hlt hx
        rw [hx] at hp hwf HST
        clear hx
        obtain ⟨z, hz⟩ : ∃ z, szP (ps.take k) = z := ⟨_, rfl⟩
        rw [hz] at hle HST
        rw [hz]
        have HZ := Lib.hid hz
        clear hz
        by_cases hov : lf - ps.length - z < szV x
        · have HR := Lib.hid (left_no (lf := lf) (z := szL ps) (by have := HST.out; have := HTL.out; have := HS.out; omega))
          have HE := Lib.hid (left_no hov)
          go_wp2_with fail
          refine (hp _ _ _ hv hwf (by omega)).mono ?_
          rintro e u ⟨rfl, hb⟩
          (replace hO := hO.step hb; clear hb)
          rw [HE.out]
          go_wp2_with fail
          go_ret
          exact ⟨ret_int HR.out.symm, hO.below⟩
        · have HE := Lib.hid (left_yes hov)
          have hov' : 0 ≤ lf - ps.length - z - szV x := by omega
          clear hov
          go_wp2_with fail
          refine (hp _ _ _ hv hwf (by omega)).mono ?_
          rintro e u ⟨rfl, hb⟩
          (replace hO := hO.step hb; clear hb)
          rw [HE.out]
          go_wp2_with fail
          go_roundw
          case rel => exact ⟨k + 1, by omega, by go_num, by rw [HST.out]; exact congrArg (Value.int .i64) (by omega), by rw [HST.out]; omega, hO⟩
          case measure => simp [intOf]; omega
      · have hkn : k = ps.length := by omega
        have htk : ps.take k = ps := List.take_of_length_le (by omega)
        rw [htk] at hle
        rw [htk]
        have HR := Lib.hid (show leftI lf (szL ps) = lf - ps.length - (szP ps : Nat) by have := HS.out; rw [left_yes (by omega)]; omega)
        clear htk
        subst hkn
        go_wp2_with fail
        go_ret
        exact ⟨ret_int HR.out.symm, hO.below⟩

set_option maxHeartbeats 2000000 in
theorem laws_szVec (t : VT) : PSz t := by
  induction t using VT.ind with
  | _ k is ps ns cs ls c e ih =>
    intro vs lf w hv hwf hl
    obtain ⟨Ai, Ap, An, Ac, Al, ci, cp, cn, cc, cl, pvs, rfl, h1, h2, h3, h4, h5⟩ := hv.open
    obtain ⟨_, ⟨l1, i1⟩, ⟨l2, i2⟩, n3, n4, n5⟩ := hwf
    unfold maxLen at l1 l2
    have s1 := fun u (hb : Below w.heap.size w u) (lf : Int) (hl : 0 ≤ lf ∧ lf ≤ 1048576) => laws_szItems Ai ci is lf u (h1.below hb) l1 hl (fun x hx => (i1 x hx).2.2)
    have s2 := fun u (hb : Below w.heap.size w u) (lf : Int) (hl : 0 ≤ lf ∧ lf ≤ 1048576) => laws_szVecs ps ih Ap cp pvs lf u (h2.below hb) i2 l2 hl
    have s3 := fun u (hb : Below w.heap.size w u) (lf : Int) (hl : 0 ≤ lf ∧ lf ≤ 1048576) => laws_szStrs An ns.length cn ns lf u (h3.below hb) (by have := n3.1; unfold maxLen at this; exact this) hl n3.2
    have s4 := fun u (hb : Below w.heap.size w u) (lf : Int) (hl : 0 ≤ lf ∧ lf ≤ 1048576) => laws_szStrs Ac cs.length cc cs lf u (h4.below hb) (by have := n4.1; unfold maxLen at this; exact this) hl n4.2
    have s5 := fun u (hb : Below w.heap.size w u) (lf : Int) (hl : 0 ≤ lf ∧ lf ≤ 1048576) => laws_szStrs Al ls.length cl ls lf u (h5.below hb) (by have := n5.1; unfold maxLen at this; exact this) hl n5.2
    have HT := Lib.hid (show szV (.mk k is ps ns cs ls c e) = szI is + szL ps + szS ns + szS cs + szS ls from rfl)
    obtain ⟨a1, ha1⟩ : ∃ a, szI is = a := ⟨_, rfl⟩
    obtain ⟨a2, ha2⟩ : ∃ a, szL ps = a := ⟨_, rfl⟩
    obtain ⟨a3, ha3⟩ : ∃ a, szS ns = a := ⟨_, rfl⟩
    obtain ⟨a4, ha4⟩ : ∃ a, szS cs = a := ⟨_, rfl⟩
    obtain ⟨a5, ha5⟩ : ∃ a, szS ls = a := ⟨_, rfl⟩
    rw [ha1] at s1 HT; rw [ha2] at s2 HT; rw [ha3] at s3 HT; rw [ha4] at s4 HT; rw [ha5] at s5 HT
    clear ha1 ha2 ha3 ha4 ha5 h1 h2 h3 h4 h5 hv ih l1 i1 l2 i2 n3 n4 n5
    rw [HT.out]
    clear HT
    by_cases g1 : lf < a1
    · have E1 := Lib.hid (left_no g1)
      have ER := Lib.hid (left_no (lf := lf) (z := a1 + a2 + a3 + a4 + a5) (by omega))
      go_enter Try.func29, Try.ntmps29
      have hO := Own.nil w
      go_wp2_with (first
        | ((with_reducible refine wpl_box ?_); refine wpList_box_own rfl (by rfl) hO rfl rfl (fun b => by simp only [Act.put, zA, zB, zC]; rfl) ?_; (refine nm 0 rfl ?_; clear hO; intro b0 u hO); simp only [zL, zK] at hO)
        | ((with_reducible refine wpl_load ?_); refine wpList_load_field rfl (by rfl) hO rfl _ (by exact at0) (by rfl) (by simp only [Act.put, zA, zB, zC]; rfl) ?_)
        | fail)
      refine (s1 _ hO.below _ hl).mono ?_
      rintro e u ⟨rfl, hb⟩
      (replace hO := hO.step hb; clear hb)
      rw [E1.out]
      go_wp2_with (first
        | ((with_reducible refine wpl_alloc ?_); refine wpList_alloc_own rfl (by rfl) hO rfl (fun b => by simp only [Act.put, zA, zB, zC]; rfl) ?_; (first | (refine nm 0 rfl ?_; clear hO; intro b0 u hO)); simp only [zL, zK] at hO)
        | ((with_reducible refine wpl_box ?_); refine wpList_box_own rfl (by rfl) hO rfl rfl (fun b => by simp only [Act.put, zA, zB, zC]; rfl) ?_; (first | (refine nm 0 rfl ?_; clear hO; intro b0 u hO)); simp only [zL, zK] at hO)
        | ((with_reducible refine wpl_load ?_); refine wpList_load_box rfl (by (first | rfl | (simp only [Region.wanted, yielded, *]; go_simp; done) | (simp [Region.wanted, yielded, *]; done) | fail)) hO rfl _ (by (first | exact at0)) (by rfl) (by simp only [Act.put, zA, zB, zC]; rfl) ?_)
        | ((with_reducible refine wpl_load ?_); refine wpList_load_field rfl (by (first | rfl | (simp only [Region.wanted, yielded, *]; go_simp; done) | (simp [Region.wanted, yielded, *]; done) | fail)) hO rfl _ (by (first | exact at0)) (by rfl) (by simp only [Act.put, zA, zB, zC]; rfl) ?_)
        | ((with_reducible refine wpl_store ?_); refine wpList_store_box rfl (by rfl) hO rfl _ (by (first | exact at0)) rfl (by rfl) (by rfl) (by rfl) (by rfl) (by rfl) ?_; clear hO; intro u hO; simp only [zC, zB] at hO)
        | ((with_reducible refine wpl_store ?_); refine wpList_store_field rfl (by rfl) hO rfl _ (by (first | exact at0)) (zM rfl) (by simp only [Act.eval, zJ, zF, zD, zE, zP]; rfl) (by rfl) (by rfl) (by rfl) ?_; clear hO; intro u hO; simp only [zC, zB] at hO)
        | fail)
      go_ret
      exact ⟨ret_int ER.out.symm, hO.below⟩
    · have E1 := Lib.hid (left_yes g1)
      have q1 : 0 ≤ lf - a1 := by omega
      clear g1
      by_cases g2 : lf - a1 < a2
      · have E2 := Lib.hid (left_no g2)
        have ER := Lib.hid (left_no (lf := lf) (z := a1 + a2 + a3 + a4 + a5) (by omega))
        go_enter Try.func29, Try.ntmps29
        have hO := Own.nil w
        go_wp2_with (first
          | ((with_reducible refine wpl_box ?_); refine wpList_box_own rfl (by rfl) hO rfl rfl (fun b => by simp only [Act.put, zA, zB, zC]; rfl) ?_; (refine nm 0 rfl ?_; clear hO; intro b0 u hO); simp only [zL, zK] at hO)
          | ((with_reducible refine wpl_load ?_); refine wpList_load_field rfl (by rfl) hO rfl _ (by exact at0) (by rfl) (by simp only [Act.put, zA, zB, zC]; rfl) ?_)
          | fail)
        refine (s1 _ hO.below _ hl).mono ?_
        rintro e u ⟨rfl, hb⟩
        (replace hO := hO.step hb; clear hb)
        rw [E1.out]
        go_wp2_with (first
          | ((with_reducible refine wpl_load ?_); refine wpList_load_field rfl (by rfl) hO rfl _ (by exact at0) (by rfl) (by simp only [Act.put, zA, zB, zC]; rfl) ?_)
          | fail)
        refine (s2 _ hO.below _ (by omega)).mono ?_
        rintro e u ⟨rfl, hb⟩
        (replace hO := hO.step hb; clear hb)
        rw [E2.out]
        go_wp2_with (first
          | ((with_reducible refine wpl_alloc ?_); refine wpList_alloc_own rfl (by rfl) hO rfl (fun b => by simp only [Act.put, zA, zB, zC]; rfl) ?_; (first | (refine nm 0 rfl ?_; clear hO; intro b0 u hO)); simp only [zL, zK] at hO)
          | ((with_reducible refine wpl_box ?_); refine wpList_box_own rfl (by rfl) hO rfl rfl (fun b => by simp only [Act.put, zA, zB, zC]; rfl) ?_; (first | (refine nm 0 rfl ?_; clear hO; intro b0 u hO)); simp only [zL, zK] at hO)
          | ((with_reducible refine wpl_load ?_); refine wpList_load_box rfl (by (first | rfl | (simp only [Region.wanted, yielded, *]; go_simp; done) | (simp [Region.wanted, yielded, *]; done) | fail)) hO rfl _ (by (first | exact at0)) (by rfl) (by simp only [Act.put, zA, zB, zC]; rfl) ?_)
          | ((with_reducible refine wpl_load ?_); refine wpList_load_field rfl (by (first | rfl | (simp only [Region.wanted, yielded, *]; go_simp; done) | (simp [Region.wanted, yielded, *]; done) | fail)) hO rfl _ (by (first | exact at0)) (by rfl) (by simp only [Act.put, zA, zB, zC]; rfl) ?_)
          | ((with_reducible refine wpl_store ?_); refine wpList_store_box rfl (by rfl) hO rfl _ (by (first | exact at0)) rfl (by rfl) (by rfl) (by rfl) (by rfl) (by rfl) ?_; clear hO; intro u hO; simp only [zC, zB] at hO)
          | ((with_reducible refine wpl_store ?_); refine wpList_store_field rfl (by rfl) hO rfl _ (by (first | exact at0)) (zM rfl) (by simp only [Act.eval, zJ, zF, zD, zE, zP]; rfl) (by rfl) (by rfl) (by rfl) ?_; clear hO; intro u hO; simp only [zC, zB] at hO)
          | fail)
        go_ret
        exact ⟨ret_int ER.out.symm, hO.below⟩
      · have E2 := Lib.hid (left_yes g2)
        have q2 : 0 ≤ lf - a1 - a2 := by omega
        clear g2
        by_cases g3 : lf - a1 - a2 < a3
        · have E3 := Lib.hid (left_no g3)
          have ER := Lib.hid (left_no (lf := lf) (z := a1 + a2 + a3 + a4 + a5) (by omega))
          go_enter Try.func29, Try.ntmps29
          have hO := Own.nil w
          go_wp2_with (first
            | ((with_reducible refine wpl_box ?_); refine wpList_box_own rfl (by rfl) hO rfl rfl (fun b => by simp only [Act.put, zA, zB, zC]; rfl) ?_; (refine nm 0 rfl ?_; clear hO; intro b0 u hO); simp only [zL, zK] at hO)
            | ((with_reducible refine wpl_load ?_); refine wpList_load_field rfl (by rfl) hO rfl _ (by exact at0) (by rfl) (by simp only [Act.put, zA, zB, zC]; rfl) ?_)
            | fail)
          refine (s1 _ hO.below _ hl).mono ?_
          rintro e u ⟨rfl, hb⟩
          (replace hO := hO.step hb; clear hb)
          rw [E1.out]
          go_wp2_with (first
            | ((with_reducible refine wpl_load ?_); refine wpList_load_field rfl (by rfl) hO rfl _ (by exact at0) (by rfl) (by simp only [Act.put, zA, zB, zC]; rfl) ?_)
            | fail)
          refine (s2 _ hO.below _ (by omega)).mono ?_
          rintro e u ⟨rfl, hb⟩
          (replace hO := hO.step hb; clear hb)
          rw [E2.out]
          go_wp2_with (first
            | ((with_reducible refine wpl_load ?_); refine wpList_load_field rfl (by rfl) hO rfl _ (by exact at0) (by rfl) (by simp only [Act.put, zA, zB, zC]; rfl) ?_)
            | fail)
          refine (s3 _ hO.below _ (by omega)).mono ?_
          rintro e u ⟨rfl, hb⟩
          subst hb
          rw [E3.out]
          go_wp2_with (first
            | ((with_reducible refine wpl_alloc ?_); refine wpList_alloc_own rfl (by rfl) hO rfl (fun b => by simp only [Act.put, zA, zB, zC]; rfl) ?_; (first | (refine nm 0 rfl ?_; clear hO; intro b0 u hO)); simp only [zL, zK] at hO)
            | ((with_reducible refine wpl_box ?_); refine wpList_box_own rfl (by rfl) hO rfl rfl (fun b => by simp only [Act.put, zA, zB, zC]; rfl) ?_; (first | (refine nm 0 rfl ?_; clear hO; intro b0 u hO)); simp only [zL, zK] at hO)
            | ((with_reducible refine wpl_load ?_); refine wpList_load_box rfl (by (first | rfl | (simp only [Region.wanted, yielded, *]; go_simp; done) | (simp [Region.wanted, yielded, *]; done) | fail)) hO rfl _ (by (first | exact at0)) (by rfl) (by simp only [Act.put, zA, zB, zC]; rfl) ?_)
            | ((with_reducible refine wpl_load ?_); refine wpList_load_field rfl (by (first | rfl | (simp only [Region.wanted, yielded, *]; go_simp; done) | (simp [Region.wanted, yielded, *]; done) | fail)) hO rfl _ (by (first | exact at0)) (by rfl) (by simp only [Act.put, zA, zB, zC]; rfl) ?_)
            | ((with_reducible refine wpl_store ?_); refine wpList_store_box rfl (by rfl) hO rfl _ (by (first | exact at0)) rfl (by rfl) (by rfl) (by rfl) (by rfl) (by rfl) ?_; clear hO; intro u hO; simp only [zC, zB] at hO)
            | ((with_reducible refine wpl_store ?_); refine wpList_store_field rfl (by rfl) hO rfl _ (by (first | exact at0)) (zM rfl) (by simp only [Act.eval, zJ, zF, zD, zE, zP]; rfl) (by rfl) (by rfl) (by rfl) ?_; clear hO; intro u hO; simp only [zC, zB] at hO)
            | fail)
          go_ret
          exact ⟨ret_int ER.out.symm, hO.below⟩
        · have E3 := Lib.hid (left_yes g3)
          have q3 : 0 ≤ lf - a1 - a2 - a3 := by omega
          clear g3
          by_cases g4 : lf - a1 - a2 - a3 < a4
          · have E4 := Lib.hid (left_no g4)
            have ER := Lib.hid (left_no (lf := lf) (z := a1 + a2 + a3 + a4 + a5) (by omega))
            go_enter Try.func29, Try.ntmps29
            have hO := Own.nil w
            go_wp2_with (first
              | ((with_reducible refine wpl_box ?_); refine wpList_box_own rfl (by rfl) hO rfl rfl (fun b => by simp only [Act.put, zA, zB, zC]; rfl) ?_; (refine nm 0 rfl ?_; clear hO; intro b0 u hO); simp only [zL, zK] at hO)
              | ((with_reducible refine wpl_load ?_); refine wpList_load_field rfl (by rfl) hO rfl _ (by exact at0) (by rfl) (by simp only [Act.put, zA, zB, zC]; rfl) ?_)
              | fail)
            refine (s1 _ hO.below _ hl).mono ?_
            rintro e u ⟨rfl, hb⟩
            (replace hO := hO.step hb; clear hb)
            rw [E1.out]
            go_wp2_with (first
              | ((with_reducible refine wpl_load ?_); refine wpList_load_field rfl (by rfl) hO rfl _ (by exact at0) (by rfl) (by simp only [Act.put, zA, zB, zC]; rfl) ?_)
              | fail)
            refine (s2 _ hO.below _ (by omega)).mono ?_
            rintro e u ⟨rfl, hb⟩
            (replace hO := hO.step hb; clear hb)
            rw [E2.out]
            go_wp2_with (first
              | ((with_reducible refine wpl_load ?_); refine wpList_load_field rfl (by rfl) hO rfl _ (by exact at0) (by rfl) (by simp only [Act.put, zA, zB, zC]; rfl) ?_)
              | fail)
            refine (s3 _ hO.below _ (by omega)).mono ?_
            rintro e u ⟨rfl, hb⟩
            subst hb
            rw [E3.out]
            go_wp2_with (first
              | ((with_reducible refine wpl_load ?_); refine wpList_load_field rfl (by rfl) hO rfl _ (by exact at0) (by rfl) (by simp only [Act.put, zA, zB, zC]; rfl) ?_)
              | fail)
            refine (s4 _ hO.below _ (by omega)).mono ?_
            rintro e u ⟨rfl, hb⟩
            subst hb
            rw [E4.out]
            go_wp2_with (first
              | ((with_reducible refine wpl_alloc ?_); refine wpList_alloc_own rfl (by rfl) hO rfl (fun b => by simp only [Act.put, zA, zB, zC]; rfl) ?_; (first | (refine nm 0 rfl ?_; clear hO; intro b0 u hO)); simp only [zL, zK] at hO)
              | ((with_reducible refine wpl_box ?_); refine wpList_box_own rfl (by rfl) hO rfl rfl (fun b => by simp only [Act.put, zA, zB, zC]; rfl) ?_; (first | (refine nm 0 rfl ?_; clear hO; intro b0 u hO)); simp only [zL, zK] at hO)
              | ((with_reducible refine wpl_load ?_); refine wpList_load_box rfl (by (first | rfl | (simp only [Region.wanted, yielded, *]; go_simp; done) | (simp [Region.wanted, yielded, *]; done) | fail)) hO rfl _ (by (first | exact at0)) (by rfl) (by simp only [Act.put, zA, zB, zC]; rfl) ?_)
              | ((with_reducible refine wpl_load ?_); refine wpList_load_field rfl (by (first | rfl | (simp only [Region.wanted, yielded, *]; go_simp; done) | (simp [Region.wanted, yielded, *]; done) | fail)) hO rfl _ (by (first | exact at0)) (by rfl) (by simp only [Act.put, zA, zB, zC]; rfl) ?_)
              | ((with_reducible refine wpl_store ?_); refine wpList_store_box rfl (by rfl) hO rfl _ (by (first | exact at0)) rfl (by rfl) (by rfl) (by rfl) (by rfl) (by rfl) ?_; clear hO; intro u hO; simp only [zC, zB] at hO)
              | ((with_reducible refine wpl_store ?_); refine wpList_store_field rfl (by rfl) hO rfl _ (by (first | exact at0)) (zM rfl) (by simp only [Act.eval, zJ, zF, zD, zE, zP]; rfl) (by rfl) (by rfl) (by rfl) ?_; clear hO; intro u hO; simp only [zC, zB] at hO)
              | fail)
            go_ret
            exact ⟨ret_int ER.out.symm, hO.below⟩
          · have E4 := Lib.hid (left_yes g4)
            have q4 : 0 ≤ lf - a1 - a2 - a3 - a4 := by omega
            clear g4
            by_cases g5 : lf - a1 - a2 - a3 - a4 < a5
            · have E5 := Lib.hid (left_no g5)
              have ER := Lib.hid (left_no (lf := lf) (z := a1 + a2 + a3 + a4 + a5) (by omega))
              go_enter Try.func29, Try.ntmps29
              have hO := Own.nil w
              go_wp2_with (first
                | ((with_reducible refine wpl_box ?_); refine wpList_box_own rfl (by rfl) hO rfl rfl (fun b => by simp only [Act.put, zA, zB, zC]; rfl) ?_; (refine nm 0 rfl ?_; clear hO; intro b0 u hO); simp only [zL, zK] at hO)
                | ((with_reducible refine wpl_load ?_); refine wpList_load_field rfl (by rfl) hO rfl _ (by exact at0) (by rfl) (by simp only [Act.put, zA, zB, zC]; rfl) ?_)
                | fail)
              refine (s1 _ hO.below _ hl).mono ?_
              rintro e u ⟨rfl, hb⟩
              (replace hO := hO.step hb; clear hb)
              rw [E1.out]
              go_wp2_with (first
                | ((with_reducible refine wpl_load ?_); refine wpList_load_field rfl (by rfl) hO rfl _ (by exact at0) (by rfl) (by simp only [Act.put, zA, zB, zC]; rfl) ?_)
                | fail)
              refine (s2 _ hO.below _ (by omega)).mono ?_
              rintro e u ⟨rfl, hb⟩
              (replace hO := hO.step hb; clear hb)
              rw [E2.out]
              go_wp2_with (first
                | ((with_reducible refine wpl_load ?_); refine wpList_load_field rfl (by rfl) hO rfl _ (by exact at0) (by rfl) (by simp only [Act.put, zA, zB, zC]; rfl) ?_)
                | fail)
              refine (s3 _ hO.below _ (by omega)).mono ?_
              rintro e u ⟨rfl, hb⟩
              subst hb
              rw [E3.out]
              go_wp2_with (first
                | ((with_reducible refine wpl_load ?_); refine wpList_load_field rfl (by rfl) hO rfl _ (by exact at0) (by rfl) (by simp only [Act.put, zA, zB, zC]; rfl) ?_)
                | fail)
              refine (s4 _ hO.below _ (by omega)).mono ?_
              rintro e u ⟨rfl, hb⟩
              subst hb
              rw [E4.out]
              go_wp2_with (first
                | ((with_reducible refine wpl_load ?_); refine wpList_load_field rfl (by rfl) hO rfl _ (by exact at0) (by rfl) (by simp only [Act.put, zA, zB, zC]; rfl) ?_)
                | fail)
              refine (s5 _ hO.below _ (by omega)).mono ?_
              rintro e u ⟨rfl, hb⟩
              subst hb
              rw [E5.out]
              go_wp2_with (first
                | ((with_reducible refine wpl_alloc ?_); refine wpList_alloc_own rfl (by rfl) hO rfl (fun b => by simp only [Act.put, zA, zB, zC]; rfl) ?_; (first | (refine nm 0 rfl ?_; clear hO; intro b0 u hO)); simp only [zL, zK] at hO)
                | ((with_reducible refine wpl_box ?_); refine wpList_box_own rfl (by rfl) hO rfl rfl (fun b => by simp only [Act.put, zA, zB, zC]; rfl) ?_; (first | (refine nm 0 rfl ?_; clear hO; intro b0 u hO)); simp only [zL, zK] at hO)
                | ((with_reducible refine wpl_load ?_); refine wpList_load_box rfl (by (first | rfl | (simp only [Region.wanted, yielded, *]; go_simp; done) | (simp [Region.wanted, yielded, *]; done) | fail)) hO rfl _ (by (first | exact at0)) (by rfl) (by simp only [Act.put, zA, zB, zC]; rfl) ?_)
                | ((with_reducible refine wpl_load ?_); refine wpList_load_field rfl (by (first | rfl | (simp only [Region.wanted, yielded, *]; go_simp; done) | (simp [Region.wanted, yielded, *]; done) | fail)) hO rfl _ (by (first | exact at0)) (by rfl) (by simp only [Act.put, zA, zB, zC]; rfl) ?_)
                | ((with_reducible refine wpl_store ?_); refine wpList_store_box rfl (by rfl) hO rfl _ (by (first | exact at0)) rfl (by rfl) (by rfl) (by rfl) (by rfl) (by rfl) ?_; clear hO; intro u hO; simp only [zC, zB] at hO)
                | ((with_reducible refine wpl_store ?_); refine wpList_store_field rfl (by rfl) hO rfl _ (by (first | exact at0)) (zM rfl) (by simp only [Act.eval, zJ, zF, zD, zE, zP]; rfl) (by rfl) (by rfl) (by rfl) ?_; clear hO; intro u hO; simp only [zC, zB] at hO)
                | fail)
              go_ret
              exact ⟨ret_int ER.out.symm, hO.below⟩
            · have E5 := Lib.hid (left_yes g5)
              have q5 : 0 ≤ lf - a1 - a2 - a3 - a4 - a5 := by omega
              clear g5
              have ER := Lib.hid (show leftI lf (a1 + a2 + a3 + a4 + a5) = lf - a1 - a2 - a3 - a4 - a5 by rw [left_yes (by omega)]; omega)
              go_enter Try.func29, Try.ntmps29
              have hO := Own.nil w
              go_wp2_with (first
                | ((with_reducible refine wpl_box ?_); refine wpList_box_own rfl (by rfl) hO rfl rfl (fun b => by simp only [Act.put, zA, zB, zC]; rfl) ?_; (refine nm 0 rfl ?_; clear hO; intro b0 u hO); simp only [zL, zK] at hO)
                | ((with_reducible refine wpl_load ?_); refine wpList_load_field rfl (by rfl) hO rfl _ (by exact at0) (by rfl) (by simp only [Act.put, zA, zB, zC]; rfl) ?_)
                | fail)
              refine (s1 _ hO.below _ hl).mono ?_
              rintro e u ⟨rfl, hb⟩
              (replace hO := hO.step hb; clear hb)
              rw [E1.out]
              go_wp2_with (first
                | ((with_reducible refine wpl_load ?_); refine wpList_load_field rfl (by rfl) hO rfl _ (by exact at0) (by rfl) (by simp only [Act.put, zA, zB, zC]; rfl) ?_)
                | fail)
              refine (s2 _ hO.below _ (by omega)).mono ?_
              rintro e u ⟨rfl, hb⟩
              (replace hO := hO.step hb; clear hb)
              rw [E2.out]
              go_wp2_with (first
                | ((with_reducible refine wpl_load ?_); refine wpList_load_field rfl (by rfl) hO rfl _ (by exact at0) (by rfl) (by simp only [Act.put, zA, zB, zC]; rfl) ?_)
                | fail)
              refine (s3 _ hO.below _ (by omega)).mono ?_
              rintro e u ⟨rfl, hb⟩
              subst hb
              rw [E3.out]
              go_wp2_with (first
                | ((with_reducible refine wpl_load ?_); refine wpList_load_field rfl (by rfl) hO rfl _ (by exact at0) (by rfl) (by simp only [Act.put, zA, zB, zC]; rfl) ?_)
                | fail)
              refine (s4 _ hO.below _ (by omega)).mono ?_
              rintro e u ⟨rfl, hb⟩
              subst hb
              rw [E4.out]
              go_wp2_with (first
                | ((with_reducible refine wpl_load ?_); refine wpList_load_field rfl (by rfl) hO rfl _ (by exact at0) (by rfl) (by simp only [Act.put, zA, zB, zC]; rfl) ?_)
                | fail)
              refine (s5 _ hO.below _ (by omega)).mono ?_
              rintro e u ⟨rfl, hb⟩
              subst hb
              rw [E5.out]
              go_wp2_with (first
                | ((with_reducible refine wpl_alloc ?_); refine wpList_alloc_own rfl (by rfl) hO rfl (fun b => by simp only [Act.put, zA, zB, zC]; rfl) ?_; (first | (refine nm 0 rfl ?_; clear hO; intro b0 u hO)); simp only [zL, zK] at hO)
                | ((with_reducible refine wpl_box ?_); refine wpList_box_own rfl (by rfl) hO rfl rfl (fun b => by simp only [Act.put, zA, zB, zC]; rfl) ?_; (first | (refine nm 0 rfl ?_; clear hO; intro b0 u hO)); simp only [zL, zK] at hO)
                | ((with_reducible refine wpl_load ?_); refine wpList_load_box rfl (by (first | rfl | (simp only [Region.wanted, yielded, *]; go_simp; done) | (simp [Region.wanted, yielded, *]; done) | fail)) hO rfl _ (by (first | exact at0)) (by rfl) (by simp only [Act.put, zA, zB, zC]; rfl) ?_)
                | ((with_reducible refine wpl_load ?_); refine wpList_load_field rfl (by (first | rfl | (simp only [Region.wanted, yielded, *]; go_simp; done) | (simp [Region.wanted, yielded, *]; done) | fail)) hO rfl _ (by (first | exact at0)) (by rfl) (by simp only [Act.put, zA, zB, zC]; rfl) ?_)
                | ((with_reducible refine wpl_store ?_); refine wpList_store_box rfl (by rfl) hO rfl _ (by (first | exact at0)) rfl (by rfl) (by rfl) (by rfl) (by rfl) (by rfl) ?_; clear hO; intro u hO; simp only [zC, zB] at hO)
                | ((with_reducible refine wpl_store ?_); refine wpList_store_field rfl (by rfl) hO rfl _ (by (first | exact at0)) (zM rfl) (by simp only [Act.eval, zJ, zF, zD, zE, zP]; rfl) (by rfl) (by rfl) (by rfl) ?_; clear hO; intro u hO; simp only [zC, zB] at hO)
                | fail)
              go_ret
              exact ⟨ret_int ER.out.symm, hO.below⟩

end

section
open Go.RowKit Go.ChangeShapes Go.WideShapes
set_option linter.unusedVariables false
set_option linter.unusedSimpArgs false

theorem put_mid {α : Type} (a m v : List α) {k sz n : Nat} (ha : a.length = k * sz) (hm : m.length = n * sz) (hv : v.length = sz) (hk : k < n) :
    (a ++ m.drop (k * sz)).take (k * sz) ++ v ++ (a ++ m.drop (k * sz)).drop (k * sz + v.length) = (a ++ v) ++ m.drop ((k + 1) * sz) := by
  rw [List.take_append_of_le_length (by omega), List.take_of_length_le (by omega), List.drop_append, List.drop_eq_nil_of_le (by omega), List.nil_append, List.drop_drop, ha, hv]
  rw [show k * sz + (k * sz + sz - k * sz) = (k + 1) * sz by rw [Nat.succ_mul]; omega]
theorem mid_fits {α : Type} (a m : List α) {k sz n : Nat} (ha : a.length = k * sz) (hm : m.length = n * sz) (hk : k < n) : k * sz + sz ≤ (a ++ m.drop (k * sz)).length := by
  have : (k + 1) * sz ≤ n * sz := Nat.mul_le_mul_right _ hk
  rw [Nat.succ_mul] at this
  simp [ha, hm]
  omega

theorem laws_toItems (A : Option Addr) (c : Nat) (l : List It) (w : World) (h : Sl w 3 A l.length (itc l)) (hn : l.length ≤ 1048576) :
    Calls Try.prog 76 #[.slice A l.length c] w fun e w' => ∃ A' c', e = .returned (.slice A' l.length c') ∧ Own w [row 83 3 (.slice A' l.length c') l.length (itc l)] w' := by
  go_enter Try.func76, Try.ntmps76
  have hO := Own.nil w
  go_wp2_with (refine wpList_make_own hO rfl (by rfl) (n := l.length) rfl rfl (by omega) (by omega) rfl (fun b => by simp only [Act.put, List.setIfInBounds_toArray, List.set_cons_succ, List.set_cons_zero]; rfl) ?_; clear hO; intro b mz u hmz hO; simp only [List.nil_append] at hO)
  go_loopw [4] (fun i u => ∃ k : Nat, k ≤ l.length ∧ i = .int .i64 k ∧ Own w [box b 83 (itc (l.take k) ++ mz.drop (k * 3))] u) (fun i _ => l.length - (intOf i).toNat)
  case atStart => exact ⟨0, Nat.zero_le _, rfl, by simpa [itc] using hO⟩
  case round =>
    clear hO
    obtain ⟨k, hk, rfl, hO⟩ := hrel
    by_cases hlt : k < l.length
    · have HT := Lib.hid (take_snoc' hlt)
      obtain ⟨x, hx⟩ : ∃ x, l[k]'hlt = x := ⟨_, rfl⟩
      obtain ⟨b', off, rfl, hb, c0, c1, c2⟩ := h.it hO.below hlt hx
      rw [hx] at HT
      clear hx
      have hta : (itc (l.take k)).length = k * 3 := by rw [itc_len, List.length_take]; omega
      have HF := Lib.hid (mid_fits (itc (l.take k)) mz hta hmz hlt)
      have HM := Lib.hid (put_mid (itc (l.take k)) mz (itc1 x) hta hmz rfl hlt)
      clear hta
      go_wp2_with fail
      refine (laws_toItem _ _ _ _).mono ?_
      rintro e u ⟨rfl, hb⟩
      (replace hO := hO.step hb; clear hb)
      go_wp2_with (refine wpList_store_mid_own (vs := itc1 x) hO rfl (by rfl) rfl 0 rfl rfl rfl HF.out rfl rfl ?_; clear hO; intro u hO)
      rw [List.set_cons_zero, HM.out, show itc (l.take k) ++ itc1 x = itc (l.take (k + 1)) by rw [HT.out, itc_app]; simp [itc]] at hO
      go_wp2_with fail
      go_roundw
      case rel => exact ⟨k + 1, by omega, by go_num, hO⟩
      case measure => simp [intOf]; omega
    · have hkn : k = l.length := by omega
      subst hkn
      have e1 : l.take l.length = l := List.take_length ..
      have e2 : mz.drop (l.length * 3) = [] := List.drop_eq_nil_of_le (by omega)
      rw [e1, e2, List.append_nil] at hO
      clear e1 e2
      go_wp2_with fail
      go_ret
      exact ⟨_, _, rfl, hO.box_row 3 _ (itc_len l) (by omega)⟩

theorem laws_toStrsR (A : Option Addr) (c : Nat) (l : List ByteArray) (w : World) (h : Sl w 1 A l.length (stc l)) (hn : l.length ≤ 1048576) :
    Calls Try.prog 20 #[.slice A l.length c] w fun e w' => ∃ A' c', e = .returned (.slice A' l.length c') ∧ Own w [row 9 1 (.slice A' l.length c') l.length (stc l)] w' :=
  (laws_toStrs A l.length c l w h hn).mono fun e w' ⟨b, he, hO⟩ => ⟨_, _, he, hO.box_row 1 _ (by simp [stc]) (by omega)⟩

def PTo (t : VT) : Prop := ∀ (vs : List Value) (w : World), RdV w t vs → szV t ≤ 1048576 → Calls Try.prog 31 #[.agg vs.toArray] w fun e w' => ∃ vs' F, e = .returned (.agg vs'.toArray) ∧ VO t vs' F ∧ Own w [pack F] w'

theorem laws_toVecs (ps : List VT) (hP : ∀ p ∈ ps, PTo p) (A : Option Addr) (c : Nat) (pvs0 : List (List Value)) (w : World) (h : RdL w A ps pvs0) (hz : szL ps ≤ 1048576) :
    Calls Try.prog 19 #[.slice A ps.length c] w fun e w' => ∃ A' c' pvs Ls, e = .returned (.slice A' ps.length c') ∧ VL ps pvs Ls ∧ Own w [row 29 8 (.slice A' ps.length c') ps.length pvs.flatten, pack Ls.flatten] w' := by
  have hz' := szL_eq ps
  have hn : ps.length ≤ 1048576 := by omega
  have HZ := Lib.hid (show szP ps ≤ 1048576 by omega)
  clear hz hz'
  go_enter Try.func19, Try.ntmps19
  have hO := Own.nil w
  go_wp2_with (refine wpList_make_own hO rfl (by rfl) (n := ps.length) rfl rfl (by omega) (by omega) rfl (fun b => by simp only [Act.put, List.setIfInBounds_toArray, List.set_cons_succ, List.set_cons_zero]; rfl) ?_; clear hO; intro b mz u hmz hO; simp only [List.nil_append] at hO)
  replace hO := Own.pack (F := []) hO
  go_loopw [4] (fun i u => ∃ (k : Nat) (pvs : List (List Value)) (Ls : List (List Res)), k ≤ ps.length ∧ i = .int .i64 k ∧ VL (ps.take k) pvs Ls ∧ Own w [pack Ls.flatten, box b 29 (pvs.flatten ++ mz.drop (k * 8))] u) (fun i _ => ps.length - (intOf i).toNat)
  case atStart => exact ⟨0, [], [], Nat.zero_le _, rfl, VL.nil, by simpa using hO⟩
  case round =>
    clear hO
    obtain ⟨k, pvs, Ls, hk, rfl, hv, hO⟩ := hrel
    by_cases hlt : k < ps.length
    · have hp := hP _ (List.getElem_mem hlt)
      have hsz := Nat.le_trans (szP_mem hlt) HZ.out
      have HT := Lib.hid (take_snoc' hlt)
      obtain ⟨x, hx⟩ : ∃ x, ps[k]'hlt = x := ⟨_, rfl⟩
      obtain ⟨b', off, rfl, hb, v0, v1, v2, v3, v4, v5, v6, v7, hrd, c0, c1, c2, c3, c4, c5, c6, c7⟩ := h.pt hO.below hlt hx
      rw [hx] at HT hp hsz
      clear hx
      have hta : pvs.flatten.length = k * 8 := by rw [hv.flat, List.length_take]; congr 1; omega
      have HF := Lib.hid (mid_fits pvs.flatten mz hta hmz hlt)
      have HM := fun vs (h8 : vs.length = 8) => Lib.hid (put_mid pvs.flatten mz vs hta hmz h8 hlt)
      clear hta
      go_wp2_with fail
      refine (hp _ _ hrd hsz).mono ?_
      rintro e u ⟨vs, F, rfl, hvo, hb⟩
      replace hO := hO.call hb
      clear hb c0 c1 c2 c3 c4 c5 c6 c7 hrd
      have h8 := hvo.len
      have h1 := hvo.one
      have HF8 := Lib.hid (show k * 8 + vs.length ≤ (pvs.flatten ++ mz.drop (k * 8)).length by rw [h8]; exact HF.out)
      go_wp2_with (refine wpList_store_mid_own (vs := vs) hO rfl (by rfl) rfl 2 rfl rfl h8 HF8.out h1 rfl ?_; clear hO; intro u hO)
      simp only [List.set_cons_zero, List.set_cons_succ, List.cons_append, List.nil_append] at hO
      rw [(HM vs h8).out] at hO
      replace hO := (hO.pick [1, 0, 2] (by decide)).merge
      rw [← flat_snoc, ← flat_snoc] at hO
      go_wp2_with fail
      go_roundw
      case rel => exact ⟨k + 1, _, _, by omega, by go_num, by rw [HT.out]; exact hv.snoc hvo, hO⟩
      case measure => simp [intOf]; omega
    · have hkn : k = ps.length := by omega
      subst hkn
      have e1 : ps.take ps.length = ps := List.take_length ..
      have e2 : mz.drop (ps.length * 8) = [] := List.drop_eq_nil_of_le (by omega)
      rw [e2, List.append_nil] at hO
      rw [e1] at hv
      clear e1 e2
      go_wp2_with fail
      go_ret
      exact ⟨_, _, _, _, rfl, hv, Own.box_row (hO.pick [1, 0] (by decide)) 8 _ hv.flat (by omega)⟩

theorem laws_toVec (t : VT) : PTo t := by
  induction t using VT.ind with
  | _ k is ps ns cs ls c e ih =>
    intro vs w hv hz
    obtain ⟨Ai, Ap, An, Ac, Al, ci, cp, cn, cc, cl, pvs, rfl, h1, h2, h3, h4, h5⟩ := hv.open
    have HT : szV (.mk k is ps ns cs ls c e) = szI is + szL ps + szS ns + szS cs + szS ls := rfl
    unfold szI szS at HT
    have z1 : is.length ≤ 1048576 := by omega
    have z2 : szL ps ≤ 1048576 := by omega
    have z3 : ns.length ≤ 1048576 := by omega
    have z4 : cs.length ≤ 1048576 := by omega
    have z5 : ls.length ≤ 1048576 := by omega
    clear HT hv
    go_enter Try.func31, Try.ntmps31
    have hO := Own.nil w
    go_wp2_with (first
      | ((with_reducible refine wpl_alloc ?_); refine wpList_alloc_own rfl (by rfl) hO rfl (fun b => by simp only [Act.put, zA, zB, zC]; rfl) ?_; (first | (refine nm 1 rfl ?_; clear hO; intro b1 u hO) | (refine nm 2 rfl ?_; clear hO; intro b2 u hO) | fail); simp only [zL, zK] at hO)
      | ((with_reducible refine wpl_box ?_); refine wpList_box_own rfl (by rfl) hO rfl rfl (fun b => by simp only [Act.put, zA, zB, zC]; rfl) ?_; (refine nm 0 rfl ?_; clear hO; intro b0 u hO); simp only [zL, zK] at hO)
      | ((with_reducible refine wpl_load ?_); refine wpList_load_field rfl (by rfl) hO rfl _ (by exact at0) (by rfl) (by simp only [Act.put, zA, zB, zC]; rfl) ?_)
      | ((with_reducible refine wpl_store ?_); refine wpList_store_field rfl (by rfl) hO rfl _ (by exact at2) (zM rfl) (by simp only [Act.eval, zJ, zF, zD, zE, zP]; rfl) (by rfl) (by rfl) (by rfl) ?_; clear hO; intro u hO; simp only [zC, zB] at hO)
      | fail)
    refine (laws_toItems _ _ is _ (h1.below hO.below) z1).mono ?_
    rintro e1 u ⟨A1, c1, rfl, hb⟩
    replace hO := hO.call hb
    clear hb
    simp only [List.cons_append, List.nil_append] at hO
    go_wp2_with (first
      | ((with_reducible refine wpl_load ?_); refine wpList_load_field rfl (by rfl) hO rfl _ (by exact at1) (by rfl) (by simp only [Act.put, zA, zB, zC]; rfl) ?_)
      | ((with_reducible refine wpl_store ?_); refine wpList_store_field rfl (by rfl) hO rfl _ (by exact at3) (zM rfl) (by simp only [Act.eval, zJ, zF, zD, zE, zP]; rfl) (by rfl) (by rfl) (by rfl) ?_; clear hO; intro u hO; simp only [zC, zB] at hO)
      | fail)
    refine (laws_toVecs ps ih _ _ _ _ (h2.below hO.below) z2).mono ?_
    rintro e1 u ⟨A2, c2, pvs2, Ls2, rfl, hvl, hb⟩
    replace hO := hO.call hb
    clear hb
    simp only [List.cons_append, List.nil_append] at hO
    go_wp2_with (first
      | ((with_reducible refine wpl_load ?_); refine wpList_load_field rfl (by rfl) hO rfl _ (by exact at3) (by rfl) (by simp only [Act.put, zA, zB, zC]; rfl) ?_)
      | ((with_reducible refine wpl_store ?_); refine wpList_store_field rfl (by rfl) hO rfl _ (by exact at5) (zM rfl) (by simp only [Act.eval, zJ, zF, zD, zE, zP]; rfl) (by rfl) (by rfl) (by rfl) ?_; clear hO; intro u hO; simp only [zC, zB] at hO)
      | fail)
    refine (laws_toStrsR _ _ ns _ (h3.below hO.below) z3).mono ?_
    rintro e1 u ⟨A3, c3, rfl, hb⟩
    replace hO := hO.call hb
    clear hb
    simp only [List.cons_append, List.nil_append] at hO
    go_wp2_with (first
      | ((with_reducible refine wpl_load ?_); refine wpList_load_field rfl (by rfl) hO rfl _ (by exact at4) (by rfl) (by simp only [Act.put, zA, zB, zC]; rfl) ?_)
      | ((with_reducible refine wpl_store ?_); refine wpList_store_field rfl (by rfl) hO rfl _ (by exact at6) (zM rfl) (by simp only [Act.eval, zJ, zF, zD, zE, zP]; rfl) (by rfl) (by rfl) (by rfl) ?_; clear hO; intro u hO; simp only [zC, zB] at hO)
      | fail)
    refine (laws_toStrsR _ _ cs _ (h4.below hO.below) z4).mono ?_
    rintro e1 u ⟨A4, c4, rfl, hb⟩
    replace hO := hO.call hb
    clear hb
    simp only [List.cons_append, List.nil_append] at hO
    go_wp2_with (first
      | ((with_reducible refine wpl_load ?_); refine wpList_load_field rfl (by rfl) hO rfl _ (by exact at5) (by rfl) (by simp only [Act.put, zA, zB, zC]; rfl) ?_)
      | ((with_reducible refine wpl_store ?_); refine wpList_store_field rfl (by rfl) hO rfl _ (by exact at7) (zM rfl) (by simp only [Act.eval, zJ, zF, zD, zE, zP]; rfl) (by rfl) (by rfl) (by rfl) ?_; clear hO; intro u hO; simp only [zC, zB] at hO)
      | fail)
    refine (laws_toStrsR _ _ ls _ (h5.below hO.below) z5).mono ?_
    rintro e1 u ⟨A5, c5, rfl, hb⟩
    replace hO := hO.call hb
    clear hb
    simp only [List.cons_append, List.nil_append] at hO
    go_wp2_with (first
      | ((with_reducible refine wpl_load ?_); refine wpList_load_box rfl (by rfl) hO rfl _ (by exact at8) (by rfl) (by simp only [Act.put, zA, zB, zC]; rfl) ?_)
      | ((with_reducible refine wpl_load ?_); refine wpList_load_field rfl (by rfl) hO rfl _ (by exact at6) (by rfl) (by simp only [Act.put, zA, zB, zC]; rfl) ?_)
      | ((with_reducible refine wpl_store ?_); refine wpList_store_box rfl (by rfl) hO rfl _ (by exact at7) rfl (by rfl) (by rfl) (by rfl) (by rfl) (by rfl) ?_; clear hO; intro u hO; simp only [zC, zB] at hO)
      | ((with_reducible refine wpl_store ?_); refine wpList_store_field rfl (by rfl) hO rfl _ (by exact at8) (zM rfl) (by simp only [Act.eval, zJ, zF, zD, zE, zP]; rfl) (by rfl) (by rfl) (by rfl) ?_; clear hO; intro u hO; simp only [zC, zB] at hO)
      | fail)
    exact ret_box rfl hO rfl 7 at7 rfl rfl ⟨_, _, rfl, VO.close hvl, Own.packs [_, _, _, _, _] (hO.pick [5, 3, 2, 1, 0, 4] (by decide))⟩

end

end Go.Proofs.Ytmofcbpabdbjlaa
