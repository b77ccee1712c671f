/-
  What is proved: how items, texts and parts are read cell by cell; what the statements take of their bound for vectors.
  No condition beyond those of the theorems.
-/
import Derived.Test.YtmofcbpabdbjlaaVm
import Derived.Test.YtmofcbpabdbjlaaJ
import Derived.Test.YtmofcbpabdbjlaaMake
import Derived.Test.YtmofcbpabdbjlaaInst
namespace Go.Proofs.Ytmofcbpabdbjlaa
set_option maxRecDepth 8000
open Go.RowKit Go.ChangeShapes Go.WideShapes
set_option linter.unusedVariables false
set_option linter.unusedSimpArgs false

/-- the cells of item i, in a world in which the memory of w is as it was -/
theorem Sl.it {w u : World} {A : Option Addr} {l : List It} (h : Sl w 3 A l.length (itc l)) (hb : Below w.heap.size w u) {i : Nat} (hi : i < l.length) {x : It} (hx : l[i]'hi = x) :
    ∃ b off, A = some ⟨b, off, none⟩ ∧ b < w.heap.size ∧ u.cell? ⟨b, off + i * 3, none⟩ = some (.int .i64 x.num) ∧ u.cell? ⟨b, off + i * 3 + 1, none⟩ = some (.int .i64 x.den) ∧ u.cell? ⟨b, off + i * 3 + 2, none⟩ = some (.string x.text) := by
  subst hx
  obtain ⟨b, off, e, hlt, hc⟩ := h.at' (f := itc1) (fun _ _ => rfl) hi
  exact ⟨b, off, e, hlt, (hb.cell (p := ⟨b, _, none⟩) hlt).trans (hc 0 _ rfl), (hb.cell (p := ⟨b, _, none⟩) hlt).trans (hc 1 _ rfl), (hb.cell (p := ⟨b, _, none⟩) hlt).trans (hc 2 _ rfl)⟩

theorem Sl.tx {w u : World} {A : Option Addr} {l : List ByteArray} (h : Sl w 1 A l.length (stc l)) (hb : Below w.heap.size w u) {i : Nat} (hi : i < l.length) {x : ByteArray} (hx : l[i]'hi = x) :
    ∃ b off, A = some ⟨b, off, none⟩ ∧ b < w.heap.size ∧ u.cell? ⟨b, off + i, none⟩ = some (.string x) := by
  subst hx
  obtain ⟨b, off, e, hlt, hc⟩ := h.cell1 hi
  rw [stc_at hi] at hc
  exact ⟨b, off, e, hlt, (hb.cell (p := ⟨b, _, none⟩) hlt).trans hc⟩

/-- the cells of part i -/
theorem RdL.pt {w u : World} {A : Option Addr} {ps : List VT} {pvs : List (List Value)} (h : RdL w A ps pvs) (hb : Below w.heap.size w u) {i : Nat} (hi : i < ps.length) {t : VT} (ht : ps[i]'hi = t) :
    ∃ b off, A = some ⟨b, off, none⟩ ∧ b < w.heap.size ∧ ∃ v0 v1 v2 v3 v4 v5 v6 v7, RdV u t [v0, v1, v2, v3, v4, v5, v6, v7] ∧ u.cell? ⟨b, off + i * 8, none⟩ = some v0 ∧ u.cell? ⟨b, off + i * 8 + 1, none⟩ = some v1 ∧ u.cell? ⟨b, off + i * 8 + 2, none⟩ = some v2 ∧ u.cell? ⟨b, off + i * 8 + 3, none⟩ = some v3 ∧
      u.cell? ⟨b, off + i * 8 + 4, none⟩ = some v4 ∧ u.cell? ⟨b, off + i * 8 + 5, none⟩ = some v5 ∧ u.cell? ⟨b, off + i * 8 + 6, none⟩ = some v6 ∧ u.cell? ⟨b, off + i * 8 + 7, none⟩ = some v7 := by
  subst ht
  obtain ⟨b, off, e, hlt, vs, hv, hc⟩ := h.cells hi
  match vs, hv.len, hv, hc with
  | [v0, v1, v2, v3, v4, v5, v6, v7], _, hv, hc =>
    have q : ∀ j u', [v0, v1, v2, v3, v4, v5, v6, v7][j]? = some u' → u.cell? ⟨b, off + (i * 8 + j), none⟩ = some u' := fun j u' hu => (hb.cell (p := ⟨b, _, none⟩) hlt).trans (hc j u' hu)
    exact ⟨b, off, e, hlt, v0, v1, v2, v3, v4, v5, v6, v7, hv.grow hb, q 0 _ rfl, q 1 _ rfl, q 2 _ rfl, q 3 _ rfl, q 4 _ rfl, q 5 _ rfl, q 6 _ rfl, q 7 _ rfl⟩

theorem left_add {lf : Int} {a b : Nat} (h : ¬ lf < a) : leftI (lf - a) b = leftI lf (a + b) := by
  unfold leftI
  by_cases h2 : lf - a < b
  · rw [if_pos h2, if_pos (by omega)]
  · rw [if_neg h2, if_neg (by omega)]; omega
theorem left_nn {lf : Int} {a : Nat} (h : ¬ lf < a) : 0 ≤ leftI lf a ∧ leftI lf a ≤ lf := by rw [left_yes h]; omega

theorem laws_szItems (A : Option Addr) (c : Nat) (l : List It) (lf : Int) (w : World) (h : Sl w 3 A l.length (itc l)) (hn : l.length ≤ 9223372036854775807) (hl : 0 ≤ lf ∧ lf ≤ 1048576) (hs : ∀ s ∈ l, s.text.size ≤ maxLen) :
    Calls Try.prog 74 #[.slice A l.length c, .int .i64 lf] w fun e w' => e = .returned (.int .i64 (leftI lf (szI l))) ∧ Below w.heap.size w w' := by
  obtain ⟨hl1, hl2⟩ := hl
  by_cases h0 : lf < l.length
  · have HR := Lib.hid (left_no (lf := lf) (z := szI l) (by unfold szI; omega))
    go_enter Try.func74, Try.ntmps74
    have hO := Own.nil w
    go_wp2_with (first
      | ((with_reducible refine wpl_alloc ?_); refine wpList_alloc_own rfl (by rfl) hO rfl (fun b => by simp only [Act.put, zA, zB, zC]; rfl) ?_; (first | (refine nm 0 rfl ?_; clear hO; intro b0 u hO)); simp only [zL, zK] at hO)
      | ((with_reducible refine wpl_box ?_); refine wpList_box_own rfl (by rfl) hO rfl rfl (fun b => by simp only [Act.put, zA, zB, zC]; rfl) ?_; (first | (refine nm 0 rfl ?_; clear hO; intro b0 u hO)); simp only [zL, zK] at hO)
      | fail)
    go_ret
    exact ⟨ret_int HR.out.symm, hO.below⟩
  · have h0' : (l.length : Int) ≤ lf := by omega
    clear h0
    go_enter Try.func74, Try.ntmps74
    have hO := Own.nil w
    go_wp2_with (first
      | ((with_reducible refine wpl_alloc ?_); refine wpList_alloc_own rfl (by rfl) hO rfl (fun b => by simp only [Act.put, zA, zB, zC]; rfl) ?_; (first | (refine nm 0 rfl ?_; clear hO; intro b0 u hO)); simp only [zL, zK] at hO)
      | ((with_reducible refine wpl_box ?_); refine wpList_box_own rfl (by rfl) hO rfl rfl (fun b => by simp only [Act.put, zA, zB, zC]; rfl) ?_; (first | (refine nm 0 rfl ?_; clear hO; intro b0 u hO)); simp only [zL, zK] at hO)
      | fail)
    go_loopw [1, 5] (fun r i u => ∃ k : Nat, k ≤ l.length ∧ i = .int .i64 k ∧ r = .int .i64 (lf - l.length - (itz (l.take k) : Nat)) ∧ ((itz (l.take k) : Nat) : Int) ≤ lf - l.length ∧ Own w [] u) (fun _ i _ => l.length - (intOf i).toNat)
    case atStart => exact ⟨0, Nat.zero_le _, rfl, by simp [itz], by simp [itz]; omega, hO⟩
    case round =>
      clear hO
      obtain ⟨k, hk, rfl, rfl, hle, hO⟩ := hrel
      by_cases hlt : k < l.length
      · have hsz := hs _ (List.getElem_mem hlt)
        have HST := Lib.hid (itz_succ hlt)
        have HTL := Lib.hid (itz_take_le l (k + 1))
        obtain ⟨x, hx⟩ : ∃ x, l[k]'hlt = x := ⟨_, rfl⟩
        obtain ⟨b, off, rfl, hb, c0, c1, c2⟩ := h.it hO.below hlt hx
        rw [hx] at hsz HST
        clear hx
        obtain ⟨z, hz⟩ : ∃ z, itz (l.take k) = z := ⟨_, rfl⟩
        rw [hz] at hle HST
        rw [hz]
        have HZ := Lib.hid hz
        clear hz
        by_cases hov : lf - l.length - z < x.text.size
        · have HR := Lib.hid (left_no (lf := lf) (z := szI l) (by have := HST.out; have := HTL.out; unfold szI; omega))
          have HE := Lib.hid (if_pos hov : (if lf - l.length - z < x.text.size then (-1 : Int) else lf - l.length - z - x.text.size) = -1)
          go_wp2_with fail
          refine (laws_szItem _ _ _ _ _ hsz (by omega)).mono ?_
          rintro e u ⟨rfl, hb⟩
          (replace hO := hO.step hb; clear hb)
          rw [HE.out]
          go_wp2_with fail
          go_ret
          exact ⟨ret_int HR.out.symm, hO.below⟩
        · have HE := Lib.hid (if_neg hov : (if lf - l.length - z < x.text.size then (-1 : Int) else lf - l.length - z - x.text.size) = lf - l.length - z - x.text.size)
          have hov' : 0 ≤ lf - l.length - z - x.text.size := by omega
          clear hov
          go_wp2_with fail
          refine (laws_szItem _ _ _ _ _ hsz (by omega)).mono ?_
          rintro e u ⟨rfl, hb⟩
          (replace hO := hO.step hb; clear hb)
          rw [HE.out]
          go_wp2_with fail
          go_roundw
          case rel => exact ⟨k + 1, by omega, by go_num, by rw [HST.out]; exact congrArg (Value.int .i64) (by omega), by rw [HST.out]; omega, hO⟩
          case measure => simp [intOf]; omega
      · have hkn : k = l.length := by omega
        have htk : l.take k = l := List.take_of_length_le (by omega)
        rw [htk] at hle
        rw [htk]
        have HR := Lib.hid (show leftI lf (szI l) = lf - l.length - (itz l : Nat) by rw [left_yes (by unfold szI; omega)]; unfold szI; omega)
        clear htk
        subst hkn
        go_wp2_with fail
        go_ret
        exact ⟨ret_int HR.out.symm, hO.below⟩

def PSz (t : VT) : Prop := ∀ (vs : List Value) (lf : Int) (w : World), RdV w t vs → wfV t → 0 ≤ lf ∧ lf ≤ 1048576 → Calls Try.prog 29 #[.agg vs.toArray, .int .i64 lf] w fun e w' => e = .returned (.int .i64 (leftI lf (szV t))) ∧ Below w.heap.size w w'

theorem laws_szVecs (ps : List VT) (hP : ∀ p ∈ ps, PSz p) (A : Option Addr) (c : Nat) (pvs : List (List Value)) (lf : Int) (w : World) (h : RdL w A ps pvs) (hw : wfL ps) (hn : ps.length ≤ 9223372036854775807) (hl : 0 ≤ lf ∧ lf ≤ 1048576) :
    Calls Try.prog 16 #[.slice A ps.length c, .int .i64 lf] w fun e w' => e = .returned (.int .i64 (leftI lf (szL ps))) ∧ Below w.heap.size w w' := by
  obtain ⟨hl1, hl2⟩ := hl
  have HL := szL_eq ps
  by_cases h0 : lf < ps.length
  · have HR := Lib.hid (left_no (lf := lf) (z := szL ps) (by omega))
    clear HL
    go_enter Try.func16, Try.ntmps16
    have hO := Own.nil w
    go_wp2_with (first
      | ((with_reducible refine wpl_alloc ?_); refine wpList_alloc_own rfl (by rfl) hO rfl (fun b => by simp only [Act.put, zA, zB, zC]; rfl) ?_; (first | (refine nm 0 rfl ?_; clear hO; intro b0 u hO)); simp only [zL, zK] at hO)
      | ((with_reducible refine wpl_box ?_); refine wpList_box_own rfl (by rfl) hO rfl rfl (fun b => by simp only [Act.put, zA, zB, zC]; rfl) ?_; (first | (refine nm 0 rfl ?_; clear hO; intro b0 u hO)); simp only [zL, zK] at hO)
      | fail)
    go_ret
    exact ⟨ret_int HR.out.symm, hO.below⟩
  · have h0' : (ps.length : Int) ≤ lf := by omega
    clear h0
    have HS := Lib.hid HL
    clear HL
    go_enter Try.func16, Try.ntmps16
    have hO := Own.nil w
    go_wp2_with (first
      | ((with_reducible refine wpl_alloc ?_); refine wpList_alloc_own rfl (by rfl) hO rfl (fun b => by simp only [Act.put, zA, zB, zC]; rfl) ?_; (first | (refine nm 0 rfl ?_; clear hO; intro b0 u hO)); simp only [zL, zK] at hO)
      | ((with_reducible refine wpl_box ?_); refine wpList_box_own rfl (by rfl) hO rfl rfl (fun b => by simp only [Act.put, zA, zB, zC]; rfl) ?_; (first | (refine nm 0 rfl ?_; clear hO; intro b0 u hO)); simp only [zL, zK] at hO)
      | fail)
    go_loopw [1, 5] (fun r i u => ∃ k : Nat, k ≤ ps.length ∧ i = .int .i64 k ∧ r = .int .i64 (lf - ps.length - (szP (ps.take k) : Nat)) ∧ ((szP (ps.take k) : Nat) : Int) ≤ lf - ps.length ∧ Own w [] u) (fun _ i _ => ps.length - (intOf i).toNat)
    case atStart => exact ⟨0, Nat.zero_le _, rfl, by simp [szP], by simp [szP]; omega, hO⟩
    case round =>
      clear hO
      obtain ⟨k, hk, rfl, rfl, hle, hO⟩ := hrel
      by_cases hlt : k < ps.length
      · have hp := hP _ (List.getElem_mem hlt)
        have hwf := wfL_mem hw _ (List.getElem_mem hlt)
        have HST := Lib.hid (szP_succ hlt)
        have HTL := Lib.hid (szP_take_le ps (k + 1))
        obtain ⟨x, hx⟩ : ∃ x, ps[k]'hlt = x := ⟨_, rfl⟩
        obtain ⟨b, off, rfl, hb, v0, v1, v2, v3, v4, v5, v6, v7, hv, c0, c1, c2, c3, c4, c5, c6, c7⟩ := h.pt hO.below hlt hx
        rw [hx] at hp hwf HST
        clear hx
        obtain ⟨z, hz⟩ : ∃ z, szP (ps.take k) = z := ⟨_, rfl⟩
        rw [hz] at hle HST
        rw [hz]
        have HZ := Lib.hid hz
        clear hz
        by_cases hov : lf - ps.length - z < szV x
        · have HR := Lib.hid (left_no (lf := lf) (z := szL ps) (by have := HST.out; have := HTL.out; have := HS.out; omega))
          have HE := Lib.hid (left_no hov)
          go_wp2_with fail
          refine (hp _ _ _ hv hwf (by omega)).mono ?_
          rintro e u ⟨rfl, hb⟩
          (replace hO := hO.step hb; clear hb)
          rw [HE.out]
          go_wp2_with fail
          go_ret
          exact ⟨ret_int HR.out.symm, hO.below⟩
        · have HE := Lib.hid (left_yes hov)
          have hov' : 0 ≤ lf - ps.length - z - szV x := by omega
          clear hov
          go_wp2_with fail
          refine (hp _ _ _ hv hwf (by omega)).mono ?_
          rintro e u ⟨rfl, hb⟩
          (replace hO := hO.step hb; clear hb)
          rw [HE.out]
          go_wp2_with fail
          go_roundw
          case rel => exact ⟨k + 1, by omega, by go_num, by rw [HST.out]; exact congrArg (Value.int .i64) (by omega), by rw [HST.out]; omega, hO⟩
          case measure => simp [intOf]; omega
      · have hkn : k = ps.length := by omega
        have htk : ps.take k = ps := List.take_of_length_le (by omega)
        rw [htk] at hle
        rw [htk]
        have HR := Lib.hid (show leftI lf (szL ps) = lf - ps.length - (szP ps : Nat) by have := HS.out; rw [left_yes (by omega)]; omega)
        clear htk
        subst hkn
        go_wp2_with fail
        go_ret
        exact ⟨ret_int HR.out.symm, hO.below⟩

set_option maxHeartbeats 2000000 in
theorem laws_szVec (t : VT) : PSz t := by
  induction t using VT.ind with
  | _ k is ps ns cs ls c e ih =>
    intro vs lf w hv hwf hl
    obtain ⟨Ai, Ap, An, Ac, Al, ci, cp, cn, cc, cl, pvs, rfl, h1, h2, h3, h4, h5⟩ := hv.open
    obtain ⟨_, ⟨l1, i1⟩, ⟨l2, i2⟩, n3, n4, n5⟩ := hwf
    unfold maxLen at l1 l2
    have s1 := fun u (hb : Below w.heap.size w u) (lf : Int) (hl : 0 ≤ lf ∧ lf ≤ 1048576) => laws_szItems Ai ci is lf u (h1.below hb) l1 hl (fun x hx => (i1 x hx).2.2)
    have s2 := fun u (hb : Below w.heap.size w u) (lf : Int) (hl : 0 ≤ lf ∧ lf ≤ 1048576) => laws_szVecs ps ih Ap cp pvs lf u (h2.below hb) i2 l2 hl
    have s3 := fun u (hb : Below w.heap.size w u) (lf : Int) (hl : 0 ≤ lf ∧ lf ≤ 1048576) => laws_szStrs An ns.length cn ns lf u (h3.below hb) (by have := n3.1; unfold maxLen at this; exact this) hl n3.2
    have s4 := fun u (hb : Below w.heap.size w u) (lf : Int) (hl : 0 ≤ lf ∧ lf ≤ 1048576) => laws_szStrs Ac cs.length cc cs lf u (h4.below hb) (by have := n4.1; unfold maxLen at this; exact this) hl n4.2
    have s5 := fun u (hb : Below w.heap.size w u) (lf : Int) (hl : 0 ≤ lf ∧ lf ≤ 1048576) => laws_szStrs Al ls.length cl ls lf u (h5.below hb) (by have := n5.1; unfold maxLen at this; exact this) hl n5.2
    have HT := Lib.hid (show szV (.mk k is ps ns cs ls c e) = szI is + szL ps + szS ns + szS cs + szS ls from rfl)
    obtain ⟨a1, ha1⟩ : ∃ a, szI is = a := ⟨_, rfl⟩
    obtain ⟨a2, ha2⟩ : ∃ a, szL ps = a := ⟨_, rfl⟩
    obtain ⟨a3, ha3⟩ : ∃ a, szS ns = a := ⟨_, rfl⟩
    obtain ⟨a4, ha4⟩ : ∃ a, szS cs = a := ⟨_, rfl⟩
    obtain ⟨a5, ha5⟩ : ∃ a, szS ls = a := ⟨_, rfl⟩
    rw [ha1] at s1 HT; rw [ha2] at s2 HT; rw [ha3] at s3 HT; rw [ha4] at s4 HT; rw [ha5] at s5 HT
    clear ha1 ha2 ha3 ha4 ha5 h1 h2 h3 h4 h5 hv ih l1 i1 l2 i2 n3 n4 n5
    rw [HT.out]
    clear HT
    by_cases g1 : lf < a1
    · have E1 := Lib.hid (left_no g1)
      have ER := Lib.hid (left_no (lf := lf) (z := a1 + a2 + a3 + a4 + a5) (by omega))
      go_enter Try.func29, Try.ntmps29
      have hO := Own.nil w
      go_wp2_with (first
        | ((with_reducible refine wpl_box ?_); refine wpList_box_own rfl (by rfl) hO rfl rfl (fun b => by simp only [Act.put, zA, zB, zC]; rfl) ?_; (refine nm 0 rfl ?_; clear hO; intro b0 u hO); simp only [zL, zK] at hO)
        | ((with_reducible refine wpl_load ?_); refine wpList_load_field rfl (by rfl) hO rfl _ (by exact at0) (by rfl) (by simp only [Act.put, zA, zB, zC]; rfl) ?_)
        | fail)
      refine (s1 _ hO.below _ hl).mono ?_
      rintro e u ⟨rfl, hb⟩
      (replace hO := hO.step hb; clear hb)
      rw [E1.out]
      go_wp2_with (first
        | ((with_reducible refine wpl_alloc ?_); refine wpList_alloc_own rfl (by rfl) hO rfl (fun b => by simp only [Act.put, zA, zB, zC]; rfl) ?_; (first | (refine nm 0 rfl ?_; clear hO; intro b0 u hO)); simp only [zL, zK] at hO)
        | ((with_reducible refine wpl_box ?_); refine wpList_box_own rfl (by rfl) hO rfl rfl (fun b => by simp only [Act.put, zA, zB, zC]; rfl) ?_; (first | (refine nm 0 rfl ?_; clear hO; intro b0 u hO)); simp only [zL, zK] at hO)
        | ((with_reducible refine wpl_load ?_); refine wpList_load_box rfl (by (first | rfl | (simp only [Region.wanted, yielded, *]; go_simp; done) | (simp [Region.wanted, yielded, *]; done) | fail)) hO rfl _ (by (first | exact at0)) (by rfl) (by simp only [Act.put, zA, zB, zC]; rfl) ?_)
        | ((with_reducible refine wpl_load ?_); refine wpList_load_field rfl (by (first | rfl | (simp only [Region.wanted, yielded, *]; go_simp; done) | (simp [Region.wanted, yielded, *]; done) | fail)) hO rfl _ (by (first | exact at0)) (by rfl) (by simp only [Act.put, zA, zB, zC]; rfl) ?_)
        | ((with_reducible refine wpl_store ?_); refine wpList_store_box rfl (by rfl) hO rfl _ (by (first | exact at0)) rfl (by rfl) (by rfl) (by rfl) (by rfl) (by rfl) ?_; clear hO; intro u hO; simp only [zC, zB] at hO)
        | ((with_reducible refine wpl_store ?_); refine wpList_store_field rfl (by rfl) hO rfl _ (by (first | exact at0)) (zM rfl) (by simp only [Act.eval, zJ, zF, zD, zE, zP]; rfl) (by rfl) (by rfl) (by rfl) ?_; clear hO; intro u hO; simp only [zC, zB] at hO)
        | fail)
      go_ret
      exact ⟨ret_int ER.out.symm, hO.below⟩
    · have E1 := Lib.hid (left_yes g1)
      have q1 : 0 ≤ lf - a1 := by omega
      clear g1
      by_cases g2 : lf - a1 < a2
      · have E2 := Lib.hid (left_no g2)
        have ER := Lib.hid (left_no (lf := lf) (z := a1 + a2 + a3 + a4 + a5) (by omega))
        go_enter Try.func29, Try.ntmps29
        have hO := Own.nil w
        go_wp2_with (first
          | ((with_reducible refine wpl_box ?_); refine wpList_box_own rfl (by rfl) hO rfl rfl (fun b => by simp only [Act.put, zA, zB, zC]; rfl) ?_; (refine nm 0 rfl ?_; clear hO; intro b0 u hO); simp only [zL, zK] at hO)
          | ((with_reducible refine wpl_load ?_); refine wpList_load_field rfl (by rfl) hO rfl _ (by exact at0) (by rfl) (by simp only [Act.put, zA, zB, zC]; rfl) ?_)
          | fail)
        refine (s1 _ hO.below _ hl).mono ?_
        rintro e u ⟨rfl, hb⟩
        (replace hO := hO.step hb; clear hb)
        rw [E1.out]
        go_wp2_with (first
          | ((with_reducible refine wpl_load ?_); refine wpList_load_field rfl (by rfl) hO rfl _ (by exact at0) (by rfl) (by simp only [Act.put, zA, zB, zC]; rfl) ?_)
          | fail)
        refine (s2 _ hO.below _ (by omega)).mono ?_
        rintro e u ⟨rfl, hb⟩
        (replace hO := hO.step hb; clear hb)
        rw [E2.out]
        go_wp2_with (first
          | ((with_reducible refine wpl_alloc ?_); refine wpList_alloc_own rfl (by rfl) hO rfl (fun b => by simp only [Act.put, zA, zB, zC]; rfl) ?_; (first | (refine nm 0 rfl ?_; clear hO; intro b0 u hO)); simp only [zL, zK] at hO)
          | ((with_reducible refine wpl_box ?_); refine wpList_box_own rfl (by rfl) hO rfl rfl (fun b => by simp only [Act.put, zA, zB, zC]; rfl) ?_; (first | (refine nm 0 rfl ?_; clear hO; intro b0 u hO)); simp only [zL, zK] at hO)
          | ((with_reducible refine wpl_load ?_); refine wpList_load_box rfl (by (first | rfl | (simp only [Region.wanted, yielded, *]; go_simp; done) | (simp [Region.wanted, yielded, *]; done) | fail)) hO rfl _ (by (first | exact at0)) (by rfl) (by simp only [Act.put, zA, zB, zC]; rfl) ?_)
          | ((with_reducible refine wpl_load ?_); refine wpList_load_field rfl (by (first | rfl | (simp only [Region.wanted, yielded, *]; go_simp; done) | (simp [Region.wanted, yielded, *]; done) | fail)) hO rfl _ (by (first | exact at0)) (by rfl) (by simp only [Act.put, zA, zB, zC]; rfl) ?_)
          | ((with_reducible refine wpl_store ?_); refine wpList_store_box rfl (by rfl) hO rfl _ (by (first | exact at0)) rfl (by rfl) (by rfl) (by rfl) (by rfl) (by rfl) ?_; clear hO; intro u hO; simp only [zC, zB] at hO)
          | ((with_reducible refine wpl_store ?_); refine wpList_store_field rfl (by rfl) hO rfl _ (by (first | exact at0)) (zM rfl) (by simp only [Act.eval, zJ, zF, zD, zE, zP]; rfl) (by rfl) (by rfl) (by rfl) ?_; clear hO; intro u hO; simp only [zC, zB] at hO)
          | fail)
        go_ret
        exact ⟨ret_int ER.out.symm, hO.below⟩
      · have E2 := Lib.hid (left_yes g2)
        have q2 : 0 ≤ lf - a1 - a2 := by omega
        clear g2
        by_cases g3 : lf - a1 - a2 < a3
        · have E3 := Lib.hid (left_no g3)
          have ER := Lib.hid (left_no (lf := lf) (z := a1 + a2 + a3 + a4 + a5) (by omega))
          go_enter Try.func29, Try.ntmps29
          have hO := Own.nil w
          go_wp2_with (first
            | ((with_reducible refine wpl_box ?_); refine wpList_box_own rfl (by rfl) hO rfl rfl (fun b => by simp only [Act.put, zA, zB, zC]; rfl) ?_; (refine nm 0 rfl ?_; clear hO; intro b0 u hO); simp only [zL, zK] at hO)
            | ((with_reducible refine wpl_load ?_); refine wpList_load_field rfl (by rfl) hO rfl _ (by exact at0) (by rfl) (by simp only [Act.put, zA, zB, zC]; rfl) ?_)
            | fail)
          refine (s1 _ hO.below _ hl).mono ?_
          rintro e u ⟨rfl, hb⟩
          (replace hO := hO.step hb; clear hb)
          rw [E1.out]
          go_wp2_with (first
            | ((with_reducible refine wpl_load ?_); refine wpList_load_field rfl (by rfl) hO rfl _ (by exact at0) (by rfl) (by simp only [Act.put, zA, zB, zC]; rfl) ?_)
            | fail)
          refine (s2 _ hO.below _ (by omega)).mono ?_
          rintro e u ⟨rfl, hb⟩
          (replace hO := hO.step hb; clear hb)
          rw [E2.out]
          go_wp2_with (first
            | ((with_reducible refine wpl_load ?_); refine wpList_load_field rfl (by rfl) hO rfl _ (by exact at0) (by rfl) (by simp only [Act.put, zA, zB, zC]; rfl) ?_)
            | fail)
          refine (s3 _ hO.below _ (by omega)).mono ?_
          rintro e u ⟨rfl, hb⟩
          subst hb
          rw [E3.out]
          go_wp2_with (first
            | ((with_reducible refine wpl_alloc ?_); refine wpList_alloc_own rfl (by rfl) hO rfl (fun b => by simp only [Act.put, zA, zB, zC]; rfl) ?_; (first | (refine nm 0 rfl ?_; clear hO; intro b0 u hO)); simp only [zL, zK] at hO)
            | ((with_reducible refine wpl_box ?_); refine wpList_box_own rfl (by rfl) hO rfl rfl (fun b => by simp only [Act.put, zA, zB, zC]; rfl) ?_; (first | (refine nm 0 rfl ?_; clear hO; intro b0 u hO)); simp only [zL, zK] at hO)
            | ((with_reducible refine wpl_load ?_); refine wpList_load_box rfl (by (first | rfl | (simp only [Region.wanted, yielded, *]; go_simp; done) | (simp [Region.wanted, yielded, *]; done) | fail)) hO rfl _ (by (first | exact at0)) (by rfl) (by simp only [Act.put, zA, zB, zC]; rfl) ?_)
            | ((with_reducible refine wpl_load ?_); refine wpList_load_field rfl (by (first | rfl | (simp only [Region.wanted, yielded, *]; go_simp; done) | (simp [Region.wanted, yielded, *]; done) | fail)) hO rfl _ (by (first | exact at0)) (by rfl) (by simp only [Act.put, zA, zB, zC]; rfl) ?_)
            | ((with_reducible refine wpl_store ?_); refine wpList_store_box rfl (by rfl) hO rfl _ (by (first | exact at0)) rfl (by rfl) (by rfl) (by rfl) (by rfl) (by rfl) ?_; clear hO; intro u hO; simp only [zC, zB] at hO)
            | ((with_reducible refine wpl_store ?_); refine wpList_store_field rfl (by rfl) hO rfl _ (by (first | exact at0)) (zM rfl) (by simp only [Act.eval, zJ, zF, zD, zE, zP]; rfl) (by rfl) (by rfl) (by rfl) ?_; clear hO; intro u hO; simp only [zC, zB] at hO)
            | fail)
          go_ret
          exact ⟨ret_int ER.out.symm, hO.below⟩
        · have E3 := Lib.hid (left_yes g3)
          have q3 : 0 ≤ lf - a1 - a2 - a3 := by omega
          clear g3
          by_cases g4 : lf - a1 - a2 - a3 < a4
          · have E4 := Lib.hid (left_no g4)
            have ER := Lib.hid (left_no (lf := lf) (z := a1 + a2 + a3 + a4 + a5) (by omega))
            go_enter Try.func29, Try.ntmps29
            have hO := Own.nil w
            go_wp2_with (first
              | ((with_reducible refine wpl_box ?_); refine wpList_box_own rfl (by rfl) hO rfl rfl (fun b => by simp only [Act.put, zA, zB, zC]; rfl) ?_; (refine nm 0 rfl ?_; clear hO; intro b0 u hO); simp only [zL, zK] at hO)
              | ((with_reducible refine wpl_load ?_); refine wpList_load_field rfl (by rfl) hO rfl _ (by exact at0) (by rfl) (by simp only [Act.put, zA, zB, zC]; rfl) ?_)
              | fail)
            refine (s1 _ hO.below _ hl).mono ?_
            rintro e u ⟨rfl, hb⟩
            (replace hO := hO.step hb; clear hb)
            rw [E1.out]
            go_wp2_with (first
              | ((with_reducible refine wpl_load ?_); refine wpList_load_field rfl (by rfl) hO rfl _ (by exact at0) (by rfl) (by simp only [Act.put, zA, zB, zC]; rfl) ?_)
              | fail)
            refine (s2 _ hO.below _ (by omega)).mono ?_
            rintro e u ⟨rfl, hb⟩
            (replace hO := hO.step hb; clear hb)
            rw [E2.out]
            go_wp2_with (first
              | ((with_reducible refine wpl_load ?_); refine wpList_load_field rfl (by rfl) hO rfl _ (by exact at0) (by rfl) (by simp only [Act.put, zA, zB, zC]; rfl) ?_)
              | fail)
            refine (s3 _ hO.below _ (by omega)).mono ?_
            rintro e u ⟨rfl, hb⟩
            subst hb
            rw [E3.out]
            go_wp2_with (first
              | ((with_reducible refine wpl_load ?_); refine wpList_load_field rfl (by rfl) hO rfl _ (by exact at0) (by rfl) (by simp only [Act.put, zA, zB, zC]; rfl) ?_)
              | fail)
            refine (s4 _ hO.below _ (by omega)).mono ?_
            rintro e u ⟨rfl, hb⟩
            subst hb
            rw [E4.out]
            go_wp2_with (first
              | ((with_reducible refine wpl_alloc ?_); refine wpList_alloc_own rfl (by rfl) hO rfl (fun b => by simp only [Act.put, zA, zB, zC]; rfl) ?_; (first | (refine nm 0 rfl ?_; clear hO; intro b0 u hO)); simp only [zL, zK] at hO)
              | ((with_reducible refine wpl_box ?_); refine wpList_box_own rfl (by rfl) hO rfl rfl (fun b => by simp only [Act.put, zA, zB, zC]; rfl) ?_; (first | (refine nm 0 rfl ?_; clear hO; intro b0 u hO)); simp only [zL, zK] at hO)
              | ((with_reducible refine wpl_load ?_); refine wpList_load_box rfl (by (first | rfl | (simp only [Region.wanted, yielded, *]; go_simp; done) | (simp [Region.wanted, yielded, *]; done) | fail)) hO rfl _ (by (first | exact at0)) (by rfl) (by simp only [Act.put, zA, zB, zC]; rfl) ?_)
              | ((with_reducible refine wpl_load ?_); refine wpList_load_field rfl (by (first | rfl | (simp only [Region.wanted, yielded, *]; go_simp; done) | (simp [Region.wanted, yielded, *]; done) | fail)) hO rfl _ (by (first | exact at0)) (by rfl) (by simp only [Act.put, zA, zB, zC]; rfl) ?_)
              | ((with_reducible refine wpl_store ?_); refine wpList_store_box rfl (by rfl) hO rfl _ (by (first | exact at0)) rfl (by rfl) (by rfl) (by rfl) (by rfl) (by rfl) ?_; clear hO; intro u hO; simp only [zC, zB] at hO)
              | ((with_reducible refine wpl_store ?_); refine wpList_store_field rfl (by rfl) hO rfl _ (by (first | exact at0)) (zM rfl) (by simp only [Act.eval, zJ, zF, zD, zE, zP]; rfl) (by rfl) (by rfl) (by rfl) ?_; clear hO; intro u hO; simp only [zC, zB] at hO)
              | fail)
            go_ret
            exact ⟨ret_int ER.out.symm, hO.below⟩
          · have E4 := Lib.hid (left_yes g4)
            have q4 : 0 ≤ lf - a1 - a2 - a3 - a4 := by omega
            clear g4
            by_cases g5 : lf - a1 - a2 - a3 - a4 < a5
            · have E5 := Lib.hid (left_no g5)
              have ER := Lib.hid (left_no (lf := lf) (z := a1 + a2 + a3 + a4 + a5) (by omega))
              go_enter Try.func29, Try.ntmps29
              have hO := Own.nil w
              go_wp2_with (first
                | ((with_reducible refine wpl_box ?_); refine wpList_box_own rfl (by rfl) hO rfl rfl (fun b => by simp only [Act.put, zA, zB, zC]; rfl) ?_; (refine nm 0 rfl ?_; clear hO; intro b0 u hO); simp only [zL, zK] at hO)
                | ((with_reducible refine wpl_load ?_); refine wpList_load_field rfl (by rfl) hO rfl _ (by exact at0) (by rfl) (by simp only [Act.put, zA, zB, zC]; rfl) ?_)
                | fail)
              refine (s1 _ hO.below _ hl).mono ?_
              rintro e u ⟨rfl, hb⟩
              (replace hO := hO.step hb; clear hb)
              rw [E1.out]
              go_wp2_with (first
                | ((with_reducible refine wpl_load ?_); refine wpList_load_field rfl (by rfl) hO rfl _ (by exact at0) (by rfl) (by simp only [Act.put, zA, zB, zC]; rfl) ?_)
                | fail)
              refine (s2 _ hO.below _ (by omega)).mono ?_
              rintro e u ⟨rfl, hb⟩
              (replace hO := hO.step hb; clear hb)
              rw [E2.out]
              go_wp2_with (first
                | ((with_reducible refine wpl_load ?_); refine wpList_load_field rfl (by rfl) hO rfl _ (by exact at0) (by rfl) (by simp only [Act.put, zA, zB, zC]; rfl) ?_)
                | fail)
              refine (s3 _ hO.below _ (by omega)).mono ?_
              rintro e u ⟨rfl, hb⟩
              subst hb
              rw [E3.out]
              go_wp2_with (first
                | ((with_reducible refine wpl_load ?_); refine wpList_load_field rfl (by rfl) hO rfl _ (by exact at0) (by rfl) (by simp only [Act.put, zA, zB, zC]; rfl) ?_)
                | fail)
              refine (s4 _ hO.below _ (by omega)).mono ?_
              rintro e u ⟨rfl, hb⟩
              subst hb
              rw [E4.out]
              go_wp2_with (first
                | ((with_reducible refine wpl_load ?_); refine wpList_load_field rfl (by rfl) hO rfl _ (by exact at0) (by rfl) (by simp only [Act.put, zA, zB, zC]; rfl) ?_)
                | fail)
              refine (s5 _ hO.below _ (by omega)).mono ?_
              rintro e u ⟨rfl, hb⟩
              subst hb
              rw [E5.out]
              go_wp2_with (first
                | ((with_reducible refine wpl_alloc ?_); refine wpList_alloc_own rfl (by rfl) hO rfl (fun b => by simp only [Act.put, zA, zB, zC]; rfl) ?_; (first | (refine nm 0 rfl ?_; clear hO; intro b0 u hO)); simp only [zL, zK] at hO)
                | ((with_reducible refine wpl_box ?_); refine wpList_box_own rfl (by rfl) hO rfl rfl (fun b => by simp only [Act.put, zA, zB, zC]; rfl) ?_; (first | (refine nm 0 rfl ?_; clear hO; intro b0 u hO)); simp only [zL, zK] at hO)
                | ((with_reducible refine wpl_load ?_); refine wpList_load_box rfl (by (first | rfl | (simp only [Region.wanted, yielded, *]; go_simp; done) | (simp [Region.wanted, yielded, *]; done) | fail)) hO rfl _ (by (first | exact at0)) (by rfl) (by simp only [Act.put, zA, zB, zC]; rfl) ?_)
                | ((with_reducible refine wpl_load ?_); refine wpList_load_field rfl (by (first | rfl | (simp only [Region.wanted, yielded, *]; go_simp; done) | (simp [Region.wanted, yielded, *]; done) | fail)) hO rfl _ (by (first | exact at0)) (by rfl) (by simp only [Act.put, zA, zB, zC]; rfl) ?_)
                | ((with_reducible refine wpl_store ?_); refine wpList_store_box rfl (by rfl) hO rfl _ (by (first | exact at0)) rfl (by rfl) (by rfl) (by rfl) (by rfl) (by rfl) ?_; clear hO; intro u hO; simp only [zC, zB] at hO)
                | ((with_reducible refine wpl_store ?_); refine wpList_store_field rfl (by rfl) hO rfl _ (by (first | exact at0)) (zM rfl) (by simp only [Act.eval, zJ, zF, zD, zE, zP]; rfl) (by rfl) (by rfl) (by rfl) ?_; clear hO; intro u hO; simp only [zC, zB] at hO)
                | fail)
              go_ret
              exact ⟨ret_int ER.out.symm, hO.below⟩
            · have E5 := Lib.hid (left_yes g5)
              have q5 : 0 ≤ lf - a1 - a2 - a3 - a4 - a5 := by omega
              clear g5
              have ER := Lib.hid (show leftI lf (a1 + a2 + a3 + a4 + a5) = lf - a1 - a2 - a3 - a4 - a5 by rw [left_yes (by omega)]; omega)
              go_enter Try.func29, Try.ntmps29
              have hO := Own.nil w
              go_wp2_with (first
                | ((with_reducible refine wpl_box ?_); refine wpList_box_own rfl (by rfl) hO rfl rfl (fun b => by simp only [Act.put, zA, zB, zC]; rfl) ?_; (refine nm 0 rfl ?_; clear hO; intro b0 u hO); simp only [zL, zK] at hO)
                | ((with_reducible refine wpl_load ?_); refine wpList_load_field rfl (by rfl) hO rfl _ (by exact at0) (by rfl) (by simp only [Act.put, zA, zB, zC]; rfl) ?_)
                | fail)
              refine (s1 _ hO.below _ hl).mono ?_
              rintro e u ⟨rfl, hb⟩
              (replace hO := hO.step hb; clear hb)
              rw [E1.out]
              go_wp2_with (first
                | ((with_reducible refine wpl_load ?_); refine wpList_load_field rfl (by rfl) hO rfl _ (by exact at0) (by rfl) (by simp only [Act.put, zA, zB, zC]; rfl) ?_)
                | fail)
              refine (s2 _ hO.below _ (by omega)).mono ?_
              rintro e u ⟨rfl, hb⟩
              (replace hO := hO.step hb; clear hb)
              rw [E2.out]
              go_wp2_with (first
                | ((with_reducible refine wpl_load ?_); refine wpList_load_field rfl (by rfl) hO rfl _ (by exact at0) (by rfl) (by simp only [Act.put, zA, zB, zC]; rfl) ?_)
                | fail)
              refine (s3 _ hO.below _ (by omega)).mono ?_
              rintro e u ⟨rfl, hb⟩
              subst hb
              rw [E3.out]
              go_wp2_with (first
                | ((with_reducible refine wpl_load ?_); refine wpList_load_field rfl (by rfl) hO rfl _ (by exact at0) (by rfl) (by simp only [Act.put, zA, zB, zC]; rfl) ?_)
                | fail)
              refine (s4 _ hO.below _ (by omega)).mono ?_
              rintro e u ⟨rfl, hb⟩
              subst hb
              rw [E4.out]
              go_wp2_with (first
                | ((with_reducible refine wpl_load ?_); refine wpList_load_field rfl (by rfl) hO rfl _ (by exact at0) (by rfl) (by simp only [Act.put, zA, zB, zC]; rfl) ?_)
                | fail)
              refine (s5 _ hO.below _ (by omega)).mono ?_
              rintro e u ⟨rfl, hb⟩
              subst hb
              rw [E5.out]
              go_wp2_with (first
                | ((with_reducible refine wpl_alloc ?_); refine wpList_alloc_own rfl (by rfl) hO rfl (fun b => by simp only [Act.put, zA, zB, zC]; rfl) ?_; (first | (refine nm 0 rfl ?_; clear hO; intro b0 u hO)); simp only [zL, zK] at hO)
                | ((with_reducible refine wpl_box ?_); refine wpList_box_own rfl (by rfl) hO rfl rfl (fun b => by simp only [Act.put, zA, zB, zC]; rfl) ?_; (first | (refine nm 0 rfl ?_; clear hO; intro b0 u hO)); simp only [zL, zK] at hO)
                | ((with_reducible refine wpl_load ?_); refine wpList_load_box rfl (by (first | rfl | (simp only [Region.wanted, yielded, *]; go_simp; done) | (simp [Region.wanted, yielded, *]; done) | fail)) hO rfl _ (by (first | exact at0)) (by rfl) (by simp only [Act.put, zA, zB, zC]; rfl) ?_)
                | ((with_reducible refine wpl_load ?_); refine wpList_load_field rfl (by (first | rfl | (simp only [Region.wanted, yielded, *]; go_simp; done) | (simp [Region.wanted, yielded, *]; done) | fail)) hO rfl _ (by (first | exact at0)) (by rfl) (by simp only [Act.put, zA, zB, zC]; rfl) ?_)
                | ((with_reducible refine wpl_store ?_); refine wpList_store_box rfl (by rfl) hO rfl _ (by (first | exact at0)) rfl (by rfl) (by rfl) (by rfl) (by rfl) (by rfl) ?_; clear hO; intro u hO; simp only [zC, zB] at hO)
                | ((with_reducible refine wpl_store ?_); refine wpList_store_field rfl (by rfl) hO rfl _ (by (first | exact at0)) (zM rfl) (by simp only [Act.eval, zJ, zF, zD, zE, zP]; rfl) (by rfl) (by rfl) (by rfl) ?_; clear hO; intro u hO; simp only [zC, zB] at hO)
                | fail)
              go_ret
              exact ⟨ret_int ER.out.symm, hO.below⟩
end Go.Proofs.Ytmofcbpabdbjlaa
