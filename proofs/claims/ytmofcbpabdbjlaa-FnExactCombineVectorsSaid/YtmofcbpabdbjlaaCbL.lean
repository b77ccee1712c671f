/-
  What is proved: the statement on CombineVectors.
  Condition: none.
-/
import Derived.Test.YtmofcbpabdbjlaaCr
import Derived.Test.YtmofcbpabdbjlaaAt
import Derived.Test.YtmofcbpabdbjlaaJe
import Derived.Test.YtmofcbpabdbjlaaMv
import Derived.Test.YtmofcbpabdbjlaaLc
import Derived.Test.YtmofcbpabdbjlaaLd
namespace Go.Proofs.Ytmofcbpabdbjlaa
set_option maxRecDepth 8000
open Go.RowKit Go.ChangeShapes Go.WideShapes Go.Deep
set_option linter.unusedVariables false
set_option linter.unusedSimpArgs false

set_option maxRecDepth 20000 in
set_option maxHeartbeats 8000000 in
theorem fnExactCombineVectors_walk (v0 v1 : Value) (w : World) (h0 : ArgVecs w v0) (h1 : ArgStrs w v1) : Calls Try.prog 13 #[v0, v1] w fun e w' => e = .returned (.bool true) ∧ Below w.heap.size w w' := by
  obtain ⟨A0, c0, ps0, pvs0, rfl, hv0, hm0, hw0⟩ := h0
  have hm0' : ps0.length ≤ 9223372036854775807 := by unfold maxLen at hm0; omega
  obtain ⟨A1, n1, c1, l1, rfl, hm1, hv1, hw1⟩ := h1
  have hl1 : l1.length = n1 := by have := hv1.len; simpa [stc] using this
  subst hl1
  have CZ0 : ∀ u, Below w.heap.size w u → Calls Try.prog 16 #[.slice A0 ps0.length c0, .int .i64 (1048576)] u fun e w' => e = .returned (.int .i64 (leftI (1048576) (szL ps0))) ∧ Below u.heap.size u w' := fun u hb => laws_szVecs ps0 (fun p _ => laws_szVec p) A0 c0 pvs0 _ u (hv0.below hb) hw0 hm0' (by omega)
  by_cases g0 : (1048576 : Int) < szL ps0
  · have HR := Lib.hid (left_no (lf := 1048576) g0)
    rw [HR.out] at CZ0
    clear HR g0
    go_enter Try.func13, Try.ntmps13
    have hO := Own.nil w
    go_wp2_with (first
      | ((with_reducible refine (CZ0 _ hO.below).mono ?_); rintro e u ⟨rfl, hb⟩; (replace hO := hO.step hb; clear hb))
      | fail)
    go_ret
    exact ⟨rfl, hO.below⟩
  have HR := Lib.hid (left_yes (lf := 1048576) g0)
  rw [HR.out] at CZ0
  clear HR
  have hz0 : (0 : Int) ≤ 1048576 - szL ps0 := by omega
  have CZ1 : ∀ u, Below w.heap.size w u → Calls Try.prog 17 #[.slice A1 l1.length c1, .int .i64 (1048576 - szL ps0)] u fun e w' => e = .returned (.int .i64 (leftI (1048576 - szL ps0) (szS l1))) ∧ u = w' := fun u hb => laws_szStrs A1 l1.length c1 l1 _ u (hv1.below hb) hm1 (by omega) hw1
  by_cases g1 : (1048576 - szL ps0 : Int) < szS l1
  · have HR := Lib.hid (left_no (lf := 1048576 - szL ps0) g1)
    rw [HR.out] at CZ1
    clear HR g1
    go_enter Try.func13, Try.ntmps13
    have hO := Own.nil w
    go_wp2_with (first
      | ((with_reducible refine (CZ0 _ hO.below).mono ?_); rintro e u ⟨rfl, hb⟩; (replace hO := hO.step hb; clear hb))
      | ((with_reducible refine (CZ1 _ hO.below).mono ?_); rintro e u ⟨rfl, hb⟩; subst hb)
      | fail)
    go_ret
    exact ⟨rfl, hO.below⟩
  have HR := Lib.hid (left_yes (lf := 1048576 - szL ps0) g1)
  rw [HR.out] at CZ1
  clear HR
  have hz1 : (0 : Int) ≤ 1048576 - szL ps0 - szS l1 := by omega
  have HZ0 := Lib.hid (show szL ps0 ≤ 1048576 by omega)
  have HZ1 := Lib.hid (show szS l1 ≤ 1048576 by omega)
  have HZT := Lib.hid (show szL ps0 + szS l1 ≤ 1048576 by omega)
  have CS := fun A0' c0' pvs0' A1' c1' u (h0 : RdL u A0' ps0 pvs0') (h1 : Sl u 1 A1' l1.length (stc l1)) => RetVE.ofS (spec_cb A0' A1' c0' c1' ps0 pvs0' l1 u h0 h1 HZT.out)
  have CI := fun A0' c0' pvs0' A1' c1' u (h0 : RdL u A0' ps0 pvs0') (h1 : Sl u 1 A1' l1.length (stc l1)) => RetVE.ofS (impl_cb A0' A1' c0' c1' ps0 pvs0' l1 u h0 h1 HZT.out)
  have HL := Lib.hid (show szV (cbT ps0 l1) ≤ 1048576 from cbT_sz ps0 l1)
  obtain ⟨r, hr⟩ : ∃ r, cbT ps0 l1 = r := ⟨_, rfl⟩
  obtain ⟨s, hs⟩ : ∃ s, cbS ps0 l1 = s := ⟨_, rfl⟩
  rw [hr] at CS CI HL
  rw [hs] at CS CI
  clear hr hs
  have CEr := fun vs1 vs2 u (h : RdV u r vs1) (h' : RdV u r vs2) => laws_eqVec r vs1 vs2 u h h' HL.out
  have hcr : 1 + cntV r ≤ 2147483647 := by have := cnt_sz r; have := HL.out; omega
  have CMr := fun vs F L w0 u (h : VO r vs F) hO => laws_markVec r vs F 1 1 rfl hcr L w0 u h hO
  have CHr := fun vs u (h : RdV u (mrkV 1 r) vs) => laws_heldVec r vs 1 1 rfl hcr u h
  obtain ⟨zr, hzr⟩ : ∃ z, 1 + cntV r = z := ⟨_, rfl⟩
  rw [hzr] at CMr CHr hcr
  clear hzr
  have hc0 : 1 + cntL ps0 ≤ 2147483647 := by have := cntL_sz ps0; have := HZ0.out; omega
  have CE0 := fun A A' c c' pvs pvs' u h h' => laws_eqVecs ps0 (fun p _ => laws_eqVec p) A A' c c' pvs pvs' u h h' HZ0.out
  have CM0 := fun A c pvs Ls L w0 u h hO => laws_markVecs ps0 A c pvs Ls 1 1 L w0 u rfl h hc0 hO
  have CT0 := fun u (hb : Below w.heap.size w u) => laws_toVecs ps0 (fun p _ => laws_toVec p) A0 c0 pvs0 u (hv0.below hb) HZ0.out
  have hb0 := Lib.hid (show 1 + cntL ps0 ≤ 4000000 by have := cntL_sz ps0; have := HZ0.out; omega)
  obtain ⟨z0, hz'0⟩ : ∃ z, 1 + cntL ps0 = z := ⟨_, rfl⟩
  rw [hz'0] at CM0 hc0 hb0
  clear hz'0
  have hc1 : z0 + l1.length ≤ 2147483647 := by have := HZ1.out; have := hb0.out; have hh : l1.length ≤ szS l1 := (by unfold szS; omega); omega
  have hx1 : l1.length ≤ 1048576 := by have := HZ1.out; unfold szS at this; omega
  have CE1 := fun A A' c c' u h h' => laws_eqStrsR A A' c c' l1 u h h' hx1
  have CM1 := fun A c L w0 u hO => laws_markStrs l1 z0 z0 rfl hc1 A c L w0 u hO
  have CT1 := fun u (hb : Below w.heap.size w u) => laws_toStrsR A1 c1 l1 u (hv1.below hb) hx1
  have hb1 := Lib.hid (show z0 + l1.length ≤ 8000000 by have hh : l1.length ≤ szS l1 := (by unfold szS; omega); have := HZ1.out; have := hb0.out; omega)
  obtain ⟨z1, hz'1⟩ : ∃ z, z0 + l1.length = z := ⟨_, rfl⟩
  rw [hz'1] at CM1 hc1 hb1
  clear hz'1
  clear hw0 hw1 g0 g1
  go_enter Try.func13, Try.ntmps13
  have hO := Own.nil w
  go_wp2_with (first
    | ((with_reducible refine (CZ0 _ hO.below).mono ?_); rintro e u ⟨rfl, hb⟩; (replace hO := hO.step hb; clear hb))
    | ((with_reducible refine (CZ1 _ hO.below).mono ?_); rintro e u ⟨rfl, hb⟩; subst hb)
    | fail)
  clear CZ0 CZ1
  refine (CT0 _ hO.below).mono ?_
  rintro e u ⟨P1, p1, pv1, F1, rfl, hvo1, hb⟩
  replace hO := hO.call hb
  clear hb
  simp only [zK, zL] at hO
  go_wp2_with (first
    | ((with_reducible refine wpl_alloc ?_); refine wpList_alloc_own rfl (by rfl) hO rfl (fun b => by simp only [Act.put, zA, zB, zC]; rfl) ?_; (first | (refine nm 0 rfl ?_; clear hO; intro b0 u hO) | (refine nm 1 rfl ?_; clear hO; intro b1 u hO) | (refine nm 2 rfl ?_; clear hO; intro b2 u hO) | (refine nm 3 rfl ?_; clear hO; intro b3 u hO) | (refine nm 4 rfl ?_; clear hO; intro b4 u hO) | (refine nm 5 rfl ?_; clear hO; intro b5 u hO) | (refine nm 6 rfl ?_; clear hO; intro b6 u hO) | (refine nm 7 rfl ?_; clear hO; intro b7 u hO) | (refine nm 8 rfl ?_; clear hO; intro b8 u hO) | (refine nm 9 rfl ?_; clear hO; intro b9 u hO) | (refine nm 10 rfl ?_; clear hO; intro b10 u hO) | (refine nm 11 rfl ?_; clear hO; intro b11 u hO) | (refine nm 12 rfl ?_; clear hO; intro b12 u hO) | (refine nm 13 rfl ?_; clear hO; intro b13 u hO) | (refine nm 14 rfl ?_; clear hO; intro b14 u hO) | (refine nm 15 rfl ?_; clear hO; intro b15 u hO)); simp only [zL, zK] at hO)
    | ((with_reducible refine wpl_box ?_); refine wpList_box_own rfl (by rfl) hO rfl rfl (fun b => by simp only [Act.put, zA, zB, zC]; rfl) ?_; (first | (refine nm 0 rfl ?_; clear hO; intro b0 u hO) | (refine nm 1 rfl ?_; clear hO; intro b1 u hO) | (refine nm 2 rfl ?_; clear hO; intro b2 u hO) | (refine nm 3 rfl ?_; clear hO; intro b3 u hO) | (refine nm 4 rfl ?_; clear hO; intro b4 u hO) | (refine nm 5 rfl ?_; clear hO; intro b5 u hO) | (refine nm 6 rfl ?_; clear hO; intro b6 u hO) | (refine nm 7 rfl ?_; clear hO; intro b7 u hO) | (refine nm 8 rfl ?_; clear hO; intro b8 u hO) | (refine nm 9 rfl ?_; clear hO; intro b9 u hO) | (refine nm 10 rfl ?_; clear hO; intro b10 u hO) | (refine nm 11 rfl ?_; clear hO; intro b11 u hO) | (refine nm 12 rfl ?_; clear hO; intro b12 u hO) | (refine nm 13 rfl ?_; clear hO; intro b13 u hO) | (refine nm 14 rfl ?_; clear hO; intro b14 u hO) | (refine nm 15 rfl ?_; clear hO; intro b15 u hO)); simp only [zL, zK] at hO)
    | ((with_reducible refine wpl_load ?_); refine wpList_load_box rfl (by (first | rfl | (simp only [Region.wanted, yielded, *]; go_simp; done) | (simp [Region.wanted, yielded, *]; done) | fail)) hO rfl _ (by (first | exact at0 | exact at1 | exact at2 | exact at3 | exact at4 | exact at5 | exact at6 | exact at7 | exact at8 | exact at9 | exact at10 | exact at11 | exact at12 | exact at13 | exact at14 | exact at15)) (by rfl) (by simp only [Act.put, zA, zB, zC]; rfl) ?_)
    | ((with_reducible refine wpl_load ?_); refine wpList_load_field rfl (by (first | rfl | (simp only [Region.wanted, yielded, *]; go_simp; done) | (simp [Region.wanted, yielded, *]; done) | fail)) hO rfl _ (by (first | exact at0 | exact at1 | exact at2 | exact at3 | exact at4 | exact at5 | exact at6 | exact at7 | exact at8 | exact at9 | exact at10 | exact at11 | exact at12 | exact at13 | exact at14 | exact at15)) (by rfl) (by simp only [Act.put, zA, zB, zC]; rfl) ?_)
    | ((with_reducible refine wpl_store ?_); refine wpList_store_box rfl (by rfl) hO rfl _ (by (first | exact at0 | exact at1 | exact at2 | exact at3 | exact at4 | exact at5 | exact at6 | exact at7 | exact at8 | exact at9 | exact at10 | exact at11 | exact at12 | exact at13 | exact at14 | exact at15)) rfl (by rfl) (by rfl) (by rfl) (by rfl) (by rfl) ?_; clear hO; intro u hO; simp only [zC, zB] at hO)
    | ((with_reducible refine wpl_store ?_); refine wpList_store_field rfl (by rfl) hO rfl _ (by (first | exact at0 | exact at1 | exact at2 | exact at3 | exact at4 | exact at5 | exact at6 | exact at7 | exact at8 | exact at9 | exact at10 | exact at11 | exact at12 | exact at13 | exact at14 | exact at15)) (zM rfl) (by simp only [Act.eval, zJ, zF, zD, zE, zP]; rfl) (by rfl) (by rfl) (by rfl) ?_; clear hO; intro u hO; simp only [zC, zB] at hO)
    | fail)
  refine (CT1 _ hO.below).mono ?_
  rintro e u ⟨P2, p2, rfl, hb⟩
  replace hO := hO.call hb
  clear hb
  simp only [zK, zL] at hO
  go_wp2_with (first
    | ((with_reducible refine wpl_alloc ?_); refine wpList_alloc_own rfl (by rfl) hO rfl (fun b => by simp only [Act.put, zA, zB, zC]; rfl) ?_; (first | (refine nm 0 rfl ?_; clear hO; intro b0 u hO) | (refine nm 1 rfl ?_; clear hO; intro b1 u hO) | (refine nm 2 rfl ?_; clear hO; intro b2 u hO) | (refine nm 3 rfl ?_; clear hO; intro b3 u hO) | (refine nm 4 rfl ?_; clear hO; intro b4 u hO) | (refine nm 5 rfl ?_; clear hO; intro b5 u hO) | (refine nm 6 rfl ?_; clear hO; intro b6 u hO) | (refine nm 7 rfl ?_; clear hO; intro b7 u hO) | (refine nm 8 rfl ?_; clear hO; intro b8 u hO) | (refine nm 9 rfl ?_; clear hO; intro b9 u hO) | (refine nm 10 rfl ?_; clear hO; intro b10 u hO) | (refine nm 11 rfl ?_; clear hO; intro b11 u hO) | (refine nm 12 rfl ?_; clear hO; intro b12 u hO) | (refine nm 13 rfl ?_; clear hO; intro b13 u hO) | (refine nm 14 rfl ?_; clear hO; intro b14 u hO) | (refine nm 15 rfl ?_; clear hO; intro b15 u hO)); simp only [zL, zK] at hO)
    | ((with_reducible refine wpl_box ?_); refine wpList_box_own rfl (by rfl) hO rfl rfl (fun b => by simp only [Act.put, zA, zB, zC]; rfl) ?_; (first | (refine nm 0 rfl ?_; clear hO; intro b0 u hO) | (refine nm 1 rfl ?_; clear hO; intro b1 u hO) | (refine nm 2 rfl ?_; clear hO; intro b2 u hO) | (refine nm 3 rfl ?_; clear hO; intro b3 u hO) | (refine nm 4 rfl ?_; clear hO; intro b4 u hO) | (refine nm 5 rfl ?_; clear hO; intro b5 u hO) | (refine nm 6 rfl ?_; clear hO; intro b6 u hO) | (refine nm 7 rfl ?_; clear hO; intro b7 u hO) | (refine nm 8 rfl ?_; clear hO; intro b8 u hO) | (refine nm 9 rfl ?_; clear hO; intro b9 u hO) | (refine nm 10 rfl ?_; clear hO; intro b10 u hO) | (refine nm 11 rfl ?_; clear hO; intro b11 u hO) | (refine nm 12 rfl ?_; clear hO; intro b12 u hO) | (refine nm 13 rfl ?_; clear hO; intro b13 u hO) | (refine nm 14 rfl ?_; clear hO; intro b14 u hO) | (refine nm 15 rfl ?_; clear hO; intro b15 u hO)); simp only [zL, zK] at hO)
    | ((with_reducible refine wpl_load ?_); refine wpList_load_box rfl (by (first | rfl | (simp only [Region.wanted, yielded, *]; go_simp; done) | (simp [Region.wanted, yielded, *]; done) | fail)) hO rfl _ (by (first | exact at0 | exact at1 | exact at2 | exact at3 | exact at4 | exact at5 | exact at6 | exact at7 | exact at8 | exact at9 | exact at10 | exact at11 | exact at12 | exact at13 | exact at14 | exact at15)) (by rfl) (by simp only [Act.put, zA, zB, zC]; rfl) ?_)
    | ((with_reducible refine wpl_load ?_); refine wpList_load_field rfl (by (first | rfl | (simp only [Region.wanted, yielded, *]; go_simp; done) | (simp [Region.wanted, yielded, *]; done) | fail)) hO rfl _ (by (first | exact at0 | exact at1 | exact at2 | exact at3 | exact at4 | exact at5 | exact at6 | exact at7 | exact at8 | exact at9 | exact at10 | exact at11 | exact at12 | exact at13 | exact at14 | exact at15)) (by rfl) (by simp only [Act.put, zA, zB, zC]; rfl) ?_)
    | ((with_reducible refine wpl_store ?_); refine wpList_store_box rfl (by rfl) hO rfl _ (by (first | exact at0 | exact at1 | exact at2 | exact at3 | exact at4 | exact at5 | exact at6 | exact at7 | exact at8 | exact at9 | exact at10 | exact at11 | exact at12 | exact at13 | exact at14 | exact at15)) rfl (by rfl) (by rfl) (by rfl) (by rfl) (by rfl) ?_; clear hO; intro u hO; simp only [zC, zB] at hO)
    | ((with_reducible refine wpl_store ?_); refine wpList_store_field rfl (by rfl) hO rfl _ (by (first | exact at0 | exact at1 | exact at2 | exact at3 | exact at4 | exact at5 | exact at6 | exact at7 | exact at8 | exact at9 | exact at10 | exact at11 | exact at12 | exact at13 | exact at14 | exact at15)) (zM rfl) (by simp only [Act.eval, zJ, zF, zD, zE, zP]; rfl) (by rfl) (by rfl) (by rfl) ?_; clear hO; intro u hO; simp only [zC, zB] at hO)
    | fail)
  refine (CS _ _ _ _ _ _  (hO.rdl 1 2 rfl rfl hvo1) (hO.row_sl 0 rfl)).mono ?_
  rintro e u ⟨Q31, Q32, Q33, Q34, Q35, m31, m32, m33, m34, m35, W3, rfl, hvo3, hb⟩
  replace hO := hO.call hb
  clear hb
  simp only [List.cons_append, List.nil_append] at hO
  go_wp2_with (first
    | ((with_reducible refine wpl_alloc ?_); refine wpList_alloc_own rfl (by rfl) hO rfl (fun b => by simp only [Act.put, zA, zB, zC]; rfl) ?_; (refine nm 4 rfl ?_; clear hO; intro b4 u hO); simp only [zL, zK] at hO)
    | ((with_reducible refine wpl_store ?_); refine wpList_store_box rfl (by rfl) hO rfl _ (by exact at4) rfl (by rfl) (by rfl) (by rfl) (by rfl) (by rfl) ?_; clear hO; intro u hO; simp only [zC, zB] at hO)
    | fail)
  replace hO := hO.pick [0, 4] (by decide)
  simp only [zN, zO, zE, zD] at hO
  refine (CT0 _ hO.below).mono ?_
  rintro e u ⟨P4, p4, pv4, F4, rfl, hvo4, hb⟩
  replace hO := hO.call hb
  clear hb
  simp only [zK, zL] at hO
  go_wp2_with (first
    | ((with_reducible refine wpl_alloc ?_); refine wpList_alloc_own rfl (by rfl) hO rfl (fun b => by simp only [Act.put, zA, zB, zC]; rfl) ?_; (first | (refine nm 0 rfl ?_; clear hO; intro b0 u hO) | (refine nm 1 rfl ?_; clear hO; intro b1 u hO) | (refine nm 2 rfl ?_; clear hO; intro b2 u hO) | (refine nm 3 rfl ?_; clear hO; intro b3 u hO) | (refine nm 4 rfl ?_; clear hO; intro b4 u hO) | (refine nm 5 rfl ?_; clear hO; intro b5 u hO) | (refine nm 6 rfl ?_; clear hO; intro b6 u hO) | (refine nm 7 rfl ?_; clear hO; intro b7 u hO) | (refine nm 8 rfl ?_; clear hO; intro b8 u hO) | (refine nm 9 rfl ?_; clear hO; intro b9 u hO) | (refine nm 10 rfl ?_; clear hO; intro b10 u hO) | (refine nm 11 rfl ?_; clear hO; intro b11 u hO) | (refine nm 12 rfl ?_; clear hO; intro b12 u hO) | (refine nm 13 rfl ?_; clear hO; intro b13 u hO) | (refine nm 14 rfl ?_; clear hO; intro b14 u hO) | (refine nm 15 rfl ?_; clear hO; intro b15 u hO)); simp only [zL, zK] at hO)
    | ((with_reducible refine wpl_box ?_); refine wpList_box_own rfl (by rfl) hO rfl rfl (fun b => by simp only [Act.put, zA, zB, zC]; rfl) ?_; (first | (refine nm 0 rfl ?_; clear hO; intro b0 u hO) | (refine nm 1 rfl ?_; clear hO; intro b1 u hO) | (refine nm 2 rfl ?_; clear hO; intro b2 u hO) | (refine nm 3 rfl ?_; clear hO; intro b3 u hO) | (refine nm 4 rfl ?_; clear hO; intro b4 u hO) | (refine nm 5 rfl ?_; clear hO; intro b5 u hO) | (refine nm 6 rfl ?_; clear hO; intro b6 u hO) | (refine nm 7 rfl ?_; clear hO; intro b7 u hO) | (refine nm 8 rfl ?_; clear hO; intro b8 u hO) | (refine nm 9 rfl ?_; clear hO; intro b9 u hO) | (refine nm 10 rfl ?_; clear hO; intro b10 u hO) | (refine nm 11 rfl ?_; clear hO; intro b11 u hO) | (refine nm 12 rfl ?_; clear hO; intro b12 u hO) | (refine nm 13 rfl ?_; clear hO; intro b13 u hO) | (refine nm 14 rfl ?_; clear hO; intro b14 u hO) | (refine nm 15 rfl ?_; clear hO; intro b15 u hO)); simp only [zL, zK] at hO)
    | ((with_reducible refine wpl_load ?_); refine wpList_load_box rfl (by (first | rfl | (simp only [Region.wanted, yielded, *]; go_simp; done) | (simp [Region.wanted, yielded, *]; done) | fail)) hO rfl _ (by (first | exact at0 | exact at1 | exact at2 | exact at3 | exact at4 | exact at5 | exact at6 | exact at7 | exact at8 | exact at9 | exact at10 | exact at11 | exact at12 | exact at13 | exact at14 | exact at15)) (by rfl) (by simp only [Act.put, zA, zB, zC]; rfl) ?_)
    | ((with_reducible refine wpl_load ?_); refine wpList_load_field rfl (by (first | rfl | (simp only [Region.wanted, yielded, *]; go_simp; done) | (simp [Region.wanted, yielded, *]; done) | fail)) hO rfl _ (by (first | exact at0 | exact at1 | exact at2 | exact at3 | exact at4 | exact at5 | exact at6 | exact at7 | exact at8 | exact at9 | exact at10 | exact at11 | exact at12 | exact at13 | exact at14 | exact at15)) (by rfl) (by simp only [Act.put, zA, zB, zC]; rfl) ?_)
    | ((with_reducible refine wpl_store ?_); refine wpList_store_box rfl (by rfl) hO rfl _ (by (first | exact at0 | exact at1 | exact at2 | exact at3 | exact at4 | exact at5 | exact at6 | exact at7 | exact at8 | exact at9 | exact at10 | exact at11 | exact at12 | exact at13 | exact at14 | exact at15)) rfl (by rfl) (by rfl) (by rfl) (by rfl) (by rfl) ?_; clear hO; intro u hO; simp only [zC, zB] at hO)
    | ((with_reducible refine wpl_store ?_); refine wpList_store_field rfl (by rfl) hO rfl _ (by (first | exact at0 | exact at1 | exact at2 | exact at3 | exact at4 | exact at5 | exact at6 | exact at7 | exact at8 | exact at9 | exact at10 | exact at11 | exact at12 | exact at13 | exact at14 | exact at15)) (zM rfl) (by simp only [Act.eval, zJ, zF, zD, zE, zP]; rfl) (by rfl) (by rfl) (by rfl) ?_; clear hO; intro u hO; simp only [zC, zB] at hO)
    | fail)
  refine (CT1 _ hO.below).mono ?_
  rintro e u ⟨P5, p5, rfl, hb⟩
  replace hO := hO.call hb
  clear hb
  simp only [zK, zL] at hO
  go_wp2_with (first
    | ((with_reducible refine wpl_alloc ?_); refine wpList_alloc_own rfl (by rfl) hO rfl (fun b => by simp only [Act.put, zA, zB, zC]; rfl) ?_; (first | (refine nm 0 rfl ?_; clear hO; intro b0 u hO) | (refine nm 1 rfl ?_; clear hO; intro b1 u hO) | (refine nm 2 rfl ?_; clear hO; intro b2 u hO) | (refine nm 3 rfl ?_; clear hO; intro b3 u hO) | (refine nm 4 rfl ?_; clear hO; intro b4 u hO) | (refine nm 5 rfl ?_; clear hO; intro b5 u hO) | (refine nm 6 rfl ?_; clear hO; intro b6 u hO) | (refine nm 7 rfl ?_; clear hO; intro b7 u hO) | (refine nm 8 rfl ?_; clear hO; intro b8 u hO) | (refine nm 9 rfl ?_; clear hO; intro b9 u hO) | (refine nm 10 rfl ?_; clear hO; intro b10 u hO) | (refine nm 11 rfl ?_; clear hO; intro b11 u hO) | (refine nm 12 rfl ?_; clear hO; intro b12 u hO) | (refine nm 13 rfl ?_; clear hO; intro b13 u hO) | (refine nm 14 rfl ?_; clear hO; intro b14 u hO) | (refine nm 15 rfl ?_; clear hO; intro b15 u hO)); simp only [zL, zK] at hO)
    | ((with_reducible refine wpl_box ?_); refine wpList_box_own rfl (by rfl) hO rfl rfl (fun b => by simp only [Act.put, zA, zB, zC]; rfl) ?_; (first | (refine nm 0 rfl ?_; clear hO; intro b0 u hO) | (refine nm 1 rfl ?_; clear hO; intro b1 u hO) | (refine nm 2 rfl ?_; clear hO; intro b2 u hO) | (refine nm 3 rfl ?_; clear hO; intro b3 u hO) | (refine nm 4 rfl ?_; clear hO; intro b4 u hO) | (refine nm 5 rfl ?_; clear hO; intro b5 u hO) | (refine nm 6 rfl ?_; clear hO; intro b6 u hO) | (refine nm 7 rfl ?_; clear hO; intro b7 u hO) | (refine nm 8 rfl ?_; clear hO; intro b8 u hO) | (refine nm 9 rfl ?_; clear hO; intro b9 u hO) | (refine nm 10 rfl ?_; clear hO; intro b10 u hO) | (refine nm 11 rfl ?_; clear hO; intro b11 u hO) | (refine nm 12 rfl ?_; clear hO; intro b12 u hO) | (refine nm 13 rfl ?_; clear hO; intro b13 u hO) | (refine nm 14 rfl ?_; clear hO; intro b14 u hO) | (refine nm 15 rfl ?_; clear hO; intro b15 u hO)); simp only [zL, zK] at hO)
    | ((with_reducible refine wpl_load ?_); refine wpList_load_box rfl (by (first | rfl | (simp only [Region.wanted, yielded, *]; go_simp; done) | (simp [Region.wanted, yielded, *]; done) | fail)) hO rfl _ (by (first | exact at0 | exact at1 | exact at2 | exact at3 | exact at4 | exact at5 | exact at6 | exact at7 | exact at8 | exact at9 | exact at10 | exact at11 | exact at12 | exact at13 | exact at14 | exact at15)) (by rfl) (by simp only [Act.put, zA, zB, zC]; rfl) ?_)
    | ((with_reducible refine wpl_load ?_); refine wpList_load_field rfl (by (first | rfl | (simp only [Region.wanted, yielded, *]; go_simp; done) | (simp [Region.wanted, yielded, *]; done) | fail)) hO rfl _ (by (first | exact at0 | exact at1 | exact at2 | exact at3 | exact at4 | exact at5 | exact at6 | exact at7 | exact at8 | exact at9 | exact at10 | exact at11 | exact at12 | exact at13 | exact at14 | exact at15)) (by rfl) (by simp only [Act.put, zA, zB, zC]; rfl) ?_)
    | ((with_reducible refine wpl_store ?_); refine wpList_store_box rfl (by rfl) hO rfl _ (by (first | exact at0 | exact at1 | exact at2 | exact at3 | exact at4 | exact at5 | exact at6 | exact at7 | exact at8 | exact at9 | exact at10 | exact at11 | exact at12 | exact at13 | exact at14 | exact at15)) rfl (by rfl) (by rfl) (by rfl) (by rfl) (by rfl) ?_; clear hO; intro u hO; simp only [zC, zB] at hO)
    | ((with_reducible refine wpl_store ?_); refine wpList_store_field rfl (by rfl) hO rfl _ (by (first | exact at0 | exact at1 | exact at2 | exact at3 | exact at4 | exact at5 | exact at6 | exact at7 | exact at8 | exact at9 | exact at10 | exact at11 | exact at12 | exact at13 | exact at14 | exact at15)) (zM rfl) (by simp only [Act.eval, zJ, zF, zD, zE, zP]; rfl) (by rfl) (by rfl) (by rfl) ?_; clear hO; intro u hO; simp only [zC, zB] at hO)
    | fail)
  refine (CI _ _ _ _ _ _  (hO.rdl 1 2 rfl rfl hvo4) (hO.row_sl 0 rfl)).mono ?_
  rintro e u ⟨Q61, Q62, Q63, Q64, Q65, m61, m62, m63, m64, m65, W6, rfl, hvo6, hb⟩
  replace hO := hO.call hb
  clear hb
  simp only [List.cons_append, List.nil_append] at hO
  go_wp2_with (first
    | ((with_reducible refine wpl_alloc ?_); refine wpList_alloc_own rfl (by rfl) hO rfl (fun b => by simp only [Act.put, zA, zB, zC]; rfl) ?_; (refine nm 6 rfl ?_; clear hO; intro b6 u hO); simp only [zL, zK] at hO)
    | ((with_reducible refine wpl_load ?_); refine wpList_load_box rfl (by rfl) hO rfl _ (by (first | exact at5 | exact at6 | fail)) (by rfl) (by simp only [Act.put, zA, zB, zC]; rfl) ?_)
    | ((with_reducible refine wpl_store ?_); refine wpList_store_box rfl (by rfl) hO rfl _ (by exact at6) rfl (by rfl) (by rfl) (by rfl) (by rfl) (by rfl) ?_; clear hO; intro u hO; simp only [zC, zB] at hO)
    | fail)
  refine (CEr _ _ _ (hO.rdp 0 rfl hvo6) (hO.rdp 4 rfl hvo3)).mono ?_
  rintro e u ⟨rfl, hb⟩
  (replace hO := hO.step hb; clear hb)
  go_wp2_with (first
    | ((with_reducible refine wpl_alloc ?_); refine wpList_alloc_own rfl (by rfl) hO rfl (fun b => by simp only [Act.put, zA, zB, zC]; rfl) ?_; (first | (refine nm 0 rfl ?_; clear hO; intro b0 u hO) | (refine nm 1 rfl ?_; clear hO; intro b1 u hO) | (refine nm 2 rfl ?_; clear hO; intro b2 u hO) | (refine nm 3 rfl ?_; clear hO; intro b3 u hO) | (refine nm 4 rfl ?_; clear hO; intro b4 u hO) | (refine nm 5 rfl ?_; clear hO; intro b5 u hO) | (refine nm 6 rfl ?_; clear hO; intro b6 u hO) | (refine nm 7 rfl ?_; clear hO; intro b7 u hO) | (refine nm 8 rfl ?_; clear hO; intro b8 u hO) | (refine nm 9 rfl ?_; clear hO; intro b9 u hO) | (refine nm 10 rfl ?_; clear hO; intro b10 u hO) | (refine nm 11 rfl ?_; clear hO; intro b11 u hO) | (refine nm 12 rfl ?_; clear hO; intro b12 u hO) | (refine nm 13 rfl ?_; clear hO; intro b13 u hO) | (refine nm 14 rfl ?_; clear hO; intro b14 u hO) | (refine nm 15 rfl ?_; clear hO; intro b15 u hO)); simp only [zL, zK] at hO)
    | ((with_reducible refine wpl_box ?_); refine wpList_box_own rfl (by rfl) hO rfl rfl (fun b => by simp only [Act.put, zA, zB, zC]; rfl) ?_; (first | (refine nm 0 rfl ?_; clear hO; intro b0 u hO) | (refine nm 1 rfl ?_; clear hO; intro b1 u hO) | (refine nm 2 rfl ?_; clear hO; intro b2 u hO) | (refine nm 3 rfl ?_; clear hO; intro b3 u hO) | (refine nm 4 rfl ?_; clear hO; intro b4 u hO) | (refine nm 5 rfl ?_; clear hO; intro b5 u hO) | (refine nm 6 rfl ?_; clear hO; intro b6 u hO) | (refine nm 7 rfl ?_; clear hO; intro b7 u hO) | (refine nm 8 rfl ?_; clear hO; intro b8 u hO) | (refine nm 9 rfl ?_; clear hO; intro b9 u hO) | (refine nm 10 rfl ?_; clear hO; intro b10 u hO) | (refine nm 11 rfl ?_; clear hO; intro b11 u hO) | (refine nm 12 rfl ?_; clear hO; intro b12 u hO) | (refine nm 13 rfl ?_; clear hO; intro b13 u hO) | (refine nm 14 rfl ?_; clear hO; intro b14 u hO) | (refine nm 15 rfl ?_; clear hO; intro b15 u hO)); simp only [zL, zK] at hO)
    | ((with_reducible refine wpl_load ?_); refine wpList_load_box rfl (by (first | rfl | (simp only [Region.wanted, yielded, *]; go_simp; done) | (simp [Region.wanted, yielded, *]; done) | fail)) hO rfl _ (by (first | exact at0 | exact at1 | exact at2 | exact at3 | exact at4 | exact at5 | exact at6 | exact at7 | exact at8 | exact at9 | exact at10 | exact at11 | exact at12 | exact at13 | exact at14 | exact at15)) (by rfl) (by simp only [Act.put, zA, zB, zC]; rfl) ?_)
    | ((with_reducible refine wpl_load ?_); refine wpList_load_field rfl (by (first | rfl | (simp only [Region.wanted, yielded, *]; go_simp; done) | (simp [Region.wanted, yielded, *]; done) | fail)) hO rfl _ (by (first | exact at0 | exact at1 | exact at2 | exact at3 | exact at4 | exact at5 | exact at6 | exact at7 | exact at8 | exact at9 | exact at10 | exact at11 | exact at12 | exact at13 | exact at14 | exact at15)) (by rfl) (by simp only [Act.put, zA, zB, zC]; rfl) ?_)
    | ((with_reducible refine wpl_store ?_); refine wpList_store_box rfl (by rfl) hO rfl _ (by (first | exact at0 | exact at1 | exact at2 | exact at3 | exact at4 | exact at5 | exact at6 | exact at7 | exact at8 | exact at9 | exact at10 | exact at11 | exact at12 | exact at13 | exact at14 | exact at15)) rfl (by rfl) (by rfl) (by rfl) (by rfl) (by rfl) ?_; clear hO; intro u hO; simp only [zC, zB] at hO)
    | ((with_reducible refine wpl_store ?_); refine wpList_store_field rfl (by rfl) hO rfl _ (by (first | exact at0 | exact at1 | exact at2 | exact at3 | exact at4 | exact at5 | exact at6 | exact at7 | exact at8 | exact at9 | exact at10 | exact at11 | exact at12 | exact at13 | exact at14 | exact at15)) (zM rfl) (by simp only [Act.eval, zJ, zF, zD, zE, zP]; rfl) (by rfl) (by rfl) (by rfl) ?_; clear hO; intro u hO; simp only [zC, zB] at hO)
    | fail)
  refine (CT0 _ hO.below).mono ?_
  rintro e u ⟨P7, p7, pv7, F7, rfl, hvo7, hb⟩
  replace hO := hO.call hb
  clear hb
  simp only [zK, zL] at hO
  go_wp2_with (first
    | ((with_reducible refine wpl_alloc ?_); refine wpList_alloc_own rfl (by rfl) hO rfl (fun b => by simp only [Act.put, zA, zB, zC]; rfl) ?_; (first | (refine nm 0 rfl ?_; clear hO; intro b0 u hO) | (refine nm 1 rfl ?_; clear hO; intro b1 u hO) | (refine nm 2 rfl ?_; clear hO; intro b2 u hO) | (refine nm 3 rfl ?_; clear hO; intro b3 u hO) | (refine nm 4 rfl ?_; clear hO; intro b4 u hO) | (refine nm 5 rfl ?_; clear hO; intro b5 u hO) | (refine nm 6 rfl ?_; clear hO; intro b6 u hO) | (refine nm 7 rfl ?_; clear hO; intro b7 u hO) | (refine nm 8 rfl ?_; clear hO; intro b8 u hO) | (refine nm 9 rfl ?_; clear hO; intro b9 u hO) | (refine nm 10 rfl ?_; clear hO; intro b10 u hO) | (refine nm 11 rfl ?_; clear hO; intro b11 u hO) | (refine nm 12 rfl ?_; clear hO; intro b12 u hO) | (refine nm 13 rfl ?_; clear hO; intro b13 u hO) | (refine nm 14 rfl ?_; clear hO; intro b14 u hO) | (refine nm 15 rfl ?_; clear hO; intro b15 u hO)); simp only [zL, zK] at hO)
    | ((with_reducible refine wpl_box ?_); refine wpList_box_own rfl (by rfl) hO rfl rfl (fun b => by simp only [Act.put, zA, zB, zC]; rfl) ?_; (first | (refine nm 0 rfl ?_; clear hO; intro b0 u hO) | (refine nm 1 rfl ?_; clear hO; intro b1 u hO) | (refine nm 2 rfl ?_; clear hO; intro b2 u hO) | (refine nm 3 rfl ?_; clear hO; intro b3 u hO) | (refine nm 4 rfl ?_; clear hO; intro b4 u hO) | (refine nm 5 rfl ?_; clear hO; intro b5 u hO) | (refine nm 6 rfl ?_; clear hO; intro b6 u hO) | (refine nm 7 rfl ?_; clear hO; intro b7 u hO) | (refine nm 8 rfl ?_; clear hO; intro b8 u hO) | (refine nm 9 rfl ?_; clear hO; intro b9 u hO) | (refine nm 10 rfl ?_; clear hO; intro b10 u hO) | (refine nm 11 rfl ?_; clear hO; intro b11 u hO) | (refine nm 12 rfl ?_; clear hO; intro b12 u hO) | (refine nm 13 rfl ?_; clear hO; intro b13 u hO) | (refine nm 14 rfl ?_; clear hO; intro b14 u hO) | (refine nm 15 rfl ?_; clear hO; intro b15 u hO)); simp only [zL, zK] at hO)
    | ((with_reducible refine wpl_load ?_); refine wpList_load_box rfl (by (first | rfl | (simp only [Region.wanted, yielded, *]; go_simp; done) | (simp [Region.wanted, yielded, *]; done) | fail)) hO rfl _ (by (first | exact at0 | exact at1 | exact at2 | exact at3 | exact at4 | exact at5 | exact at6 | exact at7 | exact at8 | exact at9 | exact at10 | exact at11 | exact at12 | exact at13 | exact at14 | exact at15)) (by rfl) (by simp only [Act.put, zA, zB, zC]; rfl) ?_)
    | ((with_reducible refine wpl_load ?_); refine wpList_load_field rfl (by (first | rfl | (simp only [Region.wanted, yielded, *]; go_simp; done) | (simp [Region.wanted, yielded, *]; done) | fail)) hO rfl _ (by (first | exact at0 | exact at1 | exact at2 | exact at3 | exact at4 | exact at5 | exact at6 | exact at7 | exact at8 | exact at9 | exact at10 | exact at11 | exact at12 | exact at13 | exact at14 | exact at15)) (by rfl) (by simp only [Act.put, zA, zB, zC]; rfl) ?_)
    | ((with_reducible refine wpl_store ?_); refine wpList_store_box rfl (by rfl) hO rfl _ (by (first | exact at0 | exact at1 | exact at2 | exact at3 | exact at4 | exact at5 | exact at6 | exact at7 | exact at8 | exact at9 | exact at10 | exact at11 | exact at12 | exact at13 | exact at14 | exact at15)) rfl (by rfl) (by rfl) (by rfl) (by rfl) (by rfl) ?_; clear hO; intro u hO; simp only [zC, zB] at hO)
    | ((with_reducible refine wpl_store ?_); refine wpList_store_field rfl (by rfl) hO rfl _ (by (first | exact at0 | exact at1 | exact at2 | exact at3 | exact at4 | exact at5 | exact at6 | exact at7 | exact at8 | exact at9 | exact at10 | exact at11 | exact at12 | exact at13 | exact at14 | exact at15)) (zM rfl) (by simp only [Act.eval, zJ, zF, zD, zE, zP]; rfl) (by rfl) (by rfl) (by rfl) ?_; clear hO; intro u hO; simp only [zC, zB] at hO)
    | fail)
  refine (CE0 _ _ _ _ _ _ _  (hO.rdl 4 5 rfl rfl hvo4) (hO.rdl 0 1 rfl rfl hvo7)).mono ?_
  rintro e u ⟨rfl, hb⟩
  (replace hO := hO.step hb; clear hb)
  go_wp2_with (first
    | ((with_reducible refine wpl_alloc ?_); refine wpList_alloc_own rfl (by rfl) hO rfl (fun b => by simp only [Act.put, zA, zB, zC]; rfl) ?_; (first | (refine nm 0 rfl ?_; clear hO; intro b0 u hO) | (refine nm 1 rfl ?_; clear hO; intro b1 u hO) | (refine nm 2 rfl ?_; clear hO; intro b2 u hO) | (refine nm 3 rfl ?_; clear hO; intro b3 u hO) | (refine nm 4 rfl ?_; clear hO; intro b4 u hO) | (refine nm 5 rfl ?_; clear hO; intro b5 u hO) | (refine nm 6 rfl ?_; clear hO; intro b6 u hO) | (refine nm 7 rfl ?_; clear hO; intro b7 u hO) | (refine nm 8 rfl ?_; clear hO; intro b8 u hO) | (refine nm 9 rfl ?_; clear hO; intro b9 u hO) | (refine nm 10 rfl ?_; clear hO; intro b10 u hO) | (refine nm 11 rfl ?_; clear hO; intro b11 u hO) | (refine nm 12 rfl ?_; clear hO; intro b12 u hO) | (refine nm 13 rfl ?_; clear hO; intro b13 u hO) | (refine nm 14 rfl ?_; clear hO; intro b14 u hO) | (refine nm 15 rfl ?_; clear hO; intro b15 u hO)); simp only [zL, zK] at hO)
    | ((with_reducible refine wpl_box ?_); refine wpList_box_own rfl (by rfl) hO rfl rfl (fun b => by simp only [Act.put, zA, zB, zC]; rfl) ?_; (first | (refine nm 0 rfl ?_; clear hO; intro b0 u hO) | (refine nm 1 rfl ?_; clear hO; intro b1 u hO) | (refine nm 2 rfl ?_; clear hO; intro b2 u hO) | (refine nm 3 rfl ?_; clear hO; intro b3 u hO) | (refine nm 4 rfl ?_; clear hO; intro b4 u hO) | (refine nm 5 rfl ?_; clear hO; intro b5 u hO) | (refine nm 6 rfl ?_; clear hO; intro b6 u hO) | (refine nm 7 rfl ?_; clear hO; intro b7 u hO) | (refine nm 8 rfl ?_; clear hO; intro b8 u hO) | (refine nm 9 rfl ?_; clear hO; intro b9 u hO) | (refine nm 10 rfl ?_; clear hO; intro b10 u hO) | (refine nm 11 rfl ?_; clear hO; intro b11 u hO) | (refine nm 12 rfl ?_; clear hO; intro b12 u hO) | (refine nm 13 rfl ?_; clear hO; intro b13 u hO) | (refine nm 14 rfl ?_; clear hO; intro b14 u hO) | (refine nm 15 rfl ?_; clear hO; intro b15 u hO)); simp only [zL, zK] at hO)
    | ((with_reducible refine wpl_load ?_); refine wpList_load_box rfl (by (first | rfl | (simp only [Region.wanted, yielded, *]; go_simp; done) | (simp [Region.wanted, yielded, *]; done) | fail)) hO rfl _ (by (first | exact at0 | exact at1 | exact at2 | exact at3 | exact at4 | exact at5 | exact at6 | exact at7 | exact at8 | exact at9 | exact at10 | exact at11 | exact at12 | exact at13 | exact at14 | exact at15)) (by rfl) (by simp only [Act.put, zA, zB, zC]; rfl) ?_)
    | ((with_reducible refine wpl_load ?_); refine wpList_load_field rfl (by (first | rfl | (simp only [Region.wanted, yielded, *]; go_simp; done) | (simp [Region.wanted, yielded, *]; done) | fail)) hO rfl _ (by (first | exact at0 | exact at1 | exact at2 | exact at3 | exact at4 | exact at5 | exact at6 | exact at7 | exact at8 | exact at9 | exact at10 | exact at11 | exact at12 | exact at13 | exact at14 | exact at15)) (by rfl) (by simp only [Act.put, zA, zB, zC]; rfl) ?_)
    | ((with_reducible refine wpl_store ?_); refine wpList_store_box rfl (by rfl) hO rfl _ (by (first | exact at0 | exact at1 | exact at2 | exact at3 | exact at4 | exact at5 | exact at6 | exact at7 | exact at8 | exact at9 | exact at10 | exact at11 | exact at12 | exact at13 | exact at14 | exact at15)) rfl (by rfl) (by rfl) (by rfl) (by rfl) (by rfl) ?_; clear hO; intro u hO; simp only [zC, zB] at hO)
    | ((with_reducible refine wpl_store ?_); refine wpList_store_field rfl (by rfl) hO rfl _ (by (first | exact at0 | exact at1 | exact at2 | exact at3 | exact at4 | exact at5 | exact at6 | exact at7 | exact at8 | exact at9 | exact at10 | exact at11 | exact at12 | exact at13 | exact at14 | exact at15)) (zM rfl) (by simp only [Act.eval, zJ, zF, zD, zE, zP]; rfl) (by rfl) (by rfl) (by rfl) ?_; clear hO; intro u hO; simp only [zC, zB] at hO)
    | fail)
  replace hO := hO.pick [2, 3, 4, 5, 6, 7, 8] (by decide)
  simp only [zN, zO, zE, zD] at hO
  refine (CT1 _ hO.below).mono ?_
  rintro e u ⟨P8, p8, rfl, hb⟩
  replace hO := hO.call hb
  clear hb
  simp only [zK, zL] at hO
  go_wp2_with (first
    | ((with_reducible refine wpl_alloc ?_); refine wpList_alloc_own rfl (by rfl) hO rfl (fun b => by simp only [Act.put, zA, zB, zC]; rfl) ?_; (first | (refine nm 0 rfl ?_; clear hO; intro b0 u hO) | (refine nm 1 rfl ?_; clear hO; intro b1 u hO) | (refine nm 2 rfl ?_; clear hO; intro b2 u hO) | (refine nm 3 rfl ?_; clear hO; intro b3 u hO) | (refine nm 4 rfl ?_; clear hO; intro b4 u hO) | (refine nm 5 rfl ?_; clear hO; intro b5 u hO) | (refine nm 6 rfl ?_; clear hO; intro b6 u hO) | (refine nm 7 rfl ?_; clear hO; intro b7 u hO) | (refine nm 8 rfl ?_; clear hO; intro b8 u hO) | (refine nm 9 rfl ?_; clear hO; intro b9 u hO) | (refine nm 10 rfl ?_; clear hO; intro b10 u hO) | (refine nm 11 rfl ?_; clear hO; intro b11 u hO) | (refine nm 12 rfl ?_; clear hO; intro b12 u hO) | (refine nm 13 rfl ?_; clear hO; intro b13 u hO) | (refine nm 14 rfl ?_; clear hO; intro b14 u hO) | (refine nm 15 rfl ?_; clear hO; intro b15 u hO)); simp only [zL, zK] at hO)
    | ((with_reducible refine wpl_box ?_); refine wpList_box_own rfl (by rfl) hO rfl rfl (fun b => by simp only [Act.put, zA, zB, zC]; rfl) ?_; (first | (refine nm 0 rfl ?_; clear hO; intro b0 u hO) | (refine nm 1 rfl ?_; clear hO; intro b1 u hO) | (refine nm 2 rfl ?_; clear hO; intro b2 u hO) | (refine nm 3 rfl ?_; clear hO; intro b3 u hO) | (refine nm 4 rfl ?_; clear hO; intro b4 u hO) | (refine nm 5 rfl ?_; clear hO; intro b5 u hO) | (refine nm 6 rfl ?_; clear hO; intro b6 u hO) | (refine nm 7 rfl ?_; clear hO; intro b7 u hO) | (refine nm 8 rfl ?_; clear hO; intro b8 u hO) | (refine nm 9 rfl ?_; clear hO; intro b9 u hO) | (refine nm 10 rfl ?_; clear hO; intro b10 u hO) | (refine nm 11 rfl ?_; clear hO; intro b11 u hO) | (refine nm 12 rfl ?_; clear hO; intro b12 u hO) | (refine nm 13 rfl ?_; clear hO; intro b13 u hO) | (refine nm 14 rfl ?_; clear hO; intro b14 u hO) | (refine nm 15 rfl ?_; clear hO; intro b15 u hO)); simp only [zL, zK] at hO)
    | ((with_reducible refine wpl_load ?_); refine wpList_load_box rfl (by (first | rfl | (simp only [Region.wanted, yielded, *]; go_simp; done) | (simp [Region.wanted, yielded, *]; done) | fail)) hO rfl _ (by (first | exact at0 | exact at1 | exact at2 | exact at3 | exact at4 | exact at5 | exact at6 | exact at7 | exact at8 | exact at9 | exact at10 | exact at11 | exact at12 | exact at13 | exact at14 | exact at15)) (by rfl) (by simp only [Act.put, zA, zB, zC]; rfl) ?_)
    | ((with_reducible refine wpl_load ?_); refine wpList_load_field rfl (by (first | rfl | (simp only [Region.wanted, yielded, *]; go_simp; done) | (simp [Region.wanted, yielded, *]; done) | fail)) hO rfl _ (by (first | exact at0 | exact at1 | exact at2 | exact at3 | exact at4 | exact at5 | exact at6 | exact at7 | exact at8 | exact at9 | exact at10 | exact at11 | exact at12 | exact at13 | exact at14 | exact at15)) (by rfl) (by simp only [Act.put, zA, zB, zC]; rfl) ?_)
    | ((with_reducible refine wpl_store ?_); refine wpList_store_box rfl (by rfl) hO rfl _ (by (first | exact at0 | exact at1 | exact at2 | exact at3 | exact at4 | exact at5 | exact at6 | exact at7 | exact at8 | exact at9 | exact at10 | exact at11 | exact at12 | exact at13 | exact at14 | exact at15)) rfl (by rfl) (by rfl) (by rfl) (by rfl) (by rfl) ?_; clear hO; intro u hO; simp only [zC, zB] at hO)
    | ((with_reducible refine wpl_store ?_); refine wpList_store_field rfl (by rfl) hO rfl _ (by (first | exact at0 | exact at1 | exact at2 | exact at3 | exact at4 | exact at5 | exact at6 | exact at7 | exact at8 | exact at9 | exact at10 | exact at11 | exact at12 | exact at13 | exact at14 | exact at15)) (zM rfl) (by simp only [Act.eval, zJ, zF, zD, zE, zP]; rfl) (by rfl) (by rfl) (by rfl) ?_; clear hO; intro u hO; simp only [zC, zB] at hO)
    | fail)
  refine (CE1 _ _ _ _ _  (hO.row_sl 2 rfl) (hO.row_sl 0 rfl)).mono ?_
  rintro e u ⟨rfl, hb⟩
  (replace hO := hO.step hb; clear hb)
  go_wp2_with (first
    | ((with_reducible refine wpl_alloc ?_); refine wpList_alloc_own rfl (by rfl) hO rfl (fun b => by simp only [Act.put, zA, zB, zC]; rfl) ?_; (first | (refine nm 0 rfl ?_; clear hO; intro b0 u hO) | (refine nm 1 rfl ?_; clear hO; intro b1 u hO) | (refine nm 2 rfl ?_; clear hO; intro b2 u hO) | (refine nm 3 rfl ?_; clear hO; intro b3 u hO) | (refine nm 4 rfl ?_; clear hO; intro b4 u hO) | (refine nm 5 rfl ?_; clear hO; intro b5 u hO) | (refine nm 6 rfl ?_; clear hO; intro b6 u hO) | (refine nm 7 rfl ?_; clear hO; intro b7 u hO) | (refine nm 8 rfl ?_; clear hO; intro b8 u hO) | (refine nm 9 rfl ?_; clear hO; intro b9 u hO) | (refine nm 10 rfl ?_; clear hO; intro b10 u hO) | (refine nm 11 rfl ?_; clear hO; intro b11 u hO) | (refine nm 12 rfl ?_; clear hO; intro b12 u hO) | (refine nm 13 rfl ?_; clear hO; intro b13 u hO) | (refine nm 14 rfl ?_; clear hO; intro b14 u hO) | (refine nm 15 rfl ?_; clear hO; intro b15 u hO)); simp only [zL, zK] at hO)
    | ((with_reducible refine wpl_box ?_); refine wpList_box_own rfl (by rfl) hO rfl rfl (fun b => by simp only [Act.put, zA, zB, zC]; rfl) ?_; (first | (refine nm 0 rfl ?_; clear hO; intro b0 u hO) | (refine nm 1 rfl ?_; clear hO; intro b1 u hO) | (refine nm 2 rfl ?_; clear hO; intro b2 u hO) | (refine nm 3 rfl ?_; clear hO; intro b3 u hO) | (refine nm 4 rfl ?_; clear hO; intro b4 u hO) | (refine nm 5 rfl ?_; clear hO; intro b5 u hO) | (refine nm 6 rfl ?_; clear hO; intro b6 u hO) | (refine nm 7 rfl ?_; clear hO; intro b7 u hO) | (refine nm 8 rfl ?_; clear hO; intro b8 u hO) | (refine nm 9 rfl ?_; clear hO; intro b9 u hO) | (refine nm 10 rfl ?_; clear hO; intro b10 u hO) | (refine nm 11 rfl ?_; clear hO; intro b11 u hO) | (refine nm 12 rfl ?_; clear hO; intro b12 u hO) | (refine nm 13 rfl ?_; clear hO; intro b13 u hO) | (refine nm 14 rfl ?_; clear hO; intro b14 u hO) | (refine nm 15 rfl ?_; clear hO; intro b15 u hO)); simp only [zL, zK] at hO)
    | ((with_reducible refine wpl_load ?_); refine wpList_load_box rfl (by (first | rfl | (simp only [Region.wanted, yielded, *]; go_simp; done) | (simp [Region.wanted, yielded, *]; done) | fail)) hO rfl _ (by (first | exact at0 | exact at1 | exact at2 | exact at3 | exact at4 | exact at5 | exact at6 | exact at7 | exact at8 | exact at9 | exact at10 | exact at11 | exact at12 | exact at13 | exact at14 | exact at15)) (by rfl) (by simp only [Act.put, zA, zB, zC]; rfl) ?_)
    | ((with_reducible refine wpl_load ?_); refine wpList_load_field rfl (by (first | rfl | (simp only [Region.wanted, yielded, *]; go_simp; done) | (simp [Region.wanted, yielded, *]; done) | fail)) hO rfl _ (by (first | exact at0 | exact at1 | exact at2 | exact at3 | exact at4 | exact at5 | exact at6 | exact at7 | exact at8 | exact at9 | exact at10 | exact at11 | exact at12 | exact at13 | exact at14 | exact at15)) (by rfl) (by simp only [Act.put, zA, zB, zC]; rfl) ?_)
    | ((with_reducible refine wpl_store ?_); refine wpList_store_box rfl (by rfl) hO rfl _ (by (first | exact at0 | exact at1 | exact at2 | exact at3 | exact at4 | exact at5 | exact at6 | exact at7 | exact at8 | exact at9 | exact at10 | exact at11 | exact at12 | exact at13 | exact at14 | exact at15)) rfl (by rfl) (by rfl) (by rfl) (by rfl) (by rfl) ?_; clear hO; intro u hO; simp only [zC, zB] at hO)
    | ((with_reducible refine wpl_store ?_); refine wpList_store_field rfl (by rfl) hO rfl _ (by (first | exact at0 | exact at1 | exact at2 | exact at3 | exact at4 | exact at5 | exact at6 | exact at7 | exact at8 | exact at9 | exact at10 | exact at11 | exact at12 | exact at13 | exact at14 | exact at15)) (zM rfl) (by simp only [Act.eval, zJ, zF, zD, zE, zP]; rfl) (by rfl) (by rfl) (by rfl) ?_; clear hO; intro u hO; simp only [zC, zB] at hO)
    | fail)
  replace hO := hO.pick [1, 2, 3, 4, 5, 6, 7] (by decide)
  simp only [zN, zO, zE, zD] at hO
  replace hO := hO.pick [2, 3, 0, 1, 4, 5, 6] (by decide)
  simp only [zN, zO, zE, zD] at hO
  refine (CM0 _ _ _ _ _ _ _ hvo4 hO).mono ?_
  clear hO
  rintro e u ⟨rfl, pv9, F9', hvo9, hO⟩
  go_wp2_with (first
    | ((with_reducible refine wpl_alloc ?_); refine wpList_alloc_own rfl (by rfl) hO rfl (fun b => by simp only [Act.put, zA, zB, zC]; rfl) ?_; (first | (refine nm 0 rfl ?_; clear hO; intro b0 u hO) | (refine nm 1 rfl ?_; clear hO; intro b1 u hO) | (refine nm 2 rfl ?_; clear hO; intro b2 u hO) | (refine nm 3 rfl ?_; clear hO; intro b3 u hO) | (refine nm 4 rfl ?_; clear hO; intro b4 u hO) | (refine nm 5 rfl ?_; clear hO; intro b5 u hO) | (refine nm 6 rfl ?_; clear hO; intro b6 u hO) | (refine nm 7 rfl ?_; clear hO; intro b7 u hO) | (refine nm 8 rfl ?_; clear hO; intro b8 u hO) | (refine nm 9 rfl ?_; clear hO; intro b9 u hO) | (refine nm 10 rfl ?_; clear hO; intro b10 u hO) | (refine nm 11 rfl ?_; clear hO; intro b11 u hO) | (refine nm 12 rfl ?_; clear hO; intro b12 u hO) | (refine nm 13 rfl ?_; clear hO; intro b13 u hO) | (refine nm 14 rfl ?_; clear hO; intro b14 u hO) | (refine nm 15 rfl ?_; clear hO; intro b15 u hO)); simp only [zL, zK] at hO)
    | ((with_reducible refine wpl_box ?_); refine wpList_box_own rfl (by rfl) hO rfl rfl (fun b => by simp only [Act.put, zA, zB, zC]; rfl) ?_; (first | (refine nm 0 rfl ?_; clear hO; intro b0 u hO) | (refine nm 1 rfl ?_; clear hO; intro b1 u hO) | (refine nm 2 rfl ?_; clear hO; intro b2 u hO) | (refine nm 3 rfl ?_; clear hO; intro b3 u hO) | (refine nm 4 rfl ?_; clear hO; intro b4 u hO) | (refine nm 5 rfl ?_; clear hO; intro b5 u hO) | (refine nm 6 rfl ?_; clear hO; intro b6 u hO) | (refine nm 7 rfl ?_; clear hO; intro b7 u hO) | (refine nm 8 rfl ?_; clear hO; intro b8 u hO) | (refine nm 9 rfl ?_; clear hO; intro b9 u hO) | (refine nm 10 rfl ?_; clear hO; intro b10 u hO) | (refine nm 11 rfl ?_; clear hO; intro b11 u hO) | (refine nm 12 rfl ?_; clear hO; intro b12 u hO) | (refine nm 13 rfl ?_; clear hO; intro b13 u hO) | (refine nm 14 rfl ?_; clear hO; intro b14 u hO) | (refine nm 15 rfl ?_; clear hO; intro b15 u hO)); simp only [zL, zK] at hO)
    | ((with_reducible refine wpl_load ?_); refine wpList_load_box rfl (by (first | rfl | (simp only [Region.wanted, yielded, *]; go_simp; done) | (simp [Region.wanted, yielded, *]; done) | fail)) hO rfl _ (by (first | exact at0 | exact at1 | exact at2 | exact at3 | exact at4 | exact at5 | exact at6 | exact at7 | exact at8 | exact at9 | exact at10 | exact at11 | exact at12 | exact at13 | exact at14 | exact at15)) (by rfl) (by simp only [Act.put, zA, zB, zC]; rfl) ?_)
    | ((with_reducible refine wpl_load ?_); refine wpList_load_field rfl (by (first | rfl | (simp only [Region.wanted, yielded, *]; go_simp; done) | (simp [Region.wanted, yielded, *]; done) | fail)) hO rfl _ (by (first | exact at0 | exact at1 | exact at2 | exact at3 | exact at4 | exact at5 | exact at6 | exact at7 | exact at8 | exact at9 | exact at10 | exact at11 | exact at12 | exact at13 | exact at14 | exact at15)) (by rfl) (by simp only [Act.put, zA, zB, zC]; rfl) ?_)
    | ((with_reducible refine wpl_store ?_); refine wpList_store_box rfl (by rfl) hO rfl _ (by (first | exact at0 | exact at1 | exact at2 | exact at3 | exact at4 | exact at5 | exact at6 | exact at7 | exact at8 | exact at9 | exact at10 | exact at11 | exact at12 | exact at13 | exact at14 | exact at15)) rfl (by rfl) (by rfl) (by rfl) (by rfl) (by rfl) ?_; clear hO; intro u hO; simp only [zC, zB] at hO)
    | ((with_reducible refine wpl_store ?_); refine wpList_store_field rfl (by rfl) hO rfl _ (by (first | exact at0 | exact at1 | exact at2 | exact at3 | exact at4 | exact at5 | exact at6 | exact at7 | exact at8 | exact at9 | exact at10 | exact at11 | exact at12 | exact at13 | exact at14 | exact at15)) (zM rfl) (by simp only [Act.eval, zJ, zF, zD, zE, zP]; rfl) (by rfl) (by rfl) (by rfl) ?_; clear hO; intro u hO; simp only [zC, zB] at hO)
    | fail)
  replace hO := hO.pick [3, 0, 1, 2, 4, 5, 6] (by decide)
  simp only [zN, zO, zE, zD] at hO
  refine (CM1 _ _ _ _ _ hO).mono ?_
  clear hO
  rintro e u ⟨rfl, hO⟩
  go_wp2_with (first
    | ((with_reducible refine wpl_load ?_); refine wpList_load_box rfl (by rfl) hO rfl _ (by (first | exact at5 | exact at6 | fail)) (by rfl) (by simp only [Act.put, zA, zB, zC]; rfl) ?_)
    | fail)
  refine (CEr _ _ _ (hO.rdp 3 rfl hvo6) (hO.rdp 4 rfl hvo3)).mono ?_
  rintro e u ⟨rfl, hb⟩
  (replace hO := hO.step hb; clear hb)
  go_wp2_with (first
    | ((with_reducible refine wpl_load ?_); refine wpList_load_box rfl (by rfl) hO rfl _ (by exact at6) (by rfl) (by simp only [Act.put, zA, zB, zC]; rfl) ?_)
    | fail)
  replace hO := hO.pick [3, 0, 1, 2, 4, 5, 6] (by decide)
  simp only [zN, zO, zE, zD] at hO
  refine (CMr _ _ _ _ _ hvo6 hO).mono ?_
  clear hO
  rintro e u ⟨rfl, F11', hvo11, hO⟩
  go_wp2_with (first
    | ((with_reducible refine wpl_load ?_); refine wpList_load_box rfl (by rfl) hO rfl _ (by exact at6) (by rfl) (by simp only [Act.put, zA, zB, zC]; rfl) ?_)
    | fail)
  refine (CHr _ _ (hO.rdp 0 rfl hvo11)).mono ?_
  rintro e u ⟨rfl, hb⟩
  (replace hO := hO.step hb; clear hb)
  go_wp2_with (first
    | ((with_reducible refine wpl_alloc ?_); refine wpList_alloc_own rfl (by rfl) hO rfl (fun b => by simp only [Act.put, zA, zB, zC]; rfl) ?_; (first | (refine nm 0 rfl ?_; clear hO; intro b0 u hO) | (refine nm 1 rfl ?_; clear hO; intro b1 u hO) | (refine nm 2 rfl ?_; clear hO; intro b2 u hO) | (refine nm 3 rfl ?_; clear hO; intro b3 u hO) | (refine nm 4 rfl ?_; clear hO; intro b4 u hO) | (refine nm 5 rfl ?_; clear hO; intro b5 u hO) | (refine nm 6 rfl ?_; clear hO; intro b6 u hO) | (refine nm 7 rfl ?_; clear hO; intro b7 u hO) | (refine nm 8 rfl ?_; clear hO; intro b8 u hO) | (refine nm 9 rfl ?_; clear hO; intro b9 u hO) | (refine nm 10 rfl ?_; clear hO; intro b10 u hO) | (refine nm 11 rfl ?_; clear hO; intro b11 u hO) | (refine nm 12 rfl ?_; clear hO; intro b12 u hO) | (refine nm 13 rfl ?_; clear hO; intro b13 u hO) | (refine nm 14 rfl ?_; clear hO; intro b14 u hO) | (refine nm 15 rfl ?_; clear hO; intro b15 u hO)); simp only [zL, zK] at hO)
    | ((with_reducible refine wpl_box ?_); refine wpList_box_own rfl (by rfl) hO rfl rfl (fun b => by simp only [Act.put, zA, zB, zC]; rfl) ?_; (first | (refine nm 0 rfl ?_; clear hO; intro b0 u hO) | (refine nm 1 rfl ?_; clear hO; intro b1 u hO) | (refine nm 2 rfl ?_; clear hO; intro b2 u hO) | (refine nm 3 rfl ?_; clear hO; intro b3 u hO) | (refine nm 4 rfl ?_; clear hO; intro b4 u hO) | (refine nm 5 rfl ?_; clear hO; intro b5 u hO) | (refine nm 6 rfl ?_; clear hO; intro b6 u hO) | (refine nm 7 rfl ?_; clear hO; intro b7 u hO) | (refine nm 8 rfl ?_; clear hO; intro b8 u hO) | (refine nm 9 rfl ?_; clear hO; intro b9 u hO) | (refine nm 10 rfl ?_; clear hO; intro b10 u hO) | (refine nm 11 rfl ?_; clear hO; intro b11 u hO) | (refine nm 12 rfl ?_; clear hO; intro b12 u hO) | (refine nm 13 rfl ?_; clear hO; intro b13 u hO) | (refine nm 14 rfl ?_; clear hO; intro b14 u hO) | (refine nm 15 rfl ?_; clear hO; intro b15 u hO)); simp only [zL, zK] at hO)
    | ((with_reducible refine wpl_load ?_); refine wpList_load_box rfl (by (first | rfl | (simp only [Region.wanted, yielded, *]; go_simp; done) | (simp [Region.wanted, yielded, *]; done) | fail)) hO rfl _ (by (first | exact at0 | exact at1 | exact at2 | exact at3 | exact at4 | exact at5 | exact at6 | exact at7 | exact at8 | exact at9 | exact at10 | exact at11 | exact at12 | exact at13 | exact at14 | exact at15)) (by rfl) (by simp only [Act.put, zA, zB, zC]; rfl) ?_)
    | ((with_reducible refine wpl_load ?_); refine wpList_load_field rfl (by (first | rfl | (simp only [Region.wanted, yielded, *]; go_simp; done) | (simp [Region.wanted, yielded, *]; done) | fail)) hO rfl _ (by (first | exact at0 | exact at1 | exact at2 | exact at3 | exact at4 | exact at5 | exact at6 | exact at7 | exact at8 | exact at9 | exact at10 | exact at11 | exact at12 | exact at13 | exact at14 | exact at15)) (by rfl) (by simp only [Act.put, zA, zB, zC]; rfl) ?_)
    | ((with_reducible refine wpl_store ?_); refine wpList_store_box rfl (by rfl) hO rfl _ (by (first | exact at0 | exact at1 | exact at2 | exact at3 | exact at4 | exact at5 | exact at6 | exact at7 | exact at8 | exact at9 | exact at10 | exact at11 | exact at12 | exact at13 | exact at14 | exact at15)) rfl (by rfl) (by rfl) (by rfl) (by rfl) (by rfl) ?_; clear hO; intro u hO; simp only [zC, zB] at hO)
    | ((with_reducible refine wpl_store ?_); refine wpList_store_field rfl (by rfl) hO rfl _ (by (first | exact at0 | exact at1 | exact at2 | exact at3 | exact at4 | exact at5 | exact at6 | exact at7 | exact at8 | exact at9 | exact at10 | exact at11 | exact at12 | exact at13 | exact at14 | exact at15)) (zM rfl) (by simp only [Act.eval, zJ, zF, zD, zE, zP]; rfl) (by rfl) (by rfl) (by rfl) ?_; clear hO; intro u hO; simp only [zC, zB] at hO)
    | fail)
  refine (CT0 _ hO.below).mono ?_
  rintro e u ⟨P12, p12, pv12, F12, rfl, hvo12, hb⟩
  replace hO := hO.call hb
  clear hb
  simp only [zK, zL] at hO
  go_wp2_with (first
    | ((with_reducible refine wpl_alloc ?_); refine wpList_alloc_own rfl (by rfl) hO rfl (fun b => by simp only [Act.put, zA, zB, zC]; rfl) ?_; (first | (refine nm 0 rfl ?_; clear hO; intro b0 u hO) | (refine nm 1 rfl ?_; clear hO; intro b1 u hO) | (refine nm 2 rfl ?_; clear hO; intro b2 u hO) | (refine nm 3 rfl ?_; clear hO; intro b3 u hO) | (refine nm 4 rfl ?_; clear hO; intro b4 u hO) | (refine nm 5 rfl ?_; clear hO; intro b5 u hO) | (refine nm 6 rfl ?_; clear hO; intro b6 u hO) | (refine nm 7 rfl ?_; clear hO; intro b7 u hO) | (refine nm 8 rfl ?_; clear hO; intro b8 u hO) | (refine nm 9 rfl ?_; clear hO; intro b9 u hO) | (refine nm 10 rfl ?_; clear hO; intro b10 u hO) | (refine nm 11 rfl ?_; clear hO; intro b11 u hO) | (refine nm 12 rfl ?_; clear hO; intro b12 u hO) | (refine nm 13 rfl ?_; clear hO; intro b13 u hO) | (refine nm 14 rfl ?_; clear hO; intro b14 u hO) | (refine nm 15 rfl ?_; clear hO; intro b15 u hO)); simp only [zL, zK] at hO)
    | ((with_reducible refine wpl_box ?_); refine wpList_box_own rfl (by rfl) hO rfl rfl (fun b => by simp only [Act.put, zA, zB, zC]; rfl) ?_; (first | (refine nm 0 rfl ?_; clear hO; intro b0 u hO) | (refine nm 1 rfl ?_; clear hO; intro b1 u hO) | (refine nm 2 rfl ?_; clear hO; intro b2 u hO) | (refine nm 3 rfl ?_; clear hO; intro b3 u hO) | (refine nm 4 rfl ?_; clear hO; intro b4 u hO) | (refine nm 5 rfl ?_; clear hO; intro b5 u hO) | (refine nm 6 rfl ?_; clear hO; intro b6 u hO) | (refine nm 7 rfl ?_; clear hO; intro b7 u hO) | (refine nm 8 rfl ?_; clear hO; intro b8 u hO) | (refine nm 9 rfl ?_; clear hO; intro b9 u hO) | (refine nm 10 rfl ?_; clear hO; intro b10 u hO) | (refine nm 11 rfl ?_; clear hO; intro b11 u hO) | (refine nm 12 rfl ?_; clear hO; intro b12 u hO) | (refine nm 13 rfl ?_; clear hO; intro b13 u hO) | (refine nm 14 rfl ?_; clear hO; intro b14 u hO) | (refine nm 15 rfl ?_; clear hO; intro b15 u hO)); simp only [zL, zK] at hO)
    | ((with_reducible refine wpl_load ?_); refine wpList_load_box rfl (by (first | rfl | (simp only [Region.wanted, yielded, *]; go_simp; done) | (simp [Region.wanted, yielded, *]; done) | fail)) hO rfl _ (by (first | exact at0 | exact at1 | exact at2 | exact at3 | exact at4 | exact at5 | exact at6 | exact at7 | exact at8 | exact at9 | exact at10 | exact at11 | exact at12 | exact at13 | exact at14 | exact at15)) (by rfl) (by simp only [Act.put, zA, zB, zC]; rfl) ?_)
    | ((with_reducible refine wpl_load ?_); refine wpList_load_field rfl (by (first | rfl | (simp only [Region.wanted, yielded, *]; go_simp; done) | (simp [Region.wanted, yielded, *]; done) | fail)) hO rfl _ (by (first | exact at0 | exact at1 | exact at2 | exact at3 | exact at4 | exact at5 | exact at6 | exact at7 | exact at8 | exact at9 | exact at10 | exact at11 | exact at12 | exact at13 | exact at14 | exact at15)) (by rfl) (by simp only [Act.put, zA, zB, zC]; rfl) ?_)
    | ((with_reducible refine wpl_store ?_); refine wpList_store_box rfl (by rfl) hO rfl _ (by (first | exact at0 | exact at1 | exact at2 | exact at3 | exact at4 | exact at5 | exact at6 | exact at7 | exact at8 | exact at9 | exact at10 | exact at11 | exact at12 | exact at13 | exact at14 | exact at15)) rfl (by rfl) (by rfl) (by rfl) (by rfl) (by rfl) ?_; clear hO; intro u hO; simp only [zC, zB] at hO)
    | ((with_reducible refine wpl_store ?_); refine wpList_store_field rfl (by rfl) hO rfl _ (by (first | exact at0 | exact at1 | exact at2 | exact at3 | exact at4 | exact at5 | exact at6 | exact at7 | exact at8 | exact at9 | exact at10 | exact at11 | exact at12 | exact at13 | exact at14 | exact at15)) (zM rfl) (by simp only [Act.eval, zJ, zF, zD, zE, zP]; rfl) (by rfl) (by rfl) (by rfl) ?_; clear hO; intro u hO; simp only [zC, zB] at hO)
    | fail)
  refine (CT1 _ hO.below).mono ?_
  rintro e u ⟨P13, p13, rfl, hb⟩
  replace hO := hO.call hb
  clear hb
  simp only [zK, zL] at hO
  go_wp2_with (first
    | ((with_reducible refine wpl_alloc ?_); refine wpList_alloc_own rfl (by rfl) hO rfl (fun b => by simp only [Act.put, zA, zB, zC]; rfl) ?_; (first | (refine nm 0 rfl ?_; clear hO; intro b0 u hO) | (refine nm 1 rfl ?_; clear hO; intro b1 u hO) | (refine nm 2 rfl ?_; clear hO; intro b2 u hO) | (refine nm 3 rfl ?_; clear hO; intro b3 u hO) | (refine nm 4 rfl ?_; clear hO; intro b4 u hO) | (refine nm 5 rfl ?_; clear hO; intro b5 u hO) | (refine nm 6 rfl ?_; clear hO; intro b6 u hO) | (refine nm 7 rfl ?_; clear hO; intro b7 u hO) | (refine nm 8 rfl ?_; clear hO; intro b8 u hO) | (refine nm 9 rfl ?_; clear hO; intro b9 u hO) | (refine nm 10 rfl ?_; clear hO; intro b10 u hO) | (refine nm 11 rfl ?_; clear hO; intro b11 u hO) | (refine nm 12 rfl ?_; clear hO; intro b12 u hO) | (refine nm 13 rfl ?_; clear hO; intro b13 u hO) | (refine nm 14 rfl ?_; clear hO; intro b14 u hO) | (refine nm 15 rfl ?_; clear hO; intro b15 u hO)); simp only [zL, zK] at hO)
    | ((with_reducible refine wpl_box ?_); refine wpList_box_own rfl (by rfl) hO rfl rfl (fun b => by simp only [Act.put, zA, zB, zC]; rfl) ?_; (first | (refine nm 0 rfl ?_; clear hO; intro b0 u hO) | (refine nm 1 rfl ?_; clear hO; intro b1 u hO) | (refine nm 2 rfl ?_; clear hO; intro b2 u hO) | (refine nm 3 rfl ?_; clear hO; intro b3 u hO) | (refine nm 4 rfl ?_; clear hO; intro b4 u hO) | (refine nm 5 rfl ?_; clear hO; intro b5 u hO) | (refine nm 6 rfl ?_; clear hO; intro b6 u hO) | (refine nm 7 rfl ?_; clear hO; intro b7 u hO) | (refine nm 8 rfl ?_; clear hO; intro b8 u hO) | (refine nm 9 rfl ?_; clear hO; intro b9 u hO) | (refine nm 10 rfl ?_; clear hO; intro b10 u hO) | (refine nm 11 rfl ?_; clear hO; intro b11 u hO) | (refine nm 12 rfl ?_; clear hO; intro b12 u hO) | (refine nm 13 rfl ?_; clear hO; intro b13 u hO) | (refine nm 14 rfl ?_; clear hO; intro b14 u hO) | (refine nm 15 rfl ?_; clear hO; intro b15 u hO)); simp only [zL, zK] at hO)
    | ((with_reducible refine wpl_load ?_); refine wpList_load_box rfl (by (first | rfl | (simp only [Region.wanted, yielded, *]; go_simp; done) | (simp [Region.wanted, yielded, *]; done) | fail)) hO rfl _ (by (first | exact at0 | exact at1 | exact at2 | exact at3 | exact at4 | exact at5 | exact at6 | exact at7 | exact at8 | exact at9 | exact at10 | exact at11 | exact at12 | exact at13 | exact at14 | exact at15)) (by rfl) (by simp only [Act.put, zA, zB, zC]; rfl) ?_)
    | ((with_reducible refine wpl_load ?_); refine wpList_load_field rfl (by (first | rfl | (simp only [Region.wanted, yielded, *]; go_simp; done) | (simp [Region.wanted, yielded, *]; done) | fail)) hO rfl _ (by (first | exact at0 | exact at1 | exact at2 | exact at3 | exact at4 | exact at5 | exact at6 | exact at7 | exact at8 | exact at9 | exact at10 | exact at11 | exact at12 | exact at13 | exact at14 | exact at15)) (by rfl) (by simp only [Act.put, zA, zB, zC]; rfl) ?_)
    | ((with_reducible refine wpl_store ?_); refine wpList_store_box rfl (by rfl) hO rfl _ (by (first | exact at0 | exact at1 | exact at2 | exact at3 | exact at4 | exact at5 | exact at6 | exact at7 | exact at8 | exact at9 | exact at10 | exact at11 | exact at12 | exact at13 | exact at14 | exact at15)) rfl (by rfl) (by rfl) (by rfl) (by rfl) (by rfl) ?_; clear hO; intro u hO; simp only [zC, zB] at hO)
    | ((with_reducible refine wpl_store ?_); refine wpList_store_field rfl (by rfl) hO rfl _ (by (first | exact at0 | exact at1 | exact at2 | exact at3 | exact at4 | exact at5 | exact at6 | exact at7 | exact at8 | exact at9 | exact at10 | exact at11 | exact at12 | exact at13 | exact at14 | exact at15)) (zM rfl) (by simp only [Act.eval, zJ, zF, zD, zE, zP]; rfl) (by rfl) (by rfl) (by rfl) ?_; clear hO; intro u hO; simp only [zC, zB] at hO)
    | fail)
  refine (CI _ _ _ _ _ _  (hO.rdl 1 2 rfl rfl hvo12) (hO.row_sl 0 rfl)).mono ?_
  rintro e u ⟨Q141, Q142, Q143, Q144, Q145, m141, m142, m143, m144, m145, W14, rfl, hvo14, hb⟩
  replace hO := hO.call hb
  clear hb
  simp only [List.cons_append, List.nil_append] at hO
  go_wp2_with (first
    | ((with_reducible refine wpl_alloc ?_); refine wpList_alloc_own rfl (by rfl) hO rfl (fun b => by simp only [Act.put, zA, zB, zC]; rfl) ?_; (refine nm 11 rfl ?_; clear hO; intro b11 u hO); simp only [zL, zK] at hO)
    | ((with_reducible refine wpl_load ?_); refine wpList_load_box rfl (by rfl) hO rfl _ (by (first | exact at9 | exact at11 | fail)) (by rfl) (by simp only [Act.put, zA, zB, zC]; rfl) ?_)
    | ((with_reducible refine wpl_store ?_); refine wpList_store_box rfl (by rfl) hO rfl _ (by exact at11) rfl (by rfl) (by rfl) (by rfl) (by rfl) (by rfl) ?_; clear hO; intro u hO; simp only [zC, zB] at hO)
    | fail)
  replace hO := hO.pick [0, 4, 5, 6, 7, 8, 9, 10, 11] (by decide)
  simp only [zN, zO, zE, zD] at hO
  refine (CEr _ _ _ (hO.rdp 0 rfl hvo14) (hO.rdp 5 rfl hvo3)).mono ?_
  rintro e u ⟨rfl, hb⟩
  (replace hO := hO.step hb; clear hb)
  go_wp2_with (first
    | ((with_reducible refine wpl_load ?_); refine wpList_load_box rfl (by rfl) hO rfl _ (by exact at7) (by rfl) (by simp only [Act.put, zA, zB, zC]; rfl) ?_)
    | fail)
  refine (CHr _ _ (hO.rdp 1 rfl hvo11)).mono ?_
  rintro e u ⟨rfl, hb⟩
  (replace hO := hO.step hb; clear hb)
  go_wp2_with (first
    | ((with_reducible refine wpl_alloc ?_); refine wpList_alloc_own rfl (by rfl) hO rfl (fun b => by simp only [Act.put, zA, zB, zC]; rfl) ?_; (first | (refine nm 0 rfl ?_; clear hO; intro b0 u hO) | (refine nm 1 rfl ?_; clear hO; intro b1 u hO) | (refine nm 2 rfl ?_; clear hO; intro b2 u hO) | (refine nm 3 rfl ?_; clear hO; intro b3 u hO) | (refine nm 4 rfl ?_; clear hO; intro b4 u hO) | (refine nm 5 rfl ?_; clear hO; intro b5 u hO) | (refine nm 6 rfl ?_; clear hO; intro b6 u hO) | (refine nm 7 rfl ?_; clear hO; intro b7 u hO) | (refine nm 8 rfl ?_; clear hO; intro b8 u hO) | (refine nm 9 rfl ?_; clear hO; intro b9 u hO) | (refine nm 10 rfl ?_; clear hO; intro b10 u hO) | (refine nm 11 rfl ?_; clear hO; intro b11 u hO) | (refine nm 12 rfl ?_; clear hO; intro b12 u hO) | (refine nm 13 rfl ?_; clear hO; intro b13 u hO) | (refine nm 14 rfl ?_; clear hO; intro b14 u hO) | (refine nm 15 rfl ?_; clear hO; intro b15 u hO)); simp only [zL, zK] at hO)
    | ((with_reducible refine wpl_box ?_); refine wpList_box_own rfl (by rfl) hO rfl rfl (fun b => by simp only [Act.put, zA, zB, zC]; rfl) ?_; (first | (refine nm 0 rfl ?_; clear hO; intro b0 u hO) | (refine nm 1 rfl ?_; clear hO; intro b1 u hO) | (refine nm 2 rfl ?_; clear hO; intro b2 u hO) | (refine nm 3 rfl ?_; clear hO; intro b3 u hO) | (refine nm 4 rfl ?_; clear hO; intro b4 u hO) | (refine nm 5 rfl ?_; clear hO; intro b5 u hO) | (refine nm 6 rfl ?_; clear hO; intro b6 u hO) | (refine nm 7 rfl ?_; clear hO; intro b7 u hO) | (refine nm 8 rfl ?_; clear hO; intro b8 u hO) | (refine nm 9 rfl ?_; clear hO; intro b9 u hO) | (refine nm 10 rfl ?_; clear hO; intro b10 u hO) | (refine nm 11 rfl ?_; clear hO; intro b11 u hO) | (refine nm 12 rfl ?_; clear hO; intro b12 u hO) | (refine nm 13 rfl ?_; clear hO; intro b13 u hO) | (refine nm 14 rfl ?_; clear hO; intro b14 u hO) | (refine nm 15 rfl ?_; clear hO; intro b15 u hO)); simp only [zL, zK] at hO)
    | ((with_reducible refine wpl_load ?_); refine wpList_load_box rfl (by (first | rfl | (simp only [Region.wanted, yielded, *]; go_simp; done) | (simp [Region.wanted, yielded, *]; done) | fail)) hO rfl _ (by (first | exact at0 | exact at1 | exact at2 | exact at3 | exact at4 | exact at5 | exact at6 | exact at7 | exact at8 | exact at9 | exact at10 | exact at11 | exact at12 | exact at13 | exact at14 | exact at15)) (by rfl) (by simp only [Act.put, zA, zB, zC]; rfl) ?_)
    | ((with_reducible refine wpl_load ?_); refine wpList_load_field rfl (by (first | rfl | (simp only [Region.wanted, yielded, *]; go_simp; done) | (simp [Region.wanted, yielded, *]; done) | fail)) hO rfl _ (by (first | exact at0 | exact at1 | exact at2 | exact at3 | exact at4 | exact at5 | exact at6 | exact at7 | exact at8 | exact at9 | exact at10 | exact at11 | exact at12 | exact at13 | exact at14 | exact at15)) (by rfl) (by simp only [Act.put, zA, zB, zC]; rfl) ?_)
    | ((with_reducible refine wpl_store ?_); refine wpList_store_box rfl (by rfl) hO rfl _ (by (first | exact at0 | exact at1 | exact at2 | exact at3 | exact at4 | exact at5 | exact at6 | exact at7 | exact at8 | exact at9 | exact at10 | exact at11 | exact at12 | exact at13 | exact at14 | exact at15)) rfl (by rfl) (by rfl) (by rfl) (by rfl) (by rfl) ?_; clear hO; intro u hO; simp only [zC, zB] at hO)
    | ((with_reducible refine wpl_store ?_); refine wpList_store_field rfl (by rfl) hO rfl _ (by (first | exact at0 | exact at1 | exact at2 | exact at3 | exact at4 | exact at5 | exact at6 | exact at7 | exact at8 | exact at9 | exact at10 | exact at11 | exact at12 | exact at13 | exact at14 | exact at15)) (zM rfl) (by simp only [Act.eval, zJ, zF, zD, zE, zP]; rfl) (by rfl) (by rfl) (by rfl) ?_; clear hO; intro u hO; simp only [zC, zB] at hO)
    | fail)
  go_ret
  exact ⟨rfl, hO.below⟩

end Go.Proofs.Ytmofcbpabdbjlaa
