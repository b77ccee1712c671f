/-
  What is proved: the statement on FormatVector.
  Condition: none.
-/
import Derived.Test.YtmofcbpabdbjlaaFvR
import Derived.Test.YtmofcbpabdbjlaaAt
import Derived.Test.YtmofcbpabdbjlaaJe
import Derived.Test.YtmofcbpabdbjlaaMv
import Derived.Test.YtmofcbpabdbjlaaLc
import Derived.Test.YtmofcbpabdbjlaaLd
namespace Go.Proofs.Ytmofcbpabdbjlaa
set_option maxRecDepth 8000
open Go.RowKit Go.ChangeShapes Go.WideShapes Go.Deep
set_option linter.unusedVariables false
set_option linter.unusedSimpArgs false

set_option maxRecDepth 20000 in
set_option maxHeartbeats 2000000 in
theorem fnExactFormatVector_walk (v0 : Value) (w : World) (h0 : ArgVec w v0) : Calls Try.prog 10 #[v0] w fun e w' => e = .returned (.bool true) ∧ Below w.heap.size w w' := by
  obtain ⟨vs, t, rfl, hv, hw⟩ := h0
  have CZ : ∀ u, Below w.heap.size w u → Calls Try.prog 29 #[.agg vs.toArray, .int .i64 1048576] u fun e w' => e = .returned (.int .i64 (leftI 1048576 (szV t))) ∧ Below u.heap.size u w' := fun u hb => laws_szVec t vs 1048576 u (hv.grow hb) hw (by omega)
  by_cases g : (1048576 : Int) < szV t
  · have HR := Lib.hid (left_no (lf := 1048576) g)
    rw [HR.out] at CZ
    clear HR
    obtain ⟨xk, xi, xp, xn, xc, xl, xo, xe⟩ := t
    obtain ⟨Ai, Ap, An, Ac, Al, ci, cp, cn, cc, cl, pvs, rfl, _⟩ := hv.open
    clear hv hw g
    go_enter Try.func10, Try.ntmps10
    have hO := Own.nil w
    go_wp2_with (first
      | ((with_reducible refine (CZ _ hO.below).mono ?_); rintro e u ⟨rfl, hb⟩; (replace hO := hO.step hb; clear hb))
      | ((with_reducible refine wpl_box ?_); refine wpList_box_own rfl (by rfl) hO rfl rfl (fun b => by simp only [Act.put, zA, zB, zC]; rfl) ?_; (refine nm 0 rfl ?_; clear hO; intro b0 u hO); simp only [zL, zK] at hO)
      | ((with_reducible refine wpl_load ?_); refine wpList_load_box rfl (by rfl) hO rfl _ (by exact at0) (by rfl) (by simp only [Act.put, zA, zB, zC]; rfl) ?_)
      | fail)
    go_ret
    exact ⟨rfl, hO.below⟩
  · have hz : szV t ≤ 1048576 := by omega
    have HR := Lib.hid (left_yes (lf := 1048576) g)
    rw [HR.out] at CZ
    clear HR g
    obtain ⟨z, hzz⟩ : ∃ z, szV t = z := ⟨_, rfl⟩
    rw [hzz] at CZ
    have hz2 : (0 : Int) ≤ 1048576 - z := by omega
    have HZ := Lib.hid hz
    clear hz hzz
    have CS := fun vs' u (h : RdV u t vs') => spec_fv t vs' u h HZ.out
    have CI := fun vs' u (h : RdV u t vs') => impl_fv t vs' u h HZ.out
    have CE := fun vs1 vs2 u (h : RdV u t vs1) (h' : RdV u t vs2) => laws_eqVec t vs1 vs2 u h h' HZ.out
    have CT2 := fun u (hb : Below w.heap.size w u) => laws_toVec t vs u (hv.grow hb) HZ.out
    obtain ⟨r, hr⟩ : ∃ r, fvS t = r := ⟨_, rfl⟩
    rw [hr] at CS CI
    clear hr
    obtain ⟨xk, xi, xp, xn, xc, xl, xo, xe⟩ := t
    have CT := fun u (hb : Below w.heap.size w u) => laws_toVecC xk xi xp xn xc xl xo xe vs u (hv.grow hb) HZ.out
    obtain ⟨Ai, Ap, An, Ac, Al, ci, cp, cn, cc, cl, pvs, rfl, _⟩ := hv.open
    clear hv hw
    go_enter Try.func10, Try.ntmps10
    have hO := Own.nil w
    go_wp2_with (first
      | ((with_reducible refine (CZ _ hO.below).mono ?_); rintro e u ⟨rfl, hb⟩; (replace hO := hO.step hb; clear hb))
      | ((with_reducible refine wpl_box ?_); refine wpList_box_own rfl (by rfl) hO rfl rfl (fun b => by simp only [Act.put, zA, zB, zC]; rfl) ?_; (refine nm 0 rfl ?_; clear hO; intro b0 u hO); simp only [zL, zK] at hO)
      | ((with_reducible refine wpl_load ?_); refine wpList_load_box rfl (by rfl) hO rfl _ (by exact at0) (by rfl) (by simp only [Act.put, zA, zB, zC]; rfl) ?_)
      | fail)
    clear CZ
    refine (CT _ hO.below).mono ?_
    rintro e u ⟨B1, B2, B3, B4, B5, d1, d2, d3, d4, d5, F1, rfl, hvo1, hb⟩
    replace hO := hO.call hb
    clear hb
    simp only [zK, zL] at hO
    go_wp2_with (first
      | ((with_reducible refine wpl_alloc ?_); refine wpList_alloc_own rfl (by rfl) hO rfl (fun b => by simp only [Act.put, zA, zB, zC]; rfl) ?_; (first | (refine nm 0 rfl ?_; clear hO; intro b0 u hO) | (refine nm 1 rfl ?_; clear hO; intro b1 u hO) | (refine nm 2 rfl ?_; clear hO; intro b2 u hO) | (refine nm 3 rfl ?_; clear hO; intro b3 u hO) | (refine nm 4 rfl ?_; clear hO; intro b4 u hO) | (refine nm 5 rfl ?_; clear hO; intro b5 u hO)); simp only [zL, zK] at hO)
      | ((with_reducible refine wpl_box ?_); refine wpList_box_own rfl (by rfl) hO rfl rfl (fun b => by simp only [Act.put, zA, zB, zC]; rfl) ?_; (first | (refine nm 0 rfl ?_; clear hO; intro b0 u hO) | (refine nm 1 rfl ?_; clear hO; intro b1 u hO) | (refine nm 2 rfl ?_; clear hO; intro b2 u hO) | (refine nm 3 rfl ?_; clear hO; intro b3 u hO) | (refine nm 4 rfl ?_; clear hO; intro b4 u hO) | (refine nm 5 rfl ?_; clear hO; intro b5 u hO)); simp only [zL, zK] at hO)
      | ((with_reducible refine wpl_load ?_); refine wpList_load_box rfl (by (first | rfl | (simp only [Region.wanted, yielded, *]; go_simp; done) | (simp [Region.wanted, yielded, *]; done) | fail)) hO rfl _ (by (first | exact at0 | exact at1 | exact at2 | exact at3 | exact at4 | exact at5)) (by rfl) (by simp only [Act.put, zA, zB, zC]; rfl) ?_)
      | ((with_reducible refine wpl_load ?_); refine wpList_load_field rfl (by (first | rfl | (simp only [Region.wanted, yielded, *]; go_simp; done) | (simp [Region.wanted, yielded, *]; done) | fail)) hO rfl _ (by (first | exact at0 | exact at1 | exact at2 | exact at3 | exact at4 | exact at5)) (by rfl) (by simp only [Act.put, zA, zB, zC]; rfl) ?_)
      | ((with_reducible refine wpl_store ?_); refine wpList_store_box rfl (by rfl) hO rfl _ (by (first | exact at0 | exact at1 | exact at2 | exact at3 | exact at4 | exact at5)) rfl (by rfl) (by rfl) (by rfl) (by rfl) (by rfl) ?_; clear hO; intro u hO; simp only [zC, zB] at hO)
      | ((with_reducible refine wpl_store ?_); refine wpList_store_field rfl (by rfl) hO rfl _ (by (first | exact at0 | exact at1 | exact at2 | exact at3 | exact at4 | exact at5)) (zM rfl) (by simp only [Act.eval, zJ, zF, zD, zE, zP]; rfl) (by rfl) (by rfl) (by rfl) ?_; clear hO; intro u hO; simp only [zC, zB] at hO)
      | fail)
    refine (CS _ _ (hO.rdp 0 rfl hvo1)).mono ?_
    rintro e u ⟨rfl, hb⟩
    (replace hO := hO.step hb; clear hb)
    replace hO := hO.pick [1] (by decide)
    simp only [zN, zO, zE, zD] at hO
    go_wp2_with (first
      | ((with_reducible refine wpl_load ?_); refine wpList_load_box rfl (by rfl) hO rfl _ (by exact at0) (by rfl) (by simp only [Act.put, zA, zB, zC]; rfl) ?_)
      | fail)
    refine (CT _ hO.below).mono ?_
    rintro e u ⟨C1, C2, C3, C4, C5, e1, e2, e3, e4, e5, F2, rfl, hvo2, hb⟩
    replace hO := hO.call hb
    clear hb
    simp only [zK, zL] at hO
    clear CT hvo1
    go_wp2_with (first
      | ((with_reducible refine wpl_alloc ?_); refine wpList_alloc_own rfl (by rfl) hO rfl (fun b => by simp only [Act.put, zA, zB, zC]; rfl) ?_; (refine nm 2 rfl ?_; clear hO; intro b2 u hO); simp only [zL, zK] at hO)
      | ((with_reducible refine wpl_load ?_); refine wpList_load_box rfl (by rfl) hO rfl _ (by exact at2) (by rfl) (by simp only [Act.put, zA, zB, zC]; rfl) ?_)
      | ((with_reducible refine wpl_store ?_); refine wpList_store_box rfl (by rfl) hO rfl _ (by exact at2) rfl (by rfl) (by rfl) (by rfl) (by rfl) (by rfl) ?_; clear hO; intro u hO; simp only [zC, zB] at hO)
      | fail)
    refine (CI _ _ (hO.rdp 0 rfl hvo2)).mono ?_
    rintro e u ⟨rfl, hb⟩
    (replace hO := hO.step hb; clear hb)
    go_wp2_with (first
      | ((with_reducible refine wpl_alloc ?_); refine wpList_alloc_own rfl (by rfl) hO rfl (fun b => by simp only [Act.put, zA, zB, zC]; rfl) ?_; (first | (refine nm 0 rfl ?_; clear hO; intro b0 u hO) | (refine nm 1 rfl ?_; clear hO; intro b1 u hO) | (refine nm 2 rfl ?_; clear hO; intro b2 u hO) | (refine nm 3 rfl ?_; clear hO; intro b3 u hO) | (refine nm 4 rfl ?_; clear hO; intro b4 u hO) | (refine nm 5 rfl ?_; clear hO; intro b5 u hO)); simp only [zL, zK] at hO)
      | ((with_reducible refine wpl_box ?_); refine wpList_box_own rfl (by rfl) hO rfl rfl (fun b => by simp only [Act.put, zA, zB, zC]; rfl) ?_; (first | (refine nm 0 rfl ?_; clear hO; intro b0 u hO) | (refine nm 1 rfl ?_; clear hO; intro b1 u hO) | (refine nm 2 rfl ?_; clear hO; intro b2 u hO) | (refine nm 3 rfl ?_; clear hO; intro b3 u hO) | (refine nm 4 rfl ?_; clear hO; intro b4 u hO) | (refine nm 5 rfl ?_; clear hO; intro b5 u hO)); simp only [zL, zK] at hO)
      | ((with_reducible refine wpl_load ?_); refine wpList_load_box rfl (by (first | rfl | (simp only [Region.wanted, yielded, *]; go_simp; done) | (simp [Region.wanted, yielded, *]; done) | fail)) hO rfl _ (by (first | exact at0 | exact at1 | exact at2 | exact at3 | exact at4 | exact at5)) (by rfl) (by simp only [Act.put, zA, zB, zC]; rfl) ?_)
      | ((with_reducible refine wpl_load ?_); refine wpList_load_field rfl (by (first | rfl | (simp only [Region.wanted, yielded, *]; go_simp; done) | (simp [Region.wanted, yielded, *]; done) | fail)) hO rfl _ (by (first | exact at0 | exact at1 | exact at2 | exact at3 | exact at4 | exact at5)) (by rfl) (by simp only [Act.put, zA, zB, zC]; rfl) ?_)
      | ((with_reducible refine wpl_store ?_); refine wpList_store_box rfl (by rfl) hO rfl _ (by (first | exact at0 | exact at1 | exact at2 | exact at3 | exact at4 | exact at5)) rfl (by rfl) (by rfl) (by rfl) (by rfl) (by rfl) ?_; clear hO; intro u hO; simp only [zC, zB] at hO)
      | ((with_reducible refine wpl_store ?_); refine wpList_store_field rfl (by rfl) hO rfl _ (by (first | exact at0 | exact at1 | exact at2 | exact at3 | exact at4 | exact at5)) (zM rfl) (by simp only [Act.eval, zJ, zF, zD, zE, zP]; rfl) (by rfl) (by rfl) (by rfl) ?_; clear hO; intro u hO; simp only [zC, zB] at hO)
      | fail)
    refine J.wp_region_c (n := 27) [0, 1] [2] (deps := fun i => [[], [], [1], [], []].getD i []) (fun _ _ => (J.freshV (.mk xk xi xp xn xc xl xo xe))) (r := 2) (lst := #[true, true, true, false, false]) (by kernel_rfl) (by kernel_rfl) (by kernel_rfl) rfl (by decide) (by kernel_rfl) hO ?_
    refine J.Chain.cons (by rfl) (by rfl) (fun M u hO K hK => by (exact wp_load_box hO rfl rfl _ (by exact at2) (by rfl) (by rfl) (hK _ hO))) (by simp only [J.putL, zI, zG, zH, J.dstOf, zF, zD, zE, zS, zQ, zR, Act.put, zA, zB, zC]; rfl) ?_
    refine J.Chain.cons (by rfl) (by rfl) (fun M u hO K hK => by (exact wp_load_box hO rfl rfl _ (by exact at1) (by rfl) (by rfl) (hK _ hO))) (by simp only [J.putL, zI, zG, zH, J.dstOf, zF, zD, zE, zS, zQ, zR, Act.put, zA, zB, zC]; rfl) ?_
    refine J.Chain.nil ⟨?_, ?_⟩
    · refine J.Each.cons (by rfl) ?_ ?_; exact ⟨rfl, fun vs M u hO _ K hK => by ((try simp only [J.putL, zI, zG, zH, J.dstOf, zF, zD, zE, zS, zQ, zR, Act.put, zA, zB, zC]); (try simp only [wp_at_zero, wp_at_succ]); go_step; refine (CT2 _ hO.below).mono ?_; rintro e u ⟨vs3, F3, rfl, hvo3, hb⟩; have hK' := hK _ _ _ (show (J.freshV (.mk xk xi xp xn xc xl xo xe)) _ from ⟨vs3, F3, rfl, hvo3⟩) ((hO.call hb).perm List.perm_append_comm); clear hK; simp only [J.putL, zI, zG, zH, J.dstOf, zF, zD, zE, zS, zQ, zR, Act.put, zA, zB, zC] at hK'; exact hK')⟩; exact J.Each.nil
    intro vs u hO hF
    obtain ⟨vs3, F3, h2, hvo3⟩ : (J.freshV (.mk xk xi xp xn xc xl xo xe)) (vs 2) := hF 2 (by decide)
    clear hF
    simp only [List.flatMap_cons, List.flatMap_nil, h2, List.append_nil, zL, zK] at hO
    simp only [h2, J.putL, zI, zG, zH, J.dstOf, zF, zD, zE, zS, zQ, zR, Act.put, zA, zB, zC]
    clear h2 vs
    refine J.wpAny_one (i := 3) (by kernel_rfl) (by rfl) rfl fun K hK => ?_
    simp only [wp_at_zero, wp_at_succ]
    go_step
    refine (CE _ _ _ (hO.rdp 0 rfl hvo2) (hO.rdp 3 rfl hvo3)).mono ?_
    rintro e u ⟨rfl, hb⟩
    (replace hO := hO.step hb; clear hb)
    refine hK _ _ ?_
    clear hK K
    refine J.wpAny_one (i := 4) (by kernel_rfl) (by rfl) rfl fun K hK => ?_
    simp only [wp_at_zero, wp_at_succ]
    go_step
    refine hK _ _ ?_
    clear hK K
    refine wpAny_done (by kernel_rfl) ?_ _
    go_wp2_with (first
      | ((with_reducible refine wpl_alloc ?_); refine wpList_alloc_own rfl (by rfl) hO rfl (fun b => by simp only [Act.put, zA, zB, zC]; rfl) ?_; (first | (refine nm 0 rfl ?_; clear hO; intro b0 u hO) | (refine nm 1 rfl ?_; clear hO; intro b1 u hO) | (refine nm 2 rfl ?_; clear hO; intro b2 u hO) | (refine nm 3 rfl ?_; clear hO; intro b3 u hO) | (refine nm 4 rfl ?_; clear hO; intro b4 u hO) | (refine nm 5 rfl ?_; clear hO; intro b5 u hO)); simp only [zL, zK] at hO)
      | ((with_reducible refine wpl_box ?_); refine wpList_box_own rfl (by rfl) hO rfl rfl (fun b => by simp only [Act.put, zA, zB, zC]; rfl) ?_; (first | (refine nm 0 rfl ?_; clear hO; intro b0 u hO) | (refine nm 1 rfl ?_; clear hO; intro b1 u hO) | (refine nm 2 rfl ?_; clear hO; intro b2 u hO) | (refine nm 3 rfl ?_; clear hO; intro b3 u hO) | (refine nm 4 rfl ?_; clear hO; intro b4 u hO) | (refine nm 5 rfl ?_; clear hO; intro b5 u hO)); simp only [zL, zK] at hO)
      | ((with_reducible refine wpl_load ?_); refine wpList_load_box rfl (by (first | rfl | (simp only [Region.wanted, yielded, *]; go_simp; done) | (simp [Region.wanted, yielded, *]; done) | fail)) hO rfl _ (by (first | exact at0 | exact at1 | exact at2 | exact at3 | exact at4 | exact at5)) (by rfl) (by simp only [Act.put, zA, zB, zC]; rfl) ?_)
      | ((with_reducible refine wpl_load ?_); refine wpList_load_field rfl (by (first | rfl | (simp only [Region.wanted, yielded, *]; go_simp; done) | (simp [Region.wanted, yielded, *]; done) | fail)) hO rfl _ (by (first | exact at0 | exact at1 | exact at2 | exact at3 | exact at4 | exact at5)) (by rfl) (by simp only [Act.put, zA, zB, zC]; rfl) ?_)
      | ((with_reducible refine wpl_store ?_); refine wpList_store_box rfl (by rfl) hO rfl _ (by (first | exact at0 | exact at1 | exact at2 | exact at3 | exact at4 | exact at5)) rfl (by rfl) (by rfl) (by rfl) (by rfl) (by rfl) ?_; clear hO; intro u hO; simp only [zC, zB] at hO)
      | ((with_reducible refine wpl_store ?_); refine wpList_store_field rfl (by rfl) hO rfl _ (by (first | exact at0 | exact at1 | exact at2 | exact at3 | exact at4 | exact at5)) (zM rfl) (by simp only [Act.eval, zJ, zF, zD, zE, zP]; rfl) (by rfl) (by rfl) (by rfl) ?_; clear hO; intro u hO; simp only [zC, zB] at hO)
      | fail)
    go_ret
    exact ⟨rfl, hO.below⟩

end Go.Proofs.Ytmofcbpabdbjlaa
