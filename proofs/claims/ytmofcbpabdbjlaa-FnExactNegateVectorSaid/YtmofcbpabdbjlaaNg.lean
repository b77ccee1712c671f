/-
  What is proved: what NegateVector (of the program and of the reference) returns.
  Condition: vectors of size at most 1048576.
-/
import Derived.Test.YtmofcbpabdbjlaaAr
import Derived.Test.YtmofcbpabdbjlaaAq
import Derived.Test.YtmofcbpabdbjlaaAt
import Derived.Test.YtmofcbpabdbjlaaMs
import Derived.Test.YtmofcbpabdbjlaaJe
namespace Go.Proofs.Ytmofcbpabdbjlaa
set_option maxRecDepth 8000
open Go.RowKit Go.ChangeShapes Go.WideShapes Go.Deep
set_option linter.unusedVariables false
set_option linter.unusedSimpArgs false

/-- a call hands back a fresh copy of this vector -/
def J.freshN (xk : Int) (xi : List It) (xp : List VT) (xn xc xl : List ByteArray) (xo xe : Int) : Value × List Res → Prop := fun x => ∃ (Ci Cp Cn Cc Cl : Option Addr) (ri rp rn rc rl : Nat) (F : List Res), x = (.agg #[.int .i64 xk, .slice Ci xi.length ri, .slice Cp xp.length rp, .slice Cn xn.length rn, .slice Cc xc.length rc, .slice Cl xl.length rl, .int .i64 xo, .int .i64 xe], [pack F]) ∧ VO (.mk xk xi xp xn xc xl xo xe) [.int .i64 xk, .slice Ci xi.length ri, .slice Cp xp.length rp, .slice Cn xn.length rn, .slice Cc xc.length rc, .slice Cl xl.length rl, .int .i64 xo, .int .i64 xe] F
def negS : ByteArray := ⟨#[45]⟩
def ngvT (a : VT) : VT := arT negS (nvT [0]) a
def ngvS (a : VT) : ByteArray := arS negS (nvT [0]) a
def zerT : VT := nvT [0]
theorem zer_sz : szV (nvT [0]) ≤ 1048576 := by
  have : nvT [0] = vecI 2 [nmI 0] := rfl
  rw [this]
  simp [vecI, szV, szI, szL, szS, stz, itz, nmI]
  exact Nat.le_of_ble_eq_true rfl

set_option maxRecDepth 20000 in
set_option maxHeartbeats 4000000 in
theorem impl_ngv (t : VT) (vs : List Value) (w : World) (hv : RdV w t vs) (hz : szV t ≤ 1048576) : Calls Try.prog 32 #[.agg vs.toArray] w (RetVS (ngvT t) (ngvS t) w) := by
  have CN := fun A c u (h : Sl u 1 A 1 (ints [0])) => (impl_numberVec A 1 c [0] u h (by decide) (by decide)).mono fun e' w' h => RetV.exC (xk := 2) (xi := [nmI 0]) (xp := []) (xn := []) (xc := []) (xl := []) (xo := 0) (xe := 0) h
  have CA := fun vs1 vs2 u (h1 : RdV u (nvT [0]) vs1) (h2 : RdV u t vs2) => RetVE.ofS (impl_ar negS (nvT [0]) t vs1 vs2 u h1 h2 zer_sz hz)
  have CR := fun u (hb : Below w.heap.size w u) => hv.grow hb
  rw [show arT negS (nvT [0]) t = ngvT t from rfl, show arS negS (nvT [0]) t = ngvS t from rfl] at CA
  obtain ⟨X, hX⟩ : ∃ X, ngvT t = X := ⟨_, rfl⟩
  obtain ⟨Y, hY⟩ : ∃ Y, ngvS t = Y := ⟨_, rfl⟩
  rw [hX, hY] at CA ⊢
  rw [show nvT [0] = .mk 2 [nmI 0] [] [] [] [] 0 0 from rfl] at CA
  obtain ⟨Z, hZ⟩ : ∃ Z, [nmI 0] = Z := ⟨_, rfl⟩
  rw [hZ] at CN CA
  obtain ⟨Ai, Ap, An, Ac, Al, ci, cp, cn, cc, cl, rfl⟩ := hv.ex
  clear hX hY hv hz hZ
  go_enter Try.func32, Try.ntmps32
  have hO := Own.nil w
  go_wp2_with (first
    | ((with_reducible refine wpl_alloc ?_); refine wpList_alloc_own rfl (by rfl) hO rfl (fun b => by simp only [Act.put, zA, zB, zC]; rfl) ?_; (refine nm 1 rfl ?_; clear hO; intro b1 u hO); simp only [zL, zK] at hO)
    | ((with_reducible refine wpl_box ?_); refine wpList_box_own rfl (by rfl) hO rfl rfl (fun b => by simp only [Act.put, zA, zB, zC]; rfl) ?_; (refine nm 0 rfl ?_; clear hO; intro b0 u hO); simp only [zL, zK] at hO)
    | fail)
  refine J.wp_region_c (n := 10) [2] [0, 1, 3, 4, 5] (deps := fun i => [[], [0], [], [0, 1, 2], [0, 1, 2, 3], [0, 1, 2, 3], [], []].getD i []) (fun i d => [(J.freshS 3 [.int .i64 0]), (J.freshN 2 Z [] [] [] [] 0 0), fun _ => True, (J.freshVE X (.string Y)), (J.isFst ((d 3).1)), (J.isSnd ((d 3).1)), fun _ => True, fun _ => True].getD i (fun _ => True)) (r := 2) (lst := #[true, true, true, true, true, true, false, false]) (by kernel_rfl) (by kernel_rfl) (by kernel_rfl) rfl (by decide) (by kernel_rfl) hO ?_
  refine J.Chain.cons (by rfl) (by rfl) (fun M u hO K hK => by (exact wp_load_box hO rfl rfl _ (by exact at0) (by rfl) (by rfl) (hK _ hO))) (by simp only [J.putL, zI, zG, zH, J.dstOf, zF, zD, zE, zS, zQ, zR, Act.put, zA, zB, zC]; rfl) ?_
  refine J.Chain.nil ⟨?_, ?_⟩
  · refine J.Each.cons (by rfl) ?_ ?_; exact ⟨rfl, fun vs M u hO _ K hK => by (refine wp_build_one (cs := [.int .i64 0]) hO rfl (by simp only [Act.eval, zJ, zP, J.putL, zI, zG, zH, J.dstOf, zF, zD, zE, zS, zQ, zR, Act.put, zA, zB, zC]; rfl) rfl rfl (zM rfl) rfl fun b u hO => ?_; exact hK _ _ _ (show (J.freshS 3 [.int .i64 0]) _ from ⟨b, rfl⟩) hO)⟩; refine J.Each.cons (by rfl) ?_ ?_; exact ⟨rfl, fun vs M u hO hF K hK => by ((try simp only [J.putL, zI, zG, zH, J.dstOf, zF, zD, zE, zS, zQ, zR, Act.put, zA, zB, zC]); obtain ⟨b0, e0⟩ := (hF 0 (by decide) (by decide)).1; have s0 := (hF 0 (by decide) (by decide)).2; rw [e0] at s0; have o0 := hO.sub (List.Sublist.append_left s0 _); (try simp only [wp_at_zero, wp_at_succ]); simp only [e0]; go_step; refine (CN _ _ _ (o0.box_sl 2 rfl rfl)).mono ?_; rintro e u ⟨Ci, Cp, Cn, Cc, Cl, ri, rp, rn, rc, rl, F, rfl, hvo, hb⟩; have hK' := hK _ _ _ (show (J.freshN 2 Z [] [] [] [] 0 0) _ from ⟨Ci, Cp, Cn, Cc, Cl, ri, rp, rn, rc, rl, F, rfl, hvo⟩) ((hO.call hb).perm List.perm_append_comm); clear hK; simp only [J.putL, zI, zG, zH, J.dstOf, zF, zD, zE, zS, zQ, zR, Act.put, zA, zB, zC, e0] at hK'; exact hK')⟩; refine J.Each.cons (by rfl) ?_ ?_; exact ⟨rfl, fun vs M u hO hF K hK => by ((try simp only [J.putL, zI, zG, zH, J.dstOf, zF, zD, zE, zS, zQ, zR, Act.put, zA, zB, zC]); obtain ⟨b0, e0⟩ := (hF 0 (by decide) (by decide)).1; have s0 := (hF 0 (by decide) (by decide)).2; rw [e0] at s0; have o0 := hO.sub (List.Sublist.append_left s0 _); obtain ⟨Ci, Cp, Cn, Cc, Cl, ri, rp, rn, rc, rl, F, e1, hvo⟩ := (hF 1 (by decide) (by decide)).1; have s1 := (hF 1 (by decide) (by decide)).2; rw [e1] at s1; have o1 := hO.sub (List.Sublist.append_left s1 _); (try simp only [wp_at_zero, wp_at_succ]); simp only [e0, e1]; go_step; refine (CA _ _ _ (o1.rdp 2 rfl hvo) (CR _ hO.below)).mono ?_; rintro e u ⟨Q1, Q2, Q3, Q4, Q5, m1, m2, m3, m4, m5, W, rfl, hvo2, hb⟩; have hK' := hK _ _ _ (show (J.freshVE X (.string Y)) _ from ⟨Q1, Q2, Q3, Q4, Q5, m1, m2, m3, m4, m5, W, rfl, hvo2⟩) ((hO.call hb).perm List.perm_append_comm); clear hK; simp only [J.putL, zI, zG, zH, J.dstOf, zF, zD, zE, zS, zQ, zR, Act.put, zA, zB, zC, e0, e1] at hK'; exact hK')⟩; refine J.Each.cons (by rfl) ?_ ?_; exact ⟨rfl, fun vs M u hO hF K hK => by ((try simp only [J.putL, zI, zG, zH, J.dstOf, zF, zD, zE, zS, zQ, zR, Act.put, zA, zB, zC]); obtain ⟨b0, e0⟩ := (hF 0 (by decide) (by decide)).1; obtain ⟨Ci, Cp, Cn, Cc, Cl, ri, rp, rn, rc, rl, F, e1, hvo⟩ := (hF 1 (by decide) (by decide)).1; obtain ⟨Q1, Q2, Q3, Q4, Q5, m1, m2, m3, m4, m5, W, e3, hvo2⟩ := (hF 3 (by decide) (by decide)).1; have hK' := hK (Value.agg #[.int .i64 X.kind, .slice Q1 X.items.length m1, .slice Q2 X.parts.length m2, .slice Q3 X.names.length m3, .slice Q4 X.cls.length m4, .slice Q5 X.levels.length m5, .int .i64 X.code, .int .i64 X.env]) [] u (show J.isFst ((vs 3).1) _ from by rw [e3]; exact J.isFst_of) (by rw [List.append_nil]; exact hO); clear hK hF; simp only [J.putL, zI, zG, zH, J.dstOf, zF, zD, zE, zS, zQ, zR, Act.put, zA, zB, zC, e0, e1, e3] at hK' ⊢; (try simp only [wp_at_zero, wp_at_succ]); go_step; exact hK')⟩; refine J.Each.cons (by rfl) ?_ ?_; exact ⟨rfl, fun vs M u hO hF K hK => by ((try simp only [J.putL, zI, zG, zH, J.dstOf, zF, zD, zE, zS, zQ, zR, Act.put, zA, zB, zC]); obtain ⟨b0, e0⟩ := (hF 0 (by decide) (by decide)).1; obtain ⟨Ci, Cp, Cn, Cc, Cl, ri, rp, rn, rc, rl, F, e1, hvo⟩ := (hF 1 (by decide) (by decide)).1; obtain ⟨Q1, Q2, Q3, Q4, Q5, m1, m2, m3, m4, m5, W, e3, hvo2⟩ := (hF 3 (by decide) (by decide)).1; have hK' := hK (Value.string Y) [] u (show J.isSnd ((vs 3).1) _ from by rw [e3]; exact J.isSnd_of) (by rw [List.append_nil]; exact hO); clear hK hF; simp only [J.putL, zI, zG, zH, J.dstOf, zF, zD, zE, zS, zQ, zR, Act.put, zA, zB, zC, e0, e1, e3] at hK' ⊢; (try simp only [wp_at_zero, wp_at_succ]); go_step; exact hK')⟩; exact J.Each.nil
  intro vs u hO hF
  obtain ⟨b2, h0⟩ : J.freshS _ _ (vs 0) := hF 0 (by decide)
  obtain ⟨Ci, Cp, Cn, Cc, Cl, ri, rp, rn, rc, rl, F, h1, hvo⟩ : (J.freshN 2 Z [] [] [] [] 0 0) (vs 1) := hF 1 (by decide)
  obtain ⟨Q1, Q2, Q3, Q4, Q5, m1, m2, m3, m4, m5, W, h3, hvo2⟩ : (J.freshVE X (.string Y)) (vs 3) := hF 3 (by decide)
  have q4 : J.isFst ((vs 3).1) (vs 4) := hF 4 (by decide)
  rw [h3] at q4
  have h4 := J.isFst_eq q4
  clear q4
  have q5 : J.isSnd ((vs 3).1) (vs 5) := hF 5 (by decide)
  rw [h3] at q5
  have h5 := J.isSnd_eq q5
  clear q5
  clear hF
  simp only [List.flatMap_cons, List.flatMap_nil, h0, h1, h3, h4, h5, List.append_nil, zL, zK] at hO
  simp only [h0, h1, h3, h4, h5, J.putL, zI, zG, zH, J.dstOf, zF, zD, zE, zS, zQ, zR, Act.put, zA, zB, zC]
  clear h0 h1 h3 h4 h5 vs
  refine J.wpAny_one (i := 6) (by kernel_rfl) (by rfl) rfl fun K hK => ?_
  (refine wp_store_box hO rfl rfl _ (by exact at1) rfl (by rfl) (by rfl) (by rfl) (by rfl) (by rfl) ?_; clear hO; intro u hO; simp only [zC, zB] at hO; refine hK _ _ ?_; clear hK K)
  refine J.wpAny_one (i := 7) (by kernel_rfl) (by rfl) rfl fun K hK => ?_
  simp only [wp_at_zero, wp_at_succ]
  go_step
  refine hK _ _ ?_
  clear hK K
  refine wpAny_done (by kernel_rfl) ?_ _
  go_wp2_with (first
    | ((with_reducible refine wpl_alloc ?_); refine wpList_alloc_own rfl (by rfl) hO rfl (fun b => by simp only [Act.put, zA, zB, zC]; rfl) ?_; (first | (refine nm 0 rfl ?_; clear hO; intro b0 u hO) | (refine nm 1 rfl ?_; clear hO; intro b1 u hO) | (refine nm 2 rfl ?_; clear hO; intro b2 u hO) | (refine nm 3 rfl ?_; clear hO; intro b3 u hO) | (refine nm 4 rfl ?_; clear hO; intro b4 u hO) | (refine nm 5 rfl ?_; clear hO; intro b5 u hO)); simp only [zL, zK] at hO)
    | ((with_reducible refine wpl_box ?_); refine wpList_box_own rfl (by rfl) hO rfl rfl (fun b => by simp only [Act.put, zA, zB, zC]; rfl) ?_; (first | (refine nm 0 rfl ?_; clear hO; intro b0 u hO) | (refine nm 1 rfl ?_; clear hO; intro b1 u hO) | (refine nm 2 rfl ?_; clear hO; intro b2 u hO) | (refine nm 3 rfl ?_; clear hO; intro b3 u hO) | (refine nm 4 rfl ?_; clear hO; intro b4 u hO) | (refine nm 5 rfl ?_; clear hO; intro b5 u hO)); simp only [zL, zK] at hO)
    | ((with_reducible refine wpl_load ?_); refine wpList_load_box rfl (by (first | rfl | (simp only [Region.wanted, yielded, *]; go_simp; done) | (simp [Region.wanted, yielded, *]; done) | fail)) hO rfl _ (by (first | exact at0 | exact at1 | exact at2 | exact at3 | exact at4 | exact at5)) (by rfl) (by simp only [Act.put, zA, zB, zC]; rfl) ?_)
    | ((with_reducible refine wpl_load ?_); refine wpList_load_field rfl (by (first | rfl | (simp only [Region.wanted, yielded, *]; go_simp; done) | (simp [Region.wanted, yielded, *]; done) | fail)) hO rfl _ (by (first | exact at0 | exact at1 | exact at2 | exact at3 | exact at4 | exact at5)) (by rfl) (by simp only [Act.put, zA, zB, zC]; rfl) ?_)
    | ((with_reducible refine wpl_store ?_); refine wpList_store_box rfl (by rfl) hO rfl _ (by (first | exact at0 | exact at1 | exact at2 | exact at3 | exact at4 | exact at5)) rfl (by rfl) (by rfl) (by rfl) (by rfl) (by rfl) ?_; clear hO; intro u hO; simp only [zC, zB] at hO)
    | ((with_reducible refine wpl_store ?_); refine wpList_store_field rfl (by rfl) hO rfl _ (by (first | exact at0 | exact at1 | exact at2 | exact at3 | exact at4 | exact at5)) (zM rfl) (by simp only [Act.eval, zJ, zF, zD, zE, zP]; rfl) (by rfl) (by rfl) (by rfl) ?_; clear hO; intro u hO; simp only [zC, zB] at hO)
    | fail)
  exact ret_box2 rfl hO rfl 1 at1 rfl rfl rfl ⟨_, _, rfl, hvo2, hO.pick [4] (by decide)⟩


set_option maxRecDepth 20000 in
set_option maxHeartbeats 4000000 in
theorem spec_ngv (t : VT) (vs : List Value) (w : World) (hv : RdV w t vs) (hz : szV t ≤ 1048576) : Calls Try.prog 30 #[.agg vs.toArray] w (RetVS (ngvT t) (ngvS t) w) := by
  have CN := fun A c u (h : Sl u 1 A 1 (ints [0])) => (spec_numberVec A 1 c [0] u h (by decide) (by decide)).mono fun e' w' h => RetV.exC (xk := 2) (xi := [nmI 0]) (xp := []) (xn := []) (xc := []) (xl := []) (xo := 0) (xe := 0) h
  have CA := fun vs1 vs2 u (h1 : RdV u (nvT [0]) vs1) (h2 : RdV u t vs2) => RetVE.ofS (spec_ar negS (nvT [0]) t vs1 vs2 u h1 h2 zer_sz hz)
  have CR := fun u (hb : Below w.heap.size w u) => hv.grow hb
  rw [show arT negS (nvT [0]) t = ngvT t from rfl, show arS negS (nvT [0]) t = ngvS t from rfl] at CA
  obtain ⟨X, hX⟩ : ∃ X, ngvT t = X := ⟨_, rfl⟩
  obtain ⟨Y, hY⟩ : ∃ Y, ngvS t = Y := ⟨_, rfl⟩
  rw [hX, hY] at CA ⊢
  rw [show nvT [0] = .mk 2 [nmI 0] [] [] [] [] 0 0 from rfl] at CA
  obtain ⟨Z, hZ⟩ : ∃ Z, [nmI 0] = Z := ⟨_, rfl⟩
  rw [hZ] at CN CA
  obtain ⟨Ai, Ap, An, Ac, Al, ci, cp, cn, cc, cl, rfl⟩ := hv.ex
  clear hX hY hv hz hZ
  go_enter Try.func30, Try.ntmps30
  have hO := Own.nil w
  go_wp2_with (first
    | ((with_reducible refine wpl_alloc ?_); refine wpList_alloc_own rfl (by rfl) hO rfl (fun b => by simp only [Act.put, zA, zB, zC]; rfl) ?_; (refine nm 1 rfl ?_; clear hO; intro b1 u hO); simp only [zL, zK] at hO)
    | ((with_reducible refine wpl_box ?_); refine wpList_box_own rfl (by rfl) hO rfl rfl (fun b => by simp only [Act.put, zA, zB, zC]; rfl) ?_; (refine nm 0 rfl ?_; clear hO; intro b0 u hO); simp only [zL, zK] at hO)
    | fail)
  refine J.wp_region_e (n := 15) [2] [0, 1, 3, 4, 5, 6, 7] 6 (deps := fun i => [[], [0], [], [0, 1, 2], [0, 1, 2, 3], [0, 1, 2, 3, 4], [0, 1, 2, 3, 4], [], [], []].getD i []) (fun i d => [(J.freshS 3 [.int .i64 0]), (J.freshN 2 Z [] [] [] [] 0 0), fun _ => True, (J.freshVE X (.string Y)), (fun x => x = ((d 3).1, [])), (J.isFst ((d 4).1)), (J.isSnd ((d 4).1)), J.fresh 29 [.int .i64 0, .slice none 0 0, .slice none 0 0, .slice none 0 0, .slice none 0 0, .slice none 0 0, .int .i64 0, .int .i64 0], fun _ => True, fun _ => True].getD i (fun _ => True)) (r := 2) (lst := #[true, true, true, true, true, true, true, true, false, false]) (lst2 := #[true, true, true, true, true, true, false, true, false, false]) (by kernel_rfl) (by kernel_rfl) (by kernel_rfl) (by kernel_rfl) (by kernel_rfl) rfl (by decide) (by kernel_rfl) hO ?_
  refine J.Chain.cons (by rfl) (by rfl) (fun M u hO K hK => by (exact wp_load_box hO rfl rfl _ (by exact at0) (by rfl) (by rfl) (hK _ hO))) (by simp only [J.putL, zI, zG, zH, J.dstOf, zF, zD, zE, zS, zQ, zR, Act.put, zA, zB, zC]; rfl) ?_
  refine J.Chain.nil ⟨?_, ?_, ?_⟩
  · refine J.Each.cons (by rfl) ?_ ?_; exact ⟨rfl, fun vs M u hO _ K hK => by (refine wp_build_one (cs := [.int .i64 0]) hO rfl (by simp only [Act.eval, zJ, zP, J.putL, zI, zG, zH, J.dstOf, zF, zD, zE, zS, zQ, zR, Act.put, zA, zB, zC]; rfl) rfl rfl (zM rfl) rfl fun b u hO => ?_; exact hK _ _ _ (show (J.freshS 3 [.int .i64 0]) _ from ⟨b, rfl⟩) hO)⟩; refine J.Each.cons (by rfl) ?_ ?_; exact ⟨rfl, fun vs M u hO hF K hK => by ((try simp only [J.putL, zI, zG, zH, J.dstOf, zF, zD, zE, zS, zQ, zR, Act.put, zA, zB, zC]); obtain ⟨b0, e0⟩ := (hF 0 (by decide) (by decide)).1; have s0 := (hF 0 (by decide) (by decide)).2; rw [e0] at s0; have o0 := hO.sub (List.Sublist.append_left s0 _); (try simp only [wp_at_zero, wp_at_succ]); simp only [e0]; go_step; refine (CN _ _ _ (o0.box_sl 2 rfl rfl)).mono ?_; rintro e u ⟨Ci, Cp, Cn, Cc, Cl, ri, rp, rn, rc, rl, F, rfl, hvo, hb⟩; have hK' := hK _ _ _ (show (J.freshN 2 Z [] [] [] [] 0 0) _ from ⟨Ci, Cp, Cn, Cc, Cl, ri, rp, rn, rc, rl, F, rfl, hvo⟩) ((hO.call hb).perm List.perm_append_comm); clear hK; simp only [J.putL, zI, zG, zH, J.dstOf, zF, zD, zE, zS, zQ, zR, Act.put, zA, zB, zC, e0] at hK'; exact hK')⟩; refine J.Each.cons (by rfl) ?_ ?_; exact ⟨rfl, fun vs M u hO hF K hK => by ((try simp only [J.putL, zI, zG, zH, J.dstOf, zF, zD, zE, zS, zQ, zR, Act.put, zA, zB, zC]); obtain ⟨b0, e0⟩ := (hF 0 (by decide) (by decide)).1; have s0 := (hF 0 (by decide) (by decide)).2; rw [e0] at s0; have o0 := hO.sub (List.Sublist.append_left s0 _); obtain ⟨Ci, Cp, Cn, Cc, Cl, ri, rp, rn, rc, rl, F, e1, hvo⟩ := (hF 1 (by decide) (by decide)).1; have s1 := (hF 1 (by decide) (by decide)).2; rw [e1] at s1; have o1 := hO.sub (List.Sublist.append_left s1 _); (try simp only [wp_at_zero, wp_at_succ]); simp only [e0, e1]; go_step; refine (CA _ _ _ (o1.rdp 2 rfl hvo) (CR _ hO.below)).mono ?_; rintro e u ⟨Q1, Q2, Q3, Q4, Q5, m1, m2, m3, m4, m5, W, rfl, hvo2, hb⟩; have hK' := hK _ _ _ (show (J.freshVE X (.string Y)) _ from ⟨Q1, Q2, Q3, Q4, Q5, m1, m2, m3, m4, m5, W, rfl, hvo2⟩) ((hO.call hb).perm List.perm_append_comm); clear hK; simp only [J.putL, zI, zG, zH, J.dstOf, zF, zD, zE, zS, zQ, zR, Act.put, zA, zB, zC, e0, e1] at hK'; exact hK')⟩; refine J.Each.cons (by rfl) ?_ ?_; exact ⟨rfl, fun vs M u hO hF K hK => by ((try simp only [J.putL, zI, zG, zH, J.dstOf, zF, zD, zE, zS, zQ, zR, Act.put, zA, zB, zC]); obtain ⟨b0, e0⟩ := (hF 0 (by decide) (by decide)).1; obtain ⟨Ci, Cp, Cn, Cc, Cl, ri, rp, rn, rc, rl, F, e1, hvo⟩ := (hF 1 (by decide) (by decide)).1; obtain ⟨Q1, Q2, Q3, Q4, Q5, m1, m2, m3, m4, m5, W, e3, hvo2⟩ := (hF 3 (by decide) (by decide)).1; have hK' := hK (Value.tuple #[.agg #[.int .i64 X.kind, .slice Q1 X.items.length m1, .slice Q2 X.parts.length m2, .slice Q3 X.names.length m3, .slice Q4 X.cls.length m4, .slice Q5 X.levels.length m5, .int .i64 X.code, .int .i64 X.env], .string Y]) [] u (show (Value.tuple #[.agg #[.int .i64 X.kind, .slice Q1 X.items.length m1, .slice Q2 X.parts.length m2, .slice Q3 X.names.length m3, .slice Q4 X.cls.length m4, .slice Q5 X.levels.length m5, .int .i64 X.code, .int .i64 X.env], .string Y], ([] : List Res)) = ((vs 3).1, []) from by simp only [e0, e1, e3]) (by rw [List.append_nil]; exact hO); clear hK hF; simp only [J.putL, zI, zG, zH, J.dstOf, zF, zD, zE, zS, zQ, zR, Act.put, zA, zB, zC, e0, e1, e3] at hK' ⊢; (try simp only [wp_at_zero, wp_at_succ]); go_step; exact hK')⟩; refine J.Each.cons (by rfl) ?_ ?_; exact ⟨rfl, fun vs M u hO hF K hK => by ((try simp only [J.putL, zI, zG, zH, J.dstOf, zF, zD, zE, zS, zQ, zR, Act.put, zA, zB, zC]); obtain ⟨b0, e0⟩ := (hF 0 (by decide) (by decide)).1; obtain ⟨Ci, Cp, Cn, Cc, Cl, ri, rp, rn, rc, rl, F, e1, hvo⟩ := (hF 1 (by decide) (by decide)).1; obtain ⟨Q1, Q2, Q3, Q4, Q5, m1, m2, m3, m4, m5, W, e3, hvo2⟩ := (hF 3 (by decide) (by decide)).1; have e4 : vs 4 = ((vs 3).1, []) := (hF 4 (by decide) (by decide)).1; simp only [e0, e1, e3] at e4; have hK' := hK (Value.agg #[.int .i64 X.kind, .slice Q1 X.items.length m1, .slice Q2 X.parts.length m2, .slice Q3 X.names.length m3, .slice Q4 X.cls.length m4, .slice Q5 X.levels.length m5, .int .i64 X.code, .int .i64 X.env]) [] u (show J.isFst ((vs 4).1) _ from by rw [e4]; exact J.isFst_of) (by rw [List.append_nil]; exact hO); clear hK hF; simp only [J.putL, zI, zG, zH, J.dstOf, zF, zD, zE, zS, zQ, zR, Act.put, zA, zB, zC, e0, e1, e3, e4] at hK' ⊢; (try simp only [wp_at_zero, wp_at_succ]); go_step; exact hK')⟩; refine J.Each.cons (by rfl) ?_ ?_; exact ⟨rfl, fun vs M u hO hF K hK => by ((try simp only [J.putL, zI, zG, zH, J.dstOf, zF, zD, zE, zS, zQ, zR, Act.put, zA, zB, zC]); obtain ⟨b0, e0⟩ := (hF 0 (by decide) (by decide)).1; obtain ⟨Ci, Cp, Cn, Cc, Cl, ri, rp, rn, rc, rl, F, e1, hvo⟩ := (hF 1 (by decide) (by decide)).1; obtain ⟨Q1, Q2, Q3, Q4, Q5, m1, m2, m3, m4, m5, W, e3, hvo2⟩ := (hF 3 (by decide) (by decide)).1; have e4 : vs 4 = ((vs 3).1, []) := (hF 4 (by decide) (by decide)).1; simp only [e0, e1, e3] at e4; have hK' := hK (Value.string Y) [] u (show J.isSnd ((vs 4).1) _ from by rw [e4]; exact J.isSnd_of) (by rw [List.append_nil]; exact hO); clear hK hF; simp only [J.putL, zI, zG, zH, J.dstOf, zF, zD, zE, zS, zQ, zR, Act.put, zA, zB, zC, e0, e1, e3, e4] at hK' ⊢; (try simp only [wp_at_zero, wp_at_succ]); go_step; exact hK')⟩; refine J.Each.cons (by rfl) ?_ ?_; exact ⟨rfl, fun vs M u hO _ K hK => by (refine wp_alloc_own hO rfl rfl fun b u hO => ?_; exact hK _ _ _ (show J.fresh 29 [.int .i64 0, .slice none 0 0, .slice none 0 0, .slice none 0 0, .slice none 0 0, .slice none 0 0, .int .i64 0, .int .i64 0] _ from ⟨b, rfl⟩) hO)⟩; exact J.Each.nil
  intro vs uz hO hF
  obtain ⟨n0, h0⟩ : J.freshS _ _ (vs 0) := hF 0 (by decide)
  obtain ⟨Ci, Cp, Cn, Cc, Cl, ri, rp, rn, rc, rl, F, h1, hvo⟩ : (J.freshN 2 Z [] [] [] [] 0 0) (vs 1) := hF 1 (by decide)
  obtain ⟨Q1, Q2, Q3, Q4, Q5, m1, m2, m3, m4, m5, W, h3, hvo2⟩ : (J.freshVE X (.string Y)) (vs 3) := hF 3 (by decide)
  have h4 : vs 4 = ((vs 3).1, []) := hF 4 (by decide)
  simp only [h0, h1, h3] at h4
  have q5 : J.isFst ((vs 4).1) (vs 5) := hF 5 (by decide)
  rw [h4] at q5
  have h5 := J.isFst_eq q5
  clear q5
  have q6 : J.isSnd ((vs 4).1) (vs 6) := hF 6 (by decide)
  rw [h4] at q6
  have h6 := J.isSnd_eq q6
  clear q6
  obtain ⟨b2, h7⟩ : J.fresh _ _ (vs 7) := hF 7 (by decide)
  clear hF
  simp only [List.flatMap_cons, List.flatMap_nil, h0, h1, h3, h4, h5, h6, h7, List.append_nil, zL, zK] at hO
  simp only [h0, h1, h3, h4, h5, h6, h7, J.putL, zI, zG, zH, J.dstOf, zF, zD, zE, zS, zQ, zR, Act.put, zA, zB, zC]
  clear h0 h1 h3 h4 h5 h6 h7 vs
  refine J.wpAny_one (i := 8) (by kernel_rfl) (by rfl) rfl fun K hK => ?_
  (refine wp_store_box hO rfl rfl _ (by exact at5) rfl (by rfl) (by rfl) (by rfl) (by rfl) (by rfl) ?_; clear hO; intro u hO; simp only [zC, zB] at hO; refine hK _ _ ?_; clear hK K)
  refine J.wpAny_one (i := 9) (by kernel_rfl) (by rfl) rfl fun K hK => ?_
  simp only [wp_at_zero, wp_at_succ]
  go_step
  refine hK _ _ ?_
  clear hK K
  refine wpAny_done (by kernel_rfl) ?_ _
  revert n0 Ci Cp Cn Cc Cl ri rp rn rc rl F hvo Q1 Q2 Q3 Q4 Q5 m1 m2 m3 m4 m5 W hvo2 b2 u hO
  try clear uz
  refine ?key1
  rotate_left
  intro vs uz hO hF
  rw [show ([0, 1, 3, 4, 5, 6, 7] : List Nat).erase 6 = [0, 1, 3, 4, 5, 7] from by decide] at hO ⊢
  obtain ⟨n0, h0⟩ : J.freshS _ _ (vs 0) := hF 0 (by decide) (by decide)
  obtain ⟨Ci, Cp, Cn, Cc, Cl, ri, rp, rn, rc, rl, F, h1, hvo⟩ : (J.freshN 2 Z [] [] [] [] 0 0) (vs 1) := hF 1 (by decide) (by decide)
  obtain ⟨Q1, Q2, Q3, Q4, Q5, m1, m2, m3, m4, m5, W, h3, hvo2⟩ : (J.freshVE X (.string Y)) (vs 3) := hF 3 (by decide) (by decide)
  have h4 : vs 4 = ((vs 3).1, []) := hF 4 (by decide) (by decide)
  simp only [h0, h1, h3] at h4
  have q5 : J.isFst ((vs 4).1) (vs 5) := hF 5 (by decide) (by decide)
  rw [h4] at q5
  have h5 := J.isFst_eq q5
  clear q5
  obtain ⟨b2, h7⟩ : J.fresh _ _ (vs 7) := hF 7 (by decide) (by decide)
  clear hF
  simp only [List.flatMap_cons, List.flatMap_nil, h0, h1, h3, h4, h5, h7, List.append_nil, zL, zK] at hO
  simp only [h0, h1, h3, h4, h5, h7, J.putL, zI, zG, zH, J.dstOf, zF, zD, zE, zS, zQ, zR, Act.put, zA, zB, zC]
  clear h0 h1 h3 h4 h5 h7 vs
  refine wpAny_ready (rs := [6, 8]) (by kernel_rfl) (by simp) ?_
  refine AllReady.cons rfl (fun K hK => ?_) (AllReady.cons rfl (fun K hK => ?_) (AllReady.nil))
  · rw [if_pos (by rfl)]
    simp only [wp_at_zero, wp_at_succ]
    go_step
    refine hK _ _ ?_
    clear hK K
    refine J.wpAny_one (i := 8) (by kernel_rfl) (by rfl) rfl fun K hK => ?_
    (refine wp_store_box hO rfl rfl _ (by exact at5) rfl (by rfl) (by rfl) (by rfl) (by rfl) (by rfl) ?_; clear hO; intro u hO; simp only [zC, zB] at hO; refine hK _ _ ?_; clear hK K)
    refine J.wpAny_one (i := 9) (by kernel_rfl) (by rfl) rfl fun K hK => ?_
    simp only [wp_at_zero, wp_at_succ]
    go_step
    refine hK _ _ ?_
    clear hK K
    refine wpAny_done (by kernel_rfl) ?_ _
    revert n0 Ci Cp Cn Cc Cl ri rp rn rc rl F hvo Q1 Q2 Q3 Q4 Q5 m1 m2 m3 m4 m5 W hvo2 b2 u hO
    try clear uz
    exact ?key1
  · rw [if_pos (by rfl)]
    (refine wp_store_box hO rfl rfl _ (by exact at5) rfl (by rfl) (by rfl) (by rfl) (by rfl) (by rfl) ?_; clear hO; intro u hO; simp only [zC, zB] at hO; refine hK _ _ ?_; clear hK K)
    refine J.wpAny_one (i := 6) (by kernel_rfl) (by rfl) rfl fun K hK => ?_
    simp only [wp_at_zero, wp_at_succ]
    go_step
    refine hK _ _ ?_
    clear hK K
    refine J.wpAny_one (i := 9) (by kernel_rfl) (by rfl) rfl fun K hK => ?_
    simp only [wp_at_zero, wp_at_succ]
    go_step
    refine hK _ _ ?_
    clear hK K
    refine wpAny_done (by kernel_rfl) ?_ _
    revert n0 Ci Cp Cn Cc Cl ri rp rn rc rl F hvo Q1 Q2 Q3 Q4 Q5 m1 m2 m3 m4 m5 W hvo2 b2 u hO
    try clear uz
    exact ?key1
  intro n0 Ci Cp Cn Cc Cl ri rp rn rc rl F hvo Q1 Q2 Q3 Q4 Q5 m1 m2 m3 m4 m5 W hvo2 b2 u hO
  go_wp2_with (first
    | ((with_reducible refine wpl_load ?_); refine wpList_load_box rfl (by rfl) hO rfl _ (by exact at5) (by rfl) (by simp only [Act.put, zA, zB, zC]; rfl) ?_)
    | ((with_reducible refine wpl_store ?_); refine wpList_store_box rfl (by rfl) hO rfl _ (by exact at1) rfl (by rfl) (by rfl) (by rfl) (by rfl) (by rfl) ?_; clear hO; intro u hO; simp only [zC, zB] at hO)
    | fail)
  exact ret_box2 rfl hO rfl 1 at1 rfl rfl rfl ⟨_, _, rfl, hvo2, hO.pick [4] (by decide)⟩


end Go.Proofs.Ytmofcbpabdbjlaa