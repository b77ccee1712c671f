/-
  What is proved: the statement on CompareVectors.
  Condition: none.
-/
import Derived.Test.YtmofcbpabdbjlaaCm
import Derived.Test.YtmofcbpabdbjlaaCq
import Derived.Test.YtmofcbpabdbjlaaTwZ
import Derived.Test.YtmofcbpabdbjlaaAt
import Derived.Test.YtmofcbpabdbjlaaJe
import Derived.Test.YtmofcbpabdbjlaaMv
import Derived.Test.YtmofcbpabdbjlaaLc
import Derived.Test.YtmofcbpabdbjlaaLd
namespace Go.Proofs.Ytmofcbpabdbjlaa
set_option maxRecDepth 8000
open Go.RowKit Go.ChangeShapes Go.WideShapes Go.Deep
set_option linter.unusedVariables false
set_option linter.unusedSimpArgs false

theorem pw_sz {k : Int} {f g : Nat → It} {G : It → It → It} {n : Nat} {NN : List ByteArray} (hn : n ≤ 40) (hG : ∀ x y, (G x y).text.size ≤ 60) (hN : szS NN ≤ 2440) : szV (vecN k (pwL f g G n) NN) ≤ 1048576 := by
  have h3 := itz_bd (l := pwL f g G n) (z := 60) (by
    intro x hx
    unfold pwL at hx
    obtain ⟨i, _, rfl⟩ := List.mem_map.1 hx
    exact hG _ _)
  rw [pwL_len] at h3
  have h4 : szV (vecN k (pwL f g G n) NN) = (n + itz (pwL f g G n)) + szS NN := by
    simp only [vecN, szV, szI, szL, pwL_len, szS, stz, List.length_nil]
    omega
  rw [h4]
  omega
theorem cmT_sz (op : ByteArray) (a b : VT) : szV (cmT op a b) ≤ 1048576 := by
  unfold cmT
  split
  · rename_i h
    rw [Bool.and_eq_true] at h
    split
    · split
      · split
        · refine pw_sz (recN_le (isV_lensC h.1).1 (isV_lensC h.2).1) (fun x y => ?_) (nm_sz (names_sz h.1) (names_sz h.2))
          unfold cpF
          split <;> exact Nat.zero_le _
        · exact zero_sz
      · exact zero_sz
    · exact zero_sz
  · exact zero_sz

set_option maxRecDepth 20000 in
set_option maxHeartbeats 8000000 in
theorem fnExactCompareVectors_walk (v0 v1 v2 : Value) (w : World) (h0 : ArgStr w v0) (h1 : ArgVec w v1) (h2 : ArgVec w v2) : Calls Try.prog 5 #[v0, v1, v2] w fun e w' => e = .returned (.bool true) ∧ Below w.heap.size w w' := by
  obtain ⟨s0, rfl, hs0⟩ := h0
  obtain ⟨vs1, t1, rfl, hv1, hw1⟩ := h1
  obtain ⟨vs2, t2, rfl, hv2, hw2⟩ := h2
  by_cases gs0 : (1048576 : Int) < s0.size
  · skip
    obtain ⟨V11, V12, V13, V14, V15, v11, v12, v13, v14, v15, rfl⟩ := hv1.ex
    obtain ⟨V21, V22, V23, V24, V25, v21, v22, v23, v24, v25, rfl⟩ := hv2.ex
    go_enter Try.func5, Try.ntmps5
    have hO := Own.nil w
    go_wp2_with (first
      | ((with_reducible refine wpl_box ?_); refine wpList_box_own rfl (by rfl) hO rfl rfl (fun b => by simp only [Act.put, zA, zB, zC]; rfl) ?_; (first | (refine nm 0 rfl ?_; clear hO; intro b0 u hO) | (refine nm 1 rfl ?_; clear hO; intro b1 u hO) | fail); simp only [zL, zK] at hO)
      | fail)
    go_ret
    exact ⟨rfl, hO.below⟩
  have CZ1 : ∀ u, Below w.heap.size w u → Calls Try.prog 29 #[.agg vs1.toArray, .int .i64 (1048576)] u fun e w' => e = .returned (.int .i64 (leftI (1048576) (szV t1))) ∧ Below u.heap.size u w' := fun u hb => laws_szVec t1 vs1 _ u (hv1.grow hb) hw1 (by omega)
  by_cases g1 : (1048576 : Int) < szV t1
  · have HR := Lib.hid (left_no (lf := 1048576) g1)
    rw [HR.out] at CZ1
    clear HR g1
    obtain ⟨V11, V12, V13, V14, V15, v11, v12, v13, v14, v15, rfl⟩ := hv1.ex
    obtain ⟨V21, V22, V23, V24, V25, v21, v22, v23, v24, v25, rfl⟩ := hv2.ex
    go_enter Try.func5, Try.ntmps5
    have hO := Own.nil w
    go_wp2_with (first
      | ((with_reducible refine (CZ1 _ hO.below).mono ?_); rintro e u ⟨rfl, hb⟩; (replace hO := hO.step hb; clear hb))
      | ((with_reducible refine wpl_box ?_); refine wpList_box_own rfl (by rfl) hO rfl rfl (fun b => by simp only [Act.put, zA, zB, zC]; rfl) ?_; (first | (refine nm 0 rfl ?_; clear hO; intro b0 u hO) | (refine nm 1 rfl ?_; clear hO; intro b1 u hO) | fail); simp only [zL, zK] at hO)
      | ((with_reducible refine wpl_load ?_); refine wpList_load_box rfl (by rfl) hO rfl _ (by exact at0) (by rfl) (by simp only [Act.put, zA, zB, zC]; rfl) ?_)
      | fail)
    go_ret
    exact ⟨rfl, hO.below⟩
  have HR := Lib.hid (left_yes (lf := 1048576) g1)
  rw [HR.out] at CZ1
  clear HR
  have hz1 : (0 : Int) ≤ 1048576 - szV t1 := by omega
  have CZ2 : ∀ u, Below w.heap.size w u → Calls Try.prog 29 #[.agg vs2.toArray, .int .i64 (1048576 - szV t1)] u fun e w' => e = .returned (.int .i64 (leftI (1048576 - szV t1) (szV t2))) ∧ Below u.heap.size u w' := fun u hb => laws_szVec t2 vs2 _ u (hv2.grow hb) hw2 (by omega)
  by_cases g2 : (1048576 - szV t1 : Int) < szV t2
  · have HR := Lib.hid (left_no (lf := 1048576 - szV t1) g2)
    rw [HR.out] at CZ2
    clear HR g2
    obtain ⟨V11, V12, V13, V14, V15, v11, v12, v13, v14, v15, rfl⟩ := hv1.ex
    obtain ⟨V21, V22, V23, V24, V25, v21, v22, v23, v24, v25, rfl⟩ := hv2.ex
    go_enter Try.func5, Try.ntmps5
    have hO := Own.nil w
    go_wp2_with (first
      | ((with_reducible refine (CZ1 _ hO.below).mono ?_); rintro e u ⟨rfl, hb⟩; (replace hO := hO.step hb; clear hb))
      | ((with_reducible refine (CZ2 _ hO.below).mono ?_); rintro e u ⟨rfl, hb⟩; (replace hO := hO.step hb; clear hb))
      | ((with_reducible refine wpl_box ?_); refine wpList_box_own rfl (by rfl) hO rfl rfl (fun b => by simp only [Act.put, zA, zB, zC]; rfl) ?_; (first | (refine nm 0 rfl ?_; clear hO; intro b0 u hO) | (refine nm 1 rfl ?_; clear hO; intro b1 u hO) | fail); simp only [zL, zK] at hO)
      | ((with_reducible refine wpl_load ?_); refine wpList_load_box rfl (by rfl) hO rfl _ (by (first | exact at0 | exact at1 | fail)) (by rfl) (by simp only [Act.put, zA, zB, zC]; rfl) ?_)
      | fail)
    go_ret
    exact ⟨rfl, hO.below⟩
  have HR := Lib.hid (left_yes (lf := 1048576 - szV t1) g2)
  rw [HR.out] at CZ2
  clear HR
  have hz2 : (0 : Int) ≤ 1048576 - szV t1 - szV t2 := by omega
  have HZ1 := Lib.hid (show szV t1 ≤ 1048576 by omega)
  have HZ2 := Lib.hid (show szV t2 ≤ 1048576 by omega)
  have HZT := Lib.hid (show szV t1 + szV t2 ≤ 1048576 by omega)
  have CS := fun vs1' vs2' u (h1 : RdV u t1 vs1') (h2 : RdV u t2 vs2') => RetVE.ofS (spec_cm s0 t1 t2 vs1' vs2' u h1 h2 HZ1.out HZ2.out)
  have CI := fun vs1' vs2' u (h1 : RdV u t1 vs1') (h2 : RdV u t2 vs2') => RetVE.ofS (impl_cm s0 t1 t2 vs1' vs2' u h1 h2 HZ1.out HZ2.out)
  have HL := Lib.hid (show szV (cmT s0 t1 t2) ≤ 1048576 from cmT_sz s0 t1 t2)
  obtain ⟨r, hr⟩ : ∃ r, cmT s0 t1 t2 = r := ⟨_, rfl⟩
  obtain ⟨s, hs⟩ : ∃ s, cmS s0 t1 t2 = s := ⟨_, rfl⟩
  rw [hr] at CS CI HL
  rw [hs] at CS CI
  clear hr hs
  have CEr := fun vs1 vs2 u (h : RdV u r vs1) (h' : RdV u r vs2) => laws_eqVec r vs1 vs2 u h h' HL.out
  have hcr : 1 + cntV r ≤ 2147483647 := by have := cnt_sz r; have := HL.out; omega
  have CMr := fun vs F L w0 u (h : VO r vs F) hO => laws_markVec r vs F 1 1 rfl hcr L w0 u h hO
  have CHr := fun vs u (h : RdV u (mrkV 1 r) vs) => laws_heldVec r vs 1 1 rfl hcr u h
  obtain ⟨zr, hzr⟩ : ∃ z, 1 + cntV r = z := ⟨_, rfl⟩
  rw [hzr] at CMr CHr hcr
  clear hzr
  have hc1 : 1 + cntV t1 ≤ 2147483647 := by have := cnt_sz t1; have := HZ1.out; omega
  have CE1 := fun vs1 vs2 u (h : RdV u t1 vs1) (h' : RdV u t1 vs2) => laws_eqVec t1 vs1 vs2 u h h' HZ1.out
  have CM1 := fun vs F L w0 u (h : VO t1 vs F) hO => laws_markVec t1 vs F 1 1 rfl hc1 L w0 u h hO
  have CU1 := fun u (hb : Below w.heap.size w u) => laws_toVec t1 vs1 u (hv1.grow hb) HZ1.out
  have hb1 := Lib.hid (show 1 + cntV t1 ≤ 4000000 by have := cnt_sz t1; have := HZ1.out; omega)
  obtain ⟨z1, hz'1⟩ : ∃ z, 1 + cntV t1 = z := ⟨_, rfl⟩
  rw [hz'1] at CM1 hc1 hb1
  clear hz'1
  have hc2 : z1 + cntV t2 ≤ 2147483647 := by have := cnt_sz t2; have := HZ2.out; have := hb1.out; omega
  have CE2 := fun vs1 vs2 u (h : RdV u t2 vs1) (h' : RdV u t2 vs2) => laws_eqVec t2 vs1 vs2 u h h' HZ2.out
  have CM2 := fun vs F L w0 u (h : VO t2 vs F) hO => laws_markVec t2 vs F z1 z1 rfl hc2 L w0 u h hO
  have CU2 := fun u (hb : Below w.heap.size w u) => laws_toVec t2 vs2 u (hv2.grow hb) HZ2.out
  have hb2 := Lib.hid (show z1 + cntV t2 ≤ 8000000 by have := cnt_sz t2; have := HZ2.out; have := hb1.out; omega)
  obtain ⟨z2, hz'2⟩ : ∃ z, z1 + cntV t2 = z := ⟨_, rfl⟩
  rw [hz'2] at CM2 hc2 hb2
  clear hz'2
  obtain ⟨x1k, x1i, x1p, x1n, x1c, x1l, x1o, x1e⟩ := t1
  have CT1 := fun u (hb : Below w.heap.size w u) => laws_toVecC x1k x1i x1p x1n x1c x1l x1o x1e vs1 u (hv1.grow hb) HZ1.out
  obtain ⟨x2k, x2i, x2p, x2n, x2c, x2l, x2o, x2e⟩ := t2
  have CT2 := fun u (hb : Below w.heap.size w u) => laws_toVecC x2k x2i x2p x2n x2c x2l x2o x2e vs2 u (hv2.grow hb) HZ2.out
  obtain ⟨V11, V12, V13, V14, V15, v11, v12, v13, v14, v15, rfl⟩ := hv1.ex
  obtain ⟨V21, V22, V23, V24, V25, v21, v22, v23, v24, v25, rfl⟩ := hv2.ex
  clear hw1 hw2 g1 g2 hv1 hv2
  go_enter Try.func5, Try.ntmps5
  have hO := Own.nil w
  go_wp2_with (first
    | ((with_reducible refine (CZ1 _ hO.below).mono ?_); rintro e u ⟨rfl, hb⟩; (replace hO := hO.step hb; clear hb))
    | ((with_reducible refine (CZ2 _ hO.below).mono ?_); rintro e u ⟨rfl, hb⟩; (replace hO := hO.step hb; clear hb))
    | ((with_reducible refine wpl_box ?_); refine wpList_box_own rfl (by rfl) hO rfl rfl (fun b => by simp only [Act.put, zA, zB, zC]; rfl) ?_; (first | (refine nm 0 rfl ?_; clear hO; intro b0 u hO) | (refine nm 1 rfl ?_; clear hO; intro b1 u hO) | fail); simp only [zL, zK] at hO)
    | ((with_reducible refine wpl_load ?_); refine wpList_load_box rfl (by rfl) hO rfl _ (by (first | exact at0 | exact at1 | fail)) (by rfl) (by simp only [Act.put, zA, zB, zC]; rfl) ?_)
    | fail)
  clear CZ1 CZ2
  refine J.wp_region_e (n := 127) [0, 1, 3] [2, 4, 5, 6, 7, 8, 9] 8 (deps := fun i => [[], [], [1], [], [3], [0, 1, 2, 3, 4], [0, 1, 2, 3, 4, 5], [0, 1, 2, 3, 4, 5, 6], [0, 1, 2, 3, 4, 5, 6], [], [], []].getD i []) (fun i d => [fun _ => True, fun _ => True, (J.freshV (.mk x1k x1i x1p x1n x1c x1l x1o x1e)), fun _ => True, (J.freshV (.mk x2k x2i x2p x2n x2c x2l x2o x2e)), (J.freshVE r (.string s)), (fun x => x = ((d 5).1, [])), (J.isFst ((d 6).1)), (J.isSnd ((d 6).1)), J.fresh 29 [.int .i64 0, .slice none 0 0, .slice none 0 0, .slice none 0 0, .slice none 0 0, .slice none 0 0, .int .i64 0, .int .i64 0], fun _ => True, fun _ => True].getD i (fun _ => True)) (r := 2) (lst := #[true, true, true, true, true, true, true, true, true, true, false, false]) (lst2 := #[true, true, true, true, true, true, true, true, false, true, false, false]) (by kernel_rfl) (by kernel_rfl) (by kernel_rfl) (by kernel_rfl) (by kernel_rfl) rfl (by decide) (by kernel_rfl) hO ?_
  refine J.Chain.cons (by rfl) (by rfl) (fun M u hO K hK => by (simp only [wp_at_zero, wp_at_succ]; go_step; exact hK _ hO)) (by simp only [J.putL, zI, zG, zH, J.dstOf, zF, zD, zE, zS, zQ, zR, Act.put, zA, zB, zC]; rfl) ?_
  refine J.Chain.cons (by rfl) (by rfl) (fun M u hO K hK => by (exact wp_load_box hO rfl rfl _ (by exact at0) (by rfl) (by rfl) (hK _ hO))) (by simp only [J.putL, zI, zG, zH, J.dstOf, zF, zD, zE, zS, zQ, zR, Act.put, zA, zB, zC]; rfl) ?_
  refine J.Chain.cons (by rfl) (by rfl) (fun M u hO K hK => by (exact wp_load_box hO rfl rfl _ (by exact at1) (by rfl) (by rfl) (hK _ hO))) (by simp only [J.putL, zI, zG, zH, J.dstOf, zF, zD, zE, zS, zQ, zR, Act.put, zA, zB, zC]; rfl) ?_
  refine J.Chain.nil ⟨?_, ?_, ?_⟩
  · refine J.Each.cons (by rfl) ?_ ?_; exact ⟨rfl, fun vs M u hO _ K hK => by ((try simp only [J.putL, zI, zG, zH, J.dstOf, zF, zD, zE, zS, zQ, zR, Act.put, zA, zB, zC]); (try simp only [wp_at_zero, wp_at_succ]); go_step; refine (CU1 _ hO.below).mono ?_; rintro e u ⟨vs1', F1', rfl, hvo1, hb⟩; have hK' := hK _ _ _ (show (J.freshV (.mk x1k x1i x1p x1n x1c x1l x1o x1e)) _ from ⟨vs1', F1', rfl, hvo1⟩) ((hO.call hb).perm List.perm_append_comm); clear hK; simp only [J.putL, zI, zG, zH, J.dstOf, zF, zD, zE, zS, zQ, zR, Act.put, zA, zB, zC] at hK'; exact hK')⟩; refine J.Each.cons (by rfl) ?_ ?_; exact ⟨rfl, fun vs M u hO _ K hK => by ((try simp only [J.putL, zI, zG, zH, J.dstOf, zF, zD, zE, zS, zQ, zR, Act.put, zA, zB, zC]); (try simp only [wp_at_zero, wp_at_succ]); go_step; refine (CU2 _ hO.below).mono ?_; rintro e u ⟨vs2', F2', rfl, hvo2, hb⟩; have hK' := hK _ _ _ (show (J.freshV (.mk x2k x2i x2p x2n x2c x2l x2o x2e)) _ from ⟨vs2', F2', rfl, hvo2⟩) ((hO.call hb).perm List.perm_append_comm); clear hK; simp only [J.putL, zI, zG, zH, J.dstOf, zF, zD, zE, zS, zQ, zR, Act.put, zA, zB, zC] at hK'; exact hK')⟩; refine J.Each.cons (by rfl) ?_ ?_; exact ⟨rfl, fun vs M u hO hF K hK => by ((try simp only [J.putL, zI, zG, zH, J.dstOf, zF, zD, zE, zS, zQ, zR, Act.put, zA, zB, zC]); obtain ⟨vs1', F1', e2, hvo1⟩ := (hF 2 (by decide) (by decide)).1; have s2 := (hF 2 (by decide) (by decide)).2; rw [e2] at s2; have o2 := hO.sub (List.Sublist.append_left s2 _); obtain ⟨vs2', F2', e4, hvo2⟩ := (hF 4 (by decide) (by decide)).1; have s4 := (hF 4 (by decide) (by decide)).2; rw [e4] at s4; have o4 := hO.sub (List.Sublist.append_left s4 _); (try simp only [wp_at_zero, wp_at_succ]); simp only [e2, e4]; go_step; refine (CS _ _ _  (o2.rdp 2 rfl hvo1) (o4.rdp 2 rfl hvo2)).mono ?_; rintro e u ⟨Q31, Q32, Q33, Q34, Q35, m31, m32, m33, m34, m35, W3, rfl, hvo3, hb⟩; have hK' := hK _ _ _ (show (J.freshVE r (.string s)) _ from ⟨Q31, Q32, Q33, Q34, Q35, m31, m32, m33, m34, m35, W3, rfl, hvo3⟩) ((hO.call hb).perm List.perm_append_comm); clear hK; simp only [J.putL, zI, zG, zH, J.dstOf, zF, zD, zE, zS, zQ, zR, Act.put, zA, zB, zC, e2, e4] at hK'; exact hK')⟩; refine J.Each.cons (by rfl) ?_ ?_; exact ⟨rfl, fun vs M u hO hF K hK => by ((try simp only [J.putL, zI, zG, zH, J.dstOf, zF, zD, zE, zS, zQ, zR, Act.put, zA, zB, zC]); obtain ⟨vs1', F1', e2, hvo1⟩ := (hF 2 (by decide) (by decide)).1; obtain ⟨vs2', F2', e4, hvo2⟩ := (hF 4 (by decide) (by decide)).1; obtain ⟨Q31, Q32, Q33, Q34, Q35, m31, m32, m33, m34, m35, W3, e5, hvo3⟩ := (hF 5 (by decide) (by decide)).1; have hK' := hK (Value.tuple #[.agg #[.int .i64 r.kind, .slice Q31 r.items.length m31, .slice Q32 r.parts.length m32, .slice Q33 r.names.length m33, .slice Q34 r.cls.length m34, .slice Q35 r.levels.length m35, .int .i64 r.code, .int .i64 r.env], .string s]) [] u (show (Value.tuple #[.agg #[.int .i64 r.kind, .slice Q31 r.items.length m31, .slice Q32 r.parts.length m32, .slice Q33 r.names.length m33, .slice Q34 r.cls.length m34, .slice Q35 r.levels.length m35, .int .i64 r.code, .int .i64 r.env], .string s], ([] : List Res)) = ((vs 5).1, []) from by simp only [e2, e4, e5]) (by rw [List.append_nil]; exact hO); clear hK hF; simp only [J.putL, zI, zG, zH, J.dstOf, zF, zD, zE, zS, zQ, zR, Act.put, zA, zB, zC, e2, e4, e5] at hK' ⊢; (try simp only [wp_at_zero, wp_at_succ]); go_step; exact hK')⟩; refine J.Each.cons (by rfl) ?_ ?_; exact ⟨rfl, fun vs M u hO hF K hK => by ((try simp only [J.putL, zI, zG, zH, J.dstOf, zF, zD, zE, zS, zQ, zR, Act.put, zA, zB, zC]); obtain ⟨vs1', F1', e2, hvo1⟩ := (hF 2 (by decide) (by decide)).1; obtain ⟨vs2', F2', e4, hvo2⟩ := (hF 4 (by decide) (by decide)).1; obtain ⟨Q31, Q32, Q33, Q34, Q35, m31, m32, m33, m34, m35, W3, e5, hvo3⟩ := (hF 5 (by decide) (by decide)).1; have e6 : vs 6 = ((vs 5).1, []) := (hF 6 (by decide) (by decide)).1; simp only [e2, e4, e5] at e6; have hK' := hK (Value.agg #[.int .i64 r.kind, .slice Q31 r.items.length m31, .slice Q32 r.parts.length m32, .slice Q33 r.names.length m33, .slice Q34 r.cls.length m34, .slice Q35 r.levels.length m35, .int .i64 r.code, .int .i64 r.env]) [] u (show J.isFst ((vs 6).1) _ from by rw [e6]; exact J.isFst_of) (by rw [List.append_nil]; exact hO); clear hK hF; simp only [J.putL, zI, zG, zH, J.dstOf, zF, zD, zE, zS, zQ, zR, Act.put, zA, zB, zC, e2, e4, e5, e6] at hK' ⊢; (try simp only [wp_at_zero, wp_at_succ]); go_step; exact hK')⟩; refine J.Each.cons (by rfl) ?_ ?_; exact ⟨rfl, fun vs M u hO hF K hK => by ((try simp only [J.putL, zI, zG, zH, J.dstOf, zF, zD, zE, zS, zQ, zR, Act.put, zA, zB, zC]); obtain ⟨vs1', F1', e2, hvo1⟩ := (hF 2 (by decide) (by decide)).1; obtain ⟨vs2', F2', e4, hvo2⟩ := (hF 4 (by decide) (by decide)).1; obtain ⟨Q31, Q32, Q33, Q34, Q35, m31, m32, m33, m34, m35, W3, e5, hvo3⟩ := (hF 5 (by decide) (by decide)).1; have e6 : vs 6 = ((vs 5).1, []) := (hF 6 (by decide) (by decide)).1; simp only [e2, e4, e5] at e6; have hK' := hK (Value.string s) [] u (show J.isSnd ((vs 6).1) _ from by rw [e6]; exact J.isSnd_of) (by rw [List.append_nil]; exact hO); clear hK hF; simp only [J.putL, zI, zG, zH, J.dstOf, zF, zD, zE, zS, zQ, zR, Act.put, zA, zB, zC, e2, e4, e5, e6] at hK' ⊢; (try simp only [wp_at_zero, wp_at_succ]); go_step; exact hK')⟩; refine J.Each.cons (by rfl) ?_ ?_; exact ⟨rfl, fun vs M u hO _ K hK => by (refine wp_alloc_own hO rfl rfl fun b u hO => ?_; exact hK _ _ _ (show J.fresh 29 [.int .i64 0, .slice none 0 0, .slice none 0 0, .slice none 0 0, .slice none 0 0, .slice none 0 0, .int .i64 0, .int .i64 0] _ from ⟨b, rfl⟩) hO)⟩; exact J.Each.nil
  intro vs uz hO hF
  obtain ⟨vs1', F1', h2, hvo1⟩ : (J.freshV (.mk x1k x1i x1p x1n x1c x1l x1o x1e)) (vs 2) := hF 2 (by decide)
  obtain ⟨vs2', F2', h4, hvo2⟩ : (J.freshV (.mk x2k x2i x2p x2n x2c x2l x2o x2e)) (vs 4) := hF 4 (by decide)
  obtain ⟨Q31, Q32, Q33, Q34, Q35, m31, m32, m33, m34, m35, W3, h5, hvo3⟩ : (J.freshVE r (.string s)) (vs 5) := hF 5 (by decide)
  have h6 : vs 6 = ((vs 5).1, []) := hF 6 (by decide)
  simp only [h2, h4, h5] at h6
  have q7 : J.isFst ((vs 6).1) (vs 7) := hF 7 (by decide)
  rw [h6] at q7
  have h7 := J.isFst_eq q7
  clear q7
  have q8 : J.isSnd ((vs 6).1) (vs 8) := hF 8 (by decide)
  rw [h6] at q8
  have h8 := J.isSnd_eq q8
  clear q8
  obtain ⟨b2, h9⟩ : J.fresh _ _ (vs 9) := hF 9 (by decide)
  clear hF
  simp only [List.flatMap_cons, List.flatMap_nil, h2, h4, h5, h6, h7, h8, h9, List.append_nil, zL, zK] at hO
  simp only [h2, h4, h5, h6, h7, h8, h9, J.putL, zI, zG, zH, J.dstOf, zF, zD, zE, zS, zQ, zR, Act.put, zA, zB, zC]
  clear h2 h4 h5 h6 h7 h8 h9 vs
  refine J.wpAny_one (i := 10) (by kernel_rfl) (by rfl) rfl fun K hK => ?_
  (refine wp_store_box hO rfl rfl _ (by exact at5) rfl (by rfl) (by rfl) (by rfl) (by rfl) (by rfl) ?_; clear hO; intro u hO; simp only [zC, zB] at hO; refine hK _ _ ?_; clear hK K)
  refine J.wpAny_one (i := 11) (by kernel_rfl) (by rfl) rfl fun K hK => ?_
  simp only [wp_at_zero, wp_at_succ]
  go_step
  refine hK _ _ ?_
  clear hK K
  refine wpAny_done (by kernel_rfl) ?_ _
  revert vs1' F1' hvo1 vs2' F2' hvo2 Q31 Q32 Q33 Q34 Q35 m31 m32 m33 m34 m35 W3 hvo3 b2 u hO
  try clear uz
  refine ?key10
  rotate_left
  intro vs uz hO hF
  rw [show ([2, 4, 5, 6, 7, 8, 9] : List Nat).erase 8 = [2, 4, 5, 6, 7, 9] from by decide] at hO ⊢
  obtain ⟨vs1', F1', h2, hvo1⟩ : (J.freshV (.mk x1k x1i x1p x1n x1c x1l x1o x1e)) (vs 2) := hF 2 (by decide) (by decide)
  obtain ⟨vs2', F2', h4, hvo2⟩ : (J.freshV (.mk x2k x2i x2p x2n x2c x2l x2o x2e)) (vs 4) := hF 4 (by decide) (by decide)
  obtain ⟨Q31, Q32, Q33, Q34, Q35, m31, m32, m33, m34, m35, W3, h5, hvo3⟩ : (J.freshVE r (.string s)) (vs 5) := hF 5 (by decide) (by decide)
  have h6 : vs 6 = ((vs 5).1, []) := hF 6 (by decide) (by decide)
  simp only [h2, h4, h5] at h6
  have q7 : J.isFst ((vs 6).1) (vs 7) := hF 7 (by decide) (by decide)
  rw [h6] at q7
  have h7 := J.isFst_eq q7
  clear q7
  obtain ⟨b2, h9⟩ : J.fresh _ _ (vs 9) := hF 9 (by decide) (by decide)
  clear hF
  simp only [List.flatMap_cons, List.flatMap_nil, h2, h4, h5, h6, h7, h9, List.append_nil, zL, zK] at hO
  simp only [h2, h4, h5, h6, h7, h9, J.putL, zI, zG, zH, J.dstOf, zF, zD, zE, zS, zQ, zR, Act.put, zA, zB, zC]
  clear h2 h4 h5 h6 h7 h9 vs
  refine wpAny_ready (rs := [8, 10]) (by kernel_rfl) (by simp) ?_
  refine AllReady.cons rfl (fun K hK => ?_) (AllReady.cons rfl (fun K hK => ?_) (AllReady.nil))
  · rw [if_pos (by rfl)]
    simp only [wp_at_zero, wp_at_succ]
    go_step
    refine hK _ _ ?_
    clear hK K
    refine J.wpAny_one (i := 10) (by kernel_rfl) (by rfl) rfl fun K hK => ?_
    (refine wp_store_box hO rfl rfl _ (by exact at5) rfl (by rfl) (by rfl) (by rfl) (by rfl) (by rfl) ?_; clear hO; intro u hO; simp only [zC, zB] at hO; refine hK _ _ ?_; clear hK K)
    refine J.wpAny_one (i := 11) (by kernel_rfl) (by rfl) rfl fun K hK => ?_
    simp only [wp_at_zero, wp_at_succ]
    go_step
    refine hK _ _ ?_
    clear hK K
    refine wpAny_done (by kernel_rfl) ?_ _
    revert vs1' F1' hvo1 vs2' F2' hvo2 Q31 Q32 Q33 Q34 Q35 m31 m32 m33 m34 m35 W3 hvo3 b2 u hO
    try clear uz
    exact ?key10
  · rw [if_pos (by rfl)]
    (refine wp_store_box hO rfl rfl _ (by exact at5) rfl (by rfl) (by rfl) (by rfl) (by rfl) (by rfl) ?_; clear hO; intro u hO; simp only [zC, zB] at hO; refine hK _ _ ?_; clear hK K)
    refine J.wpAny_one (i := 8) (by kernel_rfl) (by rfl) rfl fun K hK => ?_
    simp only [wp_at_zero, wp_at_succ]
    go_step
    refine hK _ _ ?_
    clear hK K
    refine J.wpAny_one (i := 11) (by kernel_rfl) (by rfl) rfl fun K hK => ?_
    simp only [wp_at_zero, wp_at_succ]
    go_step
    refine hK _ _ ?_
    clear hK K
    refine wpAny_done (by kernel_rfl) ?_ _
    revert vs1' F1' hvo1 vs2' F2' hvo2 Q31 Q32 Q33 Q34 Q35 m31 m32 m33 m34 m35 W3 hvo3 b2 u hO
    try clear uz
    exact ?key10
  intro vs1' F1' hvo1 vs2' F2' hvo2 Q31 Q32 Q33 Q34 Q35 m31 m32 m33 m34 m35 W3 hvo3 b2 u hO
  go_wp2_with (first
    | ((with_reducible refine wpl_load ?_); refine wpList_load_box rfl (by rfl) hO rfl _ (by exact at0) (by rfl) (by simp only [Act.put, zA, zB, zC]; rfl) ?_)
    | fail)
  replace hO := hO.pick [0, 1, 4, 5] (by decide)
  simp only [zN, zO, zE, zD] at hO
  refine (CT1 _ hO.below).mono ?_
  rintro e u ⟨P41, P42, P43, P44, P45, p41, p42, p43, p44, p45, F4, rfl, hvo4, hb⟩
  replace hO := hO.call hb
  clear hb
  simp only [zK, zL] at hO
  go_wp2_with (first
    | ((with_reducible refine wpl_alloc ?_); refine wpList_alloc_own rfl (by rfl) hO rfl (fun b => by simp only [Act.put, zA, zB, zC]; rfl) ?_; (refine nm 5 rfl ?_; clear hO; intro b5 u hO); simp only [zL, zK] at hO)
    | ((with_reducible refine wpl_load ?_); refine wpList_load_box rfl (by rfl) hO rfl _ (by exact at2) (by rfl) (by simp only [Act.put, zA, zB, zC]; rfl) ?_)
    | ((with_reducible refine wpl_store ?_); refine wpList_store_box rfl (by rfl) hO rfl _ (by exact at5) rfl (by rfl) (by rfl) (by rfl) (by rfl) (by rfl) ?_; clear hO; intro u hO; simp only [zC, zB] at hO)
    | fail)
  refine (CT2 _ hO.below).mono ?_
  rintro e u ⟨P51, P52, P53, P54, P55, p51, p52, p53, p54, p55, F5, rfl, hvo5, hb⟩
  replace hO := hO.call hb
  clear hb
  simp only [zK, zL] at hO
  go_wp2_with (first
    | ((with_reducible refine wpl_alloc ?_); refine wpList_alloc_own rfl (by rfl) hO rfl (fun b => by simp only [Act.put, zA, zB, zC]; rfl) ?_; (refine nm 7 rfl ?_; clear hO; intro b7 u hO); simp only [zL, zK] at hO)
    | ((with_reducible refine wpl_load ?_); refine wpList_load_box rfl (by rfl) hO rfl _ (by (first | exact at6 | exact at7 | fail)) (by rfl) (by simp only [Act.put, zA, zB, zC]; rfl) ?_)
    | ((with_reducible refine wpl_store ?_); refine wpList_store_box rfl (by rfl) hO rfl _ (by exact at7) rfl (by rfl) (by rfl) (by rfl) (by rfl) (by rfl) ?_; clear hO; intro u hO; simp only [zC, zB] at hO)
    | fail)
  refine (CI _ _ _  (hO.rdp 1 rfl hvo4) (hO.rdp 0 rfl hvo5)).mono ?_
  rintro e u ⟨Q61, Q62, Q63, Q64, Q65, m61, m62, m63, m64, m65, W6, rfl, hvo6, hb⟩
  replace hO := hO.call hb
  clear hb
  simp only [List.cons_append, List.nil_append] at hO
  go_wp2_with (first
    | ((with_reducible refine wpl_alloc ?_); refine wpList_alloc_own rfl (by rfl) hO rfl (fun b => by simp only [Act.put, zA, zB, zC]; rfl) ?_; (refine nm 9 rfl ?_; clear hO; intro b9 u hO); simp only [zL, zK] at hO)
    | ((with_reducible refine wpl_load ?_); refine wpList_load_box rfl (by rfl) hO rfl _ (by (first | exact at6 | exact at9 | fail)) (by rfl) (by simp only [Act.put, zA, zB, zC]; rfl) ?_)
    | ((with_reducible refine wpl_store ?_); refine wpList_store_box rfl (by rfl) hO rfl _ (by exact at9) rfl (by rfl) (by rfl) (by rfl) (by rfl) (by rfl) ?_; clear hO; intro u hO; simp only [zC, zB] at hO)
    | fail)
  refine (CEr _ _ _ (hO.rdp 0 rfl hvo6) (hO.rdp 5 rfl hvo3)).mono ?_
  rintro e u ⟨rfl, hb⟩
  (replace hO := hO.step hb; clear hb)
  go_wp2_with (first
    | ((with_reducible refine wpl_alloc ?_); refine wpList_alloc_own rfl (by rfl) hO rfl (fun b => by simp only [Act.put, zA, zB, zC]; rfl) ?_; (first | (refine nm 0 rfl ?_; clear hO; intro b0 u hO) | (refine nm 1 rfl ?_; clear hO; intro b1 u hO) | (refine nm 2 rfl ?_; clear hO; intro b2 u hO) | (refine nm 3 rfl ?_; clear hO; intro b3 u hO) | (refine nm 4 rfl ?_; clear hO; intro b4 u hO) | (refine nm 5 rfl ?_; clear hO; intro b5 u hO) | (refine nm 6 rfl ?_; clear hO; intro b6 u hO) | (refine nm 7 rfl ?_; clear hO; intro b7 u hO) | (refine nm 8 rfl ?_; clear hO; intro b8 u hO) | (refine nm 9 rfl ?_; clear hO; intro b9 u hO) | (refine nm 10 rfl ?_; clear hO; intro b10 u hO) | (refine nm 11 rfl ?_; clear hO; intro b11 u hO) | (refine nm 12 rfl ?_; clear hO; intro b12 u hO) | (refine nm 13 rfl ?_; clear hO; intro b13 u hO) | (refine nm 14 rfl ?_; clear hO; intro b14 u hO) | (refine nm 15 rfl ?_; clear hO; intro b15 u hO)); simp only [zL, zK] at hO)
    | ((with_reducible refine wpl_box ?_); refine wpList_box_own rfl (by rfl) hO rfl rfl (fun b => by simp only [Act.put, zA, zB, zC]; rfl) ?_; (first | (refine nm 0 rfl ?_; clear hO; intro b0 u hO) | (refine nm 1 rfl ?_; clear hO; intro b1 u hO) | (refine nm 2 rfl ?_; clear hO; intro b2 u hO) | (refine nm 3 rfl ?_; clear hO; intro b3 u hO) | (refine nm 4 rfl ?_; clear hO; intro b4 u hO) | (refine nm 5 rfl ?_; clear hO; intro b5 u hO) | (refine nm 6 rfl ?_; clear hO; intro b6 u hO) | (refine nm 7 rfl ?_; clear hO; intro b7 u hO) | (refine nm 8 rfl ?_; clear hO; intro b8 u hO) | (refine nm 9 rfl ?_; clear hO; intro b9 u hO) | (refine nm 10 rfl ?_; clear hO; intro b10 u hO) | (refine nm 11 rfl ?_; clear hO; intro b11 u hO) | (refine nm 12 rfl ?_; clear hO; intro b12 u hO) | (refine nm 13 rfl ?_; clear hO; intro b13 u hO) | (refine nm 14 rfl ?_; clear hO; intro b14 u hO) | (refine nm 15 rfl ?_; clear hO; intro b15 u hO)); simp only [zL, zK] at hO)
    | ((with_reducible refine wpl_load ?_); refine wpList_load_box rfl (by (first | rfl | (simp only [Region.wanted, yielded, *]; go_simp; done) | (simp [Region.wanted, yielded, *]; done) | fail)) hO rfl _ (by (first | exact at0 | exact at1 | exact at2 | exact at3 | exact at4 | exact at5 | exact at6 | exact at7 | exact at8 | exact at9 | exact at10 | exact at11 | exact at12 | exact at13 | exact at14 | exact at15)) (by rfl) (by simp only [Act.put, zA, zB, zC]; rfl) ?_)
    | ((with_reducible refine wpl_load ?_); refine wpList_load_field rfl (by (first | rfl | (simp only [Region.wanted, yielded, *]; go_simp; done) | (simp [Region.wanted, yielded, *]; done) | fail)) hO rfl _ (by (first | exact at0 | exact at1 | exact at2 | exact at3 | exact at4 | exact at5 | exact at6 | exact at7 | exact at8 | exact at9 | exact at10 | exact at11 | exact at12 | exact at13 | exact at14 | exact at15)) (by rfl) (by simp only [Act.put, zA, zB, zC]; rfl) ?_)
    | ((with_reducible refine wpl_store ?_); refine wpList_store_box rfl (by rfl) hO rfl _ (by (first | exact at0 | exact at1 | exact at2 | exact at3 | exact at4 | exact at5 | exact at6 | exact at7 | exact at8 | exact at9 | exact at10 | exact at11 | exact at12 | exact at13 | exact at14 | exact at15)) rfl (by rfl) (by rfl) (by rfl) (by rfl) (by rfl) ?_; clear hO; intro u hO; simp only [zC, zB] at hO)
    | ((with_reducible refine wpl_store ?_); refine wpList_store_field rfl (by rfl) hO rfl _ (by (first | exact at0 | exact at1 | exact at2 | exact at3 | exact at4 | exact at5 | exact at6 | exact at7 | exact at8 | exact at9 | exact at10 | exact at11 | exact at12 | exact at13 | exact at14 | exact at15)) (zM rfl) (by simp only [Act.eval, zJ, zF, zD, zE, zP]; rfl) (by rfl) (by rfl) (by rfl) ?_; clear hO; intro u hO; simp only [zC, zB] at hO)
    | fail)
  refine J.wp_region_c (n := 127) [0, 1] [2] (deps := fun i => [[], [], [1], [], []].getD i []) (fun _ _ => (J.freshV (.mk x1k x1i x1p x1n x1c x1l x1o x1e))) (r := 2) (lst := #[true, true, true, false, false]) (by kernel_rfl) (by kernel_rfl) (by kernel_rfl) rfl (by decide) (by kernel_rfl) hO ?_
  refine J.Chain.cons (by rfl) (by rfl) (fun M u hO K hK => by (exact wp_load_box hO rfl rfl _ (by exact at7) (by rfl) (by rfl) (hK _ hO))) (by simp only [J.putL, zI, zG, zH, J.dstOf, zF, zD, zE, zS, zQ, zR, Act.put, zA, zB, zC]; rfl) ?_
  refine J.Chain.cons (by rfl) (by rfl) (fun M u hO K hK => by (exact wp_load_box hO rfl rfl _ (by exact at3) (by rfl) (by rfl) (hK _ hO))) (by simp only [J.putL, zI, zG, zH, J.dstOf, zF, zD, zE, zS, zQ, zR, Act.put, zA, zB, zC]; rfl) ?_
  refine J.Chain.nil ⟨?_, ?_⟩
  · refine J.Each.cons (by rfl) ?_ ?_; exact ⟨rfl, fun vs M u hO _ K hK => by ((try simp only [J.putL, zI, zG, zH, J.dstOf, zF, zD, zE, zS, zQ, zR, Act.put, zA, zB, zC]); (try simp only [wp_at_zero, wp_at_succ]); go_step; refine (CU1 _ hO.below).mono ?_; rintro e u ⟨vs7', F7', rfl, hvo7, hb⟩; have hK' := hK _ _ _ (show (J.freshV (.mk x1k x1i x1p x1n x1c x1l x1o x1e)) _ from ⟨vs7', F7', rfl, hvo7⟩) ((hO.call hb).perm List.perm_append_comm); clear hK; simp only [J.putL, zI, zG, zH, J.dstOf, zF, zD, zE, zS, zQ, zR, Act.put, zA, zB, zC] at hK'; exact hK')⟩; exact J.Each.nil
  intro vs u hO hF
  obtain ⟨vs7', F7', h2, hvo7⟩ : (J.freshV (.mk x1k x1i x1p x1n x1c x1l x1o x1e)) (vs 2) := hF 2 (by decide)
  clear hF
  simp only [List.flatMap_cons, List.flatMap_nil, h2, List.append_nil, zL, zK] at hO
  simp only [h2, J.putL, zI, zG, zH, J.dstOf, zF, zD, zE, zS, zQ, zR, Act.put, zA, zB, zC]
  clear h2 vs
  refine J.wpAny_one (i := 3) (by kernel_rfl) (by rfl) rfl fun K hK => ?_
  simp only [wp_at_zero, wp_at_succ]
  go_step
  refine (CE1 _ _ _ (hO.rdp 2 rfl hvo4) (hO.rdp 10 rfl hvo7)).mono ?_
  rintro e u ⟨rfl, hb⟩
  (replace hO := hO.step hb; clear hb)
  refine hK _ _ ?_
  clear hK K
  refine J.wpAny_one (i := 4) (by kernel_rfl) (by rfl) rfl fun K hK => ?_
  simp only [wp_at_zero, wp_at_succ]
  go_step
  refine hK _ _ ?_
  clear hK K
  refine wpAny_done (by kernel_rfl) ?_ _
  go_wp2_with (first
    | ((with_reducible refine wpl_alloc ?_); refine wpList_alloc_own rfl (by rfl) hO rfl (fun b => by simp only [Act.put, zA, zB, zC]; rfl) ?_; (first | (refine nm 0 rfl ?_; clear hO; intro b0 u hO) | (refine nm 1 rfl ?_; clear hO; intro b1 u hO) | (refine nm 2 rfl ?_; clear hO; intro b2 u hO) | (refine nm 3 rfl ?_; clear hO; intro b3 u hO) | (refine nm 4 rfl ?_; clear hO; intro b4 u hO) | (refine nm 5 rfl ?_; clear hO; intro b5 u hO) | (refine nm 6 rfl ?_; clear hO; intro b6 u hO) | (refine nm 7 rfl ?_; clear hO; intro b7 u hO) | (refine nm 8 rfl ?_; clear hO; intro b8 u hO) | (refine nm 9 rfl ?_; clear hO; intro b9 u hO) | (refine nm 10 rfl ?_; clear hO; intro b10 u hO) | (refine nm 11 rfl ?_; clear hO; intro b11 u hO) | (refine nm 12 rfl ?_; clear hO; intro b12 u hO) | (refine nm 13 rfl ?_; clear hO; intro b13 u hO) | (refine nm 14 rfl ?_; clear hO; intro b14 u hO) | (refine nm 15 rfl ?_; clear hO; intro b15 u hO)); simp only [zL, zK] at hO)
    | ((with_reducible refine wpl_box ?_); refine wpList_box_own rfl (by rfl) hO rfl rfl (fun b => by simp only [Act.put, zA, zB, zC]; rfl) ?_; (first | (refine nm 0 rfl ?_; clear hO; intro b0 u hO) | (refine nm 1 rfl ?_; clear hO; intro b1 u hO) | (refine nm 2 rfl ?_; clear hO; intro b2 u hO) | (refine nm 3 rfl ?_; clear hO; intro b3 u hO) | (refine nm 4 rfl ?_; clear hO; intro b4 u hO) | (refine nm 5 rfl ?_; clear hO; intro b5 u hO) | (refine nm 6 rfl ?_; clear hO; intro b6 u hO) | (refine nm 7 rfl ?_; clear hO; intro b7 u hO) | (refine nm 8 rfl ?_; clear hO; intro b8 u hO) | (refine nm 9 rfl ?_; clear hO; intro b9 u hO) | (refine nm 10 rfl ?_; clear hO; intro b10 u hO) | (refine nm 11 rfl ?_; clear hO; intro b11 u hO) | (refine nm 12 rfl ?_; clear hO; intro b12 u hO) | (refine nm 13 rfl ?_; clear hO; intro b13 u hO) | (refine nm 14 rfl ?_; clear hO; intro b14 u hO) | (refine nm 15 rfl ?_; clear hO; intro b15 u hO)); simp only [zL, zK] at hO)
    | ((with_reducible refine wpl_load ?_); refine wpList_load_box rfl (by (first | rfl | (simp only [Region.wanted, yielded, *]; go_simp; done) | (simp [Region.wanted, yielded, *]; done) | fail)) hO rfl _ (by (first | exact at0 | exact at1 | exact at2 | exact at3 | exact at4 | exact at5 | exact at6 | exact at7 | exact at8 | exact at9 | exact at10 | exact at11 | exact at12 | exact at13 | exact at14 | exact at15)) (by rfl) (by simp only [Act.put, zA, zB, zC]; rfl) ?_)
    | ((with_reducible refine wpl_load ?_); refine wpList_load_field rfl (by (first | rfl | (simp only [Region.wanted, yielded, *]; go_simp; done) | (simp [Region.wanted, yielded, *]; done) | fail)) hO rfl _ (by (first | exact at0 | exact at1 | exact at2 | exact at3 | exact at4 | exact at5 | exact at6 | exact at7 | exact at8 | exact at9 | exact at10 | exact at11 | exact at12 | exact at13 | exact at14 | exact at15)) (by rfl) (by simp only [Act.put, zA, zB, zC]; rfl) ?_)
    | ((with_reducible refine wpl_store ?_); refine wpList_store_box rfl (by rfl) hO rfl _ (by (first | exact at0 | exact at1 | exact at2 | exact at3 | exact at4 | exact at5 | exact at6 | exact at7 | exact at8 | exact at9 | exact at10 | exact at11 | exact at12 | exact at13 | exact at14 | exact at15)) rfl (by rfl) (by rfl) (by rfl) (by rfl) (by rfl) ?_; clear hO; intro u hO; simp only [zC, zB] at hO)
    | ((with_reducible refine wpl_store ?_); refine wpList_store_field rfl (by rfl) hO rfl _ (by (first | exact at0 | exact at1 | exact at2 | exact at3 | exact at4 | exact at5 | exact at6 | exact at7 | exact at8 | exact at9 | exact at10 | exact at11 | exact at12 | exact at13 | exact at14 | exact at15)) (zM rfl) (by simp only [Act.eval, zJ, zF, zD, zE, zP]; rfl) (by rfl) (by rfl) (by rfl) ?_; clear hO; intro u hO; simp only [zC, zB] at hO)
    | fail)
  replace hO := hO.pick [0, 1, 2, 3, 4, 5, 6, 7, 8, 9] (by decide)
  simp only [zN, zO, zE, zD] at hO
  refine J.wp_region_c (n := 127) [0, 1] [2] (deps := fun i => [[], [], [1], [], []].getD i []) (fun _ _ => (J.freshV (.mk x2k x2i x2p x2n x2c x2l x2o x2e))) (r := 2) (lst := #[true, true, true, false, false]) (by kernel_rfl) (by kernel_rfl) (by kernel_rfl) rfl (by decide) (by kernel_rfl) hO ?_
  refine J.Chain.cons (by rfl) (by rfl) (fun M u hO K hK => by (exact wp_load_box hO rfl rfl _ (by exact at8) (by rfl) (by rfl) (hK _ hO))) (by simp only [J.putL, zI, zG, zH, J.dstOf, zF, zD, zE, zS, zQ, zR, Act.put, zA, zB, zC]; rfl) ?_
  refine J.Chain.cons (by rfl) (by rfl) (fun M u hO K hK => by (exact wp_load_box hO rfl rfl _ (by exact at4) (by rfl) (by rfl) (hK _ hO))) (by simp only [J.putL, zI, zG, zH, J.dstOf, zF, zD, zE, zS, zQ, zR, Act.put, zA, zB, zC]; rfl) ?_
  refine J.Chain.nil ⟨?_, ?_⟩
  · refine J.Each.cons (by rfl) ?_ ?_; exact ⟨rfl, fun vs M u hO _ K hK => by ((try simp only [J.putL, zI, zG, zH, J.dstOf, zF, zD, zE, zS, zQ, zR, Act.put, zA, zB, zC]); (try simp only [wp_at_zero, wp_at_succ]); go_step; refine (CU2 _ hO.below).mono ?_; rintro e u ⟨vs8', F8', rfl, hvo8, hb⟩; have hK' := hK _ _ _ (show (J.freshV (.mk x2k x2i x2p x2n x2c x2l x2o x2e)) _ from ⟨vs8', F8', rfl, hvo8⟩) ((hO.call hb).perm List.perm_append_comm); clear hK; simp only [J.putL, zI, zG, zH, J.dstOf, zF, zD, zE, zS, zQ, zR, Act.put, zA, zB, zC] at hK'; exact hK')⟩; exact J.Each.nil
  intro vs u hO hF
  obtain ⟨vs8', F8', h2, hvo8⟩ : (J.freshV (.mk x2k x2i x2p x2n x2c x2l x2o x2e)) (vs 2) := hF 2 (by decide)
  clear hF
  simp only [List.flatMap_cons, List.flatMap_nil, h2, List.append_nil, zL, zK] at hO
  simp only [h2, J.putL, zI, zG, zH, J.dstOf, zF, zD, zE, zS, zQ, zR, Act.put, zA, zB, zC]
  clear h2 vs
  refine J.wpAny_one (i := 3) (by kernel_rfl) (by rfl) rfl fun K hK => ?_
  simp only [wp_at_zero, wp_at_succ]
  go_step
  refine (CE2 _ _ _ (hO.rdp 1 rfl hvo5) (hO.rdp 10 rfl hvo8)).mono ?_
  rintro e u ⟨rfl, hb⟩
  (replace hO := hO.step hb; clear hb)
  refine hK _ _ ?_
  clear hK K
  refine J.wpAny_one (i := 4) (by kernel_rfl) (by rfl) rfl fun K hK => ?_
  simp only [wp_at_zero, wp_at_succ]
  go_step
  refine hK _ _ ?_
  clear hK K
  refine wpAny_done (by kernel_rfl) ?_ _
  go_wp2_with (first
    | ((with_reducible refine wpl_load ?_); refine wpList_load_box rfl (by rfl) hO rfl _ (by exact at7) (by rfl) (by simp only [Act.put, zA, zB, zC]; rfl) ?_)
    | fail)
  replace hO := hO.pick [0, 1, 2, 3, 4, 5, 6, 7, 8, 9] (by decide)
  simp only [zN, zO, zE, zD] at hO
  replace hO := hO.pick [2, 0, 1, 3, 4, 5, 6, 7, 8, 9] (by decide)
  simp only [zN, zO, zE, zD] at hO
  refine (CM1 _ _ _ _ _ hvo4 hO).mono ?_
  clear hO
  rintro e u ⟨rfl, F9', hvo9, hO⟩
  go_wp2_with (first
    | ((with_reducible refine wpl_load ?_); refine wpList_load_box rfl (by rfl) hO rfl _ (by exact at8) (by rfl) (by simp only [Act.put, zA, zB, zC]; rfl) ?_)
    | fail)
  replace hO := hO.pick [2, 0, 1, 3, 4, 5, 6, 7, 8, 9] (by decide)
  simp only [zN, zO, zE, zD] at hO
  refine (CM2 _ _ _ _ _ hvo5 hO).mono ?_
  clear hO
  rintro e u ⟨rfl, F10', hvo10, hO⟩
  go_wp2_with (first
    | ((with_reducible refine wpl_load ?_); refine wpList_load_box rfl (by rfl) hO rfl _ (by (first | exact at6 | exact at9 | fail)) (by rfl) (by simp only [Act.put, zA, zB, zC]; rfl) ?_)
    | fail)
  refine (CEr _ _ _ (hO.rdp 2 rfl hvo6) (hO.rdp 5 rfl hvo3)).mono ?_
  rintro e u ⟨rfl, hb⟩
  (replace hO := hO.step hb; clear hb)
  go_wp2_with (first
    | ((with_reducible refine wpl_load ?_); refine wpList_load_box rfl (by rfl) hO rfl _ (by exact at9) (by rfl) (by simp only [Act.put, zA, zB, zC]; rfl) ?_)
    | fail)
  replace hO := hO.pick [2, 0, 1, 3, 4, 5, 6, 7, 8, 9] (by decide)
  simp only [zN, zO, zE, zD] at hO
  refine (CMr _ _ _ _ _ hvo6 hO).mono ?_
  clear hO
  rintro e u ⟨rfl, F11', hvo11, hO⟩
  go_wp2_with (first
    | ((with_reducible refine wpl_load ?_); refine wpList_load_box rfl (by rfl) hO rfl _ (by exact at9) (by rfl) (by simp only [Act.put, zA, zB, zC]; rfl) ?_)
    | fail)
  refine (CHr _ _ (hO.rdp 0 rfl hvo11)).mono ?_
  rintro e u ⟨rfl, hb⟩
  (replace hO := hO.step hb; clear hb)
  go_wp2_with (first
    | ((with_reducible refine wpl_alloc ?_); refine wpList_alloc_own rfl (by rfl) hO rfl (fun b => by simp only [Act.put, zA, zB, zC]; rfl) ?_; (first | (refine nm 0 rfl ?_; clear hO; intro b0 u hO) | (refine nm 1 rfl ?_; clear hO; intro b1 u hO) | (refine nm 2 rfl ?_; clear hO; intro b2 u hO) | (refine nm 3 rfl ?_; clear hO; intro b3 u hO) | (refine nm 4 rfl ?_; clear hO; intro b4 u hO) | (refine nm 5 rfl ?_; clear hO; intro b5 u hO) | (refine nm 6 rfl ?_; clear hO; intro b6 u hO) | (refine nm 7 rfl ?_; clear hO; intro b7 u hO) | (refine nm 8 rfl ?_; clear hO; intro b8 u hO) | (refine nm 9 rfl ?_; clear hO; intro b9 u hO) | (refine nm 10 rfl ?_; clear hO; intro b10 u hO) | (refine nm 11 rfl ?_; clear hO; intro b11 u hO) | (refine nm 12 rfl ?_; clear hO; intro b12 u hO) | (refine nm 13 rfl ?_; clear hO; intro b13 u hO) | (refine nm 14 rfl ?_; clear hO; intro b14 u hO) | (refine nm 15 rfl ?_; clear hO; intro b15 u hO)); simp only [zL, zK] at hO)
    | ((with_reducible refine wpl_box ?_); refine wpList_box_own rfl (by rfl) hO rfl rfl (fun b => by simp only [Act.put, zA, zB, zC]; rfl) ?_; (first | (refine nm 0 rfl ?_; clear hO; intro b0 u hO) | (refine nm 1 rfl ?_; clear hO; intro b1 u hO) | (refine nm 2 rfl ?_; clear hO; intro b2 u hO) | (refine nm 3 rfl ?_; clear hO; intro b3 u hO) | (refine nm 4 rfl ?_; clear hO; intro b4 u hO) | (refine nm 5 rfl ?_; clear hO; intro b5 u hO) | (refine nm 6 rfl ?_; clear hO; intro b6 u hO) | (refine nm 7 rfl ?_; clear hO; intro b7 u hO) | (refine nm 8 rfl ?_; clear hO; intro b8 u hO) | (refine nm 9 rfl ?_; clear hO; intro b9 u hO) | (refine nm 10 rfl ?_; clear hO; intro b10 u hO) | (refine nm 11 rfl ?_; clear hO; intro b11 u hO) | (refine nm 12 rfl ?_; clear hO; intro b12 u hO) | (refine nm 13 rfl ?_; clear hO; intro b13 u hO) | (refine nm 14 rfl ?_; clear hO; intro b14 u hO) | (refine nm 15 rfl ?_; clear hO; intro b15 u hO)); simp only [zL, zK] at hO)
    | ((with_reducible refine wpl_load ?_); refine wpList_load_box rfl (by (first | rfl | (simp only [Region.wanted, yielded, *]; go_simp; done) | (simp [Region.wanted, yielded, *]; done) | fail)) hO rfl _ (by (first | exact at0 | exact at1 | exact at2 | exact at3 | exact at4 | exact at5 | exact at6 | exact at7 | exact at8 | exact at9 | exact at10 | exact at11 | exact at12 | exact at13 | exact at14 | exact at15)) (by rfl) (by simp only [Act.put, zA, zB, zC]; rfl) ?_)
    | ((with_reducible refine wpl_load ?_); refine wpList_load_field rfl (by (first | rfl | (simp only [Region.wanted, yielded, *]; go_simp; done) | (simp [Region.wanted, yielded, *]; done) | fail)) hO rfl _ (by (first | exact at0 | exact at1 | exact at2 | exact at3 | exact at4 | exact at5 | exact at6 | exact at7 | exact at8 | exact at9 | exact at10 | exact at11 | exact at12 | exact at13 | exact at14 | exact at15)) (by rfl) (by simp only [Act.put, zA, zB, zC]; rfl) ?_)
    | ((with_reducible refine wpl_store ?_); refine wpList_store_box rfl (by rfl) hO rfl _ (by (first | exact at0 | exact at1 | exact at2 | exact at3 | exact at4 | exact at5 | exact at6 | exact at7 | exact at8 | exact at9 | exact at10 | exact at11 | exact at12 | exact at13 | exact at14 | exact at15)) rfl (by rfl) (by rfl) (by rfl) (by rfl) (by rfl) ?_; clear hO; intro u hO; simp only [zC, zB] at hO)
    | ((with_reducible refine wpl_store ?_); refine wpList_store_field rfl (by rfl) hO rfl _ (by (first | exact at0 | exact at1 | exact at2 | exact at3 | exact at4 | exact at5 | exact at6 | exact at7 | exact at8 | exact at9 | exact at10 | exact at11 | exact at12 | exact at13 | exact at14 | exact at15)) (zM rfl) (by simp only [Act.eval, zJ, zF, zD, zE, zP]; rfl) (by rfl) (by rfl) (by rfl) ?_; clear hO; intro u hO; simp only [zC, zB] at hO)
    | fail)
  refine J.wp_region_e (n := 127) [0, 1, 3] [2, 4, 5, 6, 7, 8, 9] 8 (deps := fun i => [[], [], [1], [], [3], [0, 1, 2, 3, 4], [0, 1, 2, 3, 4, 5], [0, 1, 2, 3, 4, 5, 6], [0, 1, 2, 3, 4, 5, 6], [], [], []].getD i []) (fun i d => [fun _ => True, fun _ => True, (J.freshV (.mk x1k x1i x1p x1n x1c x1l x1o x1e)), fun _ => True, (J.freshV (.mk x2k x2i x2p x2n x2c x2l x2o x2e)), (J.freshVE r (.string s)), (fun x => x = ((d 5).1, [])), (J.isFst ((d 6).1)), (J.isSnd ((d 6).1)), J.fresh 29 [.int .i64 0, .slice none 0 0, .slice none 0 0, .slice none 0 0, .slice none 0 0, .slice none 0 0, .int .i64 0, .int .i64 0], fun _ => True, fun _ => True].getD i (fun _ => True)) (r := 2) (lst := #[true, true, true, true, true, true, true, true, true, true, false, false]) (lst2 := #[true, true, true, true, true, true, true, true, false, true, false, false]) (by kernel_rfl) (by kernel_rfl) (by kernel_rfl) (by kernel_rfl) (by kernel_rfl) rfl (by decide) (by kernel_rfl) hO ?_
  refine J.Chain.cons (by rfl) (by rfl) (fun M u hO K hK => by (simp only [wp_at_zero, wp_at_succ]; go_step; exact hK _ hO)) (by simp only [J.putL, zI, zG, zH, J.dstOf, zF, zD, zE, zS, zQ, zR, Act.put, zA, zB, zC]; rfl) ?_
  refine J.Chain.cons (by rfl) (by rfl) (fun M u hO K hK => by (exact wp_load_box hO rfl rfl _ (by exact at3) (by rfl) (by rfl) (hK _ hO))) (by simp only [J.putL, zI, zG, zH, J.dstOf, zF, zD, zE, zS, zQ, zR, Act.put, zA, zB, zC]; rfl) ?_
  refine J.Chain.cons (by rfl) (by rfl) (fun M u hO K hK => by (exact wp_load_box hO rfl rfl _ (by exact at4) (by rfl) (by rfl) (hK _ hO))) (by simp only [J.putL, zI, zG, zH, J.dstOf, zF, zD, zE, zS, zQ, zR, Act.put, zA, zB, zC]; rfl) ?_
  refine J.Chain.nil ⟨?_, ?_, ?_⟩
  · refine J.Each.cons (by rfl) ?_ ?_; exact ⟨rfl, fun vs M u hO _ K hK => by ((try simp only [J.putL, zI, zG, zH, J.dstOf, zF, zD, zE, zS, zQ, zR, Act.put, zA, zB, zC]); (try simp only [wp_at_zero, wp_at_succ]); go_step; refine (CU1 _ hO.below).mono ?_; rintro e u ⟨vs12', F12', rfl, hvo12, hb⟩; have hK' := hK _ _ _ (show (J.freshV (.mk x1k x1i x1p x1n x1c x1l x1o x1e)) _ from ⟨vs12', F12', rfl, hvo12⟩) ((hO.call hb).perm List.perm_append_comm); clear hK; simp only [J.putL, zI, zG, zH, J.dstOf, zF, zD, zE, zS, zQ, zR, Act.put, zA, zB, zC] at hK'; exact hK')⟩; refine J.Each.cons (by rfl) ?_ ?_; exact ⟨rfl, fun vs M u hO _ K hK => by ((try simp only [J.putL, zI, zG, zH, J.dstOf, zF, zD, zE, zS, zQ, zR, Act.put, zA, zB, zC]); (try simp only [wp_at_zero, wp_at_succ]); go_step; refine (CU2 _ hO.below).mono ?_; rintro e u ⟨vs13', F13', rfl, hvo13, hb⟩; have hK' := hK _ _ _ (show (J.freshV (.mk x2k x2i x2p x2n x2c x2l x2o x2e)) _ from ⟨vs13', F13', rfl, hvo13⟩) ((hO.call hb).perm List.perm_append_comm); clear hK; simp only [J.putL, zI, zG, zH, J.dstOf, zF, zD, zE, zS, zQ, zR, Act.put, zA, zB, zC] at hK'; exact hK')⟩; refine J.Each.cons (by rfl) ?_ ?_; exact ⟨rfl, fun vs M u hO hF K hK => by ((try simp only [J.putL, zI, zG, zH, J.dstOf, zF, zD, zE, zS, zQ, zR, Act.put, zA, zB, zC]); obtain ⟨vs12', F12', e2, hvo12⟩ := (hF 2 (by decide) (by decide)).1; have s2 := (hF 2 (by decide) (by decide)).2; rw [e2] at s2; have o2 := hO.sub (List.Sublist.append_left s2 _); obtain ⟨vs13', F13', e4, hvo13⟩ := (hF 4 (by decide) (by decide)).1; have s4 := (hF 4 (by decide) (by decide)).2; rw [e4] at s4; have o4 := hO.sub (List.Sublist.append_left s4 _); (try simp only [wp_at_zero, wp_at_succ]); simp only [e2, e4]; go_step; refine (CI _ _ _  (o2.rdp 10 rfl hvo12) (o4.rdp 10 rfl hvo13)).mono ?_; rintro e u ⟨Q141, Q142, Q143, Q144, Q145, m141, m142, m143, m144, m145, W14, rfl, hvo14, hb⟩; have hK' := hK _ _ _ (show (J.freshVE r (.string s)) _ from ⟨Q141, Q142, Q143, Q144, Q145, m141, m142, m143, m144, m145, W14, rfl, hvo14⟩) ((hO.call hb).perm List.perm_append_comm); clear hK; simp only [J.putL, zI, zG, zH, J.dstOf, zF, zD, zE, zS, zQ, zR, Act.put, zA, zB, zC, e2, e4] at hK'; exact hK')⟩; refine J.Each.cons (by rfl) ?_ ?_; exact ⟨rfl, fun vs M u hO hF K hK => by ((try simp only [J.putL, zI, zG, zH, J.dstOf, zF, zD, zE, zS, zQ, zR, Act.put, zA, zB, zC]); obtain ⟨vs12', F12', e2, hvo12⟩ := (hF 2 (by decide) (by decide)).1; obtain ⟨vs13', F13', e4, hvo13⟩ := (hF 4 (by decide) (by decide)).1; obtain ⟨Q141, Q142, Q143, Q144, Q145, m141, m142, m143, m144, m145, W14, e5, hvo14⟩ := (hF 5 (by decide) (by decide)).1; have hK' := hK (Value.tuple #[.agg #[.int .i64 r.kind, .slice Q141 r.items.length m141, .slice Q142 r.parts.length m142, .slice Q143 r.names.length m143, .slice Q144 r.cls.length m144, .slice Q145 r.levels.length m145, .int .i64 r.code, .int .i64 r.env], .string s]) [] u (show (Value.tuple #[.agg #[.int .i64 r.kind, .slice Q141 r.items.length m141, .slice Q142 r.parts.length m142, .slice Q143 r.names.length m143, .slice Q144 r.cls.length m144, .slice Q145 r.levels.length m145, .int .i64 r.code, .int .i64 r.env], .string s], ([] : List Res)) = ((vs 5).1, []) from by simp only [e2, e4, e5]) (by rw [List.append_nil]; exact hO); clear hK hF; simp only [J.putL, zI, zG, zH, J.dstOf, zF, zD, zE, zS, zQ, zR, Act.put, zA, zB, zC, e2, e4, e5] at hK' ⊢; (try simp only [wp_at_zero, wp_at_succ]); go_step; exact hK')⟩; refine J.Each.cons (by rfl) ?_ ?_; exact ⟨rfl, fun vs M u hO hF K hK => by ((try simp only [J.putL, zI, zG, zH, J.dstOf, zF, zD, zE, zS, zQ, zR, Act.put, zA, zB, zC]); obtain ⟨vs12', F12', e2, hvo12⟩ := (hF 2 (by decide) (by decide)).1; obtain ⟨vs13', F13', e4, hvo13⟩ := (hF 4 (by decide) (by decide)).1; obtain ⟨Q141, Q142, Q143, Q144, Q145, m141, m142, m143, m144, m145, W14, e5, hvo14⟩ := (hF 5 (by decide) (by decide)).1; have e6 : vs 6 = ((vs 5).1, []) := (hF 6 (by decide) (by decide)).1; simp only [e2, e4, e5] at e6; have hK' := hK (Value.agg #[.int .i64 r.kind, .slice Q141 r.items.length m141, .slice Q142 r.parts.length m142, .slice Q143 r.names.length m143, .slice Q144 r.cls.length m144, .slice Q145 r.levels.length m145, .int .i64 r.code, .int .i64 r.env]) [] u (show J.isFst ((vs 6).1) _ from by rw [e6]; exact J.isFst_of) (by rw [List.append_nil]; exact hO); clear hK hF; simp only [J.putL, zI, zG, zH, J.dstOf, zF, zD, zE, zS, zQ, zR, Act.put, zA, zB, zC, e2, e4, e5, e6] at hK' ⊢; (try simp only [wp_at_zero, wp_at_succ]); go_step; exact hK')⟩; refine J.Each.cons (by rfl) ?_ ?_; exact ⟨rfl, fun vs M u hO hF K hK => by ((try simp only [J.putL, zI, zG, zH, J.dstOf, zF, zD, zE, zS, zQ, zR, Act.put, zA, zB, zC]); obtain ⟨vs12', F12', e2, hvo12⟩ := (hF 2 (by decide) (by decide)).1; obtain ⟨vs13', F13', e4, hvo13⟩ := (hF 4 (by decide) (by decide)).1; obtain ⟨Q141, Q142, Q143, Q144, Q145, m141, m142, m143, m144, m145, W14, e5, hvo14⟩ := (hF 5 (by decide) (by decide)).1; have e6 : vs 6 = ((vs 5).1, []) := (hF 6 (by decide) (by decide)).1; simp only [e2, e4, e5] at e6; have hK' := hK (Value.string s) [] u (show J.isSnd ((vs 6).1) _ from by rw [e6]; exact J.isSnd_of) (by rw [List.append_nil]; exact hO); clear hK hF; simp only [J.putL, zI, zG, zH, J.dstOf, zF, zD, zE, zS, zQ, zR, Act.put, zA, zB, zC, e2, e4, e5, e6] at hK' ⊢; (try simp only [wp_at_zero, wp_at_succ]); go_step; exact hK')⟩; refine J.Each.cons (by rfl) ?_ ?_; exact ⟨rfl, fun vs M u hO _ K hK => by (refine wp_alloc_own hO rfl rfl fun b u hO => ?_; exact hK _ _ _ (show J.fresh 29 [.int .i64 0, .slice none 0 0, .slice none 0 0, .slice none 0 0, .slice none 0 0, .slice none 0 0, .int .i64 0, .int .i64 0] _ from ⟨b, rfl⟩) hO)⟩; exact J.Each.nil
  intro vs uz hO hF
  obtain ⟨vs12', F12', h2, hvo12⟩ : (J.freshV (.mk x1k x1i x1p x1n x1c x1l x1o x1e)) (vs 2) := hF 2 (by decide)
  obtain ⟨vs13', F13', h4, hvo13⟩ : (J.freshV (.mk x2k x2i x2p x2n x2c x2l x2o x2e)) (vs 4) := hF 4 (by decide)
  obtain ⟨Q141, Q142, Q143, Q144, Q145, m141, m142, m143, m144, m145, W14, h5, hvo14⟩ : (J.freshVE r (.string s)) (vs 5) := hF 5 (by decide)
  have h6 : vs 6 = ((vs 5).1, []) := hF 6 (by decide)
  simp only [h2, h4, h5] at h6
  have q7 : J.isFst ((vs 6).1) (vs 7) := hF 7 (by decide)
  rw [h6] at q7
  have h7 := J.isFst_eq q7
  clear q7
  have q8 : J.isSnd ((vs 6).1) (vs 8) := hF 8 (by decide)
  rw [h6] at q8
  have h8 := J.isSnd_eq q8
  clear q8
  obtain ⟨b6, h9⟩ : J.fresh _ _ (vs 9) := hF 9 (by decide)
  clear hF
  simp only [List.flatMap_cons, List.flatMap_nil, h2, h4, h5, h6, h7, h8, h9, List.append_nil, zL, zK] at hO
  simp only [h2, h4, h5, h6, h7, h8, h9, J.putL, zI, zG, zH, J.dstOf, zF, zD, zE, zS, zQ, zR, Act.put, zA, zB, zC]
  clear h2 h4 h5 h6 h7 h8 h9 vs
  refine J.wpAny_one (i := 10) (by kernel_rfl) (by rfl) rfl fun K hK => ?_
  (refine wp_store_box hO rfl rfl _ (by exact at13) rfl (by rfl) (by rfl) (by rfl) (by rfl) (by rfl) ?_; clear hO; intro u hO; simp only [zC, zB] at hO; refine hK _ _ ?_; clear hK K)
  refine J.wpAny_one (i := 11) (by kernel_rfl) (by rfl) rfl fun K hK => ?_
  simp only [wp_at_zero, wp_at_succ]
  go_step
  refine hK _ _ ?_
  clear hK K
  refine wpAny_done (by kernel_rfl) ?_ _
  revert vs12' F12' hvo12 vs13' F13' hvo13 Q141 Q142 Q143 Q144 Q145 m141 m142 m143 m144 m145 W14 hvo14 b6 u hO
  try clear uz
  refine ?key33
  rotate_left
  intro vs uz hO hF
  rw [show ([2, 4, 5, 6, 7, 8, 9] : List Nat).erase 8 = [2, 4, 5, 6, 7, 9] from by decide] at hO ⊢
  obtain ⟨vs12', F12', h2, hvo12⟩ : (J.freshV (.mk x1k x1i x1p x1n x1c x1l x1o x1e)) (vs 2) := hF 2 (by decide) (by decide)
  obtain ⟨vs13', F13', h4, hvo13⟩ : (J.freshV (.mk x2k x2i x2p x2n x2c x2l x2o x2e)) (vs 4) := hF 4 (by decide) (by decide)
  obtain ⟨Q141, Q142, Q143, Q144, Q145, m141, m142, m143, m144, m145, W14, h5, hvo14⟩ : (J.freshVE r (.string s)) (vs 5) := hF 5 (by decide) (by decide)
  have h6 : vs 6 = ((vs 5).1, []) := hF 6 (by decide) (by decide)
  simp only [h2, h4, h5] at h6
  have q7 : J.isFst ((vs 6).1) (vs 7) := hF 7 (by decide) (by decide)
  rw [h6] at q7
  have h7 := J.isFst_eq q7
  clear q7
  obtain ⟨b6, h9⟩ : J.fresh _ _ (vs 9) := hF 9 (by decide) (by decide)
  clear hF
  simp only [List.flatMap_cons, List.flatMap_nil, h2, h4, h5, h6, h7, h9, List.append_nil, zL, zK] at hO
  simp only [h2, h4, h5, h6, h7, h9, J.putL, zI, zG, zH, J.dstOf, zF, zD, zE, zS, zQ, zR, Act.put, zA, zB, zC]
  clear h2 h4 h5 h6 h7 h9 vs
  refine wpAny_ready (rs := [8, 10]) (by kernel_rfl) (by simp) ?_
  refine AllReady.cons rfl (fun K hK => ?_) (AllReady.cons rfl (fun K hK => ?_) (AllReady.nil))
  · rw [if_pos (by rfl)]
    simp only [wp_at_zero, wp_at_succ]
    go_step
    refine hK _ _ ?_
    clear hK K
    refine J.wpAny_one (i := 10) (by kernel_rfl) (by rfl) rfl fun K hK => ?_
    (refine wp_store_box hO rfl rfl _ (by exact at13) rfl (by rfl) (by rfl) (by rfl) (by rfl) (by rfl) ?_; clear hO; intro u hO; simp only [zC, zB] at hO; refine hK _ _ ?_; clear hK K)
    refine J.wpAny_one (i := 11) (by kernel_rfl) (by rfl) rfl fun K hK => ?_
    simp only [wp_at_zero, wp_at_succ]
    go_step
    refine hK _ _ ?_
    clear hK K
    refine wpAny_done (by kernel_rfl) ?_ _
    revert vs12' F12' hvo12 vs13' F13' hvo13 Q141 Q142 Q143 Q144 Q145 m141 m142 m143 m144 m145 W14 hvo14 b6 u hO
    try clear uz
    exact ?key33
  · rw [if_pos (by rfl)]
    (refine wp_store_box hO rfl rfl _ (by exact at13) rfl (by rfl) (by rfl) (by rfl) (by rfl) (by rfl) ?_; clear hO; intro u hO; simp only [zC, zB] at hO; refine hK _ _ ?_; clear hK K)
    refine J.wpAny_one (i := 8) (by kernel_rfl) (by rfl) rfl fun K hK => ?_
    simp only [wp_at_zero, wp_at_succ]
    go_step
    refine hK _ _ ?_
    clear hK K
    refine J.wpAny_one (i := 11) (by kernel_rfl) (by rfl) rfl fun K hK => ?_
    simp only [wp_at_zero, wp_at_succ]
    go_step
    refine hK _ _ ?_
    clear hK K
    refine wpAny_done (by kernel_rfl) ?_ _
    revert vs12' F12' hvo12 vs13' F13' hvo13 Q141 Q142 Q143 Q144 Q145 m141 m142 m143 m144 m145 W14 hvo14 b6 u hO
    try clear uz
    exact ?key33
  intro vs12' F12' hvo12 vs13' F13' hvo13 Q141 Q142 Q143 Q144 Q145 m141 m142 m143 m144 m145 W14 hvo14 b6 u hO
  go_wp2_with (first
    | ((with_reducible refine wpl_load ?_); refine wpList_load_box rfl (by rfl) hO rfl _ (by (first | exact at6 | exact at13 | fail)) (by rfl) (by simp only [Act.put, zA, zB, zC]; rfl) ?_)
    | fail)
  replace hO := hO.pick [0, 1, 2, 3, 4, 5, 6, 7, 8, 9, 12, 13] (by decide)
  simp only [zN, zO, zE, zD] at hO
  refine (CEr _ _ _ (hO.rdp 10 rfl hvo14) (hO.rdp 5 rfl hvo3)).mono ?_
  rintro e u ⟨rfl, hb⟩
  (replace hO := hO.step hb; clear hb)
  go_wp2_with (first
    | ((with_reducible refine wpl_load ?_); refine wpList_load_box rfl (by rfl) hO rfl _ (by exact at9) (by rfl) (by simp only [Act.put, zA, zB, zC]; rfl) ?_)
    | fail)
  refine (CHr _ _ (hO.rdp 0 rfl hvo11)).mono ?_
  rintro e u ⟨rfl, hb⟩
  (replace hO := hO.step hb; clear hb)
  go_wp2_with (first
    | ((with_reducible refine wpl_alloc ?_); refine wpList_alloc_own rfl (by rfl) hO rfl (fun b => by simp only [Act.put, zA, zB, zC]; rfl) ?_; (first | (refine nm 0 rfl ?_; clear hO; intro b0 u hO) | (refine nm 1 rfl ?_; clear hO; intro b1 u hO) | (refine nm 2 rfl ?_; clear hO; intro b2 u hO) | (refine nm 3 rfl ?_; clear hO; intro b3 u hO) | (refine nm 4 rfl ?_; clear hO; intro b4 u hO) | (refine nm 5 rfl ?_; clear hO; intro b5 u hO) | (refine nm 6 rfl ?_; clear hO; intro b6 u hO) | (refine nm 7 rfl ?_; clear hO; intro b7 u hO) | (refine nm 8 rfl ?_; clear hO; intro b8 u hO) | (refine nm 9 rfl ?_; clear hO; intro b9 u hO) | (refine nm 10 rfl ?_; clear hO; intro b10 u hO) | (refine nm 11 rfl ?_; clear hO; intro b11 u hO) | (refine nm 12 rfl ?_; clear hO; intro b12 u hO) | (refine nm 13 rfl ?_; clear hO; intro b13 u hO) | (refine nm 14 rfl ?_; clear hO; intro b14 u hO) | (refine nm 15 rfl ?_; clear hO; intro b15 u hO)); simp only [zL, zK] at hO)
    | ((with_reducible refine wpl_box ?_); refine wpList_box_own rfl (by rfl) hO rfl rfl (fun b => by simp only [Act.put, zA, zB, zC]; rfl) ?_; (first | (refine nm 0 rfl ?_; clear hO; intro b0 u hO) | (refine nm 1 rfl ?_; clear hO; intro b1 u hO) | (refine nm 2 rfl ?_; clear hO; intro b2 u hO) | (refine nm 3 rfl ?_; clear hO; intro b3 u hO) | (refine nm 4 rfl ?_; clear hO; intro b4 u hO) | (refine nm 5 rfl ?_; clear hO; intro b5 u hO) | (refine nm 6 rfl ?_; clear hO; intro b6 u hO) | (refine nm 7 rfl ?_; clear hO; intro b7 u hO) | (refine nm 8 rfl ?_; clear hO; intro b8 u hO) | (refine nm 9 rfl ?_; clear hO; intro b9 u hO) | (refine nm 10 rfl ?_; clear hO; intro b10 u hO) | (refine nm 11 rfl ?_; clear hO; intro b11 u hO) | (refine nm 12 rfl ?_; clear hO; intro b12 u hO) | (refine nm 13 rfl ?_; clear hO; intro b13 u hO) | (refine nm 14 rfl ?_; clear hO; intro b14 u hO) | (refine nm 15 rfl ?_; clear hO; intro b15 u hO)); simp only [zL, zK] at hO)
    | ((with_reducible refine wpl_load ?_); refine wpList_load_box rfl (by (first | rfl | (simp only [Region.wanted, yielded, *]; go_simp; done) | (simp [Region.wanted, yielded, *]; done) | fail)) hO rfl _ (by (first | exact at0 | exact at1 | exact at2 | exact at3 | exact at4 | exact at5 | exact at6 | exact at7 | exact at8 | exact at9 | exact at10 | exact at11 | exact at12 | exact at13 | exact at14 | exact at15)) (by rfl) (by simp only [Act.put, zA, zB, zC]; rfl) ?_)
    | ((with_reducible refine wpl_load ?_); refine wpList_load_field rfl (by (first | rfl | (simp only [Region.wanted, yielded, *]; go_simp; done) | (simp [Region.wanted, yielded, *]; done) | fail)) hO rfl _ (by (first | exact at0 | exact at1 | exact at2 | exact at3 | exact at4 | exact at5 | exact at6 | exact at7 | exact at8 | exact at9 | exact at10 | exact at11 | exact at12 | exact at13 | exact at14 | exact at15)) (by rfl) (by simp only [Act.put, zA, zB, zC]; rfl) ?_)
    | ((with_reducible refine wpl_store ?_); refine wpList_store_box rfl (by rfl) hO rfl _ (by (first | exact at0 | exact at1 | exact at2 | exact at3 | exact at4 | exact at5 | exact at6 | exact at7 | exact at8 | exact at9 | exact at10 | exact at11 | exact at12 | exact at13 | exact at14 | exact at15)) rfl (by rfl) (by rfl) (by rfl) (by rfl) (by rfl) ?_; clear hO; intro u hO; simp only [zC, zB] at hO)
    | ((with_reducible refine wpl_store ?_); refine wpList_store_field rfl (by rfl) hO rfl _ (by (first | exact at0 | exact at1 | exact at2 | exact at3 | exact at4 | exact at5 | exact at6 | exact at7 | exact at8 | exact at9 | exact at10 | exact at11 | exact at12 | exact at13 | exact at14 | exact at15)) (zM rfl) (by simp only [Act.eval, zJ, zF, zD, zE, zP]; rfl) (by rfl) (by rfl) (by rfl) ?_; clear hO; intro u hO; simp only [zC, zB] at hO)
    | fail)
  go_ret
  exact ⟨rfl, hO.below⟩

end Go.Proofs.Ytmofcbpabdbjlaa
