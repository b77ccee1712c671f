/-
  What is proved: the statement on ChooseVector.
  Condition: none.
-/
import Derived.Test.YtmofcbpabdbjlaaCh
import Derived.Test.YtmofcbpabdbjlaaCi
import Derived.Test.YtmofcbpabdbjlaaTwZ
import Derived.Test.YtmofcbpabdbjlaaAt
import Derived.Test.YtmofcbpabdbjlaaJe
import Derived.Test.YtmofcbpabdbjlaaMv
import Derived.Test.YtmofcbpabdbjlaaLc
import Derived.Test.YtmofcbpabdbjlaaLd
namespace Go.Proofs.Ytmofcbpabdbjlaa
set_option maxRecDepth 8000
open Go.RowKit Go.ChangeShapes Go.WideShapes Go.Deep
set_option linter.unusedVariables false
set_option linter.unusedSimpArgs false

theorem fmtN_leH (n d : Int) (t : ByteArray) (h1 : -9223372036854775808 ≤ n) (h2 : n ≤ 9223372036854775807) (h3 : -9223372036854775808 ≤ d) (h4 : d ≤ 9223372036854775807) : (fmtN n d t).size ≤ 41 := by
  unfold fmtN
  have f1 := fmtI_le n h1 h2
  have f2 := fmtI_le d h3 h4
  split
  · exact Nat.le_of_ble_eq_true rfl
  · split
    · exact Nat.le_of_ble_eq_true rfl
    · split
      · omega
      · simp only [ByteArray.size_append]
        have : (⟨#[47]⟩ : ByteArray).size = 1 := rfl
        omega
theorem cvI_textH {fk tk : Int} {x : It} (h : itemB fk x = true) : (cvI fk tk x).text.size ≤ 60 := by
  unfold cvI
  split
  · exact item_text h
  · rename_i hc
    simp only [Bool.or_eq_true, not_or, Bool.not_eq_true, decide_eq_true_eq] at hc
    split
    · rename_i h2
      subst h2
      have := num_bd h hc.1.1
      have := fmtN_leH x.num x.den x.text (by omega) (by omega) (by omega) (by omega)
      show (fmtN x.num x.den x.text).size ≤ 60
      omega
    · split <;> exact Nat.le_of_ble_eq_true rfl
theorem atI_text {l : List It} {i : Nat} (h : ∀ x ∈ l, x.text.size ≤ 60) : (atI l i).text.size ≤ 60 := by
  unfold atI
  rw [List.getD_eq_getElem?_getD]
  cases hq : l[i % l.length]? with
  | none => exact Nat.zero_le _
  | some x => exact h x (List.mem_of_getElem? hq)
theorem chL_text {ts X Y : List It} {n : Nat} (hX : ∀ x ∈ X, x.text.size ≤ 60) (hY : ∀ x ∈ Y, x.text.size ≤ 60) : ∀ x ∈ chL ts X Y n, x.text.size ≤ 60 := by
  intro x hx
  unfold chL at hx
  obtain ⟨i, _, rfl⟩ := List.mem_map.1 hx
  unfold chF
  split
  · exact atI_text hX
  · split
    · exact atI_text hY
    · exact Nat.zero_le _
theorem chT_sz (t a b : VT) : szV (chT t a b) ≤ 1048576 := by
  unfold chT
  split
  · rename_i h
    simp only [Bool.and_eq_true] at h
    split
    · split
      · rename_i h3
        split
        · exact zero_sz
        · have hX : ∀ x ∈ cmX (chK a b) a, x.text.size ≤ 60 := by
            intro x hx
            unfold cmX at hx
            obtain ⟨y, hy, rfl⟩ := List.mem_map.1 hx
            exact cvI_textH (pl_item h.1.2 y hy)
          have hY : ∀ x ∈ cmX (chK a b) b, x.text.size ≤ 60 := by
            intro x hx
            unfold cmX at hx
            obtain ⟨y, hy, rfl⟩ := List.mem_map.1 hx
            exact cvI_textH (pl_item h.2 y hy)
          have h5 := itz_bd (chL_text (ts := t.items) (n := t.items.length) hX hY)
          have h6 := names_sz h.1.1
          have h7 := (isV_lensH h.1.1).1
          rw [chL_len] at h5
          have h4 : szV (chW t a b) = (t.items.length + itz (chL t.items (cmX (chK a b) a) (cmX (chK a b) b) t.items.length)) + szS t.names := by
            simp only [chW, vecN, szV, szI, szL, chL_len, szS, stz, List.length_nil]
            omega
          rw [h4]
          omega
      · exact zero_sz
    · exact zero_sz
  · exact zero_sz

set_option maxRecDepth 20000 in
set_option maxHeartbeats 8000000 in
theorem fnExactChooseVector_walk (v0 v1 v2 : Value) (w : World) (h0 : ArgVec w v0) (h1 : ArgVec w v1) (h2 : ArgVec w v2) : Calls Try.prog 11 #[v0, v1, v2] w fun e w' => e = .returned (.bool true) ∧ Below w.heap.size w w' := by
  obtain ⟨vs0, t0, rfl, hv0, hw0⟩ := h0
  obtain ⟨vs1, t1, rfl, hv1, hw1⟩ := h1
  obtain ⟨vs2, t2, rfl, hv2, hw2⟩ := h2
  have CZ0 : ∀ u, Below w.heap.size w u → Calls Try.prog 29 #[.agg vs0.toArray, .int .i64 (1048576)] u fun e w' => e = .returned (.int .i64 (leftI (1048576) (szV t0))) ∧ Below u.heap.size u w' := fun u hb => laws_szVec t0 vs0 _ u (hv0.grow hb) hw0 (by omega)
  by_cases g0 : (1048576 : Int) < szV t0
  · have HR := Lib.hid (left_no (lf := 1048576) g0)
    rw [HR.out] at CZ0
    clear HR g0
    obtain ⟨V01, V02, V03, V04, V05, v01, v02, v03, v04, v05, rfl⟩ := hv0.ex
    obtain ⟨V11, V12, V13, V14, V15, v11, v12, v13, v14, v15, rfl⟩ := hv1.ex
    obtain ⟨V21, V22, V23, V24, V25, v21, v22, v23, v24, v25, rfl⟩ := hv2.ex
    go_enter Try.func11, Try.ntmps11
    have hO := Own.nil w
    go_wp2_with (first
      | ((with_reducible refine (CZ0 _ hO.below).mono ?_); rintro e u ⟨rfl, hb⟩; (replace hO := hO.step hb; clear hb))
      | ((with_reducible refine wpl_box ?_); refine wpList_box_own rfl (by rfl) hO rfl rfl (fun b => by simp only [Act.put, zA, zB, zC]; rfl) ?_; (first | (refine nm 0 rfl ?_; clear hO; intro b0 u hO) | (refine nm 1 rfl ?_; clear hO; intro b1 u hO) | (refine nm 2 rfl ?_; clear hO; intro b2 u hO) | fail); simp only [zL, zK] at hO)
      | ((with_reducible refine wpl_load ?_); refine wpList_load_box rfl (by rfl) hO rfl _ (by exact at0) (by rfl) (by simp only [Act.put, zA, zB, zC]; rfl) ?_)
      | fail)
    go_ret
    exact ⟨rfl, hO.below⟩
  have HR := Lib.hid (left_yes (lf := 1048576) g0)
  rw [HR.out] at CZ0
  clear HR
  have hz0 : (0 : Int) ≤ 1048576 - szV t0 := by omega
  have CZ1 : ∀ u, Below w.heap.size w u → Calls Try.prog 29 #[.agg vs1.toArray, .int .i64 (1048576 - szV t0)] u fun e w' => e = .returned (.int .i64 (leftI (1048576 - szV t0) (szV t1))) ∧ Below u.heap.size u w' := fun u hb => laws_szVec t1 vs1 _ u (hv1.grow hb) hw1 (by omega)
  by_cases g1 : (1048576 - szV t0 : Int) < szV t1
  · have HR := Lib.hid (left_no (lf := 1048576 - szV t0) g1)
    rw [HR.out] at CZ1
    clear HR g1
    obtain ⟨V01, V02, V03, V04, V05, v01, v02, v03, v04, v05, rfl⟩ := hv0.ex
    obtain ⟨V11, V12, V13, V14, V15, v11, v12, v13, v14, v15, rfl⟩ := hv1.ex
    obtain ⟨V21, V22, V23, V24, V25, v21, v22, v23, v24, v25, rfl⟩ := hv2.ex
    go_enter Try.func11, Try.ntmps11
    have hO := Own.nil w
    go_wp2_with (first
      | ((with_reducible refine (CZ0 _ hO.below).mono ?_); rintro e u ⟨rfl, hb⟩; (replace hO := hO.step hb; clear hb))
      | ((with_reducible refine (CZ1 _ hO.below).mono ?_); rintro e u ⟨rfl, hb⟩; (replace hO := hO.step hb; clear hb))
      | ((with_reducible refine wpl_box ?_); refine wpList_box_own rfl (by rfl) hO rfl rfl (fun b => by simp only [Act.put, zA, zB, zC]; rfl) ?_; (first | (refine nm 0 rfl ?_; clear hO; intro b0 u hO) | (refine nm 1 rfl ?_; clear hO; intro b1 u hO) | (refine nm 2 rfl ?_; clear hO; intro b2 u hO) | fail); simp only [zL, zK] at hO)
      | ((with_reducible refine wpl_load ?_); refine wpList_load_box rfl (by rfl) hO rfl _ (by (first | exact at0 | exact at1 | fail)) (by rfl) (by simp only [Act.put, zA, zB, zC]; rfl) ?_)
      | fail)
    go_ret
    exact ⟨rfl, hO.below⟩
  have HR := Lib.hid (left_yes (lf := 1048576 - szV t0) g1)
  rw [HR.out] at CZ1
  clear HR
  have hz1 : (0 : Int) ≤ 1048576 - szV t0 - szV t1 := by omega
  have CZ2 : ∀ u, Below w.heap.size w u → Calls Try.prog 29 #[.agg vs2.toArray, .int .i64 (1048576 - szV t0 - szV t1)] u fun e w' => e = .returned (.int .i64 (leftI (1048576 - szV t0 - szV t1) (szV t2))) ∧ Below u.heap.size u w' := fun u hb => laws_szVec t2 vs2 _ u (hv2.grow hb) hw2 (by omega)
  by_cases g2 : (1048576 - szV t0 - szV t1 : Int) < szV t2
  · have HR := Lib.hid (left_no (lf := 1048576 - szV t0 - szV t1) g2)
    rw [HR.out] at CZ2
    clear HR g2
    obtain ⟨V01, V02, V03, V04, V05, v01, v02, v03, v04, v05, rfl⟩ := hv0.ex
    obtain ⟨V11, V12, V13, V14, V15, v11, v12, v13, v14, v15, rfl⟩ := hv1.ex
    obtain ⟨V21, V22, V23, V24, V25, v21, v22, v23, v24, v25, rfl⟩ := hv2.ex
    go_enter Try.func11, Try.ntmps11
    have hO := Own.nil w
    go_wp2_with (first
      | ((with_reducible refine (CZ0 _ hO.below).mono ?_); rintro e u ⟨rfl, hb⟩; (replace hO := hO.step hb; clear hb))
      | ((with_reducible refine (CZ1 _ hO.below).mono ?_); rintro e u ⟨rfl, hb⟩; (replace hO := hO.step hb; clear hb))
      | ((with_reducible refine (CZ2 _ hO.below).mono ?_); rintro e u ⟨rfl, hb⟩; (replace hO := hO.step hb; clear hb))
      | ((with_reducible refine wpl_box ?_); refine wpList_box_own rfl (by rfl) hO rfl rfl (fun b => by simp only [Act.put, zA, zB, zC]; rfl) ?_; (first | (refine nm 0 rfl ?_; clear hO; intro b0 u hO) | (refine nm 1 rfl ?_; clear hO; intro b1 u hO) | (refine nm 2 rfl ?_; clear hO; intro b2 u hO) | fail); simp only [zL, zK] at hO)
      | ((with_reducible refine wpl_load ?_); refine wpList_load_box rfl (by rfl) hO rfl _ (by (first | exact at0 | exact at1 | exact at2 | fail)) (by rfl) (by simp only [Act.put, zA, zB, zC]; rfl) ?_)
      | fail)
    go_ret
    exact ⟨rfl, hO.below⟩
  have HR := Lib.hid (left_yes (lf := 1048576 - szV t0 - szV t1) g2)
  rw [HR.out] at CZ2
  clear HR
  have hz2 : (0 : Int) ≤ 1048576 - szV t0 - szV t1 - szV t2 := by omega
  have HZ0 := Lib.hid (show szV t0 ≤ 1048576 by omega)
  have HZ1 := Lib.hid (show szV t1 ≤ 1048576 by omega)
  have HZ2 := Lib.hid (show szV t2 ≤ 1048576 by omega)
  have HZT := Lib.hid (show szV t0 + szV t1 + szV t2 ≤ 1048576 by omega)
  have CS := fun vs0' vs1' vs2' u (h0 : RdV u t0 vs0') (h1 : RdV u t1 vs1') (h2 : RdV u t2 vs2') => RetVE.ofS (spec_ch t0 t1 t2 vs0' vs1' vs2' u h0 h1 h2 HZ0.out HZ1.out HZ2.out)
  have CI := fun vs0' vs1' vs2' u (h0 : RdV u t0 vs0') (h1 : RdV u t1 vs1') (h2 : RdV u t2 vs2') => RetVE.ofS (impl_ch t0 t1 t2 vs0' vs1' vs2' u h0 h1 h2 HZ0.out HZ1.out HZ2.out)
  have HL := Lib.hid (show szV (chT t0 t1 t2) ≤ 1048576 from chT_sz t0 t1 t2)
  obtain ⟨r, hr⟩ : ∃ r, chT t0 t1 t2 = r := ⟨_, rfl⟩
  obtain ⟨s, hs⟩ : ∃ s, chS t0 t1 t2 = s := ⟨_, rfl⟩
  rw [hr] at CS CI HL
  rw [hs] at CS CI
  clear hr hs
  have CEr := fun vs1 vs2 u (h : RdV u r vs1) (h' : RdV u r vs2) => laws_eqVec r vs1 vs2 u h h' HL.out
  have hcr : 1 + cntV r ≤ 2147483647 := by have := cnt_sz r; have := HL.out; omega
  have CMr := fun vs F L w0 u (h : VO r vs F) hO => laws_markVec r vs F 1 1 rfl hcr L w0 u h hO
  have CHr := fun vs u (h : RdV u (mrkV 1 r) vs) => laws_heldVec r vs 1 1 rfl hcr u h
  obtain ⟨zr, hzr⟩ : ∃ z, 1 + cntV r = z := ⟨_, rfl⟩
  rw [hzr] at CMr CHr hcr
  clear hzr
  have hc0 : 1 + cntV t0 ≤ 2147483647 := by have := cnt_sz t0; have := HZ0.out; omega
  have CE0 := fun vs1 vs2 u (h : RdV u t0 vs1) (h' : RdV u t0 vs2) => laws_eqVec t0 vs1 vs2 u h h' HZ0.out
  have CM0 := fun vs F L w0 u (h : VO t0 vs F) hO => laws_markVec t0 vs F 1 1 rfl hc0 L w0 u h hO
  have CU0 := fun u (hb : Below w.heap.size w u) => laws_toVec t0 vs0 u (hv0.grow hb) HZ0.out
  have hb0 := Lib.hid (show 1 + cntV t0 ≤ 4000000 by have := cnt_sz t0; have := HZ0.out; omega)
  obtain ⟨z0, hz'0⟩ : ∃ z, 1 + cntV t0 = z := ⟨_, rfl⟩
  rw [hz'0] at CM0 hc0 hb0
  clear hz'0
  have hc1 : z0 + cntV t1 ≤ 2147483647 := by have := cnt_sz t1; have := HZ1.out; have := hb0.out; omega
  have CE1 := fun vs1 vs2 u (h : RdV u t1 vs1) (h' : RdV u t1 vs2) => laws_eqVec t1 vs1 vs2 u h h' HZ1.out
  have CM1 := fun vs F L w0 u (h : VO t1 vs F) hO => laws_markVec t1 vs F z0 z0 rfl hc1 L w0 u h hO
  have CU1 := fun u (hb : Below w.heap.size w u) => laws_toVec t1 vs1 u (hv1.grow hb) HZ1.out
  have hb1 := Lib.hid (show z0 + cntV t1 ≤ 8000000 by have := cnt_sz t1; have := HZ1.out; have := hb0.out; omega)
  obtain ⟨z1, hz'1⟩ : ∃ z, z0 + cntV t1 = z := ⟨_, rfl⟩
  rw [hz'1] at CM1 hc1 hb1
  clear hz'1
  have hc2 : z1 + cntV t2 ≤ 2147483647 := by have := cnt_sz t2; have := HZ2.out; have := hb0.out; have := hb1.out; omega
  have CE2 := fun vs1 vs2 u (h : RdV u t2 vs1) (h' : RdV u t2 vs2) => laws_eqVec t2 vs1 vs2 u h h' HZ2.out
  have CM2 := fun vs F L w0 u (h : VO t2 vs F) hO => laws_markVec t2 vs F z1 z1 rfl hc2 L w0 u h hO
  have CU2 := fun u (hb : Below w.heap.size w u) => laws_toVec t2 vs2 u (hv2.grow hb) HZ2.out
  have hb2 := Lib.hid (show z1 + cntV t2 ≤ 12000000 by have := cnt_sz t2; have := HZ2.out; have := hb0.out; have := hb1.out; omega)
  obtain ⟨z2, hz'2⟩ : ∃ z, z1 + cntV t2 = z := ⟨_, rfl⟩
  rw [hz'2] at CM2 hc2 hb2
  clear hz'2
  obtain ⟨x0k, x0i, x0p, x0n, x0c, x0l, x0o, x0e⟩ := t0
  have CT0 := fun u (hb : Below w.heap.size w u) => laws_toVecC x0k x0i x0p x0n x0c x0l x0o x0e vs0 u (hv0.grow hb) HZ0.out
  obtain ⟨x1k, x1i, x1p, x1n, x1c, x1l, x1o, x1e⟩ := t1
  have CT1 := fun u (hb : Below w.heap.size w u) => laws_toVecC x1k x1i x1p x1n x1c x1l x1o x1e vs1 u (hv1.grow hb) HZ1.out
  obtain ⟨x2k, x2i, x2p, x2n, x2c, x2l, x2o, x2e⟩ := t2
  have CT2 := fun u (hb : Below w.heap.size w u) => laws_toVecC x2k x2i x2p x2n x2c x2l x2o x2e vs2 u (hv2.grow hb) HZ2.out
  obtain ⟨V01, V02, V03, V04, V05, v01, v02, v03, v04, v05, rfl⟩ := hv0.ex
  obtain ⟨V11, V12, V13, V14, V15, v11, v12, v13, v14, v15, rfl⟩ := hv1.ex
  obtain ⟨V21, V22, V23, V24, V25, v21, v22, v23, v24, v25, rfl⟩ := hv2.ex
  clear hw0 hw1 hw2 g0 g1 g2 hv0 hv1 hv2
  go_enter Try.func11, Try.ntmps11
  have hO := Own.nil w
  go_wp2_with (first
    | ((with_reducible refine (CZ0 _ hO.below).mono ?_); rintro e u ⟨rfl, hb⟩; (replace hO := hO.step hb; clear hb))
    | ((with_reducible refine (CZ1 _ hO.below).mono ?_); rintro e u ⟨rfl, hb⟩; (replace hO := hO.step hb; clear hb))
    | ((with_reducible refine (CZ2 _ hO.below).mono ?_); rintro e u ⟨rfl, hb⟩; (replace hO := hO.step hb; clear hb))
    | ((with_reducible refine wpl_box ?_); refine wpList_box_own rfl (by rfl) hO rfl rfl (fun b => by simp only [Act.put, zA, zB, zC]; rfl) ?_; (first | (refine nm 0 rfl ?_; clear hO; intro b0 u hO) | (refine nm 1 rfl ?_; clear hO; intro b1 u hO) | (refine nm 2 rfl ?_; clear hO; intro b2 u hO) | fail); simp only [zL, zK] at hO)
    | ((with_reducible refine wpl_load ?_); refine wpList_load_box rfl (by rfl) hO rfl _ (by (first | exact at0 | exact at1 | exact at2 | fail)) (by rfl) (by simp only [Act.put, zA, zB, zC]; rfl) ?_)
    | fail)
  clear CZ0 CZ1 CZ2
  refine J.wp_region_e (n := 142) [0, 2, 4] [1, 3, 5, 6, 7, 8, 9, 10] 9 (deps := fun i => [[], [0], [], [2], [], [4], [0, 1, 2, 3, 4, 5], [0, 1, 2, 3, 4, 5, 6], [0, 1, 2, 3, 4, 5, 6, 7], [0, 1, 2, 3, 4, 5, 6, 7], [], [], []].getD i []) (fun i d => [fun _ => True, (J.freshV (.mk x0k x0i x0p x0n x0c x0l x0o x0e)), fun _ => True, (J.freshV (.mk x1k x1i x1p x1n x1c x1l x1o x1e)), fun _ => True, (J.freshV (.mk x2k x2i x2p x2n x2c x2l x2o x2e)), (J.freshVE r (.string s)), (fun x => x = ((d 6).1, [])), (J.isFst ((d 7).1)), (J.isSnd ((d 7).1)), J.fresh 29 [.int .i64 0, .slice none 0 0, .slice none 0 0, .slice none 0 0, .slice none 0 0, .slice none 0 0, .int .i64 0, .int .i64 0], fun _ => True, fun _ => True].getD i (fun _ => True)) (r := 2) (lst := #[true, true, true, true, true, true, true, true, true, true, true, false, false]) (lst2 := #[true, true, true, true, true, true, true, true, true, false, true, false, false]) (by kernel_rfl) (by kernel_rfl) (by kernel_rfl) (by kernel_rfl) (by kernel_rfl) rfl (by decide) (by kernel_rfl) hO ?_
  refine J.Chain.cons (by rfl) (by rfl) (fun M u hO K hK => by (exact wp_load_box hO rfl rfl _ (by exact at0) (by rfl) (by rfl) (hK _ hO))) (by simp only [J.putL, zI, zG, zH, J.dstOf, zF, zD, zE, zS, zQ, zR, Act.put, zA, zB, zC]; rfl) ?_
  refine J.Chain.cons (by rfl) (by rfl) (fun M u hO K hK => by (exact wp_load_box hO rfl rfl _ (by exact at1) (by rfl) (by rfl) (hK _ hO))) (by simp only [J.putL, zI, zG, zH, J.dstOf, zF, zD, zE, zS, zQ, zR, Act.put, zA, zB, zC]; rfl) ?_
  refine J.Chain.cons (by rfl) (by rfl) (fun M u hO K hK => by (exact wp_load_box hO rfl rfl _ (by exact at2) (by rfl) (by rfl) (hK _ hO))) (by simp only [J.putL, zI, zG, zH, J.dstOf, zF, zD, zE, zS, zQ, zR, Act.put, zA, zB, zC]; rfl) ?_
  refine J.Chain.nil ⟨?_, ?_, ?_⟩
  · refine J.Each.cons (by rfl) ?_ ?_; exact ⟨rfl, fun vs M u hO _ K hK => by ((try simp only [J.putL, zI, zG, zH, J.dstOf, zF, zD, zE, zS, zQ, zR, Act.put, zA, zB, zC]); (try simp only [wp_at_zero, wp_at_succ]); go_step; refine (CU0 _ hO.below).mono ?_; rintro e u ⟨vs1', F1', rfl, hvo1, hb⟩; have hK' := hK _ _ _ (show (J.freshV (.mk x0k x0i x0p x0n x0c x0l x0o x0e)) _ from ⟨vs1', F1', rfl, hvo1⟩) ((hO.call hb).perm List.perm_append_comm); clear hK; simp only [J.putL, zI, zG, zH, J.dstOf, zF, zD, zE, zS, zQ, zR, Act.put, zA, zB, zC] at hK'; exact hK')⟩; refine J.Each.cons (by rfl) ?_ ?_; exact ⟨rfl, fun vs M u hO _ K hK => by ((try simp only [J.putL, zI, zG, zH, J.dstOf, zF, zD, zE, zS, zQ, zR, Act.put, zA, zB, zC]); (try simp only [wp_at_zero, wp_at_succ]); go_step; refine (CU1 _ hO.below).mono ?_; rintro e u ⟨vs2', F2', rfl, hvo2, hb⟩; have hK' := hK _ _ _ (show (J.freshV (.mk x1k x1i x1p x1n x1c x1l x1o x1e)) _ from ⟨vs2', F2', rfl, hvo2⟩) ((hO.call hb).perm List.perm_append_comm); clear hK; simp only [J.putL, zI, zG, zH, J.dstOf, zF, zD, zE, zS, zQ, zR, Act.put, zA, zB, zC] at hK'; exact hK')⟩; refine J.Each.cons (by rfl) ?_ ?_; exact ⟨rfl, fun vs M u hO _ K hK => by ((try simp only [J.putL, zI, zG, zH, J.dstOf, zF, zD, zE, zS, zQ, zR, Act.put, zA, zB, zC]); (try simp only [wp_at_zero, wp_at_succ]); go_step; refine (CU2 _ hO.below).mono ?_; rintro e u ⟨vs3', F3', rfl, hvo3, hb⟩; have hK' := hK _ _ _ (show (J.freshV (.mk x2k x2i x2p x2n x2c x2l x2o x2e)) _ from ⟨vs3', F3', rfl, hvo3⟩) ((hO.call hb).perm List.perm_append_comm); clear hK; simp only [J.putL, zI, zG, zH, J.dstOf, zF, zD, zE, zS, zQ, zR, Act.put, zA, zB, zC] at hK'; exact hK')⟩; refine J.Each.cons (by rfl) ?_ ?_; exact ⟨rfl, fun vs M u hO hF K hK => by ((try simp only [J.putL, zI, zG, zH, J.dstOf, zF, zD, zE, zS, zQ, zR, Act.put, zA, zB, zC]); obtain ⟨vs1', F1', e1, hvo1⟩ := (hF 1 (by decide) (by decide)).1; have s1 := (hF 1 (by decide) (by decide)).2; rw [e1] at s1; have o1 := hO.sub (List.Sublist.append_left s1 _); obtain ⟨vs2', F2', e3, hvo2⟩ := (hF 3 (by decide) (by decide)).1; have s3 := (hF 3 (by decide) (by decide)).2; rw [e3] at s3; have o3 := hO.sub (List.Sublist.append_left s3 _); obtain ⟨vs3', F3', e5, hvo3⟩ := (hF 5 (by decide) (by decide)).1; have s5 := (hF 5 (by decide) (by decide)).2; rw [e5] at s5; have o5 := hO.sub (List.Sublist.append_left s5 _); (try simp only [wp_at_zero, wp_at_succ]); simp only [e1, e3, e5]; go_step; refine (CS _ _ _ _  (o1.rdp 3 rfl hvo1) (o3.rdp 3 rfl hvo2) (o5.rdp 3 rfl hvo3)).mono ?_; rintro e u ⟨Q41, Q42, Q43, Q44, Q45, m41, m42, m43, m44, m45, W4, rfl, hvo4, hb⟩; have hK' := hK _ _ _ (show (J.freshVE r (.string s)) _ from ⟨Q41, Q42, Q43, Q44, Q45, m41, m42, m43, m44, m45, W4, rfl, hvo4⟩) ((hO.call hb).perm List.perm_append_comm); clear hK; simp only [J.putL, zI, zG, zH, J.dstOf, zF, zD, zE, zS, zQ, zR, Act.put, zA, zB, zC, e1, e3, e5] at hK'; exact hK')⟩; refine J.Each.cons (by rfl) ?_ ?_; exact ⟨rfl, fun vs M u hO hF K hK => by ((try simp only [J.putL, zI, zG, zH, J.dstOf, zF, zD, zE, zS, zQ, zR, Act.put, zA, zB, zC]); obtain ⟨vs1', F1', e1, hvo1⟩ := (hF 1 (by decide) (by decide)).1; obtain ⟨vs2', F2', e3, hvo2⟩ := (hF 3 (by decide) (by decide)).1; obtain ⟨vs3', F3', e5, hvo3⟩ := (hF 5 (by decide) (by decide)).1; obtain ⟨Q41, Q42, Q43, Q44, Q45, m41, m42, m43, m44, m45, W4, e6, hvo4⟩ := (hF 6 (by decide) (by decide)).1; have hK' := hK (Value.tuple #[.agg #[.int .i64 r.kind, .slice Q41 r.items.length m41, .slice Q42 r.parts.length m42, .slice Q43 r.names.length m43, .slice Q44 r.cls.length m44, .slice Q45 r.levels.length m45, .int .i64 r.code, .int .i64 r.env], .string s]) [] u (show (Value.tuple #[.agg #[.int .i64 r.kind, .slice Q41 r.items.length m41, .slice Q42 r.parts.length m42, .slice Q43 r.names.length m43, .slice Q44 r.cls.length m44, .slice Q45 r.levels.length m45, .int .i64 r.code, .int .i64 r.env], .string s], ([] : List Res)) = ((vs 6).1, []) from by simp only [e1, e3, e5, e6]) (by rw [List.append_nil]; exact hO); clear hK hF; simp only [J.putL, zI, zG, zH, J.dstOf, zF, zD, zE, zS, zQ, zR, Act.put, zA, zB, zC, e1, e3, e5, e6] at hK' ⊢; (try simp only [wp_at_zero, wp_at_succ]); go_step; exact hK')⟩; refine J.Each.cons (by rfl) ?_ ?_; exact ⟨rfl, fun vs M u hO hF K hK => by ((try simp only [J.putL, zI, zG, zH, J.dstOf, zF, zD, zE, zS, zQ, zR, Act.put, zA, zB, zC]); obtain ⟨vs1', F1', e1, hvo1⟩ := (hF 1 (by decide) (by decide)).1; obtain ⟨vs2', F2', e3, hvo2⟩ := (hF 3 (by decide) (by decide)).1; obtain ⟨vs3', F3', e5, hvo3⟩ := (hF 5 (by decide) (by decide)).1; obtain ⟨Q41, Q42, Q43, Q44, Q45, m41, m42, m43, m44, m45, W4, e6, hvo4⟩ := (hF 6 (by decide) (by decide)).1; have e7 : vs 7 = ((vs 6).1, []) := (hF 7 (by decide) (by decide)).1; simp only [e1, e3, e5, e6] at e7; have hK' := hK (Value.agg #[.int .i64 r.kind, .slice Q41 r.items.length m41, .slice Q42 r.parts.length m42, .slice Q43 r.names.length m43, .slice Q44 r.cls.length m44, .slice Q45 r.levels.length m45, .int .i64 r.code, .int .i64 r.env]) [] u (show J.isFst ((vs 7).1) _ from by rw [e7]; exact J.isFst_of) (by rw [List.append_nil]; exact hO); clear hK hF; simp only [J.putL, zI, zG, zH, J.dstOf, zF, zD, zE, zS, zQ, zR, Act.put, zA, zB, zC, e1, e3, e5, e6, e7] at hK' ⊢; (try simp only [wp_at_zero, wp_at_succ]); go_step; exact hK')⟩; refine J.Each.cons (by rfl) ?_ ?_; exact ⟨rfl, fun vs M u hO hF K hK => by ((try simp only [J.putL, zI, zG, zH, J.dstOf, zF, zD, zE, zS, zQ, zR, Act.put, zA, zB, zC]); obtain ⟨vs1', F1', e1, hvo1⟩ := (hF 1 (by decide) (by decide)).1; obtain ⟨vs2', F2', e3, hvo2⟩ := (hF 3 (by decide) (by decide)).1; obtain ⟨vs3', F3', e5, hvo3⟩ := (hF 5 (by decide) (by decide)).1; obtain ⟨Q41, Q42, Q43, Q44, Q45, m41, m42, m43, m44, m45, W4, e6, hvo4⟩ := (hF 6 (by decide) (by decide)).1; have e7 : vs 7 = ((vs 6).1, []) := (hF 7 (by decide) (by decide)).1; simp only [e1, e3, e5, e6] at e7; have hK' := hK (Value.string s) [] u (show J.isSnd ((vs 7).1) _ from by rw [e7]; exact J.isSnd_of) (by rw [List.append_nil]; exact hO); clear hK hF; simp only [J.putL, zI, zG, zH, J.dstOf, zF, zD, zE, zS, zQ, zR, Act.put, zA, zB, zC, e1, e3, e5, e6, e7] at hK' ⊢; (try simp only [wp_at_zero, wp_at_succ]); go_step; exact hK')⟩; refine J.Each.cons (by rfl) ?_ ?_; exact ⟨rfl, fun vs M u hO _ K hK => by (refine wp_alloc_own hO rfl rfl fun b u hO => ?_; exact hK _ _ _ (show J.fresh 29 [.int .i64 0, .slice none 0 0, .slice none 0 0, .slice none 0 0, .slice none 0 0, .slice none 0 0, .int .i64 0, .int .i64 0] _ from ⟨b, rfl⟩) hO)⟩; exact J.Each.nil
  intro vs uz hO hF
  obtain ⟨vs1', F1', h1, hvo1⟩ : (J.freshV (.mk x0k x0i x0p x0n x0c x0l x0o x0e)) (vs 1) := hF 1 (by decide)
  obtain ⟨vs2', F2', h3, hvo2⟩ : (J.freshV (.mk x1k x1i x1p x1n x1c x1l x1o x1e)) (vs 3) := hF 3 (by decide)
  obtain ⟨vs3', F3', h5, hvo3⟩ : (J.freshV (.mk x2k x2i x2p x2n x2c x2l x2o x2e)) (vs 5) := hF 5 (by decide)
  obtain ⟨Q41, Q42, Q43, Q44, Q45, m41, m42, m43, m44, m45, W4, h6, hvo4⟩ : (J.freshVE r (.string s)) (vs 6) := hF 6 (by decide)
  have h7 : vs 7 = ((vs 6).1, []) := hF 7 (by decide)
  simp only [h1, h3, h5, h6] at h7
  have q8 : J.isFst ((vs 7).1) (vs 8) := hF 8 (by decide)
  rw [h7] at q8
  have h8 := J.isFst_eq q8
  clear q8
  have q9 : J.isSnd ((vs 7).1) (vs 9) := hF 9 (by decide)
  rw [h7] at q9
  have h9 := J.isSnd_eq q9
  clear q9
  obtain ⟨b3, h10⟩ : J.fresh _ _ (vs 10) := hF 10 (by decide)
  clear hF
  simp only [List.flatMap_cons, List.flatMap_nil, h1, h3, h5, h6, h7, h8, h9, h10, List.append_nil, zL, zK] at hO
  simp only [h1, h3, h5, h6, h7, h8, h9, h10, J.putL, zI, zG, zH, J.dstOf, zF, zD, zE, zS, zQ, zR, Act.put, zA, zB, zC]
  clear h1 h3 h5 h6 h7 h8 h9 h10 vs
  refine J.wpAny_one (i := 11) (by kernel_rfl) (by rfl) rfl fun K hK => ?_
  (refine wp_store_box hO rfl rfl _ (by exact at7) rfl (by rfl) (by rfl) (by rfl) (by rfl) (by rfl) ?_; clear hO; intro u hO; simp only [zC, zB] at hO; refine hK _ _ ?_; clear hK K)
  refine J.wpAny_one (i := 12) (by kernel_rfl) (by rfl) rfl fun K hK => ?_
  simp only [wp_at_zero, wp_at_succ]
  go_step
  refine hK _ _ ?_
  clear hK K
  refine wpAny_done (by kernel_rfl) ?_ _
  revert vs1' F1' hvo1 vs2' F2' hvo2 vs3' F3' hvo3 Q41 Q42 Q43 Q44 Q45 m41 m42 m43 m44 m45 W4 hvo4 b3 u hO
  try clear uz
  refine ?key11
  rotate_left
  intro vs uz hO hF
  rw [show ([1, 3, 5, 6, 7, 8, 9, 10] : List Nat).erase 9 = [1, 3, 5, 6, 7, 8, 10] from by decide] at hO ⊢
  obtain ⟨vs1', F1', h1, hvo1⟩ : (J.freshV (.mk x0k x0i x0p x0n x0c x0l x0o x0e)) (vs 1) := hF 1 (by decide) (by decide)
  obtain ⟨vs2', F2', h3, hvo2⟩ : (J.freshV (.mk x1k x1i x1p x1n x1c x1l x1o x1e)) (vs 3) := hF 3 (by decide) (by decide)
  obtain ⟨vs3', F3', h5, hvo3⟩ : (J.freshV (.mk x2k x2i x2p x2n x2c x2l x2o x2e)) (vs 5) := hF 5 (by decide) (by decide)
  obtain ⟨Q41, Q42, Q43, Q44, Q45, m41, m42, m43, m44, m45, W4, h6, hvo4⟩ : (J.freshVE r (.string s)) (vs 6) := hF 6 (by decide) (by decide)
  have h7 : vs 7 = ((vs 6).1, []) := hF 7 (by decide) (by decide)
  simp only [h1, h3, h5, h6] at h7
  have q8 : J.isFst ((vs 7).1) (vs 8) := hF 8 (by decide) (by decide)
  rw [h7] at q8
  have h8 := J.isFst_eq q8
  clear q8
  obtain ⟨b3, h10⟩ : J.fresh _ _ (vs 10) := hF 10 (by decide) (by decide)
  clear hF
  simp only [List.flatMap_cons, List.flatMap_nil, h1, h3, h5, h6, h7, h8, h10, List.append_nil, zL, zK] at hO
  simp only [h1, h3, h5, h6, h7, h8, h10, J.putL, zI, zG, zH, J.dstOf, zF, zD, zE, zS, zQ, zR, Act.put, zA, zB, zC]
  clear h1 h3 h5 h6 h7 h8 h10 vs
  refine wpAny_ready (rs := [9, 11]) (by kernel_rfl) (by simp) ?_
  refine AllReady.cons rfl (fun K hK => ?_) (AllReady.cons rfl (fun K hK => ?_) (AllReady.nil))
  · rw [if_pos (by rfl)]
    simp only [wp_at_zero, wp_at_succ]
    go_step
    refine hK _ _ ?_
    clear hK K
    refine J.wpAny_one (i := 11) (by kernel_rfl) (by rfl) rfl fun K hK => ?_
    (refine wp_store_box hO rfl rfl _ (by exact at7) rfl (by rfl) (by rfl) (by rfl) (by rfl) (by rfl) ?_; clear hO; intro u hO; simp only [zC, zB] at hO; refine hK _ _ ?_; clear hK K)
    refine J.wpAny_one (i := 12) (by kernel_rfl) (by rfl) rfl fun K hK => ?_
    simp only [wp_at_zero, wp_at_succ]
    go_step
    refine hK _ _ ?_
    clear hK K
    refine wpAny_done (by kernel_rfl) ?_ _
    revert vs1' F1' hvo1 vs2' F2' hvo2 vs3' F3' hvo3 Q41 Q42 Q43 Q44 Q45 m41 m42 m43 m44 m45 W4 hvo4 b3 u hO
    try clear uz
    exact ?key11
  · rw [if_pos (by rfl)]
    (refine wp_store_box hO rfl rfl _ (by exact at7) rfl (by rfl) (by rfl) (by rfl) (by rfl) (by rfl) ?_; clear hO; intro u hO; simp only [zC, zB] at hO; refine hK _ _ ?_; clear hK K)
    refine J.wpAny_one (i := 9) (by kernel_rfl) (by rfl) rfl fun K hK => ?_
    simp only [wp_at_zero, wp_at_succ]
    go_step
    refine hK _ _ ?_
    clear hK K
    refine J.wpAny_one (i := 12) (by kernel_rfl) (by rfl) rfl fun K hK => ?_
    simp only [wp_at_zero, wp_at_succ]
    go_step
    refine hK _ _ ?_
    clear hK K
    refine wpAny_done (by kernel_rfl) ?_ _
    revert vs1' F1' hvo1 vs2' F2' hvo2 vs3' F3' hvo3 Q41 Q42 Q43 Q44 Q45 m41 m42 m43 m44 m45 W4 hvo4 b3 u hO
    try clear uz
    exact ?key11
  intro vs1' F1' hvo1 vs2' F2' hvo2 vs3' F3' hvo3 Q41 Q42 Q43 Q44 Q45 m41 m42 m43 m44 m45 W4 hvo4 b3 u hO
  go_wp2_with (first
    | ((with_reducible refine wpl_load ?_); refine wpList_load_box rfl (by rfl) hO rfl _ (by exact at0) (by rfl) (by simp only [Act.put, zA, zB, zC]; rfl) ?_)
    | fail)
  replace hO := hO.pick [0, 1, 2, 6, 7] (by decide)
  simp only [zN, zO, zE, zD] at hO
  refine (CT0 _ hO.below).mono ?_
  rintro e u ⟨P51, P52, P53, P54, P55, p51, p52, p53, p54, p55, F5, rfl, hvo5, hb⟩
  replace hO := hO.call hb
  clear hb
  simp only [zK, zL] at hO
  go_wp2_with (first
    | ((with_reducible refine wpl_alloc ?_); refine wpList_alloc_own rfl (by rfl) hO rfl (fun b => by simp only [Act.put, zA, zB, zC]; rfl) ?_; (refine nm 6 rfl ?_; clear hO; intro b6 u hO); simp only [zL, zK] at hO)
    | ((with_reducible refine wpl_load ?_); refine wpList_load_box rfl (by rfl) hO rfl _ (by exact at2) (by rfl) (by simp only [Act.put, zA, zB, zC]; rfl) ?_)
    | ((with_reducible refine wpl_store ?_); refine wpList_store_box rfl (by rfl) hO rfl _ (by exact at6) rfl (by rfl) (by rfl) (by rfl) (by rfl) (by rfl) ?_; clear hO; intro u hO; simp only [zC, zB] at hO)
    | fail)
  refine (CT1 _ hO.below).mono ?_
  rintro e u ⟨P61, P62, P63, P64, P65, p61, p62, p63, p64, p65, F6, rfl, hvo6, hb⟩
  replace hO := hO.call hb
  clear hb
  simp only [zK, zL] at hO
  go_wp2_with (first
    | ((with_reducible refine wpl_alloc ?_); refine wpList_alloc_own rfl (by rfl) hO rfl (fun b => by simp only [Act.put, zA, zB, zC]; rfl) ?_; (refine nm 8 rfl ?_; clear hO; intro b8 u hO); simp only [zL, zK] at hO)
    | ((with_reducible refine wpl_load ?_); refine wpList_load_box rfl (by rfl) hO rfl _ (by exact at4) (by rfl) (by simp only [Act.put, zA, zB, zC]; rfl) ?_)
    | ((with_reducible refine wpl_store ?_); refine wpList_store_box rfl (by rfl) hO rfl _ (by exact at8) rfl (by rfl) (by rfl) (by rfl) (by rfl) (by rfl) ?_; clear hO; intro u hO; simp only [zC, zB] at hO)
    | fail)
  refine (CT2 _ hO.below).mono ?_
  rintro e u ⟨P71, P72, P73, P74, P75, p71, p72, p73, p74, p75, F7, rfl, hvo7, hb⟩
  replace hO := hO.call hb
  clear hb
  simp only [zK, zL] at hO
  go_wp2_with (first
    | ((with_reducible refine wpl_alloc ?_); refine wpList_alloc_own rfl (by rfl) hO rfl (fun b => by simp only [Act.put, zA, zB, zC]; rfl) ?_; (refine nm 10 rfl ?_; clear hO; intro b10 u hO); simp only [zL, zK] at hO)
    | ((with_reducible refine wpl_load ?_); refine wpList_load_box rfl (by rfl) hO rfl _ (by (first | exact at8 | exact at9 | exact at10 | fail)) (by rfl) (by simp only [Act.put, zA, zB, zC]; rfl) ?_)
    | ((with_reducible refine wpl_store ?_); refine wpList_store_box rfl (by rfl) hO rfl _ (by exact at10) rfl (by rfl) (by rfl) (by rfl) (by rfl) (by rfl) ?_; clear hO; intro u hO; simp only [zC, zB] at hO)
    | fail)
  refine (CI _ _ _ _  (hO.rdp 2 rfl hvo5) (hO.rdp 1 rfl hvo6) (hO.rdp 0 rfl hvo7)).mono ?_
  rintro e u ⟨Q81, Q82, Q83, Q84, Q85, m81, m82, m83, m84, m85, W8, rfl, hvo8, hb⟩
  replace hO := hO.call hb
  clear hb
  simp only [List.cons_append, List.nil_append] at hO
  go_wp2_with (first
    | ((with_reducible refine wpl_alloc ?_); refine wpList_alloc_own rfl (by rfl) hO rfl (fun b => by simp only [Act.put, zA, zB, zC]; rfl) ?_; (refine nm 12 rfl ?_; clear hO; intro b12 u hO); simp only [zL, zK] at hO)
    | ((with_reducible refine wpl_load ?_); refine wpList_load_box rfl (by rfl) hO rfl _ (by (first | exact at8 | exact at12 | fail)) (by rfl) (by simp only [Act.put, zA, zB, zC]; rfl) ?_)
    | ((with_reducible refine wpl_store ?_); refine wpList_store_box rfl (by rfl) hO rfl _ (by exact at12) rfl (by rfl) (by rfl) (by rfl) (by rfl) (by rfl) ?_; clear hO; intro u hO; simp only [zC, zB] at hO)
    | fail)
  refine (CEr _ _ _ (hO.rdp 0 rfl hvo8) (hO.rdp 7 rfl hvo4)).mono ?_
  rintro e u ⟨rfl, hb⟩
  (replace hO := hO.step hb; clear hb)
  go_wp2_with (first
    | ((with_reducible refine wpl_alloc ?_); refine wpList_alloc_own rfl (by rfl) hO rfl (fun b => by simp only [Act.put, zA, zB, zC]; rfl) ?_; (first | (refine nm 0 rfl ?_; clear hO; intro b0 u hO) | (refine nm 1 rfl ?_; clear hO; intro b1 u hO) | (refine nm 2 rfl ?_; clear hO; intro b2 u hO) | (refine nm 3 rfl ?_; clear hO; intro b3 u hO) | (refine nm 4 rfl ?_; clear hO; intro b4 u hO) | (refine nm 5 rfl ?_; clear hO; intro b5 u hO) | (refine nm 6 rfl ?_; clear hO; intro b6 u hO) | (refine nm 7 rfl ?_; clear hO; intro b7 u hO) | (refine nm 8 rfl ?_; clear hO; intro b8 u hO) | (refine nm 9 rfl ?_; clear hO; intro b9 u hO) | (refine nm 10 rfl ?_; clear hO; intro b10 u hO) | (refine nm 11 rfl ?_; clear hO; intro b11 u hO) | (refine nm 12 rfl ?_; clear hO; intro b12 u hO) | (refine nm 13 rfl ?_; clear hO; intro b13 u hO) | (refine nm 14 rfl ?_; clear hO; intro b14 u hO) | (refine nm 15 rfl ?_; clear hO; intro b15 u hO) | (refine nm 16 rfl ?_; clear hO; intro b16 u hO) | (refine nm 17 rfl ?_; clear hO; intro b17 u hO) | (refine nm 18 rfl ?_; clear hO; intro b18 u hO)); simp only [zL, zK] at hO)
    | ((with_reducible refine wpl_box ?_); refine wpList_box_own rfl (by rfl) hO rfl rfl (fun b => by simp only [Act.put, zA, zB, zC]; rfl) ?_; (first | (refine nm 0 rfl ?_; clear hO; intro b0 u hO) | (refine nm 1 rfl ?_; clear hO; intro b1 u hO) | (refine nm 2 rfl ?_; clear hO; intro b2 u hO) | (refine nm 3 rfl ?_; clear hO; intro b3 u hO) | (refine nm 4 rfl ?_; clear hO; intro b4 u hO) | (refine nm 5 rfl ?_; clear hO; intro b5 u hO) | (refine nm 6 rfl ?_; clear hO; intro b6 u hO) | (refine nm 7 rfl ?_; clear hO; intro b7 u hO) | (refine nm 8 rfl ?_; clear hO; intro b8 u hO) | (refine nm 9 rfl ?_; clear hO; intro b9 u hO) | (refine nm 10 rfl ?_; clear hO; intro b10 u hO) | (refine nm 11 rfl ?_; clear hO; intro b11 u hO) | (refine nm 12 rfl ?_; clear hO; intro b12 u hO) | (refine nm 13 rfl ?_; clear hO; intro b13 u hO) | (refine nm 14 rfl ?_; clear hO; intro b14 u hO) | (refine nm 15 rfl ?_; clear hO; intro b15 u hO) | (refine nm 16 rfl ?_; clear hO; intro b16 u hO) | (refine nm 17 rfl ?_; clear hO; intro b17 u hO) | (refine nm 18 rfl ?_; clear hO; intro b18 u hO)); simp only [zL, zK] at hO)
    | ((with_reducible refine wpl_load ?_); refine wpList_load_box rfl (by (first | rfl | (simp only [Region.wanted, yielded, *]; go_simp; done) | (simp [Region.wanted, yielded, *]; done) | fail)) hO rfl _ (by (first | exact at0 | exact at1 | exact at2 | exact at3 | exact at4 | exact at5 | exact at6 | exact at7 | exact at8 | exact at9 | exact at10 | exact at11 | exact at12 | exact at13 | exact at14 | exact at15 | exact at16 | exact at17 | exact at18)) (by rfl) (by simp only [Act.put, zA, zB, zC]; rfl) ?_)
    | ((with_reducible refine wpl_load ?_); refine wpList_load_field rfl (by (first | rfl | (simp only [Region.wanted, yielded, *]; go_simp; done) | (simp [Region.wanted, yielded, *]; done) | fail)) hO rfl _ (by (first | exact at0 | exact at1 | exact at2 | exact at3 | exact at4 | exact at5 | exact at6 | exact at7 | exact at8 | exact at9 | exact at10 | exact at11 | exact at12 | exact at13 | exact at14 | exact at15 | exact at16 | exact at17 | exact at18)) (by rfl) (by simp only [Act.put, zA, zB, zC]; rfl) ?_)
    | ((with_reducible refine wpl_store ?_); refine wpList_store_box rfl (by rfl) hO rfl _ (by (first | exact at0 | exact at1 | exact at2 | exact at3 | exact at4 | exact at5 | exact at6 | exact at7 | exact at8 | exact at9 | exact at10 | exact at11 | exact at12 | exact at13 | exact at14 | exact at15 | exact at16 | exact at17 | exact at18)) rfl (by rfl) (by rfl) (by rfl) (by rfl) (by rfl) ?_; clear hO; intro u hO; simp only [zC, zB] at hO)
    | ((with_reducible refine wpl_store ?_); refine wpList_store_field rfl (by rfl) hO rfl _ (by (first | exact at0 | exact at1 | exact at2 | exact at3 | exact at4 | exact at5 | exact at6 | exact at7 | exact at8 | exact at9 | exact at10 | exact at11 | exact at12 | exact at13 | exact at14 | exact at15 | exact at16 | exact at17 | exact at18)) (zM rfl) (by simp only [Act.eval, zJ, zF, zD, zE, zP]; rfl) (by rfl) (by rfl) (by rfl) ?_; clear hO; intro u hO; simp only [zC, zB] at hO)
    | fail)
  refine J.wp_region_c (n := 142) [0, 1] [2] (deps := fun i => [[], [], [1], [], []].getD i []) (fun _ _ => (J.freshV (.mk x0k x0i x0p x0n x0c x0l x0o x0e))) (r := 2) (lst := #[true, true, true, false, false]) (by kernel_rfl) (by kernel_rfl) (by kernel_rfl) rfl (by decide) (by kernel_rfl) hO ?_
  refine J.Chain.cons (by rfl) (by rfl) (fun M u hO K hK => by (exact wp_load_box hO rfl rfl _ (by exact at9) (by rfl) (by rfl) (hK _ hO))) (by simp only [J.putL, zI, zG, zH, J.dstOf, zF, zD, zE, zS, zQ, zR, Act.put, zA, zB, zC]; rfl) ?_
  refine J.Chain.cons (by rfl) (by rfl) (fun M u hO K hK => by (exact wp_load_box hO rfl rfl _ (by exact at4) (by rfl) (by rfl) (hK _ hO))) (by simp only [J.putL, zI, zG, zH, J.dstOf, zF, zD, zE, zS, zQ, zR, Act.put, zA, zB, zC]; rfl) ?_
  refine J.Chain.nil ⟨?_, ?_⟩
  · refine J.Each.cons (by rfl) ?_ ?_; exact ⟨rfl, fun vs M u hO _ K hK => by ((try simp only [J.putL, zI, zG, zH, J.dstOf, zF, zD, zE, zS, zQ, zR, Act.put, zA, zB, zC]); (try simp only [wp_at_zero, wp_at_succ]); go_step; refine (CU0 _ hO.below).mono ?_; rintro e u ⟨vs9', F9', rfl, hvo9, hb⟩; have hK' := hK _ _ _ (show (J.freshV (.mk x0k x0i x0p x0n x0c x0l x0o x0e)) _ from ⟨vs9', F9', rfl, hvo9⟩) ((hO.call hb).perm List.perm_append_comm); clear hK; simp only [J.putL, zI, zG, zH, J.dstOf, zF, zD, zE, zS, zQ, zR, Act.put, zA, zB, zC] at hK'; exact hK')⟩; exact J.Each.nil
  intro vs u hO hF
  obtain ⟨vs9', F9', h2, hvo9⟩ : (J.freshV (.mk x0k x0i x0p x0n x0c x0l x0o x0e)) (vs 2) := hF 2 (by decide)
  clear hF
  simp only [List.flatMap_cons, List.flatMap_nil, h2, List.append_nil, zL, zK] at hO
  simp only [h2, J.putL, zI, zG, zH, J.dstOf, zF, zD, zE, zS, zQ, zR, Act.put, zA, zB, zC]
  clear h2 vs
  refine J.wpAny_one (i := 3) (by kernel_rfl) (by rfl) rfl fun K hK => ?_
  simp only [wp_at_zero, wp_at_succ]
  go_step
  refine (CE0 _ _ _ (hO.rdp 3 rfl hvo5) (hO.rdp 13 rfl hvo9)).mono ?_
  rintro e u ⟨rfl, hb⟩
  (replace hO := hO.step hb; clear hb)
  refine hK _ _ ?_
  clear hK K
  refine J.wpAny_one (i := 4) (by kernel_rfl) (by rfl) rfl fun K hK => ?_
  simp only [wp_at_zero, wp_at_succ]
  go_step
  refine hK _ _ ?_
  clear hK K
  refine wpAny_done (by kernel_rfl) ?_ _
  go_wp2_with (first
    | ((with_reducible refine wpl_alloc ?_); refine wpList_alloc_own rfl (by rfl) hO rfl (fun b => by simp only [Act.put, zA, zB, zC]; rfl) ?_; (first | (refine nm 0 rfl ?_; clear hO; intro b0 u hO) | (refine nm 1 rfl ?_; clear hO; intro b1 u hO) | (refine nm 2 rfl ?_; clear hO; intro b2 u hO) | (refine nm 3 rfl ?_; clear hO; intro b3 u hO) | (refine nm 4 rfl ?_; clear hO; intro b4 u hO) | (refine nm 5 rfl ?_; clear hO; intro b5 u hO) | (refine nm 6 rfl ?_; clear hO; intro b6 u hO) | (refine nm 7 rfl ?_; clear hO; intro b7 u hO) | (refine nm 8 rfl ?_; clear hO; intro b8 u hO) | (refine nm 9 rfl ?_; clear hO; intro b9 u hO) | (refine nm 10 rfl ?_; clear hO; intro b10 u hO) | (refine nm 11 rfl ?_; clear hO; intro b11 u hO) | (refine nm 12 rfl ?_; clear hO; intro b12 u hO) | (refine nm 13 rfl ?_; clear hO; intro b13 u hO) | (refine nm 14 rfl ?_; clear hO; intro b14 u hO) | (refine nm 15 rfl ?_; clear hO; intro b15 u hO) | (refine nm 16 rfl ?_; clear hO; intro b16 u hO) | (refine nm 17 rfl ?_; clear hO; intro b17 u hO) | (refine nm 18 rfl ?_; clear hO; intro b18 u hO)); simp only [zL, zK] at hO)
    | ((with_reducible refine wpl_box ?_); refine wpList_box_own rfl (by rfl) hO rfl rfl (fun b => by simp only [Act.put, zA, zB, zC]; rfl) ?_; (first | (refine nm 0 rfl ?_; clear hO; intro b0 u hO) | (refine nm 1 rfl ?_; clear hO; intro b1 u hO) | (refine nm 2 rfl ?_; clear hO; intro b2 u hO) | (refine nm 3 rfl ?_; clear hO; intro b3 u hO) | (refine nm 4 rfl ?_; clear hO; intro b4 u hO) | (refine nm 5 rfl ?_; clear hO; intro b5 u hO) | (refine nm 6 rfl ?_; clear hO; intro b6 u hO) | (refine nm 7 rfl ?_; clear hO; intro b7 u hO) | (refine nm 8 rfl ?_; clear hO; intro b8 u hO) | (refine nm 9 rfl ?_; clear hO; intro b9 u hO) | (refine nm 10 rfl ?_; clear hO; intro b10 u hO) | (refine nm 11 rfl ?_; clear hO; intro b11 u hO) | (refine nm 12 rfl ?_; clear hO; intro b12 u hO) | (refine nm 13 rfl ?_; clear hO; intro b13 u hO) | (refine nm 14 rfl ?_; clear hO; intro b14 u hO) | (refine nm 15 rfl ?_; clear hO; intro b15 u hO) | (refine nm 16 rfl ?_; clear hO; intro b16 u hO) | (refine nm 17 rfl ?_; clear hO; intro b17 u hO) | (refine nm 18 rfl ?_; clear hO; intro b18 u hO)); simp only [zL, zK] at hO)
    | ((with_reducible refine wpl_load ?_); refine wpList_load_box rfl (by (first | rfl | (simp only [Region.wanted, yielded, *]; go_simp; done) | (simp [Region.wanted, yielded, *]; done) | fail)) hO rfl _ (by (first | exact at0 | exact at1 | exact at2 | exact at3 | exact at4 | exact at5 | exact at6 | exact at7 | exact at8 | exact at9 | exact at10 | exact at11 | exact at12 | exact at13 | exact at14 | exact at15 | exact at16 | exact at17 | exact at18)) (by rfl) (by simp only [Act.put, zA, zB, zC]; rfl) ?_)
    | ((with_reducible refine wpl_load ?_); refine wpList_load_field rfl (by (first | rfl | (simp only [Region.wanted, yielded, *]; go_simp; done) | (simp [Region.wanted, yielded, *]; done) | fail)) hO rfl _ (by (first | exact at0 | exact at1 | exact at2 | exact at3 | exact at4 | exact at5 | exact at6 | exact at7 | exact at8 | exact at9 | exact at10 | exact at11 | exact at12 | exact at13 | exact at14 | exact at15 | exact at16 | exact at17 | exact at18)) (by rfl) (by simp only [Act.put, zA, zB, zC]; rfl) ?_)
    | ((with_reducible refine wpl_store ?_); refine wpList_store_box rfl (by rfl) hO rfl _ (by (first | exact at0 | exact at1 | exact at2 | exact at3 | exact at4 | exact at5 | exact at6 | exact at7 | exact at8 | exact at9 | exact at10 | exact at11 | exact at12 | exact at13 | exact at14 | exact at15 | exact at16 | exact at17 | exact at18)) rfl (by rfl) (by rfl) (by rfl) (by rfl) (by rfl) ?_; clear hO; intro u hO; simp only [zC, zB] at hO)
    | ((with_reducible refine wpl_store ?_); refine wpList_store_field rfl (by rfl) hO rfl _ (by (first | exact at0 | exact at1 | exact at2 | exact at3 | exact at4 | exact at5 | exact at6 | exact at7 | exact at8 | exact at9 | exact at10 | exact at11 | exact at12 | exact at13 | exact at14 | exact at15 | exact at16 | exact at17 | exact at18)) (zM rfl) (by simp only [Act.eval, zJ, zF, zD, zE, zP]; rfl) (by rfl) (by rfl) (by rfl) ?_; clear hO; intro u hO; simp only [zC, zB] at hO)
    | fail)
  replace hO := hO.pick [0, 1, 2, 3, 4, 5, 6, 7, 8, 9, 10, 11, 12] (by decide)
  simp only [zN, zO, zE, zD] at hO
  refine J.wp_region_c (n := 142) [0, 1] [2] (deps := fun i => [[], [], [1], [], []].getD i []) (fun _ _ => (J.freshV (.mk x1k x1i x1p x1n x1c x1l x1o x1e))) (r := 2) (lst := #[true, true, true, false, false]) (by kernel_rfl) (by kernel_rfl) (by kernel_rfl) rfl (by decide) (by kernel_rfl) hO ?_
  refine J.Chain.cons (by rfl) (by rfl) (fun M u hO K hK => by (exact wp_load_box hO rfl rfl _ (by exact at10) (by rfl) (by rfl) (hK _ hO))) (by simp only [J.putL, zI, zG, zH, J.dstOf, zF, zD, zE, zS, zQ, zR, Act.put, zA, zB, zC]; rfl) ?_
  refine J.Chain.cons (by rfl) (by rfl) (fun M u hO K hK => by (exact wp_load_box hO rfl rfl _ (by exact at5) (by rfl) (by rfl) (hK _ hO))) (by simp only [J.putL, zI, zG, zH, J.dstOf, zF, zD, zE, zS, zQ, zR, Act.put, zA, zB, zC]; rfl) ?_
  refine J.Chain.nil ⟨?_, ?_⟩
  · refine J.Each.cons (by rfl) ?_ ?_; exact ⟨rfl, fun vs M u hO _ K hK => by ((try simp only [J.putL, zI, zG, zH, J.dstOf, zF, zD, zE, zS, zQ, zR, Act.put, zA, zB, zC]); (try simp only [wp_at_zero, wp_at_succ]); go_step; refine (CU1 _ hO.below).mono ?_; rintro e u ⟨vs10', F10', rfl, hvo10, hb⟩; have hK' := hK _ _ _ (show (J.freshV (.mk x1k x1i x1p x1n x1c x1l x1o x1e)) _ from ⟨vs10', F10', rfl, hvo10⟩) ((hO.call hb).perm List.perm_append_comm); clear hK; simp only [J.putL, zI, zG, zH, J.dstOf, zF, zD, zE, zS, zQ, zR, Act.put, zA, zB, zC] at hK'; exact hK')⟩; exact J.Each.nil
  intro vs u hO hF
  obtain ⟨vs10', F10', h2, hvo10⟩ : (J.freshV (.mk x1k x1i x1p x1n x1c x1l x1o x1e)) (vs 2) := hF 2 (by decide)
  clear hF
  simp only [List.flatMap_cons, List.flatMap_nil, h2, List.append_nil, zL, zK] at hO
  simp only [h2, J.putL, zI, zG, zH, J.dstOf, zF, zD, zE, zS, zQ, zR, Act.put, zA, zB, zC]
  clear h2 vs
  refine J.wpAny_one (i := 3) (by kernel_rfl) (by rfl) rfl fun K hK => ?_
  simp only [wp_at_zero, wp_at_succ]
  go_step
  refine (CE1 _ _ _ (hO.rdp 2 rfl hvo6) (hO.rdp 13 rfl hvo10)).mono ?_
  rintro e u ⟨rfl, hb⟩
  (replace hO := hO.step hb; clear hb)
  refine hK _ _ ?_
  clear hK K
  refine J.wpAny_one (i := 4) (by kernel_rfl) (by rfl) rfl fun K hK => ?_
  simp only [wp_at_zero, wp_at_succ]
  go_step
  refine hK _ _ ?_
  clear hK K
  refine wpAny_done (by kernel_rfl) ?_ _
  go_wp2_with (first
    | ((with_reducible refine wpl_alloc ?_); refine wpList_alloc_own rfl (by rfl) hO rfl (fun b => by simp only [Act.put, zA, zB, zC]; rfl) ?_; (first | (refine nm 0 rfl ?_; clear hO; intro b0 u hO) | (refine nm 1 rfl ?_; clear hO; intro b1 u hO) | (refine nm 2 rfl ?_; clear hO; intro b2 u hO) | (refine nm 3 rfl ?_; clear hO; intro b3 u hO) | (refine nm 4 rfl ?_; clear hO; intro b4 u hO) | (refine nm 5 rfl ?_; clear hO; intro b5 u hO) | (refine nm 6 rfl ?_; clear hO; intro b6 u hO) | (refine nm 7 rfl ?_; clear hO; intro b7 u hO) | (refine nm 8 rfl ?_; clear hO; intro b8 u hO) | (refine nm 9 rfl ?_; clear hO; intro b9 u hO) | (refine nm 10 rfl ?_; clear hO; intro b10 u hO) | (refine nm 11 rfl ?_; clear hO; intro b11 u hO) | (refine nm 12 rfl ?_; clear hO; intro b12 u hO) | (refine nm 13 rfl ?_; clear hO; intro b13 u hO) | (refine nm 14 rfl ?_; clear hO; intro b14 u hO) | (refine nm 15 rfl ?_; clear hO; intro b15 u hO) | (refine nm 16 rfl ?_; clear hO; intro b16 u hO) | (refine nm 17 rfl ?_; clear hO; intro b17 u hO) | (refine nm 18 rfl ?_; clear hO; intro b18 u hO)); simp only [zL, zK] at hO)
    | ((with_reducible refine wpl_box ?_); refine wpList_box_own rfl (by rfl) hO rfl rfl (fun b => by simp only [Act.put, zA, zB, zC]; rfl) ?_; (first | (refine nm 0 rfl ?_; clear hO; intro b0 u hO) | (refine nm 1 rfl ?_; clear hO; intro b1 u hO) | (refine nm 2 rfl ?_; clear hO; intro b2 u hO) | (refine nm 3 rfl ?_; clear hO; intro b3 u hO) | (refine nm 4 rfl ?_; clear hO; intro b4 u hO) | (refine nm 5 rfl ?_; clear hO; intro b5 u hO) | (refine nm 6 rfl ?_; clear hO; intro b6 u hO) | (refine nm 7 rfl ?_; clear hO; intro b7 u hO) | (refine nm 8 rfl ?_; clear hO; intro b8 u hO) | (refine nm 9 rfl ?_; clear hO; intro b9 u hO) | (refine nm 10 rfl ?_; clear hO; intro b10 u hO) | (refine nm 11 rfl ?_; clear hO; intro b11 u hO) | (refine nm 12 rfl ?_; clear hO; intro b12 u hO) | (refine nm 13 rfl ?_; clear hO; intro b13 u hO) | (refine nm 14 rfl ?_; clear hO; intro b14 u hO) | (refine nm 15 rfl ?_; clear hO; intro b15 u hO) | (refine nm 16 rfl ?_; clear hO; intro b16 u hO) | (refine nm 17 rfl ?_; clear hO; intro b17 u hO) | (refine nm 18 rfl ?_; clear hO; intro b18 u hO)); simp only [zL, zK] at hO)
    | ((with_reducible refine wpl_load ?_); refine wpList_load_box rfl (by (first | rfl | (simp only [Region.wanted, yielded, *]; go_simp; done) | (simp [Region.wanted, yielded, *]; done) | fail)) hO rfl _ (by (first | exact at0 | exact at1 | exact at2 | exact at3 | exact at4 | exact at5 | exact at6 | exact at7 | exact at8 | exact at9 | exact at10 | exact at11 | exact at12 | exact at13 | exact at14 | exact at15 | exact at16 | exact at17 | exact at18)) (by rfl) (by simp only [Act.put, zA, zB, zC]; rfl) ?_)
    | ((with_reducible refine wpl_load ?_); refine wpList_load_field rfl (by (first | rfl | (simp only [Region.wanted, yielded, *]; go_simp; done) | (simp [Region.wanted, yielded, *]; done) | fail)) hO rfl _ (by (first | exact at0 | exact at1 | exact at2 | exact at3 | exact at4 | exact at5 | exact at6 | exact at7 | exact at8 | exact at9 | exact at10 | exact at11 | exact at12 | exact at13 | exact at14 | exact at15 | exact at16 | exact at17 | exact at18)) (by rfl) (by simp only [Act.put, zA, zB, zC]; rfl) ?_)
    | ((with_reducible refine wpl_store ?_); refine wpList_store_box rfl (by rfl) hO rfl _ (by (first | exact at0 | exact at1 | exact at2 | exact at3 | exact at4 | exact at5 | exact at6 | exact at7 | exact at8 | exact at9 | exact at10 | exact at11 | exact at12 | exact at13 | exact at14 | exact at15 | exact at16 | exact at17 | exact at18)) rfl (by rfl) (by rfl) (by rfl) (by rfl) (by rfl) ?_; clear hO; intro u hO; simp only [zC, zB] at hO)
    | ((with_reducible refine wpl_store ?_); refine wpList_store_field rfl (by rfl) hO rfl _ (by (first | exact at0 | exact at1 | exact at2 | exact at3 | exact at4 | exact at5 | exact at6 | exact at7 | exact at8 | exact at9 | exact at10 | exact at11 | exact at12 | exact at13 | exact at14 | exact at15 | exact at16 | exact at17 | exact at18)) (zM rfl) (by simp only [Act.eval, zJ, zF, zD, zE, zP]; rfl) (by rfl) (by rfl) (by rfl) ?_; clear hO; intro u hO; simp only [zC, zB] at hO)
    | fail)
  replace hO := hO.pick [0, 1, 2, 3, 4, 5, 6, 7, 8, 9, 10, 11, 12] (by decide)
  simp only [zN, zO, zE, zD] at hO
  refine J.wp_region_c (n := 142) [0, 1] [2] (deps := fun i => [[], [], [1], [], []].getD i []) (fun _ _ => (J.freshV (.mk x2k x2i x2p x2n x2c x2l x2o x2e))) (r := 2) (lst := #[true, true, true, false, false]) (by kernel_rfl) (by kernel_rfl) (by kernel_rfl) rfl (by decide) (by kernel_rfl) hO ?_
  refine J.Chain.cons (by rfl) (by rfl) (fun M u hO K hK => by (exact wp_load_box hO rfl rfl _ (by exact at11) (by rfl) (by rfl) (hK _ hO))) (by simp only [J.putL, zI, zG, zH, J.dstOf, zF, zD, zE, zS, zQ, zR, Act.put, zA, zB, zC]; rfl) ?_
  refine J.Chain.cons (by rfl) (by rfl) (fun M u hO K hK => by (exact wp_load_box hO rfl rfl _ (by exact at6) (by rfl) (by rfl) (hK _ hO))) (by simp only [J.putL, zI, zG, zH, J.dstOf, zF, zD, zE, zS, zQ, zR, Act.put, zA, zB, zC]; rfl) ?_
  refine J.Chain.nil ⟨?_, ?_⟩
  · refine J.Each.cons (by rfl) ?_ ?_; exact ⟨rfl, fun vs M u hO _ K hK => by ((try simp only [J.putL, zI, zG, zH, J.dstOf, zF, zD, zE, zS, zQ, zR, Act.put, zA, zB, zC]); (try simp only [wp_at_zero, wp_at_succ]); go_step; refine (CU2 _ hO.below).mono ?_; rintro e u ⟨vs11', F11', rfl, hvo11, hb⟩; have hK' := hK _ _ _ (show (J.freshV (.mk x2k x2i x2p x2n x2c x2l x2o x2e)) _ from ⟨vs11', F11', rfl, hvo11⟩) ((hO.call hb).perm List.perm_append_comm); clear hK; simp only [J.putL, zI, zG, zH, J.dstOf, zF, zD, zE, zS, zQ, zR, Act.put, zA, zB, zC] at hK'; exact hK')⟩; exact J.Each.nil
  intro vs u hO hF
  obtain ⟨vs11', F11', h2, hvo11⟩ : (J.freshV (.mk x2k x2i x2p x2n x2c x2l x2o x2e)) (vs 2) := hF 2 (by decide)
  clear hF
  simp only [List.flatMap_cons, List.flatMap_nil, h2, List.append_nil, zL, zK] at hO
  simp only [h2, J.putL, zI, zG, zH, J.dstOf, zF, zD, zE, zS, zQ, zR, Act.put, zA, zB, zC]
  clear h2 vs
  refine J.wpAny_one (i := 3) (by kernel_rfl) (by rfl) rfl fun K hK => ?_
  simp only [wp_at_zero, wp_at_succ]
  go_step
  refine (CE2 _ _ _ (hO.rdp 1 rfl hvo7) (hO.rdp 13 rfl hvo11)).mono ?_
  rintro e u ⟨rfl, hb⟩
  (replace hO := hO.step hb; clear hb)
  refine hK _ _ ?_
  clear hK K
  refine J.wpAny_one (i := 4) (by kernel_rfl) (by rfl) rfl fun K hK => ?_
  simp only [wp_at_zero, wp_at_succ]
  go_step
  refine hK _ _ ?_
  clear hK K
  refine wpAny_done (by kernel_rfl) ?_ _
  go_wp2_with (first
    | ((with_reducible refine wpl_load ?_); refine wpList_load_box rfl (by rfl) hO rfl _ (by exact at9) (by rfl) (by simp only [Act.put, zA, zB, zC]; rfl) ?_)
    | fail)
  replace hO := hO.pick [0, 1, 2, 3, 4, 5, 6, 7, 8, 9, 10, 11, 12] (by decide)
  simp only [zN, zO, zE, zD] at hO
  replace hO := hO.pick [3, 0, 1, 2, 4, 5, 6, 7, 8, 9, 10, 11, 12] (by decide)
  simp only [zN, zO, zE, zD] at hO
  refine (CM0 _ _ _ _ _ hvo5 hO).mono ?_
  clear hO
  rintro e u ⟨rfl, F12', hvo12, hO⟩
  go_wp2_with (first
    | ((with_reducible refine wpl_load ?_); refine wpList_load_box rfl (by rfl) hO rfl _ (by exact at10) (by rfl) (by simp only [Act.put, zA, zB, zC]; rfl) ?_)
    | fail)
  replace hO := hO.pick [3, 0, 1, 2, 4, 5, 6, 7, 8, 9, 10, 11, 12] (by decide)
  simp only [zN, zO, zE, zD] at hO
  refine (CM1 _ _ _ _ _ hvo6 hO).mono ?_
  clear hO
  rintro e u ⟨rfl, F13', hvo13, hO⟩
  go_wp2_with (first
    | ((with_reducible refine wpl_load ?_); refine wpList_load_box rfl (by rfl) hO rfl _ (by exact at11) (by rfl) (by simp only [Act.put, zA, zB, zC]; rfl) ?_)
    | fail)
  replace hO := hO.pick [3, 0, 1, 2, 4, 5, 6, 7, 8, 9, 10, 11, 12] (by decide)
  simp only [zN, zO, zE, zD] at hO
  refine (CM2 _ _ _ _ _ hvo7 hO).mono ?_
  clear hO
  rintro e u ⟨rfl, F14', hvo14, hO⟩
  go_wp2_with (first
    | ((with_reducible refine wpl_load ?_); refine wpList_load_box rfl (by rfl) hO rfl _ (by (first | exact at8 | exact at12 | fail)) (by rfl) (by simp only [Act.put, zA, zB, zC]; rfl) ?_)
    | fail)
  refine (CEr _ _ _ (hO.rdp 3 rfl hvo8) (hO.rdp 7 rfl hvo4)).mono ?_
  rintro e u ⟨rfl, hb⟩
  (replace hO := hO.step hb; clear hb)
  go_wp2_with (first
    | ((with_reducible refine wpl_load ?_); refine wpList_load_box rfl (by rfl) hO rfl _ (by exact at12) (by rfl) (by simp only [Act.put, zA, zB, zC]; rfl) ?_)
    | fail)
  replace hO := hO.pick [3, 0, 1, 2, 4, 5, 6, 7, 8, 9, 10, 11, 12] (by decide)
  simp only [zN, zO, zE, zD] at hO
  refine (CMr _ _ _ _ _ hvo8 hO).mono ?_
  clear hO
  rintro e u ⟨rfl, F15', hvo15, hO⟩
  go_wp2_with (first
    | ((with_reducible refine wpl_load ?_); refine wpList_load_box rfl (by rfl) hO rfl _ (by exact at12) (by rfl) (by simp only [Act.put, zA, zB, zC]; rfl) ?_)
    | fail)
  refine (CHr _ _ (hO.rdp 0 rfl hvo15)).mono ?_
  rintro e u ⟨rfl, hb⟩
  (replace hO := hO.step hb; clear hb)
  go_wp2_with (first
    | ((with_reducible refine wpl_alloc ?_); refine wpList_alloc_own rfl (by rfl) hO rfl (fun b => by simp only [Act.put, zA, zB, zC]; rfl) ?_; (first | (refine nm 0 rfl ?_; clear hO; intro b0 u hO) | (refine nm 1 rfl ?_; clear hO; intro b1 u hO) | (refine nm 2 rfl ?_; clear hO; intro b2 u hO) | (refine nm 3 rfl ?_; clear hO; intro b3 u hO) | (refine nm 4 rfl ?_; clear hO; intro b4 u hO) | (refine nm 5 rfl ?_; clear hO; intro b5 u hO) | (refine nm 6 rfl ?_; clear hO; intro b6 u hO) | (refine nm 7 rfl ?_; clear hO; intro b7 u hO) | (refine nm 8 rfl ?_; clear hO; intro b8 u hO) | (refine nm 9 rfl ?_; clear hO; intro b9 u hO) | (refine nm 10 rfl ?_; clear hO; intro b10 u hO) | (refine nm 11 rfl ?_; clear hO; intro b11 u hO) | (refine nm 12 rfl ?_; clear hO; intro b12 u hO) | (refine nm 13 rfl ?_; clear hO; intro b13 u hO) | (refine nm 14 rfl ?_; clear hO; intro b14 u hO) | (refine nm 15 rfl ?_; clear hO; intro b15 u hO) | (refine nm 16 rfl ?_; clear hO; intro b16 u hO) | (refine nm 17 rfl ?_; clear hO; intro b17 u hO) | (refine nm 18 rfl ?_; clear hO; intro b18 u hO)); simp only [zL, zK] at hO)
    | ((with_reducible refine wpl_box ?_); refine wpList_box_own rfl (by rfl) hO rfl rfl (fun b => by simp only [Act.put, zA, zB, zC]; rfl) ?_; (first | (refine nm 0 rfl ?_; clear hO; intro b0 u hO) | (refine nm 1 rfl ?_; clear hO; intro b1 u hO) | (refine nm 2 rfl ?_; clear hO; intro b2 u hO) | (refine nm 3 rfl ?_; clear hO; intro b3 u hO) | (refine nm 4 rfl ?_; clear hO; intro b4 u hO) | (refine nm 5 rfl ?_; clear hO; intro b5 u hO) | (refine nm 6 rfl ?_; clear hO; intro b6 u hO) | (refine nm 7 rfl ?_; clear hO; intro b7 u hO) | (refine nm 8 rfl ?_; clear hO; intro b8 u hO) | (refine nm 9 rfl ?_; clear hO; intro b9 u hO) | (refine nm 10 rfl ?_; clear hO; intro b10 u hO) | (refine nm 11 rfl ?_; clear hO; intro b11 u hO) | (refine nm 12 rfl ?_; clear hO; intro b12 u hO) | (refine nm 13 rfl ?_; clear hO; intro b13 u hO) | (refine nm 14 rfl ?_; clear hO; intro b14 u hO) | (refine nm 15 rfl ?_; clear hO; intro b15 u hO) | (refine nm 16 rfl ?_; clear hO; intro b16 u hO) | (refine nm 17 rfl ?_; clear hO; intro b17 u hO) | (refine nm 18 rfl ?_; clear hO; intro b18 u hO)); simp only [zL, zK] at hO)
    | ((with_reducible refine wpl_load ?_); refine wpList_load_box rfl (by (first | rfl | (simp only [Region.wanted, yielded, *]; go_simp; done) | (simp [Region.wanted, yielded, *]; done) | fail)) hO rfl _ (by (first | exact at0 | exact at1 | exact at2 | exact at3 | exact at4 | exact at5 | exact at6 | exact at7 | exact at8 | exact at9 | exact at10 | exact at11 | exact at12 | exact at13 | exact at14 | exact at15 | exact at16 | exact at17 | exact at18)) (by rfl) (by simp only [Act.put, zA, zB, zC]; rfl) ?_)
    | ((with_reducible refine wpl_load ?_); refine wpList_load_field rfl (by (first | rfl | (simp only [Region.wanted, yielded, *]; go_simp; done) | (simp [Region.wanted, yielded, *]; done) | fail)) hO rfl _ (by (first | exact at0 | exact at1 | exact at2 | exact at3 | exact at4 | exact at5 | exact at6 | exact at7 | exact at8 | exact at9 | exact at10 | exact at11 | exact at12 | exact at13 | exact at14 | exact at15 | exact at16 | exact at17 | exact at18)) (by rfl) (by simp only [Act.put, zA, zB, zC]; rfl) ?_)
    | ((with_reducible refine wpl_store ?_); refine wpList_store_box rfl (by rfl) hO rfl _ (by (first | exact at0 | exact at1 | exact at2 | exact at3 | exact at4 | exact at5 | exact at6 | exact at7 | exact at8 | exact at9 | exact at10 | exact at11 | exact at12 | exact at13 | exact at14 | exact at15 | exact at16 | exact at17 | exact at18)) rfl (by rfl) (by rfl) (by rfl) (by rfl) (by rfl) ?_; clear hO; intro u hO; simp only [zC, zB] at hO)
    | ((with_reducible refine wpl_store ?_); refine wpList_store_field rfl (by rfl) hO rfl _ (by (first | exact at0 | exact at1 | exact at2 | exact at3 | exact at4 | exact at5 | exact at6 | exact at7 | exact at8 | exact at9 | exact at10 | exact at11 | exact at12 | exact at13 | exact at14 | exact at15 | exact at16 | exact at17 | exact at18)) (zM rfl) (by simp only [Act.eval, zJ, zF, zD, zE, zP]; rfl) (by rfl) (by rfl) (by rfl) ?_; clear hO; intro u hO; simp only [zC, zB] at hO)
    | fail)
  refine J.wp_region_e (n := 142) [0, 2, 4] [1, 3, 5, 6, 7, 8, 9, 10] 9 (deps := fun i => [[], [0], [], [2], [], [4], [0, 1, 2, 3, 4, 5], [0, 1, 2, 3, 4, 5, 6], [0, 1, 2, 3, 4, 5, 6, 7], [0, 1, 2, 3, 4, 5, 6, 7], [], [], []].getD i []) (fun i d => [fun _ => True, (J.freshV (.mk x0k x0i x0p x0n x0c x0l x0o x0e)), fun _ => True, (J.freshV (.mk x1k x1i x1p x1n x1c x1l x1o x1e)), fun _ => True, (J.freshV (.mk x2k x2i x2p x2n x2c x2l x2o x2e)), (J.freshVE r (.string s)), (fun x => x = ((d 6).1, [])), (J.isFst ((d 7).1)), (J.isSnd ((d 7).1)), J.fresh 29 [.int .i64 0, .slice none 0 0, .slice none 0 0, .slice none 0 0, .slice none 0 0, .slice none 0 0, .int .i64 0, .int .i64 0], fun _ => True, fun _ => True].getD i (fun _ => True)) (r := 2) (lst := #[true, true, true, true, true, true, true, true, true, true, true, false, false]) (lst2 := #[true, true, true, true, true, true, true, true, true, false, true, false, false]) (by kernel_rfl) (by kernel_rfl) (by kernel_rfl) (by kernel_rfl) (by kernel_rfl) rfl (by decide) (by kernel_rfl) hO ?_
  refine J.Chain.cons (by rfl) (by rfl) (fun M u hO K hK => by (exact wp_load_box hO rfl rfl _ (by exact at4) (by rfl) (by rfl) (hK _ hO))) (by simp only [J.putL, zI, zG, zH, J.dstOf, zF, zD, zE, zS, zQ, zR, Act.put, zA, zB, zC]; rfl) ?_
  refine J.Chain.cons (by rfl) (by rfl) (fun M u hO K hK => by (exact wp_load_box hO rfl rfl _ (by exact at5) (by rfl) (by rfl) (hK _ hO))) (by simp only [J.putL, zI, zG, zH, J.dstOf, zF, zD, zE, zS, zQ, zR, Act.put, zA, zB, zC]; rfl) ?_
  refine J.Chain.cons (by rfl) (by rfl) (fun M u hO K hK => by (exact wp_load_box hO rfl rfl _ (by exact at6) (by rfl) (by rfl) (hK _ hO))) (by simp only [J.putL, zI, zG, zH, J.dstOf, zF, zD, zE, zS, zQ, zR, Act.put, zA, zB, zC]; rfl) ?_
  refine J.Chain.nil ⟨?_, ?_, ?_⟩
  · refine J.Each.cons (by rfl) ?_ ?_; exact ⟨rfl, fun vs M u hO _ K hK => by ((try simp only [J.putL, zI, zG, zH, J.dstOf, zF, zD, zE, zS, zQ, zR, Act.put, zA, zB, zC]); (try simp only [wp_at_zero, wp_at_succ]); go_step; refine (CU0 _ hO.below).mono ?_; rintro e u ⟨vs16', F16', rfl, hvo16, hb⟩; have hK' := hK _ _ _ (show (J.freshV (.mk x0k x0i x0p x0n x0c x0l x0o x0e)) _ from ⟨vs16', F16', rfl, hvo16⟩) ((hO.call hb).perm List.perm_append_comm); clear hK; simp only [J.putL, zI, zG, zH, J.dstOf, zF, zD, zE, zS, zQ, zR, Act.put, zA, zB, zC] at hK'; exact hK')⟩; refine J.Each.cons (by rfl) ?_ ?_; exact ⟨rfl, fun vs M u hO _ K hK => by ((try simp only [J.putL, zI, zG, zH, J.dstOf, zF, zD, zE, zS, zQ, zR, Act.put, zA, zB, zC]); (try simp only [wp_at_zero, wp_at_succ]); go_step; refine (CU1 _ hO.below).mono ?_; rintro e u ⟨vs17', F17', rfl, hvo17, hb⟩; have hK' := hK _ _ _ (show (J.freshV (.mk x1k x1i x1p x1n x1c x1l x1o x1e)) _ from ⟨vs17', F17', rfl, hvo17⟩) ((hO.call hb).perm List.perm_append_comm); clear hK; simp only [J.putL, zI, zG, zH, J.dstOf, zF, zD, zE, zS, zQ, zR, Act.put, zA, zB, zC] at hK'; exact hK')⟩; refine J.Each.cons (by rfl) ?_ ?_; exact ⟨rfl, fun vs M u hO _ K hK => by ((try simp only [J.putL, zI, zG, zH, J.dstOf, zF, zD, zE, zS, zQ, zR, Act.put, zA, zB, zC]); (try simp only [wp_at_zero, wp_at_succ]); go_step; refine (CU2 _ hO.below).mono ?_; rintro e u ⟨vs18', F18', rfl, hvo18, hb⟩; have hK' := hK _ _ _ (show (J.freshV (.mk x2k x2i x2p x2n x2c x2l x2o x2e)) _ from ⟨vs18', F18', rfl, hvo18⟩) ((hO.call hb).perm List.perm_append_comm); clear hK; simp only [J.putL, zI, zG, zH, J.dstOf, zF, zD, zE, zS, zQ, zR, Act.put, zA, zB, zC] at hK'; exact hK')⟩; refine J.Each.cons (by rfl) ?_ ?_; exact ⟨rfl, fun vs M u hO hF K hK => by ((try simp only [J.putL, zI, zG, zH, J.dstOf, zF, zD, zE, zS, zQ, zR, Act.put, zA, zB, zC]); obtain ⟨vs16', F16', e1, hvo16⟩ := (hF 1 (by decide) (by decide)).1; have s1 := (hF 1 (by decide) (by decide)).2; rw [e1] at s1; have o1 := hO.sub (List.Sublist.append_left s1 _); obtain ⟨vs17', F17', e3, hvo17⟩ := (hF 3 (by decide) (by decide)).1; have s3 := (hF 3 (by decide) (by decide)).2; rw [e3] at s3; have o3 := hO.sub (List.Sublist.append_left s3 _); obtain ⟨vs18', F18', e5, hvo18⟩ := (hF 5 (by decide) (by decide)).1; have s5 := (hF 5 (by decide) (by decide)).2; rw [e5] at s5; have o5 := hO.sub (List.Sublist.append_left s5 _); (try simp only [wp_at_zero, wp_at_succ]); simp only [e1, e3, e5]; go_step; refine (CI _ _ _ _  (o1.rdp 13 rfl hvo16) (o3.rdp 13 rfl hvo17) (o5.rdp 13 rfl hvo18)).mono ?_; rintro e u ⟨Q191, Q192, Q193, Q194, Q195, m191, m192, m193, m194, m195, W19, rfl, hvo19, hb⟩; have hK' := hK _ _ _ (show (J.freshVE r (.string s)) _ from ⟨Q191, Q192, Q193, Q194, Q195, m191, m192, m193, m194, m195, W19, rfl, hvo19⟩) ((hO.call hb).perm List.perm_append_comm); clear hK; simp only [J.putL, zI, zG, zH, J.dstOf, zF, zD, zE, zS, zQ, zR, Act.put, zA, zB, zC, e1, e3, e5] at hK'; exact hK')⟩; refine J.Each.cons (by rfl) ?_ ?_; exact ⟨rfl, fun vs M u hO hF K hK => by ((try simp only [J.putL, zI, zG, zH, J.dstOf, zF, zD, zE, zS, zQ, zR, Act.put, zA, zB, zC]); obtain ⟨vs16', F16', e1, hvo16⟩ := (hF 1 (by decide) (by decide)).1; obtain ⟨vs17', F17', e3, hvo17⟩ := (hF 3 (by decide) (by decide)).1; obtain ⟨vs18', F18', e5, hvo18⟩ := (hF 5 (by decide) (by decide)).1; obtain ⟨Q191, Q192, Q193, Q194, Q195, m191, m192, m193, m194, m195, W19, e6, hvo19⟩ := (hF 6 (by decide) (by decide)).1; have hK' := hK (Value.tuple #[.agg #[.int .i64 r.kind, .slice Q191 r.items.length m191, .slice Q192 r.parts.length m192, .slice Q193 r.names.length m193, .slice Q194 r.cls.length m194, .slice Q195 r.levels.length m195, .int .i64 r.code, .int .i64 r.env], .string s]) [] u (show (Value.tuple #[.agg #[.int .i64 r.kind, .slice Q191 r.items.length m191, .slice Q192 r.parts.length m192, .slice Q193 r.names.length m193, .slice Q194 r.cls.length m194, .slice Q195 r.levels.length m195, .int .i64 r.code, .int .i64 r.env], .string s], ([] : List Res)) = ((vs 6).1, []) from by simp only [e1, e3, e5, e6]) (by rw [List.append_nil]; exact hO); clear hK hF; simp only [J.putL, zI, zG, zH, J.dstOf, zF, zD, zE, zS, zQ, zR, Act.put, zA, zB, zC, e1, e3, e5, e6] at hK' ⊢; (try simp only [wp_at_zero, wp_at_succ]); go_step; exact hK')⟩; refine J.Each.cons (by rfl) ?_ ?_; exact ⟨rfl, fun vs M u hO hF K hK => by ((try simp only [J.putL, zI, zG, zH, J.dstOf, zF, zD, zE, zS, zQ, zR, Act.put, zA, zB, zC]); obtain ⟨vs16', F16', e1, hvo16⟩ := (hF 1 (by decide) (by decide)).1; obtain ⟨vs17', F17', e3, hvo17⟩ := (hF 3 (by decide) (by decide)).1; obtain ⟨vs18', F18', e5, hvo18⟩ := (hF 5 (by decide) (by decide)).1; obtain ⟨Q191, Q192, Q193, Q194, Q195, m191, m192, m193, m194, m195, W19, e6, hvo19⟩ := (hF 6 (by decide) (by decide)).1; have e7 : vs 7 = ((vs 6).1, []) := (hF 7 (by decide) (by decide)).1; simp only [e1, e3, e5, e6] at e7; have hK' := hK (Value.agg #[.int .i64 r.kind, .slice Q191 r.items.length m191, .slice Q192 r.parts.length m192, .slice Q193 r.names.length m193, .slice Q194 r.cls.length m194, .slice Q195 r.levels.length m195, .int .i64 r.code, .int .i64 r.env]) [] u (show J.isFst ((vs 7).1) _ from by rw [e7]; exact J.isFst_of) (by rw [List.append_nil]; exact hO); clear hK hF; simp only [J.putL, zI, zG, zH, J.dstOf, zF, zD, zE, zS, zQ, zR, Act.put, zA, zB, zC, e1, e3, e5, e6, e7] at hK' ⊢; (try simp only [wp_at_zero, wp_at_succ]); go_step; exact hK')⟩; refine J.Each.cons (by rfl) ?_ ?_; exact ⟨rfl, fun vs M u hO hF K hK => by ((try simp only [J.putL, zI, zG, zH, J.dstOf, zF, zD, zE, zS, zQ, zR, Act.put, zA, zB, zC]); obtain ⟨vs16', F16', e1, hvo16⟩ := (hF 1 (by decide) (by decide)).1; obtain ⟨vs17', F17', e3, hvo17⟩ := (hF 3 (by decide) (by decide)).1; obtain ⟨vs18', F18', e5, hvo18⟩ := (hF 5 (by decide) (by decide)).1; obtain ⟨Q191, Q192, Q193, Q194, Q195, m191, m192, m193, m194, m195, W19, e6, hvo19⟩ := (hF 6 (by decide) (by decide)).1; have e7 : vs 7 = ((vs 6).1, []) := (hF 7 (by decide) (by decide)).1; simp only [e1, e3, e5, e6] at e7; have hK' := hK (Value.string s) [] u (show J.isSnd ((vs 7).1) _ from by rw [e7]; exact J.isSnd_of) (by rw [List.append_nil]; exact hO); clear hK hF; simp only [J.putL, zI, zG, zH, J.dstOf, zF, zD, zE, zS, zQ, zR, Act.put, zA, zB, zC, e1, e3, e5, e6, e7] at hK' ⊢; (try simp only [wp_at_zero, wp_at_succ]); go_step; exact hK')⟩; refine J.Each.cons (by rfl) ?_ ?_; exact ⟨rfl, fun vs M u hO _ K hK => by (refine wp_alloc_own hO rfl rfl fun b u hO => ?_; exact hK _ _ _ (show J.fresh 29 [.int .i64 0, .slice none 0 0, .slice none 0 0, .slice none 0 0, .slice none 0 0, .slice none 0 0, .int .i64 0, .int .i64 0] _ from ⟨b, rfl⟩) hO)⟩; exact J.Each.nil
  intro vs uz hO hF
  obtain ⟨vs16', F16', h1, hvo16⟩ : (J.freshV (.mk x0k x0i x0p x0n x0c x0l x0o x0e)) (vs 1) := hF 1 (by decide)
  obtain ⟨vs17', F17', h3, hvo17⟩ : (J.freshV (.mk x1k x1i x1p x1n x1c x1l x1o x1e)) (vs 3) := hF 3 (by decide)
  obtain ⟨vs18', F18', h5, hvo18⟩ : (J.freshV (.mk x2k x2i x2p x2n x2c x2l x2o x2e)) (vs 5) := hF 5 (by decide)
  obtain ⟨Q191, Q192, Q193, Q194, Q195, m191, m192, m193, m194, m195, W19, h6, hvo19⟩ : (J.freshVE r (.string s)) (vs 6) := hF 6 (by decide)
  have h7 : vs 7 = ((vs 6).1, []) := hF 7 (by decide)
  simp only [h1, h3, h5, h6] at h7
  have q8 : J.isFst ((vs 7).1) (vs 8) := hF 8 (by decide)
  rw [h7] at q8
  have h8 := J.isFst_eq q8
  clear q8
  have q9 : J.isSnd ((vs 7).1) (vs 9) := hF 9 (by decide)
  rw [h7] at q9
  have h9 := J.isSnd_eq q9
  clear q9
  obtain ⟨b8, h10⟩ : J.fresh _ _ (vs 10) := hF 10 (by decide)
  clear hF
  simp only [List.flatMap_cons, List.flatMap_nil, h1, h3, h5, h6, h7, h8, h9, h10, List.append_nil, zL, zK] at hO
  simp only [h1, h3, h5, h6, h7, h8, h9, h10, J.putL, zI, zG, zH, J.dstOf, zF, zD, zE, zS, zQ, zR, Act.put, zA, zB, zC]
  clear h1 h3 h5 h6 h7 h8 h9 h10 vs
  refine J.wpAny_one (i := 11) (by kernel_rfl) (by rfl) rfl fun K hK => ?_
  (refine wp_store_box hO rfl rfl _ (by exact at17) rfl (by rfl) (by rfl) (by rfl) (by rfl) (by rfl) ?_; clear hO; intro u hO; simp only [zC, zB] at hO; refine hK _ _ ?_; clear hK K)
  refine J.wpAny_one (i := 12) (by kernel_rfl) (by rfl) rfl fun K hK => ?_
  simp only [wp_at_zero, wp_at_succ]
  go_step
  refine hK _ _ ?_
  clear hK K
  refine wpAny_done (by kernel_rfl) ?_ _
  revert vs16' F16' hvo16 vs17' F17' hvo17 vs18' F18' hvo18 Q191 Q192 Q193 Q194 Q195 m191 m192 m193 m194 m195 W19 hvo19 b8 u hO
  try clear uz
  refine ?key38
  rotate_left
  intro vs uz hO hF
  rw [show ([1, 3, 5, 6, 7, 8, 9, 10] : List Nat).erase 9 = [1, 3, 5, 6, 7, 8, 10] from by decide] at hO ⊢
  obtain ⟨vs16', F16', h1, hvo16⟩ : (J.freshV (.mk x0k x0i x0p x0n x0c x0l x0o x0e)) (vs 1) := hF 1 (by decide) (by decide)
  obtain ⟨vs17', F17', h3, hvo17⟩ : (J.freshV (.mk x1k x1i x1p x1n x1c x1l x1o x1e)) (vs 3) := hF 3 (by decide) (by decide)
  obtain ⟨vs18', F18', h5, hvo18⟩ : (J.freshV (.mk x2k x2i x2p x2n x2c x2l x2o x2e)) (vs 5) := hF 5 (by decide) (by decide)
  obtain ⟨Q191, Q192, Q193, Q194, Q195, m191, m192, m193, m194, m195, W19, h6, hvo19⟩ : (J.freshVE r (.string s)) (vs 6) := hF 6 (by decide) (by decide)
  have h7 : vs 7 = ((vs 6).1, []) := hF 7 (by decide) (by decide)
  simp only [h1, h3, h5, h6] at h7
  have q8 : J.isFst ((vs 7).1) (vs 8) := hF 8 (by decide) (by decide)
  rw [h7] at q8
  have h8 := J.isFst_eq q8
  clear q8
  obtain ⟨b8, h10⟩ : J.fresh _ _ (vs 10) := hF 10 (by decide) (by decide)
  clear hF
  simp only [List.flatMap_cons, List.flatMap_nil, h1, h3, h5, h6, h7, h8, h10, List.append_nil, zL, zK] at hO
  simp only [h1, h3, h5, h6, h7, h8, h10, J.putL, zI, zG, zH, J.dstOf, zF, zD, zE, zS, zQ, zR, Act.put, zA, zB, zC]
  clear h1 h3 h5 h6 h7 h8 h10 vs
  refine wpAny_ready (rs := [9, 11]) (by kernel_rfl) (by simp) ?_
  refine AllReady.cons rfl (fun K hK => ?_) (AllReady.cons rfl (fun K hK => ?_) (AllReady.nil))
  · rw [if_pos (by rfl)]
    simp only [wp_at_zero, wp_at_succ]
    go_step
    refine hK _ _ ?_
    clear hK K
    refine J.wpAny_one (i := 11) (by kernel_rfl) (by rfl) rfl fun K hK => ?_
    (refine wp_store_box hO rfl rfl _ (by exact at17) rfl (by rfl) (by rfl) (by rfl) (by rfl) (by rfl) ?_; clear hO; intro u hO; simp only [zC, zB] at hO; refine hK _ _ ?_; clear hK K)
    refine J.wpAny_one (i := 12) (by kernel_rfl) (by rfl) rfl fun K hK => ?_
    simp only [wp_at_zero, wp_at_succ]
    go_step
    refine hK _ _ ?_
    clear hK K
    refine wpAny_done (by kernel_rfl) ?_ _
    revert vs16' F16' hvo16 vs17' F17' hvo17 vs18' F18' hvo18 Q191 Q192 Q193 Q194 Q195 m191 m192 m193 m194 m195 W19 hvo19 b8 u hO
    try clear uz
    exact ?key38
  · rw [if_pos (by rfl)]
    (refine wp_store_box hO rfl rfl _ (by exact at17) rfl (by rfl) (by rfl) (by rfl) (by rfl) (by rfl) ?_; clear hO; intro u hO; simp only [zC, zB] at hO; refine hK _ _ ?_; clear hK K)
    refine J.wpAny_one (i := 9) (by kernel_rfl) (by rfl) rfl fun K hK => ?_
    simp only [wp_at_zero, wp_at_succ]
    go_step
    refine hK _ _ ?_
    clear hK K
    refine J.wpAny_one (i := 12) (by kernel_rfl) (by rfl) rfl fun K hK => ?_
    simp only [wp_at_zero, wp_at_succ]
    go_step
    refine hK _ _ ?_
    clear hK K
    refine wpAny_done (by kernel_rfl) ?_ _
    revert vs16' F16' hvo16 vs17' F17' hvo17 vs18' F18' hvo18 Q191 Q192 Q193 Q194 Q195 m191 m192 m193 m194 m195 W19 hvo19 b8 u hO
    try clear uz
    exact ?key38
  intro vs16' F16' hvo16 vs17' F17' hvo17 vs18' F18' hvo18 Q191 Q192 Q193 Q194 Q195 m191 m192 m193 m194 m195 W19 hvo19 b8 u hO
  go_wp2_with (first
    | ((with_reducible refine wpl_load ?_); refine wpList_load_box rfl (by rfl) hO rfl _ (by (first | exact at8 | exact at17 | fail)) (by rfl) (by simp only [Act.put, zA, zB, zC]; rfl) ?_)
    | fail)
  replace hO := hO.pick [0, 1, 2, 3, 4, 5, 6, 7, 8, 9, 10, 11, 12, 16, 17] (by decide)
  simp only [zN, zO, zE, zD] at hO
  refine (CEr _ _ _ (hO.rdp 13 rfl hvo19) (hO.rdp 7 rfl hvo4)).mono ?_
  rintro e u ⟨rfl, hb⟩
  (replace hO := hO.step hb; clear hb)
  go_wp2_with (first
    | ((with_reducible refine wpl_load ?_); refine wpList_load_box rfl (by rfl) hO rfl _ (by exact at12) (by rfl) (by simp only [Act.put, zA, zB, zC]; rfl) ?_)
    | fail)
  refine (CHr _ _ (hO.rdp 0 rfl hvo15)).mono ?_
  rintro e u ⟨rfl, hb⟩
  (replace hO := hO.step hb; clear hb)
  go_wp2_with (first
    | ((with_reducible refine wpl_alloc ?_); refine wpList_alloc_own rfl (by rfl) hO rfl (fun b => by simp only [Act.put, zA, zB, zC]; rfl) ?_; (first | (refine nm 0 rfl ?_; clear hO; intro b0 u hO) | (refine nm 1 rfl ?_; clear hO; intro b1 u hO) | (refine nm 2 rfl ?_; clear hO; intro b2 u hO) | (refine nm 3 rfl ?_; clear hO; intro b3 u hO) | (refine nm 4 rfl ?_; clear hO; intro b4 u hO) | (refine nm 5 rfl ?_; clear hO; intro b5 u hO) | (refine nm 6 rfl ?_; clear hO; intro b6 u hO) | (refine nm 7 rfl ?_; clear hO; intro b7 u hO) | (refine nm 8 rfl ?_; clear hO; intro b8 u hO) | (refine nm 9 rfl ?_; clear hO; intro b9 u hO) | (refine nm 10 rfl ?_; clear hO; intro b10 u hO) | (refine nm 11 rfl ?_; clear hO; intro b11 u hO) | (refine nm 12 rfl ?_; clear hO; intro b12 u hO) | (refine nm 13 rfl ?_; clear hO; intro b13 u hO) | (refine nm 14 rfl ?_; clear hO; intro b14 u hO) | (refine nm 15 rfl ?_; clear hO; intro b15 u hO) | (refine nm 16 rfl ?_; clear hO; intro b16 u hO) | (refine nm 17 rfl ?_; clear hO; intro b17 u hO) | (refine nm 18 rfl ?_; clear hO; intro b18 u hO)); simp only [zL, zK] at hO)
    | ((with_reducible refine wpl_box ?_); refine wpList_box_own rfl (by rfl) hO rfl rfl (fun b => by simp only [Act.put, zA, zB, zC]; rfl) ?_; (first | (refine nm 0 rfl ?_; clear hO; intro b0 u hO) | (refine nm 1 rfl ?_; clear hO; intro b1 u hO) | (refine nm 2 rfl ?_; clear hO; intro b2 u hO) | (refine nm 3 rfl ?_; clear hO; intro b3 u hO) | (refine nm 4 rfl ?_; clear hO; intro b4 u hO) | (refine nm 5 rfl ?_; clear hO; intro b5 u hO) | (refine nm 6 rfl ?_; clear hO; intro b6 u hO) | (refine nm 7 rfl ?_; clear hO; intro b7 u hO) | (refine nm 8 rfl ?_; clear hO; intro b8 u hO) | (refine nm 9 rfl ?_; clear hO; intro b9 u hO) | (refine nm 10 rfl ?_; clear hO; intro b10 u hO) | (refine nm 11 rfl ?_; clear hO; intro b11 u hO) | (refine nm 12 rfl ?_; clear hO; intro b12 u hO) | (refine nm 13 rfl ?_; clear hO; intro b13 u hO) | (refine nm 14 rfl ?_; clear hO; intro b14 u hO) | (refine nm 15 rfl ?_; clear hO; intro b15 u hO) | (refine nm 16 rfl ?_; clear hO; intro b16 u hO) | (refine nm 17 rfl ?_; clear hO; intro b17 u hO) | (refine nm 18 rfl ?_; clear hO; intro b18 u hO)); simp only [zL, zK] at hO)
    | ((with_reducible refine wpl_load ?_); refine wpList_load_box rfl (by (first | rfl | (simp only [Region.wanted, yielded, *]; go_simp; done) | (simp [Region.wanted, yielded, *]; done) | fail)) hO rfl _ (by (first | exact at0 | exact at1 | exact at2 | exact at3 | exact at4 | exact at5 | exact at6 | exact at7 | exact at8 | exact at9 | exact at10 | exact at11 | exact at12 | exact at13 | exact at14 | exact at15 | exact at16 | exact at17 | exact at18)) (by rfl) (by simp only [Act.put, zA, zB, zC]; rfl) ?_)
    | ((with_reducible refine wpl_load ?_); refine wpList_load_field rfl (by (first | rfl | (simp only [Region.wanted, yielded, *]; go_simp; done) | (simp [Region.wanted, yielded, *]; done) | fail)) hO rfl _ (by (first | exact at0 | exact at1 | exact at2 | exact at3 | exact at4 | exact at5 | exact at6 | exact at7 | exact at8 | exact at9 | exact at10 | exact at11 | exact at12 | exact at13 | exact at14 | exact at15 | exact at16 | exact at17 | exact at18)) (by rfl) (by simp only [Act.put, zA, zB, zC]; rfl) ?_)
    | ((with_reducible refine wpl_store ?_); refine wpList_store_box rfl (by rfl) hO rfl _ (by (first | exact at0 | exact at1 | exact at2 | exact at3 | exact at4 | exact at5 | exact at6 | exact at7 | exact at8 | exact at9 | exact at10 | exact at11 | exact at12 | exact at13 | exact at14 | exact at15 | exact at16 | exact at17 | exact at18)) rfl (by rfl) (by rfl) (by rfl) (by rfl) (by rfl) ?_; clear hO; intro u hO; simp only [zC, zB] at hO)
    | ((with_reducible refine wpl_store ?_); refine wpList_store_field rfl (by rfl) hO rfl _ (by (first | exact at0 | exact at1 | exact at2 | exact at3 | exact at4 | exact at5 | exact at6 | exact at7 | exact at8 | exact at9 | exact at10 | exact at11 | exact at12 | exact at13 | exact at14 | exact at15 | exact at16 | exact at17 | exact at18)) (zM rfl) (by simp only [Act.eval, zJ, zF, zD, zE, zP]; rfl) (by rfl) (by rfl) (by rfl) ?_; clear hO; intro u hO; simp only [zC, zB] at hO)
    | fail)
  go_ret
  exact ⟨rfl, hO.below⟩

end Go.Proofs.Ytmofcbpabdbjlaa
