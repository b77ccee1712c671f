/-
  What is proved: what the reference's readers of pairs of vectors return (l4Two, DrawEqualVectors, DrawArithmeticOf): some vectors of a known size.
  Condition: codes of at most 1048576 bytes.
-/
import Derived.Test.YtmofcbpabdbjlaaGreatMz4
import Derived.Test.YtmofcbpabdbjlaaGreatMz18
namespace Go.Proofs.YtmofcbpabdbjlaaGreat

set_option maxRecDepth 8000

open Go.RowKit Go.ChangeShapes Go.WideShapes Go.Deep

set_option linter.unusedVariables false

set_option linter.unusedSimpArgs false

/-- an owned vector of a known size, cell by cell -/
def DVec (Z : Nat) (v : Value) (F : List Res) : Prop := ∃ (xk : Int) (xi : List It) (xp : List VT) (xn xc xl : List ByteArray) (xo xe : Int) (Ci Cp Cn Cc Cl : Option Addr) (ri rp rn rc rl : Nat), v = .agg #[.int .i64 xk, .slice Ci xi.length ri, .slice Cp xp.length rp, .slice Cn xn.length rn, .slice Cc xc.length rc, .slice Cl xl.length rl, .int .i64 xo, .int .i64 xe] ∧ VO (.mk xk xi xp xn xc xl xo xe) [.int .i64 xk, .slice Ci xi.length ri, .slice Cp xp.length rp, .slice Cn xn.length rn, .slice Cc xc.length rc, .slice Cl xl.length rl, .int .i64 xo, .int .i64 xe] F ∧ szV (.mk xk xi xp xn xc xl xo xe) ≤ Z

theorem DVec.mono {Z Z' : Nat} {v : Value} {F : List Res} (h : DVec Z v F) (hz : Z ≤ Z') : DVec Z' v F := by
  obtain ⟨xk, xi, xp, xn, xc, xl, xo, xe, Ci, Cp, Cn, Cc, Cl, ri, rp, rn, rc, rl, h1, h2, h3⟩ := h
  exact ⟨xk, xi, xp, xn, xc, xl, xo, xe, Ci, Cp, Cn, Cc, Cl, ri, rp, rn, rc, rl, h1, h2, Nat.le_trans h3 hz⟩

def RetDD (w : World) (e : Ending) (w' : World) : Prop := ∃ v F v' F', e = .returned (.tuple #[v, v']) ∧ (DVec 22000 v F ∧ DVec 600000 v' F') ∧ Own w [pack F, pack F'] w'

def J.freshAt (k : Int) (m : Nat) : Value × List Res → Prop := fun x => ∃ (is : List It) (A' : Option Addr) (c' : Nat), x = (.agg #[.int .i64 k, .slice A' m c', .slice none 0 0, .slice none 0 0, .slice none 0 0, .slice none 0 0, .int .i64 0, .int .i64 0], [row 35 3 (.slice A' m c') m (itc is)]) ∧ (List.length is = m ∧ ∀ x ∈ is, x.text.size ≤ 24)

theorem lenN_le (k : Int) (m n : Nat) : lenN k m n ≤ m + n + 1 := by
  unfold lenN
  split <;> first | omega | simp

theorem Own.atomV {w0 w : World} {L : List Res} {is : List It} {A : Option Addr} {c m : Nat} (k : Int) (hm : is.length = m) (hs : ∀ x ∈ is, x.text.size ≤ 24) (h : Own w0 (row 35 3 (.slice A m c) m (itc is) :: L) w) :
    ∃ F, DVec (25 * m) (.agg #[.int .i64 k, .slice A m c, .slice none 0 0, .slice none 0 0, .slice none 0 0, .slice none 0 0, .int .i64 0, .int .i64 0]) F ∧ Own w0 (Go.Proofs.YtmofcbpabdbjlaaGreat.pack F :: L) w := by
  subst hm
  have hR := (((h.addNil 28 8).addNil 9 1).addNil 9 1).addNil 9 1
  have g1 := szI_bd rfl hs
  refine ⟨row 35 3 (.slice A is.length c) is.length (itc is) :: row 28 8 (.slice none 0 0) 0 [] :: row 9 1 (.slice none 0 0) 0 [] :: row 9 1 (.slice none 0 0) 0 [] :: row 9 1 (.slice none 0 0) 0 [] :: ([] : List (List Res)).flatten, ⟨k, is, [], [], [], [], 0, 0, _, _, _, _, _, _, _, _, _, _, rfl, VO.close VL.nil, ?_⟩, Own.pack (F := [_, _, _, _, _]) (L := L) (hR.perm ?_)⟩
  · show szI is + 0 + 0 + 0 + 0 ≤ _
    omega
  · simp only [List.cons_append, List.nil_append, List.append_assoc]
    refine List.Perm.cons _ ?_
    rw [show ∀ (a b c d : Res), L ++ [a, b, c, d] = L ++ ([a, b, c, d] : List Res) from fun _ _ _ _ => rfl]
    exact List.perm_append_comm (l₂ := [_, _, _, _])

set_option maxRecDepth 20000 in
set_option maxHeartbeats 8000000 in
theorem dw_two (A : Option Addr) (n c : Nat) (l : List Int) (w : World) (h : Cod w A n l) : Calls Tryz.prog 14 #[.slice A n c] w (RetDD w) := by
  go_enter Tryz.func14, Tryz.ntmps14
  have hO := Own.nil w
  go_wp2_with (first | ((with_reducible refine zac ?_); refine zal rfl hO rfl ?_; (first | (refine nm 0 rfl ?_; clear hO; intro b0 u hO) | (refine nm 1 rfl ?_; clear hO; intro b1 u hO) | fail); simp only [zL, zK] at hO) | fail)
  refine (draw_new A n c l _ (h.below hO.below)).mono ?_
  rintro e u ⟨b, rfl, i, z, hi, hb⟩
  have hC := hO.call hb
  simp only [List.cons_append, List.nil_append] at hC
  clear hO hb
  have hO := Rd.cur ⟨i, z, hi, hC⟩
  clear hC hi i z
  go_wp2_with fail
  refine (cd_any h hO).mono ?_
  clear hO
  rintro e u ⟨xk, xi, xp, xn, xc, xl, xo, xe, Ci, Cp, Cn, Cc, Cl, ri, rp, rn, rc, rl, F, rfl, ⟨hvo, hsz⟩, hO⟩
  simp only [List.cons_append, List.nil_append] at hO
  have HT : szV (.mk xk xi xp xn xc xl xo xe) = szI xi + szL xp + szS xn + szS xc + szS xl := rfl
  have HX := szL_eq xp
  have zx : (xi.length : Int) + xp.length ≤ 9223372036854775807 := by unfold szI at HT; omega
  have hln := lenN_le xk xi.length xp.length
  have CL := fun u => spec_len xk Ci Cp xi.length xp.length ri rp (.slice Cn xn.length rn) (.slice Cc xc.length rc) (.slice Cl xl.length rl) (.int .i64 xo) (.int .i64 xe) u zx
  obtain ⟨m, hm⟩ : ∃ m, lenN xk xi.length xp.length = m := ⟨_, rfl⟩
  rw [hm] at CL hln
  have hm1 : m ≤ 22001 := by unfold szI at HT; omega
  have HZ := Lib.hid hsz
  clear hsz HT HX zx hln hm
  replace hO := hO.pick [1, 2, 3, 0] (by decide)
  simp only [zN, zO, zE, zD] at hO
  go_upto_region 3 with (first | ((with_reducible refine zac ?_); refine zal rfl hO rfl ?_; (refine nm 4 rfl ?_; clear hO; intro b4 u hO); simp only [zL, zK] at hO) | ((with_reducible refine zab ?_); refine zsc rfl hO rfl _ (by exact at4) ?_; clear hO; intro u hO; simp only [zC, zB] at hO) | fail)
  rename_i K1 hK1 K0 hK0
  have tail0 : ∀ (u : World) (u1 u6 u7 u8 u9 u10 u11 u12 u13 u14 u15 u16 u17 u18 u19 u20 u21 u22 u23 u24 u25 u26 u27 u28 u29 u30 u31 u32 u33 u34 u35 u36 u37 u38 u39 u40 u41 : Value), Own w [cur b A n c, box b0 28 [.int .i64 0, .slice none 0 0, .slice none 0 0, .slice none 0 0, .slice none 0 0, .slice none 0 0, .int .i64 0, .int .i64 0], box b1 28 [.int .i64 0, .slice none 0 0, .slice none 0 0, .slice none 0 0, .slice none 0 0, .slice none 0 0, .int .i64 0, .int .i64 0], pack F, box b4 28 [.int .i64 xk, .slice Ci xi.length ri, .slice Cp xp.length rp, .slice Cn xn.length rn, .slice Cc xc.length rc, .slice Cl xl.length rl, .int .i64 xo, .int .i64 xe]] u → K1 ⟨(.slice A n c :: u1 :: .pointer (some ⟨b0, 0, none⟩) :: .pointer (some ⟨b1, 0, none⟩) :: .pointer (some ⟨b, 0, none⟩) :: .pointer (some ⟨b4, 0, none⟩) :: u6 :: u7 :: u8 :: u9 :: u10 :: u11 :: u12 :: u13 :: u14 :: u15 :: u16 :: u17 :: u18 :: u19 :: u20 :: u21 :: u22 :: u23 :: u24 :: u25 :: u26 :: u27 :: u28 :: u29 :: u30 :: u31 :: u32 :: u33 :: u34 :: u35 :: u36 :: u37 :: u38 :: u39 :: u40 :: u41 :: []).toArray, []⟩ u := by
    clear hO hK0
    intro u u1 u6 u7 u8 u9 u10 u11 u12 u13 u14 u15 u16 u17 u18 u19 u20 u21 u22 u23 u24 u25 u26 u27 u28 u29 u30 u31 u32 u33 u34 u35 u36 u37 u38 u39 u40 u41 hO
    refine hK1 _ _ ?_
    clear hK1
    go_wp2_with fail
    refine (cd_once 8 (by decide) (by decide) h hO).mono ?_
    clear hO
    rintro e u ⟨x, rfl, hO⟩
    cases x with
    | true =>
      go_upto_region 6 with fail
      refine J.wp_region_c (n := 42) [0, 1] [2] (deps := fun i => [[], [], [1], [], []].getD i []) (fun _ _ => (J.freshC xk xi (copL xp) xn xc xl xo xe)) (r := 2) (lst := #[true, true, true, false, false]) (by kernel_rfl) (by kernel_rfl) (by kernel_rfl) rfl (by decide) (by kernel_rfl) hO ?_
      refine zcc (f := fun M u hO K hK => by (exact zah hO rfl rfl _ (by exact at4) (by rfl) (by rfl) (hK _ hO))) (h := ?_)
      refine zcc (f := fun M u hO K hK => by (exact zah hO rfl rfl _ (by exact at4) (by rfl) (by rfl) (hK _ hO))) (h := ?_)
      refine J.Chain.nil ⟨?_, ?_⟩
      · refine J.Each.cons (by rfl) ?_ ?_; exact ⟨rfl, fun vs M u hO _ K hK => by ((try simp only [J.putL, zI, zG, zH, J.dstOf, zF, zD, zE, zS, zQ, zR, Act.put, zA, zB, zC]); (try simp only [wp_at_zero, wp_at_succ]); go_step; refine (((spec_copyAny _ _ _ (hO.rdp 3 rfl hvo) (Nat.le_trans HZ.out (by decide))).mono fun e' w' h => RetV.exC h)).mono ?_; rintro e u ⟨Ci2, Cp2, Cn2, Cc2, Cl2, ri2, rp2, rn2, rc2, rl2, F2, rfl, hvo2, hb⟩; have hK' := hK _ _ _ (show (J.freshC xk xi (copL xp) xn xc xl xo xe) _ from ⟨Ci2, Cp2, Cn2, Cc2, Cl2, ri2, rp2, rn2, rc2, rl2, F2, rfl, hvo2⟩) ((hO.call hb).perm List.perm_append_comm); clear hK; simp only [J.putL, zI, zG, zH, J.dstOf, zF, zD, zE, zS, zQ, zR, Act.put, zA, zB, zC] at hK'; exact hK')⟩; exact J.Each.nil
      intro vs u hO hF
      obtain ⟨Ci2, Cp2, Cn2, Cc2, Cl2, ri2, rp2, rn2, rc2, rl2, F2, h2, hvo2⟩ : (J.freshC xk xi (copL xp) xn xc xl xo xe) (vs 2) := hF 2 (by decide)
      clear hF
      simp only [List.flatMap_cons, List.flatMap_nil, h2, List.append_nil, zL, zK] at hO
      simp only [h2, J.putL, zI, zG, zH, J.dstOf, zF, zD, zE, zS, zQ, zR, Act.put, zA, zB, zC]
      clear h2 vs
      refine J.wpAny_one (i := 3) (by kernel_rfl) (by rfl) rfl fun K hK => ?_
      (refine zaf hO rfl rfl _ (by exact at1) rfl (by rfl) (by rfl) (by rfl) (by rfl) (by rfl) ?_; clear hO; intro u hO; simp only [zC, zB] at hO; refine hK _ _ ?_; clear hK K)
      refine J.wpAny_one (i := 4) (by kernel_rfl) (by rfl) rfl fun K hK => ?_
      (refine zaf hO rfl rfl _ (by exact at2) rfl (by rfl) (by rfl) (by rfl) (by rfl) (by rfl) ?_; clear hO; intro u hO; simp only [zC, zB] at hO; refine hK _ _ ?_; clear hK K)
      refine wpAny_done (by kernel_rfl) ?_ _
      go_wp2_with (first | (with_reducible refine zaq ?_) | fail)
      exact ⟨ret_boxes rfl hO rfl rfl 1 2 at1 at2 rfl rfl rfl ⟨_, F, _, F2, rfl, ⟨⟨xk, xi, xp, xn, xc, xl, xo, xe, Ci, Cp, Cn, Cc, Cl, ri, rp, rn, rc, rl, rfl, hvo, HZ.out⟩, ⟨xk, xi, copL xp, xn, xc, xl, xo, xe, Ci2, Cp2, Cn2, Cc2, Cl2, ri2, rp2, rn2, rc2, rl2, rfl, hvo2, by
        have h1 := HZ.out
        have h2 := copL_sz xp
        have HT : szV (.mk xk xi xp xn xc xl xo xe) = szI xi + szL xp + szS xn + szS xc + szS xl := rfl
        show szI xi + szL (copL xp) + szS xn + szS xc + szS xl ≤ 600000
        omega⟩⟩, hO.pick [3, 5] (by decide)⟩⟩
    | false =>
      go_upto_region 7 with fail
      refine J.wp_region_c (n := 42) [0, 1] [2] (deps := fun i => [[], [], [1], [], []].getD i []) (fun _ _ => (J.freshD 22000)) (r := 2) (lst := #[true, true, true, false, false]) (by kernel_rfl) (by kernel_rfl) (by kernel_rfl) rfl (by decide) (by kernel_rfl) hO ?_
      refine zcc (f := fun M u hO K hK => by (exact zah hO rfl rfl _ (by exact at4) (by rfl) (by rfl) (hK _ hO))) (h := ?_)
      refine zcp (h := ?_)
      refine J.Chain.nil ⟨?_, ?_⟩
      · refine J.Each.cons (by rfl) ?_ ?_; exact ⟨rfl, fun vs M u hO _ K hK => by ((try simp only [J.putL, zI, zG, zH, J.dstOf, zF, zD, zE, zS, zQ, zR, Act.put, zA, zB, zC]); (try simp only [wp_at_zero, wp_at_succ]); go_step; refine (cd_any h hO).mono ?_; rintro e u ⟨xk2, xi2, xp2, xn2, xc2, xl2, xo2, xe2, Ci2, Cp2, Cn2, Cc2, Cl2, ri2, rp2, rn2, rc2, rl2, F2, rfl, hvs, hb⟩; have hK' := hK _ _ _ (show (J.freshD 22000) _ from ⟨xk2, xi2, xp2, xn2, xc2, xl2, xo2, xe2, Ci2, Cp2, Cn2, Cc2, Cl2, ri2, rp2, rn2, rc2, rl2, F2, rfl, hvs⟩) (hb.perm List.perm_append_comm); clear hK; simp only [J.putL, zI, zG, zH, J.dstOf, zF, zD, zE, zS, zQ, zR, Act.put, zA, zB, zC] at hK'; exact hK')⟩; exact J.Each.nil
      intro vs u hO hF
      obtain ⟨xk2, xi2, xp2, xn2, xc2, xl2, xo2, xe2, Ci2, Cp2, Cn2, Cc2, Cl2, ri2, rp2, rn2, rc2, rl2, F2, h2, hvs⟩ : (J.freshD 22000) (vs 2) := hF 2 (by decide)
      clear hF
      simp only [List.flatMap_cons, List.flatMap_nil, h2, List.append_nil, zL, zK] at hO
      simp only [h2, J.putL, zI, zG, zH, J.dstOf, zF, zD, zE, zS, zQ, zR, Act.put, zA, zB, zC]
      clear h2 vs
      refine J.wpAny_one (i := 3) (by kernel_rfl) (by rfl) rfl fun K hK => ?_
      (refine zaf hO rfl rfl _ (by exact at1) rfl (by rfl) (by rfl) (by rfl) (by rfl) (by rfl) ?_; clear hO; intro u hO; simp only [zC, zB] at hO; refine hK _ _ ?_; clear hK K)
      refine J.wpAny_one (i := 4) (by kernel_rfl) (by rfl) rfl fun K hK => ?_
      (refine zaf hO rfl rfl _ (by exact at2) rfl (by rfl) (by rfl) (by rfl) (by rfl) (by rfl) ?_; clear hO; intro u hO; simp only [zC, zB] at hO; refine hK _ _ ?_; clear hK K)
      refine wpAny_done (by kernel_rfl) ?_ _
      go_wp2_with (first | (with_reducible refine zaq ?_) | fail)
      exact ⟨ret_boxes rfl hO rfl rfl 1 2 at1 at2 rfl rfl rfl ⟨_, F, _, F2, rfl, ⟨⟨xk, xi, xp, xn, xc, xl, xo, xe, Ci, Cp, Cn, Cc, Cl, ri, rp, rn, rc, rl, rfl, hvo, HZ.out⟩, ⟨xk2, xi2, xp2, xn2, xc2, xl2, xo2, xe2, Ci2, Cp2, Cn2, Cc2, Cl2, ri2, rp2, rn2, rc2, rl2, rfl, hvs.1, Nat.le_trans hvs.2 (by decide)⟩⟩, hO.pick [3, 5] (by decide)⟩⟩
  replace tail0 := Lib.hid tail0
  clear hK1
  go_wp2_with fail
  refine (cd_once 4 (by decide) (by decide) h hO).mono ?_
  clear hO
  rintro e u ⟨x, rfl, hO⟩
  cases x with
  | false =>
    go_wp2_with fail
    exact tail0.out _ _ _ _ _ _ _ _ _ _ _ _ _ _ _ _ _ _ _ _ _ _ _ _ _ _ _ _ _ _ _ _ _ _ _ _ _ _ hO
  | true =>
    by_cases m0 : 0 < m
    · have i0 : (0 : Int) < (m : Int) := by omega
      by_cases k4 : xk < 4
      · by_cases k0 : 0 < xk
        · go_upto_region 4 with (first | ((with_reducible refine (CL _).mono ?_); rintro e u ⟨rfl, hb⟩; (replace hO := hO.step hb; clear hb)) | ((with_reducible refine zaa ?_); refine zlb rfl hO rfl _ (by exact at4) ?_) | ((with_reducible refine zaa ?_); refine zlf rfl hO rfl _ (by exact at4) ?_) | fail)
          refine J.wp_region_c (n := 42) [0, 1, 2, 3, 4, 5] [6] (deps := fun i => [[], [], [], [2], [], [4], [1, 2, 3, 4, 5], [], []].getD i []) (fun _ _ => (J.freshAt xk m)) (r := 2) (lst := #[true, true, true, true, true, true, true, false, false]) (by kernel_rfl) (by kernel_rfl) (by kernel_rfl) rfl (by decide) (by kernel_rfl) hO ?_
          refine zcc (f := fun M u hO K hK => by (exact zah hO rfl rfl _ (by exact at4) (by rfl) (by rfl) (hK _ hO))) (h := ?_)
          refine zcp (h := ?_)
          refine zcp (h := ?_)
          refine zcc (f := fun M u hO K hK => by (exact zae hO rfl rfl _ (by exact at4) (by rfl) (by rfl) (hK _ hO))) (h := ?_)
          refine zcc (f := fun M u hO K hK => by (exact zah hO rfl rfl _ (by exact at4) (by rfl) (by rfl) (hK _ hO))) (h := ?_)
          refine zcc (f := fun M u hO K hK => by (simp only [wp_at_zero, wp_at_succ]; go_step; refine (CL _).mono ?_; rintro e u ⟨rfl, hb⟩; exact hK _ (hO.step hb))) (h := ?_)
          refine J.Chain.nil ⟨?_, ?_⟩
          · refine J.Each.cons (by rfl) ?_ ?_; exact ⟨rfl, fun vs M u hO _ K hK => by ((try simp only [J.putL, zI, zG, zH, J.dstOf, zF, zD, zE, zS, zQ, zR, Act.put, zA, zB, zC]); (try simp only [wp_at_zero, wp_at_succ]); go_step; refine (cd_atom xk m (by omega) h hO).mono ?_; rintro e u ⟨is, A', c', rfl, hI, hb⟩; have hK' := hK _ _ _ (show (J.freshAt xk m) _ from ⟨is, A', c', rfl, hI⟩) (hb.perm List.perm_append_comm); clear hK; simp only [J.putL, zI, zG, zH, J.dstOf, zF, zD, zE, zS, zQ, zR, Act.put, zA, zB, zC] at hK'; exact hK')⟩; exact J.Each.nil
          intro vs u hO hF
          obtain ⟨is, A', c', h6, hI⟩ : (J.freshAt xk m) (vs 6) := hF 6 (by decide)
          clear hF
          simp only [List.flatMap_cons, List.flatMap_nil, h6, List.append_nil, zL, zK] at hO
          simp only [h6, J.putL, zI, zG, zH, J.dstOf, zF, zD, zE, zS, zQ, zR, Act.put, zA, zB, zC]
          clear h6 vs
          refine J.wpAny_one (i := 7) (by kernel_rfl) (by rfl) rfl fun K hK => ?_
          (refine zaf hO rfl rfl _ (by exact at1) rfl (by rfl) (by rfl) (by rfl) (by rfl) (by rfl) ?_; clear hO; intro u hO; simp only [zC, zB] at hO; refine hK _ _ ?_; clear hK K)
          refine J.wpAny_one (i := 8) (by kernel_rfl) (by rfl) rfl fun K hK => ?_
          (refine zaf hO rfl rfl _ (by exact at2) rfl (by rfl) (by rfl) (by rfl) (by rfl) (by rfl) ?_; clear hO; intro u hO; simp only [zC, zB] at hO; refine hK _ _ ?_; clear hK K)
          refine wpAny_done (by kernel_rfl) ?_ _
          go_wp2_with (first | (with_reducible refine zaq ?_) | fail)
          replace hO := hO.pick [5, 0, 1, 2, 3, 4] (by decide)
          simp only [zN, zO, zE, zD] at hO
          obtain ⟨F2, hd, hO⟩ := Own.atomV xk hI.1 hI.2 hO
          exact ⟨ret_boxes rfl hO rfl rfl 2 3 at2 at3 rfl rfl rfl ⟨_, F, _, F2, rfl, ⟨⟨xk, xi, xp, xn, xc, xl, xo, xe, Ci, Cp, Cn, Cc, Cl, ri, rp, rn, rc, rl, rfl, hvo, HZ.out⟩, hd.mono (by omega)⟩, hO.pick [4, 0] (by decide)⟩⟩
        · go_wp2_with (first | ((with_reducible refine (CL _).mono ?_); rintro e u ⟨rfl, hb⟩; (replace hO := hO.step hb; clear hb)) | ((with_reducible refine zaa ?_); refine zlb rfl hO rfl _ (by exact at4) ?_) | ((with_reducible refine zaa ?_); refine zlf rfl hO rfl _ (by exact at4) ?_) | fail)
          exact tail0.out _ _ _ _ _ _ _ _ _ _ _ _ _ _ _ _ _ _ _ _ _ _ _ _ _ _ _ _ _ _ _ _ _ _ _ _ _ _ hO
      · go_wp2_with (first | ((with_reducible refine (CL _).mono ?_); rintro e u ⟨rfl, hb⟩; (replace hO := hO.step hb; clear hb)) | ((with_reducible refine zaa ?_); refine zlb rfl hO rfl _ (by exact at4) ?_) | ((with_reducible refine zaa ?_); refine zlf rfl hO rfl _ (by exact at4) ?_) | fail)
        exact tail0.out _ _ _ _ _ _ _ _ _ _ _ _ _ _ _ _ _ _ _ _ _ _ _ _ _ _ _ _ _ _ _ _ _ _ _ _ _ _ hO
    · have i0 : ¬ (0 : Int) < (m : Int) := by omega
      go_wp2_with (first | ((with_reducible refine (CL _).mono ?_); rintro e u ⟨rfl, hb⟩; (replace hO := hO.step hb; clear hb)) | ((with_reducible refine zaa ?_); refine zlb rfl hO rfl _ (by exact at4) ?_) | fail)
      exact tail0.out _ _ _ _ _ _ _ _ _ _ _ _ _ _ _ _ _ _ _ _ _ _ _ _ _ _ _ _ _ _ _ _ _ _ _ _ _ _ hO

def opsL : List ByteArray := [⟨#[43]⟩, ⟨#[45]⟩, ⟨#[42]⟩, ⟨#[47]⟩, ⟨#[94]⟩, ⟨#[37, 37]⟩, ⟨#[37, 47, 37]⟩]

def opsM : List ByteArray := [⟨#[]⟩, ⟨#[37]⟩, ⟨#[38]⟩, ⟨#[61, 61]⟩]

set_option maxRecDepth 20000 in
set_option maxHeartbeats 4000000 in
theorem cd_opA {w0 w : World} {A : Option Addr} {n c b : Nat} {l : List Int} {r : Res} {bl t : Nat} (h : Cod w0 A n l) (hO : Own w0 [cur b A n c, box bl t (stc opsL), r] w) :
    Calls Tryz.prog 12 #[.pointer (some ⟨b, 0, none⟩), .slice (some ⟨bl, 0, none⟩) 7 7] w fun e w' => ∃ y : ByteArray, e = .returned (.string y) ∧ Own w0 [cur b A n c, box bl t (stc opsL), r] w' := by
  skip
  go_enter Tryz.func12, Tryz.ntmps12
  go_wp2_with fail
  refine (cd_once 30 (by decide) (by decide) h hO).mono ?_
  clear hO
  rintro e u ⟨x, rfl, hO⟩
  cases x with
  | true =>
    go_wp2_with (first | ((with_reducible refine zao ?_); refine zaj (cs := [.string ⟨#[]⟩, .string ⟨#[37]⟩, .string ⟨#[38]⟩, .string ⟨#[61, 61]⟩]) hO rfl (by rfl) [.string ⟨#[]⟩, .string ⟨#[37]⟩, .string ⟨#[38]⟩, .string ⟨#[61, 61]⟩] (by rfl) (by rfl) rfl (zM rfl) (by rfl) rfl (fun b => by simp only [Act.put, zA, zB, zC]; rfl) ?_; clear hO; intro bb u hO; simp only [zL, zK] at hO) | fail)
    refine (cd_pick opsM 4 rfl (by decide) (by decide) (List.mem_of_getElem? at2) h hO).mono ?_
    clear hO
    rintro e u ⟨y, rfl, hy, hO⟩
    simp only [List.nil_append] at hO
    go_wp2_with (first | (with_reducible refine zaq ?_) | fail)
    refine ⟨?_⟩
    go_ret
    exact ⟨y, rfl, hO.pick [0, 1, 2] (by decide)⟩
  | false =>
    go_wp2_with fail
    refine (cd_pick opsL 7 rfl (by decide) (by decide) (List.mem_of_getElem? at0) h hO).mono ?_
    clear hO
    rintro e u ⟨y, rfl, hy, hO⟩
    simp only [List.nil_append] at hO
    go_wp2_with (first | (with_reducible refine zaq ?_) | fail)
    refine ⟨?_⟩
    go_ret
    exact ⟨y, rfl, hO⟩

theorem cd_op {w0 w : World} {A : Option Addr} {n c b : Nat} {l : List Int} {R : List Res} {bl t : Nat} (h : Cod w0 A n l) (hO : Own w0 (cur b A n c :: box bl t (stc opsL) :: R) w) :
    Calls Tryz.prog 12 #[.pointer (some ⟨b, 0, none⟩), .slice (some ⟨bl, 0, none⟩) 7 7] w fun e w' => ∃ y : ByteArray, e = .returned (.string y) ∧ Own w0 (cur b A n c :: box bl t (stc opsL) :: R) w' :=
  (cd_opA h ((Own.pack (F := R) (L := [_, _]) (hO.perm (List.perm_append_comm (l₁ := [_, _])))).perm (List.perm_append_comm (l₁ := [_])))).mono fun e w' ⟨y, e1, h2⟩ => ⟨y, e1, ((h2.perm (List.perm_append_comm (l₁ := [_, _]) (l₂ := [_]))).unpack).perm (List.perm_append_comm (l₂ := [_, _]))⟩

/-- the end: a text and two struct variables are handed back -/
theorem za5 {P : Program} {w0 w : World} {L : List Res} {a : Act} {fn : Func} {R : Ending → World → Prop} {o p q : Tmp} {ty ty' : TypeId} (hres : fn.results = #[.tmp o, .cell p ty, .cell q ty']) (hO : Own w0 L w) {b b' : Nat} (hp : a.tmps.getD p undef = .pointer (some ⟨b, 0, none⟩)) (hq : a.tmps.getD q undef = .pointer (some ⟨b', 0, none⟩))
    (k k' : Nat) {t t' : TypeId} {cs cs' : List Value} (hk : L[k]? = some (box b t cs)) (hk' : L[k']? = some (box b' t' cs')) {n n' : Nat} [hT : AggT P ty n] [hT' : AggT P ty' n'] (hn : cs.length = n) (hn' : cs'.length = n') (hd : a.defers = []) (hR : R (.returned (.tuple #[a.tmps.getD o undef, .agg cs.toArray, .agg cs'.toArray])) w) : bodyPost P fn R .ret a w := by
  obtain ⟨d, h1, h2, h3⟩ := hT.of
  obtain ⟨d', h1', h2', h3'⟩ := hT'.of
  subst hn hn'
  refine ⟨hd, _, ?_, hR⟩
  have hl := run_loadVar_mid (P := P) w b 0 ty cs d (hO.range k hk) h1 h2 h3
  have hl' := run_loadVar_mid (P := P) w b' 0 ty' cs' d' (hO.range k' hk') h1' h2' h3'
  have hp' : a.tmps[p]?.getD undef = .pointer (some ⟨b, 0, none⟩) := by rw [← Array.getD_eq_getD_getElem?]; exact hp
  have hq' : a.tmps[q]?.getD undef = .pointer (some ⟨b', 0, none⟩) := by rw [← Array.getD_eq_getD_getElem?]; exact hq
  simp [results, hres, hp', hq', asAddr, hl, hl']

def RetSDD (w : World) (e : Ending) (w' : World) : Prop := ∃ o v F v' F', e = .returned (.tuple #[.string o, v, v']) ∧ (DVec 600000 v F ∧ DVec 600000 v' F') ∧ Own w [pack F, pack F'] w'

set_option maxRecDepth 20000 in
set_option maxHeartbeats 4000000 in
theorem dw_ar (A : Option Addr) (n c : Nat) (l : List Int) (w : World) (h : Cod w A n l) : Calls Tryz.prog 5 #[.slice A n c] w (RetSDD w) := by
  go_enter Tryz.func5, Tryz.ntmps5
  have hO := Own.nil w
  go_wp2_with (first | ((with_reducible refine zac ?_); refine zal rfl hO rfl ?_; (first | (refine nm 0 rfl ?_; clear hO; intro b0 u hO) | (refine nm 1 rfl ?_; clear hO; intro b1 u hO) | fail); simp only [zL, zK] at hO) | fail)
  refine (draw_new A n c l _ (h.below hO.below)).mono ?_
  rintro e u ⟨b, rfl, i, z, hi, hb⟩
  have hC := hO.call hb
  simp only [List.cons_append, List.nil_append] at hC
  clear hO hb
  have hO := Rd.cur ⟨i, z, hi, hC⟩
  clear hC hi i z
  go_wp2_with (first | ((with_reducible refine zao ?_); refine zaj (cs := [.string ⟨#[43]⟩, .string ⟨#[45]⟩, .string ⟨#[42]⟩, .string ⟨#[47]⟩, .string ⟨#[94]⟩, .string ⟨#[37, 37]⟩, .string ⟨#[37, 47, 37]⟩]) hO rfl (by rfl) [.string ⟨#[43]⟩, .string ⟨#[45]⟩, .string ⟨#[42]⟩, .string ⟨#[47]⟩, .string ⟨#[94]⟩, .string ⟨#[37, 37]⟩, .string ⟨#[37, 47, 37]⟩] (by rfl) (by rfl) rfl (zM rfl) (by rfl) rfl (fun b => by simp only [Act.put, zA, zB, zC]; rfl) ?_; clear hO; intro bb u hO; simp only [zL, zK] at hO) | fail)
  replace hO := hO.pick [0, 3, 1, 2] (by decide)
  simp only [zN, zO, zE, zD] at hO
  refine (cd_op h hO).mono ?_
  clear hO
  rintro e u ⟨o, rfl, hO⟩
  replace hO := hO.pick [0, 2, 3] (by decide)
  simp only [zN, zO, zE, zD] at hO
  go_wp2_with fail
  refine (cd_once 4 (by decide) (by decide) h hO).mono ?_
  clear hO
  rintro e u ⟨x, rfl, hO⟩
  cases x with
  | true =>
    go_wp2_with fail
    refine (dw_two A n c l _ (h.below hO.below)).mono ?_
    rintro e u ⟨v, F, v', F', rfl, ⟨⟨xk, xi, xp, xn, xc, xl, xo, xe, Ci, Cp, Cn, Cc, Cl, ri, rp, rn, rc, rl, rfl, hd⟩, ⟨xk2, xi2, xp2, xn2, xc2, xl2, xo2, xe2, Ci2, Cp2, Cn2, Cc2, Cl2, ri2, rp2, rn2, rc2, rl2, rfl, hd2⟩⟩, hb⟩
    replace hO := hO.call hb
    simp only [List.cons_append, List.nil_append] at hO
    have HD := Lib.hid (And.intro hd hd2)
    clear hb hd hd2
    go_upto_region 5 with (first | ((with_reducible refine zac ?_); refine zal rfl hO rfl ?_; (first | (refine nm 5 rfl ?_; clear hO; intro b5 u hO) | (refine nm 6 rfl ?_; clear hO; intro b6 u hO) | fail); simp only [zL, zK] at hO) | ((with_reducible refine zab ?_); refine zsc rfl hO rfl _ (by (first | exact at5 | exact at6 | fail)) ?_; clear hO; intro u hO; simp only [zC, zB] at hO) | fail)
    refine wp_region_any (by kernel_rfl) ?_
    try (change wpAny _ _ _ _ _ _ _ (World.drew _))
    replace hO := hO.drew
    revert hO
    generalize World.drew _ = u
    intro hO
    refine wpAny_ready (rs := [0, 1, 2]) (by kernel_rfl) (by simp) ?_
    refine AllReady.cons rfl (fun K hK => ?_) (AllReady.cons rfl (fun K hK => ?_) (AllReady.cons rfl (fun K hK => ?_) (AllReady.nil)))
    · rw [if_pos (by rfl)]
      simp only [wp_at_zero, wp_at_succ]
      go_step
      refine hK _ _ ?_
      clear hK K
      refine wpAny_ready (rs := [1, 2, 3]) (by kernel_rfl) (by simp) ?_
      refine AllReady.cons rfl (fun K hK => ?_) (AllReady.cons rfl (fun K hK => ?_) (AllReady.cons rfl (fun K hK => ?_) (AllReady.nil)))
      · rw [if_pos (by rfl)]
        (refine zah hO rfl rfl _ (by exact at5) (by rfl) (by simp only [J.putL, zI, zG, zH, J.dstOf, zF, zD, zE, zS, zQ, zR, Act.put, zA, zB, zC]; rfl) (hK _ _ ?_); clear hK K)
        refine wpAny_ready (rs := [2, 3]) (by kernel_rfl) (by simp) ?_
        refine AllReady.cons rfl (fun K hK => ?_) (AllReady.cons rfl (fun K hK => ?_) (AllReady.nil))
        · rw [if_pos (by rfl)]
          (refine zah hO rfl rfl _ (by exact at6) (by rfl) (by simp only [J.putL, zI, zG, zH, J.dstOf, zF, zD, zE, zS, zQ, zR, Act.put, zA, zB, zC]; rfl) (hK _ _ ?_); clear hK K)
          refine J.wpAny_one (i := 3) (by kernel_rfl) (by rfl) rfl fun K hK => ?_
          simp only [wp_at_zero, wp_at_succ]
          go_step
          refine hK _ _ ?_
          clear hK K
          refine J.wpAny_one (i := 4) (by kernel_rfl) (by rfl) rfl fun K hK => ?_
          (refine zaf hO rfl rfl _ (by exact at3) rfl (by rfl) (by rfl) (by rfl) (by rfl) (by rfl) ?_; clear hO; intro u hO; simp only [zC, zB] at hO; refine hK _ _ ?_; clear hK K)
          refine J.wpAny_one (i := 5) (by kernel_rfl) (by rfl) rfl fun K hK => ?_
          (refine zaf hO rfl rfl _ (by exact at4) rfl (by rfl) (by rfl) (by rfl) (by rfl) (by rfl) ?_; clear hO; intro u hO; simp only [zC, zB] at hO; refine hK _ _ ?_; clear hK K)
          refine wpAny_done (by kernel_rfl) ?_ _
          go_wp2_with (first | (with_reducible refine zaq ?_) | fail)
          exact ⟨za5 rfl hO rfl rfl 3 4 at3 at4 rfl rfl rfl ⟨o, _, F, _, F', rfl, ⟨⟨xk, xi, xp, xn, xc, xl, xo, xe, Ci, Cp, Cn, Cc, Cl, ri, rp, rn, rc, rl, rfl, HD.out.1.1, Nat.le_trans HD.out.1.2 (by decide)⟩, ⟨xk2, xi2, xp2, xn2, xc2, xl2, xo2, xe2, Ci2, Cp2, Cn2, Cc2, Cl2, ri2, rp2, rn2, rc2, rl2, rfl, HD.out.2⟩⟩, hO.pick [0, 1] (by decide)⟩⟩
        · rw [if_pos (by rfl)]
          simp only [wp_at_zero, wp_at_succ]
          go_step
          refine hK _ _ ?_
          clear hK K
          refine wpAny_ready (rs := [2, 4]) (by kernel_rfl) (by simp) ?_
          refine AllReady.cons rfl (fun K hK => ?_) (AllReady.cons rfl (fun K hK => ?_) (AllReady.nil))
          · rw [if_pos (by rfl)]
            (refine zah hO rfl rfl _ (by exact at6) (by rfl) (by simp only [J.putL, zI, zG, zH, J.dstOf, zF, zD, zE, zS, zQ, zR, Act.put, zA, zB, zC]; rfl) (hK _ _ ?_); clear hK K)
            refine J.wpAny_one (i := 4) (by kernel_rfl) (by rfl) rfl fun K hK => ?_
            (refine zaf hO rfl rfl _ (by exact at3) rfl (by rfl) (by rfl) (by rfl) (by rfl) (by rfl) ?_; clear hO; intro u hO; simp only [zC, zB] at hO; refine hK _ _ ?_; clear hK K)
            refine J.wpAny_one (i := 5) (by kernel_rfl) (by rfl) rfl fun K hK => ?_
            (refine zaf hO rfl rfl _ (by exact at4) rfl (by rfl) (by rfl) (by rfl) (by rfl) (by rfl) ?_; clear hO; intro u hO; simp only [zC, zB] at hO; refine hK _ _ ?_; clear hK K)
            refine wpAny_done (by kernel_rfl) ?_ _
            go_wp2_with (first | (with_reducible refine zaq ?_) | fail)
            exact ⟨za5 rfl hO rfl rfl 3 4 at3 at4 rfl rfl rfl ⟨o, _, F, _, F', rfl, ⟨⟨xk, xi, xp, xn, xc, xl, xo, xe, Ci, Cp, Cn, Cc, Cl, ri, rp, rn, rc, rl, rfl, HD.out.1.1, Nat.le_trans HD.out.1.2 (by decide)⟩, ⟨xk2, xi2, xp2, xn2, xc2, xl2, xo2, xe2, Ci2, Cp2, Cn2, Cc2, Cl2, ri2, rp2, rn2, rc2, rl2, rfl, HD.out.2⟩⟩, hO.pick [0, 1] (by decide)⟩⟩
          · rw [if_pos (by rfl)]
            (refine zaf hO rfl rfl _ (by exact at3) rfl (by rfl) (by rfl) (by rfl) (by rfl) (by rfl) ?_; clear hO; intro u hO; simp only [zC, zB] at hO; refine hK _ _ ?_; clear hK K)
            refine J.wpAny_one (i := 2) (by kernel_rfl) (by rfl) rfl fun K hK => ?_
            (refine zah hO rfl rfl _ (by exact at6) (by rfl) (by simp only [J.putL, zI, zG, zH, J.dstOf, zF, zD, zE, zS, zQ, zR, Act.put, zA, zB, zC]; rfl) (hK _ _ ?_); clear hK K)
            refine J.wpAny_one (i := 5) (by kernel_rfl) (by rfl) rfl fun K hK => ?_
            (refine zaf hO rfl rfl _ (by exact at4) rfl (by rfl) (by rfl) (by rfl) (by rfl) (by rfl) ?_; clear hO; intro u hO; simp only [zC, zB] at hO; refine hK _ _ ?_; clear hK K)
            refine wpAny_done (by kernel_rfl) ?_ _
            go_wp2_with (first | (with_reducible refine zaq ?_) | fail)
            exact ⟨za5 rfl hO rfl rfl 3 4 at3 at4 rfl rfl rfl ⟨o, _, F, _, F', rfl, ⟨⟨xk, xi, xp, xn, xc, xl, xo, xe, Ci, Cp, Cn, Cc, Cl, ri, rp, rn, rc, rl, rfl, HD.out.1.1, Nat.le_trans HD.out.1.2 (by decide)⟩, ⟨xk2, xi2, xp2, xn2, xc2, xl2, xo2, xe2, Ci2, Cp2, Cn2, Cc2, Cl2, ri2, rp2, rn2, rc2, rl2, rfl, HD.out.2⟩⟩, hO.pick [0, 1] (by decide)⟩⟩
      · rw [if_pos (by rfl)]
        (refine zah hO rfl rfl _ (by exact at6) (by rfl) (by simp only [J.putL, zI, zG, zH, J.dstOf, zF, zD, zE, zS, zQ, zR, Act.put, zA, zB, zC]; rfl) (hK _ _ ?_); clear hK K)
        refine wpAny_ready (rs := [1, 3]) (by kernel_rfl) (by simp) ?_
        refine AllReady.cons rfl (fun K hK => ?_) (AllReady.cons rfl (fun K hK => ?_) (AllReady.nil))
        · rw [if_pos (by rfl)]
          (refine zah hO rfl rfl _ (by exact at5) (by rfl) (by simp only [J.putL, zI, zG, zH, J.dstOf, zF, zD, zE, zS, zQ, zR, Act.put, zA, zB, zC]; rfl) (hK _ _ ?_); clear hK K)
          refine J.wpAny_one (i := 3) (by kernel_rfl) (by rfl) rfl fun K hK => ?_
          simp only [wp_at_zero, wp_at_succ]
          go_step
          refine hK _ _ ?_
          clear hK K
          refine J.wpAny_one (i := 4) (by kernel_rfl) (by rfl) rfl fun K hK => ?_
          (refine zaf hO rfl rfl _ (by exact at3) rfl (by rfl) (by rfl) (by rfl) (by rfl) (by rfl) ?_; clear hO; intro u hO; simp only [zC, zB] at hO; refine hK _ _ ?_; clear hK K)
          refine J.wpAny_one (i := 5) (by kernel_rfl) (by rfl) rfl fun K hK => ?_
          (refine zaf hO rfl rfl _ (by exact at4) rfl (by rfl) (by rfl) (by rfl) (by rfl) (by rfl) ?_; clear hO; intro u hO; simp only [zC, zB] at hO; refine hK _ _ ?_; clear hK K)
          refine wpAny_done (by kernel_rfl) ?_ _
          go_wp2_with (first | (with_reducible refine zaq ?_) | fail)
          exact ⟨za5 rfl hO rfl rfl 3 4 at3 at4 rfl rfl rfl ⟨o, _, F, _, F', rfl, ⟨⟨xk, xi, xp, xn, xc, xl, xo, xe, Ci, Cp, Cn, Cc, Cl, ri, rp, rn, rc, rl, rfl, HD.out.1.1, Nat.le_trans HD.out.1.2 (by decide)⟩, ⟨xk2, xi2, xp2, xn2, xc2, xl2, xo2, xe2, Ci2, Cp2, Cn2, Cc2, Cl2, ri2, rp2, rn2, rc2, rl2, rfl, HD.out.2⟩⟩, hO.pick [0, 1] (by decide)⟩⟩
        · rw [if_pos (by rfl)]
          simp only [wp_at_zero, wp_at_succ]
          go_step
          refine hK _ _ ?_
          clear hK K
          refine J.wpAny_one (i := 1) (by kernel_rfl) (by rfl) rfl fun K hK => ?_
          (refine zah hO rfl rfl _ (by exact at5) (by rfl) (by simp only [J.putL, zI, zG, zH, J.dstOf, zF, zD, zE, zS, zQ, zR, Act.put, zA, zB, zC]; rfl) (hK _ _ ?_); clear hK K)
          refine J.wpAny_one (i := 4) (by kernel_rfl) (by rfl) rfl fun K hK => ?_
          (refine zaf hO rfl rfl _ (by exact at3) rfl (by rfl) (by rfl) (by rfl) (by rfl) (by rfl) ?_; clear hO; intro u hO; simp only [zC, zB] at hO; refine hK _ _ ?_; clear hK K)
          refine J.wpAny_one (i := 5) (by kernel_rfl) (by rfl) rfl fun K hK => ?_
          (refine zaf hO rfl rfl _ (by exact at4) rfl (by rfl) (by rfl) (by rfl) (by rfl) (by rfl) ?_; clear hO; intro u hO; simp only [zC, zB] at hO; refine hK _ _ ?_; clear hK K)
          refine wpAny_done (by kernel_rfl) ?_ _
          go_wp2_with (first | (with_reducible refine zaq ?_) | fail)
          exact ⟨za5 rfl hO rfl rfl 3 4 at3 at4 rfl rfl rfl ⟨o, _, F, _, F', rfl, ⟨⟨xk, xi, xp, xn, xc, xl, xo, xe, Ci, Cp, Cn, Cc, Cl, ri, rp, rn, rc, rl, rfl, HD.out.1.1, Nat.le_trans HD.out.1.2 (by decide)⟩, ⟨xk2, xi2, xp2, xn2, xc2, xl2, xo2, xe2, Ci2, Cp2, Cn2, Cc2, Cl2, ri2, rp2, rn2, rc2, rl2, rfl, HD.out.2⟩⟩, hO.pick [0, 1] (by decide)⟩⟩
      · rw [if_pos (by rfl)]
        simp only [wp_at_zero, wp_at_succ]
        go_step
        refine hK _ _ ?_
        clear hK K
        refine wpAny_ready (rs := [1, 2]) (by kernel_rfl) (by simp) ?_
        refine AllReady.cons rfl (fun K hK => ?_) (AllReady.cons rfl (fun K hK => ?_) (AllReady.nil))
        · rw [if_pos (by rfl)]
          (refine zah hO rfl rfl _ (by exact at5) (by rfl) (by simp only [J.putL, zI, zG, zH, J.dstOf, zF, zD, zE, zS, zQ, zR, Act.put, zA, zB, zC]; rfl) (hK _ _ ?_); clear hK K)
          refine wpAny_ready (rs := [2, 4]) (by kernel_rfl) (by simp) ?_
          refine AllReady.cons rfl (fun K hK => ?_) (AllReady.cons rfl (fun K hK => ?_) (AllReady.nil))
          · rw [if_pos (by rfl)]
            (refine zah hO rfl rfl _ (by exact at6) (by rfl) (by simp only [J.putL, zI, zG, zH, J.dstOf, zF, zD, zE, zS, zQ, zR, Act.put, zA, zB, zC]; rfl) (hK _ _ ?_); clear hK K)
            refine J.wpAny_one (i := 4) (by kernel_rfl) (by rfl) rfl fun K hK => ?_
            (refine zaf hO rfl rfl _ (by exact at3) rfl (by rfl) (by rfl) (by rfl) (by rfl) (by rfl) ?_; clear hO; intro u hO; simp only [zC, zB] at hO; refine hK _ _ ?_; clear hK K)
            refine J.wpAny_one (i := 5) (by kernel_rfl) (by rfl) rfl fun K hK => ?_
            (refine zaf hO rfl rfl _ (by exact at4) rfl (by rfl) (by rfl) (by rfl) (by rfl) (by rfl) ?_; clear hO; intro u hO; simp only [zC, zB] at hO; refine hK _ _ ?_; clear hK K)
            refine wpAny_done (by kernel_rfl) ?_ _
            go_wp2_with (first | (with_reducible refine zaq ?_) | fail)
            exact ⟨za5 rfl hO rfl rfl 3 4 at3 at4 rfl rfl rfl ⟨o, _, F, _, F', rfl, ⟨⟨xk, xi, xp, xn, xc, xl, xo, xe, Ci, Cp, Cn, Cc, Cl, ri, rp, rn, rc, rl, rfl, HD.out.1.1, Nat.le_trans HD.out.1.2 (by decide)⟩, ⟨xk2, xi2, xp2, xn2, xc2, xl2, xo2, xe2, Ci2, Cp2, Cn2, Cc2, Cl2, ri2, rp2, rn2, rc2, rl2, rfl, HD.out.2⟩⟩, hO.pick [0, 1] (by decide)⟩⟩
          · rw [if_pos (by rfl)]
            (refine zaf hO rfl rfl _ (by exact at3) rfl (by rfl) (by rfl) (by rfl) (by rfl) (by rfl) ?_; clear hO; intro u hO; simp only [zC, zB] at hO; refine hK _ _ ?_; clear hK K)
            refine J.wpAny_one (i := 2) (by kernel_rfl) (by rfl) rfl fun K hK => ?_
            (refine zah hO rfl rfl _ (by exact at6) (by rfl) (by simp only [J.putL, zI, zG, zH, J.dstOf, zF, zD, zE, zS, zQ, zR, Act.put, zA, zB, zC]; rfl) (hK _ _ ?_); clear hK K)
            refine J.wpAny_one (i := 5) (by kernel_rfl) (by rfl) rfl fun K hK => ?_
            (refine zaf hO rfl rfl _ (by exact at4) rfl (by rfl) (by rfl) (by rfl) (by rfl) (by rfl) ?_; clear hO; intro u hO; simp only [zC, zB] at hO; refine hK _ _ ?_; clear hK K)
            refine wpAny_done (by kernel_rfl) ?_ _
            go_wp2_with (first | (with_reducible refine zaq ?_) | fail)
            exact ⟨za5 rfl hO rfl rfl 3 4 at3 at4 rfl rfl rfl ⟨o, _, F, _, F', rfl, ⟨⟨xk, xi, xp, xn, xc, xl, xo, xe, Ci, Cp, Cn, Cc, Cl, ri, rp, rn, rc, rl, rfl, HD.out.1.1, Nat.le_trans HD.out.1.2 (by decide)⟩, ⟨xk2, xi2, xp2, xn2, xc2, xl2, xo2, xe2, Ci2, Cp2, Cn2, Cc2, Cl2, ri2, rp2, rn2, rc2, rl2, rfl, HD.out.2⟩⟩, hO.pick [0, 1] (by decide)⟩⟩
        · rw [if_pos (by rfl)]
          (refine zah hO rfl rfl _ (by exact at6) (by rfl) (by simp only [J.putL, zI, zG, zH, J.dstOf, zF, zD, zE, zS, zQ, zR, Act.put, zA, zB, zC]; rfl) (hK _ _ ?_); clear hK K)
          refine J.wpAny_one (i := 1) (by kernel_rfl) (by rfl) rfl fun K hK => ?_
          (refine zah hO rfl rfl _ (by exact at5) (by rfl) (by simp only [J.putL, zI, zG, zH, J.dstOf, zF, zD, zE, zS, zQ, zR, Act.put, zA, zB, zC]; rfl) (hK _ _ ?_); clear hK K)
          refine J.wpAny_one (i := 4) (by kernel_rfl) (by rfl) rfl fun K hK => ?_
          (refine zaf hO rfl rfl _ (by exact at3) rfl (by rfl) (by rfl) (by rfl) (by rfl) (by rfl) ?_; clear hO; intro u hO; simp only [zC, zB] at hO; refine hK _ _ ?_; clear hK K)
          refine J.wpAny_one (i := 5) (by kernel_rfl) (by rfl) rfl fun K hK => ?_
          (refine zaf hO rfl rfl _ (by exact at4) rfl (by rfl) (by rfl) (by rfl) (by rfl) (by rfl) ?_; clear hO; intro u hO; simp only [zC, zB] at hO; refine hK _ _ ?_; clear hK K)
          refine wpAny_done (by kernel_rfl) ?_ _
          go_wp2_with (first | (with_reducible refine zaq ?_) | fail)
          exact ⟨za5 rfl hO rfl rfl 3 4 at3 at4 rfl rfl rfl ⟨o, _, F, _, F', rfl, ⟨⟨xk, xi, xp, xn, xc, xl, xo, xe, Ci, Cp, Cn, Cc, Cl, ri, rp, rn, rc, rl, rfl, HD.out.1.1, Nat.le_trans HD.out.1.2 (by decide)⟩, ⟨xk2, xi2, xp2, xn2, xc2, xl2, xo2, xe2, Ci2, Cp2, Cn2, Cc2, Cl2, ri2, rp2, rn2, rc2, rl2, rfl, HD.out.2⟩⟩, hO.pick [0, 1] (by decide)⟩⟩
    · rw [if_pos (by rfl)]
      (refine zah hO rfl rfl _ (by exact at5) (by rfl) (by simp only [J.putL, zI, zG, zH, J.dstOf, zF, zD, zE, zS, zQ, zR, Act.put, zA, zB, zC]; rfl) (hK _ _ ?_); clear hK K)
      refine wpAny_ready (rs := [0, 2]) (by kernel_rfl) (by simp) ?_
      refine AllReady.cons rfl (fun K hK => ?_) (AllReady.cons rfl (fun K hK => ?_) (AllReady.nil))
      · rw [if_pos (by rfl)]
        simp only [wp_at_zero, wp_at_succ]
        go_step
        refine hK _ _ ?_
        clear hK K
        refine wpAny_ready (rs := [2, 3]) (by kernel_rfl) (by simp) ?_
        refine AllReady.cons rfl (fun K hK => ?_) (AllReady.cons rfl (fun K hK => ?_) (AllReady.nil))
        · rw [if_pos (by rfl)]
          (refine zah hO rfl rfl _ (by exact at6) (by rfl) (by simp only [J.putL, zI, zG, zH, J.dstOf, zF, zD, zE, zS, zQ, zR, Act.put, zA, zB, zC]; rfl) (hK _ _ ?_); clear hK K)
          refine J.wpAny_one (i := 3) (by kernel_rfl) (by rfl) rfl fun K hK => ?_
          simp only [wp_at_zero, wp_at_succ]
          go_step
          refine hK _ _ ?_
          clear hK K
          refine J.wpAny_one (i := 4) (by kernel_rfl) (by rfl) rfl fun K hK => ?_
          (refine zaf hO rfl rfl _ (by exact at3) rfl (by rfl) (by rfl) (by rfl) (by rfl) (by rfl) ?_; clear hO; intro u hO; simp only [zC, zB] at hO; refine hK _ _ ?_; clear hK K)
          refine J.wpAny_one (i := 5) (by kernel_rfl) (by rfl) rfl fun K hK => ?_
          (refine zaf hO rfl rfl _ (by exact at4) rfl (by rfl) (by rfl) (by rfl) (by rfl) (by rfl) ?_; clear hO; intro u hO; simp only [zC, zB] at hO; refine hK _ _ ?_; clear hK K)
          refine wpAny_done (by kernel_rfl) ?_ _
          go_wp2_with (first | (with_reducible refine zaq ?_) | fail)
          exact ⟨za5 rfl hO rfl rfl 3 4 at3 at4 rfl rfl rfl ⟨o, _, F, _, F', rfl, ⟨⟨xk, xi, xp, xn, xc, xl, xo, xe, Ci, Cp, Cn, Cc, Cl, ri, rp, rn, rc, rl, rfl, HD.out.1.1, Nat.le_trans HD.out.1.2 (by decide)⟩, ⟨xk2, xi2, xp2, xn2, xc2, xl2, xo2, xe2, Ci2, Cp2, Cn2, Cc2, Cl2, ri2, rp2, rn2, rc2, rl2, rfl, HD.out.2⟩⟩, hO.pick [0, 1] (by decide)⟩⟩
        · rw [if_pos (by rfl)]
          simp only [wp_at_zero, wp_at_succ]
          go_step
          refine hK _ _ ?_
          clear hK K
          refine wpAny_ready (rs := [2, 4]) (by kernel_rfl) (by simp) ?_
          refine AllReady.cons rfl (fun K hK => ?_) (AllReady.cons rfl (fun K hK => ?_) (AllReady.nil))
          · rw [if_pos (by rfl)]
            (refine zah hO rfl rfl _ (by exact at6) (by rfl) (by simp only [J.putL, zI, zG, zH, J.dstOf, zF, zD, zE, zS, zQ, zR, Act.put, zA, zB, zC]; rfl) (hK _ _ ?_); clear hK K)
            refine J.wpAny_one (i := 4) (by kernel_rfl) (by rfl) rfl fun K hK => ?_
            (refine zaf hO rfl rfl _ (by exact at3) rfl (by rfl) (by rfl) (by rfl) (by rfl) (by rfl) ?_; clear hO; intro u hO; simp only [zC, zB] at hO; refine hK _ _ ?_; clear hK K)
            refine J.wpAny_one (i := 5) (by kernel_rfl) (by rfl) rfl fun K hK => ?_
            (refine zaf hO rfl rfl _ (by exact at4) rfl (by rfl) (by rfl) (by rfl) (by rfl) (by rfl) ?_; clear hO; intro u hO; simp only [zC, zB] at hO; refine hK _ _ ?_; clear hK K)
            refine wpAny_done (by kernel_rfl) ?_ _
            go_wp2_with (first | (with_reducible refine zaq ?_) | fail)
            exact ⟨za5 rfl hO rfl rfl 3 4 at3 at4 rfl rfl rfl ⟨o, _, F, _, F', rfl, ⟨⟨xk, xi, xp, xn, xc, xl, xo, xe, Ci, Cp, Cn, Cc, Cl, ri, rp, rn, rc, rl, rfl, HD.out.1.1, Nat.le_trans HD.out.1.2 (by decide)⟩, ⟨xk2, xi2, xp2, xn2, xc2, xl2, xo2, xe2, Ci2, Cp2, Cn2, Cc2, Cl2, ri2, rp2, rn2, rc2, rl2, rfl, HD.out.2⟩⟩, hO.pick [0, 1] (by decide)⟩⟩
          · rw [if_pos (by rfl)]
            (refine zaf hO rfl rfl _ (by exact at3) rfl (by rfl) (by rfl) (by rfl) (by rfl) (by rfl) ?_; clear hO; intro u hO; simp only [zC, zB] at hO; refine hK _ _ ?_; clear hK K)
            refine J.wpAny_one (i := 2) (by kernel_rfl) (by rfl) rfl fun K hK => ?_
            (refine zah hO rfl rfl _ (by exact at6) (by rfl) (by simp only [J.putL, zI, zG, zH, J.dstOf, zF, zD, zE, zS, zQ, zR, Act.put, zA, zB, zC]; rfl) (hK _ _ ?_); clear hK K)
            refine J.wpAny_one (i := 5) (by kernel_rfl) (by rfl) rfl fun K hK => ?_
            (refine zaf hO rfl rfl _ (by exact at4) rfl (by rfl) (by rfl) (by rfl) (by rfl) (by rfl) ?_; clear hO; intro u hO; simp only [zC, zB] at hO; refine hK _ _ ?_; clear hK K)
            refine wpAny_done (by kernel_rfl) ?_ _
            go_wp2_with (first | (with_reducible refine zaq ?_) | fail)
            exact ⟨za5 rfl hO rfl rfl 3 4 at3 at4 rfl rfl rfl ⟨o, _, F, _, F', rfl, ⟨⟨xk, xi, xp, xn, xc, xl, xo, xe, Ci, Cp, Cn, Cc, Cl, ri, rp, rn, rc, rl, rfl, HD.out.1.1, Nat.le_trans HD.out.1.2 (by decide)⟩, ⟨xk2, xi2, xp2, xn2, xc2, xl2, xo2, xe2, Ci2, Cp2, Cn2, Cc2, Cl2, ri2, rp2, rn2, rc2, rl2, rfl, HD.out.2⟩⟩, hO.pick [0, 1] (by decide)⟩⟩
      · rw [if_pos (by rfl)]
        (refine zah hO rfl rfl _ (by exact at6) (by rfl) (by simp only [J.putL, zI, zG, zH, J.dstOf, zF, zD, zE, zS, zQ, zR, Act.put, zA, zB, zC]; rfl) (hK _ _ ?_); clear hK K)
        refine J.wpAny_one (i := 0) (by kernel_rfl) (by rfl) rfl fun K hK => ?_
        simp only [wp_at_zero, wp_at_succ]
        go_step
        refine hK _ _ ?_
        clear hK K
        refine J.wpAny_one (i := 3) (by kernel_rfl) (by rfl) rfl fun K hK => ?_
        simp only [wp_at_zero, wp_at_succ]
        go_step
        refine hK _ _ ?_
        clear hK K
        refine J.wpAny_one (i := 4) (by kernel_rfl) (by rfl) rfl fun K hK => ?_
        (refine zaf hO rfl rfl _ (by exact at3) rfl (by rfl) (by rfl) (by rfl) (by rfl) (by rfl) ?_; clear hO; intro u hO; simp only [zC, zB] at hO; refine hK _ _ ?_; clear hK K)
        refine J.wpAny_one (i := 5) (by kernel_rfl) (by rfl) rfl fun K hK => ?_
        (refine zaf hO rfl rfl _ (by exact at4) rfl (by rfl) (by rfl) (by rfl) (by rfl) (by rfl) ?_; clear hO; intro u hO; simp only [zC, zB] at hO; refine hK _ _ ?_; clear hK K)
        refine wpAny_done (by kernel_rfl) ?_ _
        go_wp2_with (first | (with_reducible refine zaq ?_) | fail)
        exact ⟨za5 rfl hO rfl rfl 3 4 at3 at4 rfl rfl rfl ⟨o, _, F, _, F', rfl, ⟨⟨xk, xi, xp, xn, xc, xl, xo, xe, Ci, Cp, Cn, Cc, Cl, ri, rp, rn, rc, rl, rfl, HD.out.1.1, Nat.le_trans HD.out.1.2 (by decide)⟩, ⟨xk2, xi2, xp2, xn2, xc2, xl2, xo2, xe2, Ci2, Cp2, Cn2, Cc2, Cl2, ri2, rp2, rn2, rc2, rl2, rfl, HD.out.2⟩⟩, hO.pick [0, 1] (by decide)⟩⟩
    · rw [if_pos (by rfl)]
      (refine zah hO rfl rfl _ (by exact at6) (by rfl) (by simp only [J.putL, zI, zG, zH, J.dstOf, zF, zD, zE, zS, zQ, zR, Act.put, zA, zB, zC]; rfl) (hK _ _ ?_); clear hK K)
      refine wpAny_ready (rs := [0, 1]) (by kernel_rfl) (by simp) ?_
      refine AllReady.cons rfl (fun K hK => ?_) (AllReady.cons rfl (fun K hK => ?_) (AllReady.nil))
      · rw [if_pos (by rfl)]
        simp only [wp_at_zero, wp_at_succ]
        go_step
        refine hK _ _ ?_
        clear hK K
        refine wpAny_ready (rs := [1, 3]) (by kernel_rfl) (by simp) ?_
        refine AllReady.cons rfl (fun K hK => ?_) (AllReady.cons rfl (fun K hK => ?_) (AllReady.nil))
        · rw [if_pos (by rfl)]
          (refine zah hO rfl rfl _ (by exact at5) (by rfl) (by simp only [J.putL, zI, zG, zH, J.dstOf, zF, zD, zE, zS, zQ, zR, Act.put, zA, zB, zC]; rfl) (hK _ _ ?_); clear hK K)
          refine J.wpAny_one (i := 3) (by kernel_rfl) (by rfl) rfl fun K hK => ?_
          simp only [wp_at_zero, wp_at_succ]
          go_step
          refine hK _ _ ?_
          clear hK K
          refine J.wpAny_one (i := 4) (by kernel_rfl) (by rfl) rfl fun K hK => ?_
          (refine zaf hO rfl rfl _ (by exact at3) rfl (by rfl) (by rfl) (by rfl) (by rfl) (by rfl) ?_; clear hO; intro u hO; simp only [zC, zB] at hO; refine hK _ _ ?_; clear hK K)
          refine J.wpAny_one (i := 5) (by kernel_rfl) (by rfl) rfl fun K hK => ?_
          (refine zaf hO rfl rfl _ (by exact at4) rfl (by rfl) (by rfl) (by rfl) (by rfl) (by rfl) ?_; clear hO; intro u hO; simp only [zC, zB] at hO; refine hK _ _ ?_; clear hK K)
          refine wpAny_done (by kernel_rfl) ?_ _
          go_wp2_with (first | (with_reducible refine zaq ?_) | fail)
          exact ⟨za5 rfl hO rfl rfl 3 4 at3 at4 rfl rfl rfl ⟨o, _, F, _, F', rfl, ⟨⟨xk, xi, xp, xn, xc, xl, xo, xe, Ci, Cp, Cn, Cc, Cl, ri, rp, rn, rc, rl, rfl, HD.out.1.1, Nat.le_trans HD.out.1.2 (by decide)⟩, ⟨xk2, xi2, xp2, xn2, xc2, xl2, xo2, xe2, Ci2, Cp2, Cn2, Cc2, Cl2, ri2, rp2, rn2, rc2, rl2, rfl, HD.out.2⟩⟩, hO.pick [0, 1] (by decide)⟩⟩
        · rw [if_pos (by rfl)]
          simp only [wp_at_zero, wp_at_succ]
          go_step
          refine hK _ _ ?_
          clear hK K
          refine J.wpAny_one (i := 1) (by kernel_rfl) (by rfl) rfl fun K hK => ?_
          (refine zah hO rfl rfl _ (by exact at5) (by rfl) (by simp only [J.putL, zI, zG, zH, J.dstOf, zF, zD, zE, zS, zQ, zR, Act.put, zA, zB, zC]; rfl) (hK _ _ ?_); clear hK K)
          refine J.wpAny_one (i := 4) (by kernel_rfl) (by rfl) rfl fun K hK => ?_
          (refine zaf hO rfl rfl _ (by exact at3) rfl (by rfl) (by rfl) (by rfl) (by rfl) (by rfl) ?_; clear hO; intro u hO; simp only [zC, zB] at hO; refine hK _ _ ?_; clear hK K)
          refine J.wpAny_one (i := 5) (by kernel_rfl) (by rfl) rfl fun K hK => ?_
          (refine zaf hO rfl rfl _ (by exact at4) rfl (by rfl) (by rfl) (by rfl) (by rfl) (by rfl) ?_; clear hO; intro u hO; simp only [zC, zB] at hO; refine hK _ _ ?_; clear hK K)
          refine wpAny_done (by kernel_rfl) ?_ _
          go_wp2_with (first | (with_reducible refine zaq ?_) | fail)
          exact ⟨za5 rfl hO rfl rfl 3 4 at3 at4 rfl rfl rfl ⟨o, _, F, _, F', rfl, ⟨⟨xk, xi, xp, xn, xc, xl, xo, xe, Ci, Cp, Cn, Cc, Cl, ri, rp, rn, rc, rl, rfl, HD.out.1.1, Nat.le_trans HD.out.1.2 (by decide)⟩, ⟨xk2, xi2, xp2, xn2, xc2, xl2, xo2, xe2, Ci2, Cp2, Cn2, Cc2, Cl2, ri2, rp2, rn2, rc2, rl2, rfl, HD.out.2⟩⟩, hO.pick [0, 1] (by decide)⟩⟩
      · rw [if_pos (by rfl)]
        (refine zah hO rfl rfl _ (by exact at5) (by rfl) (by simp only [J.putL, zI, zG, zH, J.dstOf, zF, zD, zE, zS, zQ, zR, Act.put, zA, zB, zC]; rfl) (hK _ _ ?_); clear hK K)
        refine J.wpAny_one (i := 0) (by kernel_rfl) (by rfl) rfl fun K hK => ?_
        simp only [wp_at_zero, wp_at_succ]
        go_step
        refine hK _ _ ?_
        clear hK K
        refine J.wpAny_one (i := 3) (by kernel_rfl) (by rfl) rfl fun K hK => ?_
        simp only [wp_at_zero, wp_at_succ]
        go_step
        refine hK _ _ ?_
        clear hK K
        refine J.wpAny_one (i := 4) (by kernel_rfl) (by rfl) rfl fun K hK => ?_
        (refine zaf hO rfl rfl _ (by exact at3) rfl (by rfl) (by rfl) (by rfl) (by rfl) (by rfl) ?_; clear hO; intro u hO; simp only [zC, zB] at hO; refine hK _ _ ?_; clear hK K)
        refine J.wpAny_one (i := 5) (by kernel_rfl) (by rfl) rfl fun K hK => ?_
        (refine zaf hO rfl rfl _ (by exact at4) rfl (by rfl) (by rfl) (by rfl) (by rfl) (by rfl) ?_; clear hO; intro u hO; simp only [zC, zB] at hO; refine hK _ _ ?_; clear hK K)
        refine wpAny_done (by kernel_rfl) ?_ _
        go_wp2_with (first | (with_reducible refine zaq ?_) | fail)
        exact ⟨za5 rfl hO rfl rfl 3 4 at3 at4 rfl rfl rfl ⟨o, _, F, _, F', rfl, ⟨⟨xk, xi, xp, xn, xc, xl, xo, xe, Ci, Cp, Cn, Cc, Cl, ri, rp, rn, rc, rl, rfl, HD.out.1.1, Nat.le_trans HD.out.1.2 (by decide)⟩, ⟨xk2, xi2, xp2, xn2, xc2, xl2, xo2, xe2, Ci2, Cp2, Cn2, Cc2, Cl2, ri2, rp2, rn2, rc2, rl2, rfl, HD.out.2⟩⟩, hO.pick [0, 1] (by decide)⟩⟩
  | false =>
    go_wp2_with fail
    refine (cd_below 4 (by decide) (by decide) h hO).mono ?_
    clear hO
    rintro e u ⟨x, rfl, hx, hO⟩
    go_upto_region 7 with fail
    rw [show (1 : Int) + (x : Int) = ((x + 1 : Nat) : Int) by omega]
    obtain ⟨m, hm⟩ : ∃ m, x + 1 = m := ⟨_, rfl⟩
    rw [hm]
    have hm8 : m ≤ 4 := by omega
    clear hm
    go_wp2_with fail
    refine (cd_atom 2 m (by omega) h hO).mono ?_
    clear hO
    rintro e u ⟨is, A', c', rfl, hI, hO⟩
    obtain ⟨F, hd, hO⟩ := Own.atomV 2 hI.1 hI.2 hO
    clear hI
    replace hO := hO.pick [1, 2, 3, 0] (by decide)
    simp only [zN, zO, zE, zD] at hO
    go_wp2_with fail
    refine (cd_below 2 (by decide) (by decide) h hO).mono ?_
    clear hO
    rintro e u ⟨y, rfl, hy, hO⟩
    go_wp2_with (first | ((with_reducible refine zao ?_); refine zaj (cs := [.int .i64 1, .int .i64 (m : Int), .int .i64 (2 * (m : Int)), .int .i64 2]) hO rfl (by rfl) [.int .i64 1, .int .i64 (m : Int), .int .i64 (2 * (m : Int)), .int .i64 2] (by rfl) (by rfl) rfl (zM rfl) (by rfl) rfl (fun b => by simp only [Act.put, zA, zB, zC]; rfl) ?_; clear hO; intro bb u hO; simp only [zL, zK] at hO) | fail)
    refine (cd_pickInt [1, (m : Int), 2 * (m : Int), 2] 4 rfl (by decide) (by decide) (List.mem_of_getElem? at3) h hO).mono ?_
    clear hO
    rintro e u ⟨q, rfl, hq, hO⟩
    obtain ⟨q', rfl, hq8⟩ : ∃ q' : Nat, q = (q' : Int) ∧ q' ≤ 8 := by
      simp only [List.mem_cons, List.not_mem_nil, or_false] at hq
      exact ⟨q.toNat, by omega, by omega⟩
    replace hO := hO.pick [0, 1, 2, 3] (by decide)
    simp only [zN, zO, zE, zD] at hO
    go_wp2_with fail
    refine (cd_atom _ q' (by omega) h hO).mono ?_
    clear hO
    rintro e u ⟨is', A2, c2, rfl, hI, hO⟩
    have hI1 := hI.1
    have hI2 := hI.2
    clear hI
    obtain ⟨F2, hd2, hO⟩ := Own.atomV (1 + (y : Int)) hI1 hI2 hO
    have HD := Lib.hid (And.intro hd hd2)
    clear hd hd2
    go_wp2_with (first | (with_reducible refine zaq ?_) | ((with_reducible refine zab ?_); refine zsc rfl hO rfl _ (by (first | exact at2 | exact at3 | fail)) ?_; clear hO; intro u hO; simp only [zC, zB] at hO) | fail)
    exact ⟨za5 rfl hO rfl rfl 2 3 at2 at3 rfl rfl rfl ⟨o, _, F, _, F2, rfl, ⟨HD.out.1.mono (by omega), HD.out.2.mono (by omega)⟩, hO.pick [4, 0] (by decide)⟩⟩

end Go.Proofs.YtmofcbpabdbjlaaGreat
