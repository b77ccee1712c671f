/-
  What is proved: what the reference's readers of pairs of vectors return (l4Two, DrawEqualVectors, DrawArithmeticOf): some vectors of a known size.
  Condition: codes of at most 1048576 bytes.
-/
import Derived.Test.YtmofcbpabdbjlaaVz6
import Derived.Test.YtmofcbpabdbjlaaVz26
namespace Go.Proofs.Ytmofcbpabdbjlaa

set_option maxRecDepth 8000

open Go.RowKit Go.ChangeShapes Go.WideShapes Go.Deep

set_option linter.unusedVariables false

set_option linter.unusedSimpArgs false

/-- an owned vector of a known size, cell by cell -/
def DVec (Z : Nat) (v : Value) (F : List Res) : Prop := ∃ (xk : Int) (xi : List It) (xp : List VT) (xn xc xl : List ByteArray) (xo xe : Int) (Ci Cp Cn Cc Cl : Option Addr) (ri rp rn rc rl : Nat), v = .agg #[.int .i64 xk, .slice Ci xi.length ri, .slice Cp xp.length rp, .slice Cn xn.length rn, .slice Cc xc.length rc, .slice Cl xl.length rl, .int .i64 xo, .int .i64 xe] ∧ VO (.mk xk xi xp xn xc xl xo xe) [.int .i64 xk, .slice Ci xi.length ri, .slice Cp xp.length rp, .slice Cn xn.length rn, .slice Cc xc.length rc, .slice Cl xl.length rl, .int .i64 xo, .int .i64 xe] F ∧ szV (.mk xk xi xp xn xc xl xo xe) ≤ Z

theorem DVec.mono {Z Z' : Nat} {v : Value} {F : List Res} (h : DVec Z v F) (hz : Z ≤ Z') : DVec Z' v F := by
  obtain ⟨xk, xi, xp, xn, xc, xl, xo, xe, Ci, Cp, Cn, Cc, Cl, ri, rp, rn, rc, rl, h1, h2, h3⟩ := h
  exact ⟨xk, xi, xp, xn, xc, xl, xo, xe, Ci, Cp, Cn, Cc, Cl, ri, rp, rn, rc, rl, h1, h2, Nat.le_trans h3 hz⟩

def RetDD (w : World) (e : Ending) (w' : World) : Prop := ∃ v F v' F', e = .returned (.tuple #[v, v']) ∧ (DVec 22000 v F ∧ DVec 600000 v' F') ∧ Own w [pack F, pack F'] w'

def J.freshAt (k : Int) (m : Nat) : Value × List Res → Prop := fun x => ∃ (is : List It) (A' : Option Addr) (c' : Nat), x = (.agg #[.int .i64 k, .slice A' m c', .slice none 0 0, .slice none 0 0, .slice none 0 0, .slice none 0 0, .int .i64 0, .int .i64 0], [row 83 3 (.slice A' m c') m (itc is)]) ∧ (List.length is = m ∧ ∀ x ∈ is, x.text.size ≤ 24)

theorem lenN_le (k : Int) (m n : Nat) : lenN k m n ≤ m + n + 1 := by
  unfold lenN
  split <;> first | omega | simp

theorem Own.atomV {w0 w : World} {L : List Res} {is : List It} {A : Option Addr} {c m : Nat} (k : Int) (hm : is.length = m) (hs : ∀ x ∈ is, x.text.size ≤ 24) (h : Own w0 (row 83 3 (.slice A m c) m (itc is) :: L) w) :
    ∃ F, DVec (25 * m) (.agg #[.int .i64 k, .slice A m c, .slice none 0 0, .slice none 0 0, .slice none 0 0, .slice none 0 0, .int .i64 0, .int .i64 0]) F ∧ Own w0 (Go.Proofs.Ytmofcbpabdbjlaa.pack F :: L) w := by
  subst hm
  have hR := (((h.addNil 29 8).addNil 9 1).addNil 9 1).addNil 9 1
  have g1 := szI_bd rfl hs
  refine ⟨row 83 3 (.slice A is.length c) is.length (itc is) :: row 29 8 (.slice none 0 0) 0 [] :: row 9 1 (.slice none 0 0) 0 [] :: row 9 1 (.slice none 0 0) 0 [] :: row 9 1 (.slice none 0 0) 0 [] :: ([] : List (List Res)).flatten, ⟨k, is, [], [], [], [], 0, 0, _, _, _, _, _, _, _, _, _, _, rfl, VO.close VL.nil, ?_⟩, Own.pack (F := [_, _, _, _, _]) (L := L) (hR.perm ?_)⟩
  · show szI is + 0 + 0 + 0 + 0 ≤ _
    omega
  · simp only [List.cons_append, List.nil_append, List.append_assoc]
    refine List.Perm.cons _ ?_
    rw [show ∀ (a b c d : Res), L ++ [a, b, c, d] = L ++ ([a, b, c, d] : List Res) from fun _ _ _ _ => rfl]
    exact List.perm_append_comm (l₂ := [_, _, _, _])

set_option maxRecDepth 20000 in
set_option maxHeartbeats 8000000 in
theorem dw_two (A : Option Addr) (n c : Nat) (l : List Int) (w : World) (h : Cod w A n l) : Calls Try.prog 126 #[.slice A n c] w (RetDD w) := by
  go_enter Try.func126, Try.ntmps126
  have hO := Own.nil w
  go_wp2_with (first | ((with_reducible refine zac ?_); refine zal rfl hO rfl ?_; (first | (refine nm 0 rfl ?_; clear hO; intro b0 u hO) | (refine nm 1 rfl ?_; clear hO; intro b1 u hO) | fail); simp only [zL, zK] at hO) | fail)
  refine (draw_new A n c l _ (h.below hO.below)).mono ?_
  rintro e u ⟨b, rfl, i, z, hi, hb⟩
  have hC := hO.call hb
  simp only [List.cons_append, List.nil_append] at hC
  clear hO hb
  have hO := Rd.cur ⟨i, z, hi, hC⟩
  clear hC hi i z
  go_wp2_with fail
  refine (cd_any h hO).mono ?_
  clear hO
  rintro e u ⟨xk, xi, xp, xn, xc, xl, xo, xe, Ci, Cp, Cn, Cc, Cl, ri, rp, rn, rc, rl, F, rfl, ⟨hvo, hsz⟩, hO⟩
  simp only [List.cons_append, List.nil_append] at hO
  have HT : szV (.mk xk xi xp xn xc xl xo xe) = szI xi + szL xp + szS xn + szS xc + szS xl := rfl
  have HX := szL_eq xp
  have zx : (xi.length : Int) + xp.length ≤ 9223372036854775807 := by unfold szI at HT; omega
  have hln := lenN_le xk xi.length xp.length
  have CL := fun u => spec_len xk Ci Cp xi.length xp.length ri rp (.slice Cn xn.length rn) (.slice Cc xc.length rc) (.slice Cl xl.length rl) (.int .i64 xo) (.int .i64 xe) u zx
  obtain ⟨m, hm⟩ : ∃ m, lenN xk xi.length xp.length = m := ⟨_, rfl⟩
  rw [hm] at CL hln
  have hm1 : m ≤ 22001 := by unfold szI at HT; omega
  have HZ := Lib.hid hsz
  clear hsz HT HX zx hln hm
  replace hO := hO.pick [1, 2, 3, 0] (by decide)
  simp only [zN, zO, zE, zD] at hO
  go_upto_region 3 with (first | ((with_reducible refine zac ?_); refine zal rfl hO rfl ?_; (refine nm 4 rfl ?_; clear hO; intro b4 u hO); simp only [zL, zK] at hO) | ((with_reducible refine zab ?_); refine zsc rfl hO rfl _ (by exact at4) ?_; clear hO; intro u hO; simp only [zC, zB] at hO) | fail)
  rename_i K1 hK1 K0 hK0
  have tail0 : ∀ (u : World) (u1 u6 u7 u8 u9 u10 u11 u12 u13 u14 u15 u16 u17 u18 u19 u20 u21 u22 u23 u24 u25 u26 u27 u28 u29 u30 u31 u32 u33 u34 u35 u36 u37 u38 u39 u40 u41 : Value), Own w [cur b A n c, box b0 29 [.int .i64 0, .slice none 0 0, .slice none 0 0, .slice none 0 0, .slice none 0 0, .slice none 0 0, .int .i64 0, .int .i64 0], box b1 29 [.int .i64 0, .slice none 0 0, .slice none 0 0, .slice none 0 0, .slice none 0 0, .slice none 0 0, .int .i64 0, .int .i64 0], pack F, box b4 29 [.int .i64 xk, .slice Ci xi.length ri, .slice Cp xp.length rp, .slice Cn xn.length rn, .slice Cc xc.length rc, .slice Cl xl.length rl, .int .i64 xo, .int .i64 xe]] u → K1 ⟨(.slice A n c :: u1 :: .pointer (some ⟨b0, 0, none⟩) :: .pointer (some ⟨b1, 0, none⟩) :: .pointer (some ⟨b, 0, none⟩) :: .pointer (some ⟨b4, 0, none⟩) :: u6 :: u7 :: u8 :: u9 :: u10 :: u11 :: u12 :: u13 :: u14 :: u15 :: u16 :: u17 :: u18 :: u19 :: u20 :: u21 :: u22 :: u23 :: u24 :: u25 :: u26 :: u27 :: u28 :: u29 :: u30 :: u31 :: u32 :: u33 :: u34 :: u35 :: u36 :: u37 :: u38 :: u39 :: u40 :: u41 :: []).toArray, []⟩ u := by
    clear hO hK0
    intro u u1 u6 u7 u8 u9 u10 u11 u12 u13 u14 u15 u16 u17 u18 u19 u20 u21 u22 u23 u24 u25 u26 u27 u28 u29 u30 u31 u32 u33 u34 u35 u36 u37 u38 u39 u40 u41 hO
    refine hK1 _ _ ?_
    clear hK1
    go_wp2_with fail
    refine (cd_once 8 (by decide) (by decide) h hO).mono ?_
    clear hO
    rintro e u ⟨x, rfl, hO⟩
    cases x with
    | true =>
      go_upto_region 6 with fail
      refine J.wp_region_c (n := 42) [0, 1] [2] (deps := fun i => [[], [], [1], [], []].getD i []) (fun _ _ => (J.freshC xk xi (copL xp) xn xc xl xo xe)) (r := 2) (lst := #[true, true, true, false, false]) (by kernel_rfl) (by kernel_rfl) (by kernel_rfl) rfl (by decide) (by kernel_rfl) hO ?_
      refine zcc (f := fun M u hO K hK => by (exact zah hO rfl rfl _ (by exact at4) (by rfl) (by rfl) (hK _ hO))) (h := ?_)
      refine zcc (f := fun M u hO K hK => by (exact zah hO rfl rfl _ (by exact at4) (by rfl) (by rfl) (hK _ hO))) (h := ?_)
      refine J.Chain.nil ⟨?_, ?_⟩
      · refine J.Each.cons (by rfl) ?_ ?_; exact ⟨rfl, fun vs M u hO _ K hK => by ((try simp only [J.putL, zI, zG, zH, J.dstOf, zF, zD, zE, zS, zQ, zR, Act.put, zA, zB, zC]); (try simp only [wp_at_zero, wp_at_succ]); go_step; refine (((spec_copyAny _ _ _ (hO.rdp 3 rfl hvo) (Nat.le_trans HZ.out (by decide))).mono fun e' w' h => RetV.exC h)).mono ?_; rintro e u ⟨Ci2, Cp2, Cn2, Cc2, Cl2, ri2, rp2, rn2, rc2, rl2, F2, rfl, hvo2, hb⟩; have hK' := hK _ _ _ (show (J.freshC xk xi (copL xp) xn xc xl xo xe) _ from ⟨Ci2, Cp2, Cn2, Cc2, Cl2, ri2, rp2, rn2, rc2, rl2, F2, rfl, hvo2⟩) ((hO.call hb).perm List.perm_append_comm); clear hK; simp only [J.putL, zI, zG, zH, J.dstOf, zF, zD, zE, zS, zQ, zR, Act.put, zA, zB, zC] at hK'; exact hK')⟩; exact J.Each.nil
      intro vs u hO hF
      obtain ⟨Ci2, Cp2, Cn2, Cc2, Cl2, ri2, rp2, rn2, rc2, rl2, F2, h2, hvo2⟩ : (J.freshC xk xi (copL xp) xn xc xl xo xe) (vs 2) := hF 2 (by decide)
      clear hF
      simp only [List.flatMap_cons, List.flatMap_nil, h2, List.append_nil, zL, zK] at hO
      simp only [h2, J.putL, zI, zG, zH, J.dstOf, zF, zD, zE, zS, zQ, zR, Act.put, zA, zB, zC]
      clear h2 vs
      refine J.wpAny_one (i := 3) (by kernel_rfl) (by rfl) rfl fun K hK => ?_
      (refine zas hO rfl rfl _ (by exact at1) rfl (by rfl) (by rfl) (by rfl) (by rfl) (by rfl) ?_; clear hO; intro u hO; simp only [zC, zB] at hO; refine hK _ _ ?_; clear hK K)
      refine J.wpAny_one (i := 4) (by kernel_rfl) (by rfl) rfl fun K hK => ?_
      (refine zas hO rfl rfl _ (by exact at2) rfl (by rfl) (by rfl) (by rfl) (by rfl) (by rfl) ?_; clear hO; intro u hO; simp only [zC, zB] at hO; refine hK _ _ ?_; clear hK K)
      refine wpAny_done (by kernel_rfl) ?_ _
      go_wp2_with (first | (with_reducible refine zao ?_) | fail)
      exact ⟨ret_boxes rfl hO rfl rfl 1 2 at1 at2 rfl rfl rfl ⟨_, F, _, F2, rfl, ⟨⟨xk, xi, xp, xn, xc, xl, xo, xe, Ci, Cp, Cn, Cc, Cl, ri, rp, rn, rc, rl, rfl, hvo, HZ.out⟩, ⟨xk, xi, copL xp, xn, xc, xl, xo, xe, Ci2, Cp2, Cn2, Cc2, Cl2, ri2, rp2, rn2, rc2, rl2, rfl, hvo2, by
        have h1 := HZ.out
        have h2 := copL_sz xp
        have HT : szV (.mk xk xi xp xn xc xl xo xe) = szI xi + szL xp + szS xn + szS xc + szS xl := rfl
        show szI xi + szL (copL xp) + szS xn + szS xc + szS xl ≤ 600000
        omega⟩⟩, hO.pick [3, 5] (by decide)⟩⟩
    | false =>
      go_upto_region 7 with fail
      refine J.wp_region_c (n := 42) [0, 1] [2] (deps := fun i => [[], [], [1], [], []].getD i []) (fun _ _ => (J.freshD 22000)) (r := 2) (lst := #[true, true, true, false, false]) (by kernel_rfl) (by kernel_rfl) (by kernel_rfl) rfl (by decide) (by kernel_rfl) hO ?_
      refine zcc (f := fun M u hO K hK => by (exact zah hO rfl rfl _ (by exact at4) (by rfl) (by rfl) (hK _ hO))) (h := ?_)
      refine zcp (h := ?_)
      refine J.Chain.nil ⟨?_, ?_⟩
      · refine J.Each.cons (by rfl) ?_ ?_; exact ⟨rfl, fun vs M u hO _ K hK => by ((try simp only [J.putL, zI, zG, zH, J.dstOf, zF, zD, zE, zS, zQ, zR, Act.put, zA, zB, zC]); (try simp only [wp_at_zero, wp_at_succ]); go_step; refine (cd_any h hO).mono ?_; rintro e u ⟨xk2, xi2, xp2, xn2, xc2, xl2, xo2, xe2, Ci2, Cp2, Cn2, Cc2, Cl2, ri2, rp2, rn2, rc2, rl2, F2, rfl, hvs, hb⟩; have hK' := hK _ _ _ (show (J.freshD 22000) _ from ⟨xk2, xi2, xp2, xn2, xc2, xl2, xo2, xe2, Ci2, Cp2, Cn2, Cc2, Cl2, ri2, rp2, rn2, rc2, rl2, F2, rfl, hvs⟩) (hb.perm List.perm_append_comm); clear hK; simp only [J.putL, zI, zG, zH, J.dstOf, zF, zD, zE, zS, zQ, zR, Act.put, zA, zB, zC] at hK'; exact hK')⟩; exact J.Each.nil
      intro vs u hO hF
      obtain ⟨xk2, xi2, xp2, xn2, xc2, xl2, xo2, xe2, Ci2, Cp2, Cn2, Cc2, Cl2, ri2, rp2, rn2, rc2, rl2, F2, h2, hvs⟩ : (J.freshD 22000) (vs 2) := hF 2 (by decide)
      clear hF
      simp only [List.flatMap_cons, List.flatMap_nil, h2, List.append_nil, zL, zK] at hO
      simp only [h2, J.putL, zI, zG, zH, J.dstOf, zF, zD, zE, zS, zQ, zR, Act.put, zA, zB, zC]
      clear h2 vs
      refine J.wpAny_one (i := 3) (by kernel_rfl) (by rfl) rfl fun K hK => ?_
      (refine zas hO rfl rfl _ (by exact at1) rfl (by rfl) (by rfl) (by rfl) (by rfl) (by rfl) ?_; clear hO; intro u hO; simp only [zC, zB] at hO; refine hK _ _ ?_; clear hK K)
      refine J.wpAny_one (i := 4) (by kernel_rfl) (by rfl) rfl fun K hK => ?_
      (refine zas hO rfl rfl _ (by exact at2) rfl (by rfl) (by rfl) (by rfl) (by rfl) (by rfl) ?_; clear hO; intro u hO; simp only [zC, zB] at hO; refine hK _ _ ?_; clear hK K)
      refine wpAny_done (by kernel_rfl) ?_ _
      go_wp2_with (first | (with_reducible refine zao ?_) | fail)
      exact ⟨ret_boxes rfl hO rfl rfl 1 2 at1 at2 rfl rfl rfl ⟨_, F, _, F2, rfl, ⟨⟨xk, xi, xp, xn, xc, xl, xo, xe, Ci, Cp, Cn, Cc, Cl, ri, rp, rn, rc, rl, rfl, hvo, HZ.out⟩, ⟨xk2, xi2, xp2, xn2, xc2, xl2, xo2, xe2, Ci2, Cp2, Cn2, Cc2, Cl2, ri2, rp2, rn2, rc2, rl2, rfl, hvs.1, Nat.le_trans hvs.2 (by decide)⟩⟩, hO.pick [3, 5] (by decide)⟩⟩
  replace tail0 := Lib.hid tail0
  clear hK1
  go_wp2_with fail
  refine (cd_once 4 (by decide) (by decide) h hO).mono ?_
  clear hO
  rintro e u ⟨x, rfl, hO⟩
  cases x with
  | false =>
    go_wp2_with fail
    exact tail0.out _ _ _ _ _ _ _ _ _ _ _ _ _ _ _ _ _ _ _ _ _ _ _ _ _ _ _ _ _ _ _ _ _ _ _ _ _ _ hO
  | true =>
    by_cases m0 : 0 < m
    · have i0 : (0 : Int) < (m : Int) := by omega
      by_cases k4 : xk < 4
      · by_cases k0 : 0 < xk
        · go_upto_region 4 with (first | ((with_reducible refine (CL _).mono ?_); rintro e u ⟨rfl, hb⟩; (replace hO := hO.step hb; clear hb)) | ((with_reducible refine zaa ?_); refine zlb rfl hO rfl _ (by exact at4) ?_) | ((with_reducible refine zaa ?_); refine zlf rfl hO rfl _ (by exact at4) ?_) | fail)
          refine J.wp_region_c (n := 42) [0, 1, 2, 3, 4, 5] [6] (deps := fun i => [[], [], [], [2], [], [4], [1, 2, 3, 4, 5], [], []].getD i []) (fun _ _ => (J.freshAt xk m)) (r := 2) (lst := #[true, true, true, true, true, true, true, false, false]) (by kernel_rfl) (by kernel_rfl) (by kernel_rfl) rfl (by decide) (by kernel_rfl) hO ?_
          refine zcc (f := fun M u hO K hK => by (exact zah hO rfl rfl _ (by exact at4) (by rfl) (by rfl) (hK _ hO))) (h := ?_)
          refine zcp (h := ?_)
          refine zcp (h := ?_)
          refine zcc (f := fun M u hO K hK => by (exact zad hO rfl rfl _ (by exact at4) (by rfl) (by rfl) (hK _ hO))) (h := ?_)
          refine zcc (f := fun M u hO K hK => by (exact zah hO rfl rfl _ (by exact at4) (by rfl) (by rfl) (hK _ hO))) (h := ?_)
          refine zcc (f := fun M u hO K hK => by (simp only [wp_at_zero, wp_at_succ]; go_step; refine (CL _).mono ?_; rintro e u ⟨rfl, hb⟩; exact hK _ (hO.step hb))) (h := ?_)
          refine J.Chain.nil ⟨?_, ?_⟩
          · refine J.Each.cons (by rfl) ?_ ?_; exact ⟨rfl, fun vs M u hO _ K hK => by ((try simp only [J.putL, zI, zG, zH, J.dstOf, zF, zD, zE, zS, zQ, zR, Act.put, zA, zB, zC]); (try simp only [wp_at_zero, wp_at_succ]); go_step; refine (cd_atom xk m (by omega) h hO).mono ?_; rintro e u ⟨is, A', c', rfl, hI, hb⟩; have hK' := hK _ _ _ (show (J.freshAt xk m) _ from ⟨is, A', c', rfl, hI⟩) (hb.perm List.perm_append_comm); clear hK; simp only [J.putL, zI, zG, zH, J.dstOf, zF, zD, zE, zS, zQ, zR, Act.put, zA, zB, zC] at hK'; exact hK')⟩; exact J.Each.nil
          intro vs u hO hF
          obtain ⟨is, A', c', h6, hI⟩ : (J.freshAt xk m) (vs 6) := hF 6 (by decide)
          clear hF
          simp only [List.flatMap_cons, List.flatMap_nil, h6, List.append_nil, zL, zK] at hO
          simp only [h6, J.putL, zI, zG, zH, J.dstOf, zF, zD, zE, zS, zQ, zR, Act.put, zA, zB, zC]
          clear h6 vs
          refine J.wpAny_one (i := 7) (by kernel_rfl) (by rfl) rfl fun K hK => ?_
          (refine zas hO rfl rfl _ (by exact at1) rfl (by rfl) (by rfl) (by rfl) (by rfl) (by rfl) ?_; clear hO; intro u hO; simp only [zC, zB] at hO; refine hK _ _ ?_; clear hK K)
          refine J.wpAny_one (i := 8) (by kernel_rfl) (by rfl) rfl fun K hK => ?_
          (refine zas hO rfl rfl _ (by exact at2) rfl (by rfl) (by rfl) (by rfl) (by rfl) (by rfl) ?_; clear hO; intro u hO; simp only [zC, zB] at hO; refine hK _ _ ?_; clear hK K)
          refine wpAny_done (by kernel_rfl) ?_ _
          go_wp2_with (first | (with_reducible refine zao ?_) | fail)
          replace hO := hO.pick [5, 0, 1, 2, 3, 4] (by decide)
          simp only [zN, zO, zE, zD] at hO
          obtain ⟨F2, hd, hO⟩ := Own.atomV xk hI.1 hI.2 hO
          exact ⟨ret_boxes rfl hO rfl rfl 2 3 at2 at3 rfl rfl rfl ⟨_, F, _, F2, rfl, ⟨⟨xk, xi, xp, xn, xc, xl, xo, xe, Ci, Cp, Cn, Cc, Cl, ri, rp, rn, rc, rl, rfl, hvo, HZ.out⟩, hd.mono (by omega)⟩, hO.pick [4, 0] (by decide)⟩⟩
        · go_wp2_with (first | ((with_reducible refine (CL _).mono ?_); rintro e u ⟨rfl, hb⟩; (replace hO := hO.step hb; clear hb)) | ((with_reducible refine zaa ?_); refine zlb rfl hO rfl _ (by exact at4) ?_) | ((with_reducible refine zaa ?_); refine zlf rfl hO rfl _ (by exact at4) ?_) | fail)
          exact tail0.out _ _ _ _ _ _ _ _ _ _ _ _ _ _ _ _ _ _ _ _ _ _ _ _ _ _ _ _ _ _ _ _ _ _ _ _ _ _ hO
      · go_wp2_with (first | ((with_reducible refine (CL _).mono ?_); rintro e u ⟨rfl, hb⟩; (replace hO := hO.step hb; clear hb)) | ((with_reducible refine zaa ?_); refine zlb rfl hO rfl _ (by exact at4) ?_) | ((with_reducible refine zaa ?_); refine zlf rfl hO rfl _ (by exact at4) ?_) | fail)
        exact tail0.out _ _ _ _ _ _ _ _ _ _ _ _ _ _ _ _ _ _ _ _ _ _ _ _ _ _ _ _ _ _ _ _ _ _ _ _ _ _ hO
    · have i0 : ¬ (0 : Int) < (m : Int) := by omega
      go_wp2_with (first | ((with_reducible refine (CL _).mono ?_); rintro e u ⟨rfl, hb⟩; (replace hO := hO.step hb; clear hb)) | ((with_reducible refine zaa ?_); refine zlb rfl hO rfl _ (by exact at4) ?_) | fail)
      exact tail0.out _ _ _ _ _ _ _ _ _ _ _ _ _ _ _ _ _ _ _ _ _ _ _ _ _ _ _ _ _ _ _ _ _ _ _ _ _ _ hO

set_option maxRecDepth 20000 in
set_option maxHeartbeats 4000000 in
theorem dw_eq (A : Option Addr) (n c : Nat) (l : List Int) (w : World) (h : Cod w A n l) : Calls Try.prog 52 #[.slice A n c] w (RetDD w) := by
  go_enter Try.func52, Try.ntmps52
  have hO := Own.nil w
  go_wp2_with (first | ((with_reducible refine zac ?_); refine zal rfl hO rfl ?_; (first | (refine nm 0 rfl ?_; clear hO; intro b0 u hO) | (refine nm 1 rfl ?_; clear hO; intro b1 u hO) | fail); simp only [zL, zK] at hO) | fail)
  refine (dw_two A n c l _ (h.below hO.below)).mono ?_
  rintro e u ⟨v, F, v', F', rfl, ⟨⟨xk, xi, xp, xn, xc, xl, xo, xe, Ci, Cp, Cn, Cc, Cl, ri, rp, rn, rc, rl, rfl, hd⟩, ⟨xk2, xi2, xp2, xn2, xc2, xl2, xo2, xe2, Ci2, Cp2, Cn2, Cc2, Cl2, ri2, rp2, rn2, rc2, rl2, rfl, hd2⟩⟩, hb⟩
  replace hO := hO.call hb
  simp only [List.cons_append, List.nil_append] at hO
  have HD := Lib.hid (And.intro hd hd2)
  clear hb hd hd2
  go_upto_region 2 with (first | ((with_reducible refine zac ?_); refine zal rfl hO rfl ?_; (first | (refine nm 4 rfl ?_; clear hO; intro b4 u hO) | (refine nm 5 rfl ?_; clear hO; intro b5 u hO) | fail); simp only [zL, zK] at hO) | ((with_reducible refine zab ?_); refine zsc rfl hO rfl _ (by (first | exact at4 | exact at5 | fail)) ?_; clear hO; intro u hO; simp only [zC, zB] at hO) | fail)
  refine wp_region_any (by kernel_rfl) ?_
  try (change wpAny _ _ _ _ _ _ _ (World.drew _))
  replace hO := hO.drew
  revert hO
  generalize World.drew _ = u
  intro hO
  refine wpAny_ready (rs := [0, 1]) (by kernel_rfl) (by simp) ?_
  refine AllReady.cons rfl (fun K hK => ?_) (AllReady.cons rfl (fun K hK => ?_) (AllReady.nil))
  · rw [if_pos (by rfl)]
    (refine zah hO rfl rfl _ (by exact at4) (by rfl) (by simp only [J.putL, zI, zG, zH, J.dstOf, zF, zD, zE, zS, zQ, zR, Act.put, zA, zB, zC]; rfl) (hK _ _ ?_); clear hK K)
    refine wpAny_ready (rs := [1, 2]) (by kernel_rfl) (by simp) ?_
    refine AllReady.cons rfl (fun K hK => ?_) (AllReady.cons rfl (fun K hK => ?_) (AllReady.nil))
    · rw [if_pos (by rfl)]
      (refine zah hO rfl rfl _ (by exact at5) (by rfl) (by simp only [J.putL, zI, zG, zH, J.dstOf, zF, zD, zE, zS, zQ, zR, Act.put, zA, zB, zC]; rfl) (hK _ _ ?_); clear hK K)
      refine J.wpAny_one (i := 2) (by kernel_rfl) (by rfl) rfl fun K hK => ?_
      (refine zas hO rfl rfl _ (by exact at2) rfl (by rfl) (by rfl) (by rfl) (by rfl) (by rfl) ?_; clear hO; intro u hO; simp only [zC, zB] at hO; refine hK _ _ ?_; clear hK K)
      refine J.wpAny_one (i := 3) (by kernel_rfl) (by rfl) rfl fun K hK => ?_
      (refine zas hO rfl rfl _ (by exact at3) rfl (by rfl) (by rfl) (by rfl) (by rfl) (by rfl) ?_; clear hO; intro u hO; simp only [zC, zB] at hO; refine hK _ _ ?_; clear hK K)
      refine wpAny_done (by kernel_rfl) ?_ _
      go_wp2_with (first | (with_reducible refine zao ?_) | fail)
      exact ⟨ret_boxes rfl hO rfl rfl 2 3 at2 at3 rfl rfl rfl ⟨_, F, _, F', rfl, ⟨⟨xk, xi, xp, xn, xc, xl, xo, xe, Ci, Cp, Cn, Cc, Cl, ri, rp, rn, rc, rl, rfl, HD.out.1⟩, ⟨xk2, xi2, xp2, xn2, xc2, xl2, xo2, xe2, Ci2, Cp2, Cn2, Cc2, Cl2, ri2, rp2, rn2, rc2, rl2, rfl, HD.out.2⟩⟩, hO.pick [0, 1] (by decide)⟩⟩
    · rw [if_pos (by rfl)]
      (refine zas hO rfl rfl _ (by exact at2) rfl (by rfl) (by rfl) (by rfl) (by rfl) (by rfl) ?_; clear hO; intro u hO; simp only [zC, zB] at hO; refine hK _ _ ?_; clear hK K)
      refine J.wpAny_one (i := 1) (by kernel_rfl) (by rfl) rfl fun K hK => ?_
      (refine zah hO rfl rfl _ (by exact at5) (by rfl) (by simp only [J.putL, zI, zG, zH, J.dstOf, zF, zD, zE, zS, zQ, zR, Act.put, zA, zB, zC]; rfl) (hK _ _ ?_); clear hK K)
      refine J.wpAny_one (i := 3) (by kernel_rfl) (by rfl) rfl fun K hK => ?_
      (refine zas hO rfl rfl _ (by exact at3) rfl (by rfl) (by rfl) (by rfl) (by rfl) (by rfl) ?_; clear hO; intro u hO; simp only [zC, zB] at hO; refine hK _ _ ?_; clear hK K)
      refine wpAny_done (by kernel_rfl) ?_ _
      go_wp2_with (first | (with_reducible refine zao ?_) | fail)
      exact ⟨ret_boxes rfl hO rfl rfl 2 3 at2 at3 rfl rfl rfl ⟨_, F, _, F', rfl, ⟨⟨xk, xi, xp, xn, xc, xl, xo, xe, Ci, Cp, Cn, Cc, Cl, ri, rp, rn, rc, rl, rfl, HD.out.1⟩, ⟨xk2, xi2, xp2, xn2, xc2, xl2, xo2, xe2, Ci2, Cp2, Cn2, Cc2, Cl2, ri2, rp2, rn2, rc2, rl2, rfl, HD.out.2⟩⟩, hO.pick [0, 1] (by decide)⟩⟩
  · rw [if_pos (by rfl)]
    (refine zah hO rfl rfl _ (by exact at5) (by rfl) (by simp only [J.putL, zI, zG, zH, J.dstOf, zF, zD, zE, zS, zQ, zR, Act.put, zA, zB, zC]; rfl) (hK _ _ ?_); clear hK K)
    refine J.wpAny_one (i := 0) (by kernel_rfl) (by rfl) rfl fun K hK => ?_
    (refine zah hO rfl rfl _ (by exact at4) (by rfl) (by simp only [J.putL, zI, zG, zH, J.dstOf, zF, zD, zE, zS, zQ, zR, Act.put, zA, zB, zC]; rfl) (hK _ _ ?_); clear hK K)
    refine J.wpAny_one (i := 2) (by kernel_rfl) (by rfl) rfl fun K hK => ?_
    (refine zas hO rfl rfl _ (by exact at2) rfl (by rfl) (by rfl) (by rfl) (by rfl) (by rfl) ?_; clear hO; intro u hO; simp only [zC, zB] at hO; refine hK _ _ ?_; clear hK K)
    refine J.wpAny_one (i := 3) (by kernel_rfl) (by rfl) rfl fun K hK => ?_
    (refine zas hO rfl rfl _ (by exact at3) rfl (by rfl) (by rfl) (by rfl) (by rfl) (by rfl) ?_; clear hO; intro u hO; simp only [zC, zB] at hO; refine hK _ _ ?_; clear hK K)
    refine wpAny_done (by kernel_rfl) ?_ _
    go_wp2_with (first | (with_reducible refine zao ?_) | fail)
    exact ⟨ret_boxes rfl hO rfl rfl 2 3 at2 at3 rfl rfl rfl ⟨_, F, _, F', rfl, ⟨⟨xk, xi, xp, xn, xc, xl, xo, xe, Ci, Cp, Cn, Cc, Cl, ri, rp, rn, rc, rl, rfl, HD.out.1⟩, ⟨xk2, xi2, xp2, xn2, xc2, xl2, xo2, xe2, Ci2, Cp2, Cn2, Cc2, Cl2, ri2, rp2, rn2, rc2, rl2, rfl, HD.out.2⟩⟩, hO.pick [0, 1] (by decide)⟩⟩

def RetDV (w : World) (e : Ending) (w' : World) : Prop := ∃ v F, e = .returned v ∧ DVec 22000 v F ∧ Own w [pack F] w'

set_option maxRecDepth 20000 in
set_option maxHeartbeats 4000000 in
theorem dw_fmt (A : Option Addr) (n c : Nat) (l : List Int) (w : World) (h : Cod w A n l) : Calls Try.prog 53 #[.slice A n c] w (RetDV w) := by
  go_enter Try.func53, Try.ntmps53
  have hO := Own.nil w
  go_wp2_with (first | ((with_reducible refine zac ?_); refine zal rfl hO rfl ?_; (refine nm 0 rfl ?_; clear hO; intro b0 u hO); simp only [zL, zK] at hO) | fail)
  refine (draw_new A n c l _ (h.below hO.below)).mono ?_
  rintro e u ⟨b, rfl, i, z, hi, hb⟩
  have hC := hO.call hb
  simp only [List.cons_append, List.nil_append] at hC
  clear hO hb
  have hO := Rd.cur ⟨i, z, hi, hC⟩
  clear hC hi i z
  go_wp2_with fail
  refine (cd_any h hO).mono ?_
  clear hO
  rintro e u ⟨xk, xi, xp, xn, xc, xl, xo, xe, Ci, Cp, Cn, Cc, Cl, ri, rp, rn, rc, rl, F, rfl, ⟨hvo, hsz⟩, hO⟩
  simp only [List.cons_append, List.nil_append] at hO
  go_wp2_with (first | (with_reducible refine zao ?_) | ((with_reducible refine zab ?_); refine zsc rfl hO rfl _ (by exact at2) ?_; clear hO; intro u hO; simp only [zC, zB] at hO) | fail)
  exact ⟨zan rfl hO rfl 2 at2 rfl rfl ⟨_, F, rfl, ⟨xk, xi, xp, xn, xc, xl, xo, xe, Ci, Cp, Cn, Cc, Cl, ri, rp, rn, rc, rl, rfl, hvo, hsz⟩, hO.pick [0] (by decide)⟩⟩

end Go.Proofs.Ytmofcbpabdbjlaa
