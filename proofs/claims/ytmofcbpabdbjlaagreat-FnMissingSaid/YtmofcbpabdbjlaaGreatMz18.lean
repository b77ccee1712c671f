/-
  What is proved: what the reference's reader of vectors, valid or not, returns (l4Any); what l4Copy makes of any vector.
  Condition: codes of at most 1048576 bytes.
-/
import Derived.Test.YtmofcbpabdbjlaaGreatMz4
import Derived.Test.YtmofcbpabdbjlaaGreatMz17
namespace Go.Proofs.YtmofcbpabdbjlaaGreat

set_option maxRecDepth 8000

open Go.RowKit Go.ChangeShapes Go.WideShapes Go.Deep

set_option linter.unusedVariables false

set_option linter.unusedSimpArgs false

theorem VO.reK {xk xo xe : Int} {xi : List It} {xp : List VT} {xn xc xl : List ByteArray} {Ci Cp Cn Cc Cl : Option Addr} {ri rp rn rc rl : Nat} {F : List Res} (h : VO (.mk xk xi xp xn xc xl xo xe) [.int .i64 xk, .slice Ci xi.length ri, .slice Cp xp.length rp, .slice Cn xn.length rn, .slice Cc xc.length rc, .slice Cl xl.length rl, .int .i64 xo, .int .i64 xe] F) (k' c' : Int) :
    VO (.mk k' xi xp xn xc xl c' xe) [.int .i64 k', .slice Ci xi.length ri, .slice Cp xp.length rp, .slice Cn xn.length rn, .slice Cc xc.length rc, .slice Cl xl.length rl, .int .i64 c', .int .i64 xe] F := by
  obtain ⟨Ai, Ap, An, Ac, Al, ci, cp, cn, cc, cl, pvs, Ls, e, rfl, hVL⟩ := h.open
  simp only [List.cons.injEq, Value.slice.injEq, and_true, true_and] at e
  obtain ⟨⟨rfl, rfl⟩, ⟨rfl, rfl⟩, ⟨rfl, rfl⟩, ⟨rfl, rfl⟩, ⟨rfl, rfl⟩⟩ := e
  exact VO.close hVL

def J.freshIt : Value × List Res → Prop := fun x => ∃ (p q : Int) (t : ByteArray), x = (.agg #[.int .i64 p, .int .i64 q, .string t], []) ∧ t.size ≤ 24

def pkA : List Int := [-1, 6, 0, 3, 1, -9223372036854775808]

def zzS : ByteArray := ⟨#[122]⟩

def aaL : List ByteArray := [⟨#[97]⟩, ⟨#[97]⟩]

set_option maxRecDepth 20000 in
set_option maxHeartbeats 8000000 in
theorem cd_anyA {w0 : World} {A : Option Addr} {n c b : Nat} {l : List Int} (h : Cod w0 A n l) (r : Res) (w : World) (hO : Own w0 [cur b A n c, r] w) :
    Calls Tryz.prog 46 #[.pointer (some ⟨b, 0, none⟩)] w (RetD w0 22000 [cur b A n c, r]) := by
  skip
  go_enter Tryz.func46, Tryz.ntmps46
  go_wp2_with (first | ((with_reducible refine zac ?_); refine zal rfl hO rfl ?_; (refine nm 2 rfl ?_; clear hO; intro b2 u hO); simp only [zL, zK] at hO) | fail)
  refine (cd_draw h 2 (by decide) _ _ hO).mono ?_
  clear hO
  rintro e u ⟨xk, xi, xp, xn, xc, xl, xo, xe, Ci, Cp, Cn, Cc, Cl, ri, rp, rn, rc, rl, F, rfl, ⟨hvo, hsz⟩, hO⟩
  simp only [List.cons_append, List.nil_append] at hO
  have hsz' : szV (.mk xk xi xp xn xc xl xo xe) ≤ 21542 := hsz
  have HT : szV (.mk xk xi xp xn xc xl xo xe) = szI xi + szL xp + szS xn + szS xc + szS xl := rfl
  have HZ := Lib.hid (show szI xi + szL xp + szS xn + szS xc + szS xl ≤ 21542 by omega)
  have zi : xi.length ≤ 30000 := by have h1 := HZ.out; unfold szI at h1; omega
  have zn : xn.length ≤ 30000 := by have h1 := HZ.out; unfold szS at h1; omega
  clear hsz hsz' HT
  go_wp2_with (first | ((with_reducible refine zac ?_); refine zal rfl hO rfl ?_; (refine nm 4 rfl ?_; clear hO; intro b4 u hO); simp only [zL, zK] at hO) | ((with_reducible refine zab ?_); refine zsc rfl hO rfl _ (by exact at4) ?_; clear hO; intro u hO; simp only [zC, zB] at hO) | fail)
  replace hO := hO.pick [1, 2, 3, 4, 0] (by decide)
  simp only [zN, zO, zE, zD] at hO
  refine (cd_below 30 (by decide) (by decide) h hO).mono ?_
  clear hO
  rintro e u ⟨x, rfl, hx, hO⟩
  by_cases x0 : x = 0
  · subst x0
    go_wp2_with (first | ((with_reducible refine zao ?_); refine zaj (cs := [.int .i64 (-1), .int .i64 (6), .int .i64 (0), .int .i64 (3), .int .i64 (1), .int .i64 (-9223372036854775808)]) hO rfl (by rfl) [.int .i64 (-1), .int .i64 (6), .int .i64 (0), .int .i64 (3), .int .i64 (1), .int .i64 (-9223372036854775808)] (by rfl) (by rfl) rfl (zM rfl) (by rfl) rfl (fun b => by simp only [Act.put, zA, zB, zC]; rfl) ?_; clear hO; intro bb u hO; simp only [zL, zK] at hO) | fail)
    refine (cd_pickInt pkA 6 rfl (by decide) (by decide) (List.mem_of_getElem? at4) h hO).mono ?_
    clear hO
    rintro e u ⟨y, rfl, hy, hO⟩
    go_wp2_with (first | (with_reducible refine zaq ?_) | ((with_reducible refine zaa ?_); refine zlb rfl hO rfl _ (by exact at3) ?_) | ((with_reducible refine zab ?_); refine zsc rfl hO rfl _ (by exact at2) ?_; clear hO; intro u hO; simp only [zC, zB] at hO) | ((with_reducible refine zab ?_); refine zsf rfl hO rfl _ (by exact at3) (zM rfl) ?_; clear hO; intro u hO; simp only [zC, zB] at hO) | fail)
    exact ⟨zan rfl hO rfl 2 at2 rfl rfl ⟨y, xi, xp, xn, xc, xl, xo, xe, _, _, _, _, _, _, _, _, _, _, F, rfl, ⟨hvo.reK y xo, by have h1 := HZ.out; show szI xi + szL xp + szS xn + szS xc + szS xl ≤ 22000; omega⟩, hO.pick [4, 0, 1] (by decide)⟩⟩
  by_cases x1 : x = 1
  · subst x1
    replace hO := hO.pick [4, 0, 1, 2, 3] (by decide)
    simp only [zN, zO, zE, zD] at hO
    obtain ⟨pvs, Ls, hvl, hO⟩ := Own.openV hO hvo
    replace hO := hO.pick [6, 7, 8, 9, 0, 1, 2, 3, 4, 5] (by decide)
    simp only [zN, zO, zE, zD] at hO
    go_wp2_with (first | (with_reducible refine zaq ?_) | ((with_reducible refine zaa ?_); refine zlb rfl hO rfl _ (by exact at3) ?_) | ((with_reducible refine zaa ?_); refine zlf rfl hO rfl _ (by exact at3) ?_) | ((with_reducible refine zab ?_); refine zsc rfl hO rfl _ (by exact at2) ?_; clear hO; intro u hO; simp only [zC, zB] at hO) | ((with_reducible refine zab ?_); refine zsf rfl hO rfl _ (by exact at3) (zM rfl) ?_; clear hO; intro u hO; simp only [zC, zB] at hO) | ((with_reducible refine zao ?_); refine zaj (cs := [.string ⟨#[122]⟩]) hO rfl (by rfl) [.string ⟨#[122]⟩] (by rfl) (by rfl) rfl (zM rfl) (by rfl) rfl (fun b => by simp only [Act.put, zA, zB, zC]; rfl) ?_; clear hO; intro bb u hO; simp only [zL, zK] at hO) | ((with_reducible refine za2 ?_); refine zav hO rfl (by rfl) rfl rfl _ (by exact at6) _ (by exact at10) (by rfl) (by simp [Value.oneCell']) (by omega) (by omega) rfl (fun A' c' => by simp only [Act.put, zA, zB, zC]; rfl) ?_; clear hO; intro A' c' u hO; simp only [zC, zB] at hO) | fail)
    have e : (xn ++ [zzS]).length = xn.length + 1 := by simp
    refine ⟨zan rfl hO rfl 2 at2 rfl rfl ?_⟩
    rw [show stc xn ++ [.string ⟨#[122]⟩] = stc (xn ++ [zzS]) from by rw [stc_app]; rfl, ← e] at hO
    rw [← e]
    have hz : szS (xn ++ [zzS]) = szS xn + 2 := by
      unfold szS
      rw [stz_app, e]
      show xn.length + 1 + (stz xn + (1 + 0)) = _
      omega
    exact ⟨xk, xi, xp, xn ++ [zzS], xc, xl, xo, xe, _, _, _, _, _, _, _, _, _, _, _, rfl, ⟨VO.close hvl, by have h1 := HZ.out; show szI xi + szL xp + szS (xn ++ [zzS]) + szS xc + szS xl ≤ 22000; omega⟩, Own.packs' [_, _, _, _, _] (hO.pick [4, 5, 6, 7, 8, 9, 0, 1] (by decide))⟩
  by_cases x2 : x = 2
  · subst x2
    replace hO := hO.pick [4, 0, 1, 2, 3] (by decide)
    simp only [zN, zO, zE, zD] at hO
    obtain ⟨pvs, Ls, hvl, hO⟩ := Own.openV hO hvo
    replace hO := hO.pick [6, 7, 8, 9, 0, 1, 2, 3, 4, 5] (by decide)
    simp only [zN, zO, zE, zD] at hO
    go_upto_region 8 with fail
    refine J.wp_region_c (n := 42) [0, 1, 2] [3, 4] (deps := fun i => [[], [0], [], [2], [2, 3], [], [], []].getD i []) (fun i d => [fun _ => True, fun _ => True, fun _ => True, (J.freshIt), (J.freshS 35 ((d 3).1.cells.toList)), fun _ => True, fun _ => True, fun _ => True].getD i (fun _ => True)) (r := 3) (lst := #[true, true, true, true, true, false, false, false]) (by kernel_rfl) (by kernel_rfl) (by kernel_rfl) rfl (by decide) (by kernel_rfl) hO ?_
    refine zcp (h := ?_)
    refine zcc (f := fun M u hO K hK => by (exact zae hO rfl rfl _ (by exact at3) (by rfl) (by rfl) (hK _ hO))) (h := ?_)
    refine zcp (h := ?_)
    refine J.Chain.nil ⟨?_, ?_⟩
    · refine J.Each.cons (by rfl) ?_ ?_; exact ⟨rfl, fun vs M u hO _ K hK => by ((try simp only [J.putL, zI, zG, zH, J.dstOf, zF, zD, zE, zS, zQ, zR, Act.put, zA, zB, zC]); (try simp only [wp_at_zero, wp_at_succ]); go_step; refine (cd_itemAny h hO).mono ?_; rintro e u ⟨p, q, t, rfl, ht, hb⟩; have hK' := hK _ _ _ (show (J.freshIt) _ from ⟨p, q, t, rfl, ht⟩) (hb.perm List.perm_append_comm); clear hK; simp only [J.putL, zI, zG, zH, J.dstOf, zF, zD, zE, zS, zQ, zR, Act.put, zA, zB, zC] at hK'; exact hK')⟩; refine J.Each.cons (by rfl) ?_ ?_; exact ⟨rfl, fun vs M u hO hF K hK => by (obtain ⟨p, q, t, e3, ht⟩ := (hF 3 (by decide) (by decide)).1; refine za4 (cs := [.int .i64 p, .int .i64 q, .string t]) hO rfl (by simp only [Act.eval, zJ, zP, J.putL, zI, zG, zH, J.dstOf, zF, zD, zE, zS, zQ, zR, Act.put, zA, zB, zC, e3]; rfl) rfl rfl (zM rfl) rfl fun b u hO => ?_; exact hK _ _ _ (show J.freshS 35 ((vs 3).1.cells.toList) _ from ⟨b, by rw [e3]; rfl⟩) hO)⟩; exact J.Each.nil
    intro vs u hO hF
    obtain ⟨p, q, t, h3, ht⟩ : (J.freshIt) (vs 3) := hF 3 (by decide)
    have q4 : J.freshS 35 ((vs 3).1.cells.toList) (vs 4) := hF 4 (by decide)
    rw [h3] at q4
    obtain ⟨y4, h4⟩ : J.freshS 35 [.int .i64 p, .int .i64 q, .string t] (vs 4) := q4
    clear hF
    simp only [List.flatMap_cons, List.flatMap_nil, h3, h4, List.append_nil, zL, zK] at hO
    simp only [h3, h4, J.putL, zI, zG, zH, J.dstOf, zF, zD, zE, zS, zQ, zR, Act.put, zA, zB, zC]
    clear h3 h4 vs
    refine J.wpAny_one (i := 5) (by kernel_rfl) (by rfl) rfl fun K hK => ?_
    refine za3 hO rfl rfl rfl _ (by exact at4) _ (by exact at10) (by rfl) (by simp [Value.oneCell']) (by omega) (by omega) rfl ?_
    clear hO
    intro A' c' u hO
    simp only [zC, zB] at hO
    simp only [Act.put, zA, zB, zC]
    refine hK _ _ ?_
    clear hK K
    refine J.wpAny_one (i := 6) (by kernel_rfl) (by rfl) rfl fun K hK => ?_
    simp only [wp_at_zero, wp_at_succ]
    go_step
    refine hK _ _ ?_
    clear hK K
    refine J.wpAny_one (i := 7) (by kernel_rfl) (by rfl) rfl fun K hK => ?_
    (refine za1 hO rfl rfl _ (by exact at3) (zM rfl) (by simp only [Act.eval, zJ, zF, zD, zE, zP]; rfl) (by rfl) (by rfl) (by rfl) ?_; clear hO; intro u hO; simp only [zC, zB] at hO; refine hK _ _ ?_; clear hK K)
    refine wpAny_done (by kernel_rfl) ?_ _
    go_wp2_with (first | (with_reducible refine zaq ?_) | ((with_reducible refine zaa ?_); refine zlb rfl hO rfl _ (by exact at3) ?_) | ((with_reducible refine zab ?_); refine zsc rfl hO rfl _ (by exact at2) ?_; clear hO; intro u hO; simp only [zC, zB] at hO) | fail)
    have e : (xi ++ [(⟨p, q, t⟩ : It)]).length = xi.length + 1 := by simp
    refine ⟨zan rfl hO rfl 2 at2 rfl rfl ?_⟩
    rw [show itc xi ++ [.int .i64 p, .int .i64 q, .string t] = itc (xi ++ [(⟨p, q, t⟩ : It)]) from by rw [itc_app]; rfl, ← e] at hO
    rw [← e]
    have hz : szI (xi ++ [(⟨p, q, t⟩ : It)]) ≤ szI xi + 25 := by
      have app : ∀ a b : List It, itz (a ++ b) = itz a + itz b := fun a b => by
        induction a with
        | nil => simp [itz]
        | cons x a ih => simp [itz, ih, Nat.add_assoc]
      unfold szI
      rw [app, e]
      show xi.length + 1 + (itz xi + (t.size + 0)) ≤ _
      omega
    exact ⟨xk, xi ++ [(⟨p, q, t⟩ : It)], xp, xn, xc, xl, xo, xe, _, _, _, _, _, _, _, _, _, _, _, rfl, ⟨VO.close hvl, by have h1 := HZ.out; show szI (xi ++ [(⟨p, q, t⟩ : It)]) + szL xp + szS xn + szS xc + szS xl ≤ 22000; omega⟩, Own.packs' [_, _, _, _, _] (hO.pick [4, 5, 6, 7, 8, 9, 0, 1] (by decide))⟩
  by_cases x3 : x = 3
  · subst x3
    replace hO := hO.pick [4, 0, 1, 2, 3] (by decide)
    simp only [zN, zO, zE, zD] at hO
    obtain ⟨pvs, Ls, hvl, hO⟩ := Own.openV hO hvo
    replace hO := hO.pick [6, 7, 8, 9, 0, 1, 2, 3, 4, 5] (by decide)
    simp only [zN, zO, zE, zD] at hO
    go_wp2_with (first | (with_reducible refine zaq ?_) | ((with_reducible refine zaa ?_); refine zlb rfl hO rfl _ (by exact at3) ?_) | ((with_reducible refine zab ?_); refine zsc rfl hO rfl _ (by exact at2) ?_; clear hO; intro u hO; simp only [zC, zB] at hO) | ((with_reducible refine zab ?_); refine zsf rfl hO rfl _ (by exact at3) (zM rfl) ?_; clear hO; intro u hO; simp only [zC, zB] at hO) | ((with_reducible refine zao ?_); refine zaj (cs := [.string ⟨#[97]⟩, .string ⟨#[97]⟩]) hO rfl (by rfl) [.string ⟨#[97]⟩, .string ⟨#[97]⟩] (by rfl) (by rfl) rfl (zM rfl) (by rfl) rfl (fun b => by simp only [Act.put, zA, zB, zC]; rfl) ?_; clear hO; intro bb u hO; simp only [zL, zK] at hO) | fail)
    refine ⟨zan rfl hO rfl 2 at2 rfl rfl ?_⟩
    replace hO := hO.front 10 rfl
    simp only [List.eraseIdx_cons_zero, List.eraseIdx_cons_succ] at hO
    replace hO := hO.box_cut 1 2 2 rfl (Nat.le_refl _) (by decide)
    exact ⟨xk, xi, xp, xn, xc, aaL, xo, xe, _, _, _, _, _, _, _, _, _, _, _, rfl, ⟨VO.close hvl, by have h1 := HZ.out; have h2 : szS aaL = 4 := rfl; show szI xi + szL xp + szS xn + szS xc + szS aaL ≤ 22000; omega⟩, Own.packs' [_, _, _, _, _] (hO.pick [5, 6, 7, 8, 0, 10, 1, 2] (by decide))⟩
  by_cases x4 : x = 4
  · subst x4
    go_wp2_with (first | (with_reducible refine zaq ?_) | ((with_reducible refine zaa ?_); refine zlb rfl hO rfl _ (by exact at3) ?_) | ((with_reducible refine zab ?_); refine zsc rfl hO rfl _ (by exact at2) ?_; clear hO; intro u hO; simp only [zC, zB] at hO) | ((with_reducible refine zab ?_); refine zsf rfl hO rfl _ (by exact at3) (zM rfl) ?_; clear hO; intro u hO; simp only [zC, zB] at hO) | fail)
    exact ⟨zan rfl hO rfl 2 at2 rfl rfl ⟨xk, xi, xp, xn, xc, xl, 1, xe, _, _, _, _, _, _, _, _, _, _, F, rfl, ⟨hvo.reK xk 1, by have h1 := HZ.out; show szI xi + szL xp + szS xn + szS xc + szS xl ≤ 22000; omega⟩, hO.pick [4, 0, 1] (by decide)⟩⟩
  by_cases x5 : x = 5
  · subst x5
    go_wp2_with fail
    refine (cd_atom 2 41 (by omega) h hO).mono ?_
    clear hO
    rintro e u ⟨is, A', c', rfl, ⟨f1, f2⟩, hO⟩
    have g1 := szI_bd f1 f2
    clear f2
    simp only [List.cons_append, List.nil_append] at hO
    go_wp2_with (first | (with_reducible refine zaq ?_) | ((with_reducible refine zaa ?_); refine zlb rfl hO rfl _ (by exact at4) ?_) | ((with_reducible refine zab ?_); refine zsc rfl hO rfl _ (by (first | exact at3 | exact at4 | fail)) ?_; clear hO; intro u hO; simp only [zC, zB] at hO) | fail)
    refine ⟨zan rfl hO rfl 3 at3 rfl rfl ?_⟩
    rw [← f1] at hO ⊢
    have hR := (((hO.addNil 28 8).addNil 9 1).addNil 9 1).addNil 9 1
    have hR2 := Own.pack (F := [_, _, _, _, _]) (L := [_, _]) (hR.pick [0, 6, 7, 8, 9, 1, 2] (by decide))
    exact ⟨2, is, [], [], [], [], 0, 0, _, _, _, _, _, _, _, _, _, _, _, rfl, ⟨VO.close VL.nil, by show szI is + 0 + 0 + 0 + 0 ≤ 22000; omega⟩, hR2⟩
  · have q0 : ((x : Int) == 0) = false := by simp; omega
    have q1 : ((x : Int) == 1) = false := by simp; omega
    have q2 : ((x : Int) == 2) = false := by simp; omega
    have q3 : ((x : Int) == 3) = false := by simp; omega
    have q4 : ((x : Int) == 4) = false := by simp; omega
    have q5 : ((x : Int) == 5) = false := by simp; omega
    clear x0 x1 x2 x3 x4 x5
    go_wp2_with (first | (with_reducible refine zaq ?_) | ((with_reducible refine zaa ?_); refine zlb rfl hO rfl _ (by exact at3) ?_) | ((with_reducible refine zab ?_); refine zsc rfl hO rfl _ (by exact at2) ?_; clear hO; intro u hO; simp only [zC, zB] at hO) | fail)
    exact ⟨zan rfl hO rfl 2 at2 rfl rfl ⟨xk, xi, xp, xn, xc, xl, xo, xe, _, _, _, _, _, _, _, _, _, _, F, rfl, ⟨hvo, by have h1 := HZ.out; show szI xi + szL xp + szS xn + szS xc + szS xl ≤ 22000; omega⟩, hO.pick [4, 0, 1] (by decide)⟩⟩

theorem cd_any {w0 w : World} {A : Option Addr} {n c b : Nat} {l : List Int} {R : List Res} (h : Cod w0 A n l) (hO : Own w0 (cur b A n c :: R) w) :
    Calls Tryz.prog 46 #[.pointer (some ⟨b, 0, none⟩)] w (RetD w0 22000 (cur b A n c :: R)) :=
  (cd_anyA h (pack R) w hO.pkR).mono fun e w' h => h.un

theorem copP_sz (p : VT) : szV (copP p) ≤ szV p := by
  unfold copP
  split
  · exact Nat.le_refl _
  · exact Nat.zero_le _

theorem copL_szA (ps : List VT) : szL (ps.map copP) ≤ szL ps := by
  induction ps with
  | nil => exact Nat.le_refl _
  | cons p ps ih =>
    have h1 : szL ((p :: ps).map copP) = 1 + szV (copP p) + szL (ps.map copP) := rfl
    have h2 : szL (p :: ps) = 1 + szV p + szL ps := rfl
    have := copP_sz p
    omega

theorem szL_takeD (ps : List VT) (k : Nat) : szL (ps.take k) ≤ szL ps := by
  have h : szL (ps.take k ++ ps.drop k) = szL ps := by rw [List.take_append_drop]
  rw [szL_appD] at h
  omega

theorem copL_sz (ps : List VT) : szL (copL ps) ≤ szL ps := Nat.le_trans (copL_szA _) (szL_takeD ps 41)

set_option maxRecDepth 20000 in
set_option maxHeartbeats 4000000 in
theorem spec_copyAny (t : VT) (vs : List Value) (w : World) (hv : RdV w t vs) (hz : szV t ≤ 1048576) : Calls Tryz.prog 47 #[.agg vs.toArray] w (RetV (.mk t.kind t.items (copL t.parts) t.names t.cls t.levels t.code t.env) w) := by
  obtain ⟨k, is, ps, ns, cs, ls, c, e⟩ := t
  show Calls Tryz.prog 47 #[.agg vs.toArray] w (RetV (.mk k is (copL ps) ns cs ls c e) w)
  obtain ⟨Ai, Ap, An, Ac, Al, ci, cp, cn, cc, cl, pvs, rfl, h1, h2, h3, h4, h5⟩ := hv.open
  have HT : szV (.mk k is ps ns cs ls c e) = szI is + szL ps + szS ns + szS cs + szS ls := rfl
  unfold szI szS at HT
  have z1 : is.length ≤ 1048576 := by omega
  have z2 : szL ps ≤ 1048576 := by omega
  have z3 : ns.length ≤ 1048576 := by omega
  have z4 : cs.length ≤ 1048576 := by omega
  have z5 : ls.length ≤ 1048576 := by omega
  have CL := fun u (hb : Below w.heap.size w u) => spec_copiesL Ap cp ps pvs u (h2.below hb) z2
  obtain ⟨qs, hqs⟩ : ∃ q, copL ps = q := ⟨_, rfl⟩
  rw [hqs] at CL ⊢
  clear HT hv hz hqs
  go_enter Tryz.func47, Tryz.ntmps47
  have hO := Own.nil w
  go_wp2_with (first | ((with_reducible refine zac ?_); refine zal rfl hO rfl ?_; (refine nm 1 rfl ?_; clear hO; intro b1 u hO); simp only [zL, zK] at hO) | ((with_reducible refine zad ?_); refine zbx rfl hO rfl rfl ?_; (refine nm 0 rfl ?_; clear hO; intro b0 u hO); simp only [zL, zK] at hO) | fail)
  refine J.wp_region_c (n := 29) [0, 1, 3, 4, 6, 7, 10, 11, 14, 15, 18, 19, 21, 22, 23, 24] [2, 5, 8, 9, 12, 13, 16, 17, 20, 25] (deps := fun i => [[], [0], [], [], [3], [2, 3, 4], [], [6], [6, 7], [], [], [10], [9, 10, 11], [], [], [14], [13, 14, 15], [], [], [18], [17, 18, 19], [], [21], [], [23], [0, 1, 2, 3, 4, 5, 6, 7, 8, 9, 10, 11, 12, 13, 14, 15, 16, 17, 18, 19, 20, 21, 22, 23, 24], []].getD i []) (fun i d => [fun _ => True, fun _ => True, (J.fresh0 35 3), fun _ => True, fun _ => True, (J.freshA 35 3 is.length (itc is) (d 2)), fun _ => True, fun _ => True, (J.freshL qs), (J.fresh0 9 1), fun _ => True, fun _ => True, (J.freshA 9 1 ns.length (stc ns) (d 9)), (J.fresh0 9 1), fun _ => True, fun _ => True, (J.freshA 9 1 cs.length (stc cs) (d 13)), (J.fresh0 9 1), fun _ => True, fun _ => True, (J.freshA 9 1 ls.length (stc ls) (d 17)), fun _ => True, fun _ => True, fun _ => True, fun _ => True, (fun x => x = (Value.agg #[.int .i64 k, (d 5).1, (d 8).1, (d 12).1, (d 16).1, (d 20).1, .int .i64 c, .int .i64 e], [])), fun _ => True].getD i (fun _ => True)) (r := 1) (lst := #[true, true, true, true, true, true, true, true, true, true, true, true, true, true, true, true, true, true, true, true, true, true, true, true, true, true, false]) (by kernel_rfl) (by kernel_rfl) (by kernel_rfl) rfl (by decide) (by kernel_rfl) hO ?_
  refine zcp (h := ?_)
  refine zcc (f := fun M u hO K hK => by (exact zae hO rfl rfl _ (by exact at0) (by rfl) (by rfl) (hK _ hO))) (h := ?_)
  refine zcp (h := ?_)
  refine zcc (f := fun M u hO K hK => by (exact zae hO rfl rfl _ (by exact at0) (by rfl) (by rfl) (hK _ hO))) (h := ?_)
  refine zcp (h := ?_)
  refine zcc (f := fun M u hO K hK => by (exact zae hO rfl rfl _ (by exact at0) (by rfl) (by rfl) (hK _ hO))) (h := ?_)
  refine zcp (h := ?_)
  refine zcc (f := fun M u hO K hK => by (exact zae hO rfl rfl _ (by exact at0) (by rfl) (by rfl) (hK _ hO))) (h := ?_)
  refine zcp (h := ?_)
  refine zcc (f := fun M u hO K hK => by (exact zae hO rfl rfl _ (by exact at0) (by rfl) (by rfl) (hK _ hO))) (h := ?_)
  refine zcp (h := ?_)
  refine zcc (f := fun M u hO K hK => by (exact zae hO rfl rfl _ (by exact at0) (by rfl) (by rfl) (hK _ hO))) (h := ?_)
  refine zcp (h := ?_)
  refine zcc (f := fun M u hO K hK => by (exact zae hO rfl rfl _ (by exact at0) (by rfl) (by rfl) (hK _ hO))) (h := ?_)
  refine zcp (h := ?_)
  refine zcc (f := fun M u hO K hK => by (exact zae hO rfl rfl _ (by exact at0) (by rfl) (by rfl) (hK _ hO))) (h := ?_)
  refine J.Chain.nil ⟨?_, ?_⟩
  · refine J.Each.cons (by rfl) ?_ ?_; exact ⟨rfl, fun vs M u hO _ K hK => by (refine za7 hO rfl rfl fun b u hO => ?_; exact hK _ _ _ (show J.fresh0 35 3 _ from ⟨b, rfl⟩) hO)⟩; refine J.Each.cons (by rfl) ?_ ?_; exact ⟨rfl, fun vs M u hO hF K hK => by (obtain ⟨z2, e2⟩ := (hF 2 (by decide) (by decide)).1; refine za8 hO rfl (b := z2) (by simp only [Act.eval, zJ, zP, J.putL, zI, zG, zH, J.dstOf, zF, zD, zE, zS, zQ, zR, Act.put, zA, zB, zC, e2] <;> rfl) (by simp only [Act.eval, zJ, zP, J.putL, zI, zG, zH, J.dstOf, zF, zD, zE, zS, zQ, zR, Act.put, zA, zB, zC] <;> rfl) (h1.below hO.below) (by omega) (by omega) ?_; intro A' c' u hz hO; exact hK _ _ _ (show J.freshA 35 3 is.length (itc is) (vs 2) _ from ⟨A', c', rfl, fun h => (congrArg Prod.fst e2).trans (hz h)⟩) hO)⟩; refine J.Each.cons (by rfl) ?_ ?_; exact ⟨rfl, fun vs M u hO _ K hK => by ((try simp only [J.putL, zI, zG, zH, J.dstOf, zF, zD, zE, zS, zQ, zR, Act.put, zA, zB, zC]); (try simp only [wp_at_zero, wp_at_succ]); go_step; refine (CL _ hO.below).mono ?_; rintro e u ⟨Ap', cp', pvs', Ls', rfl, hvl, hb⟩; have hK' := hK _ _ _ (show (J.freshL qs) _ from ⟨Ap', cp', pvs', Ls', rfl, hvl⟩) ((hO.call hb).perm List.perm_append_comm); clear hK; simp only [J.putL, zI, zG, zH, J.dstOf, zF, zD, zE, zS, zQ, zR, Act.put, zA, zB, zC] at hK'; exact hK')⟩; refine J.Each.cons (by rfl) ?_ ?_; exact ⟨rfl, fun vs M u hO _ K hK => by (refine za7 hO rfl rfl fun b u hO => ?_; exact hK _ _ _ (show J.fresh0 9 1 _ from ⟨b, rfl⟩) hO)⟩; refine J.Each.cons (by rfl) ?_ ?_; exact ⟨rfl, fun vs M u hO hF K hK => by (obtain ⟨z9, e9⟩ := (hF 9 (by decide) (by decide)).1; refine za8 hO rfl (b := z9) (by simp only [Act.eval, zJ, zP, J.putL, zI, zG, zH, J.dstOf, zF, zD, zE, zS, zQ, zR, Act.put, zA, zB, zC, e9] <;> rfl) (by simp only [Act.eval, zJ, zP, J.putL, zI, zG, zH, J.dstOf, zF, zD, zE, zS, zQ, zR, Act.put, zA, zB, zC] <;> rfl) (h3.below hO.below) (by omega) (by omega) ?_; intro A' c' u hz hO; exact hK _ _ _ (show J.freshA 9 1 ns.length (stc ns) (vs 9) _ from ⟨A', c', rfl, fun h => (congrArg Prod.fst e9).trans (hz h)⟩) hO)⟩; refine J.Each.cons (by rfl) ?_ ?_; exact ⟨rfl, fun vs M u hO _ K hK => by (refine za7 hO rfl rfl fun b u hO => ?_; exact hK _ _ _ (show J.fresh0 9 1 _ from ⟨b, rfl⟩) hO)⟩; refine J.Each.cons (by rfl) ?_ ?_; exact ⟨rfl, fun vs M u hO hF K hK => by (obtain ⟨z13, e13⟩ := (hF 13 (by decide) (by decide)).1; refine za8 hO rfl (b := z13) (by simp only [Act.eval, zJ, zP, J.putL, zI, zG, zH, J.dstOf, zF, zD, zE, zS, zQ, zR, Act.put, zA, zB, zC, e13] <;> rfl) (by simp only [Act.eval, zJ, zP, J.putL, zI, zG, zH, J.dstOf, zF, zD, zE, zS, zQ, zR, Act.put, zA, zB, zC] <;> rfl) (h4.below hO.below) (by omega) (by omega) ?_; intro A' c' u hz hO; exact hK _ _ _ (show J.freshA 9 1 cs.length (stc cs) (vs 13) _ from ⟨A', c', rfl, fun h => (congrArg Prod.fst e13).trans (hz h)⟩) hO)⟩; refine J.Each.cons (by rfl) ?_ ?_; exact ⟨rfl, fun vs M u hO _ K hK => by (refine za7 hO rfl rfl fun b u hO => ?_; exact hK _ _ _ (show J.fresh0 9 1 _ from ⟨b, rfl⟩) hO)⟩; refine J.Each.cons (by rfl) ?_ ?_; exact ⟨rfl, fun vs M u hO hF K hK => by (obtain ⟨z17, e17⟩ := (hF 17 (by decide) (by decide)).1; refine za8 hO rfl (b := z17) (by simp only [Act.eval, zJ, zP, J.putL, zI, zG, zH, J.dstOf, zF, zD, zE, zS, zQ, zR, Act.put, zA, zB, zC, e17] <;> rfl) (by simp only [Act.eval, zJ, zP, J.putL, zI, zG, zH, J.dstOf, zF, zD, zE, zS, zQ, zR, Act.put, zA, zB, zC] <;> rfl) (h5.below hO.below) (by omega) (by omega) ?_; intro A' c' u hz hO; exact hK _ _ _ (show J.freshA 9 1 ls.length (stc ls) (vs 17) _ from ⟨A', c', rfl, fun h => (congrArg Prod.fst e17).trans (hz h)⟩) hO)⟩; refine J.Each.cons (by rfl) ?_ ?_; exact ⟨rfl, fun vs M u hO hF K hK => by ((try simp only [J.putL, zI, zG, zH, J.dstOf, zF, zD, zE, zS, zQ, zR, Act.put, zA, zB, zC]); obtain ⟨z2, e2⟩ := (hF 2 (by decide) (by decide)).1; obtain ⟨A5, c5, e5, g5⟩ := (hF 5 (by decide) (by decide)).1; obtain ⟨Ap', cp', pvs', Ls', e8, hvl⟩ := (hF 8 (by decide) (by decide)).1; obtain ⟨z9, e9⟩ := (hF 9 (by decide) (by decide)).1; obtain ⟨A12, c12, e12, g12⟩ := (hF 12 (by decide) (by decide)).1; obtain ⟨z13, e13⟩ := (hF 13 (by decide) (by decide)).1; obtain ⟨A16, c16, e16, g16⟩ := (hF 16 (by decide) (by decide)).1; obtain ⟨z17, e17⟩ := (hF 17 (by decide) (by decide)).1; obtain ⟨A20, c20, e20, g20⟩ := (hF 20 (by decide) (by decide)).1; have hK' := hK (Value.agg #[.int .i64 k, .slice A5 is.length c5, .slice Ap' qs.length cp', .slice A12 ns.length c12, .slice A16 cs.length c16, .slice A20 ls.length c20, .int .i64 c, .int .i64 e]) [] u (show (Value.agg #[.int .i64 k, .slice A5 is.length c5, .slice Ap' qs.length cp', .slice A12 ns.length c12, .slice A16 cs.length c16, .slice A20 ls.length c20, .int .i64 c, .int .i64 e], ([] : List Res)) = (Value.agg #[.int .i64 k, (vs 5).1, (vs 8).1, (vs 12).1, (vs 16).1, (vs 20).1, .int .i64 c, .int .i64 e], []) from by simp only [e2, e5, e8, e9, e12, e13, e16, e17, e20]) (by rw [List.append_nil]; exact hO); clear hK hF; simp only [J.putL, zI, zG, zH, J.dstOf, zF, zD, zE, zS, zQ, zR, Act.put, zA, zB, zC, e2, e5, e8, e9, e12, e13, e16, e17, e20] at hK' ⊢; (try simp only [wp_at_zero, wp_at_succ]); go_step; exact hK')⟩; exact J.Each.nil
  intro vs u hO hF
  obtain ⟨z2, h2⟩ : J.fresh0 35 3 (vs 2) := hF 2 (by decide)
  obtain ⟨A5, c5, h5, g5⟩ : J.freshA 35 3 is.length (itc is) (vs 2) (vs 5) := hF 5 (by decide)
  simp only [h2] at g5
  obtain ⟨Ap', cp', pvs', Ls', h8, hvl⟩ : (J.freshL qs) (vs 8) := hF 8 (by decide)
  obtain ⟨z9, h9⟩ : J.fresh0 9 1 (vs 9) := hF 9 (by decide)
  obtain ⟨A12, c12, h12, g12⟩ : J.freshA 9 1 ns.length (stc ns) (vs 9) (vs 12) := hF 12 (by decide)
  simp only [h9] at g12
  obtain ⟨z13, h13⟩ : J.fresh0 9 1 (vs 13) := hF 13 (by decide)
  obtain ⟨A16, c16, h16, g16⟩ : J.freshA 9 1 cs.length (stc cs) (vs 13) (vs 16) := hF 16 (by decide)
  simp only [h13] at g16
  obtain ⟨z17, h17⟩ : J.fresh0 9 1 (vs 17) := hF 17 (by decide)
  obtain ⟨A20, c20, h20, g20⟩ : J.freshA 9 1 ls.length (stc ls) (vs 17) (vs 20) := hF 20 (by decide)
  simp only [h17] at g20
  have h25 : vs 25 = (Value.agg #[.int .i64 k, (vs 5).1, (vs 8).1, (vs 12).1, (vs 16).1, (vs 20).1, .int .i64 c, .int .i64 e], []) := hF 25 (by decide)
  simp only [h2, h5, h8, h9, h12, h13, h16, h17, h20] at h25
  clear hF
  simp only [List.flatMap_cons, List.flatMap_nil, h2, h5, h8, h9, h12, h13, h16, h17, h20, h25, List.append_nil, zL, zK] at hO
  simp only [h2, h5, h8, h9, h12, h13, h16, h17, h20, h25, J.putL, zI, zG, zH, J.dstOf, zF, zD, zE, zS, zQ, zR, Act.put, zA, zB, zC]
  clear h2 h5 h8 h9 h12 h13 h16 h17 h20 h25 vs
  refine J.wpAny_one (i := 26) (by kernel_rfl) (by rfl) rfl fun K hK => ?_
  (refine zaf hO rfl rfl _ (by exact at1) rfl (by rfl) (by rfl) (by rfl) (by rfl) (by rfl) ?_; clear hO; intro u hO; simp only [zC, zB] at hO; refine hK _ _ ?_; clear hK K)
  refine wpAny_done (by kernel_rfl) ?_ _
  go_wp2_with (first | (with_reducible refine zaq ?_) | fail)
  replace hO := hO.pick [2, 3, 4, 5, 6, 7, 8, 9, 10, 11, 0, 1] (by decide)
  simp only [zN, zO, zE, zD] at hO
  replace hO := hO.join g5 (itc_len is)
  replace hO := hO.pick [3, 4, 5, 6, 7, 8, 0, 1, 2, 9, 10] (by decide)
  simp only [zN, zO, zE, zD] at hO
  replace hO := hO.join g12 (by rw [stc_len, Nat.mul_one])
  replace hO := hO.pick [1, 2, 3, 4, 5, 6, 7, 0, 8, 9] (by decide)
  simp only [zN, zO, zE, zD] at hO
  replace hO := hO.join g16 (by rw [stc_len, Nat.mul_one])
  replace hO := hO.pick [1, 2, 3, 4, 5, 6, 0, 7, 8] (by decide)
  simp only [zN, zO, zE, zD] at hO
  replace hO := hO.join g20 (by rw [stc_len, Nat.mul_one])
  exact ⟨zan rfl hO rfl 7 at7 rfl rfl ⟨_, _, rfl, VO.close hvl, Own.packs [_, _, _, _, _] (hO.pick [1, 2, 4, 5, 0, 3] (by decide))⟩⟩

end Go.Proofs.YtmofcbpabdbjlaaGreat
