/-
  What is proved: what ListVector (of the program and of the reference) returns.
  Condition: arguments of size at most 1048576.
-/
import Derived.Test.YtmofcbpabdbjlaaCopy
import Derived.Test.YtmofcbpabdbjlaaCpS
namespace Go.Proofs.Ytmofcbpabdbjlaa
set_option maxRecDepth 8000
open Go.RowKit Go.ChangeShapes Go.WideShapes Go.Deep
set_option linter.unusedVariables false
set_option linter.unusedSimpArgs false

/-- the names after tidying are the first thing -/
theorem Own.tidy {w u u' : World} {R : List Res} {An A : Option Addr} {cn c' : Nat} {ns : List ByteArray} (hO : Own w (row 9 1 (.slice An ns.length cn) ns.length (stc ns) :: R) u)
    (h : (allE ns = true ∧ Own u [row 9 1 (.slice A 0 c') 0 []] u') ∨ (allE ns = false ∧ A = An ∧ c' = cn ∧ Below u.heap.size u u')) : Own w (row 9 1 (.slice A (tdN ns).length c') (tdN ns).length (stc (tdN ns)) :: R) u' := by
  rcases h with ⟨h1, h2⟩ | ⟨h1, rfl, rfl, h2⟩
  · have e : tdN ns = [] := if_pos h1
    rw [e]
    have h3 := hO.call h2
    exact h3.sub (.cons_cons _ (.cons _ (List.Sublist.refl _)))
  · have e : tdN ns = ns := if_neg (by rw [h1]; decide)
    rw [e]
    exact hO.step h2

theorem RetV.exC' {t : VT} {xk : Int} {xi : List It} {xp : List VT} {xn xc xl : List ByteArray} {xo xe : Int} {u w' : World} {e : Ending} (ht : t = .mk xk xi xp xn xc xl xo xe) (h : RetV t u e w') :
    ∃ (Ci Cp Cn Cc Cl : Option Addr) (ri rp rn rc rl : Nat) (F : List Res), e = .returned (.agg #[.int .i64 xk, .slice Ci xi.length ri, .slice Cp xp.length rp, .slice Cn xn.length rn, .slice Cc xc.length rc, .slice Cl xl.length rl, .int .i64 xo, .int .i64 xe]) ∧
      VO (.mk xk xi xp xn xc xl xo xe) [.int .i64 xk, .slice Ci xi.length ri, .slice Cp xp.length rp, .slice Cn xn.length rn, .slice Cc xc.length rc, .slice Cl xl.length rl, .int .i64 xo, .int .i64 xe] F ∧ Own u [pack F] w' := by
  subst ht
  exact RetV.exC h

set_option maxRecDepth 20000 in
set_option maxHeartbeats 4000000 in
theorem impl_ls (A B : Option Addr) (c d : Nat) (ps : List VT) (pvs : List (List Value)) (ns : List ByteArray) (w : World) (h : RdL w A ps pvs) (h2 : Sl w 1 B ns.length (stc ns)) (hz : szL ps + szS ns ≤ 1048576) :
    Calls Try.prog 21 #[.slice A ps.length c, .slice B ns.length d] w (RetVS (lsT ps ns) (lsS ps ns) w) := by
  have z1 : szL ps ≤ 1048576 := by omega
  have z2 : ns.length ≤ 1048576 := by unfold szS at hz; omega
  have z3 : ps.length ≤ 1048576 := by have := szL_eq ps; omega
  have HZ := Lib.hid hz
  have HZ1 := Lib.hid z1
  have HBAD := Lib.hid (fun k (hk : k < ps.length) (hb : isV ps[k] = false) => lsV_bad (ns := ns) hk hb)
  have HT : Hid (lsT ps ns = if isV (lsV (copL ps) ns) then lsV (copL ps) ns else vecI 0 []) := Lib.hid rfl
  have HS : Hid (lsS ps ns = if isV (lsV (copL ps) ns) then ⟨#[]⟩ else bigS) := Lib.hid rfl
  have CC := fun u (hb : Below w.heap.size w u) => impl_copyTexts B d ns u (h2.below hb) z2
  clear hz z1
  go_enter Try.func21, Try.ntmps21
  have hO := Own.nil w
  go_wp2_with (first
    | ((with_reducible refine wpl_alloc ?_); refine wpList_alloc_own rfl (by rfl) hO rfl (fun b => by simp only [Act.put, zA, zB, zC]; rfl) ?_; (refine nm 0 rfl ?_; clear hO; intro b0 u hO); simp only [zL, zK] at hO)
    | fail)
  refine (CC _ hO.below).mono ?_
  rintro e u ⟨N', d', rfl, hb⟩
  replace hO := hO.call hb
  clear hb
  simp only [zK, zL] at hO
  clear CC
  go_wp2_with (first
    | ((with_reducible refine wpl_alloc ?_); refine wpList_alloc_own rfl (by rfl) hO rfl (fun b => by simp only [Act.put, zA, zB, zC]; rfl) ?_; (refine nm 2 rfl ?_; clear hO; intro b2 u hO); simp only [zL, zK] at hO)
    | ((with_reducible refine wpl_store ?_); refine wpList_store_box rfl (by rfl) hO rfl _ (by exact at2) rfl (by rfl) (by rfl) (by rfl) (by rfl) (by rfl) ?_; clear hO; intro u hO; simp only [zC, zB] at hO)
    | fail)
  replace hO := hO.addNil 29 8
  simp only [List.cons_append, List.nil_append] at hO
  replace hO := Own.pack (F := []) hO
  go_loopw [14] (fun i u => ∃ (m : Nat) (A' : Option Addr) (c' : Nat) (pvs' : List (List Value)) (Ls : List (List Res)), m ≤ ps.length ∧ i = .int .i64 m ∧ Hid (∀ p ∈ ps.take m, isV p = true) ∧ VL (ps.take m) pvs' Ls ∧ Own w [pack Ls.flatten, row 29 8 (.slice A' m c') m pvs'.flatten, box b0 29 [.int .i64 0, .slice none 0 0, .slice none 0 0, .slice none 0 0, .slice none 0 0, .slice none 0 0, .int .i64 0, .int .i64 0], box b2 29 [.int .i64 4, .slice none 0 0, .slice A' m c', .slice N' ns.length d', .slice none 0 0, .slice none 0 0, .int .i64 0, .int .i64 0], row 9 1 (.slice N' ns.length d') ns.length (stc ns)] u) (fun i _ => ps.length - (intOf i).toNat)
  case atStart => exact ⟨0, none, 0, [], [], Nat.zero_le _, rfl, Lib.hid (by simp), VL.nil, hO.pick [0, 4, 2, 3, 1] (by decide)⟩
  case round =>
    clear hO
    obtain ⟨m, A', c', pvs', Ls, hm, rfl, hall, hvl, hO⟩ := hrel
    by_cases hlt : m < ps.length
    · have hsz := szL_mem HZ1.out hlt
      have HTK := Lib.hid (take_snoc' hlt)
      have HB := Lib.hid (HBAD.out m hlt)
      obtain ⟨x, hx⟩ : ∃ x, ps[m]'hlt = x := ⟨_, rfl⟩
      obtain ⟨xk, xi, xp, xn, xc, xl, xo, xe⟩ := x
      obtain ⟨b, off, rfl, hb, Bi, Bp, Bn, Bc, Bl, di, dp, dn, dc, dl, hrd, e0, e1, e2, e3, e4, e5, e6, e7⟩ := h.ptc hO.below hlt hx
      rw [hx] at hsz HTK HB
      have CI := fun u (hb : Below w.heap.size w u) => impl_isVec _ _ u (hrd.grow hb) hsz
      have CP := fun u (hb : Below w.heap.size w u) => (impl_copyV _ _ u (hrd.grow hb) hsz).mono fun e' w' h => RetV.exC h
      clear hx hsz
      cases hq : isV (.mk xk xi xp xn xc xl xo xe) with
      | false =>
        rw [hq] at CI
        have HF : Hid (lsT ps ns = vecI 0 []) := Lib.hid (by rw [HT.out, HB.out hq]; rfl)
        have HG : Hid (lsS ps ns = bigS) := Lib.hid (by rw [HS.out, HB.out hq]; rfl)
        clear hq
        go_wp2_with (first
          | ((with_reducible refine (CI _ hO.below).mono ?_); rintro e u ⟨rfl, hb⟩; (replace hO := hO.step hb; clear hb))
          | ((with_reducible refine wpl_alloc ?_); refine wpList_alloc_own rfl (by rfl) hO rfl (fun b => by simp only [Act.put, zA, zB, zC]; rfl) ?_; (refine nm 5 rfl ?_; clear hO; intro b5 u hO); simp only [zL, zK] at hO)
          | ((with_reducible refine wpl_load ?_); refine wpList_load_box rfl (by rfl) hO rfl _ (by (first | exact at2 | exact at5 | fail)) (by rfl) (by simp only [Act.put, zA, zB, zC]; rfl) ?_)
          | ((with_reducible refine wpl_store ?_); refine wpList_store_box rfl (by rfl) hO rfl _ (by (first | exact at2 | exact at5 | fail)) rfl (by rfl) (by rfl) (by rfl) (by rfl) (by rfl) ?_; clear hO; intro u hO; simp only [zC, zB] at hO)
          | fail)
        obtain ⟨F, hvo, hF⟩ := Own.vec0 u 0
        exact ret_box2 rfl hO rfl 2 at2 rfl rfl rfl ⟨_, _, by rw [HG.out]; rfl, by rw [HF.out]; exact hvo, (hO.call hF).pick [0] (by decide)⟩
      | true =>
        rw [hq] at CI
        have HA : Hid (∀ p ∈ ps.take (m + 1), isV p = true) := Lib.hid (by
          rw [HTK.out]
          intro p hp
          rcases List.mem_append.1 hp with hp | hp
          · exact hall.out p hp
          · rw [List.mem_singleton.1 hp]; exact hq)
        clear hq HB
        go_wp2_with (first
          | ((with_reducible refine (CI _ hO.below).mono ?_); rintro e u ⟨rfl, hb⟩; (replace hO := hO.step hb; clear hb))
          | ((with_reducible refine wpl_alloc ?_); refine wpList_alloc_own rfl (by rfl) hO rfl (fun b => by simp only [Act.put, zA, zB, zC]; rfl) ?_; (refine nm 5 rfl ?_; clear hO; intro b5 u hO); simp only [zL, zK] at hO)
          | ((with_reducible refine wpl_load ?_); refine wpList_load_box rfl (by rfl) hO rfl _ (by (first | exact at2 | exact at5 | fail)) (by rfl) (by simp only [Act.put, zA, zB, zC]; rfl) ?_)
          | ((with_reducible refine wpl_store ?_); refine wpList_store_box rfl (by rfl) hO rfl _ (by exact at5) rfl (by rfl) (by rfl) (by rfl) (by rfl) (by rfl) ?_; clear hO; intro u hO; simp only [zC, zB] at hO)
          | fail)
        clear e0 e1 e2 e3 e4 e5 e6 e7
        refine J.wp_region_c (n := 35) [0, 1, 2] [3, 4] (deps := fun i => [[], [0], [], [2], [2, 3], [], [], []].getD i []) (fun i d => [fun _ => True, fun _ => True, fun _ => True, (J.freshC xk xi xp xn xc xl xo xe), (J.freshS 29 ((d 3).1.cells.toList)), fun _ => True, fun _ => True, fun _ => True].getD i (fun _ => True)) (r := 3) (lst := #[true, true, true, true, true, false, false, false]) (by kernel_rfl) (by kernel_rfl) (by kernel_rfl) rfl (by decide) (by kernel_rfl) hO ?_
        refine J.Chain.cons (by rfl) (by rfl) (fun M u hO K hK => by (simp only [wp_at_zero, wp_at_succ]; go_step; exact hK _ hO)) (by simp only [J.putL, zI, zG, zH, J.dstOf, zF, zD, zE, zS, zQ, zR, Act.put, zA, zB, zC]; rfl) ?_
        refine J.Chain.cons (by rfl) (by rfl) (fun M u hO K hK => by (exact wp_load_field hO rfl rfl _ (by exact at3) (by rfl) (by rfl) (hK _ hO))) (by simp only [J.putL, zI, zG, zH, J.dstOf, zF, zD, zE, zS, zQ, zR, Act.put, zA, zB, zC]; rfl) ?_
        refine J.Chain.cons (by rfl) (by rfl) (fun M u hO K hK => by (exact wp_load_box hO rfl rfl _ (by exact at5) (by rfl) (by rfl) (hK _ hO))) (by simp only [J.putL, zI, zG, zH, J.dstOf, zF, zD, zE, zS, zQ, zR, Act.put, zA, zB, zC]; rfl) ?_
        refine J.Chain.nil ⟨?_, ?_⟩
        · refine J.Each.cons (by rfl) ⟨rfl, fun vs M u hO _ K hK => by (try simp only [J.putL, zI, zG, zH, J.dstOf, zF, zD, zE, zS, zQ, zR, Act.put, zA, zB, zC]); (try simp only [wp_at_zero, wp_at_succ]); go_step; refine (CP _ hO.below).mono ?_; rintro e u ⟨Ci, Cp, Cn, Cc, Cl, ri, rp, rn, rc, rl, F, rfl, hvo, hb⟩; have hK' := hK _ _ _ (show (J.freshC xk xi xp xn xc xl xo xe) _ from ⟨Ci, Cp, Cn, Cc, Cl, ri, rp, rn, rc, rl, F, rfl, hvo⟩) ((hO.call hb).perm List.perm_append_comm); clear hK; simp only [J.putL, zI, zG, zH, J.dstOf, zF, zD, zE, zS, zQ, zR, Act.put, zA, zB, zC] at hK'; exact hK'⟩ ?_; refine J.Each.cons (by rfl) ⟨rfl, fun vs M u hO hF K hK => by (obtain ⟨Ci, Cp, Cn, Cc, Cl, ri, rp, rn, rc, rl, F, e3, hvo⟩ := (hF 3 (by decide) (by decide)).1; refine wp_build_one (cs := [.int .i64 xk, .slice Ci xi.length ri, .slice Cp xp.length rp, .slice Cn xn.length rn, .slice Cc xc.length rc, .slice Cl xl.length rl, .int .i64 xo, .int .i64 xe]) hO rfl (by simp only [Act.eval, zJ, zP, J.putL, zI, zG, zH, J.dstOf, zF, zD, zE, zS, zQ, zR, Act.put, zA, zB, zC, e3]; rfl) rfl rfl (zM rfl) rfl fun b u hO => ?_; exact hK _ _ _ (show J.freshS 29 ((vs 3).1.cells.toList) _ from ⟨b, by rw [e3]; rfl⟩) hO)⟩ ?_; exact J.Each.nil
        intro vs u hO hF
        obtain ⟨Ci, Cp, Cn, Cc, Cl, ri, rp, rn, rc, rl, F, h3, hvo⟩ : (J.freshC xk xi xp xn xc xl xo xe) (vs 3) := hF 3 (by decide)
        have q4 : J.freshS 29 ((vs 3).1.cells.toList) (vs 4) := hF 4 (by decide)
        rw [h3] at q4
        obtain ⟨y4, h4⟩ : J.freshS 29 [.int .i64 xk, .slice Ci xi.length ri, .slice Cp xp.length rp, .slice Cn xn.length rn, .slice Cc xc.length rc, .slice Cl xl.length rl, .int .i64 xo, .int .i64 xe] (vs 4) := q4
        clear hF
        simp only [List.flatMap_cons, List.flatMap_nil, h3, h4, List.append_nil, zL, zK] at hO
        simp only [h3, h4, J.putL, zI, zG, zH, J.dstOf, zF, zD, zE, zS, zQ, zR, Act.put, zA, zB, zC]
        clear h3 h4 vs
        refine J.wpAny_one (i := 5) (by kernel_rfl) (by rfl) rfl fun K hK => ?_
        refine wp_append_box hO rfl rfl rfl _ (by exact at1) _ (by exact at7) (by rfl) (by simp [Value.oneCell']) (by omega) (by omega) rfl ?_
        clear hO
        intro A' c' u hO
        simp only [zC, zB] at hO
        simp only [Act.put, zA, zB, zC]
        refine hK _ _ ?_
        clear hK K
        refine J.wpAny_one (i := 6) (by kernel_rfl) (by rfl) rfl fun K hK => ?_
        simp only [wp_at_zero, wp_at_succ]
        go_step
        refine hK _ _ ?_
        clear hK K
        refine J.wpAny_one (i := 7) (by kernel_rfl) (by rfl) rfl fun K hK => ?_
        (refine wp_store_field hO rfl rfl _ (by exact at3) (zM rfl) (by simp only [Act.eval, zJ, zF, zD, zE, zP]; rfl) (by rfl) (by rfl) (by rfl) ?_; clear hO; intro u hO; simp only [zC, zB] at hO; refine hK _ _ ?_; clear hK K)
        refine wpAny_done (by kernel_rfl) ?_ _
        go_wp2_with (first
          | ((with_reducible refine wpl_alloc ?_); refine wpList_alloc_own rfl (by rfl) hO rfl (fun b => by simp only [Act.put, zA, zB, zC]; rfl) ?_; (first | (refine nm 0 rfl ?_; clear hO; intro b0 u hO) | (refine nm 1 rfl ?_; clear hO; intro b1 u hO) | (refine nm 2 rfl ?_; clear hO; intro b2 u hO) | (refine nm 3 rfl ?_; clear hO; intro b3 u hO) | (refine nm 4 rfl ?_; clear hO; intro b4 u hO) | (refine nm 5 rfl ?_; clear hO; intro b5 u hO) | (refine nm 6 rfl ?_; clear hO; intro b6 u hO) | (refine nm 7 rfl ?_; clear hO; intro b7 u hO)); simp only [zL, zK] at hO)
          | ((with_reducible refine wpl_box ?_); refine wpList_box_own rfl (by rfl) hO rfl rfl (fun b => by simp only [Act.put, zA, zB, zC]; rfl) ?_; (first | (refine nm 0 rfl ?_; clear hO; intro b0 u hO) | (refine nm 1 rfl ?_; clear hO; intro b1 u hO) | (refine nm 2 rfl ?_; clear hO; intro b2 u hO) | (refine nm 3 rfl ?_; clear hO; intro b3 u hO) | (refine nm 4 rfl ?_; clear hO; intro b4 u hO) | (refine nm 5 rfl ?_; clear hO; intro b5 u hO) | (refine nm 6 rfl ?_; clear hO; intro b6 u hO) | (refine nm 7 rfl ?_; clear hO; intro b7 u hO)); simp only [zL, zK] at hO)
          | ((with_reducible refine wpl_load ?_); refine wpList_load_box rfl (by (first | rfl | (simp only [Region.wanted, yielded, *]; go_simp; done) | (simp [Region.wanted, yielded, *]; done) | fail)) hO rfl _ (by (first | exact at0 | exact at1 | exact at2 | exact at3 | exact at4 | exact at5 | exact at6 | exact at7)) (by rfl) (by simp only [Act.put, zA, zB, zC]; rfl) ?_)
          | ((with_reducible refine wpl_load ?_); refine wpList_load_field rfl (by (first | rfl | (simp only [Region.wanted, yielded, *]; go_simp; done) | (simp [Region.wanted, yielded, *]; done) | fail)) hO rfl _ (by (first | exact at0 | exact at1 | exact at2 | exact at3 | exact at4 | exact at5 | exact at6 | exact at7)) (by rfl) (by simp only [Act.put, zA, zB, zC]; rfl) ?_)
          | ((with_reducible refine wpl_store ?_); refine wpList_store_box rfl (by rfl) hO rfl _ (by (first | exact at0 | exact at1 | exact at2 | exact at3 | exact at4 | exact at5 | exact at6 | exact at7)) rfl (by rfl) (by rfl) (by rfl) (by rfl) (by rfl) ?_; clear hO; intro u hO; simp only [zC, zB] at hO)
          | ((with_reducible refine wpl_store ?_); refine wpList_store_field rfl (by rfl) hO rfl _ (by (first | exact at0 | exact at1 | exact at2 | exact at3 | exact at4 | exact at5 | exact at6 | exact at7)) (zM rfl) (by simp only [Act.eval, zJ, zF, zD, zE, zP]; rfl) (by rfl) (by rfl) (by rfl) ?_; clear hO; intro u hO; simp only [zC, zB] at hO)
          | ((with_reducible refine wpl_call ?_); refine wpList_append_str hO rfl (by rfl) rfl rfl _ (by (first | exact at0 | exact at1 | exact at2 | exact at3 | exact at4 | exact at5 | exact at6 | exact at7)) (by omega) rfl (fun A' c' => by simp only [Act.put, zA, zB, zC]; rfl) ?_; clear hO; intro A' c' u hO; simp only [zC, zB] at hO)
          | ((with_reducible refine wpl_call ?_); refine wpList_append_lit hO rfl (by rfl) rfl rfl _ (by (first | exact at0 | exact at1 | exact at2 | exact at3 | exact at4 | exact at5 | exact at6 | exact at7)) (by rfl) (by simp [Value.oneCell']) (by omega) (by omega) rfl (fun A' c' => by simp only [Act.put, zA, zB, zC]; rfl) ?_; clear hO; intro A' c' u hO; simp only [zC, zB] at hO)
          | fail)
        replace hO := hO.pick [0, 6, 1, 2, 3, 4] (by decide)
        simp only [zN, zO, zE, zD] at hO
        replace hO := hO.merge
        rw [← flat_snoc, ← flat_snoc] at hO
        go_roundw
        case rel => exact ⟨m + 1, _, _, _, _, by omega, by go_num, HA, by rw [HTK.out]; exact hvl.snoc hvo, hO⟩
        case measure => simp [intOf]; omega
    · have hmn : m = ps.length := by omega
      subst hmn
      have e1 : ps.take ps.length = ps := List.take_length ..
      rw [e1] at hvl hall
      clear e1 hlt hm h h2 HBAD
      obtain ⟨ha1, ha2⟩ := lsV_all (ns := ns) hall.out
      have hsz : szV (lsV ps ns) ≤ 1048576 := by have := lsV_size (ps := ps) (ns := ns); have := HZ.out; omega
      have CF : ∀ (vs : List Value) (u : World), RdV u (lsV ps ns) vs → Calls Try.prog 66 #[.agg vs.toArray] u fun e w' => e = .returned (.tuple #[.agg (if isV (lsV ps ns) then vs else zero8).toArray, .string (if isV (lsV ps ns) then ⟨#[]⟩ else bigS)]) ∧ Below u.heap.size u w' := fun vs u h => impl_fits (lsV ps ns) vs u h hsz
      obtain ⟨q, hq⟩ : ∃ q, isV (lsV ps ns) = q := ⟨_, rfl⟩
      rw [hq] at CF ha1
      have HA1 := Lib.hid ha1
      have HA2 := Lib.hid (fun h : q = true => ha2 (by rw [hq]; exact h))
      clear hq ha1 ha2 hsz hall
      go_wp2_with (first
        | ((with_reducible refine wpl_load ?_); refine wpList_load_box rfl (by rfl) hO rfl _ (by exact at3) (by rfl) (by simp only [Act.put, zA, zB, zC]; rfl) ?_)
        | fail)
      refine (impl_tidy 4 none A' N' none none 0 0 ps.length c' d' 0 0 0 0 0 0 ns _ (hO.row_sl 4 rfl) z2).mono ?_
      rintro e u ⟨T', t', rfl, hb⟩
      replace hO := hO.front 4 rfl
      simp only [List.eraseIdx_cons_zero, List.eraseIdx_cons_succ] at hO
      replace hO := hO.tidy hb
      clear hb
      replace hO := ((hO.addNil 83 3).addNil 9 1).addNil 9 1
      simp only [List.cons_append, List.nil_append] at hO
      replace hO := hO.pick [5, 2, 0, 6, 7, 1, 3, 4] (by decide)
      simp only [zN, zO, zE, zD] at hO
      obtain ⟨F, hvo, hO⟩ : ∃ F, VO (lsV ps ns) [.int .i64 4, .slice none 0 0, .slice A' ps.length c', .slice T' (tdN ns).length t', .slice none 0 0, .slice none 0 0, .int .i64 0, .int .i64 0] F ∧ Own w (pack F :: [box b0 29 [.int .i64 0, .slice none 0 0, .slice none 0 0, .slice none 0 0, .slice none 0 0, .slice none 0 0, .int .i64 0, .int .i64 0], box b2 29 [.int .i64 4, .slice none 0 0, .slice A' ps.length c', .slice N' ns.length d', .slice none 0 0, .slice none 0 0, .int .i64 0, .int .i64 0]]) u := ⟨_, VO.close (is := []) (cs := []) (ls := []) hvl, Own.packs' [_, _, _, _, _] hO⟩
      cases q with
      | true =>
        have HF : Hid (lsT ps ns = lsV ps ns) := Lib.hid (by rw [HT.out, HA1.out, if_pos rfl, HA2.out rfl])
        have HG : Hid (lsS ps ns = ⟨#[]⟩) := Lib.hid (by rw [HS.out, HA1.out, if_pos rfl])
        simp only [if_true] at CF
        clear HT HS HA1 HA2
        go_wp2_with (first
          | ((with_reducible refine (CF _ _ (hO.rdp 0 rfl hvo)).mono ?_); rintro e u ⟨rfl, hb⟩; (replace hO := hO.step hb; clear hb))
          | ((with_reducible refine wpl_store ?_); refine wpList_store_box rfl (by rfl) hO rfl _ (by exact at1) rfl (by rfl) (by rfl) (by rfl) (by rfl) (by rfl) ?_; clear hO; intro u hO; simp only [zC, zB] at hO)
          | fail)
        exact ret_box2 rfl hO rfl 1 at1 rfl rfl rfl ⟨_, _, by rw [HG.out]; rfl, by rw [HF.out]; exact hvo, hO.pick [0] (by decide)⟩
      | false =>
        have HF : Hid (lsT ps ns = vecI 0 []) := Lib.hid (by rw [HT.out, HA1.out]; rfl)
        have HG : Hid (lsS ps ns = bigS) := Lib.hid (by rw [HS.out, HA1.out]; rfl)
        simp only [Bool.false_eq_true, if_false] at CF
        clear HT HS HA1 HA2
        go_wp2_with (first
          | ((with_reducible refine (CF _ _ (hO.rdp 0 rfl hvo)).mono ?_); rintro e u ⟨rfl, hb⟩; (replace hO := hO.step hb; clear hb))
          | ((with_reducible refine wpl_store ?_); refine wpList_store_box rfl (by rfl) hO rfl _ (by exact at1) rfl (by rfl) (by rfl) (by rfl) (by rfl) (by rfl) ?_; clear hO; intro u hO; simp only [zC, zB] at hO)
          | fail)
        obtain ⟨F, hvo, hF⟩ := Own.vec0 u 0
        exact ret_box2 rfl hO rfl 1 at1 rfl rfl rfl ⟨_, _, by rw [HG.out]; rfl, by rw [HF.out]; exact hvo, (hO.call hF).pick [0] (by decide)⟩

set_option maxRecDepth 20000 in
set_option maxHeartbeats 4000000 in
theorem spec_ls (A B : Option Addr) (c d : Nat) (ps : List VT) (pvs : List (List Value)) (ns : List ByteArray) (w : World) (h : RdL w A ps pvs) (h2 : Sl w 1 B ns.length (stc ns)) (hz : szL ps + szS ns ≤ 1048576) :
    Calls Try.prog 18 #[.slice A ps.length c, .slice B ns.length d] w (RetVS (lsT ps ns) (lsS ps ns) w) := by
  have z1 : szL ps ≤ 1048576 := by omega
  have z2 : ns.length ≤ 1048576 := by unfold szS at hz; omega
  have HT : Hid (lsT ps ns = if isV (lsV (copL ps) ns) then lsV (copL ps) ns else vecI 0 []) := Lib.hid rfl
  have HS : Hid (lsS ps ns = if isV (lsV (copL ps) ns) then ⟨#[]⟩ else bigS) := Lib.hid rfl
  have CL := fun u (hb : Below w.heap.size w u) => spec_copiesL A c ps pvs u (h.below hb) z1
  have CC := fun u (hb : Below w.heap.size w u) => h2.below hb
  have hsz : szV (lsV (copL ps) ns) ≤ 1048576 := by have := lsV_size (ps := copL ps) (ns := ns); have := copL_size ps; omega
  clear hz z1 h h2
  obtain ⟨qs, hqs⟩ : ∃ qs, copL ps = qs := ⟨_, rfl⟩
  rw [hqs] at HT HS CL hsz
  clear hqs
  have CF : ∀ (vs : List Value) (u : World), RdV u (lsV qs ns) vs → Calls Try.prog 61 #[.agg vs.toArray] u fun e w' => e = .returned (.tuple #[.agg (if isV (lsV qs ns) then vs else zero8).toArray, .string (if isV (lsV qs ns) then ⟨#[]⟩ else bigS)]) ∧ Below u.heap.size u w' := fun vs u h => spec_fit (lsV qs ns) vs u h hsz
  obtain ⟨q, hq⟩ : ∃ q, isV (lsV qs ns) = q := ⟨_, rfl⟩
  rw [hq] at CF HT HS
  clear hq hsz
  go_enter Try.func18, Try.ntmps18
  have hO := Own.nil w
  go_wp2_with (first
    | ((with_reducible refine wpl_alloc ?_); refine wpList_alloc_own rfl (by rfl) hO rfl (fun b => by simp only [Act.put, zA, zB, zC]; rfl) ?_; (refine nm 0 rfl ?_; clear hO; intro b0 u hO); simp only [zL, zK] at hO)
    | fail)
  refine (CL _ hO.below).mono ?_
  rintro e u ⟨A1, c1, pvs', Ls, rfl, hvl, hb⟩
  replace hO := hO.call hb
  clear hb CL
  simp only [List.cons_append, List.nil_append] at hO
  go_wp2_with (first
    | ((with_reducible refine wpl_build ?_); refine wpList_build_row0 hO rfl (by rfl) rfl (fun b => by simp only [Act.put, zA, zB, zC]; rfl) ?_; clear hO; intro bb u hO; simp only [zL, zK] at hO)
    | ((with_reducible refine wpl_append ?_); refine wpList_append_src hO rfl (by rfl) rfl rfl _ (by exact at3) (CC _ hO.below) (stc_one _) (by omega) (by omega) rfl (fun A' c' => by simp only [Act.put, zA, zB, zC]; rfl) ?_; clear hO; intro A' c' u hO; simp only [zC, zB, Nat.zero_add, zL] at hO; (try simp only [Nat.zero_add]))
    | fail)
  replace hO := hO.front 3 rfl
  simp only [List.eraseIdx_cons_zero, List.eraseIdx_cons_succ] at hO
  refine (spec_clean 4 none A1 A' none none 0 0 qs.length c1 c' 0 0 0 0 0 0 ns _ (hO.row_sl 0 rfl) z2).mono ?_
  rintro e u ⟨T', t', rfl, hb⟩
  replace hO := hO.tidy hb
  clear hb
  replace hO := ((hO.addNil 83 3).addNil 9 1).addNil 9 1
  simp only [List.cons_append, List.nil_append] at hO
  replace hO := hO.pick [4, 1, 0, 5, 6, 2, 3] (by decide)
  simp only [zN, zO, zE, zD] at hO
  obtain ⟨F, hvo, hO⟩ : ∃ F, VO (lsV qs ns) [.int .i64 4, .slice none 0 0, .slice A1 qs.length c1, .slice T' (tdN ns).length t', .slice none 0 0, .slice none 0 0, .int .i64 0, .int .i64 0] F ∧ Own w (pack F :: [box b0 29 [.int .i64 0, .slice none 0 0, .slice none 0 0, .slice none 0 0, .slice none 0 0, .slice none 0 0, .int .i64 0, .int .i64 0]]) u := ⟨_, VO.close (is := []) (cs := []) (ls := []) hvl, Own.packs' [_, _, _, _, _] hO⟩
  cases q with
  | true =>
    have HF : Hid (lsT ps ns = lsV qs ns) := Lib.hid (by rw [HT.out, if_pos rfl])
    have HG : Hid (lsS ps ns = ⟨#[]⟩) := Lib.hid (by rw [HS.out, if_pos rfl])
    simp only [if_true] at CF
    clear HT HS
    go_wp2_with (first
      | ((with_reducible refine (CF _ _ (hO.rdp 0 rfl hvo)).mono ?_); rintro e u ⟨rfl, hb⟩; (replace hO := hO.step hb; clear hb))
      | ((with_reducible refine wpl_alloc ?_); refine wpList_alloc_own rfl (by rfl) hO rfl (fun b => by simp only [Act.put, zA, zB, zC]; rfl) ?_; (refine nm 2 rfl ?_; clear hO; intro b2 u hO); simp only [zL, zK] at hO)
      | ((with_reducible refine wpl_load ?_); refine wpList_load_box rfl (by rfl) hO rfl _ (by exact at2) (by rfl) (by simp only [Act.put, zA, zB, zC]; rfl) ?_)
      | ((with_reducible refine wpl_store ?_); refine wpList_store_box rfl (by rfl) hO rfl _ (by (first | exact at1 | exact at2 | fail)) rfl (by rfl) (by rfl) (by rfl) (by rfl) (by rfl) ?_; clear hO; intro u hO; simp only [zC, zB] at hO)
      | fail)
    exact ret_box2 rfl hO rfl 1 at1 rfl rfl rfl ⟨_, _, by rw [HG.out]; rfl, by rw [HF.out]; exact hvo, hO.pick [0] (by decide)⟩
  | false =>
    have HF : Hid (lsT ps ns = vecI 0 []) := Lib.hid (by rw [HT.out]; rfl)
    have HG : Hid (lsS ps ns = bigS) := Lib.hid (by rw [HS.out]; rfl)
    simp only [Bool.false_eq_true, if_false] at CF
    clear HT HS
    go_wp2_with (first
      | ((with_reducible refine (CF _ _ (hO.rdp 0 rfl hvo)).mono ?_); rintro e u ⟨rfl, hb⟩; (replace hO := hO.step hb; clear hb))
      | ((with_reducible refine wpl_alloc ?_); refine wpList_alloc_own rfl (by rfl) hO rfl (fun b => by simp only [Act.put, zA, zB, zC]; rfl) ?_; (refine nm 2 rfl ?_; clear hO; intro b2 u hO); simp only [zL, zK] at hO)
      | ((with_reducible refine wpl_load ?_); refine wpList_load_box rfl (by rfl) hO rfl _ (by exact at2) (by rfl) (by simp only [Act.put, zA, zB, zC]; rfl) ?_)
      | ((with_reducible refine wpl_store ?_); refine wpList_store_box rfl (by rfl) hO rfl _ (by (first | exact at1 | exact at2 | fail)) rfl (by rfl) (by rfl) (by rfl) (by rfl) (by rfl) ?_; clear hO; intro u hO; simp only [zC, zB] at hO)
      | fail)
    obtain ⟨F, hvo, hF⟩ := Own.vec0 u 0
    exact ret_box2 rfl hO rfl 1 at1 rfl rfl rfl ⟨_, _, by rw [HG.out]; rfl, by rw [HF.out]; exact hvo, (hO.call hF).pick [0] (by decide)⟩

end Go.Proofs.Ytmofcbpabdbjlaa
