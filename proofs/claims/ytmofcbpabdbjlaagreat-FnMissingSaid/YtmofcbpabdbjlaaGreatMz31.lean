/-
  What is proved: what convert (of the program) returns.
  Condition: vectors of size at most 1048576 whose items are valid for their kind.
-/
import Derived.Test.YtmofcbpabdbjlaaGreatMz4
import Derived.Test.YtmofcbpabdbjlaaGreatMz30
namespace Go.Proofs.YtmofcbpabdbjlaaGreat

set_option maxRecDepth 8000

open Go.RowKit Go.ChangeShapes Go.WideShapes Go.Deep

set_option linter.unusedVariables false

set_option linter.unusedSimpArgs false

/-- each item as a vector of its own -/
def oneV (k : Int) (x : It) : VT := vecI k [x]

/-- a vector converted to a later kind -/
def cvT (kind : Int) (t : VT) : VT := if t.kind = 5 then .mk kind [] [t] t.names [] [] 0 0 else if kind < t.kind then vecI 0 [] else if kind = 4 then .mk 4 [] (t.parts ++ t.items.map (oneV t.kind)) t.names [] [] 0 0 else vecN kind (t.items.map (cvI t.kind kind)) t.names

def cvB (kind : Int) (t : VT) : Bool := if t.kind = 5 then decide (kind = 4) else decide (t.kind ≤ kind)

theorem mapSnoc {α β : Type} (f : α → β) {l : List α} {k : Nat} (h : k < l.length) : (l.take (k + 1)).map f = (l.take k).map f ++ [f l[k]] := by
  rw [za6 h, List.map_append]
  rfl

theorem VL.one {t : VT} {vs : List Value} {L : List Res} (h : VO t vs L) : VL [t] [vs] [L] := VL.snoc VL.nil h

set_option maxRecDepth 20000 in
set_option maxHeartbeats 4000000 in
theorem impl_convert (kind : Int) (t : VT) (vs : List Value) (w : World) (hv : RdV w t vs) (hz : szV t ≤ 1048576) (hi : ∀ x ∈ t.items, itemB t.kind x = true) :
    Calls Tryz.prog 25 #[.agg vs.toArray, .int .i64 kind] w (RetVB (cvT kind t) (cvB kind t) w) := by
  have CP := fun u (hb : Below w.heap.size w u) => impl_copyV t _ u (hv.grow hb) hz
  obtain ⟨k, is, ps, ns, cs, ls, c, e⟩ := t
  replace CP := fun u (hb : Below w.heap.size w u) => (CP u hb).mono fun e' w' h => RetV.exC h
  have HT : Hid (cvT kind (.mk k is ps ns cs ls c e) = if k = 5 then .mk kind [] [.mk k is ps ns cs ls c e] ns [] [] 0 0 else if kind < k then vecI 0 [] else if kind = 4 then .mk 4 [] (ps ++ is.map (oneV k)) ns [] [] 0 0 else vecN kind (is.map (cvI k kind)) ns) := Lib.hid rfl
  have HB : Hid (cvB kind (.mk k is ps ns cs ls c e) = if k = 5 then decide (kind = 4) else decide (k ≤ kind)) := Lib.hid rfl
  have hi : ∀ x ∈ is, itemB k x = true := hi
  obtain ⟨X, hX⟩ : ∃ X, cvT kind (.mk k is ps ns cs ls c e) = X := ⟨_, rfl⟩
  obtain ⟨Y, hY⟩ : ∃ Y, cvB kind (.mk k is ps ns cs ls c e) = Y := ⟨_, rfl⟩
  rw [hX] at HT ⊢
  rw [hY] at HB ⊢
  have hsz : szI is + szL ps + szS ns + szS cs + szS ls ≤ 1048576 := hz
  have z2 : szL ps ≤ 1048576 := by omega
  have z3 : ns.length ≤ 1048576 := by unfold szS at hsz; omega
  have z6 : ps.length ≤ 1048576 := by have := szL_eq ps; omega
  have z1 : is.length ≤ 1048576 := by unfold szI at hsz; omega
  obtain ⟨Ai, Ap, An, Ac, Al, ci, cp, cn, cc, cl, pvs, rfl, h1, h2, h3, h4, h5⟩ := hv.open
  have S3 := fun u (hb : Below w.heap.size w u) => zbe An cn ns u (h3.below hb) z3
  clear hv hz hX hY hsz h3 h4 h5
  by_cases k5 : k = 5
  · have HF : Hid (X = .mk kind [] [.mk k is ps ns cs ls c e] ns [] [] 0 0) := Lib.hid (by rw [HT.out, if_pos k5])
    have HG : Hid (Y = (kind == 4)) := Lib.hid (by rw [HB.out, if_pos k5]; by_cases h : kind = 4 <;> simp [h])
    clear HT HB hi h1 h2
    subst k5
    go_enter Tryz.func25, Tryz.ntmps25
    have hO := Own.nil w
    go_wp2_with (first | ((with_reducible refine zac ?_); refine zal rfl hO rfl ?_; (refine nm 1 rfl ?_; clear hO; intro b1 u hO); simp only [zL, zK] at hO) | ((with_reducible refine zad ?_); refine zbx rfl hO rfl rfl ?_; (refine nm 0 rfl ?_; clear hO; intro b0 u hO); simp only [zL, zK] at hO) | ((with_reducible refine zaa ?_); refine zlf rfl hO rfl _ (by exact at0) ?_) | fail)
    refine (S3 _ hO.below).mono ?_
    rintro e u ⟨N', d', rfl, hb⟩
    replace hO := hO.call hb
    clear hb
    simp only [zK, zL] at hO
    go_wp2_with (first | ((with_reducible refine zac ?_); refine zal rfl hO rfl ?_; (refine nm 3 rfl ?_; clear hO; intro b3 u hO); simp only [zL, zK] at hO) | ((with_reducible refine zaa ?_); refine zlb rfl hO rfl _ (by exact at1) ?_) | ((with_reducible refine zaa ?_); refine zlf rfl hO rfl _ (by exact at1) ?_) | ((with_reducible refine zab ?_); refine zsb rfl hO rfl _ (by exact at3) rfl ?_; clear hO; intro u hO; simp only [zC, zB] at hO) | fail)
    refine (CP _ hO.below).mono ?_
    rintro e u ⟨Ci, Cp, Cn, Cc, Cl, ri, rp, rn, rc, rl, F, rfl, hvo, hb⟩
    replace hO := hO.call hb
    clear hb
    simp only [zK, zL] at hO
    go_wp2_with (first | ((with_reducible refine zaa ?_); refine zlb rfl hO rfl _ (by exact at4) ?_) | ((with_reducible refine zab ?_); refine zsb rfl hO rfl _ (by exact at3) rfl ?_; clear hO; intro u hO; simp only [zC, zB] at hO) | ((with_reducible refine zab ?_); refine zsf rfl hO rfl _ (by exact at4) (zM rfl) ?_; clear hO; intro u hO; simp only [zC, zB] at hO) | ((with_reducible refine zao ?_); refine zaw (cs := [.int .i64 5, .slice Ci is.length ri, .slice Cp ps.length rp, .slice Cn ns.length rn, .slice Cc cs.length rc, .slice Cl ls.length rl, .int .i64 c, .int .i64 e]) hO rfl (by rfl) (by simp only [Act.eval, zJ, zF, zD, zE, zP]; rfl) rfl rfl (zM rfl) rfl (fun b => by simp only [Act.put, zA, zB, zC]; rfl) ?_; clear hO; intro bb u hO; simp only [zL, zK] at hO) | fail)
    rw [← show [F].flatten = F by simp] at hO
    have hR := (((((hO.pick [5, 0, 1] (by decide)).box_row 8 1 rfl (by decide)).addNil 35 3).addNil 9 1).addNil 9 1).pick [3, 0, 2, 4, 5, 1] (by decide)
    exact zau rfl hO rfl 3 at3 rfl rfl rfl ⟨_, _, by rw [HG.out]; rfl, by rw [HF.out]; exact VO.close (is := []) (cs := []) (ls := []) (VL.one hvo), Own.packs [_, _, _, _, _] hR⟩
  · have q5 : (k == 5) = false := by simp [k5]
    by_cases hk : kind < k
    · have HF : Hid (X = vecI 0 []) := Lib.hid (by rw [HT.out, if_neg k5, if_pos hk])
      have HG : Hid (Y = false) := Lib.hid (by rw [HB.out, if_neg k5]; exact decide_eq_false (by omega))
      clear HT HB hi h1 h2 CP
      go_enter Tryz.func25, Tryz.ntmps25
      have hO := Own.nil w
      go_wp2_with (first | ((with_reducible refine zac ?_); refine zal rfl hO rfl ?_; (refine nm 1 rfl ?_; clear hO; intro b1 u hO); simp only [zL, zK] at hO) | ((with_reducible refine zad ?_); refine zbx rfl hO rfl rfl ?_; (refine nm 0 rfl ?_; clear hO; intro b0 u hO); simp only [zL, zK] at hO) | ((with_reducible refine zaa ?_); refine zlf rfl hO rfl _ (by exact at0) ?_) | fail)
      refine (S3 _ hO.below).mono ?_
      rintro e u ⟨N', d', rfl, hb⟩
      replace hO := hO.call hb
      clear hb
      simp only [zK, zL] at hO
      go_wp2_with (first | ((with_reducible refine zac ?_); refine zal rfl hO rfl ?_; (refine nm 3 rfl ?_; clear hO; intro b3 u hO); simp only [zL, zK] at hO) | ((with_reducible refine zaa ?_); refine zlf rfl hO rfl _ (by exact at1) ?_) | ((with_reducible refine zab ?_); refine zsb rfl hO rfl _ (by (first | exact at2 | exact at3 | fail)) rfl ?_; clear hO; intro u hO; simp only [zC, zB] at hO) | fail)
      obtain ⟨F, hvo, hF⟩ := Own.vec0 u 0
      exact zau rfl hO rfl 2 at2 rfl rfl rfl ⟨_, _, by rw [HG.out]; rfl, by rw [HF.out]; exact hvo, (hO.call hF).pick [0] (by decide)⟩
    · have HG : Hid (Y = true) := Lib.hid (by rw [HB.out, if_neg k5]; exact decide_eq_true (by omega))
      by_cases k4 : kind = 4
      · have HF : Hid (X = .mk 4 [] (ps ++ is.map (oneV k)) ns [] [] 0 0) := Lib.hid (by rw [HT.out, if_neg k5, if_neg hk, if_pos k4])
        clear HT HB hi CP
        subst k4
        have HZ := Lib.hid z2
        go_enter Tryz.func25, Tryz.ntmps25
        have hO := Own.nil w
        go_wp2_with (first | ((with_reducible refine zac ?_); refine zal rfl hO rfl ?_; (refine nm 1 rfl ?_; clear hO; intro b1 u hO); simp only [zL, zK] at hO) | ((with_reducible refine zad ?_); refine zbx rfl hO rfl rfl ?_; (refine nm 0 rfl ?_; clear hO; intro b0 u hO); simp only [zL, zK] at hO) | ((with_reducible refine zaa ?_); refine zlf rfl hO rfl _ (by exact at0) ?_) | fail)
        refine (S3 _ hO.below).mono ?_
        rintro e u ⟨N', d', rfl, hb⟩
        replace hO := hO.call hb
        clear hb
        simp only [zK, zL] at hO
        go_wp2_with (first | ((with_reducible refine zac ?_); refine zal rfl hO rfl ?_; (refine nm 3 rfl ?_; clear hO; intro b3 u hO); simp only [zL, zK] at hO) | ((with_reducible refine zaa ?_); refine zlf rfl hO rfl _ (by exact at1) ?_) | ((with_reducible refine zab ?_); refine zsb rfl hO rfl _ (by exact at3) rfl ?_; clear hO; intro u hO; simp only [zC, zB] at hO) | fail)
        replace hO := hO.pick [0, 1, 2, 3] (by decide)
        simp only [zN, zO, zE, zD] at hO
        replace hO := hO.addNil 28 8
        simp only [List.cons_append, List.nil_append] at hO
        replace hO := Own.pack (F := []) hO
        go_loopw [38] (fun i u => ∃ (m : Nat) (A' : Option Addr) (c' : Nat) (pvs' : List (List Value)) (Ls : List (List Res)), m ≤ ps.length ∧ i = .int .i64 m ∧ VL (ps.take m) pvs' Ls ∧ Own w [pack Ls.flatten, row 28 8 (.slice A' m c') m pvs'.flatten, box b0 28 [.int .i64 k, .slice Ai is.length ci, .slice Ap ps.length cp, .slice An ns.length cn, .slice Ac cs.length cc, .slice Al ls.length cl, .int .i64 c, .int .i64 e], box b1 28 [.int .i64 0, .slice none 0 0, .slice none 0 0, .slice none 0 0, .slice none 0 0, .slice none 0 0, .int .i64 0, .int .i64 0], box b3 28 [.int .i64 4, .slice none 0 0, .slice A' m c', .slice N' ns.length d', .slice none 0 0, .slice none 0 0, .int .i64 0, .int .i64 0], row 9 1 (.slice N' ns.length d') ns.length (stc ns)] u) (fun i _ => ps.length - (intOf i).toNat)
        case atStart => exact ⟨0, none, 0, [], [], Nat.zero_le _, rfl, VL.nil, hO.pick [0, 5, 2, 3, 4, 1] (by decide)⟩
        case round =>
          clear hO
          obtain ⟨m, A', c', pvs', Ls, hm, rfl, hvl, hO⟩ := hrel
          by_cases hlt : m < ps.length
          · have hsz := szL_mem HZ.out hlt
            have HT := Lib.hid (za6 hlt)
            obtain ⟨x, hx⟩ : ∃ x, ps[m]'hlt = x := ⟨_, rfl⟩
            obtain ⟨xk, xi, xp, xn, xc, xl, xo, xe⟩ := x
            obtain ⟨b, off, rfl, hb, Bi, Bp, Bn, Bc, Bl, di, dp, dn, dc, dl, hrd, d0, d1, d2, d3, d4, d5, d6, d7⟩ := h2.ptc hO.below hlt hx
            rw [hx] at hsz HT
            clear hx
            have CP := fun u (hb : Below w.heap.size w u) => (impl_copyV _ _ u (hrd.grow hb) hsz).mono fun e' w' h => RetV.exC h
            clear hsz
            go_wp2_with (first | ((with_reducible refine zac ?_); refine zal rfl hO rfl ?_; (refine nm 6 rfl ?_; clear hO; intro b6 u hO); simp only [zL, zK] at hO) | ((with_reducible refine zab ?_); refine zsb rfl hO rfl _ (by exact at6) rfl ?_; clear hO; intro u hO; simp only [zC, zB] at hO) | fail)
            clear d0 d1 d2 d3 d4 d5 d6 d7
            refine J.wp_region_c (n := 88) [0, 1, 2] [3, 4] (deps := fun i => [[], [0], [], [2], [2, 3], [], [], []].getD i []) (fun i d => [fun _ => True, fun _ => True, fun _ => True, (J.freshC xk xi xp xn xc xl xo xe), (J.freshS 28 ((d 3).1.cells.toList)), fun _ => True, fun _ => True, fun _ => True].getD i (fun _ => True)) (r := 3) (lst := #[true, true, true, true, true, false, false, false]) (by kernel_rfl) (by kernel_rfl) (by kernel_rfl) rfl (by decide) (by kernel_rfl) hO ?_
            refine zcp (h := ?_)
            refine zcc (f := fun M u hO K hK => by (exact zae hO rfl rfl _ (by exact at4) (by rfl) (by rfl) (hK _ hO))) (h := ?_)
            refine zcc (f := fun M u hO K hK => by (exact zah hO rfl rfl _ (by exact at6) (by rfl) (by rfl) (hK _ hO))) (h := ?_)
            refine J.Chain.nil ⟨?_, ?_⟩
            · refine J.Each.cons (by rfl) ?_ ?_; exact ⟨rfl, fun vs M u hO _ K hK => by ((try simp only [J.putL, zI, zG, zH, J.dstOf, zF, zD, zE, zS, zQ, zR, Act.put, zA, zB, zC]); (try simp only [wp_at_zero, wp_at_succ]); go_step; refine (CP _ hO.below).mono ?_; rintro e u ⟨Ci, Cp, Cn, Cc, Cl, ri, rp, rn, rc, rl, F, rfl, hvo, hb⟩; have hK' := hK _ _ _ (show (J.freshC xk xi xp xn xc xl xo xe) _ from ⟨Ci, Cp, Cn, Cc, Cl, ri, rp, rn, rc, rl, F, rfl, hvo⟩) ((hO.call hb).perm List.perm_append_comm); clear hK; simp only [J.putL, zI, zG, zH, J.dstOf, zF, zD, zE, zS, zQ, zR, Act.put, zA, zB, zC] at hK'; exact hK')⟩; refine J.Each.cons (by rfl) ?_ ?_; exact ⟨rfl, fun vs M u hO hF K hK => by (obtain ⟨Ci, Cp, Cn, Cc, Cl, ri, rp, rn, rc, rl, F, e3, hvo⟩ := (hF 3 (by decide) (by decide)).1; refine za4 (cs := [.int .i64 xk, .slice Ci xi.length ri, .slice Cp xp.length rp, .slice Cn xn.length rn, .slice Cc xc.length rc, .slice Cl xl.length rl, .int .i64 xo, .int .i64 xe]) hO rfl (by simp only [Act.eval, zJ, zP, J.putL, zI, zG, zH, J.dstOf, zF, zD, zE, zS, zQ, zR, Act.put, zA, zB, zC, e3]; rfl) rfl rfl (zM rfl) rfl fun b u hO => ?_; exact hK _ _ _ (show J.freshS 28 ((vs 3).1.cells.toList) _ from ⟨b, by rw [e3]; rfl⟩) hO)⟩; exact J.Each.nil
            intro vs u hO hF
            obtain ⟨Ci, Cp, Cn, Cc, Cl, ri, rp, rn, rc, rl, F, h3, hvo⟩ : (J.freshC xk xi xp xn xc xl xo xe) (vs 3) := hF 3 (by decide)
            have q4 : J.freshS 28 ((vs 3).1.cells.toList) (vs 4) := hF 4 (by decide)
            rw [h3] at q4
            obtain ⟨y4, h4⟩ : J.freshS 28 [.int .i64 xk, .slice Ci xi.length ri, .slice Cp xp.length rp, .slice Cn xn.length rn, .slice Cc xc.length rc, .slice Cl xl.length rl, .int .i64 xo, .int .i64 xe] (vs 4) := q4
            clear hF
            simp only [List.flatMap_cons, List.flatMap_nil, h3, h4, List.append_nil, zL, zK] at hO
            simp only [h3, h4, J.putL, zI, zG, zH, J.dstOf, zF, zD, zE, zS, zQ, zR, Act.put, zA, zB, zC]
            clear h3 h4 vs
            refine J.wpAny_one (i := 5) (by kernel_rfl) (by rfl) rfl fun K hK => ?_
            refine za3 hO rfl rfl rfl _ (by exact at1) _ (by exact at8) (by rfl) (by simp [Value.oneCell']) (by omega) (by omega) rfl ?_
            clear hO
            intro A' c' u hO
            simp only [zC, zB] at hO
            simp only [Act.put, zA, zB, zC]
            refine hK _ _ ?_
            clear hK K
            refine J.wpAny_one (i := 6) (by kernel_rfl) (by rfl) rfl fun K hK => ?_
            simp only [wp_at_zero, wp_at_succ]
            go_step
            refine hK _ _ ?_
            clear hK K
            refine J.wpAny_one (i := 7) (by kernel_rfl) (by rfl) rfl fun K hK => ?_
            (refine za1 hO rfl rfl _ (by exact at4) (zM rfl) (by simp only [Act.eval, zJ, zF, zD, zE, zP]; rfl) (by rfl) (by rfl) (by rfl) ?_; clear hO; intro u hO; simp only [zC, zB] at hO; refine hK _ _ ?_; clear hK K)
            refine wpAny_done (by kernel_rfl) ?_ _
            go_wp2_with fail
            replace hO := hO.pick [0, 7, 1, 2, 3, 4, 5] (by decide)
            simp only [zN, zO, zE, zD] at hO
            replace hO := hO.merge
            rw [← zbi, ← zbi] at hO
            go_roundw
            case rel => exact ⟨m + 1, _, _, _, _, by omega, by go_num, by rw [HT.out]; exact hvl.snoc hvo, hO⟩
            case measure => simp [intOf]; omega
          · have hmn : m = ps.length := by omega
            subst hmn
            have e1 : ps.take ps.length = ps := List.take_length ..
            rw [e1] at hvl
            clear e1 HZ h2
            go_wp2_with (first | ((with_reducible refine zaa ?_); refine zlf rfl hO rfl _ (by exact at2) ?_) | fail)
            go_loopw [53] (fun i u => ∃ (m : Nat) (A' : Option Addr) (c' : Nat) (pvs' : List (List Value)) (Ls : List (List Res)), m ≤ is.length ∧ i = .int .i64 m ∧ VL (ps ++ (is.take m).map (oneV k)) pvs' Ls ∧ Own w [pack Ls.flatten, row 28 8 (.slice A' (ps.length + m) c') (ps.length + m) pvs'.flatten, box b0 28 [.int .i64 k, .slice Ai is.length ci, .slice Ap ps.length cp, .slice An ns.length cn, .slice Ac cs.length cc, .slice Al ls.length cl, .int .i64 c, .int .i64 e], box b1 28 [.int .i64 0, .slice none 0 0, .slice none 0 0, .slice none 0 0, .slice none 0 0, .slice none 0 0, .int .i64 0, .int .i64 0], box b3 28 [.int .i64 4, .slice none 0 0, .slice A' (ps.length + m) c', .slice N' ns.length d', .slice none 0 0, .slice none 0 0, .int .i64 0, .int .i64 0], row 9 1 (.slice N' ns.length d') ns.length (stc ns)] u) (fun i _ => is.length - (intOf i).toNat)
            case atStart => exact ⟨0, _, _, _, _, Nat.zero_le _, rfl, by simpa using hvl, by simpa using hO⟩
            case round =>
              clear hO hvl
              obtain ⟨m, A', c', pvs', Ls, hm, rfl, hvl, hO⟩ := hrel
              by_cases hlt : m < is.length
              · obtain ⟨x, hx⟩ : ∃ x, is[m] = x := ⟨_, rfl⟩
                have HT := Lib.hid (mapSnoc (oneV k) hlt)
                obtain ⟨b, off, rfl, hb, d0, d1, d2⟩ := h1.it hO.below hlt hx
                rw [hx] at HT
                clear hx
                obtain ⟨xn, xd, xt⟩ := x
                simp only at d0 d1 d2
                go_wp2_with (first | ((with_reducible refine zac ?_); refine zal rfl hO rfl ?_; (refine nm 6 rfl ?_; clear hO; intro b6 u hO); simp only [zL, zK] at hO) | ((with_reducible refine zaa ?_); refine zlb rfl hO rfl _ (by (first | exact at2 | exact at6 | fail)) ?_) | ((with_reducible refine zaa ?_); refine zlf rfl hO rfl _ (by (first | exact at2 | exact at4 | fail)) ?_) | ((with_reducible refine zab ?_); refine zsb rfl hO rfl _ (by exact at6) rfl ?_; clear hO; intro u hO; simp only [zC, zB] at hO) | ((with_reducible refine zab ?_); refine zsf rfl hO rfl _ (by exact at4) (zM rfl) ?_; clear hO; intro u hO; simp only [zC, zB] at hO) | ((with_reducible refine zao ?_); refine zaw (cs := [.int .i64 xn, .int .i64 xd, .string xt]) hO rfl (by rfl) (by simp only [Act.eval, zJ, zF, zD, zE, zP]; rfl) rfl rfl (zM rfl) rfl (fun b => by simp only [Act.put, zA, zB, zC]; rfl) ?_; clear hO; intro be u hO; simp only [zL, zK] at hO) | ((with_reducible refine zao ?_); refine zaw (cs := [.int .i64 k, .slice (some ⟨be, 0, none⟩) 1 1, .slice none 0 0, .slice none 0 0, .slice none 0 0, .slice none 0 0, .int .i64 0, .int .i64 0]) hO rfl (by rfl) (by simp only [Act.eval, zJ, zF, zD, zE, zP]; rfl) rfl rfl (zM rfl) rfl (fun b => by simp only [Act.put, zA, zB, zC]; rfl) ?_; clear hO; intro bf u hO; simp only [zL, zK] at hO) | ((with_reducible refine za2 ?_); refine zav hO rfl (by rfl) rfl rfl _ (by exact at1) _ (by exact at8) (by rfl) (by simp [Value.oneCell']) (by omega) (by omega) rfl (fun A' c' => by simp only [Act.put, zA, zB, zC]; rfl) ?_; clear hO; intro A' c' u hO; simp only [zC, zB] at hO) | fail)
                clear d0 d1 d2
                replace hO := hO.pick [7, 0, 1, 2, 3, 4, 5] (by decide)
                simp only [zN, zO, zE, zD] at hO
                replace hO := hO.box_row 3 1 rfl (by decide)
                obtain ⟨F, hvo, hO⟩ := Own.vecIn (is := [⟨xn, xd, xt⟩]) hO k
                replace hO := hO.pick [1, 0, 2, 3, 4, 5, 6] (by decide)
                simp only [zN, zO, zE, zD] at hO
                replace hO := hO.merge
                rw [← zbi, ← zbi] at hO
                go_roundw
                case rel => exact ⟨m + 1, _, _, _, _, by omega, by go_num, by rw [HT.out, ← List.append_assoc]; exact hvl.snoc hvo, hO⟩
                case measure => simp [intOf]; omega
              · have hmn : m = is.length := by omega
                subst hmn
                have e1 : is.take is.length = is := List.take_length ..
                rw [e1] at hvl
                clear e1 h1
                have hq : ps.length + is.length = (ps ++ is.map (oneV k)).length := by simp
                have HN := Lib.hid hq
                clear hq
                go_wp2_with (first | ((with_reducible refine zaa ?_); refine zlb rfl hO rfl _ (by exact at4) ?_) | ((with_reducible refine zab ?_); refine zsb rfl hO rfl _ (by exact at3) rfl ?_; clear hO; intro u hO; simp only [zC, zB] at hO) | fail)
                rw [HN.out] at hO
                have hR := ((((hO.pick [0, 1, 5] (by decide)).addNil 35 3).addNil 9 1).addNil 9 1).pick [3, 1, 2, 4, 5, 0] (by decide)
                exact zau rfl hO rfl 3 at3 rfl rfl rfl ⟨_, _, by rw [HG.out]; rfl, by rw [HF.out]; exact VO.close (is := []) (cs := []) (ls := []) hvl, Own.packs [_, _, _, _, _] hR⟩
      · have HF : Hid (X = vecN kind (is.map (cvI k kind)) ns) := Lib.hid (by rw [HT.out, if_neg k5, if_neg hk, if_neg k4])
        have q4 : (kind == 4) = false := by simp [k4]
        clear HT HB CP h2
        go_enter Tryz.func25, Tryz.ntmps25
        have hO := Own.nil w
        go_wp2_with (first | ((with_reducible refine zac ?_); refine zal rfl hO rfl ?_; (refine nm 1 rfl ?_; clear hO; intro b1 u hO); simp only [zL, zK] at hO) | ((with_reducible refine zad ?_); refine zbx rfl hO rfl rfl ?_; (refine nm 0 rfl ?_; clear hO; intro b0 u hO); simp only [zL, zK] at hO) | ((with_reducible refine zaa ?_); refine zlf rfl hO rfl _ (by exact at0) ?_) | fail)
        refine (S3 _ hO.below).mono ?_
        rintro e u ⟨N', d', rfl, hb⟩
        replace hO := hO.call hb
        clear hb
        simp only [zK, zL] at hO
        go_wp2_with (first | ((with_reducible refine zac ?_); refine zal rfl hO rfl ?_; (refine nm 3 rfl ?_; clear hO; intro b3 u hO); simp only [zL, zK] at hO) | ((with_reducible refine zaa ?_); refine zlf rfl hO rfl _ (by exact at1) ?_) | ((with_reducible refine zab ?_); refine zsb rfl hO rfl _ (by exact at3) rfl ?_; clear hO; intro u hO; simp only [zC, zB] at hO) | fail)
        replace hO := hO.pick [0, 1, 2, 3] (by decide)
        simp only [zN, zO, zE, zD] at hO
        replace hO := hO.addNil 35 3
        simp only [List.cons_append, List.nil_append] at hO
        go_loopw [72] (fun i u => ∃ (m : Nat) (A' : Option Addr) (c' : Nat), m ≤ is.length ∧ i = .int .i64 m ∧ Own w [row 9 1 (.slice N' ns.length d') ns.length (stc ns), box b0 28 [.int .i64 k, .slice Ai is.length ci, .slice Ap ps.length cp, .slice An ns.length cn, .slice Ac cs.length cc, .slice Al ls.length cl, .int .i64 c, .int .i64 e], box b1 28 [.int .i64 0, .slice none 0 0, .slice none 0 0, .slice none 0 0, .slice none 0 0, .slice none 0 0, .int .i64 0, .int .i64 0], box b3 28 [.int .i64 kind, .slice A' m c', .slice none 0 0, .slice N' ns.length d', .slice none 0 0, .slice none 0 0, .int .i64 0, .int .i64 0], row 35 3 (.slice A' m c') m (itc ((is.take m).map (cvI k kind)))] u) (fun i _ => is.length - (intOf i).toNat)
        case atStart => exact ⟨0, none, 0, Nat.zero_le _, rfl, hO⟩
        case round =>
          clear hO
          obtain ⟨m, A', c', hm, rfl, hO⟩ := hrel
          by_cases hlt : m < is.length
          · have HSS := Lib.hid (itc_map_succ (cvI k kind) hlt)
            have hit := hi _ (List.getElem_mem hlt)
            obtain ⟨x, hx⟩ : ∃ x, is[m] = x := ⟨_, rfl⟩
            obtain ⟨b, off, rfl, hb, d0, d1, d2⟩ := h1.it hO.below hlt hx
            rw [hx] at HSS hit
            clear hx
            obtain ⟨xn, xd, xt⟩ := x
            have CI := fun u => impl_convertItem k kind xn xd xt u hit
            obtain ⟨y, hy⟩ : ∃ y, cvI k kind ⟨xn, xd, xt⟩ = y := ⟨_, rfl⟩
            rw [hy] at CI HSS
            obtain ⟨yn, yd, yt⟩ := y
            simp only [itc1] at HSS
            simp only at d0 d1 d2
            clear hy hit
            go_wp2_with (first | ((with_reducible refine zac ?_); refine zal rfl hO rfl ?_; (refine nm 5 rfl ?_; clear hO; intro b5 u hO); simp only [zL, zK] at hO) | ((with_reducible refine zab ?_); refine zsb rfl hO rfl _ (by exact at5) rfl ?_; clear hO; intro u hO; simp only [zC, zB] at hO) | fail)
            clear d0 d1 d2
            refine J.wp_region_c (n := 88) [0, 1, 2, 3, 4, 5, 6] [7] (deps := fun i => [[], [0], [], [], [3], [], [2, 3, 4, 5], [2, 3, 4, 5, 6], [], [], []].getD i []) (fun _ _ => (J.freshS 35 [.int .i64 yn, .int .i64 yd, .string yt])) (r := 3) (lst := #[true, true, true, true, true, true, true, true, false, false, false]) (by kernel_rfl) (by kernel_rfl) (by kernel_rfl) rfl (by decide) (by kernel_rfl) hO ?_
            refine zcp (h := ?_)
            refine zcc (f := fun M u hO K hK => by (exact zae hO rfl rfl _ (by exact at3) (by rfl) (by rfl) (hK _ hO))) (h := ?_)
            refine zcc (f := fun M u hO K hK => by (exact zah hO rfl rfl _ (by exact at5) (by rfl) (by rfl) (hK _ hO))) (h := ?_)
            refine zcp (h := ?_)
            refine zcc (f := fun M u hO K hK => by (exact zae hO rfl rfl _ (by exact at1) (by rfl) (by rfl) (hK _ hO))) (h := ?_)
            refine zcp (h := ?_)
            refine zcc (f := fun M u hO K hK => by (simp only [wp_at_zero, wp_at_succ]; go_step; refine (CI _).mono ?_; rintro e u ⟨rfl, hb⟩; exact hK _ (hO.step hb))) (h := ?_)
            refine J.Chain.nil ⟨?_, ?_⟩
            · refine J.Each.cons (by rfl) ?_ ?_; exact ⟨rfl, fun vs M u hO _ K hK => by (refine za4 (cs := [.int .i64 yn, .int .i64 yd, .string yt]) hO rfl (by simp only [Act.eval, zJ, zP, J.putL, zI, zG, zH, J.dstOf, zF, zD, zE, zS, zQ, zR, Act.put, zA, zB, zC]; rfl) rfl rfl (zM rfl) rfl fun b u hO => ?_; exact hK _ _ _ (show (J.freshS 35 [.int .i64 yn, .int .i64 yd, .string yt]) _ from ⟨b, rfl⟩) hO)⟩; exact J.Each.nil
            intro vs u hO hF
            obtain ⟨b6, h7⟩ : J.freshS _ _ (vs 7) := hF 7 (by decide)
            clear hF
            simp only [List.flatMap_cons, List.flatMap_nil, h7, List.append_nil, zL, zK] at hO
            simp only [h7, J.putL, zI, zG, zH, J.dstOf, zF, zD, zE, zS, zQ, zR, Act.put, zA, zB, zC]
            clear h7 vs
            refine J.wpAny_one (i := 8) (by kernel_rfl) (by rfl) rfl fun K hK => ?_
            refine za3 hO rfl rfl rfl _ (by exact at4) _ (by exact at6) (by rfl) (by simp [Value.oneCell']) (by omega) (by omega) rfl ?_
            clear hO
            intro A' c' u hO
            simp only [zC, zB] at hO
            simp only [Act.put, zA, zB, zC]
            refine hK _ _ ?_
            clear hK K
            refine J.wpAny_one (i := 9) (by kernel_rfl) (by rfl) rfl fun K hK => ?_
            simp only [wp_at_zero, wp_at_succ]
            go_step
            refine hK _ _ ?_
            clear hK K
            refine J.wpAny_one (i := 10) (by kernel_rfl) (by rfl) rfl fun K hK => ?_
            (refine za1 hO rfl rfl _ (by exact at3) (zM rfl) (by simp only [Act.eval, zJ, zF, zD, zE, zP]; rfl) (by rfl) (by rfl) (by rfl) ?_; clear hO; intro u hO; simp only [zC, zB] at hO; refine hK _ _ ?_; clear hK K)
            refine wpAny_done (by kernel_rfl) ?_ _
            go_wp2_with fail
            replace hO := hO.pick [0, 1, 2, 3, 4] (by decide)
            simp only [zN, zO, zE, zD] at hO
            rw [← HSS.out] at hO
            go_roundw
            case rel => exact ⟨m + 1, _, _, by omega, by go_num, hO⟩
            case measure => simp [intOf]; omega
          · have hmn : m = is.length := by omega
            subst hmn
            have HN : Hid (is.length = (is.map (cvI k kind)).length) := Lib.hid (by rw [List.length_map])
            rw [List.take_length] at hO
            go_wp2_with (first | ((with_reducible refine zaa ?_); refine zlb rfl hO rfl _ (by exact at3) ?_) | ((with_reducible refine zab ?_); refine zsb rfl hO rfl _ (by exact at2) rfl ?_; clear hO; intro u hO; simp only [zC, zB] at hO) | fail)
            have hR := hO.pick [4, 0] (by decide)
            simp only [List.filterMap_cons, List.filterMap_nil, List.getElem?_cons_zero, List.getElem?_cons_succ] at hR
            have hq := HN.out
            refine zau rfl hO rfl 2 at2 rfl rfl rfl ?_
            clear hO
            rw [hq] at hR ⊢
            obtain ⟨F, hvo, hF⟩ := Own.vecN hR kind
            exact ⟨_, _, by rw [HG.out]; rfl, by rw [HF.out]; exact hvo, hF⟩

end Go.Proofs.YtmofcbpabdbjlaaGreat
