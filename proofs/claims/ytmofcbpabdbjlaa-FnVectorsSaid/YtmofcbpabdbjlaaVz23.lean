/-
  What is proved: copies of vectors of the reference (l4Copy, l4Copies).
  Condition: vectors of size at most 1048576; l4Copy: a vector that is valid but for its cells.
-/
import Derived.Deep.Cut
import Derived.Test.YtmofcbpabdbjlaaVz6
import Derived.Test.YtmofcbpabdbjlaaVz21
import Derived.Test.YtmofcbpabdbjlaaVz22
namespace Go.Proofs.Ytmofcbpabdbjlaa

set_option maxRecDepth 8000

section

open Go.RowKit Go.ChangeShapes Go.WideShapes Go.Deep

set_option linter.unusedVariables false

set_option linter.unusedSimpArgs false

/-- hands back a slice of owned vectors -/
def RetL (ps : List VT) (w : World) (e : Ending) (w' : World) : Prop := ∃ A c pvs Ls, e = .returned (.slice A ps.length c) ∧ VL ps pvs Ls ∧ Own w [row 29 8 (.slice A ps.length c) ps.length pvs.flatten, pack Ls.flatten] w'

def J.freshL (ps : List VT) : Value × List Res → Prop := fun x => ∃ A c pvs Ls, x = (.slice A ps.length c, [row 29 8 (.slice A ps.length c) ps.length pvs.flatten, pack Ls.flatten]) ∧ VL ps pvs Ls

def PCopS (t : VT) : Prop := lB 3 t = true → ∀ (vs : List Value) (w : World), RdV w t vs → szV t ≤ 1048576 → Calls Try.prog 108 #[.agg vs.toArray] w (RetV t w)

theorem copL_len' (ps : List VT) : (copL ps).length = min 41 ps.length := by
  unfold copL
  rw [List.length_map, List.length_take]

set_option maxRecDepth 20000 in
set_option maxHeartbeats 4000000 in
theorem spec_copies (ps : List VT) (ih : ∀ p ∈ ps, PCopS p) (A : Option Addr) (c : Nat) (pvs : List (List Value)) (w : World) (h : RdL w A ps pvs) (hz : szL ps ≤ 1048576) : Calls Try.prog 63 #[.slice A ps.length c] w (RetL (copL ps) w) := by
  have HZ := Lib.hid hz
  have hle : ps.length ≤ 1048576 := by have := szL_eq ps; omega
  go_enter Try.func63, Try.ntmps63
  have hO := Own.nil w
  go_wp2_with (first | ((with_reducible refine zag ?_); refine zav hO rfl (by rfl) rfl (fun b => by simp only [Act.put, zA, zB, zC]; rfl) ?_; clear hO; intro bb u hO; simp only [zL, zK] at hO) | fail)
  replace hO := Own.pack (F := []) hO
  go_loopw [3, 4] (fun s i u => ∃ (m : Nat) (A' : Option Addr) (c' : Nat) (pvs' : List (List Value)) (Ls : List (List Res)), m ≤ min 41 ps.length ∧ i = .int .i64 m ∧ s = .slice A' m c' ∧ VL ((ps.take m).map copP) pvs' Ls ∧ Own w [row 29 8 (.slice A' m c') m pvs'.flatten, pack Ls.flatten] u) (fun _ i _ => ps.length - (intOf i).toNat)
  case atStart => exact ⟨0, _, _, [], [], Nat.zero_le _, rfl, rfl, VL.nil, hO.pick [1, 0] (by decide)⟩
  case round =>
    clear hO
    obtain ⟨m, A', c', pvs', Ls, hm, rfl, rfl, hvl, hO⟩ := hrel
    by_cases hlt : m < ps.length
    · by_cases h40 : m ≤ 40
      · have hp := ih _ (List.getElem_mem hlt)
        have hsz := szL_mem HZ.out hlt
        have HT : Hid ((ps.take (m + 1)).map copP = (ps.take m).map copP ++ [copP (ps[m]'hlt)]) := Lib.hid (by rw [zat hlt, List.map_append]; rfl)
        obtain ⟨x, hx⟩ : ∃ x, ps[m]'hlt = x := ⟨_, rfl⟩
        obtain ⟨xk, xi, xp, xn, xc, xl, xo, xe⟩ := x
        obtain ⟨b, off, rfl, hb, Bi, Bp, Bn, Bc, Bl, di, dp, dn, dc, dl, hrd, d0, d1, d2, d3, d4, d5, d6, d7⟩ := h.ptc (Below.refl _ _) hlt hx
        rw [hx] at hp hsz HT
        have CI : ∀ u, Below w.heap.size w u → Calls Try.prog 129 #[.agg #[.int .i64 xk, .slice Bi xi.length di, .slice Bp xp.length dp, .slice Bn xn.length dn, .slice Bc xc.length dc, .slice Bl xl.length dl, .int .i64 xo, .int .i64 xe], .int .i64 3] u fun e w' => e = .returned (.bool (lB 3 (.mk xk xi xp xn xc xl xo xe))) ∧ Below u.heap.size u w' := fun u hb => spec_lis _ _ 3 u (Nat.le_refl _) (hrd.grow hb) (Nat.le_trans hsz (by decide))
        clear hx
        have i1 : (m : Int) < (ps.length : Int) := by omega
        have i2 : (m : Int) ≤ 40 := by omega
        cases hq : lB 3 (.mk xk xi xp xn xc xl xo xe) with
        | false =>
          rw [hq] at CI
          have HC : Hid (copP (.mk xk xi xp xn xc xl xo xe) = vecI (-1) []) := Lib.hid (by unfold copP; rw [hq]; rfl)
          rw [HC.out] at HT
          clear hp hq HC
          go_upto_region 5 with fail
          have e0 := (hO.old hb).trans d0
          have e1 := (hO.old hb).trans d1
          have e2 := (hO.old hb).trans d2
          have e3 := (hO.old hb).trans d3
          have e4 := (hO.old hb).trans d4
          have e5 := (hO.old hb).trans d5
          have e6 := (hO.old hb).trans d6
          have e7 := (hO.old hb).trans d7
          go_upto_region 6 with (first | ((with_reducible refine (CI _ hO.below).mono ?_); rintro e u ⟨rfl, hb⟩; (replace hO := hO.step hb; clear hb)) | fail)
          clear e0 e1 e2 e3 e4 e5 e6 e7 CI hrd
          go_wp2_with (first | ((with_reducible refine zag ?_); refine zak (cs := [.int .i64 (-1), .slice none 0 0, .slice none 0 0, .slice none 0 0, .slice none 0 0, .slice none 0 0, .int .i64 0, .int .i64 0]) hO rfl (by rfl) (by simp only [Act.eval, zJ, zF, zD, zE, zP]; rfl) rfl rfl (zM rfl) rfl (fun b => by simp only [Act.put, zA, zB, zC]; rfl) ?_; clear hO; intro bb u hO; simp only [zL, zK] at hO) | ((with_reducible refine zaq ?_); refine zam hO rfl (by rfl) rfl rfl _ (by exact at0) _ (by exact at2) (by rfl) (by simp [Value.oneCell']) (by omega) (by omega) rfl (fun A' c' => by simp only [Act.put, zA, zB, zC]; rfl) ?_; clear hO; intro A' c' u hO; simp only [zC, zB] at hO) | fail)
          obtain ⟨F, hvo, hF⟩ := Own.vec0 u (-1)
          replace hO := hO.call hF
          simp only [List.cons_append, List.nil_append] at hO
          replace hO := hO.pick [2, 0, 1] (by decide)
          simp only [zN, zO, zE, zD] at hO
          replace hO := hO.merge
          rw [← za4, ← za4] at hO
          go_roundw
          case rel => exact ⟨m + 1, _, _, _, _, by omega, by go_num, rfl, by rw [HT.out]; exact hvl.snoc hvo, hO.pick [1, 0] (by decide)⟩
          case measure => simp [intOf]; omega
        | true =>
          rw [hq] at CI
          have HC : Hid (copP (.mk xk xi xp xn xc xl xo xe) = .mk xk xi xp xn xc xl xo xe) := Lib.hid (by unfold copP; rw [hq]; rfl)
          rw [HC.out] at HT
          have CP := fun u (hb : Below w.heap.size w u) => (hp hq _ u (hrd.grow hb) hsz).mono fun e' w' h => RetV.exC h
          clear hp hq HC
          go_upto_region 5 with fail
          have e0 := (hO.old hb).trans d0
          have e1 := (hO.old hb).trans d1
          have e2 := (hO.old hb).trans d2
          have e3 := (hO.old hb).trans d3
          have e4 := (hO.old hb).trans d4
          have e5 := (hO.old hb).trans d5
          have e6 := (hO.old hb).trans d6
          have e7 := (hO.old hb).trans d7
          go_upto_region 7 with (first | ((with_reducible refine (CI _ hO.below).mono ?_); rintro e u ⟨rfl, hb⟩; (replace hO := hO.step hb; clear hb)) | fail)
          clear e0 e1 e2 e3 e4 e5 e6 e7 CI hrd
          have e0 := (hO.old hb).trans d0
          have e1 := (hO.old hb).trans d1
          have e2 := (hO.old hb).trans d2
          have e3 := (hO.old hb).trans d3
          have e4 := (hO.old hb).trans d4
          have e5 := (hO.old hb).trans d5
          have e6 := (hO.old hb).trans d6
          have e7 := (hO.old hb).trans d7
          go_wp2_with fail
          clear e0 e1 e2 e3 e4 e5 e6 e7
          refine (CP _ hO.below).mono ?_
          rintro e u ⟨Ci, Cp, Cn, Cc, Cl, ri, rp, rn, rc, rl, F, rfl, hvo, hb2⟩
          replace hO := hO.call hb2
          clear hb2 CP
          simp only [List.cons_append, List.nil_append] at hO
          replace hO := hO.pick [1, 2, 0] (by decide)
          simp only [zN, zO, zE, zD] at hO
          go_wp2_with (first | ((with_reducible refine zag ?_); refine zak (cs := [.int .i64 xk, .slice Ci xi.length ri, .slice Cp xp.length rp, .slice Cn xn.length rn, .slice Cc xc.length rc, .slice Cl xl.length rl, .int .i64 xo, .int .i64 xe]) hO rfl (by rfl) (by simp only [Act.eval, zJ, zF, zD, zE, zP]; rfl) rfl rfl (zM rfl) rfl (fun b => by simp only [Act.put, zA, zB, zC]; rfl) ?_; clear hO; intro bb u hO; simp only [zL, zK] at hO) | ((with_reducible refine zaq ?_); refine zam hO rfl (by rfl) rfl rfl _ (by exact at0) _ (by exact at3) (by rfl) (by simp [Value.oneCell']) (by omega) (by omega) rfl (fun A' c' => by simp only [Act.put, zA, zB, zC]; rfl) ?_; clear hO; intro A' c' u hO; simp only [zC, zB] at hO) | fail)
          replace hO := hO.pick [1, 2, 0] (by decide)
          simp only [zN, zO, zE, zD] at hO
          replace hO := hO.merge
          rw [← za4, ← za4] at hO
          go_roundw
          case rel => exact ⟨m + 1, _, _, _, _, by omega, by go_num, rfl, by rw [HT.out]; exact hvl.snoc hvo, hO.pick [1, 0] (by decide)⟩
          case measure => simp [intOf]; omega
      · have hm41 : m = 41 := by omega
        subst hm41
        have HT : Hid ((ps.take 41).map copP = copL ps) := Lib.hid rfl
        have HN : Hid (41 = (copL ps).length) := Lib.hid (by rw [copL_len']; omega)
        have i1 : ((41 : Nat) : Int) < (ps.length : Int) := by omega
        rw [HT.out] at hvl
        clear h hlt hm h40
        go_wp2_with fail
        go_ret
        have hq := HN.out
        rw [hq] at hO ⊢
        exact ⟨_, _, _, _, rfl, hvl, hO⟩
    · have hmn : m = ps.length := by omega
      subst hmn
      have HT : Hid ((ps.take ps.length).map copP = copL ps) := Lib.hid (by unfold copL; rw [List.take_of_length_le (Nat.le_refl _), List.take_of_length_le (by omega)])
      have HN : Hid (ps.length = (copL ps).length) := Lib.hid (by rw [copL_len']; omega)
      rw [HT.out] at hvl
      go_wp2_with fail
      go_ret
      have hq := HN.out
      rw [hq] at hO ⊢
      exact ⟨_, _, _, _, rfl, hvl, hO⟩

set_option maxRecDepth 20000 in
set_option maxHeartbeats 4000000 in
theorem spec_copy (t : VT) : PCopS t := by
  induction t using VT.ind with
  | _ k is ps ns cs ls c e ih =>
    intro hB vs w hv hz
    obtain ⟨Ai, Ap, An, Ac, Al, ci, cp, cn, cc, cl, pvs, rfl, h1, h2, h3, h4, h5⟩ := hv.open
    have HT : szV (.mk k is ps ns cs ls c e) = szI is + szL ps + szS ns + szS cs + szS ls := rfl
    unfold szI szS at HT
    have z1 : is.length ≤ 1048576 := by omega
    have z2 : szL ps ≤ 1048576 := by omega
    have z3 : ns.length ≤ 1048576 := by omega
    have z4 : cs.length ≤ 1048576 := by omega
    have z5 : ls.length ≤ 1048576 := by omega
    have hP : copL ps = ps := copL_eq (lB_parts hB) (by have := lB_short hB; omega)
    have CL := fun u (hb : Below w.heap.size w u) => spec_copies ps ih Ap cp pvs u (h2.below hb) z2
    rw [hP] at CL
    clear HT hv hz hP hB ih
    go_enter Try.func108, Try.ntmps108
    have hO := Own.nil w
    go_wp2_with (first | ((with_reducible refine zac ?_); refine zal rfl hO rfl ?_; (refine nm 1 rfl ?_; clear hO; intro b1 u hO); simp only [zL, zK] at hO) | ((with_reducible refine zaf ?_); refine zbx rfl hO rfl rfl ?_; (refine nm 0 rfl ?_; clear hO; intro b0 u hO); simp only [zL, zK] at hO) | fail)
    refine J.wp_region_c (n := 29) [0, 1, 3, 4, 6, 7, 10, 11, 14, 15, 18, 19, 21, 22, 23, 24] [2, 5, 8, 9, 12, 13, 16, 17, 20, 25] (deps := fun i => [[], [0], [], [], [3], [2, 3, 4], [], [6], [6, 7], [], [], [10], [9, 10, 11], [], [], [14], [13, 14, 15], [], [], [18], [17, 18, 19], [], [21], [], [23], [0, 1, 2, 3, 4, 5, 6, 7, 8, 9, 10, 11, 12, 13, 14, 15, 16, 17, 18, 19, 20, 21, 22, 23, 24], []].getD i []) (fun i d => [fun _ => True, fun _ => True, (J.fresh0 83 3), fun _ => True, fun _ => True, (J.freshA 83 3 is.length (itc is) (d 2)), fun _ => True, fun _ => True, (J.freshL ps), (J.fresh0 9 1), fun _ => True, fun _ => True, (J.freshA 9 1 ns.length (stc ns) (d 9)), (J.fresh0 9 1), fun _ => True, fun _ => True, (J.freshA 9 1 cs.length (stc cs) (d 13)), (J.fresh0 9 1), fun _ => True, fun _ => True, (J.freshA 9 1 ls.length (stc ls) (d 17)), fun _ => True, fun _ => True, fun _ => True, fun _ => True, (fun x => x = (Value.agg #[.int .i64 k, (d 5).1, (d 8).1, (d 12).1, (d 16).1, (d 20).1, .int .i64 c, .int .i64 e], [])), fun _ => True].getD i (fun _ => True)) (r := 1) (lst := #[true, true, true, true, true, true, true, true, true, true, true, true, true, true, true, true, true, true, true, true, true, true, true, true, true, true, false]) (by kernel_rfl) (by kernel_rfl) (by kernel_rfl) rfl (by decide) (by kernel_rfl) hO ?_
    refine zcp (h := ?_)
    refine zcc (f := fun M u hO K hK => by (exact zad hO rfl rfl _ (by exact at0) (by rfl) (by rfl) (hK _ hO))) (h := ?_)
    refine zcp (h := ?_)
    refine zcc (f := fun M u hO K hK => by (exact zad hO rfl rfl _ (by exact at0) (by rfl) (by rfl) (hK _ hO))) (h := ?_)
    refine zcp (h := ?_)
    refine zcc (f := fun M u hO K hK => by (exact zad hO rfl rfl _ (by exact at0) (by rfl) (by rfl) (hK _ hO))) (h := ?_)
    refine zcp (h := ?_)
    refine zcc (f := fun M u hO K hK => by (exact zad hO rfl rfl _ (by exact at0) (by rfl) (by rfl) (hK _ hO))) (h := ?_)
    refine zcp (h := ?_)
    refine zcc (f := fun M u hO K hK => by (exact zad hO rfl rfl _ (by exact at0) (by rfl) (by rfl) (hK _ hO))) (h := ?_)
    refine zcp (h := ?_)
    refine zcc (f := fun M u hO K hK => by (exact zad hO rfl rfl _ (by exact at0) (by rfl) (by rfl) (hK _ hO))) (h := ?_)
    refine zcp (h := ?_)
    refine zcc (f := fun M u hO K hK => by (exact zad hO rfl rfl _ (by exact at0) (by rfl) (by rfl) (hK _ hO))) (h := ?_)
    refine zcp (h := ?_)
    refine zcc (f := fun M u hO K hK => by (exact zad hO rfl rfl _ (by exact at0) (by rfl) (by rfl) (hK _ hO))) (h := ?_)
    refine J.Chain.nil ⟨?_, ?_⟩
    · refine J.Each.cons (by rfl) ?_ ?_; exact ⟨rfl, fun vs M u hO _ K hK => by (refine za2 hO rfl rfl fun b u hO => ?_; exact hK _ _ _ (show J.fresh0 83 3 _ from ⟨b, rfl⟩) hO)⟩; refine J.Each.cons (by rfl) ?_ ?_; exact ⟨rfl, fun vs M u hO hF K hK => by (obtain ⟨z2, e2⟩ := (hF 2 (by decide) (by decide)).1; refine za3 hO rfl (b := z2) (by simp only [Act.eval, zJ, zP, J.putL, zI, zG, zH, J.dstOf, zF, zD, zE, zS, zQ, zR, Act.put, zA, zB, zC, e2] <;> rfl) (by simp only [Act.eval, zJ, zP, J.putL, zI, zG, zH, J.dstOf, zF, zD, zE, zS, zQ, zR, Act.put, zA, zB, zC] <;> rfl) (h1.below hO.below) (by omega) (by omega) ?_; intro A' c' u hz hO; exact hK _ _ _ (show J.freshA 83 3 is.length (itc is) (vs 2) _ from ⟨A', c', rfl, fun h => (congrArg Prod.fst e2).trans (hz h)⟩) hO)⟩; refine J.Each.cons (by rfl) ?_ ?_; exact ⟨rfl, fun vs M u hO _ K hK => by ((try simp only [J.putL, zI, zG, zH, J.dstOf, zF, zD, zE, zS, zQ, zR, Act.put, zA, zB, zC]); (try simp only [wp_at_zero, wp_at_succ]); go_step; refine (CL _ hO.below).mono ?_; rintro e u ⟨Ap', cp', pvs', Ls', rfl, hvl, hb⟩; have hK' := hK _ _ _ (show (J.freshL ps) _ from ⟨Ap', cp', pvs', Ls', rfl, hvl⟩) ((hO.call hb).perm List.perm_append_comm); clear hK; simp only [J.putL, zI, zG, zH, J.dstOf, zF, zD, zE, zS, zQ, zR, Act.put, zA, zB, zC] at hK'; exact hK')⟩; refine J.Each.cons (by rfl) ?_ ?_; exact ⟨rfl, fun vs M u hO _ K hK => by (refine za2 hO rfl rfl fun b u hO => ?_; exact hK _ _ _ (show J.fresh0 9 1 _ from ⟨b, rfl⟩) hO)⟩; refine J.Each.cons (by rfl) ?_ ?_; exact ⟨rfl, fun vs M u hO hF K hK => by (obtain ⟨z9, e9⟩ := (hF 9 (by decide) (by decide)).1; refine za3 hO rfl (b := z9) (by simp only [Act.eval, zJ, zP, J.putL, zI, zG, zH, J.dstOf, zF, zD, zE, zS, zQ, zR, Act.put, zA, zB, zC, e9] <;> rfl) (by simp only [Act.eval, zJ, zP, J.putL, zI, zG, zH, J.dstOf, zF, zD, zE, zS, zQ, zR, Act.put, zA, zB, zC] <;> rfl) (h3.below hO.below) (by omega) (by omega) ?_; intro A' c' u hz hO; exact hK _ _ _ (show J.freshA 9 1 ns.length (stc ns) (vs 9) _ from ⟨A', c', rfl, fun h => (congrArg Prod.fst e9).trans (hz h)⟩) hO)⟩; refine J.Each.cons (by rfl) ?_ ?_; exact ⟨rfl, fun vs M u hO _ K hK => by (refine za2 hO rfl rfl fun b u hO => ?_; exact hK _ _ _ (show J.fresh0 9 1 _ from ⟨b, rfl⟩) hO)⟩; refine J.Each.cons (by rfl) ?_ ?_; exact ⟨rfl, fun vs M u hO hF K hK => by (obtain ⟨z13, e13⟩ := (hF 13 (by decide) (by decide)).1; refine za3 hO rfl (b := z13) (by simp only [Act.eval, zJ, zP, J.putL, zI, zG, zH, J.dstOf, zF, zD, zE, zS, zQ, zR, Act.put, zA, zB, zC, e13] <;> rfl) (by simp only [Act.eval, zJ, zP, J.putL, zI, zG, zH, J.dstOf, zF, zD, zE, zS, zQ, zR, Act.put, zA, zB, zC] <;> rfl) (h4.below hO.below) (by omega) (by omega) ?_; intro A' c' u hz hO; exact hK _ _ _ (show J.freshA 9 1 cs.length (stc cs) (vs 13) _ from ⟨A', c', rfl, fun h => (congrArg Prod.fst e13).trans (hz h)⟩) hO)⟩; refine J.Each.cons (by rfl) ?_ ?_; exact ⟨rfl, fun vs M u hO _ K hK => by (refine za2 hO rfl rfl fun b u hO => ?_; exact hK _ _ _ (show J.fresh0 9 1 _ from ⟨b, rfl⟩) hO)⟩; refine J.Each.cons (by rfl) ?_ ?_; exact ⟨rfl, fun vs M u hO hF K hK => by (obtain ⟨z17, e17⟩ := (hF 17 (by decide) (by decide)).1; refine za3 hO rfl (b := z17) (by simp only [Act.eval, zJ, zP, J.putL, zI, zG, zH, J.dstOf, zF, zD, zE, zS, zQ, zR, Act.put, zA, zB, zC, e17] <;> rfl) (by simp only [Act.eval, zJ, zP, J.putL, zI, zG, zH, J.dstOf, zF, zD, zE, zS, zQ, zR, Act.put, zA, zB, zC] <;> rfl) (h5.below hO.below) (by omega) (by omega) ?_; intro A' c' u hz hO; exact hK _ _ _ (show J.freshA 9 1 ls.length (stc ls) (vs 17) _ from ⟨A', c', rfl, fun h => (congrArg Prod.fst e17).trans (hz h)⟩) hO)⟩; refine J.Each.cons (by rfl) ?_ ?_; exact ⟨rfl, fun vs M u hO hF K hK => by ((try simp only [J.putL, zI, zG, zH, J.dstOf, zF, zD, zE, zS, zQ, zR, Act.put, zA, zB, zC]); obtain ⟨z2, e2⟩ := (hF 2 (by decide) (by decide)).1; obtain ⟨A5, c5, e5, g5⟩ := (hF 5 (by decide) (by decide)).1; obtain ⟨Ap', cp', pvs', Ls', e8, hvl⟩ := (hF 8 (by decide) (by decide)).1; obtain ⟨z9, e9⟩ := (hF 9 (by decide) (by decide)).1; obtain ⟨A12, c12, e12, g12⟩ := (hF 12 (by decide) (by decide)).1; obtain ⟨z13, e13⟩ := (hF 13 (by decide) (by decide)).1; obtain ⟨A16, c16, e16, g16⟩ := (hF 16 (by decide) (by decide)).1; obtain ⟨z17, e17⟩ := (hF 17 (by decide) (by decide)).1; obtain ⟨A20, c20, e20, g20⟩ := (hF 20 (by decide) (by decide)).1; have hK' := hK (Value.agg #[.int .i64 k, .slice A5 is.length c5, .slice Ap' ps.length cp', .slice A12 ns.length c12, .slice A16 cs.length c16, .slice A20 ls.length c20, .int .i64 c, .int .i64 e]) [] u (show (Value.agg #[.int .i64 k, .slice A5 is.length c5, .slice Ap' ps.length cp', .slice A12 ns.length c12, .slice A16 cs.length c16, .slice A20 ls.length c20, .int .i64 c, .int .i64 e], ([] : List Res)) = (Value.agg #[.int .i64 k, (vs 5).1, (vs 8).1, (vs 12).1, (vs 16).1, (vs 20).1, .int .i64 c, .int .i64 e], []) from by simp only [e2, e5, e8, e9, e12, e13, e16, e17, e20]) (by rw [List.append_nil]; exact hO); clear hK hF; simp only [J.putL, zI, zG, zH, J.dstOf, zF, zD, zE, zS, zQ, zR, Act.put, zA, zB, zC, e2, e5, e8, e9, e12, e13, e16, e17, e20] at hK' ⊢; (try simp only [wp_at_zero, wp_at_succ]); go_step; exact hK')⟩; exact J.Each.nil
    intro vs u hO hF
    obtain ⟨z2, h2⟩ : J.fresh0 83 3 (vs 2) := hF 2 (by decide)
    obtain ⟨A5, c5, h5, g5⟩ : J.freshA 83 3 is.length (itc is) (vs 2) (vs 5) := hF 5 (by decide)
    simp only [h2] at g5
    obtain ⟨Ap', cp', pvs', Ls', h8, hvl⟩ : (J.freshL ps) (vs 8) := hF 8 (by decide)
    obtain ⟨z9, h9⟩ : J.fresh0 9 1 (vs 9) := hF 9 (by decide)
    obtain ⟨A12, c12, h12, g12⟩ : J.freshA 9 1 ns.length (stc ns) (vs 9) (vs 12) := hF 12 (by decide)
    simp only [h9] at g12
    obtain ⟨z13, h13⟩ : J.fresh0 9 1 (vs 13) := hF 13 (by decide)
    obtain ⟨A16, c16, h16, g16⟩ : J.freshA 9 1 cs.length (stc cs) (vs 13) (vs 16) := hF 16 (by decide)
    simp only [h13] at g16
    obtain ⟨z17, h17⟩ : J.fresh0 9 1 (vs 17) := hF 17 (by decide)
    obtain ⟨A20, c20, h20, g20⟩ : J.freshA 9 1 ls.length (stc ls) (vs 17) (vs 20) := hF 20 (by decide)
    simp only [h17] at g20
    have h25 : vs 25 = (Value.agg #[.int .i64 k, (vs 5).1, (vs 8).1, (vs 12).1, (vs 16).1, (vs 20).1, .int .i64 c, .int .i64 e], []) := hF 25 (by decide)
    simp only [h2, h5, h8, h9, h12, h13, h16, h17, h20] at h25
    clear hF
    simp only [List.flatMap_cons, List.flatMap_nil, h2, h5, h8, h9, h12, h13, h16, h17, h20, h25, List.append_nil, zL, zK] at hO
    simp only [h2, h5, h8, h9, h12, h13, h16, h17, h20, h25, J.putL, zI, zG, zH, J.dstOf, zF, zD, zE, zS, zQ, zR, Act.put, zA, zB, zC]
    clear h2 h5 h8 h9 h12 h13 h16 h17 h20 h25 vs
    refine J.wpAny_one (i := 26) (by kernel_rfl) (by rfl) rfl fun K hK => ?_
    (refine zas hO rfl rfl _ (by exact at1) rfl (by rfl) (by rfl) (by rfl) (by rfl) (by rfl) ?_; clear hO; intro u hO; simp only [zC, zB] at hO; refine hK _ _ ?_; clear hK K)
    refine wpAny_done (by kernel_rfl) ?_ _
    go_wp2_with fail
    replace hO := hO.pick [2, 3, 4, 5, 6, 7, 8, 9, 10, 11, 0, 1] (by decide)
    simp only [zN, zO, zE, zD] at hO
    replace hO := hO.join g5 (itc_len is)
    replace hO := hO.pick [3, 4, 5, 6, 7, 8, 0, 1, 2, 9, 10] (by decide)
    simp only [zN, zO, zE, zD] at hO
    replace hO := hO.join g12 (by rw [stc_len, Nat.mul_one])
    replace hO := hO.pick [1, 2, 3, 4, 5, 6, 7, 0, 8, 9] (by decide)
    simp only [zN, zO, zE, zD] at hO
    replace hO := hO.join g16 (by rw [stc_len, Nat.mul_one])
    replace hO := hO.pick [1, 2, 3, 4, 5, 6, 0, 7, 8] (by decide)
    simp only [zN, zO, zE, zD] at hO
    replace hO := hO.join g20 (by rw [stc_len, Nat.mul_one])
    exact zan rfl hO rfl 7 at7 rfl rfl ⟨_, _, rfl, VO.close hvl, Own.packs [_, _, _, _, _] (hO.pick [1, 2, 4, 5, 0, 3] (by decide))⟩

theorem spec_copiesL (A : Option Addr) (c : Nat) (ps : List VT) (pvs : List (List Value)) (w : World) (h : RdL w A ps pvs) (hz : szL ps ≤ 1048576) : Calls Try.prog 63 #[.slice A ps.length c] w (RetL (copL ps) w) :=
  spec_copies ps (fun p _ => spec_copy p) A c pvs w h hz

end

end Go.Proofs.Ytmofcbpabdbjlaa
