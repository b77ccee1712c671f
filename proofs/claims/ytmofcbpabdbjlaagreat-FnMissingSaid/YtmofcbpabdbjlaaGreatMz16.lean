/-
  What is proved: copies of vectors of the reference (l4Copy, l4Copies); a valid vector is small; the rule for regions that draw their order, its closed facts checked against a table of what comes before what (the check without one takes exponential time).
  Condition: vectors of size at most 1048576; l4Copy: a vector that is valid but for its cells.
-/
import Derived.Deep.Cut
import Derived.Test.YtmofcbpabdbjlaaGreatMz3
import Derived.Test.YtmofcbpabdbjlaaGreatMz4
import Derived.Test.YtmofcbpabdbjlaaGreatMz14
import Derived.Test.YtmofcbpabdbjlaaGreatMz15
namespace Go.Proofs.YtmofcbpabdbjlaaGreat

set_option maxRecDepth 8000

section

open Go.RowKit Go.ChangeShapes Go.WideShapes Go.Deep

set_option linter.unusedVariables false

set_option linter.unusedSimpArgs false

/-- hands back a slice of owned vectors -/
def RetL (ps : List VT) (w : World) (e : Ending) (w' : World) : Prop := ∃ A c pvs Ls, e = .returned (.slice A ps.length c) ∧ VL ps pvs Ls ∧ Own w [row 28 8 (.slice A ps.length c) ps.length pvs.flatten, pack Ls.flatten] w'

def J.freshL (ps : List VT) : Value × List Res → Prop := fun x => ∃ A c pvs Ls, x = (.slice A ps.length c, [row 28 8 (.slice A ps.length c) ps.length pvs.flatten, pack Ls.flatten]) ∧ VL ps pvs Ls

def PCopS (t : VT) : Prop := lB 3 t = true → ∀ (vs : List Value) (w : World), RdV w t vs → szV t ≤ 1048576 → Calls Tryz.prog 47 #[.agg vs.toArray] w (RetV t w)

theorem copL_len' (ps : List VT) : (copL ps).length = min 41 ps.length := by
  unfold copL
  rw [List.length_map, List.length_take]

set_option maxRecDepth 20000 in
set_option maxHeartbeats 4000000 in
theorem spec_copies (ps : List VT) (ih : ∀ p ∈ ps, PCopS p) (A : Option Addr) (c : Nat) (pvs : List (List Value)) (w : World) (h : RdL w A ps pvs) (hz : szL ps ≤ 1048576) : Calls Tryz.prog 86 #[.slice A ps.length c] w (RetL (copL ps) w) := by
  have HZ := Lib.hid hz
  have hle : ps.length ≤ 1048576 := by have := szL_eq ps; omega
  go_enter Tryz.func86, Tryz.ntmps86
  have hO := Own.nil w
  go_wp2_with (first | ((with_reducible refine zao ?_); refine za0 hO rfl (by rfl) rfl (fun b => by simp only [Act.put, zA, zB, zC]; rfl) ?_; clear hO; intro bb u hO; simp only [zL, zK] at hO) | fail)
  replace hO := Own.pack (F := []) hO
  go_loopw [3, 4] (fun s i u => ∃ (m : Nat) (A' : Option Addr) (c' : Nat) (pvs' : List (List Value)) (Ls : List (List Res)), m ≤ min 41 ps.length ∧ i = .int .i64 m ∧ s = .slice A' m c' ∧ VL ((ps.take m).map copP) pvs' Ls ∧ Own w [row 28 8 (.slice A' m c') m pvs'.flatten, pack Ls.flatten] u) (fun _ i _ => ps.length - (intOf i).toNat)
  case atStart => exact ⟨0, _, _, [], [], Nat.zero_le _, rfl, rfl, VL.nil, hO.pick [1, 0] (by decide)⟩
  case round =>
    clear hO
    obtain ⟨m, A', c', pvs', Ls, hm, rfl, rfl, hvl, hO⟩ := hrel
    by_cases hlt : m < ps.length
    · by_cases h40 : m ≤ 40
      · have hp := ih _ (List.getElem_mem hlt)
        have hsz := szL_mem HZ.out hlt
        have HT : Hid ((ps.take (m + 1)).map copP = (ps.take m).map copP ++ [copP (ps[m]'hlt)]) := Lib.hid (by rw [za6 hlt, List.map_append]; rfl)
        obtain ⟨x, hx⟩ : ∃ x, ps[m]'hlt = x := ⟨_, rfl⟩
        obtain ⟨xk, xi, xp, xn, xc, xl, xo, xe⟩ := x
        obtain ⟨b, off, rfl, hb, Bi, Bp, Bn, Bc, Bl, di, dp, dn, dc, dl, hrd, d0, d1, d2, d3, d4, d5, d6, d7⟩ := h.ptc (Below.refl _ _) hlt hx
        rw [hx] at hp hsz HT
        have CI : ∀ u, Below w.heap.size w u → Calls Tryz.prog 71 #[.agg #[.int .i64 xk, .slice Bi xi.length di, .slice Bp xp.length dp, .slice Bn xn.length dn, .slice Bc xc.length dc, .slice Bl xl.length dl, .int .i64 xo, .int .i64 xe], .int .i64 3] u fun e w' => e = .returned (.bool (lB 3 (.mk xk xi xp xn xc xl xo xe))) ∧ Below u.heap.size u w' := fun u hb => spec_lis _ _ 3 u (Nat.le_refl _) (hrd.grow hb) (Nat.le_trans hsz (by decide))
        clear hx
        have i1 : (m : Int) < (ps.length : Int) := by omega
        have i2 : (m : Int) ≤ 40 := by omega
        cases hq : lB 3 (.mk xk xi xp xn xc xl xo xe) with
        | false =>
          rw [hq] at CI
          have HC : Hid (copP (.mk xk xi xp xn xc xl xo xe) = vecI (-1) []) := Lib.hid (by unfold copP; rw [hq]; rfl)
          rw [HC.out] at HT
          clear hp hq HC
          go_upto_region 5 with fail
          have e0 := (hO.old hb).trans d0
          have e1 := (hO.old hb).trans d1
          have e2 := (hO.old hb).trans d2
          have e3 := (hO.old hb).trans d3
          have e4 := (hO.old hb).trans d4
          have e5 := (hO.old hb).trans d5
          have e6 := (hO.old hb).trans d6
          have e7 := (hO.old hb).trans d7
          go_upto_region 6 with (first | ((with_reducible refine (CI _ hO.below).mono ?_); rintro e u ⟨rfl, hb⟩; (replace hO := hO.step hb; clear hb)) | fail)
          clear e0 e1 e2 e3 e4 e5 e6 e7 CI hrd
          go_wp2_with (first | ((with_reducible refine zao ?_); refine zaw (cs := [.int .i64 (-1), .slice none 0 0, .slice none 0 0, .slice none 0 0, .slice none 0 0, .slice none 0 0, .int .i64 0, .int .i64 0]) hO rfl (by rfl) (by simp only [Act.eval, zJ, zF, zD, zE, zP]; rfl) rfl rfl (zM rfl) rfl (fun b => by simp only [Act.put, zA, zB, zC]; rfl) ?_; clear hO; intro bb u hO; simp only [zL, zK] at hO) | ((with_reducible refine za2 ?_); refine zav hO rfl (by rfl) rfl rfl _ (by exact at0) _ (by exact at2) (by rfl) (by simp [Value.oneCell']) (by omega) (by omega) rfl (fun A' c' => by simp only [Act.put, zA, zB, zC]; rfl) ?_; clear hO; intro A' c' u hO; simp only [zC, zB] at hO) | fail)
          obtain ⟨F, hvo, hF⟩ := Own.vec0 u (-1)
          replace hO := hO.call hF
          simp only [List.cons_append, List.nil_append] at hO
          replace hO := hO.pick [2, 0, 1] (by decide)
          simp only [zN, zO, zE, zD] at hO
          replace hO := hO.merge
          rw [← zbi, ← zbi] at hO
          go_roundw
          case rel => exact ⟨m + 1, _, _, _, _, by omega, by go_num, rfl, by rw [HT.out]; exact hvl.snoc hvo, hO.pick [1, 0] (by decide)⟩
          case measure => simp [intOf]; omega
        | true =>
          rw [hq] at CI
          have HC : Hid (copP (.mk xk xi xp xn xc xl xo xe) = .mk xk xi xp xn xc xl xo xe) := Lib.hid (by unfold copP; rw [hq]; rfl)
          rw [HC.out] at HT
          have CP := fun u (hb : Below w.heap.size w u) => (hp hq _ u (hrd.grow hb) hsz).mono fun e' w' h => RetV.exC h
          clear hp hq HC
          go_upto_region 5 with fail
          have e0 := (hO.old hb).trans d0
          have e1 := (hO.old hb).trans d1
          have e2 := (hO.old hb).trans d2
          have e3 := (hO.old hb).trans d3
          have e4 := (hO.old hb).trans d4
          have e5 := (hO.old hb).trans d5
          have e6 := (hO.old hb).trans d6
          have e7 := (hO.old hb).trans d7
          go_upto_region 7 with (first | ((with_reducible refine (CI _ hO.below).mono ?_); rintro e u ⟨rfl, hb⟩; (replace hO := hO.step hb; clear hb)) | fail)
          clear e0 e1 e2 e3 e4 e5 e6 e7 CI hrd
          have e0 := (hO.old hb).trans d0
          have e1 := (hO.old hb).trans d1
          have e2 := (hO.old hb).trans d2
          have e3 := (hO.old hb).trans d3
          have e4 := (hO.old hb).trans d4
          have e5 := (hO.old hb).trans d5
          have e6 := (hO.old hb).trans d6
          have e7 := (hO.old hb).trans d7
          go_wp2_with fail
          clear e0 e1 e2 e3 e4 e5 e6 e7
          refine (CP _ hO.below).mono ?_
          rintro e u ⟨Ci, Cp, Cn, Cc, Cl, ri, rp, rn, rc, rl, F, rfl, hvo, hb2⟩
          replace hO := hO.call hb2
          clear hb2 CP
          simp only [List.cons_append, List.nil_append] at hO
          replace hO := hO.pick [1, 2, 0] (by decide)
          simp only [zN, zO, zE, zD] at hO
          go_wp2_with (first | ((with_reducible refine zao ?_); refine zaw (cs := [.int .i64 xk, .slice Ci xi.length ri, .slice Cp xp.length rp, .slice Cn xn.length rn, .slice Cc xc.length rc, .slice Cl xl.length rl, .int .i64 xo, .int .i64 xe]) hO rfl (by rfl) (by simp only [Act.eval, zJ, zF, zD, zE, zP]; rfl) rfl rfl (zM rfl) rfl (fun b => by simp only [Act.put, zA, zB, zC]; rfl) ?_; clear hO; intro bb u hO; simp only [zL, zK] at hO) | ((with_reducible refine za2 ?_); refine zav hO rfl (by rfl) rfl rfl _ (by exact at0) _ (by exact at3) (by rfl) (by simp [Value.oneCell']) (by omega) (by omega) rfl (fun A' c' => by simp only [Act.put, zA, zB, zC]; rfl) ?_; clear hO; intro A' c' u hO; simp only [zC, zB] at hO) | fail)
          replace hO := hO.pick [1, 2, 0] (by decide)
          simp only [zN, zO, zE, zD] at hO
          replace hO := hO.merge
          rw [← zbi, ← zbi] at hO
          go_roundw
          case rel => exact ⟨m + 1, _, _, _, _, by omega, by go_num, rfl, by rw [HT.out]; exact hvl.snoc hvo, hO.pick [1, 0] (by decide)⟩
          case measure => simp [intOf]; omega
      · have hm41 : m = 41 := by omega
        subst hm41
        have HT : Hid ((ps.take 41).map copP = copL ps) := Lib.hid rfl
        have HN : Hid (41 = (copL ps).length) := Lib.hid (by rw [copL_len']; omega)
        have i1 : ((41 : Nat) : Int) < (ps.length : Int) := by omega
        rw [HT.out] at hvl
        clear h hlt hm h40
        go_wp2_with fail
        go_ret
        have hq := HN.out
        rw [hq] at hO ⊢
        exact ⟨_, _, _, _, rfl, hvl, hO⟩
    · have hmn : m = ps.length := by omega
      subst hmn
      have HT : Hid ((ps.take ps.length).map copP = copL ps) := Lib.hid (by unfold copL; rw [List.take_of_length_le (Nat.le_refl _), List.take_of_length_le (by omega)])
      have HN : Hid (ps.length = (copL ps).length) := Lib.hid (by rw [copL_len']; omega)
      rw [HT.out] at hvl
      go_wp2_with fail
      go_ret
      have hq := HN.out
      rw [hq] at hO ⊢
      exact ⟨_, _, _, _, rfl, hvl, hO⟩

set_option maxRecDepth 20000 in
set_option maxHeartbeats 4000000 in
theorem spec_copy (t : VT) : PCopS t := by
  induction t using VT.ind with
  | _ k is ps ns cs ls c e ih =>
    intro hB vs w hv hz
    obtain ⟨Ai, Ap, An, Ac, Al, ci, cp, cn, cc, cl, pvs, rfl, h1, h2, h3, h4, h5⟩ := hv.open
    have HT : szV (.mk k is ps ns cs ls c e) = szI is + szL ps + szS ns + szS cs + szS ls := rfl
    unfold szI szS at HT
    have z1 : is.length ≤ 1048576 := by omega
    have z2 : szL ps ≤ 1048576 := by omega
    have z3 : ns.length ≤ 1048576 := by omega
    have z4 : cs.length ≤ 1048576 := by omega
    have z5 : ls.length ≤ 1048576 := by omega
    have hP : copL ps = ps := copL_eq (lB_parts hB) (by have := lB_short hB; omega)
    have CL := fun u (hb : Below w.heap.size w u) => spec_copies ps ih Ap cp pvs u (h2.below hb) z2
    rw [hP] at CL
    clear HT hv hz hP hB ih
    go_enter Tryz.func47, Tryz.ntmps47
    have hO := Own.nil w
    go_wp2_with (first | ((with_reducible refine zac ?_); refine zal rfl hO rfl ?_; (refine nm 1 rfl ?_; clear hO; intro b1 u hO); simp only [zL, zK] at hO) | ((with_reducible refine zad ?_); refine zbx rfl hO rfl rfl ?_; (refine nm 0 rfl ?_; clear hO; intro b0 u hO); simp only [zL, zK] at hO) | fail)
    refine J.wp_region_c (n := 29) [0, 1, 3, 4, 6, 7, 10, 11, 14, 15, 18, 19, 21, 22, 23, 24] [2, 5, 8, 9, 12, 13, 16, 17, 20, 25] (deps := fun i => [[], [0], [], [], [3], [2, 3, 4], [], [6], [6, 7], [], [], [10], [9, 10, 11], [], [], [14], [13, 14, 15], [], [], [18], [17, 18, 19], [], [21], [], [23], [0, 1, 2, 3, 4, 5, 6, 7, 8, 9, 10, 11, 12, 13, 14, 15, 16, 17, 18, 19, 20, 21, 22, 23, 24], []].getD i []) (fun i d => [fun _ => True, fun _ => True, (J.fresh0 35 3), fun _ => True, fun _ => True, (J.freshA 35 3 is.length (itc is) (d 2)), fun _ => True, fun _ => True, (J.freshL ps), (J.fresh0 9 1), fun _ => True, fun _ => True, (J.freshA 9 1 ns.length (stc ns) (d 9)), (J.fresh0 9 1), fun _ => True, fun _ => True, (J.freshA 9 1 cs.length (stc cs) (d 13)), (J.fresh0 9 1), fun _ => True, fun _ => True, (J.freshA 9 1 ls.length (stc ls) (d 17)), fun _ => True, fun _ => True, fun _ => True, fun _ => True, (fun x => x = (Value.agg #[.int .i64 k, (d 5).1, (d 8).1, (d 12).1, (d 16).1, (d 20).1, .int .i64 c, .int .i64 e], [])), fun _ => True].getD i (fun _ => True)) (r := 1) (lst := #[true, true, true, true, true, true, true, true, true, true, true, true, true, true, true, true, true, true, true, true, true, true, true, true, true, true, false]) (by kernel_rfl) (by kernel_rfl) (by kernel_rfl) rfl (by decide) (by kernel_rfl) hO ?_
    refine zcp (h := ?_)
    refine zcc (f := fun M u hO K hK => by (exact zae hO rfl rfl _ (by exact at0) (by rfl) (by rfl) (hK _ hO))) (h := ?_)
    refine zcp (h := ?_)
    refine zcc (f := fun M u hO K hK => by (exact zae hO rfl rfl _ (by exact at0) (by rfl) (by rfl) (hK _ hO))) (h := ?_)
    refine zcp (h := ?_)
    refine zcc (f := fun M u hO K hK => by (exact zae hO rfl rfl _ (by exact at0) (by rfl) (by rfl) (hK _ hO))) (h := ?_)
    refine zcp (h := ?_)
    refine zcc (f := fun M u hO K hK => by (exact zae hO rfl rfl _ (by exact at0) (by rfl) (by rfl) (hK _ hO))) (h := ?_)
    refine zcp (h := ?_)
    refine zcc (f := fun M u hO K hK => by (exact zae hO rfl rfl _ (by exact at0) (by rfl) (by rfl) (hK _ hO))) (h := ?_)
    refine zcp (h := ?_)
    refine zcc (f := fun M u hO K hK => by (exact zae hO rfl rfl _ (by exact at0) (by rfl) (by rfl) (hK _ hO))) (h := ?_)
    refine zcp (h := ?_)
    refine zcc (f := fun M u hO K hK => by (exact zae hO rfl rfl _ (by exact at0) (by rfl) (by rfl) (hK _ hO))) (h := ?_)
    refine zcp (h := ?_)
    refine zcc (f := fun M u hO K hK => by (exact zae hO rfl rfl _ (by exact at0) (by rfl) (by rfl) (hK _ hO))) (h := ?_)
    refine J.Chain.nil ⟨?_, ?_⟩
    · refine J.Each.cons (by rfl) ?_ ?_; exact ⟨rfl, fun vs M u hO _ K hK => by (refine za7 hO rfl rfl fun b u hO => ?_; exact hK _ _ _ (show J.fresh0 35 3 _ from ⟨b, rfl⟩) hO)⟩; refine J.Each.cons (by rfl) ?_ ?_; exact ⟨rfl, fun vs M u hO hF K hK => by (obtain ⟨z2, e2⟩ := (hF 2 (by decide) (by decide)).1; refine za8 hO rfl (b := z2) (by simp only [Act.eval, zJ, zP, J.putL, zI, zG, zH, J.dstOf, zF, zD, zE, zS, zQ, zR, Act.put, zA, zB, zC, e2] <;> rfl) (by simp only [Act.eval, zJ, zP, J.putL, zI, zG, zH, J.dstOf, zF, zD, zE, zS, zQ, zR, Act.put, zA, zB, zC] <;> rfl) (h1.below hO.below) (by omega) (by omega) ?_; intro A' c' u hz hO; exact hK _ _ _ (show J.freshA 35 3 is.length (itc is) (vs 2) _ from ⟨A', c', rfl, fun h => (congrArg Prod.fst e2).trans (hz h)⟩) hO)⟩; refine J.Each.cons (by rfl) ?_ ?_; exact ⟨rfl, fun vs M u hO _ K hK => by ((try simp only [J.putL, zI, zG, zH, J.dstOf, zF, zD, zE, zS, zQ, zR, Act.put, zA, zB, zC]); (try simp only [wp_at_zero, wp_at_succ]); go_step; refine (CL _ hO.below).mono ?_; rintro e u ⟨Ap', cp', pvs', Ls', rfl, hvl, hb⟩; have hK' := hK _ _ _ (show (J.freshL ps) _ from ⟨Ap', cp', pvs', Ls', rfl, hvl⟩) ((hO.call hb).perm List.perm_append_comm); clear hK; simp only [J.putL, zI, zG, zH, J.dstOf, zF, zD, zE, zS, zQ, zR, Act.put, zA, zB, zC] at hK'; exact hK')⟩; refine J.Each.cons (by rfl) ?_ ?_; exact ⟨rfl, fun vs M u hO _ K hK => by (refine za7 hO rfl rfl fun b u hO => ?_; exact hK _ _ _ (show J.fresh0 9 1 _ from ⟨b, rfl⟩) hO)⟩; refine J.Each.cons (by rfl) ?_ ?_; exact ⟨rfl, fun vs M u hO hF K hK => by (obtain ⟨z9, e9⟩ := (hF 9 (by decide) (by decide)).1; refine za8 hO rfl (b := z9) (by simp only [Act.eval, zJ, zP, J.putL, zI, zG, zH, J.dstOf, zF, zD, zE, zS, zQ, zR, Act.put, zA, zB, zC, e9] <;> rfl) (by simp only [Act.eval, zJ, zP, J.putL, zI, zG, zH, J.dstOf, zF, zD, zE, zS, zQ, zR, Act.put, zA, zB, zC] <;> rfl) (h3.below hO.below) (by omega) (by omega) ?_; intro A' c' u hz hO; exact hK _ _ _ (show J.freshA 9 1 ns.length (stc ns) (vs 9) _ from ⟨A', c', rfl, fun h => (congrArg Prod.fst e9).trans (hz h)⟩) hO)⟩; refine J.Each.cons (by rfl) ?_ ?_; exact ⟨rfl, fun vs M u hO _ K hK => by (refine za7 hO rfl rfl fun b u hO => ?_; exact hK _ _ _ (show J.fresh0 9 1 _ from ⟨b, rfl⟩) hO)⟩; refine J.Each.cons (by rfl) ?_ ?_; exact ⟨rfl, fun vs M u hO hF K hK => by (obtain ⟨z13, e13⟩ := (hF 13 (by decide) (by decide)).1; refine za8 hO rfl (b := z13) (by simp only [Act.eval, zJ, zP, J.putL, zI, zG, zH, J.dstOf, zF, zD, zE, zS, zQ, zR, Act.put, zA, zB, zC, e13] <;> rfl) (by simp only [Act.eval, zJ, zP, J.putL, zI, zG, zH, J.dstOf, zF, zD, zE, zS, zQ, zR, Act.put, zA, zB, zC] <;> rfl) (h4.below hO.below) (by omega) (by omega) ?_; intro A' c' u hz hO; exact hK _ _ _ (show J.freshA 9 1 cs.length (stc cs) (vs 13) _ from ⟨A', c', rfl, fun h => (congrArg Prod.fst e13).trans (hz h)⟩) hO)⟩; refine J.Each.cons (by rfl) ?_ ?_; exact ⟨rfl, fun vs M u hO _ K hK => by (refine za7 hO rfl rfl fun b u hO => ?_; exact hK _ _ _ (show J.fresh0 9 1 _ from ⟨b, rfl⟩) hO)⟩; refine J.Each.cons (by rfl) ?_ ?_; exact ⟨rfl, fun vs M u hO hF K hK => by (obtain ⟨z17, e17⟩ := (hF 17 (by decide) (by decide)).1; refine za8 hO rfl (b := z17) (by simp only [Act.eval, zJ, zP, J.putL, zI, zG, zH, J.dstOf, zF, zD, zE, zS, zQ, zR, Act.put, zA, zB, zC, e17] <;> rfl) (by simp only [Act.eval, zJ, zP, J.putL, zI, zG, zH, J.dstOf, zF, zD, zE, zS, zQ, zR, Act.put, zA, zB, zC] <;> rfl) (h5.below hO.below) (by omega) (by omega) ?_; intro A' c' u hz hO; exact hK _ _ _ (show J.freshA 9 1 ls.length (stc ls) (vs 17) _ from ⟨A', c', rfl, fun h => (congrArg Prod.fst e17).trans (hz h)⟩) hO)⟩; refine J.Each.cons (by rfl) ?_ ?_; exact ⟨rfl, fun vs M u hO hF K hK => by ((try simp only [J.putL, zI, zG, zH, J.dstOf, zF, zD, zE, zS, zQ, zR, Act.put, zA, zB, zC]); obtain ⟨z2, e2⟩ := (hF 2 (by decide) (by decide)).1; obtain ⟨A5, c5, e5, g5⟩ := (hF 5 (by decide) (by decide)).1; obtain ⟨Ap', cp', pvs', Ls', e8, hvl⟩ := (hF 8 (by decide) (by decide)).1; obtain ⟨z9, e9⟩ := (hF 9 (by decide) (by decide)).1; obtain ⟨A12, c12, e12, g12⟩ := (hF 12 (by decide) (by decide)).1; obtain ⟨z13, e13⟩ := (hF 13 (by decide) (by decide)).1; obtain ⟨A16, c16, e16, g16⟩ := (hF 16 (by decide) (by decide)).1; obtain ⟨z17, e17⟩ := (hF 17 (by decide) (by decide)).1; obtain ⟨A20, c20, e20, g20⟩ := (hF 20 (by decide) (by decide)).1; have hK' := hK (Value.agg #[.int .i64 k, .slice A5 is.length c5, .slice Ap' ps.length cp', .slice A12 ns.length c12, .slice A16 cs.length c16, .slice A20 ls.length c20, .int .i64 c, .int .i64 e]) [] u (show (Value.agg #[.int .i64 k, .slice A5 is.length c5, .slice Ap' ps.length cp', .slice A12 ns.length c12, .slice A16 cs.length c16, .slice A20 ls.length c20, .int .i64 c, .int .i64 e], ([] : List Res)) = (Value.agg #[.int .i64 k, (vs 5).1, (vs 8).1, (vs 12).1, (vs 16).1, (vs 20).1, .int .i64 c, .int .i64 e], []) from by simp only [e2, e5, e8, e9, e12, e13, e16, e17, e20]) (by rw [List.append_nil]; exact hO); clear hK hF; simp only [J.putL, zI, zG, zH, J.dstOf, zF, zD, zE, zS, zQ, zR, Act.put, zA, zB, zC, e2, e5, e8, e9, e12, e13, e16, e17, e20] at hK' ⊢; (try simp only [wp_at_zero, wp_at_succ]); go_step; exact hK')⟩; exact J.Each.nil
    intro vs u hO hF
    obtain ⟨z2, h2⟩ : J.fresh0 35 3 (vs 2) := hF 2 (by decide)
    obtain ⟨A5, c5, h5, g5⟩ : J.freshA 35 3 is.length (itc is) (vs 2) (vs 5) := hF 5 (by decide)
    simp only [h2] at g5
    obtain ⟨Ap', cp', pvs', Ls', h8, hvl⟩ : (J.freshL ps) (vs 8) := hF 8 (by decide)
    obtain ⟨z9, h9⟩ : J.fresh0 9 1 (vs 9) := hF 9 (by decide)
    obtain ⟨A12, c12, h12, g12⟩ : J.freshA 9 1 ns.length (stc ns) (vs 9) (vs 12) := hF 12 (by decide)
    simp only [h9] at g12
    obtain ⟨z13, h13⟩ : J.fresh0 9 1 (vs 13) := hF 13 (by decide)
    obtain ⟨A16, c16, h16, g16⟩ : J.freshA 9 1 cs.length (stc cs) (vs 13) (vs 16) := hF 16 (by decide)
    simp only [h13] at g16
    obtain ⟨z17, h17⟩ : J.fresh0 9 1 (vs 17) := hF 17 (by decide)
    obtain ⟨A20, c20, h20, g20⟩ : J.freshA 9 1 ls.length (stc ls) (vs 17) (vs 20) := hF 20 (by decide)
    simp only [h17] at g20
    have h25 : vs 25 = (Value.agg #[.int .i64 k, (vs 5).1, (vs 8).1, (vs 12).1, (vs 16).1, (vs 20).1, .int .i64 c, .int .i64 e], []) := hF 25 (by decide)
    simp only [h2, h5, h8, h9, h12, h13, h16, h17, h20] at h25
    clear hF
    simp only [List.flatMap_cons, List.flatMap_nil, h2, h5, h8, h9, h12, h13, h16, h17, h20, h25, List.append_nil, zL, zK] at hO
    simp only [h2, h5, h8, h9, h12, h13, h16, h17, h20, h25, J.putL, zI, zG, zH, J.dstOf, zF, zD, zE, zS, zQ, zR, Act.put, zA, zB, zC]
    clear h2 h5 h8 h9 h12 h13 h16 h17 h20 h25 vs
    refine J.wpAny_one (i := 26) (by kernel_rfl) (by rfl) rfl fun K hK => ?_
    (refine zaf hO rfl rfl _ (by exact at1) rfl (by rfl) (by rfl) (by rfl) (by rfl) (by rfl) ?_; clear hO; intro u hO; simp only [zC, zB] at hO; refine hK _ _ ?_; clear hK K)
    refine wpAny_done (by kernel_rfl) ?_ _
    go_wp2_with fail
    replace hO := hO.pick [2, 3, 4, 5, 6, 7, 8, 9, 10, 11, 0, 1] (by decide)
    simp only [zN, zO, zE, zD] at hO
    replace hO := hO.join g5 (itc_len is)
    replace hO := hO.pick [3, 4, 5, 6, 7, 8, 0, 1, 2, 9, 10] (by decide)
    simp only [zN, zO, zE, zD] at hO
    replace hO := hO.join g12 (by rw [stc_len, Nat.mul_one])
    replace hO := hO.pick [1, 2, 3, 4, 5, 6, 7, 0, 8, 9] (by decide)
    simp only [zN, zO, zE, zD] at hO
    replace hO := hO.join g16 (by rw [stc_len, Nat.mul_one])
    replace hO := hO.pick [1, 2, 3, 4, 5, 6, 0, 7, 8] (by decide)
    simp only [zN, zO, zE, zD] at hO
    replace hO := hO.join g20 (by rw [stc_len, Nat.mul_one])
    exact zan rfl hO rfl 7 at7 rfl rfl ⟨_, _, rfl, VO.close hvl, Own.packs [_, _, _, _, _] (hO.pick [1, 2, 4, 5, 0, 3] (by decide))⟩

theorem spec_copiesL (A : Option Addr) (c : Nat) (ps : List VT) (pvs : List (List Value)) (w : World) (h : RdL w A ps pvs) (hz : szL ps ≤ 1048576) : Calls Tryz.prog 86 #[.slice A ps.length c] w (RetL (copL ps) w) :=
  spec_copies ps (fun p _ => spec_copy p) A c pvs w h hz

end

end Go.Proofs.YtmofcbpabdbjlaaGreat

namespace Go.Proofs.YtmofcbpabdbjlaaGreat

set_option maxRecDepth 8000

open Go.RowKit Go.ChangeShapes Go.WideShapes Go.Deep

set_option linter.unusedVariables false

set_option linter.unusedSimpArgs false

theorem lab_short {m : Nat} {l : List ByteArray} (h : labB m l = true) : l.length ≤ m ∧ zbk l = true := by
  unfold labB at h
  rw [Bool.and_eq_true, decide_eq_true_eq] at h
  refine ⟨h.1, ?_⟩
  unfold zbk
  rw [List.all_eq_true]
  intro x hx
  obtain ⟨i, hi, rfl⟩ := List.mem_iff_getElem.1 hx
  have h2 := h.2
  unfold goodN at h2
  rw [List.all_eq_true] at h2
  have h3 := h2 i (List.mem_range.2 hi)
  rw [okAt_eq hi] at h3
  simp only [Bool.and_eq_true] at h3
  exact h3.1.2

theorem stz_sh {l : List ByteArray} (h : zbk l = true) : stz l ≤ 60 * l.length := by
  induction l with
  | nil => simp [stz]
  | cons x l ih =>
    unfold zbk at h ih
    rw [List.all_cons, Bool.and_eq_true, decide_eq_true_eq] at h
    have := ih h.2
    simp only [stz, List.length_cons]
    omega

theorem itz_sh {l : List It} {z : Nat} (h : ∀ x ∈ l, x.text.size ≤ z) : itz l ≤ z * l.length := by
  induction l with
  | nil => simp [itz]
  | cons x l ih =>
    have h1 := h x (List.mem_cons_self)
    have h2 := ih fun y hy => h y (List.mem_cons_of_mem _ hy)
    simp only [itz, List.length_cons, Nat.mul_succ]
    omega

theorem empty_size {t : ByteArray} (h : t.toList.isEmpty = true) : t.size = 0 := by
  rw [ByteArray.toList_eq, List.isEmpty_iff] at h
  show t.data.size = 0
  rw [← Array.length_toList, h]
  rfl

theorem item_text {k : Int} {x : It} (h : itemB k x = true) : x.text.size ≤ 60 := by
  unfold itemB at h
  rw [Bool.or_eq_true] at h
  rcases h with h | h
  · unfold misB at h
    simp only [Bool.and_eq_true] at h
    have := empty_size h.2
    omega
  · split at h
    · simp only [Bool.and_eq_true] at h
      have := empty_size h.1.1
      omega
    · split at h
      · unfold isNumI at h
        simp only [Bool.and_eq_true] at h
        have := empty_size h.1
        omega
      · split at h
        · simp only [Bool.and_eq_true, decide_eq_true_eq] at h
          exact h.2
        · exact absurd h (by decide)

theorem itB_text {k : Int} {ls : List ByteArray} {x : It} (h : itB k ls x = true) : x.text.size ≤ 60 := by
  unfold itB at h
  simp only [Bool.and_eq_true] at h
  exact item_text h.1.2

theorem node_facts {k : Int} {is : List It} {ps : List VT} {ns cs ls : List ByteArray} {c e : Int} (h : nodeB (.mk k is ps ns cs ls c e) = true) :
    (0 ≤ k ∧ k ≤ 5) ∧ lenN k is.length ps.length ≤ 40 ∧ (ns.length = 0 ∨ (ns.length = lenN k is.length ps.length ∧ allE ns = false)) ∧ labB 3 cs = true ∧ labB 20 ls = true ∧ zbk ns = true ∧ (∀ x ∈ is, itB k ls x = true) ∧ (ps.length = 0 ∨ k = 4) ∧ (k = 5 → is.length = 0 ∧ ns.length = 0) ∧ (ls.length = 0 ∨ k = 2) ∧ (k = 5 ∨ (c = 0 ∧ e = 0)) ∧ (k = 0 → is.length = 0 ∧ cs.length = 0) := by
  unfold nodeB at h
  simp only [Bool.and_eq_true] at h
  obtain ⟨h3, h4⟩ := h
  rw [List.all_eq_true] at h4
  unfold headB at h3
  simp only [Bool.and_eq_true, Bool.or_eq_true, Bool.not_eq_true', decide_eq_true_eq, decide_eq_false_iff_not] at h3
  obtain ⟨⟨⟨⟨⟨⟨⟨⟨⟨⟨a1, a2⟩, a3⟩, a4⟩, a5⟩, a6⟩, a7⟩, a8⟩, a9⟩, a10⟩, a11⟩ := h3
  have e : lenV (.mk k is ps ns cs ls c e) = lenN k is.length ps.length := rfl
  rw [e] at a2 a5
  refine ⟨a1, a2, a5, a3, a4, a6, h4, a8, ?_, a7, a9, ?_⟩
  · intro hk
    rcases a10 with h | h
    · exact absurd hk h
    · exact ⟨h.1.1.1, h.1.1.2⟩
  · intro hk
    rcases a11 with h | h
    · exact absurd hk h
    · exact h

theorem small_node (t : VT) : ∀ n, lB n t = true → szV t ≤ 1500 + 1700 * cellsV t := by
  induction t using VT.ind with
  | _ k is ps ns cs ls c e ih =>
    intro n h
    simp only [lB, Bool.and_eq_true] at h
    obtain ⟨h1, h2⟩ := h
    have hp : ∀ p ∈ ps, szV p ≤ 1500 + 1700 * cellsV p := fun p hp => ih p hp (n - 1) (lL_mem h2 p hp).2
    have hs : ∀ l : List VT, (∀ p ∈ l, szV p ≤ 1500 + 1700 * cellsV p) → szP l ≤ 1500 * l.length + 1700 * cellsL l := by
      intro l
      induction l with
      | nil => intro _; simp [szP]
      | cons q l ih =>
        intro h
        have e1 := h q (List.mem_cons_self)
        have e2 := ih fun p hp => h p (List.mem_cons_of_mem _ hp)
        simp only [szP, cellsL, List.length_cons]
        omega
    have hs := hs ps hp
    obtain ⟨_, _, a3, a4, a5, a6, a7, a8, a9, _⟩ := node_facts h1
    have l4 := lab_short a4
    have l5 := lab_short a5
    have z3 := stz_sh a6
    have z4 := stz_sh l4.2
    have z5 := stz_sh l5.2
    have zi := itz_sh (z := 60) (l := is) fun x hx => itB_text (a7 x hx)
    have e1 : szV (.mk k is ps ns cs ls c e) = (is.length + itz is) + (ps.length + szP ps) + (ns.length + stz ns) + (cs.length + stz cs) + (ls.length + stz ls) := by simp only [szV, szI, szS, szL_eq]
    have e2 : cellsV (.mk k is ps ns cs ls c e) = lenN k is.length ps.length + cellsL ps := rfl
    rw [e1, e2]
    unfold lenN at a3 ⊢
    by_cases h5 : k = 5
    · rw [if_pos h5] at a3 ⊢
      have := a9 h5
      omega
    · rw [if_neg h5] at a3 ⊢
      omega

theorem isV_small {t : VT} (h : isV t = true) : szV t ≤ 341500 := by
  unfold isV at h
  simp only [Bool.and_eq_true, decide_eq_true_eq] at h
  have := small_node t 3 h.1
  omega

theorem isV_node {t : VT} (h : isV t = true) : nodeB t = true := by
  unfold isV at h
  simp only [Bool.and_eq_true] at h
  have h1 := h.1
  obtain ⟨k, is, ps, ns, cs, ls, c, e⟩ := t
  simp only [lB, Bool.and_eq_true] at h1
  exact h1.1

end Go.Proofs.YtmofcbpabdbjlaaGreat

namespace Go.Proofs.YtmofcbpabdbjlaaGreat.J

set_option maxRecDepth 8000

open Go Go.RowKit

set_option linter.unusedVariables false

set_option linter.unusedSimpArgs false

section

variable {P : Program} {ops : Array Oper} {Q : Exit → Act → World → Prop} {md : Region.Mode}

/-- one row of the table: the numbers that come before, as bits -/
def rowM (md : Region.Mode) (T : List Nat) (o : Oper) : Nat := o.after.toList.foldl (fun a e => if Region.binds md e then a ||| (2 ^ e.on ||| T.getD e.on 0) else a) 0

def tabOk (md : Region.Mode) (ops : Array Oper) (T : List Nat) : Bool :=
  (List.range ops.size).all fun i => match ops[i]? with
    | none => true
    | some o => (rowM md T o == T.getD i 0) && o.after.all fun e => !Region.binds md e || decide (e.on < i)

def bitT (T : List Nat) (i k : Nat) : Bool := (T.getD i 0).testBit k

theorem fold_bit (T : List Nat) (k : Nat) : ∀ (l : List Edge) (a : Nat), (l.foldl (fun a e => if Region.binds md e then a ||| (2 ^ e.on ||| T.getD e.on 0) else a) a).testBit k = true →
    a.testBit k = true ∨ ∃ e ∈ l, Region.binds md e = true ∧ (e.on = k ∨ bitT T e.on k = true)
  | [], a, h => .inl h
  | e :: l, a, h => by
    rw [List.foldl_cons] at h
    rcases fold_bit T k l _ h with h | ⟨e', he, h⟩
    · by_cases hb : Region.binds md e = true
      · rw [if_pos hb, Nat.testBit_or, Nat.testBit_or, Bool.or_eq_true, Bool.or_eq_true] at h
        rcases h with h | h | h
        · exact .inl h
        · refine .inr ⟨e, List.mem_cons_self, hb, .inl ?_⟩
          rw [Nat.testBit_two_pow] at h
          simpa using h
        · exact .inr ⟨e, List.mem_cons_self, hb, .inr h⟩
      · rw [if_neg hb] at h; exact .inl h
    · exact .inr ⟨e', List.mem_cons_of_mem _ he, h⟩

theorem bit_anc {T : List Nat} (h : tabOk md ops T = true) : ∀ (f i : Nat), i < f → i < ops.size → ∀ k, bitT T i k = true → k ∈ anc md ops f i
  | 0, i, hf, _, _, _ => by omega
  | f + 1, i, hf, hi, k, hk => by
    have h1 := h
    unfold tabOk at h1
    rw [List.all_eq_true] at h1
    have h2 := h1 i (List.mem_range.2 hi)
    have ho : ops[i]? = some ops[i] := Array.getElem?_eq_getElem hi
    rw [ho] at h2
    simp only [Bool.and_eq_true, beq_iff_eq] at h2
    obtain ⟨h3, h4⟩ := h2
    unfold bitT at hk
    rw [← h3] at hk
    unfold rowM at hk
    rcases fold_bit T k _ _ hk with h5 | ⟨e, he, hb, h5⟩
    · simp at h5
    · unfold anc
      rw [ho]
      simp only [List.mem_flatMap]
      refine ⟨e, he, ?_⟩
      rw [if_pos hb]
      rcases h5 with h5 | h5
      · rw [h5]; exact List.mem_cons_self
      · have h6 : e.on < i := by
          rw [Array.all_eq_true'] at h4
          have := h4 e (Array.mem_toList_iff.1 he)
          simpa [hb] using this
        exact List.mem_cons_of_mem _ (bit_anc h f e.on (by omega) (by omega) k h5)

def jokT (md : Region.Mode) (ops : Array Oper) (n : Nat) (D : List Nat) (deps : Nat → List Nat) (T : List Nat) : Bool :=
  decide D.Nodup && Region.noSelect ops &&
  (D.all fun i => match ops[i]? with
    | none => false
    | some o =>
      (deps i).all (fun k => D.contains k && bitT T i k && (deps k).all fun m => (deps i).contains m) &&
      (match o.guard with | none => true | some (g, _) => (deps i).contains g && (dstOf ops g).isSome) &&
      (dstOf ops i).isSome &&
      D.all (fun j => match dstOf ops j with
        | none => true
        | some t => decide (t < n) && (i == j || dstOf ops i != some t) && (!(looks ops o).contains t || (deps i).contains j))) &&
  ((List.range ops.size).all fun i => D.contains i || D.all fun k => bitT T i k) &&
  ((List.range ops.size).all fun i => match ops[i]? with
    | none => true
    | some o => o.after.all fun e => !Region.binds md e || decide (e.on < i)) && tabOk md ops T

theorem jok_of {n : Nat} {D : List Nat} {deps : Nat → List Nat} {T : List Nat} (h : jokT md ops n D deps T = true) : jok md ops n D deps = true := by
  unfold jokT at h
  simp only [Bool.and_eq_true] at h
  obtain ⟨⟨⟨⟨⟨h1, h2⟩, h3⟩, h4⟩, h5⟩, h6⟩ := h
  have hb : ∀ i, i < ops.size → ∀ k, bitT T i k = true → (anc md ops ops.size i).contains k = true := fun i hi k hk => by
    have := bit_anc h6 ops.size i hi hi k hk
    simpa using this
  unfold jok
  simp only [Bool.and_eq_true]
  refine ⟨⟨⟨⟨h1, h2⟩, ?_⟩, ?_⟩, h5⟩
  · rw [List.all_eq_true] at h3 ⊢
    intro i hi
    have := h3 i hi
    cases ho : ops[i]? with
    | none => rw [ho] at this; exact this
    | some o =>
      have hlt : i < ops.size := (Array.getElem?_eq_some_iff.1 ho).1
      rw [ho] at this
      simp only [Bool.and_eq_true] at this ⊢
      obtain ⟨⟨⟨q1, q2⟩, q3⟩, q4⟩ := this
      refine ⟨⟨⟨?_, q2⟩, q3⟩, q4⟩
      rw [List.all_eq_true] at q1 ⊢
      intro k hk
      have := q1 k hk
      simp only [Bool.and_eq_true] at this ⊢
      exact ⟨⟨this.1.1, hb i hlt k this.1.2⟩, this.2⟩
  · rw [List.all_eq_true] at h4 ⊢
    intro i hi
    have := h4 i hi
    rw [Bool.or_eq_true] at this ⊢
    rcases this with h | h
    · exact .inl h
    · right
      rw [List.all_eq_true] at h ⊢
      exact fun k hk => hb i (List.mem_range.1 hi) k (h k hk)

theorem wp_region_t {id : Nat} {n : Nat} (Dv Df : List Nat) (T : List Nat) {deps : Nat → List Nat} {a0 : Act} {w w0 : World} {L : List Res} (F : Nat → (Nat → Yv) → Yv → Prop) {r : Nat} {lst : Array Bool}
    (hm : P.follows .mixedOrders = true) (hok : jokT .any ops n (Dv ++ Df) deps T = true) (hcok : cok Dv Df deps = true) (hn : a0.tmps.size = n) (hlen : (Dv ++ Df).length ≤ ops.size) (hr : (ops.size - (Dv ++ Df).length, listedOf ops.size (Dv ++ Df)) = (r, lst)) (hG : Own w0 L w)
    (chain : Chain P ops w0 L Dv a0 fun A => Each ops (stepN P w0 L Df deps F (fun vs => putL ops (fun k => (vs k).1) Df A)) Df ∧
      ∀ (vs : Nat → Yv) (w : World), Own w0 (L ++ Df.flatMap fun i => (vs i).2) w → (∀ i ∈ Df, F i (restr (deps i) vs) (vs i)) → wpAny P .any ops Q r lst (putL ops (fun k => (vs k).1) Df A) w) :
    (Code.region id ops true).wp P Q a0 w := wp_region_c Dv Df F hm (jok_of hok) hcok hn hlen hr hG chain

end

end Go.Proofs.YtmofcbpabdbjlaaGreat.J
