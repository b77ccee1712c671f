/-
  What is proved: what the statements' comparisons of equal items, parts and vectors return.
  Condition: vectors of size at most 1048576.
-/
import Derived.Test.YtmofcbpabdbjlaaLa
import Derived.Test.YtmofcbpabdbjlaaVr
import Derived.Test.YtmofcbpabdbjlaaGcd
import Derived.Test.YtmofcbpabdbjlaaJ
import Derived.Deep.DrawnRows
namespace Go.Proofs.Ytmofcbpabdbjlaa
set_option maxRecDepth 8000
open Go.RowKit Go.ChangeShapes Go.WideShapes
set_option linter.unusedVariables false
set_option linter.unusedSimpArgs false

theorem laws_eqStrsR (A A' : Option Addr) (c c' : Nat) (l : List ByteArray) (w : World) (h : Sl w 1 A l.length (stc l)) (h' : Sl w 1 A' l.length (stc l)) (hn : l.length ≤ 1048576) :
    Calls Try.prog 24 #[.slice A l.length c, .slice A' l.length c'] w fun e w' => e = .returned (.bool true) ∧ Below w.heap.size w w' := laws_eqStrs A A' l.length c c' l w h h' (by omega)

theorem laws_eqItems (A A' : Option Addr) (c c' : Nat) (l : List It) (w : World) (h : Sl w 3 A l.length (itc l)) (h' : Sl w 3 A' l.length (itc l)) (hn : l.length ≤ 1048576) :
    Calls Try.prog 68 #[.slice A l.length c, .slice A' l.length c'] w fun e w' => e = .returned (.bool true) ∧ Below w.heap.size w w' := by
  go_enter Try.func68, Try.ntmps68
  have hO := Own.nil w
  go_wp2_with fail
  go_loopw [5] (fun i u => ∃ k : Nat, k ≤ l.length ∧ i = .int .i64 k ∧ Own w [] u) (fun i _ => l.length - (intOf i).toNat)
  case atStart => exact ⟨0, Nat.zero_le _, rfl, hO⟩
  case round =>
    clear hO
    obtain ⟨k, hk, rfl, hO⟩ := hrel
    by_cases hlt : k < l.length
    · obtain ⟨x, hx⟩ : ∃ x, l[k]'hlt = x := ⟨_, rfl⟩
      obtain ⟨b, off, rfl, hb, c0, c1, c2⟩ := h.it (Below.refl _ _) hlt hx
      obtain ⟨b', off', rfl, hb', d0, d1, d2⟩ := h'.it (Below.refl _ _) hlt hx
      clear hx
      have i1 : (0 : Int) ≤ (k : Int) := by omega
      have i2 : (k : Int) < (l.length : Int) := by omega
      go_wp2_with fail
      refine J.wp_region_c (n := 27) [0, 1, 2, 3, 4, 5, 6, 7, 8, 9] [] (deps := fun i => [[], [], [0, 1], [0, 1, 2], [], [], [4, 5], [4, 5, 6], [0, 1, 2, 3, 4, 5, 6, 7], [0, 1, 2, 3, 4, 5, 6, 7, 8]].getD i []) (fun _ _ _ => True) (r := 0) (lst := #[true, true, true, true, true, true, true, true, true, true]) (by kernel_rfl) (by kernel_rfl) (by kernel_rfl) rfl (by decide) (by kernel_rfl) hO ?_
      refine J.Chain.cons (by rfl) (by rfl) (fun M u hO K hK => by (simp only [wp_at_zero, wp_at_succ]; go_step; exact hK _ hO)) (by simp only [J.putL, zI, zG, zH, J.dstOf, zF, zD, zE, zS, zQ, zR, Act.put, zA, zB, zC]; rfl) ?_
      refine J.Chain.cons (by rfl) (by rfl) (fun M u hO K hK => by (simp only [wp_at_zero, wp_at_succ]; go_step; exact hK _ hO)) (by simp only [J.putL, zI, zG, zH, J.dstOf, zF, zD, zE, zS, zQ, zR, Act.put, zA, zB, zC]; rfl) ?_
      refine J.Chain.cons (by rfl) (by rfl) (fun M u hO K hK => by (simp only [wp_at_zero, wp_at_succ]; go_step; exact hK _ hO)) (by simp only [J.putL, zI, zG, zH, J.dstOf, zF, zD, zE, zS, zQ, zR, Act.put, zA, zB, zC]; rfl) ?_
      refine J.Chain.cons (by rfl) (by rfl) (fun M u hO K hK => by ((have e0 := (hO.old hb).trans c0; have e1 := (hO.old hb).trans c1; have e2 := (hO.old hb).trans c2; have f0 := (hO.old hb').trans d0; have f1 := (hO.old hb').trans d1; have f2 := (hO.old hb').trans d2; simp only [wp_at_zero, wp_at_succ]; go_step; exact hK _ hO))) (by simp only [J.putL, zI, zG, zH, J.dstOf, zF, zD, zE, zS, zQ, zR, Act.put, zA, zB, zC]; rfl) ?_
      refine J.Chain.cons (by rfl) (by rfl) (fun M u hO K hK => by (simp only [wp_at_zero, wp_at_succ]; go_step; exact hK _ hO)) (by simp only [J.putL, zI, zG, zH, J.dstOf, zF, zD, zE, zS, zQ, zR, Act.put, zA, zB, zC]; rfl) ?_
      refine J.Chain.cons (by rfl) (by rfl) (fun M u hO K hK => by (simp only [wp_at_zero, wp_at_succ]; go_step; exact hK _ hO)) (by simp only [J.putL, zI, zG, zH, J.dstOf, zF, zD, zE, zS, zQ, zR, Act.put, zA, zB, zC]; rfl) ?_
      refine J.Chain.cons (by rfl) (by rfl) (fun M u hO K hK => by (simp only [wp_at_zero, wp_at_succ]; go_step; exact hK _ hO)) (by simp only [J.putL, zI, zG, zH, J.dstOf, zF, zD, zE, zS, zQ, zR, Act.put, zA, zB, zC]; rfl) ?_
      refine J.Chain.cons (by rfl) (by rfl) (fun M u hO K hK => by ((have e0 := (hO.old hb).trans c0; have e1 := (hO.old hb).trans c1; have e2 := (hO.old hb).trans c2; have f0 := (hO.old hb').trans d0; have f1 := (hO.old hb').trans d1; have f2 := (hO.old hb').trans d2; simp only [wp_at_zero, wp_at_succ]; go_step; exact hK _ hO))) (by simp only [J.putL, zI, zG, zH, J.dstOf, zF, zD, zE, zS, zQ, zR, Act.put, zA, zB, zC]; rfl) ?_
      refine J.Chain.cons (by rfl) (by rfl) (fun M u hO K hK => by (simp only [wp_at_zero, wp_at_succ]; go_step; refine (laws_eqItem _ _ _ _).mono ?_; rintro e u ⟨rfl, hb⟩; exact hK _ (hO.step hb))) (by simp only [J.putL, zI, zG, zH, J.dstOf, zF, zD, zE, zS, zQ, zR, Act.put, zA, zB, zC]; rfl) ?_
      refine J.Chain.cons (by rfl) (by rfl) (fun M u hO K hK => by (simp only [wp_at_zero, wp_at_succ]; go_step; exact hK _ hO)) (by simp only [J.putL, zI, zG, zH, J.dstOf, zF, zD, zE, zS, zQ, zR, Act.put, zA, zB, zC]; rfl) ?_
      refine J.Chain.nil ⟨?_, ?_⟩
      · exact J.Each.nil
      intro vs u hO hF
      clear hF
      simp only [List.flatMap_cons, List.flatMap_nil, List.append_nil, zL, zK] at hO
      simp only [J.putL]
      clear vs
      refine wpAny_done (by kernel_rfl) ?_ _
      go_wp2_with (first
        | ((with_reducible refine wpl_alloc ?_); refine wpList_alloc_own rfl (by rfl) hO rfl (fun b => by simp only [Act.put, zA, zB, zC]; rfl) ?_; (first | (refine nm 0 rfl ?_; clear hO; intro b0 u hO)); simp only [zL, zK] at hO)
        | ((with_reducible refine wpl_box ?_); refine wpList_box_own rfl (by rfl) hO rfl rfl (fun b => by simp only [Act.put, zA, zB, zC]; rfl) ?_; (first | (refine nm 0 rfl ?_; clear hO; intro b0 u hO)); simp only [zL, zK] at hO)
        | fail)
      go_roundw
      case rel => exact ⟨k + 1, by omega, by go_num, hO⟩
      case measure => simp [intOf]; omega
    · have hkn : k = l.length := by omega
      subst hkn
      go_wp2_with fail
      go_ret
      exact ⟨rfl, hO.below⟩

def PEq (t : VT) : Prop := ∀ (vs vs' : List Value) (w : World), RdV w t vs → RdV w t vs' → szV t ≤ 1048576 → Calls Try.prog 22 #[.agg vs.toArray, .agg vs'.toArray] w fun e w' => e = .returned (.bool true) ∧ Below w.heap.size w w'

theorem laws_eqVecs (ps : List VT) (hP : ∀ p ∈ ps, PEq p) (A A' : Option Addr) (c c' : Nat) (pvs pvs' : List (List Value)) (w : World) (h : RdL w A ps pvs) (h' : RdL w A' ps pvs') (hz : szL ps ≤ 1048576) :
    Calls Try.prog 23 #[.slice A ps.length c, .slice A' ps.length c'] w fun e w' => e = .returned (.bool true) ∧ Below w.heap.size w w' := by
  have hz' := szL_eq ps
  have hn : ps.length ≤ 1048576 := by omega
  have HZ := Lib.hid (show szP ps ≤ 1048576 by omega)
  clear hz hz'
  go_enter Try.func23, Try.ntmps23
  have hO := Own.nil w
  go_wp2_with fail
  go_loopw [5] (fun i u => ∃ k : Nat, k ≤ ps.length ∧ i = .int .i64 k ∧ Own w [] u) (fun i _ => ps.length - (intOf i).toNat)
  case atStart => exact ⟨0, Nat.zero_le _, rfl, hO⟩
  case round =>
    clear hO
    obtain ⟨k, hk, rfl, hO⟩ := hrel
    by_cases hlt : k < ps.length
    · have hp := hP _ (List.getElem_mem hlt)
      have hsz := Nat.le_trans (szP_mem hlt) HZ.out
      obtain ⟨x, hx⟩ : ∃ x, ps[k]'hlt = x := ⟨_, rfl⟩
      obtain ⟨b, off, rfl, hb, v0, v1, v2, v3, v4, v5, v6, v7, hv, c0, c1, c2, c3, c4, c5, c6, c7⟩ := h.pt (Below.refl _ _) hlt hx
      obtain ⟨b', off', rfl, hb', x0, x1, x2, x3, x4, x5, x6, x7, hv', d0, d1, d2, d3, d4, d5, d6, d7⟩ := h'.pt (Below.refl _ _) hlt hx
      rw [hx] at hp hsz
      clear hx
      have i1 : (0 : Int) ≤ (k : Int) := by omega
      have i2 : (k : Int) < (ps.length : Int) := by omega
      go_wp2_with fail
      refine J.wp_region_c (n := 27) [0, 1, 2, 3, 4, 5, 6, 7, 8, 9] [] (deps := fun i => [[], [], [0, 1], [0, 1, 2], [], [], [4, 5], [4, 5, 6], [0, 1, 2, 3, 4, 5, 6, 7], [0, 1, 2, 3, 4, 5, 6, 7, 8]].getD i []) (fun _ _ _ => True) (r := 0) (lst := #[true, true, true, true, true, true, true, true, true, true]) (by kernel_rfl) (by kernel_rfl) (by kernel_rfl) rfl (by decide) (by kernel_rfl) hO ?_
      refine J.Chain.cons (by rfl) (by rfl) (fun M u hO K hK => by (simp only [wp_at_zero, wp_at_succ]; go_step; exact hK _ hO)) (by simp only [J.putL, zI, zG, zH, J.dstOf, zF, zD, zE, zS, zQ, zR, Act.put, zA, zB, zC]; rfl) ?_
      refine J.Chain.cons (by rfl) (by rfl) (fun M u hO K hK => by (simp only [wp_at_zero, wp_at_succ]; go_step; exact hK _ hO)) (by simp only [J.putL, zI, zG, zH, J.dstOf, zF, zD, zE, zS, zQ, zR, Act.put, zA, zB, zC]; rfl) ?_
      refine J.Chain.cons (by rfl) (by rfl) (fun M u hO K hK => by (simp only [wp_at_zero, wp_at_succ]; go_step; exact hK _ hO)) (by simp only [J.putL, zI, zG, zH, J.dstOf, zF, zD, zE, zS, zQ, zR, Act.put, zA, zB, zC]; rfl) ?_
      refine J.Chain.cons (by rfl) (by rfl) (fun M u hO K hK => by ((have e0 := (hO.old hb).trans c0; have e1 := (hO.old hb).trans c1; have e2 := (hO.old hb).trans c2; have e3 := (hO.old hb).trans c3; have e4 := (hO.old hb).trans c4; have e5 := (hO.old hb).trans c5; have e6 := (hO.old hb).trans c6; have e7 := (hO.old hb).trans c7; have f0 := (hO.old hb').trans d0; have f1 := (hO.old hb').trans d1; have f2 := (hO.old hb').trans d2; have f3 := (hO.old hb').trans d3; have f4 := (hO.old hb').trans d4; have f5 := (hO.old hb').trans d5; have f6 := (hO.old hb').trans d6; have f7 := (hO.old hb').trans d7; simp only [wp_at_zero, wp_at_succ]; go_step; exact hK _ hO))) (by simp only [J.putL, zI, zG, zH, J.dstOf, zF, zD, zE, zS, zQ, zR, Act.put, zA, zB, zC]; rfl) ?_
      refine J.Chain.cons (by rfl) (by rfl) (fun M u hO K hK => by (simp only [wp_at_zero, wp_at_succ]; go_step; exact hK _ hO)) (by simp only [J.putL, zI, zG, zH, J.dstOf, zF, zD, zE, zS, zQ, zR, Act.put, zA, zB, zC]; rfl) ?_
      refine J.Chain.cons (by rfl) (by rfl) (fun M u hO K hK => by (simp only [wp_at_zero, wp_at_succ]; go_step; exact hK _ hO)) (by simp only [J.putL, zI, zG, zH, J.dstOf, zF, zD, zE, zS, zQ, zR, Act.put, zA, zB, zC]; rfl) ?_
      refine J.Chain.cons (by rfl) (by rfl) (fun M u hO K hK => by (simp only [wp_at_zero, wp_at_succ]; go_step; exact hK _ hO)) (by simp only [J.putL, zI, zG, zH, J.dstOf, zF, zD, zE, zS, zQ, zR, Act.put, zA, zB, zC]; rfl) ?_
      refine J.Chain.cons (by rfl) (by rfl) (fun M u hO K hK => by ((have e0 := (hO.old hb).trans c0; have e1 := (hO.old hb).trans c1; have e2 := (hO.old hb).trans c2; have e3 := (hO.old hb).trans c3; have e4 := (hO.old hb).trans c4; have e5 := (hO.old hb).trans c5; have e6 := (hO.old hb).trans c6; have e7 := (hO.old hb).trans c7; have f0 := (hO.old hb').trans d0; have f1 := (hO.old hb').trans d1; have f2 := (hO.old hb').trans d2; have f3 := (hO.old hb').trans d3; have f4 := (hO.old hb').trans d4; have f5 := (hO.old hb').trans d5; have f6 := (hO.old hb').trans d6; have f7 := (hO.old hb').trans d7; simp only [wp_at_zero, wp_at_succ]; go_step; exact hK _ hO))) (by simp only [J.putL, zI, zG, zH, J.dstOf, zF, zD, zE, zS, zQ, zR, Act.put, zA, zB, zC]; rfl) ?_
      refine J.Chain.cons (by rfl) (by rfl) (fun M u hO K hK => by (simp only [wp_at_zero, wp_at_succ]; go_step; refine (hp _ _ _ (hv.grow hO.below) (hv'.grow hO.below) hsz).mono ?_; rintro e u ⟨rfl, hb⟩; exact hK _ (hO.step hb))) (by simp only [J.putL, zI, zG, zH, J.dstOf, zF, zD, zE, zS, zQ, zR, Act.put, zA, zB, zC]; rfl) ?_
      refine J.Chain.cons (by rfl) (by rfl) (fun M u hO K hK => by (simp only [wp_at_zero, wp_at_succ]; go_step; exact hK _ hO)) (by simp only [J.putL, zI, zG, zH, J.dstOf, zF, zD, zE, zS, zQ, zR, Act.put, zA, zB, zC]; rfl) ?_
      refine J.Chain.nil ⟨?_, ?_⟩
      · exact J.Each.nil
      intro vs u hO hF
      clear hF
      simp only [List.flatMap_cons, List.flatMap_nil, List.append_nil, zL, zK] at hO
      simp only [J.putL]
      clear vs
      refine wpAny_done (by kernel_rfl) ?_ _
      go_wp2_with (first
        | ((with_reducible refine wpl_alloc ?_); refine wpList_alloc_own rfl (by rfl) hO rfl (fun b => by simp only [Act.put, zA, zB, zC]; rfl) ?_; (first | (refine nm 0 rfl ?_; clear hO; intro b0 u hO)); simp only [zL, zK] at hO)
        | ((with_reducible refine wpl_box ?_); refine wpList_box_own rfl (by rfl) hO rfl rfl (fun b => by simp only [Act.put, zA, zB, zC]; rfl) ?_; (first | (refine nm 0 rfl ?_; clear hO; intro b0 u hO)); simp only [zL, zK] at hO)
        | fail)
      go_roundw
      case rel => exact ⟨k + 1, by omega, by go_num, hO⟩
      case measure => simp [intOf]; omega
    · have hkn : k = ps.length := by omega
      subst hkn
      go_wp2_with fail
      go_ret
      exact ⟨rfl, hO.below⟩

theorem laws_eqVec (t : VT) : PEq t := by
  induction t using VT.ind with
  | _ k is ps ns cs ls c e ih =>
    intro vs vs' w hv hv' hz
    obtain ⟨Ai, Ap, An, Ac, Al, ci, cp, cn, cc, cl, pvs, rfl, h1, h2, h3, h4, h5⟩ := hv.open
    obtain ⟨Bi, Bp, Bn, Bc, Bl, di, dp, dn, dc, dl, qvs, rfl, g1, g2, g3, g4, g5⟩ := hv'.open
    have HT : szV (.mk k is ps ns cs ls c e) = szI is + szL ps + szS ns + szS cs + szS ls := rfl
    unfold szI szS at HT
    have z1 : is.length ≤ 1048576 := by omega
    have z2 : szL ps ≤ 1048576 := by omega
    have z3 : ns.length ≤ 1048576 := by omega
    have z4 : cs.length ≤ 1048576 := by omega
    have z5 : ls.length ≤ 1048576 := by omega
    clear HT hv hv'
    go_enter Try.func22, Try.ntmps22
    have hO := Own.nil w
    go_wp2_with (first
      | ((with_reducible refine wpl_box ?_); refine wpList_box_own rfl (by rfl) hO rfl rfl (fun b => by simp only [Act.put, zA, zB, zC]; rfl) ?_; (first | (refine nm 0 rfl ?_; clear hO; intro b0 u hO) | (refine nm 1 rfl ?_; clear hO; intro b1 u hO) | fail); simp only [zL, zK] at hO)
      | ((with_reducible refine wpl_load ?_); refine wpList_load_field rfl (by rfl) hO rfl _ (by (first | exact at0 | exact at1 | fail)) (by rfl) (by simp only [Act.put, zA, zB, zC]; rfl) ?_)
      | fail)
    refine (laws_eqItems _ _ _ _ is _ (h1.below hO.below) (g1.below hO.below) z1).mono ?_
    rintro e u ⟨rfl, hb⟩
    (replace hO := hO.step hb; clear hb)
    go_wp2_with (first
      | ((with_reducible refine wpl_load ?_); refine wpList_load_field rfl (by rfl) hO rfl _ (by (first | exact at0 | exact at1 | fail)) (by rfl) (by simp only [Act.put, zA, zB, zC]; rfl) ?_)
      | fail)
    refine (laws_eqVecs ps ih _ _ _ _ _ _ _ (h2.below hO.below) (g2.below hO.below) z2).mono ?_
    rintro e u ⟨rfl, hb⟩
    (replace hO := hO.step hb; clear hb)
    go_wp2_with (first
      | ((with_reducible refine wpl_load ?_); refine wpList_load_field rfl (by rfl) hO rfl _ (by (first | exact at0 | exact at1 | fail)) (by rfl) (by simp only [Act.put, zA, zB, zC]; rfl) ?_)
      | fail)
    refine (laws_eqStrsR _ _ _ _ ns _ (h3.below hO.below) (g3.below hO.below) z3).mono ?_
    rintro e u ⟨rfl, hb⟩
    (replace hO := hO.step hb; clear hb)
    go_wp2_with (first
      | ((with_reducible refine wpl_load ?_); refine wpList_load_field rfl (by rfl) hO rfl _ (by (first | exact at0 | exact at1 | fail)) (by rfl) (by simp only [Act.put, zA, zB, zC]; rfl) ?_)
      | fail)
    refine (laws_eqStrsR _ _ _ _ cs _ (h4.below hO.below) (g4.below hO.below) z4).mono ?_
    rintro e u ⟨rfl, hb⟩
    (replace hO := hO.step hb; clear hb)
    go_wp2_with (first
      | ((with_reducible refine wpl_load ?_); refine wpList_load_field rfl (by rfl) hO rfl _ (by (first | exact at0 | exact at1 | fail)) (by rfl) (by simp only [Act.put, zA, zB, zC]; rfl) ?_)
      | fail)
    refine (laws_eqStrsR _ _ _ _ ls _ (h5.below hO.below) (g5.below hO.below) z5).mono ?_
    rintro e u ⟨rfl, hb⟩
    (replace hO := hO.step hb; clear hb)
    go_wp2_with (first
      | ((with_reducible refine wpl_load ?_); refine wpList_load_field rfl (by rfl) hO rfl _ (by (first | exact at0 | exact at1 | fail)) (by rfl) (by simp only [Act.put, zA, zB, zC]; rfl) ?_)
      | fail)
    go_ret
    exact ⟨rfl, hO.below⟩
end Go.Proofs.Ytmofcbpabdbjlaa
