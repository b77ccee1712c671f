/-
  What is proved: what the statements find where they have marked.
  Condition: marks below 2^31.
-/
import Derived.Test.YtmofcbpabdbjlaaLd
import Derived.Deep.DrawnRows
namespace Go.Proofs.Ytmofcbpabdbjlaa
set_option maxRecDepth 8000
open Go.RowKit Go.ChangeShapes Go.WideShapes
set_option linter.unusedVariables false
set_option linter.unusedSimpArgs false

theorem laws_heldStrs (n : Nat) (x : Int) (q : Nat) (hx : x = q) (hq : q + n ≤ 2147483647) (A : Option Addr) (c : Nat) (w : World) (h : Sl w 1 A n (stc (mkS q n))) :
    Calls Try.prog 73 #[.slice A n c, .int .i64 x] w fun e w' => e = .returned (.int .i64 (q + n : Nat)) ∧ Below w.heap.size w w' := by
  subst hx
  have h' : Sl w 1 A (mkS q n).length (stc (mkS q n)) := by rw [mkS_len]; exact h
  go_enter Try.func73, Try.ntmps73
  have hO := Own.nil w
  go_wp2_with fail
  go_loopw [1, 5] (fun s i u => ∃ k : Nat, k ≤ n ∧ i = .int .i64 k ∧ s = .int .i64 ((q + k : Nat) : Int) ∧ Own w [] u) (fun _ i _ => n - (intOf i).toNat)
  case atStart => exact ⟨0, Nat.zero_le _, rfl, rfl, hO⟩
  case round =>
    clear hO
    obtain ⟨k, hk, rfl, rfl, hO⟩ := hrel
    by_cases hlt : k < n
    · obtain ⟨b, off, rfl, hb, c0⟩ := h'.tx (Below.refl _ _) (by rw [mkS_len]; exact hlt) (mkS_at _)
      have t : (!(mtx (q + k)).toList == (mtx (q + k)).toList) = false := by simp
      have i1 : (0 : Int) ≤ (k : Int) := by omega
      have i2 : (k : Int) < (n : Int) := by omega
      go_wp2_with fail
      refine J.wp_region_c (n := 22) [0, 1, 2, 3, 4, 5, 6] [] (deps := fun i => [[], [], [0, 1], [0, 1, 2], [], [4], [0, 1, 2, 3, 4, 5]].getD i []) (fun _ _ _ => True) (r := 0) (lst := #[true, true, true, true, true, true, true]) (by kernel_rfl) (by kernel_rfl) (by kernel_rfl) rfl (by decide) (by kernel_rfl) hO ?_
      refine J.Chain.cons (by rfl) (by rfl) (fun M u hO K hK => by (simp only [wp_at_zero, wp_at_succ]; go_step; exact hK _ hO)) (by simp only [J.putL, zI, zG, zH, J.dstOf, zF, zD, zE, zS, zQ, zR, Act.put, zA, zB, zC]; rfl) ?_
      refine J.Chain.cons (by rfl) (by rfl) (fun M u hO K hK => by (simp only [wp_at_zero, wp_at_succ]; go_step; exact hK _ hO)) (by simp only [J.putL, zI, zG, zH, J.dstOf, zF, zD, zE, zS, zQ, zR, Act.put, zA, zB, zC]; rfl) ?_
      refine J.Chain.cons (by rfl) (by rfl) (fun M u hO K hK => by (simp only [wp_at_zero, wp_at_succ]; go_step; exact hK _ hO)) (by simp only [J.putL, zI, zG, zH, J.dstOf, zF, zD, zE, zS, zQ, zR, Act.put, zA, zB, zC]; rfl) ?_
      refine J.Chain.cons (by rfl) (by rfl) (fun M u hO K hK => by ((have e0 := (hO.old hb).trans c0; simp only [wp_at_zero, wp_at_succ]; go_step; exact hK _ hO))) (by simp only [J.putL, zI, zG, zH, J.dstOf, zF, zD, zE, zS, zQ, zR, Act.put, zA, zB, zC]; rfl) ?_
      refine J.Chain.cons (by rfl) (by rfl) (fun M u hO K hK => by (simp only [wp_at_zero, wp_at_succ]; go_step; exact hK _ hO)) (by simp only [J.putL, zI, zG, zH, J.dstOf, zF, zD, zE, zS, zQ, zR, Act.put, zA, zB, zC]; rfl) ?_
      refine J.Chain.cons (by rfl) (by rfl) (fun M u hO K hK => by (simp only [wp_at_zero, wp_at_succ]; go_step; refine (laws_markTextI _ (q + k) _ (by omega) (by omega)).mono ?_; rintro e u ⟨rfl, hb⟩; exact hK _ (hO.step hb))) (by simp only [J.putL, zI, zG, zH, J.dstOf, zF, zD, zE, zS, zQ, zR, Act.put, zA, zB, zC]; rfl) ?_
      refine J.Chain.cons (by rfl) (by rfl) (fun M u hO K hK => by (simp only [wp_at_zero, wp_at_succ]; go_step; exact hK _ hO)) (by simp only [J.putL, zI, zG, zH, J.dstOf, zF, zD, zE, zS, zQ, zR, Act.put, zA, zB, zC]; rfl) ?_
      refine J.Chain.nil ⟨?_, ?_⟩
      · exact J.Each.nil
      intro vs u hO hF
      clear hF
      simp only [List.flatMap_cons, List.flatMap_nil, List.append_nil, zL, zK] at hO
      simp only [J.putL]
      clear vs
      refine wpAny_done (by kernel_rfl) ?_ _
      go_wp2_with (first
        | ((with_reducible refine wpl_alloc ?_); refine wpList_alloc_own rfl (by rfl) hO rfl (fun b => by simp only [Act.put, zA, zB, zC]; rfl) ?_; (first | (refine nm 0 rfl ?_; clear hO; intro b0 u hO)); simp only [zL, zK] at hO)
        | ((with_reducible refine wpl_box ?_); refine wpList_box_own rfl (by rfl) hO rfl rfl (fun b => by simp only [Act.put, zA, zB, zC]; rfl) ?_; (first | (refine nm 0 rfl ?_; clear hO; intro b0 u hO)); simp only [zL, zK] at hO)
        | fail)
      go_roundw
      case rel => exact ⟨k + 1, by omega, by go_num, by go_num, hO⟩
      case measure => simp [intOf]; omega
    · have hkn : k = n := by omega
      subst hkn
      go_wp2_with fail
      go_ret
      exact ⟨rfl, hO.below⟩

theorem laws_heldItems (n : Nat) (x : Int) (q : Nat) (hx : x = q) (hq : q + 3 * n ≤ 2147483647) (A : Option Addr) (c : Nat) (w : World) (h : Sl w 3 A n (itc (mkI q n))) :
    Calls Try.prog 71 #[.slice A n c, .int .i64 x] w fun e w' => e = .returned (.int .i64 (q + 3 * n : Nat)) ∧ Below w.heap.size w w' := by
  subst hx
  have h' : Sl w 3 A (mkI q n).length (itc (mkI q n)) := by rw [mkI_len]; exact h
  go_enter Try.func71, Try.ntmps71
  have hO := Own.nil w
  go_wp2_with fail
  go_loopw [1, 5] (fun s i u => ∃ k : Nat, k ≤ n ∧ i = .int .i64 k ∧ s = .int .i64 ((q + 3 * k : Nat) : Int) ∧ Own w [] u) (fun _ i _ => n - (intOf i).toNat)
  case atStart => exact ⟨0, Nat.zero_le _, rfl, rfl, hO⟩
  case round =>
    clear hO
    obtain ⟨k, hk, rfl, rfl, hO⟩ := hrel
    by_cases hlt : k < n
    · obtain ⟨b, off, rfl, hb, c0, c1, c2⟩ := h'.it (Below.refl _ _) (by rw [mkI_len]; exact hlt) (mkI_at _)
      simp only [mkI1] at c0 c1 c2
      have e0 := (hO.old hb).trans c0
      have e1 := (hO.old hb).trans c1
      have t : (!(mtx (q + 3 * k + 2)).toList == (mtx (q + 3 * k + 2)).toList) = false := by simp
      have i1 : (0 : Int) ≤ (k : Int) := by omega
      have i2 : (k : Int) < (n : Int) := by omega
      go_wp2_with fail
      clear e0 e1
      refine J.wp_region_c (n := 41) [0, 1, 2, 3, 4, 5, 6, 7] [] (deps := fun i => [[], [], [0, 1], [0, 1, 2], [0, 1, 2, 3], [], [5], [0, 1, 2, 3, 4, 5, 6]].getD i []) (fun _ _ _ => True) (r := 0) (lst := #[true, true, true, true, true, true, true, true]) (by kernel_rfl) (by kernel_rfl) (by kernel_rfl) rfl (by decide) (by kernel_rfl) hO ?_
      refine J.Chain.cons (by rfl) (by rfl) (fun M u hO K hK => by (simp only [wp_at_zero, wp_at_succ]; go_step; exact hK _ hO)) (by simp only [J.putL, zI, zG, zH, J.dstOf, zF, zD, zE, zS, zQ, zR, Act.put, zA, zB, zC]; rfl) ?_
      refine J.Chain.cons (by rfl) (by rfl) (fun M u hO K hK => by (simp only [wp_at_zero, wp_at_succ]; go_step; exact hK _ hO)) (by simp only [J.putL, zI, zG, zH, J.dstOf, zF, zD, zE, zS, zQ, zR, Act.put, zA, zB, zC]; rfl) ?_
      refine J.Chain.cons (by rfl) (by rfl) (fun M u hO K hK => by (simp only [wp_at_zero, wp_at_succ]; go_step; exact hK _ hO)) (by simp only [J.putL, zI, zG, zH, J.dstOf, zF, zD, zE, zS, zQ, zR, Act.put, zA, zB, zC]; rfl) ?_
      refine J.Chain.cons (by rfl) (by rfl) (fun M u hO K hK => by (simp only [wp_at_zero, wp_at_succ]; go_step; exact hK _ hO)) (by simp only [J.putL, zI, zG, zH, J.dstOf, zF, zD, zE, zS, zQ, zR, Act.put, zA, zB, zC]; rfl) ?_
      refine J.Chain.cons (by rfl) (by rfl) (fun M u hO K hK => by ((have e2 := (hO.old hb).trans c2; simp only [wp_at_zero, wp_at_succ]; go_step; exact hK _ hO))) (by simp only [J.putL, zI, zG, zH, J.dstOf, zF, zD, zE, zS, zQ, zR, Act.put, zA, zB, zC]; rfl) ?_
      refine J.Chain.cons (by rfl) (by rfl) (fun M u hO K hK => by (simp only [wp_at_zero, wp_at_succ]; go_step; exact hK _ hO)) (by simp only [J.putL, zI, zG, zH, J.dstOf, zF, zD, zE, zS, zQ, zR, Act.put, zA, zB, zC]; rfl) ?_
      refine J.Chain.cons (by rfl) (by rfl) (fun M u hO K hK => by (simp only [wp_at_zero, wp_at_succ]; go_step; refine (laws_markTextI _ (q + 3 * k + 2) _ (by omega) (by omega)).mono ?_; rintro e u ⟨rfl, hb⟩; exact hK _ (hO.step hb))) (by simp only [J.putL, zI, zG, zH, J.dstOf, zF, zD, zE, zS, zQ, zR, Act.put, zA, zB, zC]; rfl) ?_
      refine J.Chain.cons (by rfl) (by rfl) (fun M u hO K hK => by (simp only [wp_at_zero, wp_at_succ]; go_step; exact hK _ hO)) (by simp only [J.putL, zI, zG, zH, J.dstOf, zF, zD, zE, zS, zQ, zR, Act.put, zA, zB, zC]; rfl) ?_
      refine J.Chain.nil ⟨?_, ?_⟩
      · exact J.Each.nil
      intro vs u hO hF
      clear hF
      simp only [List.flatMap_cons, List.flatMap_nil, List.append_nil, zL, zK] at hO
      simp only [J.putL]
      clear vs
      refine wpAny_done (by kernel_rfl) ?_ _
      go_wp2_with (first
        | ((with_reducible refine wpl_alloc ?_); refine wpList_alloc_own rfl (by rfl) hO rfl (fun b => by simp only [Act.put, zA, zB, zC]; rfl) ?_; (first | (refine nm 0 rfl ?_; clear hO; intro b0 u hO)); simp only [zL, zK] at hO)
        | ((with_reducible refine wpl_box ?_); refine wpList_box_own rfl (by rfl) hO rfl rfl (fun b => by simp only [Act.put, zA, zB, zC]; rfl) ?_; (first | (refine nm 0 rfl ?_; clear hO; intro b0 u hO)); simp only [zL, zK] at hO)
        | fail)
      go_roundw
      case rel => exact ⟨k + 1, by omega, by go_num, congrArg (Value.int .i64) (by omega), hO⟩
      case measure => simp [intOf]; omega
    · have hkn : k = n := by omega
      subst hkn
      go_wp2_with fail
      go_ret
      exact ⟨rfl, hO.below⟩

def PHl (ps : List VT) : Prop := ∀ (A : Option Addr) (c : Nat) (pvs : List (List Value)) (x : Int) (q : Nat) (w : World), x = q → q + cntL ps ≤ 2147483647 → RdL w A (mrkL q ps) pvs →
    Calls Try.prog 72 #[.slice A ps.length c, .int .i64 x] w fun e w' => e = .returned (.int .i64 (q + cntL ps : Nat)) ∧ Below w.heap.size w w'

set_option maxRecDepth 100000 in
set_option maxHeartbeats 1000000 in
theorem laws_heldVecs_of (ps : List VT) (ih : ∀ p ∈ ps, PHl p.parts) : PHl ps := by
  intro A c pvs x q w hx hq h
  subst hx
  have hps : ps.length ≤ 2147483647 := by have := cntL_ge ps; omega
  go_enter Try.func72, Try.ntmps72
  have hO := Own.nil w
  go_wp2_with fail
  go_loopw [1, 5] (fun s i u => ∃ k : Nat, k ≤ ps.length ∧ i = .int .i64 k ∧ s = .int .i64 ((q + cntL (ps.take k) : Nat) : Int) ∧ Own w [] u) (fun _ i _ => ps.length - (intOf i).toNat)
  case atStart => exact ⟨0, Nat.zero_le _, rfl, rfl, hO⟩
  case round =>
    clear hO
    obtain ⟨k, hk, rfl, rfl, hO⟩ := hrel
    by_cases hlt : k < ps.length
    · have hih := ih _ (List.getElem_mem hlt)
      have hcm := cntL_mem hlt
      have HC := Lib.hid (cntL_succ hlt)
      obtain ⟨b, off, rfl, hb, v0, v1, v2, v3, v4, v5, v6, v7, hv, c0, c1, c2, c3, c4, c5, c6, c7⟩ := h.pt (Below.refl _ _) (by rw [mrkL_len]; exact hlt) (mrkL_at q ps k hlt _)
      obtain ⟨x, hx⟩ : ∃ x, ps[k]'hlt = x := ⟨_, rfl⟩
      rw [hx] at hih hcm HC hv
      clear hx
      obtain ⟨xk, xi, xp, xn, xc, xl, xo, xe⟩ := x
      obtain ⟨m, hm⟩ : ∃ m, q + cntL (ps.take k) = m := ⟨_, rfl⟩
      rw [hm] at hv ⊢
      simp only [cntV] at hcm HC
      have hmb : m + (3 * xi.length + cntL xp + xn.length + xc.length + xl.length + 3) ≤ 2147483647 := by omega
      have HMq := Lib.hid hm
      clear hm hcm
      replace hih : PHl xp := hih
      simp only [mrkP, mrkV, setT, cntV] at hv
      obtain ⟨Ai, Ap, An, Ac, Al, ci, cp, cn, cc, cl, pvs2, hvs, r1, r2, r3, r4, r5⟩ := hv.open
      simp only [List.cons.injEq, and_true] at hvs
      obtain ⟨rfl, rfl, rfl, rfl, rfl, rfl, rfl, rfl⟩ := hvs
      rw [mkI_len] at r1 c1
      rw [mkS_len] at r3 r4 r5 c3 c4 c5
      rw [mrkL_len] at c2
      clear hv
      have e0 := (hO.old hb).trans c0
      have e1 := (hO.old hb).trans c1
      go_wp2_with fail
      refine (laws_heldItems _ _ (m + 1) (by omega) (by omega) _ _ _ (r1.below hO.below)).mono ?_
      rintro e u ⟨rfl, hb⟩
      (replace hO := hO.step hb; clear hb)
      clear e0 e1
      have e2 := (hO.old hb).trans c2
      go_wp2_with fail
      refine (hih _ _ _ _ (m + 1 + 3 * xi.length) _ (by omega) (by omega) (r2.below hO.below)).mono ?_
      rintro e u ⟨rfl, hb⟩
      (replace hO := hO.step hb; clear hb)
      clear e2
      have e3 := (hO.old hb).trans c3
      go_wp2_with fail
      refine (laws_heldStrs _ _ (m + 1 + 3 * xi.length + cntL xp) (by omega) (by omega) _ _ _ (r3.below hO.below)).mono ?_
      rintro e u ⟨rfl, hb⟩
      (replace hO := hO.step hb; clear hb)
      clear e3
      have e4 := (hO.old hb).trans c4
      go_wp2_with fail
      refine (laws_heldStrs _ _ (m + 1 + 3 * xi.length + cntL xp + xn.length) (by omega) (by omega) _ _ _ (r4.below hO.below)).mono ?_
      rintro e u ⟨rfl, hb⟩
      (replace hO := hO.step hb; clear hb)
      clear e4
      have e5 := (hO.old hb).trans c5
      go_wp2_with fail
      refine (laws_heldStrs _ _ (m + 1 + 3 * xi.length + cntL xp + xn.length + xc.length) (by omega) (by omega) _ _ _ (r5.below hO.below)).mono ?_
      rintro e u ⟨rfl, hb⟩
      (replace hO := hO.step hb; clear hb)
      clear e5
      obtain ⟨z, hz⟩ : ∃ z, m + 1 + 3 * xi.length + cntL xp + xn.length + xc.length + xl.length = z := ⟨_, rfl⟩
      rw [hz]
      rw [show m + 1 + (3 * xi.length + cntL xp + xn.length + xc.length + xl.length) = z by omega] at c6
      rw [show m + 2 + (3 * xi.length + cntL xp + xn.length + xc.length + xl.length) = z + 1 by omega] at c7
      have HZ := Lib.hid hz
      have hzb : z ≤ 2147483645 := by omega
      clear hz hmb
      have e6 := (hO.old hb).trans c6
      have e7 := (hO.old hb).trans c7
      go_wp2_with fail
      go_roundw
      case rel => exact ⟨k + 1, by omega, by go_num, congrArg (Value.int .i64) (by have := HZ.out; have := HMq.out; have := HC.out; omega), hO⟩
      case measure => simp [intOf]; omega
    · have hkn : k = ps.length := by omega
      subst hkn
      rw [List.take_length]
      go_wp2_with fail
      go_ret
      exact ⟨rfl, hO.below⟩

theorem laws_heldVecs (ps : List VT) : PHl ps := by
  have h : ∀ t : VT, PHl t.parts := by
    intro t
    induction t using VT.ind with
    | _ k is ps ns cs ls c e ih => exact laws_heldVecs_of ps ih
  exact h (.mk 0 [] ps [] [] [] 0 0)

theorem laws_heldVec (t : VT) (vs : List Value) (q : Nat) (x : Int) (hx : x = q) (hq : q + cntV t ≤ 2147483647) (w : World) (hv : RdV w (mrkV q t) vs) :
    Calls Try.prog 28 #[.agg vs.toArray, .int .i64 x] w fun e w' => e = .returned (.int .i64 (q + cntV t : Nat)) ∧ Below w.heap.size w w' := by
  subst hx
  obtain ⟨xk, xi, xp, xn, xc, xl, xo, xe⟩ := t
  simp only [mrkV] at hv
  obtain ⟨Ai, Ap, An, Ac, Al, ci, cp, cn, cc, cl, pvs2, rfl, r1, r2, r3, r4, r5⟩ := hv.open
  rw [mkI_len] at r1 ⊢
  rw [mkS_len] at r3 r4 r5 ⊢
  rw [mkS_len, mkS_len, mrkL_len]
  simp only [cntV] at hq
  clear hv
  go_enter Try.func28, Try.ntmps28
  have hO := Own.nil w
  go_wp2_with (first
    | ((with_reducible refine wpl_box ?_); refine wpList_box_own rfl (by rfl) hO rfl rfl (fun b => by simp only [Act.put, zA, zB, zC]; rfl) ?_; (refine nm 0 rfl ?_; clear hO; intro b0 u hO); simp only [zL, zK] at hO)
    | ((with_reducible refine wpl_load ?_); refine wpList_load_field rfl (by rfl) hO rfl _ (by exact at0) (by rfl) (by simp only [Act.put, zA, zB, zC]; rfl) ?_)
    | fail)
  refine (laws_heldItems _ _ q (by omega) (by omega) _ _ _ (r1.below hO.below)).mono ?_
  rintro e u ⟨rfl, hb⟩
  (replace hO := hO.step hb; clear hb)
  go_wp2_with (first
    | ((with_reducible refine wpl_load ?_); refine wpList_load_field rfl (by rfl) hO rfl _ (by exact at0) (by rfl) (by simp only [Act.put, zA, zB, zC]; rfl) ?_)
    | fail)
  refine (laws_heldVecs _ _ _ _ _ (q + 3 * xi.length) _ (by omega) (by omega) (r2.below hO.below)).mono ?_
  rintro e u ⟨rfl, hb⟩
  (replace hO := hO.step hb; clear hb)
  go_wp2_with (first
    | ((with_reducible refine wpl_load ?_); refine wpList_load_field rfl (by rfl) hO rfl _ (by exact at0) (by rfl) (by simp only [Act.put, zA, zB, zC]; rfl) ?_)
    | fail)
  refine (laws_heldStrs _ _ (q + 3 * xi.length + cntL xp) (by omega) (by omega) _ _ _ (r3.below hO.below)).mono ?_
  rintro e u ⟨rfl, hb⟩
  (replace hO := hO.step hb; clear hb)
  go_wp2_with (first
    | ((with_reducible refine wpl_load ?_); refine wpList_load_field rfl (by rfl) hO rfl _ (by exact at0) (by rfl) (by simp only [Act.put, zA, zB, zC]; rfl) ?_)
    | fail)
  refine (laws_heldStrs _ _ (q + 3 * xi.length + cntL xp + xn.length) (by omega) (by omega) _ _ _ (r4.below hO.below)).mono ?_
  rintro e u ⟨rfl, hb⟩
  (replace hO := hO.step hb; clear hb)
  go_wp2_with (first
    | ((with_reducible refine wpl_load ?_); refine wpList_load_field rfl (by rfl) hO rfl _ (by exact at0) (by rfl) (by simp only [Act.put, zA, zB, zC]; rfl) ?_)
    | fail)
  refine (laws_heldStrs _ _ (q + 3 * xi.length + cntL xp + xn.length + xc.length) (by omega) (by omega) _ _ _ (r5.below hO.below)).mono ?_
  rintro e u ⟨rfl, hb⟩
  (replace hO := hO.step hb; clear hb)
  go_wp2_with (first
    | ((with_reducible refine wpl_alloc ?_); refine wpList_alloc_own rfl (by rfl) hO rfl (fun b => by simp only [Act.put, zA, zB, zC]; rfl) ?_; (first | (refine nm 0 rfl ?_; clear hO; intro b0 u hO)); simp only [zL, zK] at hO)
    | ((with_reducible refine wpl_box ?_); refine wpList_box_own rfl (by rfl) hO rfl rfl (fun b => by simp only [Act.put, zA, zB, zC]; rfl) ?_; (first | (refine nm 0 rfl ?_; clear hO; intro b0 u hO)); simp only [zL, zK] at hO)
    | ((with_reducible refine wpl_load ?_); refine wpList_load_box rfl (by (first | rfl | (simp only [Region.wanted, yielded, *]; go_simp; done) | (simp [Region.wanted, yielded, *]; done) | fail)) hO rfl _ (by (first | exact at0)) (by rfl) (by simp only [Act.put, zA, zB, zC]; rfl) ?_)
    | ((with_reducible refine wpl_load ?_); refine wpList_load_field rfl (by (first | rfl | (simp only [Region.wanted, yielded, *]; go_simp; done) | (simp [Region.wanted, yielded, *]; done) | fail)) hO rfl _ (by (first | exact at0)) (by rfl) (by simp only [Act.put, zA, zB, zC]; rfl) ?_)
    | ((with_reducible refine wpl_store ?_); refine wpList_store_box rfl (by rfl) hO rfl _ (by (first | exact at0)) rfl (by rfl) (by rfl) (by rfl) (by rfl) (by rfl) ?_; clear hO; intro u hO; simp only [zC, zB] at hO)
    | ((with_reducible refine wpl_store ?_); refine wpList_store_field rfl (by rfl) hO rfl _ (by (first | exact at0)) (zM rfl) (by simp only [Act.eval, zJ, zF, zD, zE, zP]; rfl) (by rfl) (by rfl) (by rfl) ?_; clear hO; intro u hO; simp only [zC, zB] at hO)
    | fail)
  go_ret
  exact ⟨ret_int (by simp only [cntV]; omega), hO.below⟩
end Go.Proofs.Ytmofcbpabdbjlaa
