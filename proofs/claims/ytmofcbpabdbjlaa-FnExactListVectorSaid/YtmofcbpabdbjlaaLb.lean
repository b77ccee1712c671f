/-
  What is proved: what the statements' copies of items, parts and vectors return: memory of the call's own.
  Condition: vectors of size at most 1048576.
-/
import Derived.Test.YtmofcbpabdbjlaaLa
import Derived.Test.YtmofcbpabdbjlaaPk
namespace Go.Proofs.Ytmofcbpabdbjlaa
set_option maxRecDepth 8000
open Go.RowKit Go.ChangeShapes Go.WideShapes
set_option linter.unusedVariables false
set_option linter.unusedSimpArgs false

theorem put_mid {α : Type} (a m v : List α) {k sz n : Nat} (ha : a.length = k * sz) (hm : m.length = n * sz) (hv : v.length = sz) (hk : k < n) :
    (a ++ m.drop (k * sz)).take (k * sz) ++ v ++ (a ++ m.drop (k * sz)).drop (k * sz + v.length) = (a ++ v) ++ m.drop ((k + 1) * sz) := by
  rw [List.take_append_of_le_length (by omega), List.take_of_length_le (by omega), List.drop_append, List.drop_eq_nil_of_le (by omega), List.nil_append, List.drop_drop, ha, hv]
  rw [show k * sz + (k * sz + sz - k * sz) = (k + 1) * sz by rw [Nat.succ_mul]; omega]
theorem mid_fits {α : Type} (a m : List α) {k sz n : Nat} (ha : a.length = k * sz) (hm : m.length = n * sz) (hk : k < n) : k * sz + sz ≤ (a ++ m.drop (k * sz)).length := by
  have : (k + 1) * sz ≤ n * sz := Nat.mul_le_mul_right _ hk
  rw [Nat.succ_mul] at this
  simp [ha, hm]
  omega

theorem laws_toItems (A : Option Addr) (c : Nat) (l : List It) (w : World) (h : Sl w 3 A l.length (itc l)) (hn : l.length ≤ 1048576) :
    Calls Try.prog 76 #[.slice A l.length c] w fun e w' => ∃ A' c', e = .returned (.slice A' l.length c') ∧ Own w [row 83 3 (.slice A' l.length c') l.length (itc l)] w' := by
  go_enter Try.func76, Try.ntmps76
  have hO := Own.nil w
  go_wp2_with (refine wpList_make_own hO rfl (by rfl) (n := l.length) rfl rfl (by omega) (by omega) rfl (fun b => by simp only [Act.put, List.setIfInBounds_toArray, List.set_cons_succ, List.set_cons_zero]; rfl) ?_; clear hO; intro b mz u hmz hO; simp only [List.nil_append] at hO)
  go_loopw [4] (fun i u => ∃ k : Nat, k ≤ l.length ∧ i = .int .i64 k ∧ Own w [box b 83 (itc (l.take k) ++ mz.drop (k * 3))] u) (fun i _ => l.length - (intOf i).toNat)
  case atStart => exact ⟨0, Nat.zero_le _, rfl, by simpa [itc] using hO⟩
  case round =>
    clear hO
    obtain ⟨k, hk, rfl, hO⟩ := hrel
    by_cases hlt : k < l.length
    · have HT := Lib.hid (take_snoc' hlt)
      obtain ⟨x, hx⟩ : ∃ x, l[k]'hlt = x := ⟨_, rfl⟩
      obtain ⟨b', off, rfl, hb, c0, c1, c2⟩ := h.it hO.below hlt hx
      rw [hx] at HT
      clear hx
      have hta : (itc (l.take k)).length = k * 3 := by rw [itc_len, List.length_take]; omega
      have HF := Lib.hid (mid_fits (itc (l.take k)) mz hta hmz hlt)
      have HM := Lib.hid (put_mid (itc (l.take k)) mz (itc1 x) hta hmz rfl hlt)
      clear hta
      go_wp2_with fail
      refine (laws_toItem _ _ _ _).mono ?_
      rintro e u ⟨rfl, hb⟩
      (replace hO := hO.step hb; clear hb)
      go_wp2_with (refine wpList_store_mid_own (vs := itc1 x) hO rfl (by rfl) rfl 0 rfl rfl rfl HF.out rfl rfl ?_; clear hO; intro u hO)
      rw [List.set_cons_zero, HM.out, show itc (l.take k) ++ itc1 x = itc (l.take (k + 1)) by rw [HT.out, itc_app]; simp [itc]] at hO
      go_wp2_with fail
      go_roundw
      case rel => exact ⟨k + 1, by omega, by go_num, hO⟩
      case measure => simp [intOf]; omega
    · have hkn : k = l.length := by omega
      subst hkn
      have e1 : l.take l.length = l := List.take_length ..
      have e2 : mz.drop (l.length * 3) = [] := List.drop_eq_nil_of_le (by omega)
      rw [e1, e2, List.append_nil] at hO
      clear e1 e2
      go_wp2_with fail
      go_ret
      exact ⟨_, _, rfl, hO.box_row 3 _ (itc_len l) (by omega)⟩

theorem laws_toStrsR (A : Option Addr) (c : Nat) (l : List ByteArray) (w : World) (h : Sl w 1 A l.length (stc l)) (hn : l.length ≤ 1048576) :
    Calls Try.prog 20 #[.slice A l.length c] w fun e w' => ∃ A' c', e = .returned (.slice A' l.length c') ∧ Own w [row 9 1 (.slice A' l.length c') l.length (stc l)] w' :=
  (laws_toStrs A l.length c l w h hn).mono fun e w' ⟨b, he, hO⟩ => ⟨_, _, he, hO.box_row 1 _ (by simp [stc]) (by omega)⟩

def PTo (t : VT) : Prop := ∀ (vs : List Value) (w : World), RdV w t vs → szV t ≤ 1048576 → Calls Try.prog 31 #[.agg vs.toArray] w fun e w' => ∃ vs' F, e = .returned (.agg vs'.toArray) ∧ VO t vs' F ∧ Own w [pack F] w'

theorem laws_toVecs (ps : List VT) (hP : ∀ p ∈ ps, PTo p) (A : Option Addr) (c : Nat) (pvs0 : List (List Value)) (w : World) (h : RdL w A ps pvs0) (hz : szL ps ≤ 1048576) :
    Calls Try.prog 19 #[.slice A ps.length c] w fun e w' => ∃ A' c' pvs Ls, e = .returned (.slice A' ps.length c') ∧ VL ps pvs Ls ∧ Own w [row 29 8 (.slice A' ps.length c') ps.length pvs.flatten, pack Ls.flatten] w' := by
  have hz' := szL_eq ps
  have hn : ps.length ≤ 1048576 := by omega
  have HZ := Lib.hid (show szP ps ≤ 1048576 by omega)
  clear hz hz'
  go_enter Try.func19, Try.ntmps19
  have hO := Own.nil w
  go_wp2_with (refine wpList_make_own hO rfl (by rfl) (n := ps.length) rfl rfl (by omega) (by omega) rfl (fun b => by simp only [Act.put, List.setIfInBounds_toArray, List.set_cons_succ, List.set_cons_zero]; rfl) ?_; clear hO; intro b mz u hmz hO; simp only [List.nil_append] at hO)
  replace hO := Own.pack (F := []) hO
  go_loopw [4] (fun i u => ∃ (k : Nat) (pvs : List (List Value)) (Ls : List (List Res)), k ≤ ps.length ∧ i = .int .i64 k ∧ VL (ps.take k) pvs Ls ∧ Own w [pack Ls.flatten, box b 29 (pvs.flatten ++ mz.drop (k * 8))] u) (fun i _ => ps.length - (intOf i).toNat)
  case atStart => exact ⟨0, [], [], Nat.zero_le _, rfl, VL.nil, by simpa using hO⟩
  case round =>
    clear hO
    obtain ⟨k, pvs, Ls, hk, rfl, hv, hO⟩ := hrel
    by_cases hlt : k < ps.length
    · have hp := hP _ (List.getElem_mem hlt)
      have hsz := Nat.le_trans (szP_mem hlt) HZ.out
      have HT := Lib.hid (take_snoc' hlt)
      obtain ⟨x, hx⟩ : ∃ x, ps[k]'hlt = x := ⟨_, rfl⟩
      obtain ⟨b', off, rfl, hb, v0, v1, v2, v3, v4, v5, v6, v7, hrd, c0, c1, c2, c3, c4, c5, c6, c7⟩ := h.pt hO.below hlt hx
      rw [hx] at HT hp hsz
      clear hx
      have hta : pvs.flatten.length = k * 8 := by rw [hv.flat, List.length_take]; congr 1; omega
      have HF := Lib.hid (mid_fits pvs.flatten mz hta hmz hlt)
      have HM := fun vs (h8 : vs.length = 8) => Lib.hid (put_mid pvs.flatten mz vs hta hmz h8 hlt)
      clear hta
      go_wp2_with fail
      refine (hp _ _ hrd hsz).mono ?_
      rintro e u ⟨vs, F, rfl, hvo, hb⟩
      replace hO := hO.call hb
      clear hb c0 c1 c2 c3 c4 c5 c6 c7 hrd
      have h8 := hvo.len
      have h1 := hvo.one
      have HF8 := Lib.hid (show k * 8 + vs.length ≤ (pvs.flatten ++ mz.drop (k * 8)).length by rw [h8]; exact HF.out)
      go_wp2_with (refine wpList_store_mid_own (vs := vs) hO rfl (by rfl) rfl 2 rfl rfl h8 HF8.out h1 rfl ?_; clear hO; intro u hO)
      simp only [List.set_cons_zero, List.set_cons_succ, List.cons_append, List.nil_append] at hO
      rw [(HM vs h8).out] at hO
      replace hO := (hO.pick [1, 0, 2] (by decide)).merge
      rw [← flat_snoc, ← flat_snoc] at hO
      go_wp2_with fail
      go_roundw
      case rel => exact ⟨k + 1, _, _, by omega, by go_num, by rw [HT.out]; exact hv.snoc hvo, hO⟩
      case measure => simp [intOf]; omega
    · have hkn : k = ps.length := by omega
      subst hkn
      have e1 : ps.take ps.length = ps := List.take_length ..
      have e2 : mz.drop (ps.length * 8) = [] := List.drop_eq_nil_of_le (by omega)
      rw [e2, List.append_nil] at hO
      rw [e1] at hv
      clear e1 e2
      go_wp2_with fail
      go_ret
      exact ⟨_, _, _, _, rfl, hv, Own.box_row (hO.pick [1, 0] (by decide)) 8 _ hv.flat (by omega)⟩

theorem laws_toVec (t : VT) : PTo t := by
  induction t using VT.ind with
  | _ k is ps ns cs ls c e ih =>
    intro vs w hv hz
    obtain ⟨Ai, Ap, An, Ac, Al, ci, cp, cn, cc, cl, pvs, rfl, h1, h2, h3, h4, h5⟩ := hv.open
    have HT : szV (.mk k is ps ns cs ls c e) = szI is + szL ps + szS ns + szS cs + szS ls := rfl
    unfold szI szS at HT
    have z1 : is.length ≤ 1048576 := by omega
    have z2 : szL ps ≤ 1048576 := by omega
    have z3 : ns.length ≤ 1048576 := by omega
    have z4 : cs.length ≤ 1048576 := by omega
    have z5 : ls.length ≤ 1048576 := by omega
    clear HT hv
    go_enter Try.func31, Try.ntmps31
    have hO := Own.nil w
    go_wp2_with (first
      | ((with_reducible refine wpl_alloc ?_); refine wpList_alloc_own rfl (by rfl) hO rfl (fun b => by simp only [Act.put, zA, zB, zC]; rfl) ?_; (first | (refine nm 1 rfl ?_; clear hO; intro b1 u hO) | (refine nm 2 rfl ?_; clear hO; intro b2 u hO) | fail); simp only [zL, zK] at hO)
      | ((with_reducible refine wpl_box ?_); refine wpList_box_own rfl (by rfl) hO rfl rfl (fun b => by simp only [Act.put, zA, zB, zC]; rfl) ?_; (refine nm 0 rfl ?_; clear hO; intro b0 u hO); simp only [zL, zK] at hO)
      | ((with_reducible refine wpl_load ?_); refine wpList_load_field rfl (by rfl) hO rfl _ (by exact at0) (by rfl) (by simp only [Act.put, zA, zB, zC]; rfl) ?_)
      | ((with_reducible refine wpl_store ?_); refine wpList_store_field rfl (by rfl) hO rfl _ (by exact at2) (zM rfl) (by simp only [Act.eval, zJ, zF, zD, zE, zP]; rfl) (by rfl) (by rfl) (by rfl) ?_; clear hO; intro u hO; simp only [zC, zB] at hO)
      | fail)
    refine (laws_toItems _ _ is _ (h1.below hO.below) z1).mono ?_
    rintro e1 u ⟨A1, c1, rfl, hb⟩
    replace hO := hO.call hb
    clear hb
    simp only [List.cons_append, List.nil_append] at hO
    go_wp2_with (first
      | ((with_reducible refine wpl_load ?_); refine wpList_load_field rfl (by rfl) hO rfl _ (by exact at1) (by rfl) (by simp only [Act.put, zA, zB, zC]; rfl) ?_)
      | ((with_reducible refine wpl_store ?_); refine wpList_store_field rfl (by rfl) hO rfl _ (by exact at3) (zM rfl) (by simp only [Act.eval, zJ, zF, zD, zE, zP]; rfl) (by rfl) (by rfl) (by rfl) ?_; clear hO; intro u hO; simp only [zC, zB] at hO)
      | fail)
    refine (laws_toVecs ps ih _ _ _ _ (h2.below hO.below) z2).mono ?_
    rintro e1 u ⟨A2, c2, pvs2, Ls2, rfl, hvl, hb⟩
    replace hO := hO.call hb
    clear hb
    simp only [List.cons_append, List.nil_append] at hO
    go_wp2_with (first
      | ((with_reducible refine wpl_load ?_); refine wpList_load_field rfl (by rfl) hO rfl _ (by exact at3) (by rfl) (by simp only [Act.put, zA, zB, zC]; rfl) ?_)
      | ((with_reducible refine wpl_store ?_); refine wpList_store_field rfl (by rfl) hO rfl _ (by exact at5) (zM rfl) (by simp only [Act.eval, zJ, zF, zD, zE, zP]; rfl) (by rfl) (by rfl) (by rfl) ?_; clear hO; intro u hO; simp only [zC, zB] at hO)
      | fail)
    refine (laws_toStrsR _ _ ns _ (h3.below hO.below) z3).mono ?_
    rintro e1 u ⟨A3, c3, rfl, hb⟩
    replace hO := hO.call hb
    clear hb
    simp only [List.cons_append, List.nil_append] at hO
    go_wp2_with (first
      | ((with_reducible refine wpl_load ?_); refine wpList_load_field rfl (by rfl) hO rfl _ (by exact at4) (by rfl) (by simp only [Act.put, zA, zB, zC]; rfl) ?_)
      | ((with_reducible refine wpl_store ?_); refine wpList_store_field rfl (by rfl) hO rfl _ (by exact at6) (zM rfl) (by simp only [Act.eval, zJ, zF, zD, zE, zP]; rfl) (by rfl) (by rfl) (by rfl) ?_; clear hO; intro u hO; simp only [zC, zB] at hO)
      | fail)
    refine (laws_toStrsR _ _ cs _ (h4.below hO.below) z4).mono ?_
    rintro e1 u ⟨A4, c4, rfl, hb⟩
    replace hO := hO.call hb
    clear hb
    simp only [List.cons_append, List.nil_append] at hO
    go_wp2_with (first
      | ((with_reducible refine wpl_load ?_); refine wpList_load_field rfl (by rfl) hO rfl _ (by exact at5) (by rfl) (by simp only [Act.put, zA, zB, zC]; rfl) ?_)
      | ((with_reducible refine wpl_store ?_); refine wpList_store_field rfl (by rfl) hO rfl _ (by exact at7) (zM rfl) (by simp only [Act.eval, zJ, zF, zD, zE, zP]; rfl) (by rfl) (by rfl) (by rfl) ?_; clear hO; intro u hO; simp only [zC, zB] at hO)
      | fail)
    refine (laws_toStrsR _ _ ls _ (h5.below hO.below) z5).mono ?_
    rintro e1 u ⟨A5, c5, rfl, hb⟩
    replace hO := hO.call hb
    clear hb
    simp only [List.cons_append, List.nil_append] at hO
    go_wp2_with (first
      | ((with_reducible refine wpl_load ?_); refine wpList_load_box rfl (by rfl) hO rfl _ (by exact at8) (by rfl) (by simp only [Act.put, zA, zB, zC]; rfl) ?_)
      | ((with_reducible refine wpl_load ?_); refine wpList_load_field rfl (by rfl) hO rfl _ (by exact at6) (by rfl) (by simp only [Act.put, zA, zB, zC]; rfl) ?_)
      | ((with_reducible refine wpl_store ?_); refine wpList_store_box rfl (by rfl) hO rfl _ (by exact at7) rfl (by rfl) (by rfl) (by rfl) (by rfl) (by rfl) ?_; clear hO; intro u hO; simp only [zC, zB] at hO)
      | ((with_reducible refine wpl_store ?_); refine wpList_store_field rfl (by rfl) hO rfl _ (by exact at8) (zM rfl) (by simp only [Act.eval, zJ, zF, zD, zE, zP]; rfl) (by rfl) (by rfl) (by rfl) ?_; clear hO; intro u hO; simp only [zC, zB] at hO)
      | fail)
    exact ret_box rfl hO rfl 7 at7 rfl rfl ⟨_, _, rfl, VO.close hvl, Own.packs [_, _, _, _, _] (hO.pick [5, 3, 2, 1, 0, 4] (by decide))⟩
end Go.Proofs.Ytmofcbpabdbjlaa
