/-
  What is proved: what RemainderOf (of the program and of the reference) returns.
  Condition: items of 64-bit ints.
-/
import Derived.Test.YtmofcbpabdbjlaaGreatMz4
import Derived.Test.YtmofcbpabdbjlaaGreatMz25
namespace Go.Proofs.YtmofcbpabdbjlaaGreat

set_option maxRecDepth 8000

open Go.RowKit

set_option linter.unusedVariables false

set_option linter.unusedSimpArgs false

/-- quotient and remainder by the floor: what they are within -/
theorem fdiv_rem (a b : Int) (hb : b ≠ 0) (ha : -1000000000000000000 ≤ a ∧ a ≤ 1000000000000000000 ∧ -1000000000000000000 ≤ b ∧ b ≤ 1000000000000000000) :
    -2000000000000000000 ≤ b * Int.fdiv a b ∧ b * Int.fdiv a b ≤ 2000000000000000000 ∧ -1000000000000000000 ≤ a - b * Int.fdiv a b ∧ a - b * Int.fdiv a b ≤ 1000000000000000000 := by
  have h1 : Int.fmod a b = a - b * Int.fdiv a b := Int.fmod_def a b
  have h2 : -1000000000000000000 ≤ Int.fmod a b ∧ Int.fmod a b ≤ 1000000000000000000 := by
    rcases Int.lt_trichotomy b 0 with h | h | h
    · have e1 := Int.fmod_nonneg_of_pos (-a) (b := -b) (by omega)
      have e2 := Int.fmod_lt_of_pos (-a) (b := -b) (by omega)
      rw [Int.fmod_def, fdiv_neg_neg] at e1 e2
      rw [h1]
      rw [Int.neg_mul] at e1 e2
      omega
    · exact absurd h hb
    · have e1 := Int.fmod_nonneg_of_pos a h
      have e2 := Int.fmod_lt_of_pos a h
      omega
  omega

set_option maxHeartbeats 1000000 in
theorem impl_rem (n1 d1 n2 d2 : Int) (t1 t2 : ByteArray) (w : World) :
    Calls Tryz.prog 62 #[.agg #[.int .i64 n1, .int .i64 d1, .string t1], .agg #[.int .i64 n2, .int .i64 d2, .string t2]] w fun e w' =>
      e = .returned (.agg #[.int .i64 (remI n1 d1 t1 n2 d2 t2).1, .int .i64 (remI n1 d1 t1 n2 d2 t2).2, .string ⟨#[]⟩]) ∧ Below w.heap.size w w' := by
  cases h1 : zas n1 d1 t1
  · have HM := Lib.hid (show remI n1 d1 t1 n2 d2 t2 = (0, 0) from op2_no1 h1)
    go_enter Tryz.func62, Tryz.ntmps62
    have hO := Own.nil w
    go_wp2_with (first | ((with_reducible refine zac ?_); refine zal rfl hO rfl ?_; (refine nm 2 rfl ?_; clear hO; intro b2 u hO); simp only [zL, zK] at hO) | ((with_reducible refine zad ?_); refine zbx rfl hO rfl rfl ?_; (first | (refine nm 0 rfl ?_; clear hO; intro b0 u hO) | (refine nm 1 rfl ?_; clear hO; intro b1 u hO) | fail); simp only [zL, zK] at hO) | ((with_reducible refine zaa ?_); refine zlb rfl hO rfl _ (by exact at0) ?_) | fail)
    refine (zak _ _ _ _).mono ?_
    rintro e u ⟨rfl, hb⟩
    (replace hO := hO.step hb; clear hb)
    rw [h1]
    go_wp2_with (first | ((with_reducible refine zab ?_); refine zsb rfl hO rfl _ (by exact at2) rfl ?_; clear hO; intro u hO; simp only [zC, zB] at hO) | fail)
    exact zan rfl hO rfl 2 rfl rfl rfl ⟨zar HM.out, hO.below⟩
  · cases h2 : zas n2 d2 t2
    · have HM := Lib.hid (show remI n1 d1 t1 n2 d2 t2 = (0, 0) from zbl h2)
      go_enter Tryz.func62, Tryz.ntmps62
      have hO := Own.nil w
      go_wp2_with (first | ((with_reducible refine zac ?_); refine zal rfl hO rfl ?_; (refine nm 2 rfl ?_; clear hO; intro b2 u hO); simp only [zL, zK] at hO) | ((with_reducible refine zad ?_); refine zbx rfl hO rfl rfl ?_; (first | (refine nm 0 rfl ?_; clear hO; intro b0 u hO) | (refine nm 1 rfl ?_; clear hO; intro b1 u hO) | fail); simp only [zL, zK] at hO) | ((with_reducible refine zaa ?_); refine zlb rfl hO rfl _ (by exact at0) ?_) | fail)
      refine (zak _ _ _ _).mono ?_
      rintro e u ⟨rfl, hb⟩
      (replace hO := hO.step hb; clear hb)
      rw [h1]
      go_wp2_with (first | ((with_reducible refine zaa ?_); refine zlb rfl hO rfl _ (by exact at1) ?_) | fail)
      refine (zak _ _ _ _).mono ?_
      rintro e u ⟨rfl, hb⟩
      (replace hO := hO.step hb; clear hb)
      rw [h2]
      go_wp2_with (first | ((with_reducible refine zab ?_); refine zsb rfl hO rfl _ (by exact at2) rfl ?_; clear hO; intro u hO; simp only [zC, zB] at hO) | fail)
      exact zan rfl hO rfl 2 rfl rfl rfl ⟨zar HM.out, hO.below⟩
    · have hyes := op2_yes (r := remV n1 d1 n2 d2) h1 h2
      obtain ⟨a1, a2, a3, a4⟩ := zaz h1
      obtain ⟨b1, b2, b3, b4⟩ := zaz h2
      obtain ⟨m1, m2⟩ := zax (a := n1) (b := d2) (by omega) (by omega)
      obtain ⟨m3, m4⟩ := zax (a := n2) (b := d1) (by omega) (by omega)
      obtain ⟨m5, m6⟩ := zax (a := d1) (b := d2) (by omega) (by omega)
      obtain ⟨m9, m10⟩ := zax (a := d1) (b := n2) (by omega) (by omega)
      by_cases hz : n2 = 0
      · have HM := Lib.hid (show remI n1 d1 t1 n2 d2 t2 = (0, 0) from hyes.trans (if_pos hz))
        have hzb : (n2 == 0) = true := by simp [hz]
        have HZ := Lib.hid hz
        clear hz hyes
        go_enter Tryz.func62, Tryz.ntmps62
        have hO := Own.nil w
        go_wp2_with (first | ((with_reducible refine zac ?_); refine zal rfl hO rfl ?_; (refine nm 2 rfl ?_; clear hO; intro b2 u hO); simp only [zL, zK] at hO) | ((with_reducible refine zad ?_); refine zbx rfl hO rfl rfl ?_; (first | (refine nm 0 rfl ?_; clear hO; intro b0 u hO) | (refine nm 1 rfl ?_; clear hO; intro b1 u hO) | fail); simp only [zL, zK] at hO) | ((with_reducible refine zaa ?_); refine zlb rfl hO rfl _ (by exact at0) ?_) | fail)
        refine (zak _ _ _ _).mono ?_
        rintro e u ⟨rfl, hb⟩
        (replace hO := hO.step hb; clear hb)
        rw [h1]
        go_wp2_with (first | ((with_reducible refine zaa ?_); refine zlb rfl hO rfl _ (by exact at1) ?_) | fail)
        refine (zak _ _ _ _).mono ?_
        rintro e u ⟨rfl, hb⟩
        (replace hO := hO.step hb; clear hb)
        rw [h2]
        go_wp2_with (first | ((with_reducible refine zaa ?_); refine zlf rfl hO rfl _ (by exact at1) ?_) | ((with_reducible refine zab ?_); refine zsb rfl hO rfl _ (by exact at2) rfl ?_; clear hO; intro u hO; simp only [zC, zB] at hO) | fail)
        exact zan rfl hO rfl 2 rfl rfl rfl ⟨zar HM.out, hO.below⟩
      · have HM := Lib.hid (show remI n1 d1 t1 n2 d2 t2 = _ from hyes.trans (if_neg hz))
        have hzb : (n2 == 0) = false := by simp [hz]
        clear hyes
        have hne : n2 * d1 ≠ 0 := Int.mul_ne_zero hz (by omega)
        go_enter Tryz.func62, Tryz.ntmps62
        have hO := Own.nil w
        go_wp2_with (first | ((with_reducible refine zac ?_); refine zal rfl hO rfl ?_; (refine nm 2 rfl ?_; clear hO; intro b2 u hO); simp only [zL, zK] at hO) | ((with_reducible refine zad ?_); refine zbx rfl hO rfl rfl ?_; (first | (refine nm 0 rfl ?_; clear hO; intro b0 u hO) | (refine nm 1 rfl ?_; clear hO; intro b1 u hO) | fail); simp only [zL, zK] at hO) | ((with_reducible refine zaa ?_); refine zlb rfl hO rfl _ (by exact at0) ?_) | fail)
        refine (zak _ _ _ _).mono ?_
        rintro e u ⟨rfl, hb⟩
        (replace hO := hO.step hb; clear hb)
        rw [h1]
        go_wp2_with (first | ((with_reducible refine zaa ?_); refine zlb rfl hO rfl _ (by exact at1) ?_) | fail)
        refine (zak _ _ _ _).mono ?_
        rintro e u ⟨rfl, hb⟩
        (replace hO := hO.step hb; clear hb)
        rw [h2]
        go_wp2_with (first | ((with_reducible refine zaa ?_); refine zlf rfl hO rfl _ (by (first | exact at0 | exact at1 | fail)) ?_) | fail)
        have hr := fdiv_rem (n1 * d2) (n2 * d1) hne (by omega)
        obtain ⟨v, hv⟩ : ∃ v, v = Int.fdiv (n1 * d2) (n2 * d1) := ⟨_, rfl⟩
        rw [← hv] at HM hr
        have HV := Lib.hid hv
        clear hv
        obtain ⟨f1, f2, f3, f4⟩ := hr
        refine J.wp_region_c (n := 44) [0, 1, 2, 3, 4, 5, 6, 7, 8, 9, 10, 11, 12] [] (deps := fun i => [[], [], [], [], [2, 3], [1, 2, 3, 4], [0, 1, 2, 3, 4, 5], [], [7], [], [9], [7, 8, 9, 10], [0, 1, 2, 3, 4, 5, 6, 7, 8, 9, 10, 11], []].getD i []) (fun _ _ _ => True) (r := 1) (lst := #[true, true, true, true, true, true, true, true, true, true, true, true, true, false]) (by kernel_rfl) (by kernel_rfl) (by kernel_rfl) rfl (by decide) (by kernel_rfl) hO ?_
        refine zcp (h := ?_)
        refine zcp (h := ?_)
        refine zcp (h := ?_)
        refine zcp (h := ?_)
        refine zcc (f := fun M u hO K hK => by (simp only [wp_at_zero, wp_at_succ]; go_step; refine ((impl_floorG _ _ _ (by omega) hne (by omega) (by omega)).mono (fun e w' h => by rw [← HV.out] at h; exact h)).mono ?_; rintro e u ⟨rfl, hb⟩; exact hK _ (hO.step hb))) (h := ?_)
        refine zcp (h := ?_)
        refine zcp (h := ?_)
        refine zcp (h := ?_)
        refine zcc (f := fun M u hO K hK => by (exact zae hO rfl rfl _ (by exact at0) (by rfl) (by rfl) (hK _ hO))) (h := ?_)
        refine zcp (h := ?_)
        refine zcc (f := fun M u hO K hK => by (exact zae hO rfl rfl _ (by exact at1) (by rfl) (by rfl) (hK _ hO))) (h := ?_)
        refine zcp (h := ?_)
        refine zcc (f := fun M u hO K hK => by (simp only [wp_at_zero, wp_at_succ]; go_step; refine (impl_make _ _ _ (by omega) (by omega)).mono ?_; rintro e u ⟨rfl, hb⟩; exact hK _ (hO.step hb))) (h := ?_)
        refine J.Chain.nil ⟨?_, ?_⟩
        · exact J.Each.nil
        intro vs u hO hF
        clear hF
        simp only [List.flatMap_cons, List.flatMap_nil, List.append_nil, zL, zK] at hO
        simp only [J.putL]
        clear vs
        refine J.wpAny_one (i := 13) (by kernel_rfl) (by rfl) rfl fun K hK => ?_
        (refine zaf hO rfl rfl _ (by exact at2) rfl (by rfl) (by rfl) (by rfl) (by rfl) (by rfl) ?_; clear hO; intro u hO; simp only [zC, zB] at hO; refine hK _ _ ?_; clear hK K)
        refine wpAny_done (by kernel_rfl) ?_ _
        go_wp2_with fail
        exact zan rfl hO rfl 2 rfl rfl rfl ⟨zar HM.out, hO.below⟩

set_option maxHeartbeats 2000000 in
theorem spec_rem (n1 d1 n2 d2 : Int) (t1 t2 : ByteArray) (w : World) :
    Calls Tryz.prog 79 #[.agg #[.int .i64 n1, .int .i64 d1, .string t1], .agg #[.int .i64 n2, .int .i64 d2, .string t2]] w fun e w' =>
      e = .returned (.agg #[.int .i64 (remI n1 d1 t1 n2 d2 t2).1, .int .i64 (remI n1 d1 t1 n2 d2 t2).2, .string ⟨#[]⟩]) ∧ Below w.heap.size w w' := by
  cases h1 : zas n1 d1 t1
  · have HM := Lib.hid (show remI n1 d1 t1 n2 d2 t2 = (0, 0) from op2_no1 h1)
    go_enter Tryz.func79, Tryz.ntmps79
    have hO := Own.nil w
    go_wp2_with (first | ((with_reducible refine zac ?_); refine zal rfl hO rfl ?_; (refine nm 2 rfl ?_; clear hO; intro b2 u hO); simp only [zL, zK] at hO) | ((with_reducible refine zad ?_); refine zbx rfl hO rfl rfl ?_; (first | (refine nm 0 rfl ?_; clear hO; intro b0 u hO) | (refine nm 1 rfl ?_; clear hO; intro b1 u hO) | fail); simp only [zL, zK] at hO) | ((with_reducible refine zaa ?_); refine zlb rfl hO rfl _ (by exact at0) ?_) | fail)
    refine (zam _ _ _ _).mono ?_
    rintro e u ⟨rfl, hb⟩
    (replace hO := hO.step hb; clear hb)
    rw [h1]
    go_wp2_with (first | ((with_reducible refine zab ?_); refine zsb rfl hO rfl _ (by exact at2) rfl ?_; clear hO; intro u hO; simp only [zC, zB] at hO) | fail)
    exact zan rfl hO rfl 2 rfl rfl rfl ⟨zar HM.out, hO.below⟩
  · cases h2 : zas n2 d2 t2
    · have HM := Lib.hid (show remI n1 d1 t1 n2 d2 t2 = (0, 0) from zbl h2)
      go_enter Tryz.func79, Tryz.ntmps79
      have hO := Own.nil w
      go_wp2_with (first | ((with_reducible refine zac ?_); refine zal rfl hO rfl ?_; (refine nm 2 rfl ?_; clear hO; intro b2 u hO); simp only [zL, zK] at hO) | ((with_reducible refine zad ?_); refine zbx rfl hO rfl rfl ?_; (first | (refine nm 0 rfl ?_; clear hO; intro b0 u hO) | (refine nm 1 rfl ?_; clear hO; intro b1 u hO) | fail); simp only [zL, zK] at hO) | ((with_reducible refine zaa ?_); refine zlb rfl hO rfl _ (by exact at0) ?_) | fail)
      refine (zam _ _ _ _).mono ?_
      rintro e u ⟨rfl, hb⟩
      (replace hO := hO.step hb; clear hb)
      rw [h1]
      go_wp2_with (first | ((with_reducible refine zaa ?_); refine zlb rfl hO rfl _ (by exact at1) ?_) | fail)
      refine (zam _ _ _ _).mono ?_
      rintro e u ⟨rfl, hb⟩
      (replace hO := hO.step hb; clear hb)
      rw [h2]
      go_wp2_with (first | ((with_reducible refine zab ?_); refine zsb rfl hO rfl _ (by exact at2) rfl ?_; clear hO; intro u hO; simp only [zC, zB] at hO) | fail)
      exact zan rfl hO rfl 2 rfl rfl rfl ⟨zar HM.out, hO.below⟩
    · have hyes := op2_yes (r := remV n1 d1 n2 d2) h1 h2
      obtain ⟨a1, a2, a3, a4⟩ := zaz h1
      obtain ⟨b1, b2, b3, b4⟩ := zaz h2
      obtain ⟨m1, m2⟩ := zax (a := n1) (b := d2) (by omega) (by omega)
      obtain ⟨m3, m4⟩ := zax (a := n2) (b := d1) (by omega) (by omega)
      obtain ⟨m5, m6⟩ := zax (a := d1) (b := d2) (by omega) (by omega)
      by_cases hz : n2 = 0
      · have HM := Lib.hid (show remI n1 d1 t1 n2 d2 t2 = (0, 0) from hyes.trans (if_pos hz))
        have hzb : (n2 == 0) = true := by simp [hz]
        have HZ := Lib.hid hz
        clear hz hyes
        go_enter Tryz.func79, Tryz.ntmps79
        have hO := Own.nil w
        go_wp2_with (first | ((with_reducible refine zac ?_); refine zal rfl hO rfl ?_; (refine nm 2 rfl ?_; clear hO; intro b2 u hO); simp only [zL, zK] at hO) | ((with_reducible refine zad ?_); refine zbx rfl hO rfl rfl ?_; (first | (refine nm 0 rfl ?_; clear hO; intro b0 u hO) | (refine nm 1 rfl ?_; clear hO; intro b1 u hO) | fail); simp only [zL, zK] at hO) | ((with_reducible refine zaa ?_); refine zlb rfl hO rfl _ (by exact at0) ?_) | fail)
        refine (zam _ _ _ _).mono ?_
        rintro e u ⟨rfl, hb⟩
        (replace hO := hO.step hb; clear hb)
        rw [h1]
        go_wp2_with (first | ((with_reducible refine zaa ?_); refine zlb rfl hO rfl _ (by exact at1) ?_) | fail)
        refine (zam _ _ _ _).mono ?_
        rintro e u ⟨rfl, hb⟩
        (replace hO := hO.step hb; clear hb)
        rw [h2]
        go_wp2_with (first | ((with_reducible refine zaa ?_); refine zlf rfl hO rfl _ (by exact at1) ?_) | ((with_reducible refine zab ?_); refine zsb rfl hO rfl _ (by exact at2) rfl ?_; clear hO; intro u hO; simp only [zC, zB] at hO) | fail)
        exact zan rfl hO rfl 2 rfl rfl rfl ⟨zar HM.out, hO.below⟩
      · have HM := Lib.hid (show remI n1 d1 t1 n2 d2 t2 = _ from hyes.trans (if_neg hz))
        have hzb : (n2 == 0) = false := by simp [hz]
        have hne : n2 * d1 ≠ 0 := Int.mul_ne_zero hz (by omega)
        clear hyes
        by_cases hs : n2 < 0
        · obtain ⟨pp, hpp⟩ : ∃ p, -(n1 * d2) = p := ⟨_, rfl⟩
          obtain ⟨ps, hps⟩ : ∃ p, -(n2 * d1) = p := ⟨_, rfl⟩
          have hr := fdiv_rem (n1 * d2) (n2 * d1) hne (by omega)
          have hpos : 1 ≤ ps := by
            have h := prt_pos (n1 := n1) (d2 := d2) hne
            rw [show prt n1 d1 n2 d2 = _ from if_pos (by have := Int.mul_neg_of_pos_of_neg (a := d1) (b := n2) (by omega) hs; rw [Int.mul_comm] at this; exact this)] at h
            rw [← hps]; exact h
          obtain ⟨v, hv⟩ : ∃ v, v = Int.fdiv (n1 * d2) (n2 * d1) := ⟨_, rfl⟩
          have hfd : Int.fdiv pp ps = v := by rw [← hpp, ← hps, hv]; exact fdiv_neg_neg _ _
          rw [← hv] at HM hr
          clear hv
          have hrr : n1 * d2 - n2 * d1 * v = -(pp - ps * v) := by rw [← hpp, ← hps, Int.neg_mul]; omega
          have hprt : prt n1 d1 n2 d2 = (pp, ps) := by rw [← hpp, ← hps]; exact if_pos (by have := Int.mul_neg_of_pos_of_neg (a := d1) (b := n2) (by omega) hs; rw [Int.mul_comm] at this; exact this)
          have hq : -2000000000000000000 ≤ ps * v ∧ ps * v ≤ 2000000000000000000 := by
            obtain ⟨f1, f2, f3, f4⟩ := hr
            rw [← hps]
            rw [Int.neg_mul]; omega
          rw [hrr] at HM hr
          have hpb : -1000000000000000000 ≤ pp ∧ pp ≤ 1000000000000000000 ∧ ps ≤ 1000000000000000000 := by omega
          have HPR := Lib.hid hprt
          have HF := Lib.hid hfd
          clear hprt hfd hrr hpp hps
          obtain ⟨q1, q2⟩ := hq
          obtain ⟨f1, f2, f3, f4⟩ := hr
          obtain ⟨p1, p2, p3⟩ := hpb
          go_enter Tryz.func79, Tryz.ntmps79
          have hO := Own.nil w
          go_wp2_with (first | ((with_reducible refine zac ?_); refine zal rfl hO rfl ?_; (refine nm 2 rfl ?_; clear hO; intro b2 u hO); simp only [zL, zK] at hO) | ((with_reducible refine zad ?_); refine zbx rfl hO rfl rfl ?_; (first | (refine nm 0 rfl ?_; clear hO; intro b0 u hO) | (refine nm 1 rfl ?_; clear hO; intro b1 u hO) | fail); simp only [zL, zK] at hO) | ((with_reducible refine zaa ?_); refine zlb rfl hO rfl _ (by exact at0) ?_) | fail)
          refine (zam _ _ _ _).mono ?_
          rintro e u ⟨rfl, hb⟩
          (replace hO := hO.step hb; clear hb)
          rw [h1]
          go_wp2_with (first | ((with_reducible refine zaa ?_); refine zlb rfl hO rfl _ (by exact at1) ?_) | fail)
          refine (zam _ _ _ _).mono ?_
          rintro e u ⟨rfl, hb⟩
          (replace hO := hO.step hb; clear hb)
          rw [h2]
          go_wp2_with (first | ((with_reducible refine zaa ?_); refine zlb rfl hO rfl _ (by (first | exact at0 | exact at1 | fail)) ?_) | ((with_reducible refine zaa ?_); refine zlf rfl hO rfl _ (by exact at1) ?_) | fail)
          refine (spec_parts _ _ _ _ _ _ _ (by omega) (by omega)).mono ?_
          rintro e u ⟨rfl, hb⟩
          (replace hO := hO.step hb; clear hb)
          rw [HPR.out]
          go_wp2_with fail
          refine (spec_floor _ _ _ (by omega) (by omega) (by omega)).mono ?_
          rintro e u ⟨rfl, hb⟩
          (replace hO := hO.step hb; clear hb)
          rw [HF.out]
          go_wp2_with (first | ((with_reducible refine zaa ?_); refine zlf rfl hO rfl _ (by (first | exact at0 | exact at1 | fail)) ?_) | fail)
          refine (spec_make _ _ _ (by omega) (by omega)).mono ?_
          rintro e u ⟨rfl, hb⟩
          (replace hO := hO.step hb; clear hb)
          go_wp2_with (first | ((with_reducible refine zab ?_); refine zsb rfl hO rfl _ (by exact at2) rfl ?_; clear hO; intro u hO; simp only [zC, zB] at hO) | fail)
          exact zan rfl hO rfl 2 rfl rfl rfl ⟨zar HM.out, hO.below⟩
        · obtain ⟨pp, hpp⟩ : ∃ p, n1 * d2 = p := ⟨_, rfl⟩
          obtain ⟨ps, hps⟩ : ∃ p, n2 * d1 = p := ⟨_, rfl⟩
          have hr := fdiv_rem (n1 * d2) (n2 * d1) hne (by omega)
          have hpos : 1 ≤ ps := by
            have h := prt_pos (n1 := n1) (d2 := d2) hne
            rw [show prt n1 d1 n2 d2 = _ from if_neg (by have := Int.mul_pos (a := n2) (b := d1) (by omega) (by omega); omega)] at h
            rw [← hps]; exact h
          obtain ⟨v, hv⟩ : ∃ v, v = Int.fdiv (n1 * d2) (n2 * d1) := ⟨_, rfl⟩
          have hfd : Int.fdiv pp ps = v := by rw [← hpp, ← hps, hv]
          rw [← hv] at HM hr
          clear hv
          have hrr : n1 * d2 - n2 * d1 * v = pp - ps * v := by rw [← hpp, ← hps]
          have hprt : prt n1 d1 n2 d2 = (pp, ps) := by rw [← hpp, ← hps]; exact if_neg (by have := Int.mul_pos (a := n2) (b := d1) (by omega) (by omega); omega)
          have hq : -2000000000000000000 ≤ ps * v ∧ ps * v ≤ 2000000000000000000 := by
            obtain ⟨f1, f2, f3, f4⟩ := hr
            rw [← hps]
            omega
          rw [hrr] at HM hr
          have hpb : -1000000000000000000 ≤ pp ∧ pp ≤ 1000000000000000000 ∧ ps ≤ 1000000000000000000 := by omega
          have HPR := Lib.hid hprt
          have HF := Lib.hid hfd
          clear hprt hfd hrr hpp hps
          obtain ⟨q1, q2⟩ := hq
          obtain ⟨f1, f2, f3, f4⟩ := hr
          obtain ⟨p1, p2, p3⟩ := hpb
          go_enter Tryz.func79, Tryz.ntmps79
          have hO := Own.nil w
          go_wp2_with (first | ((with_reducible refine zac ?_); refine zal rfl hO rfl ?_; (refine nm 2 rfl ?_; clear hO; intro b2 u hO); simp only [zL, zK] at hO) | ((with_reducible refine zad ?_); refine zbx rfl hO rfl rfl ?_; (first | (refine nm 0 rfl ?_; clear hO; intro b0 u hO) | (refine nm 1 rfl ?_; clear hO; intro b1 u hO) | fail); simp only [zL, zK] at hO) | ((with_reducible refine zaa ?_); refine zlb rfl hO rfl _ (by exact at0) ?_) | fail)
          refine (zam _ _ _ _).mono ?_
          rintro e u ⟨rfl, hb⟩
          (replace hO := hO.step hb; clear hb)
          rw [h1]
          go_wp2_with (first | ((with_reducible refine zaa ?_); refine zlb rfl hO rfl _ (by exact at1) ?_) | fail)
          refine (zam _ _ _ _).mono ?_
          rintro e u ⟨rfl, hb⟩
          (replace hO := hO.step hb; clear hb)
          rw [h2]
          go_wp2_with (first | ((with_reducible refine zaa ?_); refine zlb rfl hO rfl _ (by (first | exact at0 | exact at1 | fail)) ?_) | ((with_reducible refine zaa ?_); refine zlf rfl hO rfl _ (by exact at1) ?_) | fail)
          refine (spec_parts _ _ _ _ _ _ _ (by omega) (by omega)).mono ?_
          rintro e u ⟨rfl, hb⟩
          (replace hO := hO.step hb; clear hb)
          rw [HPR.out]
          go_wp2_with fail
          refine (spec_floor _ _ _ (by omega) (by omega) (by omega)).mono ?_
          rintro e u ⟨rfl, hb⟩
          (replace hO := hO.step hb; clear hb)
          rw [HF.out]
          go_wp2_with (first | ((with_reducible refine zaa ?_); refine zlf rfl hO rfl _ (by (first | exact at0 | exact at1 | fail)) ?_) | fail)
          refine (spec_make _ _ _ (by omega) (by omega)).mono ?_
          rintro e u ⟨rfl, hb⟩
          (replace hO := hO.step hb; clear hb)
          go_wp2_with (first | ((with_reducible refine zab ?_); refine zsb rfl hO rfl _ (by exact at2) rfl ?_; clear hO; intro u hO; simp only [zC, zB] at hO) | fail)
          exact zan rfl hO rfl 2 rfl rfl rfl ⟨zar HM.out, hO.below⟩

end Go.Proofs.YtmofcbpabdbjlaaGreat
