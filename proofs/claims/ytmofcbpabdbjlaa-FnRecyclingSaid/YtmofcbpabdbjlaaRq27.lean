/-
  What is proved: what the functions SubtractNumbers, QuotientOf, RemainderOf (of the program and of the reference) return.
  Condition: items of 64-bit ints.
-/
import Derived.Deep.DrawnRows
import Derived.Test.YtmofcbpabdbjlaaRq2
import Derived.Test.YtmofcbpabdbjlaaRq4
import Derived.Test.YtmofcbpabdbjlaaRq5
import Derived.Test.YtmofcbpabdbjlaaRq26
namespace Go.Proofs.Ytmofcbpabdbjlaa

set_option maxRecDepth 8000

open Go.RowKit

set_option linter.unusedVariables false

set_option linter.unusedSimpArgs false

def subI (n1 d1 : Int) (t1 : ByteArray) (n2 d2 : Int) (t2 : ByteArray) : Int × Int := addI n1 d1 t1 (negI n2 d2 t2).1 (negI n2 d2 t2).2 ⟨#[]⟩

/-- floor of a / b -/
def quotV (n1 d1 n2 d2 : Int) : Int × Int := if n2 = 0 then (0, 0) else Nm.mk (Int.fdiv (n1 * d2) (d1 * n2)) 1

def quotI (n1 d1 : Int) (t1 : ByteArray) (n2 d2 : Int) (t2 : ByteArray) : Int × Int := op2 n1 d1 t1 n2 d2 t2 (quotV n1 d1 n2 d2)

def remV (n1 d1 n2 d2 : Int) : Int × Int := if n2 = 0 then (0, 0) else Nm.mk (n1 * d2 - n2 * d1 * Int.fdiv (n1 * d2) (n2 * d1)) (d1 * d2)

def remI (n1 d1 : Int) (t1 : ByteArray) (n2 d2 : Int) (t2 : ByteArray) : Int × Int := op2 n1 d1 t1 n2 d2 t2 (remV n1 d1 n2 d2)

theorem spec_sub (n1 d1 n2 d2 : Int) (t1 t2 : ByteArray) (w : World) :
    Calls Try.prog 166 #[.agg #[.int .i64 n1, .int .i64 d1, .string t1], .agg #[.int .i64 n2, .int .i64 d2, .string t2]] w fun e w' =>
      e = .returned (.agg #[.int .i64 (subI n1 d1 t1 n2 d2 t2).1, .int .i64 (subI n1 d1 t1 n2 d2 t2).2, .string ⟨#[]⟩]) ∧ Below w.heap.size w w' := by
  go_enter Try.func166, Try.ntmps166
  have hO := Own.nil w
  go_wp2_with (first | ((with_reducible refine zae ?_); refine zal rfl hO rfl ?_; (refine nm 2 rfl ?_; clear hO; intro b2 u hO); simp only [zL, zK] at hO) | ((with_reducible refine zag ?_); refine zbx rfl hO rfl rfl ?_; (first | (refine nm 0 rfl ?_; clear hO; intro b0 u hO) | (refine nm 1 rfl ?_; clear hO; intro b1 u hO) | fail); simp only [zL, zK] at hO) | fail)
  refine J.wp_region_c (n := 9) [0, 1, 2, 3] [] (deps := fun i => [[], [], [1], [0, 1, 2], []].getD i []) (fun _ _ _ => True) (r := 1) (lst := #[true, true, true, true, false]) (by kernel_rfl) (by kernel_rfl) (by kernel_rfl) rfl (by decide) (by kernel_rfl) hO ?_
  refine zcc (f := fun M u hO K hK => by (exact zat hO rfl rfl _ (by exact at0) (by rfl) (by rfl) (hK _ hO))) (h := ?_)
  refine zcc (f := fun M u hO K hK => by (exact zat hO rfl rfl _ (by exact at1) (by rfl) (by rfl) (hK _ hO))) (h := ?_)
  refine zcc (f := fun M u hO K hK => by (simp only [wp_at_zero, wp_at_succ]; go_step; refine (spec_neg _ _ _ _).mono ?_; rintro e u ⟨rfl, hb⟩; exact hK _ (hO.step hb))) (h := ?_)
  refine zcc (f := fun M u hO K hK => by (simp only [wp_at_zero, wp_at_succ]; go_step; refine (spec_add _ _ _ _ _ _ _).mono ?_; rintro e u ⟨rfl, hb⟩; exact hK _ (hO.step hb))) (h := ?_)
  refine J.Chain.nil ⟨?_, ?_⟩
  · exact J.Each.nil
  intro vs u hO hF
  clear hF
  simp only [List.flatMap_cons, List.flatMap_nil, List.append_nil, zL, zK] at hO
  simp only [J.putL]
  clear vs
  refine J.wpAny_one (i := 4) (by kernel_rfl) (by rfl) rfl fun K hK => ?_
  (refine zak hO rfl rfl _ (by exact at2) rfl (by rfl) (by rfl) (by rfl) (by rfl) (by rfl) ?_; clear hO; intro u hO; simp only [zC, zB] at hO; refine hK _ _ ?_; clear hK K)
  refine wpAny_done (by kernel_rfl) ?_ _
  go_wp2_with (first | ((with_reducible refine zae ?_); refine zal rfl hO rfl ?_; (first | (refine nm 0 rfl ?_; clear hO; intro b0 u hO) | (refine nm 1 rfl ?_; clear hO; intro b1 u hO) | (refine nm 2 rfl ?_; clear hO; intro b2 u hO)); simp only [zL, zK] at hO) | ((with_reducible refine zag ?_); refine zbx rfl hO rfl rfl ?_; (first | (refine nm 0 rfl ?_; clear hO; intro b0 u hO) | (refine nm 1 rfl ?_; clear hO; intro b1 u hO) | (refine nm 2 rfl ?_; clear hO; intro b2 u hO)); simp only [zL, zK] at hO) | ((with_reducible refine zaa ?_); refine zaf rfl (by (first | rfl | (simp only [Region.wanted, yielded, *]; go_simp; done) | (simp [Region.wanted, yielded, *]; done) | fail)) hO rfl _ (by (first | exact at0 | exact at1 | exact at2)) (by rfl) (by simp only [Act.put, zA, zB, zC]; rfl) ?_) | ((with_reducible refine zaa ?_); refine zac rfl (by (first | rfl | (simp only [Region.wanted, yielded, *]; go_simp; done) | (simp [Region.wanted, yielded, *]; done) | fail)) hO rfl _ (by (first | exact at0 | exact at1 | exact at2)) (by rfl) (by simp only [Act.put, zA, zB, zC]; rfl) ?_) | ((with_reducible refine zab ?_); refine zsb rfl hO rfl _ (by (first | exact at0 | exact at1 | exact at2)) rfl ?_; clear hO; intro u hO; simp only [zC, zB] at hO) | ((with_reducible refine zab ?_); refine zsf rfl hO rfl _ (by (first | exact at0 | exact at1 | exact at2)) (zM rfl) ?_; clear hO; intro u hO; simp only [zC, zB] at hO) | fail)
  exact zar rfl hO rfl 2 rfl rfl rfl ⟨rfl, hO.below⟩

theorem impl_sub (n1 d1 n2 d2 : Int) (t1 t2 : ByteArray) (w : World) :
    Calls Try.prog 173 #[.agg #[.int .i64 n1, .int .i64 d1, .string t1], .agg #[.int .i64 n2, .int .i64 d2, .string t2]] w fun e w' =>
      e = .returned (.agg #[.int .i64 (subI n1 d1 t1 n2 d2 t2).1, .int .i64 (subI n1 d1 t1 n2 d2 t2).2, .string ⟨#[]⟩]) ∧ Below w.heap.size w w' := by
  go_enter Try.func173, Try.ntmps173
  have hO := Own.nil w
  go_wp2_with (first | ((with_reducible refine zae ?_); refine zal rfl hO rfl ?_; (refine nm 2 rfl ?_; clear hO; intro b2 u hO); simp only [zL, zK] at hO) | ((with_reducible refine zag ?_); refine zbx rfl hO rfl rfl ?_; (first | (refine nm 0 rfl ?_; clear hO; intro b0 u hO) | (refine nm 1 rfl ?_; clear hO; intro b1 u hO) | fail); simp only [zL, zK] at hO) | fail)
  refine J.wp_region_c (n := 9) [0, 1, 2, 3] [] (deps := fun i => [[], [], [1], [0, 1, 2], []].getD i []) (fun _ _ _ => True) (r := 1) (lst := #[true, true, true, true, false]) (by kernel_rfl) (by kernel_rfl) (by kernel_rfl) rfl (by decide) (by kernel_rfl) hO ?_
  refine zcc (f := fun M u hO K hK => by (exact zat hO rfl rfl _ (by exact at0) (by rfl) (by rfl) (hK _ hO))) (h := ?_)
  refine zcc (f := fun M u hO K hK => by (exact zat hO rfl rfl _ (by exact at1) (by rfl) (by rfl) (hK _ hO))) (h := ?_)
  refine zcc (f := fun M u hO K hK => by (simp only [wp_at_zero, wp_at_succ]; go_step; refine (impl_neg _ _ _ _).mono ?_; rintro e u ⟨rfl, hb⟩; exact hK _ (hO.step hb))) (h := ?_)
  refine zcc (f := fun M u hO K hK => by (simp only [wp_at_zero, wp_at_succ]; go_step; refine (impl_add _ _ _ _ _ _ _).mono ?_; rintro e u ⟨rfl, hb⟩; exact hK _ (hO.step hb))) (h := ?_)
  refine J.Chain.nil ⟨?_, ?_⟩
  · exact J.Each.nil
  intro vs u hO hF
  clear hF
  simp only [List.flatMap_cons, List.flatMap_nil, List.append_nil, zL, zK] at hO
  simp only [J.putL]
  clear vs
  refine J.wpAny_one (i := 4) (by kernel_rfl) (by rfl) rfl fun K hK => ?_
  (refine zak hO rfl rfl _ (by exact at2) rfl (by rfl) (by rfl) (by rfl) (by rfl) (by rfl) ?_; clear hO; intro u hO; simp only [zC, zB] at hO; refine hK _ _ ?_; clear hK K)
  refine wpAny_done (by kernel_rfl) ?_ _
  go_wp2_with (first | ((with_reducible refine zae ?_); refine zal rfl hO rfl ?_; (first | (refine nm 0 rfl ?_; clear hO; intro b0 u hO) | (refine nm 1 rfl ?_; clear hO; intro b1 u hO) | (refine nm 2 rfl ?_; clear hO; intro b2 u hO)); simp only [zL, zK] at hO) | ((with_reducible refine zag ?_); refine zbx rfl hO rfl rfl ?_; (first | (refine nm 0 rfl ?_; clear hO; intro b0 u hO) | (refine nm 1 rfl ?_; clear hO; intro b1 u hO) | (refine nm 2 rfl ?_; clear hO; intro b2 u hO)); simp only [zL, zK] at hO) | ((with_reducible refine zaa ?_); refine zaf rfl (by (first | rfl | (simp only [Region.wanted, yielded, *]; go_simp; done) | (simp [Region.wanted, yielded, *]; done) | fail)) hO rfl _ (by (first | exact at0 | exact at1 | exact at2)) (by rfl) (by simp only [Act.put, zA, zB, zC]; rfl) ?_) | ((with_reducible refine zaa ?_); refine zac rfl (by (first | rfl | (simp only [Region.wanted, yielded, *]; go_simp; done) | (simp [Region.wanted, yielded, *]; done) | fail)) hO rfl _ (by (first | exact at0 | exact at1 | exact at2)) (by rfl) (by simp only [Act.put, zA, zB, zC]; rfl) ?_) | ((with_reducible refine zab ?_); refine zsb rfl hO rfl _ (by (first | exact at0 | exact at1 | exact at2)) rfl ?_; clear hO; intro u hO; simp only [zC, zB] at hO) | ((with_reducible refine zab ?_); refine zsf rfl hO rfl _ (by (first | exact at0 | exact at1 | exact at2)) (zM rfl) ?_; clear hO; intro u hO; simp only [zC, zB] at hO) | fail)
  exact zar rfl hO rfl 2 rfl rfl rfl ⟨rfl, hO.below⟩

theorem fdiv_neg_neg (a b : Int) : Int.fdiv (-a) (-b) = Int.fdiv a b := Int.neg_fdiv_neg a b

theorem fdiv_cases_neg (a b : Int) (hb : b ≤ -1) : (a.tmod b < 0 ∧ a.fdiv b = a.tdiv b ∧ a < 0) ∨ (a.tmod b = 0 ∧ a.fdiv b = a.tdiv b) ∨ (0 < a.tmod b ∧ a.fdiv b = a.tdiv b - 1 ∧ 0 < a) := by
  obtain ⟨c, rfl⟩ : ∃ c, b = -c := ⟨-b, by omega⟩
  have h := fdiv_cases (-a) c (by omega)
  have e1 : Int.fdiv a (-c) = Int.fdiv (-a) c := by
    have := fdiv_neg_neg (-a) c
    rw [Int.neg_neg] at this
    exact this
  have e2 : a.tdiv (-c) = (-a).tdiv c := by rw [Int.tdiv_neg, Int.neg_tdiv]
  have e3 : a.tmod (-c) = -((-a).tmod c) := by rw [Int.tmod_neg, Int.neg_tmod]; omega
  rw [e1, e2, e3]
  rcases h with ⟨h1, h2, h3⟩ | ⟨h1, h2⟩ | ⟨h1, h2, h3⟩
  · exact .inr (.inr ⟨by omega, h2, by omega⟩)
  · exact .inr (.inl ⟨by omega, h2⟩)
  · exact .inl ⟨by omega, h2, by omega⟩

theorem impl_floor_neg (a b : Int) (w : World) (ha : -4000000000000000000 ≤ a ∧ a ≤ 4000000000000000000) (hb1 : b ≤ -1) (hb2 : -4000000000000000000 ≤ b) :
    Calls Try.prog 207 #[.int .i64 a, .int .i64 b] w fun e w' => e = .returned (.int .i64 (Int.fdiv a b)) ∧ Below w.heap.size w w' := by
  obtain ⟨q1, q2⟩ := tdiv_bd1 a b ha
  obtain ⟨ha1, ha2⟩ := ha
  have hz : (b == 0) = false := by simp; omega
  have hm1 : b < 0 := by omega
  have hm3 : -9223372036854775808 ≤ a.tdiv b := by omega
  have hm4 : a.tdiv b ≤ 9223372036854775807 := by omega
  rcases fdiv_cases_neg a b hb1 with ⟨r1, r2, r3⟩ | ⟨r1, r2⟩ | ⟨r1, r2, r3⟩
  all_goals
    have HF := Lib.hid r2
    clear r2
    obtain ⟨q, hq⟩ : ∃ q, a.tdiv b = q := ⟨_, rfl⟩
    obtain ⟨r, hr⟩ : ∃ r, a.tmod b = r := ⟨_, rfl⟩
    rw [hq] at HF q1 q2 hm3 hm4
    rw [hr] at r1
  · have z1 : (r != 0) = true := by simp; omega
    go_enter Try.func207, Try.ntmps207
    go_wp2_with fail
    go_ret
    exact ⟨za6 HF.out.symm, Below.refl _ _⟩
  · have z1 : (r != 0) = false := by simpa using r1
    have z2 : ¬ r < 0 := by omega
    clear r1
    go_enter Try.func207, Try.ntmps207
    go_wp2_with fail
    go_ret
    exact ⟨za6 HF.out.symm, Below.refl _ _⟩
  · have z1 : (r != 0) = true := by simp; omega
    have z2 : ¬ a < 0 := by omega
    go_enter Try.func207, Try.ntmps207
    go_wp2_with fail
    go_ret
    exact ⟨za6 HF.out.symm, Below.refl _ _⟩

theorem impl_floorG (a b : Int) (w : World) (ha : -4000000000000000000 ≤ a ∧ a ≤ 4000000000000000000) (hb0 : b ≠ 0) (hb1 : -4000000000000000000 ≤ b) (hb2 : b ≤ 4000000000000000000) :
    Calls Try.prog 207 #[.int .i64 a, .int .i64 b] w fun e w' => e = .returned (.int .i64 (Int.fdiv a b)) ∧ Below w.heap.size w w' := by
  by_cases h : 0 < b
  · exact impl_floor a b w ha (by omega) hb2
  · exact impl_floor_neg a b w ha (by omega) hb1

theorem fdiv_bdG (a b : Int) (ha : -1000000000000000000 ≤ a ∧ a ≤ 1000000000000000000) : -1000000000000000000 ≤ Int.fdiv a b ∧ Int.fdiv a b ≤ 1000000000000000000 := by
  rcases Int.lt_trichotomy b 0 with h | h | h
  · rw [← fdiv_neg_neg]
    have h1 : 0 ≤ -b := by omega
    rw [Int.fdiv_eq_ediv_of_nonneg _ h1]
    have h2 := Int.natAbs_ediv_le_natAbs (-a) (-b)
    omega
  · subst h; simp
  · rw [Int.fdiv_eq_ediv_of_nonneg _ (by omega)]
    have h2 := Int.natAbs_ediv_le_natAbs a b
    omega

theorem impl_quot (n1 d1 n2 d2 : Int) (t1 t2 : ByteArray) (w : World) :
    Calls Try.prog 178 #[.agg #[.int .i64 n1, .int .i64 d1, .string t1], .agg #[.int .i64 n2, .int .i64 d2, .string t2]] w fun e w' =>
      e = .returned (.agg #[.int .i64 (quotI n1 d1 t1 n2 d2 t2).1, .int .i64 (quotI n1 d1 t1 n2 d2 t2).2, .string ⟨#[]⟩]) ∧ Below w.heap.size w w' := by
  cases h1 : zax n1 d1 t1
  · have HM := Lib.hid (show quotI n1 d1 t1 n2 d2 t2 = (0, 0) from op2_no1 h1)
    go_enter Try.func178, Try.ntmps178
    have hO := Own.nil w
    go_wp2_with (first | ((with_reducible refine zae ?_); refine zal rfl hO rfl ?_; (refine nm 2 rfl ?_; clear hO; intro b2 u hO); simp only [zL, zK] at hO) | ((with_reducible refine zag ?_); refine zbx rfl hO rfl rfl ?_; (first | (refine nm 0 rfl ?_; clear hO; intro b0 u hO) | (refine nm 1 rfl ?_; clear hO; intro b1 u hO) | fail); simp only [zL, zK] at hO) | ((with_reducible refine zaa ?_); refine zlb rfl hO rfl _ (by exact at0) ?_) | fail)
    refine (zao _ _ _ _).mono ?_
    rintro e u ⟨rfl, hb⟩
    (replace hO := hO.step hb; clear hb)
    rw [h1]
    go_wp2_with (first | ((with_reducible refine zab ?_); refine zsb rfl hO rfl _ (by exact at2) rfl ?_; clear hO; intro u hO; simp only [zC, zB] at hO) | fail)
    exact zar rfl hO rfl 2 rfl rfl rfl ⟨zau HM.out, hO.below⟩
  · cases h2 : zax n2 d2 t2
    · have HM := Lib.hid (show quotI n1 d1 t1 n2 d2 t2 = (0, 0) from op2_no2 h2)
      go_enter Try.func178, Try.ntmps178
      have hO := Own.nil w
      go_wp2_with (first | ((with_reducible refine zae ?_); refine zal rfl hO rfl ?_; (refine nm 2 rfl ?_; clear hO; intro b2 u hO); simp only [zL, zK] at hO) | ((with_reducible refine zag ?_); refine zbx rfl hO rfl rfl ?_; (first | (refine nm 0 rfl ?_; clear hO; intro b0 u hO) | (refine nm 1 rfl ?_; clear hO; intro b1 u hO) | fail); simp only [zL, zK] at hO) | ((with_reducible refine zaa ?_); refine zlb rfl hO rfl _ (by exact at0) ?_) | fail)
      refine (zao _ _ _ _).mono ?_
      rintro e u ⟨rfl, hb⟩
      (replace hO := hO.step hb; clear hb)
      rw [h1]
      go_wp2_with (first | ((with_reducible refine zaa ?_); refine zlb rfl hO rfl _ (by exact at1) ?_) | fail)
      refine (zao _ _ _ _).mono ?_
      rintro e u ⟨rfl, hb⟩
      (replace hO := hO.step hb; clear hb)
      rw [h2]
      go_wp2_with (first | ((with_reducible refine zab ?_); refine zsb rfl hO rfl _ (by exact at2) rfl ?_; clear hO; intro u hO; simp only [zC, zB] at hO) | fail)
      exact zar rfl hO rfl 2 rfl rfl rfl ⟨zau HM.out, hO.below⟩
    · have hyes := op2_yes (r := quotV n1 d1 n2 d2) h1 h2
      obtain ⟨a1, a2, a3, a4⟩ := zaz h1
      obtain ⟨b1, b2, b3, b4⟩ := zaz h2
      obtain ⟨m1, m2⟩ := zav (a := n1) (b := d2) (by omega) (by omega)
      obtain ⟨m3, m4⟩ := zav (a := n2) (b := d1) (by omega) (by omega)
      obtain ⟨m5, m6⟩ := zav (a := d1) (b := d2) (by omega) (by omega)
      obtain ⟨m9, m10⟩ := zav (a := d1) (b := n2) (by omega) (by omega)
      by_cases hz : n2 = 0
      · have HM := Lib.hid (show quotI n1 d1 t1 n2 d2 t2 = (0, 0) from hyes.trans (if_pos hz))
        have hzb : (n2 == 0) = true := by simp [hz]
        have HZ := Lib.hid hz
        clear hz hyes
        go_enter Try.func178, Try.ntmps178
        have hO := Own.nil w
        go_wp2_with (first | ((with_reducible refine zae ?_); refine zal rfl hO rfl ?_; (refine nm 2 rfl ?_; clear hO; intro b2 u hO); simp only [zL, zK] at hO) | ((with_reducible refine zag ?_); refine zbx rfl hO rfl rfl ?_; (first | (refine nm 0 rfl ?_; clear hO; intro b0 u hO) | (refine nm 1 rfl ?_; clear hO; intro b1 u hO) | fail); simp only [zL, zK] at hO) | ((with_reducible refine zaa ?_); refine zlb rfl hO rfl _ (by exact at0) ?_) | fail)
        refine (zao _ _ _ _).mono ?_
        rintro e u ⟨rfl, hb⟩
        (replace hO := hO.step hb; clear hb)
        rw [h1]
        go_wp2_with (first | ((with_reducible refine zaa ?_); refine zlb rfl hO rfl _ (by exact at1) ?_) | fail)
        refine (zao _ _ _ _).mono ?_
        rintro e u ⟨rfl, hb⟩
        (replace hO := hO.step hb; clear hb)
        rw [h2]
        go_wp2_with (first | ((with_reducible refine zaa ?_); refine zlf rfl hO rfl _ (by exact at1) ?_) | ((with_reducible refine zab ?_); refine zsb rfl hO rfl _ (by exact at2) rfl ?_; clear hO; intro u hO; simp only [zC, zB] at hO) | fail)
        exact zar rfl hO rfl 2 rfl rfl rfl ⟨zau HM.out, hO.below⟩
      · have HM := Lib.hid (show quotI n1 d1 t1 n2 d2 t2 = _ from hyes.trans (if_neg hz))
        have hzb : (n2 == 0) = false := by simp [hz]
        clear hyes
        go_enter Try.func178, Try.ntmps178
        have hO := Own.nil w
        go_wp2_with (first | ((with_reducible refine zae ?_); refine zal rfl hO rfl ?_; (refine nm 2 rfl ?_; clear hO; intro b2 u hO); simp only [zL, zK] at hO) | ((with_reducible refine zag ?_); refine zbx rfl hO rfl rfl ?_; (first | (refine nm 0 rfl ?_; clear hO; intro b0 u hO) | (refine nm 1 rfl ?_; clear hO; intro b1 u hO) | fail); simp only [zL, zK] at hO) | ((with_reducible refine zaa ?_); refine zlb rfl hO rfl _ (by exact at0) ?_) | fail)
        refine (zao _ _ _ _).mono ?_
        rintro e u ⟨rfl, hb⟩
        (replace hO := hO.step hb; clear hb)
        rw [h1]
        go_wp2_with (first | ((with_reducible refine zaa ?_); refine zlb rfl hO rfl _ (by exact at1) ?_) | fail)
        refine (zao _ _ _ _).mono ?_
        rintro e u ⟨rfl, hb⟩
        (replace hO := hO.step hb; clear hb)
        rw [h2]
        go_wp2_with (first | ((with_reducible refine zaa ?_); refine zlf rfl hO rfl _ (by (first | exact at0 | exact at1 | fail)) ?_) | fail)
        have hf := fdiv_bdG (n1 * d2) (d1 * n2) (by omega)
        obtain ⟨v, hv⟩ : ∃ v, v = Int.fdiv (n1 * d2) (d1 * n2) := ⟨_, rfl⟩
        have hne : d1 * n2 ≠ 0 := Int.mul_ne_zero (by omega) hz
        rw [← hv] at HM hf
        have HV := Lib.hid hv
        obtain ⟨f1, f2⟩ := hf
        clear hv
        refine (impl_floorG _ _ _ (by omega) hne (by omega) (by omega)).mono ?_
        rintro e u ⟨rfl, hb⟩
        (replace hO := hO.step hb; clear hb)
        rw [← HV.out]
        go_wp2_with (first | ((with_reducible refine zae ?_); refine zal rfl hO rfl ?_; (first | (refine nm 0 rfl ?_; clear hO; intro b0 u hO) | (refine nm 1 rfl ?_; clear hO; intro b1 u hO) | (refine nm 2 rfl ?_; clear hO; intro b2 u hO)); simp only [zL, zK] at hO) | ((with_reducible refine zag ?_); refine zbx rfl hO rfl rfl ?_; (first | (refine nm 0 rfl ?_; clear hO; intro b0 u hO) | (refine nm 1 rfl ?_; clear hO; intro b1 u hO) | (refine nm 2 rfl ?_; clear hO; intro b2 u hO)); simp only [zL, zK] at hO) | ((with_reducible refine zaa ?_); refine zaf rfl (by (first | rfl | (simp only [Region.wanted, yielded, *]; go_simp; done) | (simp [Region.wanted, yielded, *]; done) | fail)) hO rfl _ (by (first | exact at0 | exact at1 | exact at2)) (by rfl) (by simp only [Act.put, zA, zB, zC]; rfl) ?_) | ((with_reducible refine zaa ?_); refine zac rfl (by (first | rfl | (simp only [Region.wanted, yielded, *]; go_simp; done) | (simp [Region.wanted, yielded, *]; done) | fail)) hO rfl _ (by (first | exact at0 | exact at1 | exact at2)) (by rfl) (by simp only [Act.put, zA, zB, zC]; rfl) ?_) | ((with_reducible refine zab ?_); refine zsb rfl hO rfl _ (by (first | exact at0 | exact at1 | exact at2)) rfl ?_; clear hO; intro u hO; simp only [zC, zB] at hO) | ((with_reducible refine zab ?_); refine zsf rfl hO rfl _ (by (first | exact at0 | exact at1 | exact at2)) (zM rfl) ?_; clear hO; intro u hO; simp only [zC, zB] at hO) | fail)
        refine (impl_make v 1 _ (by omega) (by omega)).mono ?_
        rintro e u ⟨rfl, hb⟩
        (replace hO := hO.step hb; clear hb)
        go_wp2_with (first | ((with_reducible refine zab ?_); refine zsb rfl hO rfl _ (by exact at2) rfl ?_; clear hO; intro u hO; simp only [zC, zB] at hO) | fail)
        exact zar rfl hO rfl 2 rfl rfl rfl ⟨zau HM.out, hO.below⟩

/-- both parts with a positive second one -/
def prt (n1 d1 n2 d2 : Int) : Int × Int := if n2 * d1 < 0 then (-(n1 * d2), -(n2 * d1)) else (n1 * d2, n2 * d1)

theorem spec_parts (n1 d1 n2 d2 : Int) (t1 t2 : ByteArray) (w : World) (h1 : -999999998000000001 ≤ n1 * d2 ∧ n1 * d2 ≤ 999999998000000001) (h2 : -999999998000000001 ≤ n2 * d1 ∧ n2 * d1 ≤ 999999998000000001) :
    Calls Try.prog 204 #[.agg #[.int .i64 n1, .int .i64 d1, .string t1], .agg #[.int .i64 n2, .int .i64 d2, .string t2]] w fun e w' =>
      e = .returned (.tuple #[.int .i64 (prt n1 d1 n2 d2).1, .int .i64 (prt n1 d1 n2 d2).2]) ∧ Below w.heap.size w w' := by
  obtain ⟨a1, a2⟩ := h1
  obtain ⟨a3, a4⟩ := h2
  by_cases h : n2 * d1 < 0
  · have HP := Lib.hid (show prt n1 d1 n2 d2 = _ from if_pos h)
    go_enter Try.func204, Try.ntmps204
    have hO := Own.nil w
    go_wp2_with (first | ((with_reducible refine zag ?_); refine zbx rfl hO rfl rfl ?_; (first | (refine nm 0 rfl ?_; clear hO; intro b0 u hO) | (refine nm 1 rfl ?_; clear hO; intro b1 u hO) | fail); simp only [zL, zK] at hO) | ((with_reducible refine zaa ?_); refine zlf rfl hO rfl _ (by (first | exact at0 | exact at1 | fail)) ?_) | fail)
    go_ret2
    exact ⟨by rw [HP.out]; rfl, hO.below⟩
  · have HP := Lib.hid (show prt n1 d1 n2 d2 = _ from if_neg h)
    go_enter Try.func204, Try.ntmps204
    have hO := Own.nil w
    go_wp2_with (first | ((with_reducible refine zag ?_); refine zbx rfl hO rfl rfl ?_; (first | (refine nm 0 rfl ?_; clear hO; intro b0 u hO) | (refine nm 1 rfl ?_; clear hO; intro b1 u hO) | fail); simp only [zL, zK] at hO) | ((with_reducible refine zaa ?_); refine zlf rfl hO rfl _ (by (first | exact at0 | exact at1 | fail)) ?_) | fail)
    go_ret2
    exact ⟨by rw [HP.out]; rfl, hO.below⟩

theorem prt_fdiv (n1 d1 n2 d2 : Int) : Int.fdiv (prt n1 d1 n2 d2).1 (prt n1 d1 n2 d2).2 = Int.fdiv (n1 * d2) (n2 * d1) := by
  unfold prt
  split
  · exact fdiv_neg_neg _ _
  · rfl

theorem prt_pos {n1 d1 n2 d2 : Int} (h : n2 * d1 ≠ 0) : 1 ≤ (prt n1 d1 n2 d2).2 := by
  unfold prt
  split
  · show 1 ≤ -(n2 * d1); omega
  · show 1 ≤ n2 * d1; omega

theorem prt_bd {n1 d1 n2 d2 : Int} (h1 : -999999998000000001 ≤ n1 * d2 ∧ n1 * d2 ≤ 999999998000000001) (h2 : -999999998000000001 ≤ n2 * d1 ∧ n2 * d1 ≤ 999999998000000001) :
    -999999998000000001 ≤ (prt n1 d1 n2 d2).1 ∧ (prt n1 d1 n2 d2).1 ≤ 999999998000000001 ∧ (prt n1 d1 n2 d2).2 ≤ 999999998000000001 := by
  unfold prt
  split
  · exact ⟨by show _ ≤ -(n1 * d2); omega, by show -(n1 * d2) ≤ _; omega, by show -(n2 * d1) ≤ _; omega⟩
  · exact ⟨h1.1, h1.2, h2.2⟩

theorem spec_quot (n1 d1 n2 d2 : Int) (t1 t2 : ByteArray) (w : World) :
    Calls Try.prog 171 #[.agg #[.int .i64 n1, .int .i64 d1, .string t1], .agg #[.int .i64 n2, .int .i64 d2, .string t2]] w fun e w' =>
      e = .returned (.agg #[.int .i64 (quotI n1 d1 t1 n2 d2 t2).1, .int .i64 (quotI n1 d1 t1 n2 d2 t2).2, .string ⟨#[]⟩]) ∧ Below w.heap.size w w' := by
  cases h1 : zax n1 d1 t1
  · have HM := Lib.hid (show quotI n1 d1 t1 n2 d2 t2 = (0, 0) from op2_no1 h1)
    go_enter Try.func171, Try.ntmps171
    have hO := Own.nil w
    go_wp2_with (first | ((with_reducible refine zae ?_); refine zal rfl hO rfl ?_; (refine nm 2 rfl ?_; clear hO; intro b2 u hO); simp only [zL, zK] at hO) | ((with_reducible refine zag ?_); refine zbx rfl hO rfl rfl ?_; (first | (refine nm 0 rfl ?_; clear hO; intro b0 u hO) | (refine nm 1 rfl ?_; clear hO; intro b1 u hO) | fail); simp only [zL, zK] at hO) | ((with_reducible refine zaa ?_); refine zlb rfl hO rfl _ (by exact at0) ?_) | fail)
    refine (zaq _ _ _ _).mono ?_
    rintro e u ⟨rfl, hb⟩
    (replace hO := hO.step hb; clear hb)
    rw [h1]
    go_wp2_with (first | ((with_reducible refine zab ?_); refine zsb rfl hO rfl _ (by exact at2) rfl ?_; clear hO; intro u hO; simp only [zC, zB] at hO) | fail)
    exact zar rfl hO rfl 2 rfl rfl rfl ⟨zau HM.out, hO.below⟩
  · cases h2 : zax n2 d2 t2
    · have HM := Lib.hid (show quotI n1 d1 t1 n2 d2 t2 = (0, 0) from op2_no2 h2)
      go_enter Try.func171, Try.ntmps171
      have hO := Own.nil w
      go_wp2_with (first | ((with_reducible refine zae ?_); refine zal rfl hO rfl ?_; (refine nm 2 rfl ?_; clear hO; intro b2 u hO); simp only [zL, zK] at hO) | ((with_reducible refine zag ?_); refine zbx rfl hO rfl rfl ?_; (first | (refine nm 0 rfl ?_; clear hO; intro b0 u hO) | (refine nm 1 rfl ?_; clear hO; intro b1 u hO) | fail); simp only [zL, zK] at hO) | ((with_reducible refine zaa ?_); refine zlb rfl hO rfl _ (by exact at0) ?_) | fail)
      refine (zaq _ _ _ _).mono ?_
      rintro e u ⟨rfl, hb⟩
      (replace hO := hO.step hb; clear hb)
      rw [h1]
      go_wp2_with (first | ((with_reducible refine zaa ?_); refine zlb rfl hO rfl _ (by exact at1) ?_) | fail)
      refine (zaq _ _ _ _).mono ?_
      rintro e u ⟨rfl, hb⟩
      (replace hO := hO.step hb; clear hb)
      rw [h2]
      go_wp2_with (first | ((with_reducible refine zab ?_); refine zsb rfl hO rfl _ (by exact at2) rfl ?_; clear hO; intro u hO; simp only [zC, zB] at hO) | fail)
      exact zar rfl hO rfl 2 rfl rfl rfl ⟨zau HM.out, hO.below⟩
    · have hyes := op2_yes (r := quotV n1 d1 n2 d2) h1 h2
      obtain ⟨a1, a2, a3, a4⟩ := zaz h1
      obtain ⟨b1, b2, b3, b4⟩ := zaz h2
      obtain ⟨m1, m2⟩ := zav (a := n1) (b := d2) (by omega) (by omega)
      obtain ⟨m3, m4⟩ := zav (a := n2) (b := d1) (by omega) (by omega)
      obtain ⟨m5, m6⟩ := zav (a := d1) (b := d2) (by omega) (by omega)
      obtain ⟨m9, m10⟩ := zav (a := d1) (b := n2) (by omega) (by omega)
      by_cases hz : n2 = 0
      · have HM := Lib.hid (show quotI n1 d1 t1 n2 d2 t2 = (0, 0) from hyes.trans (if_pos hz))
        have hzb : (n2 == 0) = true := by simp [hz]
        have HZ := Lib.hid hz
        clear hz hyes
        go_enter Try.func171, Try.ntmps171
        have hO := Own.nil w
        go_wp2_with (first | ((with_reducible refine zae ?_); refine zal rfl hO rfl ?_; (refine nm 2 rfl ?_; clear hO; intro b2 u hO); simp only [zL, zK] at hO) | ((with_reducible refine zag ?_); refine zbx rfl hO rfl rfl ?_; (first | (refine nm 0 rfl ?_; clear hO; intro b0 u hO) | (refine nm 1 rfl ?_; clear hO; intro b1 u hO) | fail); simp only [zL, zK] at hO) | ((with_reducible refine zaa ?_); refine zlb rfl hO rfl _ (by exact at0) ?_) | fail)
        refine (zaq _ _ _ _).mono ?_
        rintro e u ⟨rfl, hb⟩
        (replace hO := hO.step hb; clear hb)
        rw [h1]
        go_wp2_with (first | ((with_reducible refine zaa ?_); refine zlb rfl hO rfl _ (by exact at1) ?_) | fail)
        refine (zaq _ _ _ _).mono ?_
        rintro e u ⟨rfl, hb⟩
        (replace hO := hO.step hb; clear hb)
        rw [h2]
        go_wp2_with (first | ((with_reducible refine zaa ?_); refine zlf rfl hO rfl _ (by exact at1) ?_) | ((with_reducible refine zab ?_); refine zsb rfl hO rfl _ (by exact at2) rfl ?_; clear hO; intro u hO; simp only [zC, zB] at hO) | fail)
        exact zar rfl hO rfl 2 rfl rfl rfl ⟨zau HM.out, hO.below⟩
      · have HM := Lib.hid (show quotI n1 d1 t1 n2 d2 t2 = _ from hyes.trans (if_neg hz))
        have hzb : (n2 == 0) = false := by simp [hz]
        clear hyes
        go_enter Try.func171, Try.ntmps171
        have hO := Own.nil w
        go_wp2_with (first | ((with_reducible refine zae ?_); refine zal rfl hO rfl ?_; (refine nm 2 rfl ?_; clear hO; intro b2 u hO); simp only [zL, zK] at hO) | ((with_reducible refine zag ?_); refine zbx rfl hO rfl rfl ?_; (first | (refine nm 0 rfl ?_; clear hO; intro b0 u hO) | (refine nm 1 rfl ?_; clear hO; intro b1 u hO) | fail); simp only [zL, zK] at hO) | ((with_reducible refine zaa ?_); refine zlb rfl hO rfl _ (by exact at0) ?_) | fail)
        refine (zaq _ _ _ _).mono ?_
        rintro e u ⟨rfl, hb⟩
        (replace hO := hO.step hb; clear hb)
        rw [h1]
        go_wp2_with (first | ((with_reducible refine zaa ?_); refine zlb rfl hO rfl _ (by exact at1) ?_) | fail)
        refine (zaq _ _ _ _).mono ?_
        rintro e u ⟨rfl, hb⟩
        (replace hO := hO.step hb; clear hb)
        rw [h2]
        go_wp2_with (first | ((with_reducible refine zaa ?_); refine zlb rfl hO rfl _ (by (first | exact at0 | exact at1 | fail)) ?_) | ((with_reducible refine zaa ?_); refine zlf rfl hO rfl _ (by exact at1) ?_) | fail)
        have hne : n2 * d1 ≠ 0 := Int.mul_ne_zero hz (by omega)
        have hp1 := prt_pos (n1 := n1) (d2 := d2) hne
        obtain ⟨hp2, hp3, hp4⟩ := prt_bd (n1 := n1) (d1 := d1) (n2 := n2) (d2 := d2) ⟨m1, m2⟩ ⟨m3, m4⟩
        have hfd := prt_fdiv n1 d1 n2 d2
        rw [Int.mul_comm n2 d1] at hfd
        have hf := fdiv_bdG (n1 * d2) (d1 * n2) (by omega)
        obtain ⟨v, hv⟩ : ∃ v, v = Int.fdiv (n1 * d2) (d1 * n2) := ⟨_, rfl⟩
        rw [← hv] at HM hf hfd
        clear hv
        obtain ⟨f1, f2⟩ := hf
        refine (spec_parts _ _ _ _ _ _ _ (by omega) (by omega)).mono ?_
        rintro e u ⟨rfl, hb⟩
        (replace hO := hO.step hb; clear hb)
        generalize (prt n1 d1 n2 d2).1 = pp at *
        generalize (prt n1 d1 n2 d2).2 = ps at *
        have HF := Lib.hid hfd
        clear hfd
        go_wp2_with (first | ((with_reducible refine zae ?_); refine zal rfl hO rfl ?_; (first | (refine nm 0 rfl ?_; clear hO; intro b0 u hO) | (refine nm 1 rfl ?_; clear hO; intro b1 u hO) | (refine nm 2 rfl ?_; clear hO; intro b2 u hO)); simp only [zL, zK] at hO) | ((with_reducible refine zag ?_); refine zbx rfl hO rfl rfl ?_; (first | (refine nm 0 rfl ?_; clear hO; intro b0 u hO) | (refine nm 1 rfl ?_; clear hO; intro b1 u hO) | (refine nm 2 rfl ?_; clear hO; intro b2 u hO)); simp only [zL, zK] at hO) | ((with_reducible refine zaa ?_); refine zaf rfl (by (first | rfl | (simp only [Region.wanted, yielded, *]; go_simp; done) | (simp [Region.wanted, yielded, *]; done) | fail)) hO rfl _ (by (first | exact at0 | exact at1 | exact at2)) (by rfl) (by simp only [Act.put, zA, zB, zC]; rfl) ?_) | ((with_reducible refine zaa ?_); refine zac rfl (by (first | rfl | (simp only [Region.wanted, yielded, *]; go_simp; done) | (simp [Region.wanted, yielded, *]; done) | fail)) hO rfl _ (by (first | exact at0 | exact at1 | exact at2)) (by rfl) (by simp only [Act.put, zA, zB, zC]; rfl) ?_) | ((with_reducible refine zab ?_); refine zsb rfl hO rfl _ (by (first | exact at0 | exact at1 | exact at2)) rfl ?_; clear hO; intro u hO; simp only [zC, zB] at hO) | ((with_reducible refine zab ?_); refine zsf rfl hO rfl _ (by (first | exact at0 | exact at1 | exact at2)) (zM rfl) ?_; clear hO; intro u hO; simp only [zC, zB] at hO) | fail)
        refine (spec_floor _ _ _ (by omega) (by omega) (by omega)).mono ?_
        rintro e u ⟨rfl, hb⟩
        (replace hO := hO.step hb; clear hb)
        rw [HF.out]
        go_wp2_with (first | ((with_reducible refine zae ?_); refine zal rfl hO rfl ?_; (first | (refine nm 0 rfl ?_; clear hO; intro b0 u hO) | (refine nm 1 rfl ?_; clear hO; intro b1 u hO) | (refine nm 2 rfl ?_; clear hO; intro b2 u hO)); simp only [zL, zK] at hO) | ((with_reducible refine zag ?_); refine zbx rfl hO rfl rfl ?_; (first | (refine nm 0 rfl ?_; clear hO; intro b0 u hO) | (refine nm 1 rfl ?_; clear hO; intro b1 u hO) | (refine nm 2 rfl ?_; clear hO; intro b2 u hO)); simp only [zL, zK] at hO) | ((with_reducible refine zaa ?_); refine zaf rfl (by (first | rfl | (simp only [Region.wanted, yielded, *]; go_simp; done) | (simp [Region.wanted, yielded, *]; done) | fail)) hO rfl _ (by (first | exact at0 | exact at1 | exact at2)) (by rfl) (by simp only [Act.put, zA, zB, zC]; rfl) ?_) | ((with_reducible refine zaa ?_); refine zac rfl (by (first | rfl | (simp only [Region.wanted, yielded, *]; go_simp; done) | (simp [Region.wanted, yielded, *]; done) | fail)) hO rfl _ (by (first | exact at0 | exact at1 | exact at2)) (by rfl) (by simp only [Act.put, zA, zB, zC]; rfl) ?_) | ((with_reducible refine zab ?_); refine zsb rfl hO rfl _ (by (first | exact at0 | exact at1 | exact at2)) rfl ?_; clear hO; intro u hO; simp only [zC, zB] at hO) | ((with_reducible refine zab ?_); refine zsf rfl hO rfl _ (by (first | exact at0 | exact at1 | exact at2)) (zM rfl) ?_; clear hO; intro u hO; simp only [zC, zB] at hO) | fail)
        refine (spec_make v 1 _ (by omega) (by omega)).mono ?_
        rintro e u ⟨rfl, hb⟩
        (replace hO := hO.step hb; clear hb)
        go_wp2_with (first | ((with_reducible refine zab ?_); refine zsb rfl hO rfl _ (by exact at2) rfl ?_; clear hO; intro u hO; simp only [zC, zB] at hO) | fail)
        exact zar rfl hO rfl 2 rfl rfl rfl ⟨zau HM.out, hO.below⟩

end Go.Proofs.Ytmofcbpabdbjlaa
