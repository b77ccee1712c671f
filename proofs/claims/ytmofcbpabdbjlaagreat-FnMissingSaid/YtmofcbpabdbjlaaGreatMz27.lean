/-
  What is proved: what PowerOf (of the program and of the reference) returns.
  Condition: items of 64-bit ints.
-/
import Derived.Deep.DrawnRows
import Derived.Test.YtmofcbpabdbjlaaGreatMz2
import Derived.Test.YtmofcbpabdbjlaaGreatMz3
import Derived.Test.YtmofcbpabdbjlaaGreatMz4
import Derived.Test.YtmofcbpabdbjlaaGreatMz25
namespace Go.Proofs.YtmofcbpabdbjlaaGreat

set_option maxRecDepth 8000

open Go.RowKit

set_option linter.unusedVariables false

set_option linter.unusedSimpArgs false

/-- the product of k factors -/
def powN (n d : Int) (t : ByteArray) : Nat → Int × Int
  | 0 => (1, 1)
  | k + 1 => mulI (powN n d t k).1 (powN n d t k).2 ⟨#[]⟩ n d t

def powV (n1 d1 : Int) (t1 : ByteArray) (n2 : Int) : Int × Int :=
  if n2 < 0 then divI 1 1 ⟨#[]⟩ (powN n1 d1 t1 (-n2).toNat).1 (powN n1 d1 t1 (-n2).toNat).2 ⟨#[]⟩ else powN n1 d1 t1 n2.toNat

def powI (n1 d1 : Int) (t1 : ByteArray) (n2 d2 : Int) (t2 : ByteArray) : Int × Int := op2 n1 d1 t1 n2 d2 t2 (if d2 = 1 ∧ -20 ≤ n2 ∧ n2 ≤ 20 then powV n1 d1 t1 n2 else (0, 0))

/-- the cells of an item -/
def itmW (r : Int × Int) : List Value := [.int .i64 r.1, .int .i64 r.2, .string ⟨#[]⟩]

set_option maxHeartbeats 4000000 in
theorem impl_pow (n1 d1 n2 d2 : Int) (t1 t2 : ByteArray) (w : World) :
    Calls Tryz.prog 61 #[.agg #[.int .i64 n1, .int .i64 d1, .string t1], .agg #[.int .i64 n2, .int .i64 d2, .string t2]] w fun e w' =>
      e = .returned (.agg #[.int .i64 (powI n1 d1 t1 n2 d2 t2).1, .int .i64 (powI n1 d1 t1 n2 d2 t2).2, .string ⟨#[]⟩]) ∧ Below w.heap.size w w' := by
  cases h1 : zas n1 d1 t1
  · have HM := Lib.hid (show powI n1 d1 t1 n2 d2 t2 = (0, 0) from op2_no1 h1)
    go_enter Tryz.func61, Tryz.ntmps61
    have hO := Own.nil w
    go_wp2_with (first | ((with_reducible refine zac ?_); refine zal rfl hO rfl ?_; (refine nm 2 rfl ?_; clear hO; intro b2 u hO); simp only [zL, zK] at hO) | ((with_reducible refine zad ?_); refine zbx rfl hO rfl rfl ?_; (first | (refine nm 0 rfl ?_; clear hO; intro b0 u hO) | (refine nm 1 rfl ?_; clear hO; intro b1 u hO) | fail); simp only [zL, zK] at hO) | ((with_reducible refine zaa ?_); refine zlb rfl hO rfl _ (by exact at0) ?_) | fail)
    refine (zak _ _ _ _).mono ?_
    rintro e u ⟨rfl, hb⟩
    (replace hO := hO.step hb; clear hb)
    rw [h1]
    go_wp2_with (first | ((with_reducible refine zab ?_); refine zsb rfl hO rfl _ (by exact at2) rfl ?_; clear hO; intro u hO; simp only [zC, zB] at hO) | fail)
    exact zan rfl hO rfl 2 rfl rfl rfl ⟨zar HM.out, hO.below⟩
  cases h2 : zas n2 d2 t2
  · have HM := Lib.hid (show powI n1 d1 t1 n2 d2 t2 = (0, 0) from zbl h2)
    go_enter Tryz.func61, Tryz.ntmps61
    have hO := Own.nil w
    go_wp2_with (first | ((with_reducible refine zac ?_); refine zal rfl hO rfl ?_; (refine nm 2 rfl ?_; clear hO; intro b2 u hO); simp only [zL, zK] at hO) | ((with_reducible refine zad ?_); refine zbx rfl hO rfl rfl ?_; (first | (refine nm 0 rfl ?_; clear hO; intro b0 u hO) | (refine nm 1 rfl ?_; clear hO; intro b1 u hO) | fail); simp only [zL, zK] at hO) | ((with_reducible refine zaa ?_); refine zlb rfl hO rfl _ (by exact at0) ?_) | fail)
    refine (zak _ _ _ _).mono ?_
    rintro e u ⟨rfl, hb⟩
    (replace hO := hO.step hb; clear hb)
    rw [h1]
    go_wp2_with (first | ((with_reducible refine zaa ?_); refine zlb rfl hO rfl _ (by exact at1) ?_) | fail)
    refine (zak _ _ _ _).mono ?_
    rintro e u ⟨rfl, hb⟩
    (replace hO := hO.step hb; clear hb)
    rw [h2]
    go_wp2_with (first | ((with_reducible refine zab ?_); refine zsb rfl hO rfl _ (by exact at2) rfl ?_; clear hO; intro u hO; simp only [zC, zB] at hO) | fail)
    exact zan rfl hO rfl 2 rfl rfl rfl ⟨zar HM.out, hO.below⟩
  have hyes := op2_yes (r := if d2 = 1 ∧ -20 ≤ n2 ∧ n2 ≤ 20 then powV n1 d1 t1 n2 else (0, 0)) h1 h2
  by_cases hd1 : d2 = 1
  case neg =>
    have HM := Lib.hid (show powI n1 d1 t1 n2 d2 t2 = (0, 0) from hyes.trans (if_neg (by rintro ⟨_, _, _⟩; omega)))
    have hdb : (d2 != 1) = true := by simp [hd1]
    clear hyes
    go_enter Tryz.func61, Tryz.ntmps61
    have hO := Own.nil w
    go_wp2_with (first | ((with_reducible refine zac ?_); refine zal rfl hO rfl ?_; (refine nm 2 rfl ?_; clear hO; intro b2 u hO); simp only [zL, zK] at hO) | ((with_reducible refine zad ?_); refine zbx rfl hO rfl rfl ?_; (first | (refine nm 0 rfl ?_; clear hO; intro b0 u hO) | (refine nm 1 rfl ?_; clear hO; intro b1 u hO) | fail); simp only [zL, zK] at hO) | ((with_reducible refine zaa ?_); refine zlb rfl hO rfl _ (by exact at0) ?_) | fail)
    refine (zak _ _ _ _).mono ?_
    rintro e u ⟨rfl, hb⟩
    (replace hO := hO.step hb; clear hb)
    rw [h1]
    go_wp2_with (first | ((with_reducible refine zaa ?_); refine zlb rfl hO rfl _ (by exact at1) ?_) | fail)
    refine (zak _ _ _ _).mono ?_
    rintro e u ⟨rfl, hb⟩
    (replace hO := hO.step hb; clear hb)
    rw [h2]
    go_wp2_with (first | ((with_reducible refine zaa ?_); refine zlf rfl hO rfl _ (by exact at1) ?_) | ((with_reducible refine zab ?_); refine zsb rfl hO rfl _ (by exact at2) rfl ?_; clear hO; intro u hO; simp only [zC, zB] at hO) | fail)
    exact zan rfl hO rfl 2 rfl rfl rfl ⟨zar HM.out, hO.below⟩
  have hdb : (d2 != 1) = false := by simp [hd1]
  by_cases hd2 : -20 ≤ n2
  case neg =>
    have HM := Lib.hid (show powI n1 d1 t1 n2 d2 t2 = (0, 0) from hyes.trans (if_neg (by rintro ⟨_, _, _⟩; omega)))
    have HD := Lib.hid hd1
    clear hd1 hyes
    have hd4 : decide (n2 < -20) = true := by simp; omega
    have hin : inI n2 (-20) 20 = false := inI_false (by omega)
    go_enter Tryz.func61, Tryz.ntmps61
    have hO := Own.nil w
    go_wp2_with (first | ((with_reducible refine zac ?_); refine zal rfl hO rfl ?_; (refine nm 2 rfl ?_; clear hO; intro b2 u hO); simp only [zL, zK] at hO) | ((with_reducible refine zad ?_); refine zbx rfl hO rfl rfl ?_; (first | (refine nm 0 rfl ?_; clear hO; intro b0 u hO) | (refine nm 1 rfl ?_; clear hO; intro b1 u hO) | fail); simp only [zL, zK] at hO) | ((with_reducible refine zaa ?_); refine zlb rfl hO rfl _ (by exact at0) ?_) | fail)
    refine (zak _ _ _ _).mono ?_
    rintro e u ⟨rfl, hb⟩
    (replace hO := hO.step hb; clear hb)
    rw [h1]
    go_wp2_with (first | ((with_reducible refine zaa ?_); refine zlb rfl hO rfl _ (by exact at1) ?_) | fail)
    refine (zak _ _ _ _).mono ?_
    rintro e u ⟨rfl, hb⟩
    (replace hO := hO.step hb; clear hb)
    rw [h2]
    go_wp2_with (first | ((with_reducible refine zaa ?_); refine zlf rfl hO rfl _ (by exact at1) ?_) | ((with_reducible refine zab ?_); refine zsb rfl hO rfl _ (by exact at2) rfl ?_; clear hO; intro u hO; simp only [zC, zB] at hO) | fail)
    exact zan rfl hO rfl 2 rfl rfl rfl ⟨zar HM.out, hO.below⟩
  have hd4 : decide (n2 < -20) = false := by simp; omega
  by_cases hd3 : n2 ≤ 20
  case neg =>
    have HM := Lib.hid (show powI n1 d1 t1 n2 d2 t2 = (0, 0) from hyes.trans (if_neg (by rintro ⟨_, _, _⟩; omega)))
    have HD := Lib.hid hd1
    clear hd1 hyes
    have hd5 : decide (20 < n2) = true := by simp; omega
    have hin : inI n2 (-20) 20 = false := inI_false (by omega)
    go_enter Tryz.func61, Tryz.ntmps61
    have hO := Own.nil w
    go_wp2_with (first | ((with_reducible refine zac ?_); refine zal rfl hO rfl ?_; (refine nm 2 rfl ?_; clear hO; intro b2 u hO); simp only [zL, zK] at hO) | ((with_reducible refine zad ?_); refine zbx rfl hO rfl rfl ?_; (first | (refine nm 0 rfl ?_; clear hO; intro b0 u hO) | (refine nm 1 rfl ?_; clear hO; intro b1 u hO) | fail); simp only [zL, zK] at hO) | ((with_reducible refine zaa ?_); refine zlb rfl hO rfl _ (by exact at0) ?_) | fail)
    refine (zak _ _ _ _).mono ?_
    rintro e u ⟨rfl, hb⟩
    (replace hO := hO.step hb; clear hb)
    rw [h1]
    go_wp2_with (first | ((with_reducible refine zaa ?_); refine zlb rfl hO rfl _ (by exact at1) ?_) | fail)
    refine (zak _ _ _ _).mono ?_
    rintro e u ⟨rfl, hb⟩
    (replace hO := hO.step hb; clear hb)
    rw [h2]
    go_wp2_with (first | ((with_reducible refine zaa ?_); refine zlf rfl hO rfl _ (by exact at1) ?_) | ((with_reducible refine zab ?_); refine zsb rfl hO rfl _ (by exact at2) rfl ?_; clear hO; intro u hO; simp only [zC, zB] at hO) | fail)
    exact zan rfl hO rfl 2 rfl rfl rfl ⟨zar HM.out, hO.below⟩
  have hd5 : decide (20 < n2) = false := by simp; omega
  have hin : inI n2 (-20) 20 = true := inI_true (by omega)
  replace hyes := hyes.trans (if_pos ⟨hd1, hd2, hd3⟩)
  have HD := Lib.hid hd1
  clear hd1
  by_cases hs : n2 < 0
  · have HM := Lib.hid (show powI n1 d1 t1 n2 d2 t2 = _ from hyes.trans (if_pos hs))
    clear hyes
    obtain ⟨m, hm⟩ : ∃ m : Nat, m = (-n2).toNat := ⟨_, rfl⟩
    rw [← hm] at HM
    have hm2 : -n2 = (m : Int) := by omega
    have hm3 : m ≤ 20 := by omega
    have HM2 := Lib.hid hm2
    clear hm hm2
    have hs' : n2 < 0 := by omega
    clear hs
    go_enter Tryz.func61, Tryz.ntmps61
    have hO := Own.nil w
    go_wp2_with (first | ((with_reducible refine zac ?_); refine zal rfl hO rfl ?_; (refine nm 2 rfl ?_; clear hO; intro b2 u hO); simp only [zL, zK] at hO) | ((with_reducible refine zad ?_); refine zbx rfl hO rfl rfl ?_; (first | (refine nm 0 rfl ?_; clear hO; intro b0 u hO) | (refine nm 1 rfl ?_; clear hO; intro b1 u hO) | fail); simp only [zL, zK] at hO) | ((with_reducible refine zaa ?_); refine zlb rfl hO rfl _ (by exact at0) ?_) | fail)
    refine (zak _ _ _ _).mono ?_
    rintro e u ⟨rfl, hb⟩
    (replace hO := hO.step hb; clear hb)
    rw [h1]
    go_wp2_with (first | ((with_reducible refine zaa ?_); refine zlb rfl hO rfl _ (by exact at1) ?_) | fail)
    refine (zak _ _ _ _).mono ?_
    rintro e u ⟨rfl, hb⟩
    (replace hO := hO.step hb; clear hb)
    rw [h2]
    go_wp2_with (first | ((with_reducible refine zac ?_); refine zal rfl hO rfl ?_; (refine nm 3 rfl ?_; clear hO; intro b3 u hO); simp only [zL, zK] at hO) | ((with_reducible refine zaa ?_); refine zlf rfl hO rfl _ (by exact at1) ?_) | ((with_reducible refine zab ?_); refine zsb rfl hO rfl _ (by exact at3) rfl ?_; clear hO; intro u hO; simp only [zC, zB] at hO) | fail)
    rw [HM2.out]
    go_loopw [7] (fun i u => ∃ k : Nat, k ≤ m ∧ i = .int .i64 k ∧ Own w [box b0 35 [.int .i64 n1, .int .i64 d1, .string t1], box b1 35 [.int .i64 n2, .int .i64 d2, .string t2], box b2 35 (itmW (0, 0)), box b3 35 (itmW (powN n1 d1 t1 k))] u) (fun i _ => m - (intOf i).toNat)
    case atStart => exact ⟨0, Nat.zero_le _, rfl, hO⟩
    case round =>
      clear hO
      obtain ⟨k, hk, rfl, hO⟩ := hrel
      unfold itmW at hO
      by_cases hlt : k < m
      · skip
        go_wp2_with (first | ((with_reducible refine zaa ?_); refine zlb rfl hO rfl _ (by (first | exact at0 | exact at3 | fail)) ?_) | fail)
        refine (impl_mul _ _ _ _ _ _ _).mono ?_
        rintro e u ⟨rfl, hb⟩
        (replace hO := hO.step hb; clear hb)
        go_wp2_with (first | ((with_reducible refine zab ?_); refine zsb rfl hO rfl _ (by exact at3) rfl ?_; clear hO; intro u hO; simp only [zC, zB] at hO) | fail)
        go_roundw
        case rel => exact ⟨k + 1, by omega, by go_num, hO⟩
        case measure => simp [intOf]; omega
      · skip
        go_wp2_with (first | ((with_reducible refine zaa ?_); refine zlb rfl hO rfl _ (by exact at3) ?_) | ((with_reducible refine zaa ?_); refine zlf rfl hO rfl _ (by exact at1) ?_) | fail)
        obtain rfl : k = m := by omega
        refine (impl_div _ _ _ _ _ _ _).mono ?_
        rintro e u ⟨rfl, hb⟩
        (replace hO := hO.step hb; clear hb)
        go_wp2_with (first | ((with_reducible refine zaa ?_); refine zlb rfl hO rfl _ (by exact at3) ?_) | ((with_reducible refine zab ?_); refine zsb rfl hO rfl _ (by (first | exact at2 | exact at3 | fail)) rfl ?_; clear hO; intro u hO; simp only [zC, zB] at hO) | fail)
        exact zan rfl hO rfl 2 rfl rfl rfl ⟨zar HM.out, hO.below⟩
  · have HM := Lib.hid (show powI n1 d1 t1 n2 d2 t2 = _ from hyes.trans (if_neg hs))
    clear hyes
    obtain ⟨m, hm⟩ : ∃ m : Nat, m = (n2).toNat := ⟨_, rfl⟩
    rw [← hm] at HM
    have hm2 : n2 = (m : Int) := by omega
    have hm3 : m ≤ 20 := by omega
    have HM2 := Lib.hid hm2
    clear hm hm2
    have hs' : 0 ≤ n2 := by omega
    clear hs
    go_enter Tryz.func61, Tryz.ntmps61
    have hO := Own.nil w
    go_wp2_with (first | ((with_reducible refine zac ?_); refine zal rfl hO rfl ?_; (refine nm 2 rfl ?_; clear hO; intro b2 u hO); simp only [zL, zK] at hO) | ((with_reducible refine zad ?_); refine zbx rfl hO rfl rfl ?_; (first | (refine nm 0 rfl ?_; clear hO; intro b0 u hO) | (refine nm 1 rfl ?_; clear hO; intro b1 u hO) | fail); simp only [zL, zK] at hO) | ((with_reducible refine zaa ?_); refine zlb rfl hO rfl _ (by exact at0) ?_) | fail)
    refine (zak _ _ _ _).mono ?_
    rintro e u ⟨rfl, hb⟩
    (replace hO := hO.step hb; clear hb)
    rw [h1]
    go_wp2_with (first | ((with_reducible refine zaa ?_); refine zlb rfl hO rfl _ (by exact at1) ?_) | fail)
    refine (zak _ _ _ _).mono ?_
    rintro e u ⟨rfl, hb⟩
    (replace hO := hO.step hb; clear hb)
    rw [h2]
    go_wp2_with (first | ((with_reducible refine zac ?_); refine zal rfl hO rfl ?_; (refine nm 3 rfl ?_; clear hO; intro b3 u hO); simp only [zL, zK] at hO) | ((with_reducible refine zaa ?_); refine zlf rfl hO rfl _ (by exact at1) ?_) | ((with_reducible refine zab ?_); refine zsb rfl hO rfl _ (by exact at3) rfl ?_; clear hO; intro u hO; simp only [zC, zB] at hO) | fail)
    go_loopw [7] (fun i u => ∃ k : Nat, k ≤ m ∧ i = .int .i64 k ∧ Own w [box b0 35 [.int .i64 n1, .int .i64 d1, .string t1], box b1 35 [.int .i64 n2, .int .i64 d2, .string t2], box b2 35 (itmW (0, 0)), box b3 35 (itmW (powN n1 d1 t1 k))] u) (fun i _ => m - (intOf i).toNat)
    case atStart => exact ⟨0, Nat.zero_le _, rfl, hO⟩
    case round =>
      clear hO
      obtain ⟨k, hk, rfl, hO⟩ := hrel
      unfold itmW at hO
      by_cases hlt : k < m
      · skip
        have hlt2 : (k : Int) < n2 := by have := HM2.out; omega
        go_wp2_with (first | ((with_reducible refine zaa ?_); refine zlb rfl hO rfl _ (by (first | exact at0 | exact at3 | fail)) ?_) | fail)
        refine (impl_mul _ _ _ _ _ _ _).mono ?_
        rintro e u ⟨rfl, hb⟩
        (replace hO := hO.step hb; clear hb)
        go_wp2_with (first | ((with_reducible refine zab ?_); refine zsb rfl hO rfl _ (by exact at3) rfl ?_; clear hO; intro u hO; simp only [zC, zB] at hO) | fail)
        go_roundw
        case rel => exact ⟨k + 1, by omega, by go_num, hO⟩
        case measure => simp [intOf]; omega
      · skip
        have hlt2 : n2 ≤ (k : Int) := by have := HM2.out; omega
        go_wp2_with (first | ((with_reducible refine zaa ?_); refine zlb rfl hO rfl _ (by exact at3) ?_) | ((with_reducible refine zaa ?_); refine zlf rfl hO rfl _ (by exact at1) ?_) | ((with_reducible refine zab ?_); refine zsb rfl hO rfl _ (by exact at2) rfl ?_; clear hO; intro u hO; simp only [zC, zB] at hO) | fail)
        obtain rfl : k = m := by omega
        exact zan rfl hO rfl 2 rfl rfl rfl ⟨zar HM.out, hO.below⟩

set_option maxHeartbeats 4000000 in
theorem spec_pow (n1 d1 n2 d2 : Int) (t1 t2 : ByteArray) (w : World) :
    Calls Tryz.prog 78 #[.agg #[.int .i64 n1, .int .i64 d1, .string t1], .agg #[.int .i64 n2, .int .i64 d2, .string t2]] w fun e w' =>
      e = .returned (.agg #[.int .i64 (powI n1 d1 t1 n2 d2 t2).1, .int .i64 (powI n1 d1 t1 n2 d2 t2).2, .string ⟨#[]⟩]) ∧ Below w.heap.size w w' := by
  cases h1 : zas n1 d1 t1
  · have HM := Lib.hid (show powI n1 d1 t1 n2 d2 t2 = (0, 0) from op2_no1 h1)
    go_enter Tryz.func78, Tryz.ntmps78
    have hO := Own.nil w
    go_wp2_with (first | ((with_reducible refine zac ?_); refine zal rfl hO rfl ?_; (refine nm 2 rfl ?_; clear hO; intro b2 u hO); simp only [zL, zK] at hO) | ((with_reducible refine zad ?_); refine zbx rfl hO rfl rfl ?_; (first | (refine nm 0 rfl ?_; clear hO; intro b0 u hO) | (refine nm 1 rfl ?_; clear hO; intro b1 u hO) | fail); simp only [zL, zK] at hO) | ((with_reducible refine zaa ?_); refine zlb rfl hO rfl _ (by exact at0) ?_) | fail)
    refine (zam _ _ _ _).mono ?_
    rintro e u ⟨rfl, hb⟩
    (replace hO := hO.step hb; clear hb)
    rw [h1]
    go_wp2_with (first | ((with_reducible refine zab ?_); refine zsb rfl hO rfl _ (by exact at2) rfl ?_; clear hO; intro u hO; simp only [zC, zB] at hO) | fail)
    exact zan rfl hO rfl 2 rfl rfl rfl ⟨zar HM.out, hO.below⟩
  cases h2 : zas n2 d2 t2
  · have HM := Lib.hid (show powI n1 d1 t1 n2 d2 t2 = (0, 0) from zbl h2)
    go_enter Tryz.func78, Tryz.ntmps78
    have hO := Own.nil w
    go_wp2_with (first | ((with_reducible refine zac ?_); refine zal rfl hO rfl ?_; (refine nm 2 rfl ?_; clear hO; intro b2 u hO); simp only [zL, zK] at hO) | ((with_reducible refine zad ?_); refine zbx rfl hO rfl rfl ?_; (first | (refine nm 0 rfl ?_; clear hO; intro b0 u hO) | (refine nm 1 rfl ?_; clear hO; intro b1 u hO) | fail); simp only [zL, zK] at hO) | ((with_reducible refine zaa ?_); refine zlb rfl hO rfl _ (by exact at0) ?_) | fail)
    refine (zam _ _ _ _).mono ?_
    rintro e u ⟨rfl, hb⟩
    (replace hO := hO.step hb; clear hb)
    rw [h1]
    go_wp2_with (first | ((with_reducible refine zaa ?_); refine zlb rfl hO rfl _ (by exact at1) ?_) | fail)
    refine (zam _ _ _ _).mono ?_
    rintro e u ⟨rfl, hb⟩
    (replace hO := hO.step hb; clear hb)
    rw [h2]
    go_wp2_with (first | ((with_reducible refine zab ?_); refine zsb rfl hO rfl _ (by exact at2) rfl ?_; clear hO; intro u hO; simp only [zC, zB] at hO) | fail)
    exact zan rfl hO rfl 2 rfl rfl rfl ⟨zar HM.out, hO.below⟩
  have hyes := op2_yes (r := if d2 = 1 ∧ -20 ≤ n2 ∧ n2 ≤ 20 then powV n1 d1 t1 n2 else (0, 0)) h1 h2
  by_cases hd1 : d2 = 1
  case neg =>
    have HM := Lib.hid (show powI n1 d1 t1 n2 d2 t2 = (0, 0) from hyes.trans (if_neg (by rintro ⟨_, _, _⟩; omega)))
    have hdb : (d2 != 1) = true := by simp [hd1]
    clear hyes
    go_enter Tryz.func78, Tryz.ntmps78
    have hO := Own.nil w
    go_wp2_with (first | ((with_reducible refine zac ?_); refine zal rfl hO rfl ?_; (refine nm 2 rfl ?_; clear hO; intro b2 u hO); simp only [zL, zK] at hO) | ((with_reducible refine zad ?_); refine zbx rfl hO rfl rfl ?_; (first | (refine nm 0 rfl ?_; clear hO; intro b0 u hO) | (refine nm 1 rfl ?_; clear hO; intro b1 u hO) | fail); simp only [zL, zK] at hO) | ((with_reducible refine zaa ?_); refine zlb rfl hO rfl _ (by exact at0) ?_) | fail)
    refine (zam _ _ _ _).mono ?_
    rintro e u ⟨rfl, hb⟩
    (replace hO := hO.step hb; clear hb)
    rw [h1]
    go_wp2_with (first | ((with_reducible refine zaa ?_); refine zlb rfl hO rfl _ (by exact at1) ?_) | fail)
    refine (zam _ _ _ _).mono ?_
    rintro e u ⟨rfl, hb⟩
    (replace hO := hO.step hb; clear hb)
    rw [h2]
    go_wp2_with (first | ((with_reducible refine zaa ?_); refine zlf rfl hO rfl _ (by exact at1) ?_) | ((with_reducible refine zab ?_); refine zsb rfl hO rfl _ (by exact at2) rfl ?_; clear hO; intro u hO; simp only [zC, zB] at hO) | fail)
    exact zan rfl hO rfl 2 rfl rfl rfl ⟨zar HM.out, hO.below⟩
  have hdb : (d2 != 1) = false := by simp [hd1]
  by_cases hd2 : -20 ≤ n2
  case neg =>
    have HM := Lib.hid (show powI n1 d1 t1 n2 d2 t2 = (0, 0) from hyes.trans (if_neg (by rintro ⟨_, _, _⟩; omega)))
    have HD := Lib.hid hd1
    clear hd1 hyes
    have hd4 : decide (n2 < -20) = true := by simp; omega
    have hin : inI n2 (-20) 20 = false := inI_false (by omega)
    go_enter Tryz.func78, Tryz.ntmps78
    have hO := Own.nil w
    go_wp2_with (first | ((with_reducible refine zac ?_); refine zal rfl hO rfl ?_; (refine nm 2 rfl ?_; clear hO; intro b2 u hO); simp only [zL, zK] at hO) | ((with_reducible refine zad ?_); refine zbx rfl hO rfl rfl ?_; (first | (refine nm 0 rfl ?_; clear hO; intro b0 u hO) | (refine nm 1 rfl ?_; clear hO; intro b1 u hO) | fail); simp only [zL, zK] at hO) | ((with_reducible refine zaa ?_); refine zlb rfl hO rfl _ (by exact at0) ?_) | fail)
    refine (zam _ _ _ _).mono ?_
    rintro e u ⟨rfl, hb⟩
    (replace hO := hO.step hb; clear hb)
    rw [h1]
    go_wp2_with (first | ((with_reducible refine zaa ?_); refine zlb rfl hO rfl _ (by exact at1) ?_) | fail)
    refine (zam _ _ _ _).mono ?_
    rintro e u ⟨rfl, hb⟩
    (replace hO := hO.step hb; clear hb)
    rw [h2]
    go_wp2_with (first | ((with_reducible refine zaa ?_); refine zlf rfl hO rfl _ (by exact at1) ?_) | fail)
    refine (zbj _ _ _ _).mono ?_
    rintro e u ⟨rfl, hb⟩
    subst hb
    rw [hin]
    go_wp2_with (first | ((with_reducible refine zab ?_); refine zsb rfl hO rfl _ (by exact at2) rfl ?_; clear hO; intro u hO; simp only [zC, zB] at hO) | fail)
    exact zan rfl hO rfl 2 rfl rfl rfl ⟨zar HM.out, hO.below⟩
  have hd4 : decide (n2 < -20) = false := by simp; omega
  by_cases hd3 : n2 ≤ 20
  case neg =>
    have HM := Lib.hid (show powI n1 d1 t1 n2 d2 t2 = (0, 0) from hyes.trans (if_neg (by rintro ⟨_, _, _⟩; omega)))
    have HD := Lib.hid hd1
    clear hd1 hyes
    have hd5 : decide (20 < n2) = true := by simp; omega
    have hin : inI n2 (-20) 20 = false := inI_false (by omega)
    go_enter Tryz.func78, Tryz.ntmps78
    have hO := Own.nil w
    go_wp2_with (first | ((with_reducible refine zac ?_); refine zal rfl hO rfl ?_; (refine nm 2 rfl ?_; clear hO; intro b2 u hO); simp only [zL, zK] at hO) | ((with_reducible refine zad ?_); refine zbx rfl hO rfl rfl ?_; (first | (refine nm 0 rfl ?_; clear hO; intro b0 u hO) | (refine nm 1 rfl ?_; clear hO; intro b1 u hO) | fail); simp only [zL, zK] at hO) | ((with_reducible refine zaa ?_); refine zlb rfl hO rfl _ (by exact at0) ?_) | fail)
    refine (zam _ _ _ _).mono ?_
    rintro e u ⟨rfl, hb⟩
    (replace hO := hO.step hb; clear hb)
    rw [h1]
    go_wp2_with (first | ((with_reducible refine zaa ?_); refine zlb rfl hO rfl _ (by exact at1) ?_) | fail)
    refine (zam _ _ _ _).mono ?_
    rintro e u ⟨rfl, hb⟩
    (replace hO := hO.step hb; clear hb)
    rw [h2]
    go_wp2_with (first | ((with_reducible refine zaa ?_); refine zlf rfl hO rfl _ (by exact at1) ?_) | fail)
    refine (zbj _ _ _ _).mono ?_
    rintro e u ⟨rfl, hb⟩
    subst hb
    rw [hin]
    go_wp2_with (first | ((with_reducible refine zab ?_); refine zsb rfl hO rfl _ (by exact at2) rfl ?_; clear hO; intro u hO; simp only [zC, zB] at hO) | fail)
    exact zan rfl hO rfl 2 rfl rfl rfl ⟨zar HM.out, hO.below⟩
  have hd5 : decide (20 < n2) = false := by simp; omega
  have hin : inI n2 (-20) 20 = true := inI_true (by omega)
  replace hyes := hyes.trans (if_pos ⟨hd1, hd2, hd3⟩)
  have HD := Lib.hid hd1
  clear hd1
  by_cases hs : n2 < 0
  · have HM := Lib.hid (show powI n1 d1 t1 n2 d2 t2 = _ from hyes.trans (if_pos hs))
    clear hyes
    obtain ⟨m, hm⟩ : ∃ m : Nat, m = (-n2).toNat := ⟨_, rfl⟩
    rw [← hm] at HM
    have hm2 : -n2 = (m : Int) := by omega
    have hm3 : m ≤ 20 := by omega
    have HM2 := Lib.hid hm2
    clear hm hm2
    have hs' : n2 < 0 := by omega
    clear hs
    go_enter Tryz.func78, Tryz.ntmps78
    have hO := Own.nil w
    go_wp2_with (first | ((with_reducible refine zac ?_); refine zal rfl hO rfl ?_; (refine nm 2 rfl ?_; clear hO; intro b2 u hO); simp only [zL, zK] at hO) | ((with_reducible refine zad ?_); refine zbx rfl hO rfl rfl ?_; (first | (refine nm 0 rfl ?_; clear hO; intro b0 u hO) | (refine nm 1 rfl ?_; clear hO; intro b1 u hO) | fail); simp only [zL, zK] at hO) | ((with_reducible refine zaa ?_); refine zlb rfl hO rfl _ (by exact at0) ?_) | fail)
    refine (zam _ _ _ _).mono ?_
    rintro e u ⟨rfl, hb⟩
    (replace hO := hO.step hb; clear hb)
    rw [h1]
    go_wp2_with (first | ((with_reducible refine zaa ?_); refine zlb rfl hO rfl _ (by exact at1) ?_) | fail)
    refine (zam _ _ _ _).mono ?_
    rintro e u ⟨rfl, hb⟩
    (replace hO := hO.step hb; clear hb)
    rw [h2]
    go_wp2_with (first | ((with_reducible refine zaa ?_); refine zlf rfl hO rfl _ (by exact at1) ?_) | fail)
    refine (zbj _ _ _ _).mono ?_
    rintro e u ⟨rfl, hb⟩
    subst hb
    rw [hin]
    go_wp2_with (first | ((with_reducible refine zac ?_); refine zal rfl hO rfl ?_; (refine nm 3 rfl ?_; clear hO; intro b3 u hO); simp only [zL, zK] at hO) | ((with_reducible refine zab ?_); refine zsb rfl hO rfl _ (by exact at3) rfl ?_; clear hO; intro u hO; simp only [zC, zB] at hO) | fail)
    go_loopw [6] (fun i u => ∃ k : Nat, k ≤ m ∧ i = .int .i64 k ∧ Own w [box b0 35 [.int .i64 n1, .int .i64 d1, .string t1], box b1 35 [.int .i64 n2, .int .i64 d2, .string t2], box b2 35 (itmW (0, 0)), box b3 35 (itmW (powN n1 d1 t1 k))] u) (fun i _ => m - (intOf i).toNat)
    case atStart => exact ⟨0, Nat.zero_le _, rfl, hO⟩
    case round =>
      clear hO
      obtain ⟨k, hk, rfl, hO⟩ := hrel
      unfold itmW at hO
      by_cases hlt : k < m
      · skip
        go_wp2_with (first | ((with_reducible refine zaa ?_); refine zlf rfl hO rfl _ (by exact at1) ?_) | fail)
        refine (spec_abs n2 _ (by omega)).mono ?_
        rintro e u ⟨rfl, hb⟩
        subst hb
        rw [show (n2.natAbs : Int) = (m : Int) from by have := HM2.out; omega]
        go_wp2_with (first | ((with_reducible refine zaa ?_); refine zlb rfl hO rfl _ (by (first | exact at0 | exact at3 | fail)) ?_) | fail)
        refine (spec_mul _ _ _ _ _ _ _).mono ?_
        rintro e u ⟨rfl, hb⟩
        (replace hO := hO.step hb; clear hb)
        go_wp2_with (first | ((with_reducible refine zab ?_); refine zsb rfl hO rfl _ (by exact at3) rfl ?_; clear hO; intro u hO; simp only [zC, zB] at hO) | fail)
        go_roundw
        case rel => exact ⟨k + 1, by omega, by go_num, hO⟩
        case measure => simp [intOf]; omega
      · skip
        go_wp2_with (first | ((with_reducible refine zaa ?_); refine zlf rfl hO rfl _ (by exact at1) ?_) | fail)
        refine (spec_abs n2 _ (by omega)).mono ?_
        rintro e u ⟨rfl, hb⟩
        subst hb
        rw [show (n2.natAbs : Int) = (m : Int) from by have := HM2.out; omega]
        go_wp2_with (first | ((with_reducible refine zaa ?_); refine zlb rfl hO rfl _ (by exact at3) ?_) | ((with_reducible refine zaa ?_); refine zlf rfl hO rfl _ (by exact at1) ?_) | fail)
        obtain rfl : k = m := by omega
        refine (spec_div _ _ _ _ _ _ _).mono ?_
        rintro e u ⟨rfl, hb⟩
        (replace hO := hO.step hb; clear hb)
        go_wp2_with (first | ((with_reducible refine zab ?_); refine zsb rfl hO rfl _ (by exact at2) rfl ?_; clear hO; intro u hO; simp only [zC, zB] at hO) | fail)
        exact zan rfl hO rfl 2 rfl rfl rfl ⟨zar HM.out, hO.below⟩
  · have HM := Lib.hid (show powI n1 d1 t1 n2 d2 t2 = _ from hyes.trans (if_neg hs))
    clear hyes
    obtain ⟨m, hm⟩ : ∃ m : Nat, m = (n2).toNat := ⟨_, rfl⟩
    rw [← hm] at HM
    have hm2 : n2 = (m : Int) := by omega
    have hm3 : m ≤ 20 := by omega
    have HM2 := Lib.hid hm2
    clear hm hm2
    have hs' : 0 ≤ n2 := by omega
    clear hs
    go_enter Tryz.func78, Tryz.ntmps78
    have hO := Own.nil w
    go_wp2_with (first | ((with_reducible refine zac ?_); refine zal rfl hO rfl ?_; (refine nm 2 rfl ?_; clear hO; intro b2 u hO); simp only [zL, zK] at hO) | ((with_reducible refine zad ?_); refine zbx rfl hO rfl rfl ?_; (first | (refine nm 0 rfl ?_; clear hO; intro b0 u hO) | (refine nm 1 rfl ?_; clear hO; intro b1 u hO) | fail); simp only [zL, zK] at hO) | ((with_reducible refine zaa ?_); refine zlb rfl hO rfl _ (by exact at0) ?_) | fail)
    refine (zam _ _ _ _).mono ?_
    rintro e u ⟨rfl, hb⟩
    (replace hO := hO.step hb; clear hb)
    rw [h1]
    go_wp2_with (first | ((with_reducible refine zaa ?_); refine zlb rfl hO rfl _ (by exact at1) ?_) | fail)
    refine (zam _ _ _ _).mono ?_
    rintro e u ⟨rfl, hb⟩
    (replace hO := hO.step hb; clear hb)
    rw [h2]
    go_wp2_with (first | ((with_reducible refine zaa ?_); refine zlf rfl hO rfl _ (by exact at1) ?_) | fail)
    refine (zbj _ _ _ _).mono ?_
    rintro e u ⟨rfl, hb⟩
    subst hb
    rw [hin]
    go_wp2_with (first | ((with_reducible refine zac ?_); refine zal rfl hO rfl ?_; (refine nm 3 rfl ?_; clear hO; intro b3 u hO); simp only [zL, zK] at hO) | ((with_reducible refine zab ?_); refine zsb rfl hO rfl _ (by exact at3) rfl ?_; clear hO; intro u hO; simp only [zC, zB] at hO) | fail)
    go_loopw [6] (fun i u => ∃ k : Nat, k ≤ m ∧ i = .int .i64 k ∧ Own w [box b0 35 [.int .i64 n1, .int .i64 d1, .string t1], box b1 35 [.int .i64 n2, .int .i64 d2, .string t2], box b2 35 (itmW (0, 0)), box b3 35 (itmW (powN n1 d1 t1 k))] u) (fun i _ => m - (intOf i).toNat)
    case atStart => exact ⟨0, Nat.zero_le _, rfl, hO⟩
    case round =>
      clear hO
      obtain ⟨k, hk, rfl, hO⟩ := hrel
      unfold itmW at hO
      by_cases hlt : k < m
      · skip
        go_wp2_with (first | ((with_reducible refine zaa ?_); refine zlf rfl hO rfl _ (by exact at1) ?_) | fail)
        refine (spec_abs n2 _ (by omega)).mono ?_
        rintro e u ⟨rfl, hb⟩
        subst hb
        rw [show (n2.natAbs : Int) = (m : Int) from by have := HM2.out; omega]
        go_wp2_with (first | ((with_reducible refine zaa ?_); refine zlb rfl hO rfl _ (by (first | exact at0 | exact at3 | fail)) ?_) | fail)
        refine (spec_mul _ _ _ _ _ _ _).mono ?_
        rintro e u ⟨rfl, hb⟩
        (replace hO := hO.step hb; clear hb)
        go_wp2_with (first | ((with_reducible refine zab ?_); refine zsb rfl hO rfl _ (by exact at3) rfl ?_; clear hO; intro u hO; simp only [zC, zB] at hO) | fail)
        go_roundw
        case rel => exact ⟨k + 1, by omega, by go_num, hO⟩
        case measure => simp [intOf]; omega
      · skip
        go_wp2_with (first | ((with_reducible refine zaa ?_); refine zlf rfl hO rfl _ (by exact at1) ?_) | fail)
        refine (spec_abs n2 _ (by omega)).mono ?_
        rintro e u ⟨rfl, hb⟩
        subst hb
        rw [show (n2.natAbs : Int) = (m : Int) from by have := HM2.out; omega]
        go_wp2_with (first | ((with_reducible refine zaa ?_); refine zlb rfl hO rfl _ (by exact at3) ?_) | ((with_reducible refine zaa ?_); refine zlf rfl hO rfl _ (by exact at1) ?_) | ((with_reducible refine zab ?_); refine zsb rfl hO rfl _ (by exact at2) rfl ?_; clear hO; intro u hO; simp only [zC, zB] at hO) | fail)
        obtain rfl : k = m := by omega
        exact zan rfl hO rfl 2 rfl rfl rfl ⟨zar HM.out, hO.below⟩

end Go.Proofs.YtmofcbpabdbjlaaGreat
