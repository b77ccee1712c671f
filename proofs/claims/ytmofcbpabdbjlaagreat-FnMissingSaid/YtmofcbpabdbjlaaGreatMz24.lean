/-
  What is proved: what comparing two numbers returns (program and reference).
  Condition: items of 64-bit ints.
-/
import Derived.Test.YtmofcbpabdbjlaaGreatMz22
namespace Go.Proofs.YtmofcbpabdbjlaaGreat

set_option maxRecDepth 8000

open Go.RowKit

set_option linter.unusedVariables false

set_option linter.unusedSimpArgs false

def cmpI (n1 d1 : Int) (t1 : ByteArray) (n2 d2 : Int) (t2 : ByteArray) : Int :=
  if zas n1 d1 t1 && zas n2 d2 t2 then (if n1 * d2 < n2 * d1 then -1 else if n2 * d1 < n1 * d2 then 1 else 0) else 2

theorem impl_cmp (n1 d1 n2 d2 : Int) (t1 t2 : ByteArray) (w : World) :
    Calls Tryz.prog 70 #[.agg #[.int .i64 n1, .int .i64 d1, .string t1], .agg #[.int .i64 n2, .int .i64 d2, .string t2]] w fun e w' => e = .returned (.int .i64 (cmpI n1 d1 t1 n2 d2 t2)) ∧ Below w.heap.size w w' := by
  cases h1 : zas n1 d1 t1
  · have HM := Lib.hid (show cmpI n1 d1 t1 n2 d2 t2 = 2 by simp [cmpI, h1])
    go_enter Tryz.func70, Tryz.ntmps70
    go_wp2_with fail
    refine (zak n1 d1 t1 _).mono ?_
    rintro e w1 ⟨rfl, hb1⟩
    obtain ⟨hc1, hf1⟩ := bcell hb1
    have B1 : Below w.heap.size w w1 := zai (by go_grown) (Nat.le_refl _) hb1
    have z1 : w.heap.size ≤ w1.heap.size := B1.size
    have y1_0 : w.heap.size < w1.heap.size := by have := hb1.size; (try simp at this); omega
    have y1_1 : w.heap.size + 1 < w1.heap.size := by have := hb1.size; (try simp at this); omega
    have k1_0_0 : w1.cell? ⟨w.heap.size, 0, none⟩ = some (.int .i64 n1) := by rw [hc1 _ _ (by (try simp); (try omega))]; go_simp
    have k1_0_1 : w1.cell? ⟨w.heap.size, 1, none⟩ = some (.int .i64 d1) := by rw [hc1 _ _ (by (try simp); (try omega))]; go_simp
    have k1_0_2 : w1.cell? ⟨w.heap.size, 2, none⟩ = some (.string t1) := by rw [hc1 _ _ (by (try simp); (try omega))]; go_simp
    have k1_1_0 : w1.cell? ⟨w.heap.size + 1, 0, none⟩ = some (.int .i64 n2) := by rw [hc1 _ _ (by (try simp); (try omega))]; go_simp
    have k1_1_1 : w1.cell? ⟨w.heap.size + 1, 1, none⟩ = some (.int .i64 d2) := by rw [hc1 _ _ (by (try simp); (try omega))]; go_simp
    have k1_1_2 : w1.cell? ⟨w.heap.size + 1, 2, none⟩ = some (.string t2) := by rw [hc1 _ _ (by (try simp); (try omega))]; go_simp
    clear hc1
    go_wp2_with fail
    go_ret
    exact ⟨zat HM.out.symm, B1⟩
  · cases h2 : zas n2 d2 t2
    · have HM := Lib.hid (show cmpI n1 d1 t1 n2 d2 t2 = 2 by simp [cmpI, h2])
      go_enter Tryz.func70, Tryz.ntmps70
      go_wp2_with fail
      refine (zak n1 d1 t1 _).mono ?_
      rintro e w1 ⟨rfl, hb1⟩
      obtain ⟨hc1, hf1⟩ := bcell hb1
      have B1 : Below w.heap.size w w1 := zai (by go_grown) (Nat.le_refl _) hb1
      have z1 : w.heap.size ≤ w1.heap.size := B1.size
      have y1_0 : w.heap.size < w1.heap.size := by have := hb1.size; (try simp at this); omega
      have y1_1 : w.heap.size + 1 < w1.heap.size := by have := hb1.size; (try simp at this); omega
      have k1_0_0 : w1.cell? ⟨w.heap.size, 0, none⟩ = some (.int .i64 n1) := by rw [hc1 _ _ (by (try simp); (try omega))]; go_simp
      have k1_0_1 : w1.cell? ⟨w.heap.size, 1, none⟩ = some (.int .i64 d1) := by rw [hc1 _ _ (by (try simp); (try omega))]; go_simp
      have k1_0_2 : w1.cell? ⟨w.heap.size, 2, none⟩ = some (.string t1) := by rw [hc1 _ _ (by (try simp); (try omega))]; go_simp
      have k1_1_0 : w1.cell? ⟨w.heap.size + 1, 0, none⟩ = some (.int .i64 n2) := by rw [hc1 _ _ (by (try simp); (try omega))]; go_simp
      have k1_1_1 : w1.cell? ⟨w.heap.size + 1, 1, none⟩ = some (.int .i64 d2) := by rw [hc1 _ _ (by (try simp); (try omega))]; go_simp
      have k1_1_2 : w1.cell? ⟨w.heap.size + 1, 2, none⟩ = some (.string t2) := by rw [hc1 _ _ (by (try simp); (try omega))]; go_simp
      clear hc1
      go_wp2_with fail
      refine (zak n2 d2 t2 _).mono ?_
      rintro e w2 ⟨rfl, hb2⟩
      obtain ⟨hc2, hf2⟩ := bcell hb2
      have B2 : Below w.heap.size w w2 := zai (by go_grown) (Nat.le_refl _) hb2
      have z2 : w.heap.size ≤ w2.heap.size := B2.size
      have y2_0 : w.heap.size < w2.heap.size := by have := hb2.size; (try simp at this); omega
      have y2_1 : w.heap.size + 1 < w2.heap.size := by have := hb2.size; (try simp at this); omega
      have k2_0_0 : w2.cell? ⟨w.heap.size, 0, none⟩ = some (.int .i64 n1) := by rw [hc2 _ _ (by (try simp); (try omega))]; go_simp
      have k2_0_1 : w2.cell? ⟨w.heap.size, 1, none⟩ = some (.int .i64 d1) := by rw [hc2 _ _ (by (try simp); (try omega))]; go_simp
      have k2_0_2 : w2.cell? ⟨w.heap.size, 2, none⟩ = some (.string t1) := by rw [hc2 _ _ (by (try simp); (try omega))]; go_simp
      have k2_1_0 : w2.cell? ⟨w.heap.size + 1, 0, none⟩ = some (.int .i64 n2) := by rw [hc2 _ _ (by (try simp); (try omega))]; go_simp
      have k2_1_1 : w2.cell? ⟨w.heap.size + 1, 1, none⟩ = some (.int .i64 d2) := by rw [hc2 _ _ (by (try simp); (try omega))]; go_simp
      have k2_1_2 : w2.cell? ⟨w.heap.size + 1, 2, none⟩ = some (.string t2) := by rw [hc2 _ _ (by (try simp); (try omega))]; go_simp
      clear hc2
      go_wp2_with fail
      go_ret
      exact ⟨zat HM.out.symm, B2⟩
    · have hM : cmpI n1 d1 t1 n2 d2 t2 = (if n1 * d2 < n2 * d1 then -1 else if n2 * d1 < n1 * d2 then 1 else 0) := by simp [cmpI, h1, h2]
      obtain ⟨a1, a2, a3, a4⟩ := zaz h1
      obtain ⟨b1, b2, b3, b4⟩ := zaz h2
      obtain ⟨m1, m2⟩ := zax (a := n1) (b := d2) (by omega) (by omega)
      obtain ⟨m3, m4⟩ := zax (a := n2) (b := d1) (by omega) (by omega)
      obtain ⟨m5, m6⟩ := zax (a := d1) (b := d2) (by omega) (by omega)
      rcases Int.lt_trichotomy (n1 * d2) (n2 * d1) with hc | hc | hc
      · have HM := Lib.hid (show cmpI n1 d1 t1 n2 d2 t2 = -1 from by rw [hM, if_pos hc])
        have c1 : n1 * d2 < n2 * d1 := by omega
        have c2 : ¬ n2 * d1 < n1 * d2 := by omega
        have c3 : n1 * d2 - n2 * d1 < 0 := by omega
        have c4 : n1 * d2 - n2 * d1 ≤ 0 := by omega
        have hc5 := Lib.hid hc
        clear hc hM
        go_enter Tryz.func70, Tryz.ntmps70
        go_wp2_with fail
        refine (zak n1 d1 t1 _).mono ?_
        rintro e w1 ⟨rfl, hb1⟩
        obtain ⟨hc1, hf1⟩ := bcell hb1
        have B1 : Below w.heap.size w w1 := zai (by go_grown) (Nat.le_refl _) hb1
        have z1 : w.heap.size ≤ w1.heap.size := B1.size
        have y1_0 : w.heap.size < w1.heap.size := by have := hb1.size; (try simp at this); omega
        have y1_1 : w.heap.size + 1 < w1.heap.size := by have := hb1.size; (try simp at this); omega
        have k1_0_0 : w1.cell? ⟨w.heap.size, 0, none⟩ = some (.int .i64 n1) := by rw [hc1 _ _ (by (try simp); (try omega))]; go_simp
        have k1_0_1 : w1.cell? ⟨w.heap.size, 1, none⟩ = some (.int .i64 d1) := by rw [hc1 _ _ (by (try simp); (try omega))]; go_simp
        have k1_0_2 : w1.cell? ⟨w.heap.size, 2, none⟩ = some (.string t1) := by rw [hc1 _ _ (by (try simp); (try omega))]; go_simp
        have k1_1_0 : w1.cell? ⟨w.heap.size + 1, 0, none⟩ = some (.int .i64 n2) := by rw [hc1 _ _ (by (try simp); (try omega))]; go_simp
        have k1_1_1 : w1.cell? ⟨w.heap.size + 1, 1, none⟩ = some (.int .i64 d2) := by rw [hc1 _ _ (by (try simp); (try omega))]; go_simp
        have k1_1_2 : w1.cell? ⟨w.heap.size + 1, 2, none⟩ = some (.string t2) := by rw [hc1 _ _ (by (try simp); (try omega))]; go_simp
        clear hc1
        go_wp2_with fail
        refine (zak n2 d2 t2 _).mono ?_
        rintro e w2 ⟨rfl, hb2⟩
        obtain ⟨hc2, hf2⟩ := bcell hb2
        have B2 : Below w.heap.size w w2 := zai (by go_grown) (Nat.le_refl _) hb2
        have z2 : w.heap.size ≤ w2.heap.size := B2.size
        have y2_0 : w.heap.size < w2.heap.size := by have := hb2.size; (try simp at this); omega
        have y2_1 : w.heap.size + 1 < w2.heap.size := by have := hb2.size; (try simp at this); omega
        have k2_0_0 : w2.cell? ⟨w.heap.size, 0, none⟩ = some (.int .i64 n1) := by rw [hc2 _ _ (by (try simp); (try omega))]; go_simp
        have k2_0_1 : w2.cell? ⟨w.heap.size, 1, none⟩ = some (.int .i64 d1) := by rw [hc2 _ _ (by (try simp); (try omega))]; go_simp
        have k2_0_2 : w2.cell? ⟨w.heap.size, 2, none⟩ = some (.string t1) := by rw [hc2 _ _ (by (try simp); (try omega))]; go_simp
        have k2_1_0 : w2.cell? ⟨w.heap.size + 1, 0, none⟩ = some (.int .i64 n2) := by rw [hc2 _ _ (by (try simp); (try omega))]; go_simp
        have k2_1_1 : w2.cell? ⟨w.heap.size + 1, 1, none⟩ = some (.int .i64 d2) := by rw [hc2 _ _ (by (try simp); (try omega))]; go_simp
        have k2_1_2 : w2.cell? ⟨w.heap.size + 1, 2, none⟩ = some (.string t2) := by rw [hc2 _ _ (by (try simp); (try omega))]; go_simp
        clear hc2
        go_wp2_with fail
        all_goals (go_ret; exact ⟨zat (by rw [HM.out] <;> (have := hc5.out; omega)), B2⟩)
      · have HM := Lib.hid (show cmpI n1 d1 t1 n2 d2 t2 = 0 from by rw [hM, if_neg (by omega), if_neg (by omega)])
        have c1 : ¬ n1 * d2 < n2 * d1 := by omega
        have c2 : ¬ n2 * d1 < n1 * d2 := by omega
        have c3 : ¬ n1 * d2 - n2 * d1 < 0 := by omega
        have c4 : n1 * d2 - n2 * d1 ≤ 0 := by omega
        have hc5 := Lib.hid hc
        clear hc hM
        go_enter Tryz.func70, Tryz.ntmps70
        go_wp2_with fail
        refine (zak n1 d1 t1 _).mono ?_
        rintro e w1 ⟨rfl, hb1⟩
        obtain ⟨hc1, hf1⟩ := bcell hb1
        have B1 : Below w.heap.size w w1 := zai (by go_grown) (Nat.le_refl _) hb1
        have z1 : w.heap.size ≤ w1.heap.size := B1.size
        have y1_0 : w.heap.size < w1.heap.size := by have := hb1.size; (try simp at this); omega
        have y1_1 : w.heap.size + 1 < w1.heap.size := by have := hb1.size; (try simp at this); omega
        have k1_0_0 : w1.cell? ⟨w.heap.size, 0, none⟩ = some (.int .i64 n1) := by rw [hc1 _ _ (by (try simp); (try omega))]; go_simp
        have k1_0_1 : w1.cell? ⟨w.heap.size, 1, none⟩ = some (.int .i64 d1) := by rw [hc1 _ _ (by (try simp); (try omega))]; go_simp
        have k1_0_2 : w1.cell? ⟨w.heap.size, 2, none⟩ = some (.string t1) := by rw [hc1 _ _ (by (try simp); (try omega))]; go_simp
        have k1_1_0 : w1.cell? ⟨w.heap.size + 1, 0, none⟩ = some (.int .i64 n2) := by rw [hc1 _ _ (by (try simp); (try omega))]; go_simp
        have k1_1_1 : w1.cell? ⟨w.heap.size + 1, 1, none⟩ = some (.int .i64 d2) := by rw [hc1 _ _ (by (try simp); (try omega))]; go_simp
        have k1_1_2 : w1.cell? ⟨w.heap.size + 1, 2, none⟩ = some (.string t2) := by rw [hc1 _ _ (by (try simp); (try omega))]; go_simp
        clear hc1
        go_wp2_with fail
        refine (zak n2 d2 t2 _).mono ?_
        rintro e w2 ⟨rfl, hb2⟩
        obtain ⟨hc2, hf2⟩ := bcell hb2
        have B2 : Below w.heap.size w w2 := zai (by go_grown) (Nat.le_refl _) hb2
        have z2 : w.heap.size ≤ w2.heap.size := B2.size
        have y2_0 : w.heap.size < w2.heap.size := by have := hb2.size; (try simp at this); omega
        have y2_1 : w.heap.size + 1 < w2.heap.size := by have := hb2.size; (try simp at this); omega
        have k2_0_0 : w2.cell? ⟨w.heap.size, 0, none⟩ = some (.int .i64 n1) := by rw [hc2 _ _ (by (try simp); (try omega))]; go_simp
        have k2_0_1 : w2.cell? ⟨w.heap.size, 1, none⟩ = some (.int .i64 d1) := by rw [hc2 _ _ (by (try simp); (try omega))]; go_simp
        have k2_0_2 : w2.cell? ⟨w.heap.size, 2, none⟩ = some (.string t1) := by rw [hc2 _ _ (by (try simp); (try omega))]; go_simp
        have k2_1_0 : w2.cell? ⟨w.heap.size + 1, 0, none⟩ = some (.int .i64 n2) := by rw [hc2 _ _ (by (try simp); (try omega))]; go_simp
        have k2_1_1 : w2.cell? ⟨w.heap.size + 1, 1, none⟩ = some (.int .i64 d2) := by rw [hc2 _ _ (by (try simp); (try omega))]; go_simp
        have k2_1_2 : w2.cell? ⟨w.heap.size + 1, 2, none⟩ = some (.string t2) := by rw [hc2 _ _ (by (try simp); (try omega))]; go_simp
        clear hc2
        go_wp2_with fail
        all_goals (go_ret; exact ⟨zat (by rw [HM.out] <;> (have := hc5.out; omega)), B2⟩)
      · have HM := Lib.hid (show cmpI n1 d1 t1 n2 d2 t2 = 1 from by rw [hM, if_neg (by omega), if_pos hc])
        have c1 : ¬ n1 * d2 < n2 * d1 := by omega
        have c2 : n2 * d1 < n1 * d2 := by omega
        have c3 : ¬ n1 * d2 - n2 * d1 < 0 := by omega
        have c4 : 1 ≤ n1 * d2 - n2 * d1 := by omega
        have hc5 := Lib.hid hc
        clear hc hM
        go_enter Tryz.func70, Tryz.ntmps70
        go_wp2_with fail
        refine (zak n1 d1 t1 _).mono ?_
        rintro e w1 ⟨rfl, hb1⟩
        obtain ⟨hc1, hf1⟩ := bcell hb1
        have B1 : Below w.heap.size w w1 := zai (by go_grown) (Nat.le_refl _) hb1
        have z1 : w.heap.size ≤ w1.heap.size := B1.size
        have y1_0 : w.heap.size < w1.heap.size := by have := hb1.size; (try simp at this); omega
        have y1_1 : w.heap.size + 1 < w1.heap.size := by have := hb1.size; (try simp at this); omega
        have k1_0_0 : w1.cell? ⟨w.heap.size, 0, none⟩ = some (.int .i64 n1) := by rw [hc1 _ _ (by (try simp); (try omega))]; go_simp
        have k1_0_1 : w1.cell? ⟨w.heap.size, 1, none⟩ = some (.int .i64 d1) := by rw [hc1 _ _ (by (try simp); (try omega))]; go_simp
        have k1_0_2 : w1.cell? ⟨w.heap.size, 2, none⟩ = some (.string t1) := by rw [hc1 _ _ (by (try simp); (try omega))]; go_simp
        have k1_1_0 : w1.cell? ⟨w.heap.size + 1, 0, none⟩ = some (.int .i64 n2) := by rw [hc1 _ _ (by (try simp); (try omega))]; go_simp
        have k1_1_1 : w1.cell? ⟨w.heap.size + 1, 1, none⟩ = some (.int .i64 d2) := by rw [hc1 _ _ (by (try simp); (try omega))]; go_simp
        have k1_1_2 : w1.cell? ⟨w.heap.size + 1, 2, none⟩ = some (.string t2) := by rw [hc1 _ _ (by (try simp); (try omega))]; go_simp
        clear hc1
        go_wp2_with fail
        refine (zak n2 d2 t2 _).mono ?_
        rintro e w2 ⟨rfl, hb2⟩
        obtain ⟨hc2, hf2⟩ := bcell hb2
        have B2 : Below w.heap.size w w2 := zai (by go_grown) (Nat.le_refl _) hb2
        have z2 : w.heap.size ≤ w2.heap.size := B2.size
        have y2_0 : w.heap.size < w2.heap.size := by have := hb2.size; (try simp at this); omega
        have y2_1 : w.heap.size + 1 < w2.heap.size := by have := hb2.size; (try simp at this); omega
        have k2_0_0 : w2.cell? ⟨w.heap.size, 0, none⟩ = some (.int .i64 n1) := by rw [hc2 _ _ (by (try simp); (try omega))]; go_simp
        have k2_0_1 : w2.cell? ⟨w.heap.size, 1, none⟩ = some (.int .i64 d1) := by rw [hc2 _ _ (by (try simp); (try omega))]; go_simp
        have k2_0_2 : w2.cell? ⟨w.heap.size, 2, none⟩ = some (.string t1) := by rw [hc2 _ _ (by (try simp); (try omega))]; go_simp
        have k2_1_0 : w2.cell? ⟨w.heap.size + 1, 0, none⟩ = some (.int .i64 n2) := by rw [hc2 _ _ (by (try simp); (try omega))]; go_simp
        have k2_1_1 : w2.cell? ⟨w.heap.size + 1, 1, none⟩ = some (.int .i64 d2) := by rw [hc2 _ _ (by (try simp); (try omega))]; go_simp
        have k2_1_2 : w2.cell? ⟨w.heap.size + 1, 2, none⟩ = some (.string t2) := by rw [hc2 _ _ (by (try simp); (try omega))]; go_simp
        clear hc2
        go_wp2_with fail
        all_goals (go_ret; exact ⟨zat (by rw [HM.out] <;> (have := hc5.out; omega)), B2⟩)

theorem spec_cmp (n1 d1 n2 d2 : Int) (t1 t2 : ByteArray) (w : World) :
    Calls Tryz.prog 81 #[.agg #[.int .i64 n1, .int .i64 d1, .string t1], .agg #[.int .i64 n2, .int .i64 d2, .string t2]] w fun e w' => e = .returned (.int .i64 (cmpI n1 d1 t1 n2 d2 t2)) ∧ Below w.heap.size w w' := by
  cases h1 : zas n1 d1 t1
  · have HM := Lib.hid (show cmpI n1 d1 t1 n2 d2 t2 = 2 by simp [cmpI, h1])
    go_enter Tryz.func81, Tryz.ntmps81
    go_wp2_with fail
    refine (zam n1 d1 t1 _).mono ?_
    rintro e w1 ⟨rfl, hb1⟩
    obtain ⟨hc1, hf1⟩ := bcell hb1
    have B1 : Below w.heap.size w w1 := zai (by go_grown) (Nat.le_refl _) hb1
    have z1 : w.heap.size ≤ w1.heap.size := B1.size
    have y1_0 : w.heap.size < w1.heap.size := by have := hb1.size; (try simp at this); omega
    have y1_1 : w.heap.size + 1 < w1.heap.size := by have := hb1.size; (try simp at this); omega
    have k1_0_0 : w1.cell? ⟨w.heap.size, 0, none⟩ = some (.int .i64 n1) := by rw [hc1 _ _ (by (try simp); (try omega))]; go_simp
    have k1_0_1 : w1.cell? ⟨w.heap.size, 1, none⟩ = some (.int .i64 d1) := by rw [hc1 _ _ (by (try simp); (try omega))]; go_simp
    have k1_0_2 : w1.cell? ⟨w.heap.size, 2, none⟩ = some (.string t1) := by rw [hc1 _ _ (by (try simp); (try omega))]; go_simp
    have k1_1_0 : w1.cell? ⟨w.heap.size + 1, 0, none⟩ = some (.int .i64 n2) := by rw [hc1 _ _ (by (try simp); (try omega))]; go_simp
    have k1_1_1 : w1.cell? ⟨w.heap.size + 1, 1, none⟩ = some (.int .i64 d2) := by rw [hc1 _ _ (by (try simp); (try omega))]; go_simp
    have k1_1_2 : w1.cell? ⟨w.heap.size + 1, 2, none⟩ = some (.string t2) := by rw [hc1 _ _ (by (try simp); (try omega))]; go_simp
    clear hc1
    go_wp2_with fail
    go_ret
    exact ⟨zat HM.out.symm, B1⟩
  · cases h2 : zas n2 d2 t2
    · have HM := Lib.hid (show cmpI n1 d1 t1 n2 d2 t2 = 2 by simp [cmpI, h2])
      go_enter Tryz.func81, Tryz.ntmps81
      go_wp2_with fail
      refine (zam n1 d1 t1 _).mono ?_
      rintro e w1 ⟨rfl, hb1⟩
      obtain ⟨hc1, hf1⟩ := bcell hb1
      have B1 : Below w.heap.size w w1 := zai (by go_grown) (Nat.le_refl _) hb1
      have z1 : w.heap.size ≤ w1.heap.size := B1.size
      have y1_0 : w.heap.size < w1.heap.size := by have := hb1.size; (try simp at this); omega
      have y1_1 : w.heap.size + 1 < w1.heap.size := by have := hb1.size; (try simp at this); omega
      have k1_0_0 : w1.cell? ⟨w.heap.size, 0, none⟩ = some (.int .i64 n1) := by rw [hc1 _ _ (by (try simp); (try omega))]; go_simp
      have k1_0_1 : w1.cell? ⟨w.heap.size, 1, none⟩ = some (.int .i64 d1) := by rw [hc1 _ _ (by (try simp); (try omega))]; go_simp
      have k1_0_2 : w1.cell? ⟨w.heap.size, 2, none⟩ = some (.string t1) := by rw [hc1 _ _ (by (try simp); (try omega))]; go_simp
      have k1_1_0 : w1.cell? ⟨w.heap.size + 1, 0, none⟩ = some (.int .i64 n2) := by rw [hc1 _ _ (by (try simp); (try omega))]; go_simp
      have k1_1_1 : w1.cell? ⟨w.heap.size + 1, 1, none⟩ = some (.int .i64 d2) := by rw [hc1 _ _ (by (try simp); (try omega))]; go_simp
      have k1_1_2 : w1.cell? ⟨w.heap.size + 1, 2, none⟩ = some (.string t2) := by rw [hc1 _ _ (by (try simp); (try omega))]; go_simp
      clear hc1
      go_wp2_with fail
      refine (zam n2 d2 t2 _).mono ?_
      rintro e w2 ⟨rfl, hb2⟩
      obtain ⟨hc2, hf2⟩ := bcell hb2
      have B2 : Below w.heap.size w w2 := zai (by go_grown) (Nat.le_refl _) hb2
      have z2 : w.heap.size ≤ w2.heap.size := B2.size
      have y2_0 : w.heap.size < w2.heap.size := by have := hb2.size; (try simp at this); omega
      have y2_1 : w.heap.size + 1 < w2.heap.size := by have := hb2.size; (try simp at this); omega
      have k2_0_0 : w2.cell? ⟨w.heap.size, 0, none⟩ = some (.int .i64 n1) := by rw [hc2 _ _ (by (try simp); (try omega))]; go_simp
      have k2_0_1 : w2.cell? ⟨w.heap.size, 1, none⟩ = some (.int .i64 d1) := by rw [hc2 _ _ (by (try simp); (try omega))]; go_simp
      have k2_0_2 : w2.cell? ⟨w.heap.size, 2, none⟩ = some (.string t1) := by rw [hc2 _ _ (by (try simp); (try omega))]; go_simp
      have k2_1_0 : w2.cell? ⟨w.heap.size + 1, 0, none⟩ = some (.int .i64 n2) := by rw [hc2 _ _ (by (try simp); (try omega))]; go_simp
      have k2_1_1 : w2.cell? ⟨w.heap.size + 1, 1, none⟩ = some (.int .i64 d2) := by rw [hc2 _ _ (by (try simp); (try omega))]; go_simp
      have k2_1_2 : w2.cell? ⟨w.heap.size + 1, 2, none⟩ = some (.string t2) := by rw [hc2 _ _ (by (try simp); (try omega))]; go_simp
      clear hc2
      go_wp2_with fail
      go_ret
      exact ⟨zat HM.out.symm, B2⟩
    · have hM : cmpI n1 d1 t1 n2 d2 t2 = (if n1 * d2 < n2 * d1 then -1 else if n2 * d1 < n1 * d2 then 1 else 0) := by simp [cmpI, h1, h2]
      obtain ⟨a1, a2, a3, a4⟩ := zaz h1
      obtain ⟨b1, b2, b3, b4⟩ := zaz h2
      obtain ⟨m1, m2⟩ := zax (a := n1) (b := d2) (by omega) (by omega)
      obtain ⟨m3, m4⟩ := zax (a := n2) (b := d1) (by omega) (by omega)
      obtain ⟨m5, m6⟩ := zax (a := d1) (b := d2) (by omega) (by omega)
      rcases Int.lt_trichotomy (n1 * d2) (n2 * d1) with hc | hc | hc
      · have HM := Lib.hid (show cmpI n1 d1 t1 n2 d2 t2 = -1 from by rw [hM, if_pos hc])
        have c1 : n1 * d2 < n2 * d1 := by omega
        have c2 : ¬ n2 * d1 < n1 * d2 := by omega
        have c3 : n1 * d2 - n2 * d1 < 0 := by omega
        have c4 : n1 * d2 - n2 * d1 ≤ 0 := by omega
        have hc5 := Lib.hid hc
        clear hc hM
        go_enter Tryz.func81, Tryz.ntmps81
        go_wp2_with fail
        refine (zam n1 d1 t1 _).mono ?_
        rintro e w1 ⟨rfl, hb1⟩
        obtain ⟨hc1, hf1⟩ := bcell hb1
        have B1 : Below w.heap.size w w1 := zai (by go_grown) (Nat.le_refl _) hb1
        have z1 : w.heap.size ≤ w1.heap.size := B1.size
        have y1_0 : w.heap.size < w1.heap.size := by have := hb1.size; (try simp at this); omega
        have y1_1 : w.heap.size + 1 < w1.heap.size := by have := hb1.size; (try simp at this); omega
        have k1_0_0 : w1.cell? ⟨w.heap.size, 0, none⟩ = some (.int .i64 n1) := by rw [hc1 _ _ (by (try simp); (try omega))]; go_simp
        have k1_0_1 : w1.cell? ⟨w.heap.size, 1, none⟩ = some (.int .i64 d1) := by rw [hc1 _ _ (by (try simp); (try omega))]; go_simp
        have k1_0_2 : w1.cell? ⟨w.heap.size, 2, none⟩ = some (.string t1) := by rw [hc1 _ _ (by (try simp); (try omega))]; go_simp
        have k1_1_0 : w1.cell? ⟨w.heap.size + 1, 0, none⟩ = some (.int .i64 n2) := by rw [hc1 _ _ (by (try simp); (try omega))]; go_simp
        have k1_1_1 : w1.cell? ⟨w.heap.size + 1, 1, none⟩ = some (.int .i64 d2) := by rw [hc1 _ _ (by (try simp); (try omega))]; go_simp
        have k1_1_2 : w1.cell? ⟨w.heap.size + 1, 2, none⟩ = some (.string t2) := by rw [hc1 _ _ (by (try simp); (try omega))]; go_simp
        clear hc1
        go_wp2_with fail
        refine (zam n2 d2 t2 _).mono ?_
        rintro e w2 ⟨rfl, hb2⟩
        obtain ⟨hc2, hf2⟩ := bcell hb2
        have B2 : Below w.heap.size w w2 := zai (by go_grown) (Nat.le_refl _) hb2
        have z2 : w.heap.size ≤ w2.heap.size := B2.size
        have y2_0 : w.heap.size < w2.heap.size := by have := hb2.size; (try simp at this); omega
        have y2_1 : w.heap.size + 1 < w2.heap.size := by have := hb2.size; (try simp at this); omega
        have k2_0_0 : w2.cell? ⟨w.heap.size, 0, none⟩ = some (.int .i64 n1) := by rw [hc2 _ _ (by (try simp); (try omega))]; go_simp
        have k2_0_1 : w2.cell? ⟨w.heap.size, 1, none⟩ = some (.int .i64 d1) := by rw [hc2 _ _ (by (try simp); (try omega))]; go_simp
        have k2_0_2 : w2.cell? ⟨w.heap.size, 2, none⟩ = some (.string t1) := by rw [hc2 _ _ (by (try simp); (try omega))]; go_simp
        have k2_1_0 : w2.cell? ⟨w.heap.size + 1, 0, none⟩ = some (.int .i64 n2) := by rw [hc2 _ _ (by (try simp); (try omega))]; go_simp
        have k2_1_1 : w2.cell? ⟨w.heap.size + 1, 1, none⟩ = some (.int .i64 d2) := by rw [hc2 _ _ (by (try simp); (try omega))]; go_simp
        have k2_1_2 : w2.cell? ⟨w.heap.size + 1, 2, none⟩ = some (.string t2) := by rw [hc2 _ _ (by (try simp); (try omega))]; go_simp
        clear hc2
        go_wp2_with fail
        all_goals (go_ret; exact ⟨zat (by rw [HM.out] <;> (have := hc5.out; omega)), B2⟩)
      · have HM := Lib.hid (show cmpI n1 d1 t1 n2 d2 t2 = 0 from by rw [hM, if_neg (by omega), if_neg (by omega)])
        have c1 : ¬ n1 * d2 < n2 * d1 := by omega
        have c2 : ¬ n2 * d1 < n1 * d2 := by omega
        have c3 : ¬ n1 * d2 - n2 * d1 < 0 := by omega
        have c4 : n1 * d2 - n2 * d1 ≤ 0 := by omega
        have hc5 := Lib.hid hc
        clear hc hM
        go_enter Tryz.func81, Tryz.ntmps81
        go_wp2_with fail
        refine (zam n1 d1 t1 _).mono ?_
        rintro e w1 ⟨rfl, hb1⟩
        obtain ⟨hc1, hf1⟩ := bcell hb1
        have B1 : Below w.heap.size w w1 := zai (by go_grown) (Nat.le_refl _) hb1
        have z1 : w.heap.size ≤ w1.heap.size := B1.size
        have y1_0 : w.heap.size < w1.heap.size := by have := hb1.size; (try simp at this); omega
        have y1_1 : w.heap.size + 1 < w1.heap.size := by have := hb1.size; (try simp at this); omega
        have k1_0_0 : w1.cell? ⟨w.heap.size, 0, none⟩ = some (.int .i64 n1) := by rw [hc1 _ _ (by (try simp); (try omega))]; go_simp
        have k1_0_1 : w1.cell? ⟨w.heap.size, 1, none⟩ = some (.int .i64 d1) := by rw [hc1 _ _ (by (try simp); (try omega))]; go_simp
        have k1_0_2 : w1.cell? ⟨w.heap.size, 2, none⟩ = some (.string t1) := by rw [hc1 _ _ (by (try simp); (try omega))]; go_simp
        have k1_1_0 : w1.cell? ⟨w.heap.size + 1, 0, none⟩ = some (.int .i64 n2) := by rw [hc1 _ _ (by (try simp); (try omega))]; go_simp
        have k1_1_1 : w1.cell? ⟨w.heap.size + 1, 1, none⟩ = some (.int .i64 d2) := by rw [hc1 _ _ (by (try simp); (try omega))]; go_simp
        have k1_1_2 : w1.cell? ⟨w.heap.size + 1, 2, none⟩ = some (.string t2) := by rw [hc1 _ _ (by (try simp); (try omega))]; go_simp
        clear hc1
        go_wp2_with fail
        refine (zam n2 d2 t2 _).mono ?_
        rintro e w2 ⟨rfl, hb2⟩
        obtain ⟨hc2, hf2⟩ := bcell hb2
        have B2 : Below w.heap.size w w2 := zai (by go_grown) (Nat.le_refl _) hb2
        have z2 : w.heap.size ≤ w2.heap.size := B2.size
        have y2_0 : w.heap.size < w2.heap.size := by have := hb2.size; (try simp at this); omega
        have y2_1 : w.heap.size + 1 < w2.heap.size := by have := hb2.size; (try simp at this); omega
        have k2_0_0 : w2.cell? ⟨w.heap.size, 0, none⟩ = some (.int .i64 n1) := by rw [hc2 _ _ (by (try simp); (try omega))]; go_simp
        have k2_0_1 : w2.cell? ⟨w.heap.size, 1, none⟩ = some (.int .i64 d1) := by rw [hc2 _ _ (by (try simp); (try omega))]; go_simp
        have k2_0_2 : w2.cell? ⟨w.heap.size, 2, none⟩ = some (.string t1) := by rw [hc2 _ _ (by (try simp); (try omega))]; go_simp
        have k2_1_0 : w2.cell? ⟨w.heap.size + 1, 0, none⟩ = some (.int .i64 n2) := by rw [hc2 _ _ (by (try simp); (try omega))]; go_simp
        have k2_1_1 : w2.cell? ⟨w.heap.size + 1, 1, none⟩ = some (.int .i64 d2) := by rw [hc2 _ _ (by (try simp); (try omega))]; go_simp
        have k2_1_2 : w2.cell? ⟨w.heap.size + 1, 2, none⟩ = some (.string t2) := by rw [hc2 _ _ (by (try simp); (try omega))]; go_simp
        clear hc2
        go_wp2_with fail
        all_goals (go_ret; exact ⟨zat (by rw [HM.out] <;> (have := hc5.out; omega)), B2⟩)
      · have HM := Lib.hid (show cmpI n1 d1 t1 n2 d2 t2 = 1 from by rw [hM, if_neg (by omega), if_pos hc])
        have c1 : ¬ n1 * d2 < n2 * d1 := by omega
        have c2 : n2 * d1 < n1 * d2 := by omega
        have c3 : ¬ n1 * d2 - n2 * d1 < 0 := by omega
        have c4 : 1 ≤ n1 * d2 - n2 * d1 := by omega
        have hc5 := Lib.hid hc
        clear hc hM
        go_enter Tryz.func81, Tryz.ntmps81
        go_wp2_with fail
        refine (zam n1 d1 t1 _).mono ?_
        rintro e w1 ⟨rfl, hb1⟩
        obtain ⟨hc1, hf1⟩ := bcell hb1
        have B1 : Below w.heap.size w w1 := zai (by go_grown) (Nat.le_refl _) hb1
        have z1 : w.heap.size ≤ w1.heap.size := B1.size
        have y1_0 : w.heap.size < w1.heap.size := by have := hb1.size; (try simp at this); omega
        have y1_1 : w.heap.size + 1 < w1.heap.size := by have := hb1.size; (try simp at this); omega
        have k1_0_0 : w1.cell? ⟨w.heap.size, 0, none⟩ = some (.int .i64 n1) := by rw [hc1 _ _ (by (try simp); (try omega))]; go_simp
        have k1_0_1 : w1.cell? ⟨w.heap.size, 1, none⟩ = some (.int .i64 d1) := by rw [hc1 _ _ (by (try simp); (try omega))]; go_simp
        have k1_0_2 : w1.cell? ⟨w.heap.size, 2, none⟩ = some (.string t1) := by rw [hc1 _ _ (by (try simp); (try omega))]; go_simp
        have k1_1_0 : w1.cell? ⟨w.heap.size + 1, 0, none⟩ = some (.int .i64 n2) := by rw [hc1 _ _ (by (try simp); (try omega))]; go_simp
        have k1_1_1 : w1.cell? ⟨w.heap.size + 1, 1, none⟩ = some (.int .i64 d2) := by rw [hc1 _ _ (by (try simp); (try omega))]; go_simp
        have k1_1_2 : w1.cell? ⟨w.heap.size + 1, 2, none⟩ = some (.string t2) := by rw [hc1 _ _ (by (try simp); (try omega))]; go_simp
        clear hc1
        go_wp2_with fail
        refine (zam n2 d2 t2 _).mono ?_
        rintro e w2 ⟨rfl, hb2⟩
        obtain ⟨hc2, hf2⟩ := bcell hb2
        have B2 : Below w.heap.size w w2 := zai (by go_grown) (Nat.le_refl _) hb2
        have z2 : w.heap.size ≤ w2.heap.size := B2.size
        have y2_0 : w.heap.size < w2.heap.size := by have := hb2.size; (try simp at this); omega
        have y2_1 : w.heap.size + 1 < w2.heap.size := by have := hb2.size; (try simp at this); omega
        have k2_0_0 : w2.cell? ⟨w.heap.size, 0, none⟩ = some (.int .i64 n1) := by rw [hc2 _ _ (by (try simp); (try omega))]; go_simp
        have k2_0_1 : w2.cell? ⟨w.heap.size, 1, none⟩ = some (.int .i64 d1) := by rw [hc2 _ _ (by (try simp); (try omega))]; go_simp
        have k2_0_2 : w2.cell? ⟨w.heap.size, 2, none⟩ = some (.string t1) := by rw [hc2 _ _ (by (try simp); (try omega))]; go_simp
        have k2_1_0 : w2.cell? ⟨w.heap.size + 1, 0, none⟩ = some (.int .i64 n2) := by rw [hc2 _ _ (by (try simp); (try omega))]; go_simp
        have k2_1_1 : w2.cell? ⟨w.heap.size + 1, 1, none⟩ = some (.int .i64 d2) := by rw [hc2 _ _ (by (try simp); (try omega))]; go_simp
        have k2_1_2 : w2.cell? ⟨w.heap.size + 1, 2, none⟩ = some (.string t2) := by rw [hc2 _ _ (by (try simp); (try omega))]; go_simp
        clear hc2
        go_wp2_with fail
        all_goals (go_ret; exact ⟨zat (by rw [HM.out] <;> (have := hc5.out; omega)), B2⟩)

end Go.Proofs.YtmofcbpabdbjlaaGreat
