/-
  What is proved: what the functions on numbers (negate, add, subtract, multiply, divide, floor, round, compare, quotient, remainder, of the program and of the reference) return.
  Condition: items of 64-bit ints.
-/
import Derived.Test.YtmofcbpabdbjlaaGreatMz22
namespace Go.Proofs.YtmofcbpabdbjlaaGreat

set_option maxRecDepth 8000

open Go.RowKit

set_option linter.unusedVariables false

set_option linter.unusedSimpArgs false

theorem impl_add (n1 d1 n2 d2 : Int) (t1 t2 : ByteArray) (w : World) :
    Calls Tryz.prog 57 #[.agg #[.int .i64 n1, .int .i64 d1, .string t1], .agg #[.int .i64 n2, .int .i64 d2, .string t2]] w fun e w' =>
      e = .returned (.agg #[.int .i64 (addI n1 d1 t1 n2 d2 t2).1, .int .i64 (addI n1 d1 t1 n2 d2 t2).2, .string ⟨#[]⟩]) ∧ Below w.heap.size w w' := by
  cases h1 : zas n1 d1 t1
  · have HM := Lib.hid (show addI n1 d1 t1 n2 d2 t2 = (0, 0) from op2_no1 h1)
    go_enter Tryz.func57, Tryz.ntmps57
    go_wp2_with fail
    refine (zak n1 d1 t1 _).mono ?_
    rintro e w1 ⟨rfl, hb1⟩
    obtain ⟨hc1, hf1⟩ := bcell hb1
    have B1 : Below w.heap.size w w1 := zai (by go_grown) (Nat.le_refl _) hb1
    have z1 : w.heap.size ≤ w1.heap.size := B1.size
    have y1_0 : w.heap.size < w1.heap.size := by have := hb1.size; (try simp at this); omega
    have y1_1 : w.heap.size + 1 < w1.heap.size := by have := hb1.size; (try simp at this); omega
    have y1_2 : w.heap.size + 2 < w1.heap.size := by have := hb1.size; (try simp at this); omega
    have k1_0_0 : w1.cell? ⟨w.heap.size, 0, none⟩ = some (.int .i64 n1) := by rw [hc1 _ _ (by (try simp); (try omega))]; go_simp
    have k1_0_1 : w1.cell? ⟨w.heap.size, 1, none⟩ = some (.int .i64 d1) := by rw [hc1 _ _ (by (try simp); (try omega))]; go_simp
    have k1_0_2 : w1.cell? ⟨w.heap.size, 2, none⟩ = some (.string t1) := by rw [hc1 _ _ (by (try simp); (try omega))]; go_simp
    have k1_1_0 : w1.cell? ⟨w.heap.size + 1, 0, none⟩ = some (.int .i64 n2) := by rw [hc1 _ _ (by (try simp); (try omega))]; go_simp
    have k1_1_1 : w1.cell? ⟨w.heap.size + 1, 1, none⟩ = some (.int .i64 d2) := by rw [hc1 _ _ (by (try simp); (try omega))]; go_simp
    have k1_1_2 : w1.cell? ⟨w.heap.size + 1, 2, none⟩ = some (.string t2) := by rw [hc1 _ _ (by (try simp); (try omega))]; go_simp
    have k1_2_0 : w1.cell? ⟨w.heap.size + 2, 0, none⟩ = some (.int .i64 0) := by rw [hc1 _ _ (by (try simp); (try omega))]; go_simp
    have k1_2_1 : w1.cell? ⟨w.heap.size + 2, 1, none⟩ = some (.int .i64 0) := by rw [hc1 _ _ (by (try simp); (try omega))]; go_simp
    have k1_2_2 : w1.cell? ⟨w.heap.size + 2, 2, none⟩ = some (.string ⟨#[]⟩) := by rw [hc1 _ _ (by (try simp); (try omega))]; go_simp
    clear hc1
    go_wp2_with fail
    exact bodyPost_ret (v := .agg #[.int .i64 0, .int .i64 0, .string ⟨#[]⟩]) (by simp [results, Tryz.results57, go_sem, *]) rfl ⟨zar HM.out, by go_grown⟩
  · cases h2 : zas n2 d2 t2
    · have HM := Lib.hid (show addI n1 d1 t1 n2 d2 t2 = (0, 0) from zbl h2)
      go_enter Tryz.func57, Tryz.ntmps57
      go_wp2_with fail
      refine (zak n1 d1 t1 _).mono ?_
      rintro e w1 ⟨rfl, hb1⟩
      obtain ⟨hc1, hf1⟩ := bcell hb1
      have B1 : Below w.heap.size w w1 := zai (by go_grown) (Nat.le_refl _) hb1
      have z1 : w.heap.size ≤ w1.heap.size := B1.size
      have y1_0 : w.heap.size < w1.heap.size := by have := hb1.size; (try simp at this); omega
      have y1_1 : w.heap.size + 1 < w1.heap.size := by have := hb1.size; (try simp at this); omega
      have y1_2 : w.heap.size + 2 < w1.heap.size := by have := hb1.size; (try simp at this); omega
      have k1_0_0 : w1.cell? ⟨w.heap.size, 0, none⟩ = some (.int .i64 n1) := by rw [hc1 _ _ (by (try simp); (try omega))]; go_simp
      have k1_0_1 : w1.cell? ⟨w.heap.size, 1, none⟩ = some (.int .i64 d1) := by rw [hc1 _ _ (by (try simp); (try omega))]; go_simp
      have k1_0_2 : w1.cell? ⟨w.heap.size, 2, none⟩ = some (.string t1) := by rw [hc1 _ _ (by (try simp); (try omega))]; go_simp
      have k1_1_0 : w1.cell? ⟨w.heap.size + 1, 0, none⟩ = some (.int .i64 n2) := by rw [hc1 _ _ (by (try simp); (try omega))]; go_simp
      have k1_1_1 : w1.cell? ⟨w.heap.size + 1, 1, none⟩ = some (.int .i64 d2) := by rw [hc1 _ _ (by (try simp); (try omega))]; go_simp
      have k1_1_2 : w1.cell? ⟨w.heap.size + 1, 2, none⟩ = some (.string t2) := by rw [hc1 _ _ (by (try simp); (try omega))]; go_simp
      have k1_2_0 : w1.cell? ⟨w.heap.size + 2, 0, none⟩ = some (.int .i64 0) := by rw [hc1 _ _ (by (try simp); (try omega))]; go_simp
      have k1_2_1 : w1.cell? ⟨w.heap.size + 2, 1, none⟩ = some (.int .i64 0) := by rw [hc1 _ _ (by (try simp); (try omega))]; go_simp
      have k1_2_2 : w1.cell? ⟨w.heap.size + 2, 2, none⟩ = some (.string ⟨#[]⟩) := by rw [hc1 _ _ (by (try simp); (try omega))]; go_simp
      clear hc1
      go_wp2_with fail
      refine (zak n2 d2 t2 _).mono ?_
      rintro e w2 ⟨rfl, hb2⟩
      obtain ⟨hc2, hf2⟩ := bcell hb2
      have B2 : Below w.heap.size w w2 := zai (by go_grown) (Nat.le_refl _) hb2
      have z2 : w.heap.size ≤ w2.heap.size := B2.size
      have y2_0 : w.heap.size < w2.heap.size := by have := hb2.size; (try simp at this); omega
      have y2_1 : w.heap.size + 1 < w2.heap.size := by have := hb2.size; (try simp at this); omega
      have y2_2 : w.heap.size + 2 < w2.heap.size := by have := hb2.size; (try simp at this); omega
      have k2_0_0 : w2.cell? ⟨w.heap.size, 0, none⟩ = some (.int .i64 n1) := by rw [hc2 _ _ (by (try simp); (try omega))]; go_simp
      have k2_0_1 : w2.cell? ⟨w.heap.size, 1, none⟩ = some (.int .i64 d1) := by rw [hc2 _ _ (by (try simp); (try omega))]; go_simp
      have k2_0_2 : w2.cell? ⟨w.heap.size, 2, none⟩ = some (.string t1) := by rw [hc2 _ _ (by (try simp); (try omega))]; go_simp
      have k2_1_0 : w2.cell? ⟨w.heap.size + 1, 0, none⟩ = some (.int .i64 n2) := by rw [hc2 _ _ (by (try simp); (try omega))]; go_simp
      have k2_1_1 : w2.cell? ⟨w.heap.size + 1, 1, none⟩ = some (.int .i64 d2) := by rw [hc2 _ _ (by (try simp); (try omega))]; go_simp
      have k2_1_2 : w2.cell? ⟨w.heap.size + 1, 2, none⟩ = some (.string t2) := by rw [hc2 _ _ (by (try simp); (try omega))]; go_simp
      have k2_2_0 : w2.cell? ⟨w.heap.size + 2, 0, none⟩ = some (.int .i64 0) := by rw [hc2 _ _ (by (try simp); (try omega))]; go_simp
      have k2_2_1 : w2.cell? ⟨w.heap.size + 2, 1, none⟩ = some (.int .i64 0) := by rw [hc2 _ _ (by (try simp); (try omega))]; go_simp
      have k2_2_2 : w2.cell? ⟨w.heap.size + 2, 2, none⟩ = some (.string ⟨#[]⟩) := by rw [hc2 _ _ (by (try simp); (try omega))]; go_simp
      clear hc2
      go_wp2_with fail
      exact bodyPost_ret (v := .agg #[.int .i64 0, .int .i64 0, .string ⟨#[]⟩]) (by simp [results, Tryz.results57, go_sem, *]) rfl ⟨zar HM.out, by go_grown⟩
    · have hyes := op2_yes (r := Nm.mk (n1 * d2 + n2 * d1) (d1 * d2)) h1 h2
      obtain ⟨a1, a2, a3, a4⟩ := zaz h1
      obtain ⟨b1, b2, b3, b4⟩ := zaz h2
      obtain ⟨m1, m2⟩ := zax (a := n1) (b := d2) (by omega) (by omega)
      obtain ⟨m3, m4⟩ := zax (a := n2) (b := d1) (by omega) (by omega)
      obtain ⟨m5, m6⟩ := zax (a := d1) (b := d2) (by omega) (by omega)
      obtain ⟨m7, m8⟩ := zax (a := n1) (b := n2) (by omega) (by omega)
      obtain ⟨m9, m10⟩ := zax (a := d1) (b := n2) (by omega) (by omega)
      have HM := Lib.hid (show addI n1 d1 t1 n2 d2 t2 = _ from hyes)
      clear hyes
      go_enter Tryz.func57, Tryz.ntmps57
      go_wp2_with fail
      refine (zak n1 d1 t1 _).mono ?_
      rintro e w1 ⟨rfl, hb1⟩
      obtain ⟨hc1, hf1⟩ := bcell hb1
      have B1 : Below w.heap.size w w1 := zai (by go_grown) (Nat.le_refl _) hb1
      have z1 : w.heap.size ≤ w1.heap.size := B1.size
      have y1_0 : w.heap.size < w1.heap.size := by have := hb1.size; (try simp at this); omega
      have y1_1 : w.heap.size + 1 < w1.heap.size := by have := hb1.size; (try simp at this); omega
      have y1_2 : w.heap.size + 2 < w1.heap.size := by have := hb1.size; (try simp at this); omega
      have k1_0_0 : w1.cell? ⟨w.heap.size, 0, none⟩ = some (.int .i64 n1) := by rw [hc1 _ _ (by (try simp); (try omega))]; go_simp
      have k1_0_1 : w1.cell? ⟨w.heap.size, 1, none⟩ = some (.int .i64 d1) := by rw [hc1 _ _ (by (try simp); (try omega))]; go_simp
      have k1_0_2 : w1.cell? ⟨w.heap.size, 2, none⟩ = some (.string t1) := by rw [hc1 _ _ (by (try simp); (try omega))]; go_simp
      have k1_1_0 : w1.cell? ⟨w.heap.size + 1, 0, none⟩ = some (.int .i64 n2) := by rw [hc1 _ _ (by (try simp); (try omega))]; go_simp
      have k1_1_1 : w1.cell? ⟨w.heap.size + 1, 1, none⟩ = some (.int .i64 d2) := by rw [hc1 _ _ (by (try simp); (try omega))]; go_simp
      have k1_1_2 : w1.cell? ⟨w.heap.size + 1, 2, none⟩ = some (.string t2) := by rw [hc1 _ _ (by (try simp); (try omega))]; go_simp
      have k1_2_0 : w1.cell? ⟨w.heap.size + 2, 0, none⟩ = some (.int .i64 0) := by rw [hc1 _ _ (by (try simp); (try omega))]; go_simp
      have k1_2_1 : w1.cell? ⟨w.heap.size + 2, 1, none⟩ = some (.int .i64 0) := by rw [hc1 _ _ (by (try simp); (try omega))]; go_simp
      have k1_2_2 : w1.cell? ⟨w.heap.size + 2, 2, none⟩ = some (.string ⟨#[]⟩) := by rw [hc1 _ _ (by (try simp); (try omega))]; go_simp
      clear hc1
      go_wp2_with fail
      refine (zak n2 d2 t2 _).mono ?_
      rintro e w2 ⟨rfl, hb2⟩
      obtain ⟨hc2, hf2⟩ := bcell hb2
      have B2 : Below w.heap.size w w2 := zai (by go_grown) (Nat.le_refl _) hb2
      have z2 : w.heap.size ≤ w2.heap.size := B2.size
      have y2_0 : w.heap.size < w2.heap.size := by have := hb2.size; (try simp at this); omega
      have y2_1 : w.heap.size + 1 < w2.heap.size := by have := hb2.size; (try simp at this); omega
      have y2_2 : w.heap.size + 2 < w2.heap.size := by have := hb2.size; (try simp at this); omega
      have k2_0_0 : w2.cell? ⟨w.heap.size, 0, none⟩ = some (.int .i64 n1) := by rw [hc2 _ _ (by (try simp); (try omega))]; go_simp
      have k2_0_1 : w2.cell? ⟨w.heap.size, 1, none⟩ = some (.int .i64 d1) := by rw [hc2 _ _ (by (try simp); (try omega))]; go_simp
      have k2_0_2 : w2.cell? ⟨w.heap.size, 2, none⟩ = some (.string t1) := by rw [hc2 _ _ (by (try simp); (try omega))]; go_simp
      have k2_1_0 : w2.cell? ⟨w.heap.size + 1, 0, none⟩ = some (.int .i64 n2) := by rw [hc2 _ _ (by (try simp); (try omega))]; go_simp
      have k2_1_1 : w2.cell? ⟨w.heap.size + 1, 1, none⟩ = some (.int .i64 d2) := by rw [hc2 _ _ (by (try simp); (try omega))]; go_simp
      have k2_1_2 : w2.cell? ⟨w.heap.size + 1, 2, none⟩ = some (.string t2) := by rw [hc2 _ _ (by (try simp); (try omega))]; go_simp
      have k2_2_0 : w2.cell? ⟨w.heap.size + 2, 0, none⟩ = some (.int .i64 0) := by rw [hc2 _ _ (by (try simp); (try omega))]; go_simp
      have k2_2_1 : w2.cell? ⟨w.heap.size + 2, 1, none⟩ = some (.int .i64 0) := by rw [hc2 _ _ (by (try simp); (try omega))]; go_simp
      have k2_2_2 : w2.cell? ⟨w.heap.size + 2, 2, none⟩ = some (.string ⟨#[]⟩) := by rw [hc2 _ _ (by (try simp); (try omega))]; go_simp
      clear hc2
      go_wp2_with fail
      refine (impl_make (n1 * d2 + n2 * d1) (d1 * d2) _ (by omega) (by omega)).mono ?_
      rintro e w3 ⟨rfl, hb3⟩
      obtain ⟨hc3, hf3⟩ := bcell hb3
      have B3 : Below w.heap.size w w3 := zai (by go_grown) (Nat.le_refl _) hb3
      have z3 : w.heap.size ≤ w3.heap.size := B3.size
      have y3_0 : w.heap.size < w3.heap.size := by have := hb3.size; (try simp at this); omega
      have y3_1 : w.heap.size + 1 < w3.heap.size := by have := hb3.size; (try simp at this); omega
      have y3_2 : w.heap.size + 2 < w3.heap.size := by have := hb3.size; (try simp at this); omega
      have k3_0_0 : w3.cell? ⟨w.heap.size, 0, none⟩ = some (.int .i64 n1) := by rw [hc3 _ _ (by (try simp); (try omega))]; go_simp
      have k3_0_1 : w3.cell? ⟨w.heap.size, 1, none⟩ = some (.int .i64 d1) := by rw [hc3 _ _ (by (try simp); (try omega))]; go_simp
      have k3_0_2 : w3.cell? ⟨w.heap.size, 2, none⟩ = some (.string t1) := by rw [hc3 _ _ (by (try simp); (try omega))]; go_simp
      have k3_1_0 : w3.cell? ⟨w.heap.size + 1, 0, none⟩ = some (.int .i64 n2) := by rw [hc3 _ _ (by (try simp); (try omega))]; go_simp
      have k3_1_1 : w3.cell? ⟨w.heap.size + 1, 1, none⟩ = some (.int .i64 d2) := by rw [hc3 _ _ (by (try simp); (try omega))]; go_simp
      have k3_1_2 : w3.cell? ⟨w.heap.size + 1, 2, none⟩ = some (.string t2) := by rw [hc3 _ _ (by (try simp); (try omega))]; go_simp
      have k3_2_0 : w3.cell? ⟨w.heap.size + 2, 0, none⟩ = some (.int .i64 0) := by rw [hc3 _ _ (by (try simp); (try omega))]; go_simp
      have k3_2_1 : w3.cell? ⟨w.heap.size + 2, 1, none⟩ = some (.int .i64 0) := by rw [hc3 _ _ (by (try simp); (try omega))]; go_simp
      have k3_2_2 : w3.cell? ⟨w.heap.size + 2, 2, none⟩ = some (.string ⟨#[]⟩) := by rw [hc3 _ _ (by (try simp); (try omega))]; go_simp
      clear hc3
      go_wp2_with fail
      exact bodyPost_ret (v := .agg #[.int .i64 (Nm.mk (n1 * d2 + n2 * d1) (d1 * d2)).1, .int .i64 (Nm.mk (n1 * d2 + n2 * d1) (d1 * d2)).2, .string ⟨#[]⟩]) (by simp [results, Tryz.results57, go_sem, *]) rfl ⟨zar HM.out, by go_grown⟩

theorem impl_mul (n1 d1 n2 d2 : Int) (t1 t2 : ByteArray) (w : World) :
    Calls Tryz.prog 59 #[.agg #[.int .i64 n1, .int .i64 d1, .string t1], .agg #[.int .i64 n2, .int .i64 d2, .string t2]] w fun e w' =>
      e = .returned (.agg #[.int .i64 (mulI n1 d1 t1 n2 d2 t2).1, .int .i64 (mulI n1 d1 t1 n2 d2 t2).2, .string ⟨#[]⟩]) ∧ Below w.heap.size w w' := by
  cases h1 : zas n1 d1 t1
  · have HM := Lib.hid (show mulI n1 d1 t1 n2 d2 t2 = (0, 0) from op2_no1 h1)
    go_enter Tryz.func59, Tryz.ntmps59
    go_wp2_with fail
    refine (zak n1 d1 t1 _).mono ?_
    rintro e w1 ⟨rfl, hb1⟩
    obtain ⟨hc1, hf1⟩ := bcell hb1
    have B1 : Below w.heap.size w w1 := zai (by go_grown) (Nat.le_refl _) hb1
    have z1 : w.heap.size ≤ w1.heap.size := B1.size
    have y1_0 : w.heap.size < w1.heap.size := by have := hb1.size; (try simp at this); omega
    have y1_1 : w.heap.size + 1 < w1.heap.size := by have := hb1.size; (try simp at this); omega
    have y1_2 : w.heap.size + 2 < w1.heap.size := by have := hb1.size; (try simp at this); omega
    have k1_0_0 : w1.cell? ⟨w.heap.size, 0, none⟩ = some (.int .i64 n1) := by rw [hc1 _ _ (by (try simp); (try omega))]; go_simp
    have k1_0_1 : w1.cell? ⟨w.heap.size, 1, none⟩ = some (.int .i64 d1) := by rw [hc1 _ _ (by (try simp); (try omega))]; go_simp
    have k1_0_2 : w1.cell? ⟨w.heap.size, 2, none⟩ = some (.string t1) := by rw [hc1 _ _ (by (try simp); (try omega))]; go_simp
    have k1_1_0 : w1.cell? ⟨w.heap.size + 1, 0, none⟩ = some (.int .i64 n2) := by rw [hc1 _ _ (by (try simp); (try omega))]; go_simp
    have k1_1_1 : w1.cell? ⟨w.heap.size + 1, 1, none⟩ = some (.int .i64 d2) := by rw [hc1 _ _ (by (try simp); (try omega))]; go_simp
    have k1_1_2 : w1.cell? ⟨w.heap.size + 1, 2, none⟩ = some (.string t2) := by rw [hc1 _ _ (by (try simp); (try omega))]; go_simp
    have k1_2_0 : w1.cell? ⟨w.heap.size + 2, 0, none⟩ = some (.int .i64 0) := by rw [hc1 _ _ (by (try simp); (try omega))]; go_simp
    have k1_2_1 : w1.cell? ⟨w.heap.size + 2, 1, none⟩ = some (.int .i64 0) := by rw [hc1 _ _ (by (try simp); (try omega))]; go_simp
    have k1_2_2 : w1.cell? ⟨w.heap.size + 2, 2, none⟩ = some (.string ⟨#[]⟩) := by rw [hc1 _ _ (by (try simp); (try omega))]; go_simp
    clear hc1
    go_wp2_with fail
    exact bodyPost_ret (v := .agg #[.int .i64 0, .int .i64 0, .string ⟨#[]⟩]) (by simp [results, Tryz.results59, go_sem, *]) rfl ⟨zar HM.out, by go_grown⟩
  · cases h2 : zas n2 d2 t2
    · have HM := Lib.hid (show mulI n1 d1 t1 n2 d2 t2 = (0, 0) from zbl h2)
      go_enter Tryz.func59, Tryz.ntmps59
      go_wp2_with fail
      refine (zak n1 d1 t1 _).mono ?_
      rintro e w1 ⟨rfl, hb1⟩
      obtain ⟨hc1, hf1⟩ := bcell hb1
      have B1 : Below w.heap.size w w1 := zai (by go_grown) (Nat.le_refl _) hb1
      have z1 : w.heap.size ≤ w1.heap.size := B1.size
      have y1_0 : w.heap.size < w1.heap.size := by have := hb1.size; (try simp at this); omega
      have y1_1 : w.heap.size + 1 < w1.heap.size := by have := hb1.size; (try simp at this); omega
      have y1_2 : w.heap.size + 2 < w1.heap.size := by have := hb1.size; (try simp at this); omega
      have k1_0_0 : w1.cell? ⟨w.heap.size, 0, none⟩ = some (.int .i64 n1) := by rw [hc1 _ _ (by (try simp); (try omega))]; go_simp
      have k1_0_1 : w1.cell? ⟨w.heap.size, 1, none⟩ = some (.int .i64 d1) := by rw [hc1 _ _ (by (try simp); (try omega))]; go_simp
      have k1_0_2 : w1.cell? ⟨w.heap.size, 2, none⟩ = some (.string t1) := by rw [hc1 _ _ (by (try simp); (try omega))]; go_simp
      have k1_1_0 : w1.cell? ⟨w.heap.size + 1, 0, none⟩ = some (.int .i64 n2) := by rw [hc1 _ _ (by (try simp); (try omega))]; go_simp
      have k1_1_1 : w1.cell? ⟨w.heap.size + 1, 1, none⟩ = some (.int .i64 d2) := by rw [hc1 _ _ (by (try simp); (try omega))]; go_simp
      have k1_1_2 : w1.cell? ⟨w.heap.size + 1, 2, none⟩ = some (.string t2) := by rw [hc1 _ _ (by (try simp); (try omega))]; go_simp
      have k1_2_0 : w1.cell? ⟨w.heap.size + 2, 0, none⟩ = some (.int .i64 0) := by rw [hc1 _ _ (by (try simp); (try omega))]; go_simp
      have k1_2_1 : w1.cell? ⟨w.heap.size + 2, 1, none⟩ = some (.int .i64 0) := by rw [hc1 _ _ (by (try simp); (try omega))]; go_simp
      have k1_2_2 : w1.cell? ⟨w.heap.size + 2, 2, none⟩ = some (.string ⟨#[]⟩) := by rw [hc1 _ _ (by (try simp); (try omega))]; go_simp
      clear hc1
      go_wp2_with fail
      refine (zak n2 d2 t2 _).mono ?_
      rintro e w2 ⟨rfl, hb2⟩
      obtain ⟨hc2, hf2⟩ := bcell hb2
      have B2 : Below w.heap.size w w2 := zai (by go_grown) (Nat.le_refl _) hb2
      have z2 : w.heap.size ≤ w2.heap.size := B2.size
      have y2_0 : w.heap.size < w2.heap.size := by have := hb2.size; (try simp at this); omega
      have y2_1 : w.heap.size + 1 < w2.heap.size := by have := hb2.size; (try simp at this); omega
      have y2_2 : w.heap.size + 2 < w2.heap.size := by have := hb2.size; (try simp at this); omega
      have k2_0_0 : w2.cell? ⟨w.heap.size, 0, none⟩ = some (.int .i64 n1) := by rw [hc2 _ _ (by (try simp); (try omega))]; go_simp
      have k2_0_1 : w2.cell? ⟨w.heap.size, 1, none⟩ = some (.int .i64 d1) := by rw [hc2 _ _ (by (try simp); (try omega))]; go_simp
      have k2_0_2 : w2.cell? ⟨w.heap.size, 2, none⟩ = some (.string t1) := by rw [hc2 _ _ (by (try simp); (try omega))]; go_simp
      have k2_1_0 : w2.cell? ⟨w.heap.size + 1, 0, none⟩ = some (.int .i64 n2) := by rw [hc2 _ _ (by (try simp); (try omega))]; go_simp
      have k2_1_1 : w2.cell? ⟨w.heap.size + 1, 1, none⟩ = some (.int .i64 d2) := by rw [hc2 _ _ (by (try simp); (try omega))]; go_simp
      have k2_1_2 : w2.cell? ⟨w.heap.size + 1, 2, none⟩ = some (.string t2) := by rw [hc2 _ _ (by (try simp); (try omega))]; go_simp
      have k2_2_0 : w2.cell? ⟨w.heap.size + 2, 0, none⟩ = some (.int .i64 0) := by rw [hc2 _ _ (by (try simp); (try omega))]; go_simp
      have k2_2_1 : w2.cell? ⟨w.heap.size + 2, 1, none⟩ = some (.int .i64 0) := by rw [hc2 _ _ (by (try simp); (try omega))]; go_simp
      have k2_2_2 : w2.cell? ⟨w.heap.size + 2, 2, none⟩ = some (.string ⟨#[]⟩) := by rw [hc2 _ _ (by (try simp); (try omega))]; go_simp
      clear hc2
      go_wp2_with fail
      exact bodyPost_ret (v := .agg #[.int .i64 0, .int .i64 0, .string ⟨#[]⟩]) (by simp [results, Tryz.results59, go_sem, *]) rfl ⟨zar HM.out, by go_grown⟩
    · have hyes := op2_yes (r := Nm.mk (n1 * n2) (d1 * d2)) h1 h2
      obtain ⟨a1, a2, a3, a4⟩ := zaz h1
      obtain ⟨b1, b2, b3, b4⟩ := zaz h2
      obtain ⟨m1, m2⟩ := zax (a := n1) (b := d2) (by omega) (by omega)
      obtain ⟨m3, m4⟩ := zax (a := n2) (b := d1) (by omega) (by omega)
      obtain ⟨m5, m6⟩ := zax (a := d1) (b := d2) (by omega) (by omega)
      obtain ⟨m7, m8⟩ := zax (a := n1) (b := n2) (by omega) (by omega)
      obtain ⟨m9, m10⟩ := zax (a := d1) (b := n2) (by omega) (by omega)
      have HM := Lib.hid (show mulI n1 d1 t1 n2 d2 t2 = _ from hyes)
      clear hyes
      go_enter Tryz.func59, Tryz.ntmps59
      go_wp2_with fail
      refine (zak n1 d1 t1 _).mono ?_
      rintro e w1 ⟨rfl, hb1⟩
      obtain ⟨hc1, hf1⟩ := bcell hb1
      have B1 : Below w.heap.size w w1 := zai (by go_grown) (Nat.le_refl _) hb1
      have z1 : w.heap.size ≤ w1.heap.size := B1.size
      have y1_0 : w.heap.size < w1.heap.size := by have := hb1.size; (try simp at this); omega
      have y1_1 : w.heap.size + 1 < w1.heap.size := by have := hb1.size; (try simp at this); omega
      have y1_2 : w.heap.size + 2 < w1.heap.size := by have := hb1.size; (try simp at this); omega
      have k1_0_0 : w1.cell? ⟨w.heap.size, 0, none⟩ = some (.int .i64 n1) := by rw [hc1 _ _ (by (try simp); (try omega))]; go_simp
      have k1_0_1 : w1.cell? ⟨w.heap.size, 1, none⟩ = some (.int .i64 d1) := by rw [hc1 _ _ (by (try simp); (try omega))]; go_simp
      have k1_0_2 : w1.cell? ⟨w.heap.size, 2, none⟩ = some (.string t1) := by rw [hc1 _ _ (by (try simp); (try omega))]; go_simp
      have k1_1_0 : w1.cell? ⟨w.heap.size + 1, 0, none⟩ = some (.int .i64 n2) := by rw [hc1 _ _ (by (try simp); (try omega))]; go_simp
      have k1_1_1 : w1.cell? ⟨w.heap.size + 1, 1, none⟩ = some (.int .i64 d2) := by rw [hc1 _ _ (by (try simp); (try omega))]; go_simp
      have k1_1_2 : w1.cell? ⟨w.heap.size + 1, 2, none⟩ = some (.string t2) := by rw [hc1 _ _ (by (try simp); (try omega))]; go_simp
      have k1_2_0 : w1.cell? ⟨w.heap.size + 2, 0, none⟩ = some (.int .i64 0) := by rw [hc1 _ _ (by (try simp); (try omega))]; go_simp
      have k1_2_1 : w1.cell? ⟨w.heap.size + 2, 1, none⟩ = some (.int .i64 0) := by rw [hc1 _ _ (by (try simp); (try omega))]; go_simp
      have k1_2_2 : w1.cell? ⟨w.heap.size + 2, 2, none⟩ = some (.string ⟨#[]⟩) := by rw [hc1 _ _ (by (try simp); (try omega))]; go_simp
      clear hc1
      go_wp2_with fail
      refine (zak n2 d2 t2 _).mono ?_
      rintro e w2 ⟨rfl, hb2⟩
      obtain ⟨hc2, hf2⟩ := bcell hb2
      have B2 : Below w.heap.size w w2 := zai (by go_grown) (Nat.le_refl _) hb2
      have z2 : w.heap.size ≤ w2.heap.size := B2.size
      have y2_0 : w.heap.size < w2.heap.size := by have := hb2.size; (try simp at this); omega
      have y2_1 : w.heap.size + 1 < w2.heap.size := by have := hb2.size; (try simp at this); omega
      have y2_2 : w.heap.size + 2 < w2.heap.size := by have := hb2.size; (try simp at this); omega
      have k2_0_0 : w2.cell? ⟨w.heap.size, 0, none⟩ = some (.int .i64 n1) := by rw [hc2 _ _ (by (try simp); (try omega))]; go_simp
      have k2_0_1 : w2.cell? ⟨w.heap.size, 1, none⟩ = some (.int .i64 d1) := by rw [hc2 _ _ (by (try simp); (try omega))]; go_simp
      have k2_0_2 : w2.cell? ⟨w.heap.size, 2, none⟩ = some (.string t1) := by rw [hc2 _ _ (by (try simp); (try omega))]; go_simp
      have k2_1_0 : w2.cell? ⟨w.heap.size + 1, 0, none⟩ = some (.int .i64 n2) := by rw [hc2 _ _ (by (try simp); (try omega))]; go_simp
      have k2_1_1 : w2.cell? ⟨w.heap.size + 1, 1, none⟩ = some (.int .i64 d2) := by rw [hc2 _ _ (by (try simp); (try omega))]; go_simp
      have k2_1_2 : w2.cell? ⟨w.heap.size + 1, 2, none⟩ = some (.string t2) := by rw [hc2 _ _ (by (try simp); (try omega))]; go_simp
      have k2_2_0 : w2.cell? ⟨w.heap.size + 2, 0, none⟩ = some (.int .i64 0) := by rw [hc2 _ _ (by (try simp); (try omega))]; go_simp
      have k2_2_1 : w2.cell? ⟨w.heap.size + 2, 1, none⟩ = some (.int .i64 0) := by rw [hc2 _ _ (by (try simp); (try omega))]; go_simp
      have k2_2_2 : w2.cell? ⟨w.heap.size + 2, 2, none⟩ = some (.string ⟨#[]⟩) := by rw [hc2 _ _ (by (try simp); (try omega))]; go_simp
      clear hc2
      go_wp2_with fail
      refine (impl_make (n1 * n2) (d1 * d2) _ (by omega) (by omega)).mono ?_
      rintro e w3 ⟨rfl, hb3⟩
      obtain ⟨hc3, hf3⟩ := bcell hb3
      have B3 : Below w.heap.size w w3 := zai (by go_grown) (Nat.le_refl _) hb3
      have z3 : w.heap.size ≤ w3.heap.size := B3.size
      have y3_0 : w.heap.size < w3.heap.size := by have := hb3.size; (try simp at this); omega
      have y3_1 : w.heap.size + 1 < w3.heap.size := by have := hb3.size; (try simp at this); omega
      have y3_2 : w.heap.size + 2 < w3.heap.size := by have := hb3.size; (try simp at this); omega
      have k3_0_0 : w3.cell? ⟨w.heap.size, 0, none⟩ = some (.int .i64 n1) := by rw [hc3 _ _ (by (try simp); (try omega))]; go_simp
      have k3_0_1 : w3.cell? ⟨w.heap.size, 1, none⟩ = some (.int .i64 d1) := by rw [hc3 _ _ (by (try simp); (try omega))]; go_simp
      have k3_0_2 : w3.cell? ⟨w.heap.size, 2, none⟩ = some (.string t1) := by rw [hc3 _ _ (by (try simp); (try omega))]; go_simp
      have k3_1_0 : w3.cell? ⟨w.heap.size + 1, 0, none⟩ = some (.int .i64 n2) := by rw [hc3 _ _ (by (try simp); (try omega))]; go_simp
      have k3_1_1 : w3.cell? ⟨w.heap.size + 1, 1, none⟩ = some (.int .i64 d2) := by rw [hc3 _ _ (by (try simp); (try omega))]; go_simp
      have k3_1_2 : w3.cell? ⟨w.heap.size + 1, 2, none⟩ = some (.string t2) := by rw [hc3 _ _ (by (try simp); (try omega))]; go_simp
      have k3_2_0 : w3.cell? ⟨w.heap.size + 2, 0, none⟩ = some (.int .i64 0) := by rw [hc3 _ _ (by (try simp); (try omega))]; go_simp
      have k3_2_1 : w3.cell? ⟨w.heap.size + 2, 1, none⟩ = some (.int .i64 0) := by rw [hc3 _ _ (by (try simp); (try omega))]; go_simp
      have k3_2_2 : w3.cell? ⟨w.heap.size + 2, 2, none⟩ = some (.string ⟨#[]⟩) := by rw [hc3 _ _ (by (try simp); (try omega))]; go_simp
      clear hc3
      go_wp2_with fail
      exact bodyPost_ret (v := .agg #[.int .i64 (Nm.mk (n1 * n2) (d1 * d2)).1, .int .i64 (Nm.mk (n1 * n2) (d1 * d2)).2, .string ⟨#[]⟩]) (by simp [results, Tryz.results59, go_sem, *]) rfl ⟨zar HM.out, by go_grown⟩

theorem impl_div (n1 d1 n2 d2 : Int) (t1 t2 : ByteArray) (w : World) :
    Calls Tryz.prog 60 #[.agg #[.int .i64 n1, .int .i64 d1, .string t1], .agg #[.int .i64 n2, .int .i64 d2, .string t2]] w fun e w' =>
      e = .returned (.agg #[.int .i64 (divI n1 d1 t1 n2 d2 t2).1, .int .i64 (divI n1 d1 t1 n2 d2 t2).2, .string ⟨#[]⟩]) ∧ Below w.heap.size w w' := by
  cases h1 : zas n1 d1 t1
  · have HM := Lib.hid (show divI n1 d1 t1 n2 d2 t2 = (0, 0) from op2_no1 h1)
    go_enter Tryz.func60, Tryz.ntmps60
    go_wp2_with fail
    refine (zak n1 d1 t1 _).mono ?_
    rintro e w1 ⟨rfl, hb1⟩
    obtain ⟨hc1, hf1⟩ := bcell hb1
    have B1 : Below w.heap.size w w1 := zai (by go_grown) (Nat.le_refl _) hb1
    have z1 : w.heap.size ≤ w1.heap.size := B1.size
    have y1_0 : w.heap.size < w1.heap.size := by have := hb1.size; (try simp at this); omega
    have y1_1 : w.heap.size + 1 < w1.heap.size := by have := hb1.size; (try simp at this); omega
    have y1_2 : w.heap.size + 2 < w1.heap.size := by have := hb1.size; (try simp at this); omega
    have k1_0_0 : w1.cell? ⟨w.heap.size, 0, none⟩ = some (.int .i64 n1) := by rw [hc1 _ _ (by (try simp); (try omega))]; go_simp
    have k1_0_1 : w1.cell? ⟨w.heap.size, 1, none⟩ = some (.int .i64 d1) := by rw [hc1 _ _ (by (try simp); (try omega))]; go_simp
    have k1_0_2 : w1.cell? ⟨w.heap.size, 2, none⟩ = some (.string t1) := by rw [hc1 _ _ (by (try simp); (try omega))]; go_simp
    have k1_1_0 : w1.cell? ⟨w.heap.size + 1, 0, none⟩ = some (.int .i64 n2) := by rw [hc1 _ _ (by (try simp); (try omega))]; go_simp
    have k1_1_1 : w1.cell? ⟨w.heap.size + 1, 1, none⟩ = some (.int .i64 d2) := by rw [hc1 _ _ (by (try simp); (try omega))]; go_simp
    have k1_1_2 : w1.cell? ⟨w.heap.size + 1, 2, none⟩ = some (.string t2) := by rw [hc1 _ _ (by (try simp); (try omega))]; go_simp
    have k1_2_0 : w1.cell? ⟨w.heap.size + 2, 0, none⟩ = some (.int .i64 0) := by rw [hc1 _ _ (by (try simp); (try omega))]; go_simp
    have k1_2_1 : w1.cell? ⟨w.heap.size + 2, 1, none⟩ = some (.int .i64 0) := by rw [hc1 _ _ (by (try simp); (try omega))]; go_simp
    have k1_2_2 : w1.cell? ⟨w.heap.size + 2, 2, none⟩ = some (.string ⟨#[]⟩) := by rw [hc1 _ _ (by (try simp); (try omega))]; go_simp
    clear hc1
    go_wp2_with fail
    exact bodyPost_ret (v := .agg #[.int .i64 0, .int .i64 0, .string ⟨#[]⟩]) (by simp [results, Tryz.results60, go_sem, *]) rfl ⟨zar HM.out, by go_grown⟩
  · cases h2 : zas n2 d2 t2
    · have HM := Lib.hid (show divI n1 d1 t1 n2 d2 t2 = (0, 0) from zbl h2)
      go_enter Tryz.func60, Tryz.ntmps60
      go_wp2_with fail
      refine (zak n1 d1 t1 _).mono ?_
      rintro e w1 ⟨rfl, hb1⟩
      obtain ⟨hc1, hf1⟩ := bcell hb1
      have B1 : Below w.heap.size w w1 := zai (by go_grown) (Nat.le_refl _) hb1
      have z1 : w.heap.size ≤ w1.heap.size := B1.size
      have y1_0 : w.heap.size < w1.heap.size := by have := hb1.size; (try simp at this); omega
      have y1_1 : w.heap.size + 1 < w1.heap.size := by have := hb1.size; (try simp at this); omega
      have y1_2 : w.heap.size + 2 < w1.heap.size := by have := hb1.size; (try simp at this); omega
      have k1_0_0 : w1.cell? ⟨w.heap.size, 0, none⟩ = some (.int .i64 n1) := by rw [hc1 _ _ (by (try simp); (try omega))]; go_simp
      have k1_0_1 : w1.cell? ⟨w.heap.size, 1, none⟩ = some (.int .i64 d1) := by rw [hc1 _ _ (by (try simp); (try omega))]; go_simp
      have k1_0_2 : w1.cell? ⟨w.heap.size, 2, none⟩ = some (.string t1) := by rw [hc1 _ _ (by (try simp); (try omega))]; go_simp
      have k1_1_0 : w1.cell? ⟨w.heap.size + 1, 0, none⟩ = some (.int .i64 n2) := by rw [hc1 _ _ (by (try simp); (try omega))]; go_simp
      have k1_1_1 : w1.cell? ⟨w.heap.size + 1, 1, none⟩ = some (.int .i64 d2) := by rw [hc1 _ _ (by (try simp); (try omega))]; go_simp
      have k1_1_2 : w1.cell? ⟨w.heap.size + 1, 2, none⟩ = some (.string t2) := by rw [hc1 _ _ (by (try simp); (try omega))]; go_simp
      have k1_2_0 : w1.cell? ⟨w.heap.size + 2, 0, none⟩ = some (.int .i64 0) := by rw [hc1 _ _ (by (try simp); (try omega))]; go_simp
      have k1_2_1 : w1.cell? ⟨w.heap.size + 2, 1, none⟩ = some (.int .i64 0) := by rw [hc1 _ _ (by (try simp); (try omega))]; go_simp
      have k1_2_2 : w1.cell? ⟨w.heap.size + 2, 2, none⟩ = some (.string ⟨#[]⟩) := by rw [hc1 _ _ (by (try simp); (try omega))]; go_simp
      clear hc1
      go_wp2_with fail
      refine (zak n2 d2 t2 _).mono ?_
      rintro e w2 ⟨rfl, hb2⟩
      obtain ⟨hc2, hf2⟩ := bcell hb2
      have B2 : Below w.heap.size w w2 := zai (by go_grown) (Nat.le_refl _) hb2
      have z2 : w.heap.size ≤ w2.heap.size := B2.size
      have y2_0 : w.heap.size < w2.heap.size := by have := hb2.size; (try simp at this); omega
      have y2_1 : w.heap.size + 1 < w2.heap.size := by have := hb2.size; (try simp at this); omega
      have y2_2 : w.heap.size + 2 < w2.heap.size := by have := hb2.size; (try simp at this); omega
      have k2_0_0 : w2.cell? ⟨w.heap.size, 0, none⟩ = some (.int .i64 n1) := by rw [hc2 _ _ (by (try simp); (try omega))]; go_simp
      have k2_0_1 : w2.cell? ⟨w.heap.size, 1, none⟩ = some (.int .i64 d1) := by rw [hc2 _ _ (by (try simp); (try omega))]; go_simp
      have k2_0_2 : w2.cell? ⟨w.heap.size, 2, none⟩ = some (.string t1) := by rw [hc2 _ _ (by (try simp); (try omega))]; go_simp
      have k2_1_0 : w2.cell? ⟨w.heap.size + 1, 0, none⟩ = some (.int .i64 n2) := by rw [hc2 _ _ (by (try simp); (try omega))]; go_simp
      have k2_1_1 : w2.cell? ⟨w.heap.size + 1, 1, none⟩ = some (.int .i64 d2) := by rw [hc2 _ _ (by (try simp); (try omega))]; go_simp
      have k2_1_2 : w2.cell? ⟨w.heap.size + 1, 2, none⟩ = some (.string t2) := by rw [hc2 _ _ (by (try simp); (try omega))]; go_simp
      have k2_2_0 : w2.cell? ⟨w.heap.size + 2, 0, none⟩ = some (.int .i64 0) := by rw [hc2 _ _ (by (try simp); (try omega))]; go_simp
      have k2_2_1 : w2.cell? ⟨w.heap.size + 2, 1, none⟩ = some (.int .i64 0) := by rw [hc2 _ _ (by (try simp); (try omega))]; go_simp
      have k2_2_2 : w2.cell? ⟨w.heap.size + 2, 2, none⟩ = some (.string ⟨#[]⟩) := by rw [hc2 _ _ (by (try simp); (try omega))]; go_simp
      clear hc2
      go_wp2_with fail
      exact bodyPost_ret (v := .agg #[.int .i64 0, .int .i64 0, .string ⟨#[]⟩]) (by simp [results, Tryz.results60, go_sem, *]) rfl ⟨zar HM.out, by go_grown⟩
    · have hyes := op2_yes (r := Nm.mk (n1 * d2) (d1 * n2)) h1 h2
      obtain ⟨a1, a2, a3, a4⟩ := zaz h1
      obtain ⟨b1, b2, b3, b4⟩ := zaz h2
      obtain ⟨m1, m2⟩ := zax (a := n1) (b := d2) (by omega) (by omega)
      obtain ⟨m3, m4⟩ := zax (a := n2) (b := d1) (by omega) (by omega)
      obtain ⟨m5, m6⟩ := zax (a := d1) (b := d2) (by omega) (by omega)
      obtain ⟨m7, m8⟩ := zax (a := n1) (b := n2) (by omega) (by omega)
      obtain ⟨m9, m10⟩ := zax (a := d1) (b := n2) (by omega) (by omega)
      by_cases h0 : n2 = 0
      · have HM := Lib.hid (show divI n1 d1 t1 n2 d2 t2 = (0, 0) from hyes.trans (Nm.mk_bad (.inl (by rw [h0]; simp))))
        have z0 : (n2 == 0) = true := by simpa using h0
        clear h0 hyes
        go_enter Tryz.func60, Tryz.ntmps60
        go_wp2_with fail
        refine (zak n1 d1 t1 _).mono ?_
        rintro e w1 ⟨rfl, hb1⟩
        obtain ⟨hc1, hf1⟩ := bcell hb1
        have B1 : Below w.heap.size w w1 := zai (by go_grown) (Nat.le_refl _) hb1
        have z1 : w.heap.size ≤ w1.heap.size := B1.size
        have y1_0 : w.heap.size < w1.heap.size := by have := hb1.size; (try simp at this); omega
        have y1_1 : w.heap.size + 1 < w1.heap.size := by have := hb1.size; (try simp at this); omega
        have y1_2 : w.heap.size + 2 < w1.heap.size := by have := hb1.size; (try simp at this); omega
        have k1_0_0 : w1.cell? ⟨w.heap.size, 0, none⟩ = some (.int .i64 n1) := by rw [hc1 _ _ (by (try simp); (try omega))]; go_simp
        have k1_0_1 : w1.cell? ⟨w.heap.size, 1, none⟩ = some (.int .i64 d1) := by rw [hc1 _ _ (by (try simp); (try omega))]; go_simp
        have k1_0_2 : w1.cell? ⟨w.heap.size, 2, none⟩ = some (.string t1) := by rw [hc1 _ _ (by (try simp); (try omega))]; go_simp
        have k1_1_0 : w1.cell? ⟨w.heap.size + 1, 0, none⟩ = some (.int .i64 n2) := by rw [hc1 _ _ (by (try simp); (try omega))]; go_simp
        have k1_1_1 : w1.cell? ⟨w.heap.size + 1, 1, none⟩ = some (.int .i64 d2) := by rw [hc1 _ _ (by (try simp); (try omega))]; go_simp
        have k1_1_2 : w1.cell? ⟨w.heap.size + 1, 2, none⟩ = some (.string t2) := by rw [hc1 _ _ (by (try simp); (try omega))]; go_simp
        have k1_2_0 : w1.cell? ⟨w.heap.size + 2, 0, none⟩ = some (.int .i64 0) := by rw [hc1 _ _ (by (try simp); (try omega))]; go_simp
        have k1_2_1 : w1.cell? ⟨w.heap.size + 2, 1, none⟩ = some (.int .i64 0) := by rw [hc1 _ _ (by (try simp); (try omega))]; go_simp
        have k1_2_2 : w1.cell? ⟨w.heap.size + 2, 2, none⟩ = some (.string ⟨#[]⟩) := by rw [hc1 _ _ (by (try simp); (try omega))]; go_simp
        clear hc1
        go_wp2_with fail
        refine (zak n2 d2 t2 _).mono ?_
        rintro e w2 ⟨rfl, hb2⟩
        obtain ⟨hc2, hf2⟩ := bcell hb2
        have B2 : Below w.heap.size w w2 := zai (by go_grown) (Nat.le_refl _) hb2
        have z2 : w.heap.size ≤ w2.heap.size := B2.size
        have y2_0 : w.heap.size < w2.heap.size := by have := hb2.size; (try simp at this); omega
        have y2_1 : w.heap.size + 1 < w2.heap.size := by have := hb2.size; (try simp at this); omega
        have y2_2 : w.heap.size + 2 < w2.heap.size := by have := hb2.size; (try simp at this); omega
        have k2_0_0 : w2.cell? ⟨w.heap.size, 0, none⟩ = some (.int .i64 n1) := by rw [hc2 _ _ (by (try simp); (try omega))]; go_simp
        have k2_0_1 : w2.cell? ⟨w.heap.size, 1, none⟩ = some (.int .i64 d1) := by rw [hc2 _ _ (by (try simp); (try omega))]; go_simp
        have k2_0_2 : w2.cell? ⟨w.heap.size, 2, none⟩ = some (.string t1) := by rw [hc2 _ _ (by (try simp); (try omega))]; go_simp
        have k2_1_0 : w2.cell? ⟨w.heap.size + 1, 0, none⟩ = some (.int .i64 n2) := by rw [hc2 _ _ (by (try simp); (try omega))]; go_simp
        have k2_1_1 : w2.cell? ⟨w.heap.size + 1, 1, none⟩ = some (.int .i64 d2) := by rw [hc2 _ _ (by (try simp); (try omega))]; go_simp
        have k2_1_2 : w2.cell? ⟨w.heap.size + 1, 2, none⟩ = some (.string t2) := by rw [hc2 _ _ (by (try simp); (try omega))]; go_simp
        have k2_2_0 : w2.cell? ⟨w.heap.size + 2, 0, none⟩ = some (.int .i64 0) := by rw [hc2 _ _ (by (try simp); (try omega))]; go_simp
        have k2_2_1 : w2.cell? ⟨w.heap.size + 2, 1, none⟩ = some (.int .i64 0) := by rw [hc2 _ _ (by (try simp); (try omega))]; go_simp
        have k2_2_2 : w2.cell? ⟨w.heap.size + 2, 2, none⟩ = some (.string ⟨#[]⟩) := by rw [hc2 _ _ (by (try simp); (try omega))]; go_simp
        clear hc2
        go_wp2_with fail
        exact bodyPost_ret (v := .agg #[.int .i64 0, .int .i64 0, .string ⟨#[]⟩]) (by simp [results, Tryz.results60, go_sem, *]) rfl ⟨zar HM.out, by go_grown⟩
      · have HM := Lib.hid (show divI n1 d1 t1 n2 d2 t2 = _ from hyes)
        have z0 : (n2 == 0) = false := by simpa using h0
        clear h0 hyes
        go_enter Tryz.func60, Tryz.ntmps60
        go_wp2_with fail
        refine (zak n1 d1 t1 _).mono ?_
        rintro e w1 ⟨rfl, hb1⟩
        obtain ⟨hc1, hf1⟩ := bcell hb1
        have B1 : Below w.heap.size w w1 := zai (by go_grown) (Nat.le_refl _) hb1
        have z1 : w.heap.size ≤ w1.heap.size := B1.size
        have y1_0 : w.heap.size < w1.heap.size := by have := hb1.size; (try simp at this); omega
        have y1_1 : w.heap.size + 1 < w1.heap.size := by have := hb1.size; (try simp at this); omega
        have y1_2 : w.heap.size + 2 < w1.heap.size := by have := hb1.size; (try simp at this); omega
        have k1_0_0 : w1.cell? ⟨w.heap.size, 0, none⟩ = some (.int .i64 n1) := by rw [hc1 _ _ (by (try simp); (try omega))]; go_simp
        have k1_0_1 : w1.cell? ⟨w.heap.size, 1, none⟩ = some (.int .i64 d1) := by rw [hc1 _ _ (by (try simp); (try omega))]; go_simp
        have k1_0_2 : w1.cell? ⟨w.heap.size, 2, none⟩ = some (.string t1) := by rw [hc1 _ _ (by (try simp); (try omega))]; go_simp
        have k1_1_0 : w1.cell? ⟨w.heap.size + 1, 0, none⟩ = some (.int .i64 n2) := by rw [hc1 _ _ (by (try simp); (try omega))]; go_simp
        have k1_1_1 : w1.cell? ⟨w.heap.size + 1, 1, none⟩ = some (.int .i64 d2) := by rw [hc1 _ _ (by (try simp); (try omega))]; go_simp
        have k1_1_2 : w1.cell? ⟨w.heap.size + 1, 2, none⟩ = some (.string t2) := by rw [hc1 _ _ (by (try simp); (try omega))]; go_simp
        have k1_2_0 : w1.cell? ⟨w.heap.size + 2, 0, none⟩ = some (.int .i64 0) := by rw [hc1 _ _ (by (try simp); (try omega))]; go_simp
        have k1_2_1 : w1.cell? ⟨w.heap.size + 2, 1, none⟩ = some (.int .i64 0) := by rw [hc1 _ _ (by (try simp); (try omega))]; go_simp
        have k1_2_2 : w1.cell? ⟨w.heap.size + 2, 2, none⟩ = some (.string ⟨#[]⟩) := by rw [hc1 _ _ (by (try simp); (try omega))]; go_simp
        clear hc1
        go_wp2_with fail
        refine (zak n2 d2 t2 _).mono ?_
        rintro e w2 ⟨rfl, hb2⟩
        obtain ⟨hc2, hf2⟩ := bcell hb2
        have B2 : Below w.heap.size w w2 := zai (by go_grown) (Nat.le_refl _) hb2
        have z2 : w.heap.size ≤ w2.heap.size := B2.size
        have y2_0 : w.heap.size < w2.heap.size := by have := hb2.size; (try simp at this); omega
        have y2_1 : w.heap.size + 1 < w2.heap.size := by have := hb2.size; (try simp at this); omega
        have y2_2 : w.heap.size + 2 < w2.heap.size := by have := hb2.size; (try simp at this); omega
        have k2_0_0 : w2.cell? ⟨w.heap.size, 0, none⟩ = some (.int .i64 n1) := by rw [hc2 _ _ (by (try simp); (try omega))]; go_simp
        have k2_0_1 : w2.cell? ⟨w.heap.size, 1, none⟩ = some (.int .i64 d1) := by rw [hc2 _ _ (by (try simp); (try omega))]; go_simp
        have k2_0_2 : w2.cell? ⟨w.heap.size, 2, none⟩ = some (.string t1) := by rw [hc2 _ _ (by (try simp); (try omega))]; go_simp
        have k2_1_0 : w2.cell? ⟨w.heap.size + 1, 0, none⟩ = some (.int .i64 n2) := by rw [hc2 _ _ (by (try simp); (try omega))]; go_simp
        have k2_1_1 : w2.cell? ⟨w.heap.size + 1, 1, none⟩ = some (.int .i64 d2) := by rw [hc2 _ _ (by (try simp); (try omega))]; go_simp
        have k2_1_2 : w2.cell? ⟨w.heap.size + 1, 2, none⟩ = some (.string t2) := by rw [hc2 _ _ (by (try simp); (try omega))]; go_simp
        have k2_2_0 : w2.cell? ⟨w.heap.size + 2, 0, none⟩ = some (.int .i64 0) := by rw [hc2 _ _ (by (try simp); (try omega))]; go_simp
        have k2_2_1 : w2.cell? ⟨w.heap.size + 2, 1, none⟩ = some (.int .i64 0) := by rw [hc2 _ _ (by (try simp); (try omega))]; go_simp
        have k2_2_2 : w2.cell? ⟨w.heap.size + 2, 2, none⟩ = some (.string ⟨#[]⟩) := by rw [hc2 _ _ (by (try simp); (try omega))]; go_simp
        clear hc2
        go_wp2_with fail
        refine (impl_make (n1 * d2) (d1 * n2) _ (by omega) (by omega)).mono ?_
        rintro e w3 ⟨rfl, hb3⟩
        obtain ⟨hc3, hf3⟩ := bcell hb3
        have B3 : Below w.heap.size w w3 := zai (by go_grown) (Nat.le_refl _) hb3
        have z3 : w.heap.size ≤ w3.heap.size := B3.size
        have y3_0 : w.heap.size < w3.heap.size := by have := hb3.size; (try simp at this); omega
        have y3_1 : w.heap.size + 1 < w3.heap.size := by have := hb3.size; (try simp at this); omega
        have y3_2 : w.heap.size + 2 < w3.heap.size := by have := hb3.size; (try simp at this); omega
        have k3_0_0 : w3.cell? ⟨w.heap.size, 0, none⟩ = some (.int .i64 n1) := by rw [hc3 _ _ (by (try simp); (try omega))]; go_simp
        have k3_0_1 : w3.cell? ⟨w.heap.size, 1, none⟩ = some (.int .i64 d1) := by rw [hc3 _ _ (by (try simp); (try omega))]; go_simp
        have k3_0_2 : w3.cell? ⟨w.heap.size, 2, none⟩ = some (.string t1) := by rw [hc3 _ _ (by (try simp); (try omega))]; go_simp
        have k3_1_0 : w3.cell? ⟨w.heap.size + 1, 0, none⟩ = some (.int .i64 n2) := by rw [hc3 _ _ (by (try simp); (try omega))]; go_simp
        have k3_1_1 : w3.cell? ⟨w.heap.size + 1, 1, none⟩ = some (.int .i64 d2) := by rw [hc3 _ _ (by (try simp); (try omega))]; go_simp
        have k3_1_2 : w3.cell? ⟨w.heap.size + 1, 2, none⟩ = some (.string t2) := by rw [hc3 _ _ (by (try simp); (try omega))]; go_simp
        have k3_2_0 : w3.cell? ⟨w.heap.size + 2, 0, none⟩ = some (.int .i64 0) := by rw [hc3 _ _ (by (try simp); (try omega))]; go_simp
        have k3_2_1 : w3.cell? ⟨w.heap.size + 2, 1, none⟩ = some (.int .i64 0) := by rw [hc3 _ _ (by (try simp); (try omega))]; go_simp
        have k3_2_2 : w3.cell? ⟨w.heap.size + 2, 2, none⟩ = some (.string ⟨#[]⟩) := by rw [hc3 _ _ (by (try simp); (try omega))]; go_simp
        clear hc3
        go_wp2_with fail
        exact bodyPost_ret (v := .agg #[.int .i64 (Nm.mk (n1 * d2) (d1 * n2)).1, .int .i64 (Nm.mk (n1 * d2) (d1 * n2)).2, .string ⟨#[]⟩]) (by simp [results, Tryz.results60, go_sem, *]) rfl ⟨zar HM.out, by go_grown⟩

theorem spec_add (n1 d1 n2 d2 : Int) (t1 t2 : ByteArray) (w : World) :
    Calls Tryz.prog 74 #[.agg #[.int .i64 n1, .int .i64 d1, .string t1], .agg #[.int .i64 n2, .int .i64 d2, .string t2]] w fun e w' =>
      e = .returned (.agg #[.int .i64 (addI n1 d1 t1 n2 d2 t2).1, .int .i64 (addI n1 d1 t1 n2 d2 t2).2, .string ⟨#[]⟩]) ∧ Below w.heap.size w w' := by
  cases h1 : zas n1 d1 t1
  · have HM := Lib.hid (show addI n1 d1 t1 n2 d2 t2 = (0, 0) from op2_no1 h1)
    go_enter Tryz.func74, Tryz.ntmps74
    go_wp2_with fail
    refine (zam n1 d1 t1 _).mono ?_
    rintro e w1 ⟨rfl, hb1⟩
    obtain ⟨hc1, hf1⟩ := bcell hb1
    have B1 : Below w.heap.size w w1 := zai (by go_grown) (Nat.le_refl _) hb1
    have z1 : w.heap.size ≤ w1.heap.size := B1.size
    have y1_0 : w.heap.size < w1.heap.size := by have := hb1.size; (try simp at this); omega
    have y1_1 : w.heap.size + 1 < w1.heap.size := by have := hb1.size; (try simp at this); omega
    have y1_2 : w.heap.size + 2 < w1.heap.size := by have := hb1.size; (try simp at this); omega
    have k1_0_0 : w1.cell? ⟨w.heap.size, 0, none⟩ = some (.int .i64 n1) := by rw [hc1 _ _ (by (try simp); (try omega))]; go_simp
    have k1_0_1 : w1.cell? ⟨w.heap.size, 1, none⟩ = some (.int .i64 d1) := by rw [hc1 _ _ (by (try simp); (try omega))]; go_simp
    have k1_0_2 : w1.cell? ⟨w.heap.size, 2, none⟩ = some (.string t1) := by rw [hc1 _ _ (by (try simp); (try omega))]; go_simp
    have k1_1_0 : w1.cell? ⟨w.heap.size + 1, 0, none⟩ = some (.int .i64 n2) := by rw [hc1 _ _ (by (try simp); (try omega))]; go_simp
    have k1_1_1 : w1.cell? ⟨w.heap.size + 1, 1, none⟩ = some (.int .i64 d2) := by rw [hc1 _ _ (by (try simp); (try omega))]; go_simp
    have k1_1_2 : w1.cell? ⟨w.heap.size + 1, 2, none⟩ = some (.string t2) := by rw [hc1 _ _ (by (try simp); (try omega))]; go_simp
    have k1_2_0 : w1.cell? ⟨w.heap.size + 2, 0, none⟩ = some (.int .i64 0) := by rw [hc1 _ _ (by (try simp); (try omega))]; go_simp
    have k1_2_1 : w1.cell? ⟨w.heap.size + 2, 1, none⟩ = some (.int .i64 0) := by rw [hc1 _ _ (by (try simp); (try omega))]; go_simp
    have k1_2_2 : w1.cell? ⟨w.heap.size + 2, 2, none⟩ = some (.string ⟨#[]⟩) := by rw [hc1 _ _ (by (try simp); (try omega))]; go_simp
    clear hc1
    go_wp2_with fail
    exact bodyPost_ret (v := .agg #[.int .i64 0, .int .i64 0, .string ⟨#[]⟩]) (by simp [results, Tryz.results74, go_sem, *]) rfl ⟨zar HM.out, by go_grown⟩
  · cases h2 : zas n2 d2 t2
    · have HM := Lib.hid (show addI n1 d1 t1 n2 d2 t2 = (0, 0) from zbl h2)
      go_enter Tryz.func74, Tryz.ntmps74
      go_wp2_with fail
      refine (zam n1 d1 t1 _).mono ?_
      rintro e w1 ⟨rfl, hb1⟩
      obtain ⟨hc1, hf1⟩ := bcell hb1
      have B1 : Below w.heap.size w w1 := zai (by go_grown) (Nat.le_refl _) hb1
      have z1 : w.heap.size ≤ w1.heap.size := B1.size
      have y1_0 : w.heap.size < w1.heap.size := by have := hb1.size; (try simp at this); omega
      have y1_1 : w.heap.size + 1 < w1.heap.size := by have := hb1.size; (try simp at this); omega
      have y1_2 : w.heap.size + 2 < w1.heap.size := by have := hb1.size; (try simp at this); omega
      have k1_0_0 : w1.cell? ⟨w.heap.size, 0, none⟩ = some (.int .i64 n1) := by rw [hc1 _ _ (by (try simp); (try omega))]; go_simp
      have k1_0_1 : w1.cell? ⟨w.heap.size, 1, none⟩ = some (.int .i64 d1) := by rw [hc1 _ _ (by (try simp); (try omega))]; go_simp
      have k1_0_2 : w1.cell? ⟨w.heap.size, 2, none⟩ = some (.string t1) := by rw [hc1 _ _ (by (try simp); (try omega))]; go_simp
      have k1_1_0 : w1.cell? ⟨w.heap.size + 1, 0, none⟩ = some (.int .i64 n2) := by rw [hc1 _ _ (by (try simp); (try omega))]; go_simp
      have k1_1_1 : w1.cell? ⟨w.heap.size + 1, 1, none⟩ = some (.int .i64 d2) := by rw [hc1 _ _ (by (try simp); (try omega))]; go_simp
      have k1_1_2 : w1.cell? ⟨w.heap.size + 1, 2, none⟩ = some (.string t2) := by rw [hc1 _ _ (by (try simp); (try omega))]; go_simp
      have k1_2_0 : w1.cell? ⟨w.heap.size + 2, 0, none⟩ = some (.int .i64 0) := by rw [hc1 _ _ (by (try simp); (try omega))]; go_simp
      have k1_2_1 : w1.cell? ⟨w.heap.size + 2, 1, none⟩ = some (.int .i64 0) := by rw [hc1 _ _ (by (try simp); (try omega))]; go_simp
      have k1_2_2 : w1.cell? ⟨w.heap.size + 2, 2, none⟩ = some (.string ⟨#[]⟩) := by rw [hc1 _ _ (by (try simp); (try omega))]; go_simp
      clear hc1
      go_wp2_with fail
      refine (zam n2 d2 t2 _).mono ?_
      rintro e w2 ⟨rfl, hb2⟩
      obtain ⟨hc2, hf2⟩ := bcell hb2
      have B2 : Below w.heap.size w w2 := zai (by go_grown) (Nat.le_refl _) hb2
      have z2 : w.heap.size ≤ w2.heap.size := B2.size
      have y2_0 : w.heap.size < w2.heap.size := by have := hb2.size; (try simp at this); omega
      have y2_1 : w.heap.size + 1 < w2.heap.size := by have := hb2.size; (try simp at this); omega
      have y2_2 : w.heap.size + 2 < w2.heap.size := by have := hb2.size; (try simp at this); omega
      have k2_0_0 : w2.cell? ⟨w.heap.size, 0, none⟩ = some (.int .i64 n1) := by rw [hc2 _ _ (by (try simp); (try omega))]; go_simp
      have k2_0_1 : w2.cell? ⟨w.heap.size, 1, none⟩ = some (.int .i64 d1) := by rw [hc2 _ _ (by (try simp); (try omega))]; go_simp
      have k2_0_2 : w2.cell? ⟨w.heap.size, 2, none⟩ = some (.string t1) := by rw [hc2 _ _ (by (try simp); (try omega))]; go_simp
      have k2_1_0 : w2.cell? ⟨w.heap.size + 1, 0, none⟩ = some (.int .i64 n2) := by rw [hc2 _ _ (by (try simp); (try omega))]; go_simp
      have k2_1_1 : w2.cell? ⟨w.heap.size + 1, 1, none⟩ = some (.int .i64 d2) := by rw [hc2 _ _ (by (try simp); (try omega))]; go_simp
      have k2_1_2 : w2.cell? ⟨w.heap.size + 1, 2, none⟩ = some (.string t2) := by rw [hc2 _ _ (by (try simp); (try omega))]; go_simp
      have k2_2_0 : w2.cell? ⟨w.heap.size + 2, 0, none⟩ = some (.int .i64 0) := by rw [hc2 _ _ (by (try simp); (try omega))]; go_simp
      have k2_2_1 : w2.cell? ⟨w.heap.size + 2, 1, none⟩ = some (.int .i64 0) := by rw [hc2 _ _ (by (try simp); (try omega))]; go_simp
      have k2_2_2 : w2.cell? ⟨w.heap.size + 2, 2, none⟩ = some (.string ⟨#[]⟩) := by rw [hc2 _ _ (by (try simp); (try omega))]; go_simp
      clear hc2
      go_wp2_with fail
      exact bodyPost_ret (v := .agg #[.int .i64 0, .int .i64 0, .string ⟨#[]⟩]) (by simp [results, Tryz.results74, go_sem, *]) rfl ⟨zar HM.out, by go_grown⟩
    · have hyes := op2_yes (r := Nm.mk (n1 * d2 + n2 * d1) (d1 * d2)) h1 h2
      obtain ⟨a1, a2, a3, a4⟩ := zaz h1
      obtain ⟨b1, b2, b3, b4⟩ := zaz h2
      obtain ⟨m1, m2⟩ := zax (a := n1) (b := d2) (by omega) (by omega)
      obtain ⟨m3, m4⟩ := zax (a := n2) (b := d1) (by omega) (by omega)
      obtain ⟨m5, m6⟩ := zax (a := d1) (b := d2) (by omega) (by omega)
      obtain ⟨m7, m8⟩ := zax (a := n1) (b := n2) (by omega) (by omega)
      obtain ⟨m9, m10⟩ := zax (a := d1) (b := n2) (by omega) (by omega)
      have HM := Lib.hid (show addI n1 d1 t1 n2 d2 t2 = _ from hyes)
      clear hyes
      go_enter Tryz.func74, Tryz.ntmps74
      go_wp2_with fail
      refine (zam n1 d1 t1 _).mono ?_
      rintro e w1 ⟨rfl, hb1⟩
      obtain ⟨hc1, hf1⟩ := bcell hb1
      have B1 : Below w.heap.size w w1 := zai (by go_grown) (Nat.le_refl _) hb1
      have z1 : w.heap.size ≤ w1.heap.size := B1.size
      have y1_0 : w.heap.size < w1.heap.size := by have := hb1.size; (try simp at this); omega
      have y1_1 : w.heap.size + 1 < w1.heap.size := by have := hb1.size; (try simp at this); omega
      have y1_2 : w.heap.size + 2 < w1.heap.size := by have := hb1.size; (try simp at this); omega
      have k1_0_0 : w1.cell? ⟨w.heap.size, 0, none⟩ = some (.int .i64 n1) := by rw [hc1 _ _ (by (try simp); (try omega))]; go_simp
      have k1_0_1 : w1.cell? ⟨w.heap.size, 1, none⟩ = some (.int .i64 d1) := by rw [hc1 _ _ (by (try simp); (try omega))]; go_simp
      have k1_0_2 : w1.cell? ⟨w.heap.size, 2, none⟩ = some (.string t1) := by rw [hc1 _ _ (by (try simp); (try omega))]; go_simp
      have k1_1_0 : w1.cell? ⟨w.heap.size + 1, 0, none⟩ = some (.int .i64 n2) := by rw [hc1 _ _ (by (try simp); (try omega))]; go_simp
      have k1_1_1 : w1.cell? ⟨w.heap.size + 1, 1, none⟩ = some (.int .i64 d2) := by rw [hc1 _ _ (by (try simp); (try omega))]; go_simp
      have k1_1_2 : w1.cell? ⟨w.heap.size + 1, 2, none⟩ = some (.string t2) := by rw [hc1 _ _ (by (try simp); (try omega))]; go_simp
      have k1_2_0 : w1.cell? ⟨w.heap.size + 2, 0, none⟩ = some (.int .i64 0) := by rw [hc1 _ _ (by (try simp); (try omega))]; go_simp
      have k1_2_1 : w1.cell? ⟨w.heap.size + 2, 1, none⟩ = some (.int .i64 0) := by rw [hc1 _ _ (by (try simp); (try omega))]; go_simp
      have k1_2_2 : w1.cell? ⟨w.heap.size + 2, 2, none⟩ = some (.string ⟨#[]⟩) := by rw [hc1 _ _ (by (try simp); (try omega))]; go_simp
      clear hc1
      go_wp2_with fail
      refine (zam n2 d2 t2 _).mono ?_
      rintro e w2 ⟨rfl, hb2⟩
      obtain ⟨hc2, hf2⟩ := bcell hb2
      have B2 : Below w.heap.size w w2 := zai (by go_grown) (Nat.le_refl _) hb2
      have z2 : w.heap.size ≤ w2.heap.size := B2.size
      have y2_0 : w.heap.size < w2.heap.size := by have := hb2.size; (try simp at this); omega
      have y2_1 : w.heap.size + 1 < w2.heap.size := by have := hb2.size; (try simp at this); omega
      have y2_2 : w.heap.size + 2 < w2.heap.size := by have := hb2.size; (try simp at this); omega
      have k2_0_0 : w2.cell? ⟨w.heap.size, 0, none⟩ = some (.int .i64 n1) := by rw [hc2 _ _ (by (try simp); (try omega))]; go_simp
      have k2_0_1 : w2.cell? ⟨w.heap.size, 1, none⟩ = some (.int .i64 d1) := by rw [hc2 _ _ (by (try simp); (try omega))]; go_simp
      have k2_0_2 : w2.cell? ⟨w.heap.size, 2, none⟩ = some (.string t1) := by rw [hc2 _ _ (by (try simp); (try omega))]; go_simp
      have k2_1_0 : w2.cell? ⟨w.heap.size + 1, 0, none⟩ = some (.int .i64 n2) := by rw [hc2 _ _ (by (try simp); (try omega))]; go_simp
      have k2_1_1 : w2.cell? ⟨w.heap.size + 1, 1, none⟩ = some (.int .i64 d2) := by rw [hc2 _ _ (by (try simp); (try omega))]; go_simp
      have k2_1_2 : w2.cell? ⟨w.heap.size + 1, 2, none⟩ = some (.string t2) := by rw [hc2 _ _ (by (try simp); (try omega))]; go_simp
      have k2_2_0 : w2.cell? ⟨w.heap.size + 2, 0, none⟩ = some (.int .i64 0) := by rw [hc2 _ _ (by (try simp); (try omega))]; go_simp
      have k2_2_1 : w2.cell? ⟨w.heap.size + 2, 1, none⟩ = some (.int .i64 0) := by rw [hc2 _ _ (by (try simp); (try omega))]; go_simp
      have k2_2_2 : w2.cell? ⟨w.heap.size + 2, 2, none⟩ = some (.string ⟨#[]⟩) := by rw [hc2 _ _ (by (try simp); (try omega))]; go_simp
      clear hc2
      go_wp2_with fail
      refine (spec_make (n1 * d2 + n2 * d1) (d1 * d2) _ (by omega) (by omega)).mono ?_
      rintro e w3 ⟨rfl, hb3⟩
      obtain ⟨hc3, hf3⟩ := bcell hb3
      have B3 : Below w.heap.size w w3 := zai (by go_grown) (Nat.le_refl _) hb3
      have z3 : w.heap.size ≤ w3.heap.size := B3.size
      have y3_0 : w.heap.size < w3.heap.size := by have := hb3.size; (try simp at this); omega
      have y3_1 : w.heap.size + 1 < w3.heap.size := by have := hb3.size; (try simp at this); omega
      have y3_2 : w.heap.size + 2 < w3.heap.size := by have := hb3.size; (try simp at this); omega
      have k3_0_0 : w3.cell? ⟨w.heap.size, 0, none⟩ = some (.int .i64 n1) := by rw [hc3 _ _ (by (try simp); (try omega))]; go_simp
      have k3_0_1 : w3.cell? ⟨w.heap.size, 1, none⟩ = some (.int .i64 d1) := by rw [hc3 _ _ (by (try simp); (try omega))]; go_simp
      have k3_0_2 : w3.cell? ⟨w.heap.size, 2, none⟩ = some (.string t1) := by rw [hc3 _ _ (by (try simp); (try omega))]; go_simp
      have k3_1_0 : w3.cell? ⟨w.heap.size + 1, 0, none⟩ = some (.int .i64 n2) := by rw [hc3 _ _ (by (try simp); (try omega))]; go_simp
      have k3_1_1 : w3.cell? ⟨w.heap.size + 1, 1, none⟩ = some (.int .i64 d2) := by rw [hc3 _ _ (by (try simp); (try omega))]; go_simp
      have k3_1_2 : w3.cell? ⟨w.heap.size + 1, 2, none⟩ = some (.string t2) := by rw [hc3 _ _ (by (try simp); (try omega))]; go_simp
      have k3_2_0 : w3.cell? ⟨w.heap.size + 2, 0, none⟩ = some (.int .i64 0) := by rw [hc3 _ _ (by (try simp); (try omega))]; go_simp
      have k3_2_1 : w3.cell? ⟨w.heap.size + 2, 1, none⟩ = some (.int .i64 0) := by rw [hc3 _ _ (by (try simp); (try omega))]; go_simp
      have k3_2_2 : w3.cell? ⟨w.heap.size + 2, 2, none⟩ = some (.string ⟨#[]⟩) := by rw [hc3 _ _ (by (try simp); (try omega))]; go_simp
      clear hc3
      go_wp2_with fail
      exact bodyPost_ret (v := .agg #[.int .i64 (Nm.mk (n1 * d2 + n2 * d1) (d1 * d2)).1, .int .i64 (Nm.mk (n1 * d2 + n2 * d1) (d1 * d2)).2, .string ⟨#[]⟩]) (by simp [results, Tryz.results74, go_sem, *]) rfl ⟨zar HM.out, by go_grown⟩

theorem spec_mul (n1 d1 n2 d2 : Int) (t1 t2 : ByteArray) (w : World) :
    Calls Tryz.prog 76 #[.agg #[.int .i64 n1, .int .i64 d1, .string t1], .agg #[.int .i64 n2, .int .i64 d2, .string t2]] w fun e w' =>
      e = .returned (.agg #[.int .i64 (mulI n1 d1 t1 n2 d2 t2).1, .int .i64 (mulI n1 d1 t1 n2 d2 t2).2, .string ⟨#[]⟩]) ∧ Below w.heap.size w w' := by
  cases h1 : zas n1 d1 t1
  · have HM := Lib.hid (show mulI n1 d1 t1 n2 d2 t2 = (0, 0) from op2_no1 h1)
    go_enter Tryz.func76, Tryz.ntmps76
    go_wp2_with fail
    refine (zam n1 d1 t1 _).mono ?_
    rintro e w1 ⟨rfl, hb1⟩
    obtain ⟨hc1, hf1⟩ := bcell hb1
    have B1 : Below w.heap.size w w1 := zai (by go_grown) (Nat.le_refl _) hb1
    have z1 : w.heap.size ≤ w1.heap.size := B1.size
    have y1_0 : w.heap.size < w1.heap.size := by have := hb1.size; (try simp at this); omega
    have y1_1 : w.heap.size + 1 < w1.heap.size := by have := hb1.size; (try simp at this); omega
    have y1_2 : w.heap.size + 2 < w1.heap.size := by have := hb1.size; (try simp at this); omega
    have k1_0_0 : w1.cell? ⟨w.heap.size, 0, none⟩ = some (.int .i64 n1) := by rw [hc1 _ _ (by (try simp); (try omega))]; go_simp
    have k1_0_1 : w1.cell? ⟨w.heap.size, 1, none⟩ = some (.int .i64 d1) := by rw [hc1 _ _ (by (try simp); (try omega))]; go_simp
    have k1_0_2 : w1.cell? ⟨w.heap.size, 2, none⟩ = some (.string t1) := by rw [hc1 _ _ (by (try simp); (try omega))]; go_simp
    have k1_1_0 : w1.cell? ⟨w.heap.size + 1, 0, none⟩ = some (.int .i64 n2) := by rw [hc1 _ _ (by (try simp); (try omega))]; go_simp
    have k1_1_1 : w1.cell? ⟨w.heap.size + 1, 1, none⟩ = some (.int .i64 d2) := by rw [hc1 _ _ (by (try simp); (try omega))]; go_simp
    have k1_1_2 : w1.cell? ⟨w.heap.size + 1, 2, none⟩ = some (.string t2) := by rw [hc1 _ _ (by (try simp); (try omega))]; go_simp
    have k1_2_0 : w1.cell? ⟨w.heap.size + 2, 0, none⟩ = some (.int .i64 0) := by rw [hc1 _ _ (by (try simp); (try omega))]; go_simp
    have k1_2_1 : w1.cell? ⟨w.heap.size + 2, 1, none⟩ = some (.int .i64 0) := by rw [hc1 _ _ (by (try simp); (try omega))]; go_simp
    have k1_2_2 : w1.cell? ⟨w.heap.size + 2, 2, none⟩ = some (.string ⟨#[]⟩) := by rw [hc1 _ _ (by (try simp); (try omega))]; go_simp
    clear hc1
    go_wp2_with fail
    exact bodyPost_ret (v := .agg #[.int .i64 0, .int .i64 0, .string ⟨#[]⟩]) (by simp [results, Tryz.results76, go_sem, *]) rfl ⟨zar HM.out, by go_grown⟩
  · cases h2 : zas n2 d2 t2
    · have HM := Lib.hid (show mulI n1 d1 t1 n2 d2 t2 = (0, 0) from zbl h2)
      go_enter Tryz.func76, Tryz.ntmps76
      go_wp2_with fail
      refine (zam n1 d1 t1 _).mono ?_
      rintro e w1 ⟨rfl, hb1⟩
      obtain ⟨hc1, hf1⟩ := bcell hb1
      have B1 : Below w.heap.size w w1 := zai (by go_grown) (Nat.le_refl _) hb1
      have z1 : w.heap.size ≤ w1.heap.size := B1.size
      have y1_0 : w.heap.size < w1.heap.size := by have := hb1.size; (try simp at this); omega
      have y1_1 : w.heap.size + 1 < w1.heap.size := by have := hb1.size; (try simp at this); omega
      have y1_2 : w.heap.size + 2 < w1.heap.size := by have := hb1.size; (try simp at this); omega
      have k1_0_0 : w1.cell? ⟨w.heap.size, 0, none⟩ = some (.int .i64 n1) := by rw [hc1 _ _ (by (try simp); (try omega))]; go_simp
      have k1_0_1 : w1.cell? ⟨w.heap.size, 1, none⟩ = some (.int .i64 d1) := by rw [hc1 _ _ (by (try simp); (try omega))]; go_simp
      have k1_0_2 : w1.cell? ⟨w.heap.size, 2, none⟩ = some (.string t1) := by rw [hc1 _ _ (by (try simp); (try omega))]; go_simp
      have k1_1_0 : w1.cell? ⟨w.heap.size + 1, 0, none⟩ = some (.int .i64 n2) := by rw [hc1 _ _ (by (try simp); (try omega))]; go_simp
      have k1_1_1 : w1.cell? ⟨w.heap.size + 1, 1, none⟩ = some (.int .i64 d2) := by rw [hc1 _ _ (by (try simp); (try omega))]; go_simp
      have k1_1_2 : w1.cell? ⟨w.heap.size + 1, 2, none⟩ = some (.string t2) := by rw [hc1 _ _ (by (try simp); (try omega))]; go_simp
      have k1_2_0 : w1.cell? ⟨w.heap.size + 2, 0, none⟩ = some (.int .i64 0) := by rw [hc1 _ _ (by (try simp); (try omega))]; go_simp
      have k1_2_1 : w1.cell? ⟨w.heap.size + 2, 1, none⟩ = some (.int .i64 0) := by rw [hc1 _ _ (by (try simp); (try omega))]; go_simp
      have k1_2_2 : w1.cell? ⟨w.heap.size + 2, 2, none⟩ = some (.string ⟨#[]⟩) := by rw [hc1 _ _ (by (try simp); (try omega))]; go_simp
      clear hc1
      go_wp2_with fail
      refine (zam n2 d2 t2 _).mono ?_
      rintro e w2 ⟨rfl, hb2⟩
      obtain ⟨hc2, hf2⟩ := bcell hb2
      have B2 : Below w.heap.size w w2 := zai (by go_grown) (Nat.le_refl _) hb2
      have z2 : w.heap.size ≤ w2.heap.size := B2.size
      have y2_0 : w.heap.size < w2.heap.size := by have := hb2.size; (try simp at this); omega
      have y2_1 : w.heap.size + 1 < w2.heap.size := by have := hb2.size; (try simp at this); omega
      have y2_2 : w.heap.size + 2 < w2.heap.size := by have := hb2.size; (try simp at this); omega
      have k2_0_0 : w2.cell? ⟨w.heap.size, 0, none⟩ = some (.int .i64 n1) := by rw [hc2 _ _ (by (try simp); (try omega))]; go_simp
      have k2_0_1 : w2.cell? ⟨w.heap.size, 1, none⟩ = some (.int .i64 d1) := by rw [hc2 _ _ (by (try simp); (try omega))]; go_simp
      have k2_0_2 : w2.cell? ⟨w.heap.size, 2, none⟩ = some (.string t1) := by rw [hc2 _ _ (by (try simp); (try omega))]; go_simp
      have k2_1_0 : w2.cell? ⟨w.heap.size + 1, 0, none⟩ = some (.int .i64 n2) := by rw [hc2 _ _ (by (try simp); (try omega))]; go_simp
      have k2_1_1 : w2.cell? ⟨w.heap.size + 1, 1, none⟩ = some (.int .i64 d2) := by rw [hc2 _ _ (by (try simp); (try omega))]; go_simp
      have k2_1_2 : w2.cell? ⟨w.heap.size + 1, 2, none⟩ = some (.string t2) := by rw [hc2 _ _ (by (try simp); (try omega))]; go_simp
      have k2_2_0 : w2.cell? ⟨w.heap.size + 2, 0, none⟩ = some (.int .i64 0) := by rw [hc2 _ _ (by (try simp); (try omega))]; go_simp
      have k2_2_1 : w2.cell? ⟨w.heap.size + 2, 1, none⟩ = some (.int .i64 0) := by rw [hc2 _ _ (by (try simp); (try omega))]; go_simp
      have k2_2_2 : w2.cell? ⟨w.heap.size + 2, 2, none⟩ = some (.string ⟨#[]⟩) := by rw [hc2 _ _ (by (try simp); (try omega))]; go_simp
      clear hc2
      go_wp2_with fail
      exact bodyPost_ret (v := .agg #[.int .i64 0, .int .i64 0, .string ⟨#[]⟩]) (by simp [results, Tryz.results76, go_sem, *]) rfl ⟨zar HM.out, by go_grown⟩
    · have hyes := op2_yes (r := Nm.mk (n1 * n2) (d1 * d2)) h1 h2
      obtain ⟨a1, a2, a3, a4⟩ := zaz h1
      obtain ⟨b1, b2, b3, b4⟩ := zaz h2
      obtain ⟨m1, m2⟩ := zax (a := n1) (b := d2) (by omega) (by omega)
      obtain ⟨m3, m4⟩ := zax (a := n2) (b := d1) (by omega) (by omega)
      obtain ⟨m5, m6⟩ := zax (a := d1) (b := d2) (by omega) (by omega)
      obtain ⟨m7, m8⟩ := zax (a := n1) (b := n2) (by omega) (by omega)
      obtain ⟨m9, m10⟩ := zax (a := d1) (b := n2) (by omega) (by omega)
      have HM := Lib.hid (show mulI n1 d1 t1 n2 d2 t2 = _ from hyes)
      clear hyes
      go_enter Tryz.func76, Tryz.ntmps76
      go_wp2_with fail
      refine (zam n1 d1 t1 _).mono ?_
      rintro e w1 ⟨rfl, hb1⟩
      obtain ⟨hc1, hf1⟩ := bcell hb1
      have B1 : Below w.heap.size w w1 := zai (by go_grown) (Nat.le_refl _) hb1
      have z1 : w.heap.size ≤ w1.heap.size := B1.size
      have y1_0 : w.heap.size < w1.heap.size := by have := hb1.size; (try simp at this); omega
      have y1_1 : w.heap.size + 1 < w1.heap.size := by have := hb1.size; (try simp at this); omega
      have y1_2 : w.heap.size + 2 < w1.heap.size := by have := hb1.size; (try simp at this); omega
      have k1_0_0 : w1.cell? ⟨w.heap.size, 0, none⟩ = some (.int .i64 n1) := by rw [hc1 _ _ (by (try simp); (try omega))]; go_simp
      have k1_0_1 : w1.cell? ⟨w.heap.size, 1, none⟩ = some (.int .i64 d1) := by rw [hc1 _ _ (by (try simp); (try omega))]; go_simp
      have k1_0_2 : w1.cell? ⟨w.heap.size, 2, none⟩ = some (.string t1) := by rw [hc1 _ _ (by (try simp); (try omega))]; go_simp
      have k1_1_0 : w1.cell? ⟨w.heap.size + 1, 0, none⟩ = some (.int .i64 n2) := by rw [hc1 _ _ (by (try simp); (try omega))]; go_simp
      have k1_1_1 : w1.cell? ⟨w.heap.size + 1, 1, none⟩ = some (.int .i64 d2) := by rw [hc1 _ _ (by (try simp); (try omega))]; go_simp
      have k1_1_2 : w1.cell? ⟨w.heap.size + 1, 2, none⟩ = some (.string t2) := by rw [hc1 _ _ (by (try simp); (try omega))]; go_simp
      have k1_2_0 : w1.cell? ⟨w.heap.size + 2, 0, none⟩ = some (.int .i64 0) := by rw [hc1 _ _ (by (try simp); (try omega))]; go_simp
      have k1_2_1 : w1.cell? ⟨w.heap.size + 2, 1, none⟩ = some (.int .i64 0) := by rw [hc1 _ _ (by (try simp); (try omega))]; go_simp
      have k1_2_2 : w1.cell? ⟨w.heap.size + 2, 2, none⟩ = some (.string ⟨#[]⟩) := by rw [hc1 _ _ (by (try simp); (try omega))]; go_simp
      clear hc1
      go_wp2_with fail
      refine (zam n2 d2 t2 _).mono ?_
      rintro e w2 ⟨rfl, hb2⟩
      obtain ⟨hc2, hf2⟩ := bcell hb2
      have B2 : Below w.heap.size w w2 := zai (by go_grown) (Nat.le_refl _) hb2
      have z2 : w.heap.size ≤ w2.heap.size := B2.size
      have y2_0 : w.heap.size < w2.heap.size := by have := hb2.size; (try simp at this); omega
      have y2_1 : w.heap.size + 1 < w2.heap.size := by have := hb2.size; (try simp at this); omega
      have y2_2 : w.heap.size + 2 < w2.heap.size := by have := hb2.size; (try simp at this); omega
      have k2_0_0 : w2.cell? ⟨w.heap.size, 0, none⟩ = some (.int .i64 n1) := by rw [hc2 _ _ (by (try simp); (try omega))]; go_simp
      have k2_0_1 : w2.cell? ⟨w.heap.size, 1, none⟩ = some (.int .i64 d1) := by rw [hc2 _ _ (by (try simp); (try omega))]; go_simp
      have k2_0_2 : w2.cell? ⟨w.heap.size, 2, none⟩ = some (.string t1) := by rw [hc2 _ _ (by (try simp); (try omega))]; go_simp
      have k2_1_0 : w2.cell? ⟨w.heap.size + 1, 0, none⟩ = some (.int .i64 n2) := by rw [hc2 _ _ (by (try simp); (try omega))]; go_simp
      have k2_1_1 : w2.cell? ⟨w.heap.size + 1, 1, none⟩ = some (.int .i64 d2) := by rw [hc2 _ _ (by (try simp); (try omega))]; go_simp
      have k2_1_2 : w2.cell? ⟨w.heap.size + 1, 2, none⟩ = some (.string t2) := by rw [hc2 _ _ (by (try simp); (try omega))]; go_simp
      have k2_2_0 : w2.cell? ⟨w.heap.size + 2, 0, none⟩ = some (.int .i64 0) := by rw [hc2 _ _ (by (try simp); (try omega))]; go_simp
      have k2_2_1 : w2.cell? ⟨w.heap.size + 2, 1, none⟩ = some (.int .i64 0) := by rw [hc2 _ _ (by (try simp); (try omega))]; go_simp
      have k2_2_2 : w2.cell? ⟨w.heap.size + 2, 2, none⟩ = some (.string ⟨#[]⟩) := by rw [hc2 _ _ (by (try simp); (try omega))]; go_simp
      clear hc2
      go_wp2_with fail
      refine (spec_make (n1 * n2) (d1 * d2) _ (by omega) (by omega)).mono ?_
      rintro e w3 ⟨rfl, hb3⟩
      obtain ⟨hc3, hf3⟩ := bcell hb3
      have B3 : Below w.heap.size w w3 := zai (by go_grown) (Nat.le_refl _) hb3
      have z3 : w.heap.size ≤ w3.heap.size := B3.size
      have y3_0 : w.heap.size < w3.heap.size := by have := hb3.size; (try simp at this); omega
      have y3_1 : w.heap.size + 1 < w3.heap.size := by have := hb3.size; (try simp at this); omega
      have y3_2 : w.heap.size + 2 < w3.heap.size := by have := hb3.size; (try simp at this); omega
      have k3_0_0 : w3.cell? ⟨w.heap.size, 0, none⟩ = some (.int .i64 n1) := by rw [hc3 _ _ (by (try simp); (try omega))]; go_simp
      have k3_0_1 : w3.cell? ⟨w.heap.size, 1, none⟩ = some (.int .i64 d1) := by rw [hc3 _ _ (by (try simp); (try omega))]; go_simp
      have k3_0_2 : w3.cell? ⟨w.heap.size, 2, none⟩ = some (.string t1) := by rw [hc3 _ _ (by (try simp); (try omega))]; go_simp
      have k3_1_0 : w3.cell? ⟨w.heap.size + 1, 0, none⟩ = some (.int .i64 n2) := by rw [hc3 _ _ (by (try simp); (try omega))]; go_simp
      have k3_1_1 : w3.cell? ⟨w.heap.size + 1, 1, none⟩ = some (.int .i64 d2) := by rw [hc3 _ _ (by (try simp); (try omega))]; go_simp
      have k3_1_2 : w3.cell? ⟨w.heap.size + 1, 2, none⟩ = some (.string t2) := by rw [hc3 _ _ (by (try simp); (try omega))]; go_simp
      have k3_2_0 : w3.cell? ⟨w.heap.size + 2, 0, none⟩ = some (.int .i64 0) := by rw [hc3 _ _ (by (try simp); (try omega))]; go_simp
      have k3_2_1 : w3.cell? ⟨w.heap.size + 2, 1, none⟩ = some (.int .i64 0) := by rw [hc3 _ _ (by (try simp); (try omega))]; go_simp
      have k3_2_2 : w3.cell? ⟨w.heap.size + 2, 2, none⟩ = some (.string ⟨#[]⟩) := by rw [hc3 _ _ (by (try simp); (try omega))]; go_simp
      clear hc3
      go_wp2_with fail
      exact bodyPost_ret (v := .agg #[.int .i64 (Nm.mk (n1 * n2) (d1 * d2)).1, .int .i64 (Nm.mk (n1 * n2) (d1 * d2)).2, .string ⟨#[]⟩]) (by simp [results, Tryz.results76, go_sem, *]) rfl ⟨zar HM.out, by go_grown⟩

theorem spec_div (n1 d1 n2 d2 : Int) (t1 t2 : ByteArray) (w : World) :
    Calls Tryz.prog 77 #[.agg #[.int .i64 n1, .int .i64 d1, .string t1], .agg #[.int .i64 n2, .int .i64 d2, .string t2]] w fun e w' =>
      e = .returned (.agg #[.int .i64 (divI n1 d1 t1 n2 d2 t2).1, .int .i64 (divI n1 d1 t1 n2 d2 t2).2, .string ⟨#[]⟩]) ∧ Below w.heap.size w w' := by
  cases h1 : zas n1 d1 t1
  · have HM := Lib.hid (show divI n1 d1 t1 n2 d2 t2 = (0, 0) from op2_no1 h1)
    go_enter Tryz.func77, Tryz.ntmps77
    go_wp2_with fail
    refine (zam n1 d1 t1 _).mono ?_
    rintro e w1 ⟨rfl, hb1⟩
    obtain ⟨hc1, hf1⟩ := bcell hb1
    have B1 : Below w.heap.size w w1 := zai (by go_grown) (Nat.le_refl _) hb1
    have z1 : w.heap.size ≤ w1.heap.size := B1.size
    have y1_0 : w.heap.size < w1.heap.size := by have := hb1.size; (try simp at this); omega
    have y1_1 : w.heap.size + 1 < w1.heap.size := by have := hb1.size; (try simp at this); omega
    have y1_2 : w.heap.size + 2 < w1.heap.size := by have := hb1.size; (try simp at this); omega
    have k1_0_0 : w1.cell? ⟨w.heap.size, 0, none⟩ = some (.int .i64 n1) := by rw [hc1 _ _ (by (try simp); (try omega))]; go_simp
    have k1_0_1 : w1.cell? ⟨w.heap.size, 1, none⟩ = some (.int .i64 d1) := by rw [hc1 _ _ (by (try simp); (try omega))]; go_simp
    have k1_0_2 : w1.cell? ⟨w.heap.size, 2, none⟩ = some (.string t1) := by rw [hc1 _ _ (by (try simp); (try omega))]; go_simp
    have k1_1_0 : w1.cell? ⟨w.heap.size + 1, 0, none⟩ = some (.int .i64 n2) := by rw [hc1 _ _ (by (try simp); (try omega))]; go_simp
    have k1_1_1 : w1.cell? ⟨w.heap.size + 1, 1, none⟩ = some (.int .i64 d2) := by rw [hc1 _ _ (by (try simp); (try omega))]; go_simp
    have k1_1_2 : w1.cell? ⟨w.heap.size + 1, 2, none⟩ = some (.string t2) := by rw [hc1 _ _ (by (try simp); (try omega))]; go_simp
    have k1_2_0 : w1.cell? ⟨w.heap.size + 2, 0, none⟩ = some (.int .i64 0) := by rw [hc1 _ _ (by (try simp); (try omega))]; go_simp
    have k1_2_1 : w1.cell? ⟨w.heap.size + 2, 1, none⟩ = some (.int .i64 0) := by rw [hc1 _ _ (by (try simp); (try omega))]; go_simp
    have k1_2_2 : w1.cell? ⟨w.heap.size + 2, 2, none⟩ = some (.string ⟨#[]⟩) := by rw [hc1 _ _ (by (try simp); (try omega))]; go_simp
    clear hc1
    go_wp2_with fail
    exact bodyPost_ret (v := .agg #[.int .i64 0, .int .i64 0, .string ⟨#[]⟩]) (by simp [results, Tryz.results77, go_sem, *]) rfl ⟨zar HM.out, by go_grown⟩
  · cases h2 : zas n2 d2 t2
    · have HM := Lib.hid (show divI n1 d1 t1 n2 d2 t2 = (0, 0) from zbl h2)
      go_enter Tryz.func77, Tryz.ntmps77
      go_wp2_with fail
      refine (zam n1 d1 t1 _).mono ?_
      rintro e w1 ⟨rfl, hb1⟩
      obtain ⟨hc1, hf1⟩ := bcell hb1
      have B1 : Below w.heap.size w w1 := zai (by go_grown) (Nat.le_refl _) hb1
      have z1 : w.heap.size ≤ w1.heap.size := B1.size
      have y1_0 : w.heap.size < w1.heap.size := by have := hb1.size; (try simp at this); omega
      have y1_1 : w.heap.size + 1 < w1.heap.size := by have := hb1.size; (try simp at this); omega
      have y1_2 : w.heap.size + 2 < w1.heap.size := by have := hb1.size; (try simp at this); omega
      have k1_0_0 : w1.cell? ⟨w.heap.size, 0, none⟩ = some (.int .i64 n1) := by rw [hc1 _ _ (by (try simp); (try omega))]; go_simp
      have k1_0_1 : w1.cell? ⟨w.heap.size, 1, none⟩ = some (.int .i64 d1) := by rw [hc1 _ _ (by (try simp); (try omega))]; go_simp
      have k1_0_2 : w1.cell? ⟨w.heap.size, 2, none⟩ = some (.string t1) := by rw [hc1 _ _ (by (try simp); (try omega))]; go_simp
      have k1_1_0 : w1.cell? ⟨w.heap.size + 1, 0, none⟩ = some (.int .i64 n2) := by rw [hc1 _ _ (by (try simp); (try omega))]; go_simp
      have k1_1_1 : w1.cell? ⟨w.heap.size + 1, 1, none⟩ = some (.int .i64 d2) := by rw [hc1 _ _ (by (try simp); (try omega))]; go_simp
      have k1_1_2 : w1.cell? ⟨w.heap.size + 1, 2, none⟩ = some (.string t2) := by rw [hc1 _ _ (by (try simp); (try omega))]; go_simp
      have k1_2_0 : w1.cell? ⟨w.heap.size + 2, 0, none⟩ = some (.int .i64 0) := by rw [hc1 _ _ (by (try simp); (try omega))]; go_simp
      have k1_2_1 : w1.cell? ⟨w.heap.size + 2, 1, none⟩ = some (.int .i64 0) := by rw [hc1 _ _ (by (try simp); (try omega))]; go_simp
      have k1_2_2 : w1.cell? ⟨w.heap.size + 2, 2, none⟩ = some (.string ⟨#[]⟩) := by rw [hc1 _ _ (by (try simp); (try omega))]; go_simp
      clear hc1
      go_wp2_with fail
      refine (zam n2 d2 t2 _).mono ?_
      rintro e w2 ⟨rfl, hb2⟩
      obtain ⟨hc2, hf2⟩ := bcell hb2
      have B2 : Below w.heap.size w w2 := zai (by go_grown) (Nat.le_refl _) hb2
      have z2 : w.heap.size ≤ w2.heap.size := B2.size
      have y2_0 : w.heap.size < w2.heap.size := by have := hb2.size; (try simp at this); omega
      have y2_1 : w.heap.size + 1 < w2.heap.size := by have := hb2.size; (try simp at this); omega
      have y2_2 : w.heap.size + 2 < w2.heap.size := by have := hb2.size; (try simp at this); omega
      have k2_0_0 : w2.cell? ⟨w.heap.size, 0, none⟩ = some (.int .i64 n1) := by rw [hc2 _ _ (by (try simp); (try omega))]; go_simp
      have k2_0_1 : w2.cell? ⟨w.heap.size, 1, none⟩ = some (.int .i64 d1) := by rw [hc2 _ _ (by (try simp); (try omega))]; go_simp
      have k2_0_2 : w2.cell? ⟨w.heap.size, 2, none⟩ = some (.string t1) := by rw [hc2 _ _ (by (try simp); (try omega))]; go_simp
      have k2_1_0 : w2.cell? ⟨w.heap.size + 1, 0, none⟩ = some (.int .i64 n2) := by rw [hc2 _ _ (by (try simp); (try omega))]; go_simp
      have k2_1_1 : w2.cell? ⟨w.heap.size + 1, 1, none⟩ = some (.int .i64 d2) := by rw [hc2 _ _ (by (try simp); (try omega))]; go_simp
      have k2_1_2 : w2.cell? ⟨w.heap.size + 1, 2, none⟩ = some (.string t2) := by rw [hc2 _ _ (by (try simp); (try omega))]; go_simp
      have k2_2_0 : w2.cell? ⟨w.heap.size + 2, 0, none⟩ = some (.int .i64 0) := by rw [hc2 _ _ (by (try simp); (try omega))]; go_simp
      have k2_2_1 : w2.cell? ⟨w.heap.size + 2, 1, none⟩ = some (.int .i64 0) := by rw [hc2 _ _ (by (try simp); (try omega))]; go_simp
      have k2_2_2 : w2.cell? ⟨w.heap.size + 2, 2, none⟩ = some (.string ⟨#[]⟩) := by rw [hc2 _ _ (by (try simp); (try omega))]; go_simp
      clear hc2
      go_wp2_with fail
      exact bodyPost_ret (v := .agg #[.int .i64 0, .int .i64 0, .string ⟨#[]⟩]) (by simp [results, Tryz.results77, go_sem, *]) rfl ⟨zar HM.out, by go_grown⟩
    · have hyes := op2_yes (r := Nm.mk (n1 * d2) (d1 * n2)) h1 h2
      obtain ⟨a1, a2, a3, a4⟩ := zaz h1
      obtain ⟨b1, b2, b3, b4⟩ := zaz h2
      obtain ⟨m1, m2⟩ := zax (a := n1) (b := d2) (by omega) (by omega)
      obtain ⟨m3, m4⟩ := zax (a := n2) (b := d1) (by omega) (by omega)
      obtain ⟨m5, m6⟩ := zax (a := d1) (b := d2) (by omega) (by omega)
      obtain ⟨m7, m8⟩ := zax (a := n1) (b := n2) (by omega) (by omega)
      obtain ⟨m9, m10⟩ := zax (a := d1) (b := n2) (by omega) (by omega)
      have HM := Lib.hid (show divI n1 d1 t1 n2 d2 t2 = _ from hyes)
      clear hyes
      go_enter Tryz.func77, Tryz.ntmps77
      go_wp2_with fail
      refine (zam n1 d1 t1 _).mono ?_
      rintro e w1 ⟨rfl, hb1⟩
      obtain ⟨hc1, hf1⟩ := bcell hb1
      have B1 : Below w.heap.size w w1 := zai (by go_grown) (Nat.le_refl _) hb1
      have z1 : w.heap.size ≤ w1.heap.size := B1.size
      have y1_0 : w.heap.size < w1.heap.size := by have := hb1.size; (try simp at this); omega
      have y1_1 : w.heap.size + 1 < w1.heap.size := by have := hb1.size; (try simp at this); omega
      have y1_2 : w.heap.size + 2 < w1.heap.size := by have := hb1.size; (try simp at this); omega
      have k1_0_0 : w1.cell? ⟨w.heap.size, 0, none⟩ = some (.int .i64 n1) := by rw [hc1 _ _ (by (try simp); (try omega))]; go_simp
      have k1_0_1 : w1.cell? ⟨w.heap.size, 1, none⟩ = some (.int .i64 d1) := by rw [hc1 _ _ (by (try simp); (try omega))]; go_simp
      have k1_0_2 : w1.cell? ⟨w.heap.size, 2, none⟩ = some (.string t1) := by rw [hc1 _ _ (by (try simp); (try omega))]; go_simp
      have k1_1_0 : w1.cell? ⟨w.heap.size + 1, 0, none⟩ = some (.int .i64 n2) := by rw [hc1 _ _ (by (try simp); (try omega))]; go_simp
      have k1_1_1 : w1.cell? ⟨w.heap.size + 1, 1, none⟩ = some (.int .i64 d2) := by rw [hc1 _ _ (by (try simp); (try omega))]; go_simp
      have k1_1_2 : w1.cell? ⟨w.heap.size + 1, 2, none⟩ = some (.string t2) := by rw [hc1 _ _ (by (try simp); (try omega))]; go_simp
      have k1_2_0 : w1.cell? ⟨w.heap.size + 2, 0, none⟩ = some (.int .i64 0) := by rw [hc1 _ _ (by (try simp); (try omega))]; go_simp
      have k1_2_1 : w1.cell? ⟨w.heap.size + 2, 1, none⟩ = some (.int .i64 0) := by rw [hc1 _ _ (by (try simp); (try omega))]; go_simp
      have k1_2_2 : w1.cell? ⟨w.heap.size + 2, 2, none⟩ = some (.string ⟨#[]⟩) := by rw [hc1 _ _ (by (try simp); (try omega))]; go_simp
      clear hc1
      go_wp2_with fail
      refine (zam n2 d2 t2 _).mono ?_
      rintro e w2 ⟨rfl, hb2⟩
      obtain ⟨hc2, hf2⟩ := bcell hb2
      have B2 : Below w.heap.size w w2 := zai (by go_grown) (Nat.le_refl _) hb2
      have z2 : w.heap.size ≤ w2.heap.size := B2.size
      have y2_0 : w.heap.size < w2.heap.size := by have := hb2.size; (try simp at this); omega
      have y2_1 : w.heap.size + 1 < w2.heap.size := by have := hb2.size; (try simp at this); omega
      have y2_2 : w.heap.size + 2 < w2.heap.size := by have := hb2.size; (try simp at this); omega
      have k2_0_0 : w2.cell? ⟨w.heap.size, 0, none⟩ = some (.int .i64 n1) := by rw [hc2 _ _ (by (try simp); (try omega))]; go_simp
      have k2_0_1 : w2.cell? ⟨w.heap.size, 1, none⟩ = some (.int .i64 d1) := by rw [hc2 _ _ (by (try simp); (try omega))]; go_simp
      have k2_0_2 : w2.cell? ⟨w.heap.size, 2, none⟩ = some (.string t1) := by rw [hc2 _ _ (by (try simp); (try omega))]; go_simp
      have k2_1_0 : w2.cell? ⟨w.heap.size + 1, 0, none⟩ = some (.int .i64 n2) := by rw [hc2 _ _ (by (try simp); (try omega))]; go_simp
      have k2_1_1 : w2.cell? ⟨w.heap.size + 1, 1, none⟩ = some (.int .i64 d2) := by rw [hc2 _ _ (by (try simp); (try omega))]; go_simp
      have k2_1_2 : w2.cell? ⟨w.heap.size + 1, 2, none⟩ = some (.string t2) := by rw [hc2 _ _ (by (try simp); (try omega))]; go_simp
      have k2_2_0 : w2.cell? ⟨w.heap.size + 2, 0, none⟩ = some (.int .i64 0) := by rw [hc2 _ _ (by (try simp); (try omega))]; go_simp
      have k2_2_1 : w2.cell? ⟨w.heap.size + 2, 1, none⟩ = some (.int .i64 0) := by rw [hc2 _ _ (by (try simp); (try omega))]; go_simp
      have k2_2_2 : w2.cell? ⟨w.heap.size + 2, 2, none⟩ = some (.string ⟨#[]⟩) := by rw [hc2 _ _ (by (try simp); (try omega))]; go_simp
      clear hc2
      go_wp2_with fail
      refine (spec_make (n1 * d2) (d1 * n2) _ (by omega) (by omega)).mono ?_
      rintro e w3 ⟨rfl, hb3⟩
      obtain ⟨hc3, hf3⟩ := bcell hb3
      have B3 : Below w.heap.size w w3 := zai (by go_grown) (Nat.le_refl _) hb3
      have z3 : w.heap.size ≤ w3.heap.size := B3.size
      have y3_0 : w.heap.size < w3.heap.size := by have := hb3.size; (try simp at this); omega
      have y3_1 : w.heap.size + 1 < w3.heap.size := by have := hb3.size; (try simp at this); omega
      have y3_2 : w.heap.size + 2 < w3.heap.size := by have := hb3.size; (try simp at this); omega
      have k3_0_0 : w3.cell? ⟨w.heap.size, 0, none⟩ = some (.int .i64 n1) := by rw [hc3 _ _ (by (try simp); (try omega))]; go_simp
      have k3_0_1 : w3.cell? ⟨w.heap.size, 1, none⟩ = some (.int .i64 d1) := by rw [hc3 _ _ (by (try simp); (try omega))]; go_simp
      have k3_0_2 : w3.cell? ⟨w.heap.size, 2, none⟩ = some (.string t1) := by rw [hc3 _ _ (by (try simp); (try omega))]; go_simp
      have k3_1_0 : w3.cell? ⟨w.heap.size + 1, 0, none⟩ = some (.int .i64 n2) := by rw [hc3 _ _ (by (try simp); (try omega))]; go_simp
      have k3_1_1 : w3.cell? ⟨w.heap.size + 1, 1, none⟩ = some (.int .i64 d2) := by rw [hc3 _ _ (by (try simp); (try omega))]; go_simp
      have k3_1_2 : w3.cell? ⟨w.heap.size + 1, 2, none⟩ = some (.string t2) := by rw [hc3 _ _ (by (try simp); (try omega))]; go_simp
      have k3_2_0 : w3.cell? ⟨w.heap.size + 2, 0, none⟩ = some (.int .i64 0) := by rw [hc3 _ _ (by (try simp); (try omega))]; go_simp
      have k3_2_1 : w3.cell? ⟨w.heap.size + 2, 1, none⟩ = some (.int .i64 0) := by rw [hc3 _ _ (by (try simp); (try omega))]; go_simp
      have k3_2_2 : w3.cell? ⟨w.heap.size + 2, 2, none⟩ = some (.string ⟨#[]⟩) := by rw [hc3 _ _ (by (try simp); (try omega))]; go_simp
      clear hc3
      go_wp2_with fail
      exact bodyPost_ret (v := .agg #[.int .i64 (Nm.mk (n1 * d2) (d1 * n2)).1, .int .i64 (Nm.mk (n1 * d2) (d1 * n2)).2, .string ⟨#[]⟩]) (by simp [results, Tryz.results77, go_sem, *]) rfl ⟨zar HM.out, by go_grown⟩

end Go.Proofs.YtmofcbpabdbjlaaGreat
