/-
  What is proved: what the functions on numbers (negate, add, subtract, multiply, divide, floor, round, compare, quotient, remainder, of the program and of the reference) return.
  Condition: items of 64-bit ints.
-/
import Derived.Test.YtmofcbpabdbjlaaRq24
namespace Go.Proofs.Ytmofcbpabdbjlaa

set_option maxRecDepth 8000

open Go.RowKit

set_option linter.unusedVariables false

set_option linter.unusedSimpArgs false

theorem impl_add (n1 d1 n2 d2 : Int) (t1 t2 : ByteArray) (w : World) :
    Calls Try.prog 172 #[.agg #[.int .i64 n1, .int .i64 d1, .string t1], .agg #[.int .i64 n2, .int .i64 d2, .string t2]] w fun e w' =>
      e = .returned (.agg #[.int .i64 (addI n1 d1 t1 n2 d2 t2).1, .int .i64 (addI n1 d1 t1 n2 d2 t2).2, .string ⟨#[]⟩]) ∧ Below w.heap.size w w' := by
  cases h1 : zax n1 d1 t1
  · have HM := Lib.hid (show addI n1 d1 t1 n2 d2 t2 = (0, 0) from op2_no1 h1)
    go_enter Try.func172, Try.ntmps172
    go_wp2_with fail
    refine (zao n1 d1 t1 _).mono ?_
    rintro e w1 ⟨rfl, hb1⟩
    obtain ⟨hc1, hf1⟩ := bcell hb1
    have B1 : Below w.heap.size w w1 := zap (by go_grown) (Nat.le_refl _) hb1
    have z1 : w.heap.size ≤ w1.heap.size := B1.size
    have y1_0 : w.heap.size < w1.heap.size := by have := hb1.size; (try simp at this); omega
    have y1_1 : w.heap.size + 1 < w1.heap.size := by have := hb1.size; (try simp at this); omega
    have y1_2 : w.heap.size + 2 < w1.heap.size := by have := hb1.size; (try simp at this); omega
    have k1_0_0 : w1.cell? ⟨w.heap.size, 0, none⟩ = some (.int .i64 n1) := by rw [hc1 _ _ (by (try simp); (try omega))]; go_simp
    have k1_0_1 : w1.cell? ⟨w.heap.size, 1, none⟩ = some (.int .i64 d1) := by rw [hc1 _ _ (by (try simp); (try omega))]; go_simp
    have k1_0_2 : w1.cell? ⟨w.heap.size, 2, none⟩ = some (.string t1) := by rw [hc1 _ _ (by (try simp); (try omega))]; go_simp
    have k1_1_0 : w1.cell? ⟨w.heap.size + 1, 0, none⟩ = some (.int .i64 n2) := by rw [hc1 _ _ (by (try simp); (try omega))]; go_simp
    have k1_1_1 : w1.cell? ⟨w.heap.size + 1, 1, none⟩ = some (.int .i64 d2) := by rw [hc1 _ _ (by (try simp); (try omega))]; go_simp
    have k1_1_2 : w1.cell? ⟨w.heap.size + 1, 2, none⟩ = some (.string t2) := by rw [hc1 _ _ (by (try simp); (try omega))]; go_simp
    have k1_2_0 : w1.cell? ⟨w.heap.size + 2, 0, none⟩ = some (.int .i64 0) := by rw [hc1 _ _ (by (try simp); (try omega))]; go_simp
    have k1_2_1 : w1.cell? ⟨w.heap.size + 2, 1, none⟩ = some (.int .i64 0) := by rw [hc1 _ _ (by (try simp); (try omega))]; go_simp
    have k1_2_2 : w1.cell? ⟨w.heap.size + 2, 2, none⟩ = some (.string ⟨#[]⟩) := by rw [hc1 _ _ (by (try simp); (try omega))]; go_simp
    clear hc1
    go_wp2_with fail
    exact bodyPost_ret (v := .agg #[.int .i64 0, .int .i64 0, .string ⟨#[]⟩]) (by simp [results, Try.results172, go_sem, *]) rfl ⟨zau HM.out, by go_grown⟩
  · cases h2 : zax n2 d2 t2
    · have HM := Lib.hid (show addI n1 d1 t1 n2 d2 t2 = (0, 0) from op2_no2 h2)
      go_enter Try.func172, Try.ntmps172
      go_wp2_with fail
      refine (zao n1 d1 t1 _).mono ?_
      rintro e w1 ⟨rfl, hb1⟩
      obtain ⟨hc1, hf1⟩ := bcell hb1
      have B1 : Below w.heap.size w w1 := zap (by go_grown) (Nat.le_refl _) hb1
      have z1 : w.heap.size ≤ w1.heap.size := B1.size
      have y1_0 : w.heap.size < w1.heap.size := by have := hb1.size; (try simp at this); omega
      have y1_1 : w.heap.size + 1 < w1.heap.size := by have := hb1.size; (try simp at this); omega
      have y1_2 : w.heap.size + 2 < w1.heap.size := by have := hb1.size; (try simp at this); omega
      have k1_0_0 : w1.cell? ⟨w.heap.size, 0, none⟩ = some (.int .i64 n1) := by rw [hc1 _ _ (by (try simp); (try omega))]; go_simp
      have k1_0_1 : w1.cell? ⟨w.heap.size, 1, none⟩ = some (.int .i64 d1) := by rw [hc1 _ _ (by (try simp); (try omega))]; go_simp
      have k1_0_2 : w1.cell? ⟨w.heap.size, 2, none⟩ = some (.string t1) := by rw [hc1 _ _ (by (try simp); (try omega))]; go_simp
      have k1_1_0 : w1.cell? ⟨w.heap.size + 1, 0, none⟩ = some (.int .i64 n2) := by rw [hc1 _ _ (by (try simp); (try omega))]; go_simp
      have k1_1_1 : w1.cell? ⟨w.heap.size + 1, 1, none⟩ = some (.int .i64 d2) := by rw [hc1 _ _ (by (try simp); (try omega))]; go_simp
      have k1_1_2 : w1.cell? ⟨w.heap.size + 1, 2, none⟩ = some (.string t2) := by rw [hc1 _ _ (by (try simp); (try omega))]; go_simp
      have k1_2_0 : w1.cell? ⟨w.heap.size + 2, 0, none⟩ = some (.int .i64 0) := by rw [hc1 _ _ (by (try simp); (try omega))]; go_simp
      have k1_2_1 : w1.cell? ⟨w.heap.size + 2, 1, none⟩ = some (.int .i64 0) := by rw [hc1 _ _ (by (try simp); (try omega))]; go_simp
      have k1_2_2 : w1.cell? ⟨w.heap.size + 2, 2, none⟩ = some (.string ⟨#[]⟩) := by rw [hc1 _ _ (by (try simp); (try omega))]; go_simp
      clear hc1
      go_wp2_with fail
      refine (zao n2 d2 t2 _).mono ?_
      rintro e w2 ⟨rfl, hb2⟩
      obtain ⟨hc2, hf2⟩ := bcell hb2
      have B2 : Below w.heap.size w w2 := zap (by go_grown) (Nat.le_refl _) hb2
      have z2 : w.heap.size ≤ w2.heap.size := B2.size
      have y2_0 : w.heap.size < w2.heap.size := by have := hb2.size; (try simp at this); omega
      have y2_1 : w.heap.size + 1 < w2.heap.size := by have := hb2.size; (try simp at this); omega
      have y2_2 : w.heap.size + 2 < w2.heap.size := by have := hb2.size; (try simp at this); omega
      have k2_0_0 : w2.cell? ⟨w.heap.size, 0, none⟩ = some (.int .i64 n1) := by rw [hc2 _ _ (by (try simp); (try omega))]; go_simp
      have k2_0_1 : w2.cell? ⟨w.heap.size, 1, none⟩ = some (.int .i64 d1) := by rw [hc2 _ _ (by (try simp); (try omega))]; go_simp
      have k2_0_2 : w2.cell? ⟨w.heap.size, 2, none⟩ = some (.string t1) := by rw [hc2 _ _ (by (try simp); (try omega))]; go_simp
      have k2_1_0 : w2.cell? ⟨w.heap.size + 1, 0, none⟩ = some (.int .i64 n2) := by rw [hc2 _ _ (by (try simp); (try omega))]; go_simp
      have k2_1_1 : w2.cell? ⟨w.heap.size + 1, 1, none⟩ = some (.int .i64 d2) := by rw [hc2 _ _ (by (try simp); (try omega))]; go_simp
      have k2_1_2 : w2.cell? ⟨w.heap.size + 1, 2, none⟩ = some (.string t2) := by rw [hc2 _ _ (by (try simp); (try omega))]; go_simp
      have k2_2_0 : w2.cell? ⟨w.heap.size + 2, 0, none⟩ = some (.int .i64 0) := by rw [hc2 _ _ (by (try simp); (try omega))]; go_simp
      have k2_2_1 : w2.cell? ⟨w.heap.size + 2, 1, none⟩ = some (.int .i64 0) := by rw [hc2 _ _ (by (try simp); (try omega))]; go_simp
      have k2_2_2 : w2.cell? ⟨w.heap.size + 2, 2, none⟩ = some (.string ⟨#[]⟩) := by rw [hc2 _ _ (by (try simp); (try omega))]; go_simp
      clear hc2
      go_wp2_with fail
      exact bodyPost_ret (v := .agg #[.int .i64 0, .int .i64 0, .string ⟨#[]⟩]) (by simp [results, Try.results172, go_sem, *]) rfl ⟨zau HM.out, by go_grown⟩
    · have hyes := op2_yes (r := Nm.mk (n1 * d2 + n2 * d1) (d1 * d2)) h1 h2
      obtain ⟨a1, a2, a3, a4⟩ := zaz h1
      obtain ⟨b1, b2, b3, b4⟩ := zaz h2
      obtain ⟨m1, m2⟩ := zav (a := n1) (b := d2) (by omega) (by omega)
      obtain ⟨m3, m4⟩ := zav (a := n2) (b := d1) (by omega) (by omega)
      obtain ⟨m5, m6⟩ := zav (a := d1) (b := d2) (by omega) (by omega)
      obtain ⟨m7, m8⟩ := zav (a := n1) (b := n2) (by omega) (by omega)
      obtain ⟨m9, m10⟩ := zav (a := d1) (b := n2) (by omega) (by omega)
      have HM := Lib.hid (show addI n1 d1 t1 n2 d2 t2 = _ from hyes)
      clear hyes
      go_enter Try.func172, Try.ntmps172
      go_wp2_with fail
      refine (zao n1 d1 t1 _).mono ?_
      rintro e w1 ⟨rfl, hb1⟩
      obtain ⟨hc1, hf1⟩ := bcell hb1
      have B1 : Below w.heap.size w w1 := zap (by go_grown) (Nat.le_refl _) hb1
      have z1 : w.heap.size ≤ w1.heap.size := B1.size
      have y1_0 : w.heap.size < w1.heap.size := by have := hb1.size; (try simp at this); omega
      have y1_1 : w.heap.size + 1 < w1.heap.size := by have := hb1.size; (try simp at this); omega
      have y1_2 : w.heap.size + 2 < w1.heap.size := by have := hb1.size; (try simp at this); omega
      have k1_0_0 : w1.cell? ⟨w.heap.size, 0, none⟩ = some (.int .i64 n1) := by rw [hc1 _ _ (by (try simp); (try omega))]; go_simp
      have k1_0_1 : w1.cell? ⟨w.heap.size, 1, none⟩ = some (.int .i64 d1) := by rw [hc1 _ _ (by (try simp); (try omega))]; go_simp
      have k1_0_2 : w1.cell? ⟨w.heap.size, 2, none⟩ = some (.string t1) := by rw [hc1 _ _ (by (try simp); (try omega))]; go_simp
      have k1_1_0 : w1.cell? ⟨w.heap.size + 1, 0, none⟩ = some (.int .i64 n2) := by rw [hc1 _ _ (by (try simp); (try omega))]; go_simp
      have k1_1_1 : w1.cell? ⟨w.heap.size + 1, 1, none⟩ = some (.int .i64 d2) := by rw [hc1 _ _ (by (try simp); (try omega))]; go_simp
      have k1_1_2 : w1.cell? ⟨w.heap.size + 1, 2, none⟩ = some (.string t2) := by rw [hc1 _ _ (by (try simp); (try omega))]; go_simp
      have k1_2_0 : w1.cell? ⟨w.heap.size + 2, 0, none⟩ = some (.int .i64 0) := by rw [hc1 _ _ (by (try simp); (try omega))]; go_simp
      have k1_2_1 : w1.cell? ⟨w.heap.size + 2, 1, none⟩ = some (.int .i64 0) := by rw [hc1 _ _ (by (try simp); (try omega))]; go_simp
      have k1_2_2 : w1.cell? ⟨w.heap.size + 2, 2, none⟩ = some (.string ⟨#[]⟩) := by rw [hc1 _ _ (by (try simp); (try omega))]; go_simp
      clear hc1
      go_wp2_with fail
      refine (zao n2 d2 t2 _).mono ?_
      rintro e w2 ⟨rfl, hb2⟩
      obtain ⟨hc2, hf2⟩ := bcell hb2
      have B2 : Below w.heap.size w w2 := zap (by go_grown) (Nat.le_refl _) hb2
      have z2 : w.heap.size ≤ w2.heap.size := B2.size
      have y2_0 : w.heap.size < w2.heap.size := by have := hb2.size; (try simp at this); omega
      have y2_1 : w.heap.size + 1 < w2.heap.size := by have := hb2.size; (try simp at this); omega
      have y2_2 : w.heap.size + 2 < w2.heap.size := by have := hb2.size; (try simp at this); omega
      have k2_0_0 : w2.cell? ⟨w.heap.size, 0, none⟩ = some (.int .i64 n1) := by rw [hc2 _ _ (by (try simp); (try omega))]; go_simp
      have k2_0_1 : w2.cell? ⟨w.heap.size, 1, none⟩ = some (.int .i64 d1) := by rw [hc2 _ _ (by (try simp); (try omega))]; go_simp
      have k2_0_2 : w2.cell? ⟨w.heap.size, 2, none⟩ = some (.string t1) := by rw [hc2 _ _ (by (try simp); (try omega))]; go_simp
      have k2_1_0 : w2.cell? ⟨w.heap.size + 1, 0, none⟩ = some (.int .i64 n2) := by rw [hc2 _ _ (by (try simp); (try omega))]; go_simp
      have k2_1_1 : w2.cell? ⟨w.heap.size + 1, 1, none⟩ = some (.int .i64 d2) := by rw [hc2 _ _ (by (try simp); (try omega))]; go_simp
      have k2_1_2 : w2.cell? ⟨w.heap.size + 1, 2, none⟩ = some (.string t2) := by rw [hc2 _ _ (by (try simp); (try omega))]; go_simp
      have k2_2_0 : w2.cell? ⟨w.heap.size + 2, 0, none⟩ = some (.int .i64 0) := by rw [hc2 _ _ (by (try simp); (try omega))]; go_simp
      have k2_2_1 : w2.cell? ⟨w.heap.size + 2, 1, none⟩ = some (.int .i64 0) := by rw [hc2 _ _ (by (try simp); (try omega))]; go_simp
      have k2_2_2 : w2.cell? ⟨w.heap.size + 2, 2, none⟩ = some (.string ⟨#[]⟩) := by rw [hc2 _ _ (by (try simp); (try omega))]; go_simp
      clear hc2
      go_wp2_with fail
      refine (impl_make (n1 * d2 + n2 * d1) (d1 * d2) _ (by omega) (by omega)).mono ?_
      rintro e w3 ⟨rfl, hb3⟩
      obtain ⟨hc3, hf3⟩ := bcell hb3
      have B3 : Below w.heap.size w w3 := zap (by go_grown) (Nat.le_refl _) hb3
      have z3 : w.heap.size ≤ w3.heap.size := B3.size
      have y3_0 : w.heap.size < w3.heap.size := by have := hb3.size; (try simp at this); omega
      have y3_1 : w.heap.size + 1 < w3.heap.size := by have := hb3.size; (try simp at this); omega
      have y3_2 : w.heap.size + 2 < w3.heap.size := by have := hb3.size; (try simp at this); omega
      have k3_0_0 : w3.cell? ⟨w.heap.size, 0, none⟩ = some (.int .i64 n1) := by rw [hc3 _ _ (by (try simp); (try omega))]; go_simp
      have k3_0_1 : w3.cell? ⟨w.heap.size, 1, none⟩ = some (.int .i64 d1) := by rw [hc3 _ _ (by (try simp); (try omega))]; go_simp
      have k3_0_2 : w3.cell? ⟨w.heap.size, 2, none⟩ = some (.string t1) := by rw [hc3 _ _ (by (try simp); (try omega))]; go_simp
      have k3_1_0 : w3.cell? ⟨w.heap.size + 1, 0, none⟩ = some (.int .i64 n2) := by rw [hc3 _ _ (by (try simp); (try omega))]; go_simp
      have k3_1_1 : w3.cell? ⟨w.heap.size + 1, 1, none⟩ = some (.int .i64 d2) := by rw [hc3 _ _ (by (try simp); (try omega))]; go_simp
      have k3_1_2 : w3.cell? ⟨w.heap.size + 1, 2, none⟩ = some (.string t2) := by rw [hc3 _ _ (by (try simp); (try omega))]; go_simp
      have k3_2_0 : w3.cell? ⟨w.heap.size + 2, 0, none⟩ = some (.int .i64 0) := by rw [hc3 _ _ (by (try simp); (try omega))]; go_simp
      have k3_2_1 : w3.cell? ⟨w.heap.size + 2, 1, none⟩ = some (.int .i64 0) := by rw [hc3 _ _ (by (try simp); (try omega))]; go_simp
      have k3_2_2 : w3.cell? ⟨w.heap.size + 2, 2, none⟩ = some (.string ⟨#[]⟩) := by rw [hc3 _ _ (by (try simp); (try omega))]; go_simp
      clear hc3
      go_wp2_with fail
      exact bodyPost_ret (v := .agg #[.int .i64 (Nm.mk (n1 * d2 + n2 * d1) (d1 * d2)).1, .int .i64 (Nm.mk (n1 * d2 + n2 * d1) (d1 * d2)).2, .string ⟨#[]⟩]) (by simp [results, Try.results172, go_sem, *]) rfl ⟨zau HM.out, by go_grown⟩

theorem impl_mul (n1 d1 n2 d2 : Int) (t1 t2 : ByteArray) (w : World) :
    Calls Try.prog 174 #[.agg #[.int .i64 n1, .int .i64 d1, .string t1], .agg #[.int .i64 n2, .int .i64 d2, .string t2]] w fun e w' =>
      e = .returned (.agg #[.int .i64 (mulI n1 d1 t1 n2 d2 t2).1, .int .i64 (mulI n1 d1 t1 n2 d2 t2).2, .string ⟨#[]⟩]) ∧ Below w.heap.size w w' := by
  cases h1 : zax n1 d1 t1
  · have HM := Lib.hid (show mulI n1 d1 t1 n2 d2 t2 = (0, 0) from op2_no1 h1)
    go_enter Try.func174, Try.ntmps174
    go_wp2_with fail
    refine (zao n1 d1 t1 _).mono ?_
    rintro e w1 ⟨rfl, hb1⟩
    obtain ⟨hc1, hf1⟩ := bcell hb1
    have B1 : Below w.heap.size w w1 := zap (by go_grown) (Nat.le_refl _) hb1
    have z1 : w.heap.size ≤ w1.heap.size := B1.size
    have y1_0 : w.heap.size < w1.heap.size := by have := hb1.size; (try simp at this); omega
    have y1_1 : w.heap.size + 1 < w1.heap.size := by have := hb1.size; (try simp at this); omega
    have y1_2 : w.heap.size + 2 < w1.heap.size := by have := hb1.size; (try simp at this); omega
    have k1_0_0 : w1.cell? ⟨w.heap.size, 0, none⟩ = some (.int .i64 n1) := by rw [hc1 _ _ (by (try simp); (try omega))]; go_simp
    have k1_0_1 : w1.cell? ⟨w.heap.size, 1, none⟩ = some (.int .i64 d1) := by rw [hc1 _ _ (by (try simp); (try omega))]; go_simp
    have k1_0_2 : w1.cell? ⟨w.heap.size, 2, none⟩ = some (.string t1) := by rw [hc1 _ _ (by (try simp); (try omega))]; go_simp
    have k1_1_0 : w1.cell? ⟨w.heap.size + 1, 0, none⟩ = some (.int .i64 n2) := by rw [hc1 _ _ (by (try simp); (try omega))]; go_simp
    have k1_1_1 : w1.cell? ⟨w.heap.size + 1, 1, none⟩ = some (.int .i64 d2) := by rw [hc1 _ _ (by (try simp); (try omega))]; go_simp
    have k1_1_2 : w1.cell? ⟨w.heap.size + 1, 2, none⟩ = some (.string t2) := by rw [hc1 _ _ (by (try simp); (try omega))]; go_simp
    have k1_2_0 : w1.cell? ⟨w.heap.size + 2, 0, none⟩ = some (.int .i64 0) := by rw [hc1 _ _ (by (try simp); (try omega))]; go_simp
    have k1_2_1 : w1.cell? ⟨w.heap.size + 2, 1, none⟩ = some (.int .i64 0) := by rw [hc1 _ _ (by (try simp); (try omega))]; go_simp
    have k1_2_2 : w1.cell? ⟨w.heap.size + 2, 2, none⟩ = some (.string ⟨#[]⟩) := by rw [hc1 _ _ (by (try simp); (try omega))]; go_simp
    clear hc1
    go_wp2_with fail
    exact bodyPost_ret (v := .agg #[.int .i64 0, .int .i64 0, .string ⟨#[]⟩]) (by simp [results, Try.results174, go_sem, *]) rfl ⟨zau HM.out, by go_grown⟩
  · cases h2 : zax n2 d2 t2
    · have HM := Lib.hid (show mulI n1 d1 t1 n2 d2 t2 = (0, 0) from op2_no2 h2)
      go_enter Try.func174, Try.ntmps174
      go_wp2_with fail
      refine (zao n1 d1 t1 _).mono ?_
      rintro e w1 ⟨rfl, hb1⟩
      obtain ⟨hc1, hf1⟩ := bcell hb1
      have B1 : Below w.heap.size w w1 := zap (by go_grown) (Nat.le_refl _) hb1
      have z1 : w.heap.size ≤ w1.heap.size := B1.size
      have y1_0 : w.heap.size < w1.heap.size := by have := hb1.size; (try simp at this); omega
      have y1_1 : w.heap.size + 1 < w1.heap.size := by have := hb1.size; (try simp at this); omega
      have y1_2 : w.heap.size + 2 < w1.heap.size := by have := hb1.size; (try simp at this); omega
      have k1_0_0 : w1.cell? ⟨w.heap.size, 0, none⟩ = some (.int .i64 n1) := by rw [hc1 _ _ (by (try simp); (try omega))]; go_simp
      have k1_0_1 : w1.cell? ⟨w.heap.size, 1, none⟩ = some (.int .i64 d1) := by rw [hc1 _ _ (by (try simp); (try omega))]; go_simp
      have k1_0_2 : w1.cell? ⟨w.heap.size, 2, none⟩ = some (.string t1) := by rw [hc1 _ _ (by (try simp); (try omega))]; go_simp
      have k1_1_0 : w1.cell? ⟨w.heap.size + 1, 0, none⟩ = some (.int .i64 n2) := by rw [hc1 _ _ (by (try simp); (try omega))]; go_simp
      have k1_1_1 : w1.cell? ⟨w.heap.size + 1, 1, none⟩ = some (.int .i64 d2) := by rw [hc1 _ _ (by (try simp); (try omega))]; go_simp
      have k1_1_2 : w1.cell? ⟨w.heap.size + 1, 2, none⟩ = some (.string t2) := by rw [hc1 _ _ (by (try simp); (try omega))]; go_simp
      have k1_2_0 : w1.cell? ⟨w.heap.size + 2, 0, none⟩ = some (.int .i64 0) := by rw [hc1 _ _ (by (try simp); (try omega))]; go_simp
      have k1_2_1 : w1.cell? ⟨w.heap.size + 2, 1, none⟩ = some (.int .i64 0) := by rw [hc1 _ _ (by (try simp); (try omega))]; go_simp
      have k1_2_2 : w1.cell? ⟨w.heap.size + 2, 2, none⟩ = some (.string ⟨#[]⟩) := by rw [hc1 _ _ (by (try simp); (try omega))]; go_simp
      clear hc1
      go_wp2_with fail
      refine (zao n2 d2 t2 _).mono ?_
      rintro e w2 ⟨rfl, hb2⟩
      obtain ⟨hc2, hf2⟩ := bcell hb2
      have B2 : Below w.heap.size w w2 := zap (by go_grown) (Nat.le_refl _) hb2
      have z2 : w.heap.size ≤ w2.heap.size := B2.size
      have y2_0 : w.heap.size < w2.heap.size := by have := hb2.size; (try simp at this); omega
      have y2_1 : w.heap.size + 1 < w2.heap.size := by have := hb2.size; (try simp at this); omega
      have y2_2 : w.heap.size + 2 < w2.heap.size := by have := hb2.size; (try simp at this); omega
      have k2_0_0 : w2.cell? ⟨w.heap.size, 0, none⟩ = some (.int .i64 n1) := by rw [hc2 _ _ (by (try simp); (try omega))]; go_simp
      have k2_0_1 : w2.cell? ⟨w.heap.size, 1, none⟩ = some (.int .i64 d1) := by rw [hc2 _ _ (by (try simp); (try omega))]; go_simp
      have k2_0_2 : w2.cell? ⟨w.heap.size, 2, none⟩ = some (.string t1) := by rw [hc2 _ _ (by (try simp); (try omega))]; go_simp
      have k2_1_0 : w2.cell? ⟨w.heap.size + 1, 0, none⟩ = some (.int .i64 n2) := by rw [hc2 _ _ (by (try simp); (try omega))]; go_simp
      have k2_1_1 : w2.cell? ⟨w.heap.size + 1, 1, none⟩ = some (.int .i64 d2) := by rw [hc2 _ _ (by (try simp); (try omega))]; go_simp
      have k2_1_2 : w2.cell? ⟨w.heap.size + 1, 2, none⟩ = some (.string t2) := by rw [hc2 _ _ (by (try simp); (try omega))]; go_simp
      have k2_2_0 : w2.cell? ⟨w.heap.size + 2, 0, none⟩ = some (.int .i64 0) := by rw [hc2 _ _ (by (try simp); (try omega))]; go_simp
      have k2_2_1 : w2.cell? ⟨w.heap.size + 2, 1, none⟩ = some (.int .i64 0) := by rw [hc2 _ _ (by (try simp); (try omega))]; go_simp
      have k2_2_2 : w2.cell? ⟨w.heap.size + 2, 2, none⟩ = some (.string ⟨#[]⟩) := by rw [hc2 _ _ (by (try simp); (try omega))]; go_simp
      clear hc2
      go_wp2_with fail
      exact bodyPost_ret (v := .agg #[.int .i64 0, .int .i64 0, .string ⟨#[]⟩]) (by simp [results, Try.results174, go_sem, *]) rfl ⟨zau HM.out, by go_grown⟩
    · have hyes := op2_yes (r := Nm.mk (n1 * n2) (d1 * d2)) h1 h2
      obtain ⟨a1, a2, a3, a4⟩ := zaz h1
      obtain ⟨b1, b2, b3, b4⟩ := zaz h2
      obtain ⟨m1, m2⟩ := zav (a := n1) (b := d2) (by omega) (by omega)
      obtain ⟨m3, m4⟩ := zav (a := n2) (b := d1) (by omega) (by omega)
      obtain ⟨m5, m6⟩ := zav (a := d1) (b := d2) (by omega) (by omega)
      obtain ⟨m7, m8⟩ := zav (a := n1) (b := n2) (by omega) (by omega)
      obtain ⟨m9, m10⟩ := zav (a := d1) (b := n2) (by omega) (by omega)
      have HM := Lib.hid (show mulI n1 d1 t1 n2 d2 t2 = _ from hyes)
      clear hyes
      go_enter Try.func174, Try.ntmps174
      go_wp2_with fail
      refine (zao n1 d1 t1 _).mono ?_
      rintro e w1 ⟨rfl, hb1⟩
      obtain ⟨hc1, hf1⟩ := bcell hb1
      have B1 : Below w.heap.size w w1 := zap (by go_grown) (Nat.le_refl _) hb1
      have z1 : w.heap.size ≤ w1.heap.size := B1.size
      have y1_0 : w.heap.size < w1.heap.size := by have := hb1.size; (try simp at this); omega
      have y1_1 : w.heap.size + 1 < w1.heap.size := by have := hb1.size; (try simp at this); omega
      have y1_2 : w.heap.size + 2 < w1.heap.size := by have := hb1.size; (try simp at this); omega
      have k1_0_0 : w1.cell? ⟨w.heap.size, 0, none⟩ = some (.int .i64 n1) := by rw [hc1 _ _ (by (try simp); (try omega))]; go_simp
      have k1_0_1 : w1.cell? ⟨w.heap.size, 1, none⟩ = some (.int .i64 d1) := by rw [hc1 _ _ (by (try simp); (try omega))]; go_simp
      have k1_0_2 : w1.cell? ⟨w.heap.size, 2, none⟩ = some (.string t1) := by rw [hc1 _ _ (by (try simp); (try omega))]; go_simp
      have k1_1_0 : w1.cell? ⟨w.heap.size + 1, 0, none⟩ = some (.int .i64 n2) := by rw [hc1 _ _ (by (try simp); (try omega))]; go_simp
      have k1_1_1 : w1.cell? ⟨w.heap.size + 1, 1, none⟩ = some (.int .i64 d2) := by rw [hc1 _ _ (by (try simp); (try omega))]; go_simp
      have k1_1_2 : w1.cell? ⟨w.heap.size + 1, 2, none⟩ = some (.string t2) := by rw [hc1 _ _ (by (try simp); (try omega))]; go_simp
      have k1_2_0 : w1.cell? ⟨w.heap.size + 2, 0, none⟩ = some (.int .i64 0) := by rw [hc1 _ _ (by (try simp); (try omega))]; go_simp
      have k1_2_1 : w1.cell? ⟨w.heap.size + 2, 1, none⟩ = some (.int .i64 0) := by rw [hc1 _ _ (by (try simp); (try omega))]; go_simp
      have k1_2_2 : w1.cell? ⟨w.heap.size + 2, 2, none⟩ = some (.string ⟨#[]⟩) := by rw [hc1 _ _ (by (try simp); (try omega))]; go_simp
      clear hc1
      go_wp2_with fail
      refine (zao n2 d2 t2 _).mono ?_
      rintro e w2 ⟨rfl, hb2⟩
      obtain ⟨hc2, hf2⟩ := bcell hb2
      have B2 : Below w.heap.size w w2 := zap (by go_grown) (Nat.le_refl _) hb2
      have z2 : w.heap.size ≤ w2.heap.size := B2.size
      have y2_0 : w.heap.size < w2.heap.size := by have := hb2.size; (try simp at this); omega
      have y2_1 : w.heap.size + 1 < w2.heap.size := by have := hb2.size; (try simp at this); omega
      have y2_2 : w.heap.size + 2 < w2.heap.size := by have := hb2.size; (try simp at this); omega
      have k2_0_0 : w2.cell? ⟨w.heap.size, 0, none⟩ = some (.int .i64 n1) := by rw [hc2 _ _ (by (try simp); (try omega))]; go_simp
      have k2_0_1 : w2.cell? ⟨w.heap.size, 1, none⟩ = some (.int .i64 d1) := by rw [hc2 _ _ (by (try simp); (try omega))]; go_simp
      have k2_0_2 : w2.cell? ⟨w.heap.size, 2, none⟩ = some (.string t1) := by rw [hc2 _ _ (by (try simp); (try omega))]; go_simp
      have k2_1_0 : w2.cell? ⟨w.heap.size + 1, 0, none⟩ = some (.int .i64 n2) := by rw [hc2 _ _ (by (try simp); (try omega))]; go_simp
      have k2_1_1 : w2.cell? ⟨w.heap.size + 1, 1, none⟩ = some (.int .i64 d2) := by rw [hc2 _ _ (by (try simp); (try omega))]; go_simp
      have k2_1_2 : w2.cell? ⟨w.heap.size + 1, 2, none⟩ = some (.string t2) := by rw [hc2 _ _ (by (try simp); (try omega))]; go_simp
      have k2_2_0 : w2.cell? ⟨w.heap.size + 2, 0, none⟩ = some (.int .i64 0) := by rw [hc2 _ _ (by (try simp); (try omega))]; go_simp
      have k2_2_1 : w2.cell? ⟨w.heap.size + 2, 1, none⟩ = some (.int .i64 0) := by rw [hc2 _ _ (by (try simp); (try omega))]; go_simp
      have k2_2_2 : w2.cell? ⟨w.heap.size + 2, 2, none⟩ = some (.string ⟨#[]⟩) := by rw [hc2 _ _ (by (try simp); (try omega))]; go_simp
      clear hc2
      go_wp2_with fail
      refine (impl_make (n1 * n2) (d1 * d2) _ (by omega) (by omega)).mono ?_
      rintro e w3 ⟨rfl, hb3⟩
      obtain ⟨hc3, hf3⟩ := bcell hb3
      have B3 : Below w.heap.size w w3 := zap (by go_grown) (Nat.le_refl _) hb3
      have z3 : w.heap.size ≤ w3.heap.size := B3.size
      have y3_0 : w.heap.size < w3.heap.size := by have := hb3.size; (try simp at this); omega
      have y3_1 : w.heap.size + 1 < w3.heap.size := by have := hb3.size; (try simp at this); omega
      have y3_2 : w.heap.size + 2 < w3.heap.size := by have := hb3.size; (try simp at this); omega
      have k3_0_0 : w3.cell? ⟨w.heap.size, 0, none⟩ = some (.int .i64 n1) := by rw [hc3 _ _ (by (try simp); (try omega))]; go_simp
      have k3_0_1 : w3.cell? ⟨w.heap.size, 1, none⟩ = some (.int .i64 d1) := by rw [hc3 _ _ (by (try simp); (try omega))]; go_simp
      have k3_0_2 : w3.cell? ⟨w.heap.size, 2, none⟩ = some (.string t1) := by rw [hc3 _ _ (by (try simp); (try omega))]; go_simp
      have k3_1_0 : w3.cell? ⟨w.heap.size + 1, 0, none⟩ = some (.int .i64 n2) := by rw [hc3 _ _ (by (try simp); (try omega))]; go_simp
      have k3_1_1 : w3.cell? ⟨w.heap.size + 1, 1, none⟩ = some (.int .i64 d2) := by rw [hc3 _ _ (by (try simp); (try omega))]; go_simp
      have k3_1_2 : w3.cell? ⟨w.heap.size + 1, 2, none⟩ = some (.string t2) := by rw [hc3 _ _ (by (try simp); (try omega))]; go_simp
      have k3_2_0 : w3.cell? ⟨w.heap.size + 2, 0, none⟩ = some (.int .i64 0) := by rw [hc3 _ _ (by (try simp); (try omega))]; go_simp
      have k3_2_1 : w3.cell? ⟨w.heap.size + 2, 1, none⟩ = some (.int .i64 0) := by rw [hc3 _ _ (by (try simp); (try omega))]; go_simp
      have k3_2_2 : w3.cell? ⟨w.heap.size + 2, 2, none⟩ = some (.string ⟨#[]⟩) := by rw [hc3 _ _ (by (try simp); (try omega))]; go_simp
      clear hc3
      go_wp2_with fail
      exact bodyPost_ret (v := .agg #[.int .i64 (Nm.mk (n1 * n2) (d1 * d2)).1, .int .i64 (Nm.mk (n1 * n2) (d1 * d2)).2, .string ⟨#[]⟩]) (by simp [results, Try.results174, go_sem, *]) rfl ⟨zau HM.out, by go_grown⟩

theorem impl_div (n1 d1 n2 d2 : Int) (t1 t2 : ByteArray) (w : World) :
    Calls Try.prog 175 #[.agg #[.int .i64 n1, .int .i64 d1, .string t1], .agg #[.int .i64 n2, .int .i64 d2, .string t2]] w fun e w' =>
      e = .returned (.agg #[.int .i64 (divI n1 d1 t1 n2 d2 t2).1, .int .i64 (divI n1 d1 t1 n2 d2 t2).2, .string ⟨#[]⟩]) ∧ Below w.heap.size w w' := by
  cases h1 : zax n1 d1 t1
  · have HM := Lib.hid (show divI n1 d1 t1 n2 d2 t2 = (0, 0) from op2_no1 h1)
    go_enter Try.func175, Try.ntmps175
    go_wp2_with fail
    refine (zao n1 d1 t1 _).mono ?_
    rintro e w1 ⟨rfl, hb1⟩
    obtain ⟨hc1, hf1⟩ := bcell hb1
    have B1 : Below w.heap.size w w1 := zap (by go_grown) (Nat.le_refl _) hb1
    have z1 : w.heap.size ≤ w1.heap.size := B1.size
    have y1_0 : w.heap.size < w1.heap.size := by have := hb1.size; (try simp at this); omega
    have y1_1 : w.heap.size + 1 < w1.heap.size := by have := hb1.size; (try simp at this); omega
    have y1_2 : w.heap.size + 2 < w1.heap.size := by have := hb1.size; (try simp at this); omega
    have k1_0_0 : w1.cell? ⟨w.heap.size, 0, none⟩ = some (.int .i64 n1) := by rw [hc1 _ _ (by (try simp); (try omega))]; go_simp
    have k1_0_1 : w1.cell? ⟨w.heap.size, 1, none⟩ = some (.int .i64 d1) := by rw [hc1 _ _ (by (try simp); (try omega))]; go_simp
    have k1_0_2 : w1.cell? ⟨w.heap.size, 2, none⟩ = some (.string t1) := by rw [hc1 _ _ (by (try simp); (try omega))]; go_simp
    have k1_1_0 : w1.cell? ⟨w.heap.size + 1, 0, none⟩ = some (.int .i64 n2) := by rw [hc1 _ _ (by (try simp); (try omega))]; go_simp
    have k1_1_1 : w1.cell? ⟨w.heap.size + 1, 1, none⟩ = some (.int .i64 d2) := by rw [hc1 _ _ (by (try simp); (try omega))]; go_simp
    have k1_1_2 : w1.cell? ⟨w.heap.size + 1, 2, none⟩ = some (.string t2) := by rw [hc1 _ _ (by (try simp); (try omega))]; go_simp
    have k1_2_0 : w1.cell? ⟨w.heap.size + 2, 0, none⟩ = some (.int .i64 0) := by rw [hc1 _ _ (by (try simp); (try omega))]; go_simp
    have k1_2_1 : w1.cell? ⟨w.heap.size + 2, 1, none⟩ = some (.int .i64 0) := by rw [hc1 _ _ (by (try simp); (try omega))]; go_simp
    have k1_2_2 : w1.cell? ⟨w.heap.size + 2, 2, none⟩ = some (.string ⟨#[]⟩) := by rw [hc1 _ _ (by (try simp); (try omega))]; go_simp
    clear hc1
    go_wp2_with fail
    exact bodyPost_ret (v := .agg #[.int .i64 0, .int .i64 0, .string ⟨#[]⟩]) (by simp [results, Try.results175, go_sem, *]) rfl ⟨zau HM.out, by go_grown⟩
  · cases h2 : zax n2 d2 t2
    · have HM := Lib.hid (show divI n1 d1 t1 n2 d2 t2 = (0, 0) from op2_no2 h2)
      go_enter Try.func175, Try.ntmps175
      go_wp2_with fail
      refine (zao n1 d1 t1 _).mono ?_
      rintro e w1 ⟨rfl, hb1⟩
      obtain ⟨hc1, hf1⟩ := bcell hb1
      have B1 : Below w.heap.size w w1 := zap (by go_grown) (Nat.le_refl _) hb1
      have z1 : w.heap.size ≤ w1.heap.size := B1.size
      have y1_0 : w.heap.size < w1.heap.size := by have := hb1.size; (try simp at this); omega
      have y1_1 : w.heap.size + 1 < w1.heap.size := by have := hb1.size; (try simp at this); omega
      have y1_2 : w.heap.size + 2 < w1.heap.size := by have := hb1.size; (try simp at this); omega
      have k1_0_0 : w1.cell? ⟨w.heap.size, 0, none⟩ = some (.int .i64 n1) := by rw [hc1 _ _ (by (try simp); (try omega))]; go_simp
      have k1_0_1 : w1.cell? ⟨w.heap.size, 1, none⟩ = some (.int .i64 d1) := by rw [hc1 _ _ (by (try simp); (try omega))]; go_simp
      have k1_0_2 : w1.cell? ⟨w.heap.size, 2, none⟩ = some (.string t1) := by rw [hc1 _ _ (by (try simp); (try omega))]; go_simp
      have k1_1_0 : w1.cell? ⟨w.heap.size + 1, 0, none⟩ = some (.int .i64 n2) := by rw [hc1 _ _ (by (try simp); (try omega))]; go_simp
      have k1_1_1 : w1.cell? ⟨w.heap.size + 1, 1, none⟩ = some (.int .i64 d2) := by rw [hc1 _ _ (by (try simp); (try omega))]; go_simp
      have k1_1_2 : w1.cell? ⟨w.heap.size + 1, 2, none⟩ = some (.string t2) := by rw [hc1 _ _ (by (try simp); (try omega))]; go_simp
      have k1_2_0 : w1.cell? ⟨w.heap.size + 2, 0, none⟩ = some (.int .i64 0) := by rw [hc1 _ _ (by (try simp); (try omega))]; go_simp
      have k1_2_1 : w1.cell? ⟨w.heap.size + 2, 1, none⟩ = some (.int .i64 0) := by rw [hc1 _ _ (by (try simp); (try omega))]; go_simp
      have k1_2_2 : w1.cell? ⟨w.heap.size + 2, 2, none⟩ = some (.string ⟨#[]⟩) := by rw [hc1 _ _ (by (try simp); (try omega))]; go_simp
      clear hc1
      go_wp2_with fail
      refine (zao n2 d2 t2 _).mono ?_
      rintro e w2 ⟨rfl, hb2⟩
      obtain ⟨hc2, hf2⟩ := bcell hb2
      have B2 : Below w.heap.size w w2 := zap (by go_grown) (Nat.le_refl _) hb2
      have z2 : w.heap.size ≤ w2.heap.size := B2.size
      have y2_0 : w.heap.size < w2.heap.size := by have := hb2.size; (try simp at this); omega
      have y2_1 : w.heap.size + 1 < w2.heap.size := by have := hb2.size; (try simp at this); omega
      have y2_2 : w.heap.size + 2 < w2.heap.size := by have := hb2.size; (try simp at this); omega
      have k2_0_0 : w2.cell? ⟨w.heap.size, 0, none⟩ = some (.int .i64 n1) := by rw [hc2 _ _ (by (try simp); (try omega))]; go_simp
      have k2_0_1 : w2.cell? ⟨w.heap.size, 1, none⟩ = some (.int .i64 d1) := by rw [hc2 _ _ (by (try simp); (try omega))]; go_simp
      have k2_0_2 : w2.cell? ⟨w.heap.size, 2, none⟩ = some (.string t1) := by rw [hc2 _ _ (by (try simp); (try omega))]; go_simp
      have k2_1_0 : w2.cell? ⟨w.heap.size + 1, 0, none⟩ = some (.int .i64 n2) := by rw [hc2 _ _ (by (try simp); (try omega))]; go_simp
      have k2_1_1 : w2.cell? ⟨w.heap.size + 1, 1, none⟩ = some (.int .i64 d2) := by rw [hc2 _ _ (by (try simp); (try omega))]; go_simp
      have k2_1_2 : w2.cell? ⟨w.heap.size + 1, 2, none⟩ = some (.string t2) := by rw [hc2 _ _ (by (try simp); (try omega))]; go_simp
      have k2_2_0 : w2.cell? ⟨w.heap.size + 2, 0, none⟩ = some (.int .i64 0) := by rw [hc2 _ _ (by (try simp); (try omega))]; go_simp
      have k2_2_1 : w2.cell? ⟨w.heap.size + 2, 1, none⟩ = some (.int .i64 0) := by rw [hc2 _ _ (by (try simp); (try omega))]; go_simp
      have k2_2_2 : w2.cell? ⟨w.heap.size + 2, 2, none⟩ = some (.string ⟨#[]⟩) := by rw [hc2 _ _ (by (try simp); (try omega))]; go_simp
      clear hc2
      go_wp2_with fail
      exact bodyPost_ret (v := .agg #[.int .i64 0, .int .i64 0, .string ⟨#[]⟩]) (by simp [results, Try.results175, go_sem, *]) rfl ⟨zau HM.out, by go_grown⟩
    · have hyes := op2_yes (r := Nm.mk (n1 * d2) (d1 * n2)) h1 h2
      obtain ⟨a1, a2, a3, a4⟩ := zaz h1
      obtain ⟨b1, b2, b3, b4⟩ := zaz h2
      obtain ⟨m1, m2⟩ := zav (a := n1) (b := d2) (by omega) (by omega)
      obtain ⟨m3, m4⟩ := zav (a := n2) (b := d1) (by omega) (by omega)
      obtain ⟨m5, m6⟩ := zav (a := d1) (b := d2) (by omega) (by omega)
      obtain ⟨m7, m8⟩ := zav (a := n1) (b := n2) (by omega) (by omega)
      obtain ⟨m9, m10⟩ := zav (a := d1) (b := n2) (by omega) (by omega)
      by_cases h0 : n2 = 0
      · have HM := Lib.hid (show divI n1 d1 t1 n2 d2 t2 = (0, 0) from hyes.trans (Nm.mk_bad (.inl (by rw [h0]; simp))))
        have z0 : (n2 == 0) = true := by simpa using h0
        clear h0 hyes
        go_enter Try.func175, Try.ntmps175
        go_wp2_with fail
        refine (zao n1 d1 t1 _).mono ?_
        rintro e w1 ⟨rfl, hb1⟩
        obtain ⟨hc1, hf1⟩ := bcell hb1
        have B1 : Below w.heap.size w w1 := zap (by go_grown) (Nat.le_refl _) hb1
        have z1 : w.heap.size ≤ w1.heap.size := B1.size
        have y1_0 : w.heap.size < w1.heap.size := by have := hb1.size; (try simp at this); omega
        have y1_1 : w.heap.size + 1 < w1.heap.size := by have := hb1.size; (try simp at this); omega
        have y1_2 : w.heap.size + 2 < w1.heap.size := by have := hb1.size; (try simp at this); omega
        have k1_0_0 : w1.cell? ⟨w.heap.size, 0, none⟩ = some (.int .i64 n1) := by rw [hc1 _ _ (by (try simp); (try omega))]; go_simp
        have k1_0_1 : w1.cell? ⟨w.heap.size, 1, none⟩ = some (.int .i64 d1) := by rw [hc1 _ _ (by (try simp); (try omega))]; go_simp
        have k1_0_2 : w1.cell? ⟨w.heap.size, 2, none⟩ = some (.string t1) := by rw [hc1 _ _ (by (try simp); (try omega))]; go_simp
        have k1_1_0 : w1.cell? ⟨w.heap.size + 1, 0, none⟩ = some (.int .i64 n2) := by rw [hc1 _ _ (by (try simp); (try omega))]; go_simp
        have k1_1_1 : w1.cell? ⟨w.heap.size + 1, 1, none⟩ = some (.int .i64 d2) := by rw [hc1 _ _ (by (try simp); (try omega))]; go_simp
        have k1_1_2 : w1.cell? ⟨w.heap.size + 1, 2, none⟩ = some (.string t2) := by rw [hc1 _ _ (by (try simp); (try omega))]; go_simp
        have k1_2_0 : w1.cell? ⟨w.heap.size + 2, 0, none⟩ = some (.int .i64 0) := by rw [hc1 _ _ (by (try simp); (try omega))]; go_simp
        have k1_2_1 : w1.cell? ⟨w.heap.size + 2, 1, none⟩ = some (.int .i64 0) := by rw [hc1 _ _ (by (try simp); (try omega))]; go_simp
        have k1_2_2 : w1.cell? ⟨w.heap.size + 2, 2, none⟩ = some (.string ⟨#[]⟩) := by rw [hc1 _ _ (by (try simp); (try omega))]; go_simp
        clear hc1
        go_wp2_with fail
        refine (zao n2 d2 t2 _).mono ?_
        rintro e w2 ⟨rfl, hb2⟩
        obtain ⟨hc2, hf2⟩ := bcell hb2
        have B2 : Below w.heap.size w w2 := zap (by go_grown) (Nat.le_refl _) hb2
        have z2 : w.heap.size ≤ w2.heap.size := B2.size
        have y2_0 : w.heap.size < w2.heap.size := by have := hb2.size; (try simp at this); omega
        have y2_1 : w.heap.size + 1 < w2.heap.size := by have := hb2.size; (try simp at this); omega
        have y2_2 : w.heap.size + 2 < w2.heap.size := by have := hb2.size; (try simp at this); omega
        have k2_0_0 : w2.cell? ⟨w.heap.size, 0, none⟩ = some (.int .i64 n1) := by rw [hc2 _ _ (by (try simp); (try omega))]; go_simp
        have k2_0_1 : w2.cell? ⟨w.heap.size, 1, none⟩ = some (.int .i64 d1) := by rw [hc2 _ _ (by (try simp); (try omega))]; go_simp
        have k2_0_2 : w2.cell? ⟨w.heap.size, 2, none⟩ = some (.string t1) := by rw [hc2 _ _ (by (try simp); (try omega))]; go_simp
        have k2_1_0 : w2.cell? ⟨w.heap.size + 1, 0, none⟩ = some (.int .i64 n2) := by rw [hc2 _ _ (by (try simp); (try omega))]; go_simp
        have k2_1_1 : w2.cell? ⟨w.heap.size + 1, 1, none⟩ = some (.int .i64 d2) := by rw [hc2 _ _ (by (try simp); (try omega))]; go_simp
        have k2_1_2 : w2.cell? ⟨w.heap.size + 1, 2, none⟩ = some (.string t2) := by rw [hc2 _ _ (by (try simp); (try omega))]; go_simp
        have k2_2_0 : w2.cell? ⟨w.heap.size + 2, 0, none⟩ = some (.int .i64 0) := by rw [hc2 _ _ (by (try simp); (try omega))]; go_simp
        have k2_2_1 : w2.cell? ⟨w.heap.size + 2, 1, none⟩ = some (.int .i64 0) := by rw [hc2 _ _ (by (try simp); (try omega))]; go_simp
        have k2_2_2 : w2.cell? ⟨w.heap.size + 2, 2, none⟩ = some (.string ⟨#[]⟩) := by rw [hc2 _ _ (by (try simp); (try omega))]; go_simp
        clear hc2
        go_wp2_with fail
        exact bodyPost_ret (v := .agg #[.int .i64 0, .int .i64 0, .string ⟨#[]⟩]) (by simp [results, Try.results175, go_sem, *]) rfl ⟨zau HM.out, by go_grown⟩
      · have HM := Lib.hid (show divI n1 d1 t1 n2 d2 t2 = _ from hyes)
        have z0 : (n2 == 0) = false := by simpa using h0
        clear h0 hyes
        go_enter Try.func175, Try.ntmps175
        go_wp2_with fail
        refine (zao n1 d1 t1 _).mono ?_
        rintro e w1 ⟨rfl, hb1⟩
        obtain ⟨hc1, hf1⟩ := bcell hb1
        have B1 : Below w.heap.size w w1 := zap (by go_grown) (Nat.le_refl _) hb1
        have z1 : w.heap.size ≤ w1.heap.size := B1.size
        have y1_0 : w.heap.size < w1.heap.size := by have := hb1.size; (try simp at this); omega
        have y1_1 : w.heap.size + 1 < w1.heap.size := by have := hb1.size; (try simp at this); omega
        have y1_2 : w.heap.size + 2 < w1.heap.size := by have := hb1.size; (try simp at this); omega
        have k1_0_0 : w1.cell? ⟨w.heap.size, 0, none⟩ = some (.int .i64 n1) := by rw [hc1 _ _ (by (try simp); (try omega))]; go_simp
        have k1_0_1 : w1.cell? ⟨w.heap.size, 1, none⟩ = some (.int .i64 d1) := by rw [hc1 _ _ (by (try simp); (try omega))]; go_simp
        have k1_0_2 : w1.cell? ⟨w.heap.size, 2, none⟩ = some (.string t1) := by rw [hc1 _ _ (by (try simp); (try omega))]; go_simp
        have k1_1_0 : w1.cell? ⟨w.heap.size + 1, 0, none⟩ = some (.int .i64 n2) := by rw [hc1 _ _ (by (try simp); (try omega))]; go_simp
        have k1_1_1 : w1.cell? ⟨w.heap.size + 1, 1, none⟩ = some (.int .i64 d2) := by rw [hc1 _ _ (by (try simp); (try omega))]; go_simp
        have k1_1_2 : w1.cell? ⟨w.heap.size + 1, 2, none⟩ = some (.string t2) := by rw [hc1 _ _ (by (try simp); (try omega))]; go_simp
        have k1_2_0 : w1.cell? ⟨w.heap.size + 2, 0, none⟩ = some (.int .i64 0) := by rw [hc1 _ _ (by (try simp); (try omega))]; go_simp
        have k1_2_1 : w1.cell? ⟨w.heap.size + 2, 1, none⟩ = some (.int .i64 0) := by rw [hc1 _ _ (by (try simp); (try omega))]; go_simp
        have k1_2_2 : w1.cell? ⟨w.heap.size + 2, 2, none⟩ = some (.string ⟨#[]⟩) := by rw [hc1 _ _ (by (try simp); (try omega))]; go_simp
        clear hc1
        go_wp2_with fail
        refine (zao n2 d2 t2 _).mono ?_
        rintro e w2 ⟨rfl, hb2⟩
        obtain ⟨hc2, hf2⟩ := bcell hb2
        have B2 : Below w.heap.size w w2 := zap (by go_grown) (Nat.le_refl _) hb2
        have z2 : w.heap.size ≤ w2.heap.size := B2.size
        have y2_0 : w.heap.size < w2.heap.size := by have := hb2.size; (try simp at this); omega
        have y2_1 : w.heap.size + 1 < w2.heap.size := by have := hb2.size; (try simp at this); omega
        have y2_2 : w.heap.size + 2 < w2.heap.size := by have := hb2.size; (try simp at this); omega
        have k2_0_0 : w2.cell? ⟨w.heap.size, 0, none⟩ = some (.int .i64 n1) := by rw [hc2 _ _ (by (try simp); (try omega))]; go_simp
        have k2_0_1 : w2.cell? ⟨w.heap.size, 1, none⟩ = some (.int .i64 d1) := by rw [hc2 _ _ (by (try simp); (try omega))]; go_simp
        have k2_0_2 : w2.cell? ⟨w.heap.size, 2, none⟩ = some (.string t1) := by rw [hc2 _ _ (by (try simp); (try omega))]; go_simp
        have k2_1_0 : w2.cell? ⟨w.heap.size + 1, 0, none⟩ = some (.int .i64 n2) := by rw [hc2 _ _ (by (try simp); (try omega))]; go_simp
        have k2_1_1 : w2.cell? ⟨w.heap.size + 1, 1, none⟩ = some (.int .i64 d2) := by rw [hc2 _ _ (by (try simp); (try omega))]; go_simp
        have k2_1_2 : w2.cell? ⟨w.heap.size + 1, 2, none⟩ = some (.string t2) := by rw [hc2 _ _ (by (try simp); (try omega))]; go_simp
        have k2_2_0 : w2.cell? ⟨w.heap.size + 2, 0, none⟩ = some (.int .i64 0) := by rw [hc2 _ _ (by (try simp); (try omega))]; go_simp
        have k2_2_1 : w2.cell? ⟨w.heap.size + 2, 1, none⟩ = some (.int .i64 0) := by rw [hc2 _ _ (by (try simp); (try omega))]; go_simp
        have k2_2_2 : w2.cell? ⟨w.heap.size + 2, 2, none⟩ = some (.string ⟨#[]⟩) := by rw [hc2 _ _ (by (try simp); (try omega))]; go_simp
        clear hc2
        go_wp2_with fail
        refine (impl_make (n1 * d2) (d1 * n2) _ (by omega) (by omega)).mono ?_
        rintro e w3 ⟨rfl, hb3⟩
        obtain ⟨hc3, hf3⟩ := bcell hb3
        have B3 : Below w.heap.size w w3 := zap (by go_grown) (Nat.le_refl _) hb3
        have z3 : w.heap.size ≤ w3.heap.size := B3.size
        have y3_0 : w.heap.size < w3.heap.size := by have := hb3.size; (try simp at this); omega
        have y3_1 : w.heap.size + 1 < w3.heap.size := by have := hb3.size; (try simp at this); omega
        have y3_2 : w.heap.size + 2 < w3.heap.size := by have := hb3.size; (try simp at this); omega
        have k3_0_0 : w3.cell? ⟨w.heap.size, 0, none⟩ = some (.int .i64 n1) := by rw [hc3 _ _ (by (try simp); (try omega))]; go_simp
        have k3_0_1 : w3.cell? ⟨w.heap.size, 1, none⟩ = some (.int .i64 d1) := by rw [hc3 _ _ (by (try simp); (try omega))]; go_simp
        have k3_0_2 : w3.cell? ⟨w.heap.size, 2, none⟩ = some (.string t1) := by rw [hc3 _ _ (by (try simp); (try omega))]; go_simp
        have k3_1_0 : w3.cell? ⟨w.heap.size + 1, 0, none⟩ = some (.int .i64 n2) := by rw [hc3 _ _ (by (try simp); (try omega))]; go_simp
        have k3_1_1 : w3.cell? ⟨w.heap.size + 1, 1, none⟩ = some (.int .i64 d2) := by rw [hc3 _ _ (by (try simp); (try omega))]; go_simp
        have k3_1_2 : w3.cell? ⟨w.heap.size + 1, 2, none⟩ = some (.string t2) := by rw [hc3 _ _ (by (try simp); (try omega))]; go_simp
        have k3_2_0 : w3.cell? ⟨w.heap.size + 2, 0, none⟩ = some (.int .i64 0) := by rw [hc3 _ _ (by (try simp); (try omega))]; go_simp
        have k3_2_1 : w3.cell? ⟨w.heap.size + 2, 1, none⟩ = some (.int .i64 0) := by rw [hc3 _ _ (by (try simp); (try omega))]; go_simp
        have k3_2_2 : w3.cell? ⟨w.heap.size + 2, 2, none⟩ = some (.string ⟨#[]⟩) := by rw [hc3 _ _ (by (try simp); (try omega))]; go_simp
        clear hc3
        go_wp2_with fail
        exact bodyPost_ret (v := .agg #[.int .i64 (Nm.mk (n1 * d2) (d1 * n2)).1, .int .i64 (Nm.mk (n1 * d2) (d1 * n2)).2, .string ⟨#[]⟩]) (by simp [results, Try.results175, go_sem, *]) rfl ⟨zau HM.out, by go_grown⟩

theorem spec_add (n1 d1 n2 d2 : Int) (t1 t2 : ByteArray) (w : World) :
    Calls Try.prog 165 #[.agg #[.int .i64 n1, .int .i64 d1, .string t1], .agg #[.int .i64 n2, .int .i64 d2, .string t2]] w fun e w' =>
      e = .returned (.agg #[.int .i64 (addI n1 d1 t1 n2 d2 t2).1, .int .i64 (addI n1 d1 t1 n2 d2 t2).2, .string ⟨#[]⟩]) ∧ Below w.heap.size w w' := by
  cases h1 : zax n1 d1 t1
  · have HM := Lib.hid (show addI n1 d1 t1 n2 d2 t2 = (0, 0) from op2_no1 h1)
    go_enter Try.func165, Try.ntmps165
    go_wp2_with fail
    refine (zaq n1 d1 t1 _).mono ?_
    rintro e w1 ⟨rfl, hb1⟩
    obtain ⟨hc1, hf1⟩ := bcell hb1
    have B1 : Below w.heap.size w w1 := zap (by go_grown) (Nat.le_refl _) hb1
    have z1 : w.heap.size ≤ w1.heap.size := B1.size
    have y1_0 : w.heap.size < w1.heap.size := by have := hb1.size; (try simp at this); omega
    have y1_1 : w.heap.size + 1 < w1.heap.size := by have := hb1.size; (try simp at this); omega
    have y1_2 : w.heap.size + 2 < w1.heap.size := by have := hb1.size; (try simp at this); omega
    have k1_0_0 : w1.cell? ⟨w.heap.size, 0, none⟩ = some (.int .i64 n1) := by rw [hc1 _ _ (by (try simp); (try omega))]; go_simp
    have k1_0_1 : w1.cell? ⟨w.heap.size, 1, none⟩ = some (.int .i64 d1) := by rw [hc1 _ _ (by (try simp); (try omega))]; go_simp
    have k1_0_2 : w1.cell? ⟨w.heap.size, 2, none⟩ = some (.string t1) := by rw [hc1 _ _ (by (try simp); (try omega))]; go_simp
    have k1_1_0 : w1.cell? ⟨w.heap.size + 1, 0, none⟩ = some (.int .i64 n2) := by rw [hc1 _ _ (by (try simp); (try omega))]; go_simp
    have k1_1_1 : w1.cell? ⟨w.heap.size + 1, 1, none⟩ = some (.int .i64 d2) := by rw [hc1 _ _ (by (try simp); (try omega))]; go_simp
    have k1_1_2 : w1.cell? ⟨w.heap.size + 1, 2, none⟩ = some (.string t2) := by rw [hc1 _ _ (by (try simp); (try omega))]; go_simp
    have k1_2_0 : w1.cell? ⟨w.heap.size + 2, 0, none⟩ = some (.int .i64 0) := by rw [hc1 _ _ (by (try simp); (try omega))]; go_simp
    have k1_2_1 : w1.cell? ⟨w.heap.size + 2, 1, none⟩ = some (.int .i64 0) := by rw [hc1 _ _ (by (try simp); (try omega))]; go_simp
    have k1_2_2 : w1.cell? ⟨w.heap.size + 2, 2, none⟩ = some (.string ⟨#[]⟩) := by rw [hc1 _ _ (by (try simp); (try omega))]; go_simp
    clear hc1
    go_wp2_with fail
    exact bodyPost_ret (v := .agg #[.int .i64 0, .int .i64 0, .string ⟨#[]⟩]) (by simp [results, Try.results165, go_sem, *]) rfl ⟨zau HM.out, by go_grown⟩
  · cases h2 : zax n2 d2 t2
    · have HM := Lib.hid (show addI n1 d1 t1 n2 d2 t2 = (0, 0) from op2_no2 h2)
      go_enter Try.func165, Try.ntmps165
      go_wp2_with fail
      refine (zaq n1 d1 t1 _).mono ?_
      rintro e w1 ⟨rfl, hb1⟩
      obtain ⟨hc1, hf1⟩ := bcell hb1
      have B1 : Below w.heap.size w w1 := zap (by go_grown) (Nat.le_refl _) hb1
      have z1 : w.heap.size ≤ w1.heap.size := B1.size
      have y1_0 : w.heap.size < w1.heap.size := by have := hb1.size; (try simp at this); omega
      have y1_1 : w.heap.size + 1 < w1.heap.size := by have := hb1.size; (try simp at this); omega
      have y1_2 : w.heap.size + 2 < w1.heap.size := by have := hb1.size; (try simp at this); omega
      have k1_0_0 : w1.cell? ⟨w.heap.size, 0, none⟩ = some (.int .i64 n1) := by rw [hc1 _ _ (by (try simp); (try omega))]; go_simp
      have k1_0_1 : w1.cell? ⟨w.heap.size, 1, none⟩ = some (.int .i64 d1) := by rw [hc1 _ _ (by (try simp); (try omega))]; go_simp
      have k1_0_2 : w1.cell? ⟨w.heap.size, 2, none⟩ = some (.string t1) := by rw [hc1 _ _ (by (try simp); (try omega))]; go_simp
      have k1_1_0 : w1.cell? ⟨w.heap.size + 1, 0, none⟩ = some (.int .i64 n2) := by rw [hc1 _ _ (by (try simp); (try omega))]; go_simp
      have k1_1_1 : w1.cell? ⟨w.heap.size + 1, 1, none⟩ = some (.int .i64 d2) := by rw [hc1 _ _ (by (try simp); (try omega))]; go_simp
      have k1_1_2 : w1.cell? ⟨w.heap.size + 1, 2, none⟩ = some (.string t2) := by rw [hc1 _ _ (by (try simp); (try omega))]; go_simp
      have k1_2_0 : w1.cell? ⟨w.heap.size + 2, 0, none⟩ = some (.int .i64 0) := by rw [hc1 _ _ (by (try simp); (try omega))]; go_simp
      have k1_2_1 : w1.cell? ⟨w.heap.size + 2, 1, none⟩ = some (.int .i64 0) := by rw [hc1 _ _ (by (try simp); (try omega))]; go_simp
      have k1_2_2 : w1.cell? ⟨w.heap.size + 2, 2, none⟩ = some (.string ⟨#[]⟩) := by rw [hc1 _ _ (by (try simp); (try omega))]; go_simp
      clear hc1
      go_wp2_with fail
      refine (zaq n2 d2 t2 _).mono ?_
      rintro e w2 ⟨rfl, hb2⟩
      obtain ⟨hc2, hf2⟩ := bcell hb2
      have B2 : Below w.heap.size w w2 := zap (by go_grown) (Nat.le_refl _) hb2
      have z2 : w.heap.size ≤ w2.heap.size := B2.size
      have y2_0 : w.heap.size < w2.heap.size := by have := hb2.size; (try simp at this); omega
      have y2_1 : w.heap.size + 1 < w2.heap.size := by have := hb2.size; (try simp at this); omega
      have y2_2 : w.heap.size + 2 < w2.heap.size := by have := hb2.size; (try simp at this); omega
      have k2_0_0 : w2.cell? ⟨w.heap.size, 0, none⟩ = some (.int .i64 n1) := by rw [hc2 _ _ (by (try simp); (try omega))]; go_simp
      have k2_0_1 : w2.cell? ⟨w.heap.size, 1, none⟩ = some (.int .i64 d1) := by rw [hc2 _ _ (by (try simp); (try omega))]; go_simp
      have k2_0_2 : w2.cell? ⟨w.heap.size, 2, none⟩ = some (.string t1) := by rw [hc2 _ _ (by (try simp); (try omega))]; go_simp
      have k2_1_0 : w2.cell? ⟨w.heap.size + 1, 0, none⟩ = some (.int .i64 n2) := by rw [hc2 _ _ (by (try simp); (try omega))]; go_simp
      have k2_1_1 : w2.cell? ⟨w.heap.size + 1, 1, none⟩ = some (.int .i64 d2) := by rw [hc2 _ _ (by (try simp); (try omega))]; go_simp
      have k2_1_2 : w2.cell? ⟨w.heap.size + 1, 2, none⟩ = some (.string t2) := by rw [hc2 _ _ (by (try simp); (try omega))]; go_simp
      have k2_2_0 : w2.cell? ⟨w.heap.size + 2, 0, none⟩ = some (.int .i64 0) := by rw [hc2 _ _ (by (try simp); (try omega))]; go_simp
      have k2_2_1 : w2.cell? ⟨w.heap.size + 2, 1, none⟩ = some (.int .i64 0) := by rw [hc2 _ _ (by (try simp); (try omega))]; go_simp
      have k2_2_2 : w2.cell? ⟨w.heap.size + 2, 2, none⟩ = some (.string ⟨#[]⟩) := by rw [hc2 _ _ (by (try simp); (try omega))]; go_simp
      clear hc2
      go_wp2_with fail
      exact bodyPost_ret (v := .agg #[.int .i64 0, .int .i64 0, .string ⟨#[]⟩]) (by simp [results, Try.results165, go_sem, *]) rfl ⟨zau HM.out, by go_grown⟩
    · have hyes := op2_yes (r := Nm.mk (n1 * d2 + n2 * d1) (d1 * d2)) h1 h2
      obtain ⟨a1, a2, a3, a4⟩ := zaz h1
      obtain ⟨b1, b2, b3, b4⟩ := zaz h2
      obtain ⟨m1, m2⟩ := zav (a := n1) (b := d2) (by omega) (by omega)
      obtain ⟨m3, m4⟩ := zav (a := n2) (b := d1) (by omega) (by omega)
      obtain ⟨m5, m6⟩ := zav (a := d1) (b := d2) (by omega) (by omega)
      obtain ⟨m7, m8⟩ := zav (a := n1) (b := n2) (by omega) (by omega)
      obtain ⟨m9, m10⟩ := zav (a := d1) (b := n2) (by omega) (by omega)
      have HM := Lib.hid (show addI n1 d1 t1 n2 d2 t2 = _ from hyes)
      clear hyes
      go_enter Try.func165, Try.ntmps165
      go_wp2_with fail
      refine (zaq n1 d1 t1 _).mono ?_
      rintro e w1 ⟨rfl, hb1⟩
      obtain ⟨hc1, hf1⟩ := bcell hb1
      have B1 : Below w.heap.size w w1 := zap (by go_grown) (Nat.le_refl _) hb1
      have z1 : w.heap.size ≤ w1.heap.size := B1.size
      have y1_0 : w.heap.size < w1.heap.size := by have := hb1.size; (try simp at this); omega
      have y1_1 : w.heap.size + 1 < w1.heap.size := by have := hb1.size; (try simp at this); omega
      have y1_2 : w.heap.size + 2 < w1.heap.size := by have := hb1.size; (try simp at this); omega
      have k1_0_0 : w1.cell? ⟨w.heap.size, 0, none⟩ = some (.int .i64 n1) := by rw [hc1 _ _ (by (try simp); (try omega))]; go_simp
      have k1_0_1 : w1.cell? ⟨w.heap.size, 1, none⟩ = some (.int .i64 d1) := by rw [hc1 _ _ (by (try simp); (try omega))]; go_simp
      have k1_0_2 : w1.cell? ⟨w.heap.size, 2, none⟩ = some (.string t1) := by rw [hc1 _ _ (by (try simp); (try omega))]; go_simp
      have k1_1_0 : w1.cell? ⟨w.heap.size + 1, 0, none⟩ = some (.int .i64 n2) := by rw [hc1 _ _ (by (try simp); (try omega))]; go_simp
      have k1_1_1 : w1.cell? ⟨w.heap.size + 1, 1, none⟩ = some (.int .i64 d2) := by rw [hc1 _ _ (by (try simp); (try omega))]; go_simp
      have k1_1_2 : w1.cell? ⟨w.heap.size + 1, 2, none⟩ = some (.string t2) := by rw [hc1 _ _ (by (try simp); (try omega))]; go_simp
      have k1_2_0 : w1.cell? ⟨w.heap.size + 2, 0, none⟩ = some (.int .i64 0) := by rw [hc1 _ _ (by (try simp); (try omega))]; go_simp
      have k1_2_1 : w1.cell? ⟨w.heap.size + 2, 1, none⟩ = some (.int .i64 0) := by rw [hc1 _ _ (by (try simp); (try omega))]; go_simp
      have k1_2_2 : w1.cell? ⟨w.heap.size + 2, 2, none⟩ = some (.string ⟨#[]⟩) := by rw [hc1 _ _ (by (try simp); (try omega))]; go_simp
      clear hc1
      go_wp2_with fail
      refine (zaq n2 d2 t2 _).mono ?_
      rintro e w2 ⟨rfl, hb2⟩
      obtain ⟨hc2, hf2⟩ := bcell hb2
      have B2 : Below w.heap.size w w2 := zap (by go_grown) (Nat.le_refl _) hb2
      have z2 : w.heap.size ≤ w2.heap.size := B2.size
      have y2_0 : w.heap.size < w2.heap.size := by have := hb2.size; (try simp at this); omega
      have y2_1 : w.heap.size + 1 < w2.heap.size := by have := hb2.size; (try simp at this); omega
      have y2_2 : w.heap.size + 2 < w2.heap.size := by have := hb2.size; (try simp at this); omega
      have k2_0_0 : w2.cell? ⟨w.heap.size, 0, none⟩ = some (.int .i64 n1) := by rw [hc2 _ _ (by (try simp); (try omega))]; go_simp
      have k2_0_1 : w2.cell? ⟨w.heap.size, 1, none⟩ = some (.int .i64 d1) := by rw [hc2 _ _ (by (try simp); (try omega))]; go_simp
      have k2_0_2 : w2.cell? ⟨w.heap.size, 2, none⟩ = some (.string t1) := by rw [hc2 _ _ (by (try simp); (try omega))]; go_simp
      have k2_1_0 : w2.cell? ⟨w.heap.size + 1, 0, none⟩ = some (.int .i64 n2) := by rw [hc2 _ _ (by (try simp); (try omega))]; go_simp
      have k2_1_1 : w2.cell? ⟨w.heap.size + 1, 1, none⟩ = some (.int .i64 d2) := by rw [hc2 _ _ (by (try simp); (try omega))]; go_simp
      have k2_1_2 : w2.cell? ⟨w.heap.size + 1, 2, none⟩ = some (.string t2) := by rw [hc2 _ _ (by (try simp); (try omega))]; go_simp
      have k2_2_0 : w2.cell? ⟨w.heap.size + 2, 0, none⟩ = some (.int .i64 0) := by rw [hc2 _ _ (by (try simp); (try omega))]; go_simp
      have k2_2_1 : w2.cell? ⟨w.heap.size + 2, 1, none⟩ = some (.int .i64 0) := by rw [hc2 _ _ (by (try simp); (try omega))]; go_simp
      have k2_2_2 : w2.cell? ⟨w.heap.size + 2, 2, none⟩ = some (.string ⟨#[]⟩) := by rw [hc2 _ _ (by (try simp); (try omega))]; go_simp
      clear hc2
      go_wp2_with fail
      refine (spec_make (n1 * d2 + n2 * d1) (d1 * d2) _ (by omega) (by omega)).mono ?_
      rintro e w3 ⟨rfl, hb3⟩
      obtain ⟨hc3, hf3⟩ := bcell hb3
      have B3 : Below w.heap.size w w3 := zap (by go_grown) (Nat.le_refl _) hb3
      have z3 : w.heap.size ≤ w3.heap.size := B3.size
      have y3_0 : w.heap.size < w3.heap.size := by have := hb3.size; (try simp at this); omega
      have y3_1 : w.heap.size + 1 < w3.heap.size := by have := hb3.size; (try simp at this); omega
      have y3_2 : w.heap.size + 2 < w3.heap.size := by have := hb3.size; (try simp at this); omega
      have k3_0_0 : w3.cell? ⟨w.heap.size, 0, none⟩ = some (.int .i64 n1) := by rw [hc3 _ _ (by (try simp); (try omega))]; go_simp
      have k3_0_1 : w3.cell? ⟨w.heap.size, 1, none⟩ = some (.int .i64 d1) := by rw [hc3 _ _ (by (try simp); (try omega))]; go_simp
      have k3_0_2 : w3.cell? ⟨w.heap.size, 2, none⟩ = some (.string t1) := by rw [hc3 _ _ (by (try simp); (try omega))]; go_simp
      have k3_1_0 : w3.cell? ⟨w.heap.size + 1, 0, none⟩ = some (.int .i64 n2) := by rw [hc3 _ _ (by (try simp); (try omega))]; go_simp
      have k3_1_1 : w3.cell? ⟨w.heap.size + 1, 1, none⟩ = some (.int .i64 d2) := by rw [hc3 _ _ (by (try simp); (try omega))]; go_simp
      have k3_1_2 : w3.cell? ⟨w.heap.size + 1, 2, none⟩ = some (.string t2) := by rw [hc3 _ _ (by (try simp); (try omega))]; go_simp
      have k3_2_0 : w3.cell? ⟨w.heap.size + 2, 0, none⟩ = some (.int .i64 0) := by rw [hc3 _ _ (by (try simp); (try omega))]; go_simp
      have k3_2_1 : w3.cell? ⟨w.heap.size + 2, 1, none⟩ = some (.int .i64 0) := by rw [hc3 _ _ (by (try simp); (try omega))]; go_simp
      have k3_2_2 : w3.cell? ⟨w.heap.size + 2, 2, none⟩ = some (.string ⟨#[]⟩) := by rw [hc3 _ _ (by (try simp); (try omega))]; go_simp
      clear hc3
      go_wp2_with fail
      exact bodyPost_ret (v := .agg #[.int .i64 (Nm.mk (n1 * d2 + n2 * d1) (d1 * d2)).1, .int .i64 (Nm.mk (n1 * d2 + n2 * d1) (d1 * d2)).2, .string ⟨#[]⟩]) (by simp [results, Try.results165, go_sem, *]) rfl ⟨zau HM.out, by go_grown⟩

theorem spec_mul (n1 d1 n2 d2 : Int) (t1 t2 : ByteArray) (w : World) :
    Calls Try.prog 167 #[.agg #[.int .i64 n1, .int .i64 d1, .string t1], .agg #[.int .i64 n2, .int .i64 d2, .string t2]] w fun e w' =>
      e = .returned (.agg #[.int .i64 (mulI n1 d1 t1 n2 d2 t2).1, .int .i64 (mulI n1 d1 t1 n2 d2 t2).2, .string ⟨#[]⟩]) ∧ Below w.heap.size w w' := by
  cases h1 : zax n1 d1 t1
  · have HM := Lib.hid (show mulI n1 d1 t1 n2 d2 t2 = (0, 0) from op2_no1 h1)
    go_enter Try.func167, Try.ntmps167
    go_wp2_with fail
    refine (zaq n1 d1 t1 _).mono ?_
    rintro e w1 ⟨rfl, hb1⟩
    obtain ⟨hc1, hf1⟩ := bcell hb1
    have B1 : Below w.heap.size w w1 := zap (by go_grown) (Nat.le_refl _) hb1
    have z1 : w.heap.size ≤ w1.heap.size := B1.size
    have y1_0 : w.heap.size < w1.heap.size := by have := hb1.size; (try simp at this); omega
    have y1_1 : w.heap.size + 1 < w1.heap.size := by have := hb1.size; (try simp at this); omega
    have y1_2 : w.heap.size + 2 < w1.heap.size := by have := hb1.size; (try simp at this); omega
    have k1_0_0 : w1.cell? ⟨w.heap.size, 0, none⟩ = some (.int .i64 n1) := by rw [hc1 _ _ (by (try simp); (try omega))]; go_simp
    have k1_0_1 : w1.cell? ⟨w.heap.size, 1, none⟩ = some (.int .i64 d1) := by rw [hc1 _ _ (by (try simp); (try omega))]; go_simp
    have k1_0_2 : w1.cell? ⟨w.heap.size, 2, none⟩ = some (.string t1) := by rw [hc1 _ _ (by (try simp); (try omega))]; go_simp
    have k1_1_0 : w1.cell? ⟨w.heap.size + 1, 0, none⟩ = some (.int .i64 n2) := by rw [hc1 _ _ (by (try simp); (try omega))]; go_simp
    have k1_1_1 : w1.cell? ⟨w.heap.size + 1, 1, none⟩ = some (.int .i64 d2) := by rw [hc1 _ _ (by (try simp); (try omega))]; go_simp
    have k1_1_2 : w1.cell? ⟨w.heap.size + 1, 2, none⟩ = some (.string t2) := by rw [hc1 _ _ (by (try simp); (try omega))]; go_simp
    have k1_2_0 : w1.cell? ⟨w.heap.size + 2, 0, none⟩ = some (.int .i64 0) := by rw [hc1 _ _ (by (try simp); (try omega))]; go_simp
    have k1_2_1 : w1.cell? ⟨w.heap.size + 2, 1, none⟩ = some (.int .i64 0) := by rw [hc1 _ _ (by (try simp); (try omega))]; go_simp
    have k1_2_2 : w1.cell? ⟨w.heap.size + 2, 2, none⟩ = some (.string ⟨#[]⟩) := by rw [hc1 _ _ (by (try simp); (try omega))]; go_simp
    clear hc1
    go_wp2_with fail
    exact bodyPost_ret (v := .agg #[.int .i64 0, .int .i64 0, .string ⟨#[]⟩]) (by simp [results, Try.results167, go_sem, *]) rfl ⟨zau HM.out, by go_grown⟩
  · cases h2 : zax n2 d2 t2
    · have HM := Lib.hid (show mulI n1 d1 t1 n2 d2 t2 = (0, 0) from op2_no2 h2)
      go_enter Try.func167, Try.ntmps167
      go_wp2_with fail
      refine (zaq n1 d1 t1 _).mono ?_
      rintro e w1 ⟨rfl, hb1⟩
      obtain ⟨hc1, hf1⟩ := bcell hb1
      have B1 : Below w.heap.size w w1 := zap (by go_grown) (Nat.le_refl _) hb1
      have z1 : w.heap.size ≤ w1.heap.size := B1.size
      have y1_0 : w.heap.size < w1.heap.size := by have := hb1.size; (try simp at this); omega
      have y1_1 : w.heap.size + 1 < w1.heap.size := by have := hb1.size; (try simp at this); omega
      have y1_2 : w.heap.size + 2 < w1.heap.size := by have := hb1.size; (try simp at this); omega
      have k1_0_0 : w1.cell? ⟨w.heap.size, 0, none⟩ = some (.int .i64 n1) := by rw [hc1 _ _ (by (try simp); (try omega))]; go_simp
      have k1_0_1 : w1.cell? ⟨w.heap.size, 1, none⟩ = some (.int .i64 d1) := by rw [hc1 _ _ (by (try simp); (try omega))]; go_simp
      have k1_0_2 : w1.cell? ⟨w.heap.size, 2, none⟩ = some (.string t1) := by rw [hc1 _ _ (by (try simp); (try omega))]; go_simp
      have k1_1_0 : w1.cell? ⟨w.heap.size + 1, 0, none⟩ = some (.int .i64 n2) := by rw [hc1 _ _ (by (try simp); (try omega))]; go_simp
      have k1_1_1 : w1.cell? ⟨w.heap.size + 1, 1, none⟩ = some (.int .i64 d2) := by rw [hc1 _ _ (by (try simp); (try omega))]; go_simp
      have k1_1_2 : w1.cell? ⟨w.heap.size + 1, 2, none⟩ = some (.string t2) := by rw [hc1 _ _ (by (try simp); (try omega))]; go_simp
      have k1_2_0 : w1.cell? ⟨w.heap.size + 2, 0, none⟩ = some (.int .i64 0) := by rw [hc1 _ _ (by (try simp); (try omega))]; go_simp
      have k1_2_1 : w1.cell? ⟨w.heap.size + 2, 1, none⟩ = some (.int .i64 0) := by rw [hc1 _ _ (by (try simp); (try omega))]; go_simp
      have k1_2_2 : w1.cell? ⟨w.heap.size + 2, 2, none⟩ = some (.string ⟨#[]⟩) := by rw [hc1 _ _ (by (try simp); (try omega))]; go_simp
      clear hc1
      go_wp2_with fail
      refine (zaq n2 d2 t2 _).mono ?_
      rintro e w2 ⟨rfl, hb2⟩
      obtain ⟨hc2, hf2⟩ := bcell hb2
      have B2 : Below w.heap.size w w2 := zap (by go_grown) (Nat.le_refl _) hb2
      have z2 : w.heap.size ≤ w2.heap.size := B2.size
      have y2_0 : w.heap.size < w2.heap.size := by have := hb2.size; (try simp at this); omega
      have y2_1 : w.heap.size + 1 < w2.heap.size := by have := hb2.size; (try simp at this); omega
      have y2_2 : w.heap.size + 2 < w2.heap.size := by have := hb2.size; (try simp at this); omega
      have k2_0_0 : w2.cell? ⟨w.heap.size, 0, none⟩ = some (.int .i64 n1) := by rw [hc2 _ _ (by (try simp); (try omega))]; go_simp
      have k2_0_1 : w2.cell? ⟨w.heap.size, 1, none⟩ = some (.int .i64 d1) := by rw [hc2 _ _ (by (try simp); (try omega))]; go_simp
      have k2_0_2 : w2.cell? ⟨w.heap.size, 2, none⟩ = some (.string t1) := by rw [hc2 _ _ (by (try simp); (try omega))]; go_simp
      have k2_1_0 : w2.cell? ⟨w.heap.size + 1, 0, none⟩ = some (.int .i64 n2) := by rw [hc2 _ _ (by (try simp); (try omega))]; go_simp
      have k2_1_1 : w2.cell? ⟨w.heap.size + 1, 1, none⟩ = some (.int .i64 d2) := by rw [hc2 _ _ (by (try simp); (try omega))]; go_simp
      have k2_1_2 : w2.cell? ⟨w.heap.size + 1, 2, none⟩ = some (.string t2) := by rw [hc2 _ _ (by (try simp); (try omega))]; go_simp
      have k2_2_0 : w2.cell? ⟨w.heap.size + 2, 0, none⟩ = some (.int .i64 0) := by rw [hc2 _ _ (by (try simp); (try omega))]; go_simp
      have k2_2_1 : w2.cell? ⟨w.heap.size + 2, 1, none⟩ = some (.int .i64 0) := by rw [hc2 _ _ (by (try simp); (try omega))]; go_simp
      have k2_2_2 : w2.cell? ⟨w.heap.size + 2, 2, none⟩ = some (.string ⟨#[]⟩) := by rw [hc2 _ _ (by (try simp); (try omega))]; go_simp
      clear hc2
      go_wp2_with fail
      exact bodyPost_ret (v := .agg #[.int .i64 0, .int .i64 0, .string ⟨#[]⟩]) (by simp [results, Try.results167, go_sem, *]) rfl ⟨zau HM.out, by go_grown⟩
    · have hyes := op2_yes (r := Nm.mk (n1 * n2) (d1 * d2)) h1 h2
      obtain ⟨a1, a2, a3, a4⟩ := zaz h1
      obtain ⟨b1, b2, b3, b4⟩ := zaz h2
      obtain ⟨m1, m2⟩ := zav (a := n1) (b := d2) (by omega) (by omega)
      obtain ⟨m3, m4⟩ := zav (a := n2) (b := d1) (by omega) (by omega)
      obtain ⟨m5, m6⟩ := zav (a := d1) (b := d2) (by omega) (by omega)
      obtain ⟨m7, m8⟩ := zav (a := n1) (b := n2) (by omega) (by omega)
      obtain ⟨m9, m10⟩ := zav (a := d1) (b := n2) (by omega) (by omega)
      have HM := Lib.hid (show mulI n1 d1 t1 n2 d2 t2 = _ from hyes)
      clear hyes
      go_enter Try.func167, Try.ntmps167
      go_wp2_with fail
      refine (zaq n1 d1 t1 _).mono ?_
      rintro e w1 ⟨rfl, hb1⟩
      obtain ⟨hc1, hf1⟩ := bcell hb1
      have B1 : Below w.heap.size w w1 := zap (by go_grown) (Nat.le_refl _) hb1
      have z1 : w.heap.size ≤ w1.heap.size := B1.size
      have y1_0 : w.heap.size < w1.heap.size := by have := hb1.size; (try simp at this); omega
      have y1_1 : w.heap.size + 1 < w1.heap.size := by have := hb1.size; (try simp at this); omega
      have y1_2 : w.heap.size + 2 < w1.heap.size := by have := hb1.size; (try simp at this); omega
      have k1_0_0 : w1.cell? ⟨w.heap.size, 0, none⟩ = some (.int .i64 n1) := by rw [hc1 _ _ (by (try simp); (try omega))]; go_simp
      have k1_0_1 : w1.cell? ⟨w.heap.size, 1, none⟩ = some (.int .i64 d1) := by rw [hc1 _ _ (by (try simp); (try omega))]; go_simp
      have k1_0_2 : w1.cell? ⟨w.heap.size, 2, none⟩ = some (.string t1) := by rw [hc1 _ _ (by (try simp); (try omega))]; go_simp
      have k1_1_0 : w1.cell? ⟨w.heap.size + 1, 0, none⟩ = some (.int .i64 n2) := by rw [hc1 _ _ (by (try simp); (try omega))]; go_simp
      have k1_1_1 : w1.cell? ⟨w.heap.size + 1, 1, none⟩ = some (.int .i64 d2) := by rw [hc1 _ _ (by (try simp); (try omega))]; go_simp
      have k1_1_2 : w1.cell? ⟨w.heap.size + 1, 2, none⟩ = some (.string t2) := by rw [hc1 _ _ (by (try simp); (try omega))]; go_simp
      have k1_2_0 : w1.cell? ⟨w.heap.size + 2, 0, none⟩ = some (.int .i64 0) := by rw [hc1 _ _ (by (try simp); (try omega))]; go_simp
      have k1_2_1 : w1.cell? ⟨w.heap.size + 2, 1, none⟩ = some (.int .i64 0) := by rw [hc1 _ _ (by (try simp); (try omega))]; go_simp
      have k1_2_2 : w1.cell? ⟨w.heap.size + 2, 2, none⟩ = some (.string ⟨#[]⟩) := by rw [hc1 _ _ (by (try simp); (try omega))]; go_simp
      clear hc1
      go_wp2_with fail
      refine (zaq n2 d2 t2 _).mono ?_
      rintro e w2 ⟨rfl, hb2⟩
      obtain ⟨hc2, hf2⟩ := bcell hb2
      have B2 : Below w.heap.size w w2 := zap (by go_grown) (Nat.le_refl _) hb2
      have z2 : w.heap.size ≤ w2.heap.size := B2.size
      have y2_0 : w.heap.size < w2.heap.size := by have := hb2.size; (try simp at this); omega
      have y2_1 : w.heap.size + 1 < w2.heap.size := by have := hb2.size; (try simp at this); omega
      have y2_2 : w.heap.size + 2 < w2.heap.size := by have := hb2.size; (try simp at this); omega
      have k2_0_0 : w2.cell? ⟨w.heap.size, 0, none⟩ = some (.int .i64 n1) := by rw [hc2 _ _ (by (try simp); (try omega))]; go_simp
      have k2_0_1 : w2.cell? ⟨w.heap.size, 1, none⟩ = some (.int .i64 d1) := by rw [hc2 _ _ (by (try simp); (try omega))]; go_simp
      have k2_0_2 : w2.cell? ⟨w.heap.size, 2, none⟩ = some (.string t1) := by rw [hc2 _ _ (by (try simp); (try omega))]; go_simp
      have k2_1_0 : w2.cell? ⟨w.heap.size + 1, 0, none⟩ = some (.int .i64 n2) := by rw [hc2 _ _ (by (try simp); (try omega))]; go_simp
      have k2_1_1 : w2.cell? ⟨w.heap.size + 1, 1, none⟩ = some (.int .i64 d2) := by rw [hc2 _ _ (by (try simp); (try omega))]; go_simp
      have k2_1_2 : w2.cell? ⟨w.heap.size + 1, 2, none⟩ = some (.string t2) := by rw [hc2 _ _ (by (try simp); (try omega))]; go_simp
      have k2_2_0 : w2.cell? ⟨w.heap.size + 2, 0, none⟩ = some (.int .i64 0) := by rw [hc2 _ _ (by (try simp); (try omega))]; go_simp
      have k2_2_1 : w2.cell? ⟨w.heap.size + 2, 1, none⟩ = some (.int .i64 0) := by rw [hc2 _ _ (by (try simp); (try omega))]; go_simp
      have k2_2_2 : w2.cell? ⟨w.heap.size + 2, 2, none⟩ = some (.string ⟨#[]⟩) := by rw [hc2 _ _ (by (try simp); (try omega))]; go_simp
      clear hc2
      go_wp2_with fail
      refine (spec_make (n1 * n2) (d1 * d2) _ (by omega) (by omega)).mono ?_
      rintro e w3 ⟨rfl, hb3⟩
      obtain ⟨hc3, hf3⟩ := bcell hb3
      have B3 : Below w.heap.size w w3 := zap (by go_grown) (Nat.le_refl _) hb3
      have z3 : w.heap.size ≤ w3.heap.size := B3.size
      have y3_0 : w.heap.size < w3.heap.size := by have := hb3.size; (try simp at this); omega
      have y3_1 : w.heap.size + 1 < w3.heap.size := by have := hb3.size; (try simp at this); omega
      have y3_2 : w.heap.size + 2 < w3.heap.size := by have := hb3.size; (try simp at this); omega
      have k3_0_0 : w3.cell? ⟨w.heap.size, 0, none⟩ = some (.int .i64 n1) := by rw [hc3 _ _ (by (try simp); (try omega))]; go_simp
      have k3_0_1 : w3.cell? ⟨w.heap.size, 1, none⟩ = some (.int .i64 d1) := by rw [hc3 _ _ (by (try simp); (try omega))]; go_simp
      have k3_0_2 : w3.cell? ⟨w.heap.size, 2, none⟩ = some (.string t1) := by rw [hc3 _ _ (by (try simp); (try omega))]; go_simp
      have k3_1_0 : w3.cell? ⟨w.heap.size + 1, 0, none⟩ = some (.int .i64 n2) := by rw [hc3 _ _ (by (try simp); (try omega))]; go_simp
      have k3_1_1 : w3.cell? ⟨w.heap.size + 1, 1, none⟩ = some (.int .i64 d2) := by rw [hc3 _ _ (by (try simp); (try omega))]; go_simp
      have k3_1_2 : w3.cell? ⟨w.heap.size + 1, 2, none⟩ = some (.string t2) := by rw [hc3 _ _ (by (try simp); (try omega))]; go_simp
      have k3_2_0 : w3.cell? ⟨w.heap.size + 2, 0, none⟩ = some (.int .i64 0) := by rw [hc3 _ _ (by (try simp); (try omega))]; go_simp
      have k3_2_1 : w3.cell? ⟨w.heap.size + 2, 1, none⟩ = some (.int .i64 0) := by rw [hc3 _ _ (by (try simp); (try omega))]; go_simp
      have k3_2_2 : w3.cell? ⟨w.heap.size + 2, 2, none⟩ = some (.string ⟨#[]⟩) := by rw [hc3 _ _ (by (try simp); (try omega))]; go_simp
      clear hc3
      go_wp2_with fail
      exact bodyPost_ret (v := .agg #[.int .i64 (Nm.mk (n1 * n2) (d1 * d2)).1, .int .i64 (Nm.mk (n1 * n2) (d1 * d2)).2, .string ⟨#[]⟩]) (by simp [results, Try.results167, go_sem, *]) rfl ⟨zau HM.out, by go_grown⟩

theorem spec_div (n1 d1 n2 d2 : Int) (t1 t2 : ByteArray) (w : World) :
    Calls Try.prog 168 #[.agg #[.int .i64 n1, .int .i64 d1, .string t1], .agg #[.int .i64 n2, .int .i64 d2, .string t2]] w fun e w' =>
      e = .returned (.agg #[.int .i64 (divI n1 d1 t1 n2 d2 t2).1, .int .i64 (divI n1 d1 t1 n2 d2 t2).2, .string ⟨#[]⟩]) ∧ Below w.heap.size w w' := by
  cases h1 : zax n1 d1 t1
  · have HM := Lib.hid (show divI n1 d1 t1 n2 d2 t2 = (0, 0) from op2_no1 h1)
    go_enter Try.func168, Try.ntmps168
    go_wp2_with fail
    refine (zaq n1 d1 t1 _).mono ?_
    rintro e w1 ⟨rfl, hb1⟩
    obtain ⟨hc1, hf1⟩ := bcell hb1
    have B1 : Below w.heap.size w w1 := zap (by go_grown) (Nat.le_refl _) hb1
    have z1 : w.heap.size ≤ w1.heap.size := B1.size
    have y1_0 : w.heap.size < w1.heap.size := by have := hb1.size; (try simp at this); omega
    have y1_1 : w.heap.size + 1 < w1.heap.size := by have := hb1.size; (try simp at this); omega
    have y1_2 : w.heap.size + 2 < w1.heap.size := by have := hb1.size; (try simp at this); omega
    have k1_0_0 : w1.cell? ⟨w.heap.size, 0, none⟩ = some (.int .i64 n1) := by rw [hc1 _ _ (by (try simp); (try omega))]; go_simp
    have k1_0_1 : w1.cell? ⟨w.heap.size, 1, none⟩ = some (.int .i64 d1) := by rw [hc1 _ _ (by (try simp); (try omega))]; go_simp
    have k1_0_2 : w1.cell? ⟨w.heap.size, 2, none⟩ = some (.string t1) := by rw [hc1 _ _ (by (try simp); (try omega))]; go_simp
    have k1_1_0 : w1.cell? ⟨w.heap.size + 1, 0, none⟩ = some (.int .i64 n2) := by rw [hc1 _ _ (by (try simp); (try omega))]; go_simp
    have k1_1_1 : w1.cell? ⟨w.heap.size + 1, 1, none⟩ = some (.int .i64 d2) := by rw [hc1 _ _ (by (try simp); (try omega))]; go_simp
    have k1_1_2 : w1.cell? ⟨w.heap.size + 1, 2, none⟩ = some (.string t2) := by rw [hc1 _ _ (by (try simp); (try omega))]; go_simp
    have k1_2_0 : w1.cell? ⟨w.heap.size + 2, 0, none⟩ = some (.int .i64 0) := by rw [hc1 _ _ (by (try simp); (try omega))]; go_simp
    have k1_2_1 : w1.cell? ⟨w.heap.size + 2, 1, none⟩ = some (.int .i64 0) := by rw [hc1 _ _ (by (try simp); (try omega))]; go_simp
    have k1_2_2 : w1.cell? ⟨w.heap.size + 2, 2, none⟩ = some (.string ⟨#[]⟩) := by rw [hc1 _ _ (by (try simp); (try omega))]; go_simp
    clear hc1
    go_wp2_with fail
    exact bodyPost_ret (v := .agg #[.int .i64 0, .int .i64 0, .string ⟨#[]⟩]) (by simp [results, Try.results168, go_sem, *]) rfl ⟨zau HM.out, by go_grown⟩
  · cases h2 : zax n2 d2 t2
    · have HM := Lib.hid (show divI n1 d1 t1 n2 d2 t2 = (0, 0) from op2_no2 h2)
      go_enter Try.func168, Try.ntmps168
      go_wp2_with fail
      refine (zaq n1 d1 t1 _).mono ?_
      rintro e w1 ⟨rfl, hb1⟩
      obtain ⟨hc1, hf1⟩ := bcell hb1
      have B1 : Below w.heap.size w w1 := zap (by go_grown) (Nat.le_refl _) hb1
      have z1 : w.heap.size ≤ w1.heap.size := B1.size
      have y1_0 : w.heap.size < w1.heap.size := by have := hb1.size; (try simp at this); omega
      have y1_1 : w.heap.size + 1 < w1.heap.size := by have := hb1.size; (try simp at this); omega
      have y1_2 : w.heap.size + 2 < w1.heap.size := by have := hb1.size; (try simp at this); omega
      have k1_0_0 : w1.cell? ⟨w.heap.size, 0, none⟩ = some (.int .i64 n1) := by rw [hc1 _ _ (by (try simp); (try omega))]; go_simp
      have k1_0_1 : w1.cell? ⟨w.heap.size, 1, none⟩ = some (.int .i64 d1) := by rw [hc1 _ _ (by (try simp); (try omega))]; go_simp
      have k1_0_2 : w1.cell? ⟨w.heap.size, 2, none⟩ = some (.string t1) := by rw [hc1 _ _ (by (try simp); (try omega))]; go_simp
      have k1_1_0 : w1.cell? ⟨w.heap.size + 1, 0, none⟩ = some (.int .i64 n2) := by rw [hc1 _ _ (by (try simp); (try omega))]; go_simp
      have k1_1_1 : w1.cell? ⟨w.heap.size + 1, 1, none⟩ = some (.int .i64 d2) := by rw [hc1 _ _ (by (try simp); (try omega))]; go_simp
      have k1_1_2 : w1.cell? ⟨w.heap.size + 1, 2, none⟩ = some (.string t2) := by rw [hc1 _ _ (by (try simp); (try omega))]; go_simp
      have k1_2_0 : w1.cell? ⟨w.heap.size + 2, 0, none⟩ = some (.int .i64 0) := by rw [hc1 _ _ (by (try simp); (try omega))]; go_simp
      have k1_2_1 : w1.cell? ⟨w.heap.size + 2, 1, none⟩ = some (.int .i64 0) := by rw [hc1 _ _ (by (try simp); (try omega))]; go_simp
      have k1_2_2 : w1.cell? ⟨w.heap.size + 2, 2, none⟩ = some (.string ⟨#[]⟩) := by rw [hc1 _ _ (by (try simp); (try omega))]; go_simp
      clear hc1
      go_wp2_with fail
      refine (zaq n2 d2 t2 _).mono ?_
      rintro e w2 ⟨rfl, hb2⟩
      obtain ⟨hc2, hf2⟩ := bcell hb2
      have B2 : Below w.heap.size w w2 := zap (by go_grown) (Nat.le_refl _) hb2
      have z2 : w.heap.size ≤ w2.heap.size := B2.size
      have y2_0 : w.heap.size < w2.heap.size := by have := hb2.size; (try simp at this); omega
      have y2_1 : w.heap.size + 1 < w2.heap.size := by have := hb2.size; (try simp at this); omega
      have y2_2 : w.heap.size + 2 < w2.heap.size := by have := hb2.size; (try simp at this); omega
      have k2_0_0 : w2.cell? ⟨w.heap.size, 0, none⟩ = some (.int .i64 n1) := by rw [hc2 _ _ (by (try simp); (try omega))]; go_simp
      have k2_0_1 : w2.cell? ⟨w.heap.size, 1, none⟩ = some (.int .i64 d1) := by rw [hc2 _ _ (by (try simp); (try omega))]; go_simp
      have k2_0_2 : w2.cell? ⟨w.heap.size, 2, none⟩ = some (.string t1) := by rw [hc2 _ _ (by (try simp); (try omega))]; go_simp
      have k2_1_0 : w2.cell? ⟨w.heap.size + 1, 0, none⟩ = some (.int .i64 n2) := by rw [hc2 _ _ (by (try simp); (try omega))]; go_simp
      have k2_1_1 : w2.cell? ⟨w.heap.size + 1, 1, none⟩ = some (.int .i64 d2) := by rw [hc2 _ _ (by (try simp); (try omega))]; go_simp
      have k2_1_2 : w2.cell? ⟨w.heap.size + 1, 2, none⟩ = some (.string t2) := by rw [hc2 _ _ (by (try simp); (try omega))]; go_simp
      have k2_2_0 : w2.cell? ⟨w.heap.size + 2, 0, none⟩ = some (.int .i64 0) := by rw [hc2 _ _ (by (try simp); (try omega))]; go_simp
      have k2_2_1 : w2.cell? ⟨w.heap.size + 2, 1, none⟩ = some (.int .i64 0) := by rw [hc2 _ _ (by (try simp); (try omega))]; go_simp
      have k2_2_2 : w2.cell? ⟨w.heap.size + 2, 2, none⟩ = some (.string ⟨#[]⟩) := by rw [hc2 _ _ (by (try simp); (try omega))]; go_simp
      clear hc2
      go_wp2_with fail
      exact bodyPost_ret (v := .agg #[.int .i64 0, .int .i64 0, .string ⟨#[]⟩]) (by simp [results, Try.results168, go_sem, *]) rfl ⟨zau HM.out, by go_grown⟩
    · have hyes := op2_yes (r := Nm.mk (n1 * d2) (d1 * n2)) h1 h2
      obtain ⟨a1, a2, a3, a4⟩ := zaz h1
      obtain ⟨b1, b2, b3, b4⟩ := zaz h2
      obtain ⟨m1, m2⟩ := zav (a := n1) (b := d2) (by omega) (by omega)
      obtain ⟨m3, m4⟩ := zav (a := n2) (b := d1) (by omega) (by omega)
      obtain ⟨m5, m6⟩ := zav (a := d1) (b := d2) (by omega) (by omega)
      obtain ⟨m7, m8⟩ := zav (a := n1) (b := n2) (by omega) (by omega)
      obtain ⟨m9, m10⟩ := zav (a := d1) (b := n2) (by omega) (by omega)
      have HM := Lib.hid (show divI n1 d1 t1 n2 d2 t2 = _ from hyes)
      clear hyes
      go_enter Try.func168, Try.ntmps168
      go_wp2_with fail
      refine (zaq n1 d1 t1 _).mono ?_
      rintro e w1 ⟨rfl, hb1⟩
      obtain ⟨hc1, hf1⟩ := bcell hb1
      have B1 : Below w.heap.size w w1 := zap (by go_grown) (Nat.le_refl _) hb1
      have z1 : w.heap.size ≤ w1.heap.size := B1.size
      have y1_0 : w.heap.size < w1.heap.size := by have := hb1.size; (try simp at this); omega
      have y1_1 : w.heap.size + 1 < w1.heap.size := by have := hb1.size; (try simp at this); omega
      have y1_2 : w.heap.size + 2 < w1.heap.size := by have := hb1.size; (try simp at this); omega
      have k1_0_0 : w1.cell? ⟨w.heap.size, 0, none⟩ = some (.int .i64 n1) := by rw [hc1 _ _ (by (try simp); (try omega))]; go_simp
      have k1_0_1 : w1.cell? ⟨w.heap.size, 1, none⟩ = some (.int .i64 d1) := by rw [hc1 _ _ (by (try simp); (try omega))]; go_simp
      have k1_0_2 : w1.cell? ⟨w.heap.size, 2, none⟩ = some (.string t1) := by rw [hc1 _ _ (by (try simp); (try omega))]; go_simp
      have k1_1_0 : w1.cell? ⟨w.heap.size + 1, 0, none⟩ = some (.int .i64 n2) := by rw [hc1 _ _ (by (try simp); (try omega))]; go_simp
      have k1_1_1 : w1.cell? ⟨w.heap.size + 1, 1, none⟩ = some (.int .i64 d2) := by rw [hc1 _ _ (by (try simp); (try omega))]; go_simp
      have k1_1_2 : w1.cell? ⟨w.heap.size + 1, 2, none⟩ = some (.string t2) := by rw [hc1 _ _ (by (try simp); (try omega))]; go_simp
      have k1_2_0 : w1.cell? ⟨w.heap.size + 2, 0, none⟩ = some (.int .i64 0) := by rw [hc1 _ _ (by (try simp); (try omega))]; go_simp
      have k1_2_1 : w1.cell? ⟨w.heap.size + 2, 1, none⟩ = some (.int .i64 0) := by rw [hc1 _ _ (by (try simp); (try omega))]; go_simp
      have k1_2_2 : w1.cell? ⟨w.heap.size + 2, 2, none⟩ = some (.string ⟨#[]⟩) := by rw [hc1 _ _ (by (try simp); (try omega))]; go_simp
      clear hc1
      go_wp2_with fail
      refine (zaq n2 d2 t2 _).mono ?_
      rintro e w2 ⟨rfl, hb2⟩
      obtain ⟨hc2, hf2⟩ := bcell hb2
      have B2 : Below w.heap.size w w2 := zap (by go_grown) (Nat.le_refl _) hb2
      have z2 : w.heap.size ≤ w2.heap.size := B2.size
      have y2_0 : w.heap.size < w2.heap.size := by have := hb2.size; (try simp at this); omega
      have y2_1 : w.heap.size + 1 < w2.heap.size := by have := hb2.size; (try simp at this); omega
      have y2_2 : w.heap.size + 2 < w2.heap.size := by have := hb2.size; (try simp at this); omega
      have k2_0_0 : w2.cell? ⟨w.heap.size, 0, none⟩ = some (.int .i64 n1) := by rw [hc2 _ _ (by (try simp); (try omega))]; go_simp
      have k2_0_1 : w2.cell? ⟨w.heap.size, 1, none⟩ = some (.int .i64 d1) := by rw [hc2 _ _ (by (try simp); (try omega))]; go_simp
      have k2_0_2 : w2.cell? ⟨w.heap.size, 2, none⟩ = some (.string t1) := by rw [hc2 _ _ (by (try simp); (try omega))]; go_simp
      have k2_1_0 : w2.cell? ⟨w.heap.size + 1, 0, none⟩ = some (.int .i64 n2) := by rw [hc2 _ _ (by (try simp); (try omega))]; go_simp
      have k2_1_1 : w2.cell? ⟨w.heap.size + 1, 1, none⟩ = some (.int .i64 d2) := by rw [hc2 _ _ (by (try simp); (try omega))]; go_simp
      have k2_1_2 : w2.cell? ⟨w.heap.size + 1, 2, none⟩ = some (.string t2) := by rw [hc2 _ _ (by (try simp); (try omega))]; go_simp
      have k2_2_0 : w2.cell? ⟨w.heap.size + 2, 0, none⟩ = some (.int .i64 0) := by rw [hc2 _ _ (by (try simp); (try omega))]; go_simp
      have k2_2_1 : w2.cell? ⟨w.heap.size + 2, 1, none⟩ = some (.int .i64 0) := by rw [hc2 _ _ (by (try simp); (try omega))]; go_simp
      have k2_2_2 : w2.cell? ⟨w.heap.size + 2, 2, none⟩ = some (.string ⟨#[]⟩) := by rw [hc2 _ _ (by (try simp); (try omega))]; go_simp
      clear hc2
      go_wp2_with fail
      refine (spec_make (n1 * d2) (d1 * n2) _ (by omega) (by omega)).mono ?_
      rintro e w3 ⟨rfl, hb3⟩
      obtain ⟨hc3, hf3⟩ := bcell hb3
      have B3 : Below w.heap.size w w3 := zap (by go_grown) (Nat.le_refl _) hb3
      have z3 : w.heap.size ≤ w3.heap.size := B3.size
      have y3_0 : w.heap.size < w3.heap.size := by have := hb3.size; (try simp at this); omega
      have y3_1 : w.heap.size + 1 < w3.heap.size := by have := hb3.size; (try simp at this); omega
      have y3_2 : w.heap.size + 2 < w3.heap.size := by have := hb3.size; (try simp at this); omega
      have k3_0_0 : w3.cell? ⟨w.heap.size, 0, none⟩ = some (.int .i64 n1) := by rw [hc3 _ _ (by (try simp); (try omega))]; go_simp
      have k3_0_1 : w3.cell? ⟨w.heap.size, 1, none⟩ = some (.int .i64 d1) := by rw [hc3 _ _ (by (try simp); (try omega))]; go_simp
      have k3_0_2 : w3.cell? ⟨w.heap.size, 2, none⟩ = some (.string t1) := by rw [hc3 _ _ (by (try simp); (try omega))]; go_simp
      have k3_1_0 : w3.cell? ⟨w.heap.size + 1, 0, none⟩ = some (.int .i64 n2) := by rw [hc3 _ _ (by (try simp); (try omega))]; go_simp
      have k3_1_1 : w3.cell? ⟨w.heap.size + 1, 1, none⟩ = some (.int .i64 d2) := by rw [hc3 _ _ (by (try simp); (try omega))]; go_simp
      have k3_1_2 : w3.cell? ⟨w.heap.size + 1, 2, none⟩ = some (.string t2) := by rw [hc3 _ _ (by (try simp); (try omega))]; go_simp
      have k3_2_0 : w3.cell? ⟨w.heap.size + 2, 0, none⟩ = some (.int .i64 0) := by rw [hc3 _ _ (by (try simp); (try omega))]; go_simp
      have k3_2_1 : w3.cell? ⟨w.heap.size + 2, 1, none⟩ = some (.int .i64 0) := by rw [hc3 _ _ (by (try simp); (try omega))]; go_simp
      have k3_2_2 : w3.cell? ⟨w.heap.size + 2, 2, none⟩ = some (.string ⟨#[]⟩) := by rw [hc3 _ _ (by (try simp); (try omega))]; go_simp
      clear hc3
      go_wp2_with fail
      exact bodyPost_ret (v := .agg #[.int .i64 (Nm.mk (n1 * d2) (d1 * n2)).1, .int .i64 (Nm.mk (n1 * d2) (d1 * n2)).2, .string ⟨#[]⟩]) (by simp [results, Try.results168, go_sem, *]) rfl ⟨zau HM.out, by go_grown⟩

end Go.Proofs.Ytmofcbpabdbjlaa
