/-
  What is proved: the statement on MakeNumber.
  Condition: the arguments are ints of 64 bits.
-/
import Derived.Test.YtkfjbofneaaioaaMakeS
namespace Go.Proofs.Ytkfjbofneaaioaa
open Go.RowKit
set_option linter.unusedVariables false
set_option linter.unusedSimpArgs false

theorem laws_eqItem (n d : Int) (t : ByteArray) (w : World) : Calls Try.prog 17 #[.agg #[.int .i64 n, .int .i64 d, .string t], .agg #[.int .i64 n, .int .i64 d, .string t]] w fun e w' => e = .returned (.bool true) ∧ Below w.heap.size w w' := by
  go_enter Try.func17, Try.ntmps17
  go_wp2_with fail
  go_ret
  exact ⟨rfl, by go_grown⟩

theorem fnExactMakeNumber_walk (v0 v1 : Value) (w : World) (h0 : ArgInt w v0) (h1 : ArgInt w v1) : Calls Try.prog 3 #[v0, v1] w fun e w' => e = .returned (.bool true) ∧ Below w.heap.size w w' := by
  obtain ⟨n, rfl, n1, n2⟩ := h0
  obtain ⟨d, rfl, d1, d2⟩ := h1
  obtain ⟨p, hp⟩ : ∃ p, p = (Nm.mk n d).1 := ⟨_, rfl⟩
  obtain ⟨q, hq⟩ : ∃ q, q = (Nm.mk n d).2 := ⟨_, rfl⟩
  have HP := Lib.hid hp
  have HQ := Lib.hid hq
  clear hp hq
  go_enter Try.func3, Try.ntmps3
  go_wp2_with fail
  refine (spec_make n d _ ⟨n1, n2⟩ ⟨d1, d2⟩).mono ?_
  rintro e w1 ⟨rfl, hb1⟩
  obtain ⟨hc1, hf1⟩ := bcell hb1
  have B1 : Below w.heap.size w w1 := below_next (by go_grown) (Nat.le_refl _) hb1
  have z1 : w.heap.size ≤ w1.heap.size := B1.size
  rw [← HP.out, ← HQ.out]
  go_wp2_with fail
  refine (impl_make n d _ ⟨n1, n2⟩ ⟨d1, d2⟩).mono ?_
  rintro e w2 ⟨rfl, hb2⟩
  obtain ⟨hc2, hf2⟩ := bcell hb2
  have B2 : Below w.heap.size w w2 := below_next (by go_grown) (Nat.le_refl _) hb2
  have z2 : w.heap.size ≤ w2.heap.size := B2.size
  have y2_0 : w1.heap.size < w2.heap.size := by have := hb2.size; (try simp at this); omega
  have k2_0_0 : w2.cell? ⟨w1.heap.size, 0, none⟩ = some (.int .i64 p) := by rw [hc2 _ _ (by (try simp); (try omega))]; go_simp
  have k2_0_1 : w2.cell? ⟨w1.heap.size, 1, none⟩ = some (.int .i64 q) := by rw [hc2 _ _ (by (try simp); (try omega))]; go_simp
  have k2_0_2 : w2.cell? ⟨w1.heap.size, 2, none⟩ = some (.string ⟨#[]⟩) := by rw [hc2 _ _ (by (try simp); (try omega))]; go_simp
  clear hc2
  rw [← HP.out, ← HQ.out]
  go_wp2_with fail
  refine (laws_eqItem p q ⟨#[]⟩ _).mono ?_
  rintro e w3 ⟨rfl, hb3⟩
  obtain ⟨hc3, hf3⟩ := bcell hb3
  have B3 : Below w.heap.size w w3 := below_next (by go_grown) (Nat.le_refl _) hb3
  have z3 : w.heap.size ≤ w3.heap.size := B3.size
  have y3_0 : w1.heap.size < w3.heap.size := by have := hb3.size; (try simp at this); omega
  have y3_1 : w2.heap.size < w3.heap.size := by have := hb3.size; (try simp at this); omega
  have k3_0_0 : w3.cell? ⟨w1.heap.size, 0, none⟩ = some (.int .i64 p) := by rw [hc3 _ _ (by (try simp); (try omega))]; go_simp
  have k3_0_1 : w3.cell? ⟨w1.heap.size, 1, none⟩ = some (.int .i64 q) := by rw [hc3 _ _ (by (try simp); (try omega))]; go_simp
  have k3_0_2 : w3.cell? ⟨w1.heap.size, 2, none⟩ = some (.string ⟨#[]⟩) := by rw [hc3 _ _ (by (try simp); (try omega))]; go_simp
  have k3_1_0 : w3.cell? ⟨w2.heap.size, 0, none⟩ = some (.int .i64 p) := by rw [hc3 _ _ (by (try simp); (try omega))]; go_simp
  have k3_1_1 : w3.cell? ⟨w2.heap.size, 1, none⟩ = some (.int .i64 q) := by rw [hc3 _ _ (by (try simp); (try omega))]; go_simp
  have k3_1_2 : w3.cell? ⟨w2.heap.size, 2, none⟩ = some (.string ⟨#[]⟩) := by rw [hc3 _ _ (by (try simp); (try omega))]; go_simp
  clear hc3
  go_wp2_with fail
  go_ret
  exact ⟨rfl, B3⟩

end Go.Proofs.Ytkfjbofneaaioaa
