/-
  What is proved: the statements on the functions on numbers.
  Condition: items of 64-bit ints.
-/
import Derived.Test.YtncmekbfmgcbnaaArithB
import Derived.Test.YtncmekbfmgcbnaaMakeL
import Derived.Deep.RegionWith
namespace Go.Proofs.Ytncmekbfmgcbnaa
open Go.RowKit
set_option linter.unusedVariables false
set_option linter.unusedSimpArgs false

theorem fnExactRoundNumber_walk (v0 : Value) (w : World) (h0 : ArgItem w v0) : Calls Try.prog 3 #[v0] w fun e w' => e = .returned (.bool true) ∧ Below w.heap.size w w' := by
  obtain ⟨n1, d1, t1, rfl, _, _, _, _, ht1⟩ := h0
  obtain ⟨p, hp⟩ : ∃ p, p = (roundI n1 d1 t1).1 := ⟨_, rfl⟩
  obtain ⟨q, hq⟩ : ∃ q, q = (roundI n1 d1 t1).2 := ⟨_, rfl⟩
  have HP := Lib.hid hp
  have HQ := Lib.hid hq
  clear hp hq
  go_enter Try.func3, Try.ntmps3
  go_wp2_with fail
  refine (laws_szItem n1 d1 1048576 t1 _ ht1 (by omega)).mono ?_
  rintro e w1 ⟨rfl, hb1⟩
  obtain ⟨hc1, hf1⟩ := bcell hb1
  have B1 : Below w.heap.size w w1 := below_next (by go_grown) (Nat.le_refl _) hb1
  have z1 : w.heap.size ≤ w1.heap.size := B1.size
  have y1_0 : w.heap.size < w1.heap.size := by have := hb1.size; (try simp at this); omega
  have k1_0_0 : w1.cell? ⟨w.heap.size, 0, none⟩ = some (.int .i64 n1) := by rw [hc1 _ _ (by (try simp); (try omega))]; go_simp
  have k1_0_1 : w1.cell? ⟨w.heap.size, 1, none⟩ = some (.int .i64 d1) := by rw [hc1 _ _ (by (try simp); (try omega))]; go_simp
  have k1_0_2 : w1.cell? ⟨w.heap.size, 2, none⟩ = some (.string t1) := by rw [hc1 _ _ (by (try simp); (try omega))]; go_simp
  clear hc1
  by_cases s1 : (1048576 : Int) < t1.size
  · rw [if_pos s1]
    go_wp2_with fail
    go_ret
    exact ⟨rfl, B1⟩
  · rw [if_neg s1]
    have s2 : 0 ≤ (1048576 : Int) - t1.size := by omega
    clear s1
    go_wp2_with fail
    refine (laws_toItem n1 d1 t1 _).mono ?_
    rintro e w3 ⟨rfl, hb3⟩
    obtain ⟨hc3, hf3⟩ := bcell hb3
    have B3 : Below w.heap.size w w3 := below_next (by go_grown) (Nat.le_refl _) hb3
    have z3 : w.heap.size ≤ w3.heap.size := B3.size
    have y3_0 : w.heap.size < w3.heap.size := by have := hb3.size; (try simp at this); omega
    have k3_0_0 : w3.cell? ⟨w.heap.size, 0, none⟩ = some (.int .i64 n1) := by rw [hc3 _ _ (by (try simp); (try omega))]; go_simp
    have k3_0_1 : w3.cell? ⟨w.heap.size, 1, none⟩ = some (.int .i64 d1) := by rw [hc3 _ _ (by (try simp); (try omega))]; go_simp
    have k3_0_2 : w3.cell? ⟨w.heap.size, 2, none⟩ = some (.string t1) := by rw [hc3 _ _ (by (try simp); (try omega))]; go_simp
    clear hc3
    go_wp2_with fail
    refine (spec_round n1 d1 t1 _).mono ?_
    rintro e w5 ⟨rfl, hb5⟩
    obtain ⟨hc5, hf5⟩ := bcell hb5
    have B5 : Below w.heap.size w w5 := below_next (by go_grown) (Nat.le_refl _) hb5
    have z5 : w.heap.size ≤ w5.heap.size := B5.size
    have y5_0 : w.heap.size < w5.heap.size := by have := hb5.size; (try simp at this); omega
    have k5_0_0 : w5.cell? ⟨w.heap.size, 0, none⟩ = some (.int .i64 n1) := by rw [hc5 _ _ (by (try simp); (try omega))]; go_simp
    have k5_0_1 : w5.cell? ⟨w.heap.size, 1, none⟩ = some (.int .i64 d1) := by rw [hc5 _ _ (by (try simp); (try omega))]; go_simp
    have k5_0_2 : w5.cell? ⟨w.heap.size, 2, none⟩ = some (.string t1) := by rw [hc5 _ _ (by (try simp); (try omega))]; go_simp
    clear hc5
    rw [← HP.out, ← HQ.out]
    go_wp2_with fail
    refine (laws_toItem n1 d1 t1 _).mono ?_
    rintro e w6 ⟨rfl, hb6⟩
    obtain ⟨hc6, hf6⟩ := bcell hb6
    have B6 : Below w.heap.size w w6 := below_next (by go_grown) (Nat.le_refl _) hb6
    have z6 : w.heap.size ≤ w6.heap.size := B6.size
    have y6_0 : w.heap.size < w6.heap.size := by have := hb6.size; (try simp at this); omega
    have y6_1 : w5.heap.size < w6.heap.size := by have := hb6.size; (try simp at this); omega
    have k6_0_0 : w6.cell? ⟨w.heap.size, 0, none⟩ = some (.int .i64 n1) := by rw [hc6 _ _ (by (try simp); (try omega))]; go_simp
    have k6_0_1 : w6.cell? ⟨w.heap.size, 1, none⟩ = some (.int .i64 d1) := by rw [hc6 _ _ (by (try simp); (try omega))]; go_simp
    have k6_0_2 : w6.cell? ⟨w.heap.size, 2, none⟩ = some (.string t1) := by rw [hc6 _ _ (by (try simp); (try omega))]; go_simp
    have k6_1_0 : w6.cell? ⟨w5.heap.size, 0, none⟩ = some (.int .i64 p) := by rw [hc6 _ _ (by (try simp); (try omega))]; go_simp
    have k6_1_1 : w6.cell? ⟨w5.heap.size, 1, none⟩ = some (.int .i64 q) := by rw [hc6 _ _ (by (try simp); (try omega))]; go_simp
    have k6_1_2 : w6.cell? ⟨w5.heap.size, 2, none⟩ = some (.string ⟨#[]⟩) := by rw [hc6 _ _ (by (try simp); (try omega))]; go_simp
    clear hc6
    go_wp2_with fail
    refine (impl_round n1 d1 t1 _).mono ?_
    rintro e w8 ⟨rfl, hb8⟩
    obtain ⟨hc8, hf8⟩ := bcell hb8
    have B8 : Below w.heap.size w w8 := below_next (by go_grown) (Nat.le_refl _) hb8
    have z8 : w.heap.size ≤ w8.heap.size := B8.size
    have y8_0 : w.heap.size < w8.heap.size := by have := hb8.size; (try simp at this); omega
    have y8_1 : w5.heap.size < w8.heap.size := by have := hb8.size; (try simp at this); omega
    have k8_0_0 : w8.cell? ⟨w.heap.size, 0, none⟩ = some (.int .i64 n1) := by rw [hc8 _ _ (by (try simp); (try omega))]; go_simp
    have k8_0_1 : w8.cell? ⟨w.heap.size, 1, none⟩ = some (.int .i64 d1) := by rw [hc8 _ _ (by (try simp); (try omega))]; go_simp
    have k8_0_2 : w8.cell? ⟨w.heap.size, 2, none⟩ = some (.string t1) := by rw [hc8 _ _ (by (try simp); (try omega))]; go_simp
    have k8_1_0 : w8.cell? ⟨w5.heap.size, 0, none⟩ = some (.int .i64 p) := by rw [hc8 _ _ (by (try simp); (try omega))]; go_simp
    have k8_1_1 : w8.cell? ⟨w5.heap.size, 1, none⟩ = some (.int .i64 q) := by rw [hc8 _ _ (by (try simp); (try omega))]; go_simp
    have k8_1_2 : w8.cell? ⟨w5.heap.size, 2, none⟩ = some (.string ⟨#[]⟩) := by rw [hc8 _ _ (by (try simp); (try omega))]; go_simp
    clear hc8
    rw [← HP.out, ← HQ.out]
    go_wp2_with fail
    refine (laws_eqItem p q ⟨#[]⟩ _).mono ?_
    rintro e w9 ⟨rfl, hb9⟩
    obtain ⟨hc9, hf9⟩ := bcell hb9
    have B9 : Below w.heap.size w w9 := below_next (by go_grown) (Nat.le_refl _) hb9
    have z9 : w.heap.size ≤ w9.heap.size := B9.size
    have y9_0 : w.heap.size < w9.heap.size := by have := hb9.size; (try simp at this); omega
    have y9_1 : w5.heap.size < w9.heap.size := by have := hb9.size; (try simp at this); omega
    have k9_0_0 : w9.cell? ⟨w.heap.size, 0, none⟩ = some (.int .i64 n1) := by rw [hc9 _ _ (by (try simp); (try omega))]; go_simp
    have k9_0_1 : w9.cell? ⟨w.heap.size, 1, none⟩ = some (.int .i64 d1) := by rw [hc9 _ _ (by (try simp); (try omega))]; go_simp
    have k9_0_2 : w9.cell? ⟨w.heap.size, 2, none⟩ = some (.string t1) := by rw [hc9 _ _ (by (try simp); (try omega))]; go_simp
    have k9_1_0 : w9.cell? ⟨w5.heap.size, 0, none⟩ = some (.int .i64 p) := by rw [hc9 _ _ (by (try simp); (try omega))]; go_simp
    have k9_1_1 : w9.cell? ⟨w5.heap.size, 1, none⟩ = some (.int .i64 q) := by rw [hc9 _ _ (by (try simp); (try omega))]; go_simp
    have k9_1_2 : w9.cell? ⟨w5.heap.size, 2, none⟩ = some (.string ⟨#[]⟩) := by rw [hc9 _ _ (by (try simp); (try omega))]; go_simp
    clear hc9
    go_wp2_with fail
    go_ret
    exact ⟨rfl, B9⟩

end Go.Proofs.Ytncmekbfmgcbnaa
