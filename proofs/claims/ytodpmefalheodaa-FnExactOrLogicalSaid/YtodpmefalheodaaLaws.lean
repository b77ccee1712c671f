/-
  What is proved: the statements' functions on logical values, on names and on integers return true, and write nothing that was there.
  No condition.
-/
import Derived.Test.YtodpmefalheodaaLogic
namespace Go.Proofs.Ytodpmefalheodaa
open Go.RowKit

theorem fnExactConstants_walk (w : World) : Calls Try.prog 3 #[] w fun e w' => e = .returned (.bool true) ∧ Below w.heap.size w w' := by
  go_enter Try.func3, Try.ntmps3
  go_wp2
  go_ret
  exact ⟨rfl, Below.refl _ _⟩

theorem fnExactNotLogical_walk (v0 : Value) (w : World) (h0 : ArgInt w v0) : Calls Try.prog 4 #[v0] w fun e w' => e = .returned (.bool true) ∧ Below w.heap.size w w' := by
  obtain ⟨x, rfl, _, _⟩ := h0
  go_enter Try.func4, Try.ntmps4
  go_wp2_with (first | (go_at_call 15; refine (spec_not _ _).mono ?_; rintro e w' ⟨rfl, rfl⟩) | (go_at_call 16; refine (impl_not _ _).mono ?_; rintro e w' ⟨rfl, rfl⟩))
  go_ret
  exact ⟨rfl, Below.refl _ _⟩

theorem fnExactXorLogical_walk (v0 v1 : Value) (w : World) (h0 : ArgInt w v0) (h1 : ArgInt w v1) : Calls Try.prog 5 #[v0, v1] w fun e w' => e = .returned (.bool true) ∧ Below w.heap.size w w' := by
  obtain ⟨x, rfl, _, _⟩ := h0
  obtain ⟨y, rfl, _, _⟩ := h1
  go_enter Try.func5, Try.ntmps5
  go_wp2_with (first | (go_at_call 17; refine (spec_xor _ _ _).mono ?_; rintro e w' ⟨rfl, rfl⟩) | (go_at_call 18; refine (impl_xor _ _ _).mono ?_; rintro e w' ⟨rfl, rfl⟩))
  go_ret
  exact ⟨rfl, Below.refl _ _⟩

theorem fnExactAndLogical_walk (v0 v1 : Value) (w : World) (h0 : ArgInt w v0) (h1 : ArgInt w v1) : Calls Try.prog 7 #[v0, v1] w fun e w' => e = .returned (.bool true) ∧ Below w.heap.size w w' := by
  obtain ⟨x, rfl, _, _⟩ := h0
  obtain ⟨y, rfl, _, _⟩ := h1
  go_enter Try.func7, Try.ntmps7
  go_wp2_with (first | (go_at_call 21; refine (spec_and _ _ _).mono ?_; rintro e w' ⟨rfl, rfl⟩) | (go_at_call 22; refine (impl_and _ _ _).mono ?_; rintro e w' ⟨rfl, rfl⟩))
  go_ret
  exact ⟨rfl, Below.refl _ _⟩

theorem fnExactOrLogical_walk (v0 v1 : Value) (w : World) (h0 : ArgInt w v0) (h1 : ArgInt w v1) : Calls Try.prog 8 #[v0, v1] w fun e w' => e = .returned (.bool true) ∧ Below w.heap.size w w' := by
  obtain ⟨x, rfl, _, _⟩ := h0
  obtain ⟨y, rfl, _, _⟩ := h1
  go_enter Try.func8, Try.ntmps8
  go_wp2_with (first | (go_at_call 23; refine (spec_or _ _ _).mono ?_; rintro e w' ⟨rfl, rfl⟩) | (go_at_call 24; refine (impl_or _ _ _).mono ?_; rintro e w' ⟨rfl, rfl⟩))
  go_ret
  exact ⟨rfl, Below.refl _ _⟩

end Go.Proofs.Ytodpmefalheodaa
