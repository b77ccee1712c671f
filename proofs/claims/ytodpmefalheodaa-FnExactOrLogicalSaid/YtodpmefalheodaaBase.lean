/-
  What is proved: how the arguments of this seat's statements read as plain values (integers, strings, items, slices of integers).
  No condition beyond what the reading itself gives.
-/
import Derived.Test.YtodpmefalheodaaChecked
import Derived.WalkKit
import Derived.ProofKit
import Derived.OpenShut
import Derived.Handy
import Derived.Lib.SmallJoins
namespace Go.Proofs.Ytodpmefalheodaa
open Go.ChangeShapes Go.WideShapes Go.RowKit Go.Joins
open Go.ChangeMaps (open_string)

def ArgInt (_w : World) (v : Value) : Prop := ∃ n : Int, v = .int .i64 n ∧ -9223372036854775808 ≤ n ∧ n ≤ 9223372036854775807
def ArgBool (_w : World) (v : Value) : Prop := ∃ b : Bool, v = .bool b
def ArgStr (_w : World) (v : Value) : Prop := ∃ s : ByteArray, v = .string s ∧ s.size ≤ maxLen

section
variable {H : Type} {enc : TypeId × Value → H} {W : World} {base : Nat} {spare : Nat → Bool} {held : Bool} {r : Reach} {b0 : Nat} {v : Value} {d : DataW H} {p : List MemPlace}

theorem arg_int (hv : Value.okWide Try.prog W r b0 3 v) (h : DataW.Trod enc Try.prog W base spare held 3 v d p) : ArgInt W v := by
  obtain ⟨n, rfl, _, _, hw⟩ := open_int Try.underlying3 hv h
  exact ⟨n, rfl, bounds_i64 hw⟩

theorem arg_bool (hv : Value.okWide Try.prog W r b0 4 v) (h : DataW.Trod enc Try.prog W base spare held 4 v d p) : ArgBool W v := by
  obtain ⟨n, rfl, _, _⟩ := open_bool Try.underlying4 hv h
  exact ⟨n, rfl⟩

theorem arg_str (hv : Value.okWide Try.prog W r b0 9 v) (h : DataW.Trod enc Try.prog W base spare held 9 v d p) : ArgStr W v := by
  obtain ⟨s, rfl, _, _, hs⟩ := open_string Try.underlying9 hv h
  exact ⟨s, rfl, hs⟩

end
end Go.Proofs.Ytodpmefalheodaa
