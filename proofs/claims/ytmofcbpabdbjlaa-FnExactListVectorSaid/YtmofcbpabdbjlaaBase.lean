/-
  What is proved: how the arguments of this seat's statements read as plain values (integers, strings, items, slices of integers).
  No condition beyond what the reading itself gives.
-/
import Derived.Test.YtmofcbpabdbjlaaChecked
import Derived.WalkKit
import Derived.ProofKit
import Derived.OpenShut
import Derived.Handy
import Derived.Lib.SmallJoins
namespace Go.Proofs.Ytmofcbpabdbjlaa
set_option maxRecDepth 8000
open Go.ChangeShapes Go.WideShapes Go.RowKit Go.Joins
open Go.ChangeMaps (open_string)

def ArgInt (_w : World) (v : Value) : Prop := ∃ n : Int, v = .int .i64 n ∧ -9223372036854775808 ≤ n ∧ n ≤ 9223372036854775807
def ArgBool (_w : World) (v : Value) : Prop := ∃ b : Bool, v = .bool b
def ArgItem (_w : World) (v : Value) : Prop := ∃ (n d : Int) (t : ByteArray), v = .agg #[.int .i64 n, .int .i64 d, .string t] ∧ -9223372036854775808 ≤ n ∧ n ≤ 9223372036854775807 ∧ -9223372036854775808 ≤ d ∧ d ≤ 9223372036854775807 ∧ t.size ≤ maxLen
def ArgStr (_w : World) (v : Value) : Prop := ∃ s : ByteArray, v = .string s ∧ s.size ≤ maxLen

theorem ret_int {k : IntKind} {a b : Int} (h : a = b) : Ending.returned (.int k a) = .returned (.int k b) := by rw [h]
theorem ret_bool {a b : Bool} (h : a = b) : Ending.returned (.bool a) = .returned (.bool b) := by rw [h]
theorem ret_str {a b : ByteArray} (h : a = b) : Ending.returned (.string a) = .returned (.string b) := by rw [h]

theorem bcell {W w1 : World} (hb : Below W.heap.size W w1) : (∀ b o, b < W.heap.size → w1.cell? ⟨b, o, none⟩ = W.cell? ⟨b, o, none⟩) ∧ (∀ b o, b < W.heap.size → w1.frozen? ⟨b, o, none⟩ = W.frozen? ⟨b, o, none⟩) :=
  ⟨fun b o h => hb.cell (p := ⟨b, o, none⟩) h, fun b o h => hb.frozen (p := ⟨b, o, none⟩) h⟩

theorem below_next {B : Nat} {w w1 w2 : World} (h : Below B w w1) (hB : B ≤ w.heap.size) (k : Below w1.heap.size w1 w2) : Below B w w2 := h.trans (k.mono (Nat.le_trans hB h.size))

def inI (x a b : Int) : Bool := decide (a ≤ x) && decide (x ≤ b)
theorem inI_eq (x a b : Int) : inI x a b = (decide (a ≤ x) && decide (x ≤ b)) := rfl
theorem inI_true {x a b : Int} (h : a ≤ x ∧ x ≤ b) : inI x a b = true := by simp [inI, h]
theorem inI_false {x a b : Int} (h : ¬ (a ≤ x ∧ x ≤ b)) : inI x a b = false := by simp [inI]; omega

theorem spec_in (x a b : Int) (w : World) : Calls Try.prog 104 #[.int .i64 x, .int .i64 a, .int .i64 b] w fun e w' => e = .returned (.bool (inI x a b)) ∧ w = w' := by
  go_enter Try.func104, Try.ntmps104
  go_wp2
  all_goals (go_ret; exact ⟨ret_bool (by simp_all [inI]; try omega), rfl⟩)

section
variable {H : Type} {enc : TypeId × Value → H} {W : World} {base : Nat} {spare : Nat → Bool} {held : Bool} {r : Reach} {b0 : Nat} {v : Value} {d : DataW H} {p : List MemPlace}

theorem arg_int (hv : Value.okWide Try.prog W r b0 3 v) (h : DataW.Trod enc Try.prog W base spare held 3 v d p) : ArgInt W v := by
  obtain ⟨n, rfl, _, _, hw⟩ := open_int Try.underlying3 hv h
  exact ⟨n, rfl, bounds_i64 hw⟩

theorem arg_bool (hv : Value.okWide Try.prog W r b0 4 v) (h : DataW.Trod enc Try.prog W base spare held 4 v d p) : ArgBool W v := by
  obtain ⟨n, rfl, _, _⟩ := open_bool Try.underlying4 hv h
  exact ⟨n, rfl⟩

theorem arg_str (hv : Value.okWide Try.prog W r b0 9 v) (h : DataW.Trod enc Try.prog W base spare held 9 v d p) : ArgStr W v := by
  obtain ⟨s, rfl, _, _, hs⟩ := open_string Try.underlying9 hv h
  exact ⟨s, rfl, hs⟩

theorem arg_item (hv : Value.okWide Try.prog W r b0 124 v) (h : DataW.Trod enc Try.prog W base spare held 124 v d p) : ArgItem W v := by
  obtain ⟨c0, c1, c2, y0, y1, y2, m, rfl, _, _, h0, h1, h2⟩ := open_agg3 Try.underlying124 (by kernel_rfl) (by kernel_rfl) hv h
  obtain ⟨n, e0, _, w0⟩ := DataW.trod_int Try.underlying3 h0
  obtain ⟨q, e1, _, w1⟩ := DataW.trod_int Try.underlying3 h1
  obtain ⟨t, e2, _, w2⟩ := DataW.trod_string Try.underlying9 h2
  simp at e0 e1 e2
  subst e0 e1 e2
  exact ⟨n, q, t, rfl, (bounds_i64 w0).1, (bounds_i64 w0).2, (bounds_i64 w1).1, (bounds_i64 w1).2, w2⟩

end
end Go.Proofs.Ytmofcbpabdbjlaa
