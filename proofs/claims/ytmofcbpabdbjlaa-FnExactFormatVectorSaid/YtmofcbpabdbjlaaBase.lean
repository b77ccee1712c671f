/-
  What is proved: how the arguments of this seat's statements read as plain values (integers, strings, items, slices of integers). plain facts on slices in memory: a slice that reads as a list of cells, kept while memory grows.
  No condition beyond what the reading itself gives. No condition.
-/
import Derived.Test.YtmofcbpabdbjlaaChecked
import Derived.WalkKit
import Derived.ProofKit
import Derived.OpenShut
import Derived.Handy
import Derived.Lib.SmallJoins
import Derived.Lib.Hide
import Derived.Deep.Light
import Derived.Deep.OwnRows
import Derived.BigQuiet
import Derived.Deep.QuietTactic
namespace Go.Proofs.Ytmofcbpabdbjlaa
set_option maxRecDepth 8000

section
open Go.ChangeShapes Go.WideShapes Go.RowKit Go.Joins
open Go.ChangeMaps (open_string)

def ArgInt (_w : World) (v : Value) : Prop := ∃ n : Int, v = .int .i64 n ∧ -9223372036854775808 ≤ n ∧ n ≤ 9223372036854775807
def ArgBool (_w : World) (v : Value) : Prop := ∃ b : Bool, v = .bool b
def ArgItem (_w : World) (v : Value) : Prop := ∃ (n d : Int) (t : ByteArray), v = .agg #[.int .i64 n, .int .i64 d, .string t] ∧ -9223372036854775808 ≤ n ∧ n ≤ 9223372036854775807 ∧ -9223372036854775808 ≤ d ∧ d ≤ 9223372036854775807 ∧ t.size ≤ maxLen
def ArgStr (_w : World) (v : Value) : Prop := ∃ s : ByteArray, v = .string s ∧ s.size ≤ maxLen

theorem ret_int {k : IntKind} {a b : Int} (h : a = b) : Ending.returned (.int k a) = .returned (.int k b) := by rw [h]
theorem ret_bool {a b : Bool} (h : a = b) : Ending.returned (.bool a) = .returned (.bool b) := by rw [h]
theorem ret_str {a b : ByteArray} (h : a = b) : Ending.returned (.string a) = .returned (.string b) := by rw [h]

theorem bcell {W w1 : World} (hb : Below W.heap.size W w1) : (∀ b o, b < W.heap.size → w1.cell? ⟨b, o, none⟩ = W.cell? ⟨b, o, none⟩) ∧ (∀ b o, b < W.heap.size → w1.frozen? ⟨b, o, none⟩ = W.frozen? ⟨b, o, none⟩) :=
  ⟨fun b o h => hb.cell (p := ⟨b, o, none⟩) h, fun b o h => hb.frozen (p := ⟨b, o, none⟩) h⟩

theorem below_next {B : Nat} {w w1 w2 : World} (h : Below B w w1) (hB : B ≤ w.heap.size) (k : Below w1.heap.size w1 w2) : Below B w w2 := h.trans (k.mono (Nat.le_trans hB h.size))

def inI (x a b : Int) : Bool := decide (a ≤ x) && decide (x ≤ b)
theorem inI_eq (x a b : Int) : inI x a b = (decide (a ≤ x) && decide (x ≤ b)) := rfl
theorem inI_true {x a b : Int} (h : a ≤ x ∧ x ≤ b) : inI x a b = true := by simp [inI, h]
theorem inI_false {x a b : Int} (h : ¬ (a ≤ x ∧ x ≤ b)) : inI x a b = false := by simp [inI]; omega

theorem spec_in (x a b : Int) (w : World) : Calls Try.prog 104 #[.int .i64 x, .int .i64 a, .int .i64 b] w fun e w' => e = .returned (.bool (inI x a b)) ∧ w = w' := by
  go_enter Try.func104, Try.ntmps104
  go_wp2
  all_goals (go_ret; exact ⟨ret_bool (by simp_all [inI]; try omega), rfl⟩)

section
variable {H : Type} {enc : TypeId × Value → H} {W : World} {base : Nat} {spare : Nat → Bool} {held : Bool} {r : Reach} {b0 : Nat} {v : Value} {d : DataW H} {p : List MemPlace}

theorem arg_int (hv : Value.okWide Try.prog W r b0 3 v) (h : DataW.Trod enc Try.prog W base spare held 3 v d p) : ArgInt W v := by
  obtain ⟨n, rfl, _, _, hw⟩ := open_int Try.underlying3 hv h
  exact ⟨n, rfl, bounds_i64 hw⟩

theorem arg_bool (hv : Value.okWide Try.prog W r b0 4 v) (h : DataW.Trod enc Try.prog W base spare held 4 v d p) : ArgBool W v := by
  obtain ⟨n, rfl, _, _⟩ := open_bool Try.underlying4 hv h
  exact ⟨n, rfl⟩

theorem arg_str (hv : Value.okWide Try.prog W r b0 9 v) (h : DataW.Trod enc Try.prog W base spare held 9 v d p) : ArgStr W v := by
  obtain ⟨s, rfl, _, _, hs⟩ := open_string Try.underlying9 hv h
  exact ⟨s, rfl, hs⟩

theorem arg_item (hv : Value.okWide Try.prog W r b0 124 v) (h : DataW.Trod enc Try.prog W base spare held 124 v d p) : ArgItem W v := by
  obtain ⟨c0, c1, c2, y0, y1, y2, m, rfl, _, _, h0, h1, h2⟩ := open_agg3 Try.underlying124 (by kernel_rfl) (by kernel_rfl) hv h
  obtain ⟨n, e0, _, w0⟩ := DataW.trod_int Try.underlying3 h0
  obtain ⟨q, e1, _, w1⟩ := DataW.trod_int Try.underlying3 h1
  obtain ⟨t, e2, _, w2⟩ := DataW.trod_string Try.underlying9 h2
  simp at e0 e1 e2
  subst e0 e1 e2
  exact ⟨n, q, t, rfl, (bounds_i64 w0).1, (bounds_i64 w0).2, (bounds_i64 w1).1, (bounds_i64 w1).2, w2⟩

end

end

section
open Go.RowKit

/-- the slice with address A and n elements of sz cells each holds the cells xs -/
structure Sl (w : World) (sz : Nat) (A : Option Addr) (n : Nat) (xs : List Value) : Prop where
  len : xs.length = n * sz
  at_ : 0 < n → ∃ b off, A = some ⟨b, off, none⟩ ∧ b < w.heap.size ∧ ∀ j u, xs[j]? = some u → w.cell? ⟨b, off + j, none⟩ = some u

section
variable {w w' : World} {sz n : Nat} {A : Option Addr} {xs : List Value}

theorem Sl.keep (h : Sl w sz A n xs) (hk : ∀ b o, b < w.heap.size → w'.cell? ⟨b, o, none⟩ = w.cell? ⟨b, o, none⟩) (hs : w.heap.size ≤ w'.heap.size) : Sl w' sz A n xs :=
  ⟨h.len, fun hn => by
    obtain ⟨b, off, e, hb, hc⟩ := h.at_ hn
    exact ⟨b, off, e, by omega, fun j u hu => (hk _ _ hb).trans (hc j u hu)⟩⟩

theorem Sl.below (h : Sl w sz A n xs) (hb : Below w.heap.size w w') : Sl w' sz A n xs := h.keep (bcell hb).1 hb.size

theorem Sl.of_own {base : Nat} {e : TypeId} {c : Nat} (h : w.ownsRow base e sz (.slice A n c) n xs) : Sl w sz A n xs := by
  refine ⟨h.1, fun hn => ?_⟩
  rcases h.2 with ⟨_, h0⟩ | ⟨g, cap, cur, hv, _, hg, hle, _, hcs, htk⟩
  · omega
  · injection hv with hA _ hc
    subst hA; subst hc
    refine ⟨g, 0, rfl, lt_of_block hg, fun j u hu => ?_⟩
    have hj : j < xs.length := (List.getElem?_eq_some_iff.1 hu).1
    have h1 := h.cellAt (g := g) (cap := c) j (by rw [← h.1]; exact hj)
    rw [Nat.zero_add]
    exact h1.trans hu

theorem Sl.cell1 (h : Sl w 1 A n xs) {k : Nat} (hk : k < n) : ∃ b off, A = some ⟨b, off, none⟩ ∧ b < w.heap.size ∧ w.cell? ⟨b, off + k, none⟩ = some (xs.getD k undef) := by
  obtain ⟨b, off, e, hb, hc⟩ := h.at_ (by omega)
  have hl : k < xs.length := by have := h.len; omega
  exact ⟨b, off, e, hb, hc k _ (by rw [List.getD_eq_getElem?_getD, List.getElem?_eq_getElem hl]; rfl)⟩

end

theorem own_form {w : World} {base sz n : Nat} {e : TypeId} {v : Value} {xs : List Value} (h : w.ownsRow base e sz v n xs) (hn : 0 < n) : ∃ g c, v = .slice (some ⟨g, 0, none⟩) n c ∧ base ≤ g ∧ g < w.heap.size := by
  rcases h.2 with ⟨_, h0⟩ | ⟨g, cap, cur, hv, hb, hg, _⟩
  · omega
  · exact ⟨g, cap, hv, hb, lt_of_block hg⟩

theorem Sl.of_lit (w : World) (cs : Array Value) (t : TypeId) (sz n : Nat) (xs : List Value) (hx : xs = cs.toList) (h : cs.size = n * sz) : Sl (w.alloc (.cells cs t)) sz (some ⟨w.heap.size, 0, none⟩) n xs := by
  subst hx
  refine ⟨by simpa using h, fun _ => ⟨w.heap.size, 0, rfl, by simp, fun j u hu => ?_⟩⟩
  rw [cell_of_row _ _ _ cs t (0, 0) (heap_alloc_new w _), Nat.zero_add]
  simpa using hu

theorem toList_mk (l : List UInt8) : (⟨l.toArray⟩ : ByteArray).toList = l := by rw [ByteArray.toList_eq]

end

end Go.Proofs.Ytmofcbpabdbjlaa
