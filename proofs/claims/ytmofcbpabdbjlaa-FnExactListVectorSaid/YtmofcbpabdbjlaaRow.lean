/-
  What is proved: plain facts on slices in memory: a slice that reads as a list of cells, kept while memory grows.
  No condition.
-/
import Derived.Test.YtmofcbpabdbjlaaBase
import Derived.Lib.Hide
import Derived.Deep.Light
import Derived.Deep.OwnRows
import Derived.BigQuiet
import Derived.Deep.QuietTactic
namespace Go.Proofs.Ytmofcbpabdbjlaa
set_option maxRecDepth 8000
open Go.RowKit

/-- the slice with address A and n elements of sz cells each holds the cells xs -/
structure Sl (w : World) (sz : Nat) (A : Option Addr) (n : Nat) (xs : List Value) : Prop where
  len : xs.length = n * sz
  at_ : 0 < n → ∃ b off, A = some ⟨b, off, none⟩ ∧ b < w.heap.size ∧ ∀ j u, xs[j]? = some u → w.cell? ⟨b, off + j, none⟩ = some u

section
variable {w w' : World} {sz n : Nat} {A : Option Addr} {xs : List Value}

theorem Sl.keep (h : Sl w sz A n xs) (hk : ∀ b o, b < w.heap.size → w'.cell? ⟨b, o, none⟩ = w.cell? ⟨b, o, none⟩) (hs : w.heap.size ≤ w'.heap.size) : Sl w' sz A n xs :=
  ⟨h.len, fun hn => by
    obtain ⟨b, off, e, hb, hc⟩ := h.at_ hn
    exact ⟨b, off, e, by omega, fun j u hu => (hk _ _ hb).trans (hc j u hu)⟩⟩

theorem Sl.below (h : Sl w sz A n xs) (hb : Below w.heap.size w w') : Sl w' sz A n xs := h.keep (bcell hb).1 hb.size

theorem Sl.of_own {base : Nat} {e : TypeId} {c : Nat} (h : w.ownsRow base e sz (.slice A n c) n xs) : Sl w sz A n xs := by
  refine ⟨h.1, fun hn => ?_⟩
  rcases h.2 with ⟨_, h0⟩ | ⟨g, cap, cur, hv, _, hg, hle, _, hcs, htk⟩
  · omega
  · injection hv with hA _ hc
    subst hA; subst hc
    refine ⟨g, 0, rfl, lt_of_block hg, fun j u hu => ?_⟩
    have hj : j < xs.length := (List.getElem?_eq_some_iff.1 hu).1
    have h1 := h.cellAt (g := g) (cap := c) j (by rw [← h.1]; exact hj)
    rw [Nat.zero_add]
    exact h1.trans hu

theorem Sl.cell1 (h : Sl w 1 A n xs) {k : Nat} (hk : k < n) : ∃ b off, A = some ⟨b, off, none⟩ ∧ b < w.heap.size ∧ w.cell? ⟨b, off + k, none⟩ = some (xs.getD k undef) := by
  obtain ⟨b, off, e, hb, hc⟩ := h.at_ (by omega)
  have hl : k < xs.length := by have := h.len; omega
  exact ⟨b, off, e, hb, hc k _ (by rw [List.getD_eq_getElem?_getD, List.getElem?_eq_getElem hl]; rfl)⟩

end

theorem own_form {w : World} {base sz n : Nat} {e : TypeId} {v : Value} {xs : List Value} (h : w.ownsRow base e sz v n xs) (hn : 0 < n) : ∃ g c, v = .slice (some ⟨g, 0, none⟩) n c ∧ base ≤ g ∧ g < w.heap.size := by
  rcases h.2 with ⟨_, h0⟩ | ⟨g, cap, cur, hv, hb, hg, _⟩
  · omega
  · exact ⟨g, cap, hv, hb, lt_of_block hg⟩

theorem Sl.of_lit (w : World) (cs : Array Value) (t : TypeId) (sz n : Nat) (xs : List Value) (hx : xs = cs.toList) (h : cs.size = n * sz) : Sl (w.alloc (.cells cs t)) sz (some ⟨w.heap.size, 0, none⟩) n xs := by
  subst hx
  refine ⟨by simpa using h, fun _ => ⟨w.heap.size, 0, rfl, by simp, fun j u hu => ?_⟩⟩
  rw [cell_of_row _ _ _ cs t (0, 0) (heap_alloc_new w _), Nat.zero_add]
  simpa using hu

theorem toList_mk (l : List UInt8) : (⟨l.toArray⟩ : ByteArray).toList = l := by rw [ByteArray.toList_eq]

end Go.Proofs.Ytmofcbpabdbjlaa
