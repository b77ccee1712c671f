/-
  What is proved: plain facts on slices of bytes that a call makes itself: how they read, how they are turned round, and the string that they make.
  No condition.
-/
import Derived.Test.YtmofcbpabdbjlaaRow
import Derived.Laws.BytesArg
namespace Go.Proofs.Ytmofcbpabdbjlaa
set_option maxRecDepth 8000
open Go.RowKit
set_option linter.unusedVariables false
set_option linter.unusedSimpArgs false

/-- the cells of a slice of bytes -/
def bcs (l : List UInt8) : List Value := l.map fun c => .int .u8 (c.toNat : Int)
theorem bcs_len (l : List UInt8) : (bcs l).length = l.length := by simp [bcs]
theorem bcs_app (a b : List UInt8) : bcs (a ++ b) = bcs a ++ bcs b := by simp [bcs]
theorem bcs_one (c : UInt8) : bcs [c] = [.int .u8 (c.toNat : Int)] := rfl
theorem bcs_at (l : List UInt8) (k : Nat) (h : k < l.length) : (bcs l)[k]? = some (.int .u8 ((l[k]?.getD 0).toNat : Int)) := by
  simp [bcs, h]
theorem bcs_set (l : List UInt8) (k : Nat) (c : UInt8) : (bcs l).set k (.int .u8 (c.toNat : Int)) = bcs (l.set k c) := by
  simp [bcs, List.map_set]

theorem info_byte : (Try.prog.info? 5).map (fun i => (i.zero, i.size, i.bytes)) = some (some (.int .u8 0), 1, 1) := by kernel_rfl

theorem news_cells (w : World) (cs : Array Value) (t : TypeId) : ∀ j u, cs.toList[j]? = some u → (w.alloc (.cells cs t)).cell? ((⟨w.heap.size, 0, none⟩ : Addr).add j) = some u := by
  intro j u hu
  have e : (⟨w.heap.size, 0, none⟩ : Addr).add j = ⟨w.heap.size, j, none⟩ := by
    unfold Addr.add
    by_cases h0 : j = 0 <;> simp [h0]
  rw [e, cell_of_row _ _ _ cs t (0, 0) (heap_alloc_new w _)]
  simpa using hu

/-- the list after i exchanges of its ends -/
def rv (L : List UInt8) (i : Nat) : List UInt8 := (List.range L.length).map fun m => if m < i ∨ L.length ≤ m + i then L[L.length - 1 - m]?.getD 0 else L[m]?.getD 0

theorem rv_len (L : List UInt8) (i : Nat) : (rv L i).length = L.length := by simp [rv]

theorem rv_at (L : List UInt8) (i m : Nat) (h : m < L.length) : (rv L i)[m]? = some (if m < i ∨ L.length ≤ m + i then L[L.length - 1 - m]?.getD 0 else L[m]?.getD 0) := by
  simp [rv, h]

theorem rv_zero (L : List UInt8) : rv L 0 = L := by
  apply List.ext_getElem?
  intro m
  by_cases h : m < L.length
  · rw [rv_at L 0 m h, if_neg (by omega), List.getElem?_eq_getElem h]; rfl
  · rw [List.getElem?_eq_none (by rw [rv_len]; omega), List.getElem?_eq_none (by omega)]

theorem rv_mid (L : List UInt8) (i m : Nat) (h : m < L.length) (h1 : i ≤ m) (h2 : m + i < L.length) : (rv L i)[m]? = some (L[m]?.getD 0) := by
  rw [rv_at L i m h, if_neg (by omega)]

theorem rv_step (L : List UInt8) (i j : Nat) (h : i < j) (hj : i + j + 1 = L.length) :
    ((rv L i).set i ((rv L i)[j]?.getD 0)).set j ((rv L i)[i]?.getD 0) = rv L (i + 1) := by
  have ei := rv_mid L i i (by omega) (by omega) (by omega)
  have ej := rv_mid L i j (by omega) (by omega) (by omega)
  rw [ei, ej]
  apply List.ext_getElem?
  intro m
  by_cases hm : m < L.length
  · rw [rv_at L (i + 1) m hm, List.getElem?_set, List.getElem?_set, rv_at L i m hm]
    simp only [List.length_set, rv_len]
    by_cases h1 : j = m
    · subst h1
      rw [if_pos rfl, if_pos hm, if_pos (by omega), show L.length - 1 - j = i by omega]; rfl
    · rw [if_neg h1]
      by_cases h2 : i = m
      · subst h2
        rw [if_pos rfl, if_pos hm, if_pos (by omega), show L.length - 1 - i = j by omega]; rfl
      · rw [if_neg h2]
        by_cases h3 : m < i ∨ L.length ≤ m + i
        · rw [if_pos h3, if_pos (by omega)]
        · rw [if_neg h3, if_neg (by omega)]
  · rw [List.getElem?_eq_none (by simp [rv_len]; omega), List.getElem?_eq_none (by rw [rv_len]; omega)]

theorem rv_end (L : List UInt8) (i j : Nat) (h : j ≤ i) (hj : i + j + 1 = L.length) : rv L i = L.reverse := by
  apply List.ext_getElem?
  intro m
  by_cases hm : m < L.length
  · rw [rv_at L i m hm, List.getElem?_reverse hm, List.getElem?_eq_getElem (show L.length - 1 - m < L.length by omega)]
    by_cases h3 : m < i ∨ L.length ≤ m + i
    · rw [if_pos h3]; rfl
    · rw [if_neg h3, List.getElem?_eq_getElem hm]
      have : m = L.length - 1 - m := by omega
      simp only [Option.getD_some]
      congr 1
      congr 1
  · rw [List.getElem?_eq_none (by rw [rv_len]; omega), List.getElem?_eq_none (by simp; omega)]

/-- 'string(b)' of a slice that the call owns -/
theorem conv_own {w : World} {base g n c : Nat} {l : List UInt8} (h : w.ownsRow base 5 1 (.slice (some ⟨g, 0, none⟩) n c) n (bcs l)) :
    (convert 58 9 (.slice (some ⟨g, 0, none⟩) n c)).run Try.prog w = .ok (.string ⟨l.toArray⟩) w := by
  have hl : l.length = n := by have := h.1; simpa [bcs] using this
  have h1 := run_convert_bytes_arg (P := Try.prog) w 58 5 Try.underlying58 Try.underlying5 g 0 n c (l.map fun c => (c.toNat : Int)) (by simpa using hl) (fun i hi => by
    rw [Nat.zero_add, h.cellAt i (by omega), bcs_at l i (by omega)]
    simp [List.getD_eq_getElem?_getD, show i < l.length by omega]) 9 Try.underlying9
  rw [h1]
  congr 2
  apply WideShapes.bytes_inj
  rw [strOfNums_data, List.map_map]
  show _ = l
  conv => rhs; rw [← List.map_id l]
  apply List.map_congr_left
  intro x _
  simp

end Go.Proofs.Ytmofcbpabdbjlaa
