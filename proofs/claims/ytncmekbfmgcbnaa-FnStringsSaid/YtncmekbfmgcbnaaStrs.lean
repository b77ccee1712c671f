/-
  What is proved: how an argument that is a slice of strings reads; what the statements' sizes, copies and comparisons of slices of strings return.
  Condition: the slices that are copied hold at most 1048576 strings.
-/
import Derived.Test.YtncmekbfmgcbnaaRow
import Derived.Test.YtncmekbfmgcbnaaBase
import Derived.Test.YtncmekbfmgcbnaaW2
import Derived.Test.YtncmekbfmgcbnaaInst
import Derived.SliceStrings
import Derived.WalkSmall
namespace Go.Proofs.Ytncmekbfmgcbnaa
open Go.RowKit Go.ChangeShapes Go.WideShapes
set_option linter.unusedVariables false
set_option linter.unusedSimpArgs false

/-- the cells of a slice of strings -/
def stc (l : List ByteArray) : List Value := l.map Value.string
theorem stc_len (l : List ByteArray) : (stc l).length = l.length := by simp [stc]
theorem stc_at {l : List ByteArray} {k : Nat} (h : k < l.length) : (stc l).getD k undef = .string (l[k]'h) := by
  simp [stc, List.getD_eq_getElem?_getD, h]
theorem stc_app (a b : List ByteArray) : stc (a ++ b) = stc a ++ stc b := by simp [stc]

/-- the bytes of a list of strings, and one for each -/
def stz : List ByteArray → Nat
  | [] => 0
  | s :: l => s.size + stz l
theorem stz_app (a b : List ByteArray) : stz (a ++ b) = stz a + stz b := by
  induction a with
  | nil => simp [stz]
  | cons x a ih => simp [stz, ih, Nat.add_assoc]
theorem stz_take_succ {l : List ByteArray} {k : Nat} (h : k < l.length) : stz (l.take (k + 1)) = stz (l.take k) + (l[k]'h).size := by
  rw [List.take_succ_eq_append_getElem h, stz_app]; simp [stz]
theorem stz_take_le (l : List ByteArray) (k : Nat) : stz (l.take k) ≤ stz l := by
  have := stz_app (l.take k) (l.drop k)
  rw [List.take_append_drop] at this
  omega

theorem addr_of_cell' {w : World} {x : Addr} {v : Value} (h : w.cell? (x.add 0) = some v) : x = ⟨x.block, x.off, none⟩ ∧ x.block < w.heap.size := by
  have hs : (x.add 0).spot = none := World.cell?_spot h
  have hb := World.block_lt_of_cell? w _ h
  obtain ⟨b, off, spot⟩ := x
  simp [Addr.add] at hs hb
  subst hs
  exact ⟨rfl, hb⟩

def ArgStrs (w : World) (v : Value) : Prop := ∃ A n c l, v = .slice A n c ∧ n ≤ 9223372036854775807 ∧ Sl w 1 A n (stc l) ∧ ∀ s ∈ l, s.size ≤ maxLen

theorem arg_strs {H : Type} {enc : TypeId × Value → H} {W : World} {base : Nat} {held : Bool} {r : Reach} {b0 : Nat} {v : Value} {d : DataW H} {p : List MemPlace}
    (hv : Value.okWide Try.prog W r b0 41 v) (h : DataW.Trod enc Try.prog W base (fun _ => true) held 41 v d p) : ArgStrs W v := by
  obtain ⟨A, n, c, rfl⟩ := okWide_slice Try.underlying41 hv
  obtain ⟨fuel, hf⟩ := h
  rcases open_strings Try.underlying41 Try.underlying9 (by kernel_rfl) hf with ⟨hcs, _⟩ | ⟨x, l, c', ss, hcs, _, hl, hm, hz, _, hcell, hss⟩
  · simp [Value.cells] at hcs
    obtain ⟨rfl, rfl, rfl⟩ := hcs
    exact ⟨none, 0, 0, [], rfl, by omega, ⟨rfl, fun h => absurd h (by omega)⟩, by simp⟩
  · simp [Value.cells] at hcs
    obtain ⟨rfl, rfl, rfl⟩ := hcs
    unfold maxLen at hm
    have hz' : ss.length = c := by simpa using hz
    refine ⟨some x, n, c, ss.take n, rfl, by omega, ⟨?_, ?_⟩, fun s hs => hss s (List.mem_of_mem_take hs)⟩
    · simp [stc]; omega
    · intro h0
      obtain ⟨e, hb⟩ := addr_of_cell' (hcell 0 (by omega))
      refine ⟨x.block, x.off, by rw [← e], hb, fun j u hu => ?_⟩
      have hj : j < ss.length ∧ j < n := by
        have := (List.getElem?_eq_some_iff.1 hu).1
        simp [stc] at this
        omega
      have h1 := hcell j hj.1
      rw [e, show (⟨x.block, x.off, none⟩ : Addr).add j = ⟨x.block, x.off + j, none⟩ from by unfold Addr.add; by_cases h0 : j = 0 <;> simp [h0]] at h1
      rw [h1, ← hu]
      simp [stc, List.getD_eq_getElem?_getD, hj.1, hj.2]

/-- what is left of a bound; -1 if it does not suffice -/
def leftI (lf : Int) (z : Nat) : Int := if lf < z then -1 else lf - z
def szS (l : List ByteArray) : Nat := l.length + stz l
theorem left_no {lf : Int} {z : Nat} (h : lf < z) : leftI lf z = -1 := if_pos h
theorem left_yes {lf : Int} {z : Nat} (h : ¬ lf < z) : leftI lf z = lf - z := if_neg h

theorem row_lt {l : List ByteArray} {mz : List Value} {n k : Nat} (hkl : k < l.length) (hmz : mz.length = n * 1) (hlt : k < n) : k < (stc (l.take k) ++ mz.drop k).length := by
  simp [stc]; omega
theorem row_next {b t : Nat} {l : List ByteArray} {mz : List Value} {n k : Nat} (hkl : k < l.length) (hmz : mz.length = n * 1) (hlt : k < n) :
    [box b t (stc (l.take k) ++ mz.drop k)].set 0 (box b t ((stc (l.take k) ++ mz.drop k).set k (.string (l[k]'hkl)))) = [box b t (stc (l.take (k + 1)) ++ mz.drop (k + 1))] := by
  have e : (stc (l.take k) ++ mz.drop k).set k (.string (l[k]'hkl)) = stc (l.take (k + 1)) ++ mz.drop (k + 1) := by
    have hl : (stc (l.take k)).length = k := by simp [stc]; omega
    rw [List.set_append_right _ _ (by omega), hl, Nat.sub_self, List.drop_eq_getElem_cons (by omega), List.set_cons_zero, List.take_succ_eq_append_getElem hkl, stc_app]
    simp [stc]
  rw [e]
  rfl

theorem laws_eqStrs (A A' : Option Addr) (n c c' : Nat) (l : List ByteArray) (w : World) (h : Sl w 1 A n (stc l)) (h' : Sl w 1 A' n (stc l)) (hn : n ≤ 9223372036854775807) :
    Calls Try.prog 42 #[.slice A n c, .slice A' n c'] w fun e w' => e = .returned (.bool true) ∧ Below w.heap.size w w' := by
  have hl : l.length = n := by have := h.len; simpa [stc] using this
  have HL := Lib.hid hl
  clear hl
  go_enter Try.func42, Try.ntmps42
  go_wp2_with fail
  go_loopw [5] (fun i wr => ∃ k : Nat, k ≤ n ∧ i = .int .i64 k ∧ Below w.heap.size w wr) (fun i _ => n - (intOf i).toNat)
  case atStart => exact ⟨0, Nat.zero_le _, rfl, Below.refl _ _⟩
  case round =>
    obtain ⟨k, hk, rfl, hbel⟩ := hrel
    by_cases hlt : k < n
    · obtain ⟨b, off, rfl, hb, hc⟩ := h.cell1 hlt
      obtain ⟨b', off', rfl, hb', hc'⟩ := h'.cell1 hlt
      have hkl : k < l.length := by have := HL.out; omega
      rw [stc_at hkl] at hc hc'
      obtain ⟨s, hs⟩ : ∃ s, l[k]'hkl = s := ⟨_, rfl⟩
      rw [hs] at hc hc'
      clear hs
      have hcr := (hbel.cell (p := ⟨b, off + k, none⟩) hb).trans hc
      have hcr' := (hbel.cell (p := ⟨b', off' + k, none⟩) hb').trans hc'
      clear hc hc'
      have i1 : (0 : Int) ≤ (k : Int) := by omega
      have i2 : (k : Int) < (n : Int) := by omega
      go_wp2_with fail
      go_quiet (fail)
      go_wp2_with fail
      go_roundw
      case rel => exact ⟨k + 1, by omega, by go_num, below_drewN hbel _⟩
      case measure => simp [intOf]; omega
    · have hkn : k = n := by omega
      subst hkn
      go_wp2_with fail
      go_ret
      exact ⟨rfl, hbel⟩
end Go.Proofs.Ytncmekbfmgcbnaa
