/-
  What is proved: how an argument that is a slice of strings reads; what the statements' sizes, copies and comparisons of slices of strings return.
  Condition: the slices that are copied hold at most 1048576 strings.
-/
import Derived.Test.YtmofcbpabdbjlaaBase
import Derived.Test.YtmofcbpabdbjlaaW2
import Derived.SliceStrings
import Derived.WalkSmall
namespace Go.Proofs.Ytmofcbpabdbjlaa
set_option maxRecDepth 8000
open Go.RowKit Go.ChangeShapes Go.WideShapes
set_option linter.unusedVariables false
set_option linter.unusedSimpArgs false

/-- the cells of a slice of strings -/
def stc (l : List ByteArray) : List Value := l.map Value.string
theorem stc_len (l : List ByteArray) : (stc l).length = l.length := by simp [stc]
theorem stc_at {l : List ByteArray} {k : Nat} (h : k < l.length) : (stc l).getD k undef = .string (l[k]'h) := by
  simp [stc, List.getD_eq_getElem?_getD, h]
theorem stc_app (a b : List ByteArray) : stc (a ++ b) = stc a ++ stc b := by simp [stc]

/-- the bytes of a list of strings, and one for each -/
def stz : List ByteArray → Nat
  | [] => 0
  | s :: l => s.size + stz l
theorem stz_app (a b : List ByteArray) : stz (a ++ b) = stz a + stz b := by
  induction a with
  | nil => simp [stz]
  | cons x a ih => simp [stz, ih, Nat.add_assoc]
theorem stz_take_succ {l : List ByteArray} {k : Nat} (h : k < l.length) : stz (l.take (k + 1)) = stz (l.take k) + (l[k]'h).size := by
  rw [List.take_succ_eq_append_getElem h, stz_app]; simp [stz]
theorem stz_take_le (l : List ByteArray) (k : Nat) : stz (l.take k) ≤ stz l := by
  have := stz_app (l.take k) (l.drop k)
  rw [List.take_append_drop] at this
  omega

theorem addr_of_cell' {w : World} {x : Addr} {v : Value} (h : w.cell? (x.add 0) = some v) : x = ⟨x.block, x.off, none⟩ ∧ x.block < w.heap.size := by
  have hs : (x.add 0).spot = none := World.cell?_spot h
  have hb := World.block_lt_of_cell? w _ h
  obtain ⟨b, off, spot⟩ := x
  simp [Addr.add] at hs hb
  subst hs
  exact ⟨rfl, hb⟩

def ArgStrs (w : World) (v : Value) : Prop := ∃ A n c l, v = .slice A n c ∧ n ≤ 9223372036854775807 ∧ Sl w 1 A n (stc l) ∧ ∀ s ∈ l, s.size ≤ maxLen

theorem arg_strs {H : Type} {enc : TypeId × Value → H} {W : World} {base : Nat} {held : Bool} {r : Reach} {b0 : Nat} {v : Value} {d : DataW H} {p : List MemPlace}
    (hv : Value.okWide Try.prog W r b0 23 v) (h : DataW.Trod enc Try.prog W base (fun _ => true) held 23 v d p) : ArgStrs W v := by
  obtain ⟨A, n, c, rfl⟩ := okWide_slice Try.underlying23 hv
  obtain ⟨fuel, hf⟩ := h
  rcases open_strings Try.underlying23 Try.underlying9 (by kernel_rfl) hf with ⟨hcs, _⟩ | ⟨x, l, c', ss, hcs, _, hl, hm, hz, _, hcell, hss⟩
  · simp [Value.cells] at hcs
    obtain ⟨rfl, rfl, rfl⟩ := hcs
    exact ⟨none, 0, 0, [], rfl, by omega, ⟨rfl, fun h => absurd h (by omega)⟩, by simp⟩
  · simp [Value.cells] at hcs
    obtain ⟨rfl, rfl, rfl⟩ := hcs
    unfold maxLen at hm
    have hz' : ss.length = c := by simpa using hz
    refine ⟨some x, n, c, ss.take n, rfl, by omega, ⟨?_, ?_⟩, fun s hs => hss s (List.mem_of_mem_take hs)⟩
    · simp [stc]; omega
    · intro h0
      obtain ⟨e, hb⟩ := addr_of_cell' (hcell 0 (by omega))
      refine ⟨x.block, x.off, by rw [← e], hb, fun j u hu => ?_⟩
      have hj : j < ss.length ∧ j < n := by
        have := (List.getElem?_eq_some_iff.1 hu).1
        simp [stc] at this
        omega
      have h1 := hcell j hj.1
      rw [e, show (⟨x.block, x.off, none⟩ : Addr).add j = ⟨x.block, x.off + j, none⟩ from by unfold Addr.add; by_cases h0 : j = 0 <;> simp [h0]] at h1
      rw [h1, ← hu]
      simp [stc, List.getD_eq_getElem?_getD, hj.1, hj.2]

/-- what is left of a bound; -1 if it does not suffice -/
def leftI (lf : Int) (z : Nat) : Int := if lf < z then -1 else lf - z
def szS (l : List ByteArray) : Nat := l.length + stz l
theorem left_no {lf : Int} {z : Nat} (h : lf < z) : leftI lf z = -1 := if_pos h
theorem left_yes {lf : Int} {z : Nat} (h : ¬ lf < z) : leftI lf z = lf - z := if_neg h

/-- what the statements take of their bound: it is -1 behind a slice that is too large -/
theorem laws_szStrs (A : Option Addr) (n c : Nat) (l : List ByteArray) (lf : Int) (w : World) (h : Sl w 1 A n (stc l)) (hn : n ≤ 9223372036854775807) (hl : 0 ≤ lf ∧ lf ≤ 1048576) (hs : ∀ s ∈ l, s.size ≤ maxLen) :
    Calls Try.prog 17 #[.slice A n c, .int .i64 lf] w fun e w' => e = .returned (.int .i64 (leftI lf (szS l))) ∧ w = w' := by
  have hln : l.length = n := by have := h.len; simpa [stc] using this
  obtain ⟨hl1, hl2⟩ := hl
  by_cases h0 : lf < n
  · have HR := Lib.hid (left_no (lf := lf) (z := szS l) (by unfold szS; omega))
    clear hln
    go_enter Try.func17, Try.ntmps17
    go_wp2_with fail
    go_ret
    exact ⟨ret_int HR.out.symm, rfl⟩
  · have h0' : (n : Int) ≤ lf := by omega
    clear h0
    have HL := Lib.hid hln
    clear hln
    go_enter Try.func17, Try.ntmps17
    go_wp2_with fail
    go_loop [1, 5] (fun r i => ∃ k : Nat, k ≤ n ∧ i = .int .i64 k ∧ r = .int .i64 (lf - n - (stz (l.take k) : Nat)) ∧ ((stz (l.take k) : Nat) : Int) ≤ lf - n) (fun _ i => n - (intOf i).toNat)
    case atStart => exact ⟨0, Nat.zero_le _, rfl, by simp [stz], by simp [stz]; omega⟩
    case round =>
      obtain ⟨k, hk, rfl, rfl, hle⟩ := hrel
      by_cases hlt : k < n
      · obtain ⟨b, off, rfl, hb, hc⟩ := h.cell1 hlt
        have hkl : k < l.length := by have := HL.out; omega
        rw [stc_at hkl] at hc
        have hsz := hs _ (List.getElem_mem hkl)
        have hst := stz_take_succ hkl
        have htl := stz_take_le l (k + 1)
        obtain ⟨s, hse⟩ : ∃ s, l[k]'hkl = s := ⟨_, rfl⟩
        rw [hse] at hc hsz hst
        clear hse
        unfold maxLen at hsz
        obtain ⟨z, hz⟩ : ∃ z, stz (l.take k) = z := ⟨_, rfl⟩
        rw [hz] at hle hst
        rw [hz]
        have HZ := Lib.hid hz
        clear hz
        by_cases hov : lf - n - z - s.size < 0
        · have HR := Lib.hid (left_no (lf := lf) (z := szS l) (by have := HL.out; unfold szS; omega))
          clear hst htl
          go_wp2_with fail
          go_ret
          exact ⟨ret_int HR.out.symm, rfl⟩
        · have HST := Lib.hid hst
          clear hst htl
          have hov' : 0 ≤ lf - n - z - s.size := by omega
          clear hov
          go_wp2_with fail
          go_round
          case rel => exact ⟨k + 1, by omega, by go_num, by rw [HST.out]; exact congrArg (Value.int .i64) (by omega), by rw [HST.out]; omega⟩
          case measure => simp [intOf]; omega
      · have hkn : k = n := by omega
        have htk : l.take k = l := List.take_of_length_le (by have := HL.out; omega)
        rw [htk] at hle
        rw [htk]
        have HR := Lib.hid (show leftI lf (szS l) = lf - n - (stz l : Nat) by rw [left_yes (by have := HL.out; unfold szS; omega)]; have := HL.out; unfold szS; omega)
        clear htk
        subst hkn
        go_wp2_with fail
        go_ret
        exact ⟨ret_int HR.out.symm, rfl⟩

theorem row_lt {l : List ByteArray} {mz : List Value} {n k : Nat} (hkl : k < l.length) (hmz : mz.length = n * 1) (hlt : k < n) : k < (stc (l.take k) ++ mz.drop k).length := by
  simp [stc]; omega
theorem row_next {b t : Nat} {l : List ByteArray} {mz : List Value} {n k : Nat} (hkl : k < l.length) (hmz : mz.length = n * 1) (hlt : k < n) :
    [box b t (stc (l.take k) ++ mz.drop k)].set 0 (box b t ((stc (l.take k) ++ mz.drop k).set k (.string (l[k]'hkl)))) = [box b t (stc (l.take (k + 1)) ++ mz.drop (k + 1))] := by
  have e : (stc (l.take k) ++ mz.drop k).set k (.string (l[k]'hkl)) = stc (l.take (k + 1)) ++ mz.drop (k + 1) := by
    have hl : (stc (l.take k)).length = k := by simp [stc]; omega
    rw [List.set_append_right _ _ (by omega), hl, Nat.sub_self, List.drop_eq_getElem_cons (by omega), List.set_cons_zero, List.take_succ_eq_append_getElem hkl, stc_app]
    simp [stc]
  rw [e]
  rfl

/-- a copy of a slice of strings: a block of the call's own, known whole -/
theorem laws_toStrs (A : Option Addr) (n c : Nat) (l : List ByteArray) (w : World) (h : Sl w 1 A n (stc l)) (hn : n ≤ 1048576) :
    Calls Try.prog 20 #[.slice A n c] w fun e w' => ∃ b, e = .returned (.slice (some ⟨b, 0, none⟩) n n) ∧ Own w [box b 9 (stc l)] w' := by
  have hln : l.length = n := by have := h.len; simpa [stc] using this
  have HL := Lib.hid hln
  clear hln
  go_enter Try.func20, Try.ntmps20
  have hO := Own.nil w
  go_wp2_with (refine wpList_make_own hO rfl (by rfl) (n := n) rfl rfl (by omega) (by omega) rfl (fun b => by simp only [Act.put, List.setIfInBounds_toArray, List.set_cons_succ, List.set_cons_zero]; rfl) ?_; clear hO; intro b mz u hmz hO; simp only [List.nil_append] at hO)
  go_loopw [4] (fun i u => ∃ k : Nat, k ≤ n ∧ i = .int .i64 k ∧ Own w [box b 9 (stc (l.take k) ++ mz.drop k)] u) (fun i _ => n - (intOf i).toNat)
  case atStart => exact ⟨0, Nat.zero_le _, rfl, by simpa [stc] using hO⟩
  case round =>
    clear hO
    obtain ⟨k, hk, rfl, hO⟩ := hrel
    by_cases hlt : k < n
    · obtain ⟨b', off, rfl, hb, hc⟩ := h.cell1 hlt
      have hkl : k < l.length := by have := HL.out; omega
      rw [stc_at hkl] at hc
      have hcr := (hO.old hb).trans hc
      clear hc
      go_wp2_with (refine wpList_store_field (v := .string (l[k]'hkl)) rfl (by rfl) hO rfl 0 rfl (row_lt hkl hmz hlt) rfl rfl rfl rfl ?_; clear hO; intro u hO)
      rw [row_next hkl hmz hlt] at hO
      go_wp2_with fail
      go_roundw
      case rel => exact ⟨k + 1, by omega, by go_num, hO⟩
      case measure => simp [intOf]; omega
    · have hkn : k = n := by omega
      subst hkn
      have e1 : l.take k = l := List.take_of_length_le (by have := HL.out; omega)
      have e2 : mz.drop k = [] := List.drop_eq_nil_of_le (by omega)
      rw [e1, e2, List.append_nil] at hO
      clear e1 e2
      go_wp2_with fail
      go_ret
      exact ⟨b, rfl, hO⟩

theorem laws_eqStrs (A A' : Option Addr) (n c c' : Nat) (l : List ByteArray) (w : World) (h : Sl w 1 A n (stc l)) (h' : Sl w 1 A' n (stc l)) (hn : n ≤ 9223372036854775807) :
    Calls Try.prog 24 #[.slice A n c, .slice A' n c'] w fun e w' => e = .returned (.bool true) ∧ Below w.heap.size w w' := by
  have hl : l.length = n := by have := h.len; simpa [stc] using this
  have HL := Lib.hid hl
  clear hl
  go_enter Try.func24, Try.ntmps24
  go_wp2_with fail
  go_loopw [5] (fun i wr => ∃ k : Nat, k ≤ n ∧ i = .int .i64 k ∧ Below w.heap.size w wr) (fun i _ => n - (intOf i).toNat)
  case atStart => exact ⟨0, Nat.zero_le _, rfl, Below.refl _ _⟩
  case round =>
    obtain ⟨k, hk, rfl, hbel⟩ := hrel
    by_cases hlt : k < n
    · obtain ⟨b, off, rfl, hb, hc⟩ := h.cell1 hlt
      obtain ⟨b', off', rfl, hb', hc'⟩ := h'.cell1 hlt
      have hkl : k < l.length := by have := HL.out; omega
      rw [stc_at hkl] at hc hc'
      obtain ⟨s, hs⟩ : ∃ s, l[k]'hkl = s := ⟨_, rfl⟩
      rw [hs] at hc hc'
      clear hs
      have hcr := (hbel.cell (p := ⟨b, off + k, none⟩) hb).trans hc
      have hcr' := (hbel.cell (p := ⟨b', off' + k, none⟩) hb').trans hc'
      clear hc hc'
      have i1 : (0 : Int) ≤ (k : Int) := by omega
      have i2 : (k : Int) < (n : Int) := by omega
      go_wp2_with fail
      go_quiet (fail)
      go_wp2_with fail
      go_roundw
      case rel => exact ⟨k + 1, by omega, by go_num, below_drewN hbel _⟩
      case measure => simp [intOf]; omega
    · have hkn : k = n := by omega
      subst hkn
      go_wp2_with fail
      go_ret
      exact ⟨rfl, hbel⟩
end Go.Proofs.Ytmofcbpabdbjlaa
