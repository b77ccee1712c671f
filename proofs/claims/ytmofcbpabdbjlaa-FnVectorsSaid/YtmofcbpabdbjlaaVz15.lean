/-
  What is proved: how an argument that is a vector reads: as a tree whose integers and lengths a machine holds. plain facts on the sizes and the marks of vectors as trees; how items, texts and parts are read cell by cell; what the statements take of their bound for vectors. what the statements' copies of items, parts and vectors return: memory of the call's own; what the functions on names (IsName, IsSyntacticName, isReserved, isLetter, isDigit, of the program and of the reference) return.
  Condition: vectors of size at most 1048576; strings within the model's length.
-/
import Derived.ChangeSame
import Derived.Deep.Fields
import Derived.Deep.Slices
import Derived.Lib.SmallJoins
import Derived.WalkLawsBesides
import Derived.Test.YtmofcbpabdbjlaaVz1
import Derived.Test.YtmofcbpabdbjlaaVz3
import Derived.Test.YtmofcbpabdbjlaaVz5
import Derived.Test.YtmofcbpabdbjlaaVz6
import Derived.Test.YtmofcbpabdbjlaaVz8
import Derived.Test.YtmofcbpabdbjlaaVz11
import Derived.Test.YtmofcbpabdbjlaaVz14
namespace Go.Proofs.Ytmofcbpabdbjlaa

set_option maxRecDepth 8000

section

open Go.ChangeShapes Go.WideShapes Go.RowKit Go.Joins Go.Deep

set_option linter.unusedVariables false

set_option linter.unusedSimpArgs false

def i64B (n : Int) : Prop := -9223372036854775808 ≤ n ∧ n ≤ 9223372036854775807

def wfI (x : It) : Prop := i64B x.num ∧ i64B x.den ∧ x.text.size ≤ maxLen

def wfS (l : List ByteArray) : Prop := l.length ≤ maxLen ∧ ∀ s ∈ l, s.size ≤ maxLen

mutual
def wfV : VT → Prop
  | .mk k is ps ns cs ls c e => (i64B k ∧ i64B c ∧ i64B e) ∧ (is.length ≤ maxLen ∧ ∀ x ∈ is, wfI x) ∧ (ps.length ≤ maxLen ∧ wfL ps) ∧ wfS ns ∧ wfS cs ∧ wfS ls
def wfL : List VT → Prop
  | [] => True
  | p :: ps => wfV p ∧ wfL ps
end

section

variable {H : Type} {enc : TypeId × Value → H} {P : Program} {w : World} {base : Nat} {spare : Nat → Bool} {held : Bool}

end

section

variable {H : Type} {enc : TypeId × Value → H} {W : World} {base : Nat} {spare : Nat → Bool} {held : Bool} {r : Reach} {b0 : Nat} {v : Value} {d : DataW H} {p : List MemPlace}

end

end

section

set_option linter.unusedVariables false

set_option linter.unusedSimpArgs false

/-! sizes -/

def itz : List It → Nat
  | [] => 0
  | x :: l => x.text.size + itz l

def szI (l : List It) : Nat := l.length + itz l

mutual
def szV : VT → Nat
  | .mk k is ps ns cs ls c e => szI is + szL ps + szS ns + szS cs + szS ls
def szL : List VT → Nat
  | [] => 0
  | p :: ps => 1 + szV p + szL ps
end

/-- the size of the parts, one by one, without their number -/
def szP : List VT → Nat
  | [] => 0
  | p :: ps => szV p + szP ps

theorem szL_eq (ps : List VT) : szL ps = ps.length + szP ps := by
  induction ps with
  | nil => rfl
  | cons p ps ih => simp only [szL, szP, List.length_cons, ih]; omega

theorem itz_app (a b : List It) : itz (a ++ b) = itz a + itz b := by
  induction a with
  | nil => simp [itz]
  | cons x a ih => simp [itz, ih, Nat.add_assoc]

theorem itz_succ {l : List It} {k : Nat} (h : k < l.length) : itz (l.take (k + 1)) = itz (l.take k) + (l[k]'h).text.size := by rw [zat h, itz_app]; simp [itz]

theorem itz_take_le (l : List It) (k : Nat) : itz (l.take k) ≤ itz l := by
  have := itz_app (l.take k) (l.drop k)
  rw [List.take_append_drop] at this
  omega

theorem szP_app (a b : List VT) : szP (a ++ b) = szP a + szP b := by
  induction a with
  | nil => simp [szP]
  | cons x a ih => simp [szP, ih, Nat.add_assoc]

theorem szP_succ {l : List VT} {k : Nat} (h : k < l.length) : szP (l.take (k + 1)) = szP (l.take k) + szV (l[k]'h) := by rw [zat h, szP_app]; simp [szP]

theorem szP_take_le (l : List VT) (k : Nat) : szP (l.take k) ≤ szP l := by
  have := szP_app (l.take k) (l.drop k)
  rw [List.take_append_drop] at this
  omega

theorem szP_mem {l : List VT} {k : Nat} (h : k < l.length) : szV (l[k]'h) ≤ szP l := by
  have := szP_succ h
  have := szP_take_le l (k + 1)
  omega

theorem stz_mem {l : List ByteArray} {k : Nat} (h : k < l.length) : (l[k]'h).size ≤ stz l := by
  have := stz_take_succ h
  have := stz_take_le l (k + 1)
  omega

theorem itz_mem {l : List It} {k : Nat} (h : k < l.length) : (l[k]'h).text.size ≤ itz l := by
  have := itz_succ h
  have := itz_take_le l (k + 1)
  omega

/-! marks -/

def mtx (k : Nat) : ByteArray := bstr (109 :: (if k = 0 then [48] else dig k))

def mkI1 (k i : Nat) : It := ⟨(k + 3 * i : Nat), (k + 3 * i + 1 : Nat), mtx (k + 3 * i + 2)⟩

def mkI (k n : Nat) : List It := (List.range n).map (mkI1 k)

def mkS (k n : Nat) : List ByteArray := (List.range n).map fun i => mtx (k + i)

mutual
def cntV : VT → Nat
  | .mk k is ps ns cs ls c e => 3 * is.length + cntL ps + ns.length + cs.length + ls.length
def cntL : List VT → Nat
  | [] => 0
  | p :: ps => (cntV p + 3) + cntL ps
end

def setT : VT → Int → Int → Int → VT
  | .mk _ is ps ns cs ls _ _, k, c, e => .mk k is ps ns cs ls c e

mutual
def mrkV : Nat → VT → VT
  | q, .mk k is ps ns cs ls c e => .mk k (mkI q is.length) (mrkL (q + 3 * is.length) ps) (mkS (q + 3 * is.length + cntL ps) ns.length) (mkS (q + 3 * is.length + cntL ps + ns.length) cs.length)
      (mkS (q + 3 * is.length + cntL ps + ns.length + cs.length) ls.length) c e
def mrkL : Nat → List VT → List VT
  | _, [] => []
  | q, p :: ps => setT (mrkV (q + 1) p) q (q + 1 + cntV p : Nat) (q + 2 + cntV p : Nat) :: mrkL (q + 3 + cntV p) ps
end

mutual
theorem cnt_sz : ∀ t, cntV t ≤ 3 * szV t
  | .mk k is ps ns cs ls c e => by
    have := cntL_sz ps
    simp only [cntV, szV, szI, szS]
    omega
theorem cntL_sz : ∀ ps, cntL ps ≤ 3 * szL ps
  | [] => by simp [cntL, szL]
  | p :: ps => by
    have := cnt_sz p
    have := cntL_sz ps
    simp only [cntL, szL]
    omega
end

end

end Go.Proofs.Ytmofcbpabdbjlaa

namespace Go.Proofs.Ytmofcbpabdbjlaa

set_option maxRecDepth 8000

section

open Go.RowKit Go.ChangeShapes Go.WideShapes

set_option linter.unusedVariables false

set_option linter.unusedSimpArgs false

/-- the cells of item i, in a world in which the memory of w is as it was -/
theorem Sl.it {w u : World} {A : Option Addr} {l : List It} (h : Sl w 3 A l.length (itc l)) (hb : Below w.heap.size w u) {i : Nat} (hi : i < l.length) {x : It} (hx : l[i]'hi = x) :
    ∃ b off, A = some ⟨b, off, none⟩ ∧ b < w.heap.size ∧ u.cell? ⟨b, off + i * 3, none⟩ = some (.int .i64 x.num) ∧ u.cell? ⟨b, off + i * 3 + 1, none⟩ = some (.int .i64 x.den) ∧ u.cell? ⟨b, off + i * 3 + 2, none⟩ = some (.string x.text) := by
  subst hx
  obtain ⟨b, off, e, hlt, hc⟩ := h.at' (f := itc1) (fun _ _ => rfl) hi
  exact ⟨b, off, e, hlt, (hb.cell (p := ⟨b, _, none⟩) hlt).trans (hc 0 _ rfl), (hb.cell (p := ⟨b, _, none⟩) hlt).trans (hc 1 _ rfl), (hb.cell (p := ⟨b, _, none⟩) hlt).trans (hc 2 _ rfl)⟩

theorem Sl.tx {w u : World} {A : Option Addr} {l : List ByteArray} (h : Sl w 1 A l.length (stc l)) (hb : Below w.heap.size w u) {i : Nat} (hi : i < l.length) {x : ByteArray} (hx : l[i]'hi = x) :
    ∃ b off, A = some ⟨b, off, none⟩ ∧ b < w.heap.size ∧ u.cell? ⟨b, off + i, none⟩ = some (.string x) := by
  subst hx
  obtain ⟨b, off, e, hlt, hc⟩ := h.cell1 hi
  rw [stc_at hi] at hc
  exact ⟨b, off, e, hlt, (hb.cell (p := ⟨b, _, none⟩) hlt).trans hc⟩

/-- the cells of part i -/
theorem RdL.pt {w u : World} {A : Option Addr} {ps : List VT} {pvs : List (List Value)} (h : RdL w A ps pvs) (hb : Below w.heap.size w u) {i : Nat} (hi : i < ps.length) {t : VT} (ht : ps[i]'hi = t) :
    ∃ b off, A = some ⟨b, off, none⟩ ∧ b < w.heap.size ∧ ∃ v0 v1 v2 v3 v4 v5 v6 v7, RdV u t [v0, v1, v2, v3, v4, v5, v6, v7] ∧ u.cell? ⟨b, off + i * 8, none⟩ = some v0 ∧ u.cell? ⟨b, off + i * 8 + 1, none⟩ = some v1 ∧ u.cell? ⟨b, off + i * 8 + 2, none⟩ = some v2 ∧ u.cell? ⟨b, off + i * 8 + 3, none⟩ = some v3 ∧
      u.cell? ⟨b, off + i * 8 + 4, none⟩ = some v4 ∧ u.cell? ⟨b, off + i * 8 + 5, none⟩ = some v5 ∧ u.cell? ⟨b, off + i * 8 + 6, none⟩ = some v6 ∧ u.cell? ⟨b, off + i * 8 + 7, none⟩ = some v7 := by
  subst ht
  obtain ⟨b, off, e, hlt, vs, hv, hc⟩ := h.cells hi
  match vs, hv.len, hv, hc with
  | [v0, v1, v2, v3, v4, v5, v6, v7], _, hv, hc =>
    have q : ∀ j u', [v0, v1, v2, v3, v4, v5, v6, v7][j]? = some u' → u.cell? ⟨b, off + (i * 8 + j), none⟩ = some u' := fun j u' hu => (hb.cell (p := ⟨b, _, none⟩) hlt).trans (hc j u' hu)
    exact ⟨b, off, e, hlt, v0, v1, v2, v3, v4, v5, v6, v7, hv.grow hb, q 0 _ rfl, q 1 _ rfl, q 2 _ rfl, q 3 _ rfl, q 4 _ rfl, q 5 _ rfl, q 6 _ rfl, q 7 _ rfl⟩

end

section

open Go.RowKit Go.ChangeShapes Go.WideShapes

set_option linter.unusedVariables false

set_option linter.unusedSimpArgs false

end

end Go.Proofs.Ytmofcbpabdbjlaa

namespace Go.Proofs.Ytmofcbpabdbjlaa

set_option maxRecDepth 8000

open Go.RowKit

set_option linter.unusedVariables false

set_option linter.unusedSimpArgs false

/-- where a string stands in a list of strings; -1 if it does not -/
def findS (l : List ByteArray) (s : ByteArray) : Int := match l.findIdx? (fun x => x.toList == s.toList) with | some k => k | none => -1

def strs (l : List ByteArray) : List Value := l.map Value.string

theorem strs_getD {l : List ByteArray} {k : Nat} (h : k < l.length) : (strs l).getD k undef = .string (l[k]?.getD ByteArray.empty) := by
  simp [strs, List.getD_eq_getElem?_getD, h]

theorem find_hit {l : List ByteArray} {s : ByteArray} {k : Nat} (hk : k < l.length) (hall : ∀ j, j < k → ((l[j]?.getD ByteArray.empty).toList == s.toList) = false) (h : ((l[k]?.getD ByteArray.empty).toList == s.toList) = true) : findS l s = k := by
  have : l.findIdx? (fun x => x.toList == s.toList) = some k := by
    rw [List.findIdx?_eq_some_iff_getElem]
    refine ⟨hk, ?_, fun j hj => ?_⟩
    · simpa [List.getElem?_eq_getElem hk] using h
    · have := hall j hj
      simpa [List.getElem?_eq_getElem (show j < l.length by omega)] using this
  simp [findS, this]

theorem find_miss {l : List ByteArray} {s : ByteArray} (hall : ∀ j, j < l.length → ((l[j]?.getD ByteArray.empty).toList == s.toList) = false) : findS l s = -1 := by
  have : l.findIdx? (fun x => x.toList == s.toList) = none := by
    rw [List.findIdx?_eq_none_iff]
    intro x hx
    obtain ⟨j, hj, rfl⟩ := List.getElem_of_mem hx
    have := hall j hj
    simpa [List.getElem?_eq_getElem hj] using this
  simp [findS, this]

theorem spec_find (A : Option Addr) (n c : Nat) (l : List ByteArray) (s : ByteArray) (w : World) (h : Sl w 1 A n (strs l)) (hn : n ≤ 9223372036854775807) :
    Calls Try.prog 147 #[.slice A n c, .string s] w fun e w' => e = .returned (.int .i64 (findS l s)) ∧ w = w' := by
  have hl : l.length = n := by have := h.len; simpa [strs] using this
  have HL := Lib.hid hl
  clear hl
  go_enter Try.func147, Try.ntmps147
  go_wp2_with fail
  go_loop [5] (fun i => ∃ k : Nat, k ≤ n ∧ i = .int .i64 k ∧ Hid (∀ j, j < k → ((l[j]?.getD ByteArray.empty).toList == s.toList) = false)) (fun i => n - (intOf i).toNat)
  case atStart => exact ⟨0, Nat.zero_le _, rfl, fun j h => absurd h (by omega)⟩
  case round =>
    obtain ⟨k, hk, rfl, hall⟩ := hrel
    by_cases hlt : k < n
    · obtain ⟨b, off, rfl, hb, hc⟩ := h.cell1 hlt
      rw [strs_getD (by have := HL.out; omega)] at hc
      by_cases he : ((l[k]?.getD ByteArray.empty).toList == s.toList) = true
      · have fin := Lib.hid (find_hit (by have := HL.out; omega) hall.out he)
        go_wp2_with fail
        go_ret
        exact ⟨ret_int fin.out.symm, rfl⟩
      · have he' : ((l[k]?.getD ByteArray.empty).toList == s.toList) = false := by simpa using he
        have hs : Hid (∀ j, j < k + 1 → ((l[j]?.getD ByteArray.empty).toList == s.toList) = false) := fun j hj => by
          by_cases e : j = k
          · subst e; exact he'
          · exact hall.out j (by omega)
        clear he
        go_wp2_with fail
        go_round
        case rel => exact ⟨k + 1, by omega, by go_num, hs⟩
        case measure => simp [intOf]; omega
    · have hkn : k = n := by omega
      subst hkn
      have fin := Lib.hid (find_miss (l := l) (s := s) (fun j hj => hall.out j (by have := HL.out; omega)))
      go_wp2_with fail
      go_ret
      exact ⟨ret_int fin.out.symm, rfl⟩

theorem find_any (l : List ByteArray) (s : ByteArray) : decide (0 ≤ findS l s) = l.any fun x => x.toList == s.toList := by
  rw [← List.findIdx?_isSome]
  unfold findS
  cases l.findIdx? (fun x => x.toList == s.toList) with
  | none => simp
  | some k => simp

end Go.Proofs.Ytmofcbpabdbjlaa
