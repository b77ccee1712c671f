/-
  What is proved: how an argument that is a vector reads: as a tree whose integers and lengths a machine holds. plain facts on the sizes and the marks of vectors as trees; how items, texts and parts are read cell by cell; what the statements take of their bound for vectors. what the statements' copies of items, parts and vectors return: memory of the call's own; what the functions on names (IsName, IsSyntacticName, isReserved, isLetter, isDigit, of the program and of the reference) return; what the small tests on items, texts and vectors return (of the program and of the reference). what the reference's tests on lists of texts return; what both tests of a vector's node return.
  Condition: vectors of size at most 1048576; strings within the model's length; lengths that a machine holds.
-/
import Derived.ChangeSame
import Derived.Deep.Fields
import Derived.Deep.Slices
import Derived.Lib.SmallJoins
import Derived.WalkLawsBesides
import Derived.Test.YtmofcbpabdbjlaaGreatMz1
import Derived.Test.YtmofcbpabdbjlaaGreatMz2
import Derived.Test.YtmofcbpabdbjlaaGreatMz3
import Derived.Test.YtmofcbpabdbjlaaGreatMz4
import Derived.Test.YtmofcbpabdbjlaaGreatMz5
import Derived.Test.YtmofcbpabdbjlaaGreatMz7
import Derived.Test.YtmofcbpabdbjlaaGreatMz9
namespace Go.Proofs.YtmofcbpabdbjlaaGreat

set_option maxRecDepth 8000

section

open Go.ChangeShapes Go.WideShapes Go.RowKit Go.Joins Go.Deep

set_option linter.unusedVariables false

set_option linter.unusedSimpArgs false

def i64B (n : Int) : Prop := -9223372036854775808 ≤ n ∧ n ≤ 9223372036854775807

def wfI (x : It) : Prop := i64B x.num ∧ i64B x.den ∧ x.text.size ≤ maxLen

def wfS (l : List ByteArray) : Prop := l.length ≤ maxLen ∧ ∀ s ∈ l, s.size ≤ maxLen

mutual
def wfV : VT → Prop
  | .mk k is ps ns cs ls c e => (i64B k ∧ i64B c ∧ i64B e) ∧ (is.length ≤ maxLen ∧ ∀ x ∈ is, wfI x) ∧ (ps.length ≤ maxLen ∧ wfL ps) ∧ wfS ns ∧ wfS cs ∧ wfS ls
def wfL : List VT → Prop
  | [] => True
  | p :: ps => wfV p ∧ wfL ps
end

section

variable {H : Type} {enc : TypeId × Value → H} {P : Program} {w : World} {base : Nat} {spare : Nat → Bool} {held : Bool}

end

section

variable {H : Type} {enc : TypeId × Value → H} {W : World} {base : Nat} {spare : Nat → Bool} {held : Bool} {r : Reach} {b0 : Nat} {v : Value} {d : DataW H} {p : List MemPlace}

end

end

section

set_option linter.unusedVariables false

set_option linter.unusedSimpArgs false

/-! sizes -/

def itz : List It → Nat
  | [] => 0
  | x :: l => x.text.size + itz l

def szI (l : List It) : Nat := l.length + itz l

mutual
def szV : VT → Nat
  | .mk k is ps ns cs ls c e => szI is + szL ps + szS ns + szS cs + szS ls
def szL : List VT → Nat
  | [] => 0
  | p :: ps => 1 + szV p + szL ps
end

/-- the size of the parts, one by one, without their number -/
def szP : List VT → Nat
  | [] => 0
  | p :: ps => szV p + szP ps

theorem szL_eq (ps : List VT) : szL ps = ps.length + szP ps := by
  induction ps with
  | nil => rfl
  | cons p ps ih => simp only [szL, szP, List.length_cons, ih]; omega

theorem itz_app (a b : List It) : itz (a ++ b) = itz a + itz b := by
  induction a with
  | nil => simp [itz]
  | cons x a ih => simp [itz, ih, Nat.add_assoc]

theorem itz_succ {l : List It} {k : Nat} (h : k < l.length) : itz (l.take (k + 1)) = itz (l.take k) + (l[k]'h).text.size := by rw [za6 h, itz_app]; simp [itz]

theorem itz_take_le (l : List It) (k : Nat) : itz (l.take k) ≤ itz l := by
  have := itz_app (l.take k) (l.drop k)
  rw [List.take_append_drop] at this
  omega

theorem szP_app (a b : List VT) : szP (a ++ b) = szP a + szP b := by
  induction a with
  | nil => simp [szP]
  | cons x a ih => simp [szP, ih, Nat.add_assoc]

theorem szP_succ {l : List VT} {k : Nat} (h : k < l.length) : szP (l.take (k + 1)) = szP (l.take k) + szV (l[k]'h) := by rw [za6 h, szP_app]; simp [szP]

theorem szP_take_le (l : List VT) (k : Nat) : szP (l.take k) ≤ szP l := by
  have := szP_app (l.take k) (l.drop k)
  rw [List.take_append_drop] at this
  omega

theorem szP_mem {l : List VT} {k : Nat} (h : k < l.length) : szV (l[k]'h) ≤ szP l := by
  have := szP_succ h
  have := szP_take_le l (k + 1)
  omega

theorem itz_mem {l : List It} {k : Nat} (h : k < l.length) : (l[k]'h).text.size ≤ itz l := by
  have := itz_succ h
  have := itz_take_le l (k + 1)
  omega

/-! marks -/

def mtx (k : Nat) : ByteArray := bstr (109 :: (if k = 0 then [48] else dig k))

def mkI1 (k i : Nat) : It := ⟨(k + 3 * i : Nat), (k + 3 * i + 1 : Nat), mtx (k + 3 * i + 2)⟩

def mkI (k n : Nat) : List It := (List.range n).map (mkI1 k)

def mkS (k n : Nat) : List ByteArray := (List.range n).map fun i => mtx (k + i)

mutual
def cntV : VT → Nat
  | .mk k is ps ns cs ls c e => 3 * is.length + cntL ps + ns.length + cs.length + ls.length
def cntL : List VT → Nat
  | [] => 0
  | p :: ps => (cntV p + 3) + cntL ps
end

def setT : VT → Int → Int → Int → VT
  | .mk _ is ps ns cs ls _ _, k, c, e => .mk k is ps ns cs ls c e

mutual
def mrkV : Nat → VT → VT
  | q, .mk k is ps ns cs ls c e => .mk k (mkI q is.length) (mrkL (q + 3 * is.length) ps) (mkS (q + 3 * is.length + cntL ps) ns.length) (mkS (q + 3 * is.length + cntL ps + ns.length) cs.length)
      (mkS (q + 3 * is.length + cntL ps + ns.length + cs.length) ls.length) c e
def mrkL : Nat → List VT → List VT
  | _, [] => []
  | q, p :: ps => setT (mrkV (q + 1) p) q (q + 1 + cntV p : Nat) (q + 2 + cntV p : Nat) :: mrkL (q + 3 + cntV p) ps
end

mutual
theorem cnt_sz : ∀ t, cntV t ≤ 3 * szV t
  | .mk k is ps ns cs ls c e => by
    have := cntL_sz ps
    simp only [cntV, szV, szI, szS]
    omega
theorem cntL_sz : ∀ ps, cntL ps ≤ 3 * szL ps
  | [] => by simp [cntL, szL]
  | p :: ps => by
    have := cnt_sz p
    have := cntL_sz ps
    simp only [cntL, szL]
    omega
end

end

end Go.Proofs.YtmofcbpabdbjlaaGreat

namespace Go.Proofs.YtmofcbpabdbjlaaGreat

set_option maxRecDepth 8000

section

open Go.RowKit Go.ChangeShapes Go.WideShapes

set_option linter.unusedVariables false

set_option linter.unusedSimpArgs false

/-- the cells of item i, in a world in which the memory of w is as it was -/
theorem Sl.it {w u : World} {A : Option Addr} {l : List It} (h : Sl w 3 A l.length (itc l)) (hb : Below w.heap.size w u) {i : Nat} (hi : i < l.length) {x : It} (hx : l[i]'hi = x) :
    ∃ b off, A = some ⟨b, off, none⟩ ∧ b < w.heap.size ∧ u.cell? ⟨b, off + i * 3, none⟩ = some (.int .i64 x.num) ∧ u.cell? ⟨b, off + i * 3 + 1, none⟩ = some (.int .i64 x.den) ∧ u.cell? ⟨b, off + i * 3 + 2, none⟩ = some (.string x.text) := by
  subst hx
  obtain ⟨b, off, e, hlt, hc⟩ := h.at' (f := itc1) (fun _ _ => rfl) hi
  exact ⟨b, off, e, hlt, (hb.cell (p := ⟨b, _, none⟩) hlt).trans (hc 0 _ rfl), (hb.cell (p := ⟨b, _, none⟩) hlt).trans (hc 1 _ rfl), (hb.cell (p := ⟨b, _, none⟩) hlt).trans (hc 2 _ rfl)⟩

theorem Sl.tx {w u : World} {A : Option Addr} {l : List ByteArray} (h : Sl w 1 A l.length (stc l)) (hb : Below w.heap.size w u) {i : Nat} (hi : i < l.length) {x : ByteArray} (hx : l[i]'hi = x) :
    ∃ b off, A = some ⟨b, off, none⟩ ∧ b < w.heap.size ∧ u.cell? ⟨b, off + i, none⟩ = some (.string x) := by
  subst hx
  obtain ⟨b, off, e, hlt, hc⟩ := h.cell1 hi
  rw [stc_at hi] at hc
  exact ⟨b, off, e, hlt, (hb.cell (p := ⟨b, _, none⟩) hlt).trans hc⟩

/-- the cells of part i -/
theorem RdL.pt {w u : World} {A : Option Addr} {ps : List VT} {pvs : List (List Value)} (h : RdL w A ps pvs) (hb : Below w.heap.size w u) {i : Nat} (hi : i < ps.length) {t : VT} (ht : ps[i]'hi = t) :
    ∃ b off, A = some ⟨b, off, none⟩ ∧ b < w.heap.size ∧ ∃ v0 v1 v2 v3 v4 v5 v6 v7, RdV u t [v0, v1, v2, v3, v4, v5, v6, v7] ∧ u.cell? ⟨b, off + i * 8, none⟩ = some v0 ∧ u.cell? ⟨b, off + i * 8 + 1, none⟩ = some v1 ∧ u.cell? ⟨b, off + i * 8 + 2, none⟩ = some v2 ∧ u.cell? ⟨b, off + i * 8 + 3, none⟩ = some v3 ∧
      u.cell? ⟨b, off + i * 8 + 4, none⟩ = some v4 ∧ u.cell? ⟨b, off + i * 8 + 5, none⟩ = some v5 ∧ u.cell? ⟨b, off + i * 8 + 6, none⟩ = some v6 ∧ u.cell? ⟨b, off + i * 8 + 7, none⟩ = some v7 := by
  subst ht
  obtain ⟨b, off, e, hlt, vs, hv, hc⟩ := h.cells hi
  match vs, hv.len, hv, hc with
  | [v0, v1, v2, v3, v4, v5, v6, v7], _, hv, hc =>
    have q : ∀ j u', [v0, v1, v2, v3, v4, v5, v6, v7][j]? = some u' → u.cell? ⟨b, off + (i * 8 + j), none⟩ = some u' := fun j u' hu => (hb.cell (p := ⟨b, _, none⟩) hlt).trans (hc j u' hu)
    exact ⟨b, off, e, hlt, v0, v1, v2, v3, v4, v5, v6, v7, hv.grow hb, q 0 _ rfl, q 1 _ rfl, q 2 _ rfl, q 3 _ rfl, q 4 _ rfl, q 5 _ rfl, q 6 _ rfl, q 7 _ rfl⟩

end

section

open Go.RowKit Go.ChangeShapes Go.WideShapes

set_option linter.unusedVariables false

set_option linter.unusedSimpArgs false

end

end Go.Proofs.YtmofcbpabdbjlaaGreat

namespace Go.Proofs.YtmofcbpabdbjlaaGreat

set_option maxRecDepth 8000

open Go.RowKit

set_option linter.unusedVariables false

set_option linter.unusedSimpArgs false

/-- where a string stands in a list of strings; -1 if it does not -/
def findS (l : List ByteArray) (s : ByteArray) : Int := match l.findIdx? (fun x => x.toList == s.toList) with | some k => k | none => -1

def strs (l : List ByteArray) : List Value := l.map Value.string

theorem strs_getD {l : List ByteArray} {k : Nat} (h : k < l.length) : (strs l).getD k undef = .string (l[k]?.getD ByteArray.empty) := by
  simp [strs, List.getD_eq_getElem?_getD, h]

theorem find_hit {l : List ByteArray} {s : ByteArray} {k : Nat} (hk : k < l.length) (hall : ∀ j, j < k → ((l[j]?.getD ByteArray.empty).toList == s.toList) = false) (h : ((l[k]?.getD ByteArray.empty).toList == s.toList) = true) : findS l s = k := by
  have : l.findIdx? (fun x => x.toList == s.toList) = some k := by
    rw [List.findIdx?_eq_some_iff_getElem]
    refine ⟨hk, ?_, fun j hj => ?_⟩
    · simpa [List.getElem?_eq_getElem hk] using h
    · have := hall j hj
      simpa [List.getElem?_eq_getElem (show j < l.length by omega)] using this
  simp [findS, this]

theorem find_miss {l : List ByteArray} {s : ByteArray} (hall : ∀ j, j < l.length → ((l[j]?.getD ByteArray.empty).toList == s.toList) = false) : findS l s = -1 := by
  have : l.findIdx? (fun x => x.toList == s.toList) = none := by
    rw [List.findIdx?_eq_none_iff]
    intro x hx
    obtain ⟨j, hj, rfl⟩ := List.getElem_of_mem hx
    have := hall j hj
    simpa [List.getElem?_eq_getElem hj] using this
  simp [findS, this]

theorem spec_find (A : Option Addr) (n c : Nat) (l : List ByteArray) (s : ByteArray) (w : World) (h : Sl w 1 A n (strs l)) (hn : n ≤ 9223372036854775807) :
    Calls Tryz.prog 73 #[.slice A n c, .string s] w fun e w' => e = .returned (.int .i64 (findS l s)) ∧ w = w' := by
  have hl : l.length = n := by have := h.len; simpa [strs] using this
  have HL := Lib.hid hl
  clear hl
  go_enter Tryz.func73, Tryz.ntmps73
  go_wp2_with fail
  go_loop [5] (fun i => ∃ k : Nat, k ≤ n ∧ i = .int .i64 k ∧ Hid (∀ j, j < k → ((l[j]?.getD ByteArray.empty).toList == s.toList) = false)) (fun i => n - (intOf i).toNat)
  case atStart => exact ⟨0, Nat.zero_le _, rfl, fun j h => absurd h (by omega)⟩
  case round =>
    obtain ⟨k, hk, rfl, hall⟩ := hrel
    by_cases hlt : k < n
    · obtain ⟨b, off, rfl, hb, hc⟩ := h.cell1 hlt
      rw [strs_getD (by have := HL.out; omega)] at hc
      by_cases he : ((l[k]?.getD ByteArray.empty).toList == s.toList) = true
      · have fin := Lib.hid (find_hit (by have := HL.out; omega) hall.out he)
        go_wp2_with fail
        go_ret
        exact ⟨zat fin.out.symm, rfl⟩
      · have he' : ((l[k]?.getD ByteArray.empty).toList == s.toList) = false := by simpa using he
        have hs : Hid (∀ j, j < k + 1 → ((l[j]?.getD ByteArray.empty).toList == s.toList) = false) := fun j hj => by
          by_cases e : j = k
          · subst e; exact he'
          · exact hall.out j (by omega)
        clear he
        go_wp2_with fail
        go_round
        case rel => exact ⟨k + 1, by omega, by go_num, hs⟩
        case measure => simp [intOf]; omega
    · have hkn : k = n := by omega
      subst hkn
      have fin := Lib.hid (find_miss (l := l) (s := s) (fun j hj => hall.out j (by have := HL.out; omega)))
      go_wp2_with fail
      go_ret
      exact ⟨zat fin.out.symm, rfl⟩

theorem spec_has (A : Option Addr) (n c : Nat) (l : List ByteArray) (s : ByteArray) (w : World) (h : Sl w 1 A n (strs l)) (hn : n ≤ 9223372036854775807) :
    Calls Tryz.prog 35 #[.slice A n c, .string s] w fun e w' => e = .returned (.bool (decide (0 ≤ findS l s))) ∧ w = w' := by
  go_enter Tryz.func35, Tryz.ntmps35
  go_wp2_with (go_at_call 73; refine (spec_find A n c l s _ h hn).mono ?_; rintro e w' ⟨rfl, rfl⟩)
  go_ret
  exact ⟨rfl, rfl⟩

theorem find_any (l : List ByteArray) (s : ByteArray) : decide (0 ≤ findS l s) = l.any fun x => x.toList == s.toList := by
  rw [← List.findIdx?_isSome]
  unfold findS
  cases l.findIdx? (fun x => x.toList == s.toList) with
  | none => simp
  | some k => simp

end Go.Proofs.YtmofcbpabdbjlaaGreat

namespace Go.Proofs.YtmofcbpabdbjlaaGreat

set_option maxRecDepth 8000

section

open Go.RowKit Go.ChangeShapes Go.WideShapes

set_option linter.unusedVariables false

set_option linter.unusedSimpArgs false

theorem zba (n d : Int) (t : ByteArray) (w : World) : Calls Tryz.prog 27 #[.agg #[.int .i64 n, .int .i64 d, .string t]] w fun e w' => e = .returned (.bool (misB ⟨n, d, t⟩)) ∧ Below w.heap.size w w' := by
  go_enter Tryz.func27, Tryz.ntmps27
  have hO := Own.nil w
  go_wp2_with (first | ((with_reducible refine zad ?_); refine zbx rfl hO rfl rfl ?_; (refine nm 0 rfl ?_; clear hO; intro b0 u hO); simp only [zL, zK] at hO) | ((with_reducible refine zaa ?_); refine zlb rfl hO rfl _ (by exact at0) ?_) | fail)
  all_goals
    go_ret
    refine ⟨zap ?_, hO.below⟩
    simp_all [misB]

theorem impl_isAtomic (k : Int) (v1 v2 v3 v4 v5 v6 v7 : Value) (w : World) : Calls Tryz.prog 108 #[.agg #[.int .i64 k, v1, v2, v3, v4, v5, v6, v7]] w fun e w' => e = .returned (.bool (decide (1 ≤ k ∧ k ≤ 3))) ∧ Below w.heap.size w w' := by
  go_enter Tryz.func108, Tryz.ntmps108
  have hO := Own.nil w
  go_wp2_with (first | ((with_reducible refine zad ?_); refine zbx rfl hO rfl rfl ?_; (refine nm 0 rfl ?_; clear hO; intro b0 u hO); simp only [zL, zK] at hO) | ((with_reducible refine zaa ?_); refine zag rfl (by (first | rfl | (simp only [Region.wanted, yielded, *]; go_simp; done) | fail)) hO rfl _ (by exact at0) (by rfl) (by simp only [Act.put, zA, zB, zC]; rfl) ?_) | fail)
  all_goals
    go_ret
    refine ⟨zap ?_, hO.below⟩
    rw [Bool.eq_iff_iff]
    simp_all <;> omega

def lenN (k : Int) (ni np : Nat) : Nat := if k = 5 then 1 else ni + np

theorem impl_length (k : Int) (Ai Ap : Option Addr) (ni np ci cp : Nat) (v3 v4 v5 v6 v7 : Value) (w : World) (h : (ni : Int) + np ≤ 9223372036854775807) : Calls Tryz.prog 65 #[.agg #[.int .i64 k, .slice Ai ni ci, .slice Ap np cp, v3, v4, v5, v6, v7]] w fun e w' => e = .returned (.int .i64 (lenN k ni np : Int)) ∧ Below w.heap.size w w' := by
  by_cases hk : k = 5
  · subst hk
    go_enter Tryz.func65, Tryz.ntmps65
    have hO := Own.nil w
    go_wp2_with (first | ((with_reducible refine zad ?_); refine zbx rfl hO rfl rfl ?_; (refine nm 0 rfl ?_; clear hO; intro b0 u hO); simp only [zL, zK] at hO) | ((with_reducible refine zaa ?_); refine zlf rfl hO rfl _ (by exact at0) ?_) | fail)
    go_ret
    exact ⟨rfl, hO.below⟩
  · have hk' : (k == 5) = false := by simpa using hk
    have HE := Lib.hid (show lenN k ni np = ni + np from if_neg hk)
    clear hk
    go_enter Tryz.func65, Tryz.ntmps65
    have hO := Own.nil w
    go_wp2_with (first | ((with_reducible refine zad ?_); refine zbx rfl hO rfl rfl ?_; (refine nm 0 rfl ?_; clear hO; intro b0 u hO); simp only [zL, zK] at hO) | ((with_reducible refine zaa ?_); refine zlf rfl hO rfl _ (by exact at0) ?_) | fail)
    go_ret
    exact ⟨zat (by rw [HE.out]; omega), hO.below⟩

theorem spec_len (k : Int) (Ai Ap : Option Addr) (ni np ci cp : Nat) (v3 v4 v5 v6 v7 : Value) (w : World) (h : (ni : Int) + np ≤ 9223372036854775807) : Calls Tryz.prog 38 #[.agg #[.int .i64 k, .slice Ai ni ci, .slice Ap np cp, v3, v4, v5, v6, v7]] w fun e w' => e = .returned (.int .i64 (lenN k ni np : Int)) ∧ Below w.heap.size w w' := by
  by_cases hk : k = 5
  · subst hk
    go_enter Tryz.func38, Tryz.ntmps38
    have hO := Own.nil w
    go_wp2_with (first | ((with_reducible refine zad ?_); refine zbx rfl hO rfl rfl ?_; (refine nm 0 rfl ?_; clear hO; intro b0 u hO); simp only [zL, zK] at hO) | ((with_reducible refine zaa ?_); refine zlf rfl hO rfl _ (by exact at0) ?_) | fail)
    go_ret
    exact ⟨rfl, hO.below⟩
  · have hk' : (k == 5) = false := by simpa using hk
    have HE := Lib.hid (show lenN k ni np = ni + np from if_neg hk)
    clear hk
    go_enter Tryz.func38, Tryz.ntmps38
    have hO := Own.nil w
    go_wp2_with (first | ((with_reducible refine zad ?_); refine zbx rfl hO rfl rfl ?_; (refine nm 0 rfl ?_; clear hO; intro b0 u hO); simp only [zL, zK] at hO) | ((with_reducible refine zaa ?_); refine zlf rfl hO rfl _ (by exact at0) ?_) | fail)
    go_ret
    exact ⟨zat (by rw [HE.out]; omega), hO.below⟩

/-- the place of a text in a list -/
theorem impl_textIndex (A : Option Addr) (c : Nat) (l : List ByteArray) (s : ByteArray) (n : Nat) (w : World) (hnl : l.length = n) (h : Sl w 1 A n (stc l)) (hn : n ≤ 9223372036854775807) :
    Calls Tryz.prog 113 #[.slice A n c, .string s] w fun e w' => e = .returned (.int .i64 (findS l s)) ∧ w = w' := by
  subst hnl
  go_enter Tryz.func113, Tryz.ntmps113
  go_wp2_with fail
  go_loop [9] (fun i => ∃ k : Nat, k ≤ l.length ∧ i = .int .i64 k ∧ Hid (∀ j, j < k → ((l[j]?.getD ByteArray.empty).toList == s.toList) = false)) (fun i => l.length - (intOf i).toNat)
  case atStart => exact ⟨0, Nat.zero_le _, rfl, fun j h => absurd h (by omega)⟩
  case round =>
    obtain ⟨k, hk, rfl, hall⟩ := hrel
    by_cases hlt : k < l.length
    · obtain ⟨b, off, rfl, hb, hc⟩ := h.tx (Below.refl _ _) hlt rfl
      have hg : l[k]?.getD ByteArray.empty = l[k] := by simp [hlt]
      obtain ⟨x, hx⟩ : ∃ x, l[k] = x := ⟨_, rfl⟩
      rw [hx] at hc hg
      clear hx
      by_cases he : (x.toList == s.toList) = true
      · have fin := Lib.hid (find_hit hlt hall.out (by rw [hg]; exact he))
        clear hg
        go_wp2_with fail
        go_ret
        exact ⟨zat fin.out.symm, rfl⟩
      · have he' : (x.toList == s.toList) = false := by simpa using he
        have hs : Hid (∀ j, j < k + 1 → ((l[j]?.getD ByteArray.empty).toList == s.toList) = false) := fun j hj => by
          by_cases e : j = k
          · subst e; rw [hg]; exact he'
          · exact hall.out j (by omega)
        clear he hg
        go_wp2_with fail
        go_round
        case rel => exact ⟨k + 1, by omega, by go_num, hs⟩
        case measure => simp [intOf]; omega
    · have hkn : k = l.length := by omega
      have fin := Lib.hid (find_miss (l := l) (s := s) (fun j hj => hall.out j (by omega)))
      subst hkn
      go_wp2_with fail
      go_ret
      exact ⟨zat fin.out.symm, rfl⟩

theorem impl_hasText (A : Option Addr) (c : Nat) (l : List ByteArray) (s : ByteArray) (n : Nat) (w : World) (hnl : l.length = n) (h : Sl w 1 A n (stc l)) (hn : n ≤ 9223372036854775807) :
    Calls Tryz.prog 112 #[.slice A n c, .string s] w fun e w' => e = .returned (.bool (l.any fun x => x.toList == s.toList)) ∧ w = w' := by
  have HF := Lib.hid (find_any l s)
  go_enter Tryz.func112, Tryz.ntmps112
  go_wp2_with fail
  refine (impl_textIndex A c l s n _ hnl h hn).mono ?_
  rintro e w' ⟨rfl, rfl⟩
  go_wp2_with fail
  go_ret
  exact ⟨zap (by rw [← HF.out]), rfl⟩

theorem emptyB_iff {s : ByteArray} : emptyB s = true ↔ s.toList = [] := by unfold emptyB; simp

/-- whether all texts are empty -/
theorem allE_take {l : List ByteArray} {k : Nat} (h : k < l.length) : allE (l.take (k + 1)) = (allE (l.take k) && emptyB l[k]) := by rw [za6 h]; unfold allE; rw [List.all_append]; simp

theorem allE_false {l : List ByteArray} {k : Nat} (h : k < l.length) (he : emptyB l[k] = false) : allE l = false := by
  unfold allE
  rw [List.all_eq_false]
  exact ⟨_, List.getElem_mem h, by simp [he]⟩

theorem impl_allEmpty (A : Option Addr) (c : Nat) (l : List ByteArray) (w : World) (h : Sl w 1 A l.length (stc l)) (hn : l.length ≤ 9223372036854775807) :
    Calls Tryz.prog 107 #[.slice A l.length c] w fun e w' => e = .returned (.bool (allE l)) ∧ w = w' := by
  go_enter Tryz.func107, Tryz.ntmps107
  go_wp2_with fail
  go_loop [7] (fun i => ∃ k : Nat, k ≤ l.length ∧ i = .int .i64 k ∧ Hid (allE (l.take k) = true)) (fun i => l.length - (intOf i).toNat)
  case atStart => exact ⟨0, Nat.zero_le _, rfl, rfl⟩
  case round =>
    obtain ⟨k, hk, rfl, hall⟩ := hrel
    by_cases hlt : k < l.length
    · obtain ⟨b, off, rfl, hb, hc⟩ := h.tx (Below.refl _ _) hlt rfl
      have HT := Lib.hid (allE_take hlt)
      have HF := Lib.hid (fun he => allE_false (l := l) hlt he)
      obtain ⟨x, hx⟩ : ∃ x, l[k] = x := ⟨_, rfl⟩
      rw [hx] at hc HT HF
      clear hx
      by_cases he : x.toList = []
      · have he2 : (!x.toList.isEmpty) = false := by simp [he]
        have HE : Hid (emptyB x = true) := Lib.hid (emptyB_iff.2 he)
        go_wp2_with fail
        go_round
        case rel => exact ⟨k + 1, by omega, by go_num, by show _ = _; rw [HT.out, hall.out, HE.out]; rfl⟩
        case measure => simp [intOf]; omega
      · have he2 : (!x.toList.isEmpty) = true := by simp [he]
        have HE := Lib.hid (HF.out (by cases hq : emptyB x with | false => rfl | true => exact absurd (emptyB_iff.1 hq) he))
        go_wp2_with fail
        go_ret
        exact ⟨zap HE.out.symm, rfl⟩
    · have hkn : k = l.length := by omega
      subst hkn
      rw [List.take_length] at hall
      go_wp2_with fail
      go_ret
      exact ⟨zap hall.out.symm, rfl⟩

theorem goodN_succ (l : List ByteArray) (k : Nat) : goodN l (k + 1) = (goodN l k && okAt l k) := by simp [goodN, List.range_succ]

theorem goodN_false {l : List ByteArray} {k : Nat} (h : k < l.length) (he : okAt l k = false) : goodN l l.length = false := by
  unfold goodN
  rw [List.all_eq_false]
  exact ⟨k, List.mem_range.2 h, by simp [he]⟩

theorem okAt_eq {l : List ByteArray} {k : Nat} (h : k < l.length) : okAt l k = (!emptyB l[k] && decide (l[k].size ≤ 60) && !((l.take k).any fun x => x.toList == l[k].toList)) := by
  unfold okAt
  rw [List.getD_eq_getElem?_getD, List.getElem?_eq_getElem h]
  rfl

theorem Sl.take {w : World} {A : Option Addr} {l : List ByteArray} (h : Sl w 1 A l.length (stc l)) (k : Nat) (hk : k ≤ l.length) : Sl w 1 A k (stc (l.take k)) := by
  refine ⟨by simp [stc]; omega, fun h0 => ?_⟩
  obtain ⟨b, off, e, hb, hc⟩ := h.at_ (by omega)
  refine ⟨b, off, e, hb, fun j u hu => hc j u ?_⟩
  have hj : j < k := by have := (List.getElem?_eq_some_iff.1 hu).1; simp [stc] at this; omega
  rw [← hu, stc, stc, List.map_take, List.getElem?_take_of_lt hj]

theorem impl_labels (most : Nat) (hm : most ≤ 100) (A : Option Addr) (c : Nat) (l : List ByteArray) (w : World) (h : Sl w 1 A l.length (stc l)) (hn : l.length ≤ 9223372036854775807) (hc0 : l.length ≤ c) :
    Calls Tryz.prog 106 #[.slice A l.length c, .int .i64 (most : Int)] w fun e w' => e = .returned (.bool (labB most l)) ∧ w = w' := by
  by_cases hml : most < l.length
  · have HL : Hid (labB most l = false) := Lib.hid (by unfold labB; rw [decide_eq_false (by omega)]; rfl)
    go_enter Tryz.func106, Tryz.ntmps106
    go_wp2_with fail
    go_ret
    exact ⟨zap HL.out.symm, rfl⟩
  · have HL : Hid (labB most l = goodN l l.length) := Lib.hid (by unfold labB; rw [decide_eq_true (by omega)]; rfl)
    have hdd : decide (most < l.length) = false := decide_eq_false hml
    clear hml
    go_enter Tryz.func106, Tryz.ntmps106
    go_wp2_with fail
    go_loop [13] (fun i => ∃ k : Nat, k ≤ l.length ∧ i = .int .i64 k ∧ Hid (goodN l k = true)) (fun i => l.length - (intOf i).toNat)
    case atStart => exact ⟨0, Nat.zero_le _, rfl, rfl⟩
    case round =>
      obtain ⟨k, hk, rfl, hall⟩ := hrel
      by_cases hlt : k < l.length
      · obtain ⟨b, off, rfl, hb, hc⟩ := h.tx (Below.refl _ _) hlt rfl
        have HT := Lib.hid (goodN_succ l k)
        have HF := Lib.hid (fun he => goodN_false (l := l) hlt he)
        have HO := Lib.hid (okAt_eq hlt)
        have hs := h.take k hk
        obtain ⟨x, hx⟩ : ∃ x, l[k] = x := ⟨_, rfl⟩
        rw [hx] at hc HO
        clear hx
        have hcc : k ≤ c := by omega
        by_cases e1 : x.toList = []
        · have t1 : (!x.toList.isEmpty) = false := by simp [e1]
          have t2 : x.toList.isEmpty = true := by simp [e1]
          have HR := Lib.hid (HF.out (by rw [HO.out, emptyB_iff.2 e1]; rfl))
          go_wp2_with fail
          go_ret
          exact ⟨zap (by rw [HL.out, HR.out]), rfl⟩
        · have t1 : (!x.toList.isEmpty) = true := by simp [e1]
          have t2 : x.toList.isEmpty = false := by simp [e1]
          have HE : Hid (emptyB x = false) := Lib.hid (by unfold emptyB; exact t2)
          by_cases e2 : 60 < x.size
          · have HR := Lib.hid (HF.out (by rw [HO.out, decide_eq_false (by omega)]; simp))
            go_wp2_with fail
            go_ret
            exact ⟨zap (by rw [HL.out, HR.out]), rfl⟩
          · have HD := Lib.hid (decide_eq_true (show x.size ≤ 60 by omega))
            obtain ⟨q, hq⟩ : ∃ q, ((l.take k).any fun y => y.toList == x.toList) = q := ⟨_, rfl⟩
            have HC := fun u => impl_hasText (some ⟨b, off, none⟩) c (l.take k) x k u (by simp; omega)
            rw [hq] at HO HC
            clear hq
            cases q with
            | true =>
              have HR := Lib.hid (HF.out (by rw [HO.out]; simp))
              go_wp2_with fail
              refine (HC _ hs (by omega)).mono ?_
              rintro e w' ⟨rfl, rfl⟩
              go_wp2_with fail
              go_ret
              exact ⟨zap (by rw [HL.out, HR.out]), rfl⟩
            | false =>
              go_wp2_with fail
              refine (HC _ hs (by omega)).mono ?_
              rintro e w' ⟨rfl, rfl⟩
              go_wp2_with fail
              go_round
              case rel => exact ⟨k + 1, by omega, by go_num, by show _ = _; rw [HT.out, hall.out, HO.out, HE.out, HD.out]; rfl⟩
              case measure => simp [intOf]; omega
      · have hkn : k = l.length := by omega
        subst hkn
        go_wp2_with fail
        go_ret
        exact ⟨zap (by rw [HL.out, hall.out]), rfl⟩

set_option maxHeartbeats 4000000 in
theorem impl_itemValid (k n d : Int) (t : ByteArray) (w : World) (ht : t.size ≤ maxLen) : Calls Tryz.prog 109 #[.int .i64 k, .agg #[.int .i64 n, .int .i64 d, .string t]] w fun e w' => e = .returned (.bool (itemB k ⟨n, d, t⟩)) ∧ Below w.heap.size w w' := by
  obtain ⟨q, hq⟩ : ∃ q, misB ⟨n, d, t⟩ = q := ⟨_, rfl⟩
  have hm := fun u => zba n d t u
  rw [hq] at hm
  cases q with
  | true =>
    have HE : Hid (itemB k ⟨n, d, t⟩ = true) := Lib.hid (by unfold itemB; rw [hq]; rfl)
    clear hq
    go_enter Tryz.func109, Tryz.ntmps109
    have hO := Own.nil w
    go_wp2_with (first | ((with_reducible refine zad ?_); refine zbx rfl hO rfl rfl ?_; (refine nm 0 rfl ?_; clear hO; intro b0 u hO); simp only [zL, zK] at hO) | ((with_reducible refine zaa ?_); refine zlb rfl hO rfl _ (by exact at0) ?_) | fail)
    refine (hm _).mono ?_
    rintro e u ⟨rfl, hb⟩
    (replace hO := hO.step hb; clear hb)
    go_wp2_with fail
    go_ret
    exact ⟨zap HE.out.symm, hO.below⟩
  | false =>
    by_cases k2 : k = 2
    · subst k2
      have HE : Hid (itemB 2 ⟨n, d, t⟩ = zas n d t) := Lib.hid (by unfold itemB; rw [hq]; rfl)
      clear hq
      go_enter Tryz.func109, Tryz.ntmps109
      have hO := Own.nil w
      go_wp2_with (first | ((with_reducible refine zad ?_); refine zbx rfl hO rfl rfl ?_; (refine nm 0 rfl ?_; clear hO; intro b0 u hO); simp only [zL, zK] at hO) | ((with_reducible refine zaa ?_); refine zlb rfl hO rfl _ (by exact at0) ?_) | fail)
      refine (hm _).mono ?_
      rintro e u ⟨rfl, hb⟩
      (replace hO := hO.step hb; clear hb)
      go_wp2_with (first | ((with_reducible refine zaa ?_); refine zlb rfl hO rfl _ (by exact at0) ?_) | fail)
      refine (zak _ _ _ _).mono ?_
      rintro e u ⟨rfl, hb⟩
      (replace hO := hO.step hb; clear hb)
      go_wp2_with fail
      go_ret
      exact ⟨zap HE.out.symm, hO.below⟩
    · have HE : Hid (itemB k ⟨n, d, t⟩ = (if k = 1 then t.toList.isEmpty && decide (d = 1) && (decide (n = 0) || decide (n = 1)) else if k = 3 then decide (n = 0) && decide (d = 1) && decide (t.size ≤ 60) else false)) := Lib.hid (by
        unfold itemB
        rw [hq, Bool.false_or, if_neg k2])
      clear hq
      by_cases k1 : k = 1
      · subst k1
        clear k2
        go_enter Tryz.func109, Tryz.ntmps109
        have hO := Own.nil w
        go_wp2_with (first | ((with_reducible refine zad ?_); refine zbx rfl hO rfl rfl ?_; (refine nm 0 rfl ?_; clear hO; intro b0 u hO); simp only [zL, zK] at hO) | ((with_reducible refine zaa ?_); refine zlb rfl hO rfl _ (by exact at0) ?_) | fail)
        refine (hm _).mono ?_
        rintro e u ⟨rfl, hb⟩
        (replace hO := hO.step hb; clear hb)
        go_wp2_with (first | ((with_reducible refine zaa ?_); refine zag rfl (by (first | rfl | (simp only [Region.wanted, yielded, *]; go_simp; done) | fail)) hO rfl _ (by exact at0) (by rfl) (by simp only [Act.put, zA, zB, zC]; rfl) ?_) | fail)
        all_goals
          go_ret
          exact ⟨zap (by rw [HE.out]; first | (simp_all; done) | (rw [Bool.eq_iff_iff]; simp_all <;> omega)), hO.below⟩
      · by_cases k3 : k = 3
        · subst k3
          clear k1 k2
          go_enter Tryz.func109, Tryz.ntmps109
          have hO := Own.nil w
          go_wp2_with (first | ((with_reducible refine zad ?_); refine zbx rfl hO rfl rfl ?_; (refine nm 0 rfl ?_; clear hO; intro b0 u hO); simp only [zL, zK] at hO) | ((with_reducible refine zaa ?_); refine zlb rfl hO rfl _ (by exact at0) ?_) | fail)
          refine (hm _).mono ?_
          rintro e u ⟨rfl, hb⟩
          (replace hO := hO.step hb; clear hb)
          go_wp2_with (first | ((with_reducible refine zaa ?_); refine zlf rfl hO rfl _ (by exact at0) ?_) | fail)
          all_goals
            go_ret
            exact ⟨zap (by rw [HE.out]; first | (simp_all; done) | (rw [Bool.eq_iff_iff]; simp_all <;> omega)), hO.below⟩
        · go_enter Tryz.func109, Tryz.ntmps109
          have hO := Own.nil w
          go_wp2_with (first | ((with_reducible refine zad ?_); refine zbx rfl hO rfl rfl ?_; (refine nm 0 rfl ?_; clear hO; intro b0 u hO); simp only [zL, zK] at hO) | ((with_reducible refine zaa ?_); refine zlb rfl hO rfl _ (by exact at0) ?_) | fail)
          refine (hm _).mono ?_
          rintro e u ⟨rfl, hb⟩
          (replace hO := hO.step hb; clear hb)
          go_wp2_with fail
          go_ret
          exact ⟨zap (by rw [HE.out, if_neg k1, if_neg k3]), hO.below⟩

set_option maxHeartbeats 4000000 in
theorem spec_item (k n d : Int) (t : ByteArray) (w : World) (ht : t.size ≤ maxLen) : Calls Tryz.prog 97 #[.int .i64 k, .agg #[.int .i64 n, .int .i64 d, .string t]] w fun e w' => e = .returned (.bool (itemB k ⟨n, d, t⟩)) ∧ Below w.heap.size w w' := by
  by_cases k1 : k = 1
  · subst k1
    go_enter Tryz.func97, Tryz.ntmps97
    have hO := Own.nil w
    go_wp2_with (first | ((with_reducible refine (zbj _ _ _ _).mono ?_); rintro e u ⟨rfl, hb⟩; subst hb) | ((with_reducible refine zad ?_); refine zbx rfl hO rfl rfl ?_; (refine nm 0 rfl ?_; clear hO; intro b0 u hO); simp only [zL, zK] at hO) | ((with_reducible refine zaa ?_); refine zlb rfl hO rfl _ (by exact at0) ?_) | ((with_reducible refine zaa ?_); refine zlf rfl hO rfl _ (by exact at0) ?_) | fail)
    all_goals
      go_ret
      exact ⟨zap (by first | (simp_all [itemB, misB, inI, isNumI, zas]; done) | (rw [Bool.eq_iff_iff]; simp_all [itemB, misB, inI, isNumI, zas] <;> omega)), hO.below⟩
  · by_cases k2 : k = 2
    · subst k2
      go_enter Tryz.func97, Tryz.ntmps97
      have hO := Own.nil w
      go_wp2_with (first | ((with_reducible refine (zam _ _ _ _).mono ?_); rintro e u ⟨rfl, hb⟩; (replace hO := hO.step hb; clear hb)) | ((with_reducible refine zad ?_); refine zbx rfl hO rfl rfl ?_; (refine nm 0 rfl ?_; clear hO; intro b0 u hO); simp only [zL, zK] at hO) | ((with_reducible refine zaa ?_); refine zlb rfl hO rfl _ (by exact at0) ?_) | fail)
      all_goals
        go_ret
        exact ⟨zap (by first | (simp_all [itemB, misB, inI, isNumI, zas]; done) | (rw [Bool.eq_iff_iff]; simp_all [itemB, misB, inI, isNumI, zas] <;> omega)), hO.below⟩
    · by_cases k3 : k = 3
      · subst k3
        go_enter Tryz.func97, Tryz.ntmps97
        have hO := Own.nil w
        go_wp2_with (first | ((with_reducible refine zad ?_); refine zbx rfl hO rfl rfl ?_; (refine nm 0 rfl ?_; clear hO; intro b0 u hO); simp only [zL, zK] at hO) | ((with_reducible refine zaa ?_); refine zlb rfl hO rfl _ (by exact at0) ?_) | ((with_reducible refine zaa ?_); refine zlf rfl hO rfl _ (by exact at0) ?_) | fail)
        all_goals
          go_ret
          exact ⟨zap (by first | (simp_all [itemB, misB, inI, isNumI, zas]; done) | (rw [Bool.eq_iff_iff]; simp_all [itemB, misB, inI, isNumI, zas] <;> omega)), hO.below⟩
      · go_enter Tryz.func97, Tryz.ntmps97
        have hO := Own.nil w
        go_wp2_with (first | ((with_reducible refine zad ?_); refine zbx rfl hO rfl rfl ?_; (refine nm 0 rfl ?_; clear hO; intro b0 u hO); simp only [zL, zK] at hO) | ((with_reducible refine zaa ?_); refine zlb rfl hO rfl _ (by exact at0) ?_) | fail)
        all_goals
          go_ret
          exact ⟨zap (by first | (simp_all [itemB, misB, inI, isNumI, zas]; done) | (rw [Bool.eq_iff_iff]; simp_all [itemB, misB, inI, isNumI, zas] <;> omega)), hO.below⟩

end

section

open Go.RowKit Go.ChangeShapes Go.WideShapes

set_option linter.unusedVariables false

set_option linter.unusedSimpArgs false

theorem find_take {l : List ByteArray} {k : Nat} (hk : k < l.length) {x : ByteArray} (hx : l[k] = x) : decide (findS l x < (k : Int)) = (l.take k).any fun y => y.toList == x.toList := by
  rw [Bool.eq_iff_iff, decide_eq_true_eq, List.any_eq_true]
  unfold findS
  cases hf : l.findIdx? (fun y => y.toList == x.toList) with
  | none =>
    rw [List.findIdx?_eq_none_iff] at hf
    have := hf _ (List.getElem_mem hk)
    simp [hx] at this
  | some j =>
    rw [List.findIdx?_eq_some_iff_getElem] at hf
    obtain ⟨hj, h1, h2⟩ := hf
    constructor
    · intro h
      have h : j < k := by simpa using h
      exact ⟨l[j], by rw [List.mem_take_iff_getElem]; exact ⟨j, by omega, rfl⟩, h1⟩
    · rintro ⟨y, hy, he⟩
      rw [List.mem_take_iff_getElem] at hy
      obtain ⟨i, hi, rfl⟩ := hy
      show (j : Int) < k
      by_cases h : j ≤ i
      · omega
      · have := h2 i (by omega)
        simp [he] at this

theorem spec_labels (most : Nat) (hm : most ≤ 100) (A : Option Addr) (c : Nat) (l : List ByteArray) (w : World) (h : Sl w 1 A l.length (stc l)) (hn : l.length ≤ 9223372036854775807) :
    Calls Tryz.prog 96 #[.slice A l.length c, .int .i64 (most : Int)] w fun e w' => e = .returned (.bool (labB most l)) ∧ w = w' := by
  go_enter Tryz.func96, Tryz.ntmps96
  go_wp2_with fail
  go_loop [5] (fun i => ∃ k : Nat, k ≤ l.length ∧ k ≤ most + 1 ∧ i = .int .i64 k ∧ Hid (goodN l k = true)) (fun i => l.length - (intOf i).toNat)
  case atStart => exact ⟨0, Nat.zero_le _, Nat.zero_le _, rfl, rfl⟩
  case round =>
    obtain ⟨k, hk, hkm, rfl, hall⟩ := hrel
    by_cases hlt : k < l.length
    · by_cases hlm : k ≤ most
      · obtain ⟨b, off, rfl, hb, hc⟩ := h.tx (Below.refl _ _) hlt rfl
        have HT := Lib.hid (goodN_succ l k)
        have HF := Lib.hid (fun he => goodN_false (l := l) hlt he)
        have HO := Lib.hid (okAt_eq hlt)
        have HI := Lib.hid (fun x => find_take (x := x) hlt)
        obtain ⟨x, hx⟩ : ∃ x, l[k] = x := ⟨_, rfl⟩
        have hi := HI.out x hx
        rw [hx] at hc HO
        clear hx HI
        have HL : Hid (goodN l l.length = false → labB most l = false) := Lib.hid (fun h => by unfold labB; rw [h]; simp)
        by_cases e1 : x.toList = []
        · have t1 : (!x.toList.isEmpty) = false := by simp [e1]
          have t2 : x.toList.isEmpty = true := by simp [e1]
          have HR := Lib.hid (HL.out (HF.out (by rw [HO.out, emptyB_iff.2 e1]; rfl)))
          clear hi
          go_wp2_with fail
          go_ret
          exact ⟨zap HR.out.symm, rfl⟩
        · have t1 : (!x.toList.isEmpty) = true := by simp [e1]
          have t2 : x.toList.isEmpty = false := by simp [e1]
          have HE : Hid (emptyB x = false) := Lib.hid (by unfold emptyB; exact t2)
          by_cases e2 : 60 < x.size
          · have HR := Lib.hid (HL.out (HF.out (by rw [HO.out, decide_eq_false (show ¬ x.size ≤ 60 by omega)]; simp)))
            clear hi
            go_wp2_with fail
            go_ret
            exact ⟨zap HR.out.symm, rfl⟩
          · have HD := Lib.hid (decide_eq_true (show x.size ≤ 60 by omega))
            rw [← hi] at HO
            clear hi
            obtain ⟨f, hf⟩ : ∃ f, findS l x = f := ⟨_, rfl⟩
            have HC := fun u hu => spec_find (some ⟨b, off, none⟩) l.length c l x u hu hn
            rw [hf] at HO HC
            clear hf
            by_cases hfk : f < (k : Int)
            · have HR := Lib.hid (HL.out (HF.out (by rw [HO.out, decide_eq_true hfk]; simp)))
              go_wp2_with fail
              refine (HC _ h).mono ?_
              rintro e w' ⟨rfl, rfl⟩
              go_wp2_with fail
              go_ret
              exact ⟨zap HR.out.symm, rfl⟩
            · have HG : Hid (goodN l (k + 1) = true) := Lib.hid (by rw [HT.out, hall.out, HO.out, HE.out, HD.out, decide_eq_false hfk]; rfl)
              have hfk' : (k : Int) ≤ f := by omega
              clear hfk
              go_wp2_with fail
              refine (HC _ h).mono ?_
              rintro e w' ⟨rfl, rfl⟩
              go_wp2_with fail
              go_round
              case rel => exact ⟨k + 1, by omega, by omega, by go_num, HG⟩
              case measure => simp [intOf]; omega
      · have HL : Hid (labB most l = false) := Lib.hid (by unfold labB; rw [decide_eq_false (by omega)]; rfl)
        have hd1 : decide (k ≤ most) = false := decide_eq_false hlm
        have hd2 : decide (l.length ≤ most) = false := decide_eq_false (by omega)
        clear hlm
        go_wp2_with fail
        go_ret
        exact ⟨zap HL.out.symm, rfl⟩
    · have hkn : k = l.length := by omega
      subst hkn
      have HL : Hid (labB most l = decide (l.length ≤ most)) := Lib.hid (by unfold labB; rw [hall.out, Bool.and_true])
      go_wp2_with fail
      go_ret
      exact ⟨zap (by rw [HL.out]), rfl⟩

theorem shortB_take {l : List ByteArray} {k : Nat} (h : k < l.length) : zbk (l.take (k + 1)) = (zbk (l.take k) && decide (l[k].size ≤ 60)) := by rw [za6 h]; unfold zbk; rw [List.all_append]; simp

theorem shortB_false {l : List ByteArray} {k : Nat} (h : k < l.length) (he : 60 < l[k].size) : zbk l = false := by
  unfold zbk
  rw [List.all_eq_false]
  exact ⟨_, List.getElem_mem h, by simp; omega⟩

/-- the reference's test of names -/
def namedB (l : List ByteArray) : Bool := zbk l && (decide (l.length = 0) || !allE l)

theorem spec_named (A : Option Addr) (c : Nat) (l : List ByteArray) (w : World) (h : Sl w 1 A l.length (stc l)) (hn : l.length ≤ 9223372036854775807) :
    Calls Tryz.prog 95 #[.slice A l.length c] w fun e w' => e = .returned (.bool (namedB l)) ∧ w = w' := by
  by_cases h0 : l.length = 0
  · have hl : l = [] := List.length_eq_zero_iff.1 h0
    subst hl
    clear h0
    go_enter Tryz.func95, Tryz.ntmps95
    go_wp2_with fail
    go_loop [3, 4] (fun s i => s = .bool true ∧ i = .int .i64 0) (fun s i => 0)
    case atStart => exact ⟨rfl, rfl⟩
    case round =>
      obtain ⟨rfl, rfl⟩ := hrel
      go_wp2_with fail
      go_ret
      exact ⟨rfl, rfl⟩
  · have hz' : ((l.length : Int) == 0) = false := by rw [beq_eq_false_iff_ne]; omega
    have HN : Hid (namedB l = (zbk l && !allE l)) := Lib.hid (by unfold namedB; rw [decide_eq_false h0, Bool.false_or])
    clear h0
    go_enter Tryz.func95, Tryz.ntmps95
    go_wp2_with fail
    go_loop [3, 4] (fun s i => ∃ (k : Nat) (b : Bool), k ≤ l.length ∧ i = .int .i64 k ∧ s = .bool b ∧ Hid (b = !allE (l.take k)) ∧ Hid (zbk (l.take k) = true)) (fun _ i => l.length - (intOf i).toNat)
    case atStart => exact ⟨0, false, Nat.zero_le _, rfl, rfl, rfl, rfl⟩
    case round =>
      obtain ⟨k, b, hk, rfl, rfl, hb, hsh⟩ := hrel
      by_cases hlt : k < l.length
      · obtain ⟨g, off, rfl, hg, hc⟩ := h.tx (Below.refl _ _) hlt rfl
        have HT := Lib.hid (allE_take hlt)
        have HS := Lib.hid (shortB_take hlt)
        have HF := Lib.hid (fun he => shortB_false (l := l) hlt he)
        obtain ⟨x, hx⟩ : ∃ x, l[k] = x := ⟨_, rfl⟩
        rw [hx] at hc HT HS HF
        clear hx
        by_cases e2 : 60 < x.size
        · have HR := Lib.hid (show namedB l = false by rw [HN.out, HF.out e2]; rfl)
          go_wp2_with fail
          go_ret
          exact ⟨zap HR.out.symm, rfl⟩
        · have HD := Lib.hid (decide_eq_true (show x.size ≤ 60 by omega))
          cases b with
          | true =>
            go_wp2_with fail
            go_round
            case rel => exact ⟨k + 1, true, by omega, by go_num, rfl, by show _ = _; rw [HT.out, Bool.not_and, ← hb.out]; rfl, by show _ = _; rw [HS.out, hsh.out, HD.out]; rfl⟩
            case measure => simp [intOf]; omega
          | false =>
            by_cases e1 : x.toList = []
            · have t1 : (!x.toList.isEmpty) = false := by simp [e1]
              have HE : Hid (emptyB x = true) := Lib.hid (emptyB_iff.2 e1)
              go_wp2_with fail
              go_round
              case rel => exact ⟨k + 1, false, by omega, by go_num, rfl, by show _ = _; rw [HT.out, Bool.not_and, ← hb.out, HE.out]; rfl, by show _ = _; rw [HS.out, hsh.out, HD.out]; rfl⟩
              case measure => simp [intOf]; omega
            · have t1 : (!x.toList.isEmpty) = true := by simp [e1]
              have HE : Hid (emptyB x = false) := Lib.hid (by unfold emptyB; simp [e1])
              go_wp2_with fail
              go_round
              case rel => exact ⟨k + 1, true, by omega, by go_num, rfl, by show _ = _; rw [HT.out, Bool.not_and, ← hb.out, HE.out]; rfl, by show _ = _; rw [HS.out, hsh.out, HD.out]; rfl⟩
              case measure => simp [intOf]; omega
      · have hkn : k = l.length := by omega
        subst hkn
        rw [List.take_length] at hb hsh
        go_wp2_with fail
        go_ret
        exact ⟨zap (by rw [HN.out, hsh.out, hb.out]; rfl), rfl⟩

end

end Go.Proofs.YtmofcbpabdbjlaaGreat
