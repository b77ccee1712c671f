/-
  What is proved: plain facts on fields with their lengths ahead, as SplitFields reads them; no program in sight.
  No condition.
-/
import Derived.Test.YtncmekbfmgcbnaaParse
namespace Go.Proofs.Ytncmekbfmgcbnaa
set_option linter.unusedVariables false
set_option linter.unusedSimpArgs false

/-- the place of the colon: at most f steps on from a -/
def scnF (t : ByteArray) : Nat → Nat → Nat
  | 0, a => a
  | f + 1, a => if h : a < t.size then (if t[a] = 58 then a else scnF t f (a + 1)) else a
def scn (t : ByteArray) : Nat := scnF t 10 0

theorem scnF_out {t : ByteArray} {f a : Nat} (h : ¬ a < t.size) : scnF t f a = a := by
  cases f with
  | zero => rfl
  | succ f => simp [scnF, h]
theorem scnF_hit {t : ByteArray} {f a : Nat} (h : a < t.size) (hc : t[a] = 58) : scnF t f a = a := by
  cases f with
  | zero => rfl
  | succ f => simp [scnF, h, hc]
theorem scnF_on {t : ByteArray} {f a : Nat} (h : a < t.size) (hc : ¬ t[a] = 58) : scnF t (f + 1) a = scnF t f (a + 1) := by simp [scnF, h, hc]

/-- the number ahead of the colon -/
def hdL (t : ByteArray) (a : Nat) : List UInt8 := (t.extract 0 a).data.toList
def stpOk (t : ByteArray) (a : Nat) : Bool := match t.data.toList[a]? with
  | some c => c == 58 && parseB (hdL t a) && decide (0 ≤ parseN (hdL t a)) && decide (parseN (hdL t a) ≤ ((t.extract (a + 1) t.size).size : Int))
  | none => false
/-- the first field and what is left -/
def stpX (t : ByteArray) (a : Nat) : ByteArray := (t.extract (a + 1) t.size).extract 0 (parseN (hdL t a)).toNat
def stpR (t : ByteArray) (a : Nat) : ByteArray := (t.extract (a + 1) t.size).extract (parseN (hdL t a)).toNat (t.extract (a + 1) t.size).size
def spl : Nat → ByteArray → Option (List ByteArray)
  | 0, _ => none
  | f + 1, t => if t.size = 0 then some [] else if stpOk t (scn t) then (spl f (stpR t (scn t))).map (stpX t (scn t) :: ·) else none
def splR (s : ByteArray) : Option (List ByteArray) := spl (s.size + 1) s

theorem stpOk_out {t : ByteArray} {a : Nat} (h : ¬ a < t.size) : stpOk t a = false := by
  have : t.data.toList[a]? = none := List.getElem?_eq_none (by simpa using h)
  simp [stpOk, this]
theorem stpOk_at {t : ByteArray} {a : Nat} (h : a < t.size) : stpOk t a = (t[a] == 58 && parseB (hdL t a) && decide (0 ≤ parseN (hdL t a)) && decide (parseN (hdL t a) ≤ ((t.extract (a + 1) t.size).size : Int))) := by
  have : t.data.toList[a]? = some t[a] := by rw [List.getElem?_eq_getElem (by simpa using h)]; rfl
  simp [stpOk, this]
theorem spl_end {f : Nat} {t : ByteArray} (h : t.size = 0) : spl (f + 1) t = some [] := by simp [spl, h]
theorem spl_bad {f : Nat} {t : ByteArray} {a : Nat} (h : ¬ t.size = 0) (ha : scn t = a) (hs : stpOk t a = false) : spl (f + 1) t = none := by subst ha; simp [spl, h, hs]
theorem spl_ok {f : Nat} {t : ByteArray} {a : Nat} (h : ¬ t.size = 0) (ha : scn t = a) (hs : stpOk t a = true) : spl (f + 1) t = (spl f (stpR t a)).map (stpX t a :: ·) := by subst ha; simp [spl, h, hs]

theorem map_app {acc : List ByteArray} {x : ByteArray} (o : Option (List ByteArray)) : (o.map (x :: ·)).map (acc ++ ·) = o.map ((acc ++ [x]) ++ ·) := by
  cases o <;> simp

end Go.Proofs.Ytncmekbfmgcbnaa
