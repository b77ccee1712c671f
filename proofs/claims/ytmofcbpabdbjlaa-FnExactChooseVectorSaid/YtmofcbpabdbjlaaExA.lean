/-
  What is proved: the numbers of a vector, and their extreme, in plain Lean.
  Condition: none beyond those of the theorems.
-/
import Derived.Test.YtmofcbpabdbjlaaNw
import Derived.Test.YtmofcbpabdbjlaaCmpN
namespace Go.Proofs.Ytmofcbpabdbjlaa
set_option maxRecDepth 8000
open Go.RowKit Go.ChangeShapes Go.WideShapes Go.Deep
set_option linter.unusedVariables false
set_option linter.unusedSimpArgs false

def nonNumS : ByteArray := ⟨#[110, 111, 110, 45, 110, 117, 109, 101, 114, 105, 99, 32, 97, 114, 103, 117, 109, 101, 110, 116]⟩
def noElS : ByteArray := ⟨#[110, 111, 32, 101, 108, 101, 109, 101, 110, 116, 115]⟩
def keepB (d : Bool) (x : It) : Bool := !d || !misB x
def numL (t : VT) (d : Bool) : List It := if isV t then (if cntK t.kind t.levels.length then t.items.filter (keepB d) else []) else []
def numS (t : VT) : ByteArray := if isV t then (if cntK t.kind t.levels.length then ⟨#[]⟩ else nonNumS) else badS

def zItm : It := ⟨0, 0, ⟨#[]⟩⟩
theorem mis_zero {x : It} (h : misB x = true) : x = zItm := by
  obtain ⟨n, d, t⟩ := x
  unfold misB at h
  simp only [Bool.and_eq_true, decide_eq_true_eq, List.isEmpty_iff] at h
  obtain ⟨⟨rfl, rfl⟩, h⟩ := h
  have h2 : t.data = #[] := by
    have : t.data.toList = [] := by rw [← ByteArray.toList_eq]; exact h
    simpa using this
  cases t
  simp only at h2
  subst h2
  rfl
def cmpT (x y : It) : Int := cmpI x.num x.den x.text y.num y.den y.text
def stp (lg : Bool) (b x : It) : It := if (lg && decide (cmpT x b = 1)) || (!lg && decide (cmpT x b = -1)) then x else b
def foldX (lg : Bool) (l : List It) : It := l.foldl (stp lg) (l.headD zItm)
def exI (lg : Bool) (l : List It) : It := if l.any misB then zItm else foldX lg l
def exT (t : VT) (d lg : Bool) : VT := if isV t && cntK t.kind t.levels.length && !(numL t d).isEmpty then vecI 2 [exI lg (numL t d)] else vecI 0 []
def exS (t : VT) (d : Bool) : ByteArray := if isV t && cntK t.kind t.levels.length then (if (numL t d).isEmpty then noElS else ⟨#[]⟩) else numS t

/-- an item that is known counts as a number -/
theorem it_isnum {k : Int} {ls : List ByteArray} {x : It} (h : itB k ls x = true) (hk : k ≤ 2) (hm : misB x = false) : isNumT x.num x.den x.text = true := by
  unfold itB at h
  simp only [Bool.and_eq_true, decide_eq_true_eq] at h
  have h2 := h.1.2
  have h1 := h.1.1
  unfold itemB at h2
  rw [hm, Bool.false_or] at h2
  by_cases k1 : k = 1
  · rw [if_pos k1] at h2
    simp only [Bool.and_eq_true, Bool.or_eq_true, decide_eq_true_eq] at h2
    unfold isNumT Nm.isNum
    rw [h2.1.1, Bool.true_and, decide_eq_true_eq, h2.1.2]
    refine ⟨by omega, by omega, by omega, by omega, ?_⟩
    exact Int.gcd_one_right ..
  · have k2 : k = 2 := by omega
    rw [if_neg k1, if_pos k2] at h2
    unfold isNumI at h2
    unfold isNumT
    exact h2
theorem mis_notnum {x : It} (h : misB x = true) : isNumT x.num x.den x.text = false := by
  rw [mis_zero h]
  simp [zItm, isNumT, Nm.isNum]
theorem cmpT_two {x y : It} (h : misB x = true ∨ misB y = true) : cmpT x y = 2 := by
  unfold cmpT cmpI
  rcases h with h | h
  · rw [mis_notnum h]; rfl
  · rw [mis_notnum h, Bool.and_false]; rfl
theorem cmpT_ne {x y : It} (h : isNumT x.num x.den x.text = true) (h' : isNumT y.num y.den y.text = true) : cmpT x y ≠ 2 := by
  unfold cmpT cmpI
  rw [h, h', Bool.and_self, if_pos rfl]
  repeat' split
  all_goals omega
theorem cmpT_self (x : It) : cmpT x x = 0 ∨ cmpT x x = 2 := by
  unfold cmpT cmpI
  split
  · left
    rw [if_neg (by omega), if_neg (by omega)]
  · right; rfl
theorem stp_self (lg : Bool) (x : It) : stp lg x x = x := by
  unfold stp
  split <;> rfl
theorem stp_mem (lg : Bool) (b x : It) : stp lg b x = b ∨ stp lg b x = x := by
  unfold stp
  split
  · exact .inr rfl
  · exact .inl rfl
theorem fold_mem (lg : Bool) : ∀ (l : List It) (b : It), l.foldl (stp lg) b = b ∨ l.foldl (stp lg) b ∈ l := by
  intro l
  induction l with
  | nil => intro b; exact .inl rfl
  | cons x l ih =>
    intro b
    rw [List.foldl_cons]
    rcases ih (stp lg b x) with h | h
    · rw [h]
      rcases stp_mem lg b x with h | h
      · exact .inl h
      · rw [h]; exact .inr (List.mem_cons_self)
    · exact .inr (List.mem_cons_of_mem _ h)
theorem foldX_mem (lg : Bool) {l : List It} (h : l ≠ []) : foldX lg l ∈ l := by
  cases l with
  | nil => exact absurd rfl h
  | cons x l =>
    unfold foldX
    rcases fold_mem lg (x :: l) x with h | h
    · rw [show (x :: l).headD zItm = x from rfl, h]; exact List.mem_cons_self
    · exact h
theorem foldX_one (lg : Bool) {l : List It} (h : 0 < l.length) : foldX lg (l.take 1) = l[0] := by
  cases l with
  | nil => simp at h
  | cons x l => exact stp_self lg x
theorem foldX_succ (lg : Bool) {l : List It} {m : Nat} (h0 : 0 < m) (h : m < l.length) : foldX lg (l.take (m + 1)) = stp lg (foldX lg (l.take m)) l[m] := by
  have e : (l.take (m + 1)).headD zItm = (l.take m).headD zItm := by
    cases l with
    | nil => simp at h
    | cons x l =>
      cases m with
      | zero => omega
      | succ m => rfl
  unfold foldX
  rw [e, take_snoc' h, List.foldl_append]
  rfl
/-- the reference's best so far -/
def bestX (lg : Bool) (l : List It) : It := if l.any misB then zItm else foldX lg l
theorem any_take {l : List It} {m : Nat} (h : m < l.length) : (l.take (m + 1)).any misB = ((l.take m).any misB || misB l[m]) := by
  rw [take_snoc' h, List.any_append]
  simp
theorem any_mem {l : List It} {m : Nat} (h : m < l.length) (hm : misB l[m] = true) : l.any misB = true := List.any_eq_true.2 ⟨_, List.getElem_mem h, hm⟩
theorem any_takeT {l : List It} {m : Nat} (h : (l.take m).any misB = true) : l.any misB = true := by
  obtain ⟨x, hx, h2⟩ := List.any_eq_true.1 h
  exact List.any_eq_true.2 ⟨x, List.mem_of_mem_take hx, h2⟩

theorem filter_take {α : Type} (p : α → Bool) {l : List α} {m : Nat} (h : m < l.length) : (l.take (m + 1)).filter p = (l.take m).filter p ++ (if p l[m] then [l[m]] else []) := by
  rw [take_snoc' h, List.filter_append]
  congr 1
  by_cases hp : p l[m] = true
  · rw [if_pos hp, List.filter_cons_of_pos hp]; rfl
  · rw [if_neg hp, List.filter_cons_of_neg hp]; rfl

/-- the best of the first m, begun with the first -/
def fo (lg : Bool) (l : List It) (m : Nat) : It := (l.take m).foldl (stp lg) (l.headD zItm)
theorem fo_all (lg : Bool) (l : List It) : fo lg l l.length = foldX lg l := by
  unfold fo foldX
  rw [List.take_length]
theorem fo_zero (lg : Bool) {l : List It} (h : 0 < l.length) : fo lg l 0 = l[0] := by
  cases l with
  | nil => simp at h
  | cons x l => rfl
theorem fo_succ (lg : Bool) {l : List It} {m : Nat} (h : m < l.length) : fo lg l (m + 1) = stp lg (fo lg l m) l[m] := by
  unfold fo
  rw [take_snoc' h, List.foldl_append]
  rfl
theorem fo_one (lg : Bool) {l : List It} (h : 0 < l.length) : fo lg l 1 = l[0] := by
  rw [fo_succ lg h, fo_zero lg h, stp_self]
theorem fo_mem (lg : Bool) {l : List It} {m : Nat} (h0 : 0 < l.length) : fo lg l m = l[0] ∨ fo lg l m ∈ l.take m := by
  unfold fo
  have e : l.headD zItm = l[0] := by
    cases l with
    | nil => simp at h0
    | cons x l => rfl
  rw [e]
  exact fold_mem lg _ _

/-- hands back a slice of items and a string -/
def RetIS (l : List It) (s : ByteArray) (w : World) (e : Ending) (w' : World) : Prop := ∃ A c, e = .returned (.tuple #[.slice A l.length c, .string s]) ∧ Own w [row 83 3 (.slice A l.length c) l.length (itc l)] w'

end Go.Proofs.Ytmofcbpabdbjlaa
