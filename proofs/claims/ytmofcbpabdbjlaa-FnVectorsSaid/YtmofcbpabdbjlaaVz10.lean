/-
  What is proved: what the reference's readers of words, of lists of words and of integers return; plain facts on vectors as trees: when one is valid, how deep and how large it is; the program's and the reference's tests agree. No program in sight.
  Condition: codes of at most 1048576 bytes.
-/
import Derived.Test.YtmofcbpabdbjlaaVz4
import Derived.Test.YtmofcbpabdbjlaaVz7
import Derived.Test.YtmofcbpabdbjlaaVz9
namespace Go.Proofs.Ytmofcbpabdbjlaa

set_option maxRecDepth 8000

open Go.RowKit Go.ChangeShapes Go.WideShapes Go.Deep

set_option linter.unusedVariables false

set_option linter.unusedSimpArgs false

def wordsL : List ByteArray := [⟨#[97]⟩, ⟨#[98]⟩, ⟨#[120]⟩, ⟨#[121]⟩, ⟨#[97, 108, 112, 104, 97]⟩, ⟨#[97, 108]⟩, ⟨#[]⟩, ⟨#[110, 32, 49]⟩, ⟨#[34]⟩, ⟨#[92]⟩, ⟨#[10]⟩, ⟨#[128]⟩, ⟨#[102, 60, 45]⟩, ⟨#[105, 102]⟩, ⟨#[46, 46, 46]⟩, ⟨#[46, 49]⟩, ⟨#[95, 97]⟩, ⟨#[97, 46, 98]⟩, ⟨#[97, 114, 101, 97, 46, 115, 113, 117, 97, 114, 101]⟩, ⟨#[116, 119, 101, 110, 116, 121, 46, 98, 121, 116, 101, 115, 46, 105, 110, 46, 104, 101, 114, 101]⟩, ⟨#[116, 119, 101, 110, 116, 121, 49, 46, 98, 121, 116, 101, 115, 46, 105, 110, 46, 104, 101, 114, 101]⟩]

theorem words_bd : ∀ y ∈ wordsL, y.size ≤ 24 := by decide

set_option maxRecDepth 20000 in
set_option maxHeartbeats 1000000 in
theorem draw_word {w0 w : World} {A : Option Addr} {n c b : Nat} {l : List Int} {L : List Res} (h : Cod w0 A n l) (hR : Rd w0 b A n c L w) :
    Calls Try.prog 192 #[.pointer (some ⟨b, 0, none⟩)] w fun e w' => ∃ y : ByteArray, e = .returned (.string y) ∧ y.size ≤ 24 ∧ Rd w0 b A n c L w' := by
  obtain ⟨i, z, hi, hO⟩ := hR
  skip
  go_enter Try.func192, Try.ntmps192
  go_wp2_with (first | ((with_reducible refine zag ?_); refine zae (cs := [.string ⟨#[97]⟩, .string ⟨#[98]⟩, .string ⟨#[120]⟩, .string ⟨#[121]⟩, .string ⟨#[97, 108, 112, 104, 97]⟩, .string ⟨#[97, 108]⟩, .string ⟨#[]⟩, .string ⟨#[110, 32, 49]⟩, .string ⟨#[34]⟩, .string ⟨#[92]⟩, .string ⟨#[10]⟩, .string ⟨#[128]⟩, .string ⟨#[102, 60, 45]⟩, .string ⟨#[105, 102]⟩, .string ⟨#[46, 46, 46]⟩, .string ⟨#[46, 49]⟩, .string ⟨#[95, 97]⟩, .string ⟨#[97, 46, 98]⟩, .string ⟨#[97, 114, 101, 97, 46, 115, 113, 117, 97, 114, 101]⟩, .string ⟨#[116, 119, 101, 110, 116, 121, 46, 98, 121, 116, 101, 115, 46, 105, 110, 46, 104, 101, 114, 101]⟩, .string ⟨#[116, 119, 101, 110, 116, 121, 49, 46, 98, 121, 116, 101, 115, 46, 105, 110, 46, 104, 101, 114, 101]⟩]) hO rfl (by rfl) [.string ⟨#[97]⟩, .string ⟨#[98]⟩, .string ⟨#[120]⟩, .string ⟨#[121]⟩, .string ⟨#[97, 108, 112, 104, 97]⟩, .string ⟨#[97, 108]⟩, .string ⟨#[]⟩, .string ⟨#[110, 32, 49]⟩, .string ⟨#[34]⟩, .string ⟨#[92]⟩, .string ⟨#[10]⟩, .string ⟨#[128]⟩, .string ⟨#[102, 60, 45]⟩, .string ⟨#[105, 102]⟩, .string ⟨#[46, 46, 46]⟩, .string ⟨#[46, 49]⟩, .string ⟨#[95, 97]⟩, .string ⟨#[97, 46, 98]⟩, .string ⟨#[97, 114, 101, 97, 46, 115, 113, 117, 97, 114, 101]⟩, .string ⟨#[116, 119, 101, 110, 116, 121, 46, 98, 121, 116, 101, 115, 46, 105, 110, 46, 104, 101, 114, 101]⟩, .string ⟨#[116, 119, 101, 110, 116, 121, 49, 46, 98, 121, 116, 101, 115, 46, 105, 110, 46, 104, 101, 114, 101]⟩] (by rfl) (by rfl) rfl (zM rfl) (by rfl) rfl (fun b => by simp only [Act.put, zA, zB, zC]; rfl) ?_; clear hO; intro bb u hO; simp only [zL, zK] at hO) | fail)
  refine (draw_pick wordsL 21 rfl (by decide) (by decide) L.length (last_at L _) h ⟨i, z, hi, hO⟩).mono ?_
  rintro e u ⟨y, hy, rfl, hR⟩
  have hs := words_bd y hy
  clear hy hO
  go_wp2_with fail
  go_ret
  exact ⟨y, rfl, hs, hR.drop⟩

end Go.Proofs.Ytmofcbpabdbjlaa

namespace Go.Proofs.Ytmofcbpabdbjlaa

set_option maxRecDepth 8000

set_option linter.unusedVariables false

set_option linter.unusedSimpArgs false

structure It where
  num : Int
  den : Int
  text : ByteArray

inductive VT where
  | mk (kind : Int) (items : List It) (parts : List VT) (names cls levels : List ByteArray) (code env : Int)

theorem VT.ind {P : VT → Prop} (h : ∀ k is ps ns cs ls c e, (∀ p ∈ ps, P p) → P (.mk k is ps ns cs ls c e)) : ∀ t, P t := fun t =>
  VT.rec (motive_1 := P) (motive_2 := fun l => ∀ p ∈ l, P p) (fun k is ps ns cs ls c e ih => h k is ps ns cs ls c e ih) (by simp) (fun p ps h1 h2 q hq => by
    rcases List.mem_cons.1 hq with rfl | hq
    · exact h1
    · exact h2 q hq) t

namespace VT

def kind : VT → Int | mk k _ _ _ _ _ _ _ => k

def items : VT → List It | mk _ x _ _ _ _ _ _ => x

def parts : VT → List VT | mk _ _ x _ _ _ _ _ => x

def names : VT → List ByteArray | mk _ _ _ x _ _ _ _ => x

def cls : VT → List ByteArray | mk _ _ _ _ x _ _ _ => x

def levels : VT → List ByteArray | mk _ _ _ _ _ x _ _ => x

def code : VT → Int | mk _ _ _ _ _ _ x _ => x

def env : VT → Int | mk _ _ _ _ _ _ _ x => x

end VT

def misB (x : It) : Bool := decide (x.num = 0) && decide (x.den = 0) && x.text.toList.isEmpty

def isNumI (x : It) : Bool := x.text.toList.isEmpty && Nm.isNum x.num x.den

def itemB (k : Int) (x : It) : Bool := misB x ||
  (if k = 1 then x.text.toList.isEmpty && decide (x.den = 1) && (decide (x.num = 0) || decide (x.num = 1))
   else if k = 2 then isNumI x
   else if k = 3 then decide (x.num = 0) && decide (x.den = 1) && decide (x.text.size ≤ 60) else false)

def za0 (s : ByteArray) : Bool := s.toList.isEmpty

def okAt (l : List ByteArray) (k : Nat) : Bool := !za0 (l.getD k ⟨#[]⟩) && decide ((l.getD k ⟨#[]⟩).size ≤ 60) && !((l.take k).any fun x => x.toList == (l.getD k ⟨#[]⟩).toList)

def goodN (l : List ByteArray) (k : Nat) : Bool := (List.range k).all (okAt l)

def labB (most : Nat) (l : List ByteArray) : Bool := decide (l.length ≤ most) && goodN l l.length

def allE (l : List ByteArray) : Bool := l.all za0

def za1 (l : List ByteArray) : Bool := l.all fun s => decide (s.size ≤ 60)

def lenV : VT → Nat
  | .mk k is ps _ _ _ _ _ => if k = 5 then 1 else is.length + ps.length

def levB (ls : List ByteArray) (x : It) : Bool := decide (ls.length = 0) || misB x || (decide (x.den = 1) && decide (1 ≤ x.num) && decide (x.num ≤ ls.length))

def itB (k : Int) (ls : List ByteArray) (x : It) : Bool := decide (1 ≤ k ∧ k ≤ 3) && itemB k x && levB ls x

def headB (n : Nat) (k : Int) (is : List It) (ps : List VT) (ns cs ls : List ByteArray) (c e : Int) : Bool :=
  decide (0 ≤ k ∧ k ≤ 5) && decide (n ≤ 40) && labB 3 cs && labB 20 ls &&
  (decide (ns.length = 0) || (decide (ns.length = n) && !allE ns)) && za1 ns &&
  (decide (ls.length = 0) || decide (k = 2)) && (decide (ps.length = 0) || decide (k = 4)) &&
  (decide (k = 5) || (decide (c = 0) && decide (e = 0))) &&
  (!decide (k = 5) || (decide (is.length = 0) && decide (ns.length = 0) && decide (-999 ≤ c ∧ c ≤ 99999) && decide (0 ≤ e ∧ e ≤ 99999))) &&
  (!decide (k = 0) || (decide (is.length = 0) && decide (cs.length = 0)))

def nodeB : VT → Bool
  | .mk k is ps ns cs ls c e => headB (lenV (.mk k is ps ns cs ls c e)) k is ps ns cs ls c e && is.all (itB k ls)

mutual
def cellsV : VT → Nat
  | .mk k is ps ns cs ls c e => lenV (.mk k is ps ns cs ls c e) + cellsL ps
def cellsL : List VT → Nat
  | [] => 0
  | p :: ps => cellsV p + cellsL ps
end

mutual
def nestV : VT → Nat → Nat
  | .mk _ _ ps _ _ _ _ _, r => if r = 0 then 1 else nestL ps (r - 1)
def nestL : List VT → Nat → Nat
  | [], _ => 0
  | p :: ps, r => max (1 + nestV p r) (nestL ps r)
end

mutual
def pvB : VT → Bool
  | .mk k is ps ns cs ls c e => nodeB (.mk k is ps ns cs ls c e) && pvL ps
def pvL : List VT → Bool
  | [] => true
  | p :: ps => pvB p && pvL ps
end

mutual
def lB : Nat → VT → Bool
  | n, .mk k is ps ns cs ls c e => nodeB (.mk k is ps ns cs ls c e) && lL n ps
def lL : Nat → List VT → Bool
  | _, [] => true
  | n, p :: ps => decide (n ≠ 0) && lB (n - 1) p && lL n ps
end

theorem cellsL_app (a b : List VT) : cellsL (a ++ b) = cellsL a + cellsL b := by
  induction a with
  | nil => simp [cellsL]
  | cons x a ih => simp [cellsL, ih, Nat.add_assoc]

theorem nestL_app (a b : List VT) (r : Nat) : nestL (a ++ b) r = max (nestL a r) (nestL b r) := by
  induction a with
  | nil => simp [nestL]
  | cons x a ih => simp [nestL, ih, Nat.max_assoc]

theorem pvL_app (a b : List VT) : pvL (a ++ b) = (pvL a && pvL b) := by
  induction a with
  | nil => simp [pvL]
  | cons x a ih => simp [pvL, ih, Bool.and_assoc]

theorem lL_app (n : Nat) (a b : List VT) : lL n (a ++ b) = (lL n a && lL n b) := by
  induction a with
  | nil => simp [lL]
  | cons x a ih => simp [lL, ih, Bool.and_assoc]

theorem zat {α : Type} {l : List α} {k : Nat} (h : k < l.length) : l.take (k + 1) = l.take k ++ [l[k]] := List.take_succ_eq_append_getElem h

theorem cellsL_succ {l : List VT} {k : Nat} (h : k < l.length) : cellsL (l.take (k + 1)) = cellsL (l.take k) + cellsV l[k] := by rw [zat h, cellsL_app]; simp [cellsL]

theorem nestL_succ {l : List VT} {k : Nat} (h : k < l.length) (r : Nat) : nestL (l.take (k + 1)) r = max (nestL (l.take k) r) (1 + nestV l[k] r) := by rw [zat h, nestL_app]; simp [nestL]

theorem pvL_succ {l : List VT} {k : Nat} (h : k < l.length) : pvL (l.take (k + 1)) = (pvL (l.take k) && pvB l[k]) := by rw [zat h, pvL_app]; simp [pvL]

theorem lL_succ {l : List VT} {k : Nat} (n : Nat) (h : k < l.length) : lL n (l.take (k + 1)) = (lL n (l.take k) && (decide (n ≠ 0) && lB (n - 1) l[k])) := by rw [zat h, lL_app]; simp [lL]

theorem pvL_false {l : List VT} {k : Nat} (h : k < l.length) (hp : pvB l[k] = false) : pvL l = false := by
  rw [← List.take_append_drop (k + 1) l, pvL_app, pvL_succ h, hp]; simp

theorem lL_false {l : List VT} {k n : Nat} (h : k < l.length) (hp : n = 0 ∨ lB (n - 1) l[k] = false) : lL n l = false := by
  rw [← List.take_append_drop (k + 1) l, lL_app, lL_succ n h]
  rcases hp with hp | hp <;> simp [hp]

/-- the program's tests: nesting, parts, cells -/
def isVI (t : VT) : Bool := decide (nestV t 4 ≤ 3) && pvB t && decide (cellsV t ≤ 200)

/-- a valid vector (as the reference tests it) -/
def isV (t : VT) : Bool := lB 3 t && decide (cellsV t ≤ 200)

theorem nest_lL (ps : List VT) (hp : ∀ p ∈ ps, ∀ n, (decide (nestV p (n + 1) ≤ n) && pvB p) = lB n p) : ∀ n, (decide (nestL ps n ≤ n) && pvL ps) = lL n ps := by
  induction ps with
  | nil => intro n; simp [nestL, pvL, lL]
  | cons p ps ih =>
    intro n
    have ih' := ih (fun q hq => hp q (List.mem_cons_of_mem _ hq)) n
    have h1 := hp p (List.mem_cons_self)
    have e : decide (nestL (p :: ps) n ≤ n) = (decide (1 + nestV p n ≤ n) && decide (nestL ps n ≤ n)) := by
      rw [← Bool.decide_and]; exact decide_eq_decide.2 (by simp only [nestL]; exact Nat.max_le)
    rw [e]
    simp only [pvL, lL]
    rw [← ih']
    cases n with
    | zero => simp
    | succ n =>
      have h2 := h1 n
      have e2 : decide (1 + nestV p (n + 1) ≤ n + 1) = decide (nestV p (n + 1) ≤ n) := decide_eq_decide.2 (by omega)
      rw [e2, show n + 1 - 1 = n from rfl, ← h2]
      cases decide (nestV p (n + 1) ≤ n) <;> cases decide (nestL ps (n + 1) ≤ n + 1) <;> cases pvB p <;> simp

theorem nest_lB (t : VT) : ∀ n, (decide (nestV t (n + 1) ≤ n) && pvB t) = lB n t := by
  induction t using VT.ind with
  | _ k is ps ns cs ls c e ih =>
    intro n
    have := nest_lL ps ih n
    simp only [nestV, pvB, lB, Nat.add_one_ne_zero, if_false, Nat.add_sub_cancel]
    rw [← this]
    cases decide (nestL ps n ≤ n) <;> cases nodeB (.mk k is ps ns cs ls c e) <;> simp

theorem isVI_eq (t : VT) : isVI t = isV t := by unfold isVI isV; rw [← nest_lB t 3]

end Go.Proofs.Ytmofcbpabdbjlaa
