/-
  What is proved: what the reference's readers of words, of lists of words and of integers return; plain facts on vectors as trees: when one is valid, how deep and how large it is; the program's and the reference's tests agree. No program in sight; how a vector (a struct with slices of items, parts and texts) lies in memory: as it is read, and as a call's own. things of a call's own packed into one thing, chosen and put in another order; a walk stops where a function returns.
  Condition: codes of at most 1048576 bytes.
-/
import Derived.Test.YtmofcbpabdbjlaaRq1
import Derived.Test.YtmofcbpabdbjlaaRq3
import Derived.Test.YtmofcbpabdbjlaaRq5
import Derived.Test.YtmofcbpabdbjlaaRq6
namespace Go.Proofs.Ytmofcbpabdbjlaa

set_option maxRecDepth 8000

open Go.RowKit Go.ChangeShapes Go.WideShapes Go.Deep

set_option linter.unusedVariables false

set_option linter.unusedSimpArgs false

def wordsL : List ByteArray := [⟨#[97]⟩, ⟨#[98]⟩, ⟨#[120]⟩, ⟨#[121]⟩, ⟨#[97, 108, 112, 104, 97]⟩, ⟨#[97, 108]⟩, ⟨#[]⟩, ⟨#[110, 32, 49]⟩, ⟨#[34]⟩, ⟨#[92]⟩, ⟨#[10]⟩, ⟨#[128]⟩, ⟨#[102, 60, 45]⟩, ⟨#[105, 102]⟩, ⟨#[46, 46, 46]⟩, ⟨#[46, 49]⟩, ⟨#[95, 97]⟩, ⟨#[97, 46, 98]⟩, ⟨#[97, 114, 101, 97, 46, 115, 113, 117, 97, 114, 101]⟩, ⟨#[116, 119, 101, 110, 116, 121, 46, 98, 121, 116, 101, 115, 46, 105, 110, 46, 104, 101, 114, 101]⟩, ⟨#[116, 119, 101, 110, 116, 121, 49, 46, 98, 121, 116, 101, 115, 46, 105, 110, 46, 104, 101, 114, 101]⟩]

theorem words_bd : ∀ y ∈ wordsL, y.size ≤ 24 := by decide

set_option maxRecDepth 20000 in
set_option maxHeartbeats 1000000 in
theorem draw_word {w0 w : World} {A : Option Addr} {n c b : Nat} {l : List Int} {L : List Res} (h : Cod w0 A n l) (hR : Rd w0 b A n c L w) :
    Calls Try.prog 192 #[.pointer (some ⟨b, 0, none⟩)] w fun e w' => ∃ y : ByteArray, e = .returned (.string y) ∧ y.size ≤ 24 ∧ Rd w0 b A n c L w' := by
  obtain ⟨i, z, hi, hO⟩ := hR
  skip
  go_enter Try.func192, Try.ntmps192
  go_wp2_with (first | ((with_reducible refine zah ?_); refine zad (cs := [.string ⟨#[97]⟩, .string ⟨#[98]⟩, .string ⟨#[120]⟩, .string ⟨#[121]⟩, .string ⟨#[97, 108, 112, 104, 97]⟩, .string ⟨#[97, 108]⟩, .string ⟨#[]⟩, .string ⟨#[110, 32, 49]⟩, .string ⟨#[34]⟩, .string ⟨#[92]⟩, .string ⟨#[10]⟩, .string ⟨#[128]⟩, .string ⟨#[102, 60, 45]⟩, .string ⟨#[105, 102]⟩, .string ⟨#[46, 46, 46]⟩, .string ⟨#[46, 49]⟩, .string ⟨#[95, 97]⟩, .string ⟨#[97, 46, 98]⟩, .string ⟨#[97, 114, 101, 97, 46, 115, 113, 117, 97, 114, 101]⟩, .string ⟨#[116, 119, 101, 110, 116, 121, 46, 98, 121, 116, 101, 115, 46, 105, 110, 46, 104, 101, 114, 101]⟩, .string ⟨#[116, 119, 101, 110, 116, 121, 49, 46, 98, 121, 116, 101, 115, 46, 105, 110, 46, 104, 101, 114, 101]⟩]) hO rfl (by rfl) [.string ⟨#[97]⟩, .string ⟨#[98]⟩, .string ⟨#[120]⟩, .string ⟨#[121]⟩, .string ⟨#[97, 108, 112, 104, 97]⟩, .string ⟨#[97, 108]⟩, .string ⟨#[]⟩, .string ⟨#[110, 32, 49]⟩, .string ⟨#[34]⟩, .string ⟨#[92]⟩, .string ⟨#[10]⟩, .string ⟨#[128]⟩, .string ⟨#[102, 60, 45]⟩, .string ⟨#[105, 102]⟩, .string ⟨#[46, 46, 46]⟩, .string ⟨#[46, 49]⟩, .string ⟨#[95, 97]⟩, .string ⟨#[97, 46, 98]⟩, .string ⟨#[97, 114, 101, 97, 46, 115, 113, 117, 97, 114, 101]⟩, .string ⟨#[116, 119, 101, 110, 116, 121, 46, 98, 121, 116, 101, 115, 46, 105, 110, 46, 104, 101, 114, 101]⟩, .string ⟨#[116, 119, 101, 110, 116, 121, 49, 46, 98, 121, 116, 101, 115, 46, 105, 110, 46, 104, 101, 114, 101]⟩] (by rfl) (by rfl) rfl (zM rfl) (by rfl) rfl (fun b => by simp only [Act.put, zA, zB, zC]; rfl) ?_; clear hO; intro bb u hO; simp only [zL, zK] at hO) | fail)
  refine (draw_pick wordsL 21 rfl (by decide) (by decide) L.length (last_at L _) h ⟨i, z, hi, hO⟩).mono ?_
  rintro e u ⟨y, hy, rfl, hR⟩
  have hs := words_bd y hy
  clear hy hO
  go_wp2_with fail
  go_ret
  exact ⟨y, rfl, hs, hR.drop⟩

end Go.Proofs.Ytmofcbpabdbjlaa

namespace Go.Proofs.Ytmofcbpabdbjlaa

set_option maxRecDepth 8000

set_option linter.unusedVariables false

set_option linter.unusedSimpArgs false

structure It where
  num : Int
  den : Int
  text : ByteArray

inductive VT where
  | mk (kind : Int) (items : List It) (parts : List VT) (names cls levels : List ByteArray) (code env : Int)

theorem VT.ind {P : VT → Prop} (h : ∀ k is ps ns cs ls c e, (∀ p ∈ ps, P p) → P (.mk k is ps ns cs ls c e)) : ∀ t, P t := fun t =>
  VT.rec (motive_1 := P) (motive_2 := fun l => ∀ p ∈ l, P p) (fun k is ps ns cs ls c e ih => h k is ps ns cs ls c e ih) (by simp) (fun p ps h1 h2 q hq => by
    rcases List.mem_cons.1 hq with rfl | hq
    · exact h1
    · exact h2 q hq) t

namespace VT

def kind : VT → Int | mk k _ _ _ _ _ _ _ => k

def items : VT → List It | mk _ x _ _ _ _ _ _ => x

def parts : VT → List VT | mk _ _ x _ _ _ _ _ => x

def names : VT → List ByteArray | mk _ _ _ x _ _ _ _ => x

def cls : VT → List ByteArray | mk _ _ _ _ x _ _ _ => x

def levels : VT → List ByteArray | mk _ _ _ _ _ x _ _ => x

def code : VT → Int | mk _ _ _ _ _ _ x _ => x

def env : VT → Int | mk _ _ _ _ _ _ _ x => x

end VT

def misB (x : It) : Bool := decide (x.num = 0) && decide (x.den = 0) && x.text.toList.isEmpty

def isNumI (x : It) : Bool := x.text.toList.isEmpty && Nm.isNum x.num x.den

def itemB (k : Int) (x : It) : Bool := misB x ||
  (if k = 1 then x.text.toList.isEmpty && decide (x.den = 1) && (decide (x.num = 0) || decide (x.num = 1))
   else if k = 2 then isNumI x
   else if k = 3 then decide (x.num = 0) && decide (x.den = 1) && decide (x.text.size ≤ 60) else false)

def emptyB (s : ByteArray) : Bool := s.toList.isEmpty

def okAt (l : List ByteArray) (k : Nat) : Bool := !emptyB (l.getD k ⟨#[]⟩) && decide ((l.getD k ⟨#[]⟩).size ≤ 60) && !((l.take k).any fun x => x.toList == (l.getD k ⟨#[]⟩).toList)

def goodN (l : List ByteArray) (k : Nat) : Bool := (List.range k).all (okAt l)

def labB (most : Nat) (l : List ByteArray) : Bool := decide (l.length ≤ most) && goodN l l.length

def allE (l : List ByteArray) : Bool := l.all emptyB

def zbi (l : List ByteArray) : Bool := l.all fun s => decide (s.size ≤ 60)

def lenV : VT → Nat
  | .mk k is ps _ _ _ _ _ => if k = 5 then 1 else is.length + ps.length

def levB (ls : List ByteArray) (x : It) : Bool := decide (ls.length = 0) || misB x || (decide (x.den = 1) && decide (1 ≤ x.num) && decide (x.num ≤ ls.length))

def itB (k : Int) (ls : List ByteArray) (x : It) : Bool := decide (1 ≤ k ∧ k ≤ 3) && itemB k x && levB ls x

def headB (n : Nat) (k : Int) (is : List It) (ps : List VT) (ns cs ls : List ByteArray) (c e : Int) : Bool :=
  decide (0 ≤ k ∧ k ≤ 5) && decide (n ≤ 40) && labB 3 cs && labB 20 ls &&
  (decide (ns.length = 0) || (decide (ns.length = n) && !allE ns)) && zbi ns &&
  (decide (ls.length = 0) || decide (k = 2)) && (decide (ps.length = 0) || decide (k = 4)) &&
  (decide (k = 5) || (decide (c = 0) && decide (e = 0))) &&
  (!decide (k = 5) || (decide (is.length = 0) && decide (ns.length = 0) && decide (-999 ≤ c ∧ c ≤ 99999) && decide (0 ≤ e ∧ e ≤ 99999))) &&
  (!decide (k = 0) || (decide (is.length = 0) && decide (cs.length = 0)))

def nodeB : VT → Bool
  | .mk k is ps ns cs ls c e => headB (lenV (.mk k is ps ns cs ls c e)) k is ps ns cs ls c e && is.all (itB k ls)

mutual
def cellsV : VT → Nat
  | .mk k is ps ns cs ls c e => lenV (.mk k is ps ns cs ls c e) + cellsL ps
def cellsL : List VT → Nat
  | [] => 0
  | p :: ps => cellsV p + cellsL ps
end

mutual
def nestV : VT → Nat → Nat
  | .mk _ _ ps _ _ _ _ _, r => if r = 0 then 1 else nestL ps (r - 1)
def nestL : List VT → Nat → Nat
  | [], _ => 0
  | p :: ps, r => max (1 + nestV p r) (nestL ps r)
end

mutual
def pvB : VT → Bool
  | .mk k is ps ns cs ls c e => nodeB (.mk k is ps ns cs ls c e) && pvL ps
def pvL : List VT → Bool
  | [] => true
  | p :: ps => pvB p && pvL ps
end

mutual
def lB : Nat → VT → Bool
  | n, .mk k is ps ns cs ls c e => nodeB (.mk k is ps ns cs ls c e) && lL n ps
def lL : Nat → List VT → Bool
  | _, [] => true
  | n, p :: ps => decide (n ≠ 0) && lB (n - 1) p && lL n ps
end

theorem cellsL_app (a b : List VT) : cellsL (a ++ b) = cellsL a + cellsL b := by
  induction a with
  | nil => simp [cellsL]
  | cons x a ih => simp [cellsL, ih, Nat.add_assoc]

theorem nestL_app (a b : List VT) (r : Nat) : nestL (a ++ b) r = max (nestL a r) (nestL b r) := by
  induction a with
  | nil => simp [nestL]
  | cons x a ih => simp [nestL, ih, Nat.max_assoc]

theorem pvL_app (a b : List VT) : pvL (a ++ b) = (pvL a && pvL b) := by
  induction a with
  | nil => simp [pvL]
  | cons x a ih => simp [pvL, ih, Bool.and_assoc]

theorem lL_app (n : Nat) (a b : List VT) : lL n (a ++ b) = (lL n a && lL n b) := by
  induction a with
  | nil => simp [lL]
  | cons x a ih => simp [lL, ih, Bool.and_assoc]

theorem zbd {α : Type} {l : List α} {k : Nat} (h : k < l.length) : l.take (k + 1) = l.take k ++ [l[k]] := List.take_succ_eq_append_getElem h

theorem cellsL_succ {l : List VT} {k : Nat} (h : k < l.length) : cellsL (l.take (k + 1)) = cellsL (l.take k) + cellsV l[k] := by rw [zbd h, cellsL_app]; simp [cellsL]

theorem nestL_succ {l : List VT} {k : Nat} (h : k < l.length) (r : Nat) : nestL (l.take (k + 1)) r = max (nestL (l.take k) r) (1 + nestV l[k] r) := by rw [zbd h, nestL_app]; simp [nestL]

theorem pvL_succ {l : List VT} {k : Nat} (h : k < l.length) : pvL (l.take (k + 1)) = (pvL (l.take k) && pvB l[k]) := by rw [zbd h, pvL_app]; simp [pvL]

theorem lL_succ {l : List VT} {k : Nat} (n : Nat) (h : k < l.length) : lL n (l.take (k + 1)) = (lL n (l.take k) && (decide (n ≠ 0) && lB (n - 1) l[k])) := by rw [zbd h, lL_app]; simp [lL]

theorem pvL_false {l : List VT} {k : Nat} (h : k < l.length) (hp : pvB l[k] = false) : pvL l = false := by
  rw [← List.take_append_drop (k + 1) l, pvL_app, pvL_succ h, hp]; simp

theorem lL_false {l : List VT} {k n : Nat} (h : k < l.length) (hp : n = 0 ∨ lB (n - 1) l[k] = false) : lL n l = false := by
  rw [← List.take_append_drop (k + 1) l, lL_app, lL_succ n h]
  rcases hp with hp | hp <;> simp [hp]

/-- the program's tests: nesting, parts, cells -/
def isVI (t : VT) : Bool := decide (nestV t 4 ≤ 3) && pvB t && decide (cellsV t ≤ 200)

/-- a valid vector (as the reference tests it) -/
def isV (t : VT) : Bool := lB 3 t && decide (cellsV t ≤ 200)

theorem nest_lL (ps : List VT) (hp : ∀ p ∈ ps, ∀ n, (decide (nestV p (n + 1) ≤ n) && pvB p) = lB n p) : ∀ n, (decide (nestL ps n ≤ n) && pvL ps) = lL n ps := by
  induction ps with
  | nil => intro n; simp [nestL, pvL, lL]
  | cons p ps ih =>
    intro n
    have ih' := ih (fun q hq => hp q (List.mem_cons_of_mem _ hq)) n
    have h1 := hp p (List.mem_cons_self)
    have e : decide (nestL (p :: ps) n ≤ n) = (decide (1 + nestV p n ≤ n) && decide (nestL ps n ≤ n)) := by
      rw [← Bool.decide_and]; exact decide_eq_decide.2 (by simp only [nestL]; exact Nat.max_le)
    rw [e]
    simp only [pvL, lL]
    rw [← ih']
    cases n with
    | zero => simp
    | succ n =>
      have h2 := h1 n
      have e2 : decide (1 + nestV p (n + 1) ≤ n + 1) = decide (nestV p (n + 1) ≤ n) := decide_eq_decide.2 (by omega)
      rw [e2, show n + 1 - 1 = n from rfl, ← h2]
      cases decide (nestV p (n + 1) ≤ n) <;> cases decide (nestL ps (n + 1) ≤ n + 1) <;> cases pvB p <;> simp

theorem nest_lB (t : VT) : ∀ n, (decide (nestV t (n + 1) ≤ n) && pvB t) = lB n t := by
  induction t using VT.ind with
  | _ k is ps ns cs ls c e ih =>
    intro n
    have := nest_lL ps ih n
    simp only [nestV, pvB, lB, Nat.add_one_ne_zero, if_false, Nat.add_sub_cancel]
    rw [← this]
    cases decide (nestL ps n ≤ n) <;> cases nodeB (.mk k is ps ns cs ls c e) <;> simp

theorem isVI_eq (t : VT) : isVI t = isV t := by unfold isVI isV; rw [← nest_lB t 3]

end Go.Proofs.Ytmofcbpabdbjlaa

namespace Go.Proofs.Ytmofcbpabdbjlaa

set_option maxRecDepth 8000

section

open Go.RowKit Go.ChangeShapes Go.WideShapes

set_option linter.unusedVariables false

set_option linter.unusedSimpArgs false

/-! lists of cells, so many for each element -/

section

variable {α : Type} {f : α → List Value} {sz : Nat}

theorem flat_len : ∀ (l : List α), (∀ x ∈ l, (f x).length = sz) → (l.flatMap f).length = l.length * sz
  | [], _ => by simp
  | x :: l, h => by
    rw [List.flatMap_cons, List.length_append, flat_len l (fun y hy => h y (List.mem_cons_of_mem _ hy)), h x (List.mem_cons_self), List.length_cons, Nat.succ_mul, Nat.add_comm]

theorem flat_at : ∀ (l : List α), (∀ x ∈ l, (f x).length = sz) → ∀ (i : Nat) (h : i < l.length) (j : Nat), j < sz → (l.flatMap f)[i * sz + j]? = (f l[i])[j]?
  | [], _, i, h, _, _ => by simp at h
  | x :: l, hf, 0, _, j, hj => by
    rw [List.flatMap_cons, Nat.zero_mul, Nat.zero_add, List.getElem?_append_left (by rw [hf x (List.mem_cons_self)]; exact hj)]
    rfl
  | x :: l, hf, i + 1, h, j, hj => by
    have hx := hf x (List.mem_cons_self)
    rw [List.flatMap_cons, List.getElem?_append_right (by rw [hx, Nat.succ_mul]; omega), hx, show (i + 1) * sz + j - sz = i * sz + j by rw [Nat.succ_mul]; omega]
    exact flat_at l (fun y hy => hf y (List.mem_cons_of_mem _ hy)) i (by simpa using h) j hj

end

section

variable {α : Type} {w w' : World} {f : α → List Value} {sz : Nat} {A : Option Addr} {l : List α}

/-- the cells of element i of a slice -/
theorem Sl.at' (h : Sl w sz A l.length (l.flatMap f)) (hf : ∀ x ∈ l, (f x).length = sz) {i : Nat} (hi : i < l.length) :
    ∃ b off, A = some ⟨b, off, none⟩ ∧ b < w.heap.size ∧ ∀ j u, (f l[i])[j]? = some u → w.cell? ⟨b, off + (i * sz + j), none⟩ = some u := by
  obtain ⟨b, off, e, hb, hc⟩ := h.at_ (by omega)
  refine ⟨b, off, e, hb, fun j u hu => hc _ u ?_⟩
  have hj : j < sz := by rw [← hf _ (List.getElem_mem hi)]; exact (List.getElem?_eq_some_iff.1 hu).1
  rw [flat_at l hf i hi j hj, hu]

end

/-- the cells of items -/
def itc1 (x : It) : List Value := [.int .i64 x.num, .int .i64 x.den, .string x.text]

def itc (l : List It) : List Value := l.flatMap itc1

theorem itc_app (a b : List It) : itc (a ++ b) = itc a ++ itc b := by simp [itc]

theorem itc_len (l : List It) : (itc l).length = l.length * 3 := flat_len l (fun _ _ => rfl)

/-- the eight cells 'vs' hold the vector t -/
inductive RdV (w : World) : VT → List Value → Prop where
  | mk {k : Int} {is : List It} {ps : List VT} {ns cs ls : List ByteArray} {c e : Int} {Ai Ap An Ac Al : Option Addr} {ci cp cn cc cl : Nat} {pvs : List (List Value)}
    (hi : Sl w 3 Ai is.length (itc is)) (hp : Sl w 8 Ap ps.length pvs.flatten) (hl : pvs.length = ps.length) (hr : ∀ (i : Nat) (h : i < ps.length) (h' : i < pvs.length), RdV w (ps[i]'h) (pvs[i]'h'))
    (hn : Sl w 1 An ns.length (stc ns)) (hc : Sl w 1 Ac cs.length (stc cs)) (hv : Sl w 1 Al ls.length (stc ls)) (hcap : is.length ≤ ci ∧ ps.length ≤ cp ∧ ns.length ≤ cn ∧ cs.length ≤ cc ∧ ls.length ≤ cl) :
    RdV w (.mk k is ps ns cs ls c e) [.int .i64 k, .slice Ai is.length ci, .slice Ap ps.length cp, .slice An ns.length cn, .slice Ac cs.length cc, .slice Al ls.length cl, .int .i64 c, .int .i64 e]

/-- the slice with address A holds the vectors ps -/
structure RdL (w : World) (A : Option Addr) (ps : List VT) (pvs : List (List Value)) : Prop where
  sl : Sl w 8 A ps.length pvs.flatten
  len : pvs.length = ps.length
  at_ : ∀ (i : Nat) (h : i < ps.length) (h' : i < pvs.length), RdV w (ps[i]'h) (pvs[i]'h')

theorem RdV.len {w : World} {t : VT} {vs : List Value} (h : RdV w t vs) : vs.length = 8 := by cases h; rfl

theorem RdV.grow {w w' : World} (hb : Below w.heap.size w w') {t : VT} {vs : List Value} (h : RdV w t vs) : RdV w' t vs := by
  induction h with
  | mk hi hp hl hr hn hc hv hcap ih => exact .mk (hi.below hb) (hp.below hb) hl (fun i h h' => ih i h h') (hn.below hb) (hc.below hb) (hv.below hb) hcap

theorem RdL.below {w w' : World} (hb : Below w.heap.size w w') {A : Option Addr} {ps : List VT} {pvs : List (List Value)} (h : RdL w A ps pvs) : RdL w' A ps pvs :=
  ⟨h.sl.below hb, h.len, fun i h1 h2 => (h.at_ i h1 h2).grow hb⟩

theorem RdL.nil (w : World) (A : Option Addr) : RdL w A [] [] := ⟨⟨rfl, fun h => absurd h (by simp)⟩, rfl, fun i h => absurd h (by simp)⟩

/-- what is read of a vector -/
theorem RdV.open {w : World} {k : Int} {is : List It} {ps : List VT} {ns cs ls : List ByteArray} {c e : Int} {vs : List Value} (h : RdV w (.mk k is ps ns cs ls c e) vs) :
    ∃ (Ai Ap An Ac Al : Option Addr) (ci cp cn cc cl : Nat) (pvs : List (List Value)), vs = [.int .i64 k, .slice Ai is.length ci, .slice Ap ps.length cp, .slice An ns.length cn, .slice Ac cs.length cc, .slice Al ls.length cl, .int .i64 c, .int .i64 e] ∧
      Sl w 3 Ai is.length (itc is) ∧ RdL w Ap ps pvs ∧ Sl w 1 An ns.length (stc ns) ∧ Sl w 1 Ac cs.length (stc cs) ∧ Sl w 1 Al ls.length (stc ls) := by
  cases h with
  | mk hi hp hl hr hn hc hv hcap => exact ⟨_, _, _, _, _, _, _, _, _, _, _, rfl, hi, ⟨hp, hl, hr⟩, hn, hc, hv⟩

/-- lengths are at most the capacities -/
theorem RdV.caps {w : World} {k : Int} {is : List It} {ps : List VT} {ns cs ls : List ByteArray} {c e : Int} {v0 v6 v7 : Value} {Ai Ap An Ac Al : Option Addr} {ni np nn nc nl ci cp cn cc cl : Nat}
    (h : RdV w (.mk k is ps ns cs ls c e) [v0, .slice Ai ni ci, .slice Ap np cp, .slice An nn cn, .slice Ac nc cc, .slice Al nl cl, v6, v7]) : is.length ≤ ci ∧ ps.length ≤ cp ∧ ns.length ≤ cn ∧ cs.length ≤ cc ∧ ls.length ≤ cl := by
  cases h with
  | mk hi hp hl hr hn hc hv hcap => exact hcap

/-- the cells of part i -/
theorem RdL.cells {w : World} {A : Option Addr} {ps : List VT} {pvs : List (List Value)} (h : RdL w A ps pvs) {i : Nat} (hi : i < ps.length) :
    ∃ b off, A = some ⟨b, off, none⟩ ∧ b < w.heap.size ∧ ∃ vs, RdV w (ps[i]'hi) vs ∧ ∀ j u, vs[j]? = some u → w.cell? ⟨b, off + (i * 8 + j), none⟩ = some u := by
  have hi' : i < pvs.length := by rw [h.len]; exact hi
  have hs := h.sl
  rw [← h.len, ← List.flatMap_id] at hs
  have h8 : ∀ x ∈ pvs, (id x : List Value).length = 8 := fun x hx => by
    obtain ⟨j, hj, rfl⟩ := List.mem_iff_getElem.1 hx
    exact (h.at_ j (by rw [← h.len]; exact hj) hj).len
  obtain ⟨b, off, e, hb, hc⟩ := hs.at' h8 hi'
  exact ⟨b, off, e, hb, _, h.at_ i hi hi', hc⟩

/-- the eight cells 'vs' hold the vector t, and the things L are the rows that it owns -/
inductive VO : VT → List Value → List Res → Prop where
  | mk {k : Int} {is : List It} {ps : List VT} {ns cs ls : List ByteArray} {c e : Int} {Ai Ap An Ac Al : Option Addr} {ci cp cn cc cl : Nat} {pvs : List (List Value)} {Ls : List (List Res)}
    (hl : pvs.length = ps.length) (hl' : Ls.length = ps.length) (hr : ∀ (i : Nat) (h : i < ps.length) (h' : i < pvs.length) (h'' : i < Ls.length), VO (ps[i]'h) (pvs[i]'h') (Ls[i]'h'')) :
    VO (.mk k is ps ns cs ls c e) [.int .i64 k, .slice Ai is.length ci, .slice Ap ps.length cp, .slice An ns.length cn, .slice Ac cs.length cc, .slice Al ls.length cl, .int .i64 c, .int .i64 e]
      (row 83 3 (.slice Ai is.length ci) is.length (itc is) :: row 29 8 (.slice Ap ps.length cp) ps.length pvs.flatten :: row 9 1 (.slice An ns.length cn) ns.length (stc ns) ::
        row 9 1 (.slice Ac cs.length cc) cs.length (stc cs) :: row 9 1 (.slice Al ls.length cl) ls.length (stc ls) :: Ls.flatten)

/-- the parts of a vector, owned -/
structure VL (ps : List VT) (pvs : List (List Value)) (Ls : List (List Res)) : Prop where
  len : pvs.length = ps.length
  len' : Ls.length = ps.length
  at_ : ∀ (i : Nat) (h : i < ps.length) (h' : i < pvs.length) (h'' : i < Ls.length), VO (ps[i]'h) (pvs[i]'h') (Ls[i]'h'')

theorem VO.len {t : VT} {vs : List Value} {L : List Res} (h : VO t vs L) : vs.length = 8 := by cases h; rfl

theorem VL.nil : VL [] [] [] := ⟨rfl, rfl, fun i h => absurd h (by simp)⟩

theorem VL.snoc {ps : List VT} {pvs : List (List Value)} {Ls : List (List Res)} (h : VL ps pvs Ls) {t : VT} {vs : List Value} {L : List Res} (ht : VO t vs L) : VL (ps ++ [t]) (pvs ++ [vs]) (Ls ++ [L]) := by
  obtain ⟨h1, h2, h3⟩ := h
  refine ⟨by simp [h1], by simp [h2], fun i a b c => ?_⟩
  by_cases hi : i < ps.length
  · rw [List.getElem_append_left hi, List.getElem_append_left (by omega), List.getElem_append_left (by omega)]
    exact h3 i hi _ _
  · have : i = ps.length := by simp at a; omega
    subst this
    rw [List.getElem_append_right (by omega), List.getElem_append_right (by omega), List.getElem_append_right (by omega)]
    simpa using ht

theorem VO.open {k : Int} {is : List It} {ps : List VT} {ns cs ls : List ByteArray} {c e : Int} {vs : List Value} {L : List Res} (h : VO (.mk k is ps ns cs ls c e) vs L) :
    ∃ (Ai Ap An Ac Al : Option Addr) (ci cp cn cc cl : Nat) (pvs : List (List Value)) (Ls : List (List Res)), vs = [.int .i64 k, .slice Ai is.length ci, .slice Ap ps.length cp, .slice An ns.length cn, .slice Ac cs.length cc, .slice Al ls.length cl, .int .i64 c, .int .i64 e] ∧
      L = row 83 3 (.slice Ai is.length ci) is.length (itc is) :: row 29 8 (.slice Ap ps.length cp) ps.length pvs.flatten :: row 9 1 (.slice An ns.length cn) ns.length (stc ns) ::
        row 9 1 (.slice Ac cs.length cc) cs.length (stc cs) :: row 9 1 (.slice Al ls.length cl) ls.length (stc ls) :: Ls.flatten ∧ VL ps pvs Ls := by
  cases h with
  | mk hl hl' hr => exact ⟨_, _, _, _, _, _, _, _, _, _, _, _, rfl, rfl, ⟨hl, hl', hr⟩⟩

theorem VO.close {k : Int} {is : List It} {ps : List VT} {ns cs ls : List ByteArray} {c e : Int} {Ai Ap An Ac Al : Option Addr} {ci cp cn cc cl : Nat} {pvs : List (List Value)} {Ls : List (List Res)} (h : VL ps pvs Ls) :
    VO (.mk k is ps ns cs ls c e) [.int .i64 k, .slice Ai is.length ci, .slice Ap ps.length cp, .slice An ns.length cn, .slice Ac cs.length cc, .slice Al ls.length cl, .int .i64 c, .int .i64 e]
      (row 83 3 (.slice Ai is.length ci) is.length (itc is) :: row 29 8 (.slice Ap ps.length cp) ps.length pvs.flatten :: row 9 1 (.slice An ns.length cn) ns.length (stc ns) ::
        row 9 1 (.slice Ac cs.length cc) cs.length (stc cs) :: row 9 1 (.slice Al ls.length cl) ls.length (stc ls) :: Ls.flatten) := .mk h.len h.len' h.at_

theorem row_sl {e sz n c : Nat} {A : Option Addr} {xs : List Value} {w : World} (h : (row e sz (.slice A n c) n xs).holds w) : Sl w sz A n xs := Sl.of_own (show w.ownsRow 0 e sz (.slice A n c) n xs from h)

theorem row_cap {e sz n c : Nat} {A : Option Addr} {xs : List Value} {w : World} (h : (row e sz (.slice A n c) n xs).holds w) : n ≤ c := by
  have h' : w.ownsRow 0 e sz (.slice A n c) n xs := h
  rcases h'.2 with ⟨h2, h0⟩ | ⟨g, cap, cur, hv, _, _, hle, _⟩
  · omega
  · simp only [Value.slice.injEq] at hv
    obtain ⟨_, _, rfl⟩ := hv
    exact hle

/-- what is owned is read -/
theorem VO.rd {w : World} {t : VT} {vs : List Value} {L : List Res} (h : VO t vs L) : (∀ r ∈ L, r.holds w) → RdV w t vs := by
  induction h with
  | @mk k is ps ns cs ls c e Ai Ap An Ac Al ci cp cn cc cl pvs Ls hl hl' hr ih =>
    intro hh
    have m1 := hh _ (List.mem_cons_self)
    have m2 := hh _ (List.mem_cons_of_mem _ (List.mem_cons_self))
    have m3 := hh _ (List.mem_cons_of_mem _ (List.mem_cons_of_mem _ (List.mem_cons_self)))
    have m4 := hh _ (List.mem_cons_of_mem _ (List.mem_cons_of_mem _ (List.mem_cons_of_mem _ (List.mem_cons_self))))
    have m5 := hh _ (List.mem_cons_of_mem _ (List.mem_cons_of_mem _ (List.mem_cons_of_mem _ (List.mem_cons_of_mem _ (List.mem_cons_self)))))
    refine .mk (row_sl m1) (row_sl m2) hl (fun i h h' => ih i h h' (by omega) fun r hr => hh r ?_) (row_sl m3) (row_sl m4) (row_sl m5) ⟨row_cap m1, row_cap m2, row_cap m3, row_cap m4, row_cap m5⟩
    have : r ∈ Ls.flatten := List.mem_flatten.2 ⟨_, List.getElem_mem (by omega), hr⟩
    exact List.mem_cons_of_mem _ (List.mem_cons_of_mem _ (List.mem_cons_of_mem _ (List.mem_cons_of_mem _ (List.mem_cons_of_mem _ this))))

section

variable {w0 w w' : World} {L R : List Res}

/-- a block that is known whole, as a row -/
theorem Own.box_row {b : Nat} {t : TypeId} {cs : List Value} (h : Own w0 (box b t cs :: R) w) (sz n : Nat) (hn : cs.length = n * sz) (hm : n ≤ 9223372036854775807) : Own w0 (row t sz (.slice (some ⟨b, 0, none⟩) n n) n cs :: R) w := by
  have hb : w.heap[b]? = some (.cells cs.toArray t (0, 0)) := h.holds _ (List.mem_cons_self)
  refine h.turn rfl rfl rfl (Nat.le_refl _) (fun _ _ _ => rfl) ⟨hn, .inr ⟨b, n, cs.toArray, rfl, Nat.zero_le _, hb, Nat.le_refl _, by unfold maxLen; exact hm, by simpa using hn, ?_⟩⟩ (fun k hk => .inl ?_)
  · rw [← hn]; simp
  · have : (some b : Option Nat) = some k := hk
    injection this with this
    exact this.symm

end

end

section

open Go.RowKit

set_option linter.unusedVariables false

set_option linter.unusedSimpArgs false

/-- many things as one -/
def pack (F : List Res) : Res where
  foot := fun b => ∃ r ∈ F, r.foot b
  holds := fun w => (∀ r ∈ F, r.holds w) ∧ F.Pairwise fun (r s : Res) => ∀ b : Nat, r.foot b → ¬ s.foot b
  loc := fun w w' h hw => ⟨fun r hr => r.loc w w' (fun b hb => h b ⟨r, hr, hb⟩) (hw.1 r hr), hw.2⟩

section

variable {w0 w w' : World} {F G L : List Res} {r s : Res}

theorem Own.pack (h : Own w0 (F ++ L) w) : Own w0 (pack F :: L) w := by
  obtain ⟨h1, h2, h3, h4⟩ := h
  obtain ⟨p1, p2, p3⟩ := List.pairwise_append.1 h4
  refine ⟨h1, fun r hr => ?_, fun r hr b hb => ?_, List.pairwise_cons.2 ⟨fun s hs b hb hsb => ?_, p2⟩⟩
  · rcases List.mem_cons.1 hr with rfl | hr
    · exact ⟨fun q hq => h2 q (List.mem_append_left _ hq), p1⟩
    · exact h2 r (List.mem_append_right _ hr)
  · rcases List.mem_cons.1 hr with rfl | hr
    · obtain ⟨q, hq, hqb⟩ := hb
      exact h3 q (List.mem_append_left _ hq) b hqb
    · exact h3 r (List.mem_append_right _ hr) b hb
  · obtain ⟨q, hq, hqb⟩ := hb
    exact p3 q hq s hs b hqb hsb

theorem Own.unpack (h : Own w0 (Go.Proofs.Ytmofcbpabdbjlaa.pack F :: L) w) : Own w0 (F ++ L) w := by
  obtain ⟨h1, h2, h3, h4⟩ := h
  obtain ⟨p1, p2⟩ := List.pairwise_cons.1 h4
  have hp := h2 _ (List.mem_cons_self)
  refine ⟨h1, fun r hr => ?_, fun r hr b hb => ?_, List.pairwise_append.2 ⟨hp.2, p2, fun q hq s hs b hqb hsb => p1 s hs b ⟨q, hq, hqb⟩ hsb⟩⟩
  · rcases List.mem_append.1 hr with hr | hr
    · exact hp.1 r hr
    · exact h2 r (List.mem_cons_of_mem _ hr)
  · rcases List.mem_append.1 hr with hr | hr
    · exact h3 _ (List.mem_cons_self) b ⟨r, hr, hb⟩
    · exact h3 r (List.mem_cons_of_mem _ hr) b hb

/-- two packs become one -/
theorem Own.merge (h : Own w0 (Go.Proofs.Ytmofcbpabdbjlaa.pack F :: Go.Proofs.Ytmofcbpabdbjlaa.pack G :: L) w) : Own w0 (Go.Proofs.Ytmofcbpabdbjlaa.pack (F ++ G) :: L) w := by
  have h1 := h.unpack
  have h2 := (h1.perm (L' := Go.Proofs.Ytmofcbpabdbjlaa.pack G :: (F ++ L)) List.perm_middle).unpack
  refine Own.pack (h2.perm ?_)
  rw [← List.append_assoc]
  exact List.Perm.append_right L List.perm_append_comm

/-- things enter a pack -/
theorem Own.packs' (A : List Res) {R : List Res} (h : Own w0 (A ++ Go.Proofs.Ytmofcbpabdbjlaa.pack F :: R) w) : Own w0 (Go.Proofs.Ytmofcbpabdbjlaa.pack (A ++ F) :: R) w := by
  have h1 := Own.unpack (h.perm (L' := Go.Proofs.Ytmofcbpabdbjlaa.pack F :: (A ++ R)) List.perm_middle)
  refine Own.pack (h1.perm ?_)
  rw [← List.append_assoc]
  exact List.Perm.append_right _ List.perm_append_comm

theorem Own.packs (A : List Res) (h : Own w0 (A ++ [Go.Proofs.Ytmofcbpabdbjlaa.pack F]) w) : Own w0 [Go.Proofs.Ytmofcbpabdbjlaa.pack (A ++ F)] w := Own.packs' A h

/-- a thing comes to the front -/
theorem Own.front (h : Own w0 L w) (k : Nat) {r : Res} (hk : L[k]? = some r) : Own w0 (r :: L.eraseIdx k) w := by
  obtain ⟨hlt, hr⟩ := List.getElem?_eq_some_iff.1 hk
  have := (perm_erase L k hlt).symm
  rw [hr] at this
  exact h.perm this

/-- things are chosen by their places -/
theorem Own.pick (h : Own w0 L w) (idx : List Nat) (hn : idx.Nodup) : Own w0 (idx.filterMap fun i => L[i]?) w := by
  have hm : ∀ r ∈ idx.filterMap (fun i => L[i]?), r ∈ L := fun r hr => by
    obtain ⟨i, _, hi⟩ := List.mem_filterMap.1 hr
    exact List.mem_of_getElem? hi
  refine ⟨h.below, fun r hr => h.holds r (hm r hr), fun r hr => h.lo r (hm r hr), ?_⟩
  rw [List.pairwise_filterMap]
  refine List.Pairwise.imp (fun {i j} hij r hr s hs b hb hsb => ?_) hn
  obtain ⟨hi, ei⟩ := List.getElem?_eq_some_iff.1 hr
  obtain ⟨hj, ej⟩ := List.getElem?_eq_some_iff.1 hs
  have hp := List.pairwise_iff_getElem.1 h.sep
  rcases Nat.lt_or_gt_of_ne hij with hlt | hlt
  · have := hp i j hi hj hlt b
    rw [ei, ej] at this
    exact this hb hsb
  · have := hp j i hj hi hlt b
    rw [ei, ej] at this
    exact this hsb hb

theorem VO.one {t : VT} {vs : List Value} {L : List Res} (h : VO t vs L) : vs.all (·.oneCell') = true := by cases h; rfl

theorem RdV.one {w : World} {t : VT} {vs : List Value} (h : RdV w t vs) : vs.all (·.oneCell') = true := by cases h; rfl

theorem itc_one (l : List It) : (itc l).all (·.oneCell') = true := by
  induction l with
  | nil => rfl
  | cons x l ih =>
    show ([_, _, _] ++ itc l).all _ = true
    rw [List.all_append, ih]
    rfl

theorem stc_one (l : List ByteArray) : (stc l).all (·.oneCell') = true := by simp [stc, Value.oneCell']

theorem VL.set {ps : List VT} {pvs : List (List Value)} {Ls : List (List Res)} (h : VL ps pvs Ls) (k : Nat) {t : VT} {vs : List Value} {L : List Res} (ht : VO t vs L) : VL (ps.set k t) (pvs.set k vs) (Ls.set k L) := by
  refine ⟨by simp [h.len], by simp [h.len'], fun i a b c => ?_⟩
  simp only [List.getElem_set]
  by_cases e : k = i
  · simp only [e, if_true]; exact ht
  · simp only [e, if_false]; exact h.at_ i (by simpa using a) _ _

theorem flat_snoc {α : Type} (a : List (List α)) (b : List α) : (a ++ [b]).flatten = a.flatten ++ b := by simp

/-- what is owned, packed, is read -/
theorem Own.rdp (h : Own w0 L w) (k : Nat) {F : List Res} (hk : L[k]? = some (Go.Proofs.Ytmofcbpabdbjlaa.pack F)) {t : VT} {vs : List Value} (ht : VO t vs F) : RdV w t vs :=
  ht.rd fun r hr => (h.get k hk).1 r hr

end

end

end Go.Proofs.Ytmofcbpabdbjlaa

namespace Go.Proofs.Ytmofcbpabdbjlaa

set_option maxRecDepth 8000

open Go Go.RowKit

/-- what is left at a return -/
structure StopR (p : Prop) : Prop where
  out : p

theorem zam {P : Program} {fn : Func} {R : Ending → World → Prop} {a : Act} {w : World} (h : StopR (bodyPost P fn R .ret a w)) : bodyPost P fn R .ret a w := h.1

end Go.Proofs.Ytmofcbpabdbjlaa
