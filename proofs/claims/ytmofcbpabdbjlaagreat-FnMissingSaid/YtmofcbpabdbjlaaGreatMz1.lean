/-
  What is proved: how the arguments of this seat's statements read as plain values (integers, strings, items, slices of integers). plain facts on slices in memory: a slice that reads as a list of cells, kept while memory grows; what lies in the blocks that a call made itself, xs a list of things that are kept apart; how single operations (loads, stores, new variables) turn what lies in the blocks that a call made itself.
  Condition: none beyond those of the theorems.
-/
import Derived.Below
import Derived.BigQuiet
import Derived.Deep.Light
import Derived.Deep.MidRow
import Derived.Deep.OwnRows
import Derived.Deep.QuietTactic
import Derived.Handy
import Derived.Laws.OwnMore
import Derived.Laws.Rows
import Derived.Lib.Hide
import Derived.Lib.SmallJoins
import Derived.OpenShut
import Derived.ProofKit
import Derived.Test.YtmofcbpabdbjlaaGreatChecked
import Derived.WalkKit
namespace Go.Proofs.YtmofcbpabdbjlaaGreat

set_option maxRecDepth 8000

section

open Go.ChangeShapes Go.WideShapes Go.RowKit Go.Joins

open Go.ChangeMaps (open_string)

theorem zat {k : IntKind} {a b : Int} (h : a = b) : Ending.returned (.int k a) = .returned (.int k b) := by rw [h]

theorem zap {a b : Bool} (h : a = b) : Ending.returned (.bool a) = .returned (.bool b) := by rw [h]

theorem ret_str {a b : ByteArray} (h : a = b) : Ending.returned (.string a) = .returned (.string b) := by rw [h]

theorem bcell {W w1 : World} (hb : Below W.heap.size W w1) : (∀ b o, b < W.heap.size → w1.cell? ⟨b, o, none⟩ = W.cell? ⟨b, o, none⟩) ∧ (∀ b o, b < W.heap.size → w1.frozen? ⟨b, o, none⟩ = W.frozen? ⟨b, o, none⟩) :=
  ⟨fun b o h => hb.cell (p := ⟨b, o, none⟩) h, fun b o h => hb.frozen (p := ⟨b, o, none⟩) h⟩

theorem zai {B : Nat} {w w1 w2 : World} (h : Below B w w1) (hB : B ≤ w.heap.size) (k : Below w1.heap.size w1 w2) : Below B w w2 := h.trans (k.mono (Nat.le_trans hB h.size))

def inI (x a b : Int) : Bool := decide (a ≤ x) && decide (x ≤ b)

theorem inI_eq (x a b : Int) : inI x a b = (decide (a ≤ x) && decide (x ≤ b)) := rfl

theorem inI_true {x a b : Int} (h : a ≤ x ∧ x ≤ b) : inI x a b = true := by simp [inI, h]

theorem inI_false {x a b : Int} (h : ¬ (a ≤ x ∧ x ≤ b)) : inI x a b = false := by simp [inI]; omega

theorem zbj (x a b : Int) (w : World) : Calls Tryz.prog 83 #[.int .i64 x, .int .i64 a, .int .i64 b] w fun e w' => e = .returned (.bool (inI x a b)) ∧ w = w' := by
  go_enter Tryz.func83, Tryz.ntmps83
  go_wp2
  all_goals (go_ret; exact ⟨zap (by simp_all [inI]; try omega), rfl⟩)

section

variable {H : Type} {enc : TypeId × Value → H} {W : World} {base : Nat} {spare : Nat → Bool} {held : Bool} {r : Reach} {b0 : Nat} {v : Value} {d : DataW H} {p : List MemPlace}

end

end

section

open Go.RowKit

/-- the slice with address A and n elements of sz cells each holds the cells xs -/
structure Sl (w : World) (sz : Nat) (A : Option Addr) (n : Nat) (xs : List Value) : Prop where
  len : xs.length = n * sz
  at_ : 0 < n → ∃ b off, A = some ⟨b, off, none⟩ ∧ b < w.heap.size ∧ ∀ j u, xs[j]? = some u → w.cell? ⟨b, off + j, none⟩ = some u

section

variable {w w' : World} {sz n : Nat} {A : Option Addr} {xs : List Value}

theorem Sl.keep (h : Sl w sz A n xs) (hk : ∀ b o, b < w.heap.size → w'.cell? ⟨b, o, none⟩ = w.cell? ⟨b, o, none⟩) (hs : w.heap.size ≤ w'.heap.size) : Sl w' sz A n xs :=
  ⟨h.len, fun hn => by
    obtain ⟨b, off, e, hb, hc⟩ := h.at_ hn
    exact ⟨b, off, e, by omega, fun j u hu => (hk _ _ hb).trans (hc j u hu)⟩⟩

theorem Sl.below (h : Sl w sz A n xs) (hb : Below w.heap.size w w') : Sl w' sz A n xs := h.keep (bcell hb).1 hb.size

theorem Sl.of_own {base : Nat} {e : TypeId} {c : Nat} (h : w.ownsRow base e sz (.slice A n c) n xs) : Sl w sz A n xs := by
  refine ⟨h.1, fun hn => ?_⟩
  rcases h.2 with ⟨_, h0⟩ | ⟨g, cap, cur, hv, _, hg, hle, _, hcs, htk⟩
  · omega
  · injection hv with hA _ hc
    subst hA; subst hc
    refine ⟨g, 0, rfl, lt_of_block hg, fun j u hu => ?_⟩
    have hj : j < xs.length := (List.getElem?_eq_some_iff.1 hu).1
    have h1 := h.cellAt (g := g) (cap := c) j (by rw [← h.1]; exact hj)
    rw [Nat.zero_add]
    exact h1.trans hu

theorem Sl.cell1 (h : Sl w 1 A n xs) {k : Nat} (hk : k < n) : ∃ b off, A = some ⟨b, off, none⟩ ∧ b < w.heap.size ∧ w.cell? ⟨b, off + k, none⟩ = some (xs.getD k undef) := by
  obtain ⟨b, off, e, hb, hc⟩ := h.at_ (by omega)
  have hl : k < xs.length := by have := h.len; omega
  exact ⟨b, off, e, hb, hc k _ (by rw [List.getD_eq_getElem?_getD, List.getElem?_eq_getElem hl]; rfl)⟩

end

theorem own_form {w : World} {base sz n : Nat} {e : TypeId} {v : Value} {xs : List Value} (h : w.ownsRow base e sz v n xs) (hn : 0 < n) : ∃ g c, v = .slice (some ⟨g, 0, none⟩) n c ∧ base ≤ g ∧ g < w.heap.size := by
  rcases h.2 with ⟨_, h0⟩ | ⟨g, cap, cur, hv, hb, hg, _⟩
  · omega
  · exact ⟨g, cap, hv, hb, lt_of_block hg⟩

theorem toList_mk (l : List UInt8) : (⟨l.toArray⟩ : ByteArray).toList = l := by rw [ByteArray.toList_eq]

end

end Go.Proofs.YtmofcbpabdbjlaaGreat

namespace Go.Proofs.YtmofcbpabdbjlaaGreat

set_option maxRecDepth 8000

open Go Go.RowKit

/-! short names -/

theorem zA {α : Type _} (l : List α) (i : Nat) (a : α) : l.toArray.setIfInBounds i a = (l.set i a).toArray := List.setIfInBounds_toArray l i a

theorem zB {α : Type _} {x : α} {xs : List α} {n : Nat} {a : α} : (x :: xs).set (n + 1) a = x :: xs.set n a := rfl

theorem zC {α : Type _} {x : α} {xs : List α} {a : α} : (x :: xs).set 0 a = a :: xs := rfl

theorem zD {α : Type _} {x : α} {xs : List α} {i : Nat} : (x :: xs)[i + 1]? = xs[i]? := rfl

theorem zE {α : Type _} {x : α} {xs : List α} : (x :: xs)[0]? = some x := rfl

theorem zF {α : Type _} {xs : List α} {i : Nat} : xs.toArray[i]? = xs[i]? := List.getElem?_toArray

theorem zG {α : Type _} {x : α} {xs : List α} {i : Nat} (h : i + 1 < (x :: xs).length) : (x :: xs)[i + 1] = xs[i]'(Nat.lt_of_succ_lt_succ h) := rfl

theorem zH {α : Type _} {x : α} {xs : List α} {h : 0 < (x :: xs).length} : (x :: xs)[0] = x := rfl

theorem zI {α : Type _} {xs : List α} {i : Nat} (h : i < xs.toArray.size) : xs.toArray[i] = xs[i]'(by simpa using h) := rfl

theorem zJ {α : Type _} (xs : Array α) (i : Nat) (d : α) : xs.getD i d = xs[i]?.getD d := Array.getD_eq_getD_getElem? ..

theorem zK {α : Type _} {a : α} {xs ys : List α} : a :: xs ++ ys = a :: (xs ++ ys) := rfl

theorem zL {α : Type _} (xs : List α) : [] ++ xs = xs := rfl

theorem zM {n m : Nat} (h : Nat.ble n m = true) : n ≤ m := Nat.le_of_ble_eq_true h

theorem zN {α β : Type _} {f : α → Option β} {a : α} {l : List α} : (a :: l).filterMap f = match f a with | none => l.filterMap f | some b => b :: l.filterMap f := List.filterMap_cons

theorem zO {α β : Type _} {f : α → Option β} : ([] : List α).filterMap f = [] := rfl

theorem zP {α : Type _} {a b : α} : (some a).getD b = a := rfl

theorem zQ {α : Type _} {x : α} {xs : List α} {i : Nat} {d : α} : (x :: xs).getD (i + 1) d = xs.getD i d := rfl

theorem zR {α : Type _} {x : α} {xs : List α} {d : α} : (x :: xs).getD 0 d = x := rfl

theorem zS {α β : Type _} (a : α) (f : α → Option β) : (some a).bind f = f a := rfl

/-- a thing that lies in the blocks 'foot': what it says hangs on those alone -/
structure Res where
  foot : Nat → Prop
  holds : World → Prop
  loc : ∀ w w' : World, (∀ b, foot b → w'.heap[b]? = w.heap[b]?) → holds w → holds w'

/-- the call began in w0; the things L lie in blocks that it made itself, none in two of them -/
structure Own (w0 : World) (L : List Res) (w : World) : Prop where
  below : Below w0.heap.size w0 w
  holds : ∀ r ∈ L, r.holds w
  lo : ∀ r ∈ L, ∀ b, r.foot b → w0.heap.size ≤ b ∧ b < w.heap.size
  sep : L.Pairwise fun r s => ∀ b, r.foot b → ¬ s.foot b

/-- a block that is known whole -/
def box (b : Nat) (t : TypeId) (cs : List Value) : Res where
  foot := fun k => k = b
  holds := fun w => w.heap[b]? = some (.cells cs.toArray t (0, 0))
  loc := fun w w' h hw => by rw [h b rfl]; exact hw

/-- a row that a slice owns -/
def row (e : TypeId) (size : Nat) (v : Value) (n : Nat) (xs : List Value) : Res where
  foot := fun k => v.ownBlock = some k
  holds := fun w => w.ownsRow 0 e size v n xs
  loc := fun w w' h hw => by
    obtain ⟨h1, h2⟩ := hw
    refine ⟨h1, ?_⟩
    rcases h2 with h2 | ⟨g, cap, cur, hv, hg, hh, r⟩
    · exact Or.inl h2
    · exact Or.inr ⟨g, cap, cur, hv, hg, by rw [h g (by rw [hv]; rfl)]; exact hh, r⟩

section

variable {w0 w w' : World} {L : List Res}

theorem Own.nil (w0 : World) : Own w0 [] w0 := ⟨Below.refl _ _, by simp, by simp, .nil⟩

theorem Own.step (h : Own w0 L w) (hb : Below w.heap.size w w') : Own w0 L w' :=
  ⟨h.below.trans (hb.mono h.below.size), fun r hr => r.loc w w' (fun b hf => hb.block b (h.lo r hr b hf).2) (h.holds r hr),
    fun r hr b hf => ⟨(h.lo r hr b hf).1, Nat.lt_of_lt_of_le (h.lo r hr b hf).2 hb.size⟩, h.sep⟩

theorem Own.drew (h : Own w0 L w) : Own w0 L w.drew := h.step ((Below.refl _ _).drew)

theorem Own.add (h : Own w0 L w) (hb : Below w.heap.size w w') (r : Res) (hr : r.holds w') (hf : ∀ b, r.foot b → w.heap.size ≤ b ∧ b < w'.heap.size) : Own w0 (r :: L) w' := by
  have h' := h.step hb
  refine ⟨h'.below, fun s hs => ?_, fun s hs b hsb => ?_, List.pairwise_cons.2 ⟨fun s hs b hrb hsb => ?_, h.sep⟩⟩
  · rcases List.mem_cons.1 hs with rfl | hs
    · exact hr
    · exact h'.holds s hs
  · rcases List.mem_cons.1 hs with rfl | hs
    · exact ⟨Nat.le_trans h.below.size (hf b hsb).1, (hf b hsb).2⟩
    · exact h'.lo s hs b hsb
  · have := (hf b hrb).1
    have := (h.lo s hs b hsb).2
    omega

theorem Own.alloc (h : Own w0 L w) (t : TypeId) (cs : List Value) : Own w0 (box w.heap.size t cs :: L) (w.alloc (.cells cs.toArray t)) :=
  h.add ((Below.refl _ _).alloc (Nat.le_refl _) _) _ (heap_alloc_new w _) (fun b hb => by
    have : b = w.heap.size := hb
    subst this
    exact ⟨Nat.le_refl _, by simp⟩)

theorem Own.sub {L' : List Res} (h : Own w0 L w) (hs : L'.Sublist L) : Own w0 L' w :=
  ⟨h.below, fun r hr => h.holds r (hs.subset hr), fun r hr => h.lo r (hs.subset hr), h.sep.sublist hs⟩

theorem Own.perm {L' : List Res} (h : Own w0 L w) (hs : L.Perm L') : Own w0 L' w :=
  ⟨h.below, fun r hr => h.holds r (hs.symm.subset hr), fun r hr => h.lo r (hs.symm.subset hr),
    hs.pairwise h.sep (fun hxy b hb hx => hxy b hx hb)⟩

/-- the first thing is turned; what else lies there is xs it was -/
theorem Own.turn {r r' : Res} (h : Own w0 (r :: L) w) (hos : w'.os = w.os) (htape : w'.tape = w.tape) (hout : w'.output = w.output) (hsz : w.heap.size ≤ w'.heap.size)
    (hblk : ∀ b, b < w.heap.size → ¬ r.foot b → w'.heap[b]? = w.heap[b]?) (hr : r'.holds w') (hf : ∀ b, r'.foot b → r.foot b ∨ (w.heap.size ≤ b ∧ b < w'.heap.size)) : Own w0 (r' :: L) w' := by
  obtain ⟨hb, hh, hl, hs⟩ := h
  obtain ⟨hs1, hs2⟩ := List.pairwise_cons.1 hs
  have hbel : Below w0.heap.size w0 w' := hb.trans ⟨hos, htape, hout, hsz, fun b hb0 => hblk b (Nat.lt_of_lt_of_le hb0 hb.size) (fun hrb => by have := (hl r (List.mem_cons_self) b hrb).1; omega)⟩
  refine ⟨hbel, fun s hs => ?_, fun s hs b hsb => ?_, List.pairwise_cons.2 ⟨fun s hsm b hrb hsb => ?_, hs2⟩⟩
  · rcases List.mem_cons.1 hs with rfl | hsm
    · exact hr
    · exact s.loc w w' (fun b hsb => hblk b (hl s (List.mem_cons_of_mem _ hsm) b hsb).2 (fun hrb => hs1 s hsm b hrb hsb)) (hh s (List.mem_cons_of_mem _ hsm))
  · rcases List.mem_cons.1 hs with rfl | hsm
    · rcases hf b hsb with h1 | h1
      · have := hl r (List.mem_cons_self) b h1
        omega
      · exact ⟨Nat.le_trans hb.size h1.1, h1.2⟩
    · have := hl s (List.mem_cons_of_mem _ hsm) b hsb
      omega
  · rcases hf b hrb with h1 | h1
    · exact hs1 s hsm b h1 hsb
    · have := (hl s (List.mem_cons_of_mem _ hsm) b hsb).2
      omega

theorem perm_erase {α : Type} : ∀ (l : List α) (k : Nat) (hk : k < l.length), (l[k] :: l.eraseIdx k).Perm l
  | [], _, h => by simp at h
  | x :: l, 0, _ => List.Perm.refl _
  | x :: l, k + 1, h => by
    have ih := perm_erase l k (by simpa using h)
    simp only [List.getElem_cons_succ, List.eraseIdx_cons_succ]
    exact (List.Perm.swap x _ _).trans (ih.cons x)

/-- the same at place k -/
theorem Own.at_ (h : Own w0 L w) (k : Nat) {r r' : Res} (hk : L[k]? = some r) (turn : ∀ L', Own w0 (r :: L') w → Own w0 (r' :: L') w') : Own w0 (L.set k r') w' := by
  have hlt : k < L.length := (List.getElem?_eq_some_iff.1 hk).1
  have hr : L[k] = r := (List.getElem?_eq_some_iff.1 hk).2
  have hp : L.Perm (r :: L.eraseIdx k) := by
    have := (perm_erase L k hlt).symm
    rw [hr] at this
    exact this
  have h2 := turn _ (h.perm hp)
  refine h2.perm ?_
  have hlt' : k < (L.set k r').length := by rw [List.length_set]; exact hlt
  have := perm_erase (L.set k r') k hlt'
  rw [List.getElem_set_self, List.eraseIdx_set_eq] at this
  exact this

/-- a store into a cell of a block that is known whole -/
theorem Own.store (h : Own w0 L w) (k : Nat) {b : Nat} {t : TypeId} {cs : List Value} (hk : L[k]? = some (box b t cs)) (i : Nat) (v : Value) :
    Own w0 (L.set k (box b t (cs.set i v))) (w.setCell ⟨b, i, none⟩ v) :=
  h.at_ k hk fun L' h' => by
    have hb : w.heap[b]? = some (.cells cs.toArray t (0, 0)) := h'.holds _ (List.mem_cons_self)
    refine h'.turn rfl rfl rfl (by simp [World.setCell]) (fun c _ hc => Below.heap_setCell _ _ _ _ (fun e => hc e)) ?_ (fun c hc => .inl hc)
    show (w.setCell ⟨b, i, none⟩ v).heap[b]? = _
    simp only [World.setCell, Array.getElem?_modify, if_true, hb]
    simp

theorem Own.get (h : Own w0 L w) (k : Nat) {r : Res} (hk : L[k]? = some r) : r.holds w := h.holds r (List.mem_of_getElem? hk)

theorem Own.cell (h : Own w0 L w) (k : Nat) {b : Nat} {t : TypeId} {cs : List Value} (hk : L[k]? = some (box b t cs)) (i : Nat) : w.cell? ⟨b, i, none⟩ = cs[i]? := by
  have := h.get k hk
  rw [cell_of_row w b i cs.toArray t (0, 0) this]
  simp

theorem Own.mark (h : Own w0 L w) (k : Nat) {b : Nat} {t : TypeId} {cs : List Value} (hk : L[k]? = some (box b t cs)) (i : Nat) : w.frozen? ⟨b, i, none⟩ = false := by
  have : w.heap[b]? = some (.cells cs.toArray t (0, 0)) := h.get k hk
  simp [World.frozen?, this]

theorem Own.lt (h : Own w0 L w) (k : Nat) {b : Nat} {t : TypeId} {cs : List Value} (hk : L[k]? = some (box b t cs)) : w0.heap.size ≤ b ∧ b < w.heap.size :=
  h.lo _ (List.mem_of_getElem? hk) b rfl

/-- a cell of the caller's memory reads xs at the start -/
theorem Own.old (h : Own w0 L w) {b o : Nat} (hb : b < w0.heap.size) : w.cell? ⟨b, o, none⟩ = w0.cell? ⟨b, o, none⟩ := h.below.cell (p := ⟨b, o, none⟩) hb

end

end Go.Proofs.YtmofcbpabdbjlaaGreat

namespace Go.Proofs.YtmofcbpabdbjlaaGreat

set_option maxRecDepth 8000

open Go Go.RowKit

set_option linter.unusedSimpArgs false

set_option linter.unusedVariables false

/-- a struct type of n cells -/
class AggT (P : Program) (T : Nat) (n : outParam Nat) : Prop where
  of : ∃ d, P.underlying T = some d ∧ d.isRow = true ∧ (P.info? T).map (·.size) = some n

/-- a type of one cell -/
class OneT (P : Program) (T : Nat) : Prop where
  of : ∃ d, P.underlying T = some d ∧ d.isRow = false ∧ (P.info? T).map (·.size) = some 1

/-- the cells of a type's zero value -/
class ZeroT (P : Program) (T : Nat) (cs : outParam (List Value)) : Prop where
  of : ∃ z : Value, (P.info? T).map (·.zero) = some (some z) ∧ z.cells = cs.toArray

theorem at0 {α : Type} {x0 : α} {l : List α} : (x0 :: l)[0]? = some x0 := rfl

theorem at1 {α : Type} {x0 x1 : α} {l : List α} : (x0 :: x1 :: l)[1]? = some x1 := rfl

theorem at2 {α : Type} {x0 x1 x2 : α} {l : List α} : (x0 :: x1 :: x2 :: l)[2]? = some x2 := rfl

theorem at3 {α : Type} {x0 x1 x2 x3 : α} {l : List α} : (x0 :: x1 :: x2 :: x3 :: l)[3]? = some x3 := rfl

theorem at4 {α : Type} {x0 x1 x2 x3 x4 : α} {l : List α} : (x0 :: x1 :: x2 :: x3 :: x4 :: l)[4]? = some x4 := rfl

theorem at5 {α : Type} {x0 x1 x2 x3 x4 x5 : α} {l : List α} : (x0 :: x1 :: x2 :: x3 :: x4 :: x5 :: l)[5]? = some x5 := rfl

theorem at6 {α : Type} {x0 x1 x2 x3 x4 x5 x6 : α} {l : List α} : (x0 :: x1 :: x2 :: x3 :: x4 :: x5 :: x6 :: l)[6]? = some x6 := rfl

theorem at7 {α : Type} {x0 x1 x2 x3 x4 x5 x6 x7 : α} {l : List α} : (x0 :: x1 :: x2 :: x3 :: x4 :: x5 :: x6 :: x7 :: l)[7]? = some x7 := rfl

theorem at8 {α : Type} {x0 x1 x2 x3 x4 x5 x6 x7 x8 : α} {l : List α} : (x0 :: x1 :: x2 :: x3 :: x4 :: x5 :: x6 :: x7 :: x8 :: l)[8]? = some x8 := rfl

theorem at9 {α : Type} {x0 x1 x2 x3 x4 x5 x6 x7 x8 x9 : α} {l : List α} : (x0 :: x1 :: x2 :: x3 :: x4 :: x5 :: x6 :: x7 :: x8 :: x9 :: l)[9]? = some x9 := rfl

theorem at10 {α : Type} {x0 x1 x2 x3 x4 x5 x6 x7 x8 x9 x10 : α} {l : List α} : (x0 :: x1 :: x2 :: x3 :: x4 :: x5 :: x6 :: x7 :: x8 :: x9 :: x10 :: l)[10]? = some x10 := rfl

theorem at11 {α : Type} {x0 x1 x2 x3 x4 x5 x6 x7 x8 x9 x10 x11 : α} {l : List α} : (x0 :: x1 :: x2 :: x3 :: x4 :: x5 :: x6 :: x7 :: x8 :: x9 :: x10 :: x11 :: l)[11]? = some x11 := rfl

section

variable {P : Program} {o : Oper} {a : Act} {w w0 : World} {K : Act → World → Prop} {Q : Exit → Act → World → Prop} {L : List Res} {ops : Array Oper} {rest : List Oper}

theorem Own.range (h : Own w0 L w) (k : Nat) {b : Nat} {t : TypeId} {cs : List Value} (hk : L[k]? = some (box b t cs)) : w.rangeAt b 0 cs := fun j v hv => by
  rw [h.cell k hk, Nat.zero_add]; exact hv

theorem Own.there (h : Own w0 L w) (k : Nat) {b : Nat} {t : TypeId} {cs : List Value} (hk : L[k]? = some (box b t cs)) {n : Nat} (hn : n ≤ cs.length) : w.there b 0 n := fun j hj => by
  rw [h.cell k hk, h.mark k hk, Nat.zero_add]
  exact ⟨by rw [List.getElem?_eq_getElem (by omega)]; rfl, rfl⟩

theorem Own.setCells (h : Own w0 L w) (k : Nat) {b : Nat} {t : TypeId} : ∀ (vs : List Value) {cs : List Value} (i : Nat), L[k]? = some (box b t cs) → i + vs.length ≤ cs.length →
    Own w0 (L.set k (box b t (cs.take i ++ vs ++ cs.drop (i + vs.length)))) (w.setCells b i vs) := by
  intro vs
  induction vs generalizing w L with
  | nil =>
    intro cs i hk hl
    have e : L.set k (box b t (cs.take i ++ [] ++ cs.drop (i + ([] : List Value).length))) = L := by
      have : cs.take i ++ [] ++ cs.drop (i + ([] : List Value).length) = cs := by simp
      rw [this]
      refine List.ext_getElem? fun j => ?_
      rw [List.getElem?_set]
      split
      · rename_i e; subst e
        have := (List.getElem?_eq_some_iff.1 hk).1
        simp only [this, if_true, hk]
      · rfl
    rw [e]
    exact h
  | cons v vs ih =>
    intro cs i hk hl
    have h1 := h.store k hk i v
    have hk1 : (L.set k (box b t (cs.set i v)))[k]? = some (box b t (cs.set i v)) := by
      have := (List.getElem?_eq_some_iff.1 hk).1
      simp [this]
    have h2 := ih h1 (cs := cs.set i v) (i + 1) hk1 (by simp at hl ⊢; omega)
    rw [List.set_set] at h2
    have hil : i < cs.length := by simp at hl; omega
    have e : (cs.set i v).take (i + 1) ++ vs ++ (cs.set i v).drop (i + 1 + vs.length) = cs.take i ++ (v :: vs) ++ cs.drop (i + (v :: vs).length) := by
      rw [List.take_succ_eq_append_getElem (by simpa using hil), List.getElem_set_self, List.take_set_of_le (Nat.le_refl _), List.drop_set_of_lt (by omega)]
      simp [Nat.add_assoc, Nat.add_comm 1]
    rw [e] at h2
    exact h2

/-- a struct variable is read whole -/
theorem zah (hO : Own w0 L w) {ty : TypeId} {x : Operand} (ho : o.op = .load ty x) {b : Nat} (hx : a.eval x = .pointer (some ⟨b, 0, none⟩))
    (k : Nat) {t : TypeId} {cs : List Value} (hk : L[k]? = some (box b t cs)) {n : Nat} [hT : AggT P ty n] (hn : cs.length = n) {a' : Act} (ha : a.put o.dst (.agg cs.toArray) = a') (h : K a' w) : o.wp P a w K Q := by
  obtain ⟨d, h1, h2, h3⟩ := hT.of
  subst ha hn
  exact wp_load_mid ty x ho b 0 hx cs d (hO.range k hk) h1 h2 h3 h

/-- a cell of a variable is read -/
theorem wp_load_cell {ty : TypeId} {x : Operand} (ho : o.op = .load ty x) {p : Addr} (hx : a.eval x = .pointer (some p)) {v : Value} (hc : w.cell? p = some v) [hT : OneT P ty] {a' : Act} (ha : a.put o.dst v = a') (h : K a' w) : o.wp P a w K Q := by
  obtain ⟨d, h1, h2, h3⟩ := hT.of
  subst ha
  have hagg : (isAgg ty).run P w = .ok false w := by
    unfold isAgg
    rw [Sem.run_bind, run_underlying h1 w]
    cases d <;> simp_all [TypeDesc.isRow]
  unfold Oper.wp execOp
  simp only [ho, hx, Instr.loadAt, Instr.sureAddr, loadVar, Sem.run_bind, Sem.run_pure, Result.andThen_ok, hagg, Bool.false_eq_true, if_false]
  simp [load, Sem.run, hc, Result.andThen]
  exact h

theorem zae (hO : Own w0 L w) {ty : TypeId} {x : Operand} (ho : o.op = .load ty x) {b i : Nat} (hx : a.eval x = .pointer (some ⟨b, i, none⟩))
    (k : Nat) {t : TypeId} {cs : List Value} (hk : L[k]? = some (box b t cs)) [hT : OneT P ty] {v : Value} (hv : cs[i]? = some v) {a' : Act} (ha : a.put o.dst v = a') (h : K a' w) : o.wp P a w K Q :=
  wp_load_cell ho hx (by rw [hO.cell k hk]; exact hv) ha h

/-- a struct variable is written whole -/
theorem zaf (hO : Own w0 L w) {ty : TypeId} {x y : Operand} (ho : o.op = .store ty x y) {b : Nat} (hx : a.eval x = .pointer (some ⟨b, 0, none⟩))
    (k : Nat) {t : TypeId} {cs : List Value} (hk : L[k]? = some (box b t cs)) {vs : List Value} (hy : a.eval y = .agg vs.toArray) (hn : vs.length = cs.length) {n : Nat} [hT : AggT P ty n] (hn2 : vs.length = n) (h1 : vs.all (·.oneCell') = true)
    {L' : List Res} (hL : L.set k (box b t vs) = L') (hd : o.dst = none) (h : ∀ w, Own w0 L' w → K a w) : o.wp P a w K Q := by
  obtain ⟨d, _, _, h3⟩ := hT.of
  subst hL hn2
  refine wp_store_mid ty x y ho b 0 vs.toArray hx hy (hO.there k hk (by simp; omega)) (by simpa using h3) (by simpa using h1) ?_
  have h2 := hO.setCells k vs 0 hk (by omega)
  rw [hd]
  refine h _ ?_
  simpa [hn] using h2

/-- a cell of a variable is written -/
theorem za1 (hO : Own w0 L w) {ty : TypeId} {x y : Operand} (ho : o.op = .store ty x y) {b i : Nat} (hx : a.eval x = .pointer (some ⟨b, i, none⟩))
    (k : Nat) {t : TypeId} {cs : List Value} (hk : L[k]? = some (box b t cs)) (hi : i < cs.length) {v : Value} (hy : a.eval y = v) (h1 : v.oneCell' = true) [hT : OneT P ty]
    {L' : List Res} (hL : L.set k (box b t (cs.set i v)) = L') (hd : o.dst = none) (h : ∀ w, Own w0 L' w → K a w) : o.wp P a w K Q := by
  obtain ⟨d, e1, e2, e3⟩ := hT.of
  subst hL
  have hc : w.cell? ⟨b, i, none⟩ = some (cs[i]'hi) := by rw [hO.cell k hk, List.getElem?_eq_getElem hi]
  have hf := hO.mark k hk i
  have hcells : v.cells = #[v] := by cases v <;> simp_all [Value.cells, Value.oneCell']
  have hsz : (sizeOf ty).run P w = .ok 1 w := by
    unfold sizeOf typeInfo
    cases hq : P.info? ty with
    | none => rw [hq] at e3; simp at e3
    | some inf =>
      rw [hq] at e3
      simp at e3
      simp [Sem.run_bind, hq, e3]
  have hrun : (Instr.storeAt ty (.pointer (some ⟨b, i, none⟩)) v).run P w = .ok () (w.setCell ⟨b, i, none⟩ v) := by
    simp only [Instr.storeAt, Instr.sureAddr, storeVar, Sem.run_bind, Sem.run_pure, Result.andThen_ok, hsz, hcells]
    cases v <;> simp_all [storeCells, store, Sem.run, Sem.run_bind, Result.andThen, Addr.add, Value.oneCell', hc, hf]
  unfold Oper.wp execOp
  simp only [ho, hx, hy, Sem.run_bind, Sem.run_pure, Result.andThen_ok, hrun]
  show K (a.put o.dst undef) _
  rw [hd]
  exact h _ (hO.store k hk i v)

theorem run_zeroValue {T : Nat} {cs : List Value} [h : ZeroT P T cs] : ∃ z : Value, z.cells = cs.toArray ∧ ∀ w : World, (zeroValue T).run P w = .ok z w := by
  obtain ⟨z, h1, h2⟩ := h.of
  refine ⟨z, h2, fun w => ?_⟩
  unfold zeroValue typeInfo
  cases hq : P.info? T with
  | none => rw [hq] at h1; simp at h1
  | some inf =>
    rw [hq] at h1
    simp at h1
    simp [Sem.run_bind, hq, h1]

theorem Own.addBox (h : Own w0 L w) (t : TypeId) (cs : List Value) : Own w0 (L ++ [box w.heap.size t cs]) (w.alloc (.cells cs.toArray t)) :=
  (h.alloc t cs).perm (by simpa using (List.perm_append_comm (l₁ := [box w.heap.size t cs]) (l₂ := L)))

/-- a new variable -/
theorem zbc (hO : Own w0 L w) {T : TypeId} (ho : o.op = .alloc T) {cs : List Value} [hT : ZeroT P T cs] {d : Tmp} (hd : o.dst = some d)
    (h : ∀ b w, Own w0 (L ++ [box b T cs]) w → K (a.put (some d) (.pointer (some ⟨b, 0, none⟩))) w) : o.wp P a w K Q := by
  obtain ⟨z, h1, h2⟩ := run_zeroValue (P := P) (T := T) (cs := cs)
  have hrun : (Instr.alloc T true (.tuple #[])).run P w = .ok (.pointer (some ⟨w.heap.size, 0, none⟩)) (w.alloc (.cells cs.toArray T)) := by
    unfold Instr.alloc
    simp [Sem.run_bind, h2, h1, newVar, newRow, newObj, Sem.run, Result.andThen]
  unfold Oper.wp execOp
  simp only [ho, Sem.run_bind, Sem.run_pure, Result.andThen_ok, hrun]
  show K (a.put o.dst _) _
  rw [hd]
  exact h _ _ (hO.addBox T cs)

theorem wp_box_own (hO : Own w0 L w) {T : TypeId} {x : Operand} (ho : o.op = .box T x) {cs : List Value} {v : Value} (hx : a.eval x = v) (hv : v.cells = cs.toArray) {d : Tmp} (hd : o.dst = some d)
    (h : ∀ b w, Own w0 (L ++ [box b T cs]) w → K (a.put (some d) (.pointer (some ⟨b, 0, none⟩))) w) : o.wp P a w K Q := by
  have hrun : (Instr.box T v).run P w = .ok (.pointer (some ⟨w.heap.size, 0, none⟩)) (w.alloc (.cells cs.toArray T)) := by
    unfold Instr.box
    simp [Sem.run_bind, hv, newVar, newRow, newObj, Sem.run, Result.andThen]
  unfold Oper.wp execOp
  simp only [ho, hx, Sem.run_bind, Sem.run_pure, Result.andThen_ok, hrun]
  show K (a.put o.dst _) _
  rw [hd]
  exact h _ _ (hO.addBox T cs)

/-! the same at a list of operations -/

theorem zbd {hw : Region.wanted o (yielded ops a.tmps) = true} (h : o.wp P a w (wpList P ops Q rest) Q) : wpList P ops Q (o :: rest) a w := by
  unfold wpList
  rw [if_pos hw]
  exact .inl h

/-! (to try a law only at an operation of its kind) -/

theorem zaa {d : Option Tmp} {t ty : TypeId} {x : Operand} {pos : String} {aft : Array Edge} {g : Option (Nat × Bool)} (h : wpList P ops Q ({ dst := d, op := .load t x, type := ty, pos := pos, after := aft, guard := g } :: rest) a w) : wpList P ops Q ({ dst := d, op := .load t x, type := ty, pos := pos, after := aft, guard := g } :: rest) a w := h

theorem zab {d : Option Tmp} {t ty : TypeId} {x y : Operand} {pos : String} {aft : Array Edge} {g : Option (Nat × Bool)} (h : wpList P ops Q ({ dst := d, op := .store t x y, type := ty, pos := pos, after := aft, guard := g } :: rest) a w) : wpList P ops Q ({ dst := d, op := .store t x y, type := ty, pos := pos, after := aft, guard := g } :: rest) a w := h

theorem zac {d : Option Tmp} {t ty : TypeId} {pos : String} {aft : Array Edge} {g : Option (Nat × Bool)} (h : wpList P ops Q ({ dst := d, op := .alloc t, type := ty, pos := pos, after := aft, guard := g } :: rest) a w) : wpList P ops Q ({ dst := d, op := .alloc t, type := ty, pos := pos, after := aft, guard := g } :: rest) a w := h

theorem zad {d : Option Tmp} {t ty : TypeId} {x : Operand} {pos : String} {aft : Array Edge} {g : Option (Nat × Bool)} (h : wpList P ops Q ({ dst := d, op := .box t x, type := ty, pos := pos, after := aft, guard := g } :: rest) a w) : wpList P ops Q ({ dst := d, op := .box t x, type := ty, pos := pos, after := aft, guard := g } :: rest) a w := h

theorem wpl_call {d : Option Tmp} {c : Call} {ty : TypeId} {pos : String} {aft : Array Edge} {g : Option (Nat × Bool)} (h : wpList P ops Q ({ dst := d, op := .call c, type := ty, pos := pos, after := aft, guard := g } :: rest) a w) : wpList P ops Q ({ dst := d, op := .call c, type := ty, pos := pos, after := aft, guard := g } :: rest) a w := h

theorem zao {d : Option Tmp} {t ty : TypeId} {n : Nat} {xs : Array (Nat × Operand)} {pos : String} {aft : Array Edge} {g : Option (Nat × Bool)} (h : wpList P ops Q ({ dst := d, op := .buildSlice t n xs, type := ty, pos := pos, after := aft, guard := g } :: rest) a w) : wpList P ops Q ({ dst := d, op := .buildSlice t n xs, type := ty, pos := pos, after := aft, guard := g } :: rest) a w := h

theorem zay {ty : TypeId} {x : Operand} (ho : o.op = .load ty x) (hw : Region.wanted o (yielded ops a.tmps) = true) (hO : Own w0 L w) {b : Nat} (hx : a.eval x = .pointer (some ⟨b, 0, none⟩))
    (k : Nat) {t : TypeId} {cs : List Value} (hk : L[k]? = some (box b t cs)) {n : Nat} [hT : AggT P ty n] (hn : cs.length = n) {a' : Act} (ha : a.put o.dst (.agg cs.toArray) = a') (h : wpList P ops Q rest a' w) : wpList P ops Q (o :: rest) a w :=
  zbd (hw := hw) (zah hO ho hx k hk hn ha h)

theorem zag {ty : TypeId} {x : Operand} (ho : o.op = .load ty x) (hw : Region.wanted o (yielded ops a.tmps) = true) (hO : Own w0 L w) {b i : Nat} (hx : a.eval x = .pointer (some ⟨b, i, none⟩))
    (k : Nat) {t : TypeId} {cs : List Value} (hk : L[k]? = some (box b t cs)) [hT : OneT P ty] {v : Value} (hv : cs[i]? = some v) {a' : Act} (ha : a.put o.dst v = a') (h : wpList P ops Q rest a' w) : wpList P ops Q (o :: rest) a w :=
  zbd (hw := hw) (zae hO ho hx k hk hv ha h)

theorem wpList_store_box {ty : TypeId} {x y : Operand} (ho : o.op = .store ty x y) (hw : Region.wanted o (yielded ops a.tmps) = true) (hO : Own w0 L w) {b : Nat} (hx : a.eval x = .pointer (some ⟨b, 0, none⟩))
    (k : Nat) {t : TypeId} {cs : List Value} (hk : L[k]? = some (box b t cs)) {vs : List Value} (hy : a.eval y = .agg vs.toArray) (hn : vs.length = cs.length) {n : Nat} [hT : AggT P ty n] (hn2 : vs.length = n) (h1 : vs.all (·.oneCell') = true)
    {L' : List Res} (hL : L.set k (box b t vs) = L') (hd : o.dst = none) (h : ∀ w, Own w0 L' w → wpList P ops Q rest a w) : wpList P ops Q (o :: rest) a w :=
  zbd (hw := hw) (zaf hO ho hx k hk hy hn hn2 h1 hL hd h)

theorem wpList_store_field {ty : TypeId} {x y : Operand} (ho : o.op = .store ty x y) (hw : Region.wanted o (yielded ops a.tmps) = true) (hO : Own w0 L w) {b i : Nat} (hx : a.eval x = .pointer (some ⟨b, i, none⟩))
    (k : Nat) {t : TypeId} {cs : List Value} (hk : L[k]? = some (box b t cs)) (hi : i < cs.length) {v : Value} (hy : a.eval y = v) (h1 : v.oneCell' = true) [hT : OneT P ty]
    {L' : List Res} (hL : L.set k (box b t (cs.set i v)) = L') (hd : o.dst = none) (h : ∀ w, Own w0 L' w → wpList P ops Q rest a w) : wpList P ops Q (o :: rest) a w :=
  zbd (hw := hw) (za1 hO ho hx k hk hi hy h1 hL hd h)

theorem wpList_alloc_own {T : TypeId} (ho : o.op = .alloc T) (hw : Region.wanted o (yielded ops a.tmps) = true) (hO : Own w0 L w) {cs : List Value} [hT : ZeroT P T cs] {d : Tmp} (hd : o.dst = some d) {a' : Nat → Act} (ha : ∀ b, a.put (some d) (.pointer (some ⟨b, 0, none⟩)) = a' b)
    (h : ∀ b w, Own w0 (L ++ [box b T cs]) w → wpList P ops Q rest (a' b) w) : wpList P ops Q (o :: rest) a w :=
  zbd (hw := hw) (zbc hO ho hd fun b w hO => by rw [ha b]; exact h b w hO)

theorem wpList_box_own {T : TypeId} {x : Operand} (ho : o.op = .box T x) (hw : Region.wanted o (yielded ops a.tmps) = true) (hO : Own w0 L w) {cs : List Value} (hx : a.eval x = .agg cs.toArray) {d : Tmp} (hd : o.dst = some d) {a' : Nat → Act} (ha : ∀ b, a.put (some d) (.pointer (some ⟨b, 0, none⟩)) = a' b)
    (h : ∀ b w, Own w0 (L ++ [box b T cs]) w → wpList P ops Q rest (a' b) w) : wpList P ops Q (o :: rest) a w :=
  zbd (hw := hw) (wp_box_own hO ho hx rfl hd fun b w hO => by rw [ha b]; exact h b w hO)

/-- (to give a new variable's block a name by its place) -/
theorem nm (q : Nat) {T : TypeId} {cs : List Value} (hq : L.length = q) {G : Nat → World → Prop} (h : ∀ b w, Own w0 (L ++ [box b T cs]) w → G b w) : ∀ b w, Own w0 (L ++ [box b T cs]) w → G b w := h

/-- the end: a struct variable is handed back -/
theorem zan {fn : Func} {R : Ending → World → Prop} {p : Tmp} {ty : TypeId} (hres : fn.results = #[.cell p ty]) (hO : Own w0 L w) {b : Nat} (hp : a.tmps.getD p undef = .pointer (some ⟨b, 0, none⟩))
    (k : Nat) {t : TypeId} {cs : List Value} (hk : L[k]? = some (box b t cs)) {n : Nat} [hT : AggT P ty n] (hn : cs.length = n) (hd : a.defers = []) (hR : R (.returned (.agg cs.toArray)) w) : bodyPost P fn R .ret a w := by
  obtain ⟨d, h1, h2, h3⟩ := hT.of
  subst hn
  refine ⟨hd, _, ?_, hR⟩
  have hl := run_loadVar_mid (P := P) w b 0 ty cs d (hO.range k hk) h1 h2 h3
  have hp' : a.tmps[p]?.getD undef = .pointer (some ⟨b, 0, none⟩) := by rw [← Array.getD_eq_getD_getElem?]; exact hp
  simp [results, hres, hp', asAddr, hl]

end

end Go.Proofs.YtmofcbpabdbjlaaGreat
