/-
  What is proved: what lies in the blocks that a call made itself, as a list of things that are kept apart.
  No condition.
-/
import Derived.Below
import Derived.Laws.OwnMore
import Derived.Laws.Rows
namespace Go.Proofs.Ytmofcbpabdbjlaa
set_option maxRecDepth 8000
open Go Go.RowKit

/-! short names -/
theorem zA {α : Type _} (l : List α) (i : Nat) (a : α) : l.toArray.setIfInBounds i a = (l.set i a).toArray := List.setIfInBounds_toArray l i a
theorem zB {α : Type _} {x : α} {xs : List α} {n : Nat} {a : α} : (x :: xs).set (n + 1) a = x :: xs.set n a := rfl
theorem zC {α : Type _} {x : α} {xs : List α} {a : α} : (x :: xs).set 0 a = a :: xs := rfl
theorem zD {α : Type _} {x : α} {xs : List α} {i : Nat} : (x :: xs)[i + 1]? = xs[i]? := rfl
theorem zE {α : Type _} {x : α} {xs : List α} : (x :: xs)[0]? = some x := rfl
theorem zF {α : Type _} {xs : List α} {i : Nat} : xs.toArray[i]? = xs[i]? := List.getElem?_toArray
theorem zG {α : Type _} {x : α} {xs : List α} {i : Nat} (h : i + 1 < (x :: xs).length) : (x :: xs)[i + 1] = xs[i]'(Nat.lt_of_succ_lt_succ h) := rfl
theorem zH {α : Type _} {x : α} {xs : List α} {h : 0 < (x :: xs).length} : (x :: xs)[0] = x := rfl
theorem zI {α : Type _} {xs : List α} {i : Nat} (h : i < xs.toArray.size) : xs.toArray[i] = xs[i]'(by simpa using h) := rfl
theorem zJ {α : Type _} (xs : Array α) (i : Nat) (d : α) : xs.getD i d = xs[i]?.getD d := Array.getD_eq_getD_getElem? ..
theorem zK {α : Type _} {a : α} {as bs : List α} : a :: as ++ bs = a :: (as ++ bs) := rfl
theorem zL {α : Type _} (as : List α) : [] ++ as = as := rfl
theorem zM {n m : Nat} (h : Nat.ble n m = true) : n ≤ m := Nat.le_of_ble_eq_true h
theorem zN {α β : Type _} {f : α → Option β} {a : α} {l : List α} : (a :: l).filterMap f = match f a with | none => l.filterMap f | some b => b :: l.filterMap f := List.filterMap_cons
theorem zO {α β : Type _} {f : α → Option β} : ([] : List α).filterMap f = [] := rfl
theorem zP {α : Type _} {a b : α} : (some a).getD b = a := rfl
theorem zQ {α : Type _} {x : α} {xs : List α} {i : Nat} {d : α} : (x :: xs).getD (i + 1) d = xs.getD i d := rfl
theorem zR {α : Type _} {x : α} {xs : List α} {d : α} : (x :: xs).getD 0 d = x := rfl
theorem zS {α β : Type _} (a : α) (f : α → Option β) : (some a).bind f = f a := rfl

/-- a thing that lies in the blocks 'foot': what it says hangs on those alone -/
structure Res where
  foot : Nat → Prop
  holds : World → Prop
  loc : ∀ w w' : World, (∀ b, foot b → w'.heap[b]? = w.heap[b]?) → holds w → holds w'

/-- the call began in w0; the things L lie in blocks that it made itself, none in two of them -/
structure Own (w0 : World) (L : List Res) (w : World) : Prop where
  below : Below w0.heap.size w0 w
  holds : ∀ r ∈ L, r.holds w
  lo : ∀ r ∈ L, ∀ b, r.foot b → w0.heap.size ≤ b ∧ b < w.heap.size
  sep : L.Pairwise fun r s => ∀ b, r.foot b → ¬ s.foot b

/-- a block that is known whole -/
def box (b : Nat) (t : TypeId) (cs : List Value) : Res where
  foot := fun k => k = b
  holds := fun w => w.heap[b]? = some (.cells cs.toArray t (0, 0))
  loc := fun w w' h hw => by rw [h b rfl]; exact hw

/-- a row that a slice owns -/
def row (e : TypeId) (size : Nat) (v : Value) (n : Nat) (xs : List Value) : Res where
  foot := fun k => v.ownBlock = some k
  holds := fun w => w.ownsRow 0 e size v n xs
  loc := fun w w' h hw => by
    obtain ⟨h1, h2⟩ := hw
    refine ⟨h1, ?_⟩
    rcases h2 with h2 | ⟨g, cap, cur, hv, hg, hh, r⟩
    · exact Or.inl h2
    · exact Or.inr ⟨g, cap, cur, hv, hg, by rw [h g (by rw [hv]; rfl)]; exact hh, r⟩

section
variable {w0 w w' : World} {L : List Res}

theorem Own.nil (w0 : World) : Own w0 [] w0 := ⟨Below.refl _ _, by simp, by simp, .nil⟩

theorem Own.step (h : Own w0 L w) (hb : Below w.heap.size w w') : Own w0 L w' :=
  ⟨h.below.trans (hb.mono h.below.size), fun r hr => r.loc w w' (fun b hf => hb.block b (h.lo r hr b hf).2) (h.holds r hr),
    fun r hr b hf => ⟨(h.lo r hr b hf).1, Nat.lt_of_lt_of_le (h.lo r hr b hf).2 hb.size⟩, h.sep⟩

theorem Own.drew (h : Own w0 L w) : Own w0 L w.drew := h.step ((Below.refl _ _).drew)

theorem Own.add (h : Own w0 L w) (hb : Below w.heap.size w w') (r : Res) (hr : r.holds w') (hf : ∀ b, r.foot b → w.heap.size ≤ b ∧ b < w'.heap.size) : Own w0 (r :: L) w' := by
  have h' := h.step hb
  refine ⟨h'.below, fun s hs => ?_, fun s hs b hsb => ?_, List.pairwise_cons.2 ⟨fun s hs b hrb hsb => ?_, h.sep⟩⟩
  · rcases List.mem_cons.1 hs with rfl | hs
    · exact hr
    · exact h'.holds s hs
  · rcases List.mem_cons.1 hs with rfl | hs
    · exact ⟨Nat.le_trans h.below.size (hf b hsb).1, (hf b hsb).2⟩
    · exact h'.lo s hs b hsb
  · have := (hf b hrb).1
    have := (h.lo s hs b hsb).2
    omega

theorem Own.alloc (h : Own w0 L w) (t : TypeId) (cs : List Value) : Own w0 (box w.heap.size t cs :: L) (w.alloc (.cells cs.toArray t)) :=
  h.add ((Below.refl _ _).alloc (Nat.le_refl _) _) _ (heap_alloc_new w _) (fun b hb => by
    have : b = w.heap.size := hb
    subst this
    exact ⟨Nat.le_refl _, by simp⟩)

theorem Own.alloc' (h : Own w0 L w) {n : Nat} {t : TypeId} {cs : List Value} (hn : w.heap.size = n) : Own w0 (box n t cs :: L) (w.alloc (.cells cs.toArray t)) := hn ▸ h.alloc t cs

/-- the walk goes on from whatever world the things lie in -/
theorem Own.go {P : Program} {c : Code} {Q : Exit → Act → World → Prop} {a : Act} (h : Own w0 L w) (k : ∀ w, Own w0 L w → c.wp P Q a w) : c.wp P Q a w := k w h

theorem Own.sub {L' : List Res} (h : Own w0 L w) (hs : L'.Sublist L) : Own w0 L' w :=
  ⟨h.below, fun r hr => h.holds r (hs.subset hr), fun r hr => h.lo r (hs.subset hr), h.sep.sublist hs⟩

theorem Own.perm {L' : List Res} (h : Own w0 L w) (hs : L.Perm L') : Own w0 L' w :=
  ⟨h.below, fun r hr => h.holds r (hs.symm.subset hr), fun r hr => h.lo r (hs.symm.subset hr),
    hs.pairwise h.sep (fun hxy b hb hx => hxy b hx hb)⟩

/-- the first thing is turned; what else lies there is as it was -/
theorem Own.turn {r r' : Res} (h : Own w0 (r :: L) w) (hos : w'.os = w.os) (htape : w'.tape = w.tape) (hout : w'.output = w.output) (hsz : w.heap.size ≤ w'.heap.size)
    (hblk : ∀ b, b < w.heap.size → ¬ r.foot b → w'.heap[b]? = w.heap[b]?) (hr : r'.holds w') (hf : ∀ b, r'.foot b → r.foot b ∨ (w.heap.size ≤ b ∧ b < w'.heap.size)) : Own w0 (r' :: L) w' := by
  obtain ⟨hb, hh, hl, hs⟩ := h
  obtain ⟨hs1, hs2⟩ := List.pairwise_cons.1 hs
  have hbel : Below w0.heap.size w0 w' := hb.trans ⟨hos, htape, hout, hsz, fun b hb0 => hblk b (Nat.lt_of_lt_of_le hb0 hb.size) (fun hrb => by have := (hl r (List.mem_cons_self) b hrb).1; omega)⟩
  refine ⟨hbel, fun s hs => ?_, fun s hs b hsb => ?_, List.pairwise_cons.2 ⟨fun s hsm b hrb hsb => ?_, hs2⟩⟩
  · rcases List.mem_cons.1 hs with rfl | hsm
    · exact hr
    · exact s.loc w w' (fun b hsb => hblk b (hl s (List.mem_cons_of_mem _ hsm) b hsb).2 (fun hrb => hs1 s hsm b hrb hsb)) (hh s (List.mem_cons_of_mem _ hsm))
  · rcases List.mem_cons.1 hs with rfl | hsm
    · rcases hf b hsb with h1 | h1
      · have := hl r (List.mem_cons_self) b h1
        omega
      · exact ⟨Nat.le_trans hb.size h1.1, h1.2⟩
    · have := hl s (List.mem_cons_of_mem _ hsm) b hsb
      omega
  · rcases hf b hrb with h1 | h1
    · exact hs1 s hsm b h1 hsb
    · have := (hl s (List.mem_cons_of_mem _ hsm) b hsb).2
      omega

theorem perm_erase {α : Type} : ∀ (l : List α) (k : Nat) (hk : k < l.length), (l[k] :: l.eraseIdx k).Perm l
  | [], _, h => by simp at h
  | x :: l, 0, _ => List.Perm.refl _
  | x :: l, k + 1, h => by
    have ih := perm_erase l k (by simpa using h)
    simp only [List.getElem_cons_succ, List.eraseIdx_cons_succ]
    exact (List.Perm.swap x _ _).trans (ih.cons x)

/-- the same at place k -/
theorem Own.at_ (h : Own w0 L w) (k : Nat) {r r' : Res} (hk : L[k]? = some r) (turn : ∀ L', Own w0 (r :: L') w → Own w0 (r' :: L') w') : Own w0 (L.set k r') w' := by
  have hlt : k < L.length := (List.getElem?_eq_some_iff.1 hk).1
  have hr : L[k] = r := (List.getElem?_eq_some_iff.1 hk).2
  have hp : L.Perm (r :: L.eraseIdx k) := by
    have := (perm_erase L k hlt).symm
    rw [hr] at this
    exact this
  have h2 := turn _ (h.perm hp)
  refine h2.perm ?_
  have hlt' : k < (L.set k r').length := by rw [List.length_set]; exact hlt
  have := perm_erase (L.set k r') k hlt'
  rw [List.getElem_set_self, List.eraseIdx_set_eq] at this
  exact this

/-- a store into a cell of a block that is known whole -/
theorem Own.store (h : Own w0 L w) (k : Nat) {b : Nat} {t : TypeId} {cs : List Value} (hk : L[k]? = some (box b t cs)) (i : Nat) (v : Value) :
    Own w0 (L.set k (box b t (cs.set i v))) (w.setCell ⟨b, i, none⟩ v) :=
  h.at_ k hk fun L' h' => by
    have hb : w.heap[b]? = some (.cells cs.toArray t (0, 0)) := h'.holds _ (List.mem_cons_self)
    refine h'.turn rfl rfl rfl (by simp [World.setCell]) (fun c _ hc => Below.heap_setCell _ _ _ _ (fun e => hc e)) ?_ (fun c hc => .inl hc)
    show (w.setCell ⟨b, i, none⟩ v).heap[b]? = _
    simp only [World.setCell, Array.getElem?_modify, if_true, hb]
    simp

theorem Own.get (h : Own w0 L w) (k : Nat) {r : Res} (hk : L[k]? = some r) : r.holds w := h.holds r (List.mem_of_getElem? hk)

theorem Own.cell (h : Own w0 L w) (k : Nat) {b : Nat} {t : TypeId} {cs : List Value} (hk : L[k]? = some (box b t cs)) (i : Nat) : w.cell? ⟨b, i, none⟩ = cs[i]? := by
  have := h.get k hk
  rw [cell_of_row w b i cs.toArray t (0, 0) this]
  simp
theorem Own.mark (h : Own w0 L w) (k : Nat) {b : Nat} {t : TypeId} {cs : List Value} (hk : L[k]? = some (box b t cs)) (i : Nat) : w.frozen? ⟨b, i, none⟩ = false := by
  have : w.heap[b]? = some (.cells cs.toArray t (0, 0)) := h.get k hk
  simp [World.frozen?, this]
theorem Own.lt (h : Own w0 L w) (k : Nat) {b : Nat} {t : TypeId} {cs : List Value} (hk : L[k]? = some (box b t cs)) : w0.heap.size ≤ b ∧ b < w.heap.size :=
  h.lo _ (List.mem_of_getElem? hk) b rfl
theorem Own.ne (h : Own w0 L w) (k j : Nat) {b c : Nat} {t u : TypeId} {cs ds : List Value} (hk : L[k]? = some (box b t cs)) (hj : L[j]? = some (box c u ds)) (hkj : k ≠ j) : b ≠ c := by
  rintro rfl
  have hp := List.pairwise_iff_getElem.1 h.sep
  obtain ⟨h1, e1⟩ := List.getElem?_eq_some_iff.1 hk
  obtain ⟨h2, e2⟩ := List.getElem?_eq_some_iff.1 hj
  rcases Nat.lt_or_gt_of_ne hkj with hlt | hlt
  · have := hp k j h1 h2 hlt b
    rw [e1, e2] at this
    exact this rfl rfl
  · have := hp j k h2 h1 hlt b
    rw [e1, e2] at this
    exact this rfl rfl
/-- a cell of the caller's memory reads as at the start -/
theorem Own.old (h : Own w0 L w) {b o : Nat} (hb : b < w0.heap.size) : w.cell? ⟨b, o, none⟩ = w0.cell? ⟨b, o, none⟩ := h.below.cell (p := ⟨b, o, none⟩) hb
end
end Go.Proofs.Ytmofcbpabdbjlaa
