/-
  What is proved: what MissingIn says of a vector, in plain Lean, and the item that stands for a truth.
  Condition: none.
-/
import Derived.Test.YtmofcbpabdbjlaaNvA
import Derived.Test.YtmofcbpabdbjlaaLis
namespace Go.Proofs.Ytmofcbpabdbjlaa
set_option maxRecDepth 8000
open Go.RowKit Go.ChangeShapes Go.WideShapes Go.Deep
set_option linter.unusedVariables false
set_option linter.unusedSimpArgs false

def misP (p : VT) : Bool := if p.items.length = 1 then misB (p.items.getD 0 ⟨0, 1, ⟨#[]⟩⟩) else false
def b2i (b : Bool) : Int := if b then 1 else 0
def msI (b : Bool) : It := ⟨b2i b, 1, ⟨#[]⟩⟩
def msB (t : VT) : List Bool := if t.kind = 5 then [false] else t.items.map misB ++ t.parts.map misP
def msT (t : VT) : VT := if isV t then vecN 1 ((msB t).map msI) t.names else vecI 0 []
def msS (t : VT) : ByteArray := if isV t then ⟨#[]⟩ else badS

theorem lgI_b2i (b : Bool) : lgI (b2i b) = msI b := by cases b <;> rfl

theorem lL_part {n : Nat} : ∀ {ps : List VT}, lL n ps = true → ∀ p ∈ ps, nodeB p = true := by
  intro ps
  induction ps with
  | nil => intro _ p hp; simp at hp
  | cons q qs ih =>
    intro h p hp
    simp only [lL, Bool.and_eq_true] at h
    rcases List.mem_cons.1 hp with rfl | hp
    · have h2 := h.1.2
      obtain ⟨k, is, ps, ns, cs, ls, c, e⟩ := p
      simp only [lB, Bool.and_eq_true] at h2
      exact h2.1
    · exact ih h.2 p hp

theorem isV_part {k : Int} {is : List It} {ps : List VT} {ns cs ls : List ByteArray} {c e : Int} (h : isV (.mk k is ps ns cs ls c e) = true) {p : VT} (hp : p ∈ ps) : ∀ x ∈ p.items, misB x = decide (x.den = 0) := by
  unfold isV at h
  simp only [Bool.and_eq_true] at h
  have h1 := h.1
  unfold lB at h1
  simp only [Bool.and_eq_true] at h1
  have h2 := lL_part h1.2 p hp
  obtain ⟨xk, xi, xp, xn, xc, xl, xo, xe⟩ := p
  unfold nodeB at h2
  simp only [Bool.and_eq_true] at h2
  intro x hx
  have h3 := List.all_eq_true.1 h2.2 x hx
  unfold itB at h3
  simp only [Bool.and_eq_true] at h3
  exact item_den h3.1.2

theorem isV_item {k : Int} {is : List It} {ps : List VT} {ns cs ls : List ByteArray} {c e : Int} (h : isV (.mk k is ps ns cs ls c e) = true) : ∀ x ∈ is, misB x = decide (x.den = 0) := by
  intro x hx
  have h3 := (isV_facts h).2.2.2.2.2.2.2.1 x hx
  unfold itB at h3
  simp only [Bool.and_eq_true] at h3
  exact item_den h3.1.2

theorem itc_snocM {α : Type} (X : List It) (f : α → It) {l : List α} {k : Nat} (h : k < l.length) : itc (X ++ (l.take (k + 1)).map f) = itc (X ++ (l.take k).map f) ++ itc1 (f l[k]) := by
  rw [take_snoc' h, List.map_append, ← List.append_assoc, itc_app]
  simp [itc]

theorem impl_boolItem (b : Bool) (w : World) : Calls Try.prog 94 #[.bool b] w fun e w' => e = .returned (.agg #[.int .i64 (b2i b), .int .i64 1, .string ⟨#[]⟩]) ∧ Below w.heap.size w w' := by
  cases b
  · go_enter Try.func94, Try.ntmps94
    have hO := Own.nil w
    go_wp2_with (first
      | ((with_reducible refine wpl_alloc ?_); refine wpList_alloc_own rfl (by rfl) hO rfl (fun b => by simp only [Act.put, zA, zB, zC]; rfl) ?_; (refine nm 0 rfl ?_; clear hO; intro b0 u hO); simp only [zL, zK] at hO)
      | ((with_reducible refine wpl_store ?_); refine wpList_store_box rfl (by rfl) hO rfl _ (by exact at0) rfl (by rfl) (by rfl) (by rfl) (by rfl) (by rfl) ?_; clear hO; intro u hO; simp only [zC, zB] at hO)
      | fail)
    exact ret_box rfl hO rfl 0 at0 rfl rfl ⟨rfl, hO.below⟩
  · go_enter Try.func94, Try.ntmps94
    have hO := Own.nil w
    go_wp2_with (first
      | ((with_reducible refine wpl_alloc ?_); refine wpList_alloc_own rfl (by rfl) hO rfl (fun b => by simp only [Act.put, zA, zB, zC]; rfl) ?_; (refine nm 0 rfl ?_; clear hO; intro b0 u hO); simp only [zL, zK] at hO)
      | ((with_reducible refine wpl_store ?_); refine wpList_store_box rfl (by rfl) hO rfl _ (by exact at0) rfl (by rfl) (by rfl) (by rfl) (by rfl) (by rfl) ?_; clear hO; intro u hO; simp only [zC, zB] at hO)
      | fail)
    exact ret_box rfl hO rfl 0 at0 rfl rfl ⟨rfl, hO.below⟩

end Go.Proofs.Ytmofcbpabdbjlaa
