/-
  What is proved: what MissingIn says of a vector, in plain Lean, and the item that stands for a truth. what fits, tidyNames (program) and l4Fit, l4Clean (reference) return: the bound on a result, and names that are all empty. plain facts on copies of lists of vectors (the reference marks what is not valid), and on lists of vectors.
  Condition: none. Condition: vectors of size at most 1048576.
-/
import Derived.Test.YtmofcbpabdbjlaaNvA
import Derived.Test.YtmofcbpabdbjlaaLis
namespace Go.Proofs.Ytmofcbpabdbjlaa
set_option maxRecDepth 8000

section
open Go.RowKit Go.ChangeShapes Go.WideShapes Go.Deep
set_option linter.unusedVariables false
set_option linter.unusedSimpArgs false

def misP (p : VT) : Bool := if p.items.length = 1 then misB (p.items.getD 0 ⟨0, 1, ⟨#[]⟩⟩) else false
def b2i (b : Bool) : Int := if b then 1 else 0
def msI (b : Bool) : It := ⟨b2i b, 1, ⟨#[]⟩⟩
def msB (t : VT) : List Bool := if t.kind = 5 then [false] else t.items.map misB ++ t.parts.map misP
def msT (t : VT) : VT := if isV t then vecN 1 ((msB t).map msI) t.names else vecI 0 []
def msS (t : VT) : ByteArray := if isV t then ⟨#[]⟩ else badS

theorem lgI_b2i (b : Bool) : lgI (b2i b) = msI b := by cases b <;> rfl

theorem lL_part {n : Nat} : ∀ {ps : List VT}, lL n ps = true → ∀ p ∈ ps, nodeB p = true := by
  intro ps
  induction ps with
  | nil => intro _ p hp; simp at hp
  | cons q qs ih =>
    intro h p hp
    simp only [lL, Bool.and_eq_true] at h
    rcases List.mem_cons.1 hp with rfl | hp
    · have h2 := h.1.2
      obtain ⟨k, is, ps, ns, cs, ls, c, e⟩ := p
      simp only [lB, Bool.and_eq_true] at h2
      exact h2.1
    · exact ih h.2 p hp

theorem isV_part {k : Int} {is : List It} {ps : List VT} {ns cs ls : List ByteArray} {c e : Int} (h : isV (.mk k is ps ns cs ls c e) = true) {p : VT} (hp : p ∈ ps) : ∀ x ∈ p.items, misB x = decide (x.den = 0) := by
  unfold isV at h
  simp only [Bool.and_eq_true] at h
  have h1 := h.1
  unfold lB at h1
  simp only [Bool.and_eq_true] at h1
  have h2 := lL_part h1.2 p hp
  obtain ⟨xk, xi, xp, xn, xc, xl, xo, xe⟩ := p
  unfold nodeB at h2
  simp only [Bool.and_eq_true] at h2
  intro x hx
  have h3 := List.all_eq_true.1 h2.2 x hx
  unfold itB at h3
  simp only [Bool.and_eq_true] at h3
  exact item_den h3.1.2

theorem isV_item {k : Int} {is : List It} {ps : List VT} {ns cs ls : List ByteArray} {c e : Int} (h : isV (.mk k is ps ns cs ls c e) = true) : ∀ x ∈ is, misB x = decide (x.den = 0) := by
  intro x hx
  have h3 := (isV_facts h).2.2.2.2.2.2.2.1 x hx
  unfold itB at h3
  simp only [Bool.and_eq_true] at h3
  exact item_den h3.1.2

theorem itc_snocM {α : Type} (X : List It) (f : α → It) {l : List α} {k : Nat} (h : k < l.length) : itc (X ++ (l.take (k + 1)).map f) = itc (X ++ (l.take k).map f) ++ itc1 (f l[k]) := by
  rw [take_snoc' h, List.map_append, ← List.append_assoc, itc_app]
  simp [itc]

theorem impl_boolItem (b : Bool) (w : World) : Calls Try.prog 94 #[.bool b] w fun e w' => e = .returned (.agg #[.int .i64 (b2i b), .int .i64 1, .string ⟨#[]⟩]) ∧ Below w.heap.size w w' := by
  cases b
  · go_enter Try.func94, Try.ntmps94
    have hO := Own.nil w
    go_wp2_with (first
      | ((with_reducible refine wpl_alloc ?_); refine wpList_alloc_own rfl (by rfl) hO rfl (fun b => by simp only [Act.put, zA, zB, zC]; rfl) ?_; (refine nm 0 rfl ?_; clear hO; intro b0 u hO); simp only [zL, zK] at hO)
      | ((with_reducible refine wpl_store ?_); refine wpList_store_box rfl (by rfl) hO rfl _ (by exact at0) rfl (by rfl) (by rfl) (by rfl) (by rfl) (by rfl) ?_; clear hO; intro u hO; simp only [zC, zB] at hO)
      | fail)
    exact ret_box rfl hO rfl 0 at0 rfl rfl ⟨rfl, hO.below⟩
  · go_enter Try.func94, Try.ntmps94
    have hO := Own.nil w
    go_wp2_with (first
      | ((with_reducible refine wpl_alloc ?_); refine wpList_alloc_own rfl (by rfl) hO rfl (fun b => by simp only [Act.put, zA, zB, zC]; rfl) ?_; (refine nm 0 rfl ?_; clear hO; intro b0 u hO); simp only [zL, zK] at hO)
      | ((with_reducible refine wpl_store ?_); refine wpList_store_box rfl (by rfl) hO rfl _ (by exact at0) rfl (by rfl) (by rfl) (by rfl) (by rfl) (by rfl) ?_; clear hO; intro u hO; simp only [zC, zB] at hO)
      | fail)
    exact ret_box rfl hO rfl 0 at0 rfl rfl ⟨rfl, hO.below⟩

end

section
open Go.RowKit Go.ChangeShapes Go.WideShapes Go.Deep
set_option linter.unusedVariables false
set_option linter.unusedSimpArgs false

def bigS : ByteArray := ⟨#[114, 101, 115, 117, 108, 116, 32, 105, 115, 32, 116, 111, 111, 32, 108, 97, 114, 103, 101]⟩
def zero8 : List Value := [.int .i64 0, .slice none 0 0, .slice none 0 0, .slice none 0 0, .slice none 0 0, .slice none 0 0, .int .i64 0, .int .i64 0]
/-- the vector itself with no text, or the empty vector with the text -/
def RetFit (t : VT) (vs : List Value) (w : World) (e : Ending) (w' : World) : Prop := e = .returned (.tuple #[.agg (if isV t then vs else zero8).toArray, .string (if isV t then ⟨#[]⟩ else bigS)]) ∧ Below w.heap.size w w'

theorem impl_fitsG (t : VT) (vs : List Value) (w : World) (hv : RdV w t vs) (hz : szV t ≤ 268435456) : Calls Try.prog 66 #[.agg vs.toArray] w (RetFit t vs w) := by
  have CA := fun u (hb : Below w.heap.size w u) => impl_isVecG t _ u (hv.grow hb) hz
  have HE := Lib.hid (show ∀ e w', RetFit t vs w e w' ↔ (e = .returned (.tuple #[.agg (if isV t then vs else zero8).toArray, .string (if isV t then ⟨#[]⟩ else bigS)]) ∧ Below w.heap.size w w') from fun _ _ => Iff.rfl)
  obtain ⟨q, hq⟩ : ∃ q, isV t = q := ⟨_, rfl⟩
  rw [hq] at CA HE
  obtain ⟨Ai, Ap, An, Ac, Al, ci, cp, cn, cc, cl, rfl⟩ := hv.ex
  clear hv hz hq
  cases q with
  | false =>
    go_enter Try.func66, Try.ntmps66
    have hO := Own.nil w
    go_wp2_with (first
      | ((with_reducible refine (CA _ hO.below).mono ?_); rintro e u ⟨rfl, hb⟩; (replace hO := hO.step hb; clear hb))
      | ((with_reducible refine wpl_alloc ?_); refine wpList_alloc_own rfl (by rfl) hO rfl (fun b => by simp only [Act.put, zA, zB, zC]; rfl) ?_; (refine nm 1 rfl ?_; clear hO; intro b1 u hO); simp only [zL, zK] at hO)
      | ((with_reducible refine wpl_box ?_); refine wpList_box_own rfl (by rfl) hO rfl rfl (fun b => by simp only [Act.put, zA, zB, zC]; rfl) ?_; (refine nm 0 rfl ?_; clear hO; intro b0 u hO); simp only [zL, zK] at hO)
      | ((with_reducible refine wpl_load ?_); refine wpList_load_box rfl (by rfl) hO rfl _ (by exact at0) (by rfl) (by simp only [Act.put, zA, zB, zC]; rfl) ?_)
      | ((with_reducible refine wpl_store ?_); refine wpList_store_box rfl (by rfl) hO rfl _ (by exact at1) rfl (by rfl) (by rfl) (by rfl) (by rfl) (by rfl) ?_; clear hO; intro u hO; simp only [zC, zB] at hO)
      | fail)
    exact ret_box2 rfl hO rfl 1 at1 rfl rfl rfl ((HE.out _ _).2 ⟨rfl, hO.below⟩)
  | true =>
    go_enter Try.func66, Try.ntmps66
    have hO := Own.nil w
    go_wp2_with (first
      | ((with_reducible refine (CA _ hO.below).mono ?_); rintro e u ⟨rfl, hb⟩; (replace hO := hO.step hb; clear hb))
      | ((with_reducible refine wpl_alloc ?_); refine wpList_alloc_own rfl (by rfl) hO rfl (fun b => by simp only [Act.put, zA, zB, zC]; rfl) ?_; (refine nm 1 rfl ?_; clear hO; intro b1 u hO); simp only [zL, zK] at hO)
      | ((with_reducible refine wpl_box ?_); refine wpList_box_own rfl (by rfl) hO rfl rfl (fun b => by simp only [Act.put, zA, zB, zC]; rfl) ?_; (refine nm 0 rfl ?_; clear hO; intro b0 u hO); simp only [zL, zK] at hO)
      | ((with_reducible refine wpl_load ?_); refine wpList_load_box rfl (by rfl) hO rfl _ (by exact at0) (by rfl) (by simp only [Act.put, zA, zB, zC]; rfl) ?_)
      | ((with_reducible refine wpl_store ?_); refine wpList_store_box rfl (by rfl) hO rfl _ (by exact at1) rfl (by rfl) (by rfl) (by rfl) (by rfl) (by rfl) ?_; clear hO; intro u hO; simp only [zC, zB] at hO)
      | fail)
    exact ret_box2 rfl hO rfl 1 at1 rfl rfl rfl ((HE.out _ _).2 ⟨rfl, hO.below⟩)

theorem impl_fits (t : VT) (vs : List Value) (w : World) (hv : RdV w t vs) (hz : szV t ≤ 1048576) : Calls Try.prog 66 #[.agg vs.toArray] w (RetFit t vs w) := impl_fitsG t vs w hv (Nat.le_trans hz (by decide))

theorem spec_fitG (t : VT) (vs : List Value) (w : World) (hv : RdV w t vs) (hz : szV t ≤ 268435456) : Calls Try.prog 61 #[.agg vs.toArray] w (RetFit t vs w) := by
  have CA := fun u (hb : Below w.heap.size w u) => spec_isVecG t _ u (hv.grow hb) hz
  have HE := Lib.hid (show ∀ e w', RetFit t vs w e w' ↔ (e = .returned (.tuple #[.agg (if isV t then vs else zero8).toArray, .string (if isV t then ⟨#[]⟩ else bigS)]) ∧ Below w.heap.size w w') from fun _ _ => Iff.rfl)
  obtain ⟨q, hq⟩ : ∃ q, isV t = q := ⟨_, rfl⟩
  rw [hq] at CA HE
  obtain ⟨Ai, Ap, An, Ac, Al, ci, cp, cn, cc, cl, rfl⟩ := hv.ex
  clear hv hz hq
  cases q with
  | false =>
    go_enter Try.func61, Try.ntmps61
    have hO := Own.nil w
    go_wp2_with (first
      | ((with_reducible refine (CA _ hO.below).mono ?_); rintro e u ⟨rfl, hb⟩; (replace hO := hO.step hb; clear hb))
      | ((with_reducible refine wpl_alloc ?_); refine wpList_alloc_own rfl (by rfl) hO rfl (fun b => by simp only [Act.put, zA, zB, zC]; rfl) ?_; (refine nm 1 rfl ?_; clear hO; intro b1 u hO); simp only [zL, zK] at hO)
      | ((with_reducible refine wpl_box ?_); refine wpList_box_own rfl (by rfl) hO rfl rfl (fun b => by simp only [Act.put, zA, zB, zC]; rfl) ?_; (refine nm 0 rfl ?_; clear hO; intro b0 u hO); simp only [zL, zK] at hO)
      | ((with_reducible refine wpl_load ?_); refine wpList_load_box rfl (by rfl) hO rfl _ (by exact at0) (by rfl) (by simp only [Act.put, zA, zB, zC]; rfl) ?_)
      | ((with_reducible refine wpl_store ?_); refine wpList_store_box rfl (by rfl) hO rfl _ (by exact at1) rfl (by rfl) (by rfl) (by rfl) (by rfl) (by rfl) ?_; clear hO; intro u hO; simp only [zC, zB] at hO)
      | fail)
    exact ret_box2 rfl hO rfl 1 at1 rfl rfl rfl ((HE.out _ _).2 ⟨rfl, hO.below⟩)
  | true =>
    go_enter Try.func61, Try.ntmps61
    have hO := Own.nil w
    go_wp2_with (first
      | ((with_reducible refine (CA _ hO.below).mono ?_); rintro e u ⟨rfl, hb⟩; (replace hO := hO.step hb; clear hb))
      | ((with_reducible refine wpl_alloc ?_); refine wpList_alloc_own rfl (by rfl) hO rfl (fun b => by simp only [Act.put, zA, zB, zC]; rfl) ?_; (refine nm 1 rfl ?_; clear hO; intro b1 u hO); simp only [zL, zK] at hO)
      | ((with_reducible refine wpl_box ?_); refine wpList_box_own rfl (by rfl) hO rfl rfl (fun b => by simp only [Act.put, zA, zB, zC]; rfl) ?_; (refine nm 0 rfl ?_; clear hO; intro b0 u hO); simp only [zL, zK] at hO)
      | ((with_reducible refine wpl_load ?_); refine wpList_load_box rfl (by rfl) hO rfl _ (by exact at0) (by rfl) (by simp only [Act.put, zA, zB, zC]; rfl) ?_)
      | ((with_reducible refine wpl_store ?_); refine wpList_store_box rfl (by rfl) hO rfl _ (by exact at1) rfl (by rfl) (by rfl) (by rfl) (by rfl) (by rfl) ?_; clear hO; intro u hO; simp only [zC, zB] at hO)
      | fail)
    exact ret_box2 rfl hO rfl 1 at1 rfl rfl rfl ((HE.out _ _).2 ⟨rfl, hO.below⟩)

theorem spec_fit (t : VT) (vs : List Value) (w : World) (hv : RdV w t vs) (hz : szV t ≤ 1048576) : Calls Try.prog 61 #[.agg vs.toArray] w (RetFit t vs w) := spec_fitG t vs w hv (Nat.le_trans hz (by decide))

/-- names that are all empty are dropped -/
def tdN (ns : List ByteArray) : List ByteArray := if allE ns then [] else ns
def RetTidy (k : Int) (Ai Ap An Ac Al : Option Addr) (ni ci np cp cn nc cc nl cl : Nat) (c e' : Int) (ns : List ByteArray) (w : World) (e : Ending) (w' : World) : Prop :=
  ∃ A c', e = .returned (.agg #[.int .i64 k, .slice Ai ni ci, .slice Ap np cp, .slice A (tdN ns).length c', .slice Ac nc cc, .slice Al nl cl, .int .i64 c, .int .i64 e']) ∧ ((allE ns = true ∧ Own w [row 9 1 (.slice A 0 c') 0 []] w') ∨ (allE ns = false ∧ A = An ∧ c' = cn ∧ Below w.heap.size w w'))

theorem impl_tidy (k : Int) (Ai Ap An Ac Al : Option Addr) (ni ci np cp cn nc cc nl cl : Nat) (c e' : Int) (ns : List ByteArray) (w : World) (h : Sl w 1 An ns.length (stc ns)) (hn : ns.length ≤ 1048576) :
    Calls Try.prog 67 #[.agg #[.int .i64 k, .slice Ai ni ci, .slice Ap np cp, .slice An ns.length cn, .slice Ac nc cc, .slice Al nl cl, .int .i64 c, .int .i64 e']] w (RetTidy k Ai Ap An Ac Al ni ci np cp cn nc cc nl cl c e' ns w) := by
  have CE := fun u (hb : Below w.heap.size w u) => impl_allEmpty An cn ns u (h.below hb) (by omega)
  obtain ⟨q, hq⟩ : ∃ q, allE ns = q := ⟨_, rfl⟩
  rw [hq] at CE
  cases q with
  | true =>
    have HF : Hid (tdN ns = []) := Lib.hid (if_pos hq)
    have HQ := Lib.hid hq
    clear hq
    go_enter Try.func67, Try.ntmps67
    have hO := Own.nil w
    go_wp2_with (first
      | ((with_reducible refine (CE _ hO.below).mono ?_); rintro e u ⟨rfl, hb⟩; subst hb)
      | ((with_reducible refine wpl_alloc ?_); refine wpList_alloc_own rfl (by rfl) hO rfl (fun b => by simp only [Act.put, zA, zB, zC]; rfl) ?_; (refine nm 1 rfl ?_; clear hO; intro b1 u hO); simp only [zL, zK] at hO)
      | ((with_reducible refine wpl_box ?_); refine wpList_box_own rfl (by rfl) hO rfl rfl (fun b => by simp only [Act.put, zA, zB, zC]; rfl) ?_; (refine nm 0 rfl ?_; clear hO; intro b0 u hO); simp only [zL, zK] at hO)
      | ((with_reducible refine wpl_load ?_); refine wpList_load_box rfl (by rfl) hO rfl _ (by exact at0) (by rfl) (by simp only [Act.put, zA, zB, zC]; rfl) ?_)
      | ((with_reducible refine wpl_load ?_); refine wpList_load_field rfl (by rfl) hO rfl _ (by exact at0) (by rfl) (by simp only [Act.put, zA, zB, zC]; rfl) ?_)
      | ((with_reducible refine wpl_store ?_); refine wpList_store_box rfl (by rfl) hO rfl _ (by exact at1) rfl (by rfl) (by rfl) (by rfl) (by rfl) (by rfl) ?_; clear hO; intro u hO; simp only [zC, zB] at hO)
      | ((with_reducible refine wpl_store ?_); refine wpList_store_field rfl (by rfl) hO rfl _ (by exact at0) (zM rfl) (by simp only [Act.eval, zJ, zF, zD, zE, zP]; rfl) (by rfl) (by rfl) (by rfl) ?_; clear hO; intro u hO; simp only [zC, zB] at hO)
      | fail)
    have hR := (hO.addNil 9 1).pick [2] (by decide)
    simp only [List.cons_append, List.nil_append, List.filterMap_cons, List.filterMap_nil, List.getElem?_cons_zero, List.getElem?_cons_succ] at hR
    exact ret_box rfl hO rfl 1 at1 rfl rfl ⟨none, 0, by rw [HF.out]; rfl, .inl ⟨HQ.out, hR⟩⟩
  | false =>
    have HF : Hid (tdN ns = ns) := Lib.hid (if_neg (by rw [hq]; decide))
    have HQ := Lib.hid hq
    clear hq
    go_enter Try.func67, Try.ntmps67
    have hO := Own.nil w
    go_wp2_with (first
      | ((with_reducible refine (CE _ hO.below).mono ?_); rintro e u ⟨rfl, hb⟩; subst hb)
      | ((with_reducible refine wpl_alloc ?_); refine wpList_alloc_own rfl (by rfl) hO rfl (fun b => by simp only [Act.put, zA, zB, zC]; rfl) ?_; (refine nm 1 rfl ?_; clear hO; intro b1 u hO); simp only [zL, zK] at hO)
      | ((with_reducible refine wpl_box ?_); refine wpList_box_own rfl (by rfl) hO rfl rfl (fun b => by simp only [Act.put, zA, zB, zC]; rfl) ?_; (refine nm 0 rfl ?_; clear hO; intro b0 u hO); simp only [zL, zK] at hO)
      | ((with_reducible refine wpl_load ?_); refine wpList_load_box rfl (by rfl) hO rfl _ (by exact at0) (by rfl) (by simp only [Act.put, zA, zB, zC]; rfl) ?_)
      | ((with_reducible refine wpl_load ?_); refine wpList_load_field rfl (by rfl) hO rfl _ (by exact at0) (by rfl) (by simp only [Act.put, zA, zB, zC]; rfl) ?_)
      | ((with_reducible refine wpl_store ?_); refine wpList_store_box rfl (by rfl) hO rfl _ (by exact at1) rfl (by rfl) (by rfl) (by rfl) (by rfl) (by rfl) ?_; clear hO; intro u hO; simp only [zC, zB] at hO)
      | fail)
    exact ret_box rfl hO rfl 1 at1 rfl rfl ⟨An, cn, by rw [HF.out], .inr ⟨HQ.out, rfl, rfl, hO.below⟩⟩

set_option maxHeartbeats 1000000 in
theorem spec_clean (k : Int) (Ai Ap An Ac Al : Option Addr) (ni ci np cp cn nc cc nl cl : Nat) (c e' : Int) (ns : List ByteArray) (w : World) (h : Sl w 1 An ns.length (stc ns)) (hn : ns.length ≤ 1048576) :
    Calls Try.prog 62 #[.agg #[.int .i64 k, .slice Ai ni ci, .slice Ap np cp, .slice An ns.length cn, .slice Ac nc cc, .slice Al nl cl, .int .i64 c, .int .i64 e']] w (RetTidy k Ai Ap An Ac Al ni ci np cp cn nc cc nl cl c e' ns w) := by
  go_enter Try.func62, Try.ntmps62
  have hO := Own.nil w
  go_wp2_with (first
    | ((with_reducible refine wpl_alloc ?_); refine wpList_alloc_own rfl (by rfl) hO rfl (fun b => by simp only [Act.put, zA, zB, zC]; rfl) ?_; (refine nm 1 rfl ?_; clear hO; intro b1 u hO); simp only [zL, zK] at hO)
    | ((with_reducible refine wpl_box ?_); refine wpList_box_own rfl (by rfl) hO rfl rfl (fun b => by simp only [Act.put, zA, zB, zC]; rfl) ?_; (refine nm 0 rfl ?_; clear hO; intro b0 u hO); simp only [zL, zK] at hO)
    | fail)
  go_loopw [3] (fun i u => ∃ m : Nat, m ≤ ns.length ∧ i = .int .i64 m ∧ Hid (allE (ns.take m) = true) ∧ Own w [box b0 29 [.int .i64 k, .slice Ai ni ci, .slice Ap np cp, .slice An ns.length cn, .slice Ac nc cc, .slice Al nl cl, .int .i64 c, .int .i64 e'], box b1 29 [.int .i64 0, .slice none 0 0, .slice none 0 0, .slice none 0 0, .slice none 0 0, .slice none 0 0, .int .i64 0, .int .i64 0]] u) (fun i _ => ns.length - (intOf i).toNat)
  case atStart => exact ⟨0, Nat.zero_le _, rfl, rfl, hO⟩
  case round =>
    clear hO
    obtain ⟨m, hm, rfl, hal, hO⟩ := hrel
    by_cases hlt : m < ns.length
    · obtain ⟨b, off, rfl, hb, hc⟩ := h.tx hO.below hlt rfl
      have HT := Lib.hid (allE_take hlt)
      have HF := Lib.hid (fun he => allE_false (l := ns) hlt he)
      obtain ⟨x, hx⟩ : ∃ x, ns[m] = x := ⟨_, rfl⟩
      rw [hx] at hc HT HF
      clear hx
      by_cases he : x.toList = []
      · have he2 : (!x.toList.isEmpty) = false := by simp [he]
        have HE : Hid (emptyB x = true) := Lib.hid (emptyB_iff.2 he)
        go_wp2_with (first
          | ((with_reducible refine wpl_load ?_); refine wpList_load_field rfl (by rfl) hO rfl _ (by exact at0) (by rfl) (by simp only [Act.put, zA, zB, zC]; rfl) ?_)
          | fail)
        go_roundw
        case rel => exact ⟨m + 1, by omega, by go_num, by show _ = _; rw [HT.out, hal.out, HE.out]; rfl, hO⟩
        case measure => simp [intOf]; omega
      · have he2 : (!x.toList.isEmpty) = true := by simp [he]
        have HE := Lib.hid (HF.out (by cases hq : emptyB x with | false => rfl | true => exact absurd (emptyB_iff.1 hq) he))
        have HN : Hid (tdN ns = ns) := Lib.hid (if_neg (by rw [HE.out]; decide))
        go_wp2_with (first
          | ((with_reducible refine wpl_load ?_); refine wpList_load_box rfl (by rfl) hO rfl _ (by exact at0) (by rfl) (by simp only [Act.put, zA, zB, zC]; rfl) ?_)
          | ((with_reducible refine wpl_load ?_); refine wpList_load_field rfl (by rfl) hO rfl _ (by exact at0) (by rfl) (by simp only [Act.put, zA, zB, zC]; rfl) ?_)
          | ((with_reducible refine wpl_store ?_); refine wpList_store_box rfl (by rfl) hO rfl _ (by exact at1) rfl (by rfl) (by rfl) (by rfl) (by rfl) (by rfl) ?_; clear hO; intro u hO; simp only [zC, zB] at hO)
          | fail)
        exact ret_box rfl hO rfl 1 at1 rfl rfl ⟨_, cn, by rw [HN.out], .inr ⟨HE.out, rfl, rfl, hO.below⟩⟩
    · have hmn : m = ns.length := by omega
      subst hmn
      have HQ : Hid (allE ns = true) := Lib.hid (by have := hal.out; rw [List.take_length] at this; exact this)
      have HF : Hid (tdN ns = []) := Lib.hid (if_pos HQ.out)
      clear hal
      go_wp2_with (first
        | ((with_reducible refine wpl_load ?_); refine wpList_load_box rfl (by rfl) hO rfl _ (by exact at0) (by rfl) (by simp only [Act.put, zA, zB, zC]; rfl) ?_)
        | ((with_reducible refine wpl_load ?_); refine wpList_load_field rfl (by rfl) hO rfl _ (by exact at0) (by rfl) (by simp only [Act.put, zA, zB, zC]; rfl) ?_)
        | ((with_reducible refine wpl_store ?_); refine wpList_store_box rfl (by rfl) hO rfl _ (by exact at1) rfl (by rfl) (by rfl) (by rfl) (by rfl) (by rfl) ?_; clear hO; intro u hO; simp only [zC, zB] at hO)
        | ((with_reducible refine wpl_store ?_); refine wpList_store_field rfl (by rfl) hO rfl _ (by exact at0) (zM rfl) (by simp only [Act.eval, zJ, zF, zD, zE, zP]; rfl) (by rfl) (by rfl) (by rfl) ?_; clear hO; intro u hO; simp only [zC, zB] at hO)
        | ((with_reducible refine wpl_build ?_); refine wpList_build_row0 hO rfl (by rfl) rfl (fun b => by simp only [Act.put, zA, zB, zC]; rfl) ?_; clear hO; intro bb u hO; simp only [zL, zK] at hO)
        | fail)
      have hR := hO.pick [2] (by decide)
      simp only [List.filterMap_cons, List.filterMap_nil, List.getElem?_cons_zero, List.getElem?_cons_succ] at hR
      exact ret_box rfl hO rfl 1 at1 rfl rfl ⟨_, 0, by rw [HF.out]; rfl, .inl ⟨HQ.out, hR⟩⟩

end

section
open Go.RowKit Go.ChangeShapes Go.WideShapes Go.Deep
set_option linter.unusedVariables false
set_option linter.unusedSimpArgs false

def badP : VT := .mk (-1) [] [] [] [] [] 0 0
def copP (p : VT) : VT := if lB 3 p then p else badP
def copL (ps : List VT) : List VT := (ps.take 41).map copP

theorem lL_mem {n : Nat} : ∀ {ps : List VT}, lL n ps = true → ∀ p ∈ ps, n ≠ 0 ∧ lB (n - 1) p = true := by
  intro ps
  induction ps with
  | nil => intro _ p hp; simp at hp
  | cons q qs ih =>
    intro h p hp
    simp only [lL, Bool.and_eq_true, decide_eq_true_eq] at h
    rcases List.mem_cons.1 hp with rfl | hp
    · exact h.1
    · exact ih h.2 p hp
theorem lL_of {n : Nat} (hn : n ≠ 0) : ∀ {ps : List VT}, (∀ p ∈ ps, lB (n - 1) p = true) → lL n ps = true := by
  intro ps
  induction ps with
  | nil => intro _; rfl
  | cons q qs ih =>
    intro h
    simp only [lL, Bool.and_eq_true, decide_eq_true_eq]
    exact ⟨⟨hn, h q (List.mem_cons_self)⟩, ih fun p hp => h p (List.mem_cons_of_mem _ hp)⟩
theorem lB_mono (t : VT) : ∀ n, lB n t = true → lB (n + 1) t = true := by
  induction t using VT.ind with
  | _ k is ps ns cs ls c e ih =>
    intro n h
    simp only [lB, Bool.and_eq_true] at h ⊢
    refine ⟨h.1, lL_of (by omega) fun p hp => ?_⟩
    have h2 := lL_mem h.2 p hp
    have := ih p hp (n - 1) h2.2
    rw [show n - 1 + 1 = n by omega] at this
    simpa using this
theorem lB_parts {k : Int} {is : List It} {ps : List VT} {ns cs ls : List ByteArray} {c e : Int} (h : lB 3 (.mk k is ps ns cs ls c e) = true) : ∀ p ∈ ps, lB 3 p = true := by
  simp only [lB, Bool.and_eq_true] at h
  intro p hp
  exact lB_mono p 2 (lL_mem h.2 p hp).2
theorem lB_short {k : Int} {is : List It} {ps : List VT} {ns cs ls : List ByteArray} {c e : Int} {n : Nat} (h : lB n (.mk k is ps ns cs ls c e) = true) : ps.length ≤ 40 := by
  simp only [lB, Bool.and_eq_true] at h
  have h2 := h.1
  unfold nodeB headB at h2
  simp only [Bool.and_eq_true, Bool.or_eq_true, decide_eq_true_eq, Bool.not_eq_true', decide_eq_false_iff_not] at h2
  have h3 := h2.1.1.1.1.1.1.1.1.1.1.2
  have h4 := h2.1.1.1.1.2
  rw [show lenV (.mk k is ps ns cs ls c e) = if k = 5 then 1 else is.length + ps.length from rfl] at h3
  by_cases h5 : k = 5
  · rcases h4 with h4 | h4
    · omega
    · omega
  · rw [if_neg h5] at h3
    omega
theorem copL_eq {ps : List VT} (h : ∀ p ∈ ps, lB 3 p = true) (hl : ps.length ≤ 41) : copL ps = ps := by
  unfold copL
  rw [List.take_of_length_le hl]
  have : ∀ l : List VT, (∀ p ∈ l, lB 3 p = true) → l.map copP = l := by
    intro l
    induction l with
    | nil => intro _; rfl
    | cons q l ih =>
      intro h
      rw [List.map_cons, ih fun p hp => h p (List.mem_cons_of_mem _ hp)]
      unfold copP
      rw [if_pos (h q (List.mem_cons_self))]
  exact this ps h
theorem copL_len (ps : List VT) : (copL ps).length ≤ 41 := by
  unfold copL
  rw [List.length_map, List.length_take]
  omega
theorem copL_size (ps : List VT) : szL (copL ps) ≤ szL ps := by
  have hc : ∀ p, szV (copP p) ≤ szV p := by
    intro p
    unfold copP
    split
    · exact Nat.le_refl _
    · simp [badP, szV, szI, szL, szS, stz, itz]
  have key : ∀ (l : List VT) (n : Nat), szL ((l.take n).map copP) ≤ szL l := by
    intro l
    induction l with
    | nil => intro n; simp
    | cons q l ih =>
      intro n
      cases n with
      | zero => simp [szL]
      | succ n =>
        have h1 := hc q
        have h2 := ih n
        rw [List.take_succ_cons, List.map_cons]
        simp only [szL]
        omega
  exact key ps 41

theorem cellsL_mem {ps : List VT} : ∀ p ∈ ps, cellsV p ≤ cellsL ps := by
  induction ps with
  | nil => intro p hp; simp at hp
  | cons q ps ih =>
    intro p hp
    simp only [cellsL]
    rcases List.mem_cons.1 hp with rfl | hp
    · omega
    · have := ih p hp; omega
/-- the parts of a valid vector are valid -/
theorem isV_parts {k : Int} {is : List It} {ps : List VT} {ns cs ls : List ByteArray} {c e : Int} (h : isV (.mk k is ps ns cs ls c e) = true) : ps.length ≤ 40 ∧ ∀ p ∈ ps, isV p = true := by
  unfold isV at h
  simp only [Bool.and_eq_true, decide_eq_true_eq] at h
  refine ⟨lB_short h.1, fun p hp => ?_⟩
  unfold isV
  simp only [Bool.and_eq_true, decide_eq_true_eq]
  refine ⟨lB_parts h.1 p hp, ?_⟩
  have h1 := cellsL_mem p hp
  have h2 := h.2
  simp only [cellsV] at h2
  omega
theorem isV_lB {t : VT} (h : isV t = true) : lB 3 t = true := by
  unfold isV at h
  simp only [Bool.and_eq_true] at h
  exact h.1
theorem isV_badP : isV badP = false := by
  unfold isV badP
  have : lB 3 (.mk (-1) [] [] [] [] [] 0 0) = false := by
    unfold lB nodeB headB
    simp
  rw [this]
  rfl

/-- a list of vectors -/
def lsV (ps : List VT) (ns : List ByteArray) : VT := .mk 4 [] ps (tdN ns) [] [] 0 0
/-- parts that are all valid: the reference's list is the same, or both are invalid -/
theorem lsV_all {ps : List VT} {ns : List ByteArray} (h : ∀ p ∈ ps, isV p = true) : isV (lsV (copL ps) ns) = isV (lsV ps ns) ∧ (isV (lsV ps ns) = true → copL ps = ps) := by
  by_cases hl : ps.length ≤ 41
  · rw [copL_eq (fun p hp => isV_lB (h p hp)) hl]
    exact ⟨rfl, fun _ => rfl⟩
  · have h1 : isV (lsV ps ns) = false := by
      cases hq : isV (lsV ps ns) with
      | false => rfl
      | true => have := (isV_parts hq).1; omega
    have h2 : isV (lsV (copL ps) ns) = false := by
      cases hq : isV (lsV (copL ps) ns) with
      | false => rfl
      | true =>
        have := (isV_parts hq).1
        unfold copL at this
        rw [List.length_map, List.length_take] at this
        omega
    rw [h1, h2]
    exact ⟨rfl, fun h => by cases h⟩
theorem lsV_bad {ps : List VT} {ns : List ByteArray} {k : Nat} (hk : k < ps.length) (h : isV ps[k] = false) : isV (lsV (copL ps) ns) = false := by
  cases hq : isV (lsV (copL ps) ns) with
  | false => rfl
  | true =>
    exfalso
    obtain ⟨h1, h2⟩ := isV_parts hq
    have hl : ps.length ≤ 40 := by
      unfold copL at h1
      rw [List.length_map, List.length_take] at h1
      omega
    have hm : copP ps[k] ∈ copL ps := by
      unfold copL
      rw [List.take_of_length_le (by omega)]
      exact List.mem_map.2 ⟨_, List.getElem_mem hk, rfl⟩
    have h3 := h2 _ hm
    unfold copP at h3
    split at h3
    · rw [h] at h3; cases h3
    · rw [isV_badP] at h3; cases h3

/-- what ListVector hands back -/
def lsT (ps : List VT) (ns : List ByteArray) : VT := if isV (lsV (copL ps) ns) then lsV (copL ps) ns else vecI 0 []
def lsS (ps : List VT) (ns : List ByteArray) : ByteArray := if isV (lsV (copL ps) ns) then ⟨#[]⟩ else bigS

theorem tdN_size (ns : List ByteArray) : szS (tdN ns) ≤ szS ns := by
  unfold tdN
  split
  · simp [szS, stz]
  · exact Nat.le_refl _
theorem lsV_size {ps : List VT} {ns : List ByteArray} : szV (lsV ps ns) ≤ szL ps + szS ns := by
  have := tdN_size ns
  simp only [lsV, szV, szI, szS, List.length_nil, itz, stz] at this ⊢
  omega
theorem lsT_size {ps : List VT} {ns : List ByteArray} {z : Nat} (h : szL ps + szS ns ≤ z) : szV (lsT ps ns) ≤ z := by
  unfold lsT
  split
  · have h1 := lsV_size (ps := copL ps) (ns := ns)
    have h2 := copL_size ps
    omega
  · simp [vecI, szV, szI, szL, szS, stz, itz]

end

end Go.Proofs.Ytmofcbpabdbjlaa
