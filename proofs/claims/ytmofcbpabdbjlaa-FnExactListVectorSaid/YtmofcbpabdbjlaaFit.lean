/-
  What is proved: what fits, tidyNames (program) and l4Fit, l4Clean (reference) return: the bound on a result, and names that are all empty.
  Condition: vectors of size at most 1048576.
-/
import Derived.Test.YtmofcbpabdbjlaaNvA
namespace Go.Proofs.Ytmofcbpabdbjlaa
set_option maxRecDepth 8000
open Go.RowKit Go.ChangeShapes Go.WideShapes Go.Deep
set_option linter.unusedVariables false
set_option linter.unusedSimpArgs false

def bigS : ByteArray := ⟨#[114, 101, 115, 117, 108, 116, 32, 105, 115, 32, 116, 111, 111, 32, 108, 97, 114, 103, 101]⟩
def zero8 : List Value := [.int .i64 0, .slice none 0 0, .slice none 0 0, .slice none 0 0, .slice none 0 0, .slice none 0 0, .int .i64 0, .int .i64 0]
/-- the vector itself with no text, or the empty vector with the text -/
def RetFit (t : VT) (vs : List Value) (w : World) (e : Ending) (w' : World) : Prop := e = .returned (.tuple #[.agg (if isV t then vs else zero8).toArray, .string (if isV t then ⟨#[]⟩ else bigS)]) ∧ Below w.heap.size w w'

theorem impl_fits (t : VT) (vs : List Value) (w : World) (hv : RdV w t vs) (hz : szV t ≤ 1048576) : Calls Try.prog 66 #[.agg vs.toArray] w (RetFit t vs w) := by
  have CA := fun u (hb : Below w.heap.size w u) => impl_isVec t _ u (hv.grow hb) hz
  have HE := Lib.hid (show ∀ e w', RetFit t vs w e w' ↔ (e = .returned (.tuple #[.agg (if isV t then vs else zero8).toArray, .string (if isV t then ⟨#[]⟩ else bigS)]) ∧ Below w.heap.size w w') from fun _ _ => Iff.rfl)
  obtain ⟨q, hq⟩ : ∃ q, isV t = q := ⟨_, rfl⟩
  rw [hq] at CA HE
  obtain ⟨Ai, Ap, An, Ac, Al, ci, cp, cn, cc, cl, rfl⟩ := hv.ex
  clear hv hz hq
  cases q with
  | false =>
    go_enter Try.func66, Try.ntmps66
    have hO := Own.nil w
    go_wp2_with (first
      | ((with_reducible refine (CA _ hO.below).mono ?_); rintro e u ⟨rfl, hb⟩; (replace hO := hO.step hb; clear hb))
      | ((with_reducible refine wpl_alloc ?_); refine wpList_alloc_own rfl (by rfl) hO rfl (fun b => by simp only [Act.put, zA, zB, zC]; rfl) ?_; (refine nm 1 rfl ?_; clear hO; intro b1 u hO); simp only [zL, zK] at hO)
      | ((with_reducible refine wpl_box ?_); refine wpList_box_own rfl (by rfl) hO rfl rfl (fun b => by simp only [Act.put, zA, zB, zC]; rfl) ?_; (refine nm 0 rfl ?_; clear hO; intro b0 u hO); simp only [zL, zK] at hO)
      | ((with_reducible refine wpl_load ?_); refine wpList_load_box rfl (by rfl) hO rfl _ (by exact at0) (by rfl) (by simp only [Act.put, zA, zB, zC]; rfl) ?_)
      | ((with_reducible refine wpl_store ?_); refine wpList_store_box rfl (by rfl) hO rfl _ (by exact at1) rfl (by rfl) (by rfl) (by rfl) (by rfl) (by rfl) ?_; clear hO; intro u hO; simp only [zC, zB] at hO)
      | fail)
    exact ret_box2 rfl hO rfl 1 at1 rfl rfl rfl ((HE.out _ _).2 ⟨rfl, hO.below⟩)
  | true =>
    go_enter Try.func66, Try.ntmps66
    have hO := Own.nil w
    go_wp2_with (first
      | ((with_reducible refine (CA _ hO.below).mono ?_); rintro e u ⟨rfl, hb⟩; (replace hO := hO.step hb; clear hb))
      | ((with_reducible refine wpl_alloc ?_); refine wpList_alloc_own rfl (by rfl) hO rfl (fun b => by simp only [Act.put, zA, zB, zC]; rfl) ?_; (refine nm 1 rfl ?_; clear hO; intro b1 u hO); simp only [zL, zK] at hO)
      | ((with_reducible refine wpl_box ?_); refine wpList_box_own rfl (by rfl) hO rfl rfl (fun b => by simp only [Act.put, zA, zB, zC]; rfl) ?_; (refine nm 0 rfl ?_; clear hO; intro b0 u hO); simp only [zL, zK] at hO)
      | ((with_reducible refine wpl_load ?_); refine wpList_load_box rfl (by rfl) hO rfl _ (by exact at0) (by rfl) (by simp only [Act.put, zA, zB, zC]; rfl) ?_)
      | ((with_reducible refine wpl_store ?_); refine wpList_store_box rfl (by rfl) hO rfl _ (by exact at1) rfl (by rfl) (by rfl) (by rfl) (by rfl) (by rfl) ?_; clear hO; intro u hO; simp only [zC, zB] at hO)
      | fail)
    exact ret_box2 rfl hO rfl 1 at1 rfl rfl rfl ((HE.out _ _).2 ⟨rfl, hO.below⟩)

theorem spec_fit (t : VT) (vs : List Value) (w : World) (hv : RdV w t vs) (hz : szV t ≤ 1048576) : Calls Try.prog 61 #[.agg vs.toArray] w (RetFit t vs w) := by
  have CA := fun u (hb : Below w.heap.size w u) => spec_isVec t _ u (hv.grow hb) hz
  have HE := Lib.hid (show ∀ e w', RetFit t vs w e w' ↔ (e = .returned (.tuple #[.agg (if isV t then vs else zero8).toArray, .string (if isV t then ⟨#[]⟩ else bigS)]) ∧ Below w.heap.size w w') from fun _ _ => Iff.rfl)
  obtain ⟨q, hq⟩ : ∃ q, isV t = q := ⟨_, rfl⟩
  rw [hq] at CA HE
  obtain ⟨Ai, Ap, An, Ac, Al, ci, cp, cn, cc, cl, rfl⟩ := hv.ex
  clear hv hz hq
  cases q with
  | false =>
    go_enter Try.func61, Try.ntmps61
    have hO := Own.nil w
    go_wp2_with (first
      | ((with_reducible refine (CA _ hO.below).mono ?_); rintro e u ⟨rfl, hb⟩; (replace hO := hO.step hb; clear hb))
      | ((with_reducible refine wpl_alloc ?_); refine wpList_alloc_own rfl (by rfl) hO rfl (fun b => by simp only [Act.put, zA, zB, zC]; rfl) ?_; (refine nm 1 rfl ?_; clear hO; intro b1 u hO); simp only [zL, zK] at hO)
      | ((with_reducible refine wpl_box ?_); refine wpList_box_own rfl (by rfl) hO rfl rfl (fun b => by simp only [Act.put, zA, zB, zC]; rfl) ?_; (refine nm 0 rfl ?_; clear hO; intro b0 u hO); simp only [zL, zK] at hO)
      | ((with_reducible refine wpl_load ?_); refine wpList_load_box rfl (by rfl) hO rfl _ (by exact at0) (by rfl) (by simp only [Act.put, zA, zB, zC]; rfl) ?_)
      | ((with_reducible refine wpl_store ?_); refine wpList_store_box rfl (by rfl) hO rfl _ (by exact at1) rfl (by rfl) (by rfl) (by rfl) (by rfl) (by rfl) ?_; clear hO; intro u hO; simp only [zC, zB] at hO)
      | fail)
    exact ret_box2 rfl hO rfl 1 at1 rfl rfl rfl ((HE.out _ _).2 ⟨rfl, hO.below⟩)
  | true =>
    go_enter Try.func61, Try.ntmps61
    have hO := Own.nil w
    go_wp2_with (first
      | ((with_reducible refine (CA _ hO.below).mono ?_); rintro e u ⟨rfl, hb⟩; (replace hO := hO.step hb; clear hb))
      | ((with_reducible refine wpl_alloc ?_); refine wpList_alloc_own rfl (by rfl) hO rfl (fun b => by simp only [Act.put, zA, zB, zC]; rfl) ?_; (refine nm 1 rfl ?_; clear hO; intro b1 u hO); simp only [zL, zK] at hO)
      | ((with_reducible refine wpl_box ?_); refine wpList_box_own rfl (by rfl) hO rfl rfl (fun b => by simp only [Act.put, zA, zB, zC]; rfl) ?_; (refine nm 0 rfl ?_; clear hO; intro b0 u hO); simp only [zL, zK] at hO)
      | ((with_reducible refine wpl_load ?_); refine wpList_load_box rfl (by rfl) hO rfl _ (by exact at0) (by rfl) (by simp only [Act.put, zA, zB, zC]; rfl) ?_)
      | ((with_reducible refine wpl_store ?_); refine wpList_store_box rfl (by rfl) hO rfl _ (by exact at1) rfl (by rfl) (by rfl) (by rfl) (by rfl) (by rfl) ?_; clear hO; intro u hO; simp only [zC, zB] at hO)
      | fail)
    exact ret_box2 rfl hO rfl 1 at1 rfl rfl rfl ((HE.out _ _).2 ⟨rfl, hO.below⟩)

/-- names that are all empty are dropped -/
def tdN (ns : List ByteArray) : List ByteArray := if allE ns then [] else ns
def RetTidy (k : Int) (Ai Ap An Ac Al : Option Addr) (ni ci np cp cn nc cc nl cl : Nat) (c e' : Int) (ns : List ByteArray) (w : World) (e : Ending) (w' : World) : Prop :=
  ∃ A c', e = .returned (.agg #[.int .i64 k, .slice Ai ni ci, .slice Ap np cp, .slice A (tdN ns).length c', .slice Ac nc cc, .slice Al nl cl, .int .i64 c, .int .i64 e']) ∧ ((allE ns = true ∧ Own w [row 9 1 (.slice A 0 c') 0 []] w') ∨ (allE ns = false ∧ A = An ∧ c' = cn ∧ Below w.heap.size w w'))

theorem impl_tidy (k : Int) (Ai Ap An Ac Al : Option Addr) (ni ci np cp cn nc cc nl cl : Nat) (c e' : Int) (ns : List ByteArray) (w : World) (h : Sl w 1 An ns.length (stc ns)) (hn : ns.length ≤ 1048576) :
    Calls Try.prog 67 #[.agg #[.int .i64 k, .slice Ai ni ci, .slice Ap np cp, .slice An ns.length cn, .slice Ac nc cc, .slice Al nl cl, .int .i64 c, .int .i64 e']] w (RetTidy k Ai Ap An Ac Al ni ci np cp cn nc cc nl cl c e' ns w) := by
  have CE := fun u (hb : Below w.heap.size w u) => impl_allEmpty An cn ns u (h.below hb) (by omega)
  obtain ⟨q, hq⟩ : ∃ q, allE ns = q := ⟨_, rfl⟩
  rw [hq] at CE
  cases q with
  | true =>
    have HF : Hid (tdN ns = []) := Lib.hid (if_pos hq)
    have HQ := Lib.hid hq
    clear hq
    go_enter Try.func67, Try.ntmps67
    have hO := Own.nil w
    go_wp2_with (first
      | ((with_reducible refine (CE _ hO.below).mono ?_); rintro e u ⟨rfl, hb⟩; subst hb)
      | ((with_reducible refine wpl_alloc ?_); refine wpList_alloc_own rfl (by rfl) hO rfl (fun b => by simp only [Act.put, zA, zB, zC]; rfl) ?_; (refine nm 1 rfl ?_; clear hO; intro b1 u hO); simp only [zL, zK] at hO)
      | ((with_reducible refine wpl_box ?_); refine wpList_box_own rfl (by rfl) hO rfl rfl (fun b => by simp only [Act.put, zA, zB, zC]; rfl) ?_; (refine nm 0 rfl ?_; clear hO; intro b0 u hO); simp only [zL, zK] at hO)
      | ((with_reducible refine wpl_load ?_); refine wpList_load_box rfl (by rfl) hO rfl _ (by exact at0) (by rfl) (by simp only [Act.put, zA, zB, zC]; rfl) ?_)
      | ((with_reducible refine wpl_load ?_); refine wpList_load_field rfl (by rfl) hO rfl _ (by exact at0) (by rfl) (by simp only [Act.put, zA, zB, zC]; rfl) ?_)
      | ((with_reducible refine wpl_store ?_); refine wpList_store_box rfl (by rfl) hO rfl _ (by exact at1) rfl (by rfl) (by rfl) (by rfl) (by rfl) (by rfl) ?_; clear hO; intro u hO; simp only [zC, zB] at hO)
      | ((with_reducible refine wpl_store ?_); refine wpList_store_field rfl (by rfl) hO rfl _ (by exact at0) (zM rfl) (by simp only [Act.eval, zJ, zF, zD, zE, zP]; rfl) (by rfl) (by rfl) (by rfl) ?_; clear hO; intro u hO; simp only [zC, zB] at hO)
      | fail)
    have hR := (hO.addNil 9 1).pick [2] (by decide)
    simp only [List.cons_append, List.nil_append, List.filterMap_cons, List.filterMap_nil, List.getElem?_cons_zero, List.getElem?_cons_succ] at hR
    exact ret_box rfl hO rfl 1 at1 rfl rfl ⟨none, 0, by rw [HF.out]; rfl, .inl ⟨HQ.out, hR⟩⟩
  | false =>
    have HF : Hid (tdN ns = ns) := Lib.hid (if_neg (by rw [hq]; decide))
    have HQ := Lib.hid hq
    clear hq
    go_enter Try.func67, Try.ntmps67
    have hO := Own.nil w
    go_wp2_with (first
      | ((with_reducible refine (CE _ hO.below).mono ?_); rintro e u ⟨rfl, hb⟩; subst hb)
      | ((with_reducible refine wpl_alloc ?_); refine wpList_alloc_own rfl (by rfl) hO rfl (fun b => by simp only [Act.put, zA, zB, zC]; rfl) ?_; (refine nm 1 rfl ?_; clear hO; intro b1 u hO); simp only [zL, zK] at hO)
      | ((with_reducible refine wpl_box ?_); refine wpList_box_own rfl (by rfl) hO rfl rfl (fun b => by simp only [Act.put, zA, zB, zC]; rfl) ?_; (refine nm 0 rfl ?_; clear hO; intro b0 u hO); simp only [zL, zK] at hO)
      | ((with_reducible refine wpl_load ?_); refine wpList_load_box rfl (by rfl) hO rfl _ (by exact at0) (by rfl) (by simp only [Act.put, zA, zB, zC]; rfl) ?_)
      | ((with_reducible refine wpl_load ?_); refine wpList_load_field rfl (by rfl) hO rfl _ (by exact at0) (by rfl) (by simp only [Act.put, zA, zB, zC]; rfl) ?_)
      | ((with_reducible refine wpl_store ?_); refine wpList_store_box rfl (by rfl) hO rfl _ (by exact at1) rfl (by rfl) (by rfl) (by rfl) (by rfl) (by rfl) ?_; clear hO; intro u hO; simp only [zC, zB] at hO)
      | fail)
    exact ret_box rfl hO rfl 1 at1 rfl rfl ⟨An, cn, by rw [HF.out], .inr ⟨HQ.out, rfl, rfl, hO.below⟩⟩

set_option maxHeartbeats 1000000 in
theorem spec_clean (k : Int) (Ai Ap An Ac Al : Option Addr) (ni ci np cp cn nc cc nl cl : Nat) (c e' : Int) (ns : List ByteArray) (w : World) (h : Sl w 1 An ns.length (stc ns)) (hn : ns.length ≤ 1048576) :
    Calls Try.prog 62 #[.agg #[.int .i64 k, .slice Ai ni ci, .slice Ap np cp, .slice An ns.length cn, .slice Ac nc cc, .slice Al nl cl, .int .i64 c, .int .i64 e']] w (RetTidy k Ai Ap An Ac Al ni ci np cp cn nc cc nl cl c e' ns w) := by
  go_enter Try.func62, Try.ntmps62
  have hO := Own.nil w
  go_wp2_with (first
    | ((with_reducible refine wpl_alloc ?_); refine wpList_alloc_own rfl (by rfl) hO rfl (fun b => by simp only [Act.put, zA, zB, zC]; rfl) ?_; (refine nm 1 rfl ?_; clear hO; intro b1 u hO); simp only [zL, zK] at hO)
    | ((with_reducible refine wpl_box ?_); refine wpList_box_own rfl (by rfl) hO rfl rfl (fun b => by simp only [Act.put, zA, zB, zC]; rfl) ?_; (refine nm 0 rfl ?_; clear hO; intro b0 u hO); simp only [zL, zK] at hO)
    | fail)
  go_loopw [3] (fun i u => ∃ m : Nat, m ≤ ns.length ∧ i = .int .i64 m ∧ Hid (allE (ns.take m) = true) ∧ Own w [box b0 29 [.int .i64 k, .slice Ai ni ci, .slice Ap np cp, .slice An ns.length cn, .slice Ac nc cc, .slice Al nl cl, .int .i64 c, .int .i64 e'], box b1 29 [.int .i64 0, .slice none 0 0, .slice none 0 0, .slice none 0 0, .slice none 0 0, .slice none 0 0, .int .i64 0, .int .i64 0]] u) (fun i _ => ns.length - (intOf i).toNat)
  case atStart => exact ⟨0, Nat.zero_le _, rfl, rfl, hO⟩
  case round =>
    clear hO
    obtain ⟨m, hm, rfl, hal, hO⟩ := hrel
    by_cases hlt : m < ns.length
    · obtain ⟨b, off, rfl, hb, hc⟩ := h.tx hO.below hlt rfl
      have HT := Lib.hid (allE_take hlt)
      have HF := Lib.hid (fun he => allE_false (l := ns) hlt he)
      obtain ⟨x, hx⟩ : ∃ x, ns[m] = x := ⟨_, rfl⟩
      rw [hx] at hc HT HF
      clear hx
      by_cases he : x.toList = []
      · have he2 : (!x.toList.isEmpty) = false := by simp [he]
        have HE : Hid (emptyB x = true) := Lib.hid (emptyB_iff.2 he)
        go_wp2_with (first
          | ((with_reducible refine wpl_load ?_); refine wpList_load_field rfl (by rfl) hO rfl _ (by exact at0) (by rfl) (by simp only [Act.put, zA, zB, zC]; rfl) ?_)
          | fail)
        go_roundw
        case rel => exact ⟨m + 1, by omega, by go_num, by show _ = _; rw [HT.out, hal.out, HE.out]; rfl, hO⟩
        case measure => simp [intOf]; omega
      · have he2 : (!x.toList.isEmpty) = true := by simp [he]
        have HE := Lib.hid (HF.out (by cases hq : emptyB x with | false => rfl | true => exact absurd (emptyB_iff.1 hq) he))
        have HN : Hid (tdN ns = ns) := Lib.hid (if_neg (by rw [HE.out]; decide))
        go_wp2_with (first
          | ((with_reducible refine wpl_load ?_); refine wpList_load_box rfl (by rfl) hO rfl _ (by exact at0) (by rfl) (by simp only [Act.put, zA, zB, zC]; rfl) ?_)
          | ((with_reducible refine wpl_load ?_); refine wpList_load_field rfl (by rfl) hO rfl _ (by exact at0) (by rfl) (by simp only [Act.put, zA, zB, zC]; rfl) ?_)
          | ((with_reducible refine wpl_store ?_); refine wpList_store_box rfl (by rfl) hO rfl _ (by exact at1) rfl (by rfl) (by rfl) (by rfl) (by rfl) (by rfl) ?_; clear hO; intro u hO; simp only [zC, zB] at hO)
          | fail)
        exact ret_box rfl hO rfl 1 at1 rfl rfl ⟨_, cn, by rw [HN.out], .inr ⟨HE.out, rfl, rfl, hO.below⟩⟩
    · have hmn : m = ns.length := by omega
      subst hmn
      have HQ : Hid (allE ns = true) := Lib.hid (by have := hal.out; rw [List.take_length] at this; exact this)
      have HF : Hid (tdN ns = []) := Lib.hid (if_pos HQ.out)
      clear hal
      go_wp2_with (first
        | ((with_reducible refine wpl_load ?_); refine wpList_load_box rfl (by rfl) hO rfl _ (by exact at0) (by rfl) (by simp only [Act.put, zA, zB, zC]; rfl) ?_)
        | ((with_reducible refine wpl_load ?_); refine wpList_load_field rfl (by rfl) hO rfl _ (by exact at0) (by rfl) (by simp only [Act.put, zA, zB, zC]; rfl) ?_)
        | ((with_reducible refine wpl_store ?_); refine wpList_store_box rfl (by rfl) hO rfl _ (by exact at1) rfl (by rfl) (by rfl) (by rfl) (by rfl) (by rfl) ?_; clear hO; intro u hO; simp only [zC, zB] at hO)
        | ((with_reducible refine wpl_store ?_); refine wpList_store_field rfl (by rfl) hO rfl _ (by exact at0) (zM rfl) (by simp only [Act.eval, zJ, zF, zD, zE, zP]; rfl) (by rfl) (by rfl) (by rfl) ?_; clear hO; intro u hO; simp only [zC, zB] at hO)
        | ((with_reducible refine wpl_build ?_); refine wpList_build_row0 hO rfl (by rfl) rfl (fun b => by simp only [Act.put, zA, zB, zC]; rfl) ?_; clear hO; intro bb u hO; simp only [zL, zK] at hO)
        | fail)
      have hR := hO.pick [2] (by decide)
      simp only [List.filterMap_cons, List.filterMap_nil, List.getElem?_cons_zero, List.getElem?_cons_succ] at hR
      exact ret_box rfl hO rfl 1 at1 rfl rfl ⟨_, 0, by rw [HF.out]; rfl, .inl ⟨HQ.out, hR⟩⟩

end Go.Proofs.Ytmofcbpabdbjlaa
