/-
  What is proved: what MissingIn says of a vector, in plain Lean, and the item that stands for a truth. what fits, tidyNames (program) and l4Fit, l4Clean (reference) return: the bound on a result, and names that are all empty. plain facts on copies of lists of vectors (the reference marks what is not valid), and on lists of vectors.
  Condition: none beyond those of the theorems.
-/
import Derived.Test.YtmofcbpabdbjlaaVz6
import Derived.Test.YtmofcbpabdbjlaaVz18
import Derived.Test.YtmofcbpabdbjlaaVz19
namespace Go.Proofs.Ytmofcbpabdbjlaa

set_option maxRecDepth 8000

section

open Go.RowKit Go.ChangeShapes Go.WideShapes Go.Deep

set_option linter.unusedVariables false

set_option linter.unusedSimpArgs false

end

section

open Go.RowKit Go.ChangeShapes Go.WideShapes Go.Deep

set_option linter.unusedVariables false

set_option linter.unusedSimpArgs false

def bigS : ByteArray := ⟨#[114, 101, 115, 117, 108, 116, 32, 105, 115, 32, 116, 111, 111, 32, 108, 97, 114, 103, 101]⟩

def zero8 : List Value := [.int .i64 0, .slice none 0 0, .slice none 0 0, .slice none 0 0, .slice none 0 0, .slice none 0 0, .int .i64 0, .int .i64 0]

/-- the vector itself with no text, or the empty vector with the text -/
def RetFit (t : VT) (vs : List Value) (w : World) (e : Ending) (w' : World) : Prop := e = .returned (.tuple #[.agg (if isV t then vs else zero8).toArray, .string (if isV t then ⟨#[]⟩ else bigS)]) ∧ Below w.heap.size w w'

theorem impl_fitsG (t : VT) (vs : List Value) (w : World) (hv : RdV w t vs) (hz : szV t ≤ 268435456) : Calls Try.prog 66 #[.agg vs.toArray] w (RetFit t vs w) := by
  have CA := fun u (hb : Below w.heap.size w u) => impl_isVecG t _ u (hv.grow hb) hz
  have HE := Lib.hid (show ∀ e w', RetFit t vs w e w' ↔ (e = .returned (.tuple #[.agg (if isV t then vs else zero8).toArray, .string (if isV t then ⟨#[]⟩ else bigS)]) ∧ Below w.heap.size w w') from fun _ _ => Iff.rfl)
  obtain ⟨q, hq⟩ : ∃ q, isV t = q := ⟨_, rfl⟩
  rw [hq] at CA HE
  obtain ⟨Ai, Ap, An, Ac, Al, ci, cp, cn, cc, cl, rfl⟩ := hv.ex
  clear hv hz hq
  cases q with
  | false =>
    go_enter Try.func66, Try.ntmps66
    have hO := Own.nil w
    go_wp2_with (first | ((with_reducible refine (CA _ hO.below).mono ?_); rintro e u ⟨rfl, hb⟩; (replace hO := hO.step hb; clear hb)) | ((with_reducible refine zac ?_); refine zal rfl hO rfl ?_; (refine nm 1 rfl ?_; clear hO; intro b1 u hO); simp only [zL, zK] at hO) | ((with_reducible refine zaf ?_); refine zbx rfl hO rfl rfl ?_; (refine nm 0 rfl ?_; clear hO; intro b0 u hO); simp only [zL, zK] at hO) | ((with_reducible refine zaa ?_); refine zlb rfl hO rfl _ (by exact at0) ?_) | ((with_reducible refine zab ?_); refine zsb rfl hO rfl _ (by exact at1) rfl ?_; clear hO; intro u hO; simp only [zC, zB] at hO) | fail)
    exact zap rfl hO rfl 1 at1 rfl rfl rfl ((HE.out _ _).2 ⟨rfl, hO.below⟩)
  | true =>
    go_enter Try.func66, Try.ntmps66
    have hO := Own.nil w
    go_wp2_with (first | ((with_reducible refine (CA _ hO.below).mono ?_); rintro e u ⟨rfl, hb⟩; (replace hO := hO.step hb; clear hb)) | ((with_reducible refine zac ?_); refine zal rfl hO rfl ?_; (refine nm 1 rfl ?_; clear hO; intro b1 u hO); simp only [zL, zK] at hO) | ((with_reducible refine zaf ?_); refine zbx rfl hO rfl rfl ?_; (refine nm 0 rfl ?_; clear hO; intro b0 u hO); simp only [zL, zK] at hO) | ((with_reducible refine zaa ?_); refine zlb rfl hO rfl _ (by exact at0) ?_) | ((with_reducible refine zab ?_); refine zsb rfl hO rfl _ (by exact at1) rfl ?_; clear hO; intro u hO; simp only [zC, zB] at hO) | fail)
    exact zap rfl hO rfl 1 at1 rfl rfl rfl ((HE.out _ _).2 ⟨rfl, hO.below⟩)

theorem spec_fitG (t : VT) (vs : List Value) (w : World) (hv : RdV w t vs) (hz : szV t ≤ 268435456) : Calls Try.prog 61 #[.agg vs.toArray] w (RetFit t vs w) := by
  have CA := fun u (hb : Below w.heap.size w u) => spec_isVecG t _ u (hv.grow hb) hz
  have HE := Lib.hid (show ∀ e w', RetFit t vs w e w' ↔ (e = .returned (.tuple #[.agg (if isV t then vs else zero8).toArray, .string (if isV t then ⟨#[]⟩ else bigS)]) ∧ Below w.heap.size w w') from fun _ _ => Iff.rfl)
  obtain ⟨q, hq⟩ : ∃ q, isV t = q := ⟨_, rfl⟩
  rw [hq] at CA HE
  obtain ⟨Ai, Ap, An, Ac, Al, ci, cp, cn, cc, cl, rfl⟩ := hv.ex
  clear hv hz hq
  cases q with
  | false =>
    go_enter Try.func61, Try.ntmps61
    have hO := Own.nil w
    go_wp2_with (first | ((with_reducible refine (CA _ hO.below).mono ?_); rintro e u ⟨rfl, hb⟩; (replace hO := hO.step hb; clear hb)) | ((with_reducible refine zac ?_); refine zal rfl hO rfl ?_; (refine nm 1 rfl ?_; clear hO; intro b1 u hO); simp only [zL, zK] at hO) | ((with_reducible refine zaf ?_); refine zbx rfl hO rfl rfl ?_; (refine nm 0 rfl ?_; clear hO; intro b0 u hO); simp only [zL, zK] at hO) | ((with_reducible refine zaa ?_); refine zlb rfl hO rfl _ (by exact at0) ?_) | ((with_reducible refine zab ?_); refine zsb rfl hO rfl _ (by exact at1) rfl ?_; clear hO; intro u hO; simp only [zC, zB] at hO) | fail)
    exact zap rfl hO rfl 1 at1 rfl rfl rfl ((HE.out _ _).2 ⟨rfl, hO.below⟩)
  | true =>
    go_enter Try.func61, Try.ntmps61
    have hO := Own.nil w
    go_wp2_with (first | ((with_reducible refine (CA _ hO.below).mono ?_); rintro e u ⟨rfl, hb⟩; (replace hO := hO.step hb; clear hb)) | ((with_reducible refine zac ?_); refine zal rfl hO rfl ?_; (refine nm 1 rfl ?_; clear hO; intro b1 u hO); simp only [zL, zK] at hO) | ((with_reducible refine zaf ?_); refine zbx rfl hO rfl rfl ?_; (refine nm 0 rfl ?_; clear hO; intro b0 u hO); simp only [zL, zK] at hO) | ((with_reducible refine zaa ?_); refine zlb rfl hO rfl _ (by exact at0) ?_) | ((with_reducible refine zab ?_); refine zsb rfl hO rfl _ (by exact at1) rfl ?_; clear hO; intro u hO; simp only [zC, zB] at hO) | fail)
    exact zap rfl hO rfl 1 at1 rfl rfl rfl ((HE.out _ _).2 ⟨rfl, hO.below⟩)

/-- names that are all empty are dropped -/
def tdN (ns : List ByteArray) : List ByteArray := if allE ns then [] else ns

def RetTidy (k : Int) (Ai Ap An Ac Al : Option Addr) (ni ci np cp cn nc cc nl cl : Nat) (c e' : Int) (ns : List ByteArray) (w : World) (e : Ending) (w' : World) : Prop :=
  ∃ A c', e = .returned (.agg #[.int .i64 k, .slice Ai ni ci, .slice Ap np cp, .slice A (tdN ns).length c', .slice Ac nc cc, .slice Al nl cl, .int .i64 c, .int .i64 e']) ∧ ((allE ns = true ∧ Own w [row 9 1 (.slice A 0 c') 0 []] w') ∨ (allE ns = false ∧ A = An ∧ c' = cn ∧ Below w.heap.size w w'))

theorem impl_tidy (k : Int) (Ai Ap An Ac Al : Option Addr) (ni ci np cp cn nc cc nl cl : Nat) (c e' : Int) (ns : List ByteArray) (w : World) (h : Sl w 1 An ns.length (stc ns)) (hn : ns.length ≤ 1048576) :
    Calls Try.prog 67 #[.agg #[.int .i64 k, .slice Ai ni ci, .slice Ap np cp, .slice An ns.length cn, .slice Ac nc cc, .slice Al nl cl, .int .i64 c, .int .i64 e']] w (RetTidy k Ai Ap An Ac Al ni ci np cp cn nc cc nl cl c e' ns w) := by
  have CE := fun u (hb : Below w.heap.size w u) => impl_allEmpty An cn ns u (h.below hb) (by omega)
  obtain ⟨q, hq⟩ : ∃ q, allE ns = q := ⟨_, rfl⟩
  rw [hq] at CE
  cases q with
  | true =>
    have HF : Hid (tdN ns = []) := Lib.hid (if_pos hq)
    have HQ := Lib.hid hq
    clear hq
    go_enter Try.func67, Try.ntmps67
    have hO := Own.nil w
    go_wp2_with (first | ((with_reducible refine (CE _ hO.below).mono ?_); rintro e u ⟨rfl, hb⟩; subst hb) | ((with_reducible refine zac ?_); refine zal rfl hO rfl ?_; (refine nm 1 rfl ?_; clear hO; intro b1 u hO); simp only [zL, zK] at hO) | ((with_reducible refine zaf ?_); refine zbx rfl hO rfl rfl ?_; (refine nm 0 rfl ?_; clear hO; intro b0 u hO); simp only [zL, zK] at hO) | ((with_reducible refine zaa ?_); refine zlb rfl hO rfl _ (by exact at0) ?_) | ((with_reducible refine zaa ?_); refine zlf rfl hO rfl _ (by exact at0) ?_) | ((with_reducible refine zab ?_); refine zsb rfl hO rfl _ (by exact at1) rfl ?_; clear hO; intro u hO; simp only [zC, zB] at hO) | ((with_reducible refine zab ?_); refine zsf rfl hO rfl _ (by exact at0) (zM rfl) ?_; clear hO; intro u hO; simp only [zC, zB] at hO) | fail)
    have hR := (hO.addNil 9 1).pick [2] (by decide)
    simp only [List.cons_append, List.nil_append, List.filterMap_cons, List.filterMap_nil, List.getElem?_cons_zero, List.getElem?_cons_succ] at hR
    exact zan rfl hO rfl 1 at1 rfl rfl ⟨none, 0, by rw [HF.out]; rfl, .inl ⟨HQ.out, hR⟩⟩
  | false =>
    have HF : Hid (tdN ns = ns) := Lib.hid (if_neg (by rw [hq]; decide))
    have HQ := Lib.hid hq
    clear hq
    go_enter Try.func67, Try.ntmps67
    have hO := Own.nil w
    go_wp2_with (first | ((with_reducible refine (CE _ hO.below).mono ?_); rintro e u ⟨rfl, hb⟩; subst hb) | ((with_reducible refine zac ?_); refine zal rfl hO rfl ?_; (refine nm 1 rfl ?_; clear hO; intro b1 u hO); simp only [zL, zK] at hO) | ((with_reducible refine zaf ?_); refine zbx rfl hO rfl rfl ?_; (refine nm 0 rfl ?_; clear hO; intro b0 u hO); simp only [zL, zK] at hO) | ((with_reducible refine zaa ?_); refine zlb rfl hO rfl _ (by exact at0) ?_) | ((with_reducible refine zaa ?_); refine zlf rfl hO rfl _ (by exact at0) ?_) | ((with_reducible refine zab ?_); refine zsb rfl hO rfl _ (by exact at1) rfl ?_; clear hO; intro u hO; simp only [zC, zB] at hO) | fail)
    exact zan rfl hO rfl 1 at1 rfl rfl ⟨An, cn, by rw [HF.out], .inr ⟨HQ.out, rfl, rfl, hO.below⟩⟩

set_option maxHeartbeats 1000000 in
theorem spec_clean (k : Int) (Ai Ap An Ac Al : Option Addr) (ni ci np cp cn nc cc nl cl : Nat) (c e' : Int) (ns : List ByteArray) (w : World) (h : Sl w 1 An ns.length (stc ns)) (hn : ns.length ≤ 1048576) :
    Calls Try.prog 62 #[.agg #[.int .i64 k, .slice Ai ni ci, .slice Ap np cp, .slice An ns.length cn, .slice Ac nc cc, .slice Al nl cl, .int .i64 c, .int .i64 e']] w (RetTidy k Ai Ap An Ac Al ni ci np cp cn nc cc nl cl c e' ns w) := by
  go_enter Try.func62, Try.ntmps62
  have hO := Own.nil w
  go_wp2_with (first | ((with_reducible refine zac ?_); refine zal rfl hO rfl ?_; (refine nm 1 rfl ?_; clear hO; intro b1 u hO); simp only [zL, zK] at hO) | ((with_reducible refine zaf ?_); refine zbx rfl hO rfl rfl ?_; (refine nm 0 rfl ?_; clear hO; intro b0 u hO); simp only [zL, zK] at hO) | fail)
  go_loopw [3] (fun i u => ∃ m : Nat, m ≤ ns.length ∧ i = .int .i64 m ∧ Hid (allE (ns.take m) = true) ∧ Own w [box b0 29 [.int .i64 k, .slice Ai ni ci, .slice Ap np cp, .slice An ns.length cn, .slice Ac nc cc, .slice Al nl cl, .int .i64 c, .int .i64 e'], box b1 29 [.int .i64 0, .slice none 0 0, .slice none 0 0, .slice none 0 0, .slice none 0 0, .slice none 0 0, .int .i64 0, .int .i64 0]] u) (fun i _ => ns.length - (intOf i).toNat)
  case atStart => exact ⟨0, Nat.zero_le _, rfl, rfl, hO⟩
  case round =>
    clear hO
    obtain ⟨m, hm, rfl, hal, hO⟩ := hrel
    by_cases hlt : m < ns.length
    · obtain ⟨b, off, rfl, hb, hc⟩ := h.tx hO.below hlt rfl
      have HT := Lib.hid (allE_take hlt)
      have HF := Lib.hid (fun he => allE_false (l := ns) hlt he)
      obtain ⟨x, hx⟩ : ∃ x, ns[m] = x := ⟨_, rfl⟩
      rw [hx] at hc HT HF
      clear hx
      by_cases he : x.toList = []
      · have he2 : (!x.toList.isEmpty) = false := by simp [he]
        have HE : Hid (za0 x = true) := Lib.hid (zay.2 he)
        go_wp2_with (first | ((with_reducible refine zaa ?_); refine zlf rfl hO rfl _ (by exact at0) ?_) | fail)
        go_roundw
        case rel => exact ⟨m + 1, by omega, by go_num, by show _ = _; rw [HT.out, hal.out, HE.out]; rfl, hO⟩
        case measure => simp [intOf]; omega
      · have he2 : (!x.toList.isEmpty) = true := by simp [he]
        have HE := Lib.hid (HF.out (by cases hq : za0 x with | false => rfl | true => exact absurd (zay.1 hq) he))
        have HN : Hid (tdN ns = ns) := Lib.hid (if_neg (by rw [HE.out]; decide))
        go_wp2_with (first | ((with_reducible refine zaa ?_); refine zlb rfl hO rfl _ (by exact at0) ?_) | ((with_reducible refine zaa ?_); refine zlf rfl hO rfl _ (by exact at0) ?_) | ((with_reducible refine zab ?_); refine zsb rfl hO rfl _ (by exact at1) rfl ?_; clear hO; intro u hO; simp only [zC, zB] at hO) | fail)
        exact zan rfl hO rfl 1 at1 rfl rfl ⟨_, cn, by rw [HN.out], .inr ⟨HE.out, rfl, rfl, hO.below⟩⟩
    · have hmn : m = ns.length := by omega
      subst hmn
      have HQ : Hid (allE ns = true) := Lib.hid (by have := hal.out; rw [List.take_length] at this; exact this)
      have HF : Hid (tdN ns = []) := Lib.hid (if_pos HQ.out)
      clear hal
      go_wp2_with (first | ((with_reducible refine zaa ?_); refine zlb rfl hO rfl _ (by exact at0) ?_) | ((with_reducible refine zaa ?_); refine zlf rfl hO rfl _ (by exact at0) ?_) | ((with_reducible refine zab ?_); refine zsb rfl hO rfl _ (by exact at1) rfl ?_; clear hO; intro u hO; simp only [zC, zB] at hO) | ((with_reducible refine zab ?_); refine zsf rfl hO rfl _ (by exact at0) (zM rfl) ?_; clear hO; intro u hO; simp only [zC, zB] at hO) | ((with_reducible refine zag ?_); refine zav hO rfl (by rfl) rfl (fun b => by simp only [Act.put, zA, zB, zC]; rfl) ?_; clear hO; intro bb u hO; simp only [zL, zK] at hO) | fail)
      have hR := hO.pick [2] (by decide)
      simp only [List.filterMap_cons, List.filterMap_nil, List.getElem?_cons_zero, List.getElem?_cons_succ] at hR
      exact zan rfl hO rfl 1 at1 rfl rfl ⟨_, 0, by rw [HF.out]; rfl, .inl ⟨HQ.out, hR⟩⟩

end

section

open Go.RowKit Go.ChangeShapes Go.WideShapes Go.Deep

set_option linter.unusedVariables false

set_option linter.unusedSimpArgs false

def badP : VT := .mk (-1) [] [] [] [] [] 0 0

def copP (p : VT) : VT := if lB 3 p then p else badP

def copL (ps : List VT) : List VT := (ps.take 41).map copP

theorem lL_mem {n : Nat} : ∀ {ps : List VT}, lL n ps = true → ∀ p ∈ ps, n ≠ 0 ∧ lB (n - 1) p = true := by
  intro ps
  induction ps with
  | nil => intro _ p hp; simp at hp
  | cons q qs ih =>
    intro h p hp
    simp only [lL, Bool.and_eq_true, decide_eq_true_eq] at h
    rcases List.mem_cons.1 hp with rfl | hp
    · exact h.1
    · exact ih h.2 p hp

theorem lL_of {n : Nat} (hn : n ≠ 0) : ∀ {ps : List VT}, (∀ p ∈ ps, lB (n - 1) p = true) → lL n ps = true := by
  intro ps
  induction ps with
  | nil => intro _; rfl
  | cons q qs ih =>
    intro h
    simp only [lL, Bool.and_eq_true, decide_eq_true_eq]
    exact ⟨⟨hn, h q (List.mem_cons_self)⟩, ih fun p hp => h p (List.mem_cons_of_mem _ hp)⟩

theorem lB_mono (t : VT) : ∀ n, lB n t = true → lB (n + 1) t = true := by
  induction t using VT.ind with
  | _ k is ps ns cs ls c e ih =>
    intro n h
    simp only [lB, Bool.and_eq_true] at h ⊢
    refine ⟨h.1, lL_of (by omega) fun p hp => ?_⟩
    have h2 := lL_mem h.2 p hp
    have := ih p hp (n - 1) h2.2
    rw [show n - 1 + 1 = n by omega] at this
    simpa using this

theorem lB_parts {k : Int} {is : List It} {ps : List VT} {ns cs ls : List ByteArray} {c e : Int} (h : lB 3 (.mk k is ps ns cs ls c e) = true) : ∀ p ∈ ps, lB 3 p = true := by
  simp only [lB, Bool.and_eq_true] at h
  intro p hp
  exact lB_mono p 2 (lL_mem h.2 p hp).2

theorem lB_short {k : Int} {is : List It} {ps : List VT} {ns cs ls : List ByteArray} {c e : Int} {n : Nat} (h : lB n (.mk k is ps ns cs ls c e) = true) : ps.length ≤ 40 := by
  simp only [lB, Bool.and_eq_true] at h
  have h2 := h.1
  unfold nodeB headB at h2
  simp only [Bool.and_eq_true, Bool.or_eq_true, decide_eq_true_eq, Bool.not_eq_true', decide_eq_false_iff_not] at h2
  have h3 := h2.1.1.1.1.1.1.1.1.1.1.2
  have h4 := h2.1.1.1.1.2
  rw [show lenV (.mk k is ps ns cs ls c e) = if k = 5 then 1 else is.length + ps.length from rfl] at h3
  by_cases h5 : k = 5
  · rcases h4 with h4 | h4
    · omega
    · omega
  · rw [if_neg h5] at h3
    omega

theorem copL_eq {ps : List VT} (h : ∀ p ∈ ps, lB 3 p = true) (hl : ps.length ≤ 41) : copL ps = ps := by
  unfold copL
  rw [List.take_of_length_le hl]
  have : ∀ l : List VT, (∀ p ∈ l, lB 3 p = true) → l.map copP = l := by
    intro l
    induction l with
    | nil => intro _; rfl
    | cons q l ih =>
      intro h
      rw [List.map_cons, ih fun p hp => h p (List.mem_cons_of_mem _ hp)]
      unfold copP
      rw [if_pos (h q (List.mem_cons_self))]
  exact this ps h

theorem cellsL_mem {ps : List VT} : ∀ p ∈ ps, cellsV p ≤ cellsL ps := by
  induction ps with
  | nil => intro p hp; simp at hp
  | cons q ps ih =>
    intro p hp
    simp only [cellsL]
    rcases List.mem_cons.1 hp with rfl | hp
    · omega
    · have := ih p hp; omega

/-- the parts of a valid vector are valid -/
theorem isV_parts {k : Int} {is : List It} {ps : List VT} {ns cs ls : List ByteArray} {c e : Int} (h : isV (.mk k is ps ns cs ls c e) = true) : ps.length ≤ 40 ∧ ∀ p ∈ ps, isV p = true := by
  unfold isV at h
  simp only [Bool.and_eq_true, decide_eq_true_eq] at h
  refine ⟨lB_short h.1, fun p hp => ?_⟩
  unfold isV
  simp only [Bool.and_eq_true, decide_eq_true_eq]
  refine ⟨lB_parts h.1 p hp, ?_⟩
  have h1 := cellsL_mem p hp
  have h2 := h.2
  simp only [cellsV] at h2
  omega

theorem isV_lB {t : VT} (h : isV t = true) : lB 3 t = true := by
  unfold isV at h
  simp only [Bool.and_eq_true] at h
  exact h.1

theorem tdN_size (ns : List ByteArray) : szS (tdN ns) ≤ szS ns := by
  unfold tdN
  split
  · simp [szS, stz]
  · exact Nat.le_refl _

end

end Go.Proofs.Ytmofcbpabdbjlaa
