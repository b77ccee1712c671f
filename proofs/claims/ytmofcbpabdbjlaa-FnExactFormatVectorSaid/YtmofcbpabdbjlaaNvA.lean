/-
  What is proved: truth values of items, and what counts as numbers, of the program and of the reference; vectors of items and names handed back. an owned vector that is handed back, cell by cell.
  Condition: none beyond those of the theorems. Condition: none.
-/
import Derived.Test.YtmofcbpabdbjlaaW5
import Derived.Test.YtmofcbpabdbjlaaIsA
import Derived.Test.YtmofcbpabdbjlaaMsA
import Derived.Test.YtmofcbpabdbjlaaSqA
import Derived.Test.YtmofcbpabdbjlaaLogic
import Derived.Test.YtmofcbpabdbjlaaGcd
namespace Go.Proofs.Ytmofcbpabdbjlaa
set_option maxRecDepth 8000

section
open Go.RowKit Go.ChangeShapes Go.WideShapes Go.Deep
set_option linter.unusedVariables false
set_option linter.unusedSimpArgs false

/-- what a valid vector's head says -/
theorem isV_facts {k : Int} {is : List It} {ps : List VT} {ns cs ls : List ByteArray} {c e : Int} (h : isV (.mk k is ps ns cs ls c e) = true) :
    (0 ≤ k ∧ k ≤ 5) ∧ lenV (.mk k is ps ns cs ls c e) ≤ 40 ∧ (ns.length = 0 ∨ ns.length = lenV (.mk k is ps ns cs ls c e)) ∧ (ls.length = 0 ∨ k = 2) ∧ (ps.length = 0 ∨ k = 4) ∧ (k = 5 → is.length = 0 ∧ ns.length = 0) ∧ (k = 0 → is.length = 0) ∧ (∀ x ∈ is, itB k ls x = true) ∧ (k = 5 ∨ (c = 0 ∧ e = 0)) := by
  unfold isV at h
  simp only [Bool.and_eq_true] at h
  have h1 := h.1
  unfold lB at h1
  simp only [Bool.and_eq_true] at h1
  have h2 := h1.1
  unfold nodeB at h2
  simp only [Bool.and_eq_true] at h2
  obtain ⟨h3, h4⟩ := h2
  rw [List.all_eq_true] at h4
  unfold headB at h3
  simp only [Bool.and_eq_true, Bool.or_eq_true, Bool.not_eq_true', decide_eq_true_eq, decide_eq_false_iff_not] at h3
  obtain ⟨⟨⟨⟨⟨⟨⟨⟨⟨⟨a1, a2⟩, a3⟩, a4⟩, a5⟩, a6⟩, a7⟩, a8⟩, a9⟩, a10⟩, a11⟩ := h3
  refine ⟨a1, a2, ?_, a7, a8, ?_, ?_, h4, ?_⟩
  · rcases a5 with h | h
    · exact .inl h
    · exact .inr h.1
  · intro hk
    rcases a10 with h | h
    · exact absurd hk h
    · exact ⟨h.1.1.1, h.1.1.2⟩
  · intro hk
    rcases a11 with h | h
    · exact absurd hk h
    · exact h.1
  · rcases a9 with h | h
    · exact .inl h
    · exact .inr h

def trI (x : It) : Int := if misB x then 2 else if x.num = 0 then 0 else 1
def cntK (k : Int) (nl : Nat) : Bool := decide (k = 0) || decide (k = 1) || (decide (k = 2) && decide (nl = 0))

theorem impl_truth (n d : Int) (t : ByteArray) (w : World) : Calls Try.prog 116 #[.agg #[.int .i64 n, .int .i64 d, .string t]] w fun e w' => e = .returned (.int .i64 (trI ⟨n, d, t⟩)) ∧ Below w.heap.size w w' := by
  have CM := fun u => impl_isMissing n d t u
  cases hm : misB ⟨n, d, t⟩
  · rw [hm] at CM
    by_cases h0 : n = 0
    · have HE : Hid (trI ⟨n, d, t⟩ = 0) := Lib.hid (by unfold trI; rw [hm]; simp [h0])
      have q : (n == 0) = true := by simp [h0]
      clear hm h0
      go_enter Try.func116, Try.ntmps116
      have hO := Own.nil w
      go_wp2_with (first
        | ((with_reducible refine (CM _).mono ?_); rintro e u ⟨rfl, hb⟩; (replace hO := hO.step hb; clear hb))
        | ((with_reducible refine wpl_box ?_); refine wpList_box_own rfl (by rfl) hO rfl rfl (fun b => by simp only [Act.put, zA, zB, zC]; rfl) ?_; (refine nm 0 rfl ?_; clear hO; intro b0 u hO); simp only [zL, zK] at hO)
        | ((with_reducible refine wpl_load ?_); refine wpList_load_box rfl (by rfl) hO rfl _ (by exact at0) (by rfl) (by simp only [Act.put, zA, zB, zC]; rfl) ?_)
        | ((with_reducible refine wpl_load ?_); refine wpList_load_field rfl (by rfl) hO rfl _ (by exact at0) (by rfl) (by simp only [Act.put, zA, zB, zC]; rfl) ?_)
        | fail)
      go_ret
      exact ⟨ret_int HE.out.symm, hO.below⟩
    · have HE : Hid (trI ⟨n, d, t⟩ = 1) := Lib.hid (by unfold trI; rw [hm]; simp [h0])
      have q : (n == 0) = false := by simp [h0]
      clear hm h0
      go_enter Try.func116, Try.ntmps116
      have hO := Own.nil w
      go_wp2_with (first
        | ((with_reducible refine (CM _).mono ?_); rintro e u ⟨rfl, hb⟩; (replace hO := hO.step hb; clear hb))
        | ((with_reducible refine wpl_box ?_); refine wpList_box_own rfl (by rfl) hO rfl rfl (fun b => by simp only [Act.put, zA, zB, zC]; rfl) ?_; (refine nm 0 rfl ?_; clear hO; intro b0 u hO); simp only [zL, zK] at hO)
        | ((with_reducible refine wpl_load ?_); refine wpList_load_box rfl (by rfl) hO rfl _ (by exact at0) (by rfl) (by simp only [Act.put, zA, zB, zC]; rfl) ?_)
        | ((with_reducible refine wpl_load ?_); refine wpList_load_field rfl (by rfl) hO rfl _ (by exact at0) (by rfl) (by simp only [Act.put, zA, zB, zC]; rfl) ?_)
        | fail)
      go_ret
      exact ⟨ret_int HE.out.symm, hO.below⟩
  · rw [hm] at CM
    have HE : Hid (trI ⟨n, d, t⟩ = 2) := Lib.hid (by unfold trI; rw [hm]; simp)
    clear hm
    go_enter Try.func116, Try.ntmps116
    have hO := Own.nil w
    go_wp2_with (first
      | ((with_reducible refine (CM _).mono ?_); rintro e u ⟨rfl, hb⟩; (replace hO := hO.step hb; clear hb))
      | ((with_reducible refine wpl_box ?_); refine wpList_box_own rfl (by rfl) hO rfl rfl (fun b => by simp only [Act.put, zA, zB, zC]; rfl) ?_; (refine nm 0 rfl ?_; clear hO; intro b0 u hO); simp only [zL, zK] at hO)
      | ((with_reducible refine wpl_load ?_); refine wpList_load_box rfl (by rfl) hO rfl _ (by exact at0) (by rfl) (by simp only [Act.put, zA, zB, zC]; rfl) ?_)
      | fail)
    go_ret
    exact ⟨ret_int HE.out.symm, hO.below⟩

theorem impl_counts (k : Int) (v1 v2 v3 v4 v6 v7 : Value) (Al : Option Addr) (nl cl : Nat) (w : World) : Calls Try.prog 112 #[.agg #[.int .i64 k, v1, v2, v3, v4, .slice Al nl cl, v6, v7]] w fun e w' => e = .returned (.bool (cntK k nl)) ∧ Below w.heap.size w w' := by
  by_cases h0 : k = 0
  · subst h0
    go_enter Try.func112, Try.ntmps112
    have hO := Own.nil w
    go_wp2_with (first
      | ((with_reducible refine wpl_box ?_); refine wpList_box_own rfl (by rfl) hO rfl rfl (fun b => by simp only [Act.put, zA, zB, zC]; rfl) ?_; (refine nm 0 rfl ?_; clear hO; intro b0 u hO); simp only [zL, zK] at hO)
      | ((with_reducible refine wpl_load ?_); refine wpList_load_field rfl (by rfl) hO rfl _ (by exact at0) (by rfl) (by simp only [Act.put, zA, zB, zC]; rfl) ?_)
      | fail)
    go_ret
    exact ⟨rfl, hO.below⟩
  by_cases h1 : k = 1
  · subst h1
    go_enter Try.func112, Try.ntmps112
    have hO := Own.nil w
    go_wp2_with (first
      | ((with_reducible refine wpl_box ?_); refine wpList_box_own rfl (by rfl) hO rfl rfl (fun b => by simp only [Act.put, zA, zB, zC]; rfl) ?_; (refine nm 0 rfl ?_; clear hO; intro b0 u hO); simp only [zL, zK] at hO)
      | ((with_reducible refine wpl_load ?_); refine wpList_load_field rfl (by rfl) hO rfl _ (by exact at0) (by rfl) (by simp only [Act.put, zA, zB, zC]; rfl) ?_)
      | fail)
    go_ret
    exact ⟨rfl, hO.below⟩
  by_cases h2 : k = 2
  · subst h2
    by_cases h3 : nl = 0
    · subst h3
      go_enter Try.func112, Try.ntmps112
      have hO := Own.nil w
      go_wp2_with (first
        | ((with_reducible refine wpl_box ?_); refine wpList_box_own rfl (by rfl) hO rfl rfl (fun b => by simp only [Act.put, zA, zB, zC]; rfl) ?_; (refine nm 0 rfl ?_; clear hO; intro b0 u hO); simp only [zL, zK] at hO)
        | ((with_reducible refine wpl_load ?_); refine wpList_load_field rfl (by rfl) hO rfl _ (by exact at0) (by rfl) (by simp only [Act.put, zA, zB, zC]; rfl) ?_)
        | fail)
      go_ret
      exact ⟨rfl, hO.below⟩
    · have HE : Hid (cntK 2 nl = false) := Lib.hid (by simp [cntK, h3])
      have q : ((nl : Int) == 0) = false := by simp [h3]
      clear h3
      go_enter Try.func112, Try.ntmps112
      have hO := Own.nil w
      go_wp2_with (first
        | ((with_reducible refine wpl_box ?_); refine wpList_box_own rfl (by rfl) hO rfl rfl (fun b => by simp only [Act.put, zA, zB, zC]; rfl) ?_; (refine nm 0 rfl ?_; clear hO; intro b0 u hO); simp only [zL, zK] at hO)
        | ((with_reducible refine wpl_load ?_); refine wpList_load_field rfl (by rfl) hO rfl _ (by exact at0) (by rfl) (by simp only [Act.put, zA, zB, zC]; rfl) ?_)
        | fail)
      go_ret
      exact ⟨ret_bool HE.out.symm, hO.below⟩
  · have HE : Hid (cntK k nl = false) := Lib.hid (by simp [cntK, h0, h1, h2])
    have q0 : (k == 0) = false := by simp [h0]
    have q1 : (k == 1) = false := by simp [h1]
    have q2 : (k == 2) = false := by simp [h2]
    clear h0 h1 h2
    go_enter Try.func112, Try.ntmps112
    have hO := Own.nil w
    go_wp2_with (first
      | ((with_reducible refine wpl_box ?_); refine wpList_box_own rfl (by rfl) hO rfl rfl (fun b => by simp only [Act.put, zA, zB, zC]; rfl) ?_; (refine nm 0 rfl ?_; clear hO; intro b0 u hO); simp only [zL, zK] at hO)
      | ((with_reducible refine wpl_load ?_); refine wpList_load_field rfl (by rfl) hO rfl _ (by exact at0) (by rfl) (by simp only [Act.put, zA, zB, zC]; rfl) ?_)
      | fail)
    go_ret
    exact ⟨ret_bool HE.out.symm, hO.below⟩

def badS : ByteArray := ⟨#[105, 110, 118, 97, 108, 105, 100, 32, 118, 101, 99, 116, 111, 114]⟩
def nonLogS : ByteArray := ⟨#[110, 111, 110, 45, 108, 111, 103, 105, 99, 97, 108, 32, 97, 114, 103, 117, 109, 101, 110, 116]⟩
def zeroV : List Value := [.int .i64 0, .slice none 0 0, .slice none 0 0, .slice none 0 0, .slice none 0 0, .slice none 0 0, .int .i64 0, .int .i64 0]

theorem spec_bad (w : World) : Calls Try.prog 78 #[] w fun e w' => e = .returned (.tuple #[.agg #[.int .i64 0, .slice none 0 0, .slice none 0 0, .slice none 0 0, .slice none 0 0, .slice none 0 0, .int .i64 0, .int .i64 0], .string ⟨#[105, 110, 118, 97, 108, 105, 100, 32, 118, 101, 99, 116, 111, 114]⟩]) ∧ Below w.heap.size w w' := by
  go_enter Try.func78, Try.ntmps78
  have hO := Own.nil w
  go_wp2_with (first
    | ((with_reducible refine wpl_alloc ?_); refine wpList_alloc_own rfl (by rfl) hO rfl (fun b => by simp only [Act.put, zA, zB, zC]; rfl) ?_; (refine nm 0 rfl ?_; clear hO; intro b0 u hO); simp only [zL, zK] at hO)
    | ((with_reducible refine wpl_store ?_); refine wpList_store_box rfl (by rfl) hO rfl _ (by exact at0) rfl (by rfl) (by rfl) (by rfl) (by rfl) (by rfl) ?_; clear hO; intro u hO; simp only [zC, zB] at hO)
    | fail)
  exact ret_box2 rfl hO rfl 0 at0 rfl rfl rfl ⟨rfl, hO.below⟩

/-- items and names -/
def vecN (k : Int) (is : List It) (ns : List ByteArray) : VT := .mk k is [] ns [] [] 0 0

theorem Own.vecN {w0 w : World} {is : List It} {ns : List ByteArray} {A B : Option Addr} {c d : Nat} (h : Own w0 [row 83 3 (.slice A is.length c) is.length (itc is), row 9 1 (.slice B ns.length d) ns.length (stc ns)] w) (k : Int) :
    ∃ F, VO (Go.Proofs.Ytmofcbpabdbjlaa.vecN k is ns) [.int .i64 k, .slice A is.length c, .slice none 0 0, .slice B ns.length d, .slice none 0 0, .slice none 0 0, .int .i64 0, .int .i64 0] F ∧ Own w0 [Go.Proofs.Ytmofcbpabdbjlaa.pack F] w := by
  have h1 := ((h.addNil 29 8).addNil 9 1).addNil 9 1
  have h2 := Own.pack (F := [_, _, _, _, _]) (L := []) (h1.pick [0, 2, 1, 3, 4] (by decide))
  exact ⟨_, VO.close (ps := []) (cs := []) (ls := []) VL.nil, h2⟩

theorem Own.rename {w0 w : World} {k : Int} {is : List It} {ns : List ByteArray} {Ai Ap An Ac Al B : Option Addr} {ci cp cn cc cl d : Nat} {F : List Res} (h : Own w0 [Go.Proofs.Ytmofcbpabdbjlaa.pack F, row 9 1 (.slice B ns.length d) ns.length (stc ns)] w)
    (hvo : VO (Go.Proofs.Ytmofcbpabdbjlaa.vecI k is) [.int .i64 k, .slice Ai is.length ci, .slice Ap 0 cp, .slice An 0 cn, .slice Ac 0 cc, .slice Al 0 cl, .int .i64 0, .int .i64 0] F) :
    ∃ F', VO (Go.Proofs.Ytmofcbpabdbjlaa.vecN k is ns) [.int .i64 k, .slice Ai is.length ci, .slice Ap 0 cp, .slice B ns.length d, .slice Ac 0 cc, .slice Al 0 cl, .int .i64 0, .int .i64 0] F' ∧ Own w0 [Go.Proofs.Ytmofcbpabdbjlaa.pack F'] w := by
  obtain ⟨Ai', Ap', An', Ac', Al', ci', cp', cn', cc', cl', pvs, Ls, e, rfl, hVL⟩ := hvo.open
  simp only [List.cons.injEq, Value.slice.injEq, and_true, true_and] at e
  obtain ⟨⟨rfl, rfl⟩, ⟨rfl, _, rfl⟩, ⟨rfl, _, rfl⟩, ⟨rfl, _, rfl⟩, ⟨rfl, _, rfl⟩⟩ := e
  have hLs : Ls = [] := List.length_eq_zero_iff.1 (by simpa using hVL.len')
  subst hLs
  have h1 := h.unpack
  simp only [List.flatten_nil, List.cons_append, List.nil_append] at h1
  have h2 := Own.pack (F := [_, _, _, _, _]) (L := []) (h1.pick [0, 1, 5, 3, 4] (by decide))
  exact ⟨_, VO.close (cs := []) (ls := []) hVL, by simpa using h2⟩

end

section
open Go.RowKit Go.ChangeShapes Go.WideShapes Go.Deep
set_option linter.unusedVariables false
set_option linter.unusedSimpArgs false

theorem RetV.exC {xk : Int} {xi : List It} {xp : List VT} {xn xc xl : List ByteArray} {xo xe : Int} {u w' : World} {e : Ending} (h : RetV (.mk xk xi xp xn xc xl xo xe) u e w') :
    ∃ (Ci Cp Cn Cc Cl : Option Addr) (ri rp rn rc rl : Nat) (F : List Res), e = .returned (.agg #[.int .i64 xk, .slice Ci xi.length ri, .slice Cp xp.length rp, .slice Cn xn.length rn, .slice Cc xc.length rc, .slice Cl xl.length rl, .int .i64 xo, .int .i64 xe]) ∧
      VO (.mk xk xi xp xn xc xl xo xe) [.int .i64 xk, .slice Ci xi.length ri, .slice Cp xp.length rp, .slice Cn xn.length rn, .slice Cc xc.length rc, .slice Cl xl.length rl, .int .i64 xo, .int .i64 xe] F ∧ Own u [pack F] w' := by
  obtain ⟨vs, F, rfl, hvo, hO⟩ := h
  obtain ⟨Ci, Cp, Cn, Cc, Cl, ri, rp, rn, rc, rl, rfl⟩ := hvo.ex
  exact ⟨Ci, Cp, Cn, Cc, Cl, ri, rp, rn, rc, rl, F, rfl, hvo, hO⟩

end

end Go.Proofs.Ytmofcbpabdbjlaa
