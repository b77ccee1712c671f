/-
  What is proved: the laws' test of a code's size; codes that are too long are passed by; when a vector of items is valid. No program in sight; what NotVector (of the program and of the reference) returns. what the reference's NotVector returns.
  Condition: one of the kinds 1 to 3; vectors of size at most 1048576.
-/
import Derived.Test.YtmofcbpabdbjlaaGreatMz4
import Derived.Test.YtmofcbpabdbjlaaGreatMz6
import Derived.Test.YtmofcbpabdbjlaaGreatMz12
import Derived.Test.YtmofcbpabdbjlaaGreatMz14
import Derived.Test.YtmofcbpabdbjlaaGreatMz16
namespace Go.Proofs.YtmofcbpabdbjlaaGreat

set_option maxRecDepth 8000

open Go.RowKit Go.ChangeShapes Go.WideShapes Go.Deep

set_option linter.unusedVariables false

set_option linter.unusedSimpArgs false

theorem laws_big (A : Option Addr) (n c : Nat) (w : World) (hn : n ≤ 9223372036854775807) : Calls Tryz.prog 4 #[.slice A n c] w fun e w' => e = .returned (.bool (decide (1048576 < n))) ∧ w = w' := by
  by_cases h : 1048576 < n
  · have q1 : (1048576 : Int) < n := by omega
    go_enter Tryz.func4, Tryz.ntmps4
    go_wp2
    go_ret
    exact ⟨zap (by simp [h]), rfl⟩
  · have q1 : ¬ (1048576 : Int) < n := by omega
    go_enter Tryz.func4, Tryz.ntmps4
    go_wp2
    go_ret
    exact ⟨zap (by simp [h]), rfl⟩

/-- the test of size: codes that are too long are passed by -/
theorem big_cases {w : World} {v : Value} (h : ArgBytes w v) : ∃ A n c, v = .slice A n c ∧ ((∀ u, Calls Tryz.prog 4 #[.slice A n c] u fun e w' => e = .returned (.bool true) ∧ u = w') ∨ ((∀ u, Calls Tryz.prog 4 #[.slice A n c] u fun e w' => e = .returned (.bool false) ∧ u = w') ∧ ∃ l, Cod w A n l)) := by
  obtain ⟨A, n, c, l, rfl, hn, hs, hb⟩ := h
  refine ⟨A, n, c, rfl, ?_⟩
  by_cases h : 1048576 < n
  · left
    intro u
    have := laws_big A n c u hn
    rw [decide_eq_true h] at this
    exact this
  · right
    refine ⟨fun u => ?_, l, hs, by omega, by have := hs.len; simpa [bys] using this, hb⟩
    have := laws_big A n c u hn
    rw [decide_eq_false h] at this
    exact this

end Go.Proofs.YtmofcbpabdbjlaaGreat

namespace Go.Proofs.YtmofcbpabdbjlaaGreat

set_option maxRecDepth 8000

set_option linter.unusedVariables false

set_option linter.unusedSimpArgs false

/-- a valid vector of items of kind k -/
structure AtV (k : Int) (t : VT) : Prop where
  ok : isV t = true
  kind : t.kind = k

theorem isV_vecN {k : Int} {is : List It} {ns : List ByteArray} (h1 : 1 ≤ k) (h3 : k ≤ 3) (hl : is.length ≤ 40) (hi : ∀ x ∈ is, itemB k x = true) (hn : ns = [] ∨ ns.length = is.length ∧ allE ns = false) (hs : zbk ns = true) : isV (vecN k is ns) = true := by
  have hn' : (decide (ns.length = 0) || (decide (ns.length = is.length) && !allE ns)) = true := by
    rcases hn with rfl | ⟨a, b⟩
    · rfl
    · rw [a, b]; simp
  have k5 : ¬ k = 5 := by omega
  have k0 : ¬ k = 0 := by omega
  have hl' : lenV (vecN k is ns) = is.length := by
    show (if k = 5 then 1 else is.length + 0) = _
    rw [if_neg k5]
    rfl
  have hA : headB is.length k is [] ns [] [] 0 0 = true := by
    unfold headB
    rw [hn', hs]
    simp [k5, k0, labB, goodN, hl]
    omega
  have hB : is.all (itB k []) = true := by
    rw [List.all_eq_true]
    intro x hx
    unfold itB levB
    rw [hi x hx]
    simp [h1, h3]
  have hN : nodeB (vecN k is ns) = true := by
    show (headB (lenV (vecN k is ns)) k is [] ns [] [] 0 0 && is.all (itB k [])) = true
    rw [hl', hA, hB]
    rfl
  have hC : cellsV (vecN k is ns) = is.length := by
    show lenV (vecN k is ns) + 0 = _
    rw [hl']
    rfl
  unfold isV
  rw [hC, decide_eq_true (by omega : is.length ≤ 200), Bool.and_true]
  show (nodeB (vecN k is ns) && lL 3 []) = true
  rw [hN]
  rfl

end Go.Proofs.YtmofcbpabdbjlaaGreat

namespace Go.Proofs.YtmofcbpabdbjlaaGreat

set_option maxRecDepth 8000

section

open Go.RowKit Go.ChangeShapes Go.WideShapes Go.Deep

set_option linter.unusedVariables false

set_option linter.unusedSimpArgs false

theorem isV_items {k : Int} {is : List It} {ps : List VT} {ns cs ls : List ByteArray} {c e : Int} (h : isV (.mk k is ps ns cs ls c e) = true) : is.length ≤ 40 := by
  have hf := isV_facts h
  have h1 := hf.2.1
  have h2 := hf.2.2.2.2.2.1
  rw [show lenV (.mk k is ps ns cs ls c e) = if k = 5 then 1 else is.length + ps.length from rfl] at h1
  by_cases h5 : k = 5
  · have := (h2 h5).1; omega
  · rw [if_neg h5] at h1; omega

end

section

open Go.RowKit Go.ChangeShapes Go.WideShapes Go.Deep

set_option linter.unusedVariables false

set_option linter.unusedSimpArgs false

def l5B (k : Int) (nl : Nat) : Bool := decide (k ≤ 2) && decide (nl = 0)

theorem l5_cnt {k : Int} {is : List It} {ps : List VT} {ns cs ls : List ByteArray} {c e : Int} (h : isV (.mk k is ps ns cs ls c e) = true) : l5B k ls.length = cntK k ls.length := by
  have hf := isV_facts h
  have h1 := hf.1
  have h2 := hf.2.2.2.1
  unfold l5B cntK
  rw [Bool.eq_iff_iff]
  simp only [Bool.and_eq_true, Bool.or_eq_true, decide_eq_true_eq]
  omega

theorem spec_nums_yes (k : Int) (v2 v3 v4 v6 v7 : Value) (Ai Al : Option Addr) (ni ci nl cl : Nat) (w : World) (hB : l5B k nl = true) : Calls Tryz.prog 33 #[.agg #[.int .i64 k, .slice Ai ni ci, v2, v3, v4, .slice Al nl cl, v6, v7]] w fun e w' =>
    e = .returned (.tuple #[.slice Ai ni ci, .bool true]) ∧ Below w.heap.size w w' := by
  unfold l5B at hB
  simp only [Bool.and_eq_true, decide_eq_true_eq] at hB
  obtain ⟨h0, rfl⟩ := hB
  have q0 : ¬ (2 : Int) < k := by omega
  clear h0
  go_enter Tryz.func33, Tryz.ntmps33
  have hO := Own.nil w
  go_wp2_with (first | ((with_reducible refine zad ?_); refine zbx rfl hO rfl rfl ?_; (refine nm 0 rfl ?_; clear hO; intro b0 u hO); simp only [zL, zK] at hO) | ((with_reducible refine zaa ?_); refine zlf rfl hO rfl _ (by exact at0) ?_) | fail)
  go_ret2
  first
    | exact ⟨rfl, hO.below⟩
    | exact hO.below
    | exact ⟨rfl, rfl, hO.below⟩

theorem spec_nums_no (k : Int) (v2 v3 v4 v6 v7 : Value) (Ai Al : Option Addr) (ni ci nl cl : Nat) (w : World) (hB : l5B k nl = false) : Calls Tryz.prog 33 #[.agg #[.int .i64 k, .slice Ai ni ci, v2, v3, v4, .slice Al nl cl, v6, v7]] w fun e w' =>
    ∃ b, e = .returned (.tuple #[.slice (some ⟨b, 0, none⟩) 0 0, .bool false]) ∧ Below w.heap.size w w' := by
  by_cases h0 : k ≤ 2
  · have q0 : ¬ (2 : Int) < k := by omega
    have q1 : (0 : Int) < nl := by
      unfold l5B at hB
      rw [decide_eq_true h0] at hB
      simp at hB
      omega
    clear h0 hB
    go_enter Tryz.func33, Tryz.ntmps33
    have hO := Own.nil w
    go_wp2_with (first | ((with_reducible refine zad ?_); refine zbx rfl hO rfl rfl ?_; (refine nm 0 rfl ?_; clear hO; intro b0 u hO); simp only [zL, zK] at hO) | ((with_reducible refine zaa ?_); refine zlf rfl hO rfl _ (by exact at0) ?_) | ((with_reducible refine zao ?_); refine zaj (cs := []) hO rfl (by rfl) [] (by rfl) (by rfl) rfl (zM rfl) (by rfl) rfl (fun b => by simp only [Act.put, zA, zB, zC]; rfl) ?_; clear hO; intro bb u hO; simp only [zL, zK] at hO) | fail)
    go_ret2
    exact ⟨⟨_, rfl⟩, hO.below⟩
  · have q0 : (2 : Int) < k := by omega
    clear h0 hB
    go_enter Tryz.func33, Tryz.ntmps33
    have hO := Own.nil w
    go_wp2_with (first | ((with_reducible refine zad ?_); refine zbx rfl hO rfl rfl ?_; (refine nm 0 rfl ?_; clear hO; intro b0 u hO); simp only [zL, zK] at hO) | ((with_reducible refine zaa ?_); refine zlf rfl hO rfl _ (by exact at0) ?_) | ((with_reducible refine zao ?_); refine zaj (cs := []) hO rfl (by rfl) [] (by rfl) (by rfl) rfl (zM rfl) (by rfl) rfl (fun b => by simp only [Act.put, zA, zB, zC]; rfl) ?_; clear hO; intro bb u hO; simp only [zL, zK] at hO) | fail)
    go_ret2
    first
      | exact ⟨_, rfl, hO.below⟩
      | exact hO.below

end

end Go.Proofs.YtmofcbpabdbjlaaGreat
