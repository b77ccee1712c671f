/-
  What is proved: plain facts on copies of lists of vectors (the reference marks what is not valid), and on lists of vectors.
  Condition: none.
-/
import Derived.Test.YtmofcbpabdbjlaaFit
import Derived.Test.YtmofcbpabdbjlaaMiA
namespace Go.Proofs.Ytmofcbpabdbjlaa
set_option maxRecDepth 8000
open Go.RowKit Go.ChangeShapes Go.WideShapes Go.Deep
set_option linter.unusedVariables false
set_option linter.unusedSimpArgs false

def badP : VT := .mk (-1) [] [] [] [] [] 0 0
def copP (p : VT) : VT := if lB 3 p then p else badP
def copL (ps : List VT) : List VT := (ps.take 41).map copP

theorem lL_mem {n : Nat} : ∀ {ps : List VT}, lL n ps = true → ∀ p ∈ ps, n ≠ 0 ∧ lB (n - 1) p = true := by
  intro ps
  induction ps with
  | nil => intro _ p hp; simp at hp
  | cons q qs ih =>
    intro h p hp
    simp only [lL, Bool.and_eq_true, decide_eq_true_eq] at h
    rcases List.mem_cons.1 hp with rfl | hp
    · exact h.1
    · exact ih h.2 p hp
theorem lL_of {n : Nat} (hn : n ≠ 0) : ∀ {ps : List VT}, (∀ p ∈ ps, lB (n - 1) p = true) → lL n ps = true := by
  intro ps
  induction ps with
  | nil => intro _; rfl
  | cons q qs ih =>
    intro h
    simp only [lL, Bool.and_eq_true, decide_eq_true_eq]
    exact ⟨⟨hn, h q (List.mem_cons_self)⟩, ih fun p hp => h p (List.mem_cons_of_mem _ hp)⟩
theorem lB_mono (t : VT) : ∀ n, lB n t = true → lB (n + 1) t = true := by
  induction t using VT.ind with
  | _ k is ps ns cs ls c e ih =>
    intro n h
    simp only [lB, Bool.and_eq_true] at h ⊢
    refine ⟨h.1, lL_of (by omega) fun p hp => ?_⟩
    have h2 := lL_mem h.2 p hp
    have := ih p hp (n - 1) h2.2
    rw [show n - 1 + 1 = n by omega] at this
    simpa using this
theorem lB_parts {k : Int} {is : List It} {ps : List VT} {ns cs ls : List ByteArray} {c e : Int} (h : lB 3 (.mk k is ps ns cs ls c e) = true) : ∀ p ∈ ps, lB 3 p = true := by
  simp only [lB, Bool.and_eq_true] at h
  intro p hp
  exact lB_mono p 2 (lL_mem h.2 p hp).2
theorem lB_short {k : Int} {is : List It} {ps : List VT} {ns cs ls : List ByteArray} {c e : Int} {n : Nat} (h : lB n (.mk k is ps ns cs ls c e) = true) : ps.length ≤ 40 := by
  simp only [lB, Bool.and_eq_true] at h
  have h2 := h.1
  unfold nodeB headB at h2
  simp only [Bool.and_eq_true, Bool.or_eq_true, decide_eq_true_eq, Bool.not_eq_true', decide_eq_false_iff_not] at h2
  have h3 := h2.1.1.1.1.1.1.1.1.1.1.2
  have h4 := h2.1.1.1.1.2
  rw [show lenV (.mk k is ps ns cs ls c e) = if k = 5 then 1 else is.length + ps.length from rfl] at h3
  by_cases h5 : k = 5
  · rcases h4 with h4 | h4
    · omega
    · omega
  · rw [if_neg h5] at h3
    omega
theorem copL_eq {ps : List VT} (h : ∀ p ∈ ps, lB 3 p = true) (hl : ps.length ≤ 41) : copL ps = ps := by
  unfold copL
  rw [List.take_of_length_le hl]
  have : ∀ l : List VT, (∀ p ∈ l, lB 3 p = true) → l.map copP = l := by
    intro l
    induction l with
    | nil => intro _; rfl
    | cons q l ih =>
      intro h
      rw [List.map_cons, ih fun p hp => h p (List.mem_cons_of_mem _ hp)]
      unfold copP
      rw [if_pos (h q (List.mem_cons_self))]
  exact this ps h
theorem copL_len (ps : List VT) : (copL ps).length ≤ 41 := by
  unfold copL
  rw [List.length_map, List.length_take]
  omega
theorem copL_size (ps : List VT) : szL (copL ps) ≤ szL ps := by
  have hc : ∀ p, szV (copP p) ≤ szV p := by
    intro p
    unfold copP
    split
    · exact Nat.le_refl _
    · simp [badP, szV, szI, szL, szS, stz, itz]
  have key : ∀ (l : List VT) (n : Nat), szL ((l.take n).map copP) ≤ szL l := by
    intro l
    induction l with
    | nil => intro n; simp
    | cons q l ih =>
      intro n
      cases n with
      | zero => simp [szL]
      | succ n =>
        have h1 := hc q
        have h2 := ih n
        rw [List.take_succ_cons, List.map_cons]
        simp only [szL]
        omega
  exact key ps 41

theorem cellsL_mem {ps : List VT} : ∀ p ∈ ps, cellsV p ≤ cellsL ps := by
  induction ps with
  | nil => intro p hp; simp at hp
  | cons q ps ih =>
    intro p hp
    simp only [cellsL]
    rcases List.mem_cons.1 hp with rfl | hp
    · omega
    · have := ih p hp; omega
/-- the parts of a valid vector are valid -/
theorem isV_parts {k : Int} {is : List It} {ps : List VT} {ns cs ls : List ByteArray} {c e : Int} (h : isV (.mk k is ps ns cs ls c e) = true) : ps.length ≤ 40 ∧ ∀ p ∈ ps, isV p = true := by
  unfold isV at h
  simp only [Bool.and_eq_true, decide_eq_true_eq] at h
  refine ⟨lB_short h.1, fun p hp => ?_⟩
  unfold isV
  simp only [Bool.and_eq_true, decide_eq_true_eq]
  refine ⟨lB_parts h.1 p hp, ?_⟩
  have h1 := cellsL_mem p hp
  have h2 := h.2
  simp only [cellsV] at h2
  omega
theorem isV_lB {t : VT} (h : isV t = true) : lB 3 t = true := by
  unfold isV at h
  simp only [Bool.and_eq_true] at h
  exact h.1
theorem isV_badP : isV badP = false := by
  unfold isV badP
  have : lB 3 (.mk (-1) [] [] [] [] [] 0 0) = false := by
    unfold lB nodeB headB
    simp
  rw [this]
  rfl

/-- a list of vectors -/
def lsV (ps : List VT) (ns : List ByteArray) : VT := .mk 4 [] ps (tdN ns) [] [] 0 0
/-- parts that are all valid: the reference's list is the same, or both are invalid -/
theorem lsV_all {ps : List VT} {ns : List ByteArray} (h : ∀ p ∈ ps, isV p = true) : isV (lsV (copL ps) ns) = isV (lsV ps ns) ∧ (isV (lsV ps ns) = true → copL ps = ps) := by
  by_cases hl : ps.length ≤ 41
  · rw [copL_eq (fun p hp => isV_lB (h p hp)) hl]
    exact ⟨rfl, fun _ => rfl⟩
  · have h1 : isV (lsV ps ns) = false := by
      cases hq : isV (lsV ps ns) with
      | false => rfl
      | true => have := (isV_parts hq).1; omega
    have h2 : isV (lsV (copL ps) ns) = false := by
      cases hq : isV (lsV (copL ps) ns) with
      | false => rfl
      | true =>
        have := (isV_parts hq).1
        unfold copL at this
        rw [List.length_map, List.length_take] at this
        omega
    rw [h1, h2]
    exact ⟨rfl, fun h => by cases h⟩
theorem lsV_bad {ps : List VT} {ns : List ByteArray} {k : Nat} (hk : k < ps.length) (h : isV ps[k] = false) : isV (lsV (copL ps) ns) = false := by
  cases hq : isV (lsV (copL ps) ns) with
  | false => rfl
  | true =>
    exfalso
    obtain ⟨h1, h2⟩ := isV_parts hq
    have hl : ps.length ≤ 40 := by
      unfold copL at h1
      rw [List.length_map, List.length_take] at h1
      omega
    have hm : copP ps[k] ∈ copL ps := by
      unfold copL
      rw [List.take_of_length_le (by omega)]
      exact List.mem_map.2 ⟨_, List.getElem_mem hk, rfl⟩
    have h3 := h2 _ hm
    unfold copP at h3
    split at h3
    · rw [h] at h3; cases h3
    · rw [isV_badP] at h3; cases h3

/-- what ListVector hands back -/
def lsT (ps : List VT) (ns : List ByteArray) : VT := if isV (lsV (copL ps) ns) then lsV (copL ps) ns else vecI 0 []
def lsS (ps : List VT) (ns : List ByteArray) : ByteArray := if isV (lsV (copL ps) ns) then ⟨#[]⟩ else bigS

theorem tdN_size (ns : List ByteArray) : szS (tdN ns) ≤ szS ns := by
  unfold tdN
  split
  · simp [szS, stz]
  · exact Nat.le_refl _
theorem lsV_size {ps : List VT} {ns : List ByteArray} : szV (lsV ps ns) ≤ szL ps + szS ns := by
  have := tdN_size ns
  simp only [lsV, szV, szI, szS, List.length_nil, itz, stz] at this ⊢
  omega
theorem lsT_size {ps : List VT} {ns : List ByteArray} {z : Nat} (h : szL ps + szS ns ≤ z) : szV (lsT ps ns) ≤ z := by
  unfold lsT
  split
  · have h1 := lsV_size (ps := copL ps) (ns := ns)
    have h2 := copL_size ps
    omega
  · simp [vecI, szV, szI, szL, szS, stz, itz]

end Go.Proofs.Ytmofcbpabdbjlaa
