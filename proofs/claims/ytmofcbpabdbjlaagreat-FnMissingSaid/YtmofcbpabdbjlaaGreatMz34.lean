/-
  What is proved: helpers for comparisons and choices (conversions of plain vectors); plain facts: what is missing in an operand is missing in the results. No program in sight.
  Condition: none beyond those of the theorems.
-/
import Derived.Test.YtmofcbpabdbjlaaGreatMz7
import Derived.Test.YtmofcbpabdbjlaaGreatMz14
import Derived.Test.YtmofcbpabdbjlaaGreatMz29
import Derived.Test.YtmofcbpabdbjlaaGreatMz33
namespace Go.Proofs.YtmofcbpabdbjlaaGreat

set_option maxRecDepth 8000

open Go.RowKit Go.ChangeShapes Go.WideShapes Go.Deep

set_option linter.unusedVariables false

set_option linter.unusedSimpArgs false

def notAtS : ByteArray := ⟨#[110, 111, 116, 32, 97, 110, 32, 97, 116, 111, 109, 105, 99, 32, 118, 101, 99, 116, 111, 114]⟩

def cmK (a b : VT) : Int := if plK a = 3 ∨ plK b = 3 then 3 else 2

def cmX (k : Int) (a : VT) : List It := (plL a).map (cvI (plK a) k)

def cmW (op : ByteArray) (a b : VT) : VT := vecN 1 (pwL (atI (cmX (cmK a b) a)) (atI (cmX (cmK a b) b)) (cpF op (cmK a b)) (recN a.items.length b.items.length)) (nmQ (recN a.items.length b.items.length) (lenV a) a.names (lenV b) b.names)

def cmT (op : ByteArray) (a b : VT) : VT := if isV a && isV b then (if cK op < 6 then (if a.kind ≤ 3 ∧ b.kind ≤ 3 then (if recB a.items.length b.items.length then cmW op a b else vecI 0 []) else vecI 0 []) else vecI 0 []) else vecI 0 []

def cmS (op : ByteArray) (a b : VT) : ByteArray := if isV a && isV b then (if cK op < 6 then (if a.kind ≤ 3 ∧ b.kind ≤ 3 then (if recB a.items.length b.items.length then ⟨#[]⟩ else difS) else notAtS) else unkS) else badS

theorem RdV.sli {w : World} {k : Int} {is : List It} {ps : List VT} {ns cs ls : List ByteArray} {c e : Int} {A : Option Addr} {n r : Nat} {v0 v2 v3 v4 v5 v6 v7 : Value} (h : RdV w (.mk k is ps ns cs ls c e) [v0, .slice A n r, v2, v3, v4, v5, v6, v7]) : Sl w 3 A is.length (itc is) := by
  cases h with
  | mk hi hp hl hr hn hc hv hcap => exact hi

/-- hands back a vector of items, cell by cell, and a value -/
def RetVX (k : Int) (l : List It) (y : Value) (w : World) (e : Ending) (w' : World) : Prop := ∃ (Q1 Q2 Q3 Q4 Q5 : Option Addr) (m1 m2 m3 m4 m5 : Nat) (F : List Res), e = .returned (.tuple #[.agg #[.int .i64 k, .slice Q1 l.length m1, .slice Q2 0 m2, .slice Q3 0 m3, .slice Q4 0 m4, .slice Q5 0 m5, .int .i64 0, .int .i64 0], y]) ∧ VO (.mk k l [] [] [] [] 0 0) [.int .i64 k, .slice Q1 l.length m1, .slice Q2 0 m2, .slice Q3 0 m3, .slice Q4 0 m4, .slice Q5 0 m5, .int .i64 0, .int .i64 0] F ∧ Own w [pack F] w'

theorem RetVX.of {P : Program} {f : Nat} {args : Array Value} {u : World} {k : Int} {l : List It} {y : Value} (h : Calls P f args u (RetVE (.mk k l [] [] [] [] 0 0) y u)) : Calls P f args u (RetVX k l y u) := h.mono fun _ _ h => h

instance zeroInt : ZeroT Tryz.prog 3 [.int .i64 0] := ⟨⟨.int .i64 0, by kernel_rfl, rfl⟩⟩

theorem isV_lensC {t : VT} (h : isV t = true) : t.items.length ≤ 40 ∧ (t.names.length = 0 ∨ t.names.length = lenV t) ∧ 0 ≤ t.kind := by
  obtain ⟨k, is, ps, ns, cs, ls, c, e⟩ := t
  have hf := isV_facts h
  exact ⟨isV_items h, hf.2.2.1, hf.1.1⟩

theorem plK_bd {t : VT} (h : isV t = true) (h3 : t.kind ≤ 3) : 0 ≤ plK t ∧ plK t ≤ 3 := by
  have := (isV_lensC h).2.2
  unfold plK
  split <;> omega

end Go.Proofs.YtmofcbpabdbjlaaGreat

namespace Go.Proofs.YtmofcbpabdbjlaaGreat

set_option maxRecDepth 8000

set_option linter.unusedVariables false

set_option linter.unusedSimpArgs false

def ltS : ByteArray := ⟨#[60]⟩

theorem arF_mis0 (op : ByteArray) {x y : It} (h : x.den = 0 ∨ y.den = 0) : arF op x y = ⟨0, 0, ⟨#[]⟩⟩ := by
  have e : arV (opK op) x.num x.den x.text y.num y.den y.text = (0, 0) := by
    rcases h with h | h
    · have h1 := nums_no h
      unfold arV
      split <;> exact op2_no1 h1
    · have h1 := nums_no h
      unfold arV
      split
      · exact zbl h1
      · unfold subI negI
        rw [op1_no h1]
        exact zbl num00
      all_goals exact zbl h1
  unfold arF
  rw [e]

theorem mis_of {k : Int} {x : It} (h : itemB k x = true) (h0 : x.den = 0) : misB x = true := by
  unfold itemB at h
  rw [Bool.or_eq_true] at h
  rcases h with h | h
  · exact h
  · exfalso
    split at h
    · simp only [Bool.and_eq_true, decide_eq_true_eq] at h
      omega
    · split at h
      · unfold isNumI Nm.isNum at h
        rw [h0] at h
        simp at h
      · split at h
        · simp only [Bool.and_eq_true, decide_eq_true_eq] at h
          omega
        · exact absurd h (by decide)

theorem cm_ok {op : ByteArray} {a b : VT} (h : cmS op a b = ⟨#[]⟩) : cmT op a b = cmW op a b := by
  unfold cmS at h
  split at h
  · rename_i h1
    rw [Bool.and_eq_true] at h1
    split at h
    · rename_i h2
      split at h
      · rename_i h3
        split at h
        · rename_i h4
          unfold cmT
          rw [h1.1, h1.2, h4, if_pos h2, if_pos h3]
          rfl
        · exact absurd h (by decide)
      · exact absurd h (by decide)
    · exact absurd h (by decide)
  · exact absurd h (by decide)

theorem atI_mapM {f : It → It} {l : List It} {i : Nat} (h : 0 < l.length) : atI (l.map f) i = f (atI l i) := by
  have h1 : i % l.length < l.length := Nat.mod_lt _ h
  rw [atI_eq (l := l.map f) (i := i) (j := i % l.length) (by rw [List.length_map]) (by rw [List.length_map]; exact h1), atI_eq rfl h1, List.getElem_map]

theorem atI_memM {l : List It} {i : Nat} (h : 0 < l.length) : atI l i ∈ l := by
  have h1 : i % l.length < l.length := Nat.mod_lt _ h
  rw [atI_eq rfl h1]
  exact List.getElem_mem h1

theorem pwL_get {α β γ : Type} (f : Nat → α) (g : Nat → β) (G : α → β → γ) (n i : Nat) (h : i < (pwL f g G n).length) : (pwL f g G n)[i] = G (f i) (g i) := by simp [pwL]

theorem mi_main {op : ByteArray} {a b : VT} (hr : arS op a b = ⟨#[]⟩) (hs : cmS ltS a b = ⟨#[]⟩) :
    msS (arT op a b) = ⟨#[]⟩ ∧ (msT (arT op a b)).items.length = (arT op a b).items.length ∧ (cmT ltS a b).items.length = (arT op a b).items.length ∧
      ∀ i (h : i < (arT op a b).items.length) (h1 : i < (cmT ltS a b).items.length) (h2 : i < (msT (arT op a b)).items.length), 0 < a.items.length ∧ 0 < b.items.length ∧ ((atI a.items i).den = 0 ∨ (atI b.items i).den = 0 → (arT op a b).items[i].den = 0 ∧ (cmT ltS a b).items[i].den = 0 ∧ (msT (arT op a b)).items[i].num = 1) := by
  obtain ⟨hA, hT⟩ := ar_ok hr
  have hW := cm_ok hs
  have hv := arT_ok op a b
  have fa := cnt_form hA.va hA.ka
  have fb := cnt_form hA.vb hA.kb
  have hM : msT (arT op a b) = vecN 1 (((arT op a b).items.map misB).map msI) (arT op a b).names := by
    unfold msT
    rw [hv, if_pos rfl]
    unfold msB
    rw [hT]
    have e1 : (twoT 2 (arF op) a b).kind = 2 := rfl
    have e2 : (twoT 2 (arF op) a b).parts = [] := rfl
    rw [e1, e2, if_neg (by decide), List.map_nil, List.append_nil]
  have hMi : (msT (arT op a b)).items = ((arT op a b).items.map misB).map msI := by rw [hM]; rfl
  have hWi : (cmT ltS a b).items = pwL (atI (cmX (cmK a b) a)) (atI (cmX (cmK a b) b)) (cpF ltS (cmK a b)) (recN a.items.length b.items.length) := by rw [hW]; rfl
  have hTi : (arT op a b).items = pwL (atI a.items) (atI b.items) (arF op) (recN a.items.length b.items.length) := by rw [hT]; rfl
  have pl : ∀ {t : VT}, t.levels = [] → plL t = t.items := fun {t} h => by unfold plL; rw [h]; rfl
  refine ⟨?_, ?_, ?_, ?_⟩
  · unfold msS
    rw [hv]
    rfl
  · rw [hMi, List.length_map, List.length_map]
  · rw [hWi, hTi, pwL_len, pwL_len]
  · intro i h h1 h2
    have hn := h
    rw [hTi, pwL_len] at hn
    have p : 0 < a.items.length ∧ 0 < b.items.length := by
      unfold recN at hn
      split at hn
      · omega
      · rename_i hz
        omega
    refine ⟨p.1, p.2, fun hz => ?_⟩
    have g1 : (arT op a b).items[i] = ⟨0, 0, ⟨#[]⟩⟩ := by
      rw [List.getElem_of_eq hTi h, pwL_get]
      exact arF_mis0 op hz
    refine ⟨by rw [g1], ?_, ?_⟩
    · rw [List.getElem_of_eq hWi h1, pwL_get]
      have m : misB (atI (cmX (cmK a b) a) i) = true ∨ misB (atI (cmX (cmK a b) b) i) = true := by
        have cv : ∀ {f t : Int} {x : It}, misB x = true → misB (cvI f t x) = true := fun {f t x} h => by
          unfold cvI
          rw [h]
          exact h
        rcases hz with hz | hz
        · refine .inl ?_
          unfold cmX
          rw [pl fa.2.1, atI_mapM p.1]
          exact cv (mis_of (fa.2.2.2.2.2.2.2.1 _ (atI_memM p.1)) hz)
        · refine .inr ?_
          unfold cmX
          rw [pl fb.2.1, atI_mapM p.2]
          exact cv (mis_of (fb.2.2.2.2.2.2.2.1 _ (atI_memM p.2)) hz)
      unfold cpF
      rcases m with m | m
      · rw [m]; rfl
      · rw [m, Bool.or_true]; rfl
    · rw [List.getElem_of_eq hMi h2, List.getElem_map, List.getElem_map, g1, show misB (⟨0, 0, ⟨#[]⟩⟩ : It) = true by simp [misB]]
      rfl

end Go.Proofs.YtmofcbpabdbjlaaGreat
