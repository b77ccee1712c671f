/-
  What is proved: helpers for comparisons and choices (conversions of plain vectors).
  No condition.
-/
import Derived.Test.YtmofcbpabdbjlaaCmA
import Derived.Test.YtmofcbpabdbjlaaSt
namespace Go.Proofs.Ytmofcbpabdbjlaa
set_option maxRecDepth 8000
open Go.RowKit Go.ChangeShapes Go.WideShapes Go.Deep
set_option linter.unusedVariables false
set_option linter.unusedSimpArgs false

def notAtS : ByteArray := ⟨#[110, 111, 116, 32, 97, 110, 32, 97, 116, 111, 109, 105, 99, 32, 118, 101, 99, 116, 111, 114]⟩
def cmK (a b : VT) : Int := if plK a = 3 ∨ plK b = 3 then 3 else 2
def cmX (k : Int) (a : VT) : List It := (plL a).map (cvI (plK a) k)
def cmW (op : ByteArray) (a b : VT) : VT := vecN 1 (pwL (atI (cmX (cmK a b) a)) (atI (cmX (cmK a b) b)) (cpF op (cmK a b)) (recN a.items.length b.items.length)) (nmQ (recN a.items.length b.items.length) (lenV a) a.names (lenV b) b.names)
def cmT (op : ByteArray) (a b : VT) : VT := if isV a && isV b then (if cK op < 6 then (if a.kind ≤ 3 ∧ b.kind ≤ 3 then (if recB a.items.length b.items.length then cmW op a b else vecI 0 []) else vecI 0 []) else vecI 0 []) else vecI 0 []
def cmS (op : ByteArray) (a b : VT) : ByteArray := if isV a && isV b then (if cK op < 6 then (if a.kind ≤ 3 ∧ b.kind ≤ 3 then (if recB a.items.length b.items.length then ⟨#[]⟩ else difS) else notAtS) else unkS) else badS

theorem RdV.sli {w : World} {k : Int} {is : List It} {ps : List VT} {ns cs ls : List ByteArray} {c e : Int} {A : Option Addr} {n r : Nat} {v0 v2 v3 v4 v5 v6 v7 : Value} (h : RdV w (.mk k is ps ns cs ls c e) [v0, .slice A n r, v2, v3, v4, v5, v6, v7]) : Sl w 3 A is.length (itc is) := by
  cases h with
  | mk hi hp hl hr hn hc hv hcap => exact hi
/-- hands back a vector of items, cell by cell, and a value -/
def RetVX (k : Int) (l : List It) (y : Value) (w : World) (e : Ending) (w' : World) : Prop := ∃ (Q1 Q2 Q3 Q4 Q5 : Option Addr) (m1 m2 m3 m4 m5 : Nat) (F : List Res), e = .returned (.tuple #[.agg #[.int .i64 k, .slice Q1 l.length m1, .slice Q2 0 m2, .slice Q3 0 m3, .slice Q4 0 m4, .slice Q5 0 m5, .int .i64 0, .int .i64 0], y]) ∧ VO (.mk k l [] [] [] [] 0 0) [.int .i64 k, .slice Q1 l.length m1, .slice Q2 0 m2, .slice Q3 0 m3, .slice Q4 0 m4, .slice Q5 0 m5, .int .i64 0, .int .i64 0] F ∧ Own w [pack F] w'
theorem RetVX.of {P : Program} {f : Nat} {args : Array Value} {u : World} {k : Int} {l : List It} {y : Value} (h : Calls P f args u (RetVE (.mk k l [] [] [] [] 0 0) y u)) : Calls P f args u (RetVX k l y u) := h.mono fun _ _ h => h
instance zeroInt : ZeroT Try.prog 3 [.int .i64 0] := ⟨⟨.int .i64 0, by kernel_rfl, rfl⟩⟩

theorem isV_lensC {t : VT} (h : isV t = true) : t.items.length ≤ 40 ∧ (t.names.length = 0 ∨ t.names.length = lenV t) ∧ 0 ≤ t.kind := by
  obtain ⟨k, is, ps, ns, cs, ls, c, e⟩ := t
  have hf := isV_facts h
  exact ⟨isV_items h, hf.2.2.1, hf.1.1⟩
theorem plK_bd {t : VT} (h : isV t = true) (h3 : t.kind ≤ 3) : 0 ≤ plK t ∧ plK t ≤ 3 := by
  have := (isV_lensC h).2.2
  unfold plK
  split <;> omega

end Go.Proofs.Ytmofcbpabdbjlaa
