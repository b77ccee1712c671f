/-
  What is proved: the end of a function that hands back an owned vector and a string.
  Condition: none.
-/
import Derived.Test.YtmofcbpabdbjlaaMv
import Derived.Deep.Cut
namespace Go.Proofs.Ytmofcbpabdbjlaa
set_option maxRecDepth 8000
open Go.RowKit Go.ChangeShapes Go.WideShapes
set_option linter.unusedVariables false
set_option linter.unusedSimpArgs false

/-- the end: a struct variable and one more value are handed back -/
theorem ret_box2 {P : Program} {w0 w : World} {L : List Res} {a : Act} {fn : Func} {R : Ending → World → Prop} {p q : Tmp} {ty : TypeId} (hres : fn.results = #[.cell p ty, .tmp q]) (hO : Own w0 L w) {b : Nat} (hp : a.tmps.getD p undef = .pointer (some ⟨b, 0, none⟩))
    (k : Nat) {t : TypeId} {cs : List Value} (hk : L[k]? = some (box b t cs)) {n : Nat} [hT : AggT P ty n] (hn : cs.length = n) (hd : a.defers = []) {v : Value} (hv : a.tmps.getD q undef = v) (hR : R (.returned (.tuple #[.agg cs.toArray, v])) w) : bodyPost P fn R .ret a w := by
  obtain ⟨d, h1, h2, h3⟩ := hT.of
  subst hn
  subst hv
  refine ⟨hd, _, ?_, hR⟩
  have hl := run_loadVar_mid (P := P) w b 0 ty cs d (hO.range k hk) h1 h2 h3
  have hp' : a.tmps[p]?.getD undef = .pointer (some ⟨b, 0, none⟩) := by rw [← Array.getD_eq_getD_getElem?]; exact hp
  simp [results, hres, hp', asAddr, hl]

/-- hands back an owned vector and a string -/
def RetVS (t : VT) (s : ByteArray) (w : World) (e : Ending) (w' : World) : Prop := ∃ vs F, e = .returned (.tuple #[.agg vs.toArray, .string s]) ∧ VO t vs F ∧ Own w [pack F] w'
/-- hands back a vector that reads so, and a string -/
def RdRS (t : VT) (s : ByteArray) (w : World) (e : Ending) (w' : World) : Prop := ∃ vs, e = .returned (.tuple #[.agg vs.toArray, .string s]) ∧ RdV w' t vs ∧ Below w.heap.size w w'
theorem RetVS.rd {t : VT} {s : ByteArray} {w : World} {e : Ending} {w' : World} (h : RetVS t s w e w') : RdRS t s w e w' := by
  obtain ⟨vs, F, rfl, hvo, hO⟩ := h
  exact ⟨vs, rfl, hO.rdp 0 rfl hvo, hO.below⟩

end Go.Proofs.Ytmofcbpabdbjlaa
