/-
  No cell of these rows narrows 'for every input' (looked for: loops, veiled, ifaces, maps, wideKeys, modest, calm, conditions, laid).
  DERIVED. THE GIVEN ROWS OF THIS SEAT. 12 by the template 'for every input the law returns true; each argument reads behind the call as it read before'; 0 by the template 'total and deterministic' (their statements: YtodpmefalheodaaTotals.lean).
  GIVEN WITH THE SEED: the statements are not yours to turn. If you find one false, say at which input.
  Laid BY PROGRAM, IN A SANDBOX (cutbox-rows.mjs): the forced cells as the released guide's own fill.sh prints them over the translation a5858ee82ffe87a5… (all of the seat's roots in one cut). By AI agents, Wed Nov 11 2026. No macro, syntax, notation, axiom, sorry.
-/
import Derived.Test.YtodpmefalheodaaChecked
import GoSem.Claim
import GoSem.ClaimJoined
import GoSem.ClaimMapViews
import Derived.JoinedTies
import Derived.KernelRfl
namespace Go.Proofs.Ytodpmefalheodaa
/- THE CELL 'sum', in the pinned program and in every row, IS THE sha256 OF THE DUMP (.gsa) THAT YtodpmefalheodaaProg.lean LOADS. Nothing in Lean hashes anything: it is a label: what it is worth is what the hold of that sum in a sandbox is worth. -/
noncomputable def Try.pinned : Pinned := { name := "ytodpmefalheodaa", sum := "a5858ee82ffe87a5686467c9cd4e95f818d0c327c96bce4f440c119ff42d5201", checked := Try.checked }
namespace Rows
def none {H : Type} : Left H := { results := [], args := [] }

/-- 'laws.FnExactConstants': WHATEVER THE INPUT: true; the input reads as it did. -/
def fnExactConstantsSpec : ChangeSpec := { name := "fnExactConstants", fn := fun _ => fun
  | [] => { results := [.lit (.bool true)], args := [] }
  | _ => none }
def fnExactConstantsRow : OpenClaim := { program := "ytodpmefalheodaa", sum := "a5858ee82ffe87a5686467c9cd4e95f818d0c327c96bce4f440c119ff42d5201", func := "loop.example/g03406/laws.FnExactConstants", spec := "fnExactConstants", apart := false }
def FnExactConstantsSaid : Prop := fnExactConstantsRow.holds Try.pinned (OpenSpec.ofChange fnExactConstantsSpec)

/-- ITS FALSE NEIGHBOUR: 'it returns false'. Refute it at one input. -/
def fnExactConstantsWrong : ChangeSpec := { name := "fnExactConstants", fn := fun _ => fun
  | [] => { results := [.lit (.bool false)], args := [] }
  | _ => none }
def FnExactConstantsWrongFalsely : Prop := fnExactConstantsRow.holds Try.pinned (OpenSpec.ofChange fnExactConstantsWrong)

/-- 'laws.FnExactNotLogical': WHATEVER THE INPUT: true; the input reads as it did. -/
def fnExactNotLogicalSpec : ChangeSpec := { name := "fnExactNotLogical", fn := fun _ => fun
  | [d] => { results := [.lit (.bool true)], args := [d] }
  | _ => none }
def fnExactNotLogicalRow : OpenClaim := { program := "ytodpmefalheodaa", sum := "a5858ee82ffe87a5686467c9cd4e95f818d0c327c96bce4f440c119ff42d5201", func := "loop.example/g03406/laws.FnExactNotLogical", spec := "fnExactNotLogical", apart := false }
def FnExactNotLogicalSaid : Prop := fnExactNotLogicalRow.holds Try.pinned (OpenSpec.ofChange fnExactNotLogicalSpec)

/-- ITS FALSE NEIGHBOUR: 'it returns false'. Refute it at one input. -/
def fnExactNotLogicalWrong : ChangeSpec := { name := "fnExactNotLogical", fn := fun _ => fun
  | [d] => { results := [.lit (.bool false)], args := [d] }
  | _ => none }
def FnExactNotLogicalWrongFalsely : Prop := fnExactNotLogicalRow.holds Try.pinned (OpenSpec.ofChange fnExactNotLogicalWrong)

/-- 'laws.FnExactXorLogical': WHATEVER THE INPUT: true; the input reads as it did. -/
def fnExactXorLogicalSpec : ChangeSpec := { name := "fnExactXorLogical", fn := fun _ => fun
  | [d1, d2] => { results := [.lit (.bool true)], args := [d1, d2] }
  | _ => none }
def fnExactXorLogicalRow : OpenClaim := { program := "ytodpmefalheodaa", sum := "a5858ee82ffe87a5686467c9cd4e95f818d0c327c96bce4f440c119ff42d5201", func := "loop.example/g03406/laws.FnExactXorLogical", spec := "fnExactXorLogical", apart := false }
def FnExactXorLogicalSaid : Prop := fnExactXorLogicalRow.holds Try.pinned (OpenSpec.ofChange fnExactXorLogicalSpec)

/-- ITS FALSE NEIGHBOUR: 'it returns false'. Refute it at one input. -/
def fnExactXorLogicalWrong : ChangeSpec := { name := "fnExactXorLogical", fn := fun _ => fun
  | [d1, d2] => { results := [.lit (.bool false)], args := [d1, d2] }
  | _ => none }
def FnExactXorLogicalWrongFalsely : Prop := fnExactXorLogicalRow.holds Try.pinned (OpenSpec.ofChange fnExactXorLogicalWrong)

/-- 'laws.FnExactIsName': WHATEVER THE INPUT: true; the input reads as it did. -/
def fnExactIsNameSpec : ChangeSpec := { name := "fnExactIsName", fn := fun _ => fun
  | [d] => { results := [.lit (.bool true)], args := [d] }
  | _ => none }
def fnExactIsNameRow : OpenClaim := { program := "ytodpmefalheodaa", sum := "a5858ee82ffe87a5686467c9cd4e95f818d0c327c96bce4f440c119ff42d5201", func := "loop.example/g03406/laws.FnExactIsName", spec := "fnExactIsName", apart := false }
def FnExactIsNameSaid : Prop := fnExactIsNameRow.holds Try.pinned (OpenSpec.ofChange fnExactIsNameSpec)

/-- ITS FALSE NEIGHBOUR: 'it returns false'. Refute it at one input. -/
def fnExactIsNameWrong : ChangeSpec := { name := "fnExactIsName", fn := fun _ => fun
  | [d] => { results := [.lit (.bool false)], args := [d] }
  | _ => none }
def FnExactIsNameWrongFalsely : Prop := fnExactIsNameRow.holds Try.pinned (OpenSpec.ofChange fnExactIsNameWrong)

/-- 'laws.FnExactAndLogical': WHATEVER THE INPUT: true; the input reads as it did. -/
def fnExactAndLogicalSpec : ChangeSpec := { name := "fnExactAndLogical", fn := fun _ => fun
  | [d1, d2] => { results := [.lit (.bool true)], args := [d1, d2] }
  | _ => none }
def fnExactAndLogicalRow : OpenClaim := { program := "ytodpmefalheodaa", sum := "a5858ee82ffe87a5686467c9cd4e95f818d0c327c96bce4f440c119ff42d5201", func := "loop.example/g03406/laws.FnExactAndLogical", spec := "fnExactAndLogical", apart := false }
def FnExactAndLogicalSaid : Prop := fnExactAndLogicalRow.holds Try.pinned (OpenSpec.ofChange fnExactAndLogicalSpec)

/-- ITS FALSE NEIGHBOUR: 'it returns false'. Refute it at one input. -/
def fnExactAndLogicalWrong : ChangeSpec := { name := "fnExactAndLogical", fn := fun _ => fun
  | [d1, d2] => { results := [.lit (.bool false)], args := [d1, d2] }
  | _ => none }
def FnExactAndLogicalWrongFalsely : Prop := fnExactAndLogicalRow.holds Try.pinned (OpenSpec.ofChange fnExactAndLogicalWrong)

/-- 'laws.FnExactOrLogical': WHATEVER THE INPUT: true; the input reads as it did. -/
def fnExactOrLogicalSpec : ChangeSpec := { name := "fnExactOrLogical", fn := fun _ => fun
  | [d1, d2] => { results := [.lit (.bool true)], args := [d1, d2] }
  | _ => none }
def fnExactOrLogicalRow : OpenClaim := { program := "ytodpmefalheodaa", sum := "a5858ee82ffe87a5686467c9cd4e95f818d0c327c96bce4f440c119ff42d5201", func := "loop.example/g03406/laws.FnExactOrLogical", spec := "fnExactOrLogical", apart := false }
def FnExactOrLogicalSaid : Prop := fnExactOrLogicalRow.holds Try.pinned (OpenSpec.ofChange fnExactOrLogicalSpec)

/-- ITS FALSE NEIGHBOUR: 'it returns false'. Refute it at one input. -/
def fnExactOrLogicalWrong : ChangeSpec := { name := "fnExactOrLogical", fn := fun _ => fun
  | [d1, d2] => { results := [.lit (.bool false)], args := [d1, d2] }
  | _ => none }
def FnExactOrLogicalWrongFalsely : Prop := fnExactOrLogicalRow.holds Try.pinned (OpenSpec.ofChange fnExactOrLogicalWrong)

/-- 'laws.FnExactQuoteString': WHATEVER THE INPUT: true; the input reads as it did. -/
def fnExactQuoteStringSpec : ChangeSpec := { name := "fnExactQuoteString", fn := fun _ => fun
  | [d] => { results := [.lit (.bool true)], args := [d] }
  | _ => none }
def fnExactQuoteStringRow : OpenClaim := { program := "ytodpmefalheodaa", sum := "a5858ee82ffe87a5686467c9cd4e95f818d0c327c96bce4f440c119ff42d5201", func := "loop.example/g03406/laws.FnExactQuoteString", spec := "fnExactQuoteString", apart := false }
def FnExactQuoteStringSaid : Prop := fnExactQuoteStringRow.holds Try.pinned (OpenSpec.ofChange fnExactQuoteStringSpec)

/-- ITS FALSE NEIGHBOUR: 'it returns false'. Refute it at one input. -/
def fnExactQuoteStringWrong : ChangeSpec := { name := "fnExactQuoteString", fn := fun _ => fun
  | [d] => { results := [.lit (.bool false)], args := [d] }
  | _ => none }
def FnExactQuoteStringWrongFalsely : Prop := fnExactQuoteStringRow.holds Try.pinned (OpenSpec.ofChange fnExactQuoteStringWrong)

/-- 'laws.FnExactFormatInt': WHATEVER THE INPUT: true; the input reads as it did. -/
def fnExactFormatIntSpec : ChangeSpec := { name := "fnExactFormatInt", fn := fun _ => fun
  | [d] => { results := [.lit (.bool true)], args := [d] }
  | _ => none }
def fnExactFormatIntRow : OpenClaim := { program := "ytodpmefalheodaa", sum := "a5858ee82ffe87a5686467c9cd4e95f818d0c327c96bce4f440c119ff42d5201", func := "loop.example/g03406/laws.FnExactFormatInt", spec := "fnExactFormatInt", apart := false }
def FnExactFormatIntSaid : Prop := fnExactFormatIntRow.holds Try.pinned (OpenSpec.ofChange fnExactFormatIntSpec)

/-- ITS FALSE NEIGHBOUR: 'it returns false'. Refute it at one input. -/
def fnExactFormatIntWrong : ChangeSpec := { name := "fnExactFormatInt", fn := fun _ => fun
  | [d] => { results := [.lit (.bool false)], args := [d] }
  | _ => none }
def FnExactFormatIntWrongFalsely : Prop := fnExactFormatIntRow.holds Try.pinned (OpenSpec.ofChange fnExactFormatIntWrong)

/-- 'laws.FnExactIsNumber': WHATEVER THE INPUT: true; the input reads as it did. -/
def fnExactIsNumberSpec : ChangeSpec := { name := "fnExactIsNumber", fn := fun _ => fun
  | [d] => { results := [.lit (.bool true)], args := [d] }
  | _ => none }
def fnExactIsNumberRow : OpenClaim := { program := "ytodpmefalheodaa", sum := "a5858ee82ffe87a5686467c9cd4e95f818d0c327c96bce4f440c119ff42d5201", func := "loop.example/g03406/laws.FnExactIsNumber", spec := "fnExactIsNumber", apart := false }
def FnExactIsNumberSaid : Prop := fnExactIsNumberRow.holds Try.pinned (OpenSpec.ofChange fnExactIsNumberSpec)

/-- ITS FALSE NEIGHBOUR: 'it returns false'. Refute it at one input. -/
def fnExactIsNumberWrong : ChangeSpec := { name := "fnExactIsNumber", fn := fun _ => fun
  | [d] => { results := [.lit (.bool false)], args := [d] }
  | _ => none }
def FnExactIsNumberWrongFalsely : Prop := fnExactIsNumberRow.holds Try.pinned (OpenSpec.ofChange fnExactIsNumberWrong)

/-- 'laws.FnExactAllLogical': WHATEVER THE INPUT: true; the input reads as it did. -/
def fnExactAllLogicalSpec : ChangeSpec := { name := "fnExactAllLogical", fn := fun _ => fun
  | [d] => { results := [.lit (.bool true)], args := [d] }
  | _ => none }
def fnExactAllLogicalRow : OpenClaim := { program := "ytodpmefalheodaa", sum := "a5858ee82ffe87a5686467c9cd4e95f818d0c327c96bce4f440c119ff42d5201", func := "loop.example/g03406/laws.FnExactAllLogical", spec := "fnExactAllLogical", apart := false }
def FnExactAllLogicalSaid : Prop := fnExactAllLogicalRow.holds Try.pinned (OpenSpec.ofChange fnExactAllLogicalSpec)

/-- ITS FALSE NEIGHBOUR: 'it returns false'. Refute it at one input. -/
def fnExactAllLogicalWrong : ChangeSpec := { name := "fnExactAllLogical", fn := fun _ => fun
  | [d] => { results := [.lit (.bool false)], args := [d] }
  | _ => none }
def FnExactAllLogicalWrongFalsely : Prop := fnExactAllLogicalRow.holds Try.pinned (OpenSpec.ofChange fnExactAllLogicalWrong)

/-- 'laws.FnExactAnyLogical': WHATEVER THE INPUT: true; the input reads as it did. -/
def fnExactAnyLogicalSpec : ChangeSpec := { name := "fnExactAnyLogical", fn := fun _ => fun
  | [d] => { results := [.lit (.bool true)], args := [d] }
  | _ => none }
def fnExactAnyLogicalRow : OpenClaim := { program := "ytodpmefalheodaa", sum := "a5858ee82ffe87a5686467c9cd4e95f818d0c327c96bce4f440c119ff42d5201", func := "loop.example/g03406/laws.FnExactAnyLogical", spec := "fnExactAnyLogical", apart := false }
def FnExactAnyLogicalSaid : Prop := fnExactAnyLogicalRow.holds Try.pinned (OpenSpec.ofChange fnExactAnyLogicalSpec)

/-- ITS FALSE NEIGHBOUR: 'it returns false'. Refute it at one input. -/
def fnExactAnyLogicalWrong : ChangeSpec := { name := "fnExactAnyLogical", fn := fun _ => fun
  | [d] => { results := [.lit (.bool false)], args := [d] }
  | _ => none }
def FnExactAnyLogicalWrongFalsely : Prop := fnExactAnyLogicalRow.holds Try.pinned (OpenSpec.ofChange fnExactAnyLogicalWrong)

/-- 'laws.FnExactIsSyntacticName': WHATEVER THE INPUT: true; the input reads as it did. -/
def fnExactIsSyntacticNameSpec : ChangeSpec := { name := "fnExactIsSyntacticName", fn := fun _ => fun
  | [d] => { results := [.lit (.bool true)], args := [d] }
  | _ => none }
def fnExactIsSyntacticNameRow : OpenClaim := { program := "ytodpmefalheodaa", sum := "a5858ee82ffe87a5686467c9cd4e95f818d0c327c96bce4f440c119ff42d5201", func := "loop.example/g03406/laws.FnExactIsSyntacticName", spec := "fnExactIsSyntacticName", apart := false }
def FnExactIsSyntacticNameSaid : Prop := fnExactIsSyntacticNameRow.holds Try.pinned (OpenSpec.ofChange fnExactIsSyntacticNameSpec)

/-- ITS FALSE NEIGHBOUR: 'it returns false'. Refute it at one input. -/
def fnExactIsSyntacticNameWrong : ChangeSpec := { name := "fnExactIsSyntacticName", fn := fun _ => fun
  | [d] => { results := [.lit (.bool false)], args := [d] }
  | _ => none }
def FnExactIsSyntacticNameWrongFalsely : Prop := fnExactIsSyntacticNameRow.holds Try.pinned (OpenSpec.ofChange fnExactIsSyntacticNameWrong)

/- THE SECOND FORM. 'bulk': how many values and letters a reading holds, each counted each time it is reached (what is shared counts as often as it is met; a slice's spare places count too). A statement '..UptoSaid' is the law's where the arguments, and the package variables that the reading takes, are together of bulk at most 1048576: NARROWER than '..Said'. Prove '..Said' where nothing that the law and all that it calls make is longer than what came in: it says more and counts as full. Else prove '..UptoSaid'. A law counts once. -/
mutual
def uptoBulk {H : Type} : DataW H → Nat
  | .lit (.string bytes) => bytes.length + 1
  | .lit _ => 1
  | .nil => 1
  | .ptr d => uptoBulk d + 1
  | .slice elems spare => uptoBulkAll elems + uptoBulkAll spare + 1
  | .agg parts => uptoBulkAll parts + 1
  | .iface _ d => uptoBulk d + 1
  | .map entries => uptoBulkEntries entries + 1
  | .held _ => 1
def uptoBulkAll {H : Type} : List (DataW H) → Nat
  | [] => 0
  | d :: r => uptoBulk d + uptoBulkAll r
def uptoBulkEntries {H : Type} : List (Lit × DataW H) → Nat
  | [] => 0
  | x :: r => uptoBulkEntry x + uptoBulkEntries r
def uptoBulkEntry {H : Type} : Lit × DataW H → Nat
  | (.string bytes, d) => bytes.length + uptoBulk d + 1
  | (_, d) => uptoBulk d + 1
 end
def uptoSmall : (H : Type) → List (DataW H) → Bool := fun _ ds => decide (uptoBulkAll ds ≤ 1048576)
def OpenSpec.upto (s : _root_.Go.ChangeSpec) : _root_.Go.OpenSpec := { _root_.Go.OpenSpec.ofChange s with cond := some uptoSmall }

/-- 'laws.FnExactConstants', WHERE WHAT IT READS IS OF BULK AT MOST 1048576: true; the input reads as it did. -/
def fnExactConstantsUptoRow : OpenClaim := { program := "ytodpmefalheodaa", sum := "a5858ee82ffe87a5686467c9cd4e95f818d0c327c96bce4f440c119ff42d5201", func := "loop.example/g03406/laws.FnExactConstants", spec := "fnExactConstants", apart := false, narrowed := true }
def FnExactConstantsUptoSaid : Prop := fnExactConstantsUptoRow.holds Try.pinned (OpenSpec.upto fnExactConstantsSpec)

/-- 'laws.FnExactNotLogical', WHERE WHAT IT READS IS OF BULK AT MOST 1048576: true; the input reads as it did. -/
def fnExactNotLogicalUptoRow : OpenClaim := { program := "ytodpmefalheodaa", sum := "a5858ee82ffe87a5686467c9cd4e95f818d0c327c96bce4f440c119ff42d5201", func := "loop.example/g03406/laws.FnExactNotLogical", spec := "fnExactNotLogical", apart := false, narrowed := true }
def FnExactNotLogicalUptoSaid : Prop := fnExactNotLogicalUptoRow.holds Try.pinned (OpenSpec.upto fnExactNotLogicalSpec)

/-- 'laws.FnExactXorLogical', WHERE WHAT IT READS IS OF BULK AT MOST 1048576: true; the input reads as it did. -/
def fnExactXorLogicalUptoRow : OpenClaim := { program := "ytodpmefalheodaa", sum := "a5858ee82ffe87a5686467c9cd4e95f818d0c327c96bce4f440c119ff42d5201", func := "loop.example/g03406/laws.FnExactXorLogical", spec := "fnExactXorLogical", apart := false, narrowed := true }
def FnExactXorLogicalUptoSaid : Prop := fnExactXorLogicalUptoRow.holds Try.pinned (OpenSpec.upto fnExactXorLogicalSpec)

/-- 'laws.FnExactIsName', WHERE WHAT IT READS IS OF BULK AT MOST 1048576: true; the input reads as it did. -/
def fnExactIsNameUptoRow : OpenClaim := { program := "ytodpmefalheodaa", sum := "a5858ee82ffe87a5686467c9cd4e95f818d0c327c96bce4f440c119ff42d5201", func := "loop.example/g03406/laws.FnExactIsName", spec := "fnExactIsName", apart := false, narrowed := true }
def FnExactIsNameUptoSaid : Prop := fnExactIsNameUptoRow.holds Try.pinned (OpenSpec.upto fnExactIsNameSpec)

/-- 'laws.FnExactAndLogical', WHERE WHAT IT READS IS OF BULK AT MOST 1048576: true; the input reads as it did. -/
def fnExactAndLogicalUptoRow : OpenClaim := { program := "ytodpmefalheodaa", sum := "a5858ee82ffe87a5686467c9cd4e95f818d0c327c96bce4f440c119ff42d5201", func := "loop.example/g03406/laws.FnExactAndLogical", spec := "fnExactAndLogical", apart := false, narrowed := true }
def FnExactAndLogicalUptoSaid : Prop := fnExactAndLogicalUptoRow.holds Try.pinned (OpenSpec.upto fnExactAndLogicalSpec)

/-- 'laws.FnExactOrLogical', WHERE WHAT IT READS IS OF BULK AT MOST 1048576: true; the input reads as it did. -/
def fnExactOrLogicalUptoRow : OpenClaim := { program := "ytodpmefalheodaa", sum := "a5858ee82ffe87a5686467c9cd4e95f818d0c327c96bce4f440c119ff42d5201", func := "loop.example/g03406/laws.FnExactOrLogical", spec := "fnExactOrLogical", apart := false, narrowed := true }
def FnExactOrLogicalUptoSaid : Prop := fnExactOrLogicalUptoRow.holds Try.pinned (OpenSpec.upto fnExactOrLogicalSpec)

/-- 'laws.FnExactQuoteString', WHERE WHAT IT READS IS OF BULK AT MOST 1048576: true; the input reads as it did. -/
def fnExactQuoteStringUptoRow : OpenClaim := { program := "ytodpmefalheodaa", sum := "a5858ee82ffe87a5686467c9cd4e95f818d0c327c96bce4f440c119ff42d5201", func := "loop.example/g03406/laws.FnExactQuoteString", spec := "fnExactQuoteString", apart := false, narrowed := true }
def FnExactQuoteStringUptoSaid : Prop := fnExactQuoteStringUptoRow.holds Try.pinned (OpenSpec.upto fnExactQuoteStringSpec)

/-- 'laws.FnExactFormatInt', WHERE WHAT IT READS IS OF BULK AT MOST 1048576: true; the input reads as it did. -/
def fnExactFormatIntUptoRow : OpenClaim := { program := "ytodpmefalheodaa", sum := "a5858ee82ffe87a5686467c9cd4e95f818d0c327c96bce4f440c119ff42d5201", func := "loop.example/g03406/laws.FnExactFormatInt", spec := "fnExactFormatInt", apart := false, narrowed := true }
def FnExactFormatIntUptoSaid : Prop := fnExactFormatIntUptoRow.holds Try.pinned (OpenSpec.upto fnExactFormatIntSpec)

/-- 'laws.FnExactIsNumber', WHERE WHAT IT READS IS OF BULK AT MOST 1048576: true; the input reads as it did. -/
def fnExactIsNumberUptoRow : OpenClaim := { program := "ytodpmefalheodaa", sum := "a5858ee82ffe87a5686467c9cd4e95f818d0c327c96bce4f440c119ff42d5201", func := "loop.example/g03406/laws.FnExactIsNumber", spec := "fnExactIsNumber", apart := false, narrowed := true }
def FnExactIsNumberUptoSaid : Prop := fnExactIsNumberUptoRow.holds Try.pinned (OpenSpec.upto fnExactIsNumberSpec)

/-- 'laws.FnExactAllLogical', WHERE WHAT IT READS IS OF BULK AT MOST 1048576: true; the input reads as it did. -/
def fnExactAllLogicalUptoRow : OpenClaim := { program := "ytodpmefalheodaa", sum := "a5858ee82ffe87a5686467c9cd4e95f818d0c327c96bce4f440c119ff42d5201", func := "loop.example/g03406/laws.FnExactAllLogical", spec := "fnExactAllLogical", apart := false, narrowed := true }
def FnExactAllLogicalUptoSaid : Prop := fnExactAllLogicalUptoRow.holds Try.pinned (OpenSpec.upto fnExactAllLogicalSpec)

/-- 'laws.FnExactAnyLogical', WHERE WHAT IT READS IS OF BULK AT MOST 1048576: true; the input reads as it did. -/
def fnExactAnyLogicalUptoRow : OpenClaim := { program := "ytodpmefalheodaa", sum := "a5858ee82ffe87a5686467c9cd4e95f818d0c327c96bce4f440c119ff42d5201", func := "loop.example/g03406/laws.FnExactAnyLogical", spec := "fnExactAnyLogical", apart := false, narrowed := true }
def FnExactAnyLogicalUptoSaid : Prop := fnExactAnyLogicalUptoRow.holds Try.pinned (OpenSpec.upto fnExactAnyLogicalSpec)

/-- 'laws.FnExactIsSyntacticName', WHERE WHAT IT READS IS OF BULK AT MOST 1048576: true; the input reads as it did. -/
def fnExactIsSyntacticNameUptoRow : OpenClaim := { program := "ytodpmefalheodaa", sum := "a5858ee82ffe87a5686467c9cd4e95f818d0c327c96bce4f440c119ff42d5201", func := "loop.example/g03406/laws.FnExactIsSyntacticName", spec := "fnExactIsSyntacticName", apart := false, narrowed := true }
def FnExactIsSyntacticNameUptoSaid : Prop := fnExactIsSyntacticNameUptoRow.holds Try.pinned (OpenSpec.upto fnExactIsSyntacticNameSpec)

end Rows
end Go.Proofs.Ytodpmefalheodaa
