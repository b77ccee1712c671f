/-
  No cell of these rows narrows 'for every input' (looked for: loops, veiled, ifaces, maps, wideKeys, modest, calm, conditions, laid).
  DERIVED. THE GIVEN ROWS OF THIS SEAT. 12 by the template 'for every input the law returns true; each argument reads behind the call as it read before'; 0 by the template 'total and deterministic' (their statements: YtncmekbfmgcbnaaTotals.lean).
  GIVEN WITH THE SEED: the statements are not yours to turn. If you find one false, say at which input.
  Laid BY PROGRAM, IN A SANDBOX (cutbox-rows.mjs): the forced cells as the released guide's own fill.sh prints them over the translation d6af4b4002f12359… (all of the seat's roots in one cut). By AI agents, Wed Nov 11 2026. No macro, syntax, notation, axiom, sorry.
-/
import Derived.Test.YtncmekbfmgcbnaaChecked
import GoSem.Claim
import GoSem.ClaimJoined
import GoSem.ClaimMapViews
import Derived.JoinedTies
import Derived.KernelRfl
namespace Go.Proofs.Ytncmekbfmgcbnaa
/- THE CELL 'sum', in the pinned program and in every row, IS THE sha256 OF THE DUMP (.gsa) THAT YtncmekbfmgcbnaaProg.lean LOADS. Nothing in Lean hashes anything: it is a label: what it is worth is what the hold of that sum in a sandbox is worth. -/
noncomputable def Try.pinned : Pinned := { name := "ytncmekbfmgcbnaa", sum := "d6af4b4002f12359ff53cdfe2e569eb594384fd3c359ebe125ff9e2f4591c2d7", checked := Try.checked }
namespace Rows
def none {H : Type} : Left H := { results := [], args := [] }

/-- 'laws.FnExactRoundNumber': WHATEVER THE INPUT: true; the input reads as it did. -/
def fnExactRoundNumberSpec : ChangeSpec := { name := "fnExactRoundNumber", fn := fun _ => fun
  | [d] => { results := [.lit (.bool true)], args := [d] }
  | _ => none }
def fnExactRoundNumberRow : OpenClaim := { program := "ytncmekbfmgcbnaa", sum := "d6af4b4002f12359ff53cdfe2e569eb594384fd3c359ebe125ff9e2f4591c2d7", func := "loop.example/g03406/laws.FnExactRoundNumber", spec := "fnExactRoundNumber", apart := false }
def FnExactRoundNumberSaid : Prop := fnExactRoundNumberRow.holds Try.pinned (OpenSpec.ofChange fnExactRoundNumberSpec)

/-- ITS FALSE NEIGHBOUR: 'it returns false'. Refute it at one input. -/
def fnExactRoundNumberWrong : ChangeSpec := { name := "fnExactRoundNumber", fn := fun _ => fun
  | [d] => { results := [.lit (.bool false)], args := [d] }
  | _ => none }
def FnExactRoundNumberWrongFalsely : Prop := fnExactRoundNumberRow.holds Try.pinned (OpenSpec.ofChange fnExactRoundNumberWrong)

/-- 'laws.FnExactSubtractNumbers': WHATEVER THE INPUT: true; the input reads as it did. -/
def fnExactSubtractNumbersSpec : ChangeSpec := { name := "fnExactSubtractNumbers", fn := fun _ => fun
  | [d1, d2] => { results := [.lit (.bool true)], args := [d1, d2] }
  | _ => none }
def fnExactSubtractNumbersRow : OpenClaim := { program := "ytncmekbfmgcbnaa", sum := "d6af4b4002f12359ff53cdfe2e569eb594384fd3c359ebe125ff9e2f4591c2d7", func := "loop.example/g03406/laws.FnExactSubtractNumbers", spec := "fnExactSubtractNumbers", apart := false }
def FnExactSubtractNumbersSaid : Prop := fnExactSubtractNumbersRow.holds Try.pinned (OpenSpec.ofChange fnExactSubtractNumbersSpec)

/-- ITS FALSE NEIGHBOUR: 'it returns false'. Refute it at one input. -/
def fnExactSubtractNumbersWrong : ChangeSpec := { name := "fnExactSubtractNumbers", fn := fun _ => fun
  | [d1, d2] => { results := [.lit (.bool false)], args := [d1, d2] }
  | _ => none }
def FnExactSubtractNumbersWrongFalsely : Prop := fnExactSubtractNumbersRow.holds Try.pinned (OpenSpec.ofChange fnExactSubtractNumbersWrong)

/-- 'laws.FnLogic': WHATEVER THE INPUT: true; the input reads as it did. -/
def fnLogicSpec : ChangeSpec := { name := "fnLogic", fn := fun _ => fun
  | [d] => { results := [.lit (.bool true)], args := [d] }
  | _ => none }
def fnLogicRow : OpenClaim := { program := "ytncmekbfmgcbnaa", sum := "d6af4b4002f12359ff53cdfe2e569eb594384fd3c359ebe125ff9e2f4591c2d7", func := "loop.example/g03406/laws.FnLogic", spec := "fnLogic", apart := false }
def FnLogicSaid : Prop := fnLogicRow.holds Try.pinned (OpenSpec.ofChange fnLogicSpec)

/-- ITS FALSE NEIGHBOUR: 'it returns false'. Refute it at one input. -/
def fnLogicWrong : ChangeSpec := { name := "fnLogic", fn := fun _ => fun
  | [d] => { results := [.lit (.bool false)], args := [d] }
  | _ => none }
def FnLogicWrongFalsely : Prop := fnLogicRow.holds Try.pinned (OpenSpec.ofChange fnLogicWrong)

/-- 'laws.FnExactQuotientOf': WHATEVER THE INPUT: true; the input reads as it did. -/
def fnExactQuotientOfSpec : ChangeSpec := { name := "fnExactQuotientOf", fn := fun _ => fun
  | [d1, d2] => { results := [.lit (.bool true)], args := [d1, d2] }
  | _ => none }
def fnExactQuotientOfRow : OpenClaim := { program := "ytncmekbfmgcbnaa", sum := "d6af4b4002f12359ff53cdfe2e569eb594384fd3c359ebe125ff9e2f4591c2d7", func := "loop.example/g03406/laws.FnExactQuotientOf", spec := "fnExactQuotientOf", apart := false }
def FnExactQuotientOfSaid : Prop := fnExactQuotientOfRow.holds Try.pinned (OpenSpec.ofChange fnExactQuotientOfSpec)

/-- ITS FALSE NEIGHBOUR: 'it returns false'. Refute it at one input. -/
def fnExactQuotientOfWrong : ChangeSpec := { name := "fnExactQuotientOf", fn := fun _ => fun
  | [d1, d2] => { results := [.lit (.bool false)], args := [d1, d2] }
  | _ => none }
def FnExactQuotientOfWrongFalsely : Prop := fnExactQuotientOfRow.holds Try.pinned (OpenSpec.ofChange fnExactQuotientOfWrong)

/-- 'laws.FnExactRemainderOf': WHATEVER THE INPUT: true; the input reads as it did. -/
def fnExactRemainderOfSpec : ChangeSpec := { name := "fnExactRemainderOf", fn := fun _ => fun
  | [d1, d2] => { results := [.lit (.bool true)], args := [d1, d2] }
  | _ => none }
def fnExactRemainderOfRow : OpenClaim := { program := "ytncmekbfmgcbnaa", sum := "d6af4b4002f12359ff53cdfe2e569eb594384fd3c359ebe125ff9e2f4591c2d7", func := "loop.example/g03406/laws.FnExactRemainderOf", spec := "fnExactRemainderOf", apart := false }
def FnExactRemainderOfSaid : Prop := fnExactRemainderOfRow.holds Try.pinned (OpenSpec.ofChange fnExactRemainderOfSpec)

/-- ITS FALSE NEIGHBOUR: 'it returns false'. Refute it at one input. -/
def fnExactRemainderOfWrong : ChangeSpec := { name := "fnExactRemainderOf", fn := fun _ => fun
  | [d1, d2] => { results := [.lit (.bool false)], args := [d1, d2] }
  | _ => none }
def FnExactRemainderOfWrongFalsely : Prop := fnExactRemainderOfRow.holds Try.pinned (OpenSpec.ofChange fnExactRemainderOfWrong)

/-- 'laws.FnExactPowerOf': WHATEVER THE INPUT: true; the input reads as it did. -/
def fnExactPowerOfSpec : ChangeSpec := { name := "fnExactPowerOf", fn := fun _ => fun
  | [d1, d2] => { results := [.lit (.bool true)], args := [d1, d2] }
  | _ => none }
def fnExactPowerOfRow : OpenClaim := { program := "ytncmekbfmgcbnaa", sum := "d6af4b4002f12359ff53cdfe2e569eb594384fd3c359ebe125ff9e2f4591c2d7", func := "loop.example/g03406/laws.FnExactPowerOf", spec := "fnExactPowerOf", apart := false }
def FnExactPowerOfSaid : Prop := fnExactPowerOfRow.holds Try.pinned (OpenSpec.ofChange fnExactPowerOfSpec)

/-- ITS FALSE NEIGHBOUR: 'it returns false'. Refute it at one input. -/
def fnExactPowerOfWrong : ChangeSpec := { name := "fnExactPowerOf", fn := fun _ => fun
  | [d1, d2] => { results := [.lit (.bool false)], args := [d1, d2] }
  | _ => none }
def FnExactPowerOfWrongFalsely : Prop := fnExactPowerOfRow.holds Try.pinned (OpenSpec.ofChange fnExactPowerOfWrong)

/-- 'laws.FnExactSplitFields': WHATEVER THE INPUT: true; the input reads as it did. -/
def fnExactSplitFieldsSpec : ChangeSpec := { name := "fnExactSplitFields", fn := fun _ => fun
  | [d] => { results := [.lit (.bool true)], args := [d] }
  | _ => none }
def fnExactSplitFieldsRow : OpenClaim := { program := "ytncmekbfmgcbnaa", sum := "d6af4b4002f12359ff53cdfe2e569eb594384fd3c359ebe125ff9e2f4591c2d7", func := "loop.example/g03406/laws.FnExactSplitFields", spec := "fnExactSplitFields", apart := false }
def FnExactSplitFieldsSaid : Prop := fnExactSplitFieldsRow.holds Try.pinned (OpenSpec.ofChange fnExactSplitFieldsSpec)

/-- ITS FALSE NEIGHBOUR: 'it returns false'. Refute it at one input. -/
def fnExactSplitFieldsWrong : ChangeSpec := { name := "fnExactSplitFields", fn := fun _ => fun
  | [d] => { results := [.lit (.bool false)], args := [d] }
  | _ => none }
def FnExactSplitFieldsWrongFalsely : Prop := fnExactSplitFieldsRow.holds Try.pinned (OpenSpec.ofChange fnExactSplitFieldsWrong)

/-- 'laws.FnNumbers': WHATEVER THE INPUT: true; the input reads as it did. -/
def fnNumbersSpec : ChangeSpec := { name := "fnNumbers", fn := fun _ => fun
  | [d] => { results := [.lit (.bool true)], args := [d] }
  | _ => none }
def fnNumbersRow : OpenClaim := { program := "ytncmekbfmgcbnaa", sum := "d6af4b4002f12359ff53cdfe2e569eb594384fd3c359ebe125ff9e2f4591c2d7", func := "loop.example/g03406/laws.FnNumbers", spec := "fnNumbers", apart := false }
def FnNumbersSaid : Prop := fnNumbersRow.holds Try.pinned (OpenSpec.ofChange fnNumbersSpec)

/-- ITS FALSE NEIGHBOUR: 'it returns false'. Refute it at one input. -/
def fnNumbersWrong : ChangeSpec := { name := "fnNumbers", fn := fun _ => fun
  | [d] => { results := [.lit (.bool false)], args := [d] }
  | _ => none }
def FnNumbersWrongFalsely : Prop := fnNumbersRow.holds Try.pinned (OpenSpec.ofChange fnNumbersWrong)

/-- 'laws.FnExactParseNumber': WHATEVER THE INPUT: true; the input reads as it did. -/
def fnExactParseNumberSpec : ChangeSpec := { name := "fnExactParseNumber", fn := fun _ => fun
  | [d] => { results := [.lit (.bool true)], args := [d] }
  | _ => none }
def fnExactParseNumberRow : OpenClaim := { program := "ytncmekbfmgcbnaa", sum := "d6af4b4002f12359ff53cdfe2e569eb594384fd3c359ebe125ff9e2f4591c2d7", func := "loop.example/g03406/laws.FnExactParseNumber", spec := "fnExactParseNumber", apart := false }
def FnExactParseNumberSaid : Prop := fnExactParseNumberRow.holds Try.pinned (OpenSpec.ofChange fnExactParseNumberSpec)

/-- ITS FALSE NEIGHBOUR: 'it returns false'. Refute it at one input. -/
def fnExactParseNumberWrong : ChangeSpec := { name := "fnExactParseNumber", fn := fun _ => fun
  | [d] => { results := [.lit (.bool false)], args := [d] }
  | _ => none }
def FnExactParseNumberWrongFalsely : Prop := fnExactParseNumberRow.holds Try.pinned (OpenSpec.ofChange fnExactParseNumberWrong)

/-- 'laws.FnDivision': WHATEVER THE INPUT: true; the input reads as it did. -/
def fnDivisionSpec : ChangeSpec := { name := "fnDivision", fn := fun _ => fun
  | [d] => { results := [.lit (.bool true)], args := [d] }
  | _ => none }
def fnDivisionRow : OpenClaim := { program := "ytncmekbfmgcbnaa", sum := "d6af4b4002f12359ff53cdfe2e569eb594384fd3c359ebe125ff9e2f4591c2d7", func := "loop.example/g03406/laws.FnDivision", spec := "fnDivision", apart := false }
def FnDivisionSaid : Prop := fnDivisionRow.holds Try.pinned (OpenSpec.ofChange fnDivisionSpec)

/-- ITS FALSE NEIGHBOUR: 'it returns false'. Refute it at one input. -/
def fnDivisionWrong : ChangeSpec := { name := "fnDivision", fn := fun _ => fun
  | [d] => { results := [.lit (.bool false)], args := [d] }
  | _ => none }
def FnDivisionWrongFalsely : Prop := fnDivisionRow.holds Try.pinned (OpenSpec.ofChange fnDivisionWrong)

/-- 'laws.FnStrings': WHATEVER THE INPUT: true; the input reads as it did. -/
def fnStringsSpec : ChangeSpec := { name := "fnStrings", fn := fun _ => fun
  | [d] => { results := [.lit (.bool true)], args := [d] }
  | _ => none }
def fnStringsRow : OpenClaim := { program := "ytncmekbfmgcbnaa", sum := "d6af4b4002f12359ff53cdfe2e569eb594384fd3c359ebe125ff9e2f4591c2d7", func := "loop.example/g03406/laws.FnStrings", spec := "fnStrings", apart := false }
def FnStringsSaid : Prop := fnStringsRow.holds Try.pinned (OpenSpec.ofChange fnStringsSpec)

/-- ITS FALSE NEIGHBOUR: 'it returns false'. Refute it at one input. -/
def fnStringsWrong : ChangeSpec := { name := "fnStrings", fn := fun _ => fun
  | [d] => { results := [.lit (.bool false)], args := [d] }
  | _ => none }
def FnStringsWrongFalsely : Prop := fnStringsRow.holds Try.pinned (OpenSpec.ofChange fnStringsWrong)

/-- 'laws.FnNumberTexts': WHATEVER THE INPUT: true; the input reads as it did. -/
def fnNumberTextsSpec : ChangeSpec := { name := "fnNumberTexts", fn := fun _ => fun
  | [d] => { results := [.lit (.bool true)], args := [d] }
  | _ => none }
def fnNumberTextsRow : OpenClaim := { program := "ytncmekbfmgcbnaa", sum := "d6af4b4002f12359ff53cdfe2e569eb594384fd3c359ebe125ff9e2f4591c2d7", func := "loop.example/g03406/laws.FnNumberTexts", spec := "fnNumberTexts", apart := false }
def FnNumberTextsSaid : Prop := fnNumberTextsRow.holds Try.pinned (OpenSpec.ofChange fnNumberTextsSpec)

/-- ITS FALSE NEIGHBOUR: 'it returns false'. Refute it at one input. -/
def fnNumberTextsWrong : ChangeSpec := { name := "fnNumberTexts", fn := fun _ => fun
  | [d] => { results := [.lit (.bool false)], args := [d] }
  | _ => none }
def FnNumberTextsWrongFalsely : Prop := fnNumberTextsRow.holds Try.pinned (OpenSpec.ofChange fnNumberTextsWrong)

/- THE SECOND FORM. 'bulk': how many values and letters a reading holds, each counted each time it is reached (what is shared counts as often as it is met; a slice's spare places count too). A statement '..UptoSaid' is the law's where the arguments, and the package variables that the reading takes, are together of bulk at most 1048576: NARROWER than '..Said'. Prove '..Said' where nothing that the law and all that it calls make is longer than what came in: it says more and counts as full. Else prove '..UptoSaid'. A law counts once. -/
mutual
def uptoBulk {H : Type} : DataW H → Nat
  | .lit (.string bytes) => bytes.length + 1
  | .lit _ => 1
  | .nil => 1
  | .ptr d => uptoBulk d + 1
  | .slice elems spare => uptoBulkAll elems + uptoBulkAll spare + 1
  | .agg parts => uptoBulkAll parts + 1
  | .iface _ d => uptoBulk d + 1
  | .map entries => uptoBulkEntries entries + 1
  | .held _ => 1
def uptoBulkAll {H : Type} : List (DataW H) → Nat
  | [] => 0
  | d :: r => uptoBulk d + uptoBulkAll r
def uptoBulkEntries {H : Type} : List (Lit × DataW H) → Nat
  | [] => 0
  | x :: r => uptoBulkEntry x + uptoBulkEntries r
def uptoBulkEntry {H : Type} : Lit × DataW H → Nat
  | (.string bytes, d) => bytes.length + uptoBulk d + 1
  | (_, d) => uptoBulk d + 1
 end
def uptoSmall : (H : Type) → List (DataW H) → Bool := fun _ ds => decide (uptoBulkAll ds ≤ 1048576)
def OpenSpec.upto (s : _root_.Go.ChangeSpec) : _root_.Go.OpenSpec := { _root_.Go.OpenSpec.ofChange s with cond := some uptoSmall }

/-- 'laws.FnExactRoundNumber', WHERE WHAT IT READS IS OF BULK AT MOST 1048576: true; the input reads as it did. -/
def fnExactRoundNumberUptoRow : OpenClaim := { program := "ytncmekbfmgcbnaa", sum := "d6af4b4002f12359ff53cdfe2e569eb594384fd3c359ebe125ff9e2f4591c2d7", func := "loop.example/g03406/laws.FnExactRoundNumber", spec := "fnExactRoundNumber", apart := false, narrowed := true }
def FnExactRoundNumberUptoSaid : Prop := fnExactRoundNumberUptoRow.holds Try.pinned (OpenSpec.upto fnExactRoundNumberSpec)

/-- 'laws.FnExactSubtractNumbers', WHERE WHAT IT READS IS OF BULK AT MOST 1048576: true; the input reads as it did. -/
def fnExactSubtractNumbersUptoRow : OpenClaim := { program := "ytncmekbfmgcbnaa", sum := "d6af4b4002f12359ff53cdfe2e569eb594384fd3c359ebe125ff9e2f4591c2d7", func := "loop.example/g03406/laws.FnExactSubtractNumbers", spec := "fnExactSubtractNumbers", apart := false, narrowed := true }
def FnExactSubtractNumbersUptoSaid : Prop := fnExactSubtractNumbersUptoRow.holds Try.pinned (OpenSpec.upto fnExactSubtractNumbersSpec)

/-- 'laws.FnLogic', WHERE WHAT IT READS IS OF BULK AT MOST 1048576: true; the input reads as it did. -/
def fnLogicUptoRow : OpenClaim := { program := "ytncmekbfmgcbnaa", sum := "d6af4b4002f12359ff53cdfe2e569eb594384fd3c359ebe125ff9e2f4591c2d7", func := "loop.example/g03406/laws.FnLogic", spec := "fnLogic", apart := false, narrowed := true }
def FnLogicUptoSaid : Prop := fnLogicUptoRow.holds Try.pinned (OpenSpec.upto fnLogicSpec)

/-- 'laws.FnExactQuotientOf', WHERE WHAT IT READS IS OF BULK AT MOST 1048576: true; the input reads as it did. -/
def fnExactQuotientOfUptoRow : OpenClaim := { program := "ytncmekbfmgcbnaa", sum := "d6af4b4002f12359ff53cdfe2e569eb594384fd3c359ebe125ff9e2f4591c2d7", func := "loop.example/g03406/laws.FnExactQuotientOf", spec := "fnExactQuotientOf", apart := false, narrowed := true }
def FnExactQuotientOfUptoSaid : Prop := fnExactQuotientOfUptoRow.holds Try.pinned (OpenSpec.upto fnExactQuotientOfSpec)

/-- 'laws.FnExactRemainderOf', WHERE WHAT IT READS IS OF BULK AT MOST 1048576: true; the input reads as it did. -/
def fnExactRemainderOfUptoRow : OpenClaim := { program := "ytncmekbfmgcbnaa", sum := "d6af4b4002f12359ff53cdfe2e569eb594384fd3c359ebe125ff9e2f4591c2d7", func := "loop.example/g03406/laws.FnExactRemainderOf", spec := "fnExactRemainderOf", apart := false, narrowed := true }
def FnExactRemainderOfUptoSaid : Prop := fnExactRemainderOfUptoRow.holds Try.pinned (OpenSpec.upto fnExactRemainderOfSpec)

/-- 'laws.FnExactPowerOf', WHERE WHAT IT READS IS OF BULK AT MOST 1048576: true; the input reads as it did. -/
def fnExactPowerOfUptoRow : OpenClaim := { program := "ytncmekbfmgcbnaa", sum := "d6af4b4002f12359ff53cdfe2e569eb594384fd3c359ebe125ff9e2f4591c2d7", func := "loop.example/g03406/laws.FnExactPowerOf", spec := "fnExactPowerOf", apart := false, narrowed := true }
def FnExactPowerOfUptoSaid : Prop := fnExactPowerOfUptoRow.holds Try.pinned (OpenSpec.upto fnExactPowerOfSpec)

/-- 'laws.FnExactSplitFields', WHERE WHAT IT READS IS OF BULK AT MOST 1048576: true; the input reads as it did. -/
def fnExactSplitFieldsUptoRow : OpenClaim := { program := "ytncmekbfmgcbnaa", sum := "d6af4b4002f12359ff53cdfe2e569eb594384fd3c359ebe125ff9e2f4591c2d7", func := "loop.example/g03406/laws.FnExactSplitFields", spec := "fnExactSplitFields", apart := false, narrowed := true }
def FnExactSplitFieldsUptoSaid : Prop := fnExactSplitFieldsUptoRow.holds Try.pinned (OpenSpec.upto fnExactSplitFieldsSpec)

/-- 'laws.FnNumbers', WHERE WHAT IT READS IS OF BULK AT MOST 1048576: true; the input reads as it did. -/
def fnNumbersUptoRow : OpenClaim := { program := "ytncmekbfmgcbnaa", sum := "d6af4b4002f12359ff53cdfe2e569eb594384fd3c359ebe125ff9e2f4591c2d7", func := "loop.example/g03406/laws.FnNumbers", spec := "fnNumbers", apart := false, narrowed := true }
def FnNumbersUptoSaid : Prop := fnNumbersUptoRow.holds Try.pinned (OpenSpec.upto fnNumbersSpec)

/-- 'laws.FnExactParseNumber', WHERE WHAT IT READS IS OF BULK AT MOST 1048576: true; the input reads as it did. -/
def fnExactParseNumberUptoRow : OpenClaim := { program := "ytncmekbfmgcbnaa", sum := "d6af4b4002f12359ff53cdfe2e569eb594384fd3c359ebe125ff9e2f4591c2d7", func := "loop.example/g03406/laws.FnExactParseNumber", spec := "fnExactParseNumber", apart := false, narrowed := true }
def FnExactParseNumberUptoSaid : Prop := fnExactParseNumberUptoRow.holds Try.pinned (OpenSpec.upto fnExactParseNumberSpec)

/-- 'laws.FnDivision', WHERE WHAT IT READS IS OF BULK AT MOST 1048576: true; the input reads as it did. -/
def fnDivisionUptoRow : OpenClaim := { program := "ytncmekbfmgcbnaa", sum := "d6af4b4002f12359ff53cdfe2e569eb594384fd3c359ebe125ff9e2f4591c2d7", func := "loop.example/g03406/laws.FnDivision", spec := "fnDivision", apart := false, narrowed := true }
def FnDivisionUptoSaid : Prop := fnDivisionUptoRow.holds Try.pinned (OpenSpec.upto fnDivisionSpec)

/-- 'laws.FnStrings', WHERE WHAT IT READS IS OF BULK AT MOST 1048576: true; the input reads as it did. -/
def fnStringsUptoRow : OpenClaim := { program := "ytncmekbfmgcbnaa", sum := "d6af4b4002f12359ff53cdfe2e569eb594384fd3c359ebe125ff9e2f4591c2d7", func := "loop.example/g03406/laws.FnStrings", spec := "fnStrings", apart := false, narrowed := true }
def FnStringsUptoSaid : Prop := fnStringsUptoRow.holds Try.pinned (OpenSpec.upto fnStringsSpec)

/-- 'laws.FnNumberTexts', WHERE WHAT IT READS IS OF BULK AT MOST 1048576: true; the input reads as it did. -/
def fnNumberTextsUptoRow : OpenClaim := { program := "ytncmekbfmgcbnaa", sum := "d6af4b4002f12359ff53cdfe2e569eb594384fd3c359ebe125ff9e2f4591c2d7", func := "loop.example/g03406/laws.FnNumberTexts", spec := "fnNumberTexts", apart := false, narrowed := true }
def FnNumberTextsUptoSaid : Prop := fnNumberTextsUptoRow.holds Try.pinned (OpenSpec.upto fnNumberTextsSpec)

end Rows
end Go.Proofs.Ytncmekbfmgcbnaa
