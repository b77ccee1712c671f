/-
  No cell of these rows narrows 'for every input' (looked for: loops, veiled, ifaces, maps, wideKeys, modest, calm, conditions, laid).
  DERIVED. THE GIVEN ROWS OF THIS SEAT. 12 by the template 'for every input the law returns true; each argument reads behind the call as it read before'; 0 by the template 'total and deterministic' (their statements: YtkfjbofneaaioaaTotals.lean).
  GIVEN WITH THE SEED: the statements are not yours to turn. If you find one false, say at which input.
  Laid BY PROGRAM, IN A SANDBOX (cutbox-rows.mjs): the forced cells as the released guide's own fill.sh prints them over the translation cc955ee0330f0857… (all of the seat's roots in one cut). By AI agents, Wed Nov 11 2026. No macro, syntax, notation, axiom, sorry.
-/
import Derived.Test.YtkfjbofneaaioaaChecked
import GoSem.Claim
import GoSem.ClaimJoined
import GoSem.ClaimMapViews
import Derived.JoinedTies
import Derived.KernelRfl
namespace Go.Proofs.Ytkfjbofneaaioaa
/- THE CELL 'sum', in the pinned program and in every row, IS THE sha256 OF THE DUMP (.gsa) THAT YtkfjbofneaaioaaProg.lean LOADS. Nothing in Lean hashes anything: it is a label: what it is worth is what the hold of that sum in a sandbox is worth. -/
noncomputable def Try.pinned : Pinned := { name := "ytkfjbofneaaioaa", sum := "cc955ee0330f0857db21966ef163315c14b9a32f6732e9fa3ec98209fff85ba9", checked := Try.checked }
namespace Rows
def none {H : Type} : Left H := { results := [], args := [] }

/-- 'laws.FnExactMakeNumber': WHATEVER THE INPUT: true; the input reads as it did. -/
def fnExactMakeNumberSpec : ChangeSpec := { name := "fnExactMakeNumber", fn := fun _ => fun
  | [d1, d2] => { results := [.lit (.bool true)], args := [d1, d2] }
  | _ => none }
def fnExactMakeNumberRow : OpenClaim := { program := "ytkfjbofneaaioaa", sum := "cc955ee0330f0857db21966ef163315c14b9a32f6732e9fa3ec98209fff85ba9", func := "loop.example/g03406/laws.FnExactMakeNumber", spec := "fnExactMakeNumber", apart := false }
def FnExactMakeNumberSaid : Prop := fnExactMakeNumberRow.holds Try.pinned (OpenSpec.ofChange fnExactMakeNumberSpec)

/-- ITS FALSE NEIGHBOUR: 'it returns false'. Refute it at one input. -/
def fnExactMakeNumberWrong : ChangeSpec := { name := "fnExactMakeNumber", fn := fun _ => fun
  | [d1, d2] => { results := [.lit (.bool false)], args := [d1, d2] }
  | _ => none }
def FnExactMakeNumberWrongFalsely : Prop := fnExactMakeNumberRow.holds Try.pinned (OpenSpec.ofChange fnExactMakeNumberWrong)

/-- 'laws.FnExactCompareNumbers': WHATEVER THE INPUT: true; the input reads as it did. -/
def fnExactCompareNumbersSpec : ChangeSpec := { name := "fnExactCompareNumbers", fn := fun _ => fun
  | [d1, d2] => { results := [.lit (.bool true)], args := [d1, d2] }
  | _ => none }
def fnExactCompareNumbersRow : OpenClaim := { program := "ytkfjbofneaaioaa", sum := "cc955ee0330f0857db21966ef163315c14b9a32f6732e9fa3ec98209fff85ba9", func := "loop.example/g03406/laws.FnExactCompareNumbers", spec := "fnExactCompareNumbers", apart := false }
def FnExactCompareNumbersSaid : Prop := fnExactCompareNumbersRow.holds Try.pinned (OpenSpec.ofChange fnExactCompareNumbersSpec)

/-- ITS FALSE NEIGHBOUR: 'it returns false'. Refute it at one input. -/
def fnExactCompareNumbersWrong : ChangeSpec := { name := "fnExactCompareNumbers", fn := fun _ => fun
  | [d1, d2] => { results := [.lit (.bool false)], args := [d1, d2] }
  | _ => none }
def FnExactCompareNumbersWrongFalsely : Prop := fnExactCompareNumbersRow.holds Try.pinned (OpenSpec.ofChange fnExactCompareNumbersWrong)

/-- 'laws.FnExactNegateNumber': WHATEVER THE INPUT: true; the input reads as it did. -/
def fnExactNegateNumberSpec : ChangeSpec := { name := "fnExactNegateNumber", fn := fun _ => fun
  | [d] => { results := [.lit (.bool true)], args := [d] }
  | _ => none }
def fnExactNegateNumberRow : OpenClaim := { program := "ytkfjbofneaaioaa", sum := "cc955ee0330f0857db21966ef163315c14b9a32f6732e9fa3ec98209fff85ba9", func := "loop.example/g03406/laws.FnExactNegateNumber", spec := "fnExactNegateNumber", apart := false }
def FnExactNegateNumberSaid : Prop := fnExactNegateNumberRow.holds Try.pinned (OpenSpec.ofChange fnExactNegateNumberSpec)

/-- ITS FALSE NEIGHBOUR: 'it returns false'. Refute it at one input. -/
def fnExactNegateNumberWrong : ChangeSpec := { name := "fnExactNegateNumber", fn := fun _ => fun
  | [d] => { results := [.lit (.bool false)], args := [d] }
  | _ => none }
def FnExactNegateNumberWrongFalsely : Prop := fnExactNegateNumberRow.holds Try.pinned (OpenSpec.ofChange fnExactNegateNumberWrong)

/-- 'laws.FnExactFormatName': WHATEVER THE INPUT: true; the input reads as it did. -/
def fnExactFormatNameSpec : ChangeSpec := { name := "fnExactFormatName", fn := fun _ => fun
  | [d] => { results := [.lit (.bool true)], args := [d] }
  | _ => none }
def fnExactFormatNameRow : OpenClaim := { program := "ytkfjbofneaaioaa", sum := "cc955ee0330f0857db21966ef163315c14b9a32f6732e9fa3ec98209fff85ba9", func := "loop.example/g03406/laws.FnExactFormatName", spec := "fnExactFormatName", apart := false }
def FnExactFormatNameSaid : Prop := fnExactFormatNameRow.holds Try.pinned (OpenSpec.ofChange fnExactFormatNameSpec)

/-- ITS FALSE NEIGHBOUR: 'it returns false'. Refute it at one input. -/
def fnExactFormatNameWrong : ChangeSpec := { name := "fnExactFormatName", fn := fun _ => fun
  | [d] => { results := [.lit (.bool false)], args := [d] }
  | _ => none }
def FnExactFormatNameWrongFalsely : Prop := fnExactFormatNameRow.holds Try.pinned (OpenSpec.ofChange fnExactFormatNameWrong)

/-- 'laws.FnExactParseInt': WHATEVER THE INPUT: true; the input reads as it did. -/
def fnExactParseIntSpec : ChangeSpec := { name := "fnExactParseInt", fn := fun _ => fun
  | [d] => { results := [.lit (.bool true)], args := [d] }
  | _ => none }
def fnExactParseIntRow : OpenClaim := { program := "ytkfjbofneaaioaa", sum := "cc955ee0330f0857db21966ef163315c14b9a32f6732e9fa3ec98209fff85ba9", func := "loop.example/g03406/laws.FnExactParseInt", spec := "fnExactParseInt", apart := false }
def FnExactParseIntSaid : Prop := fnExactParseIntRow.holds Try.pinned (OpenSpec.ofChange fnExactParseIntSpec)

/-- ITS FALSE NEIGHBOUR: 'it returns false'. Refute it at one input. -/
def fnExactParseIntWrong : ChangeSpec := { name := "fnExactParseInt", fn := fun _ => fun
  | [d] => { results := [.lit (.bool false)], args := [d] }
  | _ => none }
def FnExactParseIntWrongFalsely : Prop := fnExactParseIntRow.holds Try.pinned (OpenSpec.ofChange fnExactParseIntWrong)

/-- 'laws.FnExactJoinFields': WHATEVER THE INPUT: true; the input reads as it did. -/
def fnExactJoinFieldsSpec : ChangeSpec := { name := "fnExactJoinFields", fn := fun _ => fun
  | [d] => { results := [.lit (.bool true)], args := [d] }
  | _ => none }
def fnExactJoinFieldsRow : OpenClaim := { program := "ytkfjbofneaaioaa", sum := "cc955ee0330f0857db21966ef163315c14b9a32f6732e9fa3ec98209fff85ba9", func := "loop.example/g03406/laws.FnExactJoinFields", spec := "fnExactJoinFields", apart := false }
def FnExactJoinFieldsSaid : Prop := fnExactJoinFieldsRow.holds Try.pinned (OpenSpec.ofChange fnExactJoinFieldsSpec)

/-- ITS FALSE NEIGHBOUR: 'it returns false'. Refute it at one input. -/
def fnExactJoinFieldsWrong : ChangeSpec := { name := "fnExactJoinFields", fn := fun _ => fun
  | [d] => { results := [.lit (.bool false)], args := [d] }
  | _ => none }
def FnExactJoinFieldsWrongFalsely : Prop := fnExactJoinFieldsRow.holds Try.pinned (OpenSpec.ofChange fnExactJoinFieldsWrong)

/-- 'laws.FnExactAddNumbers': WHATEVER THE INPUT: true; the input reads as it did. -/
def fnExactAddNumbersSpec : ChangeSpec := { name := "fnExactAddNumbers", fn := fun _ => fun
  | [d1, d2] => { results := [.lit (.bool true)], args := [d1, d2] }
  | _ => none }
def fnExactAddNumbersRow : OpenClaim := { program := "ytkfjbofneaaioaa", sum := "cc955ee0330f0857db21966ef163315c14b9a32f6732e9fa3ec98209fff85ba9", func := "loop.example/g03406/laws.FnExactAddNumbers", spec := "fnExactAddNumbers", apart := false }
def FnExactAddNumbersSaid : Prop := fnExactAddNumbersRow.holds Try.pinned (OpenSpec.ofChange fnExactAddNumbersSpec)

/-- ITS FALSE NEIGHBOUR: 'it returns false'. Refute it at one input. -/
def fnExactAddNumbersWrong : ChangeSpec := { name := "fnExactAddNumbers", fn := fun _ => fun
  | [d1, d2] => { results := [.lit (.bool false)], args := [d1, d2] }
  | _ => none }
def FnExactAddNumbersWrongFalsely : Prop := fnExactAddNumbersRow.holds Try.pinned (OpenSpec.ofChange fnExactAddNumbersWrong)

/-- 'laws.FnExactDivideNumbers': WHATEVER THE INPUT: true; the input reads as it did. -/
def fnExactDivideNumbersSpec : ChangeSpec := { name := "fnExactDivideNumbers", fn := fun _ => fun
  | [d1, d2] => { results := [.lit (.bool true)], args := [d1, d2] }
  | _ => none }
def fnExactDivideNumbersRow : OpenClaim := { program := "ytkfjbofneaaioaa", sum := "cc955ee0330f0857db21966ef163315c14b9a32f6732e9fa3ec98209fff85ba9", func := "loop.example/g03406/laws.FnExactDivideNumbers", spec := "fnExactDivideNumbers", apart := false }
def FnExactDivideNumbersSaid : Prop := fnExactDivideNumbersRow.holds Try.pinned (OpenSpec.ofChange fnExactDivideNumbersSpec)

/-- ITS FALSE NEIGHBOUR: 'it returns false'. Refute it at one input. -/
def fnExactDivideNumbersWrong : ChangeSpec := { name := "fnExactDivideNumbers", fn := fun _ => fun
  | [d1, d2] => { results := [.lit (.bool false)], args := [d1, d2] }
  | _ => none }
def FnExactDivideNumbersWrongFalsely : Prop := fnExactDivideNumbersRow.holds Try.pinned (OpenSpec.ofChange fnExactDivideNumbersWrong)

/-- 'laws.FnExactMultiplyNumbers': WHATEVER THE INPUT: true; the input reads as it did. -/
def fnExactMultiplyNumbersSpec : ChangeSpec := { name := "fnExactMultiplyNumbers", fn := fun _ => fun
  | [d1, d2] => { results := [.lit (.bool true)], args := [d1, d2] }
  | _ => none }
def fnExactMultiplyNumbersRow : OpenClaim := { program := "ytkfjbofneaaioaa", sum := "cc955ee0330f0857db21966ef163315c14b9a32f6732e9fa3ec98209fff85ba9", func := "loop.example/g03406/laws.FnExactMultiplyNumbers", spec := "fnExactMultiplyNumbers", apart := false }
def FnExactMultiplyNumbersSaid : Prop := fnExactMultiplyNumbersRow.holds Try.pinned (OpenSpec.ofChange fnExactMultiplyNumbersSpec)

/-- ITS FALSE NEIGHBOUR: 'it returns false'. Refute it at one input. -/
def fnExactMultiplyNumbersWrong : ChangeSpec := { name := "fnExactMultiplyNumbers", fn := fun _ => fun
  | [d1, d2] => { results := [.lit (.bool false)], args := [d1, d2] }
  | _ => none }
def FnExactMultiplyNumbersWrongFalsely : Prop := fnExactMultiplyNumbersRow.holds Try.pinned (OpenSpec.ofChange fnExactMultiplyNumbersWrong)

/-- 'laws.FnExactUnquoteString': WHATEVER THE INPUT: true; the input reads as it did. -/
def fnExactUnquoteStringSpec : ChangeSpec := { name := "fnExactUnquoteString", fn := fun _ => fun
  | [d] => { results := [.lit (.bool true)], args := [d] }
  | _ => none }
def fnExactUnquoteStringRow : OpenClaim := { program := "ytkfjbofneaaioaa", sum := "cc955ee0330f0857db21966ef163315c14b9a32f6732e9fa3ec98209fff85ba9", func := "loop.example/g03406/laws.FnExactUnquoteString", spec := "fnExactUnquoteString", apart := false }
def FnExactUnquoteStringSaid : Prop := fnExactUnquoteStringRow.holds Try.pinned (OpenSpec.ofChange fnExactUnquoteStringSpec)

/-- ITS FALSE NEIGHBOUR: 'it returns false'. Refute it at one input. -/
def fnExactUnquoteStringWrong : ChangeSpec := { name := "fnExactUnquoteString", fn := fun _ => fun
  | [d] => { results := [.lit (.bool false)], args := [d] }
  | _ => none }
def FnExactUnquoteStringWrongFalsely : Prop := fnExactUnquoteStringRow.holds Try.pinned (OpenSpec.ofChange fnExactUnquoteStringWrong)

/-- 'laws.FnExactFormatNumber': WHATEVER THE INPUT: true; the input reads as it did. -/
def fnExactFormatNumberSpec : ChangeSpec := { name := "fnExactFormatNumber", fn := fun _ => fun
  | [d] => { results := [.lit (.bool true)], args := [d] }
  | _ => none }
def fnExactFormatNumberRow : OpenClaim := { program := "ytkfjbofneaaioaa", sum := "cc955ee0330f0857db21966ef163315c14b9a32f6732e9fa3ec98209fff85ba9", func := "loop.example/g03406/laws.FnExactFormatNumber", spec := "fnExactFormatNumber", apart := false }
def FnExactFormatNumberSaid : Prop := fnExactFormatNumberRow.holds Try.pinned (OpenSpec.ofChange fnExactFormatNumberSpec)

/-- ITS FALSE NEIGHBOUR: 'it returns false'. Refute it at one input. -/
def fnExactFormatNumberWrong : ChangeSpec := { name := "fnExactFormatNumber", fn := fun _ => fun
  | [d] => { results := [.lit (.bool false)], args := [d] }
  | _ => none }
def FnExactFormatNumberWrongFalsely : Prop := fnExactFormatNumberRow.holds Try.pinned (OpenSpec.ofChange fnExactFormatNumberWrong)

/-- 'laws.FnExactFloorNumber': WHATEVER THE INPUT: true; the input reads as it did. -/
def fnExactFloorNumberSpec : ChangeSpec := { name := "fnExactFloorNumber", fn := fun _ => fun
  | [d] => { results := [.lit (.bool true)], args := [d] }
  | _ => none }
def fnExactFloorNumberRow : OpenClaim := { program := "ytkfjbofneaaioaa", sum := "cc955ee0330f0857db21966ef163315c14b9a32f6732e9fa3ec98209fff85ba9", func := "loop.example/g03406/laws.FnExactFloorNumber", spec := "fnExactFloorNumber", apart := false }
def FnExactFloorNumberSaid : Prop := fnExactFloorNumberRow.holds Try.pinned (OpenSpec.ofChange fnExactFloorNumberSpec)

/-- ITS FALSE NEIGHBOUR: 'it returns false'. Refute it at one input. -/
def fnExactFloorNumberWrong : ChangeSpec := { name := "fnExactFloorNumber", fn := fun _ => fun
  | [d] => { results := [.lit (.bool false)], args := [d] }
  | _ => none }
def FnExactFloorNumberWrongFalsely : Prop := fnExactFloorNumberRow.holds Try.pinned (OpenSpec.ofChange fnExactFloorNumberWrong)

/- THE SECOND FORM. 'bulk': how many values and letters a reading holds, each counted each time it is reached (what is shared counts as often as it is met; a slice's spare places count too). A statement '..UptoSaid' is the law's where the arguments, and the package variables that the reading takes, are together of bulk at most 1048576: NARROWER than '..Said'. Prove '..Said' where nothing that the law and all that it calls make is longer than what came in: it says more and counts as full. Else prove '..UptoSaid'. A law counts once. -/
mutual
def uptoBulk {H : Type} : DataW H → Nat
  | .lit (.string bytes) => bytes.length + 1
  | .lit _ => 1
  | .nil => 1
  | .ptr d => uptoBulk d + 1
  | .slice elems spare => uptoBulkAll elems + uptoBulkAll spare + 1
  | .agg parts => uptoBulkAll parts + 1
  | .iface _ d => uptoBulk d + 1
  | .map entries => uptoBulkEntries entries + 1
  | .held _ => 1
def uptoBulkAll {H : Type} : List (DataW H) → Nat
  | [] => 0
  | d :: r => uptoBulk d + uptoBulkAll r
def uptoBulkEntries {H : Type} : List (Lit × DataW H) → Nat
  | [] => 0
  | x :: r => uptoBulkEntry x + uptoBulkEntries r
def uptoBulkEntry {H : Type} : Lit × DataW H → Nat
  | (.string bytes, d) => bytes.length + uptoBulk d + 1
  | (_, d) => uptoBulk d + 1
 end
def uptoSmall : (H : Type) → List (DataW H) → Bool := fun _ ds => decide (uptoBulkAll ds ≤ 1048576)
def OpenSpec.upto (s : _root_.Go.ChangeSpec) : _root_.Go.OpenSpec := { _root_.Go.OpenSpec.ofChange s with cond := some uptoSmall }

/-- 'laws.FnExactMakeNumber', WHERE WHAT IT READS IS OF BULK AT MOST 1048576: true; the input reads as it did. -/
def fnExactMakeNumberUptoRow : OpenClaim := { program := "ytkfjbofneaaioaa", sum := "cc955ee0330f0857db21966ef163315c14b9a32f6732e9fa3ec98209fff85ba9", func := "loop.example/g03406/laws.FnExactMakeNumber", spec := "fnExactMakeNumber", apart := false, narrowed := true }
def FnExactMakeNumberUptoSaid : Prop := fnExactMakeNumberUptoRow.holds Try.pinned (OpenSpec.upto fnExactMakeNumberSpec)

/-- 'laws.FnExactCompareNumbers', WHERE WHAT IT READS IS OF BULK AT MOST 1048576: true; the input reads as it did. -/
def fnExactCompareNumbersUptoRow : OpenClaim := { program := "ytkfjbofneaaioaa", sum := "cc955ee0330f0857db21966ef163315c14b9a32f6732e9fa3ec98209fff85ba9", func := "loop.example/g03406/laws.FnExactCompareNumbers", spec := "fnExactCompareNumbers", apart := false, narrowed := true }
def FnExactCompareNumbersUptoSaid : Prop := fnExactCompareNumbersUptoRow.holds Try.pinned (OpenSpec.upto fnExactCompareNumbersSpec)

/-- 'laws.FnExactNegateNumber', WHERE WHAT IT READS IS OF BULK AT MOST 1048576: true; the input reads as it did. -/
def fnExactNegateNumberUptoRow : OpenClaim := { program := "ytkfjbofneaaioaa", sum := "cc955ee0330f0857db21966ef163315c14b9a32f6732e9fa3ec98209fff85ba9", func := "loop.example/g03406/laws.FnExactNegateNumber", spec := "fnExactNegateNumber", apart := false, narrowed := true }
def FnExactNegateNumberUptoSaid : Prop := fnExactNegateNumberUptoRow.holds Try.pinned (OpenSpec.upto fnExactNegateNumberSpec)

/-- 'laws.FnExactFormatName', WHERE WHAT IT READS IS OF BULK AT MOST 1048576: true; the input reads as it did. -/
def fnExactFormatNameUptoRow : OpenClaim := { program := "ytkfjbofneaaioaa", sum := "cc955ee0330f0857db21966ef163315c14b9a32f6732e9fa3ec98209fff85ba9", func := "loop.example/g03406/laws.FnExactFormatName", spec := "fnExactFormatName", apart := false, narrowed := true }
def FnExactFormatNameUptoSaid : Prop := fnExactFormatNameUptoRow.holds Try.pinned (OpenSpec.upto fnExactFormatNameSpec)

/-- 'laws.FnExactParseInt', WHERE WHAT IT READS IS OF BULK AT MOST 1048576: true; the input reads as it did. -/
def fnExactParseIntUptoRow : OpenClaim := { program := "ytkfjbofneaaioaa", sum := "cc955ee0330f0857db21966ef163315c14b9a32f6732e9fa3ec98209fff85ba9", func := "loop.example/g03406/laws.FnExactParseInt", spec := "fnExactParseInt", apart := false, narrowed := true }
def FnExactParseIntUptoSaid : Prop := fnExactParseIntUptoRow.holds Try.pinned (OpenSpec.upto fnExactParseIntSpec)

/-- 'laws.FnExactJoinFields', WHERE WHAT IT READS IS OF BULK AT MOST 1048576: true; the input reads as it did. -/
def fnExactJoinFieldsUptoRow : OpenClaim := { program := "ytkfjbofneaaioaa", sum := "cc955ee0330f0857db21966ef163315c14b9a32f6732e9fa3ec98209fff85ba9", func := "loop.example/g03406/laws.FnExactJoinFields", spec := "fnExactJoinFields", apart := false, narrowed := true }
def FnExactJoinFieldsUptoSaid : Prop := fnExactJoinFieldsUptoRow.holds Try.pinned (OpenSpec.upto fnExactJoinFieldsSpec)

/-- 'laws.FnExactAddNumbers', WHERE WHAT IT READS IS OF BULK AT MOST 1048576: true; the input reads as it did. -/
def fnExactAddNumbersUptoRow : OpenClaim := { program := "ytkfjbofneaaioaa", sum := "cc955ee0330f0857db21966ef163315c14b9a32f6732e9fa3ec98209fff85ba9", func := "loop.example/g03406/laws.FnExactAddNumbers", spec := "fnExactAddNumbers", apart := false, narrowed := true }
def FnExactAddNumbersUptoSaid : Prop := fnExactAddNumbersUptoRow.holds Try.pinned (OpenSpec.upto fnExactAddNumbersSpec)

/-- 'laws.FnExactDivideNumbers', WHERE WHAT IT READS IS OF BULK AT MOST 1048576: true; the input reads as it did. -/
def fnExactDivideNumbersUptoRow : OpenClaim := { program := "ytkfjbofneaaioaa", sum := "cc955ee0330f0857db21966ef163315c14b9a32f6732e9fa3ec98209fff85ba9", func := "loop.example/g03406/laws.FnExactDivideNumbers", spec := "fnExactDivideNumbers", apart := false, narrowed := true }
def FnExactDivideNumbersUptoSaid : Prop := fnExactDivideNumbersUptoRow.holds Try.pinned (OpenSpec.upto fnExactDivideNumbersSpec)

/-- 'laws.FnExactMultiplyNumbers', WHERE WHAT IT READS IS OF BULK AT MOST 1048576: true; the input reads as it did. -/
def fnExactMultiplyNumbersUptoRow : OpenClaim := { program := "ytkfjbofneaaioaa", sum := "cc955ee0330f0857db21966ef163315c14b9a32f6732e9fa3ec98209fff85ba9", func := "loop.example/g03406/laws.FnExactMultiplyNumbers", spec := "fnExactMultiplyNumbers", apart := false, narrowed := true }
def FnExactMultiplyNumbersUptoSaid : Prop := fnExactMultiplyNumbersUptoRow.holds Try.pinned (OpenSpec.upto fnExactMultiplyNumbersSpec)

/-- 'laws.FnExactUnquoteString', WHERE WHAT IT READS IS OF BULK AT MOST 1048576: true; the input reads as it did. -/
def fnExactUnquoteStringUptoRow : OpenClaim := { program := "ytkfjbofneaaioaa", sum := "cc955ee0330f0857db21966ef163315c14b9a32f6732e9fa3ec98209fff85ba9", func := "loop.example/g03406/laws.FnExactUnquoteString", spec := "fnExactUnquoteString", apart := false, narrowed := true }
def FnExactUnquoteStringUptoSaid : Prop := fnExactUnquoteStringUptoRow.holds Try.pinned (OpenSpec.upto fnExactUnquoteStringSpec)

/-- 'laws.FnExactFormatNumber', WHERE WHAT IT READS IS OF BULK AT MOST 1048576: true; the input reads as it did. -/
def fnExactFormatNumberUptoRow : OpenClaim := { program := "ytkfjbofneaaioaa", sum := "cc955ee0330f0857db21966ef163315c14b9a32f6732e9fa3ec98209fff85ba9", func := "loop.example/g03406/laws.FnExactFormatNumber", spec := "fnExactFormatNumber", apart := false, narrowed := true }
def FnExactFormatNumberUptoSaid : Prop := fnExactFormatNumberUptoRow.holds Try.pinned (OpenSpec.upto fnExactFormatNumberSpec)

/-- 'laws.FnExactFloorNumber', WHERE WHAT IT READS IS OF BULK AT MOST 1048576: true; the input reads as it did. -/
def fnExactFloorNumberUptoRow : OpenClaim := { program := "ytkfjbofneaaioaa", sum := "cc955ee0330f0857db21966ef163315c14b9a32f6732e9fa3ec98209fff85ba9", func := "loop.example/g03406/laws.FnExactFloorNumber", spec := "fnExactFloorNumber", apart := false, narrowed := true }
def FnExactFloorNumberUptoSaid : Prop := fnExactFloorNumberUptoRow.holds Try.pinned (OpenSpec.upto fnExactFloorNumberSpec)

end Rows
end Go.Proofs.Ytkfjbofneaaioaa
