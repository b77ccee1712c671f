/-
  NARROWER THAN 'FOR EVERY INPUT', by the rows' own cells (each row's printed sentence says how): FnExactListVector: loops · FnExactNegateVector: loops · FnExactCompareVectors: loops · FnExactExtremeOf: loops · FnExactRepeatVector: loops · FnExactCoerceVector: loops · FnExactLogicOf: loops · FnExactFormatVector: loops · FnExactChooseVector: loops · FnExactArithmeticOf: loops · FnExactCombineVectors: loops.
  DERIVED. THE GIVEN ROWS OF THIS SEAT. 13 by the template 'for every input the law returns true; each argument reads behind the call as it read before'; 0 by the template 'total and deterministic' (their statements: YtmofcbpabdbjlaaTotals.lean).
  GIVEN WITH THE SEED: the statements are not yours to turn. If you find one false, say at which input.
  Laid BY PROGRAM, IN A SANDBOX (cutbox-rows.mjs): the forced cells as the released guide's own fill.sh prints them over the translation bb8d8e8eb61d7b71… (all of the seat's roots in one cut). By AI agents, Wed Nov 11 2026. No macro, syntax, notation, axiom, sorry.
-/
import Derived.Test.YtmofcbpabdbjlaaChecked
import GoSem.Claim
import GoSem.ClaimJoined
import GoSem.ClaimMapViews
import Derived.JoinedTies
import Derived.KernelRfl
namespace Go.Proofs.Ytmofcbpabdbjlaa
/- THE CELL 'sum', in the pinned program and in every row, IS THE sha256 OF THE DUMP (.gsa) THAT YtmofcbpabdbjlaaProg.lean LOADS. Nothing in Lean hashes anything: it is a label: what it is worth is what the hold of that sum in a sandbox is worth. -/
noncomputable def Try.pinned : Pinned := { name := "ytmofcbpabdbjlaa", sum := "bb8d8e8eb61d7b71efc5680b5acd99694de80ea6b0e607e6fa980e18e2b737b7", checked := Try.checked }
namespace Rows
def none {H : Type} : Left H := { results := [], args := [] }

/-- 'laws.FnExactListVector': WHATEVER THE INPUT: true; the input reads as it did. -/
def fnExactListVectorSpec : ChangeSpec := { name := "fnExactListVector", fn := fun _ => fun
  | [d1, d2] => { results := [.lit (.bool true)], args := [d1, d2] }
  | _ => none }
def fnExactListVectorRow : OpenClaim := { program := "ytmofcbpabdbjlaa", sum := "bb8d8e8eb61d7b71efc5680b5acd99694de80ea6b0e607e6fa980e18e2b737b7", func := "loop.example/g03406/laws.FnExactListVector", spec := "fnExactListVector", recurses := true, loops := true, apart := false }
def FnExactListVectorSaid : Prop := fnExactListVectorRow.holds Try.pinned (OpenSpec.ofChange fnExactListVectorSpec)

/-- ITS FALSE NEIGHBOUR: 'it returns false'. Refute it at one input. -/
def fnExactListVectorWrong : ChangeSpec := { name := "fnExactListVector", fn := fun _ => fun
  | [d1, d2] => { results := [.lit (.bool false)], args := [d1, d2] }
  | _ => none }
def FnExactListVectorWrongFalsely : Prop := fnExactListVectorRow.holds Try.pinned (OpenSpec.ofChange fnExactListVectorWrong)

/-- 'laws.FnExactNegateVector': WHATEVER THE INPUT: true; the input reads as it did. -/
def fnExactNegateVectorSpec : ChangeSpec := { name := "fnExactNegateVector", fn := fun _ => fun
  | [d] => { results := [.lit (.bool true)], args := [d] }
  | _ => none }
def fnExactNegateVectorRow : OpenClaim := { program := "ytmofcbpabdbjlaa", sum := "bb8d8e8eb61d7b71efc5680b5acd99694de80ea6b0e607e6fa980e18e2b737b7", func := "loop.example/g03406/laws.FnExactNegateVector", spec := "fnExactNegateVector", unfollowed := true, recurses := true, loops := true, apart := false }
def FnExactNegateVectorSaid : Prop := fnExactNegateVectorRow.holds Try.pinned (OpenSpec.ofChange fnExactNegateVectorSpec)

/-- ITS FALSE NEIGHBOUR: 'it returns false'. Refute it at one input. -/
def fnExactNegateVectorWrong : ChangeSpec := { name := "fnExactNegateVector", fn := fun _ => fun
  | [d] => { results := [.lit (.bool false)], args := [d] }
  | _ => none }
def FnExactNegateVectorWrongFalsely : Prop := fnExactNegateVectorRow.holds Try.pinned (OpenSpec.ofChange fnExactNegateVectorWrong)

/-- 'laws.FnExactCompareVectors': WHATEVER THE INPUT: true; the input reads as it did. -/
def fnExactCompareVectorsSpec : ChangeSpec := { name := "fnExactCompareVectors", fn := fun _ => fun
  | [d1, d2, d3] => { results := [.lit (.bool true)], args := [d1, d2, d3] }
  | _ => none }
def fnExactCompareVectorsRow : OpenClaim := { program := "ytmofcbpabdbjlaa", sum := "bb8d8e8eb61d7b71efc5680b5acd99694de80ea6b0e607e6fa980e18e2b737b7", func := "loop.example/g03406/laws.FnExactCompareVectors", spec := "fnExactCompareVectors", unfollowed := true, recurses := true, loops := true, apart := false }
def FnExactCompareVectorsSaid : Prop := fnExactCompareVectorsRow.holds Try.pinned (OpenSpec.ofChange fnExactCompareVectorsSpec)

/-- ITS FALSE NEIGHBOUR: 'it returns false'. Refute it at one input. -/
def fnExactCompareVectorsWrong : ChangeSpec := { name := "fnExactCompareVectors", fn := fun _ => fun
  | [d1, d2, d3] => { results := [.lit (.bool false)], args := [d1, d2, d3] }
  | _ => none }
def FnExactCompareVectorsWrongFalsely : Prop := fnExactCompareVectorsRow.holds Try.pinned (OpenSpec.ofChange fnExactCompareVectorsWrong)

/-- 'laws.FnExactExtremeOf': WHATEVER THE INPUT: true; the input reads as it did. -/
def fnExactExtremeOfSpec : ChangeSpec := { name := "fnExactExtremeOf", fn := fun _ => fun
  | [d1, d2, d3] => { results := [.lit (.bool true)], args := [d1, d2, d3] }
  | _ => none }
def fnExactExtremeOfRow : OpenClaim := { program := "ytmofcbpabdbjlaa", sum := "bb8d8e8eb61d7b71efc5680b5acd99694de80ea6b0e607e6fa980e18e2b737b7", func := "loop.example/g03406/laws.FnExactExtremeOf", spec := "fnExactExtremeOf", recurses := true, loops := true, apart := false }
def FnExactExtremeOfSaid : Prop := fnExactExtremeOfRow.holds Try.pinned (OpenSpec.ofChange fnExactExtremeOfSpec)

/-- ITS FALSE NEIGHBOUR: 'it returns false'. Refute it at one input. -/
def fnExactExtremeOfWrong : ChangeSpec := { name := "fnExactExtremeOf", fn := fun _ => fun
  | [d1, d2, d3] => { results := [.lit (.bool false)], args := [d1, d2, d3] }
  | _ => none }
def FnExactExtremeOfWrongFalsely : Prop := fnExactExtremeOfRow.holds Try.pinned (OpenSpec.ofChange fnExactExtremeOfWrong)

/-- 'laws.FnExactRepeatVector': WHATEVER THE INPUT: true; the input reads as it did. -/
def fnExactRepeatVectorSpec : ChangeSpec := { name := "fnExactRepeatVector", fn := fun _ => fun
  | [d1, d2] => { results := [.lit (.bool true)], args := [d1, d2] }
  | _ => none }
def fnExactRepeatVectorRow : OpenClaim := { program := "ytmofcbpabdbjlaa", sum := "bb8d8e8eb61d7b71efc5680b5acd99694de80ea6b0e607e6fa980e18e2b737b7", func := "loop.example/g03406/laws.FnExactRepeatVector", spec := "fnExactRepeatVector", recurses := true, loops := true, apart := false }
def FnExactRepeatVectorSaid : Prop := fnExactRepeatVectorRow.holds Try.pinned (OpenSpec.ofChange fnExactRepeatVectorSpec)

/-- ITS FALSE NEIGHBOUR: 'it returns false'. Refute it at one input. -/
def fnExactRepeatVectorWrong : ChangeSpec := { name := "fnExactRepeatVector", fn := fun _ => fun
  | [d1, d2] => { results := [.lit (.bool false)], args := [d1, d2] }
  | _ => none }
def FnExactRepeatVectorWrongFalsely : Prop := fnExactRepeatVectorRow.holds Try.pinned (OpenSpec.ofChange fnExactRepeatVectorWrong)

/-- 'laws.FnExactCoerceVector': WHATEVER THE INPUT: true; the input reads as it did. -/
def fnExactCoerceVectorSpec : ChangeSpec := { name := "fnExactCoerceVector", fn := fun _ => fun
  | [d1, d2] => { results := [.lit (.bool true)], args := [d1, d2] }
  | _ => none }
def fnExactCoerceVectorRow : OpenClaim := { program := "ytmofcbpabdbjlaa", sum := "bb8d8e8eb61d7b71efc5680b5acd99694de80ea6b0e607e6fa980e18e2b737b7", func := "loop.example/g03406/laws.FnExactCoerceVector", spec := "fnExactCoerceVector", recurses := true, loops := true, apart := false }
def FnExactCoerceVectorSaid : Prop := fnExactCoerceVectorRow.holds Try.pinned (OpenSpec.ofChange fnExactCoerceVectorSpec)

/-- ITS FALSE NEIGHBOUR: 'it returns false'. Refute it at one input. -/
def fnExactCoerceVectorWrong : ChangeSpec := { name := "fnExactCoerceVector", fn := fun _ => fun
  | [d1, d2] => { results := [.lit (.bool false)], args := [d1, d2] }
  | _ => none }
def FnExactCoerceVectorWrongFalsely : Prop := fnExactCoerceVectorRow.holds Try.pinned (OpenSpec.ofChange fnExactCoerceVectorWrong)

/-- 'laws.FnExactLogicOf': WHATEVER THE INPUT: true; the input reads as it did. -/
def fnExactLogicOfSpec : ChangeSpec := { name := "fnExactLogicOf", fn := fun _ => fun
  | [d1, d2, d3] => { results := [.lit (.bool true)], args := [d1, d2, d3] }
  | _ => none }
def fnExactLogicOfRow : OpenClaim := { program := "ytmofcbpabdbjlaa", sum := "bb8d8e8eb61d7b71efc5680b5acd99694de80ea6b0e607e6fa980e18e2b737b7", func := "loop.example/g03406/laws.FnExactLogicOf", spec := "fnExactLogicOf", unfollowed := true, recurses := true, loops := true, apart := false }
def FnExactLogicOfSaid : Prop := fnExactLogicOfRow.holds Try.pinned (OpenSpec.ofChange fnExactLogicOfSpec)

/-- ITS FALSE NEIGHBOUR: 'it returns false'. Refute it at one input. -/
def fnExactLogicOfWrong : ChangeSpec := { name := "fnExactLogicOf", fn := fun _ => fun
  | [d1, d2, d3] => { results := [.lit (.bool false)], args := [d1, d2, d3] }
  | _ => none }
def FnExactLogicOfWrongFalsely : Prop := fnExactLogicOfRow.holds Try.pinned (OpenSpec.ofChange fnExactLogicOfWrong)

/-- 'laws.FnExactFormatVector': WHATEVER THE INPUT: true; the input reads as it did. -/
def fnExactFormatVectorSpec : ChangeSpec := { name := "fnExactFormatVector", fn := fun _ => fun
  | [d] => { results := [.lit (.bool true)], args := [d] }
  | _ => none }
def fnExactFormatVectorRow : OpenClaim := { program := "ytmofcbpabdbjlaa", sum := "bb8d8e8eb61d7b71efc5680b5acd99694de80ea6b0e607e6fa980e18e2b737b7", func := "loop.example/g03406/laws.FnExactFormatVector", spec := "fnExactFormatVector", recurses := true, loops := true, apart := false }
def FnExactFormatVectorSaid : Prop := fnExactFormatVectorRow.holds Try.pinned (OpenSpec.ofChange fnExactFormatVectorSpec)

/-- ITS FALSE NEIGHBOUR: 'it returns false'. Refute it at one input. -/
def fnExactFormatVectorWrong : ChangeSpec := { name := "fnExactFormatVector", fn := fun _ => fun
  | [d] => { results := [.lit (.bool false)], args := [d] }
  | _ => none }
def FnExactFormatVectorWrongFalsely : Prop := fnExactFormatVectorRow.holds Try.pinned (OpenSpec.ofChange fnExactFormatVectorWrong)

/-- 'laws.FnExactChooseVector': WHATEVER THE INPUT: true; the input reads as it did. -/
def fnExactChooseVectorSpec : ChangeSpec := { name := "fnExactChooseVector", fn := fun _ => fun
  | [d1, d2, d3] => { results := [.lit (.bool true)], args := [d1, d2, d3] }
  | _ => none }
def fnExactChooseVectorRow : OpenClaim := { program := "ytmofcbpabdbjlaa", sum := "bb8d8e8eb61d7b71efc5680b5acd99694de80ea6b0e607e6fa980e18e2b737b7", func := "loop.example/g03406/laws.FnExactChooseVector", spec := "fnExactChooseVector", recurses := true, loops := true, apart := false }
def FnExactChooseVectorSaid : Prop := fnExactChooseVectorRow.holds Try.pinned (OpenSpec.ofChange fnExactChooseVectorSpec)

/-- ITS FALSE NEIGHBOUR: 'it returns false'. Refute it at one input. -/
def fnExactChooseVectorWrong : ChangeSpec := { name := "fnExactChooseVector", fn := fun _ => fun
  | [d1, d2, d3] => { results := [.lit (.bool false)], args := [d1, d2, d3] }
  | _ => none }
def FnExactChooseVectorWrongFalsely : Prop := fnExactChooseVectorRow.holds Try.pinned (OpenSpec.ofChange fnExactChooseVectorWrong)

/-- 'laws.FnExactArithmeticOf': WHATEVER THE INPUT: true; the input reads as it did. -/
def fnExactArithmeticOfSpec : ChangeSpec := { name := "fnExactArithmeticOf", fn := fun _ => fun
  | [d1, d2, d3] => { results := [.lit (.bool true)], args := [d1, d2, d3] }
  | _ => none }
def fnExactArithmeticOfRow : OpenClaim := { program := "ytmofcbpabdbjlaa", sum := "bb8d8e8eb61d7b71efc5680b5acd99694de80ea6b0e607e6fa980e18e2b737b7", func := "loop.example/g03406/laws.FnExactArithmeticOf", spec := "fnExactArithmeticOf", unfollowed := true, recurses := true, loops := true, apart := false }
def FnExactArithmeticOfSaid : Prop := fnExactArithmeticOfRow.holds Try.pinned (OpenSpec.ofChange fnExactArithmeticOfSpec)

/-- ITS FALSE NEIGHBOUR: 'it returns false'. Refute it at one input. -/
def fnExactArithmeticOfWrong : ChangeSpec := { name := "fnExactArithmeticOf", fn := fun _ => fun
  | [d1, d2, d3] => { results := [.lit (.bool false)], args := [d1, d2, d3] }
  | _ => none }
def FnExactArithmeticOfWrongFalsely : Prop := fnExactArithmeticOfRow.holds Try.pinned (OpenSpec.ofChange fnExactArithmeticOfWrong)

/-- 'laws.FnExactCombineVectors': WHATEVER THE INPUT: true; the input reads as it did. -/
def fnExactCombineVectorsSpec : ChangeSpec := { name := "fnExactCombineVectors", fn := fun _ => fun
  | [d1, d2] => { results := [.lit (.bool true)], args := [d1, d2] }
  | _ => none }
def fnExactCombineVectorsRow : OpenClaim := { program := "ytmofcbpabdbjlaa", sum := "bb8d8e8eb61d7b71efc5680b5acd99694de80ea6b0e607e6fa980e18e2b737b7", func := "loop.example/g03406/laws.FnExactCombineVectors", spec := "fnExactCombineVectors", recurses := true, loops := true, apart := false }
def FnExactCombineVectorsSaid : Prop := fnExactCombineVectorsRow.holds Try.pinned (OpenSpec.ofChange fnExactCombineVectorsSpec)

/-- ITS FALSE NEIGHBOUR: 'it returns false'. Refute it at one input. -/
def fnExactCombineVectorsWrong : ChangeSpec := { name := "fnExactCombineVectors", fn := fun _ => fun
  | [d1, d2] => { results := [.lit (.bool false)], args := [d1, d2] }
  | _ => none }
def FnExactCombineVectorsWrongFalsely : Prop := fnExactCombineVectorsRow.holds Try.pinned (OpenSpec.ofChange fnExactCombineVectorsWrong)

/-- 'laws.FnVectors': WHATEVER THE INPUT: true; the input reads as it did. -/
def fnVectorsSpec : ChangeSpec := { name := "fnVectors", fn := fun _ => fun
  | [d] => { results := [.lit (.bool true)], args := [d] }
  | _ => none }
def fnVectorsRow : OpenClaim := { program := "ytmofcbpabdbjlaa", sum := "bb8d8e8eb61d7b71efc5680b5acd99694de80ea6b0e607e6fa980e18e2b737b7", func := "loop.example/g03406/laws.FnVectors", spec := "fnVectors", recurses := true, apart := false }
def FnVectorsSaid : Prop := fnVectorsRow.holds Try.pinned (OpenSpec.ofChange fnVectorsSpec)

/-- ITS FALSE NEIGHBOUR: 'it returns false'. Refute it at one input. -/
def fnVectorsWrong : ChangeSpec := { name := "fnVectors", fn := fun _ => fun
  | [d] => { results := [.lit (.bool false)], args := [d] }
  | _ => none }
def FnVectorsWrongFalsely : Prop := fnVectorsRow.holds Try.pinned (OpenSpec.ofChange fnVectorsWrong)

/-- 'laws.FnRecycling': WHATEVER THE INPUT: true; the input reads as it did. -/
def fnRecyclingSpec : ChangeSpec := { name := "fnRecycling", fn := fun _ => fun
  | [d] => { results := [.lit (.bool true)], args := [d] }
  | _ => none }
def fnRecyclingRow : OpenClaim := { program := "ytmofcbpabdbjlaa", sum := "bb8d8e8eb61d7b71efc5680b5acd99694de80ea6b0e607e6fa980e18e2b737b7", func := "loop.example/g03406/laws.FnRecycling", spec := "fnRecycling", unfollowed := true, recurses := true, apart := false }
def FnRecyclingSaid : Prop := fnRecyclingRow.holds Try.pinned (OpenSpec.ofChange fnRecyclingSpec)

/-- ITS FALSE NEIGHBOUR: 'it returns false'. Refute it at one input. -/
def fnRecyclingWrong : ChangeSpec := { name := "fnRecycling", fn := fun _ => fun
  | [d] => { results := [.lit (.bool false)], args := [d] }
  | _ => none }
def FnRecyclingWrongFalsely : Prop := fnRecyclingRow.holds Try.pinned (OpenSpec.ofChange fnRecyclingWrong)

/- THE SECOND FORM. 'bulk': how many values and letters a reading holds, each counted each time it is reached (what is shared counts as often as it is met; a slice's spare places count too). A statement '..UptoSaid' is the law's where the arguments, and the package variables that the reading takes, are together of bulk at most 1048576: NARROWER than '..Said'. Prove '..Said' where nothing that the law and all that it calls make is longer than what came in: it says more and counts as full. Else prove '..UptoSaid'. A law counts once. -/
mutual
def uptoBulk {H : Type} : DataW H → Nat
  | .lit (.string bytes) => bytes.length + 1
  | .lit _ => 1
  | .nil => 1
  | .ptr d => uptoBulk d + 1
  | .slice elems spare => uptoBulkAll elems + uptoBulkAll spare + 1
  | .agg parts => uptoBulkAll parts + 1
  | .iface _ d => uptoBulk d + 1
  | .map entries => uptoBulkEntries entries + 1
  | .held _ => 1
def uptoBulkAll {H : Type} : List (DataW H) → Nat
  | [] => 0
  | d :: r => uptoBulk d + uptoBulkAll r
def uptoBulkEntries {H : Type} : List (Lit × DataW H) → Nat
  | [] => 0
  | x :: r => uptoBulkEntry x + uptoBulkEntries r
def uptoBulkEntry {H : Type} : Lit × DataW H → Nat
  | (.string bytes, d) => bytes.length + uptoBulk d + 1
  | (_, d) => uptoBulk d + 1
 end
def uptoSmall : (H : Type) → List (DataW H) → Bool := fun _ ds => decide (uptoBulkAll ds ≤ 1048576)
def OpenSpec.upto (s : _root_.Go.ChangeSpec) : _root_.Go.OpenSpec := { _root_.Go.OpenSpec.ofChange s with cond := some uptoSmall }

/-- 'laws.FnExactListVector', WHERE WHAT IT READS IS OF BULK AT MOST 1048576: true; the input reads as it did. -/
def fnExactListVectorUptoRow : OpenClaim := { program := "ytmofcbpabdbjlaa", sum := "bb8d8e8eb61d7b71efc5680b5acd99694de80ea6b0e607e6fa980e18e2b737b7", func := "loop.example/g03406/laws.FnExactListVector", spec := "fnExactListVector", recurses := true, loops := true, apart := false, narrowed := true }
def FnExactListVectorUptoSaid : Prop := fnExactListVectorUptoRow.holds Try.pinned (OpenSpec.upto fnExactListVectorSpec)

/-- 'laws.FnExactNegateVector', WHERE WHAT IT READS IS OF BULK AT MOST 1048576: true; the input reads as it did. -/
def fnExactNegateVectorUptoRow : OpenClaim := { program := "ytmofcbpabdbjlaa", sum := "bb8d8e8eb61d7b71efc5680b5acd99694de80ea6b0e607e6fa980e18e2b737b7", func := "loop.example/g03406/laws.FnExactNegateVector", spec := "fnExactNegateVector", unfollowed := true, recurses := true, loops := true, apart := false, narrowed := true }
def FnExactNegateVectorUptoSaid : Prop := fnExactNegateVectorUptoRow.holds Try.pinned (OpenSpec.upto fnExactNegateVectorSpec)

/-- 'laws.FnExactCompareVectors', WHERE WHAT IT READS IS OF BULK AT MOST 1048576: true; the input reads as it did. -/
def fnExactCompareVectorsUptoRow : OpenClaim := { program := "ytmofcbpabdbjlaa", sum := "bb8d8e8eb61d7b71efc5680b5acd99694de80ea6b0e607e6fa980e18e2b737b7", func := "loop.example/g03406/laws.FnExactCompareVectors", spec := "fnExactCompareVectors", unfollowed := true, recurses := true, loops := true, apart := false, narrowed := true }
def FnExactCompareVectorsUptoSaid : Prop := fnExactCompareVectorsUptoRow.holds Try.pinned (OpenSpec.upto fnExactCompareVectorsSpec)

/-- 'laws.FnExactExtremeOf', WHERE WHAT IT READS IS OF BULK AT MOST 1048576: true; the input reads as it did. -/
def fnExactExtremeOfUptoRow : OpenClaim := { program := "ytmofcbpabdbjlaa", sum := "bb8d8e8eb61d7b71efc5680b5acd99694de80ea6b0e607e6fa980e18e2b737b7", func := "loop.example/g03406/laws.FnExactExtremeOf", spec := "fnExactExtremeOf", recurses := true, loops := true, apart := false, narrowed := true }
def FnExactExtremeOfUptoSaid : Prop := fnExactExtremeOfUptoRow.holds Try.pinned (OpenSpec.upto fnExactExtremeOfSpec)

/-- 'laws.FnExactRepeatVector', WHERE WHAT IT READS IS OF BULK AT MOST 1048576: true; the input reads as it did. -/
def fnExactRepeatVectorUptoRow : OpenClaim := { program := "ytmofcbpabdbjlaa", sum := "bb8d8e8eb61d7b71efc5680b5acd99694de80ea6b0e607e6fa980e18e2b737b7", func := "loop.example/g03406/laws.FnExactRepeatVector", spec := "fnExactRepeatVector", recurses := true, loops := true, apart := false, narrowed := true }
def FnExactRepeatVectorUptoSaid : Prop := fnExactRepeatVectorUptoRow.holds Try.pinned (OpenSpec.upto fnExactRepeatVectorSpec)

/-- 'laws.FnExactCoerceVector', WHERE WHAT IT READS IS OF BULK AT MOST 1048576: true; the input reads as it did. -/
def fnExactCoerceVectorUptoRow : OpenClaim := { program := "ytmofcbpabdbjlaa", sum := "bb8d8e8eb61d7b71efc5680b5acd99694de80ea6b0e607e6fa980e18e2b737b7", func := "loop.example/g03406/laws.FnExactCoerceVector", spec := "fnExactCoerceVector", recurses := true, loops := true, apart := false, narrowed := true }
def FnExactCoerceVectorUptoSaid : Prop := fnExactCoerceVectorUptoRow.holds Try.pinned (OpenSpec.upto fnExactCoerceVectorSpec)

/-- 'laws.FnExactLogicOf', WHERE WHAT IT READS IS OF BULK AT MOST 1048576: true; the input reads as it did. -/
def fnExactLogicOfUptoRow : OpenClaim := { program := "ytmofcbpabdbjlaa", sum := "bb8d8e8eb61d7b71efc5680b5acd99694de80ea6b0e607e6fa980e18e2b737b7", func := "loop.example/g03406/laws.FnExactLogicOf", spec := "fnExactLogicOf", unfollowed := true, recurses := true, loops := true, apart := false, narrowed := true }
def FnExactLogicOfUptoSaid : Prop := fnExactLogicOfUptoRow.holds Try.pinned (OpenSpec.upto fnExactLogicOfSpec)

/-- 'laws.FnExactFormatVector', WHERE WHAT IT READS IS OF BULK AT MOST 1048576: true; the input reads as it did. -/
def fnExactFormatVectorUptoRow : OpenClaim := { program := "ytmofcbpabdbjlaa", sum := "bb8d8e8eb61d7b71efc5680b5acd99694de80ea6b0e607e6fa980e18e2b737b7", func := "loop.example/g03406/laws.FnExactFormatVector", spec := "fnExactFormatVector", recurses := true, loops := true, apart := false, narrowed := true }
def FnExactFormatVectorUptoSaid : Prop := fnExactFormatVectorUptoRow.holds Try.pinned (OpenSpec.upto fnExactFormatVectorSpec)

/-- 'laws.FnExactChooseVector', WHERE WHAT IT READS IS OF BULK AT MOST 1048576: true; the input reads as it did. -/
def fnExactChooseVectorUptoRow : OpenClaim := { program := "ytmofcbpabdbjlaa", sum := "bb8d8e8eb61d7b71efc5680b5acd99694de80ea6b0e607e6fa980e18e2b737b7", func := "loop.example/g03406/laws.FnExactChooseVector", spec := "fnExactChooseVector", recurses := true, loops := true, apart := false, narrowed := true }
def FnExactChooseVectorUptoSaid : Prop := fnExactChooseVectorUptoRow.holds Try.pinned (OpenSpec.upto fnExactChooseVectorSpec)

/-- 'laws.FnExactArithmeticOf', WHERE WHAT IT READS IS OF BULK AT MOST 1048576: true; the input reads as it did. -/
def fnExactArithmeticOfUptoRow : OpenClaim := { program := "ytmofcbpabdbjlaa", sum := "bb8d8e8eb61d7b71efc5680b5acd99694de80ea6b0e607e6fa980e18e2b737b7", func := "loop.example/g03406/laws.FnExactArithmeticOf", spec := "fnExactArithmeticOf", unfollowed := true, recurses := true, loops := true, apart := false, narrowed := true }
def FnExactArithmeticOfUptoSaid : Prop := fnExactArithmeticOfUptoRow.holds Try.pinned (OpenSpec.upto fnExactArithmeticOfSpec)

/-- 'laws.FnExactCombineVectors', WHERE WHAT IT READS IS OF BULK AT MOST 1048576: true; the input reads as it did. -/
def fnExactCombineVectorsUptoRow : OpenClaim := { program := "ytmofcbpabdbjlaa", sum := "bb8d8e8eb61d7b71efc5680b5acd99694de80ea6b0e607e6fa980e18e2b737b7", func := "loop.example/g03406/laws.FnExactCombineVectors", spec := "fnExactCombineVectors", recurses := true, loops := true, apart := false, narrowed := true }
def FnExactCombineVectorsUptoSaid : Prop := fnExactCombineVectorsUptoRow.holds Try.pinned (OpenSpec.upto fnExactCombineVectorsSpec)

/-- 'laws.FnVectors', WHERE WHAT IT READS IS OF BULK AT MOST 1048576: true; the input reads as it did. -/
def fnVectorsUptoRow : OpenClaim := { program := "ytmofcbpabdbjlaa", sum := "bb8d8e8eb61d7b71efc5680b5acd99694de80ea6b0e607e6fa980e18e2b737b7", func := "loop.example/g03406/laws.FnVectors", spec := "fnVectors", recurses := true, apart := false, narrowed := true }
def FnVectorsUptoSaid : Prop := fnVectorsUptoRow.holds Try.pinned (OpenSpec.upto fnVectorsSpec)

/-- 'laws.FnRecycling', WHERE WHAT IT READS IS OF BULK AT MOST 1048576: true; the input reads as it did. -/
def fnRecyclingUptoRow : OpenClaim := { program := "ytmofcbpabdbjlaa", sum := "bb8d8e8eb61d7b71efc5680b5acd99694de80ea6b0e607e6fa980e18e2b737b7", func := "loop.example/g03406/laws.FnRecycling", spec := "fnRecycling", unfollowed := true, recurses := true, apart := false, narrowed := true }
def FnRecyclingUptoSaid : Prop := fnRecyclingUptoRow.holds Try.pinned (OpenSpec.upto fnRecyclingSpec)

end Rows
end Go.Proofs.Ytmofcbpabdbjlaa
