/-
  What is proved: sizes and zero values of this seat's types.
  No condition.
-/
import Derived.Test.YtkfjbofneaaioaaW
import Derived.Test.YtkfjbofneaaioaaChecked
namespace Go.Proofs.Ytkfjbofneaaioaa
open Go Go.RowKit

instance : AggT Try.prog 23 3 := ⟨⟨_, Try.underlying23, rfl, by kernel_rfl⟩⟩
instance : ZeroT Try.prog 23 [.int .i64 0, .int .i64 0, .string ⟨#[]⟩] := ⟨⟨.agg #[.int .i64 0, .int .i64 0, .string ⟨#[]⟩], by kernel_rfl, rfl⟩⟩

instance : AggT Try.prog 27 3 := ⟨⟨_, Try.underlying27, rfl, by kernel_rfl⟩⟩
instance : ZeroT Try.prog 27 [.int .i64 0, .int .i64 0, .string ⟨#[]⟩] := ⟨⟨.agg #[.int .i64 0, .int .i64 0, .string ⟨#[]⟩], by kernel_rfl, rfl⟩⟩

instance : OneT Try.prog 3 := ⟨⟨_, Try.underlying3, rfl, by kernel_rfl⟩⟩

instance : OneT Try.prog 4 := ⟨⟨_, Try.underlying4, rfl, by kernel_rfl⟩⟩

instance : OneT Try.prog 9 := ⟨⟨_, Try.underlying9, rfl, by kernel_rfl⟩⟩

instance : OneT Try.prog 5 := ⟨⟨_, Try.underlying5, rfl, by kernel_rfl⟩⟩

instance : OneT Try.prog 52 := ⟨⟨_, Try.underlying52, rfl, by kernel_rfl⟩⟩

instance : OneT Try.prog 38 := ⟨⟨_, Try.underlying38, rfl, by kernel_rfl⟩⟩

end Go.Proofs.Ytkfjbofneaaioaa
