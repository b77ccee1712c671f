/-
  What is proved: sizes and zero values of this seat's types.
  No condition.
-/
import Derived.Test.YtnofigjpcgkogaaW2
import Derived.Test.YtnofigjpcgkogaaChecked
namespace Go.Proofs.Ytnofigjpcgkogaa
open Go Go.RowKit

instance : AggT Try.prog 62 3 := ⟨⟨_, Try.underlying62, rfl, by kernel_rfl⟩⟩
instance : ZeroT Try.prog 62 [.int .i64 0, .int .i64 0, .string ⟨#[]⟩] := ⟨⟨.agg #[.int .i64 0, .int .i64 0, .string ⟨#[]⟩], by kernel_rfl, rfl⟩⟩

instance : AggT Try.prog 86 3 := ⟨⟨_, Try.underlying86, rfl, by kernel_rfl⟩⟩
instance : ZeroT Try.prog 86 [.int .i64 0, .int .i64 0, .string ⟨#[]⟩] := ⟨⟨.agg #[.int .i64 0, .int .i64 0, .string ⟨#[]⟩], by kernel_rfl, rfl⟩⟩

instance : AggT Try.prog 27 8 := ⟨⟨_, Try.underlying27, rfl, by kernel_rfl⟩⟩
instance : ZeroT Try.prog 27 [.int .i64 0, .slice none 0 0, .slice none 0 0, .slice none 0 0, .slice none 0 0, .slice none 0 0, .int .i64 0, .int .i64 0] := ⟨⟨.agg #[.int .i64 0, .slice none 0 0, .slice none 0 0, .slice none 0 0, .slice none 0 0, .slice none 0 0, .int .i64 0, .int .i64 0], by kernel_rfl, rfl⟩⟩

instance : AggT Try.prog 46 8 := ⟨⟨_, Try.underlying46, rfl, by kernel_rfl⟩⟩
instance : ZeroT Try.prog 46 [.int .i64 0, .slice none 0 0, .slice none 0 0, .slice none 0 0, .slice none 0 0, .slice none 0 0, .int .i64 0, .int .i64 0] := ⟨⟨.agg #[.int .i64 0, .slice none 0 0, .slice none 0 0, .slice none 0 0, .slice none 0 0, .slice none 0 0, .int .i64 0, .int .i64 0], by kernel_rfl, rfl⟩⟩

instance : OneT Try.prog 3 := ⟨⟨_, Try.underlying3, rfl, by kernel_rfl⟩⟩

instance : OneT Try.prog 4 := ⟨⟨_, Try.underlying4, rfl, by kernel_rfl⟩⟩

instance : OneT Try.prog 9 := ⟨⟨_, Try.underlying9, rfl, by kernel_rfl⟩⟩

instance : OneT Try.prog 5 := ⟨⟨_, Try.underlying5, rfl, by kernel_rfl⟩⟩

instance : OneT Try.prog 84 := ⟨⟨_, Try.underlying84, rfl, by kernel_rfl⟩⟩

instance : OneT Try.prog 22 := ⟨⟨_, Try.underlying22, rfl, by kernel_rfl⟩⟩

instance : OneT Try.prog 25 := ⟨⟨_, Try.underlying25, rfl, by kernel_rfl⟩⟩

instance : OneT Try.prog 23 := ⟨⟨_, Try.underlying23, rfl, by kernel_rfl⟩⟩

instance : OneT Try.prog 43 := ⟨⟨_, Try.underlying43, rfl, by kernel_rfl⟩⟩

instance : OneT Try.prog 24 := ⟨⟨_, Try.underlying24, rfl, by kernel_rfl⟩⟩

instance : OneT Try.prog 44 := ⟨⟨_, Try.underlying44, rfl, by kernel_rfl⟩⟩

instance : StrT Try.prog 9 := ⟨Try.underlying9⟩

instance : ByteRow Try.prog 84 5 := ⟨by
  obtain ⟨i, hi, hzz⟩ := Option.map_eq_some_iff.1 (show (Try.prog.info? 5).map (fun i => (i.zero, i.size, i.bytes)) = some (some (.int .u8 0), 1, 1) by kernel_rfl)
  simp only [Prod.mk.injEq] at hzz
  exact ⟨i, Try.underlying84, hi, hzz.1, hzz.2.1, hzz.2.2⟩⟩

instance : RowT Try.prog 84 5 1 1 := .mk' (.int .u8 0) Try.underlying84 (by kernel_rfl) rfl (by decide)

instance : RowT Try.prog 22 3 1 8 := .mk' (.int .i64 0) Try.underlying22 (by kernel_rfl) rfl (by decide)

instance : RowT Try.prog 25 9 1 16 := .mk' (.string ⟨#[]⟩) Try.underlying25 (by kernel_rfl) rfl (by decide)

instance : RowT Try.prog 23 62 3 32 := .mk' (.agg #[.int .i64 0, .int .i64 0, .string ⟨#[]⟩]) Try.underlying23 (by kernel_rfl) rfl (by decide)

instance : RowT Try.prog 43 86 3 32 := .mk' (.agg #[.int .i64 0, .int .i64 0, .string ⟨#[]⟩]) Try.underlying43 (by kernel_rfl) rfl (by decide)

instance : RowT Try.prog 24 27 8 144 := .mk' (.agg #[.int .i64 0, .slice none 0 0, .slice none 0 0, .slice none 0 0, .slice none 0 0, .slice none 0 0, .int .i64 0, .int .i64 0]) Try.underlying24 (by kernel_rfl) rfl (by decide)

instance : RowT Try.prog 44 46 8 144 := .mk' (.agg #[.int .i64 0, .slice none 0 0, .slice none 0 0, .slice none 0 0, .slice none 0 0, .slice none 0 0, .int .i64 0, .int .i64 0]) Try.underlying44 (by kernel_rfl) rfl (by decide)

end Go.Proofs.Ytnofigjpcgkogaa
