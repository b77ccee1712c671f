/-
  What is proved: sizes and zero values of this seat's types.
  No condition.
-/
import Derived.Test.YtmofcbpabdbjlaaW2
import Derived.Test.YtmofcbpabdbjlaaChecked
namespace Go.Proofs.Ytmofcbpabdbjlaa
set_option maxRecDepth 8000
open Go Go.RowKit

instance : AggT Try.prog 83 3 := ⟨⟨_, Try.underlying83, rfl, by kernel_rfl⟩⟩
instance : ZeroT Try.prog 83 [.int .i64 0, .int .i64 0, .string ⟨#[]⟩] := ⟨⟨.agg #[.int .i64 0, .int .i64 0, .string ⟨#[]⟩], by kernel_rfl, rfl⟩⟩

instance : AggT Try.prog 124 3 := ⟨⟨_, Try.underlying124, rfl, by kernel_rfl⟩⟩
instance : ZeroT Try.prog 124 [.int .i64 0, .int .i64 0, .string ⟨#[]⟩] := ⟨⟨.agg #[.int .i64 0, .int .i64 0, .string ⟨#[]⟩], by kernel_rfl, rfl⟩⟩

instance : AggT Try.prog 29 8 := ⟨⟨_, Try.underlying29, rfl, by kernel_rfl⟩⟩
instance : ZeroT Try.prog 29 [.int .i64 0, .slice none 0 0, .slice none 0 0, .slice none 0 0, .slice none 0 0, .slice none 0 0, .int .i64 0, .int .i64 0] := ⟨⟨.agg #[.int .i64 0, .slice none 0 0, .slice none 0 0, .slice none 0 0, .slice none 0 0, .slice none 0 0, .int .i64 0, .int .i64 0], by kernel_rfl, rfl⟩⟩

instance : AggT Try.prog 42 8 := ⟨⟨_, Try.underlying42, rfl, by kernel_rfl⟩⟩
instance : ZeroT Try.prog 42 [.int .i64 0, .slice none 0 0, .slice none 0 0, .slice none 0 0, .slice none 0 0, .slice none 0 0, .int .i64 0, .int .i64 0] := ⟨⟨.agg #[.int .i64 0, .slice none 0 0, .slice none 0 0, .slice none 0 0, .slice none 0 0, .slice none 0 0, .int .i64 0, .int .i64 0], by kernel_rfl, rfl⟩⟩

instance : OneT Try.prog 3 := ⟨⟨_, Try.underlying3, rfl, by kernel_rfl⟩⟩

instance : OneT Try.prog 4 := ⟨⟨_, Try.underlying4, rfl, by kernel_rfl⟩⟩

instance : OneT Try.prog 9 := ⟨⟨_, Try.underlying9, rfl, by kernel_rfl⟩⟩

instance : OneT Try.prog 5 := ⟨⟨_, Try.underlying5, rfl, by kernel_rfl⟩⟩

instance : OneT Try.prog 58 := ⟨⟨_, Try.underlying58, rfl, by kernel_rfl⟩⟩

instance : OneT Try.prog 75 := ⟨⟨_, Try.underlying75, rfl, by kernel_rfl⟩⟩

instance : OneT Try.prog 23 := ⟨⟨_, Try.underlying23, rfl, by kernel_rfl⟩⟩

instance : OneT Try.prog 26 := ⟨⟨_, Try.underlying26, rfl, by kernel_rfl⟩⟩

instance : OneT Try.prog 40 := ⟨⟨_, Try.underlying40, rfl, by kernel_rfl⟩⟩

instance : OneT Try.prog 27 := ⟨⟨_, Try.underlying27, rfl, by kernel_rfl⟩⟩

instance : OneT Try.prog 22 := ⟨⟨_, Try.underlying22, rfl, by kernel_rfl⟩⟩

instance : StrT Try.prog 9 := ⟨Try.underlying9⟩

instance : ByteRow Try.prog 58 5 := ⟨by
  obtain ⟨i, hi, hzz⟩ := Option.map_eq_some_iff.1 (show (Try.prog.info? 5).map (fun i => (i.zero, i.size, i.bytes)) = some (some (.int .u8 0), 1, 1) by kernel_rfl)
  simp only [Prod.mk.injEq] at hzz
  exact ⟨i, Try.underlying58, hi, hzz.1, hzz.2.1, hzz.2.2⟩⟩

instance : RowT Try.prog 58 5 1 1 := .mk' (.int .u8 0) Try.underlying58 (by kernel_rfl) rfl (by decide)

instance : RowT Try.prog 75 3 1 8 := .mk' (.int .i64 0) Try.underlying75 (by kernel_rfl) rfl (by decide)

instance : RowT Try.prog 23 9 1 16 := .mk' (.string ⟨#[]⟩) Try.underlying23 (by kernel_rfl) rfl (by decide)

instance : RowT Try.prog 26 83 3 32 := .mk' (.agg #[.int .i64 0, .int .i64 0, .string ⟨#[]⟩]) Try.underlying26 (by kernel_rfl) rfl (by decide)

instance : RowT Try.prog 40 124 3 32 := .mk' (.agg #[.int .i64 0, .int .i64 0, .string ⟨#[]⟩]) Try.underlying40 (by kernel_rfl) rfl (by decide)

instance : RowT Try.prog 27 29 8 144 := .mk' (.agg #[.int .i64 0, .slice none 0 0, .slice none 0 0, .slice none 0 0, .slice none 0 0, .slice none 0 0, .int .i64 0, .int .i64 0]) Try.underlying27 (by kernel_rfl) rfl (by decide)

instance : RowT Try.prog 22 42 8 144 := .mk' (.agg #[.int .i64 0, .slice none 0 0, .slice none 0 0, .slice none 0 0, .slice none 0 0, .slice none 0 0, .int .i64 0, .int .i64 0]) Try.underlying22 (by kernel_rfl) rfl (by decide)

end Go.Proofs.Ytmofcbpabdbjlaa
