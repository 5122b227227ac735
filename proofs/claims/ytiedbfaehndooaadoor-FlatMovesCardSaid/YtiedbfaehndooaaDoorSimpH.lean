/- Layer 12: a glyph as the document has it (own). -/
import Derived.Test.YtiedbfaehndooaaDoorSimpG
namespace Go.Proofs.YtiedbfaehndooaaDoor
open Go Go.RowKit
set_option linter.unusedVariables false
set_option linter.unusedSimpArgs false
set_option maxRecDepth 100000

theorem sized_intH : Sized Tryd.prog 62 3 1 8 := .mk' Tryd.underlying62 (.int .i64 0) (by kernel_rfl)
theorem i16_lt : 36 < Tryd.prog.types.size := by decide +kernel
theorem i16_size : (Tryd.prog.types[36]'i16_lt).size = 1 := by kernel_rfl
/-- The cells of a glyph, as the document has it. -/
abbrev rA (a b c d : Int) (ve vp vs : Value) : Array Value := #[.int .i64 a, .int .i64 b, .int .i64 c, .int .i64 d, ve, vp, vs]
end Go.Proofs.YtiedbfaehndooaaDoor
