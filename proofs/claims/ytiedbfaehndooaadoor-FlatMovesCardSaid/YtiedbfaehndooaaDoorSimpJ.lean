/- Package simple: Same; the document's Right. -/
import Derived.Test.YtiedbfaehndooaaDoorSimpI
namespace Go.Proofs.YtiedbfaehndooaaDoor
open Go Go.RowKit
set_option linter.unusedVariables false
set_option linter.unusedSimpArgs false
set_option maxRecDepth 100000

theorem box_eq (a b c d : Int) (w : World) : (Op.equalIn 10000 37 (.agg #[.int .i16 a, .int .i16 b, .int .i16 c, .int .i16 d]) (.agg #[.int .i16 a, .int .i16 b, .int .i16 c, .int .i16 d])).run Tryd.prog w = .ok true w :=
  arr_self (P := Tryd.prog) (d := 9998) Tryd.underlying37 Tryd.underlying36 (by kernel_rfl) (zs := [a, b, c, d]) rfl w
end Go.Proofs.YtiedbfaehndooaaDoor
