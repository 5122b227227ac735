/- Layer 13: the document's glyph that bytes begin with, in parts. -/
import Derived.Test.YteoicpbfjkjogaaCompVb
import Derived.Test.YteoicpbfjkjogaaCompVc
import Derived.Deep.DeepCutAuto
namespace Go.Proofs.Yteoicpbfjkjogaa
open Go Go.RowKit
set_option linter.unusedVariables false
set_option linter.unusedSimpArgs false
set_option maxRecDepth 1000000

theorem refParse_calls13 (w : World) {V : Value} {l : List Int} (h1 : BytesAt w V l) (hB : Bytes l) (hn : l.length ≤ 140737488355328) :
    Calls Try.prog 24 #[V] w (Ret fun r w' => RefParseP w l r w') :=
  refParse_cut.main ⟨refParse_tail⟩ ⟨refParse_round⟩ w h1 hB hn
end Go.Proofs.Yteoicpbfjkjogaa
