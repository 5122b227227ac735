/- The document's number of a flag. -/
import Derived.Test.YtmmepjcndofnbaaSimpN
import Derived.Test.YtmmepjcndofnbaaRefC
namespace Go.Proofs.Ytmmepjcndofnbaa
open Go Go.RowKit
set_option linter.unusedVariables false
set_option linter.unusedSimpArgs false
set_option maxRecDepth 100000

/-- Are the bytes there? -/
def nbOk (l : List Int) (a : Nat) (f sh sa : Int) : Bool := if bitB f sh then decide (a < l.length) else if bitB f sa then true else decide (a + 2 ≤ l.length)
/-- What is told. -/
def nbV (l : List Int) (a : Nat) (f sh sa : Int) : Int := if bitB f sh then (if bitB f sa then l.getD a 0 else - l.getD a 0) else if bitB f sa then 0 else sgn (n2 l a)
def NumP (l : List Int) (a : Nat) (f sh sa : Int) (r : Value) : Prop :=
  ∃ n k : Int, r = .tuple #[.int .i64 n, .int .i64 k, .bool (nbOk l a f sh sa)] ∧ -32768 ≤ n ∧ n < 65536 ∧ 0 ≤ k ∧ k ≤ 2 ∧ (nbOk l a f sh sa = true → n = nbV l a f sh sa ∧ k = chW f sh sa)
end Go.Proofs.Ytmmepjcndofnbaa
