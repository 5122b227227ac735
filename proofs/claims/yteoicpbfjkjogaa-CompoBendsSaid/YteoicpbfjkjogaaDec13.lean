/- Layer 13: a matrix as argument. -/
import Derived.Test.YteoicpbfjkjogaaOpen
namespace Go.Proofs.Yteoicpbfjkjogaa
open Go Go.RowKit
set_option linter.unusedVariables false
set_option linter.unusedSimpArgs false

abbrev shMatrix : Sh := .agg 4 (.cons 0 1 (.int .i16) (.cons 1 1 (.int .i16) (.cons 2 1 (.int .i16) (.cons 3 1 (.int .i16) .nil))))
theorem dec_matrix' {w : World} {l : List Value} (h : Dec w shMatrix l) : ∃ a b c d : Int, l = [.int .i16 a, .int .i16 b, .int .i16 c, .int .i16 d] ∧ (-32768 ≤ a ∧ a < 32768) ∧ (-32768 ≤ b ∧ b < 32768) ∧ (-32768 ≤ c ∧ c < 32768) ∧ (-32768 ≤ d ∧ d < 32768) := by
  obtain ⟨hl, ⟨a, e0, wa⟩, ⟨b, e1, wb⟩, ⟨c, e2, wc⟩, ⟨d, e3, wd⟩, -⟩ := h
  match l, hl with
  | [p, q, r, s], _ =>
    simp at e0 e1 e2 e3
    subst e0; subst e1; subst e2; subst e3
    exact ⟨a, b, c, d, rfl, wf_i16 wa, wf_i16 wb, wf_i16 wc, wf_i16 wd⟩
theorem dec_matrix {w : World} {cs : Array Value} (h : Dec w shMatrix cs.toList) : ∃ a b c d : Int, cs = #[.int .i16 a, .int .i16 b, .int .i16 c, .int .i16 d] ∧ (-32768 ≤ a ∧ a < 32768) ∧ (-32768 ≤ b ∧ b < 32768) ∧ (-32768 ≤ c ∧ c < 32768) ∧ (-32768 ≤ d ∧ d < 32768) := by
  obtain ⟨a, b, c, d, e, r⟩ := dec_matrix' h
  exact ⟨a, b, c, d, by rw [← Array.toArray_toList (xs := cs), e], r⟩
end Go.Proofs.Yteoicpbfjkjogaa
