/- Layer 4: points, matrices and lists of points as arguments. -/
import Derived.Test.YtiedbfaehndooaaDoorBaseM
namespace Go.Proofs.YtiedbfaehndooaaDoor
open Go Go.RowKit
set_option linter.unusedVariables false
set_option linter.unusedSimpArgs false

abbrev shPoint : Sh := .agg 3 (.cons 0 1 (.int .i64) (.cons 1 1 (.int .i64) (.cons 2 1 .bool .nil)))
abbrev shMatrix : Sh := .agg 4 (.cons 0 1 (.int .i16) (.cons 1 1 (.int .i16) (.cons 2 1 (.int .i16) (.cons 3 1 (.int .i16) .nil))))
theorem dec_point' {w : World} {l : List Value} (h : Dec w shPoint l) : ∃ (x y : Int) (on : Bool), l = [.int .i64 x, .int .i64 y, .bool on] ∧ (Lit.int .i64 x).wf = true ∧ (Lit.int .i64 y).wf = true := by
  obtain ⟨hl, ⟨x, e0, wx⟩, ⟨y, e1, wy⟩, ⟨on, e2⟩, -⟩ := h
  match l, hl with
  | [a, b, c], _ =>
    simp at e0 e1 e2
    subst e0; subst e1; subst e2
    exact ⟨x, y, on, rfl, wx, wy⟩
theorem dec_matrix' {w : World} {l : List Value} (h : Dec w shMatrix l) : ∃ a b c d : Int, l = [.int .i16 a, .int .i16 b, .int .i16 c, .int .i16 d] ∧ (-32768 ≤ a ∧ a < 32768) ∧ (-32768 ≤ b ∧ b < 32768) ∧ (-32768 ≤ c ∧ c < 32768) ∧ (-32768 ≤ d ∧ d < 32768) := by
  obtain ⟨hl, ⟨a, e0, wa⟩, ⟨b, e1, wb⟩, ⟨c, e2, wc⟩, ⟨d, e3, wd⟩, -⟩ := h
  match l, hl with
  | [p, q, r, s], _ =>
    simp at e0 e1 e2 e3
    subst e0; subst e1; subst e2; subst e3
    exact ⟨a, b, c, d, rfl, wf_i16 wa, wf_i16 wb, wf_i16 wc, wf_i16 wd⟩
theorem dec_point {w : World} {cs : Array Value} (h : Dec w shPoint cs.toList) : ∃ (x y : Int) (on : Bool), cs = #[.int .i64 x, .int .i64 y, .bool on] := by
  obtain ⟨x, y, on, e, -⟩ := dec_point' h
  exact ⟨x, y, on, by rw [← Array.toArray_toList (xs := cs), e]⟩
theorem dec_matrix {w : World} {cs : Array Value} (h : Dec w shMatrix cs.toList) : ∃ a b c d : Int, cs = #[.int .i16 a, .int .i16 b, .int .i16 c, .int .i16 d] ∧ (-32768 ≤ a ∧ a < 32768) ∧ (-32768 ≤ b ∧ b < 32768) ∧ (-32768 ≤ c ∧ c < 32768) ∧ (-32768 ≤ d ∧ d < 32768) := by
  obtain ⟨a, b, c, d, e, r⟩ := dec_matrix' h
  exact ⟨a, b, c, d, by rw [← Array.toArray_toList (xs := cs), e], r⟩
/-- A point's cells. -/
def ptC (p : Int × Int × Bool) : List Value := [.int .i64 p.1, .int .i64 p.2.1, .bool p.2.2]
theorem dec_points {w : World} {v : Value} (h : Dec w (.slice 3 shPoint) [v]) : ∃ ps : List (Int × Int × Bool), SliceAt w w.heap.size 3 v ps.length (ps.flatMap ptC) := by
  obtain ⟨u, n, xs, hc, hs, he⟩ := h
  obtain rfl : v = u := by simpa using hc
  obtain ⟨ps, z1, z2, -⟩ := chunks ptC (fun _ => True) 3 n xs hs.len (fun i hi => by
    obtain ⟨x, y, on, e, -⟩ := dec_point' (he i hi)
    exact ⟨(x, y, on), e, trivial⟩)
  subst z1; subst z2
  exact ⟨ps, hs⟩
end Go.Proofs.YtiedbfaehndooaaDoor
