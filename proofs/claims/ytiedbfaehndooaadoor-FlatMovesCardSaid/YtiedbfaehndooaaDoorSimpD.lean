/- Layer 12: the document's example; a glyph of points that is cut into contours. -/
import Derived.Test.YtiedbfaehndooaaDoorSimpC
import Derived.Test.YtiedbfaehndooaaDoorBaseM
namespace Go.Proofs.YtiedbfaehndooaaDoor
open Go Go.RowKit
set_option linter.unusedVariables false
set_option linter.unusedSimpArgs false
set_option maxRecDepth 100000

theorem sized_u16 : Sized Tryd.prog 50 34 1 2 := .mk' Tryd.underlying50 (.int .u16 0) (by kernel_rfl)
theorem sized_spot : Sized Tryd.prog 49 55 3 6 := .mk' Tryd.underlying49 (.agg #[.int .i16 0, .int .i16 0, .bool false]) (by kernel_rfl)

abbrev gEx : Sg := ⟨0, 0, 0, 0, [0], [], [(1, -1, true)]⟩
theorem gEx_ok : gEx.Ok := ⟨by decide, by decide, by decide, by decide, by decide, bytes_nil, by decide⟩
theorem gEx_r : sgR gEx = true := by decide
theorem gEx_b : sgB gEx = [0, 1, 0, 0, 0, 0, 0, 0, 0, 0, 0, 0, 0, 0, 23, 1, 1] := by decide
theorem BytesAt.tail {w : World} {A : Option Addr} {n c i : Nat} {l : List Int} (h : SliceAt w w.heap.size 1 (.slice A n c) n (ints .u8 l)) (hi : i < n) : ∃ ad, A = some ad ∧ SliceAt w w.heap.size 1 (.slice (some (ad.add i)) (n - i) (c - i)) (n - i) (ints .u8 (l.drop i)) := by
  obtain ⟨A', c', he, hnc, hcm, hA, hr⟩ := h
  injection he with he1 he2 he3
  subst he1; subst he3
  obtain ⟨ad, rfl, hb, -⟩ := hr.2 (by omega)
  refine ⟨ad, rfl, some (ad.add i), c - i, rfl, by omega, by omega, (by intro h; cases h), ?_⟩
  have := hr.tail (i := i) (by omega) hnc
  rwa [if_neg (by omega)] at this

end Go.Proofs.YtiedbfaehndooaaDoor
