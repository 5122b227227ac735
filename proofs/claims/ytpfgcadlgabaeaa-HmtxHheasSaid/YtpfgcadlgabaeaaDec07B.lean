/- Layer 7: the table hhea as an argument. -/
import Derived.Test.YtpfgcadlgabaeaaOpen
import Derived.Test.YtpfgcadlgabaeaaHheaA
namespace Go.Proofs.Ytpfgcadlgabaeaa
open Go Go.RowKit
set_option linter.unusedVariables false
set_option linter.unusedSimpArgs false

abbrev shHhea : Sh := .agg 17 (.cons 0 16 (.arr .u16 16) (.cons 16 1 (.int .u16) .nil))
theorem dec_hhea {w : World} {cs : Array Value} (h : Dec w shHhea cs.toList) : ∃ hs : List Int, cs = (ints .u16 hs).toArray ∧ hs.length = 17 ∧ U16s hs := by
  obtain ⟨hl, ⟨fr, e1, hr, wr⟩, ⟨g, e0, wg⟩, -⟩ := h
  have hg := wf_u16 wg
  refine ⟨fr ++ [g], ?_, by simp [hr], fun x hx => ?_⟩
  · apply Array.ext'
    have : cs.toList = (cs.toList.drop 0).take 16 ++ (cs.toList.drop 16).take 1 := by
      rw [List.drop_zero, List.take_of_length_le (l := cs.toList.drop 16) (by rw [List.length_drop, hl]; omega), List.take_append_drop]
    rw [this, e1, e0]
    simp [ints]
  · rcases List.mem_append.1 hx with hx | hx
    · exact wf_u16 (wr x hx)
    · simp at hx; subst hx; exact hg
end Go.Proofs.Ytpfgcadlgabaeaa
