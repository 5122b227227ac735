/- Layer 6: a table maxp as an argument; and what its bytes are read as. -/
import Derived.Test.YtfdjgangahlepaaOpen
import Derived.Test.YtfdjgangahlepaaMaxpB
namespace Go.Proofs.Ytfdjgangahlepaa
open Go Go.RowKit
set_option linter.unusedVariables false
set_option linter.unusedSimpArgs false

abbrev shMaxp : Sh := .agg 14 (.cons 0 1 (.int .u16) (.cons 1 13 (.arr .u16 13) .nil))
theorem dec_maxp {w : World} {cs : Array Value} (h : Dec w shMaxp cs.toList) : ∃ (g : Int) (rest : List Int), cs = (.int .u16 g :: ints .u16 rest).toArray ∧ rest.length = 13 ∧ 0 ≤ g ∧ g < 65536 ∧ U16s rest := by
  obtain ⟨hl, ⟨g, e0, wg⟩, ⟨rest, e1, hr, wr⟩, -⟩ := h
  have hg := wf_u16 wg
  refine ⟨g, rest, ?_, hr, hg.1, hg.2, fun x hx => wf_u16 (wr x hx)⟩
  apply Array.ext'
  have : cs.toList = cs.toList.take 1 ++ (cs.toList.drop 1).take 13 := by
    rw [List.take_of_length_le (l := cs.toList.drop 1) (by rw [List.length_drop, hl]; omega), List.take_append_drop]
  rw [this, e1]
  simp only [List.drop_zero] at e0
  rw [e0]
  rfl
theorem mxB_split (g : Int) (rest : List Int) : mxB g rest = (b4 65536 ++ b2 g) ++ (rest.flatMap b2 ++ []) := by simp [mxB]
theorem mxB_n4 (g : Int) (rest : List Int) : n4 (mxB g rest) 0 = 65536 := n4_app (p := []) rfl (by omega) (by omega)
theorem mxB_n2 {g : Int} (rest : List Int) (g0 : 0 ≤ g) (g1 : g < 65536) : n2 (mxB g rest) 4 = g := n2_app (p := b4 65536) (by simp [b4_length]) g0 g1
theorem mxB_u16s (g : Int) {rest : List Int} (hr : rest.length = 13) (hR : U16s rest) : u16s (mxB g rest) 6 13 = rest := by
  rw [mxB_split, ← hr]
  exact u16s_app (by simp [b4_length, b2_length]) rest hR
theorem mxOk_mxB {g : Int} {rest : List Int} (g0 : 0 < g) (g1 : g < 65536) (hr : rest.length = 13) : mxOk (mxB g rest) = true := by
  unfold mxOk
  rw [mxB_length, mxB_n4, mxB_n2 rest (by omega) g1, hr]
  have : (g == 0) = false := by simp; omega
  simp [this]
theorem mxOf_mxB {g : Int} {rest : List Int} (g0 : 0 < g) (g1 : g < 65536) (hr : rest.length = 13) (hR : U16s rest) : mxOf (mxB g rest) = .int .u16 g :: ints .u16 rest := by
  unfold mxOf
  rw [if_pos (mxOk_mxB g0 g1 hr), mxB_n2 rest (by omega) g1, mxB_u16s g hr hR]
theorem mxB_of {l : List Int} (hB : Bytes l) (h : mxOk l = true) : mxB (n2 l 4) (u16s l 6 13) = l := by
  simp only [mxOk, Bool.and_eq_true, beq_iff_eq] at h
  obtain ⟨h1, h2, -⟩ := h
  unfold mxB
  rw [← h2, b4_n4 hB (by omega), b2_n2 hB (by omega), flat_u16s hB 6 13 (by omega)]
  rw [List.drop_zero]
  have e1 : (l.drop 4).take 2 ++ (l.drop 6).take (2 * 13) = (l.drop 4).take 28 := by rw [show (28 : Nat) = 2 + 26 from rfl, List.take_add, List.drop_drop]
  rw [e1, List.take_of_length_le (l := l.drop 4) (by simp; omega), List.take_append_drop]
theorem mxOk_bounds {l : List Int} (hB : Bytes l) (h : mxOk l = true) : 0 < n2 l 4 ∧ n2 l 4 < 65536 ∧ U16s (u16s l 6 13) ∧ l.length = 32 := by
  simp only [mxOk, Bool.and_eq_true, beq_iff_eq, Bool.not_eq_true', beq_eq_false_iff_ne] at h
  obtain ⟨h1, -, h3⟩ := h
  have := n2_bound hB 4
  refine ⟨by omega, this.2, fun x hx => ?_, h1⟩
  obtain ⟨i, -, rfl⟩ := List.mem_map.1 hx
  exact n2_bound hB _
end Go.Proofs.Ytfdjgangahlepaa
