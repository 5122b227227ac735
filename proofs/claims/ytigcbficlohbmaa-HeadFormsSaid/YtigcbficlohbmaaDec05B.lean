/- Layer 5: a table head as an argument. -/
import Derived.Test.YtigcbficlohbmaaDec05
namespace Go.Proofs.Ytigcbficlohbmaa
open Go Go.RowKit
set_option linter.unusedVariables false
set_option linter.unusedSimpArgs false

theorem list14 {α : Type} {l : List α} (h : l.length = 14) : ∃ a0 a1 a2 a3 a4 a5 a6 a7 a8 a9 a10 a11 a12 a13, l = [a0, a1, a2, a3, a4, a5, a6, a7, a8, a9, a10, a11, a12, a13] := by
  match l, h with
  | [a0, a1, a2, a3, a4, a5, a6, a7, a8, a9, a10, a11, a12, a13], _ => exact ⟨a0, a1, a2, a3, a4, a5, a6, a7, a8, a9, a10, a11, a12, a13, rfl⟩
theorem list4 {α : Type} {l : List α} (h : l.length = 4) : ∃ a b c d, l = [a, b, c, d] := by
  match l, h with
  | [a, b, c, d], _ => exact ⟨a, b, c, d, rfl⟩
abbrev shHead : Sh := .agg 14 (.cons 0 1 (.int .u32) (.cons 1 1 (.int .u32) (.cons 2 1 (.int .u16) (.cons 3 1 (.int .u16) (.cons 4 1 (.int .u64) (.cons 5 1 (.int .u64) (.cons 6 4 (.arr .i16 4) (.cons 10 1 (.int .u16) (.cons 11 1 (.int .u16) (.cons 12 1 (.int .i16) (.cons 13 1 .bool .nil)))))))))))
theorem dec_head {w : World} {cs : Array Value} (h : Dec w shHead cs.toList) : ∃ x : Hd, cs = (hdC x).toArray ∧ x.ok := by
  obtain ⟨hl, ⟨rv, erv, wrv⟩, ⟨adj, eadj, wadj⟩, ⟨fl, efl, wfl⟩, ⟨un, eun, wun⟩, ⟨cr, ecr, wcr⟩, ⟨md, emd, wmd⟩, ⟨zs, ez, hz, wz⟩, ⟨st, est, wst⟩, ⟨lo, elo, wlo⟩, ⟨hi, ehi, whi⟩, ⟨lg, elg⟩, -⟩ := h
  obtain ⟨a0, a1, a2, a3, a4, a5, a6, a7, a8, a9, a10, a11, a12, a13, e⟩ := list14 hl
  rw [e] at erv eadj efl eun ecr emd est elo ehi elg ez
  simp only [List.drop_zero, List.drop_succ_cons, List.take_succ_cons, List.take_zero, List.cons.injEq, and_true] at erv eadj efl eun ecr emd est elo ehi elg
  obtain ⟨b0, b1, b2, b3, rfl⟩ := list4 hz
  simp only [List.drop_zero, List.drop_succ_cons, List.take_succ_cons, List.take_zero, ints, List.map_cons, List.map_nil, List.cons.injEq, and_true] at ez
  obtain ⟨e0, e1, e2, e3⟩ := ez
  subst erv eadj efl eun ecr emd est elo ehi elg e0 e1 e2 e3
  have hb := fun z hz => wf_i16 (wz z hz)
  refine ⟨⟨rv, adj, fl, un, cr, md, b0, b1, b2, b3, st, lo, hi, lg⟩, Array.ext' e, wf_u32 wrv, wf_u32 wadj, wf_u16 wfl, wf_u16 wun, wf_u64 wcr, wf_u64 wmd, hb b0 (by simp), hb b1 (by simp), hb b2 (by simp), hb b3 (by simp), wf_u16 wst, wf_u16 wlo, wf_i16 whi⟩
end Go.Proofs.Ytigcbficlohbmaa
