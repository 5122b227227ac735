/- Layer 12: an outline as an argument. -/
import Derived.Test.YtmmepjcndofnbaaDec12
namespace Go.Proofs.Ytmmepjcndofnbaa
open Go Go.RowKit
set_option linter.unusedVariables false
set_option linter.unusedSimpArgs false

abbrev shGlyph : Sh := .agg 7 (.cons 0 4 (.arr .i16 4) (.cons 4 1 (.slice 1 (.int .u16)) (.cons 5 1 (.slice 1 (.int .u8)) (.cons 6 1 shSpots .nil))))
theorem list7 {α : Type} {l : List α} (h : l.length = 7) : ∃ a b c d e f g, l = [a, b, c, d, e, f, g] := by
  match l, h with
  | [a, b, c, d, e, f, g], _ => exact ⟨a, b, c, d, e, f, g, rfl⟩
theorem list4 {α : Type} {l : List α} (h : l.length = 4) : ∃ a b c d, l = [a, b, c, d] := by
  match l, h with
  | [a, b, c, d], _ => exact ⟨a, b, c, d, rfl⟩
theorem dec_glyph {w : World} {cs : Array Value} (h : Dec w shGlyph cs.toList) : ∃ (g : Sg) (ve vp vs : Value), cs = gA g ve vp vs ∧ g.Ok ∧ GAt w g ve vp vs := by
  obtain ⟨hl, ⟨zs, e0, hz, wz⟩, h1, h2, h3, -⟩ := h
  obtain ⟨c0, c1, c2, c3, ve, vp, vs, hc⟩ := list7 hl
  obtain ⟨a, b, c, d, rfl⟩ := list4 hz
  rw [hc] at e0 h1 h2 h3
  have e0' : [c0, c1, c2, c3] = [Value.int .i16 a, .int .i16 b, .int .i16 c, .int .i16 d] := e0
  simp only [List.cons.injEq, and_true] at e0'
  obtain ⟨rfl, rfl, rfl, rfl⟩ := e0'
  have h1' : Dec w (.slice 1 (.int .u16)) [ve] := h1
  have h2' : Dec w (.slice 1 (.int .u8)) [vp] := h2
  have h3' : Dec w shSpots [vs] := h3
  obtain ⟨es, s1, w1⟩ := arg_ints h1'
  obtain ⟨pr, s2, w2⟩ := arg_ints h2'
  obtain ⟨ps, s3, w3⟩ := dec_spots h3'
  refine ⟨⟨a, b, c, d, es, pr, ps⟩, ve, vp, vs, Array.ext' hc, ⟨wf_i16 (wz a (by simp)), wf_i16 (wz b (by simp)), wf_i16 (wz c (by simp)), wf_i16 (wz d (by simp)), fun x hx => wf_u16 (w1 x hx), fun x hx => wf_u8 (w2 x hx), w3⟩, ⟨s1, s2, s3⟩⟩
end Go.Proofs.Ytmmepjcndofnbaa
