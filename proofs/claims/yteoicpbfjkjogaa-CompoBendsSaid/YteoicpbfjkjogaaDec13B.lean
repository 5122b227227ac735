/- Layer 13: a glyph of parts as an argument. -/
import Derived.Test.YteoicpbfjkjogaaDec13
import Derived.Test.YteoicpbfjkjogaaCompA
namespace Go.Proofs.Yteoicpbfjkjogaa
open Go Go.RowKit
set_option linter.unusedVariables false
set_option linter.unusedSimpArgs false

abbrev shParts : Sh := .slice 8 (.agg 8 (.cons 0 1 (.int .u16) (.cons 1 1 (.int .u16) (.cons 2 1 (.int .i16) (.cons 3 1 (.int .i16) (.cons 4 4 shMatrix .nil))))))
abbrev shCompo : Sh := .agg 6 (.cons 0 4 (.arr .i16 4) (.cons 4 1 shParts (.cons 5 1 (.slice 1 (.int .u8)) .nil)))
theorem list8 {α : Type} {l : List α} (h : l.length = 8) : ∃ a b c d e f g i, l = [a, b, c, d, e, f, g, i] := by
  match l, h with
  | [a, b, c, d, e, f, g, i], _ => exact ⟨a, b, c, d, e, f, g, i, rfl⟩
theorem list6 {α : Type} {l : List α} (h : l.length = 6) : ∃ a b c d e f, l = [a, b, c, d, e, f] := by
  match l, h with
  | [a, b, c, d, e, f], _ => exact ⟨a, b, c, d, e, f, rfl⟩
theorem list4c {α : Type} {l : List α} (h : l.length = 4) : ∃ a b c d, l = [a, b, c, d] := by
  match l, h with
  | [a, b, c, d], _ => exact ⟨a, b, c, d, rfl⟩
theorem dec_parts {w : World} {V : Value} (h : Dec w shParts [V]) : ∃ ps : List Pt, SliceAt w w.heap.size 8 V ps.length (ptC ps) ∧ ∀ p ∈ ps, p.Ok := by
  obtain ⟨v, n, xs, e, hs, hd⟩ := h
  simp only [List.cons.injEq, and_true] at e
  subst e
  obtain ⟨bs, h1, h2, h3⟩ := chunks ptF (fun p => p.Ok) 8 n xs hs.len fun i hi => by
    obtain ⟨hl, ⟨f, e0, wf⟩, ⟨g, e1, wg⟩, ⟨x, e2, wx⟩, ⟨y, e3, wy⟩, hm, -⟩ := hd i hi
    obtain ⟨a, b, c, d, e4, wa, wb, wc, wd⟩ := dec_matrix' hm
    obtain ⟨z0, z1, z2, z3, z4, z5, z6, z7, e⟩ := list8 hl
    rw [e] at e0 e1 e2 e3 e4
    simp only [List.drop_zero, List.drop_succ_cons, List.take_succ_cons, List.take_zero, List.cons.injEq, and_true] at e0 e1 e2 e3 e4
    obtain ⟨e4, e5, e6, e7⟩ := e4
    subst e0 e1 e2 e3 e4 e5 e6 e7
    exact ⟨⟨f, g, x, y, a, b, c, d⟩, e, wf_u16 wf, wf_u16 wg, wf_i16 wx, wf_i16 wy, wa, wb, wc, wd⟩
  subst h1
  exact ⟨bs, by unfold ptC; rw [← h2]; exact hs, h3⟩
theorem dec_compo {w : World} {cs : Array Value} (h : Dec w shCompo cs.toList) : ∃ (g : Cg) (vp vg : Value), cs = cA g vp vg ∧ g.Ok ∧ CAt w g vp vg := by
  obtain ⟨hl, ⟨zs, e0, hz, wz⟩, h1, h2, -⟩ := h
  obtain ⟨c0, c1, c2, c3, vp, vg, hc⟩ := list6 hl
  obtain ⟨a, b, c, d, rfl⟩ := list4c hz
  rw [hc] at e0 h1 h2
  have e0' : [c0, c1, c2, c3] = [Value.int .i16 a, .int .i16 b, .int .i16 c, .int .i16 d] := e0
  simp only [List.cons.injEq, and_true] at e0'
  obtain ⟨rfl, rfl, rfl, rfl⟩ := e0'
  have h1' : Dec w shParts [vp] := h1
  have h2' : Dec w (.slice 1 (.int .u8)) [vg] := h2
  obtain ⟨ps, s1, w1⟩ := dec_parts h1'
  obtain ⟨pr, s2, w2⟩ := arg_ints h2'
  refine ⟨⟨a, b, c, d, ps, pr⟩, vp, vg, Array.ext' hc, ⟨wf_i16 (wz a (by simp)), wf_i16 (wz b (by simp)), wf_i16 (wz c (by simp)), wf_i16 (wz d (by simp)), w1, fun x hx => wf_u8 (w2 x hx)⟩, ⟨s1, s2⟩⟩
end Go.Proofs.Yteoicpbfjkjogaa
