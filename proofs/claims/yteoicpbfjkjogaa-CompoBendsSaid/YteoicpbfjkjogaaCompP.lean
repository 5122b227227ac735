/- Layer 13: compo.Same, of a glyph and itself. -/
import Derived.Test.YteoicpbfjkjogaaCompO
namespace Go.Proofs.Yteoicpbfjkjogaa
open Go Go.RowKit
set_option linter.unusedVariables false
set_option linter.unusedSimpArgs false
set_option maxRecDepth 100000

theorem box_eq (a b c d : Int) (w : World) : (Op.equalIn 10000 26 (.agg #[.int .i16 a, .int .i16 b, .int .i16 c, .int .i16 d]) (.agg #[.int .i16 a, .int .i16 b, .int .i16 c, .int .i16 d])).run Try.prog w = .ok true w :=
  arr_self (P := Try.prog) (d := 9998) Try.underlying26 Try.underlying25 (by kernel_rfl) (zs := [a, b, c, d]) rfl w
set_option maxHeartbeats 2000000 in
theorem same_calls13 (w : World) {g : Cg} {vp vg vp' vg' : Value} (hG : CAt w g vp vg) (hG' : CAt w g vp' vg') :
    Calls Try.prog 17 #[.agg (cA g vp vg), .agg (cA g vp' vg')] w (Ret fun r w' => r = .bool true ∧ Below w.heap.size w w') := by
  have hE := hid (fun w' (h : Below w.heap.size w w') => eqParts_calls w' rfl (hG.p.below h) (hG'.p.below h))
  have hP := hid (fun w' (h : Below w.heap.size w w') => bytesEq_calls w' (hG.g.below h) (hG'.g.below h))
  have hq := box_eq g.b0 g.b1 g.b2 g.b3
  obtain ⟨A1, c1, rfl, -⟩ := hG.p
  obtain ⟨A2, c2, rfl, -⟩ := hG.g
  obtain ⟨A4, c4, rfl, -⟩ := hG'.p
  obtain ⟨A5, c5, rfl, -⟩ := hG'.g
  clear hG hG'
  have M0 := hid (Own.start w)
  go_enter Try.func17, Try.ntmps17
  go_wp2_with (first
    | ((with_reducible refine gate (N := 2) rfl ?_); refine wpList_box_Own rfl (cs := cA g (.slice A1 g.parts.length c1) (.slice A2 g.prog.length c2)) (t := 29) (by first | (go_simp; done) | (go_simp; rfl)) M0.out ?_; intro m w1 M; (have M1 := hid M); clear M)
    | ((with_reducible refine gate (N := 3) rfl ?_); refine wpList_box_Own rfl (cs := cA g (.slice A4 g.parts.length c4) (.slice A5 g.prog.length c5)) (t := 29) (by first | (go_simp; done) | (go_simp; rfl)) M1.out ?_; intro p w2 M; obtain ⟨d0, d1, d2, d3⟩ := c_box (m := m) (g := g) (vp := .slice A1 g.parts.length c1) (vg := .slice A2 g.prog.length c2) M (by simp); obtain ⟨d4, -⟩ := c_cells (m := m) (g := g) (vp := .slice A1 g.parts.length c1) (vg := .slice A2 g.prog.length c2) M (by simp); obtain ⟨e0, e1, e2, e3⟩ := c_box (m := p) (g := g) (vp := .slice A4 g.parts.length c4) (vg := .slice A5 g.prog.length c5) M (by simp); obtain ⟨e4, -⟩ := c_cells (m := p) (g := g) (vp := .slice A4 g.parts.length c4) (vg := .slice A5 g.prog.length c5) M (by simp); (have M2 := hid M); clear M)
    | (go_at_call 37; refine (hE.out _ M2.out.below).mono ?_; rintro _ w3 ⟨_, rfl, rfl, hb⟩; (clear d0 d1 d2 d3 d4 e0 e1 e2 e3 e4); ((have M := M2.out.keep hb)); obtain ⟨-, d5⟩ := c_cells (m := m) (g := g) (vp := .slice A1 g.parts.length c1) (vg := .slice A2 g.prog.length c2) M (by simp); obtain ⟨-, e5⟩ := c_cells (m := p) (g := g) (vp := .slice A4 g.parts.length c4) (vg := .slice A5 g.prog.length c5) M (by simp); (have M3 := hid M); clear M)
    | (go_at_call 38; refine (hP.out _ M3.out.below).mono ?_; rintro _ w4 ⟨_, rfl, rfl, hb⟩; (clear d5 e5); ((have M := M3.out.keep hb)); (have M4 := hid M); clear M))
  go_ret
  exact .mk ⟨rfl, M4.out.below⟩
end Go.Proofs.Yteoicpbfjkjogaa
