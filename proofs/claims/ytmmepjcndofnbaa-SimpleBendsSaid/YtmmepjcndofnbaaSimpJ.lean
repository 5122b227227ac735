/- Package simple: Same; the document's Right. -/
import Derived.Test.YtmmepjcndofnbaaSimpI
namespace Go.Proofs.Ytmmepjcndofnbaa
open Go Go.RowKit
set_option linter.unusedVariables false
set_option linter.unusedSimpArgs false
set_option maxRecDepth 100000

theorem box_eq (a b c d : Int) (w : World) : (Op.equalIn 10000 26 (.agg #[.int .i16 a, .int .i16 b, .int .i16 c, .int .i16 d]) (.agg #[.int .i16 a, .int .i16 b, .int .i16 c, .int .i16 d])).run Try.prog w = .ok true w :=
  arr_self (P := Try.prog) (d := 9998) Try.underlying26 Try.underlying25 (by kernel_rfl) (zs := [a, b, c, d]) rfl w
set_option maxHeartbeats 2000000 in
theorem same_calls12 (w : World) {g : Sg} {ve vp vs ve' vp' vs' : Value} (hG : GAt w g ve vp vs) (hG' : GAt w g ve' vp' vs') :
    Calls Try.prog 17 #[.agg (gA g ve vp vs), .agg (gA g ve' vp' vs')] w (Ret fun r w' => r = .bool true ∧ Below w.heap.size w w') := by
  have hE := hid (fun w' (h : Below w.heap.size w w') => eqU16s_calls w' rfl (hG.e.below h) (hG'.e.below h))
  have hP := hid (fun w' (h : Below w.heap.size w w') => bytesEq_calls w' (hG.p.below h) (hG'.p.below h))
  have hS := hid (fun w' (h : Below w.heap.size w w') => eqSpots_calls w' rfl (hG.s.below h) (hG'.s.below h))
  have hq := box_eq g.b0 g.b1 g.b2 g.b3
  obtain ⟨A1, c1, rfl, -⟩ := hG.e
  obtain ⟨A2, c2, rfl, -⟩ := hG.p
  obtain ⟨A3, c3, rfl, -⟩ := hG.s
  obtain ⟨A4, c4, rfl, -⟩ := hG'.e
  obtain ⟨A5, c5, rfl, -⟩ := hG'.p
  obtain ⟨A6, c6, rfl, -⟩ := hG'.s
  clear hG hG'
  have M0 := hid (Own.start w)
  go_enter Try.func17, Try.ntmps17
  go_wp2_with (first
    | ((with_reducible refine gate (N := 2) rfl ?_); refine wpList_box_Own rfl (cs := gA g (.slice A1 g.ends.length c1) (.slice A2 g.prog.length c2) (.slice A3 g.pts.length c3)) (t := 29) (by first | (go_simp; done) | (go_simp; rfl)) M0.out ?_; intro m w1 M; (have M1 := hid M); clear M)
    | ((with_reducible refine gate (N := 3) rfl ?_); refine wpList_box_Own rfl (cs := gA g (.slice A4 g.ends.length c4) (.slice A5 g.prog.length c5) (.slice A6 g.pts.length c6)) (t := 29) (by first | (go_simp; done) | (go_simp; rfl)) M1.out ?_; intro p w2 M; obtain ⟨⟨d0, d1, d2, d3, d4, d5, d6⟩, -⟩ := g7 (m := m) (g := g) (ve := .slice A1 g.ends.length c1) (vp := .slice A2 g.prog.length c2) (vs := .slice A3 g.pts.length c3) M (by simp); obtain ⟨⟨e0, e1, e2, e3, e4, e5, e6⟩, -⟩ := g7 (m := p) (g := g) (ve := .slice A4 g.ends.length c4) (vp := .slice A5 g.prog.length c5) (vs := .slice A6 g.pts.length c6) M (by simp); (have M2 := hid M); clear M)
    | (go_at_call 32; refine (hE.out _ M2.out.below).mono ?_; rintro _ w3 ⟨_, rfl, rfl, hb⟩; (clear d0 d1 d2 d3 d4 d5 d6 e0 e1 e2 e3 e4 e5 e6); ((have M := M2.out.keep hb)); obtain ⟨⟨-, -, -, -, -, d5, -⟩, -⟩ := g7 (m := m) (g := g) (ve := .slice A1 g.ends.length c1) (vp := .slice A2 g.prog.length c2) (vs := .slice A3 g.pts.length c3) M (by simp); obtain ⟨⟨-, -, -, -, -, e5, -⟩, -⟩ := g7 (m := p) (g := g) (ve := .slice A4 g.ends.length c4) (vp := .slice A5 g.prog.length c5) (vs := .slice A6 g.pts.length c6) M (by simp); (have M3 := hid M); clear M)
    | (go_at_call 33; refine (hP.out _ M3.out.below).mono ?_; rintro _ w4 ⟨_, rfl, rfl, hb⟩; (clear d5 e5); ((have M := M3.out.keep hb)); obtain ⟨⟨-, -, -, -, -, -, d6⟩, -⟩ := g7 (m := m) (g := g) (ve := .slice A1 g.ends.length c1) (vp := .slice A2 g.prog.length c2) (vs := .slice A3 g.pts.length c3) M (by simp); obtain ⟨⟨-, -, -, -, -, -, e6⟩, -⟩ := g7 (m := p) (g := g) (ve := .slice A4 g.ends.length c4) (vp := .slice A5 g.prog.length c5) (vs := .slice A6 g.pts.length c6) M (by simp); (have M4 := hid M); clear M)
    | (go_at_call 34; refine (hS.out _ M4.out.below).mono ?_; rintro _ w5 ⟨_, rfl, rfl, hb⟩; (clear d6 e6); ((have M := M4.out.keep hb)); (have M5 := hid M); clear M))
  go_ret
  exact .mk ⟨rfl, M5.out.below⟩

theorem within_calls (w : World) (n : Int) : Calls Try.prog 25 #[.int .i64 n] w (Ret fun r w' => r = .bool (fitB n) ∧ w = w') := by
  have hq : (decide (n ≥ -32768) = false ∧ fitB n = false) ∨ (decide (n ≥ -32768) = true ∧ (decide (n ≤ 32767) = false ∧ fitB n = false ∨ decide (n ≤ 32767) = true ∧ fitB n = true)) := by
    unfold fitB
    by_cases h1 : n ≥ -32768 <;> by_cases h2 : n ≤ 32767 <;> simp [h1, h2] <;> omega
  generalize fitB n = ok at *
  rcases hq with ⟨q1, q⟩ | ⟨q1, ⟨q2, q⟩ | ⟨q2, q⟩⟩
  all_goals
    subst q
    go_enter Try.func25, Try.ntmps25
    go_wp2
    go_ret
    exact .mk ⟨rfl, rfl⟩
end Go.Proofs.Ytmmepjcndofnbaa
