/- Layer 13: the document's Same of equals; its Parse by its two ends. -/
import Derived.Test.YteoicpbfjkjogaaCompV
import Derived.Test.YteoicpbfjkjogaaCompP
import Derived.Test.YteoicpbfjkjogaaCompQ
namespace Go.Proofs.Yteoicpbfjkjogaa
open Go Go.RowKit
set_option linter.unusedVariables false
set_option linter.unusedSimpArgs false
set_option maxRecDepth 100000

theorem i4_self (a b c d : Int) (w : World) (k : Nat) : (Op.equalIn (k + 2) 49 (.agg #[.int .i64 a, .int .i64 b, .int .i64 c, .int .i64 d]) (.agg #[.int .i64 a, .int .i64 b, .int .i64 c, .int .i64 d])).run Try.prog w = .ok true w :=
  arr_self (P := Try.prog) (d := k) Try.underlying49 Try.underlying3 (by kernel_rfl) (zs := [a, b, c, d]) rfl w
theorem dt_eq (p : Pt) (w : World) : (Op.equalIn 10000 82 (.agg (dtA p)) (.agg (dtA p))).run Try.prog w = .ok true w := by
  obtain ⟨f, g, x, y, a, b, c, d⟩ := p
  have i2 : (Try.prog.info? 3).map (·.size) = some 1 := by kernel_rfl
  have p0 : (part 3 #[.int .i64 f, .int .i64 g, .int .i64 x, .int .i64 y, .int .i64 a, .int .i64 b, .int .i64 c, .int .i64 d] 0).run Try.prog w = .ok (.int .i64 f) w := run_part_one Try.underlying3 i2 rfl w
  have p1 : (part 3 #[.int .i64 f, .int .i64 g, .int .i64 x, .int .i64 y, .int .i64 a, .int .i64 b, .int .i64 c, .int .i64 d] 1).run Try.prog w = .ok (.int .i64 g) w := run_part_one Try.underlying3 i2 rfl w
  have p2 : (part 3 #[.int .i64 f, .int .i64 g, .int .i64 x, .int .i64 y, .int .i64 a, .int .i64 b, .int .i64 c, .int .i64 d] 2).run Try.prog w = .ok (.int .i64 x) w := run_part_one Try.underlying3 i2 rfl w
  have p3 : (part 3 #[.int .i64 f, .int .i64 g, .int .i64 x, .int .i64 y, .int .i64 a, .int .i64 b, .int .i64 c, .int .i64 d] 3).run Try.prog w = .ok (.int .i64 y) w := run_part_one Try.underlying3 i2 rfl w
  have p4 : (part 49 #[.int .i64 f, .int .i64 g, .int .i64 x, .int .i64 y, .int .i64 a, .int .i64 b, .int .i64 c, .int .i64 d] 4).run Try.prog w = .ok (.agg #[.int .i64 a, .int .i64 b, .int .i64 c, .int .i64 d]) w := by kernel_rfl
  have h0 := int_self (P := Try.prog) Try.underlying3 9998 f w
  have h1 := int_self (P := Try.prog) Try.underlying3 9998 g w
  have h2 := int_self (P := Try.prog) Try.underlying3 9998 x w
  have h3 := int_self (P := Try.prog) Try.underlying3 9998 y w
  have h4 := i4_self a b c d w 9997
  rw [show (10000 : Nat) = 9999 + 1 from rfl, run_equalIn_struct (P := Try.prog) w 9999 82 _ _ (by kernel_rfl) (by kernel_rfl)]
  simp [Program.fieldsOf, Try.underlying82, Op.eqFields, Sem.run_bind, p0, p1, p2, p3, p4, h0, h1, h2, h3, h4]
set_option maxHeartbeats 4000000 in
theorem refSame_calls (w : World) {g : Cg} {vp vg vp' vg' : Value} (h1 : DAt w g vp vg) (h2 : DAt w g vp' vg') :
    Calls Try.prog 25 #[.agg (dA g vp vg), .agg (dA g vp' vg')] w (Ret fun r w' => r = .bool true ∧ Below w.heap.size w w') := by
  have hP := hid (fun w' (h : Below w.heap.size w w') => same_true w' (h1.g.below h) (h2.g.below h))
  have hq := i4_self g.b0 g.b1 g.b2 g.b3 w 9998
  obtain ⟨⟨A1, c1, rfl, hc1, hm1, -, hr1⟩, ⟨A2, c2, rfl, -⟩⟩ := h1
  obtain ⟨⟨A4, c4, rfl, hc4, hm4, -, hr4⟩, ⟨A5, c5, rfl, -⟩⟩ := h2
  unfold maxLen at hm1 hm4
  obtain ⟨np, hnp⟩ : ∃ n, g.parts.length = n := ⟨_, rfl⟩
  obtain ⟨ng, hng⟩ : ∃ n, g.prog.length = n := ⟨_, rfl⟩
  rw [hnp] at hr1 hc1 hr4 hc4
  rw [hng] at hP
  have hEA := hid (fun ad (e : A1 = some ad) w' hb i hi => dpart_at (w' := w') (i := i) hnp (e ▸ hr1) hb hi)
  have hEB := hid (fun ad (e : A4 = some ad) w' hb i hi => dpart_at (w' := w') (i := i) hnp (e ▸ hr4) hb hi)
  have heA := hid (fun (h : 0 < np) => show ∃ ad, A1 = some ad by obtain ⟨ad, e, -⟩ := hr1.2 h; exact ⟨ad, e⟩)
  have heB := hid (fun (h : 0 < np) => show ∃ ad, A4 = some ad by obtain ⟨ad, e, -⟩ := hr4.2 h; exact ⟨ad, e⟩)
  simp only [dA, hnp, hng]
  clear hr1 hr4 hnp hng hq
  have hq := fun w => i4_self g.b0 g.b1 g.b2 g.b3 w 9998
  have M0 := hid (Own.start w)
  go_enter Try.func25, Try.ntmps25
  go_wp2_with (first
    | ((with_reducible refine gate (N := 2) rfl ?_); refine wpList_box_Own rfl (cs := dA g (.slice A1 np c1) (.slice A2 ng c2)) (t := 52) (by first | (go_simp; done) | (go_simp; rfl)) M0.out ?_; intro m w1 M; (have M1 := hid M); clear M)
    | ((with_reducible refine gate (N := 3) rfl ?_); refine wpList_box_Own rfl (cs := dA g (.slice A4 np c4) (.slice A5 ng c5)) (t := 52) (by first | (go_simp; done) | (go_simp; rfl)) M1.out ?_; intro p w2 M; obtain ⟨d0, d1, d2, d3⟩ := d_box (m := m) (g := g) (vp := .slice A1 np c1) (vg := .slice A2 ng c2) M (by simp); obtain ⟨d4, d5⟩ := d_cells (m := m) (g := g) (vp := .slice A1 np c1) (vg := .slice A2 ng c2) M (by simp); obtain ⟨e0, e1, e2, e3⟩ := d_box (m := p) (g := g) (vp := .slice A4 np c4) (vg := .slice A5 ng c5) M (by simp); obtain ⟨e4, e5⟩ := d_cells (m := p) (g := g) (vp := .slice A4 np c4) (vg := .slice A5 ng c5) M (by simp); (have M2 := hid M); clear M)
    | (go_at_call 18; refine (hP.out _ M2.out.below).mono ?_; rintro _ w3 ⟨_, rfl, rfl, hb⟩; (clear d0 d1 d2 d3 d4 d5 e0 e1 e2 e3 e4 e5); ((have M := M2.out.keep hb)); obtain ⟨d4, -⟩ := d_cells (m := m) (g := g) (vp := .slice A1 np c1) (vg := .slice A2 ng c2) M (by simp); obtain ⟨e4, -⟩ := d_cells (m := p) (g := g) (vp := .slice A4 np c4) (vg := .slice A5 ng c5) M (by simp); (have M3 := hid M); clear M))
  clear d4 e4 hP
  go_loopw [31] (fun i wr => ∃ k : Nat, k ≤ np ∧ i = .int .i64 k ∧ Hid (Own w wr [.blk p 52 (dA g (.slice A4 np c4) (.slice A5 ng c5)), .blk m 52 (dA g (.slice A1 np c1) (.slice A2 ng c2))])) (fun i _ => np - (intOf i).toNat)
  case atStart => exact ⟨0, Nat.zero_le _, rfl, M3⟩
  case round =>
    clear M3
    obtain ⟨k, hk, rfl, MR⟩ := hrel
    obtain ⟨d4, -⟩ := d_cells (m := m) (g := g) (vp := .slice A1 np c1) (vg := .slice A2 ng c2) MR.out (by simp)
    obtain ⟨e4, -⟩ := d_cells (m := p) (g := g) (vp := .slice A4 np c4) (vg := .slice A5 ng c5) MR.out (by simp)
    by_cases hlt : k < np
    · obtain ⟨a1, rfl⟩ := heA.out (by omega)
      obtain ⟨a2, rfl⟩ := heB.out (by omega)
      obtain ⟨k0, k1, k2, k3, k4, k5, k6, k7⟩ := hEA.out a1 rfl wr MR.out.below k hlt
      obtain ⟨l0, l1, l2, l3, l4, l5, l6, l7⟩ := hEB.out a2 rfl wr MR.out.below k hlt
      have heq := dt_eq (pAt g.parts k)
      generalize pAt g.parts k = q at *
      obtain ⟨f, gl, x, y, a, b, c, d⟩ := q
      go_upto_region 6 with fail
      go_quiet (fail)
      go_wp2_with fail
      go_roundw
      case rel => exact ⟨k + 1, by omega, by go_num, hid (MR.out.drewN _)⟩
      case measure => simp [intOf] <;> omega
    · obtain rfl : k = np := by omega
      go_wp2
      go_ret
      exact .mk ⟨rfl, MR.out.below⟩
section
variable {w : World} {V : Value} {l : List Int} {g : Cg} {n : Nat}
theorem refParse_some (h1 : BytesAt w V l) (hB : Bytes l) (hn : l.length ≤ 140737488355328) (h : cpS l = some (g, n)) :
    Calls Try.prog 24 #[V] w (Ret fun r w' => ∃ vp vg, r = .tuple #[.agg (dA g vp vg), .int .i64 n, .bool true] ∧ Own w w' [.row 82 8 vp g.parts.length (dtC g.parts), .row 5 1 vg g.prog.length (ints .u8 g.prog)]) := by
  refine (refParse_calls13 w h1 hB hn).mono ?_
  rintro _ w' ⟨r, rfl, ⟨g', n', vp', vg', hp', rfl, M⟩ | ⟨hp', -, -⟩⟩
  · have := hp'.symm.trans h
    injection this with this
    injection this with e1 e2
    subst e1 e2
    exact .mk ⟨_, _, rfl, M⟩
  · rw [h] at hp'; cases hp'
theorem refParse_none (h1 : BytesAt w V l) (hB : Bytes l) (hn : l.length ≤ 140737488355328) (h : cpS l = none) :
    Calls Try.prog 24 #[V] w (Ret fun r w' => r = .tuple #[.agg dNil, .int .i64 0, .bool false] ∧ Below w.heap.size w w') := by
  refine (refParse_calls13 w h1 hB hn).mono ?_
  rintro _ w' ⟨r, rfl, ⟨g', n', vp', vg', hp', rfl, M⟩ | ⟨hp', rfl, hb⟩⟩
  · rw [h] at hp'; cases hp'
  · exact .mk ⟨rfl, hb⟩
end
end Go.Proofs.Yteoicpbfjkjogaa
