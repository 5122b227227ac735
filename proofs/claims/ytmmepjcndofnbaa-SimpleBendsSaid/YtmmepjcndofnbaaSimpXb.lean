/- The document's Same of equals; Parse by its two ends. -/
import Derived.Test.YtmmepjcndofnbaaSimpX
import Derived.Test.YtmmepjcndofnbaaSimpL
namespace Go.Proofs.Ytmmepjcndofnbaa
open Go Go.RowKit
set_option linter.unusedVariables false
set_option linter.unusedSimpArgs false
set_option maxRecDepth 100000

theorem refSpot_eq (x y : Int) (on : Bool) (w : World) : (Op.equalIn 10000 66 (.agg #[.int .i64 x, .int .i64 y, .bool on]) (.agg #[.int .i64 x, .int .i64 y, .bool on])).run Try.prog w = .ok true w := by
  have i2 : (Try.prog.info? 3).map (·.size) = some 1 := by kernel_rfl
  have h1 : (part 3 #[.int .i64 x, .int .i64 y, .bool on] 0).run Try.prog w = .ok (.int .i64 x) w := run_part_one Try.underlying3 i2 rfl w
  have h2 : (part 3 #[.int .i64 x, .int .i64 y, .bool on] 1).run Try.prog w = .ok (.int .i64 y) w := run_part_one Try.underlying3 i2 rfl w
  have h5 : (part 4 #[.int .i64 x, .int .i64 y, .bool on] 2).run Try.prog w = .ok (.bool on) w := by kernel_rfl
  have h3 := int_self (P := Try.prog) Try.underlying3 9998 x w
  have h4 := int_self (P := Try.prog) Try.underlying3 9998 y w
  have h6 := bool_self (P := Try.prog) Try.underlying4 9998 on w
  rw [show (10000 : Nat) = 9999 + 1 from rfl, run_equalIn_struct (P := Try.prog) w 9999 66 _ _ (by kernel_rfl) (by kernel_rfl)]
  simp [Program.fieldsOf, Try.underlying66, Op.eqFields, Sem.run_bind, h1, h2, h3, h4, h5, h6]
theorem refBox_eq (a b c d : Int) (w : World) : (Op.equalIn 10000 42 (.agg #[.int .i64 a, .int .i64 b, .int .i64 c, .int .i64 d]) (.agg #[.int .i64 a, .int .i64 b, .int .i64 c, .int .i64 d])).run Try.prog w = .ok true w :=
  arr_self (P := Try.prog) (d := 9998) Try.underlying42 Try.underlying3 (by kernel_rfl) (zs := [a, b, c, d]) rfl w
set_option maxHeartbeats 4000000 in
theorem refSame_calls (w : World) {g : Sg} {ve vp vs ve' vp' vs' : Value} (h1 : RAt w g ve vp vs) (h2 : RAt w g ve' vp' vs') :
    Calls Try.prog 22 #[.agg (rA g.b0 g.b1 g.b2 g.b3 ve vp vs), .agg (rA g.b0 g.b1 g.b2 g.b3 ve' vp' vs')] w (Ret fun r w' => r = .bool true ∧ Below w.heap.size w w') := by
  have hP := hid (fun w' (h : Below w.heap.size w w') => same_true w' (h1.p.below h) (h2.p.below h))
  have hq := refBox_eq g.b0 g.b1 g.b2 g.b3
  obtain ⟨⟨A1, c1, rfl, hc1, hm1, -, hr1⟩, ⟨A2, c2, rfl, -⟩, ⟨A3, c3, rfl, hc3, hm3, -, hr3⟩⟩ := h1
  obtain ⟨⟨A4, c4, rfl, hc4, hm4, -, hr4⟩, ⟨A5, c5, rfl, -⟩, ⟨A6, c6, rfl, hc6, hm6, -, hr6⟩⟩ := h2
  unfold maxLen at hm1 hm3 hm4 hm6
  obtain ⟨ne, hne⟩ : ∃ n, g.ends.length = n := ⟨_, rfl⟩
  obtain ⟨np, hnp⟩ : ∃ n, g.prog.length = n := ⟨_, rfl⟩
  obtain ⟨ns, hns⟩ : ∃ n, g.pts.length = n := ⟨_, rfl⟩
  rw [hne] at hr1 hc1 hr4 hc4
  rw [hnp] at hP
  rw [hns] at hr3 hc3 hr6 hc6
  have hEA := hid (fun ad (e : A1 = some ad) w' hb i hi => int_at (w' := w') (i := i) hne (e ▸ hr1) hb hi)
  have hEB := hid (fun ad (e : A4 = some ad) w' hb i hi => int_at (w' := w') (i := i) hne (e ▸ hr4) hb hi)
  have hSA := hid (fun ad (e : A3 = some ad) w' hb i hi => dpt_in (w' := w') (i := i) hns (e ▸ hr3) hb hi)
  have hSB := hid (fun ad (e : A6 = some ad) w' hb i hi => dpt_in (w' := w') (i := i) hns (e ▸ hr6) hb hi)
  have heA := hid (fun (h : 0 < ne) => show ∃ ad, A1 = some ad by obtain ⟨ad, e, -⟩ := hr1.2 h; exact ⟨ad, e⟩)
  have heB := hid (fun (h : 0 < ne) => show ∃ ad, A4 = some ad by obtain ⟨ad, e, -⟩ := hr4.2 h; exact ⟨ad, e⟩)
  have hsA := hid (fun (h : 0 < ns) => show ∃ ad, A3 = some ad by obtain ⟨ad, e, -⟩ := hr3.2 h; exact ⟨ad, e⟩)
  have hsB := hid (fun (h : 0 < ns) => show ∃ ad, A6 = some ad by obtain ⟨ad, e, -⟩ := hr6.2 h; exact ⟨ad, e⟩)
  simp only [hne, hnp, hns]
  clear hr1 hr3 hr4 hr6 hne hnp hns
  have M0 := hid (Own.start w)
  go_enter Try.func22, Try.ntmps22
  go_wp2_with (first
    | ((with_reducible refine gate (N := 2) rfl ?_); refine wpList_box_Own rfl (cs := rA g.b0 g.b1 g.b2 g.b3 (.slice A1 ne c1) (.slice A2 np c2) (.slice A3 ns c3)) (t := 46) (by first | (go_simp; done) | (go_simp; rfl)) M0.out ?_; intro m w1 M; (have M1 := hid M); clear M)
    | ((with_reducible refine gate (N := 3) rfl ?_); refine wpList_box_Own rfl (cs := rA g.b0 g.b1 g.b2 g.b3 (.slice A4 ne c4) (.slice A5 np c5) (.slice A6 ns c6)) (t := 46) (by first | (go_simp; done) | (go_simp; rfl)) M1.out ?_; intro p w2 M; obtain ⟨⟨d0, d1, d2, d3, d4, d5, d6⟩, -⟩ := r_cells (m := m) (a := g.b0) (b := g.b1) (c := g.b2) (d := g.b3) (ve := .slice A1 ne c1) (vp := .slice A2 np c2) (vs := .slice A3 ns c3) M (by simp); obtain ⟨⟨e0, e1, e2, e3, e4, e5, e6⟩, -⟩ := r_cells (m := p) (a := g.b0) (b := g.b1) (c := g.b2) (d := g.b3) (ve := .slice A4 ne c4) (vp := .slice A5 np c5) (vs := .slice A6 ns c6) M (by simp); (have M2 := hid M); clear M)
    | (go_at_call 23; refine (hP.out _ M2.out.below).mono ?_; rintro _ w3 ⟨_, rfl, rfl, hb⟩; (clear d0 d1 d2 d3 d4 d5 d6 e0 e1 e2 e3 e4 e5 e6); ((have M := M2.out.keep hb)); obtain ⟨⟨-, -, -, -, d4, -, d6⟩, -⟩ := r_cells (m := m) (a := g.b0) (b := g.b1) (c := g.b2) (d := g.b3) (ve := .slice A1 ne c1) (vp := .slice A2 np c2) (vs := .slice A3 ns c3) M (by simp); obtain ⟨⟨-, -, -, -, e4, -, e6⟩, -⟩ := r_cells (m := p) (a := g.b0) (b := g.b1) (c := g.b2) (d := g.b3) (ve := .slice A4 ne c4) (vp := .slice A5 np c5) (vs := .slice A6 ns c6) M (by simp); (have M3 := hid M); clear M))
  clear d4 d6 e4 e6 hP
  go_loopw [41] (fun i wr => ∃ k : Nat, k ≤ ne ∧ i = .int .i64 k ∧ Hid (Own w wr [.blk p 46 (rA g.b0 g.b1 g.b2 g.b3 (.slice A4 ne c4) (.slice A5 np c5) (.slice A6 ns c6)), .blk m 46 (rA g.b0 g.b1 g.b2 g.b3 (.slice A1 ne c1) (.slice A2 np c2) (.slice A3 ns c3))])) (fun i _ => ne - (intOf i).toNat)
  case atStart => exact ⟨0, Nat.zero_le _, rfl, M3⟩
  case round =>
    clear M3
    obtain ⟨k, hk, rfl, MR⟩ := hrel
    obtain ⟨⟨-, -, -, -, d4, -, d6⟩, -⟩ := r_cells (m := m) (a := g.b0) (b := g.b1) (c := g.b2) (d := g.b3) (ve := .slice A1 ne c1) (vp := .slice A2 np c2) (vs := .slice A3 ns c3) MR.out (by simp)
    obtain ⟨⟨-, -, -, -, e4, -, e6⟩, -⟩ := r_cells (m := p) (a := g.b0) (b := g.b1) (c := g.b2) (d := g.b3) (ve := .slice A4 ne c4) (vp := .slice A5 np c5) (vs := .slice A6 ns c6) MR.out (by simp)
    by_cases hlt : k < ne
    · obtain ⟨a1, rfl⟩ := heA.out (by omega)
      obtain ⟨a2, rfl⟩ := heB.out (by omega)
      have k1 := hEA.out a1 rfl wr MR.out.below k hlt
      have l1 := hEB.out a2 rfl wr MR.out.below k hlt
      generalize g.ends.getD k 0 = x at *
      go_upto_region 6 with fail
      go_quiet (fail)
      go_wp2_with fail
      go_roundw
      case rel => exact ⟨k + 1, by omega, by go_num, hid (MR.out.drewN _)⟩
      case measure => simp [intOf] <;> omega
    · obtain rfl : k = ne := by omega
      go_wp2
      clear d4 d6 e4 e6
      go_loopw [59] (fun i wr => ∃ t : Nat, t ≤ ns ∧ i = .int .i64 t ∧ Hid (Own w wr [.blk p 46 (rA g.b0 g.b1 g.b2 g.b3 (.slice A4 k c4) (.slice A5 np c5) (.slice A6 ns c6)), .blk m 46 (rA g.b0 g.b1 g.b2 g.b3 (.slice A1 k c1) (.slice A2 np c2) (.slice A3 ns c3))])) (fun i _ => ns - (intOf i).toNat)
      case atStart => exact ⟨0, Nat.zero_le _, rfl, MR⟩
      case round =>
        clear MR
        obtain ⟨t, ht, rfl, MR⟩ := hrel
        obtain ⟨⟨-, -, -, -, d4, -, d6⟩, -⟩ := r_cells (m := m) (a := g.b0) (b := g.b1) (c := g.b2) (d := g.b3) (ve := .slice A1 k c1) (vp := .slice A2 np c2) (vs := .slice A3 ns c3) MR.out (by simp)
        obtain ⟨⟨-, -, -, -, e4, -, e6⟩, -⟩ := r_cells (m := p) (a := g.b0) (b := g.b1) (c := g.b2) (d := g.b3) (ve := .slice A4 k c4) (vp := .slice A5 np c5) (vs := .slice A6 ns c6) MR.out (by simp)
        by_cases hlt : t < ns
        · obtain ⟨a1, rfl⟩ := hsA.out (by omega)
          obtain ⟨a2, rfl⟩ := hsB.out (by omega)
          obtain ⟨k1, k2, k3⟩ := hSA.out a1 rfl wr MR.out.below t hlt
          obtain ⟨l1, l2, l3⟩ := hSB.out a2 rfl wr MR.out.below t hlt
          have heq := refSpot_eq (pX g.pts t) (pY g.pts t) (pO g.pts t)
          generalize pX g.pts t = x at *
          generalize pY g.pts t = y at *
          generalize pO g.pts t = on at *
          go_upto_region 12 with fail
          go_quiet (fail)
          go_wp2_with fail
          go_roundw
          case rel => exact ⟨t + 1, by omega, by go_num, hid (MR.out.drewN _)⟩
          case measure => simp [intOf] <;> omega
        · obtain rfl : t = ns := by omega
          go_wp2
          go_ret
          exact .mk ⟨rfl, MR.out.below⟩

section
variable {w : World} {V : Value} {l : List Int} {g : Sg} {n : Nat}
theorem parse_some (h1 : BytesAt w V l) (hB : Bytes l) (hn : l.length ≤ 140737488355328) (h : parseS l = some (g, n)) :
    Calls Try.prog 20 #[V] w (Ret fun r w' => ∃ ve vp vs, g.Ok ∧ r = .tuple #[.agg (gA g ve vp vs), .int .i64 n, .int .i64 0] ∧ Own w w' [.row 38 1 ve g.ends.length (ints .u16 g.ends), .row 5 1 vp g.prog.length (ints .u8 g.prog), .row 37 3 vs g.pts.length (spC g.pts)]) := by
  refine (parse_calls12 w h1 hB hn).mono ?_
  rintro _ w' ⟨r, rfl, ⟨g', n', ve', vp', vs', hp', hO', rfl, M⟩ | ⟨hp', -, -⟩⟩
  · have := hp'.symm.trans h
    injection this with this
    injection this with e1 e2
    subst e1 e2
    exact .mk ⟨_, _, _, hO', rfl, M⟩
  · rw [h] at hp'; cases hp'
theorem parse_none (h1 : BytesAt w V l) (hB : Bytes l) (hn : l.length ≤ 140737488355328) (h : parseS l = none) :
    Calls Try.prog 20 #[V] w (Ret fun r w' => r = .tuple #[.agg gNil, .int .i64 0, .int .i64 2] ∧ Below w.heap.size w w') := by
  refine (parse_calls12 w h1 hB hn).mono ?_
  rintro _ w' ⟨r, rfl, ⟨g', n', ve', vp', vs', hp', hO', rfl, M⟩ | ⟨hp', rfl, hb⟩⟩
  · rw [h] at hp'; cases hp'
  · exact .mk ⟨rfl, hb⟩
theorem refParse_some (h1 : BytesAt w V l) (hB : Bytes l) (hn : l.length ≤ 140737488355328) (h : parseS l = some (g, n)) :
    Calls Try.prog 21 #[V] w (Ret fun r w' => ∃ ve vp vs, r = .tuple #[.agg (rA g.b0 g.b1 g.b2 g.b3 ve vp vs), .int .i64 n, .bool true] ∧ Own w w' [.row 3 1 ve g.ends.length (ints .i64 g.ends), .row 5 1 vp g.prog.length (ints .u8 g.prog), .row 66 3 vs g.pts.length (dpC g.pts)]) := by
  refine (refParse_calls12 w h1 hB hn).mono ?_
  rintro _ w' ⟨r, rfl, ⟨g', n', ve', vp', vs', hp', rfl, M⟩ | ⟨hp', -, -⟩⟩
  · have := hp'.symm.trans h
    injection this with this
    injection this with e1 e2
    subst e1 e2
    exact .mk ⟨_, _, _, rfl, M⟩
  · rw [h] at hp'; cases hp'
theorem refParse_none (h1 : BytesAt w V l) (hB : Bytes l) (hn : l.length ≤ 140737488355328) (h : parseS l = none) :
    Calls Try.prog 21 #[V] w (Ret fun r w' => r = .tuple #[.agg rNil, .int .i64 0, .bool false] ∧ Below w.heap.size w w') := by
  refine (refParse_calls12 w h1 hB hn).mono ?_
  rintro _ w' ⟨r, rfl, ⟨g', n', ve', vp', vs', hp', rfl, M⟩ | ⟨hp', rfl, hb⟩⟩
  · rw [h] at hp'; cases hp'
  · exact .mk ⟨rfl, hb⟩
end
end Go.Proofs.Ytmmepjcndofnbaa
