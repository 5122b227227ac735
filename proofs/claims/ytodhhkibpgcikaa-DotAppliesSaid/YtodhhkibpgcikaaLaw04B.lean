/- Layer 4: DotMoves, DotApplies: moves add up; a matrix moves a point where the document says. -/
import Derived.Test.YtodhhkibpgcikaaLaw04A
namespace Go.Proofs.Ytodhhkibpgcikaa
open Go Go.RowKit
set_option linter.unusedVariables false
set_option linter.unusedSimpArgs false
set_option maxRecDepth 100000

theorem sized_pt : Sized Try.prog 39 29 3 24 := Sized.mk' Try.underlying39 (.agg #[.int .i64 0, .int .i64 0, .bool false]) (by kernel_rfl)

set_option maxHeartbeats 8000000 in
theorem dotApplies_calls (w : World) {a b c d : Int} (x y : Int) (on : Bool) (u v : Int) (ha : -32768 ≤ a ∧ a < 32768) (hb : -32768 ≤ b ∧ b < 32768) (hc : -32768 ≤ c ∧ c < 32768) (hd : -32768 ≤ d ∧ d < 32768) :
    Calls Try.prog 4 #[.agg #[.int .i16 a, .int .i16 b, .int .i16 c, .int .i16 d], .agg #[.int .i64 x, .int .i64 y, .bool on], .int .i64 u, .int .i64 v] w (Ret fun r w' => r = .bool true ∧ Below w.heap.size w w') := by
  have M0 := hid (Own.start w)
  have hx := small_bd x
  have hy := small_bd y
  have hu := small_bd u
  have hv := small_bd v
  have S := hid (fun w n => small_calls w n)
  go_enter Try.func4, Try.ntmps4
  go_upto_region 3 with (first
    | ((with_reducible refine gate (N := 4) rfl ?_); refine wpList_box_Own rfl (cs := #[.int .i16 a, .int .i16 b, .int .i16 c, .int .i16 d]) (t := 27) (by first | (go_simp; done) | (go_simp; rfl)) M0.out ?_; intro m w1 M; have M1 := hid M; clear M)
    | ((with_reducible refine gate (N := 5) rfl ?_); refine wpList_box_Own rfl (cs := #[.int .i64 x, .int .i64 y, .bool on]) (t := 29) (by first | (go_simp; done) | (go_simp; rfl)) M1.out ?_; intro p w2 M; have M2 := hid M; clear M)
    | (go_at_call 8; refine (awake_calls _).mono ?_; rintro _ _ ⟨_, rfl, rfl, rfl⟩))
  obtain ⟨c0, c1, c2⟩ := point_cells M2.out
  obtain ⟨f0, f1, f2⟩ := point_free M2.out
  go_cut [2, 3] (fun s2 s3 wx => s2 = .int .i64 (u.tmod 1099511627776) ∧ s3 = .int .i64 (v.tmod 1099511627776) ∧ Hid (Own w wx [.blk p 29 #[.int .i64 (x.tmod 1099511627776), .int .i64 (y.tmod 1099511627776), .bool on], .blk m 27 #[.int .i16 a, .int .i16 b, .int .i16 c, .int .i16 d]]))
  case first =>
    go_region_with (go_at_call 11; refine (S.out _ _).mono ?_; rintro _ _ ⟨_, rfl, rfl, rfl⟩)
    all_goals (go_wp2_with fail; go_meet; exact ⟨rfl, rfl, hid (((M2.out.set (L1 := []) 0 (.int .i64 (x.tmod 1099511627776))).set (L1 := []) 1 (.int .i64 (y.tmod 1099511627776))).drew)⟩)
  case rest =>
    obtain ⟨rfl, rfl, hcut⟩ := hcut
    generalize x.tmod 1099511627776 = x at *
    generalize y.tmod 1099511627776 = y at *
    generalize u.tmod 1099511627776 = u at *
    generalize v.tmod 1099511627776 = v at *
    clear c0 c1 c2 f0 f1 f2 M1 M2
    obtain ⟨k0, k1, k2⟩ := point_cells hcut.out
    have m0 := hcut.out.cell (g := m) (t := 27) (cs := #[.int .i16 a, .int .i16 b, .int .i16 c, .int .i16 d]) (by simp)
    have c0 := m0 0; have c1 := m0 1; have c2 := m0 2; have c3 := m0 3
    simp only [List.getElem?_toArray, List.getElem?_cons_zero, List.getElem?_cons_succ] at c0 c1 c2 c3
    clear m0
    obtain ⟨x0, x1⟩ := hx
    obtain ⟨y0, y1⟩ := hy
    obtain ⟨u0, u1⟩ := hu
    obtain ⟨v0, v1⟩ := hv
    have A1 := hid (fun w => apply_calls w (on := on) ha hb hc hd (x := x) (y := y) (by omega) (by omega))
    have b1 := mul_small (x := x) ha (by omega)
    have b2 := mul_small (x := y) hc (by omega)
    have b3 := mul_small (x := x) hb (by omega)
    have b4 := mul_small (x := y) hd (by omega)
    have b5 : -17592186044500 ≤ rnd (a * x + c * y) ∧ rnd (a * x + c * y) ≤ 17592186044500 := by unfold rnd; omega
    have b6 : -17592186044500 ≤ rnd (b * x + d * y) ∧ rnd (b * x + d * y) ≤ 17592186044500 := by unfold rnd; omega
    have A2 := hid (fun w => move_calls w (on := on) (x := rnd (a * x + c * y)) (y := rnd (b * x + d * y)) (u := u) (v := v) (by omega) (by omega) (by omega) (by omega))
    have A3 := hid (fun w => refApply_calls w (on := on) ha hb hc hd (x := x) (y := y) (u := u) (v := v) (by omega) (by omega) (by omega) (by omega))
    generalize rnd (a * x + c * y) = rx at *
    generalize rnd (b * x + d * y) = ry at *
    clear b1 b2 b3 b4
    go_wp2_with (first
      | (go_at_call 12; refine (A1.out _).mono ?_; rintro _ v1 ⟨_, rfl, rfl, hb⟩; have N1 := hid (hcut.out.keep hb); clear hb hcut)
      | (go_at_call 13; refine (A2.out _).mono ?_; rintro _ v2 ⟨_, rfl, rfl, hb⟩; have N2 := hid (N1.out.keep hb); clear hb N1)
      | ((with_reducible refine gate (N := 9) rfl ?_); refine wpList_box_Own rfl (cs := #[.int .i64 0, .int .i64 0, .bool false]) (t := 29) (by first | (go_simp; done) | (go_simp; rfl)) N2.out ?_; intro q w3 M; (have N3 := hid M); (have e0 := M.cell (.head _) 0); (have e1 := M.cell (.head _) 1); (have e2 := M.cell (.head _) 2); (have g0 := M.free (.head _) 0); (have g1 := M.free (.head _) 1); (have g2 := M.free (.head _) 2); clear M N2; simp only [List.getElem?_toArray, List.getElem?_cons_zero, List.getElem?_cons_succ] at e0 e1 e2))
    have N4 := (((N3.out.set (L1 := []) 0 (.int .i64 (rx + u))).set (L1 := []) 1 (.int .i64 (ry + v))).set (L1 := []) 2 (.bool on))
    revert N4
    generalize (((w3.setCell ⟨q, 0, none⟩ (.int .i64 (rx + u))).setCell ⟨q, 1, none⟩ (.int .i64 (ry + v))).setCell ⟨q, 2, none⟩ (.bool on)) = w4
    intro N4
    have N5 : Hid (Own w w4.drew [.blk q 29 #[.int .i64 (rx + u), .int .i64 (ry + v), .bool on], .blk p 29 #[.int .i64 x, .int .i64 y, .bool on], .blk m 27 #[.int .i16 a, .int .i16 b, .int .i16 c, .int .i16 d]]) := hid N4.drew
    have q0 := N4.cell (g := q) (t := 29) (cs := #[.int .i64 (rx + u), .int .i64 (ry + v), .bool on]) (.head _)
    have p0 := N4.cell (g := p) (t := 29) (cs := #[.int .i64 x, .int .i64 y, .bool on]) (.tail _ (.head _))
    have m0 := N4.cell (g := m) (t := 27) (cs := #[.int .i16 a, .int .i16 b, .int .i16 c, .int .i16 d]) (.tail _ (.tail _ (.head _)))
    clear N4 N3 e0 e1 e2 g0 g1 g2 c0 c1 c2 c3 k0 k1 k2
    have c0 := m0 0; have c1 := m0 1; have c2 := m0 2; have c3 := m0 3; have k0 := p0 0; have k1 := p0 1; have k2 := p0 2; have e0 := q0 0; have e1 := q0 1; have e2 := q0 2
    simp only [List.getElem?_toArray, List.getElem?_cons_zero, List.getElem?_cons_succ] at c0 c1 c2 c3 e0 e1 e2 k0 k1 k2
    clear m0 p0 q0
    have i1 := IntWalk.i64_in a (by omega); have i2 := IntWalk.i64_in b (by omega); have i3 := IntWalk.i64_in c (by omega); have i4 := IntWalk.i64_in d (by omega)
    go_region_held3 (fun w' => w'.cell? ⟨m, 0, none⟩ = some (.int .i16 a) ∧ w'.cell? ⟨m, 1, none⟩ = some (.int .i16 b) ∧ w'.cell? ⟨m, 2, none⟩ = some (.int .i16 c) ∧ w'.cell? ⟨m, 3, none⟩ = some (.int .i16 d) ∧ w'.cell? ⟨p, 0, none⟩ = some (.int .i64 x) ∧ w'.cell? ⟨p, 1, none⟩ = some (.int .i64 y) ∧ w'.cell? ⟨p, 2, none⟩ = some (.bool on) ∧ w'.cell? ⟨q, 0, none⟩ = some (.int .i64 (rx + u)) ∧ w'.cell? ⟨q, 1, none⟩ = some (.int .i64 (ry + v)) ∧ w'.cell? ⟨q, 2, none⟩ = some (.bool on)) (go_keep)
      (first | (go_at_call 14; refine (A3.out _).mono ?_; rintro _ w5 ⟨_, rfl, rfl, hb⟩; have N6 := N5.out.keep hb
                have q0 := N6.cell (g := q) (t := 29) (cs := #[.int .i64 (rx + u), .int .i64 (ry + v), .bool on]) (.head _)
                have p0 := N6.cell (g := p) (t := 29) (cs := #[.int .i64 x, .int .i64 y, .bool on]) (.tail _ (.head _))
                have m0 := N6.cell (g := m) (t := 27) (cs := #[.int .i16 a, .int .i16 b, .int .i16 c, .int .i16 d]) (.tail _ (.tail _ (.head _)))
                have c0 := m0 0; have c1 := m0 1; have c2 := m0 2; have c3 := m0 3; have k0 := p0 0; have k1 := p0 1; have k2 := p0 2; have e0 := q0 0; have e1 := q0 1; have e2 := q0 2
                simp only [List.getElem?_toArray, List.getElem?_cons_zero, List.getElem?_cons_succ] at c0 c1 c2 c3 e0 e1 e2 k0 k1 k2
                have N7 := hid N6; clear N6 hb m0 p0 q0))
    go_wp2
    go_ret
    exact .mk ⟨rfl, N7.out.below⟩
end Go.Proofs.Ytodhhkibpgcikaa
