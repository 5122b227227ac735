/- Layer 4: DotUnits: with the unit all stays; a half of an even place is the half; minus one turns about. -/
import Derived.Test.YtodhhkibpgcikaaDotB
import Derived.Deep.RegionWith
import Derived.Deep.DeepCutAuto
namespace Go.Proofs.Ytodhhkibpgcikaa
open Go Go.RowKit
set_option linter.unusedVariables false
set_option linter.unusedSimpArgs false
set_option maxRecDepth 100000

theorem point_cells {w wx : World} {p : Nat} {x y : Int} {on : Bool} {L : List Ent} (M : Own w wx (.blk p 29 #[.int .i64 x, .int .i64 y, .bool on] :: L)) :
    wx.cell? ⟨p, 0, none⟩ = some (.int .i64 x) ∧ wx.cell? ⟨p, 1, none⟩ = some (.int .i64 y) ∧ wx.cell? ⟨p, 2, none⟩ = some (.bool on) := ⟨M.cell (.head _) 0, M.cell (.head _) 1, M.cell (.head _) 2⟩
theorem point_free {w wx : World} {p : Nat} {x y : Int} {on : Bool} {L : List Ent} (M : Own w wx (.blk p 29 #[.int .i64 x, .int .i64 y, .bool on] :: L)) :
    wx.frozen? ⟨p, 0, none⟩ = false ∧ wx.frozen? ⟨p, 1, none⟩ = false ∧ wx.frozen? ⟨p, 2, none⟩ = false := ⟨M.free (.head _) 0, M.free (.head _) 1, M.free (.head _) 2⟩

set_option maxHeartbeats 8000000 in
theorem dotUnits_calls (w : World) (x y : Int) (on : Bool) : Calls Try.prog 5 #[.agg #[.int .i64 x, .int .i64 y, .bool on]] w (Ret fun r w' => r = .bool true ∧ Below w.heap.size w w') := by
  have M0 := hid (Own.start w)
  have hx := small_bd x
  have hy := small_bd y
  have S := hid (fun w n => small_calls w n)
  go_enter Try.func5, Try.ntmps5
  go_upto_region 3 with (first
    | ((with_reducible refine gate (N := 1) rfl ?_); refine wpList_box_Own rfl (cs := #[.int .i64 x, .int .i64 y, .bool on]) (t := 29) (by first | (go_simp; done) | (go_simp; rfl)) M0.out ?_; intro p w1 M; have M1 := hid M; clear M)
    | (go_at_call 8; refine (awake_calls _).mono ?_; rintro _ _ ⟨_, rfl, rfl, rfl⟩))
  obtain ⟨c0, c1, c2⟩ := point_cells M1.out
  obtain ⟨f0, f1, f2⟩ := point_free M1.out
  go_cut [] (fun wx => Hid (Own w wx [.blk p 29 #[.int .i64 (x.tmod 1099511627776), .int .i64 (y.tmod 1099511627776), .bool on]]))
  case first =>
    go_region_with (go_at_call 11; refine (S.out _ _).mono ?_; rintro _ _ ⟨_, rfl, rfl, rfl⟩)
    all_goals (go_wp2_with fail; go_meet; exact hid (((M1.out.set (L1 := []) 0 (.int .i64 (x.tmod 1099511627776))).set (L1 := []) 1 (.int .i64 (y.tmod 1099511627776))).drew))
  case rest =>
    generalize x.tmod 1099511627776 = x at *
    generalize y.tmod 1099511627776 = y at *
    clear c0 c1 c2 f0 f1 f2 M1
    obtain ⟨k0, k1, k2⟩ := point_cells hcut.out
    obtain ⟨x0, x1⟩ := hx
    obtain ⟨y0, y1⟩ := hy
    have w1' := IntWalk.i64_in (2 * x) (by omega); have w2' := IntWalk.i64_in (2 * y) (by omega); have w3' := IntWalk.i64_in (-x) (by omega); have w4' := IntWalk.i64_in (-y) (by omega)
    have A1 := hid (fun w => apply_calls w (a := 16384) (b := 0) (c := 0) (d := 16384) (x := x) (y := y) (on := on) (by omega) (by omega) (by omega) (by omega) (by omega) (by omega))
    rw [show rnd (16384 * x + 0 * y) = x by unfold rnd; omega, show rnd (0 * x + 16384 * y) = y by unfold rnd; omega] at A1
    have A2 := hid (fun w => apply_calls w (a := 8192) (b := 0) (c := 0) (d := 8192) (x := 2 * x) (y := 2 * y) (on := on) (by omega) (by omega) (by omega) (by omega) (by omega) (by omega))
    rw [show rnd (8192 * (2 * x) + 0 * (2 * y)) = x by unfold rnd; omega, show rnd (0 * (2 * x) + 8192 * (2 * y)) = y by unfold rnd; omega] at A2
    have A3 := hid (fun w => apply_calls w (a := -16384) (b := 0) (c := 0) (d := -16384) (x := x) (y := y) (on := on) (by omega) (by omega) (by omega) (by omega) (by omega) (by omega))
    rw [show rnd (-16384 * x + 0 * y) = -x by unfold rnd; omega, show rnd (0 * x + -16384 * y) = -y by unfold rnd; omega] at A3
    have A4 := hid (fun w => apply_calls w (a := 0) (b := 0) (c := 0) (d := 0) (x := x) (y := y) (on := on) (by omega) (by omega) (by omega) (by omega) (by omega) (by omega))
    rw [show rnd (0 * x + 0 * y) = 0 by unfold rnd; omega] at A4
    have hcutd := hid hcut.out.drew
    clear hcut
    go_wp2_with fail
    go_region_held3 (fun w' => w'.cell? ⟨p, 0, none⟩ = some (.int .i64 x) ∧ w'.cell? ⟨p, 1, none⟩ = some (.int .i64 y) ∧ w'.cell? ⟨p, 2, none⟩ = some (.bool on)) (go_keep)
      (first
      | (go_at_call 15; ((with_reducible refine (unit_calls _).mono ?_); rintro _ v1 ⟨_, rfl, rfl, hb⟩; have N1 := hid (hcutd.out.keep hb); obtain ⟨k0, k1, k2⟩ := point_cells N1.out; clear hb hcutd))
      | (go_at_call 12; ((with_reducible refine (A1.out _).mono ?_); rintro _ v2 ⟨_, rfl, rfl, hb⟩; have N2 := hid (N1.out.keep hb); obtain ⟨k0, k1, k2⟩ := point_cells N2.out; clear hb N1))
      | (go_at_call 16; ((with_reducible refine (scale_calls _ _).mono ?_); rintro _ v3 ⟨_, rfl, rfl, hb⟩; have N3 := hid (N2.out.keep hb); obtain ⟨k0, k1, k2⟩ := point_cells N3.out; clear hb N2))
      | (go_at_call 12; ((with_reducible refine (A2.out _).mono ?_); rintro _ v4 ⟨_, rfl, rfl, hb⟩; have N4 := hid (N3.out.keep hb); obtain ⟨k0, k1, k2⟩ := point_cells N4.out; clear hb N3))
      | (go_at_call 16; ((with_reducible refine (scale_calls _ _).mono ?_); rintro _ v5 ⟨_, rfl, rfl, hb⟩; have N5 := hid (N4.out.keep hb); obtain ⟨k0, k1, k2⟩ := point_cells N5.out; clear hb N4))
      | (go_at_call 12; ((with_reducible refine (A3.out _).mono ?_); rintro _ v6 ⟨_, rfl, rfl, hb⟩; have N6 := hid (N5.out.keep hb); obtain ⟨k0, k1, k2⟩ := point_cells N6.out; clear hb N5))
      | (go_at_call 16; ((with_reducible refine (scale_calls _ _).mono ?_); rintro _ v7 ⟨_, rfl, rfl, hb⟩; have N7 := hid (N6.out.keep hb); obtain ⟨k0, k1, k2⟩ := point_cells N7.out; clear hb N6))
      | (go_at_call 12; ((with_reducible refine (A4.out _).mono ?_); rintro _ v8 ⟨_, rfl, rfl, hb⟩; have N8 := hid (N7.out.keep hb); obtain ⟨k0, k1, k2⟩ := point_cells N8.out; clear hb N7))
      )
    go_wp2
    go_ret
    exact .mk ⟨rfl, N8.out.below⟩
end Go.Proofs.Ytodhhkibpgcikaa
