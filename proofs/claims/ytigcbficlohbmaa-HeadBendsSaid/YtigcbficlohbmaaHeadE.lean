/- Package head: as the document has it. -/
import Derived.Test.YtigcbficlohbmaaHeadD
namespace Go.Proofs.Ytigcbficlohbmaa
open Go Go.RowKit
set_option linter.unusedVariables false
set_option linter.unusedSimpArgs false
set_option maxRecDepth 100000

theorem rhC_one (h : Hd) : ∀ v ∈ rhC h, v.oneCell' = true := by
  intro v hv
  simp only [rhC, List.mem_cons, List.not_mem_nil, or_false] at hv
  rcases hv with rfl | rfl | rfl | rfl | rfl | rfl | rfl | rfl | rfl | rfl | rfl | rfl | rfl | rfl <;> rfl
def rhz : Hd := ⟨0, 0, 0, 0, 0, 0, 0, 0, 0, 0, 0, 0, 0, false⟩
theorem agg_rhead : AggOf Try.prog 45 14 := .mk' Try.underlying45 rfl (by kernel_rfl)
theorem rh_at {W0 w : World} {L : List Ent} {m : Nat} {h : Hd} (M : Own W0 w L) (hm : .blk m 45 (rhC h).toArray ∈ L) (i : Nat) : w.cell? ⟨m, i, none⟩ = (rhC h).toArray[i]? ∧ w.frozen? ⟨m, i, none⟩ = false := ⟨M.cell hm i, M.free hm i⟩
theorem rh_set (h : Hd) (x : Int) : (rhC h).toArray.setIfInBounds 6 (.int .i64 x) = (rhC {h with b0 := x}).toArray ∧ (rhC h).toArray.setIfInBounds 7 (.int .i64 x) = (rhC {h with b1 := x}).toArray ∧ (rhC h).toArray.setIfInBounds 8 (.int .i64 x) = (rhC {h with b2 := x}).toArray ∧ (rhC h).toArray.setIfInBounds 9 (.int .i64 x) = (rhC {h with b3 := x}).toArray := ⟨rfl, rfl, rfl, rfl⟩

set_option maxHeartbeats 4000000 in
theorem headOwn_calls (w : World) (h : Hd) (hok : h.ok) : Calls Try.prog 18 #[.agg (hdC h).toArray] w (Ret fun r w' => r = .agg (rhC h).toArray ∧ Below w.heap.size w w') := by
  have M0 := hid (Own.start w)
  have hl : (hdC h).length = 14 := rfl
  have hbx : (((hdC h).toArray).toList.drop 6).take 4 = ints .i16 h.box := rfl
  have l13 : (ints .i16 h.box).length = 4 := rfl
  have hC := hid (fun (w' : World) (L : List Ent) (m : Nat) (M : Own w w' L) (hm : Ent.blk m 29 (hdC h).toArray ∈ L) => hd_cells M hm)
  have i16i : (Try.prog.info? 26).map (·.size) = some 1 := by kernel_rfl
  obtain ⟨-, -, ⟨fl0, fl1⟩, ⟨un0, un1⟩, -, -, ⟨b00, b01⟩, ⟨b10, b11⟩, ⟨b20, b21⟩, ⟨b30, b31⟩, ⟨st0, st1⟩, ⟨lo0, lo1⟩, ⟨hi0, hi1⟩⟩ := hok
  go_enter Try.func18, Try.ntmps18
  go_wp2_with (first
    | ((with_reducible refine gate (N := 1) rfl ?_); refine wpList_box_Own rfl (cs := (hdC h).toArray) (t := 29) (by first | (go_simp; done) | (go_simp; rfl)) M0.out ?_; intro m w1 M; (have M1 := hid M); clear M)
    | ((with_reducible refine gate (N := 2) rfl ?_); refine wpList_box_Own rfl (cs := (rhC rhz).toArray) (t := 45) (by first | (go_simp; done) | (go_simp; rfl)) M1.out ?_; intro q w2 M; (have M2 := hid M); obtain ⟨⟨k0, k1, k2, k3⟩, ⟨k4, k5⟩, ⟨k10, k11, k12⟩, k13⟩ := hC.out _ _ m M (by simp); clear M)
    | ((with_reducible refine gate (N := 3) rfl ?_); refine wpList_box_Own rfl (cs := (rhC rhz).toArray) (t := 45) (by first | (go_simp; done) | (go_simp; rfl)) M2.out ?_; intro r w3 M; (have M3 := hid M); clear M)
    | ((with_reducible refine gateSt (t := 45) (p := 3) rfl ?_); refine wpList_store_all (n := 14) (L1 := []) (mid := rhC rhz) (vs := rhC ⟨h.rv, h.adj, h.fl, h.un, h.cr, h.md, 0, 0, 0, 0, h.st, h.lo, h.hi, h.lg⟩) rfl rfl (by kernel_rfl) rfl rfl rfl rfl rfl (rhC_one _) M3.out ?_; intro w4 M; (have M4 := hid M); clear M k0 k1 k2 k3 k4 k5 k10 k11 k12 k13)
    | ((with_reducible refine gate (N := 33) rfl ?_); refine wpList_run rfl (exec_load_agg agg_box rfl rfl M4.out (g := m) (t := 29) (cs := (hdC h).toArray) (by simp) hbx l13) ?_))
  clear M0 M1 M2 M3
  go_loopw [34] (fun i wr => ∃ (k : Nat) (x0 x1 x2 x3 : Int), k ≤ 4 ∧ i = .int .i64 k ∧ Hid ((0 < k → x0 = h.b0) ∧ (1 < k → x1 = h.b1) ∧ (2 < k → x2 = h.b2) ∧ (3 < k → x3 = h.b3)) ∧ Hid (Own w wr [.blk r 45 (rhC ⟨h.rv, h.adj, h.fl, h.un, h.cr, h.md, x0, x1, x2, x3, h.st, h.lo, h.hi, h.lg⟩).toArray, .blk q 45 (rhC rhz).toArray, .blk m 29 (hdC h).toArray])) (fun i _ => 4 - (intOf i).toNat)
  case atStart => exact ⟨0, 0, 0, 0, 0, by omega, rfl, hid ⟨by omega, by omega, by omega, by omega⟩, M4⟩
  case round =>
    clear M4
    obtain ⟨k, x0, x1, x2, x3, hk, rfl, hx, MH⟩ := hrel
    by_cases hlt : k < 4
    · have hk' : k = 0 ∨ k = 1 ∨ k = 2 ∨ k = 3 := by omega
      clear hlt hk
      rcases hk' with rfl | rfl | rfl | rfl
      · have hix : ∀ w, (Instr.index 27 (.agg (ints .i16 h.box).toArray) (.int .i64 0)).run Try.prog w = .ok (.int .i16 h.b0) w := fun w => run_index_ints (P := Try.prog) Try.underlying27 Try.underlying26 i16i h.box 0 rfl (by omega) w
        obtain ⟨c4, f4⟩ := rh_at MH.out (m := r) (h := ⟨h.rv, h.adj, h.fl, h.un, h.cr, h.md, x0, x1, x2, x3, h.st, h.lo, h.hi, h.lg⟩) (by simp) 6
        have MY := hid (Own.set (L1 := []) (L2 := [_, _]) MH.out 6 (.int .i64 h.b0))
        simp only [rh_set, List.nil_append, List.append_eq] at MY
        obtain ⟨h0, h1, h2, h3⟩ := hx.out
        go_wp2_with fail
        go_roundw
        case rel => exact ⟨1, h.b0, x1, x2, x3, by omega, by go_num, hid ⟨fun _ => rfl, fun h => absurd h (by omega), fun h => absurd h (by omega), fun h => absurd h (by omega)⟩, MY⟩
        case measure => simp [intOf]
      · have hix : ∀ w, (Instr.index 27 (.agg (ints .i16 h.box).toArray) (.int .i64 1)).run Try.prog w = .ok (.int .i16 h.b1) w := fun w => run_index_ints (P := Try.prog) Try.underlying27 Try.underlying26 i16i h.box 1 rfl (by omega) w
        obtain ⟨c4, f4⟩ := rh_at MH.out (m := r) (h := ⟨h.rv, h.adj, h.fl, h.un, h.cr, h.md, x0, x1, x2, x3, h.st, h.lo, h.hi, h.lg⟩) (by simp) 7
        have MY := hid (Own.set (L1 := []) (L2 := [_, _]) MH.out 7 (.int .i64 h.b1))
        simp only [rh_set, List.nil_append, List.append_eq] at MY
        obtain ⟨h0, h1, h2, h3⟩ := hx.out
        go_wp2_with fail
        go_roundw
        case rel => exact ⟨2, x0, h.b1, x2, x3, by omega, by go_num, hid ⟨fun _ => h0 (by omega), fun _ => rfl, fun h => absurd h (by omega), fun h => absurd h (by omega)⟩, MY⟩
        case measure => simp [intOf]
      · have hix : ∀ w, (Instr.index 27 (.agg (ints .i16 h.box).toArray) (.int .i64 2)).run Try.prog w = .ok (.int .i16 h.b2) w := fun w => run_index_ints (P := Try.prog) Try.underlying27 Try.underlying26 i16i h.box 2 rfl (by omega) w
        obtain ⟨c4, f4⟩ := rh_at MH.out (m := r) (h := ⟨h.rv, h.adj, h.fl, h.un, h.cr, h.md, x0, x1, x2, x3, h.st, h.lo, h.hi, h.lg⟩) (by simp) 8
        have MY := hid (Own.set (L1 := []) (L2 := [_, _]) MH.out 8 (.int .i64 h.b2))
        simp only [rh_set, List.nil_append, List.append_eq] at MY
        obtain ⟨h0, h1, h2, h3⟩ := hx.out
        go_wp2_with fail
        go_roundw
        case rel => exact ⟨3, x0, x1, h.b2, x3, by omega, by go_num, hid ⟨fun _ => h0 (by omega), fun _ => h1 (by omega), fun _ => rfl, fun h => absurd h (by omega)⟩, MY⟩
        case measure => simp [intOf]
      · have hix : ∀ w, (Instr.index 27 (.agg (ints .i16 h.box).toArray) (.int .i64 3)).run Try.prog w = .ok (.int .i16 h.b3) w := fun w => run_index_ints (P := Try.prog) Try.underlying27 Try.underlying26 i16i h.box 3 rfl (by omega) w
        obtain ⟨c4, f4⟩ := rh_at MH.out (m := r) (h := ⟨h.rv, h.adj, h.fl, h.un, h.cr, h.md, x0, x1, x2, x3, h.st, h.lo, h.hi, h.lg⟩) (by simp) 9
        have MY := hid (Own.set (L1 := []) (L2 := [_, _]) MH.out 9 (.int .i64 h.b3))
        simp only [rh_set, List.nil_append, List.append_eq] at MY
        obtain ⟨h0, h1, h2, h3⟩ := hx.out
        go_wp2_with fail
        go_roundw
        case rel => exact ⟨4, x0, x1, x2, h.b3, by omega, by go_num, hid ⟨fun _ => h0 (by omega), fun _ => h1 (by omega), fun _ => h2 (by omega), fun _ => rfl⟩, MY⟩
        case measure => simp [intOf]
    · obtain rfl : k = 4 := by omega
      obtain ⟨h0, h1, h2, h3⟩ := hx.out
      obtain rfl := h0 (by omega)
      obtain rfl := h1 (by omega)
      obtain rfl := h2 (by omega)
      obtain rfl := h3 (by omega)
      have M5 := hid (show Own w _ [.blk r 45 (rhC h).toArray, .blk q 45 (rhC rhz).toArray, .blk m 29 (hdC h).toArray] from MH.out)
      clear MH h0 h1 h2 h3 hx
      go_wp2_with (first
        | ((with_reducible refine gate (N := 44) rfl ?_); refine wpList_run rfl (exec_load_agg agg_rhead rfl rfl M5.out (g := r) (t := 45) (cs := (rhC h).toArray) (vs := rhC h) (.head _) rfl rfl) ?_; (have M6 := hid M5.out.swap))
        | ((with_reducible refine gateSt (t := 45) (p := 2) rfl ?_); refine wpList_store_all (n := 14) (L1 := []) (mid := rhC rhz) (vs := rhC h) rfl rfl (by kernel_rfl) rfl rfl rfl rfl rfl (rhC_one _) M6.out ?_; intro w7 M; (have M7 := hid M); clear M))
      refine bodyPost_ret (v := .agg (rhC h).toArray) ?_ rfl (.mk ⟨rfl, M7.out.below⟩)
      exact results_agg (p := 2) rfl agg_rhead _ (by rfl) (M7.out.heap (.head _)) rfl
end Go.Proofs.Ytigcbficlohbmaa
