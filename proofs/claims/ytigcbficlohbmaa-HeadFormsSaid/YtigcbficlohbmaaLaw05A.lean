/- Layer 5: awake; HeadThousandths. -/
import Derived.Test.YtigcbficlohbmaaHeadB
namespace Go.Proofs.Ytigcbficlohbmaa
open Go Go.RowKit
set_option linter.unusedVariables false
set_option linter.unusedSimpArgs false
set_option maxRecDepth 100000

/-- Only the units. -/
def hdU (u : Int) : Hd := ⟨0, 0, 0, u, 0, 0, 0, 0, 0, 0, 0, 0, 0, false⟩
theorem hdU_ok {u : Int} (h0 : 0 ≤ u) (h1 : u < 65536) : (hdU u).ok := ⟨by simp [hdU], by simp [hdU], by simp [hdU], ⟨h0, h1⟩, by simp [hdU], by simp [hdU], by simp [hdU], by simp [hdU], by simp [hdU], by simp [hdU], by simp [hdU], by simp [hdU], by simp [hdU]⟩
theorem hdU_yes {u : Int} (u0 : 16 ≤ u) (u1 : u ≤ 16384) : (hdU u).right = true := by
  show (decide (16 ≤ u) && decide (u ≤ 16384)) = true
  rw [decide_eq_true u0, decide_eq_true u1]; rfl
theorem hdU_no {u : Int} (h : u < 16 ∨ 16384 < u) : (hdU u).right = false := by
  show (decide (16 ≤ u) && decide (u ≤ 16384)) = false
  rcases h with h | h
  · rw [decide_eq_false (show ¬ 16 ≤ u by omega)]; rfl
  · rw [decide_eq_false (show ¬ u ≤ 16384 by omega), Bool.and_false]

set_option maxHeartbeats 1000000 in
theorem awake_calls (w : World) : Calls Try.prog 8 #[] w (Ret fun r w' => r = .bool true ∧ Below w.heap.size w w') := by
  have M0 := hid (Own.start w)
  have hT := hid (fun w => headThou_calls w (hdU 2048) (n := 1024) (by omega) (by omega) rfl)
  rw [show ((1024 : Int) * 1000 + (hdU 2048).un / 2) / (hdU 2048).un = 500 by decide] at hT
  have hB := hid (fun w => headBytes_calls w (hdU 2048) (hdU_ok (by omega) (by omega)) rfl)
  rw [hdB_length] at hB
  go_enter Try.func8, Try.ntmps8
  go_wp2_with (first
    | ((with_reducible refine gate (N := 1) rfl ?_); refine wpList_box_Own rfl (cs := (hdC (hdU 0)).toArray) (t := 29) (by first | (go_simp; done) | (go_simp; rfl)) M0.out ?_; intro m w1 M; (have M1 := hid M); clear M)
    | ((with_reducible refine gateSt (t := 29) (p := 1) rfl ?_); refine wpList_store_all (n := 14) (L1 := []) (mid := hdC (hdU 0)) (vs := hdC (hdU 2048)) rfl rfl (by kernel_rfl) rfl rfl rfl rfl rfl (hdC_one _) M1.out ?_; intro w2 M; (have M2 := hid M); clear M)
    | ((with_reducible refine gate (N := 3) rfl ?_); refine wpList_run rfl (exec_load_agg agg_head rfl rfl M2.out (g := m) (t := 29) (cs := (hdC (hdU 2048)).toArray) (vs := hdC (hdU 2048)) (.head _) rfl rfl) ?_)
    | (go_at_call 9; refine (hT.out _).mono ?_; rintro _ w3 ⟨_, rfl, rfl, hb⟩; (have M3 := hid (M2.out.keep hb)); clear hb)
    | ((with_reducible refine gate (N := 7) rfl ?_); refine wpList_run rfl (exec_load_agg agg_head rfl rfl M3.out (g := m) (t := 29) (cs := (hdC (hdU 2048)).toArray) (vs := hdC (hdU 2048)) (.head _) rfl rfl) ?_)
    | (go_at_call 11; refine (hB.out _).mono ?_; rintro _ w4 ⟨_, rfl, M⟩; obtain ⟨A, c, rfl⟩ := M.form (.head _); (have M4 := hid (M3.out.lift M)); clear M))
  go_ret
  exact .mk ⟨rfl, M4.out.below⟩

theorem thou_near {u n : Int} (u0 : 16 ≤ u) : 2 * (u * ((n * 1000 + u / 2) / u) - 1000 * n) ≤ u ∧ 2 * (u * ((n * 1000 + u / 2) / u) - 1000 * n) > -u - 2 := by
  have e := Int.mul_ediv_add_emod (n * 1000 + u / 2) u
  have h0 := Int.emod_nonneg (n * 1000 + u / 2) (show u ≠ 0 by omega)
  have h1 := Int.emod_lt_of_pos (n * 1000 + u / 2) (show 0 < u by omega)
  generalize u * ((n * 1000 + u / 2) / u) = x at *
  generalize (n * 1000 + u / 2) % u = r at *
  omega
theorem thou_one {u : Int} (u0 : 16 ≤ u) : (u * 1000 + u / 2) / u = 1000 := by
  rw [Int.add_comm, Int.add_mul_ediv_left _ _ (by omega), Int.ediv_eq_zero_of_lt (by omega) (by omega)]
  rfl
theorem thou_zero {u : Int} (u0 : 16 ≤ u) : (0 * 1000 + u / 2) / u = 0 := by
  rw [Int.zero_mul, Int.zero_add]
  exact Int.ediv_eq_zero_of_lt (by omega) (by omega)

set_option maxHeartbeats 1000000 in
theorem thou_no (w : World) {u n : Int} (h0 : 0 ≤ u) (h1 : u < 65536) (hr : u < 16 ∨ 16384 < u) :
    Calls Try.prog 3 #[.int .u16 u, .int .i64 n] w (Ret fun r w' => r = .bool true ∧ Below w.heap.size w w') := by
  have M0 := hid (Own.start w)
  have hT := hid (fun w => headThou_no w (hdU u) (n.tmod 1099511627776) (hdU_no hr))
  have hg : (u < 16) ∨ (¬ u < 16 ∧ u > 16384) := by omega
  rcases hg with hg | ⟨hg, hg'⟩
  all_goals
    go_enter Try.func3, Try.ntmps3
    go_wp2_with (first
      | (go_at_call 8; refine (awake_calls _).mono ?_; rintro _ w1 ⟨_, rfl, rfl, hb⟩; (have M1 := hid (M0.out.keep hb)); clear hb)
      | ((with_reducible refine gate (N := 5) rfl ?_); refine wpList_box_Own rfl (cs := (hdC (hdU 0)).toArray) (t := 29) (by first | (go_simp; done) | (go_simp; rfl)) M1.out ?_; intro m w2 M; (have M2 := hid M); clear M)
      | ((with_reducible refine gateSt (t := 29) (p := 5) rfl ?_); refine wpList_store_all (n := 14) (L1 := []) (mid := hdC (hdU 0)) (vs := hdC (hdU u)) rfl rfl (by kernel_rfl) rfl rfl rfl rfl rfl (hdC_one _) M2.out ?_; intro w3 M; (have M3 := hid M); clear M)
      | ((with_reducible refine gate (N := 14) rfl ?_); refine wpList_run rfl (exec_load_agg agg_head rfl rfl M3.out (g := m) (t := 29) (cs := (hdC (hdU u)).toArray) (vs := hdC (hdU u)) (.head _) rfl rfl) ?_)
      | (go_at_call 9; refine (hT.out _).mono ?_; rintro _ w4 ⟨_, rfl, rfl, hb⟩; (have M4 := hid (M3.out.keep hb)); clear hb))
    go_ret
    exact .mk ⟨rfl, M4.out.below⟩

set_option maxHeartbeats 2000000 in
theorem thou_yes (w : World) {u n : Int} (u0 : 16 ≤ u) (u1 : u ≤ 16384) :
    Calls Try.prog 3 #[.int .u16 u, .int .i64 n] w (Ret fun r w' => r = .bool true ∧ Below w.heap.size w w') := by
  have M0 := hid (Own.start w)
  have hm : -1099511627776 < n.tmod 1099511627776 ∧ n.tmod 1099511627776 < 1099511627776 := tmod_sign (by omega)
  generalize hn : n.tmod 1099511627776 = n' at *
  have hr := hdU_yes u0 u1
  have hT := hid (fun w => headThou_calls w (hdU u) (n := n') hm.1 hm.2 hr)
  have hT1 := hid (fun w => headThou_calls w (hdU u) (n := u) (by omega) (by omega) hr)
  have hT0 := hid (fun w => headThou_calls w (hdU u) (n := 0) (by omega) (by omega) hr)
  have hP := hid (fun w => refThou_calls w (u := u) (n := n') hm.1 hm.2 u0 u1)
  rw [show (hdU u).un = u from rfl] at hT hT1 hT0
  rw [thou_one u0] at hT1
  rw [thou_zero u0] at hT0
  have hN := thou_near (n := n') u0
  clear hr
  obtain ⟨hm0, hm1⟩ := hm
  obtain ⟨hN0, hN1⟩ := hN
  generalize (n' * 1000 + u / 2) / u = k at *
  have hw0 : u * k - 1000 * n' ≤ u ∧ u * k - 1000 * n' > -u - 2 := by
    generalize u * k = x at *; omega
  have hw1 := IntWalk.i64_in (1000 * n') (by omega)
  have hw2 := IntWalk.i64_in (u * k) (by generalize u * k = x at *; omega)
  have hw3 := IntWalk.i64_in (u * k - 1000 * n') (by generalize u * k = x at *; omega)
  have hw4 := IntWalk.i64_in (2 * (u * k - 1000 * n')) (by generalize u * k = x at *; omega)
  have hw5 := IntWalk.i64_in (-u) (by omega)
  have hw6 := IntWalk.i64_in (-u - 2) (by omega)
  have g1 : ¬ u < 16 := by omega
  have g2 : ¬ u > 16384 := by omega
  have d1 : decide (2 * (u * k - 1000 * n') ≤ u) = true := decide_eq_true hN0
  have d2 : decide (2 * (u * k - 1000 * n') > -u - 2) = true := decide_eq_true hN1
  clear hN0 hN1 hw0
  generalize hx : u * k = x at *
  go_enter Try.func3, Try.ntmps3
  go_wp2_with (first
      | (go_at_call 8; refine (awake_calls _).mono ?_; rintro _ w1 ⟨_, rfl, rfl, hb⟩; (have M1 := hid (M0.out.keep hb)); clear hb)
      | ((with_reducible refine gate (N := 5) rfl ?_); refine wpList_box_Own rfl (cs := (hdC (hdU 0)).toArray) (t := 29) (by first | (go_simp; done) | (go_simp; rfl)) M1.out ?_; intro m w2 M; (have M2 := hid M); clear M)
      | ((with_reducible refine gateSt (t := 29) (p := 5) rfl ?_); refine wpList_store_all (n := 14) (L1 := []) (mid := hdC (hdU 0)) (vs := hdC (hdU u)) rfl rfl (by kernel_rfl) rfl rfl rfl rfl rfl (hdC_one _) M2.out ?_; intro w3 M; (have M3 := hid M); clear M)
      | ((with_reducible refine gate (N := 14) rfl ?_); refine wpList_run rfl (exec_load_agg agg_head rfl rfl M3.out (g := m) (t := 29) (cs := (hdC (hdU u)).toArray) (vs := hdC (hdU u)) (.head _) rfl rfl) ?_)
      | (go_at_call 9; refine (hT.out _).mono ?_; rintro _ w4 ⟨_, rfl, rfl, hb⟩; (have M4 := hid (M3.out.keep hb)); clear hb hT)
      | (go_at_call 10; refine (hP.out _).mono ?_; rintro _ w5 ⟨_, rfl, rfl, hb⟩; (have M5 := hid (M4.out.keep hb)); clear hb)
      | ((with_reducible refine gate (N := 57) rfl ?_); refine wpList_run rfl (exec_load_agg agg_head rfl rfl M5.out (g := m) (t := 29) (cs := (hdC (hdU u)).toArray) (vs := hdC (hdU u)) (.head _) rfl rfl) ?_)
      | (go_at_call 9; refine (hT1.out _).mono ?_; rintro _ w6 ⟨_, rfl, rfl, hb⟩; (have M6 := hid (M5.out.keep hb)); clear hb hT1)
      | ((with_reducible refine gate (N := 63) rfl ?_); refine wpList_run rfl (exec_load_agg agg_head rfl rfl M6.out (g := m) (t := 29) (cs := (hdC (hdU u)).toArray) (vs := hdC (hdU u)) (.head _) rfl rfl) ?_)
      | (go_at_call 9; refine (hT0.out _).mono ?_; rintro _ w7 ⟨_, rfl, rfl, hb⟩; (have M7 := hid (M6.out.keep hb)); clear hb))
  go_ret
  exact .mk ⟨rfl, M7.out.below⟩
theorem headThousandths_calls (w : World) {u n : Int} (h0 : 0 ≤ u) (h1 : u < 65536) :
    Calls Try.prog 3 #[.int .u16 u, .int .i64 n] w (Ret fun r w' => r = .bool true ∧ Below w.heap.size w w') := by
  by_cases h : 16 ≤ u ∧ u ≤ 16384
  · exact thou_yes w h.1 h.2
  · exact thou_no w h0 h1 (by omega)
end Go.Proofs.Ytigcbficlohbmaa
