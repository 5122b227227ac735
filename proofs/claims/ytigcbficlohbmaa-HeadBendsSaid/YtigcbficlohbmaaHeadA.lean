/- Package head: what it holds; whether it is right; thousandths. -/
import Derived.Test.YtigcbficlohbmaaRead
import Derived.Test.YtigcbficlohbmaaAgg
import Derived.Deep.RegionHeld3
namespace Go.Proofs.Ytigcbficlohbmaa
open Go Go.RowKit
set_option linter.unusedVariables false
set_option linter.unusedSimpArgs false
set_option maxRecDepth 100000

structure Hd where
  rv : Int
  adj : Int
  fl : Int
  un : Int
  cr : Int
  md : Int
  b0 : Int
  b1 : Int
  b2 : Int
  b3 : Int
  st : Int
  lo : Int
  hi : Int
  lg : Bool
def hdC (h : Hd) : List Value := [.int .u32 h.rv, .int .u32 h.adj, .int .u16 h.fl, .int .u16 h.un, .int .u64 h.cr, .int .u64 h.md, .int .i16 h.b0, .int .i16 h.b1, .int .i16 h.b2, .int .i16 h.b3, .int .u16 h.st, .int .u16 h.lo, .int .i16 h.hi, .bool h.lg]
structure Hd.ok (h : Hd) : Prop where
  rv : 0 ≤ h.rv ∧ h.rv < 4294967296
  adj : 0 ≤ h.adj ∧ h.adj < 4294967296
  fl : 0 ≤ h.fl ∧ h.fl < 65536
  un : 0 ≤ h.un ∧ h.un < 65536
  cr : 0 ≤ h.cr ∧ h.cr < 18446744073709551616
  md : 0 ≤ h.md ∧ h.md < 18446744073709551616
  b0 : -32768 ≤ h.b0 ∧ h.b0 < 32768
  b1 : -32768 ≤ h.b1 ∧ h.b1 < 32768
  b2 : -32768 ≤ h.b2 ∧ h.b2 < 32768
  b3 : -32768 ≤ h.b3 ∧ h.b3 < 32768
  st : 0 ≤ h.st ∧ h.st < 65536
  lo : 0 ≤ h.lo ∧ h.lo < 65536
  hi : -32768 ≤ h.hi ∧ h.hi < 32768
def Hd.right (h : Hd) : Bool := decide (16 ≤ h.un) && decide (h.un ≤ 16384)
theorem hdC_one (h : Hd) : ∀ v ∈ hdC h, v.oneCell' = true := by
  intro v hv
  simp only [hdC, List.mem_cons, List.not_mem_nil, or_false] at hv
  rcases hv with rfl | rfl | rfl | rfl | rfl | rfl | rfl | rfl | rfl | rfl | rfl | rfl | rfl | rfl <;> rfl
theorem agg_head : AggOf Try.prog 29 14 := .mk' Try.underlying29 rfl (by kernel_rfl)
theorem agg_box : AggOf Try.prog 27 4 := .mk' Try.underlying27 rfl (by kernel_rfl)

theorem headRight_calls (w : World) (h : Hd) : Calls Try.prog 15 #[.agg (hdC h).toArray] w (Ret fun r w' => r = .bool h.right ∧ Below w.heap.size w w') := by
  have M0 := hid (Own.start w)
  have hq : h.right = (decide (16 ≤ h.un) && decide (h.un ≤ 16384)) := rfl
  have hqH := hid hq
  clear hq
  by_cases h1 : 16 ≤ h.un
  · by_cases h2 : h.un ≤ 16384
    all_goals
      have e1 := hid (show decide (16 ≤ h.un) = true from decide_eq_true h1)
      have e2 := hid (show decide (h.un ≤ 16384) = _ from by first | exact decide_eq_true h2 | exact decide_eq_false h2)
      go_enter Try.func15, Try.ntmps15
      go_wp2_with ((with_reducible refine gate (N := 1) rfl ?_); refine wpList_box_Own rfl (cs := (hdC h).toArray) (t := 29) (by first | (go_simp; done) | (go_simp; rfl)) M0.out ?_; intro m w1 M; (have M1 := hid M); (have c0 : w1.cell? ⟨m, 3, none⟩ = some (.int .u16 h.un) := M.cell (.head _) 3); clear M)
      go_ret
      exact .mk ⟨by rw [hqH.out, e1.out, e2.out]; rfl, M1.out.below⟩
  · have e1 := hid (show decide (16 ≤ h.un) = false from decide_eq_false h1)
    go_enter Try.func15, Try.ntmps15
    go_wp2_with ((with_reducible refine gate (N := 1) rfl ?_); refine wpList_box_Own rfl (cs := (hdC h).toArray) (t := 29) (by first | (go_simp; done) | (go_simp; rfl)) M0.out ?_; intro m w1 M; (have M1 := hid M); (have c0 : w1.cell? ⟨m, 3, none⟩ = some (.int .u16 h.un) := M.cell (.head _) 3); clear M)
    go_ret
    exact .mk ⟨by rw [hqH.out, e1.out]; rfl, M1.out.below⟩

theorem tmod_sign {m u : Int} (hu : 0 < u) : -u < m.tmod u ∧ m.tmod u < u := by
  rcases Int.le_total 0 m with h | h
  · rw [Int.tmod_eq_emod_of_nonneg h]
    exact ⟨by have := Int.emod_nonneg m (show u ≠ 0 by omega); omega, Int.emod_lt_of_pos _ hu⟩
  · have e : m.tmod u = -((-m) % u) := by
      rw [← Int.tmod_eq_emod_of_nonneg (a := -m) (by omega), Int.neg_tmod, Int.neg_neg]
    have := Int.emod_nonneg (-m) (show u ≠ 0 by omega)
    have := Int.emod_lt_of_pos (-m) hu
    omega
theorem floor_pos {m u : Int} (hu : 0 < u) (h : ¬ m.tmod u < 0) : m.tdiv u = m / u := by
  have e := Int.tmod_add_mul_tdiv m u
  exact ((Int.ediv_emod_unique hu).2 ⟨e, by omega, (tmod_sign hu).2⟩).1.symm
theorem floor_neg {m u : Int} (hu : 0 < u) (h : m.tmod u < 0) : m.tdiv u - 1 = m / u := by
  have e := Int.tmod_add_mul_tdiv m u
  refine ((Int.ediv_emod_unique hu (r := m.tmod u + u)).2 ⟨?_, by have := (tmod_sign (m := m) hu).1; omega, by omega⟩).1.symm
  rw [Int.mul_sub, Int.mul_one]; omega
theorem floor_tmod {m u : Int} (hu : 0 < u) : (m.tmod u + u).tmod u = m % u := by
  have e := Int.tmod_add_mul_tdiv m u
  have hs := tmod_sign (m := m) hu
  rw [Int.tmod_eq_emod_of_nonneg (by omega), Int.add_emod_right]
  by_cases h : m.tmod u < 0
  · have := ((Int.ediv_emod_unique (a := m) hu (r := m.tmod u + u) (q := m.tdiv u - 1)).2 ⟨by rw [Int.mul_sub, Int.mul_one]; omega, by omega, by omega⟩).2
    rw [this, ← Int.add_emod_right]
    exact Int.emod_eq_of_lt (by omega) (by omega)
  · have := ((Int.ediv_emod_unique (a := m) hu (r := m.tmod u) (q := m.tdiv u)).2 ⟨e, by omega, hs.2⟩).2
    rw [this]
    exact Int.emod_eq_of_lt (by omega) hs.2
theorem floor_sub {m u : Int} (hu : 0 < u) : (m - m % u).tdiv u = m / u := by
  have e := Int.mul_ediv_add_emod m u
  rw [show m - m % u = u * (m / u) by omega]
  exact Int.mul_tdiv_cancel_left _ (by omega)

set_option maxHeartbeats 1000000 in
theorem headThou_calls (w : World) (h : Hd) {n : Int} (n0 : -1099511627776 < n) (n1 : n < 1099511627776) (hr : h.right = true) :
    Calls Try.prog 9 #[.agg (hdC h).toArray, .int .i64 n] w (Ret fun r w' => r = .int .i64 ((n * 1000 + h.un / 2) / h.un) ∧ Below w.heap.size w w') := by
  have M0 := hid (Own.start w)
  have hR := hid (fun w => headRight_calls w h)
  rw [hr] at hR
  have hu : 16 ≤ h.un ∧ h.un ≤ 16384 := by simpa [Hd.right] using hr
  obtain ⟨u0, u1⟩ := hu
  clear hr
  have hc : (hdC h)[3]? = some (.int .u16 h.un) := rfl
  have hl : (hdC h).length = 14 := rfl
  have htk : (((hdC h).toArray).toList.drop 0).take 14 = hdC h := rfl
  generalize hdC h = cs at *
  generalize h.un = u at *
  have hw1 := IntWalk.i64_in (n * 1000) (by omega)
  have ht : u.tdiv 2 = u / 2 := Int.tdiv_eq_ediv_of_nonneg (by omega)
  have hw2 := IntWalk.i64_in (n * 1000 + u / 2) (by omega)
  have hm0 : -1099511627776001 < n * 1000 + u / 2 ∧ n * 1000 + u / 2 < 1099511627785000 := by omega
  generalize hm : n * 1000 + u / 2 = m' at *
  have hq := Int.natAbs_tdiv_le_natAbs m' u
  have hw3 := IntWalk.i64_in (m'.tdiv u - 1) (by omega)
  have F1 := hid (fun h => floor_pos (m := m') (u := u) (by omega) h)
  have F2 := hid (fun h => floor_neg (m := m') (u := u) (by omega) h)
  clear hq
  by_cases hs : m'.tmod u < 0
  all_goals
    have hF := hid (show _ = m' / u by first | exact F1.out hs | exact F2.out hs)
    go_enter Try.func9, Try.ntmps9
    go_wp2_with (first
      | ((with_reducible refine gate (N := 2) rfl ?_); refine wpList_box_Own rfl (cs := cs.toArray) (t := 29) (by first | (go_simp; done) | (go_simp; rfl)) M0.out ?_; intro m w1 M; (have M1 := hid M); clear M)
      | ((with_reducible refine gate (N := 7) rfl ?_); refine wpList_run rfl (exec_load_agg agg_head rfl rfl M1.out (g := m) (t := 29) (cs := cs.toArray) (.head _) htk hl) ?_)
      | (go_at_call 15; refine (hR.out _).mono ?_; rintro _ w2 ⟨_, rfl, rfl, hb⟩; (have M2 := hid (M1.out.keep hb)); (have c0 : w2.cell? ⟨m, 3, none⟩ = some (.int .u16 u) := by (have := M2.out.cell (.head _) 3); simpa [hc] using this); clear hb))
    go_ret
    exact .mk ⟨by rw [← hF.out]; rfl, M2.out.below⟩
theorem headThou_no (w : World) (h : Hd) (n : Int) (hr : h.right = false) :
    Calls Try.prog 9 #[.agg (hdC h).toArray, .int .i64 n] w (Ret fun r w' => r = .int .i64 0 ∧ Below w.heap.size w w') := by
  have M0 := hid (Own.start w)
  have hR := hid (fun w => headRight_calls w h)
  rw [hr] at hR
  have hl : (hdC h).length = 14 := rfl
  have htk : (((hdC h).toArray).toList.drop 0).take 14 = hdC h := rfl
  generalize hdC h = cs at *
  go_enter Try.func9, Try.ntmps9
  go_wp2_with (first
    | ((with_reducible refine gate (N := 2) rfl ?_); refine wpList_box_Own rfl (cs := cs.toArray) (t := 29) (by first | (go_simp; done) | (go_simp; rfl)) M0.out ?_; intro m w1 M; (have M1 := hid M); clear M)
    | ((with_reducible refine gate (N := 7) rfl ?_); refine wpList_run rfl (exec_load_agg agg_head rfl rfl M1.out (g := m) (t := 29) (cs := cs.toArray) (.head _) htk hl) ?_)
    | (go_at_call 15; refine (hR.out _).mono ?_; rintro _ w2 ⟨_, rfl, rfl, hb⟩; (have M2 := hid (M1.out.keep hb)); clear hb))
  go_ret
  exact .mk ⟨rfl, M2.out.below⟩
theorem refThou_calls (w : World) {u n : Int} (n0 : -1099511627776 < n) (n1 : n < 1099511627776) (u0 : 16 ≤ u) (u1 : u ≤ 16384) :
    Calls Try.prog 10 #[.int .i64 u, .int .i64 n] w (Ret fun r w' => r = .int .i64 ((n * 1000 + u / 2) / u) ∧ Below w.heap.size w w') := by
  have hw1 := IntWalk.i64_in (1000 * n) (by omega)
  have ht : u.tdiv 2 = u / 2 := Int.tdiv_eq_ediv_of_nonneg (by omega)
  have hw2 := IntWalk.i64_in (1000 * n + u / 2) (by omega)
  rw [show n * 1000 = 1000 * n by omega]
  have hm0 : -1099511627776001 < 1000 * n + u / 2 ∧ 1000 * n + u / 2 < 1099511627785000 := by omega
  generalize hm : 1000 * n + u / 2 = m' at *
  have hs := tmod_sign (m := m') (u := u) (by omega)
  have hw3 := IntWalk.i64_in (m'.tmod u + u) (by omega)
  have h1 := floor_tmod (m := m') (u := u) (by omega)
  have h2 := Int.emod_nonneg m' (show u ≠ 0 by omega)
  have h3 := Int.emod_lt_of_pos m' (show 0 < u by omega)
  have hw4 := IntWalk.i64_in (m' - m' % u) (by omega)
  have h4 := floor_sub (m := m') (u := u) (by omega)
  have hq := Int.natAbs_tdiv_le_natAbs m' u
  have hw5 := IntWalk.i64_in (m' / u) (by
    by_cases h : m'.tmod u < 0
    · have := floor_neg (m := m') (u := u) (by omega) h; omega
    · have := floor_pos (m := m') (u := u) (by omega) h; omega)
  clear hq
  go_enter Try.func10, Try.ntmps10
  go_wp2_with fail
  go_ret
  exact .mk ⟨rfl, by go_grown⟩
end Go.Proofs.Ytigcbficlohbmaa
