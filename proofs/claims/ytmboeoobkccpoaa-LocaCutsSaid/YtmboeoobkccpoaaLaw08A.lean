/- Layer 8: awake; LocaShorts. -/
import Derived.Test.YtmboeoobkccpoaaLocaB
import Derived.Deep.RegionWith
import Derived.Deep.DeepCutAuto
import Derived.Deep.RegionHeld3
namespace Go.Proofs.Ytmboeoobkccpoaa
open Go Go.RowKit
set_option linter.unusedVariables false
set_option linter.unusedSimpArgs false
set_option maxRecDepth 100000

theorem alloc_size (w : World) (o : Obj) : (w.alloc o).heap.size = w.heap.size + 1 := Array.size_push ..
theorem good24 : Good [2, 4] := ⟨by decide, fun k hk => by
  have : k = 0 ∨ k = 1 := by simp at hk; omega
  rcases this with rfl | rfl <;> decide⟩
theorem awake_calls (w : World) : Calls Try.prog 8 #[] w (Ret fun r w' => r = .bool true ∧ Below w.heap.size w w') := by
  have M0 := hid ((Own.start w).alloc 3 #[.int .i64 2, .int .i64 4])
  have hY := hid (locaBuild_yes _ (l := [2, 4]) (SliceAt.built M0.out (.head _) 1 2 rfl (by unfold maxLen; omega)) good24)
  rw [show locB [2, 4] = [0, 0, 0, 1, 0, 3] by decide, show locL [2, 4] = false by decide, show ([0, 0, 0, 1, 0, 3] : List Int).length = 6 from rfl] at hY
  go_enter Try.func8, Try.ntmps8
  go_wp2_with (first
    | (go_at_call 9; refine hY.out.mono ?_; rintro _ w1 ⟨_, rfl, v, rfl, M⟩; obtain ⟨A, c, rfl⟩ := M.form (.head _); (have M1 := hid (M0.out.lift M)); clear M)
    | (go_at_call 11; (have M2 := M1.out.alloc 5 #[.int .u8 0, .int .u8 0, .int .u8 0, .int .u8 1, .int .u8 0, .int .u8 3]); (refine (same_calls _ (xs := [0, 0, 0, 1, 0, 3]) (ys := [0, 0, 0, 1, 0, 3]) (M2.slice (e := 5) (v := .slice A 6 c) (n := 6) (xs := ints .u8 [0, 0, 0, 1, 0, 3]) (.tail _ (.head _))) (SliceAt.built M2 (.head _) 1 6 rfl (by unfold maxLen; omega))).mono ?_); rw [decide_eq_true rfl]; rintro _ w2 ⟨_, rfl, rfl, hb⟩; (have M3 := hid (M2.keep hb)); clear hb M2))
  go_ret
  exact .mk ⟨rfl, M3.out.below⟩

theorem sum2 (a b : Int) : plc [a, b] = [0, a, a + b] := by simp [plc, plcK, psum, List.range_succ]
theorem sum3 (a b : Int) : plc [a, b, 1] = [0, a, a + b, a + b + 1] := by simp [plc, plcK, psum, List.range_succ]; omega
theorem good2 {a b : Int} (a0 : 0 ≤ a) (a1 : a ≤ 131070) (b0 : 0 ≤ b) (b1 : b ≤ 400000) : Good [a, b] := ⟨by simp, fun k hk => by
  have : k = 0 ∨ k = 1 := by simp at hk; omega
  rcases this with rfl | rfl <;> simp [psum] <;> omega⟩
theorem good3 {a b : Int} (a0 : 0 ≤ a) (a1 : a ≤ 131070) (b0 : 0 ≤ b) (b1 : b ≤ 400000) : Good [a, b, 1] := ⟨by simp, fun k hk => by
  have : k = 0 ∨ k = 1 ∨ k = 2 := by simp at hk; omega
  rcases this with rfl | rfl | rfl <;> simp [psum] <;> omega⟩
theorem locL2 {a b : Int} (a0 : 0 ≤ a) (ha : a % 2 = 0) (b0 : 0 ≤ b) (hb : b % 2 = 0) : locL [a, b] = decide (a + b > 131070) := by
  unfold locL bL
  rw [sum2]
  have e1 : (a % 2 != 0) = false := by rw [ha]; rfl
  have e2 : ((a + b) % 2 != 0) = false := by rw [show (a + b) % 2 = 0 by omega]; rfl
  simp only [List.any_cons, List.any_nil, e1, e2, Bool.false_or, Bool.or_false]
  by_cases h : a + b > 131070
  · rw [decide_eq_true h]; simp
  · rw [decide_eq_false h, decide_eq_false (show ¬ a > 131070 by omega)]; rfl
theorem locL3 {a b : Int} (ha : a % 2 = 0) (hb : b % 2 = 0) : locL [a, b, 1] = true := by
  unfold locL bL
  rw [sum3]
  have e3 : ((a + b + 1) % 2 != 0) = true := by rw [show (a + b + 1) % 2 = 1 by omega]; rfl
  simp only [List.any_cons, List.any_nil, e3, Bool.true_or, Bool.or_true, Bool.or_false]
theorem locB_length (l : List Int) : (locB l).length = locS (locL l) * (l.length + 1) := by
  unfold locB
  rw [flatE_length, plc_length]

set_option maxHeartbeats 4000000 in
theorem locaShorts_odd (w : World) {n x : Int} (n0 : 0 ≤ n) (n1 : n < 65536) (x0 : 0 ≤ x) (x1 : x < 4294967296) :
    Calls Try.prog 4 #[.int .u16 n, .int .u32 x, .bool true] w (Ret fun r w' => r = .bool true ∧ Below w.heap.size w w') := by
  have M0 := hid (Own.start w)
  have hB := hid (fun w V (h : SliceAt w w.heap.size 1 V 3 (ints .i64 [2 * n, x % 200000 * 2, 1])) => locaBuild_yes w (l := [2 * n, x % 200000 * 2, 1]) h (good3 (by omega) (by omega) (by omega) (by omega)))
  have hlen : (locB [2 * n, x % 200000 * 2, 1]).length = 16 := by rw [locB_length, locL3 (by omega) (by omega)]; rfl
  rw [locL3 (by omega) (by omega), hlen] at hB
  clear hlen
  go_enter Try.func4, Try.ntmps4
  go_wp2_with (first
    | (go_at_call 8; refine (awake_calls _).mono ?_; rintro _ w1 ⟨_, rfl, rfl, hb⟩; (have M1 := hid (M0.out.keep hb)); clear hb)
    | (at_builtin; (have Ma := ((M1.out.alloc 3 #[.int .i64 (2 * n), .int .i64 (x % 200000 * 2)]).as_row (L1 := []) 1 2 rfl (by unfold maxLen; omega)).alloc 3 #[.int .i64 1]); rw [alloc_size] at Ma; refine wpList_append_Own rfl (.tmp 23) (.tmp 24) _ rfl sized_int rfl rfl (L1 := [.blk (w1.heap.size + 1) 3 #[.int .i64 1]]) (L2 := []) (v := .slice (some { block := w1.heap.size, off := 0 }) 2 2) (n := 2) (xs := [.int .i64 (2 * n), .int .i64 (x % 200000 * 2)]) Ma (SliceAt.built Ma (.head _) 1 1 rfl (by unfold maxLen; omega)) (ints_one .i64 [1]) (by unfold maxLen; omega) (by omega) ?_; intro v' w' M'; (have M2 := hid M'.tail); clear M' Ma)
    | (go_at_call 9; obtain ⟨A, c, rfl⟩ := M2.out.form (.head _); refine (hB.out _ _ (M2.out.slice (e := 3) (.head _))).mono ?_; rintro _ w3 ⟨_, rfl, v, rfl, M⟩; obtain ⟨A2, c2, rfl⟩ := M.form (.head _); (have M3 := hid (M2.out.lift M)); clear M))
  go_quiet (fail)
  go_wp2_with fail
  go_ret
  exact .mk ⟨rfl, (M3.out.drewN _).below⟩

set_option maxHeartbeats 4000000 in
theorem locaShorts_even (w : World) {n x : Int} (n0 : 0 ≤ n) (n1 : n < 65536) (x0 : 0 ≤ x) (x1 : x < 4294967296) :
    Calls Try.prog 4 #[.int .u16 n, .int .u32 x, .bool false] w (Ret fun r w' => r = .bool true ∧ Below w.heap.size w w') := by
  have M0 := hid (Own.start w)
  have hB := hid (fun w V (h : SliceAt w w.heap.size 1 V 2 (ints .i64 [2 * n, x % 200000 * 2])) => locaBuild_yes w (l := [2 * n, x % 200000 * 2]) h (good2 (by omega) (by omega) (by omega) (by omega)))
  have hL := locL2 (a := 2 * n) (b := x % 200000 * 2) (by omega) (by omega) (by omega) (by omega)
  have hlen := locB_length [2 * n, x % 200000 * 2]
  by_cases hbig : 2 * n + x % 200000 * 2 > 131070
  all_goals
    rw [hL, show decide (2 * n + x % 200000 * 2 > 131070) = _ from by first | exact decide_eq_true hbig | exact decide_eq_false hbig] at hlen hB
    first | rw [hlen.trans (show _ = 6 from rfl)] at hB | rw [hlen.trans (show _ = 12 from rfl)] at hB
    obtain ⟨bb, hb2, hb3⟩ : ∃ bb, decide (131070 < 2 * n + x % 200000 * 2) = bb ∧ bb = decide (2 * n + x % 200000 * 2 > 131070) := ⟨_, rfl, rfl⟩
    first | rw [decide_eq_true hbig] at hb3 | rw [decide_eq_false hbig] at hb3
    subst hb3
    clear hlen hL
    go_enter Try.func4, Try.ntmps4
    go_wp2_with (first
      | (go_at_call 8; refine (awake_calls _).mono ?_; rintro _ w1 ⟨_, rfl, rfl, hb⟩; (have M1 := hid (M0.out.keep hb)); clear hb)
      | (go_at_call 9; (have M2 := M1.out.alloc 3 #[.int .i64 (2 * n), .int .i64 (x % 200000 * 2)]); refine (hB.out _ _ (SliceAt.built M2 (.head _) 1 2 rfl (by unfold maxLen; omega))).mono ?_; rintro _ w3 ⟨_, rfl, v, rfl, M⟩; obtain ⟨A2, c2, rfl⟩ := M.form (.head _); (have M3 := hid (M2.lift M)); clear M M2))
    have k0 := M3.out.cell (g := w1.heap.size) (t := 3) (cs := #[.int .i64 (2 * n), .int .i64 (x % 200000 * 2)]) (by simp) 0
    have k1 := M3.out.cell (g := w1.heap.size) (t := 3) (cs := #[.int .i64 (2 * n), .int .i64 (x % 200000 * 2)]) (by simp) 1
    simp only [List.getElem?_toArray, List.getElem?_cons_zero, List.getElem?_cons_succ] at k0 k1
    go_quiet (fail)
    go_wp2_with fail
    go_ret
    exact .mk ⟨rfl, (M3.out.drewN _).below⟩
theorem locaShorts_calls (w : World) {n x : Int} (o : Bool) (n0 : 0 ≤ n) (n1 : n < 65536) (x0 : 0 ≤ x) (x1 : x < 4294967296) :
    Calls Try.prog 4 #[.int .u16 n, .int .u32 x, .bool o] w (Ret fun r w' => r = .bool true ∧ Below w.heap.size w w') := by
  cases o
  · exact locaShorts_even w n0 n1 x0 x1
  · exact locaShorts_odd w n0 n1 x0 x1
end Go.Proofs.Ytmboeoobkccpoaa
