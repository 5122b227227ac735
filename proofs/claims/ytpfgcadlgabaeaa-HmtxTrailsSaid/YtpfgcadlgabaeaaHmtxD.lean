/- The document's metrics are read. -/
import Derived.Test.YtpfgcadlgabaeaaHmtxC
import Derived.Test.YtpfgcadlgabaeaaLaw07A
import Derived.Test.YtpfgcadlgabaeaaRefC
namespace Go.Proofs.Ytpfgcadlgabaeaa
open Go Go.RowKit
set_option linter.unusedVariables false
set_option linter.unusedSimpArgs false
set_option maxRecDepth 100000

theorem rmC_append (a b : List (Int × Int)) : rmC (a ++ b) = rmC a ++ rmC b := List.flatMap_append
set_option maxHeartbeats 4000000 in
theorem refParse_yes (w : World) {V : Value} {l : List Int} (h1 : BytesAt w V l) (hB : Bytes l) {lo g : Nat} (l0 : 1 ≤ lo) (l1 : lo ≤ g) (g1 : g < 65536) (hlen : l.length = 2 * lo + 2 * g) :
    Calls Try.prog 22 #[V, .int .i64 lo, .int .i64 g] w (Ret fun r w' => ∃ v, r = .tuple #[v, .bool true] ∧ Own w w' [.row 58 2 v g (rmC (pms l lo g))]) := by
  have hN2' := hid (fun w1 (h : Below w.heap.size w w1) (a : Nat) (ha : a ≤ 400000) => N2_calls w1 a (by omega) hB (h1.below h))
  obtain ⟨A1, c1, rfl, hc1, hm1, hA1, -⟩ := h1
  unfold maxLen at hm1
  have hN2 := hN2'
  have hBH := hid hB
  clear hA1 hB hN2'
  have e3 : ((l.length : Int) != 2 * (lo : Int) + 2 * (g : Int)) = false := by rw [bne_eq_false_iff_eq]; omega
  clear hlen
  go_enter Try.func22, Try.ntmps22
  go_wp2
  go_loopw [8, 9] (fun o i wr => ∃ (k : Nat) (A : Option Addr) (c : Nat), k ≤ g ∧ i = .int .i64 k ∧ o = .slice A k c ∧ Hid (Own w wr [.row 58 2 (.slice A k c) k (rmC (pms l lo k))])) (fun _ i _ => g - (intOf i).toNat)
  case atStart => exact ⟨0, none, 0, Nat.zero_le _, rfl, rfl, hid (by simpa [pms, rmC] using (Own.start w).nil_row 58 2)⟩
  case round =>
    obtain ⟨k, A, c, hk, rfl, rfl, MH⟩ := hrel
    by_cases hlt : k < g
    · by_cases hkl : k < lo
      · have f1 : (k : Int) < lo := by omega
        have f2 : (k : Int) ≤ (lo : Int) - 1 := by omega
        have f3 : min (k : Int) ((lo : Int) - 1) = k := by omega
        have f4 : ¬ ((lo : Int) - 1 < k) := by omega
        have f5 : ¬ ((k : Int) ≥ lo) := by omega
        have hNa := hid (fun w1 (h : Below w.heap.size w w1) => show Calls Try.prog 33 #[.slice A1 l.length c1, .int .i64 (4 * (k : Int))] w1 _ from by have := hN2.out w1 h (4 * k) (by omega); rw [show ((4 * k : Nat) : Int) = 4 * (k : Int) by omega] at this; exact this)
        have hNb := hid (fun w1 (h : Below w.heap.size w w1) => show Calls Try.prog 33 #[.slice A1 l.length c1, .int .i64 (4 * (k : Int) + 2)] w1 _ from by have := hN2.out w1 h (4 * k + 2) (by omega); rw [show ((4 * k + 2 : Nat) : Int) = 4 * (k : Int) + 2 by omega] at this; exact this)
        have hpm := hid (show pm l lo k = (n2 l (4 * k), sgn (n2 l (4 * k + 2))) by unfold pm; rw [show min k (lo - 1) = k by omega, if_pos hkl])
        obtain ⟨z0, z1⟩ := n2_bound hBH.out (4 * k)
        obtain ⟨y0, y1⟩ := n2_bound hBH.out (4 * k + 2)
        generalize n2 l (4 * k) = z at *
        generalize n2 l (4 * k + 2) = y at *
        generalize decide ((4 * k) + 2 ≤ l.length) = d1 at *
        generalize decide ((4 * k + 2) + 2 ≤ l.length) = d2 at *
        go_wp2_with (first
          | (go_at_call 33; (with_reducible refine (hNa.out _ MH.out.below).mono ?_); rintro _ w5 ⟨_, rfl, rfl, hb⟩; (have M5 := hid (MH.out.keep hb)); clear hb)
          | (go_at_call 33; (with_reducible refine (hNb.out _ M5.out.below).mono ?_); rintro _ w6 ⟨_, rfl, rfl, hb⟩; (have M6 := hid (M5.out.keep hb)); clear hb)
          | (go_at_call 34; refine (Sign_calls _ y0 y1).mono ?_; rintro _ w7 ⟨_, rfl, rfl, rfl⟩)
          | (at_builtin; refine wpList_append_Own rfl (.tmp 59) (.tmp 64) _ rfl sized_rmetric rfl rfl (L1 := [.blk w6.heap.size 58 #[.int .i64 z, .int .i64 (sgn y)]]) (L2 := []) (M6.out.alloc _ _) (SliceAt.built (M6.out.alloc _ _) (.head _) 2 1 rfl (by unfold maxLen; omega)) (by intro u hu; simp at hu; rcases hu with rfl | rfl <;> rfl) (by unfold maxLen; omega) (by omega) ?_; intro v' w' M'; obtain ⟨A7, c7, rfl⟩ := M'.tail.form (.head _); (have M7 := hid M'.tail); clear M'))
        go_roundw
        case rel => exact ⟨k + 1, A7, c7, by omega, by go_num, rfl, by rw [pms_succ, hpm.out, rmC_append]; exact M7⟩
        case measure => simp [intOf] <;> omega
      · have f1 : ¬ (k : Int) < lo := by omega
        have f2 : (lo : Int) - 1 < k := by omega
        have f3 : min (k : Int) ((lo : Int) - 1) = (lo : Int) - 1 := by omega
        have f4 : ¬ ((k : Int) ≤ (lo : Int) - 1) := by omega
        have f5 : (k : Int) ≥ lo := by omega
        have f6 : (lo : Int) ≤ k := by omega
        have hNa := hid (fun w1 (h : Below w.heap.size w w1) => show Calls Try.prog 33 #[.slice A1 l.length c1, .int .i64 (4 * ((lo : Int) - 1))] w1 _ from by have := hN2.out w1 h (4 * (lo - 1)) (by omega); rw [show ((4 * (lo - 1) : Nat) : Int) = 4 * ((lo : Int) - 1) by omega] at this; exact this)
        have hNb := hid (fun w1 (h : Below w.heap.size w w1) => show Calls Try.prog 33 #[.slice A1 l.length c1, .int .i64 (4 * (lo : Int) + 2 * ((k : Int) - lo))] w1 _ from by have := hN2.out w1 h (4 * lo + 2 * (k - lo)) (by omega); rw [show ((4 * lo + 2 * (k - lo) : Nat) : Int) = 4 * (lo : Int) + 2 * ((k : Int) - lo) by omega] at this; exact this)
        have hpm := hid (show pm l lo k = (n2 l (4 * (lo - 1)), sgn (n2 l (4 * lo + 2 * (k - lo)))) by unfold pm; rw [show min k (lo - 1) = lo - 1 by omega, if_neg hkl])
        obtain ⟨z0, z1⟩ := n2_bound hBH.out (4 * (lo - 1))
        obtain ⟨y0, y1⟩ := n2_bound hBH.out (4 * lo + 2 * (k - lo))
        generalize n2 l (4 * (lo - 1)) = z at *
        generalize n2 l (4 * lo + 2 * (k - lo)) = y at *
        generalize decide ((4 * (lo - 1)) + 2 ≤ l.length) = d1 at *
        generalize decide ((4 * lo + 2 * (k - lo)) + 2 ≤ l.length) = d2 at *
        go_wp2_with (first
          | (go_at_call 33; (with_reducible refine (hNa.out _ MH.out.below).mono ?_); rintro _ w5 ⟨_, rfl, rfl, hb⟩; (have M5 := hid (MH.out.keep hb)); clear hb)
          | (go_at_call 33; (with_reducible refine (hNb.out _ M5.out.below).mono ?_); rintro _ w6 ⟨_, rfl, rfl, hb⟩; (have M6 := hid (M5.out.keep hb)); clear hb)
          | (go_at_call 34; refine (Sign_calls _ y0 y1).mono ?_; rintro _ w7 ⟨_, rfl, rfl, rfl⟩)
          | (at_builtin; refine wpList_append_Own rfl (.tmp 59) (.tmp 64) _ rfl sized_rmetric rfl rfl (L1 := [.blk w6.heap.size 58 #[.int .i64 z, .int .i64 (sgn y)]]) (L2 := []) (M6.out.alloc _ _) (SliceAt.built (M6.out.alloc _ _) (.head _) 2 1 rfl (by unfold maxLen; omega)) (by intro u hu; simp at hu; rcases hu with rfl | rfl <;> rfl) (by unfold maxLen; omega) (by omega) ?_; intro v' w' M'; obtain ⟨A7, c7, rfl⟩ := M'.tail.form (.head _); (have M7 := hid M'.tail); clear M'))
        go_roundw
        case rel => exact ⟨k + 1, A7, c7, by omega, by go_num, rfl, by rw [pms_succ, hpm.out, rmC_append]; exact M7⟩
        case measure => simp [intOf] <;> omega
    · obtain rfl : k = g := by omega
      go_wp2
      go_ret2
      exact .mk ⟨_, rfl, MH.out⟩
end Go.Proofs.Ytpfgcadlgabaeaa
