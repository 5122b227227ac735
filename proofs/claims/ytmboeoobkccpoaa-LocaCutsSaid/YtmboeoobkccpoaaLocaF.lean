/- Two slices of numbers that are the same. -/
import Derived.Test.YtmboeoobkccpoaaLocaA
import Derived.Deep.RegionWith
import Derived.Deep.DeepCutAuto
import Derived.Deep.RegionHeld3
namespace Go.Proofs.Ytmboeoobkccpoaa
open Go Go.RowKit
set_option linter.unusedVariables false
set_option linter.unusedSimpArgs false
set_option maxRecDepth 100000

set_option maxHeartbeats 2000000 in
theorem eqInts_calls (w : World) {V1 V2 : Value} {n : Nat} {xs : List Int} (hx : xs.length = n) (h1 : SliceAt w w.heap.size 1 V1 n (ints .i64 xs)) (h2 : SliceAt w w.heap.size 1 V2 n (ints .i64 xs)) :
    Calls Try.prog 17 #[V1, V2] w (Ret fun r w' => r = .bool true ∧ Below w.heap.size w w') := by
  obtain ⟨A1, c1, rfl, hc1, hm1, hA1, hr1⟩ := h1
  obtain ⟨A2, c2, rfl, hc2, hm2, hA2, hr2⟩ := h2
  unfold maxLen at hm1 hm2
  have hr1H := hid hr1
  have hr2H := hid hr2
  have hxH := hid hx
  clear hr1 hA1 hr2 hA2 hx
  go_enter Try.func17, Try.ntmps17
  go_wp2
  go_loopw [13] (fun i wr => ∃ k : Nat, k ≤ n ∧ i = .int .i64 k ∧ Hid (Own w wr [])) (fun i _ => n - (intOf i).toNat)
  case atStart => exact ⟨0, Nat.zero_le _, rfl, hid (Own.start w)⟩
  case round =>
    obtain ⟨k, hk, rfl, hb⟩ := hrel
    by_cases hlt : k < n
    · obtain ⟨a1, rfl, k1⟩ := (hr1H.out.keep (w' := wr) fun k hk _ => hb.out.below.block k hk).cell (ints_get .i64 xs k (by rw [hxH.out]; exact hlt))
      obtain ⟨a2, rfl, k2⟩ := (hr2H.out.keep (w' := wr) fun k hk _ => hb.out.below.block k hk).cell (ints_get .i64 xs k (by rw [hxH.out]; exact hlt))
      generalize xs.getD k 0 = x at *
      go_upto_region 6 with fail
      go_quiet (fail)
      go_wp2_with fail
      go_roundw
      case rel => exact ⟨k + 1, by omega, by go_num, hid (hb.out.drewN _)⟩
      case measure => simp [intOf] <;> omega
    · obtain rfl : k = n := by omega
      go_wp2
      go_ret
      exact .mk ⟨rfl, hb.out.below⟩
end Go.Proofs.Ytmboeoobkccpoaa
