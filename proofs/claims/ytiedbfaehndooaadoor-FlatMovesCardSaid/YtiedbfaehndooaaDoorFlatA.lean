/- Package flat: what stands behind a glyph, if it is nothing; is a number on the way? -/
import Derived.Test.YtiedbfaehndooaaDoorSimpW
import Derived.Test.YtiedbfaehndooaaDoorLaw13B
namespace Go.Proofs.YtiedbfaehndooaaDoor
open Go Go.RowKit
set_option linter.unusedVariables false
set_option linter.unusedSimpArgs false
set_option maxRecDepth 100000

theorem trim0_calls (w : World) (A : Option Addr) (c : Nat) (s : Value) : Calls Tryd.prog 58 #[.slice A 0 c, s] w (Ret fun r w' => r = .slice none 0 0 ∧ w = w') := by
  go_enter Tryd.func58, Tryd.ntmps58
  go_wp2
  go_ret
  exact .mk ⟨rfl, rfl⟩
theorem rest0_calls (w : World) (A : Option Addr) (c : Nat) : Calls Tryd.prog 46 #[.slice A 0 c] w (Ret fun r w' => r = .bool true ∧ w = w') := by
  go_enter Tryd.func46, Tryd.ntmps46
  go_wp2_with (go_at_call 58; (with_reducible refine (trim0_calls w A c _).mono ?_); rintro _ w ⟨_, rfl, rfl, rfl⟩)
  go_ret
  exact .mk ⟨rfl, rfl⟩
/-- Where a number stands first among others, or none. -/
def idxI (l : List Int) (x : Int) : Int := if x ∈ l then (l.idxOf x : Nat) else -1
set_option maxHeartbeats 2000000 in
theorem index_calls (w : World) {V : Value} {n : Nat} {l : List Int} (x : Int) (hl : l.length = n) (h1 : SliceAt w w.heap.size 1 V n (ints .i64 l)) :
    Calls Tryd.prog 43 #[V, .int .i64 x] w (Ret fun r w' => ∃ z : Int, r = .int .i64 z ∧ ((0 ≤ z) ↔ x ∈ l) ∧ Below w.heap.size w w') := by
  obtain ⟨A1, c1, rfl, hc1, hm1, hA1, hr1⟩ := h1
  unfold maxLen at hm1
  have hs1 := hid (fun i (hi : i < n) w' (hb : Below w.heap.size w w') => show ∃ ad, A1 = some ad ∧ w'.cell? (ad.add i) = some (.int .i64 (l.getD i 0)) from
    (hr1.keep (w' := w') fun k hk _ => hb.block k hk).cell (by rw [ints_get .i64 l i (by omega)]))
  have hlH := hid hl
  clear hr1 hA1 hl
  go_enter Tryd.func43, Tryd.ntmps43
  go_wp2
  go_loopw [8] (fun i wr => ∃ k : Nat, k ≤ n ∧ i = .int .i64 k ∧ Hid (∀ j, j < k → l.getD j 0 ≠ x) ∧ Hid (Own w wr [])) (fun i _ => n - (intOf i).toNat)
  case atStart => exact ⟨0, Nat.zero_le _, rfl, hid (fun j hj => absurd hj (by omega)), hid (Own.start w)⟩
  case round =>
    obtain ⟨k, hk, rfl, hno, hb⟩ := hrel
    by_cases hlt : k < n
    · obtain ⟨a1, rfl, k1⟩ := hs1.out k hlt wr hb.out.below
      have hin := hid (show l.getD k 0 = x → x ∈ l from fun h => by
        rw [← h]
        have := hlH.out
        simp [List.getD, show k < l.length by omega])
      have hnx := hid (show l.getD k 0 ≠ x → ∀ j, j < k + 1 → l.getD j 0 ≠ x from fun h j hj => by
        by_cases e : j = k
        · rw [e]; exact h
        · exact hno.out j (by omega))
      clear hno
      generalize l.getD k 0 = y at *
      by_cases hy : y = x
      · have hyb : (x == y) = true := by rw [beq_iff_eq]; exact hy.symm
        have hyb' : (y == x) = true := by rw [beq_iff_eq]; exact hy
        have hi := hid (hin.out hy)
        clear hy hin hnx
        go_wp2
        go_ret
        exact .mk ⟨k, rfl, ⟨fun _ => hi.out, fun _ => by omega⟩, by first | exact hb.out.below | exact (hb.out.drewN _).below | exact hb.out.drew.below⟩
      · have hyb : (x == y) = false := by rw [beq_eq_false_iff_ne]; exact fun e => hy e.symm
        have hyb' : (y == x) = false := by rw [beq_eq_false_iff_ne]; exact hy
        have hn2 := hid (hnx.out hy)
        clear hy hin hnx
        go_wp2
        go_roundw
        case rel => exact ⟨k + 1, by omega, by go_num, hn2, hb⟩
        case measure => simp [intOf] <;> omega
    · obtain rfl : n = k := by omega
      have hni := hid (show ¬ x ∈ l from fun h => by
        obtain ⟨i, hi, e⟩ := List.getElem_of_mem h
        exact hno.out i (by rw [← hlH.out]; exact hi) (by simp [List.getD, hi, e]))
      go_wp2
      go_ret
      exact .mk ⟨-1, rfl, ⟨fun h => by omega, fun h => absurd h hni.out⟩, hb.out.below⟩
set_option maxHeartbeats 2000000 in
theorem contains_calls (w : World) {V : Value} {n : Nat} {l : List Int} (x : Int) (hl : l.length = n) (h1 : SliceAt w w.heap.size 1 V n (ints .i64 l)) :
    Calls Tryd.prog 35 #[V, .int .i64 x] w (Ret fun r w' => r = .bool (decide (x ∈ l)) ∧ Below w.heap.size w w') := by
  have hI := hid (index_calls w x hl h1)
  obtain ⟨A1, c1, rfl, -⟩ := h1
  go_enter Tryd.func35, Tryd.ntmps35
  go_wp2_with (go_at_call 43; (with_reducible refine hI.out.mono ?_); rintro _ w1 ⟨_, rfl, z, rfl, hz, hb⟩; (have hzH := hid hz); (have hbH := hid hb); clear hz hb)
  go_ret
  refine .mk ⟨congrArg Value.bool ?_, hbH.out⟩
  rw [Bool.eq_iff_iff]
  simp only [decide_eq_true_eq]
  exact hzH.out
end Go.Proofs.YtiedbfaehndooaaDoor
