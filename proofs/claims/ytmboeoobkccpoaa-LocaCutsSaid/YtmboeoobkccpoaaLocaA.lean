/- Package loca: the places of glyphs of some sizes. -/
import Derived.Test.YtmboeoobkccpoaaRead
import Derived.Test.YtmboeoobkccpoaaRowSet
namespace Go.Proofs.Ytmboeoobkccpoaa
open Go Go.RowKit
set_option linter.unusedVariables false
set_option linter.unusedSimpArgs false
set_option maxRecDepth 100000

def psum (l : List Int) (k : Nat) : Int := (l.take k).sum
def plcK (l : List Int) (k : Nat) : List Int := (List.range (k + 1)).map (psum l)
def plc (l : List Int) : List Int := plcK l l.length
theorem psum_zero (l : List Int) : psum l 0 = 0 := rfl
theorem psum_succ {l : List Int} {k : Nat} (h : k < l.length) : psum l (k + 1) = psum l k + l.getD k 0 := by
  unfold psum
  rw [take_succ_getD h, List.sum_append]; simp
theorem plcK_length (l : List Int) (k : Nat) : (plcK l k).length = k + 1 := by simp [plcK]
theorem plc_length (l : List Int) : (plc l).length = l.length + 1 := plcK_length _ _
theorem plcK_succ (l : List Int) (k : Nat) : plcK l (k + 1) = plcK l k ++ [psum l (k + 1)] := by simp [plcK, List.range_succ]
theorem plcK_get (l : List Int) {k i : Nat} (h : i ≤ k) : (plcK l k).getD i 0 = psum l i := by
  simp [plcK, List.getD, show i < k + 1 by omega]
structure Good (l : List Int) : Prop where
  few : l.length ≤ 65535
  all : ∀ k, k < l.length → 0 ≤ l.getD k 0 ∧ l.getD k 0 ≤ 67108864 - psum l k
theorem psum_bd {l : List Int} (k : Nat) (hk : k ≤ l.length) (h : ∀ j, j < k → 0 ≤ l.getD j 0 ∧ l.getD j 0 ≤ 67108864 - psum l j) : 0 ≤ psum l k ∧ psum l k ≤ 67108864 := by
  induction k with
  | zero => rw [psum_zero]; omega
  | succ k ih =>
    have h1 := ih (by omega) fun j hj => h j (by omega)
    have h2 := h k (by omega)
    rw [psum_succ (by omega)]; omega
theorem Good.bd {l : List Int} (g : Good l) {k : Nat} (hk : k ≤ l.length) : 0 ≤ psum l k ∧ psum l k ≤ 67108864 := psum_bd k hk fun j hj => g.all j (by omega)

theorem sized_int : Sized Try.prog 22 3 1 8 := .mk' Try.underlying22 (.int .i64 0) (by kernel_rfl)

set_option maxHeartbeats 2000000 in
theorem places_yes (w : World) {V : Value} {l : List Int} (h1 : SliceAt w w.heap.size 1 V l.length (ints .i64 l)) (g : Good l) :
    Calls Try.prog 18 #[V] w (Ret fun r w' => ∃ v, r = .tuple #[v, .bool true] ∧ Own w w' [.row 3 1 v (l.length + 1) (ints .i64 (plc l))]) := by
  obtain ⟨A1, c1, rfl, hc1, hm1, hA1, hr1⟩ := h1
  unfold maxLen at hm1
  have hr1H := hid hr1
  have gH := hid g
  have hn : ¬ ((l.length : Int) > 65535) := by have := g.few; omega
  clear hr1 hA1 g
  generalize hvn : l.length = n at *
  have hvnH := hid hvn
  clear hvn
  go_enter Try.func18, Try.ntmps18
  go_wp2
  go_loopw [4, 14] (fun o i wr => ∃ k : Nat, k ≤ n ∧ i = .int .i64 k ∧ Hid (Own w wr [.row 3 1 o (k + 1) (ints .i64 (plcK l k))])) (fun _ i _ => n - (intOf i).toNat)
  case atStart => exact ⟨0, Nat.zero_le _, rfl, hid (((Own.start w).alloc 3 #[.int .i64 0]).as_row (L1 := []) 1 1 rfl (by unfold maxLen; omega))⟩
  case round =>
    obtain ⟨k, hk, rfl, MH⟩ := hrel
    obtain ⟨A2, c2, rfl⟩ := MH.out.form (.head _)
    by_cases hlt : k < n
    · obtain ⟨a1, rfl, hcell1⟩ := (hr1H.out.keep (w' := wr) fun k hk _ => MH.out.below.block k hk).cell (ints_get .i64 l k (by rw [hvnH.out]; exact hlt))
      obtain ⟨A9, c9, he, hc2, hm2, -, hr2⟩ := MH.out.slice (e := 3) (.head _)
      injection he with he1 he2 he3
      subst he1 he3
      obtain ⟨a2, rfl, hcell2⟩ := hr2.cell (ints_get .i64 (plcK l k) k (by rw [plcK_length]; omega))
      clear he2 hr2
      rw [plcK_get l (Nat.le_refl k)] at hcell2
      obtain ⟨x0, x1⟩ := gH.out.all k (by rw [hvnH.out]; exact hlt)
      have hs := hid (psum_succ (l := l) (k := k) (by rw [hvnH.out]; exact hlt))
      have hps := hid (plcK_succ l k)
      obtain ⟨s0, s1⟩ := gH.out.bd (k := k) (by rw [hvnH.out]; exact hk)
      generalize l.getD k 0 = x at *
      generalize psum l k = s at *
      have y0 : ¬ x < 0 := by omega
      have y1 : ¬ x > 67108864 - s := by omega
      unfold maxLen at hm2
      go_wp2_with (at_builtin; refine wpList_append_Own rfl (.tmp 32) (.tmp 36) _ rfl sized_int rfl rfl (L1 := [.blk wr.heap.size 3 #[.int .i64 (s + x)]]) (MH.out.alloc _ _) (SliceAt.built (MH.out.alloc _ _) (.head _) 1 1 rfl (by unfold maxLen; omega)) (ints_one .i64 [s + x]) (by unfold maxLen; omega) (by omega) ?_; intro v' w' M'; (have M'H := hid M'.tail); clear M')
      have e : ints .i64 (plcK l k) ++ #[Value.int .i64 (s + x)].toList = ints .i64 (plcK l (k + 1)) := by rw [hps.out, ints_append, hs.out]; rfl
      rw [e] at M'H
      clear e
      go_roundw
      case rel => exact ⟨k + 1, by omega, by go_num, M'H⟩
      case measure => simp [intOf]; omega
    · obtain rfl : k = n := by omega
      go_wp2
      go_ret2
      exact .mk ⟨_, rfl, by have := MH.out; unfold plc; rw [hvnH.out]; exact this⟩
set_option maxHeartbeats 2000000 in
theorem places_no (w : World) {V : Value} {l : List Int} (h1 : SliceAt w w.heap.size 1 V l.length (ints .i64 l)) (wl : ∀ x ∈ l, -9223372036854775808 ≤ x ∧ x < 9223372036854775808) (g : ¬ Good l) :
    Calls Try.prog 18 #[V] w (Ret fun r w' => r = .tuple #[.slice none 0 0, .bool false] ∧ Below w.heap.size w w') := by
  obtain ⟨A1, c1, rfl, hc1, hm1, hA1, hr1⟩ := h1
  unfold maxLen at hm1
  by_cases hf : l.length ≤ 65535
  · have hr1H := hid hr1
    have gH := hid (show ¬ (∀ k, k < l.length → 0 ≤ l.getD k 0 ∧ l.getD k 0 ≤ 67108864 - psum l k) from fun h => g ⟨hf, h⟩)
    have wH := hid wl
    have hn : ¬ ((l.length : Int) > 65535) := by omega
    clear hr1 hA1 g wl
    generalize hvn : l.length = n at *
    have hvnH := hid hvn
    clear hvn
    go_enter Try.func18, Try.ntmps18
    go_wp2
    go_loopw [4, 14] (fun o i wr => ∃ k : Nat, k ≤ n ∧ i = .int .i64 k ∧ Hid (∀ j, j < k → 0 ≤ l.getD j 0 ∧ l.getD j 0 ≤ 67108864 - psum l j) ∧ Hid (Own w wr [.row 3 1 o (k + 1) (ints .i64 (plcK l k))])) (fun _ i _ => n - (intOf i).toNat)
    case atStart => exact ⟨0, Nat.zero_le _, rfl, hid (fun j hj => by omega), hid (((Own.start w).alloc 3 #[.int .i64 0]).as_row (L1 := []) 1 1 rfl (by unfold maxLen; omega))⟩
    case round =>
      obtain ⟨k, hk, rfl, hall, MH⟩ := hrel
      obtain ⟨A2, c2, rfl⟩ := MH.out.form (.head _)
      by_cases hlt : k < n
      · obtain ⟨a1, rfl, hcell1⟩ := (hr1H.out.keep (w' := wr) fun k hk _ => MH.out.below.block k hk).cell (ints_get .i64 l k (by rw [hvnH.out]; exact hlt))
        obtain ⟨A9, c9, he, hc2, hm2, -, hr2⟩ := MH.out.slice (e := 3) (.head _)
        injection he with he1 he2 he3
        subst he1 he3
        obtain ⟨a2, rfl, hcell2⟩ := hr2.cell (ints_get .i64 (plcK l k) k (by rw [plcK_length]; omega))
        clear he2 hr2
        rw [plcK_get l (Nat.le_refl k)] at hcell2
        have hs := hid (psum_succ (l := l) (k := k) (by rw [hvnH.out]; exact hlt))
        have hps := hid (plcK_succ l k)
        obtain ⟨s0, s1⟩ := psum_bd (l := l) k (by rw [hvnH.out]; exact hk) hall.out
        have hnext := hid (fun (h : 0 ≤ l.getD k 0 ∧ l.getD k 0 ≤ 67108864 - psum l k) => show ∀ j, j < k + 1 → 0 ≤ l.getD j 0 ∧ l.getD j 0 ≤ 67108864 - psum l j from fun j hj => by
          by_cases e : j = k
          · rw [e]; exact h
          · exact hall.out j (by omega))
        generalize l.getD k 0 = x at *
        generalize psum l k = s at *
        unfold maxLen at hm2
        have hc : x < 0 ∨ (¬ x < 0 ∧ x > 67108864 - s) ∨ (¬ x < 0 ∧ ¬ x > 67108864 - s) := by omega
        rcases hc with y0 | ⟨y0, y1⟩ | ⟨y0, y1⟩
        · go_wp2
          go_ret2
          exact .mk ⟨rfl, MH.out.below⟩
        · go_wp2
          go_ret2
          exact .mk ⟨rfl, MH.out.below⟩
        · go_wp2_with (at_builtin; refine wpList_append_Own rfl (.tmp 32) (.tmp 36) _ rfl sized_int rfl rfl (L1 := [.blk wr.heap.size 3 #[.int .i64 (s + x)]]) (MH.out.alloc _ _) (SliceAt.built (MH.out.alloc _ _) (.head _) 1 1 rfl (by unfold maxLen; omega)) (ints_one .i64 [s + x]) (by unfold maxLen; omega) (by omega) ?_; intro v' w' M'; (have M'H := hid M'.tail); clear M')
          have e : ints .i64 (plcK l k) ++ #[Value.int .i64 (s + x)].toList = ints .i64 (plcK l (k + 1)) := by rw [hps.out, ints_append, hs.out]; rfl
          rw [e] at M'H
          clear e
          go_roundw
          case rel => exact ⟨k + 1, by omega, by go_num, hid (hnext.out ⟨by omega, by omega⟩), M'H⟩
          case measure => simp [intOf]; omega
      · obtain rfl : k = n := by omega
        exact absurd hall.out gH.out
  · have hn : (l.length : Int) > 65535 := by omega
    clear hr1 hA1 g wl hf
    generalize l.length = n at *
    go_enter Try.func18, Try.ntmps18
    go_wp2
    go_ret2
    exact .mk ⟨rfl, Below.refl _ _⟩
end Go.Proofs.Ytmboeoobkccpoaa
