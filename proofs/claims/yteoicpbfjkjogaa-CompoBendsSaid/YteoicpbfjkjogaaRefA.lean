/- The references' own small functions: bytes compared, cut, joined. -/
import Derived.Test.YteoicpbfjkjogaaWordC
namespace Go.Proofs.Yteoicpbfjkjogaa
open Go Go.RowKit
set_option linter.unusedVariables false
set_option linter.unusedSimpArgs false

/-- A slice of bytes that reads so. -/
abbrev BytesAt (w : World) (v : Value) (l : List Int) : Prop := SliceAt w w.heap.size 1 v l.length (ints .u8 l)

theorem eq_take_succ {xs ys : List Int} {k : Nat} (h : xs.take k = ys.take k) (hx : k < xs.length) (hy : k < ys.length) (he : xs.getD k 0 = ys.getD k 0) : xs.take (k + 1) = ys.take (k + 1) := by
  rw [List.take_succ_eq_append_getElem hx, List.take_succ_eq_append_getElem hy, h]
  simp only [List.getD, List.getElem?_eq_getElem hx, List.getElem?_eq_getElem hy, Option.getD_some] at he
  rw [he]

theorem same_calls (w : World) {v1 v2 : Value} {xs ys : List Int} (h1 : BytesAt w v1 xs) (h2 : BytesAt w v2 ys) :
    Calls Try.prog 18 #[v1, v2] w (Ret fun r w' => r = .bool (decide (xs = ys)) ∧ Below w.heap.size w w') := by
  obtain ⟨A1, c1, rfl, hc1, hm1, hA1, hr1⟩ := h1
  obtain ⟨A2, c2, rfl, hc2, hm2, hA2, hr2⟩ := h2
  unfold maxLen at hm1 hm2
  have hr1H := hid hr1
  have hr2H := hid hr2
  clear hr1 hr2 hA1 hA2
  by_cases hl : xs.length = ys.length
  · have hne : ((xs.length : Int) != (ys.length : Int)) = false := by simp; omega
    have hlH := hid hl
    clear hl
    go_enter Try.func18, Try.ntmps18
    go_wp2
    go_loopw [13] (fun i wr => ∃ k : Nat, k ≤ xs.length ∧ i = .int .i64 k ∧ Hid (xs.take k = ys.take k) ∧ ∃ n, wr = w.drewN n) (fun i _ => xs.length - (intOf i).toNat)
    case atStart => exact ⟨0, Nat.zero_le _, rfl, rfl, 0, rfl⟩
    case round =>
      obtain ⟨k, hk, rfl, heq, nd, rfl⟩ := hrel
      by_cases hlt : k < xs.length
      · have hlt2 : k < ys.length := by have := hlH.out; omega
        have hi2 : (k : Int) < (ys.length : Int) := by omega
        obtain ⟨a1, rfl, hcell1⟩ := hr1H.out.cell (ints_get .u8 xs k hlt)
        obtain ⟨a2, rfl, hcell2⟩ := hr2H.out.cell (ints_get .u8 ys k hlt2)
        by_cases he : xs.getD k 0 = ys.getD k 0
        · have het := hid (eq_take_succ heq.out hlt hlt2 he)
          generalize xs.getD k 0 = x at *
          generalize ys.getD k 0 = y at *
          subst he
          go_wp2
          go_quiet (fail)
          go_wp2
          go_roundw
          case rel => exact ⟨k + 1, by omega, by go_num, het, _, by first | rfl | (rw [World.drewN_add])⟩
          case measure => simp [intOf]; omega
        · have hf := hid (show decide (xs = ys) = false from decide_eq_false (fun e => he (by rw [e])))
          generalize xs.getD k 0 = x at *
          generalize ys.getD k 0 = y at *
          have hb : (x != y) = true := bne_iff_ne.2 he
          go_wp2
          go_quiet (fail)
          go_wp2
          go_ret
          exact .mk ⟨by rw [hf.out]; rfl, ⟨rfl, rfl, rfl, Nat.le_refl _, fun _ _ => rfl⟩⟩
      · obtain rfl : k = xs.length := by omega
        have ht : decide (xs = ys) = true := by
          have h1 := heq.out
          rw [List.take_length, hlH.out, List.take_length] at h1
          exact decide_eq_true h1
        have htH := hid ht
        clear ht
        go_wp2
        go_ret
        exact .mk ⟨by rw [htH.out]; rfl, ⟨rfl, rfl, rfl, Nat.le_refl _, fun _ _ => rfl⟩⟩
  · have hne : ((xs.length : Int) != (ys.length : Int)) = true := by simp; omega
    have hf := hid (show decide (xs = ys) = false from decide_eq_false (fun e => hl (by rw [e])))
    clear hl
    go_enter Try.func18, Try.ntmps18
    go_wp2
    go_ret
    exact .mk ⟨by rw [hf.out]; rfl, Below.refl _ _⟩

theorem take_succ_getD {xs : List Int} {k : Nat} (h : k < xs.length) : xs.take (k + 1) = xs.take k ++ [xs.getD k 0] := by
  rw [List.take_succ_eq_append_getElem h]; simp [List.getD, h]
theorem take_take_succ {xs : List Int} {k m : Nat} (h : k < xs.length) (hm : k < m) : (xs.take (k + 1)).take m = (xs.take k).take m ++ [xs.getD k 0] := by
  rw [List.take_of_length_le (i := m) (l := xs.take (k + 1)) (by simp; omega), List.take_of_length_le (i := m) (l := xs.take k) (by simp; omega), take_succ_getD h]
theorem cut_calls (w : World) {v : Value} {xs : List Int} (m : Nat) (hm : m ≤ 9223372036854775807) (h1 : BytesAt w v xs) (hn : min xs.length m ≤ 140737488355328) :
    Calls Try.prog 10 #[v, .int .i64 m] w (Ret fun r w' => Own w w' [.row 5 1 r (xs.take m).length (ints .u8 (xs.take m))]) := by
  obtain ⟨A1, c1, rfl, hc1, hm1, hA1, hr1⟩ := h1
  unfold maxLen at hm1
  have hr1H := hid hr1
  clear hr1 hA1
  go_enter Try.func10, Try.ntmps10
  go_wp2
  go_loopw [5, 10] (fun o i wr => ∃ k : Nat, k ≤ xs.length ∧ i = .int .i64 k ∧ Hid (Own w wr [.row 5 1 o ((xs.take k).take m).length (ints .u8 ((xs.take k).take m))])) (fun _ i _ => xs.length - (intOf i).toNat)
  case atStart => exact ⟨0, Nat.zero_le _, rfl, hid (by simpa [ints] using (Own.start w).nil_row 5 1)⟩
  case round =>
    obtain ⟨k, hk, rfl, MH⟩ := hrel
    by_cases hlt : k < xs.length
    · obtain ⟨a1, rfl, hcell1⟩ := (hr1H.out.keep (w' := wr) fun k hk _ => MH.out.below.block k hk).cell (ints_get .u8 xs k hlt)
      by_cases hkm : k < m
      · have hx := take_take_succ hlt hkm
        have hxH := hid hx
        have hlen : ((xs.take k).take m).length + 1 ≤ 140737488355328 := by simp; omega
        have hlenH := hid hlen
        generalize xs.getD k 0 = x at *
        clear hx hlen
        go_wp2_with (at_builtin; refine wpList_append_Own rfl (.tmp 18) (.tmp 20) _ rfl sized_u8 rfl rfl (L1 := [.blk wr.heap.size 5 #[.int .u8 x]]) (MH.out.alloc _ _) (SliceAt.built (MH.out.alloc _ _) (.head _) 1 1 rfl (by unfold maxLen; omega)) (ints_one .u8 [x]) (by have := hlenH.out; unfold maxLen; omega) (by have := hlenH.out; omega) ?_; intro v' w' M'; (have M'H := hid M'.tail); clear M')
        go_roundw
        case rel => exact ⟨k + 1, by omega, by go_num, by rw [hxH.out, List.length_append, ints_append]; exact M'H⟩
        case measure => simp [intOf]; omega
      · have hx : (xs.take (k + 1)).take m = (xs.take k).take m := by
          rw [List.take_take, List.take_take, Nat.min_eq_left (by omega), Nat.min_eq_left (by omega)]
        have hxH := hid hx
        generalize xs.getD k 0 = x at *
        clear hx
        go_wp2
        go_roundw
        case rel => exact ⟨k + 1, by omega, by go_num, by rw [hxH.out]; exact MH⟩
        case measure => simp [intOf]; omega
    · obtain rfl : k = xs.length := by omega
      go_wp2
      go_ret
      exact .mk (by have := MH.out; rwa [List.take_length] at this)
end Go.Proofs.Yteoicpbfjkjogaa
