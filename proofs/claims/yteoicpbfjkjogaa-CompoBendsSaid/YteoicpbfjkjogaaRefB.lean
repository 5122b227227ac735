/- The references' own small functions, on: parts, numbers of bytes, lists behind one another. -/
import Derived.Test.YteoicpbfjkjogaaRefA
namespace Go.Proofs.Yteoicpbfjkjogaa
open Go Go.RowKit
set_option linter.unusedVariables false
set_option linter.unusedSimpArgs false
set_option maxRecDepth 100000

theorem part_yes {xs : List Int} {k a e : Nat} (h : k < xs.length) (h1 : a ≤ k) (h2 : k < e) : ((xs.take (k + 1)).take e).drop a = ((xs.take k).take e).drop a ++ [xs.getD k 0] := by
  rw [take_take_succ h h2, List.drop_append_of_le_length (by simp; omega)]
theorem part_no {xs : List Int} {k a e : Nat} (h : ¬ (a ≤ k ∧ k < e)) : ((xs.take (k + 1)).take e).drop a = ((xs.take k).take e).drop a := by
  rcases Nat.lt_or_ge k e with h1 | h1
  · rw [List.drop_eq_nil_of_le (by simp; omega), List.drop_eq_nil_of_le (by simp; omega)]
  · rw [List.take_take, List.take_take, Nat.min_eq_left (by omega), Nat.min_eq_left (by omega)]
/-! ## Lists of lists -/
def AllAt (w : World) (vs : List Value) (ls : List (List Int)) : Prop := vs.length = ls.length ∧ ∀ (i : Nat) (v : Value) (l : List Int), vs[i]? = some v → ls[i]? = some l → BytesAt w v l
theorem AllAt.nil (w : World) : AllAt w [] [] := ⟨rfl, by simp⟩
theorem AllAt.cons {w : World} {v : Value} {l : List Int} {vs : List Value} {ls : List (List Int)} (h : BytesAt w v l) (hs : AllAt w vs ls) : AllAt w (v :: vs) (l :: ls) := by
  refine ⟨by simp [hs.1], fun i u m hu hm => ?_⟩
  cases i with
  | zero => simp at hu hm; subst hu; subst hm; exact h
  | succ i => exact hs.2 i u m (by simpa using hu) (by simpa using hm)
theorem AllAt.below {w w' : World} {vs : List Value} {ls : List (List Int)} (h : AllAt w vs ls) (hb : Below w.heap.size w w') : AllAt w' vs ls := ⟨h.1, fun i v l hv hl => (h.2 i v l hv hl).below hb⟩
theorem flat_succ {ls : List (List Int)} {k : Nat} (h : k < ls.length) : (ls.take (k + 1)).flatten = (ls.take k).flatten ++ ls[k] := by
  rw [List.take_succ_eq_append_getElem h, List.flatten_append, List.flatten_cons, List.flatten_nil, List.append_nil]
theorem flat_le (ls : List (List Int)) (k : Nat) : (ls.take k).flatten.length ≤ ls.flatten.length := by
  have : ls.flatten = (ls.take k).flatten ++ (ls.drop k).flatten := by rw [← List.flatten_append, List.take_append_drop]
  rw [this]; simp

theorem join_calls (w : World) {v : Value} {vs : List Value} {ls : List (List Int)} (h1 : SliceAt w w.heap.size 1 v vs.length vs) (ha : AllAt w vs ls) (hn : ls.flatten.length ≤ 140737488355328) :
    Calls Try.prog 21 #[v] w (Ret fun r w' => Own w w' [.row 5 1 r ls.flatten.length (ints .u8 ls.flatten)]) := by
  obtain ⟨A1, c1, rfl, hc1, hm1, hA1, hr1⟩ := h1
  unfold maxLen at hm1
  have hr1H := hid hr1
  have haH := hid ha
  have hvl := ha.1
  clear hr1 hA1 ha
  generalize hvn : vs.length = n at *
  have hvnH := hid hvn
  have hvlH := hid hvl
  clear hvn hvl
  go_enter Try.func21, Try.ntmps21
  go_wp2
  go_loopw [3, 8] (fun o i wr => ∃ k : Nat, k ≤ n ∧ i = .int .i64 k ∧ Hid (Own w wr [.row 5 1 o (ls.take k).flatten.length (ints .u8 (ls.take k).flatten)])) (fun _ i _ => n - (intOf i).toNat)
  case atStart => exact ⟨0, Nat.zero_le _, rfl, hid (by simpa [ints] using (Own.start w).nil_row 5 1)⟩
  case round =>
    obtain ⟨k, hk, rfl, MH⟩ := hrel
    by_cases hlt : k < n
    · have hkv : k < vs.length := by have := hvnH.out; omega
      have hkl : k < ls.length := by have := hvlH.out; omega
      obtain ⟨a1, rfl, hcell1⟩ := (hr1H.out.keep (w' := wr) fun k hk _ => MH.out.below.block k hk).cell (List.getElem?_eq_getElem hkv)
      have hb := (haH.out.below MH.out.below).2 k _ _ (List.getElem?_eq_getElem hkv) (List.getElem?_eq_getElem hkl)
      have hfl := flat_le ls (k + 1)
      have hfs := flat_succ hkl
      rw [hfs, List.length_append] at hfl
      have hfsH := hid hfs
      generalize vs[k] = u at *
      generalize ls[k] = m at *
      have hbH := hid hb
      obtain ⟨A2, c2, rfl, -⟩ := hb
      have hflH := hid hfl
      clear hfs hfl
      go_wp2_with (at_builtin; refine wpList_append_Own rfl (.tmp 12) (.tmp 13) _ rfl sized_u8 rfl rfl (L1 := []) (L2 := []) MH.out hbH.out (ints_one .u8 m) (by have := hflH.out; unfold maxLen; omega) (by have := hflH.out; omega) ?_; intro v' w' M'; (have M'H := hid M'); clear M')
      go_roundw
      case rel => exact ⟨k + 1, by omega, by go_num, by rw [hfsH.out, List.length_append, ints_append]; exact M'H⟩
      case measure => simp [intOf]; omega
    · obtain rfl : k = n := by omega
      go_wp2
      go_ret
      exact .mk (by have := MH.out; rwa [List.take_of_length_le (by have := hvlH.out; omega)] at this)

/-! ## Numbers -/
theorem B2_calls (w : World) {n : Int} (h0 : 0 ≤ n) (h1 : n ≤ 9223372036854775807) :
    Calls Try.prog 41 #[.int .i64 n] w (Ret fun r w' => Own w w' [.row 5 1 r 2 (ints .u8 (b2 n))]) := by
  go_enter Try.func41, Try.ntmps41
  go_wp2
  go_ret
  exact .mk (((Own.start w).alloc 5 #[.int .u8 (n / 256 % 256), .int .u8 (n % 256)]).as_row (L1 := []) 1 2 rfl (by unfold maxLen; omega))
theorem S2_calls (w : World) {n : Int} (h0 : -65536 ≤ n) (h1 : n < 65536) :
    Calls Try.prog 42 #[.int .i64 n] w (Ret fun r w' => Own w w' [.row 5 1 r 2 (ints .u8 (b2 (n % 65536)))]) := by
  have hb := hid (B2_calls w (n := n % 65536) (by omega) (by omega))
  go_enter Try.func42, Try.ntmps42
  go_wp2_with (go_at_call 41; refine hb.out.mono ?_; rintro _ w1 ⟨_, rfl, M1⟩; (have M1H := hid M1); clear M1)
  go_ret
  exact .mk M1H.out
theorem Sign_calls (w : World) {n : Int} (h0 : 0 ≤ n) (h1 : n < 65536) :
    Calls Try.prog 51 #[.int .i64 n] w (Ret fun r w' => r = .int .i64 (sgn n) ∧ w = w') := by
  by_cases h : n > 32767
  all_goals
    have he := hid (show sgn n = _ by unfold sgn; first | rw [if_pos h] | rw [if_neg h])
    go_enter Try.func51, Try.ntmps51
    go_wp2
    go_ret
    exact .mk ⟨by rw [he.out]; rfl, rfl⟩
end Go.Proofs.Yteoicpbfjkjogaa
