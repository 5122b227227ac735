/- Package loca: the table of glyphs of some sizes. -/
import Derived.Test.YtmboeoobkccpoaaLocaA
namespace Go.Proofs.Ytmboeoobkccpoaa
open Go Go.RowKit
set_option linter.unusedVariables false
set_option linter.unusedSimpArgs false
set_option maxRecDepth 100000

/-- Must some of the places have four bytes? -/
def bL (xs : List Int) : Bool := xs.any fun n => n % 2 != 0 || decide (n > 131070)
def locL (l : List Int) : Bool := bL (plc l)
def locE (lg : Bool) (n : Int) : List Int := if lg = true then b4 n else b2 (n / 2)
def locS (lg : Bool) : Nat := if lg = true then 4 else 2
def locB (l : List Int) : List Int := (plc l).flatMap (locE (locL l))
theorem locE_length (lg : Bool) (n : Int) : (locE lg n).length = locS lg := by unfold locE locS; cases lg <;> simp [b4_length, b2_length]
theorem flatE_length (lg : Bool) (xs : List Int) : (xs.flatMap (locE lg)).length = locS lg * xs.length := by
  induction xs with
  | nil => simp
  | cons x xs ih => rw [List.flatMap_cons, List.length_append, ih, locE_length, List.length_cons, Nat.mul_add]; omega
theorem locS_le (lg : Bool) : locS lg ≤ 4 := by cases lg <;> decide
theorem bL_take {xs : List Int} {k : Nat} (h : k < xs.length) : bL (xs.take (k + 1)) = (bL (xs.take k) || (xs.getD k 0 % 2 != 0 || decide (xs.getD k 0 > 131070))) := by
  rw [take_succ_getD h]
  simp [bL]
theorem bL_false {xs : List Int} (h : bL xs = false) {k : Nat} (hk : k < xs.length) : xs.getD k 0 % 2 = 0 ∧ xs.getD k 0 ≤ 131070 := by
  unfold bL at h
  rw [List.any_eq_false] at h
  have hg : xs.getD k 0 = xs[k] := by simp [List.getD, hk]
  have := h xs[k] (List.getElem_mem hk)
  rw [hg]
  simp only [Bool.or_eq_true, bne_iff_ne, decide_eq_true_eq, not_or] at this
  omega
theorem flatE_snoc (lg : Bool) {xs : List Int} {k : Nat} (h : k < xs.length) : (xs.take (k + 1)).flatMap (locE lg) = (xs.take k).flatMap (locE lg) ++ locE lg (xs.getD k 0) := by
  rw [take_succ_getD h, List.flatMap_append]; simp
theorem plc_bd {l : List Int} (g : Good l) {k : Nat} (hk : k < (plc l).length) : 0 ≤ (plc l).getD k 0 ∧ (plc l).getD k 0 ≤ 67108864 := by
  rw [plc_length] at hk
  unfold plc
  rw [plcK_get l (by omega)]
  exact g.bd (by omega)

set_option maxHeartbeats 4000000 in
theorem locaBuild_yes (w : World) {V : Value} {l : List Int} (h1 : SliceAt w w.heap.size 1 V l.length (ints .i64 l)) (g : Good l) :
    Calls Try.prog 9 #[V] w (Ret fun r w' => ∃ v, r = .tuple #[v, .bool (locL l)] ∧ Own w w' [.row 5 1 v (locB l).length (ints .u8 (locB l))]) := by
  have hP := hid (fun w1 (h : Below w.heap.size w w1) => places_yes w1 (h1.below h) g)
  have hbd := hid (fun k (hk : k < (plc l).length) => plc_bd g hk)
  have hlen := hid (show (plc l).length ≤ 65536 by rw [plc_length]; have := g.few; omega)
  have hB := hid (show locB l = (plc l).flatMap (locE (bL (plc l))) from rfl)
  have hBl := hid (show (locB l).length = locS (bL (plc l)) * (plc l).length from flatE_length _ _)
  have hL : locL l = bL (plc l) := rfl
  rw [hL]
  rw [← plc_length] at hP
  clear hL g
  generalize locB l = q at *
  generalize plc l = xs at *
  generalize hN : xs.length = N at *
  replace hN := hid hN
  obtain ⟨A1, c1, rfl, -⟩ := h1
  go_enter Try.func9, Try.ntmps9
  go_wp2_with (go_at_call 18; refine (hP.out _ (Below.refl _ _)).mono ?_; rintro _ w1 ⟨_, rfl, v, rfl, M⟩; obtain ⟨A, c, rfl⟩ := M.form (.head _); (have M1 := hid M); clear M)
  clear hP
  go_loopw [6, 21] (fun lg i wr => ∃ k : Nat, k ≤ N ∧ i = .int .i64 k ∧ lg = .bool (bL (xs.take k)) ∧ Hid (Own w wr [.row 3 1 (.slice A N c) N (ints .i64 xs)])) (fun _ i _ => N - (intOf i).toNat)
  case atStart => exact ⟨0, Nat.zero_le _, rfl, rfl, M1⟩
  case round =>
    clear M1
    obtain ⟨k, hk, rfl, rfl, MH⟩ := hrel
    by_cases hlt : k < N
    · obtain ⟨A9, c9, he, hc2, hm2, -, hr2⟩ := MH.out.slice (e := 3) (.head _)
      injection he with he1 he2 he3
      subst he1 he3
      obtain ⟨a2, rfl, hcell2⟩ := hr2.cell (ints_get .i64 xs k (by rw [hN.out]; exact hlt))
      clear he2 hr2
      unfold maxLen at hm2
      have hb := hid (bL_take (xs := xs) (k := k) (by rw [hN.out]; exact hlt))
      obtain ⟨x0, x1⟩ := hbd.out k hlt
      generalize bL (xs.take k) = bb at *
      generalize xs.getD k 0 = x at *
      cases bb
      · have hx2 : x % 2 = 0 ∨ x % 2 = 1 := by omega
        rcases hx2 with hx2 | hx2
        · have e1 : (x % 2 != 0) = false := by rw [hx2]; rfl
          by_cases hx : x > 131070
          all_goals
            rw [e1, show decide (x > 131070) = _ from by first | exact decide_eq_true hx | exact decide_eq_false hx] at hb
            clear hx2
            go_wp2
            go_roundw
            case rel => exact ⟨k + 1, by omega, by go_num, by rw [hb.out]; first | rfl | simp [hx], MH⟩
            case measure => simp [intOf]; omega
        · have e1 : (x % 2 != 0) = true := by rw [hx2]; rfl
          rw [e1] at hb
          clear hx2
          go_wp2
          go_roundw
          case rel => exact ⟨k + 1, by omega, by go_num, by rw [hb.out]; rfl, MH⟩
          case measure => simp [intOf]; omega
      · go_wp2
        go_roundw
        case rel => exact ⟨k + 1, by omega, by go_num, by rw [hb.out]; rfl, MH⟩
        case measure => simp [intOf]; omega
    · obtain rfl : k = N := by omega
      have ht : xs.take k = xs := List.take_of_length_le (by rw [hN.out]; omega)
      have hf := hid (fun (h : bL xs = false) j (hj : j < k) => bL_false h (k := j) (by rw [hN.out]; exact hj))
      obtain ⟨lg, hlg⟩ : ∃ lg, bL xs = lg := ⟨_, rfl⟩
      rw [ht, hlg]
      rw [hlg] at hf hB hBl
      replace hlg := hid hlg
      clear ht hlt hk
      go_wp2_with ((with_reducible refine gate (N := 9) rfl ?_); refine wpList_box_Own rfl (cs := #[.slice none 0 0]) (t := 48) (by first | (go_simp; done) | (go_simp; rfl)) MH.out ?_; intro b w3 M; (have M3 := hid M.mk_writer); clear M)
      go_loopw [38] (fun i wr => ∃ (j : Nat) (v : Value), j ≤ k ∧ i = .int .i64 j ∧ Hid (Own w wr ([] ++ (wrE b v ((xs.take j).flatMap (locE lg)) ++ [.row 3 1 (.slice A k c) k (ints .i64 xs)])))) (fun i _ => k - (intOf i).toNat)
      case atStart => exact ⟨0, _, Nat.zero_le _, rfl, M3⟩
      case round =>
        clear MH M3
        obtain ⟨j, v, hj, rfl, MH⟩ := hrel
        by_cases hlt : j < k
        · obtain ⟨A9, c9, he, hc2, hm2, -, hr2⟩ := MH.out.slice (e := 3) (sz := 1) (v := .slice A k c) (n := k) (xs := ints .i64 xs) (by simp [wrE])
          injection he with he1 he2 he3
          subst he1 he3
          obtain ⟨a2, rfl, hcell2⟩ := hr2.cell (ints_get .i64 xs j (by rw [hN.out]; exact hlt))
          clear he2 hr2
          unfold maxLen at hm2
          have hs := hid (flatE_snoc lg (xs := xs) (k := j) (by rw [hN.out]; exact hlt))
          have hl := hid (show ((xs.take j).flatMap (locE lg)).length ≤ 300000 by
            rw [flatE_length, List.length_take]
            have h1 := locS_le lg
            have h2 := hlen.out
            exact Nat.le_trans (Nat.mul_le_mul h1 (show min j xs.length ≤ 65536 by omega)) (by omega))
          obtain ⟨x0, x1⟩ := hbd.out j hlt
          have hfx := fun h => hf.out h j hlt
          generalize (xs.take j).flatMap (locE lg) = p at *
          generalize xs.getD j 0 = x at *
          cases lg
          · obtain ⟨x2, x3⟩ := hfx rfl
            have x4 : x / 2 < 65536 := by omega
            have x5 : 0 ≤ x / 2 := by omega
            have he := hid (show p ++ locE false x = p ++ b2 (x / 2) from rfl)
            rw [he.out] at hs
            clear hfx x2 x3
            go_wp2_with (go_at_call 20; refine (wr_U16 x5 x4 (by have := hl.out; omega) MH.out).mono ?_; rintro _ w5 ⟨_, rfl, rfl, v5, M⟩; have M5 := hid M; clear M)
            go_roundw
            case rel => exact ⟨j + 1, v5, by omega, by go_num, by rw [hs.out]; exact M5⟩
            case measure => simp [intOf]; omega
          · have he := hid (show p ++ locE true x = p ++ b4 x from rfl)
            rw [he.out] at hs
            clear hfx
            go_wp2_with (go_at_call 19; refine (wr_U32 (n := x) (by omega) (by omega) (by have := hl.out; omega) MH.out).mono ?_; rintro _ w5 ⟨_, rfl, rfl, v5, M⟩; have M5 := hid M; clear M)
            go_roundw
            case rel => exact ⟨j + 1, v5, by omega, by go_num, by rw [hs.out]; exact M5⟩
            case measure => simp [intOf]; omega
        · obtain rfl : j = k := by omega
          have ht : xs.take j = xs := List.take_of_length_le (by rw [hN.out]; omega)
          rw [ht, ← hB.out] at MH
          have hq := hid (show q.length ≤ 300000 by
            rw [hBl.out]
            have h1 := locS_le lg
            have h2 := hlen.out
            exact Nat.le_trans (Nat.mul_le_mul h1 h2) (by omega))
          clear ht
          go_wp2_with (go_at_call 21; refine (wr_Done (by have := hq.out; omega) MH.out).mono ?_; rintro _ w10 ⟨vD, rfl, M⟩; have M10 := hid M.head1; clear M)
          go_ret2
          exact .mk ⟨vD, by rw [hlg.out]; rfl, M10.out⟩
theorem locaBuild_no (w : World) {V : Value} {l : List Int} (h1 : SliceAt w w.heap.size 1 V l.length (ints .i64 l)) (wl : ∀ x ∈ l, -9223372036854775808 ≤ x ∧ x < 9223372036854775808) (g : ¬ Good l) :
    Calls Try.prog 9 #[V] w (Ret fun r w' => r = .tuple #[.slice none 0 0, .bool false] ∧ Below w.heap.size w w') := by
  have hP := hid (fun w1 (h : Below w.heap.size w w1) => places_no w1 (h1.below h) wl g)
  clear g wl
  obtain ⟨A1, c1, rfl, -⟩ := h1
  go_enter Try.func9, Try.ntmps9
  go_wp2_with (go_at_call 18; refine (hP.out _ (Below.refl _ _)).mono ?_; rintro _ w1 ⟨_, rfl, rfl, hb⟩; (have hbH := hid hb); clear hb)
  go_ret2
  exact .mk ⟨rfl, hbH.out⟩
end Go.Proofs.Ytmboeoobkccpoaa
