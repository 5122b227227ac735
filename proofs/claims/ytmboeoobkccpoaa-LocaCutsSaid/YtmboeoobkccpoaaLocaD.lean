/- Package loca: the places are read. -/
import Derived.Test.YtmboeoobkccpoaaLocaB
import Derived.Test.YtmboeoobkccpoaaReadAt
namespace Go.Proofs.Ytmboeoobkccpoaa
open Go Go.RowKit
set_option linter.unusedVariables false
set_option linter.unusedSimpArgs false
set_option maxRecDepth 100000

/-- The place of a number, and the one ahead of it. -/
def pn (lg : Bool) (l : List Int) (k : Nat) : Int := if lg = true then n4 l (4 * k) else 2 * n2 l (2 * k)
def pl (lg : Bool) (l : List Int) : Nat → Int
  | 0 => 0
  | k + 1 => pn lg l k
def pns (lg : Bool) (l : List Int) (k : Nat) : List Int := (List.range k).map (pn lg l)
theorem pns_length (lg : Bool) (l : List Int) (k : Nat) : (pns lg l k).length = k := by simp [pns]
theorem pns_succ (lg : Bool) (l : List Int) (k : Nat) : pns lg l (k + 1) = pns lg l k ++ [pn lg l k] := by simp [pns, List.range_succ]
theorem pns_get (lg : Bool) (l : List Int) {k i : Nat} (h : i < k) : (pns lg l k).getD i 0 = pn lg l i := by simp [pns, List.getD, h]
structure Fine (lg : Bool) (l : List Int) (G : Nat) (size : Int) : Prop where
  len : l.length = locS lg * (G + 1)
  all : ∀ j, j < G + 1 → pl lg l j ≤ pn lg l j ∧ pn lg l j ≤ size

set_option maxHeartbeats 4000000 in
theorem locParse_true (w : World) {V : Value} {l : List Int} (h1 : BytesAt w V l) (hB : Bytes l) (hn : l.length ≤ 140737488355328) {G : Nat} (hG : G < 65536) {size : Int} (z0 : -9223372036854775808 ≤ size) (z1 : size < 9223372036854775808) :
    Calls Try.prog 12 #[V, .bool true, .int .u16 G, .int .i64 size] w (Ret fun r w' => (Fine true l G size ∧ ∃ v, r = .tuple #[v, .int .i64 0] ∧ Own w w' [.row 3 1 v (G + 1) (ints .i64 (pns true l (G + 1)))]) ∨ (¬ Fine true l G size ∧ r = .tuple #[.slice none 0 0, .int .i64 2] ∧ Below w.heap.size w w')) := by
  have h1H := hid h1
  obtain ⟨A1, c1, rfl, hc1, hm1, hA1, -⟩ := h1
  unfold maxLen at hm1
  have hBH := hid hB
  clear hA1 hB
  by_cases hl : l.length = 4 * (G + 1)
  · have hnl : ¬ ((l.length : Int) != 4 * ((G : Int) + 1)) = true := by rw [bne_iff_ne]; omega
    have hlH := hid hl
    have hlE := hid (show l.length = locS true * (G + 1) from hl)
    clear hl
    go_enter Try.func12, Try.ntmps12
    go_wp2_with (go_at_call 24; refine (new_calls _ h1H.out hn).mono ?_; rintro _ w2 ⟨_, rfl, b, v, rfl, M⟩; (have M2 := hid M); clear M)
    go_loopw [12, 13, 29] (fun o la i wr => ∃ (k a : Nat) (bad : Bool) (A : Option Addr) (c : Nat), k ≤ G + 1 ∧ i = .int .i64 k ∧ o = .slice A k c ∧ la = .int .i64 (pl true l k) ∧ Hid (0 ≤ pl true l k ∧ pl true l k < 4294967296) ∧ Hid (∀ j, j < k → pl true l j ≤ pn true l j ∧ pn true l j ≤ size) ∧ Hid (RdAt (4 * (G + 1)) l (4 * k) a bad) ∧ Hid (Own w wr (rdE b v l a bad ++ [.row 3 1 (.slice A k c) k (ints .i64 (pns true l k))]))) (fun _ _ i _ => G + 1 - (intOf i).toNat)
    case atStart => exact ⟨0, 0, false, none, 0, Nat.zero_le _, rfl, rfl, rfl, hid ⟨Int.le_refl _, by show (0 : Int) < _; omega⟩, hid (fun j hj => by omega), hid (RdAt.start _ hBH.out), hid (Own.front (L1 := [_]) (L2 := []) (X := rdE _ _ _ _ _) (by simpa [pns, ints] using M2.out.nil_row 3 1))⟩
    case round =>
      clear M2
      obtain ⟨k, a, bad, A, c, hk, rfl, rfl, rfl, hp, hall, R, MH⟩ := hrel
      obtain ⟨p0, p1⟩ := hp.out
      have hpl := hid (show pl true l (k + 1) = pn true l k from rfl)
      obtain ⟨p, hpe⟩ : ∃ p, pl true l k = p := ⟨_, rfl⟩
      rw [hpe] at p0 p1 ⊢
      replace hpe := hid hpe
      by_cases hlt : k < G + 1
      · go_wp2_with (first
          | (go_at_call 25; refine (rdU32_at R.out (by omega) MH.out).mono ?_; rintro _ w5 ⟨_, rfl, y, a', b', rfl, y0, y1, hy, R', M⟩; (have M5 := hid (M.perm List.perm_append_comm)); replace hy := hid (hy hlH.out); replace R' := hid R'; clear M; (rcases (show y < p ∨ (¬ y < p ∧ y > size) ∨ (¬ y < p ∧ ¬ y > size) by omega) with q1 | ⟨q1, q2⟩ | ⟨q1, q2⟩))
          | (at_builtin; refine wpList_append_Own rfl (.tmp 47) (.tmp 49) _ rfl sized_int rfl rfl (L1 := [.blk w5.heap.size 3 #[.int .i64 (y)]]) (L2 := rdE b v l a' b') (M5.out.alloc _ _) (SliceAt.built (M5.out.alloc _ _) (.head _) 1 1 rfl (by unfold maxLen; omega)) (ints_one .i64 [y]) (by unfold maxLen; omega) (by omega) ?_; intro v' w' M'; obtain ⟨A7, c7, rfl⟩ := M'.tail.form (.head _); (have M7 := hid (M'.tail.perm (List.perm_append_comm (l₁ := [_])))); clear M'))
        · have hpn := hid (show pn true l k = y by rw [hy.out]; rfl)
          go_ret2
          exact .mk (.inr ⟨fun f => by have := f.all k hlt; rw [hpe.out, hpn.out] at this; omega, rfl, M5.out.below⟩)
        · have hpn := hid (show pn true l k = y by rw [hy.out]; rfl)
          go_ret2
          exact .mk (.inr ⟨fun f => by have := f.all k hlt; rw [hpe.out, hpn.out] at this; omega, rfl, M5.out.below⟩)
        · have hpn := hid (show pn true l k = y by rw [hy.out]; rfl)
          go_roundw
          case rel => exact ⟨k + 1, a', b', A7, c7, by omega, by go_num, rfl, by rw [hpl.out, hpn.out], hid (by rw [hpl.out, hpn.out]; omega), hid (fun j hj => by
            by_cases e : j = k
            · rw [e, hpe.out, hpn.out]; omega
            · exact hall.out j (by omega)), R', by rw [pns_succ, hpn.out, ints_append]; exact M7⟩
          case measure => simp [intOf]; omega
      · obtain rfl : k = G + 1 := by omega
        have hk1 : ¬ (((G + 1 : Nat) : Int) < (G : Int) + 1) := by omega
        go_wp2
        go_ret2
        exact .mk (.inl ⟨⟨hlE.out, hall.out⟩, _, rfl, (MH.out.perm List.perm_append_comm).head1⟩)
  · have hnl : ((l.length : Int) != 4 * ((G : Int) + 1)) = true := by rw [bne_iff_ne]; omega
    have hF := hid (show ¬ Fine true l G size from fun f => hl f.len)
    clear hl
    go_enter Try.func12, Try.ntmps12
    go_wp2
    go_ret2
    exact .mk (.inr ⟨hF.out, rfl, Below.refl _ _⟩)
set_option maxHeartbeats 4000000 in
theorem locParse_false (w : World) {V : Value} {l : List Int} (h1 : BytesAt w V l) (hB : Bytes l) (hn : l.length ≤ 140737488355328) {G : Nat} (hG : G < 65536) {size : Int} (z0 : -9223372036854775808 ≤ size) (z1 : size < 9223372036854775808) :
    Calls Try.prog 12 #[V, .bool false, .int .u16 G, .int .i64 size] w (Ret fun r w' => (Fine false l G size ∧ ∃ v, r = .tuple #[v, .int .i64 0] ∧ Own w w' [.row 3 1 v (G + 1) (ints .i64 (pns false l (G + 1)))]) ∨ (¬ Fine false l G size ∧ r = .tuple #[.slice none 0 0, .int .i64 2] ∧ Below w.heap.size w w')) := by
  have h1H := hid h1
  obtain ⟨A1, c1, rfl, hc1, hm1, hA1, -⟩ := h1
  unfold maxLen at hm1
  have hBH := hid hB
  clear hA1 hB
  by_cases hl : l.length = 2 * (G + 1)
  · have hnl : ¬ ((l.length : Int) != 2 * ((G : Int) + 1)) = true := by rw [bne_iff_ne]; omega
    have hlH := hid hl
    have hlE := hid (show l.length = locS false * (G + 1) from hl)
    clear hl
    go_enter Try.func12, Try.ntmps12
    go_wp2_with (go_at_call 24; refine (new_calls _ h1H.out hn).mono ?_; rintro _ w2 ⟨_, rfl, b, v, rfl, M⟩; (have M2 := hid M); clear M)
    go_loopw [12, 13, 29] (fun o la i wr => ∃ (k a : Nat) (bad : Bool) (A : Option Addr) (c : Nat), k ≤ G + 1 ∧ i = .int .i64 k ∧ o = .slice A k c ∧ la = .int .i64 (pl false l k) ∧ Hid (0 ≤ pl false l k ∧ pl false l k < 4294967296) ∧ Hid (∀ j, j < k → pl false l j ≤ pn false l j ∧ pn false l j ≤ size) ∧ Hid (RdAt (2 * (G + 1)) l (2 * k) a bad) ∧ Hid (Own w wr (rdE b v l a bad ++ [.row 3 1 (.slice A k c) k (ints .i64 (pns false l k))]))) (fun _ _ i _ => G + 1 - (intOf i).toNat)
    case atStart => exact ⟨0, 0, false, none, 0, Nat.zero_le _, rfl, rfl, rfl, hid ⟨Int.le_refl _, by show (0 : Int) < _; omega⟩, hid (fun j hj => by omega), hid (RdAt.start _ hBH.out), hid (Own.front (L1 := [_]) (L2 := []) (X := rdE _ _ _ _ _) (by simpa [pns, ints] using M2.out.nil_row 3 1))⟩
    case round =>
      clear M2
      obtain ⟨k, a, bad, A, c, hk, rfl, rfl, rfl, hp, hall, R, MH⟩ := hrel
      obtain ⟨p0, p1⟩ := hp.out
      have hpl := hid (show pl false l (k + 1) = pn false l k from rfl)
      obtain ⟨p, hpe⟩ : ∃ p, pl false l k = p := ⟨_, rfl⟩
      rw [hpe] at p0 p1 ⊢
      replace hpe := hid hpe
      by_cases hlt : k < G + 1
      · go_wp2_with (first
          | (go_at_call 26; refine (rdU16_at R.out (by omega) MH.out).mono ?_; rintro _ w5 ⟨_, rfl, y, a', b', rfl, y0, y1, hy, R', M⟩; (have M5 := hid (M.perm List.perm_append_comm)); replace hy := hid (hy hlH.out); replace R' := hid R'; clear M; (rcases (show 2 * y < p ∨ (¬ 2 * y < p ∧ 2 * y > size) ∨ (¬ 2 * y < p ∧ ¬ 2 * y > size) by omega) with q1 | ⟨q1, q2⟩ | ⟨q1, q2⟩))
          | (at_builtin; refine wpList_append_Own rfl (.tmp 47) (.tmp 49) _ rfl sized_int rfl rfl (L1 := [.blk w5.heap.size 3 #[.int .i64 (2 * y)]]) (L2 := rdE b v l a' b') (M5.out.alloc _ _) (SliceAt.built (M5.out.alloc _ _) (.head _) 1 1 rfl (by unfold maxLen; omega)) (ints_one .i64 [2 * y]) (by unfold maxLen; omega) (by omega) ?_; intro v' w' M'; obtain ⟨A7, c7, rfl⟩ := M'.tail.form (.head _); (have M7 := hid (M'.tail.perm (List.perm_append_comm (l₁ := [_])))); clear M'))
        · have hpn := hid (show pn false l k = 2 * y by rw [hy.out]; rfl)
          go_ret2
          exact .mk (.inr ⟨fun f => by have := f.all k hlt; rw [hpe.out, hpn.out] at this; omega, rfl, M5.out.below⟩)
        · have hpn := hid (show pn false l k = 2 * y by rw [hy.out]; rfl)
          go_ret2
          exact .mk (.inr ⟨fun f => by have := f.all k hlt; rw [hpe.out, hpn.out] at this; omega, rfl, M5.out.below⟩)
        · have hpn := hid (show pn false l k = 2 * y by rw [hy.out]; rfl)
          go_roundw
          case rel => exact ⟨k + 1, a', b', A7, c7, by omega, by go_num, rfl, by rw [hpl.out, hpn.out], hid (by rw [hpl.out, hpn.out]; omega), hid (fun j hj => by
            by_cases e : j = k
            · rw [e, hpe.out, hpn.out]; omega
            · exact hall.out j (by omega)), R', by rw [pns_succ, hpn.out, ints_append]; exact M7⟩
          case measure => simp [intOf]; omega
      · obtain rfl : k = G + 1 := by omega
        have hk1 : ¬ (((G + 1 : Nat) : Int) < (G : Int) + 1) := by omega
        go_wp2
        go_ret2
        exact .mk (.inl ⟨⟨hlE.out, hall.out⟩, _, rfl, (MH.out.perm List.perm_append_comm).head1⟩)
  · have hnl : ((l.length : Int) != 2 * ((G : Int) + 1)) = true := by rw [bne_iff_ne]; omega
    have hF := hid (show ¬ Fine false l G size from fun f => hl f.len)
    clear hl
    go_enter Try.func12, Try.ntmps12
    go_wp2
    go_ret2
    exact .mk (.inr ⟨hF.out, rfl, Below.refl _ _⟩)
end Go.Proofs.Ytmboeoobkccpoaa
