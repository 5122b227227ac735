/- The document's table of places. -/
import Derived.Test.YtmboeoobkccpoaaLocaB
namespace Go.Proofs.Ytmboeoobkccpoaa
open Go Go.RowKit
set_option linter.unusedVariables false
set_option linter.unusedSimpArgs false
set_option maxRecDepth 100000

/-- The places behind the first: some of them odd, or too great? -/
theorem bL_plcK (l : List Int) (k : Nat) : bL (plcK l (k + 1)) = (bL (plcK l k) || (psum l (k + 1) % 2 != 0 || decide (psum l (k + 1) > 131070))) := by
  rw [plcK_succ]; simp [bL]
theorem bL_zero (l : List Int) : bL (plcK l 0) = false := by simp [plcK, bL, psum]

set_option maxHeartbeats 4000000 in
theorem refBuild_calls (w : World) {V : Value} {l : List Int} (h1 : SliceAt w w.heap.size 1 V l.length (ints .i64 l)) (g : Good l) :
    Calls Try.prog 10 #[V] w (Ret fun r w' => ∃ v, r = .tuple #[v, .bool (locL l)] ∧ Own w w' [.row 5 1 v (locB l).length (ints .u8 (locB l))]) := by
  have hbd := hid (fun k (hk : k ≤ l.length) => g.bd hk)
  have hn := hid g.few
  have hsu := hid (fun k (hk : k < l.length) => psum_succ hk)
  have hlast := hid (show ∀ lg, locL l = lg → lg = false → ∀ k, k ≤ l.length → psum l k % 2 = 0 ∧ psum l k ≤ 131070 from fun lg h1 h2 k hk => by
    have := bL_false (xs := plc l) (h1.trans h2) (k := k) (by rw [plc_length]; omega)
    unfold plc at this
    rwa [plcK_get l hk] at this)
  have hbk := hid (bL_plcK l)
  have hb0 := bL_zero l
  have hbn := hid (show bL (plcK l l.length) = locL l from rfl)
  have hfl := hid (fun k (hk : k ≤ l.length) => show ((plc l).take (k + 1)).flatMap (locE (locL l)) = ((plc l).take k).flatMap (locE (locL l)) ++ locE (locL l) (psum l k) by
    rw [flatE_snoc _ (by rw [plc_length]; omega)]
    unfold plc
    rw [plcK_get l hk])
  have hll := hid (fun k => show (((plc l).take k).flatMap (locE (locL l))).length ≤ 300000 by
    rw [flatE_length, List.length_take, plc_length]
    have h1 := locS_le (locL l)
    have h2 := g.few
    exact Nat.le_trans (Nat.mul_le_mul h1 (show min k (l.length + 1) ≤ 65536 by omega)) (by omega))
  have hfin := hid (show ((plc l).take (l.length + 1)).flatMap (locE (locL l)) = locB l by
    rw [List.take_of_length_le (by rw [plc_length]; omega)]; rfl)
  have hget := hid (fun k (hk : k < l.length) => ints_get .i64 l k hk)
  obtain ⟨A1, c1, rfl, hc1, hm1, hA1, hr1⟩ := h1
  unfold maxLen at hm1
  have hr1H := hid hr1
  clear hr1 hA1 g
  generalize l.length = n at *
  have hz : psum l 0 = 0 := rfl
  generalize psum l = ps at *
  go_enter Try.func10, Try.ntmps10
  go_wp2
  go_loopw [4, 5, 13] (fun s lg i wr => ∃ k : Nat, k ≤ n ∧ i = .int .i64 k ∧ s = .int .i64 (ps k) ∧ lg = .bool (bL (plcK l k)) ∧ w = wr) (fun _ _ i _ => n - (intOf i).toNat)
  case atStart => exact ⟨0, Nat.zero_le _, rfl, by rw [hz], by rw [hb0], rfl⟩
  case round =>
    obtain ⟨k, hk, rfl, rfl, rfl, rfl⟩ := hrel
    by_cases hlt : k < n
    · obtain ⟨a1, rfl, hcell1⟩ := hr1H.out.cell (hget.out k hlt)
      have hs := hsu.out k hlt
      have hb := hbk.out k
      obtain ⟨s0, s1⟩ := hbd.out k hk
      obtain ⟨t0, t1⟩ := hbd.out (k + 1) hlt
      generalize l.getD k 0 = x at *
      have hsx : ps k + x = ps (k + 1) := hs.symm
      clear hs hz hb0
      generalize ps k = s at *
      obtain ⟨t, ht⟩ : ∃ t, ps (k + 1) = t := ⟨_, rfl⟩
      rw [ht] at hsx hb t0 t1
      replace ht := hid ht
      generalize bL (plcK l k) = bb at *
      replace hb := hid hb
      cases bb
      · have hx2 : t % 2 = 0 ∨ t % 2 = 1 := by omega
        rcases hx2 with hx2 | hx2
        · have e1 : (t % 2 != 0) = false := by rw [hx2]; rfl
          by_cases hx : t > 131070
          all_goals
            rw [e1, show decide (t > 131070) = _ from by first | exact decide_eq_true hx | exact decide_eq_false hx] at hb
            go_wp2
            go_roundw
            case rel => exact ⟨k + 1, by omega, by go_num, by rw [ht.out], by rw [hb.out]; first | rfl | simp [hx], trivial⟩
            case measure => simp [intOf]; omega
        · have e1 : (t % 2 != 0) = true := by rw [hx2]; rfl
          rw [e1] at hb
          go_wp2
          go_roundw
          case rel => exact ⟨k + 1, by omega, by go_num, by rw [ht.out], by rw [hb.out]; rfl, trivial⟩
          case measure => simp [intOf]; omega
      · go_wp2
        go_roundw
        case rel => exact ⟨k + 1, by omega, by go_num, by rw [ht.out], by rw [hb.out]; rfl, trivial⟩
        case measure => simp [intOf]; omega
    · obtain rfl : k = n := by omega
      obtain ⟨lg, hlg⟩ : ∃ lg, locL l = lg := ⟨_, rfl⟩
      rw [hbn.out, hlg]
      have hE := hid (fun h => hlast.out lg hlg h)
      rw [hlg] at hfl hll hfin
      replace hlg := hid hlg
      clear hlt hk hb0 hbk hlast hbn
      go_wp2
      go_loopw [8, 9, 10] (fun s o i wr => ∃ (j : Nat) (A : Option Addr) (m c : Nat), j ≤ k + 1 ∧ i = .int .i64 j ∧ s = .int .i64 (ps (min j k)) ∧ o = .slice A m c ∧ Hid (m = (((plc l).take j).flatMap (locE lg)).length) ∧ Hid (Own w wr [.row 5 1 (.slice A m c) m (ints .u8 (((plc l).take j).flatMap (locE lg)))])) (fun _ _ i _ => k + 1 - (intOf i).toNat)
      case atStart => exact ⟨0, none, 0, 0, by omega, rfl, by rw [Nat.zero_min, hz], rfl, hid (by simp), hid (by simpa [ints] using (Own.start w).nil_row 5 1)⟩
      case round =>
        obtain ⟨j, A, m, c, hj, rfl, rfl, rfl, hm, MH⟩ := hrel
        by_cases hlt : j ≤ k
        · have hmin : min j k = j := by omega
          have hmin2 := hid (show min (j + 1) k = if j < k then j + 1 else j by split <;> omega)
          rw [hmin]
          obtain ⟨s0, s1⟩ := hbd.out j hlt
          have hEj := fun h => hE.out h j hlt
          have hf := hfl.out j hlt
          have hl := hll.out j
          rw [← hm.out] at hl
          have hsx := hid (hsu.out j)
          have hgt := hid (hget.out j)
          obtain ⟨s, hs⟩ : ∃ s, ps j = s := ⟨_, rfl⟩
          rw [hs] at s0 s1 hEj hf ⊢
          replace hs := hid hs
          generalize ((plc l).take j).flatMap (locE lg) = p at *
          replace hf := hid hf
          cases lg
          · have he := hid (show [p, b2 (s / 2)].flatten = p ++ locE false s by simp [locE])
            have hel2 := hid (show ([p, b2 (s / 2)].flatten).length = m + 2 by rw [hm.out]; simp [b2_length, b4_length])
            have hel := hid (show ([p, b2 (s / 2)].flatten).length ≤ 300004 by simp [b2_length]; have := hl; rw [hm.out] at this; omega)
            obtain ⟨x2, x3⟩ := hEj rfl
            have x5 : 0 ≤ s / 2 := by omega
            clear x2 x3
            clear hEj hE
            by_cases hjk : j < k
            · have hgt' := hgt.out hjk
              obtain ⟨a1, rfl, hcell1⟩ := (hr1H.out.keep (w' := wr) fun k hk _ => MH.out.below.block k hk).cell hgt'
              clear hcell1 hgt'
              obtain ⟨t0, t1⟩ := hbd.out (j + 1) hjk
              have hsx := hsx.out hjk
              have hgt := hid (hgt.out hjk)
              rw [hs.out] at hsx
              obtain ⟨t, ht⟩ : ∃ t, ps (j + 1) = t := ⟨_, rfl⟩
              rw [ht] at hsx t0 t1
              replace ht := hid ht
              generalize l.getD j 0 = x at *
              replace hsx := hsx.symm
              go_wp2_with (first
                | (go_at_call 23; refine (B2_calls _ (n := s / 2) x5 (by omega)).mono ?_; rintro _ w5 ⟨_, rfl, M⟩; obtain ⟨A2, c2, rfl⟩ := M.form (.head _); (have M5 := hid ((MH.out.lift M).alloc 24 #[.slice A m c, .slice A2 2 c2])); clear M)
                | (go_at_call 14; (refine (join_calls _ (vs := [.slice A m c, .slice A2 2 c2]) (ls := [p, b2 (s / 2)]) (SliceAt.built M5.out (.head _) 1 2 rfl (by unfold maxLen; omega)) (.cons (M5.out.bytes (e := 5) (n := m) (by simp) hm.out.symm) (.cons (M5.out.slice (e := 5) (by simp [b2_length])) (.nil _))) (by have := hel.out; omega)).mono ?_; rintro _ w6 ⟨_, rfl, M⟩; rw [hel2.out, he.out] at M; obtain ⟨A4, c4, rfl⟩ := M.form (.head _); (have M7 := hid ((M5.out.lift M).head1)); (obtain ⟨a9, ha9, hcell2⟩ := (hr1H.out.keep (w' := w6) fun k hk _ => M7.out.below.block k hk).cell hgt.out); injection ha9 with ha9; subst ha9; clear M M5)))
              go_roundw
              case rel => exact ⟨j + 1, A4, _, c4, by omega, by go_num, by rw [hmin2.out, if_pos hjk, ht.out], rfl, hid (by rw [hf.out, ← he.out, hel2.out]), by rw [hf.out]; exact M7⟩
              case measure => simp [intOf]; omega
            · have hj5 : j ≤ 65535 := by have := hn.out; omega
              go_wp2_with (first
                | (go_at_call 23; refine (B2_calls _ (n := s / 2) x5 (by omega)).mono ?_; rintro _ w5 ⟨_, rfl, M⟩; obtain ⟨A2, c2, rfl⟩ := M.form (.head _); (have M5 := hid ((MH.out.lift M).alloc 24 #[.slice A m c, .slice A2 2 c2])); clear M)
                | (go_at_call 14; (refine (join_calls _ (vs := [.slice A m c, .slice A2 2 c2]) (ls := [p, b2 (s / 2)]) (SliceAt.built M5.out (.head _) 1 2 rfl (by unfold maxLen; omega)) (.cons (M5.out.bytes (e := 5) (n := m) (by simp) hm.out.symm) (.cons (M5.out.slice (e := 5) (by simp [b2_length])) (.nil _))) (by have := hel.out; omega)).mono ?_; rintro _ w6 ⟨_, rfl, M⟩; rw [hel2.out, he.out] at M; obtain ⟨A4, c4, rfl⟩ := M.form (.head _); (have M7 := hid ((M5.out.lift M).head1)); clear M M5)))
              go_roundw
              case rel => exact ⟨j + 1, A4, _, c4, by omega, by go_num, by rw [hmin2.out, if_neg hjk, hs.out], rfl, hid (by rw [hf.out, ← he.out, hel2.out]), by rw [hf.out]; exact M7⟩
              case measure => simp [intOf]; omega
          · have he := hid (show [p, b4 s].flatten = p ++ locE true s by simp [locE])
            have hel2 := hid (show ([p, b4 s].flatten).length = m + 4 by rw [hm.out]; simp [b2_length, b4_length])
            have hel := hid (show ([p, b4 s].flatten).length ≤ 300004 by simp [b4_length]; have := hl; rw [hm.out] at this; omega)
            clear hEj hE
            by_cases hjk : j < k
            · have hgt' := hgt.out hjk
              obtain ⟨a1, rfl, hcell1⟩ := (hr1H.out.keep (w' := wr) fun k hk _ => MH.out.below.block k hk).cell hgt'
              clear hcell1 hgt'
              obtain ⟨t0, t1⟩ := hbd.out (j + 1) hjk
              have hsx := hsx.out hjk
              have hgt := hid (hgt.out hjk)
              rw [hs.out] at hsx
              obtain ⟨t, ht⟩ : ∃ t, ps (j + 1) = t := ⟨_, rfl⟩
              rw [ht] at hsx t0 t1
              replace ht := hid ht
              generalize l.getD j 0 = x at *
              replace hsx := hsx.symm
              go_wp2_with (first
                | (go_at_call 22; refine (B4_calls _ (n := s) (by omega) (by omega)).mono ?_; rintro _ w5 ⟨_, rfl, M⟩; obtain ⟨A2, c2, rfl⟩ := M.form (.head _); (have M5 := hid ((MH.out.lift M).alloc 24 #[.slice A m c, .slice A2 4 c2])); clear M)
                | (go_at_call 14; (refine (join_calls _ (vs := [.slice A m c, .slice A2 4 c2]) (ls := [p, b4 s]) (SliceAt.built M5.out (.head _) 1 2 rfl (by unfold maxLen; omega)) (.cons (M5.out.bytes (e := 5) (n := m) (by simp) hm.out.symm) (.cons (M5.out.slice (e := 5) (by simp [b4_length])) (.nil _))) (by have := hel.out; omega)).mono ?_; rintro _ w6 ⟨_, rfl, M⟩; rw [hel2.out, he.out] at M; obtain ⟨A4, c4, rfl⟩ := M.form (.head _); (have M7 := hid ((M5.out.lift M).head1)); (obtain ⟨a9, ha9, hcell2⟩ := (hr1H.out.keep (w' := w6) fun k hk _ => M7.out.below.block k hk).cell hgt.out); injection ha9 with ha9; subst ha9; clear M M5)))
              go_roundw
              case rel => exact ⟨j + 1, A4, _, c4, by omega, by go_num, by rw [hmin2.out, if_pos hjk, ht.out], rfl, hid (by rw [hf.out, ← he.out, hel2.out]), by rw [hf.out]; exact M7⟩
              case measure => simp [intOf]; omega
            · have hj5 : j ≤ 65535 := by have := hn.out; omega
              go_wp2_with (first
                | (go_at_call 22; refine (B4_calls _ (n := s) (by omega) (by omega)).mono ?_; rintro _ w5 ⟨_, rfl, M⟩; obtain ⟨A2, c2, rfl⟩ := M.form (.head _); (have M5 := hid ((MH.out.lift M).alloc 24 #[.slice A m c, .slice A2 4 c2])); clear M)
                | (go_at_call 14; (refine (join_calls _ (vs := [.slice A m c, .slice A2 4 c2]) (ls := [p, b4 s]) (SliceAt.built M5.out (.head _) 1 2 rfl (by unfold maxLen; omega)) (.cons (M5.out.bytes (e := 5) (n := m) (by simp) hm.out.symm) (.cons (M5.out.slice (e := 5) (by simp [b4_length])) (.nil _))) (by have := hel.out; omega)).mono ?_; rintro _ w6 ⟨_, rfl, M⟩; rw [hel2.out, he.out] at M; obtain ⟨A4, c4, rfl⟩ := M.form (.head _); (have M7 := hid ((M5.out.lift M).head1)); clear M M5)))
              go_roundw
              case rel => exact ⟨j + 1, A4, _, c4, by omega, by go_num, by rw [hmin2.out, if_neg hjk, hs.out], rfl, hid (by rw [hf.out, ← he.out, hel2.out]), by rw [hf.out]; exact M7⟩
              case measure => simp [intOf]; omega
        · obtain rfl : j = k + 1 := by omega
          have hnl : ¬ (((k + 1 : Nat) : Int) ≤ k) := by omega
          have hnl2 : ¬ ((k : Int) + 1 ≤ k) := by omega
          go_wp2
          go_ret2
          exact .mk ⟨.slice A m c, by rw [hlg.out]; rfl, by have := MH.out; rw [hm.out, hfin.out] at this; rw [hm.out, hfin.out]; exact this⟩
end Go.Proofs.Ytmboeoobkccpoaa
