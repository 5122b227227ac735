/- Layer 14: chains of glyphs. -/
import Derived.Test.YtiedbfaehndooaaDoorFlatI
namespace Go.Proofs.YtiedbfaehndooaaDoor
open Go Go.RowKit
set_option linter.unusedVariables false
set_option linter.unusedSimpArgs false
set_option maxRecDepth 1000000

theorem sized_bs : Sized Tryd.prog 27 35 1 24 := .mk' Tryd.underlying27 (.slice none 0 0) (by kernel_rfl)
def toC (n : Nat) (back : Int) (i : Nat) : Int := if i + 1 = n ∧ 0 ≤ back then back else i + 1
abbrev ptCh (t : Int) : Pt := ⟨3, t, 1, 0, 16384, 0, 0, 16384⟩
abbrev cgCh (t : Int) : Cg := ⟨0, 0, 0, 0, [ptCh t], []⟩
def chK (n : Nat) (back : Int) (k : Nat) : List Gk := (List.range k).map fun i => .parts (cgCh (toC n back i))
theorem chK_succ (n : Nat) (back : Int) (k : Nat) : chK n back (k + 1) = chK n back k ++ [.parts (cgCh (toC n back k))] := by simp [chK, List.range_succ]
def chainK (n : Nat) (back : Int) : List Gk := chK n back n ++ [.pts (gOne 5 0)]
theorem toC_bd {n i : Nat} {back : Int} (hi : i < n) (hn : n ≤ 40) (hb : back < 40) : 0 ≤ toC n back i ∧ toC n back i ≤ 40 := by
  unfold toC; split <;> omega
theorem ptCh_ok {t : Int} (h0 : 0 ≤ t) (h1 : t ≤ 40) : (ptCh t).Ok := ⟨(show U16 3 by decide), (show U16 t from ⟨h0, by omega⟩), (show I16 1 by decide), (show I16 0 by decide), (show I16 16384 by decide), (show I16 0 by decide), (show I16 0 by decide), (show I16 16384 by decide)⟩
theorem cgCh_ok {t : Int} (h0 : 0 ≤ t) (h1 : t ≤ 40) : (cgCh t).Ok := ⟨(show I16 0 by decide), (show I16 0 by decide), (show I16 0 by decide), (show I16 0 by decide), fun p hp => by rw [List.mem_singleton] at hp; subst hp; exact ptCh_ok h0 h1, bytes_nil⟩
theorem cgCh_r (t : Int) : cgR (cgCh t) = true := by kernel_rfl
theorem chainK_mem {n : Nat} {back : Int} {k : Gk} (hk : k ∈ chainK n back) : (∃ i, i < n ∧ k = .parts (cgCh (toC n back i))) ∨ k = .pts (gOne 5 0) := by
  rcases List.mem_append.1 hk with h | h
  · obtain ⟨i, hi, rfl⟩ := List.mem_map.1 h
    exact .inl ⟨i, List.mem_range.1 hi, rfl⟩
  · exact .inr (List.mem_singleton.1 h)
theorem chainK_right {n : Nat} {back : Int} (hn : n ≤ 40) (hb : back < 40) : ∀ k ∈ chainK n back, k.Right := by
  intro k hk
  rcases chainK_mem hk with ⟨i, hi, rfl⟩ | rfl
  · obtain ⟨h0, h1⟩ := toC_bd hi hn hb
    exact ⟨cgCh_ok h0 h1, cgCh_r _⟩
  · exact ⟨gOne_ok (by decide) (by decide), by decide, by decide⟩
theorem chainK_near {n : Nat} {back : Int} (hn : n ≤ 40) (hb : back < 40) : Near (chainK n back) := near_unit (chainK_right hn hb) (by
  intro k hk g hg p hp
  rcases chainK_mem hk with ⟨i, hi, rfl⟩ | rfl
  · obtain ⟨h0, h1⟩ := toC_bd hi hn hb
    injection hg with hg
    subst hg
    rw [List.mem_singleton] at hp
    subst hp
    exact ⟨rfl, rfl, rfl, rfl, ptCh_ok h0 h1⟩
  · cases hg)
theorem chBytes {W0 : World} {t : Int} {nb : Nat} (hnb : (cgB (cgCh t)).length = nb) (t0 : 0 ≤ t) (t1 : t ≤ 40) {w1 : World} {L : List Ent} (M : Own W0 w1 L) : Calls Tryd.prog 13 #[.agg (cA (cgCh t) (.slice (some ⟨w1.heap.size, 0, none⟩) 1 1) (.slice none 0 0))] (w1.alloc (.cells (ptA (ptCh t)) 45 (0, 0)))
    (Ret fun r w' => Own (w1.alloc (.cells (ptA (ptCh t)) 45 (0, 0))) w' [.row 5 1 r nb (ints .u8 (cgB (cgCh t)))]) := by
  have := cBytes_yes (w1.alloc (.cells (ptA (ptCh t)) 45 (0, 0))) (g := cgCh t) (vp := .slice (some ⟨w1.heap.size, 0, none⟩) 1 1) (vg := .slice none 0 0) (cgCh_ok t0 t1)
    ⟨SliceAt.built (M.alloc 45 (ptA (ptCh t))) (.head _) 8 1 rfl (by unfold maxLen; omega), SliceAt.nil _ _ _⟩ (cgCh_r t)
  rwa [hnb] at this
set_option maxHeartbeats 8000000 in
theorem chain_calls (w : World) {n : Nat} {back : Int} (hn : n ≤ 40) (hb1 : -1 ≤ back) (hb : back < 40) : Calls Tryd.prog 10 #[.int .i64 n, .int .i64 back] w (Ret fun r w' => GlyphsAt w' r (chainK n back) ∧ Below w.heap.size w w') := by
  have M0 := hid ((Own.start w).nil_row 35 1)
  have wn1 : IntKind.i64.wrap ((n : Int) - 1) = (n : Int) - 1 := IntWalk.i64_in _ (by omega)
  have hB5 := hid (fun (w1 : World) (L : List Ent) (M : Own w w1 L) => bytes_yes ((w1.alloc (.cells #[.int .u16 0] 34 (0, 0))).alloc (.cells #[.int .i16 5, .int .i16 0, .bool false] 55 (0, 0))) (g := gOne 5 0) (ve := .slice (some ⟨w1.heap.size, 0, none⟩) 1 1) (vp := .slice none 0 0) (vs := .slice (some ⟨(w1.alloc (.cells #[.int .u16 0] 34 (0, 0))).heap.size, 0, none⟩) 1 1) (gOne_ok (by decide) (by decide))
    ⟨SliceAt.built ((M.alloc _ _).alloc _ _) (.tail _ (.head _)) 1 1 rfl (by unfold maxLen; omega), SliceAt.nil _ _ _, SliceAt.built ((M.alloc _ _).alloc _ _) (.head _) 3 1 rfl (by unfold maxLen; omega)⟩ (by decide))
  go_enter Tryd.func10, Tryd.ntmps10
  go_wp2_with fail
  go_loopw [5, 9] (fun o i wr => ∃ (k : Nat) (A : Option Addr) (c : Nat), k ≤ n ∧ i = .int .i64 k ∧ o = .slice A k c ∧ Hid (∃ bl : VL, bl.length = k ∧ bl.map (·.2) = (chK n back k).map Gk.bytes ∧ Own w wr (.row 35 1 (.slice A k c) k (bl.map (·.1)) :: bViews bl))) (fun _ i _ => n - (intOf i).toNat)
  case atStart => exact ⟨0, none, 0, Nat.zero_le _, rfl, rfl, hid ⟨[], rfl, rfl, M0.out⟩⟩
  case round =>
    clear M0
    obtain ⟨k, A, c, hk, rfl, rfl, hR⟩ := hrel
    obtain ⟨bl, hbl, hbs, MR⟩ := hR.out
    clear hR
    replace MR := hid MR
    replace hbl := hid hbl
    replace hbs := hid hbs
    by_cases hlt : k < n
    · obtain ⟨t, ht⟩ : ∃ t, toC n back k = t := ⟨_, rfl⟩
      obtain ⟨t0, t1⟩ := toC_bd hlt hn hb
      have hcs := hid (chK_succ n back k)
      rw [ht] at t0 t1 hcs
      have wk1 : IntKind.i64.wrap ((k : Int) + 1) = (k : Int) + 1 := IntWalk.i64_in _ (by omega)
      have wt : IntKind.u16.wrap t = t := IntWalk.u16_in _ (by omega)
      obtain ⟨nb, hnb⟩ : ∃ m, (cgB (cgCh t)).length = m := ⟨_, rfl⟩
      have hBy := hid (fun (w1 : World) (L : List Ent) (M : Own w w1 L) => chBytes hnb t0 t1 M)
      replace hnb := hid hnb
      by_cases hl : k + 1 = n
      · have he : ((k : Int) == (n : Int) - 1) = true := by rw [beq_iff_eq]; omega
        by_cases hz : 0 ≤ back
        · have hz' : back ≥ 0 := hz
          have e : back = t := by rw [← ht]; unfold toC; rw [if_pos ⟨hl, hz⟩]
          subst e
          clear ht hl
          go_wp2_with (first
            | (go_at_call 12; (with_reducible refine (unit_calls _).mono ?_); rintro _ w1 ⟨_, rfl, rfl, hb'⟩; (have M1 := hid (MR.out.keep hb')); clear hb')
            | (go_at_call 13; (with_reducible refine (hBy.out w1 _ M1.out).mono ?_); rintro _ w2 ⟨_, rfl, M⟩; obtain ⟨Ab, cb, rfl⟩ := M.form (.head _); (have M2 := hid ((Own.share (L1 := []) ((M1.out.alloc _ _).lift M)).sub (.cons_cons _ (.cons _ (List.Sublist.refl _))))); clear M)
            | (at_builtin; refine wpList_append_Own rfl (.tmp 23) (.tmp 31) _ rfl sized_bs rfl rfl (L1 := [.blk w2.heap.size 35 #[.slice Ab nb cb], .view 1 (.slice Ab nb cb) nb (ints .u8 (cgB (cgCh back)))]) (L2 := _) (M2.out.alloc _ _) (SliceAt.built (M2.out.alloc _ _) (.head _) 1 1 rfl (by unfold maxLen; omega)) (one_all rfl) ((by unfold maxLen; omega)) ((by omega)) ?_; intro v' w' M'; obtain ⟨A9, c9, rfl⟩ := M'.tail.tail.form (.head _); (have M3 := hid (Own.front2 (A := [_]) (X := [_]) (B := bViews bl) (L := []) (by rw [List.append_nil]; exact M'.tail))); clear M'))
          go_roundw
          case rel => exact ⟨k + 1, A9, c9, by omega, by go_num, rfl, hid ⟨bl ++ [(.slice Ab nb cb, cgB (cgCh back))], by rw [List.length_append, hbl.out]; rfl, by rw [List.map_append, hbs.out, hcs.out, List.map_append]; rfl, by
            have := M3.out
            rw [bViews_snoc, List.map_append]
            show Own w _ (_ :: (bViews bl ++ [.view 1 _ (cgB (cgCh back)).length _]))
            rw [hnb.out]
            exact this⟩⟩
          case measure => simp [intOf] <;> omega
        · have hz' : ¬ back ≥ 0 := hz
          have e : (k : Int) + 1 = t := by rw [← ht]; unfold toC; rw [if_neg (by intro h; exact hz h.2)]
          replace e := hid e
          rw [← e.out] at wt hBy hcs hnb
          clear ht hl
          go_wp2_with (first
            | (go_at_call 12; (with_reducible refine (unit_calls _).mono ?_); rintro _ w1 ⟨_, rfl, rfl, hb'⟩; (have M1 := hid (MR.out.keep hb')); clear hb')
            | (go_at_call 13; (with_reducible refine (hBy.out w1 _ M1.out).mono ?_); rintro _ w2 ⟨_, rfl, M⟩; obtain ⟨Ab, cb, rfl⟩ := M.form (.head _); (have M2 := hid ((Own.share (L1 := []) ((M1.out.alloc _ _).lift M)).sub (.cons_cons _ (.cons _ (List.Sublist.refl _))))); clear M)
            | (at_builtin; refine wpList_append_Own rfl (.tmp 23) (.tmp 31) _ rfl sized_bs rfl rfl (L1 := [.blk w2.heap.size 35 #[.slice Ab nb cb], .view 1 (.slice Ab nb cb) nb (ints .u8 (cgB (cgCh ((k : Int) + 1))))]) (L2 := _) (M2.out.alloc _ _) (SliceAt.built (M2.out.alloc _ _) (.head _) 1 1 rfl (by unfold maxLen; omega)) (one_all rfl) ((by unfold maxLen; omega)) ((by omega)) ?_; intro v' w' M'; obtain ⟨A9, c9, rfl⟩ := M'.tail.tail.form (.head _); (have M3 := hid (Own.front2 (A := [_]) (X := [_]) (B := bViews bl) (L := []) (by rw [List.append_nil]; exact M'.tail))); clear M'))
          go_roundw
          case rel => exact ⟨k + 1, A9, c9, by omega, by go_num, rfl, hid ⟨bl ++ [(.slice Ab nb cb, cgB (cgCh ((k : Int) + 1)))], by rw [List.length_append, hbl.out]; rfl, by rw [List.map_append, hbs.out, hcs.out, List.map_append]; rfl, by
            have := M3.out
            rw [bViews_snoc, List.map_append]
            show Own w _ (_ :: (bViews bl ++ [.view 1 _ (cgB (cgCh ((k : Int) + 1))).length _]))
            rw [hnb.out]
            exact this⟩⟩
          case measure => simp [intOf] <;> omega
      · have he : ((k : Int) == (n : Int) - 1) = false := by rw [beq_eq_false_iff_ne]; omega
        have e : (k : Int) + 1 = t := by rw [← ht]; unfold toC; rw [if_neg (by intro h; exact hl h.1)]
        replace e := hid e
        rw [← e.out] at wt hBy hcs hnb
        clear ht
        go_wp2_with (first
          | (go_at_call 12; (with_reducible refine (unit_calls _).mono ?_); rintro _ w1 ⟨_, rfl, rfl, hb'⟩; (have M1 := hid (MR.out.keep hb')); clear hb')
          | (go_at_call 13; (with_reducible refine (hBy.out w1 _ M1.out).mono ?_); rintro _ w2 ⟨_, rfl, M⟩; obtain ⟨Ab, cb, rfl⟩ := M.form (.head _); (have M2 := hid ((Own.share (L1 := []) ((M1.out.alloc _ _).lift M)).sub (.cons_cons _ (.cons _ (List.Sublist.refl _))))); clear M)
          | (at_builtin; refine wpList_append_Own rfl (.tmp 23) (.tmp 31) _ rfl sized_bs rfl rfl (L1 := [.blk w2.heap.size 35 #[.slice Ab nb cb], .view 1 (.slice Ab nb cb) nb (ints .u8 (cgB (cgCh ((k : Int) + 1))))]) (L2 := _) (M2.out.alloc _ _) (SliceAt.built (M2.out.alloc _ _) (.head _) 1 1 rfl (by unfold maxLen; omega)) (one_all rfl) ((by unfold maxLen; omega)) ((by omega)) ?_; intro v' w' M'; obtain ⟨A9, c9, rfl⟩ := M'.tail.tail.form (.head _); (have M3 := hid (Own.front2 (A := [_]) (X := [_]) (B := bViews bl) (L := []) (by rw [List.append_nil]; exact M'.tail))); clear M'))
        go_roundw
        case rel => exact ⟨k + 1, A9, c9, by omega, by go_num, rfl, hid ⟨bl ++ [(.slice Ab nb cb, cgB (cgCh ((k : Int) + 1)))], by rw [List.length_append, hbl.out]; rfl, by rw [List.map_append, hbs.out, hcs.out, List.map_append]; rfl, by
          have := M3.out
          rw [bViews_snoc, List.map_append]
          show Own w _ (_ :: (bViews bl ++ [.view 1 _ (cgB (cgCh ((k : Int) + 1))).length _]))
          rw [hnb.out]
          exact this⟩⟩
        case measure => simp [intOf] <;> omega
    · obtain rfl : n = k := by omega
      obtain ⟨nb, hnb⟩ : ∃ m, (sgB (gOne 5 0)).length = m := ⟨_, rfl⟩
      rw [hnb] at hB5
      have hBy := hid (hB5.out wr _ MR.out)
      rw [alloc_size] at hBy
      have M1 := hid ((MR.out.alloc 34 #[.int .u16 0]).alloc 55 #[.int .i16 5, .int .i16 0, .bool false])
      replace hnb := hid hnb
      clear hB5
      go_wp2_with (first
        | (go_at_call 14; (with_reducible refine hBy.out.mono ?_); rintro _ w2 ⟨_, rfl, M⟩; obtain ⟨Ab, cb, rfl⟩ := M.form (.head _); (have M2 := hid ((Own.share (L1 := []) (M1.out.lift M)).sub (.cons_cons _ (.cons _ (.cons _ (List.Sublist.refl _)))))); clear M)
        | (at_builtin; refine wpList_append_Own rfl (.tmp 34) (.tmp 40) _ rfl sized_bs rfl rfl (L1 := [.blk w2.heap.size 35 #[.slice Ab nb cb], .view 1 (.slice Ab nb cb) nb (ints .u8 (sgB (gOne 5 0)))]) (L2 := _) (M2.out.alloc _ _) (SliceAt.built (M2.out.alloc _ _) (.head _) 1 1 rfl (by unfold maxLen; omega)) (one_all rfl) ((by unfold maxLen; omega)) ((by omega)) ?_; intro v' w' M'; obtain ⟨A9, c9, rfl⟩ := M'.tail.tail.form (.head _); (have M3 := hid (Own.front2 (A := [_]) (X := [_]) (B := bViews bl) (L := []) (by rw [List.append_nil]; exact M'.tail))); clear M'))
      go_ret
      have hlk : (chainK n back).length = n + 1 := by simp [chainK, chK]
      refine .mk ⟨glyphs_of (l := bl ++ [(.slice Ab nb cb, sgB (gOne 5 0))]) ?_ M3.out ?_ ?_, M3.out.below⟩
      · rw [hlk, List.map_append]
        exact M3.out.slice (.head _)
      · intro x hx
        rw [bViews_snoc, hnb.out] at hx
        exact List.mem_append_right _ hx
      · rw [List.map_append, hbs.out]
        simp [chainK, Gk.bytes]
end Go.Proofs.YtiedbfaehndooaaDoor
