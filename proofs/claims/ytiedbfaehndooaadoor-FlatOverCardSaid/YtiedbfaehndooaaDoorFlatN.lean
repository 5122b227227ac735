/- Layer 14: FlatOver, walked. -/
import Derived.Test.YtiedbfaehndooaaDoorFlatM
namespace Go.Proofs.YtiedbfaehndooaaDoor
open Go Go.RowKit
set_option linter.unusedVariables false
set_option linter.unusedSimpArgs false
set_option maxRecDepth 1000000

theorem run_mkSpots (w : World) {k : Nat} (hk : k ≤ 100000) : (Instr.makeSlice 49 (.int .i64 (k : Int)) (.int .i64 (k : Int))).run Tryd.prog w = .ok (.slice (some ⟨w.heap.size, 0, none⟩) k k) (w.alloc (.cells (spC (List.replicate k z3)).toArray 55)) := by
  obtain ⟨i, z, h1, h2, h3, h4⟩ : ∃ i : TypeInfo, ∃ z : Value, Tryd.prog.info? 55 = some i ∧ i.zero = some z ∧ z.cells = #[.int .i16 0, .int .i16 0, .bool false] ∧ i.size = 3 ∧ i.bytes = 6 := by
    obtain ⟨i, h1, h2⟩ := Option.map_eq_some_iff.1 (show (Tryd.prog.info? 55).map (fun i => (i.zero, i.size, i.bytes)) = some (some (.agg #[.int .i16 0, .int .i16 0, .bool false]), 3, 6) by kernel_rfl)
    simp only [Prod.mk.injEq] at h2
    exact ⟨i, _, h1, h2.1, rfl, h2.2.1, h2.2.2⟩
  have := run_make (P := Tryd.prog) (w := w) 49 55 i z Tryd.underlying49 h1 h2 .i64 .i64 k k (by omega) (Int.le_refl _) (by rw [h4.2]; omega) (by omega)
  simp only [Int.toNat_natCast, h4.1, h3, madeZ] at this
  exact this
set_option maxHeartbeats 16000000 in
theorem flatOver_calls (w : World) {x y : Int} (x0 : 0 ≤ x) (x1 : x < 256) (y0 : 0 ≤ y) (y1 : y < 256) : Calls Tryd.prog 6 #[.int .u8 x, .int .u8 y] w (Ret fun r w' => r = .bool true ∧ Below w.heap.size w w') := by
  have M0 := hid (Own.start w)
  obtain ⟨m, hm, m1, m2⟩ := mod200 y0
  obtain ⟨k, hk⟩ : ∃ k : Nat, (k : Int) = 100 + x := ⟨(100 + x).toNat, by omega⟩
  have k1 : 1 ≤ k := by omega
  have k2 : k ≤ 400 := by omega
  have hBc := hid (fun (w1 : World) vp vg (h : CAt w1 (cgM 1 m) vp vg) => cBytes_yes w1 (cgM_ok (by decide) (by decide) m) h (cgM_r m1 m2))
  have hBs := hid (fun (w1 : World) ve vp vs (h : GAt w1 (gZ k) ve vp vs) => bytes_yes w1 (gZ_ok k1 k2) h (gZ_r k1 k2))
  obtain ⟨na, hna⟩ : ∃ n, (cgB (cgM 1 m)).length = n := ⟨_, rfl⟩
  obtain ⟨nb, hnb⟩ : ∃ n, (sgB (gZ k)).length = n := ⟨_, rfl⟩
  rw [hna] at hBc
  rw [hnb] at hBs
  have hG := hid (fun (w1 : World) (L : List Ent) (g : Nat) (A B : Option Addr) (c d : Nat) (M : Own w w1 L) (hg : .blk g 35 #[.slice A na c, .slice B nb d] ∈ L) (h : .row 5 1 (.slice A na c) na (ints .u8 (cgB (cgM 1 m))) ∈ L) (h' : .row 5 1 (.slice B nb d) nb (ints .u8 (sgB (gZ k))) ∈ L) =>
    show GlyphsAt w1 (.slice (some ⟨g, 0, none⟩) 2 2) (kOver m k) from
      ⟨[.slice A na c, .slice B nb d], SliceAt.built M hg 1 2 rfl (by unfold maxLen; omega), fun i hi => by
        have hi2 : i = 0 ∨ i = 1 := by have : i < 2 := hi; omega
        rcases hi2 with rfl | rfl
        · show SliceAt _ _ 1 (.slice A na c) (cgB (cgM 1 m)).length (ints .u8 (cgB (cgM 1 m)))
          rw [hna]
          exact M.slice h
        · show SliceAt _ _ 1 (.slice B nb d) (sgB (gZ k)).length (ints .u8 (sgB (gZ k)))
          rw [hnb]
          exact M.slice h'⟩)
  have hF := hid (fun (w1 : World) (V : Value) (h : GlyphsAt w1 V (kOver m k)) => flat_calls h (kOver_right m1 m2 k1 k2) (kOver_near m1 m2 k1 k2) 0)
  have hat := kOver_at (m := m) (k := k) m2
  obtain ⟨R, hR⟩ : ∃ R, atK (kOver m k) 17 [] 0 0 0 = R := ⟨_, rfl⟩
  rw [hR] at hF hat
  clear hR hna hnb
  obtain ⟨e, cc, m', q'⟩ := R
  have hmk := fun w => run_mkSpots w (k := k) (by omega)
  have w8 : IntKind.u8.wrap (y.tmod 200) = (m : Int) - 1 := by rw [hm]; exact IntWalk.u8_in _ (by omega)
  have w8' : IntKind.u8.wrap ((m : Int) - 1) = (m : Int) - 1 := IntWalk.u8_in _ (by omega)
  have w64 : IntKind.i64.wrap ((m : Int) - 1) = (m : Int) - 1 := IntWalk.i64_in _ (by omega)
  have wa : IntKind.i64.wrap (1 + ((m : Int) - 1)) = m := by rw [show 1 + ((m : Int) - 1) = m by omega]; exact IntWalk.i64_in _ (by omega)
  have wx : IntKind.i64.wrap x = x := IntWalk.i64_in _ (by omega)
  have wk : IntKind.i64.wrap (100 + x) = k := by rw [← hk]; exact IntWalk.i64_in _ (by omega)
  have wk1 : IntKind.i64.wrap ((k : Int) - 1) = (k : Int) - 1 := IntWalk.i64_in _ (by omega)
  have wk2 : IntKind.u16.wrap ((k : Int) - 1) = (k : Int) - 1 := IntWalk.u16_in _ (by omega)
  obtain ⟨mk, hmk2⟩ : ∃ n : Nat, k * m = n := ⟨_, rfl⟩
  have hmk3 : mk ≤ 80000 := by rw [← hmk2]; exact Nat.le_trans (Nat.mul_le_mul k2 m2) (by omega)
  have hmki : (k : Int) * (m : Int) = mk := by rw [← hmk2]; exact (Int.natCast_mul k m).symm
  rw [Nat.mul_comm m k, hmk2] at hat
  have wm : IntKind.i64.wrap ((k : Int) * (m : Int)) = mk := by rw [hmki]; exact IntWalk.i64_in _ (by omega)
  have wm' : IntKind.i64.wrap (mk : Int) = mk := IntWalk.i64_in _ (by omega)
  have htot := hid (show tot (List.replicate m (List.replicate k z3)) = mk by rw [tot_rep, Nat.mul_comm, hmk2])
  clear hmk2 hk
  replace hat := hid hat
  replace hmki := hid hmki
  go_enter Tryd.func6, Tryd.ntmps6
  go_upto_region 5 with (first
    | (go_at_call 8; (with_reducible refine (awake14_calls _).mono ?_); rintro _ w1 ⟨_, rfl, rfl, hb'⟩; ((have M1 := hid (M0.out.keep hb'))); (clear hb')))
  have M2 := hid (M1.out.alloc 55 (spC (List.replicate k z3)).toArray)
  obtain ⟨hp, hhp⟩ : ∃ h, w1.heap.size = h := ⟨_, rfl⟩
  rw [hhp] at M2 ⊢
  revert M2
  generalize w1.alloc (.cells (spC (List.replicate k z3)).toArray 55) = w2
  intro M2
  clear hhp M1 M0
  have M3 := hid (M2.out.alloc 34 #[.int .u16 ((k : Int) - 1)])
  go_upto_region 7 with (first
    | ((with_reducible refine gate (N := 8) rfl ?_); refine wpList_box_Own rfl (cs := gNil) (t := 52) (by first | (go_simp; done) | (go_simp; rfl)) M3.out ?_; intro gb w3 M; (have M4 := hid M); clear M)
    | ((with_reducible refine gateSt (t := 52) (p := 8) rfl ?_); refine wpList_store_all (n := 7) (L1 := []) (mid := gNil.toList) (vs := (gA (gZ k) (.slice (some ⟨w2.heap.size, 0, none⟩) 1 1) (.slice none 0 0) (.slice (some ⟨hp, 0, none⟩) k k)).toList) rfl rfl (by kernel_rfl) rfl rfl rfl rfl rfl (one_all rfl) M4.out ?_; intro w4 M; (have M5 := hid M); clear M)
    | ((with_reducible refine gate (N := 9) rfl ?_); refine wpList_box_Own rfl (cs := cA ⟨0, 0, 0, 0, [], []⟩ (.slice none 0 0) (.slice none 0 0)) (t := 40) (by first | (go_simp; done) | (go_simp; rfl)) M5.out ?_; intro mc w5 M; (have M6 := hid M); clear M))
  obtain ⟨he, hhe⟩ : ∃ h, w2.heap.size = h := ⟨_, rfl⟩
  rw [hhe] at M6 ⊢
  clear hhe M5 M4 M3 M2
  obtain ⟨LG, hLG⟩ : ∃ l : List Ent, [.blk gb 52 (gA (gZ k) (.slice (some ⟨he, 0, none⟩) 1 1) (.slice none 0 0) (.slice (some ⟨hp, 0, none⟩) k k)), .blk he 34 #[.int .u16 ((k : Int) - 1)], .blk hp 55 (spC (List.replicate k z3)).toArray] = l := ⟨_, rfl⟩
  have hmem := hid (show .blk gb 52 (gA (gZ k) (.slice (some ⟨he, 0, none⟩) 1 1) (.slice none 0 0) (.slice (some ⟨hp, 0, none⟩) k k)) ∈ LG ∧ .blk he 34 #[.int .u16 ((k : Int) - 1)] ∈ LG ∧ .blk hp 55 (spC (List.replicate k z3)).toArray ∈ LG by rw [← hLG]; simp)
  replace M6 := hid (show Own w w5 (.blk mc 40 (cA ⟨0, 0, 0, 0, [], []⟩ (.slice none 0 0) (.slice none 0 0)) :: LG) by rw [← hLG]; exact M6.out)
  clear hLG
  go_wp2_with fail
  go_loopw [30] (fun i wr => ∃ (j : Nat), j ≤ m ∧ i = .int .i64 j ∧ Hid (∃ (Ap : Option Addr) (cp : Nat), Own w wr (.row 45 8 (.slice Ap j cp) j (ptCC (List.replicate j (ptM 1))) :: .blk mc 40 (cA ⟨0, 0, 0, 0, [], []⟩ (.slice Ap j cp) (.slice none 0 0)) :: LG))) (fun i _ => m - (intOf i).toNat)
  case atStart => exact ⟨0, Nat.zero_le _, rfl, hid ⟨none, 0, M6.out.nil_row 45 8⟩⟩
  case round =>
    clear M6
    obtain ⟨j, hj, rfl, hM⟩ := hrel
    obtain ⟨Ap, cp, MR⟩ := hM.out
    clear hM
    replace MR := hid MR
    by_cases hlt : j < m
    · have hP := hid (ptCC_snoc 1 j)
      go_upto_region 9 with fail
      have MW := hid MR.out.drew
      clear MR
      refine wp_region_until (S := fun w' => w'.cell? ⟨mc, 4, none⟩ = some (.slice Ap j cp)) 7 (by kernel_rfl) (c_cells (m := mc) (g := ⟨0, 0, 0, 0, [], []⟩) (vp := .slice Ap j cp) (vg := .slice none 0 0) MW.out (by simp)).1 (fun hHeld => ?_)
      revert MW hHeld
      generalize wr.drew = w6
      intro MW hHeld
      repeat (first | (refine wpAnyV_take (i := 0) (v := ?_) rfl (by kernel_rfl) (by decide +kernel) (by decide +kernel) [] (by decide +kernel) (by decide +kernel) (by decide) (fun _ _ _ h => h) ?_ (by assumption) ?_; rotate_left; (first | (refine yields_load (by rfl) rfl rfl ?_; intro w hSw; (try dsimp only at hSw); go_split_ands; assumption) | (refine Or.inl ⟨by rfl, ?_⟩; intro w hSw; (try dsimp only at hSw); go_simp; done) | (refine Or.inl ⟨by rfl, ?_⟩; intro w hSw; (try dsimp only at hSw); go_simp; with_reducible rfl) | exact Or.inr ⟨by rfl, rfl⟩ | exact Or.inr ⟨by rfl, by rfl⟩); (try simp only [Act.put, List.setIfInBounds_toArray, List.set_cons_zero, List.set_cons_succ, List.getElem_toArray, List.getElem_cons_zero, List.getElem_cons_succ])) | (refine wpAnyV_take (i := 1) (v := ?_) rfl (by kernel_rfl) (by decide +kernel) (by decide +kernel) [] (by decide +kernel) (by decide +kernel) (by decide) (fun _ _ _ h => h) ?_ (by assumption) ?_; rotate_left; (first | (refine yields_load (by rfl) rfl rfl ?_; intro w hSw; (try dsimp only at hSw); go_split_ands; assumption) | (refine Or.inl ⟨by rfl, ?_⟩; intro w hSw; (try dsimp only at hSw); go_simp; done) | (refine Or.inl ⟨by rfl, ?_⟩; intro w hSw; (try dsimp only at hSw); go_simp; with_reducible rfl) | exact Or.inr ⟨by rfl, rfl⟩ | exact Or.inr ⟨by rfl, by rfl⟩); (try simp only [Act.put, List.setIfInBounds_toArray, List.set_cons_zero, List.set_cons_succ, List.getElem_toArray, List.getElem_cons_zero, List.getElem_cons_succ])))
      refine wpAnyV_ready (rs := [2]) (by decide +kernel) (by simp) ?_; refine (AllReadyV.cons rfl (by decide) (fun K hK => ?_) AllReadyV.nil)
      go_simp
      refine (unit_calls _).mono ?_
      rintro _ w7 ⟨_, rfl, rfl, hb⟩
      have M7 := hid (MW.out.keep hb)
      clear hb
      go_wp2_with fail
      refine hK.out _ _ (c_cells (m := mc) (g := ⟨0, 0, 0, 0, [], []⟩) (vp := .slice Ap j cp) (vg := .slice none 0 0) M7.out (by simp)).1 (fun hHeld => ?_); clear hK K; (try simp only [Act.put, List.setIfInBounds_toArray, List.set_cons_zero, List.set_cons_succ, List.getElem_toArray, List.getElem_cons_zero, List.getElem_cons_succ])
      repeat (first | (refine wpAnyV_take (i := 3) (v := ?_) rfl (by kernel_rfl) (by decide +kernel) (by decide +kernel) [] (by decide +kernel) (by decide +kernel) (by decide) (fun _ _ _ h => h) ?_ (by assumption) ?_; rotate_left; (first | (refine yields_load (by rfl) rfl rfl ?_; intro w hSw; (try dsimp only at hSw); go_split_ands; assumption) | (refine Or.inl ⟨by rfl, ?_⟩; intro w hSw; (try dsimp only at hSw); go_simp; done) | (refine Or.inl ⟨by rfl, ?_⟩; intro w hSw; (try dsimp only at hSw); go_simp; with_reducible rfl) | exact Or.inr ⟨by rfl, rfl⟩ | exact Or.inr ⟨by rfl, by rfl⟩); (try simp only [Act.put, List.setIfInBounds_toArray, List.set_cons_zero, List.set_cons_succ, List.getElem_toArray, List.getElem_cons_zero, List.getElem_cons_succ])))
      refine wpAnyV_ready (rs := [4]) (by decide +kernel) (by simp) ?_; refine (AllReadyV.cons rfl (by decide) (fun K hK => ?_) AllReadyV.nil)
      go_simp
      have M8 := hid (M7.out.alloc 45 (ptA (ptM 1)))
      refine hK.out _ _ (c_cells (m := mc) (g := ⟨0, 0, 0, 0, [], []⟩) (vp := .slice Ap j cp) (vg := .slice none 0 0) M8.out (by simp)).1 (fun hHeld => ?_); clear hK K; (try simp only [Act.put, List.setIfInBounds_toArray, List.set_cons_zero, List.set_cons_succ, List.getElem_toArray, List.getElem_cons_zero, List.getElem_cons_succ])
      refine wpAnyV_ready (rs := [5]) (by decide +kernel) (by simp) ?_; refine (AllReadyV.cons rfl (by decide) (fun K hK => ?_) AllReadyV.nil)
      refine step_append_Own (by rfl) (.tmp 33) (.tmp 36) _ rfl sized_part rfl rfl (L1 := [.blk w7.heap.size 45 (ptA (ptM 1))]) (L2 := .blk mc 40 (cA ⟨0, 0, 0, 0, [], []⟩ (.slice Ap j cp) (.slice none 0 0)) :: LG) M8.out (SliceAt.built M8.out (.head _) 8 1 rfl (by unfold maxLen; omega)) (one_all rfl) (by unfold maxLen; omega) (by omega) ?_
      intro v' w9 M'
      obtain ⟨A9, c9, rfl⟩ := M'.tail.form (.head _)
      have M9 := hid M'.tail
      clear M' M8 M7 MW
      refine hK.out _ _ (c_cells (m := mc) (g := ⟨0, 0, 0, 0, [], []⟩) (vp := .slice Ap j cp) (vg := .slice none 0 0) M9.out (by simp)).1 (fun hHeld => ?_); clear hK K; (try simp only [Act.put, List.setIfInBounds_toArray, List.set_cons_zero, List.set_cons_succ, List.getElem_toArray, List.getElem_cons_zero, List.getElem_cons_succ])
      have cc4 := (c_cells (m := mc) (g := ⟨0, 0, 0, 0, [], []⟩) (vp := .slice Ap j cp) (vg := .slice none 0 0) M9.out (by simp)).1
      have ff4 := (c_free (m := mc) (g := ⟨0, 0, 0, 0, [], []⟩) (vp := .slice Ap j cp) (vg := .slice none 0 0) M9.out (by simp)).1
      repeat (first | (refine wpAnyV_take (i := 6) (v := ?_) rfl (by kernel_rfl) (by decide +kernel) (by decide +kernel) [] (by decide +kernel) (by decide +kernel) (by decide) (fun _ _ _ h => h) ?_ (by assumption) ?_; rotate_left; (first | (refine yields_load (by rfl) rfl rfl ?_; intro w hSw; (try dsimp only at hSw); go_split_ands; assumption) | (refine Or.inl ⟨by rfl, ?_⟩; intro w hSw; (try dsimp only at hSw); go_simp; done) | (refine Or.inl ⟨by rfl, ?_⟩; intro w hSw; (try dsimp only at hSw); go_simp; with_reducible rfl) | exact Or.inr ⟨by rfl, rfl⟩ | exact Or.inr ⟨by rfl, by rfl⟩); (try simp only [Act.put, List.setIfInBounds_toArray, List.set_cons_zero, List.set_cons_succ, List.getElem_toArray, List.getElem_cons_zero, List.getElem_cons_succ])))
      refine wpAnyV_ready (rs := [7]) (by decide +kernel) (by simp) ?_; refine AllReadyV.last rfl (fun K hK => ?_); go_simp
      refine hK.out _ _ (fun hHeld => ?_); clear hK K; (try simp only [Act.put, List.setIfInBounds_toArray, List.set_cons_zero, List.set_cons_succ, List.getElem_toArray, List.getElem_cons_zero, List.getElem_cons_succ])
      refine wpAnyH_done (by kernel_rfl) ?_ _
      go_wp2_with fail
      go_roundw
      case rel => exact ⟨j + 1, by omega, by go_num, hid ⟨A9, c9, by rw [hP.out]; exact M9.out.set (L1 := [_]) 4 (.slice A9 (j + 1) c9)⟩⟩
      case measure => simp [intOf] <;> omega
    · obtain rfl : m = j := by omega
      go_upto_region 11 with fail
      have MD := hid MR.out.drew
      clear MR
      have hS := hid (fun (w1 : World) (L1 : List Ent) (M : Own w w1 L1) (h1 : .blk mc 40 (cA ⟨0, 0, 0, 0, [], []⟩ (.slice Ap m cp) (.slice none 0 0)) ∈ L1) (h2 : .blk gb 52 (gA (gZ k) (.slice (some ⟨he, 0, none⟩) 1 1) (.slice none 0 0) (.slice (some ⟨hp, 0, none⟩) k k)) ∈ L1) =>
        show w1.heap[mc]? = some (.cells (cA ⟨0, 0, 0, 0, [], []⟩ (.slice Ap m cp) (.slice none 0 0)) 40 (0, 0)) ∧ w1.heap[gb]? = some (.cells (gA (gZ k) (.slice (some ⟨he, 0, none⟩) 1 1) (.slice none 0 0) (.slice (some ⟨hp, 0, none⟩) k k)) 52 (0, 0)) from ⟨M.heap h1, M.heap h2⟩)
      refine wp_region_held_drew (S := fun w1 => w1.heap[mc]? = some (.cells (cA ⟨0, 0, 0, 0, [], []⟩ (.slice Ap m cp) (.slice none 0 0)) 40 (0, 0)) ∧ w1.heap[gb]? = some (.cells (gA (gZ k) (.slice (some ⟨he, 0, none⟩) 1 1) (.slice none 0 0) (.slice (some ⟨hp, 0, none⟩) k k)) 52 (0, 0))) (by kernel_rfl) (hS.out _ _ MD.out (by simp) (by simp [hmem.out.1])) (fun hHeld => ?_)
      refine wpAnyH_take (i := 0) (v := .agg (cA ⟨0, 0, 0, 0, [], []⟩ (.slice Ap m cp) (.slice none 0 0))) rfl (by kernel_rfl) (by decide +kernel) (by decide +kernel) (fun _ _ _ h => h) (Or.inl ⟨by rfl, fun w1 hSw => exec_load_heap agg_cg rfl rfl hSw.1 (vs := (cA ⟨0, 0, 0, 0, [], []⟩ (.slice Ap m cp) (.slice none 0 0)).toList) rfl rfl⟩) (by assumption) ?_
      try simp only [Act.put, List.setIfInBounds_toArray, List.set_cons_zero, List.set_cons_succ, List.getElem_toArray, List.getElem_cons_zero, List.getElem_cons_succ]
      refine wpAnyH_take (i := 2) (v := .agg (gA (gZ k) (.slice (some ⟨he, 0, none⟩) 1 1) (.slice none 0 0) (.slice (some ⟨hp, 0, none⟩) k k))) rfl (by kernel_rfl) (by decide +kernel) (by decide +kernel) (fun _ _ _ h => h) (Or.inl ⟨by rfl, fun w1 hSw => exec_load_heap agg_glyph rfl rfl hSw.2 (vs := (gA (gZ k) (.slice (some ⟨he, 0, none⟩) 1 1) (.slice none 0 0) (.slice (some ⟨hp, 0, none⟩) k k)).toList) rfl rfl⟩) (by assumption) ?_
      try simp only [Act.put, List.setIfInBounds_toArray, List.set_cons_zero, List.set_cons_succ, List.getElem_toArray, List.getElem_cons_zero, List.getElem_cons_succ]
      refine wpAnyH_ready (rs := [1]) (by decide +kernel) (by simp) ?_; refine AllReadyH.cons rfl (fun K hK => ?_) AllReadyH.nil; go_simp
      refine (hBc.out _ (.slice Ap m cp) (.slice none 0 0) ⟨by rw [List.length_replicate]; exact MD.out.slice (.head _), SliceAt.nil _ _ _⟩).mono ?_
      rintro _ w10 ⟨_, rfl, M⟩
      obtain ⟨A1, c1, rfl⟩ := M.form (.head _)
      have M10 := hid (MD.out.lift M)
      clear M MD hBc
      go_wp2_with fail
      have hc := hS.out _ _ M10.out (by simp) (by simp [hmem.out.1])
      refine hK.out _ _ hc (fun hHeld => ?_); clear hK K; (try simp only [Act.put, List.setIfInBounds_toArray, List.set_cons_zero, List.set_cons_succ, List.getElem_toArray, List.getElem_cons_zero, List.getElem_cons_succ])
      clear hc
      refine wpAnyH_ready (rs := [3]) (by decide +kernel) (by simp) ?_; refine AllReadyH.cons rfl (fun K hK => ?_) AllReadyH.nil; go_simp
      refine (hBs.out _ (.slice (some ⟨he, 0, none⟩) 1 1) (.slice none 0 0) (.slice (some ⟨hp, 0, none⟩) k k) ⟨SliceAt.built M10.out (t := 34) (cs := #[.int .u16 ((k : Int) - 1)]) (by simp [hmem.out.2.1]) 1 1 rfl (by unfold maxLen; omega), SliceAt.nil _ _ _, by
        show SliceAt _ _ 3 _ (List.replicate k z3).length _
        rw [List.length_replicate]
        exact SliceAt.built M10.out (t := 55) (cs := (spC (List.replicate k z3)).toArray) (by simp [hmem.out.2.2]) 3 k (by rw [List.size_toArray, spC_length, List.length_replicate]) (by unfold maxLen; omega)⟩).mono ?_
      rintro _ w11 ⟨_, rfl, M⟩
      obtain ⟨A2, c2, rfl⟩ := M.form (.head _)
      have M11 := hid (M10.out.lift M)
      clear M M10 hBs
      go_wp2_with fail
      have hc := hS.out _ _ M11.out (by simp) (by simp [hmem.out.1])
      refine hK.out _ _ hc (fun hHeld => ?_); clear hK K; (try simp only [Act.put, List.setIfInBounds_toArray, List.set_cons_zero, List.set_cons_succ, List.getElem_toArray, List.getElem_cons_zero, List.getElem_cons_succ])
      clear hc
      refine wpAnyH_ready (rs := [4]) (by decide +kernel) (by simp) ?_; refine AllReadyH.cons rfl (fun K hK => ?_) AllReadyH.nil; go_simp
      have M12 := hid (M11.out.alloc 35 #[.slice A1 na c1, .slice A2 nb c2])
      have hc := hS.out _ _ M12.out (by simp) (by simp [hmem.out.1])
      refine hK.out _ _ hc (fun hHeld => ?_); clear hK K; (try simp only [Act.put, List.setIfInBounds_toArray, List.set_cons_zero, List.set_cons_succ, List.getElem_toArray, List.getElem_cons_zero, List.getElem_cons_succ])
      clear hc
      refine wpAnyH_ready (rs := [5]) (by decide +kernel) (by simp) ?_; refine AllReadyH.cons rfl (fun K hK => ?_) AllReadyH.nil; go_simp
      refine (hF.out _ _ (hG.out _ _ w11.heap.size A1 A2 c1 c2 M12.out (by simp) (by simp) (by simp))).mono ?_
      rintro _ w13 ⟨_, rfl, hP⟩
      obtain ⟨A, c, xs, rfl, hxl, hsl, hvv, -, hb⟩ := flatP_own hP
      have M13 := hid (M12.out.keep hb)
      clear hb hP
      go_wp2_with fail
      have hc := hS.out _ _ M13.out (by simp) (by simp [hmem.out.1])
      refine hK.out _ _ hc (fun hHeld => ?_); clear hK K; (try simp only [Act.put, List.setIfInBounds_toArray, List.set_cons_zero, List.set_cons_succ, List.getElem_toArray, List.getElem_cons_zero, List.getElem_cons_succ])
      clear hc
      repeat (first | (refine wpAnyH_take (i := 6) (v := ?_) rfl (by kernel_rfl) (by decide +kernel) (by decide +kernel) (fun _ _ _ h => h) ?_ (by assumption) ?_; rotate_left; (first | (refine yields_load (by rfl) rfl rfl ?_; intro w hSw; (try dsimp only at hSw); go_split_ands; assumption) | (refine Or.inl ⟨by rfl, ?_⟩; intro w hSw; (try dsimp only at hSw); go_simp; done) | (refine Or.inl ⟨by rfl, ?_⟩; intro w hSw; (try dsimp only at hSw); go_simp; with_reducible rfl) | exact Or.inr ⟨by rfl, rfl⟩ | exact Or.inr ⟨by rfl, by rfl⟩); (try simp only [Act.put, List.setIfInBounds_toArray, List.set_cons_zero, List.set_cons_succ, List.getElem_toArray, List.getElem_cons_zero, List.getElem_cons_succ])) | (refine wpAnyH_take (i := 7) (v := ?_) rfl (by kernel_rfl) (by decide +kernel) (by decide +kernel) (fun _ _ _ h => h) ?_ (by assumption) ?_; rotate_left; (first | (refine yields_load (by rfl) rfl rfl ?_; intro w hSw; (try dsimp only at hSw); go_split_ands; assumption) | (refine Or.inl ⟨by rfl, ?_⟩; intro w hSw; (try dsimp only at hSw); go_simp; done) | (refine Or.inl ⟨by rfl, ?_⟩; intro w hSw; (try dsimp only at hSw); go_simp; with_reducible rfl) | exact Or.inr ⟨by rfl, rfl⟩ | exact Or.inr ⟨by rfl, by rfl⟩); (try simp only [Act.put, List.setIfInBounds_toArray, List.set_cons_zero, List.set_cons_succ, List.getElem_toArray, List.getElem_cons_zero, List.getElem_cons_succ])) | (refine wpAnyH_take (i := 8) (v := ?_) rfl (by kernel_rfl) (by decide +kernel) (by decide +kernel) (fun _ _ _ h => h) ?_ (by assumption) ?_; rotate_left; (first | (refine yields_load (by rfl) rfl rfl ?_; intro w hSw; (try dsimp only at hSw); go_split_ands; assumption) | (refine Or.inl ⟨by rfl, ?_⟩; intro w hSw; (try dsimp only at hSw); go_simp; done) | (refine Or.inl ⟨by rfl, ?_⟩; intro w hSw; (try dsimp only at hSw); go_simp; with_reducible rfl) | exact Or.inr ⟨by rfl, rfl⟩ | exact Or.inr ⟨by rfl, by rfl⟩); (try simp only [Act.put, List.setIfInBounds_toArray, List.set_cons_zero, List.set_cons_succ, List.getElem_toArray, List.getElem_cons_zero, List.getElem_cons_succ])) | (refine wpAnyH_take (i := 9) (v := ?_) rfl (by kernel_rfl) (by decide +kernel) (by decide +kernel) (fun _ _ _ h => h) ?_ (by assumption) ?_; rotate_left; (first | (refine yields_load (by rfl) rfl rfl ?_; intro w hSw; (try dsimp only at hSw); go_split_ands; assumption) | (refine Or.inl ⟨by rfl, ?_⟩; intro w hSw; (try dsimp only at hSw); go_simp; done) | (refine Or.inl ⟨by rfl, ?_⟩; intro w hSw; (try dsimp only at hSw); go_simp; with_reducible rfl) | exact Or.inr ⟨by rfl, rfl⟩ | exact Or.inr ⟨by rfl, by rfl⟩); (try simp only [Act.put, List.setIfInBounds_toArray, List.set_cons_zero, List.set_cons_succ, List.getElem_toArray, List.getElem_cons_zero, List.getElem_cons_succ])) | (refine wpAnyH_take (i := 10) (v := ?_) rfl (by kernel_rfl) (by decide +kernel) (by decide +kernel) (fun _ _ _ h => h) ?_ (by assumption) ?_; rotate_left; (first | (refine yields_load (by rfl) rfl rfl ?_; intro w hSw; (try dsimp only at hSw); go_split_ands; assumption) | (refine Or.inl ⟨by rfl, ?_⟩; intro w hSw; (try dsimp only at hSw); go_simp; done) | (refine Or.inl ⟨by rfl, ?_⟩; intro w hSw; (try dsimp only at hSw); go_simp; with_reducible rfl) | exact Or.inr ⟨by rfl, rfl⟩ | exact Or.inr ⟨by rfl, by rfl⟩); (try simp only [Act.put, List.setIfInBounds_toArray, List.set_cons_zero, List.set_cons_succ, List.getElem_toArray, List.getElem_cons_zero, List.getElem_cons_succ])))
      refine wpAnyH_done (by kernel_rfl) ?_ _
      clear hS hF hG
      try simp only at hxl hsl hvv
      replace hsl := hid hsl
      replace hvv := hid hvv
      replace hxl := hid hxl
      by_cases hov : mk ≤ 20000
      · obtain ⟨e0, e1⟩ := hat.out.1 hov
        have e0' : e = 0 := e0
        have e1' : cc = List.replicate m (List.replicate k z3) := e1
        subst e0' e1'
        clear e0 e1
        have hPt := hid (points_calls w13 hxl.out hsl.out hvv.out (by rw [htot.out]; omega))
        rw [htot.out, List.length_replicate] at hPt
        rw [List.length_replicate]
        have hg : ¬ (mk : Int) > 20000 := by omega
        clear hov hat hxl hsl hvv htot
        go_wp2_with (go_at_call 15; (with_reducible refine hPt.out.mono ?_); rintro _ w14 ⟨_, rfl, rfl, hb⟩; (have M14 := hid (M13.out.keep hb)); clear hb)
        go_ret
        exact .mk ⟨rfl, M14.out.below⟩
      · obtain ⟨e0, e1⟩ := hat.out.2 (by omega)
        have e0' : e = 9 := e0
        have e1' : cc = [] := e1
        subst e0' e1'
        have hg : (mk : Int) > 20000 := by omega
        clear hov hat hxl hsl hvv htot e0 e1
        go_wp2_with fail
        go_ret
        exact .mk ⟨rfl, M13.out.below⟩
end Go.Proofs.YtiedbfaehndooaaDoor
