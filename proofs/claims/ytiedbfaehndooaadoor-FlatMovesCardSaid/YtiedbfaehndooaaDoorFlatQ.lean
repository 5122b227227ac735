/- Layer 14: FlatMoves, walked. -/
import Derived.Test.YtiedbfaehndooaaDoorFlatP
namespace Go.Proofs.YtiedbfaehndooaaDoor
open Go Go.RowKit
set_option linter.unusedVariables false
set_option linter.unusedSimpArgs false
set_option maxRecDepth 1000000

theorem pX_map (f : Int × Int × Bool → Int × Int × Bool) {ps : List (Int × Int × Bool)} {i : Nat} (h : i < ps.length) : pX (ps.map f) i = (f (pX ps i, pY ps i, pO ps i)).1 ∧ pY (ps.map f) i = (f (pX ps i, pY ps i, pO ps i)).2.1 ∧ pO (ps.map f) i = (f (pX ps i, pY ps i, pO ps i)).2.2 := by
  rw [← pt_eta ps h]
  simp [pX, pY, pO, List.getD, h]
theorem rp_cells {W0 w : World} {L : List Ent} {p : Nat} {x y : Int} {on : Bool} (M : Own W0 w L) (h : .blk p 56 #[.int .i64 x, .int .i64 y, .bool on] ∈ L) :
    w.cell? ⟨p, 0, none⟩ = some (.int .i64 x) ∧ w.cell? ⟨p, 1, none⟩ = some (.int .i64 y) ∧ w.cell? ⟨p, 2, none⟩ = some (.bool on) := ⟨M.cell h 0, M.cell h 1, M.cell h 2⟩
set_option maxHeartbeats 16000000 in
theorem flatMoves_calls (w : World) {V : Value} {ps0 : List (Int × Int × Bool)} {a b c d x y : Int} (ha : I16 a) (hb : I16 b) (hc : I16 c) (hd : I16 d) (hx : I16 x) (hy : I16 y)
    (h1 : SliceAt w w.heap.size 3 V ps0.length (spC ps0)) (hp0 : ∀ p ∈ ps0, I16 p.1 ∧ I16 p.2.1) :
    Calls Tryd.prog 7 #[V, .agg #[.int .i16 a, .int .i16 b, .int .i16 c, .int .i16 d], .int .i16 x, .int .i16 y] w (Ret fun r w' => r = .bool true ∧ Below w.heap.size w w') := by
  have M0 := hid (Own.start w)
  obtain ⟨A0, c0, rfl, hc0, hm0, hA0, hr0⟩ := h1
  have h1 : SliceAt w w.heap.size 3 (.slice A0 ps0.length c0) ps0.length (spC ps0) := ⟨A0, c0, rfl, hc0, hm0, hA0, hr0⟩
  obtain ⟨n0, hn0⟩ : ∃ n, ps0.length = n := ⟨_, rfl⟩
  obtain ⟨n, hn⟩ : ∃ n, (ps0.take 40).length = n := ⟨_, rfl⟩
  have hnm : n = min 40 n0 := by rw [← hn, List.length_take, hn0]
  have hn40 : n ≤ 40 := by omega
  have hnn : n ≤ n0 := by omega
  rw [hn0] at h1 hc0 ⊢
  have hcut : SliceAt w w.heap.size 3 (.slice A0 n c0) n (spC (ps0.take 40)) := by
    have := h1.pre3 (k := n) hnn
    rw [← spC_take] at this
    rw [show ps0.take 40 = ps0.take n by rw [hnm, List.take_eq_take_iff, hn0]; omega]
    exact this
  have hp : ∀ p ∈ ps0.take 40, I16 p.1 ∧ I16 p.2.1 := fun p h => hp0 p (List.mem_of_mem_take h)
  generalize ps0.take 40 = ps at *
  have hmin1 : min (n0 : Int) 40 = n := by omega
  have hmin2 : (if (n0 : Int) ≤ 40 then (n0 : Int) else 40) = n := by split <;> omega
  have hmin3 : (if (n0 : Int) < 40 then (n0 : Int) else 40) = n := by split <;> omega
  have hmin4 : (if (40 : Int) < (n0 : Int) then (40 : Int) else (n0 : Int)) = n := by split <;> omega
  unfold maxLen at hm0
  have hcutH := hid (fun w1 (h : Below w.heap.size w w1) => hcut.below h)
  have hnc : n ≤ c0 := by omega
  have hnc' : (n : Int) ≤ c0 := by omega
  have hnH := hid hn
  clear hnm hn hp0 h1 hcut hr0 hA0 hn0
  go_enter Tryd.func7, Tryd.ntmps7
  go_upto_region 3 with (first
    | ((with_reducible refine gate (N := 5) rfl ?_); refine wpList_box_Own rfl (cs := #[.int .i16 a, .int .i16 b, .int .i16 c, .int .i16 d]) (t := 42) (by first | (go_simp; done) | (go_simp; rfl)) M0.out ?_; intro mx w1 M; (have M1 := hid M); clear M)
    | (go_at_call 8; (with_reducible refine (awake14_calls _).mono ?_); rintro _ w2 ⟨_, rfl, rfl, hb'⟩; ((have M2 := hid (M1.out.keep hb'))); (clear hb')))
  have M3 := hid ((M2.out.alloc 55 #[]).as_row (L1 := []) 3 0 rfl (by unfold maxLen; omega))
  go_upto_region 4 with (first
    | (at_builtin; refine wpList_append_Own rfl (.tmp 18) (.tmp 23) _ rfl sized_spot rfl rfl (L1 := []) (L2 := _) (M3.out) (hcutH.out _ M3.out.below) (spC_one _) ((by unfold maxLen; omega)) ((by omega)) ?_; intro v' w' M'; ((simp only [Nat.zero_add, List.nil_append, List.append_eq] at M')); obtain ⟨A4, c4, rfl⟩ := M'.form (.head _); (have M4 := hid M'); clear M'))
  by_cases hz : n = 0
  · have hzb : ((n : Int) == 0) = true := by rw [beq_iff_eq]; omega
    clear hz
    go_wp2_with fail
    go_ret
    exact .mk ⟨rfl, M4.out.below⟩
  have hzb : ((n : Int) == 0) = false := by rw [beq_eq_false_iff_ne]; omega
  have hn1 : 1 ≤ n := by omega
  clear hz hcutH hmin1 hmin2 hmin3 hmin4 hnc hnc' M0 M1 M2 M3
  have wk1 : IntKind.i64.wrap ((n : Int) - 1) = (n : Int) - 1 := IntWalk.i64_in _ (by omega)
  have wk2 : IntKind.u16.wrap ((n : Int) - 1) = (n : Int) - 1 := IntWalk.u16_in _ (by omega)
  have M5 := hid (M4.out.alloc 34 #[.int .u16 ((n : Int) - 1)])
  have hGA := hid (fun (w1 : World) (L : List Ent) (g : Nat) (A : Option Addr) (c : Nat) (M : Own w w1 L) (h1 : .blk g 34 #[.int .u16 ((n : Int) - 1)] ∈ L) (h2 : .row 55 3 (.slice A n c) n (spC ps) ∈ L) =>
    show GAt w1 (gMv ps n) (.slice (some ⟨g, 0, none⟩) 1 1) (.slice none 0 0) (.slice A n c) from ⟨SliceAt.built M h1 1 1 rfl (by unfold maxLen; omega), SliceAt.nil _ _ _, by
      show SliceAt _ _ 3 _ ps.length _
      rw [hnH.out]
      exact M.slice h2⟩)
  go_upto_region 7 with (first
    | ((with_reducible refine gate (N := 9) rfl ?_); refine wpList_box_Own rfl (cs := gNil) (t := 52) (by first | (go_simp; done) | (go_simp; rfl)) M5.out ?_; intro gb w6 M; (have M6 := hid M); clear M)
    | ((with_reducible refine gateSt (t := 52) (p := 9) rfl ?_); refine wpList_store_all (n := 7) (L1 := []) (mid := gNil.toList) (vs := (gA (gMv ps n) (.slice (some ⟨w'.heap.size, 0, none⟩) 1 1) (.slice none 0 0) (.slice A4 n c4)).toList) rfl rfl (by kernel_rfl) rfl rfl rfl rfl rfl (one_all rfl) M6.out ?_; intro w7 M; (have M7 := hid M); clear M))
  obtain ⟨he, hhe⟩ : ∃ h, w'.heap.size = h := ⟨_, rfl⟩
  rw [hhe] at M7 ⊢
  clear hhe M6 M5 M4
  obtain ⟨rt, hrt⟩ : ∃ r, sgR (gMv ps n) = r := ⟨_, rfl⟩
  have hRt := hid (fun w1 ve vp vs (h : GAt w1 (gMv ps n) ve vp vs) => hrt ▸ right_calls w1 (gMv_ok hp hn1 hn40) h)
  cases rt
  · go_wp2_with (first
      | ((with_reducible refine gate (N := 35) rfl ?_); refine wpList_run rfl (exec_load_agg agg_glyph rfl rfl M7.out (g := gb) (t := 52) (cs := gA (gMv ps n) (.slice (some ⟨he, 0, none⟩) 1 1) (.slice none 0 0) (.slice A4 n c4)) (vs := (gA (gMv ps n) (.slice (some ⟨he, 0, none⟩) 1 1) (.slice none 0 0) (.slice A4 n c4)).toList) (by simp) rfl rfl) ?_)
      | (go_at_call 16; (with_reducible refine (hRt.out _ _ _ _ (hGA.out _ _ he A4 c4 M7.out (by simp) (by simp))).mono ?_); rintro _ w8 ⟨_, rfl, rfl, hb'⟩; (have M8 := hid (M7.out.keep hb')); clear hb'))
    go_ret
    exact .mk ⟨rfl, M8.out.below⟩
  go_upto_region 9 with (first
    | ((with_reducible refine gate (N := 35) rfl ?_); refine wpList_run rfl (exec_load_agg agg_glyph rfl rfl M7.out (g := gb) (t := 52) (cs := gA (gMv ps n) (.slice (some ⟨he, 0, none⟩) 1 1) (.slice none 0 0) (.slice A4 n c4)) (vs := (gA (gMv ps n) (.slice (some ⟨he, 0, none⟩) 1 1) (.slice none 0 0) (.slice A4 n c4)).toList) (by simp) rfl rfl) ?_)
    | (go_at_call 16; (with_reducible refine (hRt.out _ _ _ _ (hGA.out _ _ he A4 c4 M7.out (by simp) (by simp))).mono ?_); rintro _ w8 ⟨_, rfl, rfl, hb'⟩; (have M8 := hid (M7.out.keep hb')); clear hb'))
  have M9 := hid (M8.out.alloc 45 (ptA (ptMv x y a b c d)))
  go_upto_region 10 with (first
    | ((with_reducible refine gate (N := 40) rfl ?_); refine wpList_run rfl (exec_load_agg agg_mx rfl rfl M8.out (g := mx) (t := 42) (cs := #[.int .i16 a, .int .i16 b, .int .i16 c, .int .i16 d]) (vs := [.int .i16 a, .int .i16 b, .int .i16 c, .int .i16 d]) (by simp) rfl rfl) ?_)
    | ((with_reducible refine gate (N := 10) rfl ?_); refine wpList_box_Own rfl (cs := cA ⟨0, 0, 0, 0, [], []⟩ (.slice none 0 0) (.slice none 0 0)) (t := 40) (by first | (go_simp; done) | (go_simp; rfl)) M9.out ?_; intro mc w9 M; (have M10 := hid M); clear M)
    | ((with_reducible refine gateSt (t := 40) (p := 10) rfl ?_); refine wpList_store_all (n := 6) (L1 := []) (mid := (cA ⟨0, 0, 0, 0, [], []⟩ (.slice none 0 0) (.slice none 0 0)).toList) (vs := (cA (cgMv (ptMv x y a b c d)) (.slice (some ⟨w8.heap.size, 0, none⟩) 1 1) (.slice none 0 0)).toList) rfl rfl (by kernel_rfl) rfl rfl rfl rfl rfl (one_all rfl) M10.out ?_; intro w10 M; (have M11 := hid M); clear M))
  obtain ⟨hq, hhq⟩ : ∃ h, w8.heap.size = h := ⟨_, rfl⟩
  rw [hhq] at M11 ⊢
  clear hhq M10 M9 M8 M7
  have hBc := hid (fun (w1 : World) vp vg (h : CAt w1 (cgMv (ptMv x y a b c d)) vp vg) => cBytes_yes w1 (cgMv_ok hx hy ha hb hc hd) h (cgMv_r x y a b c d))
  have hBs := hid (fun (w1 : World) ve vp vs (h : GAt w1 (gMv ps n) ve vp vs) => bytes_yes w1 (gMv_ok hp hn1 hn40) h hrt)
  obtain ⟨na, hna⟩ : ∃ k, (cgB (cgMv (ptMv x y a b c d))).length = k := ⟨_, rfl⟩
  obtain ⟨nb, hnb⟩ : ∃ k, (sgB (gMv ps n)).length = k := ⟨_, rfl⟩
  rw [hna] at hBc
  rw [hnb] at hBs
  have hG := hid (fun (w1 : World) (L : List Ent) (g : Nat) (A B : Option Addr) (e f : Nat) (M : Own w w1 L) (hg : .blk g 35 #[.slice A na e, .slice B nb f] ∈ L) (h : .row 5 1 (.slice A na e) na (ints .u8 (cgB (cgMv (ptMv x y a b c d)))) ∈ L) (h' : .row 5 1 (.slice B nb f) nb (ints .u8 (sgB (gMv ps n))) ∈ L) =>
    show GlyphsAt w1 (.slice (some ⟨g, 0, none⟩) 2 2) (kMv (ptMv x y a b c d) ps n) from
      ⟨[.slice A na e, .slice B nb f], SliceAt.built M hg 1 2 rfl (by unfold maxLen; omega), fun i hi => by
        have hi2 : i = 0 ∨ i = 1 := by have : i < 2 := hi; omega
        rcases hi2 with rfl | rfl
        · show SliceAt _ _ 1 (.slice A na e) (cgB (cgMv (ptMv x y a b c d))).length (ints .u8 (cgB (cgMv (ptMv x y a b c d))))
          rw [hna]
          exact M.slice h
        · show SliceAt _ _ 1 (.slice B nb f) (sgB (gMv ps n)).length (ints .u8 (sgB (gMv ps n)))
          rw [hnb]
          exact M.slice h'⟩)
  have hF := hid (fun (w1 : World) (V : Value) (h : GlyphsAt w1 V (kMv (ptMv x y a b c d) ps n)) => show Calls Tryd.prog 9 #[V, .int .i64 0] w1 (Ret fun r w' => FlatP ⟨0, [ps.map (mvP (ptMv x y a b c d))], 2, n⟩ w1 r w') from by
    rw [← kMv_at (p := ptMv x y a b c d) rfl hnH.out hn1 hn40]
    exact flat_calls h (kMv_right hx hy ha hb hc hd hp hnH.out hn1 hn40 hrt) (kMv_near hx hy ha hb hc hd hp hnH.out hn1) 0)
  clear hna hnb hRt hrt
  have MD := hid M11.out.drew
  clear M11
  have hS := hid (fun (w1 : World) (L1 : List Ent) (M : Own w w1 L1) (h1 : .blk mc 40 (cA (cgMv (ptMv x y a b c d)) (.slice (some ⟨hq, 0, none⟩) 1 1) (.slice none 0 0)) ∈ L1) (h2 : .blk gb 52 (gA (gMv ps n) (.slice (some ⟨he, 0, none⟩) 1 1) (.slice none 0 0) (.slice A4 n c4)) ∈ L1) => show w1.heap[mc]? = some (.cells (cA (cgMv (ptMv x y a b c d)) (.slice (some ⟨hq, 0, none⟩) 1 1) (.slice none 0 0)) 40 (0, 0)) ∧ w1.heap[gb]? = some (.cells (gA (gMv ps n) (.slice (some ⟨he, 0, none⟩) 1 1) (.slice none 0 0) (.slice A4 n c4)) 52 (0, 0)) from ⟨M.heap h1, M.heap h2⟩)
  refine wp_region_held_drew (S := fun w1 => w1.heap[mc]? = some (.cells (cA (cgMv (ptMv x y a b c d)) (.slice (some ⟨hq, 0, none⟩) 1 1) (.slice none 0 0)) 40 (0, 0)) ∧ w1.heap[gb]? = some (.cells (gA (gMv ps n) (.slice (some ⟨he, 0, none⟩) 1 1) (.slice none 0 0) (.slice A4 n c4)) 52 (0, 0))) (by kernel_rfl) (hS.out _ _ MD.out (by simp) (by simp)) (fun hHeld => ?_)
  refine wpAnyH_take (i := 0) (v := .agg (cA (cgMv (ptMv x y a b c d)) (.slice (some ⟨hq, 0, none⟩) 1 1) (.slice none 0 0))) rfl (by kernel_rfl) (by decide +kernel) (by decide +kernel) (fun _ _ _ h => h) (Or.inl ⟨by rfl, fun w1 hSw => exec_load_heap agg_cg rfl rfl hSw.1 (vs := (cA (cgMv (ptMv x y a b c d)) (.slice (some ⟨hq, 0, none⟩) 1 1) (.slice none 0 0)).toList) rfl rfl⟩) (by assumption) ?_
  try simp only [Act.put, List.setIfInBounds_toArray, List.set_cons_zero, List.set_cons_succ, List.getElem_toArray, List.getElem_cons_zero, List.getElem_cons_succ]
  refine wpAnyH_take (i := 2) (v := .agg (gA (gMv ps n) (.slice (some ⟨he, 0, none⟩) 1 1) (.slice none 0 0) (.slice A4 n c4))) rfl (by kernel_rfl) (by decide +kernel) (by decide +kernel) (fun _ _ _ h => h) (Or.inl ⟨by rfl, fun w1 hSw => exec_load_heap agg_glyph rfl rfl hSw.2 (vs := (gA (gMv ps n) (.slice (some ⟨he, 0, none⟩) 1 1) (.slice none 0 0) (.slice A4 n c4)).toList) rfl rfl⟩) (by assumption) ?_
  try simp only [Act.put, List.setIfInBounds_toArray, List.set_cons_zero, List.set_cons_succ, List.getElem_toArray, List.getElem_cons_zero, List.getElem_cons_succ]
  refine wpAnyH_ready (rs := [1]) (by decide +kernel) (by simp) ?_; refine AllReadyH.cons rfl (fun K hK => ?_) AllReadyH.nil; go_simp
  refine (hBc.out _ (.slice (some ⟨hq, 0, none⟩) 1 1) (.slice none 0 0) ⟨SliceAt.built MD.out (g := hq) (t := 45) (cs := ptA (ptMv x y a b c d)) (by simp) 8 1 rfl (by unfold maxLen; omega), SliceAt.nil _ _ _⟩).mono ?_
  rintro _ w10 ⟨_, rfl, M⟩
  obtain ⟨A1, c1, rfl⟩ := M.form (.head _)
  have M10 := hid (MD.out.lift M)
  clear M MD hBc
  go_wp2_with fail
  have hc1 := hS.out _ _ M10.out (by simp) (by simp)
  refine hK.out _ _ hc1 (fun hHeld => ?_); clear hK K; (try simp only [Act.put, List.setIfInBounds_toArray, List.set_cons_zero, List.set_cons_succ, List.getElem_toArray, List.getElem_cons_zero, List.getElem_cons_succ])
  clear hc1
  refine wpAnyH_ready (rs := [3]) (by decide +kernel) (by simp) ?_; refine AllReadyH.cons rfl (fun K hK => ?_) AllReadyH.nil; go_simp
  refine (hBs.out _ _ _ _ (hGA.out _ _ he A4 c4 M10.out (by simp) (by simp))).mono ?_
  rintro _ w11 ⟨_, rfl, M⟩
  obtain ⟨A2, c2, rfl⟩ := M.form (.head _)
  have M11 := hid (M10.out.lift M)
  clear M M10 hBs
  go_wp2_with fail
  have hc1 := hS.out _ _ M11.out (by simp) (by simp)
  refine hK.out _ _ hc1 (fun hHeld => ?_); clear hK K; (try simp only [Act.put, List.setIfInBounds_toArray, List.set_cons_zero, List.set_cons_succ, List.getElem_toArray, List.getElem_cons_zero, List.getElem_cons_succ])
  clear hc1
  refine wpAnyH_ready (rs := [4]) (by decide +kernel) (by simp) ?_; refine AllReadyH.cons rfl (fun K hK => ?_) AllReadyH.nil; go_simp
  have M12 := hid (M11.out.alloc 35 #[.slice A1 na c1, .slice A2 nb c2])
  have hc1 := hS.out _ _ M12.out (by simp) (by simp)
  refine hK.out _ _ hc1 (fun hHeld => ?_); clear hK K; (try simp only [Act.put, List.setIfInBounds_toArray, List.set_cons_zero, List.set_cons_succ, List.getElem_toArray, List.getElem_cons_zero, List.getElem_cons_succ])
  clear hc1
  refine wpAnyH_ready (rs := [5]) (by decide +kernel) (by simp) ?_; refine AllReadyH.cons rfl (fun K hK => ?_) AllReadyH.nil; go_simp
  refine (hF.out _ _ (hG.out _ _ w11.heap.size A1 A2 c1 c2 M12.out (by simp) (by simp) (by simp))).mono ?_
  rintro _ w13 ⟨_, rfl, hP⟩
  obtain ⟨A, cR, xs, rfl, hxl, hsl, hvv, hvs, hbw⟩ := flatP_own hP
  have M13 := hid (M12.out.keep hbw)
  clear hbw hP
  go_wp2_with fail
  have hc1 := hS.out _ _ M13.out (by simp) (by simp)
  refine hK.out _ _ hc1 (fun hHeld => ?_); clear hK K; (try simp only [Act.put, List.setIfInBounds_toArray, List.set_cons_zero, List.set_cons_succ, List.getElem_toArray, List.getElem_cons_zero, List.getElem_cons_succ])
  clear hc1
  repeat (first | (refine wpAnyH_take (i := 6) (v := ?_) rfl (by kernel_rfl) (by decide +kernel) (by decide +kernel) (fun _ _ _ h => h) ?_ (by assumption) ?_; rotate_left; (first | (refine yields_load (by rfl) rfl rfl ?_; intro w hSw; (try dsimp only at hSw); go_split_ands; assumption) | (refine Or.inl ⟨by rfl, ?_⟩; intro w hSw; (try dsimp only at hSw); go_simp; done) | (refine Or.inl ⟨by rfl, ?_⟩; intro w hSw; (try dsimp only at hSw); go_simp; with_reducible rfl) | exact Or.inr ⟨by rfl, rfl⟩ | exact Or.inr ⟨by rfl, by rfl⟩); (try simp only [Act.put, List.setIfInBounds_toArray, List.set_cons_zero, List.set_cons_succ, List.getElem_toArray, List.getElem_cons_zero, List.getElem_cons_succ])) | (refine wpAnyH_take (i := 7) (v := ?_) rfl (by kernel_rfl) (by decide +kernel) (by decide +kernel) (fun _ _ _ h => h) ?_ (by assumption) ?_; rotate_left; (first | (refine yields_load (by rfl) rfl rfl ?_; intro w hSw; (try dsimp only at hSw); go_split_ands; assumption) | (refine Or.inl ⟨by rfl, ?_⟩; intro w hSw; (try dsimp only at hSw); go_simp; done) | (refine Or.inl ⟨by rfl, ?_⟩; intro w hSw; (try dsimp only at hSw); go_simp; with_reducible rfl) | exact Or.inr ⟨by rfl, rfl⟩ | exact Or.inr ⟨by rfl, by rfl⟩); (try simp only [Act.put, List.setIfInBounds_toArray, List.set_cons_zero, List.set_cons_succ, List.getElem_toArray, List.getElem_cons_zero, List.getElem_cons_succ])) | (refine wpAnyH_take (i := 8) (v := ?_) rfl (by kernel_rfl) (by decide +kernel) (by decide +kernel) (fun _ _ _ h => h) ?_ (by assumption) ?_; rotate_left; (first | (refine yields_load (by rfl) rfl rfl ?_; intro w hSw; (try dsimp only at hSw); go_split_ands; assumption) | (refine Or.inl ⟨by rfl, ?_⟩; intro w hSw; (try dsimp only at hSw); go_simp; done) | (refine Or.inl ⟨by rfl, ?_⟩; intro w hSw; (try dsimp only at hSw); go_simp; with_reducible rfl) | exact Or.inr ⟨by rfl, rfl⟩ | exact Or.inr ⟨by rfl, by rfl⟩); (try simp only [Act.put, List.setIfInBounds_toArray, List.set_cons_zero, List.set_cons_succ, List.getElem_toArray, List.getElem_cons_zero, List.getElem_cons_succ])) | (refine wpAnyH_take (i := 9) (v := ?_) rfl (by kernel_rfl) (by decide +kernel) (by decide +kernel) (fun _ _ _ h => h) ?_ (by assumption) ?_; rotate_left; (first | (refine yields_load (by rfl) rfl rfl ?_; intro w hSw; (try dsimp only at hSw); go_split_ands; assumption) | (refine Or.inl ⟨by rfl, ?_⟩; intro w hSw; (try dsimp only at hSw); go_simp; done) | (refine Or.inl ⟨by rfl, ?_⟩; intro w hSw; (try dsimp only at hSw); go_simp; with_reducible rfl) | exact Or.inr ⟨by rfl, rfl⟩ | exact Or.inr ⟨by rfl, by rfl⟩); (try simp only [Act.put, List.setIfInBounds_toArray, List.set_cons_zero, List.set_cons_succ, List.getElem_toArray, List.getElem_cons_zero, List.getElem_cons_succ])) | (refine wpAnyH_take (i := 10) (v := ?_) rfl (by kernel_rfl) (by decide +kernel) (by decide +kernel) (fun _ _ _ h => h) ?_ (by assumption) ?_; rotate_left; (first | (refine yields_load (by rfl) rfl rfl ?_; intro w hSw; (try dsimp only at hSw); go_split_ands; assumption) | (refine Or.inl ⟨by rfl, ?_⟩; intro w hSw; (try dsimp only at hSw); go_simp; done) | (refine Or.inl ⟨by rfl, ?_⟩; intro w hSw; (try dsimp only at hSw); go_simp; with_reducible rfl) | exact Or.inr ⟨by rfl, rfl⟩ | exact Or.inr ⟨by rfl, by rfl⟩); (try simp only [Act.put, List.setIfInBounds_toArray, List.set_cons_zero, List.set_cons_succ, List.getElem_toArray, List.getElem_cons_zero, List.getElem_cons_succ])))
  refine wpAnyH_done (by kernel_rfl) ?_ _
  clear hS hF hG hGA
  try simp only at hxl hsl hvv hvs
  have hql := hid (show (ps.map (mvP (ptMv x y a b c d))).length = n by rw [List.length_map]; exact hnH.out)
  have hq1 := hid (fun i (hi : i < n) => pX_map (mvP (ptMv x y a b c d)) (ps := ps) (i := i) (by rw [hnH.out]; exact hi))
  have htt : tot [ps.map (mvP (ptMv x y a b c d))] = n := by
    have := hql.out
    simp only [tot, List.map_cons, List.map_nil, List.sum_cons, List.sum_nil]
    omega
  have hPt := hid (show Calls Tryd.prog 15 #[.slice A 1 cR] w13 (Ret fun r w' => r = .int .i64 (n : Int) ∧ Below w13.heap.size w13 w') from by
    have := points_calls w13 hxl hsl hvv (by rw [htt]; omega)
    rw [htt] at this
    exact this)
  obtain ⟨V1, hV1, hS1⟩ := hvs 0 (by simp)
  have hS2 : SliceAt w13 w13.heap.size 3 V1 n (dpC (ps.map (mvP (ptMv x y a b c d)))) := by
    have h3 : SliceAt w13 w13.heap.size 3 V1 (ps.map (mvP (ptMv x y a b c d))).length (dpC (ps.map (mvP (ptMv x y a b c d)))) := hS1
    rw [hql.out] at h3
    exact h3
  obtain rfl : xs = [V1] := by
    match xs, hxl with
    | [v], _ => simpa using hV1
  have hSR := hid (show SliceAt w13 w13.heap.size 1 (.slice A 1 cR) 1 [V1] from hsl)
  have hS2H := hid hS2
  clear hS1 hV1 hvv hvs hxl htt hsl
  obtain ⟨A', C', he', -, -, -, hrA⟩ := hSR.out
  (injection he' with e1 e2 e3); subst e1 e3; clear e2
  obtain ⟨ad, rfl, hc0⟩ := hrA.cell (j := 0) (u := V1) rfl
  rw [show ad.add 0 = ad by simp [Addr.add]] at hc0
  obtain ⟨B, k2, rfl, -, -, -, hrB⟩ := hS2
  obtain ⟨bd, rfl, -⟩ := hrB.2 (by omega)
  obtain ⟨A5, k5, he', hc5, hm5, -, hrC⟩ := M13.out.slice (e := 55) (sz := 3) (v := .slice A4 n c4) (n := n) (xs := spC ps) (by simp)
  (injection he' with e1 e2 e3); subst e1 e3; clear e2
  obtain ⟨sd, rfl, -⟩ := hrC.2 (by omega)
  unfold maxLen at hm5
  have hc0H := hid (fun w1 (h : Below w13.heap.size w13 w1) => show w1.cell? ad = some (.slice (some bd) n k2) from by
    obtain ⟨A', C', he', -, -, -, hrA⟩ := hSR.out.below h
    injection he' with e1 e2 e3
    subst e1
    obtain ⟨ad', e, h2⟩ := hrA.cell (j := 0) (u := .slice (some bd) n k2) rfl
    injection e with e
    subst e
    simpa [Addr.add] using h2)
  have hQ := hid (fun w1 (h : Below w13.heap.size w13 w1) i (hi : i < n) => dpt_below (w' := w1) (i := i) hql.out hrB h hi)
  have hSp := hid (fun w1 (h : Below w13.heap.size w13 w1) i (hi : i < n) => spot_at (w' := w1) (i := i) hnH.out hrC h hi)
  have hMx := hid (fun w1 (h : Below w13.heap.size w13 w1) => show w1.cell? ⟨mx, 0, none⟩ = some (.int .i16 a) ∧ w1.cell? ⟨mx, 1, none⟩ = some (.int .i16 b) ∧ w1.cell? ⟨mx, 2, none⟩ = some (.int .i16 c) ∧ w1.cell? ⟨mx, 3, none⟩ = some (.int .i16 d) from
    have M' := M13.out.keep h
    ⟨M'.cell (g := mx) (t := 42) (cs := #[.int .i16 a, .int .i16 b, .int .i16 c, .int .i16 d]) (by simp) 0, M'.cell (g := mx) (t := 42) (cs := #[.int .i16 a, .int .i16 b, .int .i16 c, .int .i16 d]) (by simp) 1, M'.cell (g := mx) (t := 42) (cs := #[.int .i16 a, .int .i16 b, .int .i16 c, .int .i16 d]) (by simp) 2, M'.cell (g := mx) (t := 42) (cs := #[.int .i16 a, .int .i16 b, .int .i16 c, .int .i16 d]) (by simp) 3⟩)
  clear hrA hrB hrC
  go_upto_region 13 with (first
    | (go_at_call 15; (with_reducible refine hPt.out.mono ?_); rintro _ w14 ⟨_, rfl, rfl, hbw⟩; (have MS := hid ((Own.start w13).keep hbw)); clear hbw))
  clear hc0 hPt
  have wa : IntKind.i64.wrap a = a := IntWalk.i64_in _ (by have := ha.1; have := ha.2; omega)
  have wb : IntKind.i64.wrap b = b := IntWalk.i64_in _ (by have := hb.1; have := hb.2; omega)
  have wc : IntKind.i64.wrap c = c := IntWalk.i64_in _ (by have := hc.1; have := hc.2; omega)
  have wd : IntKind.i64.wrap d = d := IntWalk.i64_in _ (by have := hd.1; have := hd.2; omega)
  have wx : IntKind.i64.wrap x = x := IntWalk.i64_in _ (by have := hx.1; have := hx.2; omega)
  have wy : IntKind.i64.wrap y = y := IntWalk.i64_in _ (by have := hy.1; have := hy.2; omega)
  have hAp := hid (fun w1 (px py : Int) (on : Bool) (h1 : I16 px) (h2 : I16 py) => refApply_calls w1 (a := a) (b := b) (c := c) (d := d) (x := px) (y := py) (u := x) (v := y) (on := on) ha hb hc hd (by have := h1.1; have := h1.2; omega) (by have := h2.1; have := h2.2; omega) (by have := hx.1; have := hx.2; omega) (by have := hy.1; have := hy.2; omega))
  have hpH := hid hp
  have MSH := hid (fun wr (h : Below w13.heap.size w13 wr) => (M13.out.keep h).below)
  clear M13 hp ha hb hc hd hx hy
  go_wp2_with fail
  go_loopw [78] (fun i wr => ∃ j : Nat, j ≤ n ∧ i = .int .i64 j ∧ Hid (Own w13 wr [])) (fun i _ => n - (intOf i).toNat)
  case atStart => exact ⟨0, Nat.zero_le _, rfl, MS⟩
  case round =>
    clear MS
    obtain ⟨j, hj, rfl, MR⟩ := hrel
    by_cases hlt : j < n
    · obtain ⟨s0, s1, s2⟩ := hSp.out wr MR.out.below j hlt
      have hI := hid (show I16 (pX ps j) ∧ I16 (pY ps j) from by
        have hjl : j < ps.length := by rw [hnH.out]; exact hlt
        have := hpH.out ps[j] (List.getElem_mem _)
        rwa [pt_eta ps hjl] at this)
      have hQj := hid (fun w1 (h : Below w13.heap.size w13 w1) => hQ.out w1 h j hlt)
      obtain ⟨e1, e2, e3⟩ := hq1.out j hlt
      rw [e1, e2, e3] at hQj
      clear e1 e2 e3
      generalize pX ps j = px at *
      generalize pY ps j = py at *
      generalize pO ps j = on at *
      have hA1 := hid (fun w1 => hAp.out w1 px py on hI.out.1 hI.out.2)
      have wpx : IntKind.i64.wrap px = px := IntWalk.i64_in _ (by have := hI.out.1.1; have := hI.out.1.2; omega)
      have wpy : IntKind.i64.wrap py = py := IntWalk.i64_in _ (by have := hI.out.2.1; have := hI.out.2.2; omega)
      replace hQj := hid (fun w1 (h : Below w13.heap.size w13 w1) => show w1.cell? (bd.add (j * 3)) = some (.int .i64 (rnd (a * px + c * py) + x)) ∧ w1.cell? ⟨(bd.add (j * 3)).block, (bd.add (j * 3)).off + 1, none⟩ = some (.int .i64 (rnd (b * px + d * py) + y)) ∧ w1.cell? ⟨(bd.add (j * 3)).block, (bd.add (j * 3)).off + 2, none⟩ = some (.bool on) from hQj.out w1 h)
      have heq := rpt_eq (rnd (a * px + c * py) + x) (rnd (b * px + d * py) + y) on
      generalize rnd (a * px + c * py) = rx at *
      generalize rnd (b * px + d * py) = ry at *
      go_upto_region 17 with (first
        | ((with_reducible refine gate (N := 14) rfl ?_); refine wpList_box_Own rfl (cs := #[.int .i16 0, .int .i16 0, .bool false]) (t := 55) (by first | (go_simp; done) | (go_simp; rfl)) MR.out ?_; intro sb w15 M; (have M15 := hid M); clear M)
        | ((with_reducible refine gateSt (t := 55) (p := 14) rfl ?_); refine wpList_store_all (n := 3) (L1 := []) (mid := [.int .i16 0, .int .i16 0, .bool false]) (vs := [.int .i16 px, .int .i16 py, .bool on]) rfl rfl (by kernel_rfl) rfl rfl rfl rfl rfl (one_all rfl) M15.out ?_; intro w16 M; (clear s0 s1 s2); obtain ⟨m0, m1, m2, m3⟩ := hMx.out w16 M.below; obtain ⟨t0, t1, t2⟩ := sp_cells (p := sb) (x := px) (y := py) (on := on) M (by simp); (have M16 := hid M); clear M)
        | (go_at_call 17; (with_reducible refine (hA1.out _).mono ?_); rintro _ w17 ⟨_, rfl, rfl, hbw⟩; (have M17 := hid (M16.out.keep hbw)); clear hbw m0 m1 m2 m3 t0 t1 t2)
        | ((with_reducible refine gate (N := 15) rfl ?_); refine wpList_box_Own rfl (cs := #[.int .i64 0, .int .i64 0, .bool false]) (t := 56) (by first | (go_simp; done) | (go_simp; rfl)) M17.out ?_; intro rb w18 M; (have M18 := hid M); clear M)
        | ((with_reducible refine gateSt (t := 56) (p := 15) rfl ?_); refine wpList_store_all (n := 3) (L1 := []) (mid := [.int .i64 0, .int .i64 0, .bool false]) (vs := [.int .i64 (rx + x), .int .i64 (ry + y), .bool on]) rfl rfl (by kernel_rfl) rfl rfl rfl rfl rfl (one_all rfl) M18.out ?_; intro w19 M; (have M19 := hid M); clear M))
      obtain ⟨q0, q1, q2⟩ := rp_cells (p := rb) (x := rx + x) (y := ry + y) (on := on) M19.out (by simp)
      obtain ⟨u0, u1, u2⟩ := hQj.out w19 M19.out.below
      have v0 := hc0H.out w19 M19.out.below
      clear M15 M16 M17 M18
      go_quiet (fail)
      go_wp2_with fail
      go_roundw
      case rel => exact ⟨j + 1, by omega, by go_num, hid ((M19.out.sub (List.nil_sublist _)).drewN _)⟩
      case measure => simp [intOf] <;> omega
    · obtain rfl : n = j := by omega
      have hSm := hid (fsame_one wr hql.out (hSR.out.below MR.out.below) (hS2H.out.below MR.out.below))
      have hSn := hid (fun w1 => fsame_nil w1 (ad := ad) (c := cR))
      go_wp2_with (first
        | (go_at_call 18; (with_reducible refine hSm.out.mono ?_); rintro _ w14 ⟨_, rfl, rfl, hbw⟩; (have M14 := hid (MR.out.keep hbw)); clear hbw)
        | (go_at_call 18; (with_reducible refine (hSn.out _).mono ?_); rintro _ w15 ⟨_, rfl, rfl, hbw⟩; (have M15 := hid (M14.out.keep hbw)); clear hbw))
      go_ret
      exact .mk ⟨rfl, MSH.out w15 M15.out.below⟩
end Go.Proofs.YtiedbfaehndooaaDoor
