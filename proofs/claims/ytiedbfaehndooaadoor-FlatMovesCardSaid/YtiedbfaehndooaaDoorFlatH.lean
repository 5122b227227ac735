/- Package flat: one glyph's contours: a glyph of parts; and all together, by induction. -/
import Derived.Test.YtiedbfaehndooaaDoorFlatG
namespace Go.Proofs.YtiedbfaehndooaaDoor
open Go Go.RowKit
set_option linter.unusedVariables false
set_option linter.unusedSimpArgs false
set_option maxRecDepth 1000000

theorem sub_back {x y v : Ent} {P Q L : List Ent} : (v :: (P ++ (x :: y :: L))).Sublist (v :: (P ++ (x :: y :: (Q ++ L)))) :=
  .cons_cons _ ((List.Sublist.cons_cons _ (.cons_cons _ (List.sublist_append_right Q L))).append_left P)
section
variable {W0 w : World} {L : List Ent} {W : Nat} {vl vway : Value} {way : List Int} {m q : Nat} {ks : List Gk}
set_option maxHeartbeats 8000000 in
theorem fat_parts (hG : GlyphsAt W0 vl ks) {i : Nat} (hi : i < ks.length) (hin : decide ((i : Int) ∈ way) = false) (hwl : way.length ≤ 16) (hm1 : m ≤ 20000) (hm : ¬ 20000 < m + 1) {g : Cg} (hkk : ks.getD i .none = .parts g) (hgr : (Gk.parts g).Right) {R : WR}
    (hA : ∀ (w1 : World) (L1 : List Ent) (V vw : Value), .view 8 V g.parts.length (ptCC g.parts) ∈ L1 → Own W0 w1 (.blk W 64 (wkA vl vw (m + 1) q) :: .row 3 1 vw (way ++ [(i : Int)]).length (ints .i64 (way ++ [(i : Int)])) :: L1) →
      Calls Tryd.prog 39 #[.pointer (some ⟨W, 0, none⟩), V] w1 (Ret fun r w' => AtP W0 L1 W vl (way ++ [(i : Int)]) R r w'))
    (M : Own W0 w (.blk W 64 (wkA vl vway m q) :: .row 3 1 vway way.length (ints .i64 way) :: L)) :
    Calls Tryd.prog 19 #[.pointer (some ⟨W, 0, none⟩), .int .i64 (i : Int)] w (Ret fun r w' => AtP W0 L W vl way R r w') := by
  have hmf : ∀ (fn : Fn) (first cap : Array Value) (w : World), (Instr.makeFunc fn first cap).run Tryd.prog w = .ok (.func fn first cap) w := fun _ _ _ _ => rfl
  have hAH := hid hA
  clear hA
  have M0 := hid M
  obtain ⟨A, c, rfl, hc1, hc2⟩ := gl_form hG
  obtain ⟨Aw, cw, rfl⟩ := M.form (.tail _ (.head _))
  have hGH := hid hG
  clear M hG
  obtain ⟨n, hn⟩ : ∃ n, ks.length = n := ⟨_, rfl⟩
  obtain ⟨k, hk⟩ : ∃ k, way.length = k := ⟨_, rfl⟩
  have hCn := hid (fun w1 b M => fat_in (W0 := W0) (L := L) (W := W) (vl := .slice A ks.length c) (m := m) (q := q) hk hin (Aw := Aw) (cw := cw) w1 b M)
  rw [hk] at M0 hwl
  rw [hn] at hCn M0 hi hc1 hGH
  have hkH := hid hk
  have hnH := hid hn
  clear hk hn hin
  have h0 : ¬ (i : Int) < 0 := by omega
  have hd0 : decide ((i : Int) < 0) = false := decide_eq_false h0
  have h1 : ¬ (i : Int) ≥ (n : Int) := by omega
  go_enter_defers Tryd.func19, Tryd.ntmps19
  have h16 : ¬ (k : Int) > 16 := by omega
  have wm : IntKind.i64.wrap ((m : Int) + 1) = (m : Int) + 1 := IntWalk.i64_in _ (by omega)
  go_upto_region 8 with (first
    | ((with_reducible refine gate (N := 2) rfl ?_); refine wpList_box_Own rfl (cs := boxW W) (t := 61) (by first | (go_simp; done) | (go_simp; rfl)) M0.out ?_; intro b w1 M; obtain ⟨k0, k1, -, -⟩ := wk_cells M (.tail _ (.head _)); ((have b0 := bx_cell M (.head _))); (have M1 := hid M); clear M)
    | (go_at_call 35; (with_reducible refine (hCn.out _ _ M1.out).mono ?_); rintro _ w2 ⟨_, rfl, rfl, hb⟩; (clear k0 k1 b0); ((have M2 := hid (M1.out.keep hb))); obtain ⟨k0, k1, k2, k3⟩ := wk_cells M2.out (.tail _ (.head _)); obtain ⟨f1, f2, f3⟩ := wk_free M2.out (.tail _ (.head _)); ((have b0 := bx_cell M2.out (.head _))); (clear hb)))
  have M3 : Hid (Own W0 (w2.setCell ⟨W, 2, none⟩ (.int .i64 ((m : Int) + 1))) (.blk b 61 (boxW W) :: .blk W 64 (wkA (.slice A n c) (.slice Aw k cw) (m + 1) q) :: .row 3 1 (.slice Aw k cw) k (ints .i64 way) :: L)) := hid (M2.out.set (L1 := [_]) 2 (.int .i64 ((m : Int) + 1)))
  clear k0 k1 k2 k3 f1 f2 f3 b0 M1 M2 M0
  revert M3
  generalize w2.setCell ⟨W, 2, none⟩ (.int .i64 ((m : Int) + 1)) = w3
  intro M3
  obtain ⟨k0, k1, k2, k3⟩ := wk_cells M3.out (.tail _ (.head _))
  rw [show ((m + 1 : Nat) : Int) = (m : Int) + 1 from rfl] at k2
  have b0 := bx_cell M3.out (.head _)
  have hmg : ¬ (m : Int) + 1 > 20000 := by omega
  obtain ⟨ad, v, rfl, hcg, hby⟩ := gl_at hGH.out M3.out.below (i := i) (by rw [hnH.out]; exact hi)
  rw [hkk] at hby
  rw [hnH.out] at hAH
  obtain ⟨hO, hR⟩ := hgr
  have hP := hid (fparse_compo w3 hO hR hby)
  clear hO hR
  obtain ⟨Ag, cg, rfl, -⟩ := hby
  go_upto_region 20 with (first
    | (go_at_call 36; (with_reducible refine hP.out.mono ?_); rintro _ w4 ⟨_, rfl, gq, vp, vg, rfl, M⟩; obtain ⟨Ap, cp, rfl⟩ := M.form (.tail _ (.head _)); obtain ⟨Aq, cq, rfl⟩ := M.form (.tail _ (.tail _ (.head _))); (have M4 := hid (M3.out.lift M)); clear M)
    | ((with_reducible refine gate (N := 6) rfl ?_); refine wpList_box_Own rfl (cs := fgA none none) (t := 84) (by first | (go_simp; done) | (go_simp; rfl)) M4.out ?_; intro gb w5 M; (have M5 := hid M); clear M)
    | ((with_reducible refine gateSt (t := 84) (p := 6) rfl ?_); refine wpList_store_all (n := 2) (L1 := []) (mid := (fgA none none).toList) (vs := (fgA none (some ⟨gq, 0, none⟩)).toList) rfl rfl (by kernel_rfl) rfl rfl rfl rfl rfl (one_all rfl) M5.out ?_; intro w6 M; ((have g0 := M.cell (g := gb) (t := 84) (cs := fgA none (some ⟨gq, 0, none⟩)) (.head _) 0)); ((have g1 := M.cell (g := gb) (t := 84) (cs := fgA none (some ⟨gq, 0, none⟩)) (.head _) 1)); (have M6 := hid M); clear M))
  replace M6 := hid (Own.share (L1 := [_, _]) M6.out)
  clear k0 k1 k2 k3 b0 M4 M5 g0 g1 M3 hP
  refine wp_region_noPanic ?_
  have MD := hid M6.out.drew
  refine wp_region_until (S := fun w' => w'.cell? ⟨b, 0, none⟩ = some (.pointer (some ⟨W, 0, none⟩)) ∧ w'.cell? ⟨W, 1, none⟩ = some (.slice Aw k cw)) 10 (by kernel_rfl) ⟨bx_cell MD.out (b := b) (W := W) (by simp), (wk_cells MD.out (W := W) (vl := .slice (some ad) n c) (vw := .slice Aw k cw) (m := m + 1) (q := q) (by simp)).2.1⟩ (fun hHeld => ?_)
  repeat (first | (refine wpAnyV_take (i := 0) (v := ?_) rfl (by kernel_rfl) (by decide +kernel) (by decide +kernel) [] (by decide +kernel) (by decide +kernel) (by decide) (fun _ _ _ h => h) ?_ (by assumption) ?_; rotate_left; (first | (refine yields_load (by rfl) rfl rfl ?_; intro w hSw; (try dsimp only at hSw); go_split_ands; assumption) | (refine Or.inl ⟨by rfl, ?_⟩; intro w hSw; (try dsimp only at hSw); go_simp; done) | (refine Or.inl ⟨by rfl, ?_⟩; intro w hSw; (try dsimp only at hSw); go_simp; with_reducible rfl) | exact Or.inr ⟨by rfl, rfl⟩ | exact Or.inr ⟨by rfl, by rfl⟩); (try simp only [Act.put, List.setIfInBounds_toArray, List.set_cons_zero, List.set_cons_succ, List.getElem_toArray, List.getElem_cons_zero, List.getElem_cons_succ])) | (refine wpAnyV_take (i := 1) (v := ?_) rfl (by kernel_rfl) (by decide +kernel) (by decide +kernel) [] (by decide +kernel) (by decide +kernel) (by decide) (fun _ _ _ h => h) ?_ (by assumption) ?_; rotate_left; (first | (refine yields_load (by rfl) rfl rfl ?_; intro w hSw; (try dsimp only at hSw); go_split_ands; assumption) | (refine Or.inl ⟨by rfl, ?_⟩; intro w hSw; (try dsimp only at hSw); go_simp; done) | (refine Or.inl ⟨by rfl, ?_⟩; intro w hSw; (try dsimp only at hSw); go_simp; with_reducible rfl) | exact Or.inr ⟨by rfl, rfl⟩ | exact Or.inr ⟨by rfl, by rfl⟩); (try simp only [Act.put, List.setIfInBounds_toArray, List.set_cons_zero, List.set_cons_succ, List.getElem_toArray, List.getElem_cons_zero, List.getElem_cons_succ])) | (refine wpAnyV_take (i := 2) (v := ?_) rfl (by kernel_rfl) (by decide +kernel) (by decide +kernel) [] (by decide +kernel) (by decide +kernel) (by decide) (fun _ _ _ h => h) ?_ (by assumption) ?_; rotate_left; (first | (refine yields_load (by rfl) rfl rfl ?_; intro w hSw; (try dsimp only at hSw); go_split_ands; assumption) | (refine Or.inl ⟨by rfl, ?_⟩; intro w hSw; (try dsimp only at hSw); go_simp; done) | (refine Or.inl ⟨by rfl, ?_⟩; intro w hSw; (try dsimp only at hSw); go_simp; with_reducible rfl) | exact Or.inr ⟨by rfl, rfl⟩ | exact Or.inr ⟨by rfl, by rfl⟩); (try simp only [Act.put, List.setIfInBounds_toArray, List.set_cons_zero, List.set_cons_succ, List.getElem_toArray, List.getElem_cons_zero, List.getElem_cons_succ])) | (refine wpAnyV_take (i := 3) (v := ?_) rfl (by kernel_rfl) (by decide +kernel) (by decide +kernel) [] (by decide +kernel) (by decide +kernel) (by decide) (fun _ _ _ h => h) ?_ (by assumption) ?_; rotate_left; (first | (refine yields_load (by rfl) rfl rfl ?_; intro w hSw; (try dsimp only at hSw); go_split_ands; assumption) | (refine Or.inl ⟨by rfl, ?_⟩; intro w hSw; (try dsimp only at hSw); go_simp; done) | (refine Or.inl ⟨by rfl, ?_⟩; intro w hSw; (try dsimp only at hSw); go_simp; with_reducible rfl) | exact Or.inr ⟨by rfl, rfl⟩ | exact Or.inr ⟨by rfl, by rfl⟩); (try simp only [Act.put, List.setIfInBounds_toArray, List.set_cons_zero, List.set_cons_succ, List.getElem_toArray, List.getElem_cons_zero, List.getElem_cons_succ])) | (refine wpAnyV_take (i := 4) (v := ?_) rfl (by kernel_rfl) (by decide +kernel) (by decide +kernel) [] (by decide +kernel) (by decide +kernel) (by decide) (fun _ _ _ h => h) ?_ (by assumption) ?_; rotate_left; (first | (refine yields_load (by rfl) rfl rfl ?_; intro w hSw; (try dsimp only at hSw); go_split_ands; assumption) | (refine Or.inl ⟨by rfl, ?_⟩; intro w hSw; (try dsimp only at hSw); go_simp; done) | (refine Or.inl ⟨by rfl, ?_⟩; intro w hSw; (try dsimp only at hSw); go_simp; with_reducible rfl) | exact Or.inr ⟨by rfl, rfl⟩ | exact Or.inr ⟨by rfl, by rfl⟩); (try simp only [Act.put, List.setIfInBounds_toArray, List.set_cons_zero, List.set_cons_succ, List.getElem_toArray, List.getElem_cons_zero, List.getElem_cons_succ])) | (refine wpAnyV_take (i := 5) (v := ?_) rfl (by kernel_rfl) (by decide +kernel) (by decide +kernel) [] (by decide +kernel) (by decide +kernel) (by decide) (fun _ _ _ h => h) ?_ (by assumption) ?_; rotate_left; (first | (refine yields_load (by rfl) rfl rfl ?_; intro w hSw; (try dsimp only at hSw); go_split_ands; assumption) | (refine Or.inl ⟨by rfl, ?_⟩; intro w hSw; (try dsimp only at hSw); go_simp; done) | (refine Or.inl ⟨by rfl, ?_⟩; intro w hSw; (try dsimp only at hSw); go_simp; with_reducible rfl) | exact Or.inr ⟨by rfl, rfl⟩ | exact Or.inr ⟨by rfl, by rfl⟩); (try simp only [Act.put, List.setIfInBounds_toArray, List.set_cons_zero, List.set_cons_succ, List.getElem_toArray, List.getElem_cons_zero, List.getElem_cons_succ])))
  refine wpAnyV_ready (rs := [6]) (by decide +kernel) (by simp) ?_; refine (AllReadyV.cons rfl (by decide) (fun K hK => ?_) AllReadyV.nil)
  go_simp
  have M7 := hid ((M6.out.alloc 3 #[.int .i64 (i : Int)]).drew)
  obtain ⟨hs, hhs⟩ : ∃ h, w6.heap.size = h := ⟨_, rfl⟩
  rw [hhs] at M7 ⊢
  have hc : _ ∧ _ := ⟨bx_cell M7.out (b := b) (W := W) (by simp), (wk_cells M7.out (W := W) (vl := .slice (some ad) n c) (vw := .slice Aw k cw) (m := m + 1) (q := q) (by simp)).2.1⟩
  refine hK.out _ _ hc (fun hHeld => ?_); clear hK K; (try simp only [Act.put, List.setIfInBounds_toArray, List.set_cons_zero, List.set_cons_succ, List.getElem_toArray, List.getElem_cons_zero, List.getElem_cons_succ])
  clear hc
  refine wpAnyV_ready (rs := [7]) (by decide +kernel) (by simp) ?_; refine (AllReadyV.cons rfl (by decide) (fun K hK => ?_) AllReadyV.nil)
  refine step_append_Own (by rfl) (.tmp 96) (.tmp 98) _ rfl sized_way rfl rfl (L1 := [.blk hs 3 #[.int .i64 (i : Int)], .blk gb 84 (fgA none (some ⟨gq, 0, none⟩)), .blk gq 40 (cA g (.slice Ap g.parts.length cp) (.slice Aq g.prog.length cq)), .view 8 (.slice Ap g.parts.length cp) g.parts.length (ptCC g.parts), .row 5 1 (.slice Aq g.prog.length cq) g.prog.length (ints .u8 g.prog), .blk b 61 (boxW W), .blk W 64 (wkA (.slice (some ad) n c) (.slice Aw k cw) (m + 1) q)]) (L2 := L) M7.out (SliceAt.built M7.out (.head _) 1 1 rfl (by unfold maxLen; omega)) (one_all rfl) (by unfold maxLen; omega) (by omega) ?_
  intro v' w7 M'
  obtain ⟨A7, c7, rfl⟩ := M'.form (e := 3) (sz := 1) (v := v') (n := k + 1) (xs := ints .i64 way ++ [.int .i64 (i : Int)]) (by simp)
  have M8 := hid (show Own W0 w7 ([.blk hs 3 #[.int .i64 (i : Int)], .blk gb 84 (fgA none (some ⟨gq, 0, none⟩)), .blk gq 40 (cA g (.slice Ap g.parts.length cp) (.slice Aq g.prog.length cq)), .view 8 (.slice Ap g.parts.length cp) g.parts.length (ptCC g.parts), .row 5 1 (.slice Aq g.prog.length cq) g.prog.length (ints .u8 g.prog), .blk b 61 (boxW W), .blk W 64 (wkA (.slice (some ad) n c) (.slice Aw k cw) (m + 1) q)] ++ (.row 3 1 (.slice A7 (k + 1) c7) (k + 1) (ints .i64 (way ++ [(i : Int)])) :: L)) by rw [ints_append]; exact M')
  clear M'
  have hc : _ ∧ _ := ⟨bx_cell M8.out (b := b) (W := W) (by simp), (wk_cells M8.out (W := W) (vl := .slice (some ad) n c) (vw := .slice Aw k cw) (m := m + 1) (q := q) (by simp)).2.1⟩
  refine hK.out _ _ hc (fun hHeld => ?_); clear hK K; (try simp only [Act.put, List.setIfInBounds_toArray, List.set_cons_zero, List.set_cons_succ, List.getElem_toArray, List.getElem_cons_zero, List.getElem_cons_succ])
  clear hc
  repeat (first | (refine wpAnyV_take (i := 8) (v := ?_) rfl (by kernel_rfl) (by decide +kernel) (by decide +kernel) [9] (by decide +kernel) (by decide +kernel) (by decide) (fun _ _ _ h => h) ?_ (by assumption) ?_; rotate_left; (first | (refine yields_load (by rfl) rfl rfl ?_; intro w hSw; (try dsimp only at hSw); go_split_ands; assumption) | (refine Or.inl ⟨by rfl, ?_⟩; intro w hSw; (try dsimp only at hSw); go_simp; done) | (refine Or.inl ⟨by rfl, ?_⟩; intro w hSw; (try dsimp only at hSw); go_simp; with_reducible rfl) | exact Or.inr ⟨by rfl, rfl⟩ | exact Or.inr ⟨by rfl, by rfl⟩); (try simp only [Act.put, List.setIfInBounds_toArray, List.set_cons_zero, List.set_cons_succ, List.getElem_toArray, List.getElem_cons_zero, List.getElem_cons_succ])))
  repeat (first | (refine wpAnyV_take (i := 9) (v := ?_) rfl (by kernel_rfl) (by decide +kernel) (by decide +kernel) [] (by decide +kernel) (by decide +kernel) (by decide) (fun _ _ _ h => h) ?_ (by assumption) ?_; rotate_left; (first | (refine yields_load (by rfl) rfl rfl ?_; intro w hSw; (try dsimp only at hSw); go_split_ands; assumption) | (refine Or.inl ⟨by rfl, ?_⟩; intro w hSw; (try dsimp only at hSw); go_simp; done) | (refine Or.inl ⟨by rfl, ?_⟩; intro w hSw; (try dsimp only at hSw); go_simp; with_reducible rfl) | exact Or.inr ⟨by rfl, rfl⟩ | exact Or.inr ⟨by rfl, by rfl⟩); (try simp only [Act.put, List.setIfInBounds_toArray, List.set_cons_zero, List.set_cons_succ, List.getElem_toArray, List.getElem_cons_zero, List.getElem_cons_succ])))
  obtain ⟨f1, -, -⟩ := wk_free M8.out (W := W) (vl := .slice (some ad) n c) (vw := .slice Aw k cw) (m := m + 1) (q := q) (by simp)
  refine wpAnyV_ready (rs := [10]) (by decide +kernel) (by simp) ?_; refine AllReadyV.last rfl (fun K hK => ?_); go_simp
  have M9 : Hid (Own W0 (w7.setCell ⟨W, 1, none⟩ (.slice A7 (k + 1) c7)) ([.blk W 64 (wkA (.slice (some ad) n c) (.slice A7 (k + 1) c7) (m + 1) q), .row 3 1 (.slice A7 (k + 1) c7) (k + 1) (ints .i64 (way ++ [(i : Int)]))] ++ ([.blk hs 3 #[.int .i64 (i : Int)], .blk gb 84 (fgA none (some ⟨gq, 0, none⟩)), .blk gq 40 (cA g (.slice Ap g.parts.length cp) (.slice Aq g.prog.length cq)), .view 8 (.slice Ap g.parts.length cp) g.parts.length (ptCC g.parts), .row 5 1 (.slice Aq g.prog.length cq) g.prog.length (ints .u8 g.prog), .blk b 61 (boxW W)] ++ L))) := hid (Own.front (X := [_, _]) (M8.out.set (L1 := [_, _, _, _, _, _]) 1 (.slice A7 (k + 1) c7)))
  clear f1 M8 MD M6 M7
  revert M9
  generalize w7.setCell ⟨W, 1, none⟩ (.slice A7 (k + 1) c7) = w8
  intro M9
  refine hK.out _ _ (fun hHeld => ?_); clear hK K; (try simp only [Act.put, List.setIfInBounds_toArray, List.set_cons_zero, List.set_cons_succ, List.getElem_toArray, List.getElem_cons_zero, List.getElem_cons_succ])
  refine wpAnyH_done (by kernel_rfl) ?_ _
  refine NoPanic.normal ?_
  obtain ⟨P, hPr⟩ : ∃ P, g.parts = P := ⟨_, rfl⟩
  have hkl := hid (show (way ++ [(i : Int)]).length = k + 1 by rw [List.length_append, hkH.out]; rfl)
  rw [hkl.out] at hAH
  have hCall := hid (fun (w1 : World) (M : Own W0 w1 ([.blk W 64 (wkA (.slice (some ad) n c) (.slice A7 (k + 1) c7) (m + 1) q), .row 3 1 (.slice A7 (k + 1) c7) (k + 1) (ints .i64 (way ++ [(i : Int)]))] ++ ([.blk hs 3 #[.int .i64 (i : Int)], .blk gb 84 (fgA none (some ⟨gq, 0, none⟩)), .blk gq 40 (cA g (.slice Ap g.parts.length cp) (.slice Aq g.prog.length cq)), .view 8 (.slice Ap g.parts.length cp) g.parts.length (ptCC g.parts), .row 5 1 (.slice Aq g.prog.length cq) g.prog.length (ints .u8 g.prog), .blk b 61 (boxW W)] ++ L))) => hAH.out w1 _ (.slice Ap g.parts.length cp) _ (by simp) M)
  clear hAH hPr P
  obtain ⟨L6, hL6⟩ : ∃ l : List Ent, [.blk hs 3 #[.int .i64 (i : Int)], .blk gb 84 (fgA none (some ⟨gq, 0, none⟩)), .blk gq 40 (cA g (.slice Ap g.parts.length cp) (.slice Aq g.prog.length cq)), .view 8 (.slice Ap g.parts.length cp) g.parts.length (ptCC g.parts), .row 5 1 (.slice Aq g.prog.length cq) g.prog.length (ints .u8 g.prog), .blk b 61 (boxW W)] = l := ⟨_, rfl⟩
  have hcell := hid (fun (w1 : World) (L2 : List Ent) (M : Own W0 w1 L2) (h : ∀ x ∈ L6, x ∈ L2) => show w1.cell? ⟨b, 0, none⟩ = some (.pointer (some ⟨W, 0, none⟩)) ∧ w1.cell? ⟨gb, 1, none⟩ = some (.pointer (some ⟨gq, 0, none⟩)) ∧ w1.cell? ⟨gq, 4, none⟩ = some (.slice Ap g.parts.length cp) from
    ⟨bx_cell M (h _ (by rw [← hL6]; simp)), M.cell (g := gb) (t := 84) (cs := fgA none (some ⟨gq, 0, none⟩)) (h _ (by rw [← hL6]; simp)) 1, M.cell (g := gq) (t := 40) (cs := cA g (.slice Ap g.parts.length cp) (.slice Aq g.prog.length cq)) (h _ (by rw [← hL6]; simp)) 4⟩)
  have hbL := hid (show Ent.blk b 61 (boxW W) ∈ L6 by rw [← hL6]; simp)
  rw [hL6] at M9 hCall
  clear hL6
  obtain ⟨b0, g1, q4⟩ := hcell.out w8 _ M9.out (fun x hx => by simp [hx])
  go_upto_region 22 with fail
  go_region_held3 (fun w' => w'.cell? ⟨b, 0, none⟩ = some (.pointer (some ⟨W, 0, none⟩)) ∧ w'.cell? ⟨gb, 1, none⟩ = some (.pointer (some ⟨gq, 0, none⟩)) ∧ w'.cell? ⟨gq, 4, none⟩ = some (.slice Ap g.parts.length cp)) (go_keep)
    (first
      | (go_at_call 39; (with_reducible refine (hCall.out _ M9.out.drew).mono ?_); rintro _ w10 ⟨_, rfl, Rv, cl, vw3, rfl, hcl, M⟩; (have M10 := hid M); clear M b0 g1 q4; obtain ⟨b0, g1, q4⟩ := hcell.out w10 _ M10.out (fun x hx => by simp [hx])))
  clear b0 g1 q4 hcell hCall
  have hmem : Ent.row 3 1 vw3 (way ++ [(i : Int)]).length (ints .i64 (way ++ [(i : Int)])) ∈ (Ent.view 1 Rv cl.length (cl.map (·.1)) :: (cViews cl ++ (.blk W 64 (wkA (.slice (some ad) n c) vw3 R.met R.pnt) :: .row 3 1 vw3 (way ++ [(i : Int)]).length (ints .i64 (way ++ [(i : Int)])) :: (L6 ++ L)))) := by simp
  rw [hkl.out] at hmem
  have M11 := M10.out
  rw [hkl.out] at M11
  obtain ⟨A3, c3, rfl⟩ := M11.form hmem
  have M12 := hid (Own.front (L1 := .view 1 Rv cl.length (cl.map (·.1)) :: cViews cl) (X := [_, _]) M11)
  clear hmem M11 M10 M9
  go_wp2_with fail
  refine leaves_cons (f := 38) (args := #[.pointer (some ⟨b, 0, none⟩)]) (by simp) (by simp [go_sem]) ?_
  refine (fat1_calls (n := k) (b := b) M12.out (by simp [hbL.out]) (by omega)).mono ?_
  rintro e u' w11 ⟨rfl, rfl, M⟩
  refine ⟨_, results_tmp2 rfl _ _ _, .mk ?_⟩
  rw [hnH.out]
  refine ⟨Rv, cl, .slice A3 k c3, rfl, hcl, ?_⟩
  rw [hkH.out]
  have ht : (ints .i64 (way ++ [(i : Int)])).take k = ints .i64 way := by
    rw [ints_append]
    exact List.take_left' (by rw [ints_length]; exact hkH.out)
  rw [ht] at M
  have M13 := Own.front (L1 := [_, _]) (X := .view 1 Rv cl.length (cl.map (·.1)) :: cViews cl) (L2 := L6 ++ L) M
  exact M13.sub sub_back
end
/-- One glyph's contours. -/
theorem fat_calls {W0 : World} {vl : Value} {ks : List Gk} {W : Nat} (hG : GlyphsAt W0 vl ks) (hK : ∀ k ∈ ks, k.Right) (hN : Near ks) : ∀ (f : Nat), f ≤ 17 → ∀ (way : List Int) (m q : Nat) (id : Int) (w : World) (L : List Ent) (vway : Value), way.length + f = 17 → m ≤ 20000 → q ≤ 20000 →
    Own W0 w (.blk W 64 (wkA vl vway m q) :: .row 3 1 vway way.length (ints .i64 way) :: L) →
    Calls Tryd.prog 19 #[.pointer (some ⟨W, 0, none⟩), .int .i64 id] w (Ret fun r w' => AtP W0 L W vl way (atK ks f way m q id) r w')
  | 0, hf, way, m, q, id, w, L, vway, hw, hm, hq, M => by
    rw [atK]
    by_cases h1 : id < 0 ∨ (ks.length : Int) ≤ id
    · rw [if_pos h1]; exact fat_index hG h1 M
    · rw [if_neg h1]
      obtain ⟨i, rfl⟩ : ∃ i : Nat, id = i := ⟨id.toNat, by omega⟩
      have hi : i < ks.length := by omega
      by_cases h2 : (i : Int) ∈ way
      · rw [if_pos h2]; exact fat_cycle hG hi (decide_eq_true h2) (by omega) M
      · rw [if_neg h2]; exact fat_depth hG hi (decide_eq_false h2) (by omega) M
  | f + 1, hf, way, m, q, id, w, L, vway, hw, hm, hq, M => by
    rw [atK]
    by_cases h1 : id < 0 ∨ (ks.length : Int) ≤ id
    · rw [if_pos h1]; exact fat_index hG h1 M
    rw [if_neg h1]
    obtain ⟨i, rfl⟩ : ∃ i : Nat, id = i := ⟨id.toNat, by omega⟩
    have hi : i < ks.length := by omega
    by_cases h2 : (i : Int) ∈ way
    · rw [if_pos h2]; exact fat_cycle hG hi (decide_eq_true h2) (by omega) M
    rw [if_neg h2]
    by_cases h3 : 20000 < m + 1
    · rw [if_pos h3]; exact fat_met hG hi (decide_eq_false h2) (by omega) hm h3 M
    rw [if_neg h3, Int.toNat_natCast]
    have hr := ks_right hK i
    cases hk : ks.getD i .none with
    | none => exact fat_none hG hi (decide_eq_false h2) (by omega) hm h3 hk M
    | pts g => rw [hk] at hr; exact fat_pts hG hi (decide_eq_false h2) (by omega) hm hq h3 hk hr M
    | parts g =>
      rw [hk] at hr
      refine fat_parts hG hi (decide_eq_false h2) (by omega) hm h3 hk hr ?_ M
      intro w1 L1 V vw hv M1
      exact fall_calls (fun m q id h4 h5 => atK_good hK f _ m q id h4 h5) (fun m q id => hN f _ m q id (by omega))
        (fun m q id w L vway h4 h5 M => fat_calls hG hK hN f (by omega) (way ++ [(i : Int)]) m q id w L vway (by rw [List.length_append]; simp; omega) h4 h5 M)
        (by omega) hq hr.1.pt (by have := (cgR_parts hr.2).2.2.1; omega) hv M1
/-- All glyphs that are told of, in memory of their own. -/
def FlatP (r : WR) (w : World) (v : Value) (w' : World) : Prop := ∃ (R : Value) (cl : CL), v = .tuple #[R, .int .i64 r.e] ∧ cl.map (·.2) = r.c ∧ Own w w' (.view 1 R cl.length (cl.map (·.1)) :: cViews cl)
theorem flat_calls {w : World} {vl : Value} {ks : List Gk} (hG : GlyphsAt w vl ks) (hK : ∀ k ∈ ks, k.Right) (hN : Near ks) (id : Int) :
    Calls Tryd.prog 9 #[vl, .int .i64 id] w (Ret fun r w' => FlatP (atK ks 17 [] 0 0 id) w r w') := by
  have M0 := hid ((Own.start w).nil_row 3 1)
  have hA := hid (fun W w1 (M : Own w w1 [.blk W 64 (wkA vl (.slice none 0 0) 0 0), .row 3 1 (.slice none 0 0) 0 []]) => fat_calls hG hK hN 17 (Nat.le_refl _) [] 0 0 id w1 [] (.slice none 0 0) rfl (by omega) (by omega) M)
  obtain ⟨A, c, rfl, -, -⟩ := gl_form hG
  go_enter Tryd.func9, Tryd.ntmps9
  go_wp2_with (first
    | ((with_reducible refine gate (N := 9) rfl ?_); refine wpList_box_Own rfl (cs := wkA (.slice A ks.length c) (.slice none 0 0) 0 0) (t := 64) (by first | (go_simp; done) | (go_simp; rfl)) M0.out ?_; intro W w1 M; (have M1 := hid M); clear M)
    | (go_at_call 19; (with_reducible refine (hA.out _ _ M1.out).mono ?_); rintro _ w2 ⟨_, rfl, Rv, cl, vw, rfl, hcl, M⟩; (have M2 := hid M); clear M))
  go_ret2
  refine .mk ⟨Rv, cl, rfl, hcl, M2.out.sub ?_⟩
  exact List.Sublist.cons_cons _ (List.sublist_append_left _ _)
end Go.Proofs.YtiedbfaehndooaaDoor
