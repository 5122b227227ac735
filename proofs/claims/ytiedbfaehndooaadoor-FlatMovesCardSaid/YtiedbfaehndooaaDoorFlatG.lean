/- Package flat: one glyph's contours: a glyph of points. -/
import Derived.Test.YtiedbfaehndooaaDoorFlatF
namespace Go.Proofs.YtiedbfaehndooaaDoor
open Go Go.RowKit
set_option linter.unusedVariables false
set_option linter.unusedSimpArgs false
set_option maxRecDepth 1000000

theorem sub_pts {x y v b g c1 c2 c3 z : Ent} {P L : List Ent} : (v :: (P ++ (x :: y :: L))).Sublist (v :: (P ++ (b :: g :: c1 :: c2 :: c3 :: z :: x :: y :: L))) :=
  .cons_cons _ ((List.Sublist.cons _ (.cons _ (.cons _ (.cons _ (.cons _ (.cons _ (List.Sublist.refl _))))))).append_left P)
section
variable {W0 w : World} {L : List Ent} {W : Nat} {vl vway : Value} {way : List Int} {m q : Nat} {ks : List Gk}
set_option maxHeartbeats 8000000 in
theorem fat_pts (hG : GlyphsAt W0 vl ks) {i : Nat} (hi : i < ks.length) (hin : decide ((i : Int) ∈ way) = false) (hwl : way.length ≤ 16) (hm1 : m ≤ 20000) (hq : q ≤ 20000) (hm : ¬ 20000 < m + 1) {g : Sg} (hkk : ks.getD i .none = .pts g) (hgr : (Gk.pts g).Right) (M : Own W0 w (.blk W 64 (wkA vl vway m q) :: .row 3 1 vway way.length (ints .i64 way) :: L)) :
    Calls Tryd.prog 19 #[.pointer (some ⟨W, 0, none⟩), .int .i64 (i : Int)] w (Ret fun r w' => AtP W0 L W vl way (if 20000 < q + g.pts.length then ⟨9, [], m + 1, q + g.pts.length⟩ else ⟨0, cntK g g.ends.length, m + 1, q + g.pts.length⟩) r w') := by
  have M0 := hid M
  obtain ⟨A, c, rfl, hc1, hc2⟩ := gl_form hG
  obtain ⟨Aw, cw, rfl⟩ := M.form (.tail _ (.head _))
  have hGH := hid hG
  clear M hG
  obtain ⟨n, hn⟩ : ∃ n, ks.length = n := ⟨_, rfl⟩
  obtain ⟨k, hk⟩ : ∃ k, way.length = k := ⟨_, rfl⟩
  have hCn := hid (fun w1 b M => fat_in (W0 := W0) (L := L) (W := W) (vl := .slice A ks.length c) (m := m) (q := q) hk hin (Aw := Aw) (cw := cw) w1 b M)
  rw [hk] at M0 hwl
  rw [hn] at hCn M0 hi hc1 hGH
  have hkH := hid hk
  have hnH := hid hn
  clear hk hn hin
  have h0 : ¬ (i : Int) < 0 := by omega
  have hd0 : decide ((i : Int) < 0) = false := decide_eq_false h0
  have h1 : ¬ (i : Int) ≥ (n : Int) := by omega
  go_enter_defers Tryd.func19, Tryd.ntmps19
  have h16 : ¬ (k : Int) > 16 := by omega
  have wm : IntKind.i64.wrap ((m : Int) + 1) = (m : Int) + 1 := IntWalk.i64_in _ (by omega)
  go_upto_region 8 with (first
    | ((with_reducible refine gate (N := 2) rfl ?_); refine wpList_box_Own rfl (cs := boxW W) (t := 61) (by first | (go_simp; done) | (go_simp; rfl)) M0.out ?_; intro b w1 M; obtain ⟨k0, k1, -, -⟩ := wk_cells M (.tail _ (.head _)); ((have b0 := bx_cell M (.head _))); (have M1 := hid M); clear M)
    | (go_at_call 35; (with_reducible refine (hCn.out _ _ M1.out).mono ?_); rintro _ w2 ⟨_, rfl, rfl, hb⟩; (clear k0 k1 b0); ((have M2 := hid (M1.out.keep hb))); obtain ⟨k0, k1, k2, k3⟩ := wk_cells M2.out (.tail _ (.head _)); obtain ⟨f1, f2, f3⟩ := wk_free M2.out (.tail _ (.head _)); ((have b0 := bx_cell M2.out (.head _))); (clear hb)))
  have M3 : Hid (Own W0 (w2.setCell ⟨W, 2, none⟩ (.int .i64 ((m : Int) + 1))) (.blk b 61 (boxW W) :: .blk W 64 (wkA (.slice A n c) (.slice Aw k cw) (m + 1) q) :: .row 3 1 (.slice Aw k cw) k (ints .i64 way) :: L)) := hid (M2.out.set (L1 := [_]) 2 (.int .i64 ((m : Int) + 1)))
  clear k0 k1 k2 k3 f1 f2 f3 b0 M1 M2 M0
  revert M3
  generalize w2.setCell ⟨W, 2, none⟩ (.int .i64 ((m : Int) + 1)) = w3
  intro M3
  obtain ⟨k0, k1, k2, k3⟩ := wk_cells M3.out (.tail _ (.head _))
  rw [show ((m + 1 : Nat) : Int) = (m : Int) + 1 from rfl] at k2
  have b0 := bx_cell M3.out (.head _)
  have hmg : ¬ (m : Int) + 1 > 20000 := by omega
  obtain ⟨ad, v, rfl, hcg, hby⟩ := gl_at hGH.out M3.out.below (i := i) (by rw [hnH.out]; exact hi)
  rw [hkk] at hby
  obtain ⟨hO, hR, hlen⟩ := hgr
  have hP := hid (fparse_simple w3 hO hR hlen hby)
  have hCt := hid (fun (w1 : World) ve vp vs (h : GAt w1 g ve vp vs) => cont_yes w1 hO h hR)
  have hnp : g.pts.length ≤ 65536 := by
    obtain ⟨-, -, -, hn, -⟩ := sgR_parts hR
    have := nP_bound hO g.ends.length
    omega
  clear hO hR hlen
  obtain ⟨Ag, cg, rfl, -⟩ := hby
  obtain ⟨np, hnp2⟩ : ∃ n, g.pts.length = n := ⟨_, rfl⟩
  rw [hnp2] at hP hnp
  have hnpH := hid hnp2
  clear hnp2
  have wq : IntKind.i64.wrap ((q : Int) + (np : Int)) = (q : Int) + (np : Int) := IntWalk.i64_in _ (by omega)
  go_upto_region 14 with (first
    | (go_at_call 36; (with_reducible refine hP.out.mono ?_); rintro _ w4 ⟨_, rfl, gq, ve, vp, vs, rfl, M⟩; obtain ⟨Ae, ce, rfl⟩ := M.form (.tail _ (.head _)); obtain ⟨Ap, cp, rfl⟩ := M.form (.tail _ (.tail _ (.head _))); obtain ⟨As, cs, rfl⟩ := M.form (.tail _ (.tail _ (.tail _ (.head _)))); (have M4 := hid (M3.out.lift M)); clear M)
    | ((with_reducible refine gate (N := 6) rfl ?_); refine wpList_box_Own rfl (cs := fgA none none) (t := 84) (by first | (go_simp; done) | (go_simp; rfl)) M4.out ?_; intro gb w5 M; (have M5 := hid M); clear M)
    | ((with_reducible refine gateSt (t := 84) (p := 6) rfl ?_); refine wpList_store_all (n := 2) (L1 := []) (mid := (fgA none none).toList) (vs := (fgA (some ⟨gq, 0, none⟩) none).toList) rfl rfl (by kernel_rfl) rfl rfl rfl rfl rfl (one_all rfl) M5.out ?_; intro w6 M; ((have g0 := M.cell (g := gb) (t := 84) (cs := fgA (some ⟨gq, 0, none⟩) none) (.head _) 0)); (have M6 := hid M); clear M))
  clear k0 k1 k2 k3 b0 M4 M5 g0
  have cells := hid (fun (w1 : World) (M : Own W0 w1 (.blk gb 84 (fgA (some ⟨gq, 0, none⟩) none) :: .blk gq 52 (gA g (.slice Ae g.ends.length ce) (.slice Ap g.prog.length cp) (.slice As np cs)) :: .row 34 1 (.slice Ae g.ends.length ce) g.ends.length (ints .u16 g.ends) :: .row 5 1 (.slice Ap g.prog.length cp) g.prog.length (ints .u8 g.prog) :: .row 55 3 (.slice As np cs) np (spC g.pts) :: .blk b 61 (boxW W) :: .blk W 64 (wkA (.slice (some ad) n c) (.slice Aw k cw) (m + 1) q) :: .row 3 1 (.slice Aw k cw) k (ints .i64 way) :: L)) =>
    show w1.cell? ⟨b, 0, none⟩ = some (.pointer (some ⟨W, 0, none⟩)) ∧ w1.cell? ⟨W, 3, none⟩ = some (.int .i64 q) ∧ w1.cell? ⟨gb, 0, none⟩ = some (.pointer (some ⟨gq, 0, none⟩)) ∧ w1.cell? ⟨gq, 6, none⟩ = some (.slice As np cs) from
    ⟨bx_cell M (by simp), (wk_cells M (W := W) (vl := .slice (some ad) n c) (vw := .slice Aw k cw) (m := m + 1) (q := q) (by simp)).2.2.2, M.cell (.head _) 0, M.cell (.tail _ (.head _)) 6⟩)
  refine wp_region_noPanic ?_
  have MD := hid M6.out.drew
  refine wp_region_until (S := fun w' => w'.cell? ⟨b, 0, none⟩ = some (.pointer (some ⟨W, 0, none⟩)) ∧ w'.cell? ⟨W, 3, none⟩ = some (.int .i64 q) ∧ w'.cell? ⟨gb, 0, none⟩ = some (.pointer (some ⟨gq, 0, none⟩)) ∧ w'.cell? ⟨gq, 6, none⟩ = some (.slice As np cs)) 13 (by kernel_rfl) (cells.out _ MD.out) (fun hHeld => ?_)
  repeat (first | (refine wpAnyV_take (i := 0) (v := ?_) rfl (by kernel_rfl) (by decide +kernel) (by decide +kernel) [] (by decide +kernel) (by decide +kernel) (by decide) (fun _ _ _ h => h) ?_ (by assumption) ?_; rotate_left; (first | (refine yields_load (by rfl) rfl rfl ?_; intro w hSw; (try dsimp only at hSw); go_split_ands; assumption) | (refine Or.inl ⟨by rfl, ?_⟩; intro w hSw; (try dsimp only at hSw); go_simp; done) | (refine Or.inl ⟨by rfl, ?_⟩; intro w hSw; (try dsimp only at hSw); go_simp; with_reducible rfl) | exact Or.inr ⟨by rfl, rfl⟩ | exact Or.inr ⟨by rfl, by rfl⟩); (try simp only [Act.put, List.setIfInBounds_toArray, List.set_cons_zero, List.set_cons_succ, List.getElem_toArray, List.getElem_cons_zero, List.getElem_cons_succ])) | (refine wpAnyV_take (i := 1) (v := ?_) rfl (by kernel_rfl) (by decide +kernel) (by decide +kernel) [] (by decide +kernel) (by decide +kernel) (by decide) (fun _ _ _ h => h) ?_ (by assumption) ?_; rotate_left; (first | (refine yields_load (by rfl) rfl rfl ?_; intro w hSw; (try dsimp only at hSw); go_split_ands; assumption) | (refine Or.inl ⟨by rfl, ?_⟩; intro w hSw; (try dsimp only at hSw); go_simp; done) | (refine Or.inl ⟨by rfl, ?_⟩; intro w hSw; (try dsimp only at hSw); go_simp; with_reducible rfl) | exact Or.inr ⟨by rfl, rfl⟩ | exact Or.inr ⟨by rfl, by rfl⟩); (try simp only [Act.put, List.setIfInBounds_toArray, List.set_cons_zero, List.set_cons_succ, List.getElem_toArray, List.getElem_cons_zero, List.getElem_cons_succ])) | (refine wpAnyV_take (i := 2) (v := ?_) rfl (by kernel_rfl) (by decide +kernel) (by decide +kernel) [] (by decide +kernel) (by decide +kernel) (by decide) (fun _ _ _ h => h) ?_ (by assumption) ?_; rotate_left; (first | (refine yields_load (by rfl) rfl rfl ?_; intro w hSw; (try dsimp only at hSw); go_split_ands; assumption) | (refine Or.inl ⟨by rfl, ?_⟩; intro w hSw; (try dsimp only at hSw); go_simp; done) | (refine Or.inl ⟨by rfl, ?_⟩; intro w hSw; (try dsimp only at hSw); go_simp; with_reducible rfl) | exact Or.inr ⟨by rfl, rfl⟩ | exact Or.inr ⟨by rfl, by rfl⟩); (try simp only [Act.put, List.setIfInBounds_toArray, List.set_cons_zero, List.set_cons_succ, List.getElem_toArray, List.getElem_cons_zero, List.getElem_cons_succ])) | (refine wpAnyV_take (i := 3) (v := ?_) rfl (by kernel_rfl) (by decide +kernel) (by decide +kernel) [] (by decide +kernel) (by decide +kernel) (by decide) (fun _ _ _ h => h) ?_ (by assumption) ?_; rotate_left; (first | (refine yields_load (by rfl) rfl rfl ?_; intro w hSw; (try dsimp only at hSw); go_split_ands; assumption) | (refine Or.inl ⟨by rfl, ?_⟩; intro w hSw; (try dsimp only at hSw); go_simp; done) | (refine Or.inl ⟨by rfl, ?_⟩; intro w hSw; (try dsimp only at hSw); go_simp; with_reducible rfl) | exact Or.inr ⟨by rfl, rfl⟩ | exact Or.inr ⟨by rfl, by rfl⟩); (try simp only [Act.put, List.setIfInBounds_toArray, List.set_cons_zero, List.set_cons_succ, List.getElem_toArray, List.getElem_cons_zero, List.getElem_cons_succ])) | (refine wpAnyV_take (i := 4) (v := ?_) rfl (by kernel_rfl) (by decide +kernel) (by decide +kernel) [] (by decide +kernel) (by decide +kernel) (by decide) (fun _ _ _ h => h) ?_ (by assumption) ?_; rotate_left; (first | (refine yields_load (by rfl) rfl rfl ?_; intro w hSw; (try dsimp only at hSw); go_split_ands; assumption) | (refine Or.inl ⟨by rfl, ?_⟩; intro w hSw; (try dsimp only at hSw); go_simp; done) | (refine Or.inl ⟨by rfl, ?_⟩; intro w hSw; (try dsimp only at hSw); go_simp; with_reducible rfl) | exact Or.inr ⟨by rfl, rfl⟩ | exact Or.inr ⟨by rfl, by rfl⟩); (try simp only [Act.put, List.setIfInBounds_toArray, List.set_cons_zero, List.set_cons_succ, List.getElem_toArray, List.getElem_cons_zero, List.getElem_cons_succ])) | (refine wpAnyV_take (i := 5) (v := ?_) rfl (by kernel_rfl) (by decide +kernel) (by decide +kernel) [] (by decide +kernel) (by decide +kernel) (by decide) (fun _ _ _ h => h) ?_ (by assumption) ?_; rotate_left; (first | (refine yields_load (by rfl) rfl rfl ?_; intro w hSw; (try dsimp only at hSw); go_split_ands; assumption) | (refine Or.inl ⟨by rfl, ?_⟩; intro w hSw; (try dsimp only at hSw); go_simp; done) | (refine Or.inl ⟨by rfl, ?_⟩; intro w hSw; (try dsimp only at hSw); go_simp; with_reducible rfl) | exact Or.inr ⟨by rfl, rfl⟩ | exact Or.inr ⟨by rfl, by rfl⟩); (try simp only [Act.put, List.setIfInBounds_toArray, List.set_cons_zero, List.set_cons_succ, List.getElem_toArray, List.getElem_cons_zero, List.getElem_cons_succ])) | (refine wpAnyV_take (i := 6) (v := ?_) rfl (by kernel_rfl) (by decide +kernel) (by decide +kernel) [] (by decide +kernel) (by decide +kernel) (by decide) (fun _ _ _ h => h) ?_ (by assumption) ?_; rotate_left; (first | (refine yields_load (by rfl) rfl rfl ?_; intro w hSw; (try dsimp only at hSw); go_split_ands; assumption) | (refine Or.inl ⟨by rfl, ?_⟩; intro w hSw; (try dsimp only at hSw); go_simp; done) | (refine Or.inl ⟨by rfl, ?_⟩; intro w hSw; (try dsimp only at hSw); go_simp; with_reducible rfl) | exact Or.inr ⟨by rfl, rfl⟩ | exact Or.inr ⟨by rfl, by rfl⟩); (try simp only [Act.put, List.setIfInBounds_toArray, List.set_cons_zero, List.set_cons_succ, List.getElem_toArray, List.getElem_cons_zero, List.getElem_cons_succ])) | (refine wpAnyV_take (i := 7) (v := ?_) rfl (by kernel_rfl) (by decide +kernel) (by decide +kernel) [] (by decide +kernel) (by decide +kernel) (by decide) (fun _ _ _ h => h) ?_ (by assumption) ?_; rotate_left; (first | (refine yields_load (by rfl) rfl rfl ?_; intro w hSw; (try dsimp only at hSw); go_split_ands; assumption) | (refine Or.inl ⟨by rfl, ?_⟩; intro w hSw; (try dsimp only at hSw); go_simp; done) | (refine Or.inl ⟨by rfl, ?_⟩; intro w hSw; (try dsimp only at hSw); go_simp; with_reducible rfl) | exact Or.inr ⟨by rfl, rfl⟩ | exact Or.inr ⟨by rfl, by rfl⟩); (try simp only [Act.put, List.setIfInBounds_toArray, List.set_cons_zero, List.set_cons_succ, List.getElem_toArray, List.getElem_cons_zero, List.getElem_cons_succ])) | (refine wpAnyV_take (i := 8) (v := ?_) rfl (by kernel_rfl) (by decide +kernel) (by decide +kernel) [] (by decide +kernel) (by decide +kernel) (by decide) (fun _ _ _ h => h) ?_ (by assumption) ?_; rotate_left; (first | (refine yields_load (by rfl) rfl rfl ?_; intro w hSw; (try dsimp only at hSw); go_split_ands; assumption) | (refine Or.inl ⟨by rfl, ?_⟩; intro w hSw; (try dsimp only at hSw); go_simp; done) | (refine Or.inl ⟨by rfl, ?_⟩; intro w hSw; (try dsimp only at hSw); go_simp; with_reducible rfl) | exact Or.inr ⟨by rfl, rfl⟩ | exact Or.inr ⟨by rfl, by rfl⟩); (try simp only [Act.put, List.setIfInBounds_toArray, List.set_cons_zero, List.set_cons_succ, List.getElem_toArray, List.getElem_cons_zero, List.getElem_cons_succ])) | (refine wpAnyV_take (i := 9) (v := ?_) rfl (by kernel_rfl) (by decide +kernel) (by decide +kernel) [] (by decide +kernel) (by decide +kernel) (by decide) (fun _ _ _ h => h) ?_ (by assumption) ?_; rotate_left; (first | (refine yields_load (by rfl) rfl rfl ?_; intro w hSw; (try dsimp only at hSw); go_split_ands; assumption) | (refine Or.inl ⟨by rfl, ?_⟩; intro w hSw; (try dsimp only at hSw); go_simp; done) | (refine Or.inl ⟨by rfl, ?_⟩; intro w hSw; (try dsimp only at hSw); go_simp; with_reducible rfl) | exact Or.inr ⟨by rfl, rfl⟩ | exact Or.inr ⟨by rfl, by rfl⟩); (try simp only [Act.put, List.setIfInBounds_toArray, List.set_cons_zero, List.set_cons_succ, List.getElem_toArray, List.getElem_cons_zero, List.getElem_cons_succ])) | (refine wpAnyV_take (i := 10) (v := ?_) rfl (by kernel_rfl) (by decide +kernel) (by decide +kernel) [] (by decide +kernel) (by decide +kernel) (by decide) (fun _ _ _ h => h) ?_ (by assumption) ?_; rotate_left; (first | (refine yields_load (by rfl) rfl rfl ?_; intro w hSw; (try dsimp only at hSw); go_split_ands; assumption) | (refine Or.inl ⟨by rfl, ?_⟩; intro w hSw; (try dsimp only at hSw); go_simp; done) | (refine Or.inl ⟨by rfl, ?_⟩; intro w hSw; (try dsimp only at hSw); go_simp; with_reducible rfl) | exact Or.inr ⟨by rfl, rfl⟩ | exact Or.inr ⟨by rfl, by rfl⟩); (try simp only [Act.put, List.setIfInBounds_toArray, List.set_cons_zero, List.set_cons_succ, List.getElem_toArray, List.getElem_cons_zero, List.getElem_cons_succ])))
  repeat (first | (refine wpAnyV_take (i := 11) (v := ?_) rfl (by kernel_rfl) (by decide +kernel) (by decide +kernel) [12] (by decide +kernel) (by decide +kernel) (by decide) (fun _ _ _ h => h) ?_ (by assumption) ?_; rotate_left; (first | (refine yields_load (by rfl) rfl rfl ?_; intro w hSw; (try dsimp only at hSw); go_split_ands; assumption) | (refine Or.inl ⟨by rfl, ?_⟩; intro w hSw; (try dsimp only at hSw); go_simp; done) | (refine Or.inl ⟨by rfl, ?_⟩; intro w hSw; (try dsimp only at hSw); go_simp; with_reducible rfl) | exact Or.inr ⟨by rfl, rfl⟩ | exact Or.inr ⟨by rfl, by rfl⟩); (try simp only [Act.put, List.setIfInBounds_toArray, List.set_cons_zero, List.set_cons_succ, List.getElem_toArray, List.getElem_cons_zero, List.getElem_cons_succ])))
  repeat (first | (refine wpAnyV_take (i := 12) (v := ?_) rfl (by kernel_rfl) (by decide +kernel) (by decide +kernel) [] (by decide +kernel) (by decide +kernel) (by decide) (fun _ _ _ h => h) ?_ (by assumption) ?_; rotate_left; (first | (refine yields_load (by rfl) rfl rfl ?_; intro w hSw; (try dsimp only at hSw); go_split_ands; assumption) | (refine Or.inl ⟨by rfl, ?_⟩; intro w hSw; (try dsimp only at hSw); go_simp; done) | (refine Or.inl ⟨by rfl, ?_⟩; intro w hSw; (try dsimp only at hSw); go_simp; with_reducible rfl) | exact Or.inr ⟨by rfl, rfl⟩ | exact Or.inr ⟨by rfl, by rfl⟩); (try simp only [Act.put, List.setIfInBounds_toArray, List.set_cons_zero, List.set_cons_succ, List.getElem_toArray, List.getElem_cons_zero, List.getElem_cons_succ])))
  obtain ⟨-, -, f3⟩ := wk_free MD.out (W := W) (vl := .slice (some ad) n c) (vw := .slice Aw k cw) (m := m + 1) (q := q) (by simp)
  refine wpAnyV_ready (rs := [13]) (by decide +kernel) (by simp) ?_; refine AllReadyV.last rfl (fun K hK => ?_); go_simp
  have M7 : Hid (Own W0 (w6.setCell ⟨W, 3, none⟩ (.int .i64 ((q : Int) + (np : Int)))).drew (.blk gb 84 (fgA (some ⟨gq, 0, none⟩) none) :: .blk gq 52 (gA g (.slice Ae g.ends.length ce) (.slice Ap g.prog.length cp) (.slice As np cs)) :: .row 34 1 (.slice Ae g.ends.length ce) g.ends.length (ints .u16 g.ends) :: .row 5 1 (.slice Ap g.prog.length cp) g.prog.length (ints .u8 g.prog) :: .row 55 3 (.slice As np cs) np (spC g.pts) :: .blk b 61 (boxW W) :: .blk W 64 (wkA (.slice (some ad) n c) (.slice Aw k cw) (m + 1) (q + np)) :: .row 3 1 (.slice Aw k cw) k (ints .i64 way) :: L)) := hid (MD.out.set (L1 := [_, _, _, _, _, _]) 3 (.int .i64 ((q : Int) + (np : Int))))
  refine hK.out _ _ (fun hHeld => ?_); clear hK K; (try simp only [Act.put, List.setIfInBounds_toArray, List.set_cons_zero, List.set_cons_succ, List.getElem_toArray, List.getElem_cons_zero, List.getElem_cons_succ])
  refine wpAnyH_done (by kernel_rfl) ?_ _
  revert M7
  generalize (w6.setCell ⟨W, 3, none⟩ (.int .i64 ((q : Int) + (np : Int)))).drew = w7
  intro M7
  clear cells f3 MD M6 M3 hP
  refine NoPanic.normal ?_
  have b0 := bx_cell M7.out (b := b) (W := W) (by simp)
  obtain ⟨-, -, -, k3⟩ := wk_cells M7.out (W := W) (vl := .slice (some ad) n c) (vw := .slice Aw k cw) (m := m + 1) (q := q + np) (by simp)
  rw [show ((q + np : Nat) : Int) = (q : Int) + (np : Int) from rfl] at k3
  have g0 := M7.out.cell (g := gb) (t := 84) (cs := fgA (some ⟨gq, 0, none⟩) none) (.head _) 0
  by_cases hov : 20000 < q + np
  · have hgt : (q : Int) + (np : Int) > 20000 := by omega
    have ho := hid (show (if 20000 < q + g.pts.length then (⟨9, [], m + 1, q + g.pts.length⟩ : WR) else ⟨0, cntK g g.ends.length, m + 1, q + g.pts.length⟩) = ⟨9, [], m + 1, q + np⟩ by rw [hnpH.out, if_pos hov])
    clear hov
    go_wp2_with (refine door2 (t := 4) (u := 5) rfl rfl rfl (by rw [hnH.out, ho.out]; exact atP_err (hkH.out ▸ M7.out.tail.tail.tail.tail.tail.tail)))
  · have hgt : ¬ (q : Int) + (np : Int) > 20000 := by omega
    have ho := hid (show (if 20000 < q + g.pts.length then (⟨9, [], m + 1, q + g.pts.length⟩ : WR) else ⟨0, cntK g g.ends.length, m + 1, q + g.pts.length⟩) = ⟨0, cntK g g.ends.length, m + 1, q + np⟩ by rw [hnpH.out, if_neg hov])
    have hCt2 := hid (hCt.out w7 (.slice Ae g.ends.length ce) (.slice Ap g.prog.length cp) (.slice As np cs) ⟨M7.out.slice (e := 34) (by simp), M7.out.slice (e := 5) (by simp), by rw [hnpH.out]; exact M7.out.slice (e := 55) (by simp)⟩)
    clear hov hCt
    go_wp2_with (first
      | ((with_reducible refine gate (N := 86) rfl ?_); refine wpList_run rfl (exec_load_agg agg_glyph rfl rfl M7.out (g := gq) (t := 52) (cs := gA g (.slice Ae g.ends.length ce) (.slice Ap g.prog.length cp) (.slice As np cs)) (vs := (gA g (.slice Ae g.ends.length ce) (.slice Ap g.prog.length cp) (.slice As np cs)).toList) (by simp) rfl rfl) ?_)
      | (go_at_call 37; (with_reducible refine hCt2.out.mono ?_); rintro _ w8 ⟨rt, rfl, cl, hcl, M⟩; (have M8 := hid (Own.share_all cl (L1 := [_]) (Own.share (L1 := []) (M7.out.lift M (cRows_mineX cl))))); clear M)
      | (refine door2 (t := 4) (u := 5) rfl rfl rfl (by rw [hnH.out, ho.out]; exact ⟨rt, cl, .slice Aw k cw, rfl, hcl, by rw [hkH.out]; exact M8.out.sub sub_pts⟩)))
end
end Go.Proofs.YtiedbfaehndooaaDoor
