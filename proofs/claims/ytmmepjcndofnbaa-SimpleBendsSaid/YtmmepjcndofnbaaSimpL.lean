/- Layer 12: which outlines may be (SimpleRights). -/
import Derived.Test.YtmmepjcndofnbaaSimpK
import Derived.Test.YtmmepjcndofnbaaUntil
namespace Go.Proofs.Ytmmepjcndofnbaa
open Go Go.RowKit
set_option linter.unusedVariables false
set_option linter.unusedSimpArgs false
set_option maxRecDepth 100000

theorem SliceAt.preN {w : World} {B sz : Nat} {A : Option Addr} {c n k : Nat} {xs : List Value} (h : SliceAt w B sz (.slice A n c) n xs) (hk : k ≤ n) : SliceAt w B sz (.slice A k c) k (xs.take (k * sz)) := by
  obtain ⟨A', c', he, hnc, hcm, hA, hr⟩ := h
  injection he with he1 he2 he3
  subst he1; subst he3
  have hx := hr.1
  have hks : k * sz ≤ n * sz := Nat.mul_le_mul_right _ hk
  have hl : (xs.take (k * sz)).length = k * sz := by rw [List.length_take]; omega
  refine ⟨A, c, rfl, by omega, hcm, hA, hl, fun hn => ?_⟩
  obtain ⟨ad, rfl, hb, hc⟩ := hr.2 (by omega)
  refine ⟨ad, rfl, hb, fun j u hu => hc j u ?_⟩
  rw [List.getElem?_take] at hu
  split at hu
  · exact hu
  · cases hu
theorem ints_take (k : IntKind) (l : List Int) (n : Nat) : (ints k l).take (n * 1) = ints k (l.take n) := by simp [ints, List.map_take]

/-- What goes on behind the cut: an outline of few ends and points, in its block. -/
def RightsP (w : World) (m : Nat) (wx : World) : Prop := ∃ (g : Sg) (ve vp vs : Value), g.Ok ∧ g.ends.length ≤ 30 ∧ g.pts.length ≤ 60 ∧
  Own w wx [.row 5 1 vp g.prog.length (ints .u8 g.prog), .row 38 1 ve g.ends.length (ints .u16 g.ends), .row 37 3 vs g.pts.length (spC g.pts), .blk m 29 (gA g ve vp vs)]
theorem sgB_pos (g : Sg) : 0 < (sgB g).length := by simp only [sgB, hdB, List.length_append, b2, List.length_cons]; omega
set_option maxHeartbeats 4000000 in
theorem simpleRights_calls (w : World) {g : Sg} {ve vp vs : Value} (hO : g.Ok) (hG : GAt w g ve vp vs) :
    Calls Try.prog 4 #[.agg (gA g ve vp vs)] w (Ret fun r w' => r = .bool true ∧ Below w.heap.size w w') := by
  have M0 := hid (Own.start w)
  have hCut := hid (fun w1 (h : Below w.heap.size w w1) => cut_calls w1 30 (by omega) (hG.p.below h) (by omega))
  have hGH := hid hG
  obtain ⟨he, hp, hs⟩ := hG
  have heH := hid he
  have hsH := hid hs
  obtain ⟨Ae, ce, rfl, hce, hme, -, -⟩ := he
  obtain ⟨Ap, cp, rfl, hcp, hmp, -, -⟩ := hp
  obtain ⟨As, cs, rfl, hcs, hms, -, -⟩ := hs
  unfold maxLen at hme hmp hms
  obtain ⟨k1, hk1, b1⟩ : ∃ k, min g.ends.length 30 = k ∧ k ≤ 30 := ⟨_, rfl, by omega⟩
  obtain ⟨k2, hk2, b2⟩ : ∃ k, min g.pts.length 60 = k ∧ k ≤ 60 := ⟨_, rfl, by omega⟩
  have n1 : k1 ≤ g.ends.length := by omega
  have n2 : k2 ≤ g.pts.length := by omega
  have hpre1 := hid (fun w1 (h : Below w.heap.size w w1) => show SliceAt w1 w1.heap.size 1 (.slice Ae k1 ce) k1 (ints .u16 (g.ends.take k1)) by
    have := SliceAt.preN (heH.out.below h) n1
    rwa [ints_take] at this)
  have hpre2 := hid (fun w1 (h : Below w.heap.size w w1) => show SliceAt w1 w1.heap.size 3 (.slice As k2 cs) k2 (spC (g.pts.take k2)) by
    have := SliceAt.preN (hsH.out.below h) n2
    rwa [← spC_take] at this)
  have hm1 : (if (30 : Int) < (g.ends.length : Int) then (30 : Int) else (g.ends.length : Int)) = (k1 : Int) := by split <;> omega
  have hm2 : (if (60 : Int) < (g.pts.length : Int) then (60 : Int) else (g.pts.length : Int)) = (k2 : Int) := by split <;> omega
  have hmm1 : min (g.ends.length : Int) 30 = (k1 : Int) := by omega
  have hmm2 : min (g.pts.length : Int) 60 = (k2 : Int) := by omega
  obtain ⟨np, hnp⟩ : ∃ n, (g.prog.take 30).length = n := ⟨_, rfl⟩
  have hnpH := hid hnp
  clear hnp
  have hl1 := hid (show (g.ends.take k1).length = k1 by rw [List.length_take]; omega)
  have hl2 := hid (show (g.pts.take k2).length = k2 by rw [List.length_take]; omega)
  have hO2 := hid (show (⟨g.b0, g.b1, g.b2, g.b3, g.ends.take k1, g.prog.take 30, g.pts.take k2⟩ : Sg).Ok from ⟨hO.x0, hO.x1, hO.x2, hO.x3, fun x hx => hO.en x (List.mem_of_mem_take hx), hO.pr.take 30, fun p hp => hO.pt p (List.mem_of_mem_take hp)⟩)
  have i1 : (k1 : Int) ≤ ce := by omega
  have i2 : (k2 : Int) ≤ cs := by omega
  have j1 : k1 ≤ ce := by omega
  have j2 : k2 ≤ cs := by omega
  go_enter Try.func4, Try.ntmps4
  go_upto_region 3 with (first
    | ((with_reducible refine gate (N := 1) rfl ?_); refine wpList_box_Own rfl (cs := gA g (.slice Ae g.ends.length ce) (.slice Ap g.prog.length cp) (.slice As g.pts.length cs)) (t := 29) (by first | (go_simp; done) | (go_simp; rfl)) M0.out ?_; intro m w1 M; (have M1 := hid M); clear M)
    | (go_at_call 9; refine (awake_calls _).mono ?_; rintro _ w2 ⟨_, rfl, rfl, hb⟩; (have M2 := hid (M1.out.keep hb)); clear hb))
  try simp only [Act.put, List.setIfInBounds_toArray, List.set_cons_zero, List.set_cons_succ]
  go_cut [1] (fun s1 wx => s1 = .pointer (some ⟨m, 0, none⟩) ∧ Hid (RightsP w m wx))
  case rest =>
    obtain ⟨rfl, hX⟩ := hcut
    obtain ⟨g2, ve, vp, vs, hO2', l1, l2, MX'⟩ := hX.out
    clear hX hO2 hl1 hl2 hnpH hCut hpre1 hpre2 hm1 hm2 hmm1 hmm2 i1 i2 j1 j2 hGH heH hsH
    obtain ⟨A2, c2, rfl⟩ := MX'.form (.head _)
    obtain ⟨A1, c1, rfl⟩ := MX'.form (.tail _ (.head _))
    obtain ⟨A3, c3, rfl⟩ := MX'.form (.tail _ (.tail _ (.head _)))
    have hOk := hid hO2'
    have MX := hid MX'
    have hG2 := hid (show GAt _ g2 (.slice A1 g2.ends.length c1) (.slice A2 g2.prog.length c2) (.slice A3 g2.pts.length c3) from ⟨MX'.slice (.tail _ (.head _)), MX'.slice (.head _), MX'.slice (.tail _ (.tail _ (.head _)))⟩)
    have hOw := hid (own_calls _ hOk.out hG2.out (by omega) (by omega))
    clear MX' hO2'
    have hRt := hid (fun w' (h : Below wc.heap.size wc w') => right_calls w' hOk.out (hG2.out.below h))
    cases hR : sgR g2
    · rw [hR] at hRt
      go_wp2_with (first
        | ((with_reducible refine gate (N := 30) rfl ?_); refine wpList_run rfl (exec_load_agg agg_glyph rfl rfl MX.out (g := m) (t := 29) (cs := gA g2 (.slice A1 g2.ends.length c1) (.slice A2 g2.prog.length c2) (.slice A3 g2.pts.length c3)) (vs := (gA g2 (.slice A1 g2.ends.length c1) (.slice A2 g2.prog.length c2) (.slice A3 g2.pts.length c3)).toList) (by simp) rfl rfl) ?_)
        | (go_at_call 15; (with_reducible refine (hOw.out).mono ?_); rintro _ w11 ⟨_, rfl, hOwn⟩; obtain ⟨va, vb, rfl, MO⟩ := hOwn; ((have hRt2 := hid (refRight_calls w11 hOk.out ⟨MO.slice (.head _), (hG2.out.below MO.below).p, MO.slice (.tail _ (.head _))⟩))); (rw [hR] at hRt2); ((have hb11 := hid MO.below)); ((have M11 := hid (MX.out.keep MO.below))); (clear MO))
        | (go_at_call 14; (with_reducible refine (hRt2.out).mono ?_); rintro _ w12 ⟨_, rfl, rfl, hb⟩; ((have hb12 := hid (((Own.start wc).keep hb11.out).keep hb).below)); (have M12 := hid (M11.out.keep hb)); clear hb)
        | ((with_reducible refine gate (N := 33) rfl ?_); refine wpList_run rfl (exec_load_agg agg_glyph rfl rfl M12.out (g := m) (t := 29) (cs := gA g2 (.slice A1 g2.ends.length c1) (.slice A2 g2.prog.length c2) (.slice A3 g2.pts.length c3)) (vs := (gA g2 (.slice A1 g2.ends.length c1) (.slice A2 g2.prog.length c2) (.slice A3 g2.pts.length c3)).toList) (by simp) rfl rfl) ?_)
        | (go_at_call 12; (with_reducible refine (hRt.out _ hb12.out).mono ?_); rintro _ w13 ⟨_, rfl, rfl, hb⟩; ((have hb13 := hid (((Own.start wc).keep hb12.out).keep hb).below)); (have M13 := hid (M12.out.keep hb)); clear hb)
        | ((with_reducible refine gate (N := 38) rfl ?_); refine wpList_run rfl (exec_load_agg agg_glyph rfl rfl M13.out (g := m) (t := 29) (cs := gA g2 (.slice A1 g2.ends.length c1) (.slice A2 g2.prog.length c2) (.slice A3 g2.pts.length c3)) (vs := (gA g2 (.slice A1 g2.ends.length c1) (.slice A2 g2.prog.length c2) (.slice A3 g2.pts.length c3)).toList) (by simp) rfl rfl) ?_)
        | (go_at_call 16; (with_reducible refine (bytes_no _ hOk.out (hG2.out.below hb13.out) hR).mono ?_); rintro _ w14 ⟨_, rfl, M⟩; obtain ⟨A9, c9, rfl⟩ := M.form (.head _); ((have hb14 := hid (((Own.start wc).keep hb13.out).keep M.below).below)); ((have M14 := hid (M13.out.keep M.below))); (clear M))
        | ((with_reducible refine gate (N := 46) rfl ?_); refine wpList_run rfl (exec_load_agg agg_glyph rfl rfl M14.out (g := m) (t := 29) (cs := gA g2 (.slice A1 g2.ends.length c1) (.slice A2 g2.prog.length c2) (.slice A3 g2.pts.length c3)) (vs := (gA g2 (.slice A1 g2.ends.length c1) (.slice A2 g2.prog.length c2) (.slice A3 g2.pts.length c3)).toList) (by simp) rfl rfl) ?_)
        | ((with_reducible refine gate (N := 47) rfl ?_); refine wpList_run rfl (exec_load_agg agg_glyph rfl rfl M14.out (g := m) (t := 29) (cs := gA g2 (.slice A1 g2.ends.length c1) (.slice A2 g2.prog.length c2) (.slice A3 g2.pts.length c3)) (vs := (gA g2 (.slice A1 g2.ends.length c1) (.slice A2 g2.prog.length c2) (.slice A3 g2.pts.length c3)).toList) (by simp) rfl rfl) ?_)
        | (go_at_call 17; (with_reducible refine (same_calls12 _ (hG2.out.below hb14.out) (hG2.out.below hb14.out)).mono ?_); rintro _ w15 ⟨_, rfl, rfl, hb⟩; (have M15 := hid (M14.out.keep hb)); clear hb))
      go_ret
      exact .mk ⟨rfl, M15.out.below⟩
    · rw [hR] at hRt
      have hps := sgB_pos g2
      have hps2 : ((sgB g2).length : Int) > 0 := by omega
      go_wp2_with (first
        | ((with_reducible refine gate (N := 30) rfl ?_); refine wpList_run rfl (exec_load_agg agg_glyph rfl rfl MX.out (g := m) (t := 29) (cs := gA g2 (.slice A1 g2.ends.length c1) (.slice A2 g2.prog.length c2) (.slice A3 g2.pts.length c3)) (vs := (gA g2 (.slice A1 g2.ends.length c1) (.slice A2 g2.prog.length c2) (.slice A3 g2.pts.length c3)).toList) (by simp) rfl rfl) ?_)
        | (go_at_call 15; (with_reducible refine (hOw.out).mono ?_); rintro _ w11 ⟨_, rfl, hOwn⟩; obtain ⟨va, vb, rfl, MO⟩ := hOwn; ((have hRt2 := hid (refRight_calls w11 hOk.out ⟨MO.slice (.head _), (hG2.out.below MO.below).p, MO.slice (.tail _ (.head _))⟩))); (rw [hR] at hRt2); ((have hb11 := hid MO.below)); ((have M11 := hid (MX.out.keep MO.below))); (clear MO))
        | (go_at_call 14; (with_reducible refine (hRt2.out).mono ?_); rintro _ w12 ⟨_, rfl, rfl, hb⟩; ((have hb12 := hid (((Own.start wc).keep hb11.out).keep hb).below)); (have M12 := hid (M11.out.keep hb)); clear hb)
        | ((with_reducible refine gate (N := 33) rfl ?_); refine wpList_run rfl (exec_load_agg agg_glyph rfl rfl M12.out (g := m) (t := 29) (cs := gA g2 (.slice A1 g2.ends.length c1) (.slice A2 g2.prog.length c2) (.slice A3 g2.pts.length c3)) (vs := (gA g2 (.slice A1 g2.ends.length c1) (.slice A2 g2.prog.length c2) (.slice A3 g2.pts.length c3)).toList) (by simp) rfl rfl) ?_)
        | (go_at_call 12; (with_reducible refine (hRt.out _ hb12.out).mono ?_); rintro _ w13 ⟨_, rfl, rfl, hb⟩; ((have hb13 := hid (((Own.start wc).keep hb12.out).keep hb).below)); (have M13 := hid (M12.out.keep hb)); clear hb)
        | ((with_reducible refine gate (N := 38) rfl ?_); refine wpList_run rfl (exec_load_agg agg_glyph rfl rfl M13.out (g := m) (t := 29) (cs := gA g2 (.slice A1 g2.ends.length c1) (.slice A2 g2.prog.length c2) (.slice A3 g2.pts.length c3)) (vs := (gA g2 (.slice A1 g2.ends.length c1) (.slice A2 g2.prog.length c2) (.slice A3 g2.pts.length c3)).toList) (by simp) rfl rfl) ?_)
        | (go_at_call 16; (with_reducible refine (bytes_yes _ hOk.out (hG2.out.below hb13.out) hR).mono ?_); rintro _ w14 ⟨_, rfl, M⟩; obtain ⟨A9, c9, rfl⟩ := M.form (.head _); ((have hb14 := hid (((Own.start wc).keep hb13.out).keep M.below).below)); ((have M14 := hid (M13.out.keep M.below))); (clear M))
        | ((with_reducible refine gate (N := 46) rfl ?_); refine wpList_run rfl (exec_load_agg agg_glyph rfl rfl M14.out (g := m) (t := 29) (cs := gA g2 (.slice A1 g2.ends.length c1) (.slice A2 g2.prog.length c2) (.slice A3 g2.pts.length c3)) (vs := (gA g2 (.slice A1 g2.ends.length c1) (.slice A2 g2.prog.length c2) (.slice A3 g2.pts.length c3)).toList) (by simp) rfl rfl) ?_)
        | ((with_reducible refine gate (N := 47) rfl ?_); refine wpList_run rfl (exec_load_agg agg_glyph rfl rfl M14.out (g := m) (t := 29) (cs := gA g2 (.slice A1 g2.ends.length c1) (.slice A2 g2.prog.length c2) (.slice A3 g2.pts.length c3)) (vs := (gA g2 (.slice A1 g2.ends.length c1) (.slice A2 g2.prog.length c2) (.slice A3 g2.pts.length c3)).toList) (by simp) rfl rfl) ?_)
        | (go_at_call 17; (with_reducible refine (same_calls12 _ (hG2.out.below hb14.out) (hG2.out.below hb14.out)).mono ?_); rintro _ w15 ⟨_, rfl, rfl, hb⟩; (have M15 := hid (M14.out.keep hb)); clear hb))
      go_ret
      exact .mk ⟨rfl, M15.out.below⟩
  case first =>
    obtain ⟨c4, c5, c6⟩ := g_cells (m := m) (g := g) (ve := .slice Ae g.ends.length ce) (vp := .slice Ap g.prog.length cp) (vs := .slice As g.pts.length cs) M2.out.drew (by simp)
    refine wp_region_until (S := fun w' => w'.cell? ⟨m, 4, none⟩ = some (.slice Ae g.ends.length ce) ∧ w'.cell? ⟨m, 5, none⟩ = some (.slice Ap g.prog.length cp) ∧ w'.cell? ⟨m, 6, none⟩ = some (.slice As g.pts.length cs)) 22 (by kernel_rfl) ⟨c4, c5, c6⟩ (fun hHeld => ?_)
    clear c4 c5 c6
    repeat (first | (refine wpAnyV_take (i := 1) (v := ?_) rfl (by kernel_rfl) (by decide +kernel) (by decide +kernel) [] (by decide +kernel) (by decide +kernel) (by decide) (fun _ _ _ h => h) ?_ (by assumption) ?_; rotate_left; (first | (refine yields_load (by rfl) rfl rfl ?_; intro w hSw; (try dsimp only at hSw); go_split_ands; assumption) | (refine Or.inl ⟨by rfl, ?_⟩; intro w hSw; (try dsimp only at hSw); go_simp; done) | (refine Or.inl ⟨by rfl, ?_⟩; intro w hSw; (try dsimp only at hSw); go_simp; with_reducible rfl) | exact Or.inr ⟨by rfl, rfl⟩); (try simp only [Act.put, List.setIfInBounds_toArray, List.set_cons_zero, List.set_cons_succ, List.getElem_toArray, List.getElem_cons_zero, List.getElem_cons_succ])) | (refine wpAnyV_take (i := 2) (v := ?_) rfl (by kernel_rfl) (by decide +kernel) (by decide +kernel) [] (by decide +kernel) (by decide +kernel) (by decide) (fun _ _ _ h => h) ?_ (by assumption) ?_; rotate_left; (first | (refine yields_load (by rfl) rfl rfl ?_; intro w hSw; (try dsimp only at hSw); go_split_ands; assumption) | (refine Or.inl ⟨by rfl, ?_⟩; intro w hSw; (try dsimp only at hSw); go_simp; done) | (refine Or.inl ⟨by rfl, ?_⟩; intro w hSw; (try dsimp only at hSw); go_simp; with_reducible rfl) | exact Or.inr ⟨by rfl, rfl⟩); (try simp only [Act.put, List.setIfInBounds_toArray, List.set_cons_zero, List.set_cons_succ, List.getElem_toArray, List.getElem_cons_zero, List.getElem_cons_succ])) | (refine wpAnyV_take (i := 3) (v := ?_) rfl (by kernel_rfl) (by decide +kernel) (by decide +kernel) [] (by decide +kernel) (by decide +kernel) (by decide) (fun _ _ _ h => h) ?_ (by assumption) ?_; rotate_left; (first | (refine yields_load (by rfl) rfl rfl ?_; intro w hSw; (try dsimp only at hSw); go_split_ands; assumption) | (refine Or.inl ⟨by rfl, ?_⟩; intro w hSw; (try dsimp only at hSw); go_simp; done) | (refine Or.inl ⟨by rfl, ?_⟩; intro w hSw; (try dsimp only at hSw); go_simp; with_reducible rfl) | exact Or.inr ⟨by rfl, rfl⟩); (try simp only [Act.put, List.setIfInBounds_toArray, List.set_cons_zero, List.set_cons_succ, List.getElem_toArray, List.getElem_cons_zero, List.getElem_cons_succ])) | (refine wpAnyV_take (i := 4) (v := ?_) rfl (by kernel_rfl) (by decide +kernel) (by decide +kernel) [] (by decide +kernel) (by decide +kernel) (by decide) (fun _ _ _ h => h) ?_ (by assumption) ?_; rotate_left; (first | (refine yields_load (by rfl) rfl rfl ?_; intro w hSw; (try dsimp only at hSw); go_split_ands; assumption) | (refine Or.inl ⟨by rfl, ?_⟩; intro w hSw; (try dsimp only at hSw); go_simp; done) | (refine Or.inl ⟨by rfl, ?_⟩; intro w hSw; (try dsimp only at hSw); go_simp; with_reducible rfl) | exact Or.inr ⟨by rfl, rfl⟩); (try simp only [Act.put, List.setIfInBounds_toArray, List.set_cons_zero, List.set_cons_succ, List.getElem_toArray, List.getElem_cons_zero, List.getElem_cons_succ])) | (refine wpAnyV_take (i := 5) (v := ?_) rfl (by kernel_rfl) (by decide +kernel) (by decide +kernel) [] (by decide +kernel) (by decide +kernel) (by decide) (fun _ _ _ h => h) ?_ (by assumption) ?_; rotate_left; (first | (refine yields_load (by rfl) rfl rfl ?_; intro w hSw; (try dsimp only at hSw); go_split_ands; assumption) | (refine Or.inl ⟨by rfl, ?_⟩; intro w hSw; (try dsimp only at hSw); go_simp; done) | (refine Or.inl ⟨by rfl, ?_⟩; intro w hSw; (try dsimp only at hSw); go_simp; with_reducible rfl) | exact Or.inr ⟨by rfl, rfl⟩); (try simp only [Act.put, List.setIfInBounds_toArray, List.set_cons_zero, List.set_cons_succ, List.getElem_toArray, List.getElem_cons_zero, List.getElem_cons_succ])) | (refine wpAnyV_take (i := 6) (v := ?_) rfl (by kernel_rfl) (by decide +kernel) (by decide +kernel) [] (by decide +kernel) (by decide +kernel) (by decide) (fun _ _ _ h => h) ?_ (by assumption) ?_; rotate_left; (first | (refine yields_load (by rfl) rfl rfl ?_; intro w hSw; (try dsimp only at hSw); go_split_ands; assumption) | (refine Or.inl ⟨by rfl, ?_⟩; intro w hSw; (try dsimp only at hSw); go_simp; done) | (refine Or.inl ⟨by rfl, ?_⟩; intro w hSw; (try dsimp only at hSw); go_simp; with_reducible rfl) | exact Or.inr ⟨by rfl, rfl⟩); (try simp only [Act.put, List.setIfInBounds_toArray, List.set_cons_zero, List.set_cons_succ, List.getElem_toArray, List.getElem_cons_zero, List.getElem_cons_succ])) | (refine wpAnyV_take (i := 7) (v := ?_) rfl (by kernel_rfl) (by decide +kernel) (by decide +kernel) [] (by decide +kernel) (by decide +kernel) (by decide) (fun _ _ _ h => h) ?_ (by assumption) ?_; rotate_left; (first | (refine yields_load (by rfl) rfl rfl ?_; intro w hSw; (try dsimp only at hSw); go_split_ands; assumption) | (refine Or.inl ⟨by rfl, ?_⟩; intro w hSw; (try dsimp only at hSw); go_simp; done) | (refine Or.inl ⟨by rfl, ?_⟩; intro w hSw; (try dsimp only at hSw); go_simp; with_reducible rfl) | exact Or.inr ⟨by rfl, rfl⟩); (try simp only [Act.put, List.setIfInBounds_toArray, List.set_cons_zero, List.set_cons_succ, List.getElem_toArray, List.getElem_cons_zero, List.getElem_cons_succ])) | (refine wpAnyV_take (i := 10) (v := ?_) rfl (by kernel_rfl) (by decide +kernel) (by decide +kernel) [] (by decide +kernel) (by decide +kernel) (by decide) (fun _ _ _ h => h) ?_ (by assumption) ?_; rotate_left; (first | (refine yields_load (by rfl) rfl rfl ?_; intro w hSw; (try dsimp only at hSw); go_split_ands; assumption) | (refine Or.inl ⟨by rfl, ?_⟩; intro w hSw; (try dsimp only at hSw); go_simp; done) | (refine Or.inl ⟨by rfl, ?_⟩; intro w hSw; (try dsimp only at hSw); go_simp; with_reducible rfl) | exact Or.inr ⟨by rfl, rfl⟩); (try simp only [Act.put, List.setIfInBounds_toArray, List.set_cons_zero, List.set_cons_succ, List.getElem_toArray, List.getElem_cons_zero, List.getElem_cons_succ])) | (refine wpAnyV_take (i := 11) (v := ?_) rfl (by kernel_rfl) (by decide +kernel) (by decide +kernel) [] (by decide +kernel) (by decide +kernel) (by decide) (fun _ _ _ h => h) ?_ (by assumption) ?_; rotate_left; (first | (refine yields_load (by rfl) rfl rfl ?_; intro w hSw; (try dsimp only at hSw); go_split_ands; assumption) | (refine Or.inl ⟨by rfl, ?_⟩; intro w hSw; (try dsimp only at hSw); go_simp; done) | (refine Or.inl ⟨by rfl, ?_⟩; intro w hSw; (try dsimp only at hSw); go_simp; with_reducible rfl) | exact Or.inr ⟨by rfl, rfl⟩); (try simp only [Act.put, List.setIfInBounds_toArray, List.set_cons_zero, List.set_cons_succ, List.getElem_toArray, List.getElem_cons_zero, List.getElem_cons_succ])) | (refine wpAnyV_take (i := 12) (v := ?_) rfl (by kernel_rfl) (by decide +kernel) (by decide +kernel) [] (by decide +kernel) (by decide +kernel) (by decide) (fun _ _ _ h => h) ?_ (by assumption) ?_; rotate_left; (first | (refine yields_load (by rfl) rfl rfl ?_; intro w hSw; (try dsimp only at hSw); go_split_ands; assumption) | (refine Or.inl ⟨by rfl, ?_⟩; intro w hSw; (try dsimp only at hSw); go_simp; done) | (refine Or.inl ⟨by rfl, ?_⟩; intro w hSw; (try dsimp only at hSw); go_simp; with_reducible rfl) | exact Or.inr ⟨by rfl, rfl⟩); (try simp only [Act.put, List.setIfInBounds_toArray, List.set_cons_zero, List.set_cons_succ, List.getElem_toArray, List.getElem_cons_zero, List.getElem_cons_succ])) | (refine wpAnyV_take (i := 13) (v := ?_) rfl (by kernel_rfl) (by decide +kernel) (by decide +kernel) [] (by decide +kernel) (by decide +kernel) (by decide) (fun _ _ _ h => h) ?_ (by assumption) ?_; rotate_left; (first | (refine yields_load (by rfl) rfl rfl ?_; intro w hSw; (try dsimp only at hSw); go_split_ands; assumption) | (refine Or.inl ⟨by rfl, ?_⟩; intro w hSw; (try dsimp only at hSw); go_simp; done) | (refine Or.inl ⟨by rfl, ?_⟩; intro w hSw; (try dsimp only at hSw); go_simp; with_reducible rfl) | exact Or.inr ⟨by rfl, rfl⟩); (try simp only [Act.put, List.setIfInBounds_toArray, List.set_cons_zero, List.set_cons_succ, List.getElem_toArray, List.getElem_cons_zero, List.getElem_cons_succ])) | (refine wpAnyV_take (i := 18) (v := ?_) rfl (by kernel_rfl) (by decide +kernel) (by decide +kernel) [] (by decide +kernel) (by decide +kernel) (by decide) (fun _ _ _ h => h) ?_ (by assumption) ?_; rotate_left; (first | (refine yields_load (by rfl) rfl rfl ?_; intro w hSw; (try dsimp only at hSw); go_split_ands; assumption) | (refine Or.inl ⟨by rfl, ?_⟩; intro w hSw; (try dsimp only at hSw); go_simp; done) | (refine Or.inl ⟨by rfl, ?_⟩; intro w hSw; (try dsimp only at hSw); go_simp; with_reducible rfl) | exact Or.inr ⟨by rfl, rfl⟩); (try simp only [Act.put, List.setIfInBounds_toArray, List.set_cons_zero, List.set_cons_succ, List.getElem_toArray, List.getElem_cons_zero, List.getElem_cons_succ])) | (refine wpAnyV_take (i := 19) (v := ?_) rfl (by kernel_rfl) (by decide +kernel) (by decide +kernel) [] (by decide +kernel) (by decide +kernel) (by decide) (fun _ _ _ h => h) ?_ (by assumption) ?_; rotate_left; (first | (refine yields_load (by rfl) rfl rfl ?_; intro w hSw; (try dsimp only at hSw); go_split_ands; assumption) | (refine Or.inl ⟨by rfl, ?_⟩; intro w hSw; (try dsimp only at hSw); go_simp; done) | (refine Or.inl ⟨by rfl, ?_⟩; intro w hSw; (try dsimp only at hSw); go_simp; with_reducible rfl) | exact Or.inr ⟨by rfl, rfl⟩); (try simp only [Act.put, List.setIfInBounds_toArray, List.set_cons_zero, List.set_cons_succ, List.getElem_toArray, List.getElem_cons_zero, List.getElem_cons_succ])))
    repeat (first | (refine wpAnyV_take (i := 14) (v := ?_) rfl (by kernel_rfl) (by decide +kernel) (by decide +kernel) [20, 17, 16, 15] (by decide +kernel) (by decide +kernel) (by decide) (fun _ _ _ h => h) ?_ (by assumption) ?_; rotate_left; (first | (refine yields_load (by rfl) rfl rfl ?_; intro w hSw; (try dsimp only at hSw); go_split_ands; assumption) | (refine Or.inl ⟨by rfl, ?_⟩; intro w hSw; (try dsimp only at hSw); go_simp; done) | (refine Or.inl ⟨by rfl, ?_⟩; intro w hSw; (try dsimp only at hSw); go_simp; with_reducible rfl) | exact Or.inr ⟨by rfl, rfl⟩); (try simp only [Act.put, List.setIfInBounds_toArray, List.set_cons_zero, List.set_cons_succ, List.getElem_toArray, List.getElem_cons_zero, List.getElem_cons_succ])))
    repeat (first | (refine wpAnyV_take (i := 15) (v := ?_) rfl (by kernel_rfl) (by decide +kernel) (by decide +kernel) [20, 17, 16] (by decide +kernel) (by decide +kernel) (by decide) (fun _ _ _ h => h) ?_ (by assumption) ?_; rotate_left; (first | (refine yields_load (by rfl) rfl rfl ?_; intro w hSw; (try dsimp only at hSw); go_split_ands; assumption) | (refine Or.inl ⟨by rfl, ?_⟩; intro w hSw; (try dsimp only at hSw); go_simp; done) | (refine Or.inl ⟨by rfl, ?_⟩; intro w hSw; (try dsimp only at hSw); go_simp; with_reducible rfl) | exact Or.inr ⟨by rfl, rfl⟩); (try simp only [Act.put, List.setIfInBounds_toArray, List.set_cons_zero, List.set_cons_succ, List.getElem_toArray, List.getElem_cons_zero, List.getElem_cons_succ])))
    repeat (first | (refine wpAnyV_take (i := 16) (v := ?_) rfl (by kernel_rfl) (by decide +kernel) (by decide +kernel) [20, 17] (by decide +kernel) (by decide +kernel) (by decide) (fun _ _ _ h => h) ?_ (by assumption) ?_; rotate_left; (first | (refine yields_load (by rfl) rfl rfl ?_; intro w hSw; (try dsimp only at hSw); go_split_ands; assumption) | (refine Or.inl ⟨by rfl, ?_⟩; intro w hSw; (try dsimp only at hSw); go_simp; done) | (refine Or.inl ⟨by rfl, ?_⟩; intro w hSw; (try dsimp only at hSw); go_simp; with_reducible rfl) | exact Or.inr ⟨by rfl, rfl⟩); (try simp only [Act.put, List.setIfInBounds_toArray, List.set_cons_zero, List.set_cons_succ, List.getElem_toArray, List.getElem_cons_zero, List.getElem_cons_succ])))
    refine wpAnyV_ready (rs := [0, 9]) (by decide +kernel) (by simp) ?_; refine (AllReadyV.cons rfl (by decide) (fun K hK => ?_) (AllReadyV.cons rfl (by decide) (fun K hK => ?_) AllReadyV.nil))
    · go_simp
      have M3 := hid (((M2.out.alloc 38 #[]).as_row (L1 := []) 1 0 rfl (by unfold maxLen; omega)).drew)
      refine hK.out _ _ (g_cells (m := m) (g := g) (ve := .slice Ae g.ends.length ce) (vp := .slice Ap g.prog.length cp) (vs := .slice As g.pts.length cs) M3.out (by simp)) (fun hHeld => ?_); clear hK K; (try simp only [Act.put, List.setIfInBounds_toArray, List.set_cons_zero, List.set_cons_succ, List.getElem_toArray, List.getElem_cons_zero, List.getElem_cons_succ])
      refine wpAnyV_ready (rs := [8, 9]) (by decide +kernel) (by simp) ?_; refine (AllReadyV.cons rfl (by decide) (fun K hK => ?_) (AllReadyV.cons rfl (by decide) (fun K hK => ?_) AllReadyV.nil))
      · -- a14, b15, a23
        refine step_append_Own (by rfl) (.tmp 6) (.tmp 13) _ rfl sized_u16 rfl rfl (L1 := []) (L2 := [.blk m 29 (gA g (.slice Ae g.ends.length ce) (.slice Ap g.prog.length cp) (.slice As g.pts.length cs))]) M3.out (hpre1.out _ M3.out.below) (ints_one _ _) (by unfold maxLen; omega) (by omega) ?_
        intro v4 w4 M'
        simp only [Nat.zero_add, List.nil_append, List.append_eq, List.cons_append] at M'
        obtain ⟨A4, d4, rfl⟩ := M'.form (e := 38) (sz := 1) (v := v4) (n := k1) (xs := ints .u16 (g.ends.take k1)) (by simp)
        have M4 := hid M'
        clear M'
        refine hK.out _ _ (g_cells (m := m) (g := g) (ve := .slice Ae g.ends.length ce) (vp := .slice Ap g.prog.length cp) (vs := .slice As g.pts.length cs) M4.out (by simp)) (fun hHeld => ?_); clear hK K; (try simp only [Act.put, List.setIfInBounds_toArray, List.set_cons_zero, List.set_cons_succ, List.getElem_toArray, List.getElem_cons_zero, List.getElem_cons_succ])
        repeat (first | (refine wpAnyV_take (i := 21) (v := ?_) rfl (by kernel_rfl) (by decide +kernel) (by decide +kernel) [] (by decide +kernel) (by decide +kernel) (by decide) (fun _ _ _ h => h) ?_ (by assumption) ?_; rotate_left; (first | (refine yields_load (by rfl) rfl rfl ?_; intro w hSw; (try dsimp only at hSw); go_split_ands; assumption) | (refine Or.inl ⟨by rfl, ?_⟩; intro w hSw; (try dsimp only at hSw); go_simp; done) | (refine Or.inl ⟨by rfl, ?_⟩; intro w hSw; (try dsimp only at hSw); go_simp; with_reducible rfl) | exact Or.inr ⟨by rfl, rfl⟩); (try simp only [Act.put, List.setIfInBounds_toArray, List.set_cons_zero, List.set_cons_succ, List.getElem_toArray, List.getElem_cons_zero, List.getElem_cons_succ])))
        refine wpAnyV_ready (rs := [9]) (by decide +kernel) (by simp) ?_; refine (AllReadyV.cons rfl (by decide) (fun K hK => ?_) AllReadyV.nil)
        go_simp
        have M5 := hid ((M4.out.alloc 37 #[]).as_row (L1 := []) 3 0 rfl (by unfold maxLen; omega))
        refine hK.out _ _ (g_cells (m := m) (g := g) (ve := .slice Ae g.ends.length ce) (vp := .slice Ap g.prog.length cp) (vs := .slice As g.pts.length cs) M5.out (by simp)) (fun hHeld => ?_); clear hK K; (try simp only [Act.put, List.setIfInBounds_toArray, List.set_cons_zero, List.set_cons_succ, List.getElem_toArray, List.getElem_cons_zero, List.getElem_cons_succ])
        refine wpAnyV_ready (rs := [17]) (by decide +kernel) (by simp) ?_; refine (AllReadyV.cons rfl (by decide) (fun K hK => ?_) AllReadyV.nil)
        refine step_append_Own (by rfl) (.tmp 15) (.tmp 22) _ rfl sized_spot rfl rfl (L1 := []) (L2 := [.row 38 1 (.slice A4 k1 d4) k1 (ints .u16 (g.ends.take k1)), .blk m 29 (gA g (.slice Ae g.ends.length ce) (.slice Ap g.prog.length cp) (.slice As g.pts.length cs))]) M5.out (hpre2.out _ M5.out.below) (spC_one _) (by unfold maxLen; omega) (by omega) ?_
        intro v5 w5 M'
        simp only [Nat.zero_add, List.nil_append, List.append_eq, List.cons_append] at M'
        obtain ⟨A5, d5, rfl⟩ := M'.form (e := 37) (sz := 3) (v := v5) (n := k2) (xs := spC (g.pts.take k2)) (by simp)
        have M6' := hid M'
        clear M'
        refine hK.out _ _ (g_cells (m := m) (g := g) (ve := .slice Ae g.ends.length ce) (vp := .slice Ap g.prog.length cp) (vs := .slice As g.pts.length cs) M6'.out (by simp)) (fun hHeld => ?_); clear hK K; (try simp only [Act.put, List.setIfInBounds_toArray, List.set_cons_zero, List.set_cons_succ, List.getElem_toArray, List.getElem_cons_zero, List.getElem_cons_succ])
        have M6 : Hid (Own w w5 [.row 38 1 (.slice A4 k1 d4) k1 (ints .u16 (g.ends.take k1)), .row 37 3 (.slice A5 k2 d5) k2 (spC (g.pts.take k2)), .blk m 29 (gA g (.slice Ae g.ends.length ce) (.slice Ap g.prog.length cp) (.slice As g.pts.length cs))]) := hid M6'.out.swap
        clear M6'
        refine wpAnyV_ready (rs := [20]) (by decide +kernel) (by simp) ?_; refine (AllReadyV.cons rfl (by decide) (fun K hK => ?_) AllReadyV.nil)
        go_simp
        refine (hCut.out _ M6.out.below).mono ?_
        rintro _ w7 ⟨_, rfl, M⟩
        rw [hnpH.out] at M
        obtain ⟨A6, d6, rfl⟩ := M.form (.head _)
        have M7 := hid (M6.out.lift M)
        clear M
        go_wp2_with fail
        refine hK.out _ _ (g_cells (m := m) (g := g) (ve := .slice Ae g.ends.length ce) (vp := .slice Ap g.prog.length cp) (vs := .slice As g.pts.length cs) M7.out (by simp)) (fun hHeld => ?_); clear hK K; (try simp only [Act.put, List.setIfInBounds_toArray, List.set_cons_zero, List.set_cons_succ, List.getElem_toArray, List.getElem_cons_zero, List.getElem_cons_succ])
        obtain ⟨⟨-, -, -, -, d4', d5', d6'⟩, -, -, -, -, f4, f5, f6⟩ := g7 (m := m) (g := g) (ve := .slice Ae g.ends.length ce) (vp := .slice Ap g.prog.length cp) (vs := .slice As g.pts.length cs) M7.out (by simp)
        refine wpAnyV_ready (rs := [22]) (by decide +kernel) (by simp) ?_; refine AllReadyV.last rfl (fun K hK => ?_); go_simp
        have M8 := hid (show Own w (w7.setCell ⟨m, 4, none⟩ (.slice A4 k1 d4)) [.row 5 1 (.slice A6 np d6) np (ints .u8 (g.prog.take 30)), .row 38 1 (.slice A4 k1 d4) k1 (ints .u16 (g.ends.take k1)), .row 37 3 (.slice A5 k2 d5) k2 (spC (g.pts.take k2)), .blk m 29 (gA g (.slice A4 k1 d4) (.slice Ap g.prog.length cp) (.slice As g.pts.length cs))] from M7.out.set (L1 := [_, _, _]) 4 (.slice A4 k1 d4))
        clear f4 f5 f6 d4' d5' d6'
        revert M8
        generalize w7.setCell ⟨m, 4, none⟩ (.slice A4 k1 d4) = w8
        intro M8
        refine hK.out _ _ (fun hHeld => ?_); clear hK K; (try simp only [Act.put, List.setIfInBounds_toArray, List.set_cons_zero, List.set_cons_succ, List.getElem_toArray, List.getElem_cons_zero, List.getElem_cons_succ])
        obtain ⟨⟨-, -, -, -, d4', d5', d6'⟩, -, -, -, -, f4, f5, f6⟩ := g7 (m := m) (g := g) (ve := .slice A4 k1 d4) (vp := .slice Ap g.prog.length cp) (vs := .slice As g.pts.length cs) M8.out (by simp)
        repeat (first | (refine wpAnyH_take (i := 23) (v := ?_) rfl (by kernel_rfl) (by decide +kernel) (by decide +kernel) (fun _ _ _ h => h) ?_ (by assumption) ?_; rotate_left; (first | (refine yields_load (by rfl) rfl rfl ?_; intro w hSw; (try dsimp only at hSw); go_split_ands; assumption) | (refine Or.inl ⟨by rfl, ?_⟩; intro w hSw; (try dsimp only at hSw); go_simp; done) | (refine Or.inl ⟨by rfl, ?_⟩; intro w hSw; (try dsimp only at hSw); go_simp; with_reducible rfl) | exact Or.inr ⟨by rfl, rfl⟩); (try simp only [Act.put, List.setIfInBounds_toArray, List.set_cons_zero, List.set_cons_succ, List.getElem_toArray, List.getElem_cons_zero, List.getElem_cons_succ])))
        refine wpAnyH_ready (rs := [24]) (by decide +kernel) (by simp) ?_; refine AllReadyH.cons rfl (fun K hK => ?_) AllReadyH.nil; go_simp
        have M9 := hid (show Own w (w8.setCell ⟨m, 6, none⟩ (.slice A5 k2 d5)) [.row 5 1 (.slice A6 np d6) np (ints .u8 (g.prog.take 30)), .row 38 1 (.slice A4 k1 d4) k1 (ints .u16 (g.ends.take k1)), .row 37 3 (.slice A5 k2 d5) k2 (spC (g.pts.take k2)), .blk m 29 (gA g (.slice A4 k1 d4) (.slice Ap g.prog.length cp) (.slice A5 k2 d5))] from M8.out.set (L1 := [_, _, _]) 6 (.slice A5 k2 d5))
        clear f4 f5 f6 d4' d5' d6'
        revert M9
        generalize w8.setCell ⟨m, 6, none⟩ (.slice A5 k2 d5) = w9
        intro M9
        refine hK.out _ _ trivial (fun hHeld => ?_); clear hK K; (try simp only [Act.put, List.setIfInBounds_toArray, List.set_cons_zero, List.set_cons_succ, List.getElem_toArray, List.getElem_cons_zero, List.getElem_cons_succ])
        obtain ⟨⟨-, -, -, -, d4', d5', d6'⟩, -, -, -, -, f4, f5, f6⟩ := g7 (m := m) (g := g) (ve := .slice A4 k1 d4) (vp := .slice Ap g.prog.length cp) (vs := .slice A5 k2 d5) M9.out (by simp)
        repeat (first | (refine wpAnyH_take (i := 25) (v := ?_) rfl (by kernel_rfl) (by decide +kernel) (by decide +kernel) (fun _ _ _ h => h) ?_ (by assumption) ?_; rotate_left; (first | (refine yields_load (by rfl) rfl rfl ?_; intro w hSw; (try dsimp only at hSw); go_split_ands; assumption) | (refine Or.inl ⟨by rfl, ?_⟩; intro w hSw; (try dsimp only at hSw); go_simp; done) | (refine Or.inl ⟨by rfl, ?_⟩; intro w hSw; (try dsimp only at hSw); go_simp; with_reducible rfl) | exact Or.inr ⟨by rfl, rfl⟩); (try simp only [Act.put, List.setIfInBounds_toArray, List.set_cons_zero, List.set_cons_succ, List.getElem_toArray, List.getElem_cons_zero, List.getElem_cons_succ])))
        refine wpAnyH_ready (rs := [26]) (by decide +kernel) (by simp) ?_; refine AllReadyH.cons rfl (fun K hK => ?_) AllReadyH.nil; go_simp
        have M10 := hid (show Own w (w9.setCell ⟨m, 5, none⟩ (.slice A6 np d6)) [.row 5 1 (.slice A6 np d6) np (ints .u8 (g.prog.take 30)), .row 38 1 (.slice A4 k1 d4) k1 (ints .u16 (g.ends.take k1)), .row 37 3 (.slice A5 k2 d5) k2 (spC (g.pts.take k2)), .blk m 29 (gA g (.slice A4 k1 d4) (.slice A6 np d6) (.slice A5 k2 d5))] from M9.out.set (L1 := [_, _, _]) 5 (.slice A6 np d6))
        clear f4 f5 f6 d4' d5' d6'
        revert M10
        generalize w9.setCell ⟨m, 5, none⟩ (.slice A6 np d6) = w10
        intro M10
        refine hK.out _ _ trivial (fun hHeld => ?_); clear hK K; (try simp only [Act.put, List.setIfInBounds_toArray, List.set_cons_zero, List.set_cons_succ, List.getElem_toArray, List.getElem_cons_zero, List.getElem_cons_succ])
        refine wpAnyH_done (by kernel_rfl) ?_ _
        go_wp2_with fail
        go_meet
        exact ⟨rfl, hid ⟨⟨g.b0, g.b1, g.b2, g.b3, g.ends.take k1, g.prog.take 30, g.pts.take k2⟩, .slice A4 k1 d4, .slice A6 np d6, .slice A5 k2 d5, hO2.out, (show (g.ends.take k1).length ≤ 30 by rw [hl1.out]; exact b1), (show (g.pts.take k2).length ≤ 60 by rw [hl2.out]; exact b2), (by show Own w _ [.row 5 1 _ (g.prog.take 30).length _, .row 38 1 _ (g.ends.take k1).length _, .row 37 3 _ (g.pts.take k2).length _, _]; rw [hl1.out, hl2.out, hnpH.out]; exact M10.out)⟩⟩
      · go_simp
        have h9 := (M2.out.alloc 38 #[]).alloc 37 #[]
        rw [alloc_size] at h9
        have M4 := hid (((h9.as_row (L1 := []) 3 0 rfl (by unfold maxLen; omega)).as_row (L1 := [_]) 1 0 rfl (by unfold maxLen; omega)).drew)
        clear h9
        refine hK.out _ _ (g_cells (m := m) (g := g) (ve := .slice Ae g.ends.length ce) (vp := .slice Ap g.prog.length cp) (vs := .slice As g.pts.length cs) M4.out (by simp)) (fun hHeld => ?_); clear hK K; (try simp only [Act.put, List.setIfInBounds_toArray, List.set_cons_zero, List.set_cons_succ, List.getElem_toArray, List.getElem_cons_zero, List.getElem_cons_succ])
        refine wpAnyV_ready (rs := [8]) (by decide +kernel) (by simp) ?_; refine (AllReadyV.cons rfl (by decide) (fun K hK => ?_) AllReadyV.nil)
        refine step_append_Own (by rfl) (.tmp 6) (.tmp 13) _ rfl sized_u16 rfl rfl (L1 := [.row 37 3 (.slice (some ⟨w2.heap.size + 1, 0, none⟩) 0 0) 0 []]) (L2 := [.blk m 29 (gA g (.slice Ae g.ends.length ce) (.slice Ap g.prog.length cp) (.slice As g.pts.length cs))]) M4.out (hpre1.out _ M4.out.below) (ints_one _ _) (by unfold maxLen; omega) (by omega) ?_
        intro v4 w4 M'
        simp only [Nat.zero_add, List.nil_append, List.append_eq, List.cons_append] at M'
        obtain ⟨A4, d4, rfl⟩ := M'.form (e := 38) (sz := 1) (v := v4) (n := k1) (xs := ints .u16 (g.ends.take k1)) (by simp)
        have M5 := hid M'
        clear M'
        refine hK.out _ _ (g_cells (m := m) (g := g) (ve := .slice Ae g.ends.length ce) (vp := .slice Ap g.prog.length cp) (vs := .slice As g.pts.length cs) M5.out (by simp)) (fun hHeld => ?_); clear hK K; (try simp only [Act.put, List.setIfInBounds_toArray, List.set_cons_zero, List.set_cons_succ, List.getElem_toArray, List.getElem_cons_zero, List.getElem_cons_succ])
        repeat (first | (refine wpAnyV_take (i := 21) (v := ?_) rfl (by kernel_rfl) (by decide +kernel) (by decide +kernel) [] (by decide +kernel) (by decide +kernel) (by decide) (fun _ _ _ h => h) ?_ (by assumption) ?_; rotate_left; (first | (refine yields_load (by rfl) rfl rfl ?_; intro w hSw; (try dsimp only at hSw); go_split_ands; assumption) | (refine Or.inl ⟨by rfl, ?_⟩; intro w hSw; (try dsimp only at hSw); go_simp; done) | (refine Or.inl ⟨by rfl, ?_⟩; intro w hSw; (try dsimp only at hSw); go_simp; with_reducible rfl) | exact Or.inr ⟨by rfl, rfl⟩); (try simp only [Act.put, List.setIfInBounds_toArray, List.set_cons_zero, List.set_cons_succ, List.getElem_toArray, List.getElem_cons_zero, List.getElem_cons_succ])))
        refine wpAnyV_ready (rs := [17]) (by decide +kernel) (by simp) ?_; refine (AllReadyV.cons rfl (by decide) (fun K hK => ?_) AllReadyV.nil)
        refine step_append_Own (by rfl) (.tmp 15) (.tmp 22) _ rfl sized_spot rfl rfl (L1 := []) (L2 := [.row 38 1 (.slice A4 k1 d4) k1 (ints .u16 (g.ends.take k1)), .blk m 29 (gA g (.slice Ae g.ends.length ce) (.slice Ap g.prog.length cp) (.slice As g.pts.length cs))]) M5.out (hpre2.out _ M5.out.below) (spC_one _) (by unfold maxLen; omega) (by omega) ?_
        intro v5 w5 M'
        simp only [Nat.zero_add, List.nil_append, List.append_eq, List.cons_append] at M'
        obtain ⟨A5, d5, rfl⟩ := M'.form (e := 37) (sz := 3) (v := v5) (n := k2) (xs := spC (g.pts.take k2)) (by simp)
        have M6' := hid M'
        clear M'
        refine hK.out _ _ (g_cells (m := m) (g := g) (ve := .slice Ae g.ends.length ce) (vp := .slice Ap g.prog.length cp) (vs := .slice As g.pts.length cs) M6'.out (by simp)) (fun hHeld => ?_); clear hK K; (try simp only [Act.put, List.setIfInBounds_toArray, List.set_cons_zero, List.set_cons_succ, List.getElem_toArray, List.getElem_cons_zero, List.getElem_cons_succ])
        have M6 : Hid (Own w w5 [.row 38 1 (.slice A4 k1 d4) k1 (ints .u16 (g.ends.take k1)), .row 37 3 (.slice A5 k2 d5) k2 (spC (g.pts.take k2)), .blk m 29 (gA g (.slice Ae g.ends.length ce) (.slice Ap g.prog.length cp) (.slice As g.pts.length cs))]) := hid M6'.out.swap
        clear M6'
        refine wpAnyV_ready (rs := [20]) (by decide +kernel) (by simp) ?_; refine (AllReadyV.cons rfl (by decide) (fun K hK => ?_) AllReadyV.nil)
        go_simp
        refine (hCut.out _ M6.out.below).mono ?_
        rintro _ w7 ⟨_, rfl, M⟩
        rw [hnpH.out] at M
        obtain ⟨A6, d6, rfl⟩ := M.form (.head _)
        have M7 := hid (M6.out.lift M)
        clear M
        go_wp2_with fail
        refine hK.out _ _ (g_cells (m := m) (g := g) (ve := .slice Ae g.ends.length ce) (vp := .slice Ap g.prog.length cp) (vs := .slice As g.pts.length cs) M7.out (by simp)) (fun hHeld => ?_); clear hK K; (try simp only [Act.put, List.setIfInBounds_toArray, List.set_cons_zero, List.set_cons_succ, List.getElem_toArray, List.getElem_cons_zero, List.getElem_cons_succ])
        obtain ⟨⟨-, -, -, -, d4', d5', d6'⟩, -, -, -, -, f4, f5, f6⟩ := g7 (m := m) (g := g) (ve := .slice Ae g.ends.length ce) (vp := .slice Ap g.prog.length cp) (vs := .slice As g.pts.length cs) M7.out (by simp)
        refine wpAnyV_ready (rs := [22]) (by decide +kernel) (by simp) ?_; refine AllReadyV.last rfl (fun K hK => ?_); go_simp
        have M8 := hid (show Own w (w7.setCell ⟨m, 4, none⟩ (.slice A4 k1 d4)) [.row 5 1 (.slice A6 np d6) np (ints .u8 (g.prog.take 30)), .row 38 1 (.slice A4 k1 d4) k1 (ints .u16 (g.ends.take k1)), .row 37 3 (.slice A5 k2 d5) k2 (spC (g.pts.take k2)), .blk m 29 (gA g (.slice A4 k1 d4) (.slice Ap g.prog.length cp) (.slice As g.pts.length cs))] from M7.out.set (L1 := [_, _, _]) 4 (.slice A4 k1 d4))
        clear f4 f5 f6 d4' d5' d6'
        revert M8
        generalize w7.setCell ⟨m, 4, none⟩ (.slice A4 k1 d4) = w8
        intro M8
        refine hK.out _ _ (fun hHeld => ?_); clear hK K; (try simp only [Act.put, List.setIfInBounds_toArray, List.set_cons_zero, List.set_cons_succ, List.getElem_toArray, List.getElem_cons_zero, List.getElem_cons_succ])
        obtain ⟨⟨-, -, -, -, d4', d5', d6'⟩, -, -, -, -, f4, f5, f6⟩ := g7 (m := m) (g := g) (ve := .slice A4 k1 d4) (vp := .slice Ap g.prog.length cp) (vs := .slice As g.pts.length cs) M8.out (by simp)
        repeat (first | (refine wpAnyH_take (i := 23) (v := ?_) rfl (by kernel_rfl) (by decide +kernel) (by decide +kernel) (fun _ _ _ h => h) ?_ (by assumption) ?_; rotate_left; (first | (refine yields_load (by rfl) rfl rfl ?_; intro w hSw; (try dsimp only at hSw); go_split_ands; assumption) | (refine Or.inl ⟨by rfl, ?_⟩; intro w hSw; (try dsimp only at hSw); go_simp; done) | (refine Or.inl ⟨by rfl, ?_⟩; intro w hSw; (try dsimp only at hSw); go_simp; with_reducible rfl) | exact Or.inr ⟨by rfl, rfl⟩); (try simp only [Act.put, List.setIfInBounds_toArray, List.set_cons_zero, List.set_cons_succ, List.getElem_toArray, List.getElem_cons_zero, List.getElem_cons_succ])))
        refine wpAnyH_ready (rs := [24]) (by decide +kernel) (by simp) ?_; refine AllReadyH.cons rfl (fun K hK => ?_) AllReadyH.nil; go_simp
        have M9 := hid (show Own w (w8.setCell ⟨m, 6, none⟩ (.slice A5 k2 d5)) [.row 5 1 (.slice A6 np d6) np (ints .u8 (g.prog.take 30)), .row 38 1 (.slice A4 k1 d4) k1 (ints .u16 (g.ends.take k1)), .row 37 3 (.slice A5 k2 d5) k2 (spC (g.pts.take k2)), .blk m 29 (gA g (.slice A4 k1 d4) (.slice Ap g.prog.length cp) (.slice A5 k2 d5))] from M8.out.set (L1 := [_, _, _]) 6 (.slice A5 k2 d5))
        clear f4 f5 f6 d4' d5' d6'
        revert M9
        generalize w8.setCell ⟨m, 6, none⟩ (.slice A5 k2 d5) = w9
        intro M9
        refine hK.out _ _ trivial (fun hHeld => ?_); clear hK K; (try simp only [Act.put, List.setIfInBounds_toArray, List.set_cons_zero, List.set_cons_succ, List.getElem_toArray, List.getElem_cons_zero, List.getElem_cons_succ])
        obtain ⟨⟨-, -, -, -, d4', d5', d6'⟩, -, -, -, -, f4, f5, f6⟩ := g7 (m := m) (g := g) (ve := .slice A4 k1 d4) (vp := .slice Ap g.prog.length cp) (vs := .slice A5 k2 d5) M9.out (by simp)
        repeat (first | (refine wpAnyH_take (i := 25) (v := ?_) rfl (by kernel_rfl) (by decide +kernel) (by decide +kernel) (fun _ _ _ h => h) ?_ (by assumption) ?_; rotate_left; (first | (refine yields_load (by rfl) rfl rfl ?_; intro w hSw; (try dsimp only at hSw); go_split_ands; assumption) | (refine Or.inl ⟨by rfl, ?_⟩; intro w hSw; (try dsimp only at hSw); go_simp; done) | (refine Or.inl ⟨by rfl, ?_⟩; intro w hSw; (try dsimp only at hSw); go_simp; with_reducible rfl) | exact Or.inr ⟨by rfl, rfl⟩); (try simp only [Act.put, List.setIfInBounds_toArray, List.set_cons_zero, List.set_cons_succ, List.getElem_toArray, List.getElem_cons_zero, List.getElem_cons_succ])))
        refine wpAnyH_ready (rs := [26]) (by decide +kernel) (by simp) ?_; refine AllReadyH.cons rfl (fun K hK => ?_) AllReadyH.nil; go_simp
        have M10 := hid (show Own w (w9.setCell ⟨m, 5, none⟩ (.slice A6 np d6)) [.row 5 1 (.slice A6 np d6) np (ints .u8 (g.prog.take 30)), .row 38 1 (.slice A4 k1 d4) k1 (ints .u16 (g.ends.take k1)), .row 37 3 (.slice A5 k2 d5) k2 (spC (g.pts.take k2)), .blk m 29 (gA g (.slice A4 k1 d4) (.slice A6 np d6) (.slice A5 k2 d5))] from M9.out.set (L1 := [_, _, _]) 5 (.slice A6 np d6))
        clear f4 f5 f6 d4' d5' d6'
        revert M10
        generalize w9.setCell ⟨m, 5, none⟩ (.slice A6 np d6) = w10
        intro M10
        refine hK.out _ _ trivial (fun hHeld => ?_); clear hK K; (try simp only [Act.put, List.setIfInBounds_toArray, List.set_cons_zero, List.set_cons_succ, List.getElem_toArray, List.getElem_cons_zero, List.getElem_cons_succ])
        refine wpAnyH_done (by kernel_rfl) ?_ _
        go_wp2_with fail
        go_meet
        exact ⟨rfl, hid ⟨⟨g.b0, g.b1, g.b2, g.b3, g.ends.take k1, g.prog.take 30, g.pts.take k2⟩, .slice A4 k1 d4, .slice A6 np d6, .slice A5 k2 d5, hO2.out, (show (g.ends.take k1).length ≤ 30 by rw [hl1.out]; exact b1), (show (g.pts.take k2).length ≤ 60 by rw [hl2.out]; exact b2), (by show Own w _ [.row 5 1 _ (g.prog.take 30).length _, .row 38 1 _ (g.ends.take k1).length _, .row 37 3 _ (g.pts.take k2).length _, _]; rw [hl1.out, hl2.out, hnpH.out]; exact M10.out)⟩⟩
    · go_simp
      have M3 := hid (((M2.out.alloc 37 #[]).as_row (L1 := []) 3 0 rfl (by unfold maxLen; omega)).drew)
      refine hK.out _ _ (g_cells (m := m) (g := g) (ve := .slice Ae g.ends.length ce) (vp := .slice Ap g.prog.length cp) (vs := .slice As g.pts.length cs) M3.out (by simp)) (fun hHeld => ?_); clear hK K; (try simp only [Act.put, List.setIfInBounds_toArray, List.set_cons_zero, List.set_cons_succ, List.getElem_toArray, List.getElem_cons_zero, List.getElem_cons_succ])
      refine wpAnyV_ready (rs := [0]) (by decide +kernel) (by simp) ?_; refine (AllReadyV.cons rfl (by decide) (fun K hK => ?_) AllReadyV.nil)
      go_simp
      have h9 := (M2.out.alloc 37 #[]).alloc 38 #[]
      rw [alloc_size] at h9
      have M4 := hid (((h9.as_row (L1 := []) 1 0 rfl (by unfold maxLen; omega)).as_row (L1 := [_]) 3 0 rfl (by unfold maxLen; omega)).drew)
      clear h9
      refine hK.out _ _ (g_cells (m := m) (g := g) (ve := .slice Ae g.ends.length ce) (vp := .slice Ap g.prog.length cp) (vs := .slice As g.pts.length cs) M4.out (by simp)) (fun hHeld => ?_); clear hK K; (try simp only [Act.put, List.setIfInBounds_toArray, List.set_cons_zero, List.set_cons_succ, List.getElem_toArray, List.getElem_cons_zero, List.getElem_cons_succ])
      refine wpAnyV_ready (rs := [8]) (by decide +kernel) (by simp) ?_; refine (AllReadyV.cons rfl (by decide) (fun K hK => ?_) AllReadyV.nil)
      refine step_append_Own (by rfl) (.tmp 6) (.tmp 13) _ rfl sized_u16 rfl rfl (L1 := []) (L2 := [.row 37 3 (.slice (some ⟨w2.heap.size, 0, none⟩) 0 0) 0 [], .blk m 29 (gA g (.slice Ae g.ends.length ce) (.slice Ap g.prog.length cp) (.slice As g.pts.length cs))]) M4.out (hpre1.out _ M4.out.below) (ints_one _ _) (by unfold maxLen; omega) (by omega) ?_
      intro v4 w4 M'
      simp only [Nat.zero_add, List.nil_append, List.append_eq, List.cons_append] at M'
      obtain ⟨A4, d4, rfl⟩ := M'.form (e := 38) (sz := 1) (v := v4) (n := k1) (xs := ints .u16 (g.ends.take k1)) (by simp)
      have M5 := hid M'
      clear M'
      refine hK.out _ _ (g_cells (m := m) (g := g) (ve := .slice Ae g.ends.length ce) (vp := .slice Ap g.prog.length cp) (vs := .slice As g.pts.length cs) M5.out (by simp)) (fun hHeld => ?_); clear hK K; (try simp only [Act.put, List.setIfInBounds_toArray, List.set_cons_zero, List.set_cons_succ, List.getElem_toArray, List.getElem_cons_zero, List.getElem_cons_succ])
      repeat (first | (refine wpAnyV_take (i := 21) (v := ?_) rfl (by kernel_rfl) (by decide +kernel) (by decide +kernel) [] (by decide +kernel) (by decide +kernel) (by decide) (fun _ _ _ h => h) ?_ (by assumption) ?_; rotate_left; (first | (refine yields_load (by rfl) rfl rfl ?_; intro w hSw; (try dsimp only at hSw); go_split_ands; assumption) | (refine Or.inl ⟨by rfl, ?_⟩; intro w hSw; (try dsimp only at hSw); go_simp; done) | (refine Or.inl ⟨by rfl, ?_⟩; intro w hSw; (try dsimp only at hSw); go_simp; with_reducible rfl) | exact Or.inr ⟨by rfl, rfl⟩); (try simp only [Act.put, List.setIfInBounds_toArray, List.set_cons_zero, List.set_cons_succ, List.getElem_toArray, List.getElem_cons_zero, List.getElem_cons_succ])))
      refine wpAnyV_ready (rs := [17]) (by decide +kernel) (by simp) ?_; refine (AllReadyV.cons rfl (by decide) (fun K hK => ?_) AllReadyV.nil)
      refine step_append_Own (by rfl) (.tmp 15) (.tmp 22) _ rfl sized_spot rfl rfl (L1 := [.row 38 1 (.slice A4 k1 d4) k1 (ints .u16 (g.ends.take k1))]) (L2 := [.blk m 29 (gA g (.slice Ae g.ends.length ce) (.slice Ap g.prog.length cp) (.slice As g.pts.length cs))]) M5.out (hpre2.out _ M5.out.below) (spC_one _) (by unfold maxLen; omega) (by omega) ?_
      intro v5 w5 M'
      simp only [Nat.zero_add, List.nil_append, List.append_eq, List.cons_append] at M'
      obtain ⟨A5, d5, rfl⟩ := M'.form (e := 37) (sz := 3) (v := v5) (n := k2) (xs := spC (g.pts.take k2)) (by simp)
      have M6' := hid M'
      clear M'
      refine hK.out _ _ (g_cells (m := m) (g := g) (ve := .slice Ae g.ends.length ce) (vp := .slice Ap g.prog.length cp) (vs := .slice As g.pts.length cs) M6'.out (by simp)) (fun hHeld => ?_); clear hK K; (try simp only [Act.put, List.setIfInBounds_toArray, List.set_cons_zero, List.set_cons_succ, List.getElem_toArray, List.getElem_cons_zero, List.getElem_cons_succ])
      have M6 : Hid (Own w w5 [.row 38 1 (.slice A4 k1 d4) k1 (ints .u16 (g.ends.take k1)), .row 37 3 (.slice A5 k2 d5) k2 (spC (g.pts.take k2)), .blk m 29 (gA g (.slice Ae g.ends.length ce) (.slice Ap g.prog.length cp) (.slice As g.pts.length cs))]) := M6'
      clear M6'
      refine wpAnyV_ready (rs := [20]) (by decide +kernel) (by simp) ?_; refine (AllReadyV.cons rfl (by decide) (fun K hK => ?_) AllReadyV.nil)
      go_simp
      refine (hCut.out _ M6.out.below).mono ?_
      rintro _ w7 ⟨_, rfl, M⟩
      rw [hnpH.out] at M
      obtain ⟨A6, d6, rfl⟩ := M.form (.head _)
      have M7 := hid (M6.out.lift M)
      clear M
      go_wp2_with fail
      refine hK.out _ _ (g_cells (m := m) (g := g) (ve := .slice Ae g.ends.length ce) (vp := .slice Ap g.prog.length cp) (vs := .slice As g.pts.length cs) M7.out (by simp)) (fun hHeld => ?_); clear hK K; (try simp only [Act.put, List.setIfInBounds_toArray, List.set_cons_zero, List.set_cons_succ, List.getElem_toArray, List.getElem_cons_zero, List.getElem_cons_succ])
      obtain ⟨⟨-, -, -, -, d4', d5', d6'⟩, -, -, -, -, f4, f5, f6⟩ := g7 (m := m) (g := g) (ve := .slice Ae g.ends.length ce) (vp := .slice Ap g.prog.length cp) (vs := .slice As g.pts.length cs) M7.out (by simp)
      refine wpAnyV_ready (rs := [22]) (by decide +kernel) (by simp) ?_; refine AllReadyV.last rfl (fun K hK => ?_); go_simp
      have M8 := hid (show Own w (w7.setCell ⟨m, 4, none⟩ (.slice A4 k1 d4)) [.row 5 1 (.slice A6 np d6) np (ints .u8 (g.prog.take 30)), .row 38 1 (.slice A4 k1 d4) k1 (ints .u16 (g.ends.take k1)), .row 37 3 (.slice A5 k2 d5) k2 (spC (g.pts.take k2)), .blk m 29 (gA g (.slice A4 k1 d4) (.slice Ap g.prog.length cp) (.slice As g.pts.length cs))] from M7.out.set (L1 := [_, _, _]) 4 (.slice A4 k1 d4))
      clear f4 f5 f6 d4' d5' d6'
      revert M8
      generalize w7.setCell ⟨m, 4, none⟩ (.slice A4 k1 d4) = w8
      intro M8
      refine hK.out _ _ (fun hHeld => ?_); clear hK K; (try simp only [Act.put, List.setIfInBounds_toArray, List.set_cons_zero, List.set_cons_succ, List.getElem_toArray, List.getElem_cons_zero, List.getElem_cons_succ])
      obtain ⟨⟨-, -, -, -, d4', d5', d6'⟩, -, -, -, -, f4, f5, f6⟩ := g7 (m := m) (g := g) (ve := .slice A4 k1 d4) (vp := .slice Ap g.prog.length cp) (vs := .slice As g.pts.length cs) M8.out (by simp)
      repeat (first | (refine wpAnyH_take (i := 23) (v := ?_) rfl (by kernel_rfl) (by decide +kernel) (by decide +kernel) (fun _ _ _ h => h) ?_ (by assumption) ?_; rotate_left; (first | (refine yields_load (by rfl) rfl rfl ?_; intro w hSw; (try dsimp only at hSw); go_split_ands; assumption) | (refine Or.inl ⟨by rfl, ?_⟩; intro w hSw; (try dsimp only at hSw); go_simp; done) | (refine Or.inl ⟨by rfl, ?_⟩; intro w hSw; (try dsimp only at hSw); go_simp; with_reducible rfl) | exact Or.inr ⟨by rfl, rfl⟩); (try simp only [Act.put, List.setIfInBounds_toArray, List.set_cons_zero, List.set_cons_succ, List.getElem_toArray, List.getElem_cons_zero, List.getElem_cons_succ])))
      refine wpAnyH_ready (rs := [24]) (by decide +kernel) (by simp) ?_; refine AllReadyH.cons rfl (fun K hK => ?_) AllReadyH.nil; go_simp
      have M9 := hid (show Own w (w8.setCell ⟨m, 6, none⟩ (.slice A5 k2 d5)) [.row 5 1 (.slice A6 np d6) np (ints .u8 (g.prog.take 30)), .row 38 1 (.slice A4 k1 d4) k1 (ints .u16 (g.ends.take k1)), .row 37 3 (.slice A5 k2 d5) k2 (spC (g.pts.take k2)), .blk m 29 (gA g (.slice A4 k1 d4) (.slice Ap g.prog.length cp) (.slice A5 k2 d5))] from M8.out.set (L1 := [_, _, _]) 6 (.slice A5 k2 d5))
      clear f4 f5 f6 d4' d5' d6'
      revert M9
      generalize w8.setCell ⟨m, 6, none⟩ (.slice A5 k2 d5) = w9
      intro M9
      refine hK.out _ _ trivial (fun hHeld => ?_); clear hK K; (try simp only [Act.put, List.setIfInBounds_toArray, List.set_cons_zero, List.set_cons_succ, List.getElem_toArray, List.getElem_cons_zero, List.getElem_cons_succ])
      obtain ⟨⟨-, -, -, -, d4', d5', d6'⟩, -, -, -, -, f4, f5, f6⟩ := g7 (m := m) (g := g) (ve := .slice A4 k1 d4) (vp := .slice Ap g.prog.length cp) (vs := .slice A5 k2 d5) M9.out (by simp)
      repeat (first | (refine wpAnyH_take (i := 25) (v := ?_) rfl (by kernel_rfl) (by decide +kernel) (by decide +kernel) (fun _ _ _ h => h) ?_ (by assumption) ?_; rotate_left; (first | (refine yields_load (by rfl) rfl rfl ?_; intro w hSw; (try dsimp only at hSw); go_split_ands; assumption) | (refine Or.inl ⟨by rfl, ?_⟩; intro w hSw; (try dsimp only at hSw); go_simp; done) | (refine Or.inl ⟨by rfl, ?_⟩; intro w hSw; (try dsimp only at hSw); go_simp; with_reducible rfl) | exact Or.inr ⟨by rfl, rfl⟩); (try simp only [Act.put, List.setIfInBounds_toArray, List.set_cons_zero, List.set_cons_succ, List.getElem_toArray, List.getElem_cons_zero, List.getElem_cons_succ])))
      refine wpAnyH_ready (rs := [26]) (by decide +kernel) (by simp) ?_; refine AllReadyH.cons rfl (fun K hK => ?_) AllReadyH.nil; go_simp
      have M10 := hid (show Own w (w9.setCell ⟨m, 5, none⟩ (.slice A6 np d6)) [.row 5 1 (.slice A6 np d6) np (ints .u8 (g.prog.take 30)), .row 38 1 (.slice A4 k1 d4) k1 (ints .u16 (g.ends.take k1)), .row 37 3 (.slice A5 k2 d5) k2 (spC (g.pts.take k2)), .blk m 29 (gA g (.slice A4 k1 d4) (.slice A6 np d6) (.slice A5 k2 d5))] from M9.out.set (L1 := [_, _, _]) 5 (.slice A6 np d6))
      clear f4 f5 f6 d4' d5' d6'
      revert M10
      generalize w9.setCell ⟨m, 5, none⟩ (.slice A6 np d6) = w10
      intro M10
      refine hK.out _ _ trivial (fun hHeld => ?_); clear hK K; (try simp only [Act.put, List.setIfInBounds_toArray, List.set_cons_zero, List.set_cons_succ, List.getElem_toArray, List.getElem_cons_zero, List.getElem_cons_succ])
      refine wpAnyH_done (by kernel_rfl) ?_ _
      go_wp2_with fail
      go_meet
      exact ⟨rfl, hid ⟨⟨g.b0, g.b1, g.b2, g.b3, g.ends.take k1, g.prog.take 30, g.pts.take k2⟩, .slice A4 k1 d4, .slice A6 np d6, .slice A5 k2 d5, hO2.out, (show (g.ends.take k1).length ≤ 30 by rw [hl1.out]; exact b1), (show (g.pts.take k2).length ≤ 60 by rw [hl2.out]; exact b2), (by show Own w _ [.row 5 1 _ (g.prog.take 30).length _, .row 38 1 _ (g.ends.take k1).length _, .row 37 3 _ (g.pts.take k2).length _, _]; rw [hl1.out, hl2.out, hnpH.out]; exact M10.out)⟩⟩

end Go.Proofs.Ytmmepjcndofnbaa
