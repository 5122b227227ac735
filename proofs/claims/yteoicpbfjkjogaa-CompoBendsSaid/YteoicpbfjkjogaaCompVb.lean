/- Layer 13: the document's glyph that bytes begin with, in parts. -/
import Derived.Test.YteoicpbfjkjogaaCompVa
import Derived.Deep.DeepCutAuto
namespace Go.Proofs.Yteoicpbfjkjogaa
open Go Go.RowKit
set_option linter.unusedVariables false
set_option linter.unusedSimpArgs false
set_option maxRecDepth 1000000

set_option maxHeartbeats 8000000 in
theorem refParse_tail : refParse_cut.P1 := by
  intro w
  unhygienic intros
  obtain ⟨t, rfl⟩ : ∃ t, j = t + 1 := ⟨j - 1, by have := hq1 rfl; omega⟩
  clear hq1 c4
  have hct := hid (cpS_tail h65'.out hsp.out (by rw [hlnH.out]; exact han))
  obtain ⟨cb, hcb⟩ : ∃ b, codeB done (t + 1) = b := ⟨_, rfl⟩
  have hcl := hid (show codeB done done.length = cb by rw [hdl.out]; exact hcb)
  obtain ⟨g3, hg3⟩ := MR.out.row_at (.head _) (by omega)
  subst hg3
  have kc := (Own.row_set (L1 := []) MR.out (t * 8) (by omega) (.int .i64 0)).2.1
  rw [show (dtC done)[t * 8]? = some (.int .i64 (pAt done t).f) from (rows_get (F := dtF) (m := 8) (fun _ => rfl) pt0 (show 0 < 8 by omega) done t (by rw [hdl.out]; omega)).trans rfl] at kc
  have hOk := hid (show (pAt done t).Ok from hdo.out _ (by
    have := hdl.out
    simp [pAt, List.getD, show t < done.length by omega]))
  have hHs := hid (fun w1 => refHas_calls w1 (k := 256) hOk.out.f.1 hOk.out.f.2 (by decide))
  rw [show hasB (pAt done t).f 256 = cb from hcb] at hHs
  generalize (pAt done t).f = pf at *
  have wt1 : IntKind.i64.wrap ((t : Int) + 1 - 1) = t := by rw [IntKind.wrap_i64]; omega
  obtain ⟨d4, -⟩ := d_cells (m := m) (g := gx) (vp := .slice (some ⟨g3, 0, none⟩) (t + 1) cp) (vg := .slice none 0 0) MR.out (by simp)
  clear hcb hOk hsp
  have hs16 := fun k => sgn_i16 (n2_bound hBH.out k).1 (n2_bound hBH.out k).2
  cases cb
  · have hcs := hid (show cpS l = if cgR (boxS l done []) then some (boxS l done [], a) else none by rw [hct.out]; unfold tailS; rw [hcl.out]; rfl)
    have hgO := hid (show (boxS l done []).Ok from ⟨hs16 2, hs16 4, hs16 6, hs16 8, hdo.out, bytes_nil⟩)
    clear hct hcl hs16
    go_upto_region 55 with (first
      | (go_at_call 40; (with_reducible refine (hHs.out _).mono ?_); rintro _ wr ⟨_, rfl, rfl, rfl⟩))
    obtain ⟨pr, hpr⟩ : ∃ x : List Int, [] = x := ⟨_, rfl⟩
    have MT : Hid (Own w wr [.row 5 1 (.slice none 0 0) 0 (ints .u8 pr), .row 82 8 (.slice (some ⟨g3, 0, none⟩) (t + 1) cp) (t + 1) (dtC done), .blk m 52 (dA gx (.slice (some ⟨g3, 0, none⟩) (t + 1) cp) (.slice none 0 0)), .blk m0 52 dNil]) := hid (by rw [← hpr]; exact MR.out.nil_row _ 1)
    have hpk := hid (show pr.length = 0 by rw [← hpr]; rfl)
    rw [hpr] at hcs hgO
    clear hpr d4 kc MR hHs wt1
    obtain ⟨gg, hgg⟩ : ∃ gg, boxS l done pr = gg := ⟨_, rfl⟩
    have hgp : gg.parts = done ∧ gg.prog = pr := by rw [← hgg]; exact ⟨rfl, rfl⟩
    have hdA : ∀ vp vg, dA gg vp vg = dA gx vp vg := fun vp vg => by rw [← hgg, ← hgx.out]; rfl
    rw [hgg] at hcs hgO
    have hRt := hid (refRight_calls wr hgO.out (vp := .slice (some ⟨g3, 0, none⟩) (t + 1) cp) (vg := .slice none 0 0) ⟨by rw [hgp.1, hdl.out]; exact MT.out.slice (e := 82) (by simp), by rw [hgp.2]; exact MT.out.bytes (e := 5) (by simp) hpk.out⟩)
    rw [hdA] at hRt
    obtain ⟨rg, hrg⟩ : ∃ b, cgR gg = b := ⟨_, rfl⟩
    rw [hrg] at hRt hcs
    replace hdA := hid hdA
    replace hgp := hid hgp
    clear hgg hrg
    have MF' := hid (MT.out.sub (L' := [.blk m0 52 dNil]) (by simp))
    cases rg
    · have hnone : cpS l = none := hcs.out
      clear hcs
      go_upto_region 56 with (first
        | ((with_reducible refine gate (N := 259) rfl ?_); refine wpList_run rfl (exec_load_agg agg_dg rfl rfl MT.out (g := m) (t := 52) (cs := dA gx (.slice (some ⟨g3, 0, none⟩) (t + 1) cp) (.slice none 0 0)) (vs := (dA gx (.slice (some ⟨g3, 0, none⟩) (t + 1) cp) (.slice none 0 0)).toList) (by simp) rfl rfl) ?_)
        | (go_at_call 19; (with_reducible refine hRt.out.mono ?_); rintro _ w8 ⟨_, rfl, rfl, hb⟩; (have MF := hid (MF'.out.keep hb)); clear hb))
      go_wp2_with (first
        | ((with_reducible refine gateSt (t := 52) (p := 2) rfl ?_); refine wpList_store_all (n := 6) (L1 := []) (mid := dNil.toList) (vs := dNil.toList) rfl rfl (by kernel_rfl) rfl rfl rfl rfl rfl (one_all rfl) MF.out ?_; intro w18 M; (have M18 := hid M); clear M)
        | (refine bodyPost_ret (v := .tuple #[.agg dNil, .int .i64 0, .bool false]) ?_ rfl (Ret.mk (.inr ⟨hnone, rfl, M18.out.below⟩)); exact results_agg_tmps2 (p := 2) (q := 3) (s := 4) rfl agg_dg _ (by rfl) (M18.out.heap (.head _)) rfl))
    · have hyes : cpS l = some (gg, a) := hcs.out
      replace hyes := hid hyes
      clear hcs
      go_wp2_with (first
        | ((with_reducible refine gate (N := 259) rfl ?_); refine wpList_run rfl (exec_load_agg agg_dg rfl rfl MT.out (g := m) (t := 52) (cs := dA gx (.slice (some ⟨g3, 0, none⟩) (t + 1) cp) (.slice none 0 0)) (vs := (dA gx (.slice (some ⟨g3, 0, none⟩) (t + 1) cp) (.slice none 0 0)).toList) (by simp) rfl rfl) ?_)
        | (go_at_call 19; (with_reducible refine hRt.out.mono ?_); rintro _ w8 ⟨_, rfl, rfl, hb⟩; (have M8 := hid (MT.out.keep hb)); clear hb)
        | ((with_reducible refine gate (N := 263) rfl ?_); refine wpList_run rfl (exec_load_agg agg_dg rfl rfl M8.out (g := m) (t := 52) (cs := dA gx (.slice (some ⟨g3, 0, none⟩) (t + 1) cp) (.slice none 0 0)) (vs := (dA gx (.slice (some ⟨g3, 0, none⟩) (t + 1) cp) (.slice none 0 0)).toList) (by simp) rfl rfl) ?_)
        | ((with_reducible refine gateSt (t := 52) (p := 2) rfl ?_); refine wpList_store_all (n := 6) (L1 := [.row 5 1 (.slice none 0 0) 0 (ints .u8 pr), .row 82 8 (.slice (some ⟨g3, 0, none⟩) (t + 1) cp) (t + 1) (dtC done), .blk m 52 (dA gx (.slice (some ⟨g3, 0, none⟩) (t + 1) cp) (.slice none 0 0))]) (mid := dNil.toList) (vs := (dA gx (.slice (some ⟨g3, 0, none⟩) (t + 1) cp) (.slice none 0 0)).toList) rfl rfl (by kernel_rfl) rfl rfl rfl rfl rfl (one_all rfl) M8.out ?_; intro w18 M; (have M18 := hid M); clear M)
        | (refine bodyPost_ret (v := .tuple #[.agg (dA gx (.slice (some ⟨g3, 0, none⟩) (t + 1) cp) (.slice none 0 0)), .int .i64 ((a : Nat) : Int), .bool true]) ?_ rfl (Ret.mk (.inl ⟨gg, a, .slice (some ⟨g3, 0, none⟩) (t + 1) cp, .slice none 0 0, hyes.out, by rw [hdA.out], by rw [hgp.out.1, hgp.out.2, hdl.out, hpk.out]; exact (M18.out.sub (L' := [.row 5 1 (.slice none 0 0) 0 (ints .u8 pr), .row 82 8 (.slice (some ⟨g3, 0, none⟩) (t + 1) cp) (t + 1) (dtC done)]) (by simp)).swap⟩)); exact results_agg_tmps2 (p := 2) (q := 3) (s := 4) rfl agg_dg _ (by rfl) (M18.out.heap (g := m0) (t := 52) (by simp)) rfl))
  · obtain ⟨z, hz⟩ : ∃ z : Nat, n2 l a = z := ⟨(n2 l a).toNat, by have := n2_bound hBH.out a; omega⟩
    have hzb : z < 65536 := by have := n2_bound hBH.out a; omega
    have hNa := hid (fun w1 (h : Below w.heap.size w w1) => show Calls Try.prog 50 #[.slice A n C, .int .i64 (a : Int)] w1 (Ret fun r w' => r = .tuple #[.int .i64 z, .bool (decide (a + 2 ≤ n))] ∧ Below w1.heap.size w1 w') from hz ▸ hN2.out w1 h a (by omega))
    have wa2 : IntKind.i64.wrap ((a : Int) + 2) = (a : Int) + 2 := IntWalk.i64_in _ (by omega)
    have waz : IntKind.i64.wrap ((a : Int) + 2 + (z : Int)) = (a : Int) + 2 + (z : Int) := IntWalk.i64_in _ (by omega)
    have hts := hid (show tailS l done a = if a + 2 + z ≤ n then some (boxS l done ((l.drop (a + 2)).take z), a + 2 + z) else none by unfold tailS; rw [hcl.out, if_pos rfl, hz, hlnH.out]; rfl)
    by_cases hzn : a + 2 + z ≤ n
    · have hda : decide (a + 2 ≤ n) = true := decide_eq_true (by omega)
      rw [hda] at hNa
      have hT := hid (fun w1 => show Calls Try.prog 49 #[.slice A n C, .int .i64 ((a : Int) + 2), .int .i64 (z : Int)] w1 _ from take_yes w1 (at_ := a + 2) (k := z) hc1 hm1 hn hzn)
      have hQS := hid (fun w1 (h : Below w.heap.size w w1) => cutS (hS.out w1 h) (at_ := a + 2) (k := z) hzn)
      have hpk := hid (show ((l.drop (a + 2)).take z).length = z by rw [List.length_take, List.length_drop, hlnH.out]; omega)
      have hcs := hid (show cpS l = if cgR (boxS l done ((l.drop (a + 2)).take z)) then some (boxS l done ((l.drop (a + 2)).take z), a + 2 + z) else none by rw [hct.out, hts.out, if_pos hzn]; rfl)
      have hgO := hid (show (boxS l done ((l.drop (a + 2)).take z)).Ok from ⟨hs16 2, hs16 4, hs16 6, hs16 8, hdo.out, (hBH.out.drop _).take _⟩)
      generalize (l.drop (a + 2)).take z = pr at *
      obtain ⟨QA, hQA⟩ : ∃ x, cutV A C (a + 2) = x := ⟨_, rfl⟩
      obtain ⟨QC, hQC⟩ : ∃ x, C - (a + 2) = x := ⟨_, rfl⟩
      rw [hQA, hQC] at hQS hT
      have hQb := hid (fun w1 (h : Below w.heap.size w w1) => show BytesAt w1 (.slice QA z QC) pr by unfold BytesAt; rw [hpk.out]; exact hQS.out w1 h)
      clear hQA hQC hct hts hcl hs16 hz hda hQS
      go_upto_region 55 with (first
        | (go_at_call 40; (with_reducible refine (hHs.out _).mono ?_); rintro _ wr ⟨_, rfl, rfl, rfl⟩)
        | (go_at_call 50; (with_reducible refine (hNa.out _ MR.out.below).mono ?_); rintro _ w5 ⟨_, rfl, rfl, hb⟩; (have M5 := hid (MR.out.keep hb)); clear hb)
        | (go_at_call 49; (with_reducible refine (hT.out _).mono ?_); rintro _ w5 ⟨_, rfl, rfl, rfl⟩)
        | (go_at_call 21; (have hC := join1_calls w5 (v1 := .slice QA z QC) (p := pr) (n := z) (hQb.out w5 M5.out.below) hpk.out (by omega)); ((with_reducible refine hC.mono ?_); clear hC); rintro _ w6 ⟨_, rfl, M⟩; obtain ⟨A6, c6, rfl⟩ := M.form (.head _); (have M6 := hid (M5.out.lift M)); clear M d4 kc; obtain ⟨-, d5⟩ := d_cells (m := m) (g := gx) (vp := .slice (some ⟨g3, 0, none⟩) (t + 1) cp) (vg := .slice none 0 0) M6.out (by simp); obtain ⟨-, f5⟩ := d_free (m := m) (g := gx) (vp := .slice (some ⟨g3, 0, none⟩) (t + 1) cp) (vg := .slice none 0 0) M6.out (by simp); (have MT : Hid (Own w (w6.setCell ⟨m, 5, none⟩ (.slice A6 z c6)) [.row 5 1 (.slice A6 z c6) z (ints .u8 pr), .row 82 8 (.slice (some ⟨g3, 0, none⟩) (t + 1) cp) (t + 1) (dtC done), .blk m 52 (dA gx (.slice (some ⟨g3, 0, none⟩) (t + 1) cp) (.slice A6 z c6)), .blk m0 52 dNil]) := hid (M6.out.set (L1 := [_, _]) 5 (.slice A6 z c6)))))
      rw [show (a : Int) + 2 + (z : Int) = ((a + 2 + z : Nat) : Int) by omega]
      clear d5 f5 M5 M6
      revert MT
      generalize w6.setCell ⟨m, 5, none⟩ (.slice A6 z c6) = w7
      intro MT
      clear hNa hT hQb hHs wa2 waz wt1
      obtain ⟨gg, hgg⟩ : ∃ gg, boxS l done pr = gg := ⟨_, rfl⟩
      have hgp : gg.parts = done ∧ gg.prog = pr := by rw [← hgg]; exact ⟨rfl, rfl⟩
      have hdA : ∀ vp vg, dA gg vp vg = dA gx vp vg := fun vp vg => by rw [← hgg, ← hgx.out]; rfl
      rw [hgg] at hcs hgO
      have hRt := hid (refRight_calls w7 hgO.out (vp := .slice (some ⟨g3, 0, none⟩) (t + 1) cp) (vg := .slice A6 z c6) ⟨by rw [hgp.1, hdl.out]; exact MT.out.slice (e := 82) (by simp), by rw [hgp.2]; exact MT.out.bytes (e := 5) (by simp) hpk.out⟩)
      rw [hdA] at hRt
      obtain ⟨rg, hrg⟩ : ∃ b, cgR gg = b := ⟨_, rfl⟩
      rw [hrg] at hRt hcs
      replace hdA := hid hdA
      replace hgp := hid hgp
      clear hgg hrg
      have MF' := hid (MT.out.sub (L' := [.blk m0 52 dNil]) (by simp))
      cases rg
      · have hnone : cpS l = none := hcs.out
        clear hcs
        go_upto_region 56 with (first
          | ((with_reducible refine gate (N := 259) rfl ?_); refine wpList_run rfl (exec_load_agg agg_dg rfl rfl MT.out (g := m) (t := 52) (cs := dA gx (.slice (some ⟨g3, 0, none⟩) (t + 1) cp) (.slice A6 z c6)) (vs := (dA gx (.slice (some ⟨g3, 0, none⟩) (t + 1) cp) (.slice A6 z c6)).toList) (by simp) rfl rfl) ?_)
          | (go_at_call 19; (with_reducible refine hRt.out.mono ?_); rintro _ w8 ⟨_, rfl, rfl, hb⟩; (have MF := hid (MF'.out.keep hb)); clear hb))
        go_wp2_with (first
          | ((with_reducible refine gateSt (t := 52) (p := 2) rfl ?_); refine wpList_store_all (n := 6) (L1 := []) (mid := dNil.toList) (vs := dNil.toList) rfl rfl (by kernel_rfl) rfl rfl rfl rfl rfl (one_all rfl) MF.out ?_; intro w18 M; (have M18 := hid M); clear M)
          | (refine bodyPost_ret (v := .tuple #[.agg dNil, .int .i64 0, .bool false]) ?_ rfl (Ret.mk (.inr ⟨hnone, rfl, M18.out.below⟩)); exact results_agg_tmps2 (p := 2) (q := 3) (s := 4) rfl agg_dg _ (by rfl) (M18.out.heap (.head _)) rfl))
      · have hyes : cpS l = some (gg, (a + 2 + z)) := hcs.out
        replace hyes := hid hyes
        clear hcs
        go_wp2_with (first
          | ((with_reducible refine gate (N := 259) rfl ?_); refine wpList_run rfl (exec_load_agg agg_dg rfl rfl MT.out (g := m) (t := 52) (cs := dA gx (.slice (some ⟨g3, 0, none⟩) (t + 1) cp) (.slice A6 z c6)) (vs := (dA gx (.slice (some ⟨g3, 0, none⟩) (t + 1) cp) (.slice A6 z c6)).toList) (by simp) rfl rfl) ?_)
          | (go_at_call 19; (with_reducible refine hRt.out.mono ?_); rintro _ w8 ⟨_, rfl, rfl, hb⟩; (have M8 := hid (MT.out.keep hb)); clear hb)
          | ((with_reducible refine gate (N := 263) rfl ?_); refine wpList_run rfl (exec_load_agg agg_dg rfl rfl M8.out (g := m) (t := 52) (cs := dA gx (.slice (some ⟨g3, 0, none⟩) (t + 1) cp) (.slice A6 z c6)) (vs := (dA gx (.slice (some ⟨g3, 0, none⟩) (t + 1) cp) (.slice A6 z c6)).toList) (by simp) rfl rfl) ?_)
          | ((with_reducible refine gateSt (t := 52) (p := 2) rfl ?_); refine wpList_store_all (n := 6) (L1 := [.row 5 1 (.slice A6 z c6) z (ints .u8 pr), .row 82 8 (.slice (some ⟨g3, 0, none⟩) (t + 1) cp) (t + 1) (dtC done), .blk m 52 (dA gx (.slice (some ⟨g3, 0, none⟩) (t + 1) cp) (.slice A6 z c6))]) (mid := dNil.toList) (vs := (dA gx (.slice (some ⟨g3, 0, none⟩) (t + 1) cp) (.slice A6 z c6)).toList) rfl rfl (by kernel_rfl) rfl rfl rfl rfl rfl (one_all rfl) M8.out ?_; intro w18 M; (have M18 := hid M); clear M)
          | (refine bodyPost_ret (v := .tuple #[.agg (dA gx (.slice (some ⟨g3, 0, none⟩) (t + 1) cp) (.slice A6 z c6)), .int .i64 (((a + 2 + z) : Nat) : Int), .bool true]) ?_ rfl (Ret.mk (.inl ⟨gg, (a + 2 + z), .slice (some ⟨g3, 0, none⟩) (t + 1) cp, .slice A6 z c6, hyes.out, by rw [hdA.out], by rw [hgp.out.1, hgp.out.2, hdl.out, hpk.out]; exact (M18.out.sub (L' := [.row 5 1 (.slice A6 z c6) z (ints .u8 pr), .row 82 8 (.slice (some ⟨g3, 0, none⟩) (t + 1) cp) (t + 1) (dtC done)]) (by simp)).swap⟩)); exact results_agg_tmps2 (p := 2) (q := 3) (s := 4) rfl agg_dg _ (by rfl) (M18.out.heap (g := m0) (t := 52) (by simp)) rfl))
    · have hnone : cpS l = none := by rw [hct.out, hts.out, if_neg hzn]; rfl
      have hT := hid (fun w1 => show Calls Try.prog 49 #[.slice A n C, .int .i64 ((a : Int) + 2), .int .i64 (z : Int)] w1 _ from take_no w1 (at_ := a + 2) (k := z) hn (by omega) (by omega) (by omega))
      have MF' := hid (MR.out.sub (L' := [.blk m0 52 dNil]) (by simp))
      clear hct hts hcl hs16 hz
      generalize decide (a + 2 ≤ n) = da at *
      cases da
      · go_upto_region 53 with (first
          | (go_at_call 40; (with_reducible refine (hHs.out _).mono ?_); rintro _ wr ⟨_, rfl, rfl, rfl⟩)
          | (go_at_call 50; (with_reducible refine (hNa.out _ MR.out.below).mono ?_); rintro _ w5 ⟨_, rfl, rfl, hb⟩; (have MF := hid (MF'.out.keep hb)); clear hb)
          | (go_at_call 49; (with_reducible refine (hT.out _).mono ?_); rintro _ w5 ⟨_, rfl, rfl, rfl⟩))
        go_wp2_with (first
          | ((with_reducible refine gateSt (t := 52) (p := 2) rfl ?_); refine wpList_store_all (n := 6) (L1 := []) (mid := dNil.toList) (vs := dNil.toList) rfl rfl (by kernel_rfl) rfl rfl rfl rfl rfl (one_all rfl) MF.out ?_; intro w18 M; (have M18 := hid M); clear M)
          | (refine bodyPost_ret (v := .tuple #[.agg dNil, .int .i64 0, .bool false]) ?_ rfl (Ret.mk (.inr ⟨hnone, rfl, M18.out.below⟩)); exact results_agg_tmps2 (p := 2) (q := 3) (s := 4) rfl agg_dg _ (by rfl) (M18.out.heap (.head _)) rfl))
      · go_upto_region 53 with (first
          | (go_at_call 40; (with_reducible refine (hHs.out _).mono ?_); rintro _ wr ⟨_, rfl, rfl, rfl⟩)
          | (go_at_call 50; (with_reducible refine (hNa.out _ MR.out.below).mono ?_); rintro _ w5 ⟨_, rfl, rfl, hb⟩; (have MF := hid (MF'.out.keep hb)); clear hb)
          | (go_at_call 49; (with_reducible refine (hT.out _).mono ?_); rintro _ w5 ⟨_, rfl, rfl, rfl⟩))
        go_wp2_with (first
          | ((with_reducible refine gateSt (t := 52) (p := 2) rfl ?_); refine wpList_store_all (n := 6) (L1 := []) (mid := dNil.toList) (vs := dNil.toList) rfl rfl (by kernel_rfl) rfl rfl rfl rfl rfl (one_all rfl) MF.out ?_; intro w18 M; (have M18 := hid M); clear M)
          | (refine bodyPost_ret (v := .tuple #[.agg dNil, .int .i64 0, .bool false]) ?_ rfl (Ret.mk (.inr ⟨hnone, rfl, M18.out.below⟩)); exact results_agg_tmps2 (p := 2) (q := 3) (s := 4) rfl agg_dg _ (by rfl) (M18.out.heap (.head _)) rfl))
end Go.Proofs.Yteoicpbfjkjogaa
