/- Layer 13: any glyph that may be has the document's bytes (CompoForms). -/
import Derived.Test.YteoicpbfjkjogaaCompQ
import Derived.Test.YteoicpbfjkjogaaCompR
import Derived.Test.YteoicpbfjkjogaaCompP
import Derived.Test.YteoicpbfjkjogaaLaw13B
namespace Go.Proofs.Yteoicpbfjkjogaa
open Go Go.RowKit
set_option linter.unusedVariables false
set_option linter.unusedSimpArgs false
set_option maxRecDepth 100000

set_option maxHeartbeats 8000000 in
theorem compoForms_calls (w : World) {g0 : Cg} {vp0 vg0 V : Value} {more : List Int} (hO0 : g0.Ok) (hG0 : CAt w g0 vp0 vg0) (h4 : BytesAt w V more) (hM : Bytes more) :
    Calls Try.prog 7 #[.agg (cA g0 vp0 vg0), V] w (Ret fun r w' => r = .bool true ∧ Below w.heap.size w w') := by
  have M0 := hid (Own.start w)
  have hFew := hid (fun w1 (h : Below w.heap.size w w1) => few_calls w1 hO0 (hG0.below h))
  have hCut := hid (fun w1 (h : Below w.heap.size w w1) => cut_calls w1 20 (by omega) (h4.below h) (by omega))
  obtain ⟨A4, c4, rfl, -⟩ := h4
  obtain ⟨A1, c1, rfl, -⟩ := hG0.p
  obtain ⟨A2, c2, rfl, -⟩ := hG0.g
  obtain ⟨nm, hnm⟩ : ∃ n, (more.take 20).length = n := ⟨_, rfl⟩
  have hnmb : nm ≤ 20 := by rw [← hnm, List.length_take]; omega
  have hMb := hid (hM.take 20)
  rw [hnm] at hCut
  generalize more.take 20 = mo at *
  replace hnm := hid hnm
  clear hM hO0 hG0
  go_enter Try.func7, Try.ntmps7
  go_upto_region 4 with (first
    | ((with_reducible refine gate (N := 2) rfl ?_); refine wpList_box_Own rfl (cs := cA g0 (.slice A1 g0.parts.length c1) (.slice A2 g0.prog.length c2)) (t := 29) (by first | (go_simp; done) | (go_simp; rfl)) M0.out ?_; intro m w1 M; (have M1 := hid M); clear M)
    | (go_at_call 9; refine (awake_calls _).mono ?_; rintro _ w2 ⟨_, rfl, rfl, hb⟩; ((have M2 := hid (M1.out.keep hb))); (clear hb))
    | ((with_reducible refine gate (N := 11) rfl ?_); refine wpList_run rfl (exec_load_agg agg_cg rfl rfl M2.out (g := m) (t := 29) (cs := cA g0 (.slice A1 g0.parts.length c1) (.slice A2 g0.prog.length c2)) (vs := (cA g0 (.slice A1 g0.parts.length c1) (.slice A2 g0.prog.length c2)).toList) (by simp) rfl rfl) ?_)
    | (go_at_call 15; (with_reducible refine (hFew.out _ M2.out.below).mono ?_); rintro _ w3 ⟨_, rfl, hMd⟩; obtain ⟨g, vp, vg, hO, hbs, hbp, rfl, M⟩ := hMd; obtain ⟨Ag, cg, rfl⟩ := M.form (.head _); obtain ⟨Ap, cp, rfl⟩ := M.form (.tail _ (.head _)); (replace hO := hid hO); ((have M3 := hid (M2.out.lift M))); (clear M))
    | (go_at_call 10; refine (hCut.out _ M3.out.below).mono ?_; rintro _ w4 ⟨_, rfl, M⟩; obtain ⟨Am, cm, rfl⟩ := M.form (.head _); (have M4 := hid (M3.out.lift M)); clear M)
    | ((with_reducible refine gateSt (t := 29) (p := 2) rfl ?_); refine wpList_store_all (n := 6) (L1 := [.row 5 1 (.slice Am nm cm) nm (ints .u8 mo), .row 5 1 (.slice Ag g.prog.length cg) g.prog.length (ints .u8 g.prog), .row 35 8 (.slice Ap g.parts.length cp) g.parts.length (ptC g.parts)]) (mid := (cA g0 (.slice A1 g0.parts.length c1) (.slice A2 g0.prog.length c2)).toList) (vs := (cA g (.slice Ap g.parts.length cp) (.slice Ag g.prog.length cg)).toList) rfl rfl (by kernel_rfl) rfl rfl rfl rfl rfl (one_all rfl) M4.out ?_; intro w6 M; (have M6 := hid M); clear M))
  clear hFew hCut M1 M2 M3 M4 M0
  have hGof := hid (fun (w1 : World) (L' : List Ent) (M : Own w w1 L') (h1 : .row 35 8 (.slice Ap g.parts.length cp) g.parts.length (ptC g.parts) ∈ L') (h2 : .row 5 1 (.slice Ag g.prog.length cg) g.prog.length (ints .u8 g.prog) ∈ L') => show CAt w1 g (.slice Ap g.parts.length cp) (.slice Ag g.prog.length cg) from ⟨M.slice h1, M.slice h2⟩)
  cases hR : cgR g
  · replace hR := hid hR
    go_wp2_with (first
      | ((with_reducible refine gate (N := 15) rfl ?_); refine wpList_run rfl (exec_load_agg agg_cg rfl rfl M6.out (g := m) (t := 29) (cs := cA g (.slice Ap g.parts.length cp) (.slice Ag g.prog.length cg)) (vs := (cA g (.slice Ap g.parts.length cp) (.slice Ag g.prog.length cg)).toList) (by simp) rfl rfl) ?_)
      | (go_at_call 13; (have hC := cBytes_no w6 hO.out (hGof.out _ _ M6.out (by simp) (by simp)) hR.out); ((with_reducible refine hC.mono ?_); clear hC); rintro _ w7 ⟨_, rfl, M⟩; obtain ⟨A7, c7, rfl⟩ := M.form (.head _); (have M7 := hid (M6.out.lift M)); clear M)
      | ((with_reducible refine gate (N := 17) rfl ?_); refine wpList_run rfl (exec_load_agg agg_cg rfl rfl M7.out (g := m) (t := 29) (cs := cA g (.slice Ap g.parts.length cp) (.slice Ag g.prog.length cg)) (vs := (cA g (.slice Ap g.parts.length cp) (.slice Ag g.prog.length cg)).toList) (by simp) rfl rfl) ?_)
      | (go_at_call 20; (have hC := own_calls w7 hO.out (hGof.out _ _ M7.out (by simp) (by simp)) (by omega)); ((with_reducible refine hC.mono ?_); clear hC); rintro _ w8 ⟨_, rfl, va, rfl, M⟩; obtain ⟨Xa, xa, rfl⟩ := M.form (.head _); (have M8 := hid (M7.out.lift M)); clear M)
      | (go_at_call 19; (have hC := refRight_calls w8 (g := g) (vp := .slice Xa g.parts.length xa) (vg := .slice Ag g.prog.length cg) hO.out ⟨M8.out.slice (e := 82) (by simp), M8.out.slice (e := 5) (by simp)⟩); rw [hR.out] at hC; ((with_reducible refine hC.mono ?_); clear hC); rintro _ w9 ⟨_, rfl, rfl, hb⟩; (have M9 := hid (M8.out.keep hb)); clear hb)
      | ((with_reducible refine gate (N := 21) rfl ?_); refine wpList_run rfl (exec_load_agg agg_cg rfl rfl M9.out (g := m) (t := 29) (cs := cA g (.slice Ap g.parts.length cp) (.slice Ag g.prog.length cg)) (vs := (cA g (.slice Ap g.parts.length cp) (.slice Ag g.prog.length cg)).toList) (by simp) rfl rfl) ?_)
      | (go_at_call 12; (have hC := cRight_calls w9 hO.out (hGof.out _ _ M9.out (by simp) (by simp))); rw [hR.out] at hC; ((with_reducible refine hC.mono ?_); clear hC); rintro _ w10 ⟨_, rfl, rfl, hb⟩; (have M10 := hid (M9.out.keep hb)); clear hb))
    go_ret
    exact .mk ⟨rfl, M10.out.below⟩
  · replace hR := hid hR
    have hps := hid (cpS_cgB hO.out hR.out mo)
    have hlb := cgB_length g
    have hBy := hid (bytes_cgB (g := g) hO.out.pr)
    have hYes := hid (fun w1 (h : CAt w1 g (.slice Ap g.parts.length cp) (.slice Ag g.prog.length cg)) => cBytes_yes w1 hO.out h hR.out)
    have hRef := hid (fun w1 (Xa : Option Addr) (xa : Nat) (h : DAt w1 g (.slice Xa g.parts.length xa) (.slice Ag g.prog.length cg)) => refBytes_calls w1 hO.out h hR.out)
    obtain ⟨LB, hLB⟩ : ∃ LB, cgB g = LB := ⟨_, rfl⟩
    rw [hLB] at hps hlb hBy hYes hRef
    obtain ⟨nb, hnb⟩ : ∃ n, LB.length = n := ⟨_, rfl⟩
    rw [hnb] at hlb hps hYes hRef
    replace hnb := hid hnb
    clear hLB
    have hLM := hid (show (LB ++ mo).length = nb + nm by rw [List.length_append, hnb.out, hnm.out])
    go_wp2_with (first
      | ((with_reducible refine gate (N := 15) rfl ?_); refine wpList_run rfl (exec_load_agg agg_cg rfl rfl M6.out (g := m) (t := 29) (cs := cA g (.slice Ap g.parts.length cp) (.slice Ag g.prog.length cg)) (vs := (cA g (.slice Ap g.parts.length cp) (.slice Ag g.prog.length cg)).toList) (by simp) rfl rfl) ?_)
      | (go_at_call 13; (have hC := hYes.out w6 (hGof.out _ _ M6.out (by simp) (by simp))); ((with_reducible refine hC.mono ?_); clear hC); rintro _ w7 ⟨_, rfl, M⟩; obtain ⟨A7, c7, rfl⟩ := M.form (.head _); (have M7 := hid (M6.out.lift M)); clear M)
      | ((with_reducible refine gate (N := 17) rfl ?_); refine wpList_run rfl (exec_load_agg agg_cg rfl rfl M7.out (g := m) (t := 29) (cs := cA g (.slice Ap g.parts.length cp) (.slice Ag g.prog.length cg)) (vs := (cA g (.slice Ap g.parts.length cp) (.slice Ag g.prog.length cg)).toList) (by simp) rfl rfl) ?_)
      | (go_at_call 20; (have hC := own_calls w7 hO.out (hGof.out _ _ M7.out (by simp) (by simp)) (by omega)); ((with_reducible refine hC.mono ?_); clear hC); rintro _ w8 ⟨_, rfl, va, rfl, M⟩; obtain ⟨Xa, xa, rfl⟩ := M.form (.head _); (have M8 := hid (M7.out.lift M)); clear M)
      | (go_at_call 19; (have hC := refRight_calls w8 (g := g) (vp := .slice Xa g.parts.length xa) (vg := .slice Ag g.prog.length cg) hO.out ⟨M8.out.slice (e := 82) (by simp), M8.out.slice (e := 5) (by simp)⟩); rw [hR.out] at hC; ((with_reducible refine hC.mono ?_); clear hC); rintro _ w9 ⟨_, rfl, rfl, hb⟩; (have M9 := hid (M8.out.keep hb)); clear hb)
      | (go_at_call 21; (have hC := join2_calls w9 (v1 := .slice A7 nb c7) (v2 := .slice Am nm cm) (p := LB) (q := mo) (n := nb + nm) (M9.out.bytes (e := 5) (n := nb) (by simp) hnb.out) (M9.out.bytes (e := 5) (n := nm) (by simp) hnm.out) (by rw [hnb.out, hnm.out]) (by omega)); ((with_reducible refine hC.mono ?_); clear hC); rintro _ w10 ⟨_, rfl, M⟩; obtain ⟨Aj, cj, rfl⟩ := M.form (.head _); (have M10 := hid (M9.out.lift M)); clear M)
      | (go_at_call 23; (have hC := cParse_some (w := w10) (V := .slice Aj (nb + nm) cj) (l := LB ++ mo) (g := g) (n := nb) (M10.out.bytes (e := 5) (n := nb + nm) (by simp) hLM.out) (hBy.out.append hMb.out) (by rw [hLM.out]; omega) hps.out); ((with_reducible refine hC.mono ?_); clear hC); rintro _ w11 ⟨_, rfl, vp2, vg2, -, rfl, M⟩; obtain ⟨Bp, dp, rfl⟩ := M.form (.head _); obtain ⟨Bg, dg, rfl⟩ := M.form (.tail _ (.head _)); (have M11 := hid (M10.out.lift M)); clear M)
      | ((with_reducible refine gate (N := 6) rfl ?_); refine wpList_box_Own rfl (cs := cNil) (t := 29) (by first | (go_simp; done) | (go_simp; rfl)) M11.out ?_; intro q w12 M; (have M12 := hid M); clear M)
      | ((with_reducible refine gateSt (t := 29) (p := 6) rfl ?_); refine wpList_store_all (n := 6) (L1 := []) (mid := cNil.toList) (vs := (cA g (.slice Bp g.parts.length dp) (.slice Bg g.prog.length dg)).toList) rfl rfl (by kernel_rfl) rfl rfl rfl rfl rfl (one_all rfl) M12.out ?_; intro w13 M; (have M13 := hid M); clear M)
      | ((with_reducible refine gate (N := 38) rfl ?_); refine wpList_run rfl (exec_load_agg agg_cg rfl rfl M13.out (g := m) (t := 29) (cs := cA g (.slice Ap g.parts.length cp) (.slice Ag g.prog.length cg)) (vs := (cA g (.slice Ap g.parts.length cp) (.slice Ag g.prog.length cg)).toList) (by simp) rfl rfl) ?_)
      | (go_at_call 12; (have hC := cRight_calls w13 hO.out (hGof.out _ _ M13.out (by simp) (by simp))); rw [hR.out] at hC; ((with_reducible refine hC.mono ?_); clear hC); rintro _ w14 ⟨_, rfl, rfl, hb⟩; (have M14 := hid (M13.out.keep hb)); clear hb)
      | ((with_reducible refine gate (N := 42) rfl ?_); refine wpList_run rfl (exec_load_agg agg_cg rfl rfl M14.out (g := m) (t := 29) (cs := cA g (.slice Ap g.parts.length cp) (.slice Ag g.prog.length cg)) (vs := (cA g (.slice Ap g.parts.length cp) (.slice Ag g.prog.length cg)).toList) (by simp) rfl rfl) ?_)
      | (go_at_call 20; (have hC := own_calls w14 hO.out (hGof.out _ _ M14.out (by simp) (by simp)) (by omega)); ((with_reducible refine hC.mono ?_); clear hC); rintro _ w15 ⟨_, rfl, va2, rfl, M⟩; obtain ⟨Ya, ya, rfl⟩ := M.form (.head _); (have M15 := hid (M14.out.lift M)); clear M)
      | (go_at_call 22; (have hC := hRef.out w15 Ya ya ⟨M15.out.slice (e := 82) (by simp), M15.out.slice (e := 5) (by simp)⟩); ((with_reducible refine hC.mono ?_); clear hC); rintro _ w16 ⟨_, rfl, M⟩; obtain ⟨A16, c16, rfl⟩ := M.form (.head _); (have M16 := hid (M15.out.lift M)); clear M)
      | (go_at_call 18; (have hC := same_true w16 (v1 := .slice A7 nb c7) (v2 := .slice A16 nb c16) (xs := LB) (M16.out.bytes (e := 5) (n := nb) (by simp) hnb.out) (M16.out.bytes (e := 5) (n := nb) (by simp) hnb.out)); ((with_reducible refine hC.mono ?_); clear hC); rintro _ w17 ⟨_, rfl, rfl, hb⟩; (have M17 := hid (M16.out.keep hb)); clear hb)
      | ((with_reducible refine gate (N := 58) rfl ?_); refine wpList_run rfl (exec_load_agg agg_cg rfl rfl M17.out (g := q) (t := 29) (cs := cA g (.slice Bp g.parts.length dp) (.slice Bg g.prog.length dg)) (vs := (cA g (.slice Bp g.parts.length dp) (.slice Bg g.prog.length dg)).toList) (by simp) rfl rfl) ?_)
      | ((with_reducible refine gate (N := 59) rfl ?_); refine wpList_run rfl (exec_load_agg agg_cg rfl rfl M17.out (g := m) (t := 29) (cs := cA g (.slice Ap g.parts.length cp) (.slice Ag g.prog.length cg)) (vs := (cA g (.slice Ap g.parts.length cp) (.slice Ag g.prog.length cg)).toList) (by simp) rfl rfl) ?_)
      | (go_at_call 17; (have hC := same_calls13 w17 (g := g) (vp := .slice Bp g.parts.length dp) (vg := .slice Bg g.prog.length dg) ⟨M17.out.slice (e := 35) (by simp), M17.out.slice (e := 5) (by simp)⟩ (hGof.out _ _ M17.out (by simp) (by simp))); ((with_reducible refine hC.mono ?_); clear hC); rintro _ w18 ⟨_, rfl, rfl, hb⟩; (have M18 := hid (M17.out.keep hb)); clear hb))
    go_ret
    exact .mk ⟨rfl, M18.out.below⟩
end Go.Proofs.Yteoicpbfjkjogaa
