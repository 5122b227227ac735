/- Layer 12: any outline that may be has the document's bytes (SimpleForms). -/
import Derived.Test.YtmmepjcndofnbaaSimpXb
import Derived.Test.YtmmepjcndofnbaaSimpZb
namespace Go.Proofs.Ytmmepjcndofnbaa
open Go Go.RowKit
set_option linter.unusedVariables false
set_option linter.unusedSimpArgs false
set_option maxRecDepth 100000

theorem sgB_len (g : Sg) : (sgB g).length ≤ 12 + 2 * g.ends.length + g.prog.length + 6 * g.pts.length := by
  have h1 := xsK_length g.pts g.pts.length
  have h2 := ysK_length g.pts g.pts.length
  have h3 := rowsF_length (flsK g.pts g.pts.length).length (flsK g.pts g.pts.length)
  rw [flsK_length] at h3
  have e1 := flatN_length s2 s2_length g.box
  have e2 := flatN_length _root_.Go.Proofs.Ytmmepjcndofnbaa.b2 b2_length g.ends
  have e3 : g.box.length = 4 := rfl
  unfold sgB hdB rowsB
  simp only [List.length_append, b2_length, flsK_length]
  omega
set_option maxHeartbeats 8000000 in
theorem simpleForms_calls (w : World) {a b c d : Int} {V1 V2 V3 V4 : Value} {ps : List (Int × Int × Bool)} {zs xs more : List Int} (ha : I16 a) (hb : I16 b) (hc : I16 c) (hd : I16 d)
    (h1 : SliceAt w w.heap.size 3 V1 ps.length (spC ps)) (hp : ∀ p ∈ ps, I16 p.1 ∧ I16 p.2.1) (h2 : BytesAt w V2 zs) (hZ : Bytes zs) (h3 : BytesAt w V3 xs) (hB : Bytes xs) (h4 : BytesAt w V4 more) (hM : Bytes more) :
    Calls Try.prog 8 #[.agg #[.int .i16 a, .int .i16 b, .int .i16 c, .int .i16 d], V1, V2, V3, V4] w (Ret fun r w' => r = .bool true ∧ Below w.heap.size w w') := by
  have M0 := hid (Own.start w)
  have hMade := hid (fun w1 (h : Below w.heap.size w w1) => made_calls w1 ha hb hc hd (h1.below h) hp (h2.below h) hZ (h3.below h) hB)
  have hCut := hid (fun w1 (h : Below w.heap.size w w1) => cut_calls w1 20 (by omega) (h4.below h) (by omega))
  obtain ⟨A1, c1, rfl, -⟩ := h1
  obtain ⟨A2, c2, rfl, -⟩ := h2
  obtain ⟨A3, c3, rfl, -⟩ := h3
  obtain ⟨A4, c4, rfl, -⟩ := h4
  obtain ⟨nm, hnm⟩ : ∃ n, (more.take 20).length = n := ⟨_, rfl⟩
  have hnmb : nm ≤ 20 := by rw [← hnm, List.length_take]; omega
  have hMb := hid (hM.take 20)
  have hxb : (xs.take 30).length ≤ 30 := by rw [List.length_take]; omega
  have hpb : (ps.take 300).length ≤ 300 := by rw [List.length_take]; omega
  rw [hnm] at hCut
  generalize more.take 20 = mo at *
  generalize xs.take 30 = pr at *
  generalize ps.take 300 = qs at *
  replace hnm := hid hnm
  clear hp hZ hB hM ha hb hc hd
  go_enter Try.func8, Try.ntmps8
  go_upto_region 4 with (first
    | ((with_reducible refine gate (N := 5) rfl ?_); refine wpList_box_Own rfl (cs := #[.int .i16 a, .int .i16 b, .int .i16 c, .int .i16 d]) (t := 26) (by first | (go_simp; done) | (go_simp; rfl)) M0.out ?_; intro x w1 M; (have M1 := hid M); clear M)
    | (go_at_call 9; refine (awake_calls _).mono ?_; rintro _ w2 ⟨_, rfl, rfl, hb⟩; ((have M2 := hid (M1.out.keep hb))); (clear hb); obtain ⟨b0, b1, b2, b3⟩ := b4_cells (p := x) (a := a) (b := b) (c := c) (d := d) M2.out (by simp))
    | (go_at_call 10; (with_reducible refine (hMade.out _ M2.out.below).mono ?_); rintro _ w3 ⟨_, rfl, hMd⟩; obtain ⟨g, ve, vp, vs, hO, -, -, -, -, hgp, hgs, hel, rfl, M⟩ := hMd; obtain ⟨Ae, ce, rfl⟩ := M.form (.head _); obtain ⟨Ap, cp, rfl⟩ := M.form (.tail _ (.head _)); obtain ⟨As, cs, rfl⟩ := M.form (.tail _ (.tail _ (.head _))); ((have hbp : g.prog.length ≤ 30 := by rw [hgp]; exact hxb)); ((have hbs : g.pts.length ≤ 300 := by rw [hgs]; exact hpb)); (clear hgp hgs b0 b1 b2 b3); (replace hO := hid hO); ((have M3 := hid (M2.out.lift M))); (clear M))
    | (go_at_call 13; refine (hCut.out _ M3.out.below).mono ?_; rintro _ w4 ⟨_, rfl, M⟩; obtain ⟨Am, cm, rfl⟩ := M.form (.head _); (have M4 := hid (M3.out.lift M)); clear M)
    | ((with_reducible refine gate (N := 11) rfl ?_); refine wpList_box_Own rfl (cs := gNil) (t := 29) (by first | (go_simp; done) | (go_simp; rfl)) M4.out ?_; intro m w5 M; (have M5 := hid M); clear M)
    | ((with_reducible refine gateSt (t := 29) (p := 11) rfl ?_); refine wpList_store_all (n := 7) (L1 := []) (mid := gNil.toList) (vs := (gA g (.slice Ae g.ends.length ce) (.slice Ap g.prog.length cp) (.slice As g.pts.length cs)).toList) rfl rfl (by kernel_rfl) rfl rfl rfl rfl rfl (one_all rfl) M5.out ?_; intro w6 M; (have M6 := hid M); clear M))
  clear hMade hCut M1 M2 M3 M4 M5 M0
  have hGof := hid (fun (w1 : World) (L' : List Ent) (M : Own w w1 L') (h1 : .row 38 1 (.slice Ae g.ends.length ce) g.ends.length (ints .u16 g.ends) ∈ L') (h2 : .row 5 1 (.slice Ap g.prog.length cp) g.prog.length (ints .u8 g.prog) ∈ L') (h3 : .row 37 3 (.slice As g.pts.length cs) g.pts.length (spC g.pts) ∈ L') => show GAt w1 g (.slice Ae g.ends.length ce) (.slice Ap g.prog.length cp) (.slice As g.pts.length cs) from ⟨M.slice h1, M.slice h2, M.slice h3⟩)
  cases hR : sgR g
  · replace hR := hid hR
    go_wp2_with (first
      | ((with_reducible refine gate (N := 25) rfl ?_); refine wpList_run rfl (exec_load_agg agg_glyph rfl rfl M6.out (g := m) (t := 29) (cs := gA g (.slice Ae g.ends.length ce) (.slice Ap g.prog.length cp) (.slice As g.pts.length cs)) (vs := (gA g (.slice Ae g.ends.length ce) (.slice Ap g.prog.length cp) (.slice As g.pts.length cs)).toList) (by simp) rfl rfl) ?_)
      | (go_at_call 16; (have hC := bytes_no w6 hO.out (hGof.out _ _ M6.out (by simp) (by simp) (by simp)) hR.out); ((with_reducible refine hC.mono ?_); clear hC); rintro _ w7 ⟨_, rfl, M⟩; obtain ⟨A7, c7, rfl⟩ := M.form (.head _); (have M7 := hid (M6.out.lift M)); clear M)
      | ((with_reducible refine gate (N := 27) rfl ?_); refine wpList_run rfl (exec_load_agg agg_glyph rfl rfl M7.out (g := m) (t := 29) (cs := gA g (.slice Ae g.ends.length ce) (.slice Ap g.prog.length cp) (.slice As g.pts.length cs)) (vs := (gA g (.slice Ae g.ends.length ce) (.slice Ap g.prog.length cp) (.slice As g.pts.length cs)).toList) (by simp) rfl rfl) ?_)
      | (go_at_call 15; (have hC := own_calls w7 hO.out (hGof.out _ _ M7.out (by simp) (by simp) (by simp)) (by omega) (by omega)); ((with_reducible refine hC.mono ?_); clear hC); rintro _ w8 ⟨_, rfl, va, vb, rfl, M⟩; obtain ⟨Xa, xa, rfl⟩ := M.form (.head _); obtain ⟨Xb, xb, rfl⟩ := M.form (.tail _ (.head _)); (have M8 := hid (M7.out.lift M)); clear M)
      | (go_at_call 14; (have hC := refRight_calls w8 (g := g) (ve := .slice Xa g.ends.length xa) (vp := .slice Ap g.prog.length cp) (vs := .slice Xb g.pts.length xb) hO.out ⟨M8.out.slice (e := 3) (by simp), M8.out.slice (e := 5) (by simp), M8.out.slice (e := 66) (by simp)⟩); rw [hR.out] at hC; ((with_reducible refine hC.mono ?_); clear hC); rintro _ w9 ⟨_, rfl, rfl, hb⟩; (have M9 := hid (M8.out.keep hb)); clear hb)
      | ((with_reducible refine gate (N := 31) rfl ?_); refine wpList_run rfl (exec_load_agg agg_glyph rfl rfl M9.out (g := m) (t := 29) (cs := gA g (.slice Ae g.ends.length ce) (.slice Ap g.prog.length cp) (.slice As g.pts.length cs)) (vs := (gA g (.slice Ae g.ends.length ce) (.slice Ap g.prog.length cp) (.slice As g.pts.length cs)).toList) (by simp) rfl rfl) ?_)
      | (go_at_call 12; (have hC := right_calls w9 hO.out (hGof.out _ _ M9.out (by simp) (by simp) (by simp))); rw [hR.out] at hC; ((with_reducible refine hC.mono ?_); clear hC); rintro _ w10 ⟨_, rfl, rfl, hb⟩; (have M10 := hid (M9.out.keep hb)); clear hb)
      | ((with_reducible refine gate (N := 40) rfl ?_); refine wpList_run rfl (exec_load_agg agg_glyph rfl rfl M10.out (g := m) (t := 29) (cs := gA g (.slice Ae g.ends.length ce) (.slice Ap g.prog.length cp) (.slice As g.pts.length cs)) (vs := (gA g (.slice Ae g.ends.length ce) (.slice Ap g.prog.length cp) (.slice As g.pts.length cs)).toList) (by simp) rfl rfl) ?_)
      | (go_at_call 11; (have hC := cont_no w10 hO.out (hGof.out _ _ M10.out (by simp) (by simp) (by simp)) hR.out); ((with_reducible refine hC.mono ?_); clear hC); rintro _ w11 ⟨_, rfl, rfl, hb⟩; (have M11 := hid (M10.out.keep hb)); clear hb))
    go_ret
    exact .mk ⟨rfl, M11.out.below⟩
  · replace hR := hid hR
    have hps := hid (parseS_sgB hO.out hR.out)
    have hlb := sgB_len g
    have hBy := hid (sgB_bytes hO.out)
    have hYes := hid (fun w1 (h : GAt w1 g (.slice Ae g.ends.length ce) (.slice Ap g.prog.length cp) (.slice As g.pts.length cs)) => bytes_yes w1 hO.out h hR.out)
    have hRef := hid (fun w1 (Xa : Option Addr) (xa : Nat) (Xb : Option Addr) (xb : Nat) (h : RAt w1 g (.slice Xa g.ends.length xa) (.slice Ap g.prog.length cp) (.slice Xb g.pts.length xb)) => refBytes_calls w1 hO.out h (by omega) (by omega) (by omega))
    obtain ⟨LB, hLB⟩ : ∃ LB, sgB g = LB := ⟨_, rfl⟩
    rw [hLB] at hps hlb hBy hYes hRef
    obtain ⟨nb, hnb⟩ : ∃ n, LB.length = n := ⟨_, rfl⟩
    rw [hnb] at hlb hps hYes hRef
    replace hnb := hid hnb
    clear hLB
    have hpm := hid (show parseS (LB ++ mo) = some (g, nb) from (parseS_more LB mo _ hps.out).2)
    have hLM := hid (show (LB ++ mo).length = nb + nm by rw [List.length_append, hnb.out, hnm.out])
    go_wp2_with (first
      | ((with_reducible refine gate (N := 25) rfl ?_); refine wpList_run rfl (exec_load_agg agg_glyph rfl rfl M6.out (g := m) (t := 29) (cs := gA g (.slice Ae g.ends.length ce) (.slice Ap g.prog.length cp) (.slice As g.pts.length cs)) (vs := (gA g (.slice Ae g.ends.length ce) (.slice Ap g.prog.length cp) (.slice As g.pts.length cs)).toList) (by simp) rfl rfl) ?_)
      | (go_at_call 16; (have hC := hYes.out w6 (hGof.out _ _ M6.out (by simp) (by simp) (by simp))); ((with_reducible refine hC.mono ?_); clear hC); rintro _ w7 ⟨_, rfl, M⟩; obtain ⟨A7, c7, rfl⟩ := M.form (.head _); (have M7 := hid (M6.out.lift M)); clear M)
      | ((with_reducible refine gate (N := 27) rfl ?_); refine wpList_run rfl (exec_load_agg agg_glyph rfl rfl M7.out (g := m) (t := 29) (cs := gA g (.slice Ae g.ends.length ce) (.slice Ap g.prog.length cp) (.slice As g.pts.length cs)) (vs := (gA g (.slice Ae g.ends.length ce) (.slice Ap g.prog.length cp) (.slice As g.pts.length cs)).toList) (by simp) rfl rfl) ?_)
      | (go_at_call 15; (have hC := own_calls w7 hO.out (hGof.out _ _ M7.out (by simp) (by simp) (by simp)) (by omega) (by omega)); ((with_reducible refine hC.mono ?_); clear hC); rintro _ w8 ⟨_, rfl, va, vb, rfl, M⟩; obtain ⟨Xa, xa, rfl⟩ := M.form (.head _); obtain ⟨Xb, xb, rfl⟩ := M.form (.tail _ (.head _)); (have M8 := hid (M7.out.lift M)); clear M)
      | (go_at_call 14; (have hC := refRight_calls w8 (g := g) (ve := .slice Xa g.ends.length xa) (vp := .slice Ap g.prog.length cp) (vs := .slice Xb g.pts.length xb) hO.out ⟨M8.out.slice (e := 3) (by simp), M8.out.slice (e := 5) (by simp), M8.out.slice (e := 66) (by simp)⟩); rw [hR.out] at hC; ((with_reducible refine hC.mono ?_); clear hC); rintro _ w9 ⟨_, rfl, rfl, hb⟩; (have M9 := hid (M8.out.keep hb)); clear hb)
      | (go_at_call 18; (have hC := join2_calls w9 (v1 := .slice A7 nb c7) (v2 := .slice Am nm cm) (p := LB) (q := mo) (n := nb + nm) (M9.out.bytes (e := 5) (n := nb) (by simp) hnb.out) (M9.out.bytes (e := 5) (n := nm) (by simp) hnm.out) (by rw [hnb.out, hnm.out]) (by omega)); ((with_reducible refine hC.mono ?_); clear hC); rintro _ w10 ⟨_, rfl, M⟩; obtain ⟨Aj, cj, rfl⟩ := M.form (.head _); (have M10 := hid (M9.out.lift M)); clear M)
      | (go_at_call 20; (have hC := parse_some (w := w10) (V := .slice Aj (nb + nm) cj) (l := LB ++ mo) (g := g) (n := nb) (M10.out.bytes (e := 5) (n := nb + nm) (by simp) hLM.out) (hBy.out.append hMb.out) (by rw [hLM.out]; omega) hpm.out); ((with_reducible refine hC.mono ?_); clear hC); rintro _ w11 ⟨_, rfl, ve2, vp2, vs2, -, rfl, M⟩; obtain ⟨Be, de, rfl⟩ := M.form (.head _); obtain ⟨Bp, dp, rfl⟩ := M.form (.tail _ (.head _)); obtain ⟨Bs, ds, rfl⟩ := M.form (.tail _ (.tail _ (.head _))); (have M11 := hid (M10.out.lift M)); clear M)
      | ((with_reducible refine gate (N := 13) rfl ?_); refine wpList_box_Own rfl (cs := gNil) (t := 29) (by first | (go_simp; done) | (go_simp; rfl)) M11.out ?_; intro q w12 M; (have M12 := hid M); clear M)
      | ((with_reducible refine gateSt (t := 29) (p := 13) rfl ?_); refine wpList_store_all (n := 7) (L1 := []) (mid := gNil.toList) (vs := (gA g (.slice Be g.ends.length de) (.slice Bp g.prog.length dp) (.slice Bs g.pts.length ds)).toList) rfl rfl (by kernel_rfl) rfl rfl rfl rfl rfl (one_all rfl) M12.out ?_; intro w13 M; (have M13 := hid M); clear M)
      | ((with_reducible refine gate (N := 54) rfl ?_); refine wpList_run rfl (exec_load_agg agg_glyph rfl rfl M13.out (g := m) (t := 29) (cs := gA g (.slice Ae g.ends.length ce) (.slice Ap g.prog.length cp) (.slice As g.pts.length cs)) (vs := (gA g (.slice Ae g.ends.length ce) (.slice Ap g.prog.length cp) (.slice As g.pts.length cs)).toList) (by simp) rfl rfl) ?_)
      | (go_at_call 12; (have hC := right_calls w13 hO.out (hGof.out _ _ M13.out (by simp) (by simp) (by simp))); rw [hR.out] at hC; ((with_reducible refine hC.mono ?_); clear hC); rintro _ w14 ⟨_, rfl, rfl, hb⟩; (have M14 := hid (M13.out.keep hb)); clear hb)
      | ((with_reducible refine gate (N := 58) rfl ?_); refine wpList_run rfl (exec_load_agg agg_glyph rfl rfl M14.out (g := m) (t := 29) (cs := gA g (.slice Ae g.ends.length ce) (.slice Ap g.prog.length cp) (.slice As g.pts.length cs)) (vs := (gA g (.slice Ae g.ends.length ce) (.slice Ap g.prog.length cp) (.slice As g.pts.length cs)).toList) (by simp) rfl rfl) ?_)
      | (go_at_call 15; (have hC := own_calls w14 hO.out (hGof.out _ _ M14.out (by simp) (by simp) (by simp)) (by omega) (by omega)); ((with_reducible refine hC.mono ?_); clear hC); rintro _ w15 ⟨_, rfl, va2, vb2, rfl, M⟩; obtain ⟨Ya, ya, rfl⟩ := M.form (.head _); obtain ⟨Yb, yb, rfl⟩ := M.form (.tail _ (.head _)); (have M15 := hid (M14.out.lift M)); clear M)
      | (go_at_call 19; (have hC := hRef.out w15 Ya ya Yb yb ⟨M15.out.slice (e := 3) (by simp), M15.out.slice (e := 5) (by simp), M15.out.slice (e := 66) (by simp)⟩); ((with_reducible refine hC.mono ?_); clear hC); rintro _ w16 ⟨_, rfl, M⟩; obtain ⟨A16, c16, rfl⟩ := M.form (.head _); (have M16 := hid (M15.out.lift M)); clear M)
      | (go_at_call 23; (have hC := same_true w16 (v1 := .slice A7 nb c7) (v2 := .slice A16 nb c16) (xs := LB) (M16.out.bytes (e := 5) (n := nb) (by simp) hnb.out) (M16.out.bytes (e := 5) (n := nb) (by simp) hnb.out)); ((with_reducible refine hC.mono ?_); clear hC); rintro _ w17 ⟨_, rfl, rfl, hb⟩; (have M17 := hid (M16.out.keep hb)); clear hb)
      | ((with_reducible refine gate (N := 74) rfl ?_); refine wpList_run rfl (exec_load_agg agg_glyph rfl rfl M17.out (g := q) (t := 29) (cs := gA g (.slice Be g.ends.length de) (.slice Bp g.prog.length dp) (.slice Bs g.pts.length ds)) (vs := (gA g (.slice Be g.ends.length de) (.slice Bp g.prog.length dp) (.slice Bs g.pts.length ds)).toList) (by simp) rfl rfl) ?_)
      | ((with_reducible refine gate (N := 75) rfl ?_); refine wpList_run rfl (exec_load_agg agg_glyph rfl rfl M17.out (g := m) (t := 29) (cs := gA g (.slice Ae g.ends.length ce) (.slice Ap g.prog.length cp) (.slice As g.pts.length cs)) (vs := (gA g (.slice Ae g.ends.length ce) (.slice Ap g.prog.length cp) (.slice As g.pts.length cs)).toList) (by simp) rfl rfl) ?_)
      | (go_at_call 17; (have hC := same_calls12 w17 (g := g) (ve := .slice Be g.ends.length de) (vp := .slice Bp g.prog.length dp) (vs := .slice Bs g.pts.length ds) ⟨M17.out.slice (e := 38) (by simp), M17.out.slice (e := 5) (by simp), M17.out.slice (e := 37) (by simp)⟩ (hGof.out _ _ M17.out (by simp) (by simp) (by simp))); ((with_reducible refine hC.mono ?_); clear hC); rintro _ w18 ⟨_, rfl, rfl, hb⟩; (have M18 := hid (M17.out.keep hb)); clear hb))
    go_ret
    exact .mk ⟨rfl, M18.out.below⟩
end Go.Proofs.Ytmmepjcndofnbaa
