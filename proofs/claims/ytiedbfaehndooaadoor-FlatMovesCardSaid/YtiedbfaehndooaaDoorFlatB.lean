/- Package flat: parse, of no bytes, of the bytes of a glyph of parts, of those of an outline. -/
import Derived.Test.YtiedbfaehndooaaDoorFlatA
import Derived.Test.YtiedbfaehndooaaDoorSimpM1
namespace Go.Proofs.YtiedbfaehndooaaDoor
open Go Go.RowKit
set_option linter.unusedVariables false
set_option linter.unusedSimpArgs false
set_option maxRecDepth 100000

theorem agg_fg : AggOf Tryd.prog 84 2 := .mk' Tryd.underlying84 rfl (by kernel_rfl)
theorem results_agg_tmps1F {P : Program} {w : World} {fn : Func} {p q : Tmp} {ty n : Nat} (h : fn.results = #[.cell p ty, .tmp q]) (hT : AggOf P ty n) (tmps : Array Value) {g : Nat} (hp : tmps.getD p undef = .pointer (some ⟨g, 0, none⟩)) {t : TypeId} {vs : List Value} (hg : w.heap[g]? = some (.cells vs.toArray t (0, 0))) (hn : vs.length = n) :
    (results fn tmps).run P w = .ok (.tuple #[.agg vs.toArray, tmps.getD q undef]) w := by
  have hp' : tmps[p]?.getD undef = .pointer (some ⟨g, 0, none⟩) := by simpa using hp
  simp [results, h, hp', asAddr, run_load_agg hT hg (off := 0) (vs := vs) (by rw [← hn]; simp) hn]
abbrev fgA (a b : Option Addr) : Array Value := #[.pointer a, .pointer b]
theorem fparse_nil (w : World) (A : Option Addr) (c : Nat) : Calls Tryd.prog 36 #[.slice A 0 c] w (Ret fun r w' => r = .tuple #[.agg (fgA none none), .int .i64 0] ∧ Below w.heap.size w w') := by
  have M0 := hid (Own.start w)
  go_enter Tryd.func36, Tryd.ntmps36
  go_wp2_with (first
    | ((with_reducible refine gate (N := 2) rfl ?_); refine wpList_box_Own rfl (cs := fgA none none) (t := 84) (by first | (go_simp; done) | (go_simp; rfl)) M0.out ?_; intro m w1 M; (have M1 := hid M); clear M)
    | ((with_reducible refine gateSt (t := 84) (p := 2) rfl ?_); refine wpList_store_all (n := 2) (L1 := []) (mid := (fgA none none).toList) (vs := (fgA none none).toList) rfl rfl (by kernel_rfl) rfl rfl rfl rfl rfl (one_all rfl) M1.out ?_; intro w2 M; (have M2 := hid M); clear M)
    | (refine bodyPost_ret (v := .tuple #[.agg (fgA none none), .int .i64 0]) ?_ rfl (Ret.mk ⟨rfl, M2.out.below⟩); exact results_agg_tmps1F (p := 2) (q := 3) rfl agg_fg _ (by rfl) (M2.out.heap (.head _)) rfl))
theorem n2_cgB (g : Cg) : n2 (cgB g) 0 = 65535 := by
  unfold cgB
  exact n2_app (p := []) rfl (by decide) (by decide)
theorem cgB_ge (g : Cg) : 10 ≤ (cgB g).length := by
  have h3 : (g.box.flatMap _root_.Go.Proofs.YtiedbfaehndooaaDoor.s2C).length = 8 := rfl
  unfold cgB
  simp only [List.length_append, b2_length]; omega
set_option maxHeartbeats 4000000 in
theorem fparse_compo (w : World) {V : Value} {g : Cg} (hO : g.Ok) (hR : cgR g = true) (h1 : BytesAt w V (cgB g)) :
    Calls Tryd.prog 36 #[V] w (Ret fun r w' => ∃ q vp vg, r = .tuple #[.agg (fgA none (some ⟨q, 0, none⟩)), .int .i64 0] ∧
      Own w w' [.blk q 40 (cA g vp vg), .row 45 8 vp g.parts.length (ptCC g.parts), .row 5 1 vg g.prog.length (ints .u8 g.prog)]) := by
  have M0 := hid (Own.start w)
  have hBy := bytes_cgB (g := g) hO.pr
  have hlb := cgB_length g
  have hps := cpS_cgB hO hR []
  rw [List.append_nil] at hps
  obtain ⟨-, -, hn2, hn3, -⟩ := cgR_parts hR
  have hIs := hid (fun w1 (h : Below w.heap.size w w1) => is_calls w1 (h1.below h) hBy (by omega))
  have hs : decide (sgn (n2 (cgB g) 0) < 0) = true := by rw [n2_cgB]; rfl
  rw [hs] at hIs
  have hPa := hid (fun w1 (h : Below w.heap.size w w1) => cParse_some w1 (h1.below h) hBy (by omega) hps)
  obtain ⟨A, C, rfl, hc1, hm1, -, -⟩ := h1
  have hge := cgB_ge g
  obtain ⟨n, hn⟩ : ∃ n, (cgB g).length = n := ⟨_, rfl⟩
  rw [hn] at hIs hPa hc1 hge hlb ⊢
  unfold maxLen at hm1
  have hlb2 : n ≤ 100000 := by omega
  have hn0 : ((n : Int) == 0) = false := by rw [beq_eq_false_iff_ne]; omega
  have hR0 := hid (fun w1 A c => rest0_calls w1 A c)
  have hnn : n - n = 0 := Nat.sub_self n
  have hnc : (n : Int) ≤ C := by omega
  clear hps hs hBy hR hO hn hlb hn2 hn3
  go_enter Tryd.func36, Tryd.ntmps36
  go_wp2_with (first
    | ((with_reducible refine gate (N := 2) rfl ?_); refine wpList_box_Own rfl (cs := fgA none none) (t := 84) (by first | (go_simp; done) | (go_simp; rfl)) M0.out ?_; intro m w1 M; (have M1 := hid M); clear M)
    | (go_at_call 44; (with_reducible refine (hIs.out _ M1.out.below).mono ?_); rintro _ w2 ⟨_, rfl, rfl, hb⟩; ((have M2 := hid (M1.out.keep hb))); (clear hb))
    | (go_at_call 45; (with_reducible refine (hPa.out _ M2.out.below).mono ?_); rintro _ w3 ⟨_, rfl, vp, vg, -, rfl, M⟩; obtain ⟨Ap, cp, rfl⟩ := M.form (.head _); obtain ⟨Ag, cg, rfl⟩ := M.form (.tail _ (.head _)); ((have M3 := hid (M2.out.lift M))); (clear M))
    | ((with_reducible refine gate (N := 4) rfl ?_); refine wpList_box_Own rfl (cs := #[.int .i16 0, .int .i16 0, .int .i16 0, .int .i16 0, .slice none 0 0, .slice none 0 0]) (t := 40) (by first | (go_simp; done) | (go_simp; rfl)) M3.out ?_; intro q w4 M; (have M4 := hid M); clear M)
    | ((with_reducible refine gateSt (t := 40) (p := 4) rfl ?_); refine wpList_store_all (n := 6) (L1 := []) (mid := [.int .i16 0, .int .i16 0, .int .i16 0, .int .i16 0, .slice none 0 0, .slice none 0 0]) (vs := (cA g (.slice Ap g.parts.length cp) (.slice Ag g.prog.length cg)).toList) rfl rfl (by kernel_rfl) rfl rfl rfl rfl rfl (one_all rfl) M4.out ?_; intro w5 M; (have M5 := hid M); clear M)
    | (go_at_call 46; (try simp only [hnn]); refine (hR0.out _ _ _).mono ?_; rintro _ w5 ⟨_, rfl, rfl, rfl⟩)
    | ((with_reducible refine gateSt (t := 84) (p := 2) rfl ?_); refine wpList_store_all (n := 2) (L1 := [.blk q 40 (cA g (.slice Ap g.parts.length cp) (.slice Ag g.prog.length cg)), .row 45 8 (.slice Ap g.parts.length cp) g.parts.length (ptCC g.parts), .row 5 1 (.slice Ag g.prog.length cg) g.prog.length (ints .u8 g.prog)]) (mid := (fgA none none).toList) (vs := (fgA none (some ⟨q, 0, none⟩)).toList) rfl rfl (by kernel_rfl) rfl rfl rfl rfl rfl (one_all rfl) M5.out ?_; intro w6 M; (have M6 := hid M); clear M)
    | (refine bodyPost_ret (v := .tuple #[.agg (fgA none (some ⟨q, 0, none⟩)), .int .i64 0]) ?_ rfl (Ret.mk ⟨q, .slice Ap g.parts.length cp, .slice Ag g.prog.length cg, rfl, M6.out.sub (by simp)⟩); exact results_agg_tmps1F (p := 2) (q := 3) rfl agg_fg _ (by rfl) (M6.out.heap (g := m) (t := 84) (by simp)) rfl))
theorem sparse_some {w : World} {V : Value} {l : List Int} {g : Sg} {n : Nat} (h1 : BytesAt w V l) (hB : Bytes l) (hn : l.length ≤ 140737488355328) (h : parseS l = some (g, n)) :
    Calls Tryd.prog 47 #[V] w (Ret fun r w' => ∃ ve vp vs, r = .tuple #[.agg (gA g ve vp vs), .int .i64 n, .int .i64 0] ∧ Own w w' [.row 34 1 ve g.ends.length (ints .u16 g.ends), .row 5 1 vp g.prog.length (ints .u8 g.prog), .row 55 3 vs g.pts.length (spC g.pts)]) := by
  refine (parse_calls12 w h1 hB hn).mono ?_
  rintro _ w' ⟨r, rfl, ⟨g', n', ve', vp', vs', hp', hO', rfl, M⟩ | ⟨hp', -, -⟩⟩
  · have := hp'.symm.trans h
    injection this with this
    injection this with e1 e2
    subst e1 e2
    exact .mk ⟨_, _, _, rfl, M⟩
  · rw [h] at hp'; cases hp'
theorem n2_sgB {g : Sg} (h : g.ends.length ≤ 32767) : n2 (sgB g) 0 = g.ends.length := by
  unfold sgB hdB
  rw [List.append_assoc]
  exact n2_app (p := []) rfl (by omega) (by omega)
theorem sgB_ge (g : Sg) : 2 ≤ (sgB g).length := by simp only [sgB, hdB, List.length_append, b2, List.length_cons]; omega
set_option maxHeartbeats 4000000 in
theorem fparse_simple (w : World) {V : Value} {g : Sg} (hO : g.Ok) (hR : sgR g = true) (hlen : (sgB g).length ≤ 1000000) (h1 : BytesAt w V (sgB g)) :
    Calls Tryd.prog 36 #[V] w (Ret fun r w' => ∃ q ve vp vs, r = .tuple #[.agg (fgA (some ⟨q, 0, none⟩) none), .int .i64 0] ∧
      Own w w' [.blk q 52 (gA g ve vp vs), .row 34 1 ve g.ends.length (ints .u16 g.ends), .row 5 1 vp g.prog.length (ints .u8 g.prog), .row 55 3 vs g.pts.length (spC g.pts)]) := by
  have M0 := hid (Own.start w)
  have hBy := sgB_bytes hO
  have hps := parseS_sgB hO hR
  obtain ⟨-, -, bne, -, -⟩ := sgR_parts hR
  have hIs := hid (fun w1 (h : Below w.heap.size w w1) => is_calls w1 (h1.below h) hBy (by omega))
  have hs : decide (sgn (n2 (sgB g) 0) < 0) = false := by rw [n2_sgB bne]; unfold sgn; rw [if_neg (by omega)]; exact decide_eq_false (by omega)
  rw [hs] at hIs
  have hPa := hid (fun w1 (h : Below w.heap.size w w1) => sparse_some (h1.below h) hBy (by omega) hps)
  obtain ⟨A, C, rfl, hc1, hm1, -, -⟩ := h1
  have hge := sgB_ge g
  obtain ⟨n, hn⟩ : ∃ n, (sgB g).length = n := ⟨_, rfl⟩
  rw [hn] at hIs hPa hc1 hge hlen ⊢
  unfold maxLen at hm1
  have hn0 : ((n : Int) == 0) = false := by rw [beq_eq_false_iff_ne]; omega
  have hR0 := hid (fun w1 A c => rest0_calls w1 A c)
  have hnn : n - n = 0 := Nat.sub_self n
  have hnc : (n : Int) ≤ C := by omega
  clear hps hs hBy hR hO hn bne
  go_enter Tryd.func36, Tryd.ntmps36
  go_wp2_with (first
    | ((with_reducible refine gate (N := 2) rfl ?_); refine wpList_box_Own rfl (cs := fgA none none) (t := 84) (by first | (go_simp; done) | (go_simp; rfl)) M0.out ?_; intro m w1 M; (have M1 := hid M); clear M)
    | (go_at_call 44; (with_reducible refine (hIs.out _ M1.out.below).mono ?_); rintro _ w2 ⟨_, rfl, rfl, hb⟩; ((have M2 := hid (M1.out.keep hb))); (clear hb))
    | (go_at_call 47; (with_reducible refine (hPa.out _ M2.out.below).mono ?_); rintro _ w3 ⟨_, rfl, ve, vp, vs, rfl, M⟩; obtain ⟨Ae, ce, rfl⟩ := M.form (.head _); obtain ⟨Ap, cp, rfl⟩ := M.form (.tail _ (.head _)); obtain ⟨As, cs, rfl⟩ := M.form (.tail _ (.tail _ (.head _))); ((have M3 := hid (M2.out.lift M))); (clear M))
    | ((with_reducible refine gate (N := 7) rfl ?_); refine wpList_box_Own rfl (cs := gNil) (t := 52) (by first | (go_simp; done) | (go_simp; rfl)) M3.out ?_; intro q w4 M; (have M4 := hid M); clear M)
    | ((with_reducible refine gateSt (t := 52) (p := 7) rfl ?_); refine wpList_store_all (n := 7) (L1 := []) (mid := gNil.toList) (vs := (gA g (.slice Ae g.ends.length ce) (.slice Ap g.prog.length cp) (.slice As g.pts.length cs)).toList) rfl rfl (by kernel_rfl) rfl rfl rfl rfl rfl (one_all rfl) M4.out ?_; intro w5 M; (have M5 := hid M); clear M)
    | (go_at_call 46; (try simp only [hnn]); refine (hR0.out _ _ _).mono ?_; rintro _ w5 ⟨_, rfl, rfl, rfl⟩)
    | ((with_reducible refine gateSt (t := 84) (p := 2) rfl ?_); refine wpList_store_all (n := 2) (L1 := [.blk q 52 (gA g (.slice Ae g.ends.length ce) (.slice Ap g.prog.length cp) (.slice As g.pts.length cs)), .row 34 1 (.slice Ae g.ends.length ce) g.ends.length (ints .u16 g.ends), .row 5 1 (.slice Ap g.prog.length cp) g.prog.length (ints .u8 g.prog), .row 55 3 (.slice As g.pts.length cs) g.pts.length (spC g.pts)]) (mid := (fgA none none).toList) (vs := (fgA (some ⟨q, 0, none⟩) none).toList) rfl rfl (by kernel_rfl) rfl rfl rfl rfl rfl (one_all rfl) M5.out ?_; intro w6 M; (have M6 := hid M); clear M)
    | (refine bodyPost_ret (v := .tuple #[.agg (fgA (some ⟨q, 0, none⟩) none), .int .i64 0]) ?_ rfl (Ret.mk ⟨q, .slice Ae g.ends.length ce, .slice Ap g.prog.length cp, .slice As g.pts.length cs, rfl, M6.out.sub (by simp)⟩); exact results_agg_tmps1F (p := 2) (q := 3) rfl agg_fg _ (by rfl) (M6.out.heap (g := m) (t := 84) (by simp)) rfl))
end Go.Proofs.YtiedbfaehndooaaDoor
