/- Package flat: one glyph's contours: all ends but that of a glyph of parts. -/
import Derived.Test.YtiedbfaehndooaaDoorFlatE
namespace Go.Proofs.YtiedbfaehndooaaDoor
open Go Go.RowKit
set_option linter.unusedVariables false
set_option linter.unusedSimpArgs false
set_option maxRecDepth 1000000

/-- An end without a deferred call: two results out of slots. -/
theorem door2 {P : Program} {fn : Func} {R : Value → World → Prop} {t u : Tmp} {a b : Value} {tmps : Array Value} {w : World} (h : fn.results = #[.tmp t, .tmp u]) (e1 : tmps.getD t undef = a) (e2 : tmps.getD u undef = b) (hR : R (.tuple #[a, b]) w) : bodyPostD P fn (Ret R) Exit.ret { tmps := tmps, defers := [] } w :=
  ⟨_, results_tmp2 h _ _ _, .mk (by rw [← e1, ← e2] at hR; simpa using hR)⟩
section
variable {W0 w : World} {L : List Ent} {W : Nat} {vl vway : Value} {way : List Int} {m q : Nat} {ks : List Gk} {R : WR}
theorem atP_err {vw : Value} {e : Int} {m' q' : Nat} (M : Own W0 w (.blk W 64 (wkA vl vw m' q') :: .row 3 1 vw way.length (ints .i64 way) :: L)) : AtP W0 L W vl way ⟨e, [], m', q'⟩ (.tuple #[.slice none 0 0, .int .i64 e]) w :=
  ⟨.slice none 0 0, [], vw, rfl, rfl, M.look (SliceAt.nil _ _ _)⟩
/-- The glyphs, as the walk reads them. -/
theorem gl_form (hG : GlyphsAt W0 vl ks) : ∃ A c, vl = .slice A ks.length c ∧ ks.length ≤ c ∧ c ≤ maxLen := by
  obtain ⟨vls, ⟨A, c, rfl, h1, h2, -, -⟩, -⟩ := hG
  exact ⟨A, c, rfl, h1, h2⟩
theorem gl_at {A : Option Addr} {c n : Nat} (hG : GlyphsAt W0 (.slice A n c) ks) {w : World} (hb : Below W0.heap.size W0 w) {i : Nat} (hi : i < ks.length) : ∃ ad v, A = some ad ∧ w.cell? (ad.add i) = some v ∧ BytesAt w v (ks.getD i .none).bytes := by
  obtain ⟨vls, h1, h2⟩ := hG
  have h3 := (h1.below hb)
  have hlen := h3.len
  obtain ⟨A', c', he, -, -, -, hr⟩ := h3
  injection he with e1 e2 e3
  subst e1
  obtain ⟨ad, e, hc⟩ := hr.cell (j := i) (u := vls.getD i undef) (by
    have : i < vls.length := by omega
    simp [List.getD, this])
  exact ⟨ad, _, e, hc, (h2 i hi).below hb⟩
set_option maxHeartbeats 4000000 in
theorem fat_index (hG : GlyphsAt W0 vl ks) {id : Int} (hid : id < 0 ∨ (ks.length : Int) ≤ id) (M : Own W0 w (.blk W 64 (wkA vl vway m q) :: .row 3 1 vway way.length (ints .i64 way) :: L)) :
    Calls Tryd.prog 19 #[.pointer (some ⟨W, 0, none⟩), .int .i64 id] w (Ret fun r w' => AtP W0 L W vl way ⟨6, [], m, q⟩ r w') := by
  have M0 := Go.Proofs.YtiedbfaehndooaaDoor.hid M
  obtain ⟨A, c, rfl, -, -⟩ := gl_form hG
  clear M hG
  generalize ks.length = n at *
  by_cases h0 : id < 0
  · clear hid
    go_enter_defers Tryd.func19, Tryd.ntmps19
    go_wp2_with (first
      | ((with_reducible refine gate (N := 2) rfl ?_); refine wpList_box_Own rfl (cs := boxW W) (t := 61) (by first | (go_simp; done) | (go_simp; rfl)) M0.out ?_; intro b w1 M; (have M1 := hid M); clear M)
      | (refine door2 (t := 4) (u := 5) rfl rfl rfl (atP_err M1.out.tail)))
  · have h1 : id ≥ (n : Int) := by omega
    have hd0 : decide (id < 0) = false := decide_eq_false h0
    clear hid
    go_enter_defers Tryd.func19, Tryd.ntmps19
    go_wp2_with (first
      | ((with_reducible refine gate (N := 2) rfl ?_); refine wpList_box_Own rfl (cs := boxW W) (t := 61) (by first | (go_simp; done) | (go_simp; rfl)) M0.out ?_; intro b w1 M; obtain ⟨k0, -, -, -⟩ := wk_cells M (.tail _ (.head _)); ((have b0 := bx_cell M (.head _))); (have M1 := hid M); clear M)
      | (refine door2 (t := 4) (u := 5) rfl rfl rfl (atP_err M1.out.tail)))
theorem fat_in {n : Nat} (hl : way.length = n) {i : Nat} {c : Bool} (h : decide ((i : Int) ∈ way) = c) {Aw : Option Addr} {cw : Nat} (w1 : World) (b : Nat) (M : Own W0 w1 (.blk b 61 (boxW W) :: .blk W 64 (wkA vl (.slice Aw n cw) m q) :: .row 3 1 (.slice Aw n cw) n (ints .i64 way) :: L)) :
    Calls Tryd.prog 35 #[.slice Aw n cw, .int .i64 (i : Int)] w1 (Ret fun r w' => r = .bool c ∧ Below w1.heap.size w1 w') := by
  subst h
  exact contains_calls w1 i hl (M.slice (.tail _ (.tail _ (.head _))))
set_option maxHeartbeats 4000000 in
theorem fat_cycle (hG : GlyphsAt W0 vl ks) {i : Nat} (hi : i < ks.length) (hin : decide ((i : Int) ∈ way) = true) (hwl : way.length ≤ 17) (M : Own W0 w (.blk W 64 (wkA vl vway m q) :: .row 3 1 vway way.length (ints .i64 way) :: L)) :
    Calls Tryd.prog 19 #[.pointer (some ⟨W, 0, none⟩), .int .i64 (i : Int)] w (Ret fun r w' => AtP W0 L W vl way ⟨8, [], m, q⟩ r w') := by
  have M0 := hid M
  obtain ⟨A, c, rfl, hc1, hc2⟩ := gl_form hG
  obtain ⟨Aw, cw, rfl⟩ := M.form (.tail _ (.head _))
  have hGH := hid hG
  clear M hG
  obtain ⟨n, hn⟩ : ∃ n, ks.length = n := ⟨_, rfl⟩
  obtain ⟨k, hk⟩ : ∃ k, way.length = k := ⟨_, rfl⟩
  have hCn := hid (fun w1 b M => fat_in (W0 := W0) (L := L) (W := W) (vl := .slice A ks.length c) (m := m) (q := q) hk hin (Aw := Aw) (cw := cw) w1 b M)
  rw [hk] at M0 hwl
  rw [hn] at hCn M0 hi hc1 hGH
  have hkH := hid hk
  have hnH := hid hn
  clear hk hn hin
  have h0 : ¬ (i : Int) < 0 := by omega
  have hd0 : decide ((i : Int) < 0) = false := decide_eq_false h0
  have h1 : ¬ (i : Int) ≥ (n : Int) := by omega
  go_enter_defers Tryd.func19, Tryd.ntmps19
  go_wp2_with (first
    | ((with_reducible refine gate (N := 2) rfl ?_); refine wpList_box_Own rfl (cs := boxW W) (t := 61) (by first | (go_simp; done) | (go_simp; rfl)) M0.out ?_; intro b w1 M; obtain ⟨k0, k1, -, -⟩ := wk_cells M (.tail _ (.head _)); ((have b0 := bx_cell M (.head _))); (have M1 := hid M); clear M)
    | (go_at_call 35; (with_reducible refine (hCn.out _ _ M1.out).mono ?_); rintro _ w2 ⟨_, rfl, rfl, hb⟩; ((have M2 := hid (M1.out.keep hb))); (clear hb k0 k1 b0))
    | (refine door2 (t := 4) (u := 5) rfl rfl rfl (by rw [hnH.out]; exact atP_err (hkH.out ▸ M2.out.tail))))
set_option maxHeartbeats 4000000 in
theorem fat_depth (hG : GlyphsAt W0 vl ks) {i : Nat} (hi : i < ks.length) (hin : decide ((i : Int) ∈ way) = false) (hwl : way.length = 17) (M : Own W0 w (.blk W 64 (wkA vl vway m q) :: .row 3 1 vway way.length (ints .i64 way) :: L)) :
    Calls Tryd.prog 19 #[.pointer (some ⟨W, 0, none⟩), .int .i64 (i : Int)] w (Ret fun r w' => AtP W0 L W vl way ⟨7, [], m, q⟩ r w') := by
  have M0 := hid M
  obtain ⟨A, c, rfl, hc1, hc2⟩ := gl_form hG
  obtain ⟨Aw, cw, rfl⟩ := M.form (.tail _ (.head _))
  have hGH := hid hG
  clear M hG
  obtain ⟨n, hn⟩ : ∃ n, ks.length = n := ⟨_, rfl⟩
  obtain ⟨k, hk⟩ : ∃ k, way.length = k := ⟨_, rfl⟩
  have hCn := hid (fun w1 b M => fat_in (W0 := W0) (L := L) (W := W) (vl := .slice A ks.length c) (m := m) (q := q) hk hin (Aw := Aw) (cw := cw) w1 b M)
  rw [hk] at M0 hwl
  rw [hn] at hCn M0 hi hc1 hGH
  have hkH := hid hk
  have hnH := hid hn
  clear hk hn hin
  have h0 : ¬ (i : Int) < 0 := by omega
  have hd0 : decide ((i : Int) < 0) = false := decide_eq_false h0
  have h1 : ¬ (i : Int) ≥ (n : Int) := by omega
  go_enter_defers Tryd.func19, Tryd.ntmps19
  have h16 : (k : Int) > 16 := by omega
  clear hwl
  go_wp2_with (first
    | ((with_reducible refine gate (N := 2) rfl ?_); refine wpList_box_Own rfl (cs := boxW W) (t := 61) (by first | (go_simp; done) | (go_simp; rfl)) M0.out ?_; intro b w1 M; obtain ⟨k0, k1, -, -⟩ := wk_cells M (.tail _ (.head _)); ((have b0 := bx_cell M (.head _))); (have M1 := hid M); clear M)
    | (go_at_call 35; (with_reducible refine (hCn.out _ _ M1.out).mono ?_); rintro _ w2 ⟨_, rfl, rfl, hb⟩; (clear k0 k1 b0); ((have M2 := hid (M1.out.keep hb))); obtain ⟨k0, k1, k2, k3⟩ := wk_cells M2.out (.tail _ (.head _)); ((have b0 := bx_cell M2.out (.head _))); (clear hb))
    | (refine door2 (t := 4) (u := 5) rfl rfl rfl (by rw [hnH.out]; exact atP_err (hkH.out ▸ M2.out.tail))))
set_option maxHeartbeats 4000000 in
theorem fat_met (hG : GlyphsAt W0 vl ks) {i : Nat} (hi : i < ks.length) (hin : decide ((i : Int) ∈ way) = false) (hwl : way.length ≤ 16) (hm1 : m ≤ 20000) (hm : 20000 < m + 1) (M : Own W0 w (.blk W 64 (wkA vl vway m q) :: .row 3 1 vway way.length (ints .i64 way) :: L)) :
    Calls Tryd.prog 19 #[.pointer (some ⟨W, 0, none⟩), .int .i64 (i : Int)] w (Ret fun r w' => AtP W0 L W vl way ⟨9, [], m + 1, q⟩ r w') := by
  have M0 := hid M
  obtain ⟨A, c, rfl, hc1, hc2⟩ := gl_form hG
  obtain ⟨Aw, cw, rfl⟩ := M.form (.tail _ (.head _))
  have hGH := hid hG
  clear M hG
  obtain ⟨n, hn⟩ : ∃ n, ks.length = n := ⟨_, rfl⟩
  obtain ⟨k, hk⟩ : ∃ k, way.length = k := ⟨_, rfl⟩
  have hCn := hid (fun w1 b M => fat_in (W0 := W0) (L := L) (W := W) (vl := .slice A ks.length c) (m := m) (q := q) hk hin (Aw := Aw) (cw := cw) w1 b M)
  rw [hk] at M0 hwl
  rw [hn] at hCn M0 hi hc1 hGH
  have hkH := hid hk
  have hnH := hid hn
  clear hk hn hin
  have h0 : ¬ (i : Int) < 0 := by omega
  have hd0 : decide ((i : Int) < 0) = false := decide_eq_false h0
  have h1 : ¬ (i : Int) ≥ (n : Int) := by omega
  go_enter_defers Tryd.func19, Tryd.ntmps19
  have h16 : ¬ (k : Int) > 16 := by omega
  have wm : IntKind.i64.wrap ((m : Int) + 1) = (m : Int) + 1 := IntWalk.i64_in _ (by omega)
  go_upto_region 8 with (first
    | ((with_reducible refine gate (N := 2) rfl ?_); refine wpList_box_Own rfl (cs := boxW W) (t := 61) (by first | (go_simp; done) | (go_simp; rfl)) M0.out ?_; intro b w1 M; obtain ⟨k0, k1, -, -⟩ := wk_cells M (.tail _ (.head _)); ((have b0 := bx_cell M (.head _))); (have M1 := hid M); clear M)
    | (go_at_call 35; (with_reducible refine (hCn.out _ _ M1.out).mono ?_); rintro _ w2 ⟨_, rfl, rfl, hb⟩; (clear k0 k1 b0); ((have M2 := hid (M1.out.keep hb))); obtain ⟨k0, k1, k2, k3⟩ := wk_cells M2.out (.tail _ (.head _)); obtain ⟨f1, f2, f3⟩ := wk_free M2.out (.tail _ (.head _)); ((have b0 := bx_cell M2.out (.head _))); (clear hb)))
  have M3 : Hid (Own W0 (w2.setCell ⟨W, 2, none⟩ (.int .i64 ((m : Int) + 1))) (.blk b 61 (boxW W) :: .blk W 64 (wkA (.slice A n c) (.slice Aw k cw) (m + 1) q) :: .row 3 1 (.slice Aw k cw) k (ints .i64 way) :: L)) := hid (M2.out.set (L1 := [_]) 2 (.int .i64 ((m : Int) + 1)))
  clear k0 k1 k2 k3 f1 f2 f3 b0 M1 M2 M0
  revert M3
  generalize w2.setCell ⟨W, 2, none⟩ (.int .i64 ((m : Int) + 1)) = w3
  intro M3
  obtain ⟨k0, k1, k2, k3⟩ := wk_cells M3.out (.tail _ (.head _))
  rw [show ((m + 1 : Nat) : Int) = (m : Int) + 1 from rfl] at k2
  have b0 := bx_cell M3.out (.head _)
  have hmg : (m : Int) + 1 > 20000 := by omega
  go_wp2_with (refine door2 (t := 4) (u := 5) rfl rfl rfl (by rw [hnH.out]; exact atP_err (hkH.out ▸ M3.out.tail)))
set_option maxHeartbeats 4000000 in
theorem fat_none (hG : GlyphsAt W0 vl ks) {i : Nat} (hi : i < ks.length) (hin : decide ((i : Int) ∈ way) = false) (hwl : way.length ≤ 16) (hm1 : m ≤ 20000) (hm : ¬ 20000 < m + 1) (hkk : ks.getD i .none = .none) (M : Own W0 w (.blk W 64 (wkA vl vway m q) :: .row 3 1 vway way.length (ints .i64 way) :: L)) :
    Calls Tryd.prog 19 #[.pointer (some ⟨W, 0, none⟩), .int .i64 (i : Int)] w (Ret fun r w' => AtP W0 L W vl way ⟨0, [], m + 1, q⟩ r w') := by
  have M0 := hid M
  obtain ⟨A, c, rfl, hc1, hc2⟩ := gl_form hG
  obtain ⟨Aw, cw, rfl⟩ := M.form (.tail _ (.head _))
  have hGH := hid hG
  clear M hG
  obtain ⟨n, hn⟩ : ∃ n, ks.length = n := ⟨_, rfl⟩
  obtain ⟨k, hk⟩ : ∃ k, way.length = k := ⟨_, rfl⟩
  have hCn := hid (fun w1 b M => fat_in (W0 := W0) (L := L) (W := W) (vl := .slice A ks.length c) (m := m) (q := q) hk hin (Aw := Aw) (cw := cw) w1 b M)
  rw [hk] at M0 hwl
  rw [hn] at hCn M0 hi hc1 hGH
  have hkH := hid hk
  have hnH := hid hn
  clear hk hn hin
  have h0 : ¬ (i : Int) < 0 := by omega
  have hd0 : decide ((i : Int) < 0) = false := decide_eq_false h0
  have h1 : ¬ (i : Int) ≥ (n : Int) := by omega
  go_enter_defers Tryd.func19, Tryd.ntmps19
  have h16 : ¬ (k : Int) > 16 := by omega
  have wm : IntKind.i64.wrap ((m : Int) + 1) = (m : Int) + 1 := IntWalk.i64_in _ (by omega)
  go_upto_region 8 with (first
    | ((with_reducible refine gate (N := 2) rfl ?_); refine wpList_box_Own rfl (cs := boxW W) (t := 61) (by first | (go_simp; done) | (go_simp; rfl)) M0.out ?_; intro b w1 M; obtain ⟨k0, k1, -, -⟩ := wk_cells M (.tail _ (.head _)); ((have b0 := bx_cell M (.head _))); (have M1 := hid M); clear M)
    | (go_at_call 35; (with_reducible refine (hCn.out _ _ M1.out).mono ?_); rintro _ w2 ⟨_, rfl, rfl, hb⟩; (clear k0 k1 b0); ((have M2 := hid (M1.out.keep hb))); obtain ⟨k0, k1, k2, k3⟩ := wk_cells M2.out (.tail _ (.head _)); obtain ⟨f1, f2, f3⟩ := wk_free M2.out (.tail _ (.head _)); ((have b0 := bx_cell M2.out (.head _))); (clear hb)))
  have M3 : Hid (Own W0 (w2.setCell ⟨W, 2, none⟩ (.int .i64 ((m : Int) + 1))) (.blk b 61 (boxW W) :: .blk W 64 (wkA (.slice A n c) (.slice Aw k cw) (m + 1) q) :: .row 3 1 (.slice Aw k cw) k (ints .i64 way) :: L)) := hid (M2.out.set (L1 := [_]) 2 (.int .i64 ((m : Int) + 1)))
  clear k0 k1 k2 k3 f1 f2 f3 b0 M1 M2 M0
  revert M3
  generalize w2.setCell ⟨W, 2, none⟩ (.int .i64 ((m : Int) + 1)) = w3
  intro M3
  obtain ⟨k0, k1, k2, k3⟩ := wk_cells M3.out (.tail _ (.head _))
  rw [show ((m + 1 : Nat) : Int) = (m : Int) + 1 from rfl] at k2
  have b0 := bx_cell M3.out (.head _)
  have hmg : ¬ (m : Int) + 1 > 20000 := by omega
  obtain ⟨ad, v, rfl, hcg, hby⟩ := gl_at hGH.out M3.out.below (i := i) (by rw [hnH.out]; exact hi)
  rw [hkk] at hby
  obtain ⟨Ag, cg, rfl, -⟩ := hby
  replace hcg : w3.cell? (ad.add i) = some (.slice Ag 0 cg) := hcg
  have hP := hid (fparse_nil w3 Ag cg)
  go_wp2_with (first
    | (go_at_call 36; (with_reducible refine hP.out.mono ?_); rintro _ w4 ⟨_, rfl, rfl, hb⟩; (have M4 := hid (M3.out.keep hb)); clear hb)
    | ((with_reducible refine gate (N := 6) rfl ?_); refine wpList_box_Own rfl (cs := fgA none none) (t := 84) (by first | (go_simp; done) | (go_simp; rfl)) M4.out ?_; intro gb w5 M; (have M5 := hid M); clear M)
    | ((with_reducible refine gateSt (t := 84) (p := 6) rfl ?_); refine wpList_store_all (n := 2) (L1 := []) (mid := (fgA none none).toList) (vs := (fgA none none).toList) rfl rfl (by kernel_rfl) rfl rfl rfl rfl rfl (one_all rfl) M5.out ?_; intro w6 M; ((have g0 := M.cell (g := gb) (t := 84) (cs := fgA none none) (.head _) 0)); ((have g1 := M.cell (g := gb) (t := 84) (cs := fgA none none) (.head _) 1)); (have M6 := hid M); clear M)
    | (refine door2 (t := 4) (u := 5) rfl rfl rfl (by rw [hnH.out]; exact atP_err (hkH.out ▸ M6.out.tail.tail))))
end
end Go.Proofs.YtiedbfaehndooaaDoor
