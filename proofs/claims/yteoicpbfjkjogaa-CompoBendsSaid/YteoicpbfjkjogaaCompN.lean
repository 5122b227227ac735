/- Layer 13: a glyph as the document has it (own). -/
import Derived.Test.YteoicpbfjkjogaaCompP
namespace Go.Proofs.Yteoicpbfjkjogaa
open Go Go.RowKit
set_option linter.unusedVariables false
set_option linter.unusedSimpArgs false
set_option maxRecDepth 100000

theorem sized_dt : Sized Try.prog 50 82 8 64 := .mk' Try.underlying50 (.agg (dtA pt0)) (by kernel_rfl)
abbrev eA (a b c d : Int) (vp vg : Value) : Array Value := #[.int .i64 a, .int .i64 b, .int .i64 c, .int .i64 d, vp, vg]
theorem e_cells {W0 w : World} {L : List Ent} {m : Nat} {a b c d : Int} {vp vg : Value} (M : Own W0 w L) (h : .blk m 52 (eA a b c d vp vg) ∈ L) :
    (w.cell? ⟨m, 0, none⟩ = some (.int .i64 a) ∧ w.cell? ⟨m, 1, none⟩ = some (.int .i64 b) ∧ w.cell? ⟨m, 2, none⟩ = some (.int .i64 c) ∧ w.cell? ⟨m, 3, none⟩ = some (.int .i64 d) ∧ w.cell? ⟨m, 4, none⟩ = some vp ∧ w.cell? ⟨m, 5, none⟩ = some vg) ∧
    w.frozen? ⟨m, 0, none⟩ = false ∧ w.frozen? ⟨m, 1, none⟩ = false ∧ w.frozen? ⟨m, 2, none⟩ = false ∧ w.frozen? ⟨m, 3, none⟩ = false ∧ w.frozen? ⟨m, 4, none⟩ = false ∧ w.frozen? ⟨m, 5, none⟩ = false :=
  ⟨⟨M.cell h 0, M.cell h 1, M.cell h 2, M.cell h 3, M.cell h 4, M.cell h 5⟩, M.free h 0, M.free h 1, M.free h 2, M.free h 3, M.free h 4, M.free h 5⟩
/-- A glyph's parts, as the document has it. -/
def OwnD (g : Cg) (vg : Value) (w : World) (r : Value) (w' : World) : Prop :=
  ∃ va, r = .agg (eA g.b0 g.b1 g.b2 g.b3 va vg) ∧ Own w w' [.row 82 8 va g.parts.length (dtC g.parts)]

set_option maxHeartbeats 4000000 in
theorem own_calls (w : World) {g : Cg} {vp vg : Value} (hO : g.Ok) (hG : CAt w g vp vg) (bnp : g.parts.length ≤ 100000) :
    Calls Try.prog 20 #[.agg (cA g vp vg)] w (Ret fun r w' => OwnD g vg w r w') := by
  have hbox := hid (⟨hO.x0, hO.x1, hO.x2, hO.x3⟩ : I16 g.b0 ∧ I16 g.b1 ∧ I16 g.b2 ∧ I16 g.b3)
  obtain ⟨hp, hgg⟩ := hG
  obtain ⟨Ap, cp, rfl, hcp, hmp, -, hrp⟩ := hp
  obtain ⟨Ag, cg, rfl, hcg, hmg, -, -⟩ := hgg
  unfold maxLen at hmp hmg
  have hOH := hid hO
  obtain ⟨np, hnp⟩ : ∃ n, g.parts.length = n := ⟨_, rfl⟩
  obtain ⟨ng, hng⟩ : ∃ n, g.prog.length = n := ⟨_, rfl⟩
  rw [hnp] at hrp hcp bnp
  rw [hng] at hcg
  have hPA := hid (fun ad (e : Ap = some ad) w' hb i hi => part_at (w' := w') (i := i) hnp (e ▸ hrp) hb hi)
  have hpS := hid (fun (h : 0 < np) => show ∃ ad, Ap = some ad by obtain ⟨ad, e, -⟩ := hrp.2 h; exact ⟨ad, e⟩)
  have hnpH := hid hnp
  simp only [cA, hnp, hng]
  have M0 := hid (Own.start w)
  obtain ⟨⟨x0, x1⟩, ⟨x2, x3⟩, ⟨x4, x5⟩, ⟨x6, x7⟩⟩ := hbox.out
  clear hrp hnp hng hO hbox
  go_enter Try.func20, Try.ntmps20
  go_wp2_with (first
    | ((with_reducible refine gate (N := 1) rfl ?_); refine wpList_box_Own rfl (cs := cA g (.slice Ap np cp) (.slice Ag ng cg)) (t := 29) (by first | (go_simp; done) | (go_simp; rfl)) M0.out ?_; intro m w1 M; (have M1 := hid M); clear M)
    | ((with_reducible refine gate (N := 2) rfl ?_); refine wpList_box_Own rfl (cs := eA 0 0 0 0 (.slice none 0 0) (.slice none 0 0)) (t := 52) (by first | (go_simp; done) | (go_simp; rfl)) M1.out ?_; intro p2 w2 M; obtain ⟨c4, c5⟩ := c_cells (m := m) (g := g) (vp := .slice Ap np cp) (vg := .slice Ag ng cg) M (by simp); (have M2 := hid M); clear M)
    | ((with_reducible refine gate (N := 3) rfl ?_); refine wpList_box_Own rfl (cs := eA 0 0 0 0 (.slice none 0 0) (.slice none 0 0)) (t := 52) (by first | (go_simp; done) | (go_simp; rfl)) M2.out ?_; intro p3 w3 M; (clear c4 c5); (have M3 := hid M); clear M)
    | ((with_reducible refine gateSt (t := 52) (p := 3) rfl ?_); refine wpList_store_all (n := 6) (L1 := []) (mid := (eA 0 0 0 0 (.slice none 0 0) (.slice none 0 0)).toList) (vs := (eA 0 0 0 0 (.slice none 0 0) (.slice Ag ng cg)).toList) rfl rfl (by kernel_rfl) rfl rfl rfl rfl rfl (one_all rfl) M3.out ?_; intro w4 M; obtain ⟨c4, c5⟩ := c_cells (m := m) (g := g) (vp := .slice Ap np cp) (vg := .slice Ag ng cg) M (by simp); obtain ⟨d0, d1, d2, d3⟩ := c_box (m := m) (g := g) (vp := .slice Ap np cp) (vg := .slice Ag ng cg) M (by simp); (have M4 := hid M); clear M))
  clear d0 d1 d2 d3 c4 c5 M3 M2 M1
  have M4 : Hid (Own w w4 [.blk p3 52 (eA 0 0 0 0 (.slice none 0 0) (.slice Ag ng cg)), .blk p2 52 (eA 0 0 0 0 (.slice none 0 0) (.slice none 0 0)), .blk m 29 (cA g (.slice Ap np cp) (.slice Ag ng cg))]) := M4
  go_loopw [13] (fun i wr => ∃ (k : Nat) (a b c d : Int), k ≤ 4 ∧ i = .int .i64 k ∧ a = (if 0 < k then g.b0 else 0) ∧ b = (if 1 < k then g.b1 else 0) ∧ c = (if 2 < k then g.b2 else 0) ∧ d = (if 3 < k then g.b3 else 0) ∧ Hid (Own w wr [.blk p3 52 (eA a b c d (.slice none 0 0) (.slice Ag ng cg)), .blk p2 52 (eA 0 0 0 0 (.slice none 0 0) (.slice none 0 0)), .blk m 29 (cA g (.slice Ap np cp) (.slice Ag ng cg))])) (fun i _ => 4 - (intOf i).toNat)
  case atStart => exact ⟨0, 0, 0, 0, 0, by omega, rfl, rfl, rfl, rfl, rfl, M4⟩
  case round =>
    clear M4
    obtain ⟨k, a, b, c, d, hk, rfl, ha, hb, hc, hd, MR⟩ := hrel
    rcases (show k = 0 ∨ k = 1 ∨ k = 2 ∨ k = 3 ∨ k = 4 by omega) with rfl | rfl | rfl | rfl | rfl
    · obtain rfl : a = 0 := by simpa using ha
      obtain rfl : b = 0 := by simpa using hb
      obtain rfl : c = 0 := by simpa using hc
      obtain rfl : d = 0 := by simpa using hd
      clear ha hb hc hd hk
      obtain ⟨⟨r0, r1, r2, r3, r4, r5⟩, f0, f1, f2, f3, f4, f5⟩ := e_cells (m := p3) (a := 0) (b := 0) (c := 0) (d := 0) (vp := .slice none 0 0) (vg := .slice Ag ng cg) MR.out (by simp)
      go_wp2_with ((with_reducible refine gate (N := 16) rfl ?_); refine wpList_run (v := .int .i16 g.b0) (w' := wr) rfl (by kernel_rfl) ?_)
      go_roundw
      case rel => exact ⟨1, g.b0, 0, 0, 0, by omega, by go_num, by simp, by simp, by simp, by simp, hid (MR.out.set (L1 := []) 0 (.int .i64 g.b0))⟩
      case measure => simp [intOf]
    · obtain rfl : a = g.b0 := by simpa using ha
      obtain rfl : b = 0 := by simpa using hb
      obtain rfl : c = 0 := by simpa using hc
      obtain rfl : d = 0 := by simpa using hd
      clear ha hb hc hd hk
      obtain ⟨⟨r0, r1, r2, r3, r4, r5⟩, f0, f1, f2, f3, f4, f5⟩ := e_cells (m := p3) (a := g.b0) (b := 0) (c := 0) (d := 0) (vp := .slice none 0 0) (vg := .slice Ag ng cg) MR.out (by simp)
      go_wp2_with ((with_reducible refine gate (N := 16) rfl ?_); refine wpList_run (v := .int .i16 g.b1) (w' := wr) rfl (by kernel_rfl) ?_)
      go_roundw
      case rel => exact ⟨2, g.b0, g.b1, 0, 0, by omega, by go_num, by simp, by simp, by simp, by simp, hid (MR.out.set (L1 := []) 1 (.int .i64 g.b1))⟩
      case measure => simp [intOf]
    · obtain rfl : a = g.b0 := by simpa using ha
      obtain rfl : b = g.b1 := by simpa using hb
      obtain rfl : c = 0 := by simpa using hc
      obtain rfl : d = 0 := by simpa using hd
      clear ha hb hc hd hk
      obtain ⟨⟨r0, r1, r2, r3, r4, r5⟩, f0, f1, f2, f3, f4, f5⟩ := e_cells (m := p3) (a := g.b0) (b := g.b1) (c := 0) (d := 0) (vp := .slice none 0 0) (vg := .slice Ag ng cg) MR.out (by simp)
      go_wp2_with ((with_reducible refine gate (N := 16) rfl ?_); refine wpList_run (v := .int .i16 g.b2) (w' := wr) rfl (by kernel_rfl) ?_)
      go_roundw
      case rel => exact ⟨3, g.b0, g.b1, g.b2, 0, by omega, by go_num, by simp, by simp, by simp, by simp, hid (MR.out.set (L1 := []) 2 (.int .i64 g.b2))⟩
      case measure => simp [intOf]
    · obtain rfl : a = g.b0 := by simpa using ha
      obtain rfl : b = g.b1 := by simpa using hb
      obtain rfl : c = g.b2 := by simpa using hc
      obtain rfl : d = 0 := by simpa using hd
      clear ha hb hc hd hk
      obtain ⟨⟨r0, r1, r2, r3, r4, r5⟩, f0, f1, f2, f3, f4, f5⟩ := e_cells (m := p3) (a := g.b0) (b := g.b1) (c := g.b2) (d := 0) (vp := .slice none 0 0) (vg := .slice Ag ng cg) MR.out (by simp)
      go_wp2_with ((with_reducible refine gate (N := 16) rfl ?_); refine wpList_run (v := .int .i16 g.b3) (w' := wr) rfl (by kernel_rfl) ?_)
      go_roundw
      case rel => exact ⟨4, g.b0, g.b1, g.b2, g.b3, by omega, by go_num, by simp, by simp, by simp, by simp, hid (MR.out.set (L1 := []) 3 (.int .i64 g.b3))⟩
      case measure => simp [intOf]
    · obtain rfl : a = g.b0 := by simpa using ha
      obtain rfl : b = g.b1 := by simpa using hb
      obtain rfl : c = g.b2 := by simpa using hc
      obtain rfl : d = g.b3 := by simpa using hd
      clear ha hb hc hd hk
      obtain ⟨c4, -⟩ := c_cells (m := m) (g := g) (vp := .slice Ap np cp) (vg := .slice Ag ng cg) MR.out (by simp)
      go_wp2_with fail
      clear c4
      go_loopw [26] (fun i wr => ∃ (t : Nat), t ≤ np ∧ i = .int .i64 t ∧ Hid (∃ (B : Option Addr) (d : Nat), Own w wr [.row 82 8 (.slice B t d) t (dtC (g.parts.take t)), .blk p3 52 (eA g.b0 g.b1 g.b2 g.b3 (.slice B t d) (.slice Ag ng cg)), .blk p2 52 (eA 0 0 0 0 (.slice none 0 0) (.slice none 0 0)), .blk m 29 (cA g (.slice Ap np cp) (.slice Ag ng cg))])) (fun i _ => np - (intOf i).toNat)
      case atStart => exact ⟨0, Nat.zero_le _, rfl, hid ⟨none, 0, MR.out.nil_row 82 8⟩⟩
      case round =>
        clear MR
        obtain ⟨t, ht, rfl, hMP⟩ := hrel
        obtain ⟨B, d, MP⟩ := hMP.out
        clear hMP
        replace MP := hid MP
        by_cases htl : t < np
        · obtain ⟨ad, rfl⟩ := hpS.out (by omega)
          obtain ⟨k0, k1, k2, k3, k4, k5, k6, k7⟩ := hPA.out ad rfl wr MP.out.below t htl
          obtain ⟨⟨q0, q1⟩, ⟨q2, q3⟩, ⟨q4, q5⟩, ⟨q6, q7⟩, ⟨q8, q9⟩, ⟨q10, q11⟩, ⟨q12, q13⟩, ⟨q14, q15⟩⟩ := hOH.out.at t
          have hsn := hid (show g.parts.take (t + 1) = g.parts.take t ++ [pAt g.parts t] by
            rw [List.take_succ_eq_append_getElem (by rw [hnpH.out]; exact htl)]
            simp [pAt, List.getD, hnpH.out, htl])
          generalize pAt g.parts t = p at *
          go_wp2_with (first
            | ((with_reducible refine gate (N := 7) rfl ?_); refine wpList_box_Own rfl (cs := ptA pt0) (t := 35) (by first | (go_simp; done) | (go_simp; rfl)) MP.out ?_; intro q w6 M; (clear k0 k1 k2 k3 k4 k5 k6 k7); (have M6 := hid M); clear M)
            | ((with_reducible refine gateSt (t := 35) (p := 7) rfl ?_); refine wpList_store_all (n := 8) (L1 := []) (mid := (ptA pt0).toList) (vs := (ptA p).toList) rfl rfl (by kernel_rfl) rfl rfl rfl rfl rfl (one_all rfl) M6.out ?_; intro w7 M; obtain ⟨l0, l1, l2, l3, l4, l5, l6, l7⟩ := pt_cells (m := q) (p := p) M (by simp); obtain ⟨⟨-, -, -, -, r4, -⟩, -, -, -, -, f4, -⟩ := e_cells (m := p3) (a := g.b0) (b := g.b1) (c := g.b2) (d := g.b3) (vp := (.slice B t d)) (vg := .slice Ag ng cg) M (by simp); (have M7 := hid M); clear M)
            | (at_builtin; refine wpList_append_Own rfl (.tmp 31) (.tmp 62) _ rfl sized_dt rfl rfl (L1 := [.blk w7.heap.size 82 (dtA p), .blk q 35 (ptA p)]) (L2 := [.blk p3 52 (eA g.b0 g.b1 g.b2 g.b3 (.slice B t d) (.slice Ag ng cg)), .blk p2 52 (eA 0 0 0 0 (.slice none 0 0) (.slice none 0 0)), .blk m 29 (cA g (.slice (some ad) np cp) (.slice Ag ng cg))]) (M7.out.alloc _ _) (SliceAt.built (M7.out.alloc _ _) (.head _) 8 1 rfl (by unfold maxLen; omega)) (one_all rfl) (by unfold maxLen; omega) (by omega) ?_; intro v' w' M'; obtain ⟨A9, c9, rfl⟩ := M'.tail.tail.form (.head _); obtain ⟨⟨-, -, -, -, r4, -⟩, -, -, -, -, f4, -⟩ := e_cells (m := p3) (a := g.b0) (b := g.b1) (c := g.b2) (d := g.b3) (vp := (.slice B t d)) (vg := .slice Ag ng cg) M' (by simp); (have M9 := hid M'.tail.tail); clear M'))
          go_roundw
          case rel => exact ⟨t + 1, by omega, by go_num, hid ⟨A9, c9, by rw [hsn.out, dtC_append]; exact M9.out.set (L1 := [_]) 4 (.slice A9 (t + 1) c9)⟩⟩
          case measure => simp [intOf] <;> omega
        · obtain rfl : t = np := by omega
          have MQ : Hid (Own w wr [.row 82 8 (.slice B t d) t (dtC (g.parts.take t)), .blk p3 52 (eA g.b0 g.b1 g.b2 g.b3 (.slice B t d) (.slice Ag ng cg)), .blk p2 52 (eA 0 0 0 0 (.slice none 0 0) (.slice none 0 0))]) := hid (MP.out.sub (L' := [_, _, _]) (by simp))
          go_wp2_with (first
            | ((with_reducible refine gate (N := 66) rfl ?_); refine wpList_run rfl (exec_load_agg agg_dg rfl rfl MQ.out (g := p3) (t := 52) (cs := eA g.b0 g.b1 g.b2 g.b3 (.slice B t d) (.slice Ag ng cg)) (vs := (eA g.b0 g.b1 g.b2 g.b3 (.slice B t d) (.slice Ag ng cg)).toList) (by simp) rfl rfl) ?_)
            | ((with_reducible refine gateSt (t := 52) (p := 2) rfl ?_); refine wpList_store_all (n := 6) (L1 := [.row 82 8 (.slice B t d) t (dtC (g.parts.take t)), .blk p3 52 (eA g.b0 g.b1 g.b2 g.b3 (.slice B t d) (.slice Ag ng cg))]) (mid := (eA 0 0 0 0 (.slice none 0 0) (.slice none 0 0)).toList) (vs := (eA g.b0 g.b1 g.b2 g.b3 (.slice B t d) (.slice Ag ng cg)).toList) rfl rfl (by kernel_rfl) rfl rfl rfl rfl rfl (one_all rfl) MQ.out ?_; intro w9 M; (have M9 := hid M); clear M))
          refine bodyPost_ret (v := .agg (eA g.b0 g.b1 g.b2 g.b3 (.slice B t d) (.slice Ag ng cg))) (results_agg (p := 2) rfl agg_dg _ (by rfl) (M9.out.heap (g := p2) (t := 52) (by simp)) rfl) rfl (.mk ?_)
          refine ⟨.slice B t d, rfl, ?_⟩
          rw [hnpH.out]
          have h1 : g.parts.take t = g.parts := List.take_of_length_le (by rw [hnpH.out]; omega)
          have h9 := M9.out.sub (L' := [.row 82 8 (.slice B t d) t (dtC (g.parts.take t))]) (by simp)
          rwa [h1] at h9
end Go.Proofs.Yteoicpbfjkjogaa
