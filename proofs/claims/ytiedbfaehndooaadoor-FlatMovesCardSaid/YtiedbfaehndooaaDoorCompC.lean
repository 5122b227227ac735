/- Package compo: which glyphs may be. -/
import Derived.Test.YtiedbfaehndooaaDoorCompB
namespace Go.Proofs.YtiedbfaehndooaaDoor
open Go Go.RowKit
set_option linter.unusedVariables false
set_option linter.unusedSimpArgs false
set_option maxRecDepth 100000

theorem agg_cg : AggOf Tryd.prog 40 6 := .mk' Tryd.underlying40 rfl (by kernel_rfl)
theorem c_cells {W0 w : World} {L : List Ent} {m : Nat} {g : Cg} {vp vg : Value} (M : Own W0 w L) (h : .blk m 40 (cA g vp vg) ∈ L) :
    w.cell? ⟨m, 4, none⟩ = some vp ∧ w.cell? ⟨m, 5, none⟩ = some vg := ⟨M.cell h 4, M.cell h 5⟩
theorem c_box {W0 w : World} {L : List Ent} {m : Nat} {g : Cg} {vp vg : Value} (M : Own W0 w L) (h : .blk m 40 (cA g vp vg) ∈ L) :
    w.cell? ⟨m, 0, none⟩ = some (.int .i16 g.b0) ∧ w.cell? ⟨m, 1, none⟩ = some (.int .i16 g.b1) ∧ w.cell? ⟨m, 2, none⟩ = some (.int .i16 g.b2) ∧ w.cell? ⟨m, 3, none⟩ = some (.int .i16 g.b3) := ⟨M.cell h 0, M.cell h 1, M.cell h 2, M.cell h 3⟩
theorem code_ne {f : Int} (f0 : 0 ≤ f) (f1 : f < 65536) : ∃ K, bits .and .u16 f 256 = K ∧ ((hasB f 256 = true ∧ K = 256) ∨ (hasB f 256 = false ∧ K = 0)) := by
  refine ⟨_, and_256 f0 f1, ?_⟩
  unfold b01
  cases hasB f 256 <;> simp
set_option maxHeartbeats 4000000 in
theorem cRight_calls (w : World) {g : Cg} {vp vg : Value} (hO : g.Ok) (hG : CAt w g vp vg) :
    Calls Tryd.prog 21 #[.agg (cA g vp vg)] w (Ret fun r w' => r = .bool (cgR g) ∧ Below w.heap.size w w') := by
  obtain ⟨hp, hgg⟩ := hG
  obtain ⟨Ap, cp, rfl, hcp, hmp, -, hrp⟩ := hp
  obtain ⟨Ag, cg, rfl, hcg, hmg, -, -⟩ := hgg
  unfold maxLen at hmp hmg
  have hOH := hid hO
  have hcR := hid (show cgR g = (partsB g.parts g.parts.length && (decide (1 ≤ g.parts.length) && (decide (g.parts.length ≤ 200) && (decide (g.prog.length ≤ 65535) && (codeB g.parts g.parts.length || decide (g.prog.length = 0)))))) from rfl)
  obtain ⟨np, hnp⟩ : ∃ n, g.parts.length = n := ⟨_, rfl⟩
  obtain ⟨ng, hng⟩ : ∃ n, g.prog.length = n := ⟨_, rfl⟩
  rw [hnp] at hrp hcp
  rw [hng] at hcg
  rw [hnp, hng] at hcR
  simp only [cA, hnp, hng]
  have hPA := hid (fun ad (e : Ap = some ad) w' hb i hi => part_at (w' := w') (i := i) hnp (e ▸ hrp) hb hi)
  have hpS := hid (fun (h : 0 < np) => show ∃ ad, Ap = some ad by obtain ⟨ad, e, -⟩ := hrp.2 h; exact ⟨ad, e⟩)
  have M0 := hid (Own.start w)
  clear hrp hnp hng hO
  go_enter Tryd.func21, Tryd.ntmps21
  go_wp2_with ((with_reducible refine gate (N := 1) rfl ?_); refine wpList_box_Own rfl (cs := cA g (.slice Ap np cp) (.slice Ag ng cg)) (t := 40) (by first | (go_simp; done) | (go_simp; rfl)) M0.out ?_; intro m w1 M; obtain ⟨c4, c5⟩ := c_cells (m := m) (g := g) (vp := .slice Ap np cp) (vg := .slice Ag ng cg) M (by simp); (have M1 := hid M); clear M)
  clear c4 c5
  go_loopw [3, 9] (fun s i wr => ∃ k : Nat, k ≤ np ∧ i = .int .i64 k ∧ s = .bool (codeB g.parts k) ∧ Hid (partsB g.parts k = true) ∧ Hid (Own w wr [.blk m 40 (cA g (.slice Ap np cp) (.slice Ag ng cg))])) (fun _ i _ => np - (intOf i).toNat)
  case atStart => exact ⟨0, Nat.zero_le _, rfl, rfl, hid (decide_eq_true fun i hi => absurd hi (by omega)), M1⟩
  case round =>
    clear M1
    obtain ⟨k, hk, rfl, rfl, hall, MR⟩ := hrel
    obtain ⟨c4, c5⟩ := c_cells (m := m) (g := g) (vp := .slice Ap np cp) (vg := .slice Ag ng cg) MR.out (by simp)
    by_cases hlt : k < np
    · obtain ⟨ad, rfl⟩ := hpS.out (by omega)
      obtain ⟨k0, k1, k2, k3, k4, k5, k6, k7⟩ := hPA.out ad rfl wr MR.out.below k hlt
      have hOk := hid (hOH.out.at k)
      have hsu := hid (partsB_succ g.parts k)
      have hno := hid (fun h => partsB_no (ps := g.parts) (k := k) (n := np) h hlt)
      have hcd := hid (show codeB g.parts (k + 1) = hasB (pAt g.parts k).f 256 from rfl)
      generalize pAt g.parts k = p at *
      have hRt := hid (fun w1 => partRight_calls w1 hOk.out)
      obtain ⟨K, hK, hKc⟩ := code_ne hOk.out.f.1 hOk.out.f.2
      cases hcb : codeB g.parts k
      · rw [hcb] at hsu hno
        cases hpb : partB p
        · rw [hpb] at hRt
          have hf := hid (show partsB g.parts np = false from hno.out (.inr hpb))
          go_wp2_with (first
            | ((with_reducible refine gate (N := 5) rfl ?_); refine wpList_box_Own rfl (cs := ptA pt0) (t := 45) (by first | (go_simp; done) | (go_simp; rfl)) MR.out ?_; intro n w3 M; (have M3 := hid M); clear M)
            | ((with_reducible refine gateSt (t := 45) (p := 5) rfl ?_); refine wpList_store_all (n := 8) (L1 := []) (mid := (ptA pt0).toList) (vs := (ptA p).toList) rfl rfl (by kernel_rfl) rfl rfl rfl rfl rfl (one_all rfl) M3.out ?_; intro w4 M; (clear k0 k1 k2 k3 k4 k5 k6 k7); (have M4 := hid M); clear M)
            | ((with_reducible refine gate (N := 15) rfl ?_); refine wpList_run rfl (exec_load_agg agg_part rfl rfl M4.out (g := n) (t := 45) (cs := ptA p) (vs := (ptA p).toList) (.head _) rfl rfl) ?_)
            | (go_at_call 40; (with_reducible refine (hRt.out _).mono ?_); rintro _ w5 ⟨_, rfl, rfl, hb⟩; (have M5 := hid (M4.out.keep hb)); clear hb))
          go_ret
          exact .mk ⟨by rw [hcR.out, hf.out]; rfl, M5.out.below⟩
        · rw [hpb] at hRt
          have hs := hid (show partsB g.parts (k + 1) = true by rw [hsu.out, hall.out, hpb]; rfl)
          go_wp2_with (first
            | ((with_reducible refine gate (N := 5) rfl ?_); refine wpList_box_Own rfl (cs := ptA pt0) (t := 45) (by first | (go_simp; done) | (go_simp; rfl)) MR.out ?_; intro n w3 M; (have M3 := hid M); clear M)
            | ((with_reducible refine gateSt (t := 45) (p := 5) rfl ?_); refine wpList_store_all (n := 8) (L1 := []) (mid := (ptA pt0).toList) (vs := (ptA p).toList) rfl rfl (by kernel_rfl) rfl rfl rfl rfl rfl (one_all rfl) M3.out ?_; intro w4 M; (clear k0 k1 k2 k3 k4 k5 k6 k7); (have M4 := hid M); clear M)
            | ((with_reducible refine gate (N := 15) rfl ?_); refine wpList_run rfl (exec_load_agg agg_part rfl rfl M4.out (g := n) (t := 45) (cs := ptA p) (vs := (ptA p).toList) (.head _) rfl rfl) ?_)
            | (go_at_call 40; (with_reducible refine (hRt.out _).mono ?_); rintro _ w5 ⟨_, rfl, rfl, hb⟩; (have M5 := hid (M4.out.keep hb)); clear hb; obtain ⟨e0, -, -, -, -, -, -, -⟩ := pt_cellsC (m := n) (p := p) M5.out (by simp)))
          rcases hKc with ⟨h6, rfl⟩ | ⟨h6, rfl⟩
          · rw [h6] at hcd
            go_roundw
            case rel => exact ⟨k + 1, by omega, by go_num, by rw [hcd.out]; simp [hK], hs, hid M5.out.tail⟩
            case measure => simp [intOf] <;> omega
          · rw [h6] at hcd
            go_roundw
            case rel => exact ⟨k + 1, by omega, by go_num, by rw [hcd.out]; simp [hK], hs, hid M5.out.tail⟩
            case measure => simp [intOf] <;> omega
      · have hf := hid (show partsB g.parts np = false from hno.out (.inl hcb))
        go_wp2_with (first
          | ((with_reducible refine gate (N := 5) rfl ?_); refine wpList_box_Own rfl (cs := ptA pt0) (t := 45) (by first | (go_simp; done) | (go_simp; rfl)) MR.out ?_; intro n w3 M; (have M3 := hid M); clear M)
          | ((with_reducible refine gateSt (t := 45) (p := 5) rfl ?_); refine wpList_store_all (n := 8) (L1 := []) (mid := (ptA pt0).toList) (vs := (ptA p).toList) rfl rfl (by kernel_rfl) rfl rfl rfl rfl rfl (one_all rfl) M3.out ?_; intro w4 M; (clear k0 k1 k2 k3 k4 k5 k6 k7); (have M4 := hid M); clear M))
        go_ret
        exact .mk ⟨by rw [hcR.out, hf.out]; rfl, M4.out.below⟩
    · obtain rfl : k = np := by omega
      rw [hall.out] at hcR
      clear hall hPA hpS
      generalize codeB g.parts k = cb at *
      by_cases q1 : 1 ≤ k
      · by_cases q2 : k ≤ 200
        · by_cases q3 : ng ≤ 65535
          · cases cb
            · by_cases q4 : ng = 0
              · have g1 : ((ng : Int) == 0) = true := by rw [beq_iff_eq]; omega
                go_wp2
                go_ret
                exact .mk ⟨by rw [hcR.out]; simp [*], MR.out.below⟩
              · have g1 : ((ng : Int) == 0) = false := by rw [beq_eq_false_iff_ne]; omega
                go_wp2
                go_ret
                exact .mk ⟨by rw [hcR.out]; simp [*], MR.out.below⟩
            · go_wp2
              go_ret
              exact .mk ⟨by rw [hcR.out]; simp [*], MR.out.below⟩
          · have g3 : ¬ (ng : Int) ≤ 65535 := by omega
            go_wp2
            go_ret
            exact .mk ⟨by rw [hcR.out]; simp [*], MR.out.below⟩
        · have g2 : ¬ (k : Int) ≤ 200 := by omega
          go_wp2
          go_ret
          exact .mk ⟨by rw [hcR.out]; simp [*], MR.out.below⟩
      · have g1 : ¬ (k : Int) ≥ 1 := by omega
        go_wp2
        go_ret
        exact .mk ⟨by rw [hcR.out]; simp [*], MR.out.below⟩
end Go.Proofs.YtiedbfaehndooaaDoor
