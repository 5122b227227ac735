/- Package compo: the bytes of a glyph. -/
import Derived.Test.YteoicpbfjkjogaaCompD
namespace Go.Proofs.Yteoicpbfjkjogaa
open Go Go.RowKit
set_option linter.unusedVariables false
set_option linter.unusedSimpArgs false
set_option maxRecDepth 100000

theorem agg_box : AggOf Try.prog 26 4 := .mk' Try.underlying26 rfl (by kernel_rfl)
theorem i16_info : (Try.prog.info? 25).map (·.size) = some 1 := by kernel_rfl
theorem flatN_length (f : Int → List Int) (hf : ∀ x, (f x).length = 2) (l : List Int) : (l.flatMap f).length = 2 * l.length := by
  induction l with
  | nil => rfl
  | cons x l ih => rw [List.flatMap_cons, List.length_append, ih, hf, List.length_cons]; omega
theorem flatN_snoc (f : Int → List Int) (l : List Int) (k : Nat) (hk : k < l.length) : (l.take (k + 1)).flatMap f = (l.take k).flatMap f ++ f (l.getD k 0) := by
  rw [List.take_add_one, List.getElem?_eq_getElem hk, List.flatMap_append]
  simp [List.getD, hk]
theorem cBytes_no (w : World) {g : Cg} {vp vg : Value} (hO : g.Ok) (hG : CAt w g vp vg) (hR : cgR g = false) :
    Calls Try.prog 13 #[.agg (cA g vp vg)] w (Ret fun r w' => Own w w' [.row 5 1 r 0 []]) := by
  have M0 := hid (Own.start w)
  have hRt := hid (fun w1 (h : Below w.heap.size w w1) => cRight_calls w1 hO (hG.below h))
  rw [hR] at hRt
  clear hR
  go_enter Try.func13, Try.ntmps13
  go_wp2_with (first
    | ((with_reducible refine gate (N := 1) rfl ?_); refine wpList_box_Own rfl (cs := cA g vp vg) (t := 29) (by first | (go_simp; done) | (go_simp; rfl)) M0.out ?_; intro m w1 M; (have M1 := hid M); clear M)
    | ((with_reducible refine gate (N := 8) rfl ?_); refine wpList_run rfl (exec_load_agg agg_cg rfl rfl M1.out (g := m) (t := 29) (cs := cA g vp vg) (vs := (cA g vp vg).toList) (.head _) rfl rfl) ?_)
    | (go_at_call 12; refine (hRt.out _ M1.out.below).mono ?_; rintro _ w2 ⟨_, rfl, rfl, hb⟩; (have M2 := hid (M1.out.keep hb)); clear hb))
  go_ret
  exact .mk (M2.out.tail.nil_row _ _)
theorem cgR_parts {g : Cg} (h : cgR g = true) : partsB g.parts g.parts.length = true ∧ 1 ≤ g.parts.length ∧ g.parts.length ≤ 200 ∧ g.prog.length ≤ 65535 ∧ (codeB g.parts g.parts.length = true ∨ g.prog.length = 0) := by
  unfold cgR at h
  simp only [Bool.and_eq_true, Bool.or_eq_true, decide_eq_true_eq] at h
  exact h
set_option maxHeartbeats 4000000 in
theorem cBytes_yes (w : World) {g : Cg} {vp vg : Value} (hO : g.Ok) (hG : CAt w g vp vg) (hR : cgR g = true) :
    Calls Try.prog 13 #[.agg (cA g vp vg)] w (Ret fun r w' => Own w w' [.row 5 1 r (cgB g).length (ints .u8 (cgB g))]) := by
  have M0 := hid (Own.start w)
  have hRt := hid (fun w1 (h : Below w.heap.size w w1) => cRight_calls w1 hO (hG.below h))
  rw [hR] at hRt
  obtain ⟨hall, hn1, hn2, hg1, -⟩ := cgR_parts hR
  have hGA := hid (fun w1 (h : Below w.heap.size w w1) => hG.g.below h)
  obtain ⟨hp, hgg⟩ := hG
  obtain ⟨Ap, cp, rfl, hcp, hmp, -, hrp⟩ := hp
  obtain ⟨Ag, cg, rfl, hcg, hmg, -, -⟩ := hgg
  unfold maxLen at hmp hmg
  have hOH := hid hO
  have hpb := hid (fun k (hk : k < g.parts.length) => ((of_decide_eq_true hall : ∀ i, i < g.parts.length → codeB g.parts i = false ∧ partB (pAt g.parts i) = true) k hk).2)
  have hfin := hid (show cgB g = b2 65535 ++ (g.box.flatMap s2 ++ (laysP g.parts g.parts.length ++ progB g)) from rfl)
  have hpr := hid (show progB g = if codeB g.parts g.parts.length then b2 g.prog.length ++ g.prog else [] from rfl)
  have hLs := hid (fun k => laysP_succ g.parts k)
  have hLl := hid (fun k => laysP_length g.parts k)
  obtain ⟨np, hnp⟩ : ∃ n, g.parts.length = n := ⟨_, rfl⟩
  obtain ⟨ng, hng⟩ : ∃ n, g.prog.length = n := ⟨_, rfl⟩
  rw [hnp] at hrp hcp hn1 hn2 hpb hfin hpr hLs
  rw [hng] at hcg hg1 hpr
  have hPA := hid (fun ad (e : Ap = some ad) w' hb i hi => part_at (w' := w') (i := i) hnp (e ▸ hrp) hb hi)
  obtain ⟨ad, rfl, -⟩ := hrp.2 (by omega)
  have hnpH := hid hnp
  have hngH := hid hng
  simp only [cA, hnp, hng]
  simp only [cA, hnp, hng] at hRt
  rw [hng] at hGA
  clear hrp hnp hng hO hR hall
  go_enter Try.func13, Try.ntmps13
  go_wp2_with (first
    | ((with_reducible refine gate (N := 1) rfl ?_); refine wpList_box_Own rfl (cs := cA g (.slice (some ad) np cp) (.slice Ag ng cg)) (t := 29) (by first | (go_simp; done) | (go_simp; rfl)) M0.out ?_; intro m w1 M; (have M1 := hid M); clear M)
    | ((with_reducible refine gate (N := 8) rfl ?_); refine wpList_run rfl (exec_load_agg agg_cg rfl rfl M1.out (g := m) (t := 29) (cs := cA g (.slice (some ad) np cp) (.slice Ag ng cg)) (vs := (cA g (.slice (some ad) np cp) (.slice Ag ng cg)).toList) (.head _) rfl rfl) ?_)
    | (go_at_call 12; (with_reducible refine (hRt.out _ M1.out.below).mono ?_); rintro _ w2 ⟨_, rfl, rfl, hb⟩; (have M2 := hid (M1.out.keep hb)); clear hb)
    | ((with_reducible refine gate (N := 3) rfl ?_); refine wpList_box_Own rfl (cs := #[.slice none 0 0]) (t := 69) (by first | (go_simp; done) | (go_simp; rfl)) M2.out ?_; intro b w3 M; (have M3 := hid M.mk_writer); (have M3' := hid M); clear M)
    | (go_at_call 28; refine (wr_U16 (n := 65535) (by omega) (by omega) (by simp) M3.out).mono ?_; rintro _ w4 ⟨_, rfl, rfl, v4, M⟩; (have M4 := hid M); clear M)
    | ((with_reducible refine gate (N := 13) rfl ?_); refine wpList_run rfl (exec_load_agg agg_box rfl rfl M4.out (g := m) (t := 29) (cs := cA g (.slice (some ad) np cp) (.slice Ag ng cg)) (vs := ints .i16 g.box) (by simp [wrE]) rfl rfl) ?_))
  go_loopw [14] (fun i wr => ∃ k : Nat, k ≤ 4 ∧ i = .int .i64 k ∧ Hid (∃ v, Own w wr ([] ++ (wrE b v (b2 65535 ++ (g.box.take k).flatMap s2) ++ [.blk m 29 (cA g (.slice (some ad) np cp) (.slice Ag ng cg))])))) (fun i _ => 4 - (intOf i).toNat)
  case atStart => exact ⟨0, by omega, rfl, hid ⟨v4, by simpa using M4.out⟩⟩
  case round =>
    clear M4 M3
    obtain ⟨k, hk, rfl, hM⟩ := hrel
    obtain ⟨v, MR⟩ := hM.out
    clear hM
    replace MR := hid MR
    have hbl : g.box.length = 4 := rfl
    by_cases hlt : k < 4
    · have hix := run_index_ints (P := Try.prog) Try.underlying26 Try.underlying25 i16_info g.box k rfl hlt
      have hx : I16 (g.box.getD k 0) := by
        rcases (by omega : k = 0 ∨ k = 1 ∨ k = 2 ∨ k = 3) with rfl | rfl | rfl | rfl
        · exact hOH.out.x0
        · exact hOH.out.x1
        · exact hOH.out.x2
        · exact hOH.out.x3
      have hfs := hid (flatN_snoc s2 g.box k (by omega))
      have hl := hid (show (b2 65535 ++ (g.box.take k).flatMap s2).length + 2 ≤ 140737488355328 by rw [List.length_append, b2_length, flatN_length s2 (fun _ => rfl), List.length_take]; omega)
      generalize g.box.getD k 0 = x at *
      obtain ⟨x0, x1⟩ := hx
      go_wp2_with (go_at_call 29; (with_reducible refine (wr_I16 x0 x1 hl.out MR.out).mono ?_); rintro _ w7 ⟨_, rfl, rfl, v7, M⟩; (have M7 := hid M); clear M)
      go_roundw
      case rel => exact ⟨k + 1, by omega, by go_num, hid ⟨v7, by rw [hfs.out, ← List.append_assoc]; exact M7.out⟩⟩
      case measure => simp [intOf] <;> omega
    · obtain rfl : k = 4 := by omega
      simp only [show ((4 : Nat) : Int) = 4 from rfl]
      rw [show g.box.take 4 = g.box from List.take_of_length_le (by rw [hbl]; omega)] at MR
      obtain ⟨p1, hp1⟩ : ∃ p, b2 65535 ++ g.box.flatMap s2 = p := ⟨_, rfl⟩
      rw [hp1] at MR
      have hl1 : p1.length = 10 := by rw [← hp1, List.length_append, b2_length, flatN_length s2 (fun _ => rfl), hbl]
      replace hp1 := hid hp1
      replace hl1 := hid hl1
      obtain ⟨c4, c5⟩ := c_cells (m := m) (g := g) (vp := .slice (some ad) np cp) (vg := .slice Ag ng cg) MR.out (by simp [wrE])
      go_wp2_with fail
      clear c4 c5
      go_loopw [23] (fun i wr => ∃ k : Nat, k ≤ np ∧ i = .int .i64 k ∧ Hid (∃ v, Own w wr ([] ++ (wrE b v (p1 ++ laysP g.parts k) ++ [.blk m 29 (cA g (.slice (some ad) np cp) (.slice Ag ng cg))])))) (fun i _ => np - (intOf i).toNat)
      case atStart => exact ⟨0, by omega, rfl, hid ⟨v, by rw [show laysP g.parts 0 = [] from rfl, List.append_nil]; exact MR.out⟩⟩
      case round =>
        clear MR
        obtain ⟨k, hk, rfl, hM⟩ := hrel
        obtain ⟨v, MR⟩ := hM.out
        clear hM
        replace MR := hid MR
        obtain ⟨c4, c5⟩ := c_cells (m := m) (g := g) (vp := .slice (some ad) np cp) (vg := .slice Ag ng cg) MR.out (by simp [wrE])
        by_cases hlt : k < np
        · obtain ⟨k0, k1, k2, k3, k4, k5, k6, k7⟩ := hPA.out ad rfl wr MR.out.below k hlt
          have hOk := hid (hOH.out.at k)
          have hRk := hid (hpb.out k hlt)
          have hsu := hid (hLs.out k)
          have hll := hid (show (p1 ++ laysP g.parts k).length + 16 ≤ 140737488355328 by have := hLl.out k; rw [List.length_append, hl1.out]; omega)
          generalize pAt g.parts k = p at *
          have hLay := hid (fun w1 (n : Nat) last (M : Own w w1 ([.blk n 35 (ptA p)] ++ (wrE b v (p1 ++ laysP g.parts k) ++ [.blk m 29 (cA g (.slice (some ad) np cp) (.slice Ag ng cg))]))) => lay_calls hOk.out hRk.out last hll.out M)
          have hwn : IntKind.i64.wrap ((np : Int) - 1) = (np : Int) - 1 := IntWalk.i64_in _ (by omega)
          by_cases hlast : k + 1 = np
          · have hq : ((k : Int) == (np : Int) - 1) = true := by rw [beq_iff_eq]; omega
            rw [decide_eq_true hlast] at hsu
            go_wp2_with (first
              | ((with_reducible refine gate (N := 7) rfl ?_); refine wpList_box_Own rfl (cs := ptA pt0) (t := 35) (by first | (go_simp; done) | (go_simp; rfl)) MR.out ?_; intro n w3 M; (have M3 := hid M); clear M)
              | ((with_reducible refine gateSt (t := 35) (p := 7) rfl ?_); refine wpList_store_all (n := 8) (L1 := []) (mid := (ptA pt0).toList) (vs := (ptA p).toList) rfl rfl (by kernel_rfl) rfl rfl rfl rfl rfl (one_all rfl) M3.out ?_; intro w4 M; (clear k0 k1 k2 k3 k4 k5 k6 k7 c4 c5); obtain ⟨c4, c5⟩ := c_cells (m := m) (g := g) (vp := .slice (some ad) np cp) (vg := .slice Ag ng cg) M (by simp [wrE]); (have M4 := hid M); clear M)
              | ((with_reducible refine gate (N := 28) rfl ?_); refine wpList_run rfl (exec_load_agg agg_part rfl rfl M4.out (g := n) (t := 35) (cs := ptA p) (vs := (ptA p).toList) (.head _) rfl rfl) ?_)
              | (go_at_call 30; (have hC := hLay.out w4 n true M4.out); ((with_reducible refine hC.mono ?_); clear hC); rintro _ w5 ⟨_, rfl, v5, M⟩; (have M5 := hid M); clear M))
            go_roundw
            case rel => exact ⟨k + 1, by omega, by go_num, hid ⟨v5, by rw [hsu.out, ← List.append_assoc p1]; exact M5.out.tail⟩⟩
            case measure => simp [intOf] <;> omega
          · have hq : ((k : Int) == (np : Int) - 1) = false := by rw [beq_eq_false_iff_ne]; omega
            rw [decide_eq_false hlast] at hsu
            go_wp2_with (first
              | ((with_reducible refine gate (N := 7) rfl ?_); refine wpList_box_Own rfl (cs := ptA pt0) (t := 35) (by first | (go_simp; done) | (go_simp; rfl)) MR.out ?_; intro n w3 M; (have M3 := hid M); clear M)
              | ((with_reducible refine gateSt (t := 35) (p := 7) rfl ?_); refine wpList_store_all (n := 8) (L1 := []) (mid := (ptA pt0).toList) (vs := (ptA p).toList) rfl rfl (by kernel_rfl) rfl rfl rfl rfl rfl (one_all rfl) M3.out ?_; intro w4 M; (clear k0 k1 k2 k3 k4 k5 k6 k7 c4 c5); obtain ⟨c4, c5⟩ := c_cells (m := m) (g := g) (vp := .slice (some ad) np cp) (vg := .slice Ag ng cg) M (by simp [wrE]); (have M4 := hid M); clear M)
              | ((with_reducible refine gate (N := 28) rfl ?_); refine wpList_run rfl (exec_load_agg agg_part rfl rfl M4.out (g := n) (t := 35) (cs := ptA p) (vs := (ptA p).toList) (.head _) rfl rfl) ?_)
              | (go_at_call 30; (have hC := hLay.out w4 n false M4.out); ((with_reducible refine hC.mono ?_); clear hC); rintro _ w5 ⟨_, rfl, v5, M⟩; (have M5 := hid M); clear M))
            go_roundw
            case rel => exact ⟨k + 1, by omega, by go_num, hid ⟨v5, by rw [hsu.out, ← List.append_assoc p1]; exact M5.out.tail⟩⟩
            case measure => simp [intOf] <;> omega
        · obtain rfl : k = np := by omega
          obtain ⟨t, rfl⟩ : ∃ t, k = t + 1 := ⟨k - 1, by omega⟩
          obtain ⟨k0, -⟩ := hPA.out ad rfl wr MR.out.below t (by omega)
          have hOk := hid (hOH.out.at t)
          have hcd := hid (show codeB g.parts (t + 1) = hasB (pAt g.parts t).f 256 from rfl)
          obtain ⟨K, hK, hKc⟩ := code_ne hOk.out.f.1 hOk.out.f.2
          generalize pAt g.parts t = p at *
          rcases hKc with ⟨h6, rfl⟩ | ⟨h6, rfl⟩
          · rw [hcd.out, h6, if_pos rfl] at hpr
            have hwu : IntKind.u16.wrap (ng : Int) = ng := by rw [IntKind.wrap_u16]; omega
            have hll := hid (show (p1 ++ laysP g.parts (t + 1)).length + 4 + ng ≤ 140737488355328 by have := hLl.out (t + 1); rw [List.length_append, hl1.out]; omega)
            go_upto_region 16 with fail
            have MW := hid MR.out.drew
            refine wp_region_held_drew (S := fun w' => w'.cell? ⟨m, 5, none⟩ = some (.slice Ag ng cg)) (by kernel_rfl) (c_cells (m := m) (g := g) (vp := .slice (some ad) (t + 1) cp) (vg := .slice Ag ng cg) MW.out (by simp [wrE])).2 (fun hHeld => ?_)
            repeat (first | (refine wpAnyH_take (i := 0) (v := ?_) rfl (by kernel_rfl) (by decide +kernel) (by decide +kernel) (fun _ _ _ h => h) ?_ (by assumption) ?_; rotate_left; (first | (refine yields_load (by rfl) rfl rfl ?_; intro w hSw; (try dsimp only at hSw); go_split_ands; assumption) | (refine Or.inl ⟨by rfl, ?_⟩; intro w hSw; (try dsimp only at hSw); go_simp; done) | (refine Or.inl ⟨by rfl, ?_⟩; intro w hSw; (try dsimp only at hSw); go_simp; with_reducible rfl) | exact Or.inr ⟨by rfl, rfl⟩ | exact Or.inr ⟨by rfl, by rfl⟩); (try simp only [Act.put, List.setIfInBounds_toArray, List.set_cons_zero, List.set_cons_succ, List.getElem_toArray, List.getElem_cons_zero, List.getElem_cons_succ])) | (refine wpAnyH_take (i := 1) (v := ?_) rfl (by kernel_rfl) (by decide +kernel) (by decide +kernel) (fun _ _ _ h => h) ?_ (by assumption) ?_; rotate_left; (first | (refine yields_load (by rfl) rfl rfl ?_; intro w hSw; (try dsimp only at hSw); go_split_ands; assumption) | (refine Or.inl ⟨by rfl, ?_⟩; intro w hSw; (try dsimp only at hSw); go_simp; done) | (refine Or.inl ⟨by rfl, ?_⟩; intro w hSw; (try dsimp only at hSw); go_simp; with_reducible rfl) | exact Or.inr ⟨by rfl, rfl⟩ | exact Or.inr ⟨by rfl, by rfl⟩); (try simp only [Act.put, List.setIfInBounds_toArray, List.set_cons_zero, List.set_cons_succ, List.getElem_toArray, List.getElem_cons_zero, List.getElem_cons_succ])) | (refine wpAnyH_take (i := 2) (v := ?_) rfl (by kernel_rfl) (by decide +kernel) (by decide +kernel) (fun _ _ _ h => h) ?_ (by assumption) ?_; rotate_left; (first | (refine yields_load (by rfl) rfl rfl ?_; intro w hSw; (try dsimp only at hSw); go_split_ands; assumption) | (refine Or.inl ⟨by rfl, ?_⟩; intro w hSw; (try dsimp only at hSw); go_simp; done) | (refine Or.inl ⟨by rfl, ?_⟩; intro w hSw; (try dsimp only at hSw); go_simp; with_reducible rfl) | exact Or.inr ⟨by rfl, rfl⟩ | exact Or.inr ⟨by rfl, by rfl⟩); (try simp only [Act.put, List.setIfInBounds_toArray, List.set_cons_zero, List.set_cons_succ, List.getElem_toArray, List.getElem_cons_zero, List.getElem_cons_succ])) | (refine wpAnyH_take (i := 3) (v := ?_) rfl (by kernel_rfl) (by decide +kernel) (by decide +kernel) (fun _ _ _ h => h) ?_ (by assumption) ?_; rotate_left; (first | (refine yields_load (by rfl) rfl rfl ?_; intro w hSw; (try dsimp only at hSw); go_split_ands; assumption) | (refine Or.inl ⟨by rfl, ?_⟩; intro w hSw; (try dsimp only at hSw); go_simp; done) | (refine Or.inl ⟨by rfl, ?_⟩; intro w hSw; (try dsimp only at hSw); go_simp; with_reducible rfl) | exact Or.inr ⟨by rfl, rfl⟩ | exact Or.inr ⟨by rfl, by rfl⟩); (try simp only [Act.put, List.setIfInBounds_toArray, List.set_cons_zero, List.set_cons_succ, List.getElem_toArray, List.getElem_cons_zero, List.getElem_cons_succ])) | (refine wpAnyH_take (i := 5) (v := ?_) rfl (by kernel_rfl) (by decide +kernel) (by decide +kernel) (fun _ _ _ h => h) ?_ (by assumption) ?_; rotate_left; (first | (refine yields_load (by rfl) rfl rfl ?_; intro w hSw; (try dsimp only at hSw); go_split_ands; assumption) | (refine Or.inl ⟨by rfl, ?_⟩; intro w hSw; (try dsimp only at hSw); go_simp; done) | (refine Or.inl ⟨by rfl, ?_⟩; intro w hSw; (try dsimp only at hSw); go_simp; with_reducible rfl) | exact Or.inr ⟨by rfl, rfl⟩ | exact Or.inr ⟨by rfl, by rfl⟩); (try simp only [Act.put, List.setIfInBounds_toArray, List.set_cons_zero, List.set_cons_succ, List.getElem_toArray, List.getElem_cons_zero, List.getElem_cons_succ])) | (refine wpAnyH_take (i := 6) (v := ?_) rfl (by kernel_rfl) (by decide +kernel) (by decide +kernel) (fun _ _ _ h => h) ?_ (by assumption) ?_; rotate_left; (first | (refine yields_load (by rfl) rfl rfl ?_; intro w hSw; (try dsimp only at hSw); go_split_ands; assumption) | (refine Or.inl ⟨by rfl, ?_⟩; intro w hSw; (try dsimp only at hSw); go_simp; done) | (refine Or.inl ⟨by rfl, ?_⟩; intro w hSw; (try dsimp only at hSw); go_simp; with_reducible rfl) | exact Or.inr ⟨by rfl, rfl⟩ | exact Or.inr ⟨by rfl, by rfl⟩); (try simp only [Act.put, List.setIfInBounds_toArray, List.set_cons_zero, List.set_cons_succ, List.getElem_toArray, List.getElem_cons_zero, List.getElem_cons_succ])))
            refine wpAnyH_ready (rs := [4]) (by decide +kernel) (by simp) ?_; refine AllReadyH.cons rfl (fun K hK => ?_) AllReadyH.nil; go_simp
            refine (wr_U16 (n := (ng : Int)) (by omega) (by omega) (by have := hll.out; omega) MW.out).mono ?_
            rintro _ w8 ⟨_, rfl, rfl, v8, M⟩
            have M8 := hid M
            clear M
            go_wp2_with fail
            refine hK.out _ _ (c_cells (m := m) (g := g) (vp := .slice (some ad) (t + 1) cp) (vg := .slice Ag ng cg) M8.out (by simp [wrE])).2 (fun hHeld => ?_); clear hK K; (try simp only [Act.put, List.setIfInBounds_toArray, List.set_cons_zero, List.set_cons_succ, List.getElem_toArray, List.getElem_cons_zero, List.getElem_cons_succ])
            refine wpAnyH_ready (rs := [7]) (by decide +kernel) (by simp) ?_; refine AllReadyH.cons rfl (fun K hK => ?_) AllReadyH.nil; go_simp
            refine (wr_put (ps := g.prog) (by rw [hngH.out]; exact hGA.out _ M8.out.below) (by have := hll.out; rw [List.length_append, b2_length, hngH.out]; omega) M8.out).mono ?_
            rintro _ w9 ⟨_, rfl, rfl, v9, M⟩
            have M9 := hid M
            clear M
            go_wp2_with fail
            refine hK.out _ _ (c_cells (m := m) (g := g) (vp := .slice (some ad) (t + 1) cp) (vg := .slice Ag ng cg) M9.out (by simp [wrE])).2 (fun hHeld => ?_); clear hK K; (try simp only [Act.put, List.setIfInBounds_toArray, List.set_cons_zero, List.set_cons_succ, List.getElem_toArray, List.getElem_cons_zero, List.getElem_cons_succ])
            refine wpAnyH_done (by kernel_rfl) ?_ _
            have hf := hid (show p1 ++ laysP g.parts (t + 1) ++ b2 ng ++ g.prog = cgB g by rw [hfin.out, hpr.out, ← hp1.out]; simp only [List.append_assoc])
            have hl := hid (show (p1 ++ laysP g.parts (t + 1) ++ b2 ng ++ g.prog).length ≤ 140737488355328 by have := hll.out; rw [List.length_append, List.length_append, b2_length, hngH.out]; omega)
            generalize p1 ++ laysP g.parts (t + 1) ++ b2 ng ++ g.prog = out at *
            go_wp2_with (go_at_call 32; (have hC := wr_Done hl.out M9.out); ((with_reducible refine hC.mono ?_); clear hC); rintro _ w10 ⟨_, rfl, M⟩; (have M10 := hid M); clear M)
            go_ret
            exact .mk (by rw [← hf.out]; exact M10.out.head1)
          · rw [hcd.out, h6, if_neg (by simp)] at hpr
            have hf := hid (show p1 ++ laysP g.parts (t + 1) = cgB g by rw [hfin.out, hpr.out, ← hp1.out]; simp only [List.append_assoc, List.append_nil])
            have hl := hid (show (p1 ++ laysP g.parts (t + 1)).length ≤ 140737488355328 by have := hLl.out (t + 1); rw [List.length_append, hl1.out]; omega)
            generalize p1 ++ laysP g.parts (t + 1) = out at *
            go_wp2_with (go_at_call 32; (have hC := wr_Done hl.out MR.out); ((with_reducible refine hC.mono ?_); clear hC); rintro _ w10 ⟨_, rfl, M⟩; (have M10 := hid M); clear M)
            go_ret
            exact .mk (by rw [← hf.out]; exact M10.out.head1)
end Go.Proofs.Yteoicpbfjkjogaa
