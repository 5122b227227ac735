/- Layer 13: the document's glyph that bytes begin with, in parts. -/
import Derived.Test.YteoicpbfjkjogaaCompVa
import Derived.Deep.DeepCutAuto
namespace Go.Proofs.Yteoicpbfjkjogaa
open Go Go.RowKit
set_option linter.unusedVariables false
set_option linter.unusedSimpArgs false
set_option maxRecDepth 1000000

set_option maxHeartbeats 16000000 in
theorem refParse_round : refParse_cut.P2 := by
  intro w
  unhygienic intros
  clear hq1
  have hstop := hid (fun h => cpS_stop hBH.out hsp.out hdl.out (by rw [hlnH.out]; exact han) hj h)
  rw [hlnH.out] at hstop
  obtain ⟨F0, F1⟩ := n2_bound hBH.out a
  obtain ⟨G0, G1⟩ := n2_bound hBH.out (a + 2)
  have hsn := hid (hsp.out.next (by rw [hlnH.out]; exact han))
  have hpo := hid (ptAt_ok hBH.out a)
  have hPt := hid (show ptAt l a = ⟨n2 l a - 32 * b01 (hasB (n2 l a) 32), n2 l (a + 2), xAt l a (n2 l a), yAt l a (n2 l a), mtA l (a + (4 + 2 * eachW (n2 l a))) (n2 l a), mtB l (a + (4 + 2 * eachW (n2 l a))) (n2 l a), mtC l (a + (4 + 2 * eachW (n2 l a))) (n2 l a), mtD l (a + (4 + 2 * eachW (n2 l a))) (n2 l a)⟩ from rfl)
  have hNa := hid (fun w1 (h : Below w.heap.size w w1) => show Calls Try.prog 50 #[.slice A n C, .int .i64 (a : Int)] w1 _ from hN2.out w1 h a (by omega))
  have hNb := hid (fun w1 (h : Below w.heap.size w w1) => show Calls Try.prog 50 #[.slice A n C, .int .i64 ((a : Int) + 2)] w1 _ from hN2.out w1 h (a + 2) (by omega))
  have hKi := hid (fun w1 => refKind_calls w1 F0 F1)
  have hH32 := hid (fun w1 => refHas_calls w1 (k := 32) F0 F1 (by decide))
  have hH1 := hid (fun w1 => refHas_calls w1 (k := 1) F0 F1 (by decide))
  have hko := hid (kd_or (f := n2 l a))
  obtain ⟨F, hF⟩ : ∃ F, n2 l a = F := ⟨_, rfl⟩
  obtain ⟨G, hG⟩ : ∃ G, n2 l (a + 2) = G := ⟨_, rfl⟩
  rw [hF] at hstop F0 F1 hsn hPt hNa hKi hH32 hH1 hko
  rw [hG] at G0 G1 hPt hNb
  clear hF hG
  have wa2 : IntKind.i64.wrap ((a : Int) + 2) = (a : Int) + 2 := IntWalk.i64_in _ (by omega)
  have wa4 : IntKind.i64.wrap ((a : Int) + 4) = (a : Int) + 4 := IntWalk.i64_in _ (by omega)
  obtain ⟨K, hK⟩ : ∃ K, kd F = K := ⟨_, rfl⟩
  rw [hK] at hstop hKi hko
  replace hK := hid hK
  obtain ⟨da, hda⟩ : ∃ d, decide (a + 2 ≤ n) = d := ⟨_, rfl⟩
  obtain ⟨db, hdb⟩ : ∃ d, decide (a + 2 + 2 ≤ n) = d := ⟨_, rfl⟩
  rw [hda] at hNa
  rw [hdb] at hNb
  go_upto_region 17 with (first
    | (go_at_call 50; (with_reducible refine (hNa.out _ MR.out.below).mono ?_); rintro _ w5 ⟨_, rfl, rfl, hb⟩; (have M5 := hid (MR.out.keep hb)); clear hb)
    | (go_at_call 50; (with_reducible refine (hNb.out _ M5.out.below).mono ?_); rintro _ w6 ⟨_, rfl, rfl, hb⟩; (have M6 := hid (M5.out.keep hb)); clear hb)
    | (go_at_call 43; (with_reducible refine (hKi.out _).mono ?_); rintro _ w6 ⟨_, rfl, rfl, rfl⟩))
  clear hNa hNb hKi M5 wa2
  have hbb : decide (a + 4 ≤ n ∧ ¬ K < 0 ∧ j < 200) = (da && (db && (!decide (K < 0) && decide (j < 200)))) := by
    rw [← hda, ← hdb, Bool.eq_iff_iff]
    simp only [decide_eq_true_eq, Bool.and_eq_true, Bool.not_eq_true', decide_eq_false_iff_not]
    constructor
    · rintro ⟨h1, h2, h3⟩; exact ⟨by omega, by omega, h2, h3⟩
    · rintro ⟨-, h1, h2, h3⟩; exact ⟨by omega, h2, h3⟩
  clear hda hdb
  obtain ⟨d4, -⟩ := d_cells (m := m) (g := gx) (vp := .slice Ap j cp) (vg := .slice none 0 0) M6.out (by simp)
  obtain ⟨gd, hgd⟩ : ∃ b, decide (a + 4 ≤ n ∧ ¬ K < 0 ∧ j < 200) = b := ⟨_, rfl⟩
  rw [hgd] at hbb
  replace hgd := hid hgd
  replace hbb := hid hbb
  go_cut [104] (fun s wx => s = .bool (!gd) ∧ w6 = wx)
  case first =>
    -- <cond
    cases da
    · go_wp2
      go_meet
      exact ⟨congrArg Value.bool (by rw [hbb.out]; simp [*]), rfl⟩
    · cases db
      · go_wp2
        go_meet
        exact ⟨congrArg Value.bool (by rw [hbb.out]; simp [*]), rfl⟩
      · by_cases k1 : K < 0
        · go_wp2
          go_meet
          exact ⟨congrArg Value.bool (by rw [hbb.out]; simp [*]), rfl⟩
        · by_cases k2 : j < 200
          · have k2' : ¬ (j : Int) ≥ 200 := by omega
            go_wp2
            go_meet
            exact ⟨congrArg Value.bool (by rw [hbb.out]; simp [*]), rfl⟩
          · have k2' : (j : Int) ≥ 200 := by omega
            go_wp2
            go_meet
            exact ⟨congrArg Value.bool (by rw [hbb.out]; simp [*]), rfl⟩
    -- cond>
  obtain ⟨hs, hw⟩ := hcut
  subst hs hw
  clear hbb d4
  cases gd
  · have hnone := hstop.out (by
      have := of_decide_eq_false hgd.out
      have hw6 := wid_pos F
      by_cases h1 : a + 4 ≤ n
      · by_cases h2 : K < 0
        · exact .inr (.inl h2)
        · exact .inr (.inr (by omega))
      · exact .inl (by omega))
    have MF := hid (M6.out.sub (L' := [.blk m0 52 dNil]) (by simp))
    -- <fail
    go_wp2_with (first
      | ((with_reducible refine gateSt (t := 52) (p := 2) rfl ?_); refine wpList_store_all (n := 6) (L1 := []) (mid := dNil.toList) (vs := dNil.toList) rfl rfl (by kernel_rfl) rfl rfl rfl rfl rfl (one_all rfl) MF.out ?_; intro w18 M; (have M18 := hid M); clear M)
      | (refine bodyPost_ret (v := .tuple #[.agg dNil, .int .i64 0, .bool false]) ?_ rfl (Ret.mk (.inr ⟨hnone, rfl, M18.out.below⟩)); exact results_agg_tmps2 (p := 2) (q := 3) (s := 4) rfl agg_dg _ (by rfl) (M18.out.heap (.head _)) rfl))
    -- fail>
  · obtain ⟨ha4, hK0, hj2⟩ := of_decide_eq_true hgd.out
    clear hgd
    obtain ⟨b32, hb32⟩ : ∃ b, hasB F 32 = b := ⟨_, rfl⟩
    rw [hb32] at hH32 hsn hPt
    clear hb32
    obtain ⟨b1, hb1⟩ : ∃ b, hasB F 1 = b := ⟨_, rfl⟩
    rw [hb1] at hH1
    replace hb1 := hid hb1
    have wF : IntKind.i64.wrap (F - 32) = F - 32 := IntWalk.i64_in _ (by omega)
    go_upto_if 112 with (first
      | ((with_reducible refine gate (N := 18) rfl ?_); refine wpList_box_Own rfl (cs := dtA pt0) (t := 82) (by first | (go_simp; done) | (go_simp; rfl)) M6.out ?_; intro px w7 M; (have M7 := hid M); clear M)
      | ((with_reducible refine gateSt (t := 82) (p := 18) rfl ?_); refine wpList_store_all (n := 8) (L1 := []) (mid := (dtA pt0).toList) (vs := (dtA ⟨F, G, 0, 0, 16384, 0, 0, 16384⟩).toList) rfl rfl (by kernel_rfl) rfl rfl rfl rfl rfl (one_all rfl) M7.out ?_; intro w8 M; (have M8 := hid M); clear M)
      | (go_at_call 40; (with_reducible refine (hH32.out _).mono ?_); rintro _ w8 ⟨_, rfl, rfl, rfl⟩))
    replace M8 := hid (show Own w w8 [.blk px 82 (dtA ⟨F, G, 0, 0, 16384, 0, 0, 16384⟩), .row 82 8 (.slice Ap j cp) j (dtC done), .blk m 52 (dA gx (.slice Ap j cp) (.slice none 0 0)), .blk m0 52 dNil] from M8.out)
    clear M6 M7 hH32
    go_cut [] (fun wx => Hid (Own w wx [.blk px 82 (dtA ⟨F - 32 * b01 b32, G, 0, 0, 16384, 0, 0, 16384⟩), .row 82 8 (.slice Ap j cp) j (dtC done), .blk m 52 (dA gx (.slice Ap j cp) (.slice none 0 0)), .blk m0 52 dNil]))
    case first =>
      -- <minus
      cases b32
      · go_wp2
        go_meet
        rw [show F - 32 * b01 false = F by simp [b01]]
        exact M8
      · have e0 := M8.out.cell (g := px) (t := 82) (cs := dtA ⟨F, G, 0, 0, 16384, 0, 0, 16384⟩) (by simp) 0
        have ef := M8.out.free (g := px) (t := 82) (cs := dtA ⟨F, G, 0, 0, 16384, 0, 0, 16384⟩) (by simp) 0
        replace e0 : w8.cell? ⟨px, 0, none⟩ = some (.int .i64 F) := e0
        go_wp2
        go_meet
        rw [show F - 32 * b01 true = F - 32 by simp [b01]]
        exact hid (M8.out.set (L1 := []) 0 (.int .i64 (F - 32)))
      -- minus>
    have M9 := hcut
    clear hcut M8 wF
    obtain ⟨E, hE, hE1⟩ : ∃ E, eachW F = E ∧ E = (if b1 then 2 else 1) := ⟨_, rfl, by unfold eachW; rw [hb1.out]⟩
    obtain ⟨KN, hKN, hKK⟩ : ∃ k, kn F = k ∧ K = (k : Int) := ⟨_, rfl, by
      unfold kn; rw [hK.out]
      rcases hko.out with e | e | e | e | e <;> subst e <;> first | rfl | omega⟩
    have hKN4 : KN ≤ 4 := by rcases hko.out with e | e | e | e | e <;> omega
    subst hKK
    have hwid := hid (show wid F = 4 + 2 * E + 2 * KN by unfold wid; rw [hE, hKN])
    rw [hE] at hPt
    have hE2 : E ≤ 2 := by rw [hE1]; split <;> omega
    have hE0 : 1 ≤ E := by rw [hE1]; split <;> omega
    replace hKN := hid hKN
    replace hE1 := hid hE1
    clear hE hK0
    go_upto_if 118 with (go_at_call 40; (with_reducible refine (hH1.out _).mono ?_); rintro _ wc ⟨_, rfl, rfl, rfl⟩)
    go_cut [19] (fun s wx => s = .int .i64 E ∧ wc = wx)
    case first =>
      cases b1
      · have e : E = 1 := by rw [hE1.out]; rfl
        replace e := hid e
        go_wp2
        go_meet
        exact ⟨by rw [e.out]; rfl, rfl⟩
      · have e : E = 2 := by rw [hE1.out]; rfl
        replace e := hid e
        go_wp2
        go_meet
        exact ⟨by rw [e.out]; rfl, rfl⟩
    obtain ⟨hs, hw⟩ := hcut
    subst hs hw
    have w2E : IntKind.i64.wrap (2 * (E : Int)) = 2 * (E : Int) := IntWalk.i64_in _ (by omega)
    have w2K : IntKind.i64.wrap (2 * (KN : Int)) = 2 * (KN : Int) := IntWalk.i64_in _ (by omega)
    have w2s : IntKind.i64.wrap (2 * (E : Int) + 2 * (KN : Int)) = 2 * (E : Int) + 2 * (KN : Int) := IntWalk.i64_in _ (by omega)
    by_cases hsz : a + 4 + (2 * E + 2 * KN) ≤ n
    · have hT := hid (fun w1 => show Calls Try.prog 49 #[.slice A n C, .int .i64 ((a : Int) + 4), .int .i64 (2 * (E : Int) + 2 * (KN : Int))] w1 _ from take_yes w1 (at_ := a + 4) (k := 2 * E + 2 * KN) hc1 hm1 hn hsz)
      have hQS := hid (fun w1 (h : Below w.heap.size w w1) => cutS (hS.out w1 h) (at_ := a + 4) (k := 2 * E + 2 * KN) hsz)
      have hqn := hid (fun i (hi : i + 2 ≤ 2 * E + 2 * KN) => show n2 ((l.drop (a + 4)).take (2 * E + 2 * KN)) i = n2 l (a + 4 + i) from n2_cut hi (by rw [hlnH.out]; exact hsz))
      have hqd := hid (fun i (hi : i < 2 * E + 2 * KN) => show ((l.drop (a + 4)).take (2 * E + 2 * KN)).getD i 0 = l.getD (a + 4 + i) 0 from getD_cut hi (by rw [hlnH.out]; exact hsz))
      have hql := hid (show ((l.drop (a + 4)).take (2 * E + 2 * KN)).length = 2 * E + 2 * KN by rw [List.length_take, List.length_drop, hlnH.out]; omega)
      have hqB := hid (show Bytes ((l.drop (a + 4)).take (2 * E + 2 * KN)) from (hBH.out.drop _).take _)
      have wat : IntKind.i64.wrap ((a : Int) + 4 + (2 * (E : Int) + 2 * (KN : Int))) = (a : Int) + 4 + (2 * (E : Int) + 2 * (KN : Int)) := IntWalk.i64_in _ (by omega)
      go_upto_if 141 with (first
        | (go_at_call 49; (with_reducible refine (hT.out _).mono ?_); rintro _ wc ⟨_, rfl, rfl, rfl⟩))
      obtain ⟨QA, hQA⟩ : ∃ x, cutV A C (a + 4) = x := ⟨_, rfl⟩
      obtain ⟨QC, hQC⟩ : ∃ x, C - (a + 4) = x := ⟨_, rfl⟩
      rw [hQA, hQC] at hQS ⊢
      clear hQA hQC hT w2s
      have hX := hid (show xAt l a F = if b1 then sgn (n2 l (a + 4)) else sg8 (l.getD (a + 4) 0) by unfold xAt; rw [hb1.out])
      have hY := hid (show yAt l a F = if b1 then sgn (n2 l (a + 6)) else sg8 (l.getD (a + 5) 0) by unfold yAt; rw [hb1.out])
      generalize xAt l a F = PX at *
      generalize yAt l a F = PY at *
      generalize F - 32 * b01 b32 = F' at *
      go_cut [] (fun wx => Hid (Own w wx [.blk px 82 (dtA ⟨F', G, PX, PY, 16384, 0, 0, 16384⟩), .row 82 8 (.slice Ap j cp) j (dtC done), .blk m 52 (dA gx (.slice Ap j cp) (.slice none 0 0)), .blk m0 52 dNil]))
      case first =>
        have hcf := M9.out.free (g := px) (t := 82) (cs := dtA ⟨F', G, 0, 0, 16384, 0, 0, 16384⟩) (by simp)
        have hcc := M9.out.cell (g := px) (t := 82) (cs := dtA ⟨F', G, 0, 0, 16384, 0, 0, 16384⟩) (by simp)
        cases b1
        · -- <xy0
          obtain rfl : E = 1 := by rw [hE1.out]; rfl
          obtain ⟨x0, x1⟩ := hBH.out.get (a + 4)
          obtain ⟨y0, y1⟩ := hBH.out.get (a + 5)
          obtain ⟨A', C', he, -, -, -, hrd⟩ := hQS.out w (Below.refl _ _)
          (injection he with he1 he2 he3); subst he1 he3
          obtain ⟨qa, rfl, hqb, hcell⟩ := hrd.2 (by omega)
          have c0 : w.cell? qa = some (.int .u8 (l.getD (a + 4) 0)) := by
            have := hcell 0 (.int .u8 (l.getD (a + 4) 0)) (by rw [ints_get .u8 _ 0 (by rw [hql.out]; omega), hqd.out 0 (by omega)])
            simpa [Addr.add] using this
          have c1 : w.cell? ⟨qa.block, qa.off + 1, none⟩ = some (.int .u8 (l.getD (a + 5) 0)) := by
            have := hcell 1 (.int .u8 (l.getD (a + 5) 0)) (by rw [ints_get .u8 _ 1 (by rw [hql.out]; omega), hqd.out 1 (by omega)])
            simpa [Addr.add] using this
          have hq := hid (fun w1 (h : Below w.heap.size w w1) => And.intro ((h.cell (p := qa) hqb).trans c0) ((h.cell (p := ⟨qa.block, qa.off + 1, none⟩) hqb).trans c1))
          clear c0 c1 hcell hrd he2 hqb
          have hX2 : PX = sg8 (l.getD (a + 4) 0) := hX.out
          have hY2 : PY = sg8 (l.getD (a + 5) 0) := hY.out
          generalize l.getD (a + 4) 0 = xv at *
          generalize l.getD (a + 5) 0 = yv at *
          have hs8 : ∀ v : Int, 0 ≤ v → v < 256 → sgn (v * 256) = 256 * sg8 v ∧ -128 ≤ sg8 v ∧ sg8 v ≤ 127 := fun v v0 v1 => by
            unfold sgn sg8
            split <;> split <;> omega
          obtain ⟨sx, sx0, sx1⟩ := hs8 xv x0 x1
          obtain ⟨sy, sy0, sy1⟩ := hs8 yv y0 y1
          have hSx := hid (fun w1 => sx ▸ Sign_calls w1 (n := xv * 256) (by omega) (by omega))
          have hSy := hid (fun w1 => sy ▸ Sign_calls w1 (n := yv * 256) (by omega) (by omega))
          rw [← hX2] at hSx sx0 sx1
          rw [← hY2] at hSy sy0 sy1
          clear hX2 hY2 hX hY sx sy hs8
          have wv0 : IntKind.i64.wrap xv = xv := IntWalk.i64_in _ (by omega)
          have wv1 : IntKind.i64.wrap (xv * 256) = xv * 256 := IntWalk.i64_in _ (by omega)
          have wv2 : IntKind.i64.wrap yv = yv := IntWalk.i64_in _ (by omega)
          have wv3 : IntKind.i64.wrap (yv * 256) = yv * 256 := IntWalk.i64_in _ (by omega)
          have wv4 : (256 * PX).tdiv 256 = PX := Int.mul_tdiv_cancel_left _ (by decide)
          have wv5 : (256 * PY).tdiv 256 = PY := Int.mul_tdiv_cancel_left _ (by decide)
          have wv6 : IntKind.i64.wrap PX = PX := IntWalk.i64_in _ (by omega)
          have wv7 : IntKind.i64.wrap PY = PY := IntWalk.i64_in _ (by omega)
          have hSZ : 2 ≤ 2 * 1 + 2 * KN := by omega
          clear hqn hqd hql hqB hQS wat w2E w2K
          generalize 2 * 1 + 2 * KN = SZ at *
          have hSZ0 : (0 : Int) < (SZ : Int) := by omega
          have hSZ2 : 0 < SZ := by omega
          have hSZ3 : ¬ SZ = 0 := by omega
          have hSZ1 : (1 : Int) < (SZ : Int) := by omega
          have f2 := hcf 2
          have f3 := hcf 3
          have q2 := hcc 2
          have q3 := hcc 3
          clear hcf hcc
          go_upto_region 34 with fail
          have MW := hid M9.out.drew
          refine wp_region_held_drew (S := fun w' => w'.cell? qa = some (.int .u8 xv) ∧ w'.cell? ⟨qa.block, qa.off + 1, none⟩ = some (.int .u8 yv)) (by kernel_rfl) (hq.out _ MW.out.below) (fun hHeld => ?_)
          repeat (first | (refine wpAnyH_take (i := 0) (v := ?_) rfl (by kernel_rfl) (by decide +kernel) (by decide +kernel) (fun _ _ _ h => h) ?_ (by assumption) ?_; rotate_left; (first | (refine yields_load (by rfl) rfl rfl ?_; intro w hSw; (try dsimp only at hSw); go_split_ands; assumption) | (refine Or.inl ⟨by rfl, ?_⟩; intro w hSw; (try dsimp only at hSw); go_simp; done) | (refine Or.inl ⟨by rfl, ?_⟩; intro w hSw; (try dsimp only at hSw); go_simp; with_reducible rfl) | exact Or.inr ⟨by rfl, rfl⟩ | exact Or.inr ⟨by rfl, by rfl⟩); (try simp only [Act.put, List.setIfInBounds_toArray, List.set_cons_zero, List.set_cons_succ, List.getElem_toArray, List.getElem_cons_zero, List.getElem_cons_succ])) | (refine wpAnyH_take (i := 1) (v := ?_) rfl (by kernel_rfl) (by decide +kernel) (by decide +kernel) (fun _ _ _ h => h) ?_ (by assumption) ?_; rotate_left; (first | (refine yields_load (by rfl) rfl rfl ?_; intro w hSw; (try dsimp only at hSw); go_split_ands; assumption) | (refine Or.inl ⟨by rfl, ?_⟩; intro w hSw; (try dsimp only at hSw); go_simp; done) | (refine Or.inl ⟨by rfl, ?_⟩; intro w hSw; (try dsimp only at hSw); go_simp; with_reducible rfl) | exact Or.inr ⟨by rfl, rfl⟩ | exact Or.inr ⟨by rfl, by rfl⟩); (try simp only [Act.put, List.setIfInBounds_toArray, List.set_cons_zero, List.set_cons_succ, List.getElem_toArray, List.getElem_cons_zero, List.getElem_cons_succ])) | (refine wpAnyH_take (i := 2) (v := ?_) rfl (by kernel_rfl) (by decide +kernel) (by decide +kernel) (fun _ _ _ h => h) ?_ (by assumption) ?_; rotate_left; (first | (refine yields_load (by rfl) rfl rfl ?_; intro w hSw; (try dsimp only at hSw); go_split_ands; assumption) | (refine Or.inl ⟨by rfl, ?_⟩; intro w hSw; (try dsimp only at hSw); go_simp; done) | (refine Or.inl ⟨by rfl, ?_⟩; intro w hSw; (try dsimp only at hSw); go_simp; with_reducible rfl) | exact Or.inr ⟨by rfl, rfl⟩ | exact Or.inr ⟨by rfl, by rfl⟩); (try simp only [Act.put, List.setIfInBounds_toArray, List.set_cons_zero, List.set_cons_succ, List.getElem_toArray, List.getElem_cons_zero, List.getElem_cons_succ])) | (refine wpAnyH_take (i := 3) (v := ?_) rfl (by kernel_rfl) (by decide +kernel) (by decide +kernel) (fun _ _ _ h => h) ?_ (by assumption) ?_; rotate_left; (first | (refine yields_load (by rfl) rfl rfl ?_; intro w hSw; (try dsimp only at hSw); go_split_ands; assumption) | (refine Or.inl ⟨by rfl, ?_⟩; intro w hSw; (try dsimp only at hSw); go_simp; done) | (refine Or.inl ⟨by rfl, ?_⟩; intro w hSw; (try dsimp only at hSw); go_simp; with_reducible rfl) | exact Or.inr ⟨by rfl, rfl⟩ | exact Or.inr ⟨by rfl, by rfl⟩); (try simp only [Act.put, List.setIfInBounds_toArray, List.set_cons_zero, List.set_cons_succ, List.getElem_toArray, List.getElem_cons_zero, List.getElem_cons_succ])) | (refine wpAnyH_take (i := 4) (v := ?_) rfl (by kernel_rfl) (by decide +kernel) (by decide +kernel) (fun _ _ _ h => h) ?_ (by assumption) ?_; rotate_left; (first | (refine yields_load (by rfl) rfl rfl ?_; intro w hSw; (try dsimp only at hSw); go_split_ands; assumption) | (refine Or.inl ⟨by rfl, ?_⟩; intro w hSw; (try dsimp only at hSw); go_simp; done) | (refine Or.inl ⟨by rfl, ?_⟩; intro w hSw; (try dsimp only at hSw); go_simp; with_reducible rfl) | exact Or.inr ⟨by rfl, rfl⟩ | exact Or.inr ⟨by rfl, by rfl⟩); (try simp only [Act.put, List.setIfInBounds_toArray, List.set_cons_zero, List.set_cons_succ, List.getElem_toArray, List.getElem_cons_zero, List.getElem_cons_succ])) | (refine wpAnyH_take (i := 7) (v := ?_) rfl (by kernel_rfl) (by decide +kernel) (by decide +kernel) (fun _ _ _ h => h) ?_ (by assumption) ?_; rotate_left; (first | (refine yields_load (by rfl) rfl rfl ?_; intro w hSw; (try dsimp only at hSw); go_split_ands; assumption) | (refine Or.inl ⟨by rfl, ?_⟩; intro w hSw; (try dsimp only at hSw); go_simp; done) | (refine Or.inl ⟨by rfl, ?_⟩; intro w hSw; (try dsimp only at hSw); go_simp; with_reducible rfl) | exact Or.inr ⟨by rfl, rfl⟩ | exact Or.inr ⟨by rfl, by rfl⟩); (try simp only [Act.put, List.setIfInBounds_toArray, List.set_cons_zero, List.set_cons_succ, List.getElem_toArray, List.getElem_cons_zero, List.getElem_cons_succ])) | (refine wpAnyH_take (i := 8) (v := ?_) rfl (by kernel_rfl) (by decide +kernel) (by decide +kernel) (fun _ _ _ h => h) ?_ (by assumption) ?_; rotate_left; (first | (refine yields_load (by rfl) rfl rfl ?_; intro w hSw; (try dsimp only at hSw); go_split_ands; assumption) | (refine Or.inl ⟨by rfl, ?_⟩; intro w hSw; (try dsimp only at hSw); go_simp; done) | (refine Or.inl ⟨by rfl, ?_⟩; intro w hSw; (try dsimp only at hSw); go_simp; with_reducible rfl) | exact Or.inr ⟨by rfl, rfl⟩ | exact Or.inr ⟨by rfl, by rfl⟩); (try simp only [Act.put, List.setIfInBounds_toArray, List.set_cons_zero, List.set_cons_succ, List.getElem_toArray, List.getElem_cons_zero, List.getElem_cons_succ])) | (refine wpAnyH_take (i := 9) (v := ?_) rfl (by kernel_rfl) (by decide +kernel) (by decide +kernel) (fun _ _ _ h => h) ?_ (by assumption) ?_; rotate_left; (first | (refine yields_load (by rfl) rfl rfl ?_; intro w hSw; (try dsimp only at hSw); go_split_ands; assumption) | (refine Or.inl ⟨by rfl, ?_⟩; intro w hSw; (try dsimp only at hSw); go_simp; done) | (refine Or.inl ⟨by rfl, ?_⟩; intro w hSw; (try dsimp only at hSw); go_simp; with_reducible rfl) | exact Or.inr ⟨by rfl, rfl⟩ | exact Or.inr ⟨by rfl, by rfl⟩); (try simp only [Act.put, List.setIfInBounds_toArray, List.set_cons_zero, List.set_cons_succ, List.getElem_toArray, List.getElem_cons_zero, List.getElem_cons_succ])) | (refine wpAnyH_take (i := 10) (v := ?_) rfl (by kernel_rfl) (by decide +kernel) (by decide +kernel) (fun _ _ _ h => h) ?_ (by assumption) ?_; rotate_left; (first | (refine yields_load (by rfl) rfl rfl ?_; intro w hSw; (try dsimp only at hSw); go_split_ands; assumption) | (refine Or.inl ⟨by rfl, ?_⟩; intro w hSw; (try dsimp only at hSw); go_simp; done) | (refine Or.inl ⟨by rfl, ?_⟩; intro w hSw; (try dsimp only at hSw); go_simp; with_reducible rfl) | exact Or.inr ⟨by rfl, rfl⟩ | exact Or.inr ⟨by rfl, by rfl⟩); (try simp only [Act.put, List.setIfInBounds_toArray, List.set_cons_zero, List.set_cons_succ, List.getElem_toArray, List.getElem_cons_zero, List.getElem_cons_succ])) | (refine wpAnyH_take (i := 11) (v := ?_) rfl (by kernel_rfl) (by decide +kernel) (by decide +kernel) (fun _ _ _ h => h) ?_ (by assumption) ?_; rotate_left; (first | (refine yields_load (by rfl) rfl rfl ?_; intro w hSw; (try dsimp only at hSw); go_split_ands; assumption) | (refine Or.inl ⟨by rfl, ?_⟩; intro w hSw; (try dsimp only at hSw); go_simp; done) | (refine Or.inl ⟨by rfl, ?_⟩; intro w hSw; (try dsimp only at hSw); go_simp; with_reducible rfl) | exact Or.inr ⟨by rfl, rfl⟩ | exact Or.inr ⟨by rfl, by rfl⟩); (try simp only [Act.put, List.setIfInBounds_toArray, List.set_cons_zero, List.set_cons_succ, List.getElem_toArray, List.getElem_cons_zero, List.getElem_cons_succ])))
          refine wpAnyH_ready (rs := [5]) (by decide +kernel) (by simp) ?_; refine AllReadyH.cons rfl (fun K hK => ?_) AllReadyH.nil; go_simp
          refine (hSx.out _).mono ?_
          rintro _ w10 ⟨_, rfl, rfl, rfl⟩
          go_wp2_with fail
          refine hK.out _ _ hHeld (fun hHeld => ?_); clear hK K; (try simp only [Act.put, List.setIfInBounds_toArray, List.set_cons_zero, List.set_cons_succ, List.getElem_toArray, List.getElem_cons_zero, List.getElem_cons_succ])
          repeat (first | (refine wpAnyH_take (i := 6) (v := ?_) rfl (by kernel_rfl) (by decide +kernel) (by decide +kernel) (fun _ _ _ h => h) ?_ (by assumption) ?_; rotate_left; (first | (refine yields_load (by rfl) rfl rfl ?_; intro w hSw; (try dsimp only at hSw); go_split_ands; assumption) | (refine Or.inl ⟨by rfl, ?_⟩; intro w hSw; (try dsimp only at hSw); go_simp; done) | (refine Or.inl ⟨by rfl, ?_⟩; intro w hSw; (try dsimp only at hSw); go_simp; with_reducible rfl) | exact Or.inr ⟨by rfl, rfl⟩ | exact Or.inr ⟨by rfl, by rfl⟩); (try simp only [Act.put, List.setIfInBounds_toArray, List.set_cons_zero, List.set_cons_succ, List.getElem_toArray, List.getElem_cons_zero, List.getElem_cons_succ])) | (refine wpAnyH_take (i := 14) (v := ?_) rfl (by kernel_rfl) (by decide +kernel) (by decide +kernel) (fun _ _ _ h => h) ?_ (by assumption) ?_; rotate_left; (first | (refine yields_load (by rfl) rfl rfl ?_; intro w hSw; (try dsimp only at hSw); go_split_ands; assumption) | (refine Or.inl ⟨by rfl, ?_⟩; intro w hSw; (try dsimp only at hSw); go_simp; done) | (refine Or.inl ⟨by rfl, ?_⟩; intro w hSw; (try dsimp only at hSw); go_simp; with_reducible rfl) | exact Or.inr ⟨by rfl, rfl⟩ | exact Or.inr ⟨by rfl, by rfl⟩); (try simp only [Act.put, List.setIfInBounds_toArray, List.set_cons_zero, List.set_cons_succ, List.getElem_toArray, List.getElem_cons_zero, List.getElem_cons_succ])))
          refine wpAnyH_ready (rs := [12]) (by decide +kernel) (by simp) ?_; refine AllReadyH.cons rfl (fun K hK => ?_) AllReadyH.nil; go_simp
          refine (hSy.out _).mono ?_
          rintro _ w10 ⟨_, rfl, rfl, rfl⟩
          go_wp2_with fail
          refine hK.out _ _ hHeld (fun hHeld => ?_); clear hK K; (try simp only [Act.put, List.setIfInBounds_toArray, List.set_cons_zero, List.set_cons_succ, List.getElem_toArray, List.getElem_cons_zero, List.getElem_cons_succ])
          repeat (first | (refine wpAnyH_take (i := 13) (v := ?_) rfl (by kernel_rfl) (by decide +kernel) (by decide +kernel) (fun _ _ _ h => h) ?_ (by assumption) ?_; rotate_left; (first | (refine yields_load (by rfl) rfl rfl ?_; intro w hSw; (try dsimp only at hSw); go_split_ands; assumption) | (refine Or.inl ⟨by rfl, ?_⟩; intro w hSw; (try dsimp only at hSw); go_simp; done) | (refine Or.inl ⟨by rfl, ?_⟩; intro w hSw; (try dsimp only at hSw); go_simp; with_reducible rfl) | exact Or.inr ⟨by rfl, rfl⟩ | exact Or.inr ⟨by rfl, by rfl⟩); (try simp only [Act.put, List.setIfInBounds_toArray, List.set_cons_zero, List.set_cons_succ, List.getElem_toArray, List.getElem_cons_zero, List.getElem_cons_succ])) | (refine wpAnyH_take (i := 14) (v := ?_) rfl (by kernel_rfl) (by decide +kernel) (by decide +kernel) (fun _ _ _ h => h) ?_ (by assumption) ?_; rotate_left; (first | (refine yields_load (by rfl) rfl rfl ?_; intro w hSw; (try dsimp only at hSw); go_split_ands; assumption) | (refine Or.inl ⟨by rfl, ?_⟩; intro w hSw; (try dsimp only at hSw); go_simp; done) | (refine Or.inl ⟨by rfl, ?_⟩; intro w hSw; (try dsimp only at hSw); go_simp; with_reducible rfl) | exact Or.inr ⟨by rfl, rfl⟩ | exact Or.inr ⟨by rfl, by rfl⟩); (try simp only [Act.put, List.setIfInBounds_toArray, List.set_cons_zero, List.set_cons_succ, List.getElem_toArray, List.getElem_cons_zero, List.getElem_cons_succ])) | (refine wpAnyH_take (i := 16) (v := ?_) rfl (by kernel_rfl) (by decide +kernel) (by decide +kernel) (fun _ _ _ h => h) ?_ (by assumption) ?_; rotate_left; (first | (refine yields_load (by rfl) rfl rfl ?_; intro w hSw; (try dsimp only at hSw); go_split_ands; assumption) | (refine Or.inl ⟨by rfl, ?_⟩; intro w hSw; (try dsimp only at hSw); go_simp; done) | (refine Or.inl ⟨by rfl, ?_⟩; intro w hSw; (try dsimp only at hSw); go_simp; with_reducible rfl) | exact Or.inr ⟨by rfl, rfl⟩ | exact Or.inr ⟨by rfl, by rfl⟩); (try simp only [Act.put, List.setIfInBounds_toArray, List.set_cons_zero, List.set_cons_succ, List.getElem_toArray, List.getElem_cons_zero, List.getElem_cons_succ])))
          refine wpAnyH_ready (rs := [15]) (by decide +kernel) (by simp) ?_; refine AllReadyH.cons rfl (fun K hK => ?_) AllReadyH.nil; go_simp
          have MX := hid (M9.out.drew.set (L1 := []) 2 (.int .i64 PX))
          have hc := hq.out _ MX.out.below
          refine hK.out _ _ hc (fun hHeld => ?_); clear hK K; (try simp only [Act.put, List.setIfInBounds_toArray, List.set_cons_zero, List.set_cons_succ, List.getElem_toArray, List.getElem_cons_zero, List.getElem_cons_succ])
          clear hc
          repeat (first | (refine wpAnyH_take (i := 16) (v := ?_) rfl (by kernel_rfl) (by decide +kernel) (by decide +kernel) (fun _ _ _ h => h) ?_ (by assumption) ?_; rotate_left; (first | (refine yields_load (by rfl) rfl rfl ?_; intro w hSw; (try dsimp only at hSw); go_split_ands; assumption) | (refine Or.inl ⟨by rfl, ?_⟩; intro w hSw; (try dsimp only at hSw); go_simp; done) | (refine Or.inl ⟨by rfl, ?_⟩; intro w hSw; (try dsimp only at hSw); go_simp; with_reducible rfl) | exact Or.inr ⟨by rfl, rfl⟩ | exact Or.inr ⟨by rfl, by rfl⟩); (try simp only [Act.put, List.setIfInBounds_toArray, List.set_cons_zero, List.set_cons_succ, List.getElem_toArray, List.getElem_cons_zero, List.getElem_cons_succ])))
          refine wpAnyH_ready (rs := [17]) (by decide +kernel) (by simp) ?_; refine AllReadyH.cons rfl (fun K hK => ?_) AllReadyH.nil; go_simp
          have MY := hid (MX.out.set (L1 := []) 3 (.int .i64 PY))
          have hc := hq.out _ MY.out.below
          refine hK.out _ _ hc (fun hHeld => ?_); clear hK K; (try simp only [Act.put, List.setIfInBounds_toArray, List.set_cons_zero, List.set_cons_succ, List.getElem_toArray, List.getElem_cons_zero, List.getElem_cons_succ])
          clear hc
          refine wpAnyH_done (by kernel_rfl) ?_ _
          go_wp2_with fail
          go_meet
          exact MY
          -- xy0>
        · -- <xy1
          obtain rfl : E = 2 := by rw [hE1.out]; rfl
          obtain ⟨x0, x1⟩ := n2_bound hBH.out (a + 4)
          obtain ⟨y0, y1⟩ := n2_bound hBH.out (a + 6)
          have hNx := hid (fun w1 (h : Below w.heap.size w w1) => show Calls Try.prog 50 #[.slice QA (2 * 2 + 2 * KN) QC, .int .i64 0] w1 (Ret fun r w' => r = .tuple #[.int .i64 (n2 l (a + 4)), .bool (decide (0 + 2 ≤ 2 * 2 + 2 * KN))] ∧ Below w1.heap.size w1 w') from by
            have := N2_calls w1 (v := .slice QA (2 * 2 + 2 * KN) QC) (l := (l.drop (a + 4)).take (2 * 2 + 2 * KN)) 0 (by omega) hqB.out (by unfold BytesAt; rw [hql.out]; exact hQS.out w1 h)
            rw [hqn.out 0 (by omega), hql.out] at this
            exact this)
          have hNy := hid (fun w1 (h : Below w.heap.size w w1) => show Calls Try.prog 50 #[.slice QA (2 * 2 + 2 * KN) QC, .int .i64 2] w1 (Ret fun r w' => r = .tuple #[.int .i64 (n2 l (a + 6)), .bool (decide (2 + 2 ≤ 2 * 2 + 2 * KN))] ∧ Below w1.heap.size w1 w') from by
            have := N2_calls w1 (v := .slice QA (2 * 2 + 2 * KN) QC) (l := (l.drop (a + 4)).take (2 * 2 + 2 * KN)) 2 (by omega) hqB.out (by unfold BytesAt; rw [hql.out]; exact hQS.out w1 h)
            rw [hqn.out 2 (by omega), hql.out] at this
            exact this)
          have hX2 : PX = sgn (n2 l (a + 4)) := hX.out
          have hY2 : PY = sgn (n2 l (a + 6)) := hY.out
          generalize n2 l (a + 4) = nx at *
          generalize n2 l (a + 6) = ny at *
          subst hX2 hY2
          generalize decide (0 + 2 ≤ 2 * 2 + 2 * KN) = dx at *
          generalize decide (2 + 2 ≤ 2 * 2 + 2 * KN) = dy at *
          clear hX hY hcf hcc
          go_wp2_with (first
            | (go_at_call 50; (with_reducible refine (hNx.out _ M9.out.below).mono ?_); rintro _ w10 ⟨_, rfl, rfl, hb⟩; (have M10 := hid (M9.out.keep hb)); clear hb)
            | (go_at_call 50; (with_reducible refine (hNy.out _ M10.out.below).mono ?_); rintro _ w11 ⟨_, rfl, rfl, hb⟩; (have M11 := hid (M10.out.keep hb)); clear hb)
            | (go_at_call 51; (with_reducible refine (Sign_calls _ x0 x1).mono ?_); rintro _ w11 ⟨_, rfl, rfl, rfl⟩)
            | (go_at_call 51; (with_reducible refine (Sign_calls _ y0 y1).mono ?_); rintro _ w11 ⟨_, rfl, rfl, rfl⟩; (have f2 := M11.out.free (g := px) (t := 82) (cs := dtA ⟨F', G, 0, 0, 16384, 0, 0, 16384⟩) (by simp) 2); (have f3 := M11.out.free (g := px) (t := 82) (cs := dtA ⟨F', G, 0, 0, 16384, 0, 0, 16384⟩) (by simp) 3); (have q2 := M11.out.cell (g := px) (t := 82) (cs := dtA ⟨F', G, 0, 0, 16384, 0, 0, 16384⟩) (by simp) 2); (have q3 := M11.out.cell (g := px) (t := 82) (cs := dtA ⟨F', G, 0, 0, 16384, 0, 0, 16384⟩) (by simp) 3)))
          go_meet
          exact hid ((M11.out.set (L1 := []) 2 (.int .i64 (sgn nx))).set (L1 := []) 3 (.int .i64 (sgn ny)))
          -- xy1>
      have M12 := hcut
      clear hcut M9 hX hY
      have hLl := hid (fun i (hi : i < KN) => show n2 ((l.drop (a + 4)).take (2 * E + 2 * KN)) (2 * E + 2 * i) = n2 l (a + 4 + (2 * E + 2 * i)) from hqn.out _ (by omega))
      go_upto_region 36 with (first
        | ((with_reducible refine gate (N := 26) rfl ?_); refine wpList_box_Own rfl (cs := (ints .i64 [0, 0, 0, 0]).toArray) (t := 49) (by first | (go_simp; done) | (go_simp; rfl)) M12.out ?_; intro lx w13 M; (have M13 := hid M); clear M))
      go_wp2_with fail
      go_loopw [27] (fun i wr => ∃ (t : Nat), t ≤ KN ∧ i = .int .i64 t ∧ Hid (Own w wr [.blk lx 49 (ints .i64 (matK l (a + 4 + 2 * E) t)).toArray, .blk px 82 (dtA ⟨F', G, PX, PY, 16384, 0, 0, 16384⟩), .row 82 8 (.slice Ap j cp) j (dtC done), .blk m 52 (dA gx (.slice Ap j cp) (.slice none 0 0)), .blk m0 52 dNil])) (fun i _ => KN - (intOf i).toNat)
      case atStart => exact ⟨0, Nat.zero_le _, rfl, M13⟩
      case round =>
        clear M12 M13
        obtain ⟨t, ht, rfl, MR⟩ := hrel
        by_cases hlt : t < KN
        · -- <mat
          have hNt := hid (fun w1 (h : Below w.heap.size w w1) => show Calls Try.prog 50 #[.slice QA (2 * E + 2 * KN) QC, .int .i64 (2 * (E : Int) + 2 * (t : Int))] w1 (Ret fun r w' => r = .tuple #[.int .i64 (n2 l (a + 4 + 2 * E + 2 * t)), .bool (decide (2 * E + 2 * t + 2 ≤ 2 * E + 2 * KN))] ∧ Below w1.heap.size w1 w') from by
            have := N2_calls w1 (v := .slice QA (2 * E + 2 * KN) QC) (l := (l.drop (a + 4)).take (2 * E + 2 * KN)) (2 * E + 2 * t) (by omega) hqB.out (by unfold BytesAt; rw [hql.out]; exact hQS.out w1 h)
            rw [hLl.out t hlt, hql.out, ← Nat.add_assoc] at this
            exact this)
          obtain ⟨z0, z1⟩ := n2_bound hBH.out (a + 4 + 2 * E + 2 * t)
          have hset := hid (matK_set l (a + 4 + 2 * E) (show t < 4 by omega))
          have wt1 : IntKind.i64.wrap (2 * (t : Int)) = 2 * (t : Int) := IntWalk.i64_in _ (by omega)
          have wt2 : IntKind.i64.wrap (2 * (E : Int) + 2 * (t : Int)) = 2 * (E : Int) + 2 * (t : Int) := IntWalk.i64_in _ (by omega)
          generalize n2 l (a + 4 + 2 * E + 2 * t) = z at *
          generalize decide (2 * E + 2 * t + 2 ≤ 2 * E + 2 * KN) = dz at *
          go_wp2_with (first
            | (go_at_call 50; (with_reducible refine (hNt.out _ MR.out.below).mono ?_); rintro _ w14 ⟨_, rfl, rfl, hb⟩; (have M14 := hid (MR.out.keep hb)); clear hb)
            | (go_at_call 51; (with_reducible refine (Sign_calls _ z0 z1).mono ?_); rintro _ w14 ⟨_, rfl, rfl, rfl⟩; obtain ⟨cx, fx⟩ := ib_cell (i := t) M14.out (by rw [matK_length l _ (by omega)]; omega)))
          go_roundw
          case rel => exact ⟨t + 1, by omega, by go_num, hid (by rw [← hset.out]; exact ib_set M14.out (by rw [matK_length l _ (by omega)]; omega) _)⟩
          case measure => simp [intOf] <;> omega
          -- mat>
        · obtain rfl : KN = t := by omega
          clear hlt ht hLl hqn hqd hql hqB hQS w2E w2K
          have hsS : a + (4 + 2 * E) = a + 4 + 2 * E := by omega
          rw [hsS] at hPt
          clear hsS
          replace hPt := hid hPt.out
          obtain ⟨S, hSe⟩ : ∃ S, a + 4 + 2 * E = S := ⟨_, rfl⟩
          rw [hSe] at MR hPt
          clear hSe
          have hsp2 := hid (hsn.out (by omega))
          have hawn := hid (show a + wid F ≤ n by rw [hwid.out]; omega)
          have hat2 : (a : Int) + 4 + (2 * (E : Int) + 2 * (KN : Int)) = ((a + wid F : Nat) : Int) := by rw [hwid.out]; omega
          rw [hat2]
          clear hat2
          generalize a + wid F = a2 at *
          have hKv : KN = 0 ∨ KN = 1 ∨ KN = 2 ∨ KN = 4 := by rcases hko.out with e | e | e | e | e <;> omega
          clear hko hKN4 wat hsz hsn hwid hstop hE1 hE2 hE0 hKN
          rcases hKv with hk | hk | hk | hk
          · have e := hid (show ptAt l a = ⟨F', G, PX, PY, 16384, 0, 0, 16384⟩ by rw [hPt.out]; unfold mtA mtB mtC mtD; rw [hK.out, hk]; rfl)
            have k1 : ((KN : Int) == 1) = false := by rw [hk]; rfl
            have k2 : ((KN : Int) == 2) = false := by rw [hk]; rfl
            have k4 : ((KN : Int) == 4) = false := by rw [hk]; rfl
            clear hPt hK hk
            -- <k0
            go_upto_region 48 with fail
            have M16 := hid (Own.tail MR.out)
            rw [← e.out] at M16
            clear MR e k1 k2 k4
            generalize ptAt l a = pt at *
            obtain ⟨d4, -⟩ := d_cells (m := m) (g := gx) (vp := .slice Ap j cp) (vg := .slice none 0 0) M16.out (by simp)
            go_wp2_with (first
              | ((with_reducible refine gate (N := 216) rfl ?_); refine wpList_run rfl (exec_load_agg agg_dt rfl rfl M16.out (g := px) (t := 82) (cs := dtA pt) (vs := (dtA pt).toList) (.head _) rfl rfl) ?_)
              | (at_builtin; refine wpList_append_Own rfl (.tmp 215) (.tmp 217) _ rfl sized_dt rfl rfl (L1 := [.blk wr.heap.size 82 (dtA pt), .blk px 82 (dtA pt)]) (L2 := [.blk m 52 (dA gx (.slice Ap j cp) (.slice none 0 0)), .blk m0 52 dNil]) (M16.out.alloc _ _) (SliceAt.built (M16.out.alloc _ _) (.head _) 8 1 rfl (by unfold maxLen; omega)) (one_all rfl) ((by unfold maxLen; omega)) ((by omega)) ?_; intro v' w' M'; obtain ⟨A9, c9, rfl⟩ := M'.tail.tail.form (.head _); (clear d4); obtain ⟨d4, -⟩ := d_cells (m := m) (g := gx) (vp := .slice Ap j cp) (vg := .slice none 0 0) M' (by simp); obtain ⟨f4, -⟩ := d_free (m := m) (g := gx) (vp := .slice Ap j cp) (vg := .slice none 0 0) M' (by simp); (have M17 := hid M'.tail.tail); clear M'))
            have M18 := hid (M17.out.set (L1 := [_]) 4 (.slice A9 (j + 1) c9))
            have cm := hid (d_cells (m := m) (g := gx) (vp := .slice A9 (j + 1) c9) (vg := .slice none 0 0) (show Own w _ _ from M18.out) (by simp [dA])).1
            -- <rnd
            go_roundw
            case rel =>
              exact ⟨j + 1, a2, b32, A9, c9, rfl, rfl, by omega, hawn.out, (fun _ => by omega), hid ⟨done ++ [pt], by rw [List.length_append, hdl.out]; rfl, fun p hp => (List.mem_append.1 hp).elim (hdo.out p) (fun h => by rw [List.mem_singleton] at h; rw [h]; exact hpo.out), hsp2.out, by rw [dtC_append]; exact M18.out⟩⟩
            case measure => (try rw [cm.out]); rw [c4.out]; simp [sLen] <;> omega
            -- rnd>
            -- k0>
          · have e := hid (show ptAt l a = ⟨F', G, PX, PY, sgn (n2 l S), 0, 0, sgn (n2 l S)⟩ by rw [hPt.out]; unfold mtA mtB mtC mtD; rw [hK.out, hk]; rfl)
            have hm := hid (show matK l S KN = [sgn (n2 l S), 0, 0, 0] by rw [hk]; rfl)
            have k1 : ((KN : Int) == 1) = true := by rw [hk]; rfl
            rw [hm.out] at MR
            clear hPt hK hk hm
            generalize sgn (n2 l S) = z at *
            have q0 : wr.cell? ⟨lx, 0, none⟩ = some (.int .i64 z) := MR.out.cell (g := lx) (t := 49) (cs := (ints .i64 [z, 0, 0, 0]).toArray) (.head _) 0
            -- <k1
            go_upto_region 48 with (first
              | ((with_reducible refine gateSt (t := 49) (p := 201) rfl ?_); refine wpList_store_agg (n := 4) (L1 := [.blk lx 49 (ints .i64 [z, 0, 0, 0]).toArray]) (g := px) (off := 4) (pre := [.int .i64 F', .int .i64 G, .int .i64 PX, .int .i64 PY]) (mid := [.int .i64 16384, .int .i64 0, .int .i64 0, .int .i64 16384]) (post := []) (vs := [.int .i64 z, .int .i64 0, .int .i64 0, .int .i64 z]) rfl rfl (by kernel_rfl) rfl rfl rfl rfl rfl rfl (one_all rfl) MR.out ?_; intro w15 M; (have M15 := hid M); clear M))
            have M16 : Hid (Own w w15 [.blk px 82 (dtA ⟨F', G, PX, PY, z, 0, 0, z⟩), .row 82 8 (.slice Ap j cp) j (dtC done), .blk m 52 (dA gx (.slice Ap j cp) (.slice none 0 0)), .blk m0 52 dNil]) := hid (Own.tail M15.out)
            rw [← e.out] at M16
            clear MR e k1 q0 M15
            generalize ptAt l a = pt at *
            obtain ⟨d4, -⟩ := d_cells (m := m) (g := gx) (vp := .slice Ap j cp) (vg := .slice none 0 0) M16.out (by simp)
            go_wp2_with (first
              | ((with_reducible refine gate (N := 216) rfl ?_); refine wpList_run rfl (exec_load_agg agg_dt rfl rfl M16.out (g := px) (t := 82) (cs := dtA pt) (vs := (dtA pt).toList) (.head _) rfl rfl) ?_)
              | (at_builtin; refine wpList_append_Own rfl (.tmp 215) (.tmp 217) _ rfl sized_dt rfl rfl (L1 := [.blk w15.heap.size 82 (dtA pt), .blk px 82 (dtA pt)]) (L2 := [.blk m 52 (dA gx (.slice Ap j cp) (.slice none 0 0)), .blk m0 52 dNil]) (M16.out.alloc _ _) (SliceAt.built (M16.out.alloc _ _) (.head _) 8 1 rfl (by unfold maxLen; omega)) (one_all rfl) ((by unfold maxLen; omega)) ((by omega)) ?_; intro v' w' M'; obtain ⟨A9, c9, rfl⟩ := M'.tail.tail.form (.head _); (clear d4); obtain ⟨d4, -⟩ := d_cells (m := m) (g := gx) (vp := .slice Ap j cp) (vg := .slice none 0 0) M' (by simp); obtain ⟨f4, -⟩ := d_free (m := m) (g := gx) (vp := .slice Ap j cp) (vg := .slice none 0 0) M' (by simp); (have M17 := hid M'.tail.tail); clear M'))
            have M18 := hid (M17.out.set (L1 := [_]) 4 (.slice A9 (j + 1) c9))
            have cm := hid (d_cells (m := m) (g := gx) (vp := .slice A9 (j + 1) c9) (vg := .slice none 0 0) (show Own w _ _ from M18.out) (by simp [dA])).1
            -- <rnd
            go_roundw
            case rel =>
              exact ⟨j + 1, a2, b32, A9, c9, rfl, rfl, by omega, hawn.out, (fun _ => by omega), hid ⟨done ++ [pt], by rw [List.length_append, hdl.out]; rfl, fun p hp => (List.mem_append.1 hp).elim (hdo.out p) (fun h => by rw [List.mem_singleton] at h; rw [h]; exact hpo.out), hsp2.out, by rw [dtC_append]; exact M18.out⟩⟩
            case measure => (try rw [cm.out]); rw [c4.out]; simp [sLen] <;> omega
            -- rnd>
            -- k1>
          · have e := hid (show ptAt l a = ⟨F', G, PX, PY, sgn (n2 l S), 0, 0, sgn (n2 l (S + 2))⟩ by rw [hPt.out]; unfold mtA mtB mtC mtD; rw [hK.out, hk]; rfl)
            have hm := hid (show matK l S KN = [sgn (n2 l S), sgn (n2 l (S + 2)), 0, 0] by rw [hk]; rfl)
            have k1 : ((KN : Int) == 1) = false := by rw [hk]; rfl
            have k2 : ((KN : Int) == 2) = true := by rw [hk]; rfl
            rw [hm.out] at MR
            clear hPt hK hk hm
            generalize sgn (n2 l S) = z at *
            generalize sgn (n2 l (S + 2)) = y at *
            have q0 : wr.cell? ⟨lx, 0, none⟩ = some (.int .i64 z) := MR.out.cell (g := lx) (t := 49) (cs := (ints .i64 [z, y, 0, 0]).toArray) (.head _) 0
            have q1 : wr.cell? ⟨lx, 1, none⟩ = some (.int .i64 y) := MR.out.cell (g := lx) (t := 49) (cs := (ints .i64 [z, y, 0, 0]).toArray) (.head _) 1
            -- <k2
            go_upto_region 48 with (first
              | ((with_reducible refine gateSt (t := 49) (p := 209) rfl ?_); refine wpList_store_agg (n := 4) (L1 := [.blk lx 49 (ints .i64 [z, y, 0, 0]).toArray]) (g := px) (off := 4) (pre := [.int .i64 F', .int .i64 G, .int .i64 PX, .int .i64 PY]) (mid := [.int .i64 16384, .int .i64 0, .int .i64 0, .int .i64 16384]) (post := []) (vs := [.int .i64 z, .int .i64 0, .int .i64 0, .int .i64 y]) rfl rfl (by kernel_rfl) rfl rfl rfl rfl rfl rfl (one_all rfl) MR.out ?_; intro w15 M; (have M15 := hid M); clear M))
            have M16 : Hid (Own w w15 [.blk px 82 (dtA ⟨F', G, PX, PY, z, 0, 0, y⟩), .row 82 8 (.slice Ap j cp) j (dtC done), .blk m 52 (dA gx (.slice Ap j cp) (.slice none 0 0)), .blk m0 52 dNil]) := hid (Own.tail M15.out)
            rw [← e.out] at M16
            clear MR e k1 k2 q0 q1 M15
            generalize ptAt l a = pt at *
            obtain ⟨d4, -⟩ := d_cells (m := m) (g := gx) (vp := .slice Ap j cp) (vg := .slice none 0 0) M16.out (by simp)
            go_wp2_with (first
              | ((with_reducible refine gate (N := 216) rfl ?_); refine wpList_run rfl (exec_load_agg agg_dt rfl rfl M16.out (g := px) (t := 82) (cs := dtA pt) (vs := (dtA pt).toList) (.head _) rfl rfl) ?_)
              | (at_builtin; refine wpList_append_Own rfl (.tmp 215) (.tmp 217) _ rfl sized_dt rfl rfl (L1 := [.blk w15.heap.size 82 (dtA pt), .blk px 82 (dtA pt)]) (L2 := [.blk m 52 (dA gx (.slice Ap j cp) (.slice none 0 0)), .blk m0 52 dNil]) (M16.out.alloc _ _) (SliceAt.built (M16.out.alloc _ _) (.head _) 8 1 rfl (by unfold maxLen; omega)) (one_all rfl) ((by unfold maxLen; omega)) ((by omega)) ?_; intro v' w' M'; obtain ⟨A9, c9, rfl⟩ := M'.tail.tail.form (.head _); (clear d4); obtain ⟨d4, -⟩ := d_cells (m := m) (g := gx) (vp := .slice Ap j cp) (vg := .slice none 0 0) M' (by simp); obtain ⟨f4, -⟩ := d_free (m := m) (g := gx) (vp := .slice Ap j cp) (vg := .slice none 0 0) M' (by simp); (have M17 := hid M'.tail.tail); clear M'))
            have M18 := hid (M17.out.set (L1 := [_]) 4 (.slice A9 (j + 1) c9))
            have cm := hid (d_cells (m := m) (g := gx) (vp := .slice A9 (j + 1) c9) (vg := .slice none 0 0) (show Own w _ _ from M18.out) (by simp [dA])).1
            -- <rnd
            go_roundw
            case rel =>
              exact ⟨j + 1, a2, b32, A9, c9, rfl, rfl, by omega, hawn.out, (fun _ => by omega), hid ⟨done ++ [pt], by rw [List.length_append, hdl.out]; rfl, fun p hp => (List.mem_append.1 hp).elim (hdo.out p) (fun h => by rw [List.mem_singleton] at h; rw [h]; exact hpo.out), hsp2.out, by rw [dtC_append]; exact M18.out⟩⟩
            case measure => (try rw [cm.out]); rw [c4.out]; simp [sLen] <;> omega
            -- rnd>
            -- k2>
          · have e := hid (show ptAt l a = ⟨F', G, PX, PY, sgn (n2 l S), sgn (n2 l (S + 2)), sgn (n2 l (S + 4)), sgn (n2 l (S + 6))⟩ by rw [hPt.out]; unfold mtA mtB mtC mtD; rw [hK.out, hk]; rfl)
            have hm := hid (show matK l S KN = [sgn (n2 l S), sgn (n2 l (S + 2)), sgn (n2 l (S + 4)), sgn (n2 l (S + 6))] by rw [hk]; rfl)
            have k1 : ((KN : Int) == 1) = false := by rw [hk]; rfl
            have k2 : ((KN : Int) == 2) = false := by rw [hk]; rfl
            have k4 : ((KN : Int) == 4) = true := by rw [hk]; rfl
            rw [hm.out] at MR
            clear hPt hK hk hm
            generalize sgn (n2 l S) = z at *
            generalize sgn (n2 l (S + 2)) = y at *
            generalize sgn (n2 l (S + 4)) = x at *
            generalize sgn (n2 l (S + 6)) = u at *
            -- <k4
            go_upto_region 48 with (first
              | ((with_reducible refine gate (N := 212) rfl ?_); refine wpList_run rfl (exec_load_agg agg_i4 rfl rfl MR.out (g := lx) (t := 49) (cs := (ints .i64 [z, y, x, u]).toArray) (vs := [.int .i64 z, .int .i64 y, .int .i64 x, .int .i64 u]) (.head _) rfl rfl) ?_)
              | ((with_reducible refine gateSt (t := 49) (p := 213) rfl ?_); refine wpList_store_agg (n := 4) (L1 := [.blk lx 49 (ints .i64 [z, y, x, u]).toArray]) (g := px) (off := 4) (pre := [.int .i64 F', .int .i64 G, .int .i64 PX, .int .i64 PY]) (mid := [.int .i64 16384, .int .i64 0, .int .i64 0, .int .i64 16384]) (post := []) (vs := [.int .i64 z, .int .i64 y, .int .i64 x, .int .i64 u]) rfl rfl (by kernel_rfl) rfl rfl rfl rfl rfl rfl (one_all rfl) MR.out ?_; intro w15 M; (have M15 := hid M); clear M))
            have M16 : Hid (Own w w15 [.blk px 82 (dtA ⟨F', G, PX, PY, z, y, x, u⟩), .row 82 8 (.slice Ap j cp) j (dtC done), .blk m 52 (dA gx (.slice Ap j cp) (.slice none 0 0)), .blk m0 52 dNil]) := hid (Own.tail M15.out)
            rw [← e.out] at M16
            clear MR e k1 k2 k4 M15
            generalize ptAt l a = pt at *
            obtain ⟨d4, -⟩ := d_cells (m := m) (g := gx) (vp := .slice Ap j cp) (vg := .slice none 0 0) M16.out (by simp)
            go_wp2_with (first
              | ((with_reducible refine gate (N := 216) rfl ?_); refine wpList_run rfl (exec_load_agg agg_dt rfl rfl M16.out (g := px) (t := 82) (cs := dtA pt) (vs := (dtA pt).toList) (.head _) rfl rfl) ?_)
              | (at_builtin; refine wpList_append_Own rfl (.tmp 215) (.tmp 217) _ rfl sized_dt rfl rfl (L1 := [.blk w15.heap.size 82 (dtA pt), .blk px 82 (dtA pt)]) (L2 := [.blk m 52 (dA gx (.slice Ap j cp) (.slice none 0 0)), .blk m0 52 dNil]) (M16.out.alloc _ _) (SliceAt.built (M16.out.alloc _ _) (.head _) 8 1 rfl (by unfold maxLen; omega)) (one_all rfl) ((by unfold maxLen; omega)) ((by omega)) ?_; intro v' w' M'; obtain ⟨A9, c9, rfl⟩ := M'.tail.tail.form (.head _); (clear d4); obtain ⟨d4, -⟩ := d_cells (m := m) (g := gx) (vp := .slice Ap j cp) (vg := .slice none 0 0) M' (by simp); obtain ⟨f4, -⟩ := d_free (m := m) (g := gx) (vp := .slice Ap j cp) (vg := .slice none 0 0) M' (by simp); (have M17 := hid M'.tail.tail); clear M'))
            have M18 := hid (M17.out.set (L1 := [_]) 4 (.slice A9 (j + 1) c9))
            have cm := hid (d_cells (m := m) (g := gx) (vp := .slice A9 (j + 1) c9) (vg := .slice none 0 0) (show Own w _ _ from M18.out) (by simp [dA])).1
            -- <rnd
            go_roundw
            case rel =>
              exact ⟨j + 1, a2, b32, A9, c9, rfl, rfl, by omega, hawn.out, (fun _ => by omega), hid ⟨done ++ [pt], by rw [List.length_append, hdl.out]; rfl, fun p hp => (List.mem_append.1 hp).elim (hdo.out p) (fun h => by rw [List.mem_singleton] at h; rw [h]; exact hpo.out), hsp2.out, by rw [dtC_append]; exact M18.out⟩⟩
            case measure => (try rw [cm.out]); rw [c4.out]; simp [sLen] <;> omega
            -- rnd>
            -- k4>
    · have hnone := hstop.out (.inl (by rw [hwid.out]; omega))
      have MF := hid (M9.out.sub (L' := [.blk m0 52 dNil]) (by simp))
      have hT := hid (fun w1 => show Calls Try.prog 49 #[.slice A n C, .int .i64 ((a : Int) + 4), .int .i64 (2 * (E : Int) + 2 * (KN : Int))] w1 _ from take_no w1 (at_ := a + 4) (k := 2 * E + 2 * KN) hn (by omega) (by omega) (by omega))
      -- <fail2
      go_upto_region 28 with (go_at_call 49; (with_reducible refine (hT.out _).mono ?_); rintro _ _ ⟨_, rfl, rfl, rfl⟩)
      go_wp2_with (first
        | ((with_reducible refine gateSt (t := 52) (p := 2) rfl ?_); refine wpList_store_all (n := 6) (L1 := []) (mid := dNil.toList) (vs := dNil.toList) rfl rfl (by kernel_rfl) rfl rfl rfl rfl rfl (one_all rfl) MF.out ?_; intro w18 M; (have M18 := hid M); clear M)
        | (refine bodyPost_ret (v := .tuple #[.agg dNil, .int .i64 0, .bool false]) ?_ rfl (Ret.mk (.inr ⟨hnone, rfl, M18.out.below⟩)); exact results_agg_tmps2 (p := 2) (q := 3) (s := 4) rfl agg_dg _ (by rfl) (M18.out.heap (.head _)) rfl))
      -- fail2>
end Go.Proofs.Yteoicpbfjkjogaa
