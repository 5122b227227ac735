/- The document's Right. -/
import Derived.Test.YtmmepjcndofnbaaSimpJ
namespace Go.Proofs.Ytmmepjcndofnbaa
open Go Go.RowKit
set_option linter.unusedVariables false
set_option linter.unusedSimpArgs false
set_option maxRecDepth 100000

/-- The document's glyph in the memory. -/
structure RAt (w : World) (g : Sg) (ve vp vs : Value) : Prop where
  e : SliceAt w w.heap.size 1 ve g.ends.length (ints .i64 g.ends)
  p : BytesAt w vp g.prog
  s : SliceAt w w.heap.size 3 vs g.pts.length (dpC g.pts)
theorem RAt.below {w w' : World} {g : Sg} {ve vp vs : Value} (h : RAt w g ve vp vs) (hb : Below w.heap.size w w') : RAt w' g ve vp vs := ⟨h.e.below hb, h.p.below hb, h.s.below hb⟩
theorem rsp_cells {W0 w : World} {L : List Ent} {p : Nat} {x y : Int} {on : Bool} (M : Own W0 w L) (h : .blk p 66 #[.int .i64 x, .int .i64 y, .bool on] ∈ L) :
    w.cell? ⟨p, 0, none⟩ = some (.int .i64 x) ∧ w.cell? ⟨p, 1, none⟩ = some (.int .i64 y) ∧ w.cell? ⟨p, 2, none⟩ = some (.bool on) := ⟨M.cell h 0, M.cell h 1, M.cell h 2⟩
theorem dpt_in {W0 : World} {ad : Addr} {ps : List (Int × Int × Bool)} {n : Nat} (hn : ps.length = n) (hr : Reads W0 W0.heap.size 3 (some ad) n (dpC ps)) {w' : World} (hb : Below W0.heap.size W0 w') {i : Nat} (hi : i < n) :
    w'.cell? (ad.add (i * 3)) = some (.int .i64 (pX ps i)) ∧ w'.cell? ⟨(ad.add (i * 3)).block, (ad.add (i * 3)).off + 1, none⟩ = some (.int .i64 (pY ps i)) ∧ w'.cell? ⟨(ad.add (i * 3)).block, (ad.add (i * 3)).off + 2, none⟩ = some (.bool (pO ps i)) :=
  dpt_at hn (hr.keep (w' := w') fun k hk _ => hb.block k hk) hi

set_option maxHeartbeats 4000000 in
theorem refRight_calls (w : World) {g : Sg} {ve vp vs : Value} (hO : g.Ok) (hG : RAt w g ve vp vs) :
    Calls Try.prog 14 #[.agg (rA g.b0 g.b1 g.b2 g.b3 ve vp vs)] w (Ret fun r w' => r = .bool (sgR g) ∧ Below w.heap.size w w') := by
  obtain ⟨he, hp, hs⟩ := hG
  obtain ⟨Ae, ce, rfl, hce, hme, -, hre⟩ := he
  obtain ⟨Ap, cp, rfl, hcp, hmp, -, -⟩ := hp
  obtain ⟨As, cs, rfl, hcs, hms, -, hrs⟩ := hs
  unfold maxLen at hme hmp hms
  have hOH := hid hO
  have hsg := hid (show sgR g = (riseB g.ends g.ends.length && (stepB g.pts g.pts.length && (decide (g.ends.length ≤ 32767) && (decide ((g.pts.length : Int) = nP g.ends g.ends.length) && decide (g.prog.length ≤ 65535))))) from rfl)
  have hnb := hid (fun k => nP_bound hO k)
  obtain ⟨ne, hne⟩ : ∃ n, g.ends.length = n := ⟨_, rfl⟩
  obtain ⟨np, hnp⟩ : ∃ n, g.prog.length = n := ⟨_, rfl⟩
  obtain ⟨ns, hns⟩ : ∃ n, g.pts.length = n := ⟨_, rfl⟩
  rw [hne] at hre hce
  rw [hnp] at hcp
  rw [hns] at hrs hcs
  rw [hne, hns, hnp] at hsg
  simp only [hne, hnp, hns]
  have hEA := hid (fun ad (e : Ae = some ad) w' hb i hi => int_at (w' := w') (i := i) hne (e ▸ hre) hb hi)
  have hSA := hid (fun ad (e : As = some ad) w' hb i hi => dpt_in (w' := w') (i := i) hns (e ▸ hrs) hb hi)
  have heS := hid (fun (h : 0 < ne) => show ∃ ad, Ae = some ad by obtain ⟨ad, e, -⟩ := hre.2 h; exact ⟨ad, e⟩)
  have hsS := hid (fun (h : 0 < ns) => show ∃ ad, As = some ad by obtain ⟨ad, e, -⟩ := hrs.2 h; exact ⟨ad, e⟩)
  have M0 := hid (Own.start w)
  clear hre hrs hne hnp hns hO
  by_cases b1 : ne ≤ 32767
  case neg =>
    have b1' : (ne : Int) > 32767 := by omega
    have hf := hid (show sgR g = false by rw [hsg.out, decide_eq_false b1, Bool.false_and, Bool.and_false, Bool.and_false])
    go_enter Try.func14, Try.ntmps14
    go_wp2_with ((with_reducible refine gate (N := 1) rfl ?_); refine wpList_box_Own rfl (cs := rA g.b0 g.b1 g.b2 g.b3 (.slice Ae ne ce) (.slice Ap np cp) (.slice As ns cs)) (t := 46) (by first | (go_simp; done) | (go_simp; rfl)) M0.out ?_; intro m w1 M; obtain ⟨⟨-, -, -, -, c4, c5, c6⟩, -⟩ := r_cells (m := m) (a := g.b0) (b := g.b1) (c := g.b2) (d := g.b3) (ve := .slice Ae ne ce) (vp := .slice Ap np cp) (vs := .slice As ns cs) M (by simp); (have M1 := hid M); clear M)
    go_ret
    exact .mk ⟨by rw [hf.out]; rfl, M1.out.below⟩
  by_cases b2 : np ≤ 65535
  case neg =>
    have b1' : ¬ (ne : Int) > 32767 := by omega
    have b2' : (np : Int) > 65535 := by omega
    have hf := hid (show sgR g = false by rw [hsg.out, decide_eq_false b2, Bool.and_false, Bool.and_false, Bool.and_false, Bool.and_false])
    go_enter Try.func14, Try.ntmps14
    go_wp2_with ((with_reducible refine gate (N := 1) rfl ?_); refine wpList_box_Own rfl (cs := rA g.b0 g.b1 g.b2 g.b3 (.slice Ae ne ce) (.slice Ap np cp) (.slice As ns cs)) (t := 46) (by first | (go_simp; done) | (go_simp; rfl)) M0.out ?_; intro m w1 M; obtain ⟨⟨-, -, -, -, c4, c5, c6⟩, -⟩ := r_cells (m := m) (a := g.b0) (b := g.b1) (c := g.b2) (d := g.b3) (ve := .slice Ae ne ce) (vp := .slice Ap np cp) (vs := .slice As ns cs) M (by simp); (have M1 := hid M); clear M)
    go_ret
    exact .mk ⟨by rw [hf.out]; rfl, M1.out.below⟩
  have b1' : ¬ (ne : Int) > 32767 := by omega
  have b2' : ¬ (np : Int) > 65535 := by omega
  go_enter Try.func14, Try.ntmps14
  go_wp2_with ((with_reducible refine gate (N := 1) rfl ?_); refine wpList_box_Own rfl (cs := rA g.b0 g.b1 g.b2 g.b3 (.slice Ae ne ce) (.slice Ap np cp) (.slice As ns cs)) (t := 46) (by first | (go_simp; done) | (go_simp; rfl)) M0.out ?_; intro m w1 M; obtain ⟨⟨-, -, -, -, c4, c5, c6⟩, -⟩ := r_cells (m := m) (a := g.b0) (b := g.b1) (c := g.b2) (d := g.b3) (ve := .slice Ae ne ce) (vp := .slice Ap np cp) (vs := .slice As ns cs) M (by simp); (have M1 := hid M); clear M)
  clear c4 c5 c6
  go_loopw [3, 22] (fun s i wr => ∃ k : Nat, k ≤ ne ∧ i = .int .i64 k ∧ s = .int .i64 (nP g.ends k) ∧ Hid (riseB g.ends k = true) ∧ Hid (Own w wr [.blk m 46 (rA g.b0 g.b1 g.b2 g.b3 (.slice Ae ne ce) (.slice Ap np cp) (.slice As ns cs))])) (fun _ i _ => ne - (intOf i).toNat)
  case atStart => exact ⟨0, Nat.zero_le _, rfl, rfl, hid (decide_eq_true fun i hi => absurd hi (by omega)), M1⟩
  case round =>
    clear M1
    obtain ⟨k, hk, rfl, rfl, hrise, MR⟩ := hrel
    obtain ⟨⟨-, -, -, -, c4, c5, c6⟩, -⟩ := r_cells (m := m) (a := g.b0) (b := g.b1) (c := g.b2) (d := g.b3) (ve := .slice Ae ne ce) (vp := .slice Ap np cp) (vs := .slice As ns cs) MR.out (by simp)
    by_cases hlt : k < ne
    · obtain ⟨ad, rfl⟩ := heS.out (by omega)
      have hcell := hEA.out ad rfl wr MR.out.below k hlt
      obtain ⟨e0, e1⟩ := hOH.out.end k
      have hrs := hid (riseB_succ g.ends k)
      have hno := hid (fun h => riseB_no (e := g.ends) (k := k) (n := ne) h hlt)
      have hn1 := hid (show nP g.ends (k + 1) = g.ends.getD k 0 + 1 from rfl)
      obtain ⟨n0, n1⟩ := hnb.out k
      generalize g.ends.getD k 0 = e at *
      generalize nP g.ends k = q at *
      by_cases hle : q ≤ e
      · have hq : ¬ e < q := by omega
        have hrt := hid (show riseB g.ends (k + 1) = true by rw [hrs.out, hrise.out, decide_eq_true hle]; rfl)
        go_wp2
        go_roundw
        case rel => exact ⟨k + 1, by omega, by go_num, by rw [hn1.out], hrt, MR⟩
        case measure => simp [intOf] <;> omega
      · have hq : e < q := by omega
        have hf := hid (show sgR g = false by rw [hsg.out, hno.out hle]; rfl)
        go_wp2
        go_ret
        exact .mk ⟨by rw [hf.out]; rfl, MR.out.below⟩
    · obtain rfl : k = ne := by omega
      go_wp2_with (first
        | ((with_reducible refine gate (N := 6) rfl ?_); refine wpList_box_Own rfl (cs := #[.int .i64 0, .int .i64 0, .bool false]) (t := 66) (by first | (go_simp; done) | (go_simp; rfl)) MR.out ?_; intro l w2a M; (clear c4 c5 c6); (have M2a := hid M); clear M)
        | ((with_reducible refine gateSt (t := 66) (p := 6) rfl ?_); refine wpList_store_all (n := 3) (L1 := []) (mid := [.int .i64 0, .int .i64 0, .bool false]) (vs := [.int .i64 0, .int .i64 0, .bool false]) rfl rfl (by kernel_rfl) rfl rfl rfl rfl rfl (one_all rfl) M2a.out ?_; intro w2 M; obtain ⟨⟨-, -, -, -, c4, c5, c6⟩, -⟩ := r_cells (m := m) (a := g.b0) (b := g.b1) (c := g.b2) (d := g.b3) (ve := .slice Ae k ce) (vp := .slice Ap np cp) (vs := .slice As ns cs) M (by simp); (have M2 := hid M); clear M))
      clear c4 c5 c6 MR M2a
      go_loopw [36] (fun i wr => ∃ k : Nat, k ≤ ns ∧ i = .int .i64 k ∧ Hid (stepB g.pts k = true) ∧ Hid (Own w wr [.blk l 66 #[.int .i64 (pvX g.pts k), .int .i64 (pvY g.pts k), .bool (pvO g.pts k)], .blk m 46 (rA g.b0 g.b1 g.b2 g.b3 (.slice Ae _ ce) (.slice Ap np cp) (.slice As ns cs))])) (fun i _ => ns - (intOf i).toNat)
      case atStart => exact ⟨0, Nat.zero_le _, rfl, hid (decide_eq_true fun i hi => absurd hi (by omega)), M2⟩
      case round =>
        clear M2
        obtain ⟨j, hj, rfl, hst, MS⟩ := hrel
        obtain ⟨⟨-, -, -, -, c4, c5, c6⟩, -⟩ := r_cells (m := m) (a := g.b0) (b := g.b1) (c := g.b2) (d := g.b3) (ve := .slice Ae k ce) (vp := .slice Ap np cp) (vs := .slice As ns cs) MS.out (by simp)
        by_cases hjt : j < ns
        · obtain ⟨ad, rfl⟩ := hsS.out (by omega)
          obtain ⟨k1, k2, k3⟩ := hSA.out ad rfl wr MS.out.below j hjt
          have hss := hid (stepB_succ g.pts j)
          have hnx := hid (show pvX g.pts (j + 1) = pX g.pts j ∧ pvY g.pts (j + 1) = pY g.pts j ∧ pvO g.pts (j + 1) = pO g.pts j from ⟨rfl, rfl, rfl⟩)
          have hdd := hid (show dX g.pts j = pX g.pts j - pvX g.pts j ∧ dY g.pts j = pY g.pts j - pvY g.pts j from ⟨rfl, rfl⟩)
          have hno := hid (fun h => stepB_no (ps := g.pts) (k := j) (n := ns) h hjt)
          obtain ⟨⟨x0, x1⟩, ⟨y0, y1⟩⟩ := hOH.out.at j
          obtain ⟨⟨u0, u1⟩, ⟨v0, v1⟩⟩ := hOH.out.prev j
          rw [hdd.out.1, hdd.out.2] at hss hno
          clear hdd
          generalize pX g.pts j = x at *
          generalize pY g.pts j = y at *
          generalize pO g.pts j = on at *
          generalize pvX g.pts j = u at *
          generalize pvY g.pts j = v at *
          generalize pvO g.pts j = po at *
          have hF1 := hid (fun w => within_calls w (x - u))
          have hF2 := hid (fun w => within_calls w (y - v))
          generalize fitB (x - u) = f1 at *
          generalize fitB (y - v) = f2 at *
          cases f1
          · have hf := hid (show sgR g = false by rw [hsg.out, hno.out (.inl rfl), Bool.false_and, Bool.and_false])
            go_wp2_with (first
              | ((with_reducible refine gate (N := 8) rfl ?_); refine wpList_box_Own rfl (cs := #[.int .i64 0, .int .i64 0, .bool false]) (t := 66) (by first | (go_simp; done) | (go_simp; rfl)) MS.out ?_; intro p w3 M; (clear k1 k2 k3); (have M3 := hid M); clear M)
              | ((with_reducible refine gateSt (t := 66) (p := 8) rfl ?_); refine wpList_store_all (n := 3) (L1 := []) (mid := [.int .i64 0, .int .i64 0, .bool false]) (vs := [.int .i64 x, .int .i64 y, .bool on]) rfl rfl (by kernel_rfl) rfl rfl rfl rfl rfl (one_all rfl) M3.out ?_; intro w4 M; obtain ⟨p0, p1, p2⟩ := rsp_cells (p := p) (x := x) (y := y) (on := on) M (by simp); obtain ⟨l0, l1, l2⟩ := rsp_cells (p := l) (x := u) (y := v) (on := po) M (by simp); (have M4 := hid M); clear M)
              | (go_at_call 25; (with_reducible refine (hF1.out _).mono ?_); rintro _ _ ⟨_, rfl, rfl, rfl⟩))
            go_ret
            exact .mk ⟨by rw [hf.out]; rfl, M4.out.below⟩
          · cases f2
            · have hf := hid (show sgR g = false by rw [hsg.out, hno.out (.inr rfl), Bool.false_and, Bool.and_false])
              go_wp2_with (first
                | ((with_reducible refine gate (N := 8) rfl ?_); refine wpList_box_Own rfl (cs := #[.int .i64 0, .int .i64 0, .bool false]) (t := 66) (by first | (go_simp; done) | (go_simp; rfl)) MS.out ?_; intro p w3 M; (clear k1 k2 k3); (have M3 := hid M); clear M)
                | ((with_reducible refine gateSt (t := 66) (p := 8) rfl ?_); refine wpList_store_all (n := 3) (L1 := []) (mid := [.int .i64 0, .int .i64 0, .bool false]) (vs := [.int .i64 x, .int .i64 y, .bool on]) rfl rfl (by kernel_rfl) rfl rfl rfl rfl rfl (one_all rfl) M3.out ?_; intro w4 M; obtain ⟨p0, p1, p2⟩ := rsp_cells (p := p) (x := x) (y := y) (on := on) M (by simp); obtain ⟨l0, l1, l2⟩ := rsp_cells (p := l) (x := u) (y := v) (on := po) M (by simp); (have M4 := hid M); clear M)
                | (go_at_call 25; (with_reducible refine (hF1.out _).mono ?_); rintro _ _ ⟨_, rfl, rfl, rfl⟩; (clear hF1))
                | (go_at_call 25; (with_reducible refine (hF2.out _).mono ?_); rintro _ _ ⟨_, rfl, rfl, rfl⟩))
              go_ret
              exact .mk ⟨by rw [hf.out]; rfl, M4.out.below⟩
            · have hst2 := hid (show stepB g.pts (j + 1) = true by rw [hss.out, hst.out]; rfl)
              go_wp2_with (first
                | ((with_reducible refine gate (N := 8) rfl ?_); refine wpList_box_Own rfl (cs := #[.int .i64 0, .int .i64 0, .bool false]) (t := 66) (by first | (go_simp; done) | (go_simp; rfl)) MS.out ?_; intro p w3 M; (clear k1 k2 k3); (have M3 := hid M); clear M)
                | ((with_reducible refine gateSt (t := 66) (p := 8) rfl ?_); refine wpList_store_all (n := 3) (L1 := []) (mid := [.int .i64 0, .int .i64 0, .bool false]) (vs := [.int .i64 x, .int .i64 y, .bool on]) rfl rfl (by kernel_rfl) rfl rfl rfl rfl rfl (one_all rfl) M3.out ?_; intro w4 M; obtain ⟨p0, p1, p2⟩ := rsp_cells (p := p) (x := x) (y := y) (on := on) M (by simp); obtain ⟨l0, l1, l2⟩ := rsp_cells (p := l) (x := u) (y := v) (on := po) M (by simp); (have M4 := hid M); clear M)
                | (go_at_call 25; (with_reducible refine (hF1.out _).mono ?_); rintro _ _ ⟨_, rfl, rfl, rfl⟩; (clear hF1))
                | (go_at_call 25; (with_reducible refine (hF2.out _).mono ?_); rintro _ _ ⟨_, rfl, rfl, rfl⟩; (clear l0 l1 l2))
                | ((with_reducible refine gateSt (t := 66) (p := 6) rfl ?_); refine wpList_store_all (n := 3) (L1 := [.blk p 66 #[.int .i64 x, .int .i64 y, .bool on]]) (mid := [.int .i64 u, .int .i64 v, .bool po]) (vs := [.int .i64 x, .int .i64 y, .bool on]) rfl rfl (by kernel_rfl) rfl rfl rfl rfl rfl (one_all rfl) M4.out ?_; intro w5 M; (have M5 := hid M); clear M))
              go_roundw
              case rel => exact ⟨j + 1, by omega, by go_num, hst2, hid (by rw [hnx.out.1, hnx.out.2.1, hnx.out.2.2]; exact M5.out.tail)⟩
              case measure => simp [intOf] <;> omega
        · obtain rfl : j = ns := by omega
          obtain ⟨z, hz⟩ : ∃ z, nP g.ends k = z := ⟨_, rfl⟩
          have hsg2 := hid (show sgR g = decide ((j : Int) = z) by rw [hsg.out, hrise.out, hst.out, hz, decide_eq_true b1, decide_eq_true b2]; simp)
          rw [hz]
          clear hz
          by_cases h2 : (j : Int) = z
          · have a2 : ((j : Int) == z) = true := by rw [beq_iff_eq]; exact h2
            have hf := hid (show sgR g = true by rw [hsg2.out, decide_eq_true h2])
            clear h2
            go_wp2
            go_ret
            exact .mk ⟨by rw [hf.out]; rfl, MS.out.below⟩
          · have a2 : ((j : Int) == z) = false := by rw [beq_eq_false_iff_ne]; exact h2
            have hf := hid (show sgR g = false by rw [hsg2.out, decide_eq_false h2])
            clear h2
            go_wp2
            go_ret
            exact .mk ⟨by rw [hf.out]; rfl, MS.out.below⟩
end Go.Proofs.Ytmmepjcndofnbaa
