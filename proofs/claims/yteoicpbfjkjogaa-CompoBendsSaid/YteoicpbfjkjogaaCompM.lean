/- Layer 13: which glyphs may be, by the document. -/
import Derived.Test.YteoicpbfjkjogaaCompL
namespace Go.Proofs.Yteoicpbfjkjogaa
open Go Go.RowKit
set_option linter.unusedVariables false
set_option linter.unusedSimpArgs false
set_option maxRecDepth 100000

abbrev dA (g : Cg) (vp vg : Value) : Array Value := #[.int .i64 g.b0, .int .i64 g.b1, .int .i64 g.b2, .int .i64 g.b3, vp, vg]
structure DAt (w : World) (g : Cg) (vp vg : Value) : Prop where
  p : SliceAt w w.heap.size 8 vp g.parts.length (dtC g.parts)
  g : BytesAt w vg g.prog
theorem DAt.below {w w' : World} {g : Cg} {vp vg : Value} (h : DAt w g vp vg) (hb : Below w.heap.size w w') : DAt w' g vp vg := ⟨h.p.below hb, h.g.below hb⟩
theorem agg_dg : AggOf Try.prog 52 6 := .mk' Try.underlying52 rfl (by kernel_rfl)
theorem agg_dt : AggOf Try.prog 82 8 := .mk' Try.underlying82 rfl (by kernel_rfl)
theorem d_cells {W0 w : World} {L : List Ent} {m : Nat} {g : Cg} {vp vg : Value} (M : Own W0 w L) (h : .blk m 52 (dA g vp vg) ∈ L) :
    w.cell? ⟨m, 4, none⟩ = some vp ∧ w.cell? ⟨m, 5, none⟩ = some vg := ⟨M.cell h 4, M.cell h 5⟩
/-- The document's part of number i, wherever the world stands. -/
theorem dpart_at {W0 : World} {ad : Addr} {ps : List Pt} {n : Nat} (hn : ps.length = n) (hr : Reads W0 W0.heap.size 8 (some ad) n (dtC ps)) {w' : World} (hb : Below W0.heap.size W0 w') {i : Nat} (hi : i < n) :
    w'.cell? (ad.add (i * 8)) = some (.int .i64 (pAt ps i).f) ∧ w'.cell? ⟨(ad.add (i * 8)).block, (ad.add (i * 8)).off + 1, none⟩ = some (.int .i64 (pAt ps i).g) ∧ w'.cell? ⟨(ad.add (i * 8)).block, (ad.add (i * 8)).off + 2, none⟩ = some (.int .i64 (pAt ps i).x) ∧ w'.cell? ⟨(ad.add (i * 8)).block, (ad.add (i * 8)).off + 3, none⟩ = some (.int .i64 (pAt ps i).y) ∧
    w'.cell? ⟨(ad.add (i * 8)).block, (ad.add (i * 8)).off + 4, none⟩ = some (.int .i64 (pAt ps i).a) ∧ w'.cell? ⟨(ad.add (i * 8)).block, (ad.add (i * 8)).off + 5, none⟩ = some (.int .i64 (pAt ps i).b) ∧ w'.cell? ⟨(ad.add (i * 8)).block, (ad.add (i * 8)).off + 6, none⟩ = some (.int .i64 (pAt ps i).c) ∧ w'.cell? ⟨(ad.add (i * 8)).block, (ad.add (i * 8)).off + 7, none⟩ = some (.int .i64 (pAt ps i).d) := by
  have hr := hr.keep (w' := w') fun k hk _ => hb.block k hk
  have hg := fun (j : Nat) (hj : j < 8) => rows_get (F := dtF) (m := 8) (fun _ => rfl) pt0 hj ps i (by omega)
  obtain ⟨a0, he, q0⟩ := hr.cell ((hg 0 (by omega)).trans rfl)
  injection he with he; subst he
  refine ⟨q0, ?_, ?_, ?_, ?_, ?_, ?_, ?_⟩
  · obtain ⟨a1, he, q⟩ := hr.cell_at (m := i * 8) (j := 1) (by omega) ((hg 1 (by omega)).trans rfl)
    injection he with he; subst he; exact q
  · obtain ⟨a1, he, q⟩ := hr.cell_at (m := i * 8) (j := 2) (by omega) ((hg 2 (by omega)).trans rfl)
    injection he with he; subst he; exact q
  · obtain ⟨a1, he, q⟩ := hr.cell_at (m := i * 8) (j := 3) (by omega) ((hg 3 (by omega)).trans rfl)
    injection he with he; subst he; exact q
  · obtain ⟨a1, he, q⟩ := hr.cell_at (m := i * 8) (j := 4) (by omega) ((hg 4 (by omega)).trans rfl)
    injection he with he; subst he; exact q
  · obtain ⟨a1, he, q⟩ := hr.cell_at (m := i * 8) (j := 5) (by omega) ((hg 5 (by omega)).trans rfl)
    injection he with he; subst he; exact q
  · obtain ⟨a1, he, q⟩ := hr.cell_at (m := i * 8) (j := 6) (by omega) ((hg 6 (by omega)).trans rfl)
    injection he with he; subst he; exact q
  · obtain ⟨a1, he, q⟩ := hr.cell_at (m := i * 8) (j := 7) (by omega) ((hg 7 (by omega)).trans rfl)
    injection he with he; subst he; exact q
def docB (ps : List Pt) (k : Nat) : Prop := ∀ i, i < k → partB (pAt ps i) = true ∧ (i + 1 < ps.length → hasB (pAt ps i).f 256 = false)
theorem docB_all {ps : List Pt} (h : docB ps ps.length) : partsB ps ps.length = true := decide_eq_true fun i hi => ⟨by
  cases i with
  | zero => rfl
  | succ j => exact (h j (by omega)).2 hi, (h i hi).1⟩
set_option maxHeartbeats 8000000 in
theorem refRight_calls (w : World) {g : Cg} {vp vg : Value} (hO : g.Ok) (hG : DAt w g vp vg) :
    Calls Try.prog 19 #[.agg (dA g vp vg)] w (Ret fun r w' => r = .bool (cgR g) ∧ Below w.heap.size w w') := by
  obtain ⟨hp, hgg⟩ := hG
  obtain ⟨Ap, cp, rfl, hcp, hmp, -, hrp⟩ := hp
  obtain ⟨Ag, cg, rfl, hcg, hmg, -, -⟩ := hgg
  unfold maxLen at hmp hmg
  have hOH := hid hO
  have hcR := hid (show cgR g = (partsB g.parts g.parts.length && (decide (1 ≤ g.parts.length) && (decide (g.parts.length ≤ 200) && (decide (g.prog.length ≤ 65535) && (codeB g.parts g.parts.length || decide (g.prog.length = 0)))))) from rfl)
  obtain ⟨np, hnp⟩ : ∃ n, g.parts.length = n := ⟨_, rfl⟩
  obtain ⟨ng, hng⟩ : ∃ n, g.prog.length = n := ⟨_, rfl⟩
  rw [hnp] at hrp hcp
  rw [hng] at hcg
  rw [hnp, hng] at hcR
  simp only [dA, hnp, hng]
  have hPA := hid (fun ad (e : Ap = some ad) w' hb i hi => dpart_at (w' := w') (i := i) hnp (e ▸ hrp) hb hi)
  have hpS := hid (fun (h : 0 < np) => show ∃ ad, Ap = some ad by obtain ⟨ad, e, -⟩ := hrp.2 h; exact ⟨ad, e⟩)
  have hall0 := hid (fun (h : docB g.parts np) => show partsB g.parts np = true by rw [← hnp] at h ⊢; exact docB_all h)
  have hnpH := hid hnp
  have M0 := hid (Own.start w)
  clear hrp hnp hng hO
  obtain ⟨c1, hc1⟩ : ∃ c, (!(decide (1 ≤ np) && (decide (np ≤ 200) && decide (ng ≤ 65535)))) = c := ⟨_, rfl⟩
  replace hc1 := hid hc1
  go_enter Try.func19, Try.ntmps19
  go_upto_region 2 with (first
    | ((with_reducible refine gate (N := 1) rfl ?_); refine wpList_box_Own rfl (cs := dA g (.slice Ap np cp) (.slice Ag ng cg)) (t := 52) (by first | (go_simp; done) | (go_simp; rfl)) M0.out ?_; intro m w1 M; obtain ⟨c4, c5⟩ := d_cells (m := m) (g := g) (vp := .slice Ap np cp) (vg := .slice Ag ng cg) M (by simp); (have M1 := hid M); clear M))
  go_cut [20] (fun s wx => s = .bool c1 ∧ w1 = wx)
  case first =>
    -- <one
    clear hcR hPA hpS hall0 M1 M0
    by_cases q1 : 1 ≤ np
    · have q1' : ¬ (np : Int) < 1 := by omega
      by_cases q2 : np ≤ 200
      · have q2' : ¬ (np : Int) > 200 := by omega
        by_cases q3 : ng ≤ 65535
        · have q3' : ¬ (ng : Int) > 65535 := by omega
          go_wp2
          go_meet
          exact ⟨congrArg Value.bool (by rw [← hc1.out]; simp [*]), rfl⟩
        · have q3' : (ng : Int) > 65535 := by omega
          go_wp2
          go_meet
          exact ⟨congrArg Value.bool (by rw [← hc1.out]; simp [*]), rfl⟩
      · have q2' : (np : Int) > 200 := by omega
        go_wp2
        go_meet
        exact ⟨congrArg Value.bool (by rw [← hc1.out]; simp [*]), rfl⟩
    · have q1' : (np : Int) < 1 := by omega
      go_wp2
      go_meet
      exact ⟨congrArg Value.bool (by rw [← hc1.out]; simp [*]), rfl⟩
    -- one>
  obtain ⟨hs, hw⟩ := hcut
  subst hs hw
  cases c1
  · have hz : 1 ≤ np ∧ np ≤ 200 ∧ ng ≤ 65535 := by
      have := hc1.out
      simpa using this
    obtain ⟨hz1, hz2, hz3⟩ := hz
    rw [decide_eq_true hz1, decide_eq_true hz2, decide_eq_true hz3, Bool.true_and, Bool.true_and, Bool.true_and] at hcR
    clear hc1 hz3
    obtain ⟨ad, rfl⟩ := hpS.out (by omega)
    clear c4 c5
    have c45 := d_cells (m := m) (g := g) (vp := .slice (some ad) np cp) (vg := .slice Ag ng cg) M1.out (by simp)
    go_upto_region 5 with fail
    go_loopw [24] (fun i wr => ∃ k : Nat, k ≤ np ∧ i = .int .i64 k ∧ Hid (docB g.parts k) ∧ Hid (Own w wr [.blk m 52 (dA g (.slice (some ad) np cp) (.slice Ag ng cg))])) (fun i _ => np - (intOf i).toNat)
    case atStart => exact ⟨0, Nat.zero_le _, rfl, hid (fun i hi => absurd hi (by omega)), M1⟩
    case round =>
      clear M1 c45
      obtain ⟨k, hk, rfl, hall, MR⟩ := hrel
      obtain ⟨c4, c5⟩ := d_cells (m := m) (g := g) (vp := .slice (some ad) np cp) (vg := .slice Ag ng cg) MR.out (by simp)
      by_cases hlt : k < np
      · obtain ⟨k0, k1, k2, k3, k4, k5, k6, k7⟩ := hPA.out ad rfl wr MR.out.below k hlt
        have hOk := hid (hOH.out.at k)
        have hno := hid (fun h => partsB_no (ps := g.parts) (k := k) (n := np) h hlt)
        have hno1 := hid (fun h (hl : k + 1 < np) => partsB_no (ps := g.parts) (k := k + 1) (n := np) (.inl (show hasB (pAt g.parts k).f 256 = true from h)) hl)
        have hnx := hid (fun (h1 : partB (pAt g.parts k) = true) (h2 : k + 1 < np → hasB (pAt g.parts k).f 256 = false) => show docB g.parts (k + 1) from fun i hi => by
          by_cases he : i = k
          · subst he; exact ⟨h1, fun x => h2 (by rw [← hnpH.out]; exact x)⟩
          · exact hall.out i (by omega))
        have hRt := hid (fun w1 => refFits_calls w1 hOk.out)
        have hHs := hid (fun w1 => refHas_calls w1 (k := 256) hOk.out.f.1 hOk.out.f.2 (by decide))
        generalize pAt g.parts k = p at *
        generalize partB p = pb at *
        generalize hasB p.f 256 = hb256 at *
        cases pb
        · have hf := hid (show partsB g.parts np = false from hno.out (.inr rfl))
          go_wp2_with (first
            | ((with_reducible refine gate (N := 5) rfl ?_); refine wpList_box_Own rfl (cs := dtA pt0) (t := 82) (by first | (go_simp; done) | (go_simp; rfl)) MR.out ?_; intro n w3 M; (have M3 := hid M); clear M)
            | ((with_reducible refine gateSt (t := 82) (p := 5) rfl ?_); refine wpList_store_all (n := 8) (L1 := []) (mid := (dtA pt0).toList) (vs := (dtA p).toList) rfl rfl (by kernel_rfl) rfl rfl rfl rfl rfl (one_all rfl) M3.out ?_; intro w4 M; (clear k0 k1 k2 k3 k4 k5 k6 k7); (have M4 := hid M); clear M)
            | ((with_reducible refine gate (N := 29) rfl ?_); refine wpList_run rfl (exec_load_agg agg_dt rfl rfl M4.out (g := n) (t := 82) (cs := dtA p) (vs := (dtA p).toList) (.head _) rfl rfl) ?_)
            | (go_at_call 39; (with_reducible refine (hRt.out _).mono ?_); rintro _ w5 ⟨_, rfl, rfl, hb⟩; (have M5 := hid (M4.out.keep hb)); clear hb; obtain ⟨e0, -, -⟩ := dt_cells (m := n) (p := p) M5.out (by simp))
            | (go_at_call 40; (with_reducible refine (hHs.out _).mono ?_); rintro _ w5 ⟨_, rfl, rfl, rfl⟩))
          go_ret
          exact .mk ⟨by rw [hcR.out, hf.out]; rfl, M5.out.below⟩
        · by_cases hl1 : k + 1 < np
          · have hl1' : (k : Int) < (np : Int) - 1 := by omega
            cases hb256
            · have hd := hid (hnx.out rfl (fun _ => rfl))
              go_wp2_with (first
                | ((with_reducible refine gate (N := 5) rfl ?_); refine wpList_box_Own rfl (cs := dtA pt0) (t := 82) (by first | (go_simp; done) | (go_simp; rfl)) MR.out ?_; intro n w3 M; (have M3 := hid M); clear M)
                | ((with_reducible refine gateSt (t := 82) (p := 5) rfl ?_); refine wpList_store_all (n := 8) (L1 := []) (mid := (dtA pt0).toList) (vs := (dtA p).toList) rfl rfl (by kernel_rfl) rfl rfl rfl rfl rfl (one_all rfl) M3.out ?_; intro w4 M; (clear k0 k1 k2 k3 k4 k5 k6 k7); (have M4 := hid M); clear M)
                | ((with_reducible refine gate (N := 29) rfl ?_); refine wpList_run rfl (exec_load_agg agg_dt rfl rfl M4.out (g := n) (t := 82) (cs := dtA p) (vs := (dtA p).toList) (.head _) rfl rfl) ?_)
                | (go_at_call 39; (with_reducible refine (hRt.out _).mono ?_); rintro _ w5 ⟨_, rfl, rfl, hb⟩; (have M5 := hid (M4.out.keep hb)); clear hb; obtain ⟨e0, -, -⟩ := dt_cells (m := n) (p := p) M5.out (by simp))
                | (go_at_call 40; (with_reducible refine (hHs.out _).mono ?_); rintro _ w5 ⟨_, rfl, rfl, rfl⟩))
              go_roundw
              case rel => exact ⟨k + 1, by omega, by go_num, hd, hid M5.out.tail⟩
              case measure => simp [intOf] <;> omega
            · have hf := hid (show partsB g.parts np = false from hno1.out rfl hl1)
              go_wp2_with (first
                | ((with_reducible refine gate (N := 5) rfl ?_); refine wpList_box_Own rfl (cs := dtA pt0) (t := 82) (by first | (go_simp; done) | (go_simp; rfl)) MR.out ?_; intro n w3 M; (have M3 := hid M); clear M)
                | ((with_reducible refine gateSt (t := 82) (p := 5) rfl ?_); refine wpList_store_all (n := 8) (L1 := []) (mid := (dtA pt0).toList) (vs := (dtA p).toList) rfl rfl (by kernel_rfl) rfl rfl rfl rfl rfl (one_all rfl) M3.out ?_; intro w4 M; (clear k0 k1 k2 k3 k4 k5 k6 k7); (have M4 := hid M); clear M)
                | ((with_reducible refine gate (N := 29) rfl ?_); refine wpList_run rfl (exec_load_agg agg_dt rfl rfl M4.out (g := n) (t := 82) (cs := dtA p) (vs := (dtA p).toList) (.head _) rfl rfl) ?_)
                | (go_at_call 39; (with_reducible refine (hRt.out _).mono ?_); rintro _ w5 ⟨_, rfl, rfl, hb⟩; (have M5 := hid (M4.out.keep hb)); clear hb; obtain ⟨e0, -, -⟩ := dt_cells (m := n) (p := p) M5.out (by simp))
                | (go_at_call 40; (with_reducible refine (hHs.out _).mono ?_); rintro _ w5 ⟨_, rfl, rfl, rfl⟩))
              go_ret
              exact .mk ⟨by rw [hcR.out, hf.out]; rfl, M5.out.below⟩
          · have hl1' : ¬ (k : Int) < (np : Int) - 1 := by omega
            have hd := hid (hnx.out rfl (fun x => absurd x hl1))
            go_wp2_with (first
              | ((with_reducible refine gate (N := 5) rfl ?_); refine wpList_box_Own rfl (cs := dtA pt0) (t := 82) (by first | (go_simp; done) | (go_simp; rfl)) MR.out ?_; intro n w3 M; (have M3 := hid M); clear M)
              | ((with_reducible refine gateSt (t := 82) (p := 5) rfl ?_); refine wpList_store_all (n := 8) (L1 := []) (mid := (dtA pt0).toList) (vs := (dtA p).toList) rfl rfl (by kernel_rfl) rfl rfl rfl rfl rfl (one_all rfl) M3.out ?_; intro w4 M; (clear k0 k1 k2 k3 k4 k5 k6 k7); (have M4 := hid M); clear M)
              | ((with_reducible refine gate (N := 29) rfl ?_); refine wpList_run rfl (exec_load_agg agg_dt rfl rfl M4.out (g := n) (t := 82) (cs := dtA p) (vs := (dtA p).toList) (.head _) rfl rfl) ?_)
              | (go_at_call 39; (with_reducible refine (hRt.out _).mono ?_); rintro _ w5 ⟨_, rfl, rfl, hb⟩; (have M5 := hid (M4.out.keep hb)); clear hb; obtain ⟨e0, -, -⟩ := dt_cells (m := n) (p := p) M5.out (by simp))
              | (go_at_call 40; (with_reducible refine (hHs.out _).mono ?_); rintro _ w5 ⟨_, rfl, rfl, rfl⟩))
            go_roundw
            case rel => exact ⟨k + 1, by omega, by go_num, hd, hid M5.out.tail⟩
            case measure => simp [intOf] <;> omega
      · obtain rfl : k = np := by omega
        obtain ⟨t, rfl⟩ : ∃ t, k = t + 1 := ⟨k - 1, by omega⟩
        obtain ⟨k0, -⟩ := hPA.out ad rfl wr MR.out.below t (by omega)
        have hHs := hid (fun w1 => refHas_calls w1 (k := 256) (hOH.out.at t).f.1 (hOH.out.at t).f.2 (by decide))
        rw [hall0.out hall.out, Bool.true_and, show codeB g.parts (t + 1) = hasB (pAt g.parts t).f 256 from rfl] at hcR
        have hw1 : IntKind.i64.wrap ((t : Int) + 1 - 1) = t := by rw [IntKind.wrap_i64]; omega
        clear hall hPA hpS
        generalize pAt g.parts t = p at *
        generalize hasB p.f 256 = hb256 at *
        cases hb256
        · by_cases q4 : ng = 0
          · have g1 : ((ng : Int) == 0) = true := by rw [beq_iff_eq]; omega
            go_wp2_with (first
              | (go_at_call 40; (with_reducible refine (hHs.out _).mono ?_); rintro _ wr ⟨_, rfl, rfl, rfl⟩))
            go_ret
            exact .mk ⟨by rw [hcR.out]; simp [*], MR.out.below⟩
          · have g1 : ((ng : Int) == 0) = false := by rw [beq_eq_false_iff_ne]; omega
            go_wp2_with (first
              | (go_at_call 40; (with_reducible refine (hHs.out _).mono ?_); rintro _ wr ⟨_, rfl, rfl, rfl⟩))
            go_ret
            exact .mk ⟨by rw [hcR.out]; simp [*], MR.out.below⟩
        · go_wp2_with (first
            | (go_at_call 40; (with_reducible refine (hHs.out _).mono ?_); rintro _ wr ⟨_, rfl, rfl, rfl⟩))
          go_ret
          exact .mk ⟨by rw [hcR.out]; simp [*], MR.out.below⟩
  · have hz : (decide (1 ≤ np) && (decide (np ≤ 200) && (decide (ng ≤ 65535) && (codeB g.parts np || decide (ng = 0))))) = false := by
      have := hc1.out
      revert this
      cases decide (1 ≤ np) <;> cases decide (np ≤ 200) <;> cases decide (ng ≤ 65535) <;> simp
    go_wp2
    go_ret
    exact .mk ⟨by rw [hcR.out, hz, Bool.and_false]; rfl, M1.out.below⟩
end Go.Proofs.Yteoicpbfjkjogaa
