/- Layer 12: a glyph as the document has it (own). -/
import Derived.Test.YtmmepjcndofnbaaSimpG
namespace Go.Proofs.Ytmmepjcndofnbaa
open Go Go.RowKit
set_option linter.unusedVariables false
set_option linter.unusedSimpArgs false
set_option maxRecDepth 100000

theorem sized_intH : Sized Try.prog 43 3 1 8 := .mk' Try.underlying43 (.int .i64 0) (by kernel_rfl)
theorem sized_rsp : Sized Try.prog 44 66 3 24 := .mk' Try.underlying44 (.agg #[.int .i64 0, .int .i64 0, .bool false]) (by kernel_rfl)
theorem agg_ref : AggOf Try.prog 46 7 := .mk' Try.underlying46 rfl (by kernel_rfl)
theorem i16_lt : 25 < Try.prog.types.size := by decide +kernel
theorem i16_size : (Try.prog.types[25]'i16_lt).size = 1 := by kernel_rfl
/-- The cells of a glyph, as the document has it. -/
abbrev rA (a b c d : Int) (ve vp vs : Value) : Array Value := #[.int .i64 a, .int .i64 b, .int .i64 c, .int .i64 d, ve, vp, vs]
theorem r_cells {W0 w : World} {L : List Ent} {m : Nat} {a b c d : Int} {ve vp vs : Value} (M : Own W0 w L) (h : .blk m 46 (rA a b c d ve vp vs) ∈ L) :
    (w.cell? ⟨m, 0, none⟩ = some (.int .i64 a) ∧ w.cell? ⟨m, 1, none⟩ = some (.int .i64 b) ∧ w.cell? ⟨m, 2, none⟩ = some (.int .i64 c) ∧ w.cell? ⟨m, 3, none⟩ = some (.int .i64 d) ∧ w.cell? ⟨m, 4, none⟩ = some ve ∧ w.cell? ⟨m, 5, none⟩ = some vp ∧ w.cell? ⟨m, 6, none⟩ = some vs) ∧
    w.frozen? ⟨m, 0, none⟩ = false ∧ w.frozen? ⟨m, 1, none⟩ = false ∧ w.frozen? ⟨m, 2, none⟩ = false ∧ w.frozen? ⟨m, 3, none⟩ = false ∧ w.frozen? ⟨m, 4, none⟩ = false ∧ w.frozen? ⟨m, 5, none⟩ = false ∧ w.frozen? ⟨m, 6, none⟩ = false :=
  ⟨⟨M.cell h 0, M.cell h 1, M.cell h 2, M.cell h 3, M.cell h 4, M.cell h 5, M.cell h 6⟩, M.free h 0, M.free h 1, M.free h 2, M.free h 3, M.free h 4, M.free h 5, M.free h 6⟩
/-- A glyph's slices, as the document has it. -/
def OwnP (g : Sg) (vp : Value) (w : World) (r : Value) (w' : World) : Prop :=
  ∃ va vb, r = .agg (rA g.b0 g.b1 g.b2 g.b3 va vp vb) ∧ Own w w' [.row 3 1 va g.ends.length (ints .i64 g.ends), .row 66 3 vb g.pts.length (dpC g.pts)]

set_option maxHeartbeats 4000000 in
theorem own_calls (w : World) {g : Sg} {ve vp vs : Value} (hO : g.Ok) (hG : GAt w g ve vp vs) (bne : g.ends.length ≤ 100000) (bns : g.pts.length ≤ 100000) :
    Calls Try.prog 15 #[.agg (gA g ve vp vs)] w (Ret fun r w' => OwnP g vp w r w') := by
  obtain ⟨he, hp, hs⟩ := hG
  obtain ⟨Ae, ce, rfl, hce, hme, -, hre⟩ := he
  obtain ⟨Ap, cp, rfl, hcp, hmp, -, -⟩ := hp
  obtain ⟨As, cs, rfl, hcs, hms, -, hrs⟩ := hs
  unfold maxLen at hme hmp hms
  have hOH := hid hO
  obtain ⟨ne, hne⟩ : ∃ n, g.ends.length = n := ⟨_, rfl⟩
  obtain ⟨np, hnp⟩ : ∃ n, g.prog.length = n := ⟨_, rfl⟩
  obtain ⟨ns, hns⟩ : ∃ n, g.pts.length = n := ⟨_, rfl⟩
  rw [hne] at hre hce bne
  rw [hnp] at hcp
  rw [hns] at hrs hcs bns
  have hEA := hid (fun ad (e : Ae = some ad) w' hb i hi => int_at (w' := w') (i := i) hne (e ▸ hre) hb hi)
  have hSA := hid (fun ad (e : As = some ad) w' hb i hi => spot_at (w' := w') (i := i) hns (e ▸ hrs) hb hi)
  have heS := hid (fun (h : 0 < ne) => show ∃ ad, Ae = some ad by obtain ⟨ad, e, -⟩ := hre.2 h; exact ⟨ad, e⟩)
  have hsS := hid (fun (h : 0 < ns) => show ∃ ad, As = some ad by obtain ⟨ad, e, -⟩ := hrs.2 h; exact ⟨ad, e⟩)
  have hneH := hid hne
  have hnsH := hid hns
  simp only [gA, hne, hnp, hns]
  have M0 := hid (Own.start w)
  obtain ⟨x0, x1⟩ := hO.x0
  obtain ⟨x2, x3⟩ := hO.x1
  obtain ⟨x4, x5⟩ := hO.x2
  obtain ⟨x6, x7⟩ := hO.x3
  clear hre hrs hne hnp hns hO
  go_enter Try.func15, Try.ntmps15
  go_wp2_with (first
    | ((with_reducible refine gate (N := 1) rfl ?_); refine wpList_box_Own rfl (cs := gA g (.slice Ae ne ce) (.slice Ap np cp) (.slice As ns cs)) (t := 29) (by first | (go_simp; done) | (go_simp; rfl)) M0.out ?_; intro m w1 M; (have M1 := hid M); clear M)
    | ((with_reducible refine gate (N := 2) rfl ?_); refine wpList_box_Own rfl (cs := rA 0 0 0 0 (.slice none 0 0) (.slice none 0 0) (.slice none 0 0)) (t := 46) (by first | (go_simp; done) | (go_simp; rfl)) M1.out ?_; intro p2 w2 M; obtain ⟨⟨d0, d1, d2, d3, c4, c5, c6⟩, -⟩ := g7 (m := m) (g := g) (ve := .slice Ae ne ce) (vp := .slice Ap np cp) (vs := .slice As ns cs) M (by simp); (have M2 := hid M); clear M)
    | ((with_reducible refine gate (N := 3) rfl ?_); refine wpList_box_Own rfl (cs := rA 0 0 0 0 (.slice none 0 0) (.slice none 0 0) (.slice none 0 0)) (t := 46) (by first | (go_simp; done) | (go_simp; rfl)) M2.out ?_; intro p3 w3 M; (clear d0 d1 d2 d3 c4 c5 c6); (have M3 := hid M); clear M)
    | ((with_reducible refine gateSt (t := 46) (p := 3) rfl ?_); refine wpList_store_all (n := 7) (L1 := []) (mid := (rA 0 0 0 0 (.slice none 0 0) (.slice none 0 0) (.slice none 0 0)).toList) (vs := (rA 0 0 0 0 (.slice none 0 0) (.slice Ap np cp) (.slice none 0 0)).toList) rfl rfl (by kernel_rfl) rfl rfl rfl rfl rfl (one_all rfl) M3.out ?_; intro w4 M; obtain ⟨⟨d0, d1, d2, d3, c4, c5, c6⟩, -⟩ := g7 (m := m) (g := g) (ve := .slice Ae ne ce) (vp := .slice Ap np cp) (vs := .slice As ns cs) M (by simp); (have M4 := hid M); clear M))
  clear d0 d1 d2 d3 c4 c5 c6 M3 M2 M1
  have M4 : Hid (Own w w4 [.blk p3 46 (rA 0 0 0 0 (.slice none 0 0) (.slice Ap np cp) (.slice none 0 0)), .blk p2 46 (rA 0 0 0 0 (.slice none 0 0) (.slice none 0 0) (.slice none 0 0)), .blk m 29 (gA g (.slice Ae ne ce) (.slice Ap np cp) (.slice As ns cs))]) := M4
  go_loopw [15] (fun i wr => ∃ (k : Nat) (a b c d : Int), k ≤ 4 ∧ i = .int .i64 k ∧ a = (if 0 < k then g.b0 else 0) ∧ b = (if 1 < k then g.b1 else 0) ∧ c = (if 2 < k then g.b2 else 0) ∧ d = (if 3 < k then g.b3 else 0) ∧ Hid (Own w wr [.blk p3 46 (rA a b c d (.slice none 0 0) (.slice Ap np cp) (.slice none 0 0)), .blk p2 46 (rA 0 0 0 0 (.slice none 0 0) (.slice none 0 0) (.slice none 0 0)), .blk m 29 (gA g (.slice Ae ne ce) (.slice Ap np cp) (.slice As ns cs))])) (fun i _ => 4 - (intOf i).toNat)
  case atStart => exact ⟨0, 0, 0, 0, 0, by omega, rfl, rfl, rfl, rfl, rfl, M4⟩
  case round =>
    clear M4
    obtain ⟨k, a, b, c, d, hk, rfl, ha, hb, hc, hd, MR⟩ := hrel
    rcases (show k = 0 ∨ k = 1 ∨ k = 2 ∨ k = 3 ∨ k = 4 by omega) with rfl | rfl | rfl | rfl | rfl
    · obtain rfl : a = 0 := by simpa using ha
      obtain rfl : b = 0 := by simpa using hb
      obtain rfl : c = 0 := by simpa using hc
      obtain rfl : d = 0 := by simpa using hd
      clear ha hb hc hd hk
      obtain ⟨⟨r0, r1, r2, r3, r4, r5, r6⟩, f0, f1, f2, f3, f4, f5, f6⟩ := r_cells (m := p3) (a := 0) (b := 0) (c := 0) (d := 0) (ve := .slice none 0 0) (vp := .slice Ap np cp) (vs := .slice none 0 0) MR.out (by simp)
      go_wp2_with ((with_reducible refine gate (N := 18) rfl ?_); refine wpList_run (v := .int .i16 g.b0) (w' := wr) rfl (by kernel_rfl) ?_)
      go_roundw
      case rel => exact ⟨1, g.b0, 0, 0, 0, by omega, by go_num, by simp, by simp, by simp, by simp, hid (MR.out.set (L1 := []) 0 (.int .i64 g.b0))⟩
      case measure => simp [intOf]
    · obtain rfl : a = g.b0 := by simpa using ha
      obtain rfl : b = 0 := by simpa using hb
      obtain rfl : c = 0 := by simpa using hc
      obtain rfl : d = 0 := by simpa using hd
      clear ha hb hc hd hk
      obtain ⟨⟨r0, r1, r2, r3, r4, r5, r6⟩, f0, f1, f2, f3, f4, f5, f6⟩ := r_cells (m := p3) (a := g.b0) (b := 0) (c := 0) (d := 0) (ve := .slice none 0 0) (vp := .slice Ap np cp) (vs := .slice none 0 0) MR.out (by simp)
      go_wp2_with ((with_reducible refine gate (N := 18) rfl ?_); refine wpList_run (v := .int .i16 g.b1) (w' := wr) rfl (by kernel_rfl) ?_)
      go_roundw
      case rel => exact ⟨2, g.b0, g.b1, 0, 0, by omega, by go_num, by simp, by simp, by simp, by simp, hid (MR.out.set (L1 := []) 1 (.int .i64 g.b1))⟩
      case measure => simp [intOf]
    · obtain rfl : a = g.b0 := by simpa using ha
      obtain rfl : b = g.b1 := by simpa using hb
      obtain rfl : c = 0 := by simpa using hc
      obtain rfl : d = 0 := by simpa using hd
      clear ha hb hc hd hk
      obtain ⟨⟨r0, r1, r2, r3, r4, r5, r6⟩, f0, f1, f2, f3, f4, f5, f6⟩ := r_cells (m := p3) (a := g.b0) (b := g.b1) (c := 0) (d := 0) (ve := .slice none 0 0) (vp := .slice Ap np cp) (vs := .slice none 0 0) MR.out (by simp)
      go_wp2_with ((with_reducible refine gate (N := 18) rfl ?_); refine wpList_run (v := .int .i16 g.b2) (w' := wr) rfl (by kernel_rfl) ?_)
      go_roundw
      case rel => exact ⟨3, g.b0, g.b1, g.b2, 0, by omega, by go_num, by simp, by simp, by simp, by simp, hid (MR.out.set (L1 := []) 2 (.int .i64 g.b2))⟩
      case measure => simp [intOf]
    · obtain rfl : a = g.b0 := by simpa using ha
      obtain rfl : b = g.b1 := by simpa using hb
      obtain rfl : c = g.b2 := by simpa using hc
      obtain rfl : d = 0 := by simpa using hd
      clear ha hb hc hd hk
      obtain ⟨⟨r0, r1, r2, r3, r4, r5, r6⟩, f0, f1, f2, f3, f4, f5, f6⟩ := r_cells (m := p3) (a := g.b0) (b := g.b1) (c := g.b2) (d := 0) (ve := .slice none 0 0) (vp := .slice Ap np cp) (vs := .slice none 0 0) MR.out (by simp)
      go_wp2_with ((with_reducible refine gate (N := 18) rfl ?_); refine wpList_run (v := .int .i16 g.b3) (w' := wr) rfl (by kernel_rfl) ?_)
      go_roundw
      case rel => exact ⟨4, g.b0, g.b1, g.b2, g.b3, by omega, by go_num, by simp, by simp, by simp, by simp, hid (MR.out.set (L1 := []) 3 (.int .i64 g.b3))⟩
      case measure => simp [intOf]
    · obtain rfl : a = g.b0 := by simpa using ha
      obtain rfl : b = g.b1 := by simpa using hb
      obtain rfl : c = g.b2 := by simpa using hc
      obtain rfl : d = g.b3 := by simpa using hd
      clear ha hb hc hd hk
      obtain ⟨⟨d0, d1, d2, d3, c4, c5, c6⟩, -⟩ := g7 (m := m) (g := g) (ve := .slice Ae ne ce) (vp := .slice Ap np cp) (vs := .slice As ns cs) MR.out (by simp)
      clear d0 d1 d2 d3 c5 c6
      go_wp2_with fail
      clear c4
      go_loopw [28] (fun i wr => ∃ (k : Nat), k ≤ ne ∧ i = .int .i64 k ∧ Hid (∃ (A : Option Addr) (c : Nat), Own w wr [.row 3 1 (.slice A k c) k (ints .i64 (g.ends.take k)), .blk p3 46 (rA g.b0 g.b1 g.b2 g.b3 (.slice A k c) (.slice Ap np cp) (.slice none 0 0)), .blk p2 46 (rA 0 0 0 0 (.slice none 0 0) (.slice none 0 0) (.slice none 0 0)), .blk m 29 (gA g (.slice Ae ne ce) (.slice Ap np cp) (.slice As ns cs))])) (fun i _ => ne - (intOf i).toNat)
      case atStart => exact ⟨0, Nat.zero_le _, rfl, hid ⟨none, 0, MR.out.nil_row 3 1⟩⟩
      case round =>
        clear MR
        obtain ⟨k, hk, rfl, hME⟩ := hrel
        obtain ⟨A, c, ME⟩ := hME.out
        clear hME
        replace ME := hid ME
        by_cases hlt : k < ne
        · obtain ⟨ad, rfl⟩ := heS.out (by omega)
          have hcell := hEA.out ad rfl wr ME.out.below k hlt
          obtain ⟨e0, e1⟩ := hOH.out.end k
          have hsn := hid (show ints .i64 (g.ends.take (k + 1)) = ints .i64 (g.ends.take k) ++ [.int .i64 (g.ends.getD k 0)] by
            rw [List.take_succ_eq_append_getElem (by rw [hneH.out]; exact hlt), ints_append]
            simp [ints, List.getD, hneH.out, hlt])
          generalize g.ends.getD k 0 = e at *
          obtain ⟨⟨-, -, -, -, r4, -, -⟩, -, -, -, -, f4, -, -⟩ := r_cells (m := p3) (a := g.b0) (b := g.b1) (c := g.b2) (d := g.b3) (ve := (.slice A k c)) (vp := .slice Ap np cp) (vs := .slice none 0 0) ME.out (by simp)
          go_wp2_with (at_builtin; refine wpList_append_Own rfl (.tmp 33) (.tmp 36) _ rfl sized_intH rfl rfl (L1 := [.blk wr.heap.size 3 #[.int .i64 e]]) (L2 := [.blk p3 46 (rA g.b0 g.b1 g.b2 g.b3 (.slice A k c) (.slice Ap np cp) (.slice none 0 0)), .blk p2 46 (rA 0 0 0 0 (.slice none 0 0) (.slice none 0 0) (.slice none 0 0)), .blk m 29 (gA g (.slice (some ad) ne ce) (.slice Ap np cp) (.slice As ns cs))]) (ME.out.alloc _ _) (SliceAt.built (ME.out.alloc _ _) (.head _) 1 1 rfl (by unfold maxLen; omega)) (one_all rfl) (by unfold maxLen; omega) (by omega) ?_; intro v' w' M'; obtain ⟨A7, c7, rfl⟩ := M'.tail.form (.head _); obtain ⟨⟨-, -, -, -, r4, -, -⟩, -, -, -, -, f4, -, -⟩ := r_cells (m := p3) (a := g.b0) (b := g.b1) (c := g.b2) (d := g.b3) (ve := (.slice A k c)) (vp := .slice Ap np cp) (vs := .slice none 0 0) M' (by simp); (have M7 := hid M'.tail); clear M')
          go_roundw
          case rel => exact ⟨k + 1, by omega, by go_num, hid ⟨A7, c7, by rw [hsn.out]; exact M7.out.set (L1 := [_]) 4 (.slice A7 (k + 1) c7)⟩⟩
          case measure => simp [intOf] <;> omega
        · obtain rfl : k = ne := by omega
          obtain ⟨⟨-, -, -, -, -, -, c6⟩, -⟩ := g7 (m := m) (g := g) (ve := .slice Ae k ce) (vp := .slice Ap np cp) (vs := .slice As ns cs) ME.out (by simp)
          go_wp2_with fail
          clear c6
          go_loopw [43] (fun i wr => ∃ (t : Nat), t ≤ ns ∧ i = .int .i64 t ∧ Hid (∃ (B : Option Addr) (d : Nat), Own w wr [.row 66 3 (.slice B t d) t (dpC (g.pts.take t)), .blk p3 46 (rA g.b0 g.b1 g.b2 g.b3 (.slice A k c) (.slice Ap np cp) (.slice B t d)), .row 3 1 (.slice A k c) k (ints .i64 (g.ends.take k)), .blk p2 46 (rA 0 0 0 0 (.slice none 0 0) (.slice none 0 0) (.slice none 0 0)), .blk m 29 (gA g (.slice Ae k ce) (.slice Ap np cp) (.slice As ns cs))])) (fun i _ => ns - (intOf i).toNat)
          case atStart => exact ⟨0, Nat.zero_le _, rfl, hid ⟨none, 0, ME.out.swap.nil_row 66 3⟩⟩
          case round =>
            clear ME
            obtain ⟨t, ht, rfl, hMP⟩ := hrel
            obtain ⟨B, d, MP⟩ := hMP.out
            clear hMP
            replace MP := hid MP
            by_cases htl : t < ns
            · obtain ⟨ad, rfl⟩ := hsS.out (by omega)
              obtain ⟨k1, k2, k3⟩ := hSA.out ad rfl wr MP.out.below t htl
              obtain ⟨⟨x0, x1⟩, ⟨y0, y1⟩⟩ := hOH.out.at t
              have hsn := hid (show g.pts.take (t + 1) = g.pts.take t ++ [(pX g.pts t, pY g.pts t, pO g.pts t)] by
                rw [List.take_succ_eq_append_getElem (by rw [hnsH.out]; exact htl), pt_eta])
              generalize pX g.pts t = x at *
              generalize pY g.pts t = y at *
              generalize pO g.pts t = on at *
              go_wp2_with (first
                | ((with_reducible refine gate (N := 9) rfl ?_); refine wpList_box_Own rfl (cs := #[.int .i16 0, .int .i16 0, .bool false]) (t := 37) (by first | (go_simp; done) | (go_simp; rfl)) MP.out ?_; intro p w6 M; (clear k1 k2 k3); (have M6 := hid M); clear M)
                | ((with_reducible refine gateSt (t := 37) (p := 9) rfl ?_); refine wpList_store_all (n := 3) (L1 := []) (mid := [.int .i16 0, .int .i16 0, .bool false]) (vs := [.int .i16 x, .int .i16 y, .bool on]) rfl rfl (by kernel_rfl) rfl rfl rfl rfl rfl (one_all rfl) M6.out ?_; intro w7 M; obtain ⟨p0', p1, p2'⟩ := sp_cells (p := p) (x := x) (y := y) (on := on) M (by simp); obtain ⟨⟨-, -, -, -, -, -, r6⟩, -, -, -, -, -, -, f6⟩ := r_cells (m := p3) (a := g.b0) (b := g.b1) (c := g.b2) (d := g.b3) (ve := (.slice A k c)) (vp := .slice Ap np cp) (vs := (.slice B t d)) M (by simp); (have M7 := hid M); clear M)
                | (at_builtin; refine wpList_append_Own rfl (.tmp 48) (.tmp 58) _ rfl sized_rsp rfl rfl (L1 := [.blk w7.heap.size 66 #[.int .i64 x, .int .i64 y, .bool on], .blk p 37 #[.int .i16 x, .int .i16 y, .bool on]]) (L2 := [.blk p3 46 (rA g.b0 g.b1 g.b2 g.b3 (.slice A k c) (.slice Ap np cp) (.slice B t d)), .row 3 1 (.slice A k c) k (ints .i64 (g.ends.take k)), .blk p2 46 (rA 0 0 0 0 (.slice none 0 0) (.slice none 0 0) (.slice none 0 0)), .blk m 29 (gA g (.slice Ae k ce) (.slice Ap np cp) (.slice (some ad) ns cs))]) (M7.out.alloc _ _) (SliceAt.built (M7.out.alloc _ _) (.head _) 3 1 rfl (by unfold maxLen; omega)) (one_all rfl) (by unfold maxLen; omega) (by omega) ?_; intro v' w' M'; obtain ⟨A9, c9, rfl⟩ := M'.tail.tail.form (.head _); obtain ⟨⟨-, -, -, -, -, -, r6⟩, -, -, -, -, -, -, f6⟩ := r_cells (m := p3) (a := g.b0) (b := g.b1) (c := g.b2) (d := g.b3) (ve := (.slice A k c)) (vp := .slice Ap np cp) (vs := (.slice B t d)) M' (by simp); (have M9 := hid M'.tail.tail); clear M'))
              go_roundw
              case rel => exact ⟨t + 1, by omega, by go_num, hid ⟨A9, c9, by rw [hsn.out, dpC_append]; exact M9.out.set (L1 := [_]) 6 (.slice A9 (t + 1) c9)⟩⟩
              case measure => simp [intOf] <;> omega
            · obtain rfl : t = ns := by omega
              have MQ : Hid (Own w wr [.row 66 3 (.slice B t d) t (dpC (g.pts.take t)), .row 3 1 (.slice A k c) k (ints .i64 (g.ends.take k)), .blk p3 46 (rA g.b0 g.b1 g.b2 g.b3 (.slice A k c) (.slice Ap np cp) (.slice B t d)), .blk p2 46 (rA 0 0 0 0 (.slice none 0 0) (.slice none 0 0) (.slice none 0 0))]) := hid ((MP.out.sub (L' := [_, _, _, _]) (by simp)).perm (List.Perm.cons _ (List.Perm.swap _ _ _)))
              go_wp2_with (first
                | ((with_reducible refine gate (N := 62) rfl ?_); refine wpList_run rfl (exec_load_agg agg_ref rfl rfl MQ.out (g := p3) (t := 46) (cs := rA g.b0 g.b1 g.b2 g.b3 (.slice A k c) (.slice Ap np cp) (.slice B t d)) (vs := (rA g.b0 g.b1 g.b2 g.b3 (.slice A k c) (.slice Ap np cp) (.slice B t d)).toList) (by simp) rfl rfl) ?_)
                | ((with_reducible refine gateSt (t := 46) (p := 2) rfl ?_); refine wpList_store_all (n := 7) (L1 := [.row 66 3 (.slice B t d) t (dpC (g.pts.take t)), .row 3 1 (.slice A k c) k (ints .i64 (g.ends.take k)), .blk p3 46 (rA g.b0 g.b1 g.b2 g.b3 (.slice A k c) (.slice Ap np cp) (.slice B t d))]) (mid := (rA 0 0 0 0 (.slice none 0 0) (.slice none 0 0) (.slice none 0 0)).toList) (vs := (rA g.b0 g.b1 g.b2 g.b3 (.slice A k c) (.slice Ap np cp) (.slice B t d)).toList) rfl rfl (by kernel_rfl) rfl rfl rfl rfl rfl (one_all rfl) MQ.out ?_; intro w9 M; (have M9 := hid M); clear M))
              refine bodyPost_ret (v := .agg (rA g.b0 g.b1 g.b2 g.b3 (.slice A k c) (.slice Ap np cp) (.slice B t d))) (results_agg (p := 2) rfl agg_ref _ (by rfl) (M9.out.heap (g := p2) (t := 46) (by simp)) rfl) rfl (.mk ?_)
              refine ⟨.slice A k c, .slice B t d, rfl, ?_⟩
              rw [hneH.out, hnsH.out]
              have h1 : g.ends.take k = g.ends := List.take_of_length_le (by rw [hneH.out]; omega)
              have h2 : g.pts.take t = g.pts := List.take_of_length_le (by rw [hnsH.out]; omega)
              have h9 := (M9.out.sub (L' := [.row 66 3 (.slice B t d) t (dpC (g.pts.take t)), .row 3 1 (.slice A k c) k (ints .i64 (g.ends.take k))]) (by simp)).swap
              rwa [h1, h2] at h9
end Go.Proofs.Ytmmepjcndofnbaa
