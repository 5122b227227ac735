/- Layer 13: of any bytes just the document's glyph is told (CompoParses). -/
import Derived.Test.YteoicpbfjkjogaaCompW
import Derived.Test.YteoicpbfjkjogaaCompX
import Derived.Test.YteoicpbfjkjogaaCompR
namespace Go.Proofs.Yteoicpbfjkjogaa
open Go Go.RowKit
set_option linter.unusedVariables false
set_option linter.unusedSimpArgs false
set_option maxRecDepth 100000

abbrev gz : Cg := ⟨0, 0, 0, 0, [], []⟩
set_option maxHeartbeats 4000000 in
theorem compoParses_calls (w : World) {V : Value} {l : List Int} (h1 : BytesAt w V l) (hB : Bytes l) :
    Calls Try.prog 8 #[V] w (Ret fun r w' => r = .bool true ∧ Below w.heap.size w w') := by
  have M0 := hid (Own.start w)
  have hCut := hid (fun w1 (h : Below w.heap.size w w1) => cut_calls w1 200 (by omega) (h1.below h) (by omega))
  obtain ⟨A, c, rfl, -⟩ := h1
  obtain ⟨n, hn⟩ : ∃ n, (l.take 200).length = n := ⟨_, rfl⟩
  have hnb : n ≤ 200 := by rw [← hn, List.length_take]; omega
  have hB4 := hid (hB.take 200)
  rw [hn] at hCut
  generalize l.take 200 = q at *
  replace hn := hid hn
  clear hB
  cases hp : cpS q with
  | none =>
    replace hp := hid hp
    go_enter Try.func8, Try.ntmps8
    go_wp2_with (first
      | (go_at_call 9; refine (awake_calls _).mono ?_; rintro _ w1 ⟨_, rfl, rfl, hb⟩; (have M1 := hid (M0.out.keep hb)); clear hb)
      | (go_at_call 10; refine (hCut.out _ M1.out.below).mono ?_; rintro _ w2 ⟨_, rfl, M⟩; obtain ⟨A2, c2, rfl⟩ := M.form (.head _); (have M2 := hid (M1.out.lift M)); clear M)
      | (go_at_call 23; (have hC := cParse_none (w := w2) (V := .slice A2 n c2) (l := q) (M2.out.bytes (e := 5) (.head _) hn.out) hB4.out (by have := hn.out; omega) hp.out); ((with_reducible refine hC.mono ?_); clear hC); rintro _ w3 ⟨_, rfl, rfl, hb⟩; (have M3 := hid (M2.out.keep hb)); clear hb)
      | ((with_reducible refine gate (N := 3) rfl ?_); refine wpList_box_Own rfl (cs := cNil) (t := 29) (by first | (go_simp; done) | (go_simp; rfl)) M3.out ?_; intro m w4 M; (have M4 := hid M); clear M)
      | ((with_reducible refine gateSt (t := 29) (p := 3) rfl ?_); refine wpList_store_all (n := 6) (L1 := []) (mid := cNil.toList) (vs := cNil.toList) rfl rfl (by kernel_rfl) rfl rfl rfl rfl rfl (one_all rfl) M4.out ?_; intro w5 M; (have M5 := hid M); clear M)
      | (go_at_call 24; (have hC := refParse_none (w := w5) (V := .slice A2 n c2) (l := q) (M5.out.bytes (e := 5) (n := n) (by simp) hn.out) hB4.out (by have := hn.out; omega) hp.out); ((with_reducible refine hC.mono ?_); clear hC); rintro _ w6 ⟨_, rfl, rfl, hb⟩; (have M6 := hid (M5.out.keep hb)); clear hb)
      | ((with_reducible refine gate (N := 6) rfl ?_); refine wpList_box_Own rfl (cs := dNil) (t := 52) (by first | (go_simp; done) | (go_simp; rfl)) M6.out ?_; intro p w7 M; (have M7 := hid M); clear M)
      | ((with_reducible refine gateSt (t := 52) (p := 6) rfl ?_); refine wpList_store_all (n := 6) (L1 := []) (mid := dNil.toList) (vs := dNil.toList) rfl rfl (by kernel_rfl) rfl rfl rfl rfl rfl (one_all rfl) M7.out ?_; intro w8 M; (have M8 := hid M); clear M)
      | ((with_reducible refine gate (N := 34) rfl ?_); refine wpList_run rfl (exec_load_agg agg_cg rfl rfl M8.out (g := m) (t := 29) (cs := cNil) (vs := cNil.toList) (by simp) rfl rfl) ?_)
      | (go_at_call 17; (have hC := same_calls13 (g := gz) w8 (vp := .slice none 0 0) (vg := .slice none 0 0) (vp' := .slice none 0 0) (vg' := .slice none 0 0) ⟨SliceAt.nil _ _ _, SliceAt.nil _ _ _⟩ ⟨SliceAt.nil _ _ _, SliceAt.nil _ _ _⟩); ((with_reducible refine hC.mono ?_); clear hC); rintro _ w9 ⟨_, rfl, rfl, hb⟩; (have M9 := hid (M8.out.keep hb)); clear hb))
    go_ret
    exact .mk ⟨rfl, M9.out.below⟩
  | some gn =>
    obtain ⟨g, k⟩ := gn
    obtain ⟨hgO, hgR, hkn, hgB⟩ := cpS_back hB4.out hp
    rw [hn.out] at hkn
    have hkl := hid (show (q.take k).length = k by rw [List.length_take, hn.out]; omega)
    have hnp : g.parts.length ≤ 200 := (cgR_parts hgR).2.2.1
    replace hgB := hid hgB
    replace hgR := hid hgR
    replace hgO := hid hgO
    replace hp := hid hp
    go_enter Try.func8, Try.ntmps8
    go_upto_region 8 with (first
      | (go_at_call 9; refine (awake_calls _).mono ?_; rintro _ w1 ⟨_, rfl, rfl, hb⟩; (have M1 := hid (M0.out.keep hb)); clear hb)
      | (go_at_call 10; refine (hCut.out _ M1.out.below).mono ?_; rintro _ w2 ⟨_, rfl, M⟩; obtain ⟨A2, c2, rfl⟩ := M.form (.head _); (have M2 := hid (M1.out.lift M)); clear M)
      | (go_at_call 23; (have hC := cParse_some (w := w2) (V := .slice A2 n c2) (l := q) (M2.out.bytes (e := 5) (.head _) hn.out) hB4.out (by have := hn.out; omega) hp.out); ((with_reducible refine hC.mono ?_); clear hC); rintro _ w3 ⟨_, rfl, vp, vg, -, rfl, M⟩; obtain ⟨Ap, cp, rfl⟩ := M.form (.head _); obtain ⟨Ag, cg, rfl⟩ := M.form (.tail _ (.head _)); (have M3 := hid (M2.out.lift M)); clear M)
      | ((with_reducible refine gate (N := 3) rfl ?_); refine wpList_box_Own rfl (cs := cNil) (t := 29) (by first | (go_simp; done) | (go_simp; rfl)) M3.out ?_; intro m w4 M; (have M4 := hid M); clear M)
      | ((with_reducible refine gateSt (t := 29) (p := 3) rfl ?_); refine wpList_store_all (n := 6) (L1 := []) (mid := cNil.toList) (vs := (cA g (.slice Ap g.parts.length cp) (.slice Ag g.prog.length cg)).toList) rfl rfl (by kernel_rfl) rfl rfl rfl rfl rfl (one_all rfl) M4.out ?_; intro w5 M; (have M5 := hid M); clear M)
      | (go_at_call 24; (have hC := refParse_some (w := w5) (V := .slice A2 n c2) (l := q) (M5.out.bytes (e := 5) (n := n) (by simp) hn.out) hB4.out (by have := hn.out; omega) hp.out); ((with_reducible refine hC.mono ?_); clear hC); rintro _ w6 ⟨_, rfl, vp2, vg2, rfl, M⟩; obtain ⟨Bp, dp, rfl⟩ := M.form (.head _); obtain ⟨Bg, dg, rfl⟩ := M.form (.tail _ (.head _)); (have M6 := hid (M5.out.lift M)); clear M)
      | ((with_reducible refine gate (N := 6) rfl ?_); refine wpList_box_Own rfl (cs := dNil) (t := 52) (by first | (go_simp; done) | (go_simp; rfl)) M6.out ?_; intro p w7 M; (have M7 := hid M); clear M)
      | ((with_reducible refine gateSt (t := 52) (p := 6) rfl ?_); refine wpList_store_all (n := 6) (L1 := []) (mid := dNil.toList) (vs := (dA g (.slice Bp g.parts.length dp) (.slice Bg g.prog.length dg)).toList) rfl rfl (by kernel_rfl) rfl rfl rfl rfl rfl (one_all rfl) M7.out ?_; intro w8 M; (have M8 := hid M); clear M))
    clear M1 M2 M3 M4 M5 M6 M7
    have MW := hid M8.out.drew
    clear M8
    have hS := hid (fun w1 (h : Below w8.drew.heap.size w8.drew w1) => And.intro (run_load_agg (P := Try.prog) agg_cg (g := m) (off := 0) (vs := (cA g (.slice Ap g.parts.length cp) (.slice Ag g.prog.length cg)).toList) ((MW.out.keep h).heap (t := 29) (cs := cA g (.slice Ap g.parts.length cp) (.slice Ag g.prog.length cg)) (by simp)) rfl rfl) (run_load_agg (P := Try.prog) agg_dg (g := p) (off := 0) (vs := (dA g (.slice Bp g.parts.length dp) (.slice Bg g.prog.length dg)).toList) ((MW.out.keep h).heap (t := 52) (cs := dA g (.slice Bp g.parts.length dp) (.slice Bg g.prog.length dg)) (by simp)) rfl rfl))
    have hGA := hid (fun w1 (h : Below w8.drew.heap.size w8.drew w1) => show CAt w1 g (.slice Ap g.parts.length cp) (.slice Ag g.prog.length cg) from ⟨(MW.out.keep h).slice (e := 35) (by simp), (MW.out.keep h).slice (e := 5) (by simp)⟩)
    have hDA := hid (fun w1 (h : Below w8.drew.heap.size w8.drew w1) => show DAt w1 g (.slice Bp g.parts.length dp) (.slice Bg g.prog.length dg) from ⟨(MW.out.keep h).slice (e := 82) (by simp), (MW.out.keep h).slice (e := 5) (by simp)⟩)
    have hQA := hid (fun w1 (h : Below w8.drew.heap.size w8.drew w1) => show BytesAt w1 (.slice A2 k c2) (q.take k) from by
      have := SliceAt.preN ((MW.out.keep h).slice (e := 5) (sz := 1) (v := .slice A2 n c2) (n := n) (xs := ints .u8 q) (by simp)) hkn
      unfold BytesAt
      rw [hkl.out]
      rw [Nat.mul_one, show (ints .u8 q).take k = ints .u8 (q.take k) by simp [ints, List.map_take]] at this
      exact this)
    have hend := hid (fun w1 (h : Below w8.drew.heap.size w8.drew w1) => (MW.out.keep h).below)
    obtain ⟨a2c, -⟩ : n ≤ c2 ∧ True := by
      obtain ⟨_, _, he, h2, -⟩ := MW.out.slice (e := 5) (sz := 1) (v := .slice A2 n c2) (n := n) (xs := ints .u8 q) (by simp)
      injection he with _ _ he
      subst he
      exact ⟨h2, trivial⟩
    have hkc : (k : Int) ≤ c2 := by omega
    have hkc2 : k ≤ c2 := by omega
    refine wp_region_held_drew (S := fun w' => (loadVar 29 ⟨m, 0, none⟩).run Try.prog w' = .ok (.agg (cA g (.slice Ap g.parts.length cp) (.slice Ag g.prog.length cg))) w' ∧ (loadVar 52 ⟨p, 0, none⟩).run Try.prog w' = .ok (.agg (dA g (.slice Bp g.parts.length dp) (.slice Bg g.prog.length dg))) w') (by kernel_rfl) (hS.out _ (Below.refl _ _)) (fun hHeld => ?_)
    have hb0 := hid (Below.refl w8.drew.heap.size w8.drew)
    clear MW
    revert hS hGA hDA hQA hend hHeld hb0
    generalize w8.drew = wv
    intro hS hGA hDA hQA hend hHeld hb0
    repeat (first | (refine wpAnyH_take (i := 0) (v := ?_) rfl (by kernel_rfl) (by decide +kernel) (by decide +kernel) (fun _ _ _ h => h) ?_ (by assumption) ?_; rotate_left; (first | (refine yields_load (by rfl) rfl rfl ?_; intro w hSw; (try dsimp only at hSw); go_split_ands; assumption) | (refine Or.inl ⟨by rfl, ?_⟩; intro w hSw; (try dsimp only at hSw); go_simp; done) | (refine Or.inl ⟨by rfl, ?_⟩; intro w hSw; (try dsimp only at hSw); go_simp; with_reducible rfl) | exact Or.inr ⟨by rfl, rfl⟩ | exact Or.inr ⟨by rfl, by rfl⟩); (try simp only [Act.put, List.setIfInBounds_toArray, List.set_cons_zero, List.set_cons_succ, List.getElem_toArray, List.getElem_cons_zero, List.getElem_cons_succ])) | (refine wpAnyH_take (i := 1) (v := ?_) rfl (by kernel_rfl) (by decide +kernel) (by decide +kernel) (fun _ _ _ h => h) ?_ (by assumption) ?_; rotate_left; (first | (refine yields_load (by rfl) rfl rfl ?_; intro w hSw; (try dsimp only at hSw); go_split_ands; assumption) | (refine Or.inl ⟨by rfl, ?_⟩; intro w hSw; (try dsimp only at hSw); go_simp; done) | (refine Or.inl ⟨by rfl, ?_⟩; intro w hSw; (try dsimp only at hSw); go_simp; with_reducible rfl) | exact Or.inr ⟨by rfl, rfl⟩ | exact Or.inr ⟨by rfl, by rfl⟩); (try simp only [Act.put, List.setIfInBounds_toArray, List.set_cons_zero, List.set_cons_succ, List.getElem_toArray, List.getElem_cons_zero, List.getElem_cons_succ])) | (refine wpAnyH_take (i := 2) (v := ?_) rfl (by kernel_rfl) (by decide +kernel) (by decide +kernel) (fun _ _ _ h => h) ?_ (by assumption) ?_; rotate_left; (first | (refine yields_load (by rfl) rfl rfl ?_; intro w hSw; (try dsimp only at hSw); go_split_ands; assumption) | (refine Or.inl ⟨by rfl, ?_⟩; intro w hSw; (try dsimp only at hSw); go_simp; done) | (refine Or.inl ⟨by rfl, ?_⟩; intro w hSw; (try dsimp only at hSw); go_simp; with_reducible rfl) | exact Or.inr ⟨by rfl, rfl⟩ | exact Or.inr ⟨by rfl, by rfl⟩); (try simp only [Act.put, List.setIfInBounds_toArray, List.set_cons_zero, List.set_cons_succ, List.getElem_toArray, List.getElem_cons_zero, List.getElem_cons_succ])) | (refine wpAnyH_take (i := 3) (v := ?_) rfl (by kernel_rfl) (by decide +kernel) (by decide +kernel) (fun _ _ _ h => h) ?_ (by assumption) ?_; rotate_left; (first | (refine yields_load (by rfl) rfl rfl ?_; intro w hSw; (try dsimp only at hSw); go_split_ands; assumption) | (refine Or.inl ⟨by rfl, ?_⟩; intro w hSw; (try dsimp only at hSw); go_simp; done) | (refine Or.inl ⟨by rfl, ?_⟩; intro w hSw; (try dsimp only at hSw); go_simp; with_reducible rfl) | exact Or.inr ⟨by rfl, rfl⟩ | exact Or.inr ⟨by rfl, by rfl⟩); (try simp only [Act.put, List.setIfInBounds_toArray, List.set_cons_zero, List.set_cons_succ, List.getElem_toArray, List.getElem_cons_zero, List.getElem_cons_succ])) | (refine wpAnyH_take (i := 4) (v := ?_) rfl (by kernel_rfl) (by decide +kernel) (by decide +kernel) (fun _ _ _ h => h) ?_ (by assumption) ?_; rotate_left; (first | (refine yields_load (by rfl) rfl rfl ?_; intro w hSw; (try dsimp only at hSw); go_split_ands; assumption) | (refine Or.inl ⟨by rfl, ?_⟩; intro w hSw; (try dsimp only at hSw); go_simp; done) | (refine Or.inl ⟨by rfl, ?_⟩; intro w hSw; (try dsimp only at hSw); go_simp; with_reducible rfl) | exact Or.inr ⟨by rfl, rfl⟩ | exact Or.inr ⟨by rfl, by rfl⟩); (try simp only [Act.put, List.setIfInBounds_toArray, List.set_cons_zero, List.set_cons_succ, List.getElem_toArray, List.getElem_cons_zero, List.getElem_cons_succ])) | (refine wpAnyH_take (i := 5) (v := ?_) rfl (by kernel_rfl) (by decide +kernel) (by decide +kernel) (fun _ _ _ h => h) ?_ (by assumption) ?_; rotate_left; (first | (refine yields_load (by rfl) rfl rfl ?_; intro w hSw; (try dsimp only at hSw); go_split_ands; assumption) | (refine Or.inl ⟨by rfl, ?_⟩; intro w hSw; (try dsimp only at hSw); go_simp; done) | (refine Or.inl ⟨by rfl, ?_⟩; intro w hSw; (try dsimp only at hSw); go_simp; with_reducible rfl) | exact Or.inr ⟨by rfl, rfl⟩ | exact Or.inr ⟨by rfl, by rfl⟩); (try simp only [Act.put, List.setIfInBounds_toArray, List.set_cons_zero, List.set_cons_succ, List.getElem_toArray, List.getElem_cons_zero, List.getElem_cons_succ])) | (refine wpAnyH_take (i := 6) (v := ?_) rfl (by kernel_rfl) (by decide +kernel) (by decide +kernel) (fun _ _ _ h => h) ?_ (by assumption) ?_; rotate_left; (first | (refine yields_load (by rfl) rfl rfl ?_; intro w hSw; (try dsimp only at hSw); go_split_ands; assumption) | (refine Or.inl ⟨by rfl, ?_⟩; intro w hSw; (try dsimp only at hSw); go_simp; done) | (refine Or.inl ⟨by rfl, ?_⟩; intro w hSw; (try dsimp only at hSw); go_simp; with_reducible rfl) | exact Or.inr ⟨by rfl, rfl⟩ | exact Or.inr ⟨by rfl, by rfl⟩); (try simp only [Act.put, List.setIfInBounds_toArray, List.set_cons_zero, List.set_cons_succ, List.getElem_toArray, List.getElem_cons_zero, List.getElem_cons_succ])) | (refine wpAnyH_take (i := 7) (v := ?_) rfl (by kernel_rfl) (by decide +kernel) (by decide +kernel) (fun _ _ _ h => h) ?_ (by assumption) ?_; rotate_left; (first | (refine yields_load (by rfl) rfl rfl ?_; intro w hSw; (try dsimp only at hSw); go_split_ands; assumption) | (refine Or.inl ⟨by rfl, ?_⟩; intro w hSw; (try dsimp only at hSw); go_simp; done) | (refine Or.inl ⟨by rfl, ?_⟩; intro w hSw; (try dsimp only at hSw); go_simp; with_reducible rfl) | exact Or.inr ⟨by rfl, rfl⟩ | exact Or.inr ⟨by rfl, by rfl⟩); (try simp only [Act.put, List.setIfInBounds_toArray, List.set_cons_zero, List.set_cons_succ, List.getElem_toArray, List.getElem_cons_zero, List.getElem_cons_succ])) | (refine wpAnyH_take (i := 8) (v := ?_) rfl (by kernel_rfl) (by decide +kernel) (by decide +kernel) (fun _ _ _ h => h) ?_ (by assumption) ?_; rotate_left; (first | (refine yields_load (by rfl) rfl rfl ?_; intro w hSw; (try dsimp only at hSw); go_split_ands; assumption) | (refine Or.inl ⟨by rfl, ?_⟩; intro w hSw; (try dsimp only at hSw); go_simp; done) | (refine Or.inl ⟨by rfl, ?_⟩; intro w hSw; (try dsimp only at hSw); go_simp; with_reducible rfl) | exact Or.inr ⟨by rfl, rfl⟩ | exact Or.inr ⟨by rfl, by rfl⟩); (try simp only [Act.put, List.setIfInBounds_toArray, List.set_cons_zero, List.set_cons_succ, List.getElem_toArray, List.getElem_cons_zero, List.getElem_cons_succ])) | (refine wpAnyH_take (i := 10) (v := ?_) rfl (by kernel_rfl) (by decide +kernel) (by decide +kernel) (fun _ _ _ h => h) ?_ (by assumption) ?_; rotate_left; (first | (refine yields_load (by rfl) rfl rfl ?_; intro w hSw; (try dsimp only at hSw); go_split_ands; assumption) | (refine Or.inl ⟨by rfl, ?_⟩; intro w hSw; (try dsimp only at hSw); go_simp; done) | (refine Or.inl ⟨by rfl, ?_⟩; intro w hSw; (try dsimp only at hSw); go_simp; with_reducible rfl) | exact Or.inr ⟨by rfl, rfl⟩ | exact Or.inr ⟨by rfl, by rfl⟩); (try simp only [Act.put, List.setIfInBounds_toArray, List.set_cons_zero, List.set_cons_succ, List.getElem_toArray, List.getElem_cons_zero, List.getElem_cons_succ])))
    refine wpAnyH_ready (rs := [9]) (by decide +kernel) (by simp) ?_; refine AllReadyH.cons rfl (fun K hK => ?_) AllReadyH.nil; go_simp
    refine (own_calls wv hgO.out (hGA.out _ hb0.out) (by omega)).mono ?_
    rintro _ w9 ⟨_, rfl, va, rfl, M⟩
    obtain ⟨Xa, xa, rfl⟩ := M.form (.head _)
    have N9 := hid M
    clear M
    go_wp2_with fail
    have hc := hS.out _ N9.out.below
    refine hK.out _ _ hc (fun hHeld => ?_); clear hK K; (try simp only [Act.put, List.setIfInBounds_toArray, List.set_cons_zero, List.set_cons_succ, List.getElem_toArray, List.getElem_cons_zero, List.getElem_cons_succ])
    clear hc
    repeat (first | (refine wpAnyH_take (i := 10) (v := ?_) rfl (by kernel_rfl) (by decide +kernel) (by decide +kernel) (fun _ _ _ h => h) ?_ (by assumption) ?_; rotate_left; (first | (refine yields_load (by rfl) rfl rfl ?_; intro w hSw; (try dsimp only at hSw); go_split_ands; assumption) | (refine Or.inl ⟨by rfl, ?_⟩; intro w hSw; (try dsimp only at hSw); go_simp; done) | (refine Or.inl ⟨by rfl, ?_⟩; intro w hSw; (try dsimp only at hSw); go_simp; with_reducible rfl) | exact Or.inr ⟨by rfl, rfl⟩ | exact Or.inr ⟨by rfl, by rfl⟩); (try simp only [Act.put, List.setIfInBounds_toArray, List.set_cons_zero, List.set_cons_succ, List.getElem_toArray, List.getElem_cons_zero, List.getElem_cons_succ])))
    refine wpAnyH_ready (rs := [11]) (by decide +kernel) (by simp) ?_; refine AllReadyH.cons rfl (fun K hK => ?_) AllReadyH.nil; go_simp
    refine (refSame_calls w9 (g := g) (vp := .slice Xa g.parts.length xa) (vg := .slice Ag g.prog.length cg) ⟨N9.out.slice (e := 82) (.head _), (hGA.out _ N9.out.below).g⟩ (hDA.out _ N9.out.below)).mono ?_
    rintro _ w10 ⟨_, rfl, rfl, hb⟩
    have N10 := hid (N9.out.keep hb)
    clear hb
    go_wp2_with fail
    have hc := hS.out _ N10.out.below
    refine hK.out _ _ hc (fun hHeld => ?_); clear hK K; (try simp only [Act.put, List.setIfInBounds_toArray, List.set_cons_zero, List.set_cons_succ, List.getElem_toArray, List.getElem_cons_zero, List.getElem_cons_succ])
    clear hc
    repeat (first | (refine wpAnyH_take (i := 12) (v := ?_) rfl (by kernel_rfl) (by decide +kernel) (by decide +kernel) (fun _ _ _ h => h) ?_ (by assumption) ?_; rotate_left; (first | (refine yields_load (by rfl) rfl rfl ?_; intro w hSw; (try dsimp only at hSw); go_split_ands; assumption) | (refine Or.inl ⟨by rfl, ?_⟩; intro w hSw; (try dsimp only at hSw); go_simp; done) | (refine Or.inl ⟨by rfl, ?_⟩; intro w hSw; (try dsimp only at hSw); go_simp; with_reducible rfl) | exact Or.inr ⟨by rfl, rfl⟩ | exact Or.inr ⟨by rfl, by rfl⟩); (try simp only [Act.put, List.setIfInBounds_toArray, List.set_cons_zero, List.set_cons_succ, List.getElem_toArray, List.getElem_cons_zero, List.getElem_cons_succ])) | (refine wpAnyH_take (i := 13) (v := ?_) rfl (by kernel_rfl) (by decide +kernel) (by decide +kernel) (fun _ _ _ h => h) ?_ (by assumption) ?_; rotate_left; (first | (refine yields_load (by rfl) rfl rfl ?_; intro w hSw; (try dsimp only at hSw); go_split_ands; assumption) | (refine Or.inl ⟨by rfl, ?_⟩; intro w hSw; (try dsimp only at hSw); go_simp; done) | (refine Or.inl ⟨by rfl, ?_⟩; intro w hSw; (try dsimp only at hSw); go_simp; with_reducible rfl) | exact Or.inr ⟨by rfl, rfl⟩ | exact Or.inr ⟨by rfl, by rfl⟩); (try simp only [Act.put, List.setIfInBounds_toArray, List.set_cons_zero, List.set_cons_succ, List.getElem_toArray, List.getElem_cons_zero, List.getElem_cons_succ])) | (refine wpAnyH_take (i := 14) (v := ?_) rfl (by kernel_rfl) (by decide +kernel) (by decide +kernel) (fun _ _ _ h => h) ?_ (by assumption) ?_; rotate_left; (first | (refine yields_load (by rfl) rfl rfl ?_; intro w hSw; (try dsimp only at hSw); go_split_ands; assumption) | (refine Or.inl ⟨by rfl, ?_⟩; intro w hSw; (try dsimp only at hSw); go_simp; done) | (refine Or.inl ⟨by rfl, ?_⟩; intro w hSw; (try dsimp only at hSw); go_simp; with_reducible rfl) | exact Or.inr ⟨by rfl, rfl⟩ | exact Or.inr ⟨by rfl, by rfl⟩); (try simp only [Act.put, List.setIfInBounds_toArray, List.set_cons_zero, List.set_cons_succ, List.getElem_toArray, List.getElem_cons_zero, List.getElem_cons_succ])) | (refine wpAnyH_take (i := 16) (v := ?_) rfl (by kernel_rfl) (by decide +kernel) (by decide +kernel) (fun _ _ _ h => h) ?_ (by assumption) ?_; rotate_left; (first | (refine yields_load (by rfl) rfl rfl ?_; intro w hSw; (try dsimp only at hSw); go_split_ands; assumption) | (refine Or.inl ⟨by rfl, ?_⟩; intro w hSw; (try dsimp only at hSw); go_simp; done) | (refine Or.inl ⟨by rfl, ?_⟩; intro w hSw; (try dsimp only at hSw); go_simp; with_reducible rfl) | exact Or.inr ⟨by rfl, rfl⟩ | exact Or.inr ⟨by rfl, by rfl⟩); (try simp only [Act.put, List.setIfInBounds_toArray, List.set_cons_zero, List.set_cons_succ, List.getElem_toArray, List.getElem_cons_zero, List.getElem_cons_succ])) | (refine wpAnyH_take (i := 17) (v := ?_) rfl (by kernel_rfl) (by decide +kernel) (by decide +kernel) (fun _ _ _ h => h) ?_ (by assumption) ?_; rotate_left; (first | (refine yields_load (by rfl) rfl rfl ?_; intro w hSw; (try dsimp only at hSw); go_split_ands; assumption) | (refine Or.inl ⟨by rfl, ?_⟩; intro w hSw; (try dsimp only at hSw); go_simp; done) | (refine Or.inl ⟨by rfl, ?_⟩; intro w hSw; (try dsimp only at hSw); go_simp; with_reducible rfl) | exact Or.inr ⟨by rfl, rfl⟩ | exact Or.inr ⟨by rfl, by rfl⟩); (try simp only [Act.put, List.setIfInBounds_toArray, List.set_cons_zero, List.set_cons_succ, List.getElem_toArray, List.getElem_cons_zero, List.getElem_cons_succ])) | (refine wpAnyH_take (i := 18) (v := ?_) rfl (by kernel_rfl) (by decide +kernel) (by decide +kernel) (fun _ _ _ h => h) ?_ (by assumption) ?_; rotate_left; (first | (refine yields_load (by rfl) rfl rfl ?_; intro w hSw; (try dsimp only at hSw); go_split_ands; assumption) | (refine Or.inl ⟨by rfl, ?_⟩; intro w hSw; (try dsimp only at hSw); go_simp; done) | (refine Or.inl ⟨by rfl, ?_⟩; intro w hSw; (try dsimp only at hSw); go_simp; with_reducible rfl) | exact Or.inr ⟨by rfl, rfl⟩ | exact Or.inr ⟨by rfl, by rfl⟩); (try simp only [Act.put, List.setIfInBounds_toArray, List.set_cons_zero, List.set_cons_succ, List.getElem_toArray, List.getElem_cons_zero, List.getElem_cons_succ])))
    refine wpAnyH_ready (rs := [15]) (by decide +kernel) (by simp) ?_; refine AllReadyH.cons rfl (fun K hK => ?_) AllReadyH.nil; go_simp
    refine (cBytes_yes w10 hgO.out (hGA.out _ N10.out.below) hgR.out).mono ?_
    rintro _ w11 ⟨_, rfl, M⟩
    rw [hgB.out, hkl.out] at M
    obtain ⟨A11, c11, rfl⟩ := M.form (.head _)
    have N11 := hid (N10.out.lift M)
    clear M
    go_wp2_with fail
    have hc := hS.out _ N11.out.below
    refine hK.out _ _ hc (fun hHeld => ?_); clear hK K; (try simp only [Act.put, List.setIfInBounds_toArray, List.set_cons_zero, List.set_cons_succ, List.getElem_toArray, List.getElem_cons_zero, List.getElem_cons_succ])
    clear hc
    repeat (first | (refine wpAnyH_take (i := 16) (v := ?_) rfl (by kernel_rfl) (by decide +kernel) (by decide +kernel) (fun _ _ _ h => h) ?_ (by assumption) ?_; rotate_left; (first | (refine yields_load (by rfl) rfl rfl ?_; intro w hSw; (try dsimp only at hSw); go_split_ands; assumption) | (refine Or.inl ⟨by rfl, ?_⟩; intro w hSw; (try dsimp only at hSw); go_simp; done) | (refine Or.inl ⟨by rfl, ?_⟩; intro w hSw; (try dsimp only at hSw); go_simp; with_reducible rfl) | exact Or.inr ⟨by rfl, rfl⟩ | exact Or.inr ⟨by rfl, by rfl⟩); (try simp only [Act.put, List.setIfInBounds_toArray, List.set_cons_zero, List.set_cons_succ, List.getElem_toArray, List.getElem_cons_zero, List.getElem_cons_succ])) | (refine wpAnyH_take (i := 17) (v := ?_) rfl (by kernel_rfl) (by decide +kernel) (by decide +kernel) (fun _ _ _ h => h) ?_ (by assumption) ?_; rotate_left; (first | (refine yields_load (by rfl) rfl rfl ?_; intro w hSw; (try dsimp only at hSw); go_split_ands; assumption) | (refine Or.inl ⟨by rfl, ?_⟩; intro w hSw; (try dsimp only at hSw); go_simp; done) | (refine Or.inl ⟨by rfl, ?_⟩; intro w hSw; (try dsimp only at hSw); go_simp; with_reducible rfl) | exact Or.inr ⟨by rfl, rfl⟩ | exact Or.inr ⟨by rfl, by rfl⟩); (try simp only [Act.put, List.setIfInBounds_toArray, List.set_cons_zero, List.set_cons_succ, List.getElem_toArray, List.getElem_cons_zero, List.getElem_cons_succ])) | (refine wpAnyH_take (i := 18) (v := ?_) rfl (by kernel_rfl) (by decide +kernel) (by decide +kernel) (fun _ _ _ h => h) ?_ (by assumption) ?_; rotate_left; (first | (refine yields_load (by rfl) rfl rfl ?_; intro w hSw; (try dsimp only at hSw); go_split_ands; assumption) | (refine Or.inl ⟨by rfl, ?_⟩; intro w hSw; (try dsimp only at hSw); go_simp; done) | (refine Or.inl ⟨by rfl, ?_⟩; intro w hSw; (try dsimp only at hSw); go_simp; with_reducible rfl) | exact Or.inr ⟨by rfl, rfl⟩ | exact Or.inr ⟨by rfl, by rfl⟩); (try simp only [Act.put, List.setIfInBounds_toArray, List.set_cons_zero, List.set_cons_succ, List.getElem_toArray, List.getElem_cons_zero, List.getElem_cons_succ])))
    refine wpAnyH_ready (rs := [19]) (by decide +kernel) (by simp) ?_; refine AllReadyH.cons rfl (fun K hK => ?_) AllReadyH.nil; go_simp
    refine (same_true w11 (v1 := .slice A11 k c11) (v2 := .slice A2 k c2) (xs := q.take k) (N11.out.bytes (e := 5) (.head _) hkl.out) (hQA.out _ N11.out.below)).mono ?_
    rintro _ w12 ⟨_, rfl, rfl, hb⟩
    have N12 := hid (N11.out.keep hb)
    clear hb
    go_wp2_with fail
    have hc := hS.out _ N12.out.below
    refine hK.out _ _ hc (fun hHeld => ?_); clear hK K; (try simp only [Act.put, List.setIfInBounds_toArray, List.set_cons_zero, List.set_cons_succ, List.getElem_toArray, List.getElem_cons_zero, List.getElem_cons_succ])
    clear hc
    repeat (first | (refine wpAnyH_take (i := 20) (v := ?_) rfl (by kernel_rfl) (by decide +kernel) (by decide +kernel) (fun _ _ _ h => h) ?_ (by assumption) ?_; rotate_left; (first | (refine yields_load (by rfl) rfl rfl ?_; intro w hSw; (try dsimp only at hSw); go_split_ands; assumption) | (refine Or.inl ⟨by rfl, ?_⟩; intro w hSw; (try dsimp only at hSw); go_simp; done) | (refine Or.inl ⟨by rfl, ?_⟩; intro w hSw; (try dsimp only at hSw); go_simp; with_reducible rfl) | exact Or.inr ⟨by rfl, rfl⟩ | exact Or.inr ⟨by rfl, by rfl⟩); (try simp only [Act.put, List.setIfInBounds_toArray, List.set_cons_zero, List.set_cons_succ, List.getElem_toArray, List.getElem_cons_zero, List.getElem_cons_succ])) | (refine wpAnyH_take (i := 21) (v := ?_) rfl (by kernel_rfl) (by decide +kernel) (by decide +kernel) (fun _ _ _ h => h) ?_ (by assumption) ?_; rotate_left; (first | (refine yields_load (by rfl) rfl rfl ?_; intro w hSw; (try dsimp only at hSw); go_split_ands; assumption) | (refine Or.inl ⟨by rfl, ?_⟩; intro w hSw; (try dsimp only at hSw); go_simp; done) | (refine Or.inl ⟨by rfl, ?_⟩; intro w hSw; (try dsimp only at hSw); go_simp; with_reducible rfl) | exact Or.inr ⟨by rfl, rfl⟩ | exact Or.inr ⟨by rfl, by rfl⟩); (try simp only [Act.put, List.setIfInBounds_toArray, List.set_cons_zero, List.set_cons_succ, List.getElem_toArray, List.getElem_cons_zero, List.getElem_cons_succ])))
    refine wpAnyH_done (by kernel_rfl) ?_ _
    go_wp2_with fail
    go_ret
    exact .mk ⟨rfl, hend.out _ N12.out.below⟩
end Go.Proofs.Yteoicpbfjkjogaa
