/- Layer 12: of any bytes just the document's outline is told (SimpleParses). -/
import Derived.Test.YtmmepjcndofnbaaSimpXb
namespace Go.Proofs.Ytmmepjcndofnbaa
open Go Go.RowKit
set_option linter.unusedVariables false
set_option linter.unusedSimpArgs false
set_option maxRecDepth 100000

/-- What is parsed is no longer than the bytes. -/
theorem parseS_len {l : List Int} (hB : Bytes l) {g : Sg} {n : Nat} (h : parseS l = some (g, n)) : g.ends.length ≤ l.length ∧ g.pts.length ≤ 65536 := by
  unfold parseS at h
  split at h
  · rename_i hc
    obtain ⟨q, h1, e⟩ := Option.map_eq_some_iff.1 h
    injection e with e1 e2
    subst e1
    unfold headB at hc
    simp only [Bool.and_eq_true, decide_eq_true_eq] at hc
    obtain ⟨c1, c2, c3, c4⟩ := hc
    obtain ⟨-, b2, -⟩ := bodyS_more l [] c4 q h1
    refine ⟨?_, ?_⟩
    · show (pE l).length ≤ _
      unfold pE
      rw [u16s_length]; omega
    · show (ptsOf q.1.1 q.1.2.1 q.1.2.2).length ≤ _
      rw [pts_length, b2]
      unfold pQ
      cases hN : pN l with
      | zero => show (0 : Int).toNat ≤ _; omega
      | succ k =>
        have hb := n2_bound hB (10 + 2 * k)
        show ((pE l).getD k 0 + 1).toNat ≤ _
        unfold pE
        rw [u16s_get _ _ _ _ (by omega)]; omega
  · cases h
set_option maxHeartbeats 4000000 in
theorem simpleParses_calls (w : World) {V : Value} {l : List Int} (h1 : BytesAt w V l) (hB : Bytes l) :
    Calls Try.prog 6 #[V] w (Ret fun r w' => r = .bool true ∧ Below w.heap.size w w') := by
  have M0 := hid (Own.start w)
  have hCut := hid (fun w1 (h : Below w.heap.size w w1) => cut_calls w1 400 (by omega) (h1.below h) (by omega))
  obtain ⟨A, c, rfl, -⟩ := h1
  obtain ⟨n, hn⟩ : ∃ n, (l.take 400).length = n := ⟨_, rfl⟩
  have hnb : n ≤ 400 := by rw [← hn, List.length_take]; omega
  have hB4 := hid (hB.take 400)
  rw [hn] at hCut
  generalize l.take 400 = q at *
  replace hn := hid hn
  clear hB
  cases hp : parseS q with
  | none =>
    replace hp := hid hp
    go_enter Try.func6, Try.ntmps6
    go_wp2_with (first
      | (go_at_call 9; refine (awake_calls _).mono ?_; rintro _ w1 ⟨_, rfl, rfl, hb⟩; (have M1 := hid (M0.out.keep hb)); clear hb)
      | (go_at_call 13; refine (hCut.out _ M1.out.below).mono ?_; rintro _ w2 ⟨_, rfl, M⟩; obtain ⟨A2, c2, rfl⟩ := M.form (.head _); (have M2 := hid (M1.out.lift M)); clear M)
      | (go_at_call 20; (have hC := parse_none (w := w2) (V := .slice A2 n c2) (l := q) (M2.out.bytes (e := 5) (.head _) hn.out) hB4.out (by have := hn.out; omega) hp.out); ((with_reducible refine hC.mono ?_); clear hC); rintro _ w3 ⟨_, rfl, rfl, hb⟩; (have M3 := hid (M2.out.keep hb)); clear hb)
      | ((with_reducible refine gate (N := 3) rfl ?_); refine wpList_box_Own rfl (cs := gNil) (t := 29) (by first | (go_simp; done) | (go_simp; rfl)) M3.out ?_; intro m w4 M; (have M4 := hid M); clear M)
      | ((with_reducible refine gateSt (t := 29) (p := 3) rfl ?_); refine wpList_store_all (n := 7) (L1 := []) (mid := gNil.toList) (vs := gNil.toList) rfl rfl (by kernel_rfl) rfl rfl rfl rfl rfl (one_all rfl) M4.out ?_; intro w5 M; (have M5 := hid M); clear M)
      | (go_at_call 21; (have hC := refParse_none (w := w5) (V := .slice A2 n c2) (l := q) (M5.out.bytes (e := 5) (n := n) (by simp) hn.out) hB4.out (by have := hn.out; omega) hp.out); ((with_reducible refine hC.mono ?_); clear hC); rintro _ w6 ⟨_, rfl, rfl, hb⟩; (have M6 := hid (M5.out.keep hb)); clear hb)
      | ((with_reducible refine gate (N := 6) rfl ?_); refine wpList_box_Own rfl (cs := rNil) (t := 46) (by first | (go_simp; done) | (go_simp; rfl)) M6.out ?_; intro p w7 M; (have M7 := hid M); clear M)
      | ((with_reducible refine gateSt (t := 46) (p := 6) rfl ?_); refine wpList_store_all (n := 7) (L1 := []) (mid := rNil.toList) (vs := rNil.toList) rfl rfl (by kernel_rfl) rfl rfl rfl rfl rfl (one_all rfl) M7.out ?_; intro w8 M; (have M8 := hid M); clear M)
      | ((with_reducible refine gate (N := 34) rfl ?_); refine wpList_run rfl (exec_load_agg agg_glyph rfl rfl M8.out (g := m) (t := 29) (cs := gNil) (vs := gNil.toList) (by simp) rfl rfl) ?_)
      | (go_at_call 17; (have hC := same_calls12 (g := ⟨0, 0, 0, 0, [], [], []⟩) w8 (ve := .slice none 0 0) (vp := .slice none 0 0) (vs := .slice none 0 0) (ve' := .slice none 0 0) (vp' := .slice none 0 0) (vs' := .slice none 0 0) ⟨SliceAt.nil _ _ _, SliceAt.nil _ _ _, SliceAt.nil _ _ _⟩ ⟨SliceAt.nil _ _ _, SliceAt.nil _ _ _, SliceAt.nil _ _ _⟩); ((with_reducible refine hC.mono ?_); clear hC); rintro _ w9 ⟨_, rfl, rfl, hb⟩; (have M9 := hid (M8.out.keep hb)); clear hb))
    go_ret
    exact .mk ⟨rfl, M9.out.below⟩
  | some gn =>
    obtain ⟨g, k⟩ := gn
    have hlen := parseS_len hB4.out hp
    have hnl := hn.out
    replace hp := hid hp
    go_enter Try.func6, Try.ntmps6
    go_upto_region 8 with (first
      | (go_at_call 9; refine (awake_calls _).mono ?_; rintro _ w1 ⟨_, rfl, rfl, hb⟩; (have M1 := hid (M0.out.keep hb)); clear hb)
      | (go_at_call 13; refine (hCut.out _ M1.out.below).mono ?_; rintro _ w2 ⟨_, rfl, M⟩; obtain ⟨A2, c2, rfl⟩ := M.form (.head _); (have M2 := hid (M1.out.lift M)); clear M)
      | (go_at_call 20; (have hC := parse_some (w := w2) (V := .slice A2 n c2) (l := q) (M2.out.bytes (e := 5) (.head _) hn.out) hB4.out (by have := hn.out; omega) hp.out); ((with_reducible refine hC.mono ?_); clear hC); rintro _ w3 ⟨_, rfl, ve, vp, vs, hOk, rfl, M⟩; obtain ⟨Ae, ce, rfl⟩ := M.form (.head _); obtain ⟨Ap, cp, rfl⟩ := M.form (.tail _ (.head _)); obtain ⟨As, cs, rfl⟩ := M.form (.tail _ (.tail _ (.head _))); (replace hOk := hid hOk); (have M3 := hid (M2.out.lift M)); clear M)
      | ((with_reducible refine gate (N := 3) rfl ?_); refine wpList_box_Own rfl (cs := gNil) (t := 29) (by first | (go_simp; done) | (go_simp; rfl)) M3.out ?_; intro m w4 M; (have M4 := hid M); clear M)
      | ((with_reducible refine gateSt (t := 29) (p := 3) rfl ?_); refine wpList_store_all (n := 7) (L1 := []) (mid := gNil.toList) (vs := (gA g (.slice Ae g.ends.length ce) (.slice Ap g.prog.length cp) (.slice As g.pts.length cs)).toList) rfl rfl (by kernel_rfl) rfl rfl rfl rfl rfl (one_all rfl) M4.out ?_; intro w5 M; (have M5 := hid M); clear M)
      | (go_at_call 21; (have hC := refParse_some (w := w5) (V := .slice A2 n c2) (l := q) (M5.out.bytes (e := 5) (n := n) (by simp) hn.out) hB4.out (by have := hn.out; omega) hp.out); ((with_reducible refine hC.mono ?_); clear hC); rintro _ w6 ⟨_, rfl, ve2, vp2, vs2, rfl, M⟩; obtain ⟨Be, de, rfl⟩ := M.form (.head _); obtain ⟨Bp, dp, rfl⟩ := M.form (.tail _ (.head _)); obtain ⟨Bs, ds, rfl⟩ := M.form (.tail _ (.tail _ (.head _))); (have M6 := hid (M5.out.lift M)); clear M)
      | ((with_reducible refine gate (N := 6) rfl ?_); refine wpList_box_Own rfl (cs := rNil) (t := 46) (by first | (go_simp; done) | (go_simp; rfl)) M6.out ?_; intro p w7 M; (have M7 := hid M); clear M)
      | ((with_reducible refine gateSt (t := 46) (p := 6) rfl ?_); refine wpList_store_all (n := 7) (L1 := []) (mid := rNil.toList) (vs := (rA g.b0 g.b1 g.b2 g.b3 (.slice Be g.ends.length de) (.slice Bp g.prog.length dp) (.slice Bs g.pts.length ds)).toList) rfl rfl (by kernel_rfl) rfl rfl rfl rfl rfl (one_all rfl) M7.out ?_; intro w8 M; (have M8 := hid M); clear M))
    clear M1 M2 M3 M4 M5 M6 M7
    have MW := hid M8.out.drew
    clear M8
    refine wp_region_held_drew (S := fun w' => (loadVar 29 ⟨m, 0, none⟩).run Try.prog w' = .ok (.agg (gA g (.slice Ae g.ends.length ce) (.slice Ap g.prog.length cp) (.slice As g.pts.length cs))) w' ∧ (loadVar 46 ⟨p, 0, none⟩).run Try.prog w' = .ok (.agg (rA g.b0 g.b1 g.b2 g.b3 (.slice Be g.ends.length de) (.slice Bp g.prog.length dp) (.slice Bs g.pts.length ds))) w') (by kernel_rfl) ⟨run_load_agg (P := Try.prog) agg_glyph (g := m) (off := 0) (vs := (gA g (.slice Ae g.ends.length ce) (.slice Ap g.prog.length cp) (.slice As g.pts.length cs)).toList) (MW.out.heap (t := 29) (cs := gA g (.slice Ae g.ends.length ce) (.slice Ap g.prog.length cp) (.slice As g.pts.length cs)) (by simp)) rfl rfl, run_load_agg (P := Try.prog) agg_ref (g := p) (off := 0) (vs := (rA g.b0 g.b1 g.b2 g.b3 (.slice Be g.ends.length de) (.slice Bp g.prog.length dp) (.slice Bs g.pts.length ds)).toList) (MW.out.heap (t := 46) (cs := rA g.b0 g.b1 g.b2 g.b3 (.slice Be g.ends.length de) (.slice Bp g.prog.length dp) (.slice Bs g.pts.length ds)) (by simp)) rfl rfl⟩ (fun hHeld => ?_)
    revert MW hHeld
    generalize w8.drew = wv
    intro MW hHeld
    have hGA := hid (show GAt wv g (.slice Ae g.ends.length ce) (.slice Ap g.prog.length cp) (.slice As g.pts.length cs) from ⟨MW.out.slice (e := 38) (by simp), MW.out.slice (e := 5) (by simp), MW.out.slice (e := 37) (by simp)⟩)
    repeat (first | (refine wpAnyH_take (i := 0) (v := ?_) rfl (by kernel_rfl) (by decide +kernel) (by decide +kernel) (fun _ _ _ h => h) ?_ (by assumption) ?_; rotate_left; (first | (refine yields_load (by rfl) rfl rfl ?_; intro w hSw; (try dsimp only at hSw); go_split_ands; assumption) | (refine Or.inl ⟨by rfl, ?_⟩; intro w hSw; (try dsimp only at hSw); go_simp; done) | (refine Or.inl ⟨by rfl, ?_⟩; intro w hSw; (try dsimp only at hSw); go_simp; with_reducible rfl) | exact Or.inr ⟨by rfl, rfl⟩); (try simp only [Act.put, List.setIfInBounds_toArray, List.set_cons_zero, List.set_cons_succ, List.getElem_toArray, List.getElem_cons_zero, List.getElem_cons_succ])) | (refine wpAnyH_take (i := 1) (v := ?_) rfl (by kernel_rfl) (by decide +kernel) (by decide +kernel) (fun _ _ _ h => h) ?_ (by assumption) ?_; rotate_left; (first | (refine yields_load (by rfl) rfl rfl ?_; intro w hSw; (try dsimp only at hSw); go_split_ands; assumption) | (refine Or.inl ⟨by rfl, ?_⟩; intro w hSw; (try dsimp only at hSw); go_simp; done) | (refine Or.inl ⟨by rfl, ?_⟩; intro w hSw; (try dsimp only at hSw); go_simp; with_reducible rfl) | exact Or.inr ⟨by rfl, rfl⟩); (try simp only [Act.put, List.setIfInBounds_toArray, List.set_cons_zero, List.set_cons_succ, List.getElem_toArray, List.getElem_cons_zero, List.getElem_cons_succ])) | (refine wpAnyH_take (i := 2) (v := ?_) rfl (by kernel_rfl) (by decide +kernel) (by decide +kernel) (fun _ _ _ h => h) ?_ (by assumption) ?_; rotate_left; (first | (refine yields_load (by rfl) rfl rfl ?_; intro w hSw; (try dsimp only at hSw); go_split_ands; assumption) | (refine Or.inl ⟨by rfl, ?_⟩; intro w hSw; (try dsimp only at hSw); go_simp; done) | (refine Or.inl ⟨by rfl, ?_⟩; intro w hSw; (try dsimp only at hSw); go_simp; with_reducible rfl) | exact Or.inr ⟨by rfl, rfl⟩); (try simp only [Act.put, List.setIfInBounds_toArray, List.set_cons_zero, List.set_cons_succ, List.getElem_toArray, List.getElem_cons_zero, List.getElem_cons_succ])) | (refine wpAnyH_take (i := 3) (v := ?_) rfl (by kernel_rfl) (by decide +kernel) (by decide +kernel) (fun _ _ _ h => h) ?_ (by assumption) ?_; rotate_left; (first | (refine yields_load (by rfl) rfl rfl ?_; intro w hSw; (try dsimp only at hSw); go_split_ands; assumption) | (refine Or.inl ⟨by rfl, ?_⟩; intro w hSw; (try dsimp only at hSw); go_simp; done) | (refine Or.inl ⟨by rfl, ?_⟩; intro w hSw; (try dsimp only at hSw); go_simp; with_reducible rfl) | exact Or.inr ⟨by rfl, rfl⟩); (try simp only [Act.put, List.setIfInBounds_toArray, List.set_cons_zero, List.set_cons_succ, List.getElem_toArray, List.getElem_cons_zero, List.getElem_cons_succ])) | (refine wpAnyH_take (i := 4) (v := ?_) rfl (by kernel_rfl) (by decide +kernel) (by decide +kernel) (fun _ _ _ h => h) ?_ (by assumption) ?_; rotate_left; (first | (refine yields_load (by rfl) rfl rfl ?_; intro w hSw; (try dsimp only at hSw); go_split_ands; assumption) | (refine Or.inl ⟨by rfl, ?_⟩; intro w hSw; (try dsimp only at hSw); go_simp; done) | (refine Or.inl ⟨by rfl, ?_⟩; intro w hSw; (try dsimp only at hSw); go_simp; with_reducible rfl) | exact Or.inr ⟨by rfl, rfl⟩); (try simp only [Act.put, List.setIfInBounds_toArray, List.set_cons_zero, List.set_cons_succ, List.getElem_toArray, List.getElem_cons_zero, List.getElem_cons_succ])) | (refine wpAnyH_take (i := 5) (v := ?_) rfl (by kernel_rfl) (by decide +kernel) (by decide +kernel) (fun _ _ _ h => h) ?_ (by assumption) ?_; rotate_left; (first | (refine yields_load (by rfl) rfl rfl ?_; intro w hSw; (try dsimp only at hSw); go_split_ands; assumption) | (refine Or.inl ⟨by rfl, ?_⟩; intro w hSw; (try dsimp only at hSw); go_simp; done) | (refine Or.inl ⟨by rfl, ?_⟩; intro w hSw; (try dsimp only at hSw); go_simp; with_reducible rfl) | exact Or.inr ⟨by rfl, rfl⟩); (try simp only [Act.put, List.setIfInBounds_toArray, List.set_cons_zero, List.set_cons_succ, List.getElem_toArray, List.getElem_cons_zero, List.getElem_cons_succ])) | (refine wpAnyH_take (i := 6) (v := ?_) rfl (by kernel_rfl) (by decide +kernel) (by decide +kernel) (fun _ _ _ h => h) ?_ (by assumption) ?_; rotate_left; (first | (refine yields_load (by rfl) rfl rfl ?_; intro w hSw; (try dsimp only at hSw); go_split_ands; assumption) | (refine Or.inl ⟨by rfl, ?_⟩; intro w hSw; (try dsimp only at hSw); go_simp; done) | (refine Or.inl ⟨by rfl, ?_⟩; intro w hSw; (try dsimp only at hSw); go_simp; with_reducible rfl) | exact Or.inr ⟨by rfl, rfl⟩); (try simp only [Act.put, List.setIfInBounds_toArray, List.set_cons_zero, List.set_cons_succ, List.getElem_toArray, List.getElem_cons_zero, List.getElem_cons_succ])) | (refine wpAnyH_take (i := 7) (v := ?_) rfl (by kernel_rfl) (by decide +kernel) (by decide +kernel) (fun _ _ _ h => h) ?_ (by assumption) ?_; rotate_left; (first | (refine yields_load (by rfl) rfl rfl ?_; intro w hSw; (try dsimp only at hSw); go_split_ands; assumption) | (refine Or.inl ⟨by rfl, ?_⟩; intro w hSw; (try dsimp only at hSw); go_simp; done) | (refine Or.inl ⟨by rfl, ?_⟩; intro w hSw; (try dsimp only at hSw); go_simp; with_reducible rfl) | exact Or.inr ⟨by rfl, rfl⟩); (try simp only [Act.put, List.setIfInBounds_toArray, List.set_cons_zero, List.set_cons_succ, List.getElem_toArray, List.getElem_cons_zero, List.getElem_cons_succ])) | (refine wpAnyH_take (i := 8) (v := ?_) rfl (by kernel_rfl) (by decide +kernel) (by decide +kernel) (fun _ _ _ h => h) ?_ (by assumption) ?_; rotate_left; (first | (refine yields_load (by rfl) rfl rfl ?_; intro w hSw; (try dsimp only at hSw); go_split_ands; assumption) | (refine Or.inl ⟨by rfl, ?_⟩; intro w hSw; (try dsimp only at hSw); go_simp; done) | (refine Or.inl ⟨by rfl, ?_⟩; intro w hSw; (try dsimp only at hSw); go_simp; with_reducible rfl) | exact Or.inr ⟨by rfl, rfl⟩); (try simp only [Act.put, List.setIfInBounds_toArray, List.set_cons_zero, List.set_cons_succ, List.getElem_toArray, List.getElem_cons_zero, List.getElem_cons_succ])) | (refine wpAnyH_take (i := 9) (v := ?_) rfl (by kernel_rfl) (by decide +kernel) (by decide +kernel) (fun _ _ _ h => h) ?_ (by assumption) ?_; rotate_left; (first | (refine yields_load (by rfl) rfl rfl ?_; intro w hSw; (try dsimp only at hSw); go_split_ands; assumption) | (refine Or.inl ⟨by rfl, ?_⟩; intro w hSw; (try dsimp only at hSw); go_simp; done) | (refine Or.inl ⟨by rfl, ?_⟩; intro w hSw; (try dsimp only at hSw); go_simp; with_reducible rfl) | exact Or.inr ⟨by rfl, rfl⟩); (try simp only [Act.put, List.setIfInBounds_toArray, List.set_cons_zero, List.set_cons_succ, List.getElem_toArray, List.getElem_cons_zero, List.getElem_cons_succ])) | (refine wpAnyH_take (i := 10) (v := ?_) rfl (by kernel_rfl) (by decide +kernel) (by decide +kernel) (fun _ _ _ h => h) ?_ (by assumption) ?_; rotate_left; (first | (refine yields_load (by rfl) rfl rfl ?_; intro w hSw; (try dsimp only at hSw); go_split_ands; assumption) | (refine Or.inl ⟨by rfl, ?_⟩; intro w hSw; (try dsimp only at hSw); go_simp; done) | (refine Or.inl ⟨by rfl, ?_⟩; intro w hSw; (try dsimp only at hSw); go_simp; with_reducible rfl) | exact Or.inr ⟨by rfl, rfl⟩); (try simp only [Act.put, List.setIfInBounds_toArray, List.set_cons_zero, List.set_cons_succ, List.getElem_toArray, List.getElem_cons_zero, List.getElem_cons_succ])) | (refine wpAnyH_take (i := 11) (v := ?_) rfl (by kernel_rfl) (by decide +kernel) (by decide +kernel) (fun _ _ _ h => h) ?_ (by assumption) ?_; rotate_left; (first | (refine yields_load (by rfl) rfl rfl ?_; intro w hSw; (try dsimp only at hSw); go_split_ands; assumption) | (refine Or.inl ⟨by rfl, ?_⟩; intro w hSw; (try dsimp only at hSw); go_simp; done) | (refine Or.inl ⟨by rfl, ?_⟩; intro w hSw; (try dsimp only at hSw); go_simp; with_reducible rfl) | exact Or.inr ⟨by rfl, rfl⟩); (try simp only [Act.put, List.setIfInBounds_toArray, List.set_cons_zero, List.set_cons_succ, List.getElem_toArray, List.getElem_cons_zero, List.getElem_cons_succ])) | (refine wpAnyH_take (i := 12) (v := ?_) rfl (by kernel_rfl) (by decide +kernel) (by decide +kernel) (fun _ _ _ h => h) ?_ (by assumption) ?_; rotate_left; (first | (refine yields_load (by rfl) rfl rfl ?_; intro w hSw; (try dsimp only at hSw); go_split_ands; assumption) | (refine Or.inl ⟨by rfl, ?_⟩; intro w hSw; (try dsimp only at hSw); go_simp; done) | (refine Or.inl ⟨by rfl, ?_⟩; intro w hSw; (try dsimp only at hSw); go_simp; with_reducible rfl) | exact Or.inr ⟨by rfl, rfl⟩); (try simp only [Act.put, List.setIfInBounds_toArray, List.set_cons_zero, List.set_cons_succ, List.getElem_toArray, List.getElem_cons_zero, List.getElem_cons_succ])))
    refine wpAnyH_ready (rs := [9]) (by decide +kernel) (by simp) ?_; refine AllReadyH.cons rfl (fun K hK => ?_) AllReadyH.nil; go_simp
    refine (own_calls wv hOk.out hGA.out (by omega) (by omega)).mono ?_
    rintro _ w9 ⟨_, rfl, va, vb, rfl, M⟩
    obtain ⟨Xa, xa, rfl⟩ := M.form (.head _)
    obtain ⟨Xb, xb, rfl⟩ := M.form (.tail _ (.head _))
    have M9 := hid (MW.out.lift M)
    have hb9 := hid M.below
    clear M
    go_wp2_with fail
    have hc := And.intro (run_load_agg (P := Try.prog) agg_glyph (g := m) (off := 0) (vs := (gA g (.slice Ae g.ends.length ce) (.slice Ap g.prog.length cp) (.slice As g.pts.length cs)).toList) (M9.out.heap (t := 29) (cs := gA g (.slice Ae g.ends.length ce) (.slice Ap g.prog.length cp) (.slice As g.pts.length cs)) (by simp)) rfl rfl) (run_load_agg (P := Try.prog) agg_ref (g := p) (off := 0) (vs := (rA g.b0 g.b1 g.b2 g.b3 (.slice Be g.ends.length de) (.slice Bp g.prog.length dp) (.slice Bs g.pts.length ds)).toList) (M9.out.heap (t := 46) (cs := rA g.b0 g.b1 g.b2 g.b3 (.slice Be g.ends.length de) (.slice Bp g.prog.length dp) (.slice Bs g.pts.length ds)) (by simp)) rfl rfl)
    refine hK.out _ _ hc (fun hHeld => ?_); clear hK K; (try simp only [Act.put, List.setIfInBounds_toArray, List.set_cons_zero, List.set_cons_succ, List.getElem_toArray, List.getElem_cons_zero, List.getElem_cons_succ])
    clear hc
    repeat (first | (refine wpAnyH_take (i := 10) (v := ?_) rfl (by kernel_rfl) (by decide +kernel) (by decide +kernel) (fun _ _ _ h => h) ?_ (by assumption) ?_; rotate_left; (first | (refine yields_load (by rfl) rfl rfl ?_; intro w hSw; (try dsimp only at hSw); go_split_ands; assumption) | (refine Or.inl ⟨by rfl, ?_⟩; intro w hSw; (try dsimp only at hSw); go_simp; done) | (refine Or.inl ⟨by rfl, ?_⟩; intro w hSw; (try dsimp only at hSw); go_simp; with_reducible rfl) | exact Or.inr ⟨by rfl, rfl⟩); (try simp only [Act.put, List.setIfInBounds_toArray, List.set_cons_zero, List.set_cons_succ, List.getElem_toArray, List.getElem_cons_zero, List.getElem_cons_succ])))
    refine wpAnyH_ready (rs := [11]) (by decide +kernel) (by simp) ?_; refine AllReadyH.cons rfl (fun K hK => ?_) AllReadyH.nil; go_simp
    refine (refSame_calls w9 (g := g) ⟨M9.out.slice (e := 3) (.head _), (hGA.out.below hb9.out).p, M9.out.slice (e := 66) (.tail _ (.head _))⟩ ⟨M9.out.slice (e := 3) (by simp), M9.out.slice (e := 5) (by simp), M9.out.slice (e := 66) (by simp)⟩).mono ?_
    rintro _ w10 ⟨_, rfl, rfl, hb⟩
    have M10 := hid (M9.out.keep hb)
    clear hb
    go_wp2_with fail
    have hc := And.intro (run_load_agg (P := Try.prog) agg_glyph (g := m) (off := 0) (vs := (gA g (.slice Ae g.ends.length ce) (.slice Ap g.prog.length cp) (.slice As g.pts.length cs)).toList) (M10.out.heap (t := 29) (cs := gA g (.slice Ae g.ends.length ce) (.slice Ap g.prog.length cp) (.slice As g.pts.length cs)) (by simp)) rfl rfl) (run_load_agg (P := Try.prog) agg_ref (g := p) (off := 0) (vs := (rA g.b0 g.b1 g.b2 g.b3 (.slice Be g.ends.length de) (.slice Bp g.prog.length dp) (.slice Bs g.pts.length ds)).toList) (M10.out.heap (t := 46) (cs := rA g.b0 g.b1 g.b2 g.b3 (.slice Be g.ends.length de) (.slice Bp g.prog.length dp) (.slice Bs g.pts.length ds)) (by simp)) rfl rfl)
    refine hK.out _ _ hc (fun hHeld => ?_); clear hK K; (try simp only [Act.put, List.setIfInBounds_toArray, List.set_cons_zero, List.set_cons_succ, List.getElem_toArray, List.getElem_cons_zero, List.getElem_cons_succ])
    clear hc
    repeat (first | (refine wpAnyH_take (i := 12) (v := ?_) rfl (by kernel_rfl) (by decide +kernel) (by decide +kernel) (fun _ _ _ h => h) ?_ (by assumption) ?_; rotate_left; (first | (refine yields_load (by rfl) rfl rfl ?_; intro w hSw; (try dsimp only at hSw); go_split_ands; assumption) | (refine Or.inl ⟨by rfl, ?_⟩; intro w hSw; (try dsimp only at hSw); go_simp; done) | (refine Or.inl ⟨by rfl, ?_⟩; intro w hSw; (try dsimp only at hSw); go_simp; with_reducible rfl) | exact Or.inr ⟨by rfl, rfl⟩); (try simp only [Act.put, List.setIfInBounds_toArray, List.set_cons_zero, List.set_cons_succ, List.getElem_toArray, List.getElem_cons_zero, List.getElem_cons_succ])) | (refine wpAnyH_take (i := 13) (v := ?_) rfl (by kernel_rfl) (by decide +kernel) (by decide +kernel) (fun _ _ _ h => h) ?_ (by assumption) ?_; rotate_left; (first | (refine yields_load (by rfl) rfl rfl ?_; intro w hSw; (try dsimp only at hSw); go_split_ands; assumption) | (refine Or.inl ⟨by rfl, ?_⟩; intro w hSw; (try dsimp only at hSw); go_simp; done) | (refine Or.inl ⟨by rfl, ?_⟩; intro w hSw; (try dsimp only at hSw); go_simp; with_reducible rfl) | exact Or.inr ⟨by rfl, rfl⟩); (try simp only [Act.put, List.setIfInBounds_toArray, List.set_cons_zero, List.set_cons_succ, List.getElem_toArray, List.getElem_cons_zero, List.getElem_cons_succ])))
    refine wpAnyH_done (by kernel_rfl) ?_ _
    go_wp2
    go_ret
    exact .mk ⟨rfl, M10.out.below⟩
end Go.Proofs.Ytmmepjcndofnbaa
