/- Package compo: With (other glyphs for the parts). -/
import Derived.Test.YteoicpbfjkjogaaMapU
import Derived.Test.YteoicpbfjkjogaaCompI
import Derived.Test.YteoicpbfjkjogaaLaw13A
namespace Go.Proofs.Yteoicpbfjkjogaa
open Go Go.RowKit
set_option linter.unusedVariables false
set_option linter.unusedSimpArgs false
set_option maxRecDepth 100000

theorem nil_pt (W : World) (a : Option Addr) (n c : Nat) : (binOp .eql 27 (.slice a n c) (.slice none 0 0)).run Try.prog W = .ok (.bool a.isNone) W := Lib.run_eql_slice_nil W 27 35 a n c 0 0 Try.underlying27
attribute [local go_sem] nil_pt
theorem cloneP_calls (w : World) {v : Value} {n : Nat} {xs : List Value} (hp : SliceAt w w.heap.size 8 v n xs) (h1 : ∀ u ∈ xs, u.oneCell' = true) (hn : n ≤ 1000000000) :
    Calls Try.prog 35 #[v] w (Ret fun v' w' => Own w w' [.row 35 8 v' n xs]) := by
  have hp' := hp
  obtain ⟨A, c, rfl, hnc, hcm, hA, hr⟩ := hp'
  cases A with
  | none =>
    obtain rfl : c = 0 := hA rfl
    obtain rfl : n = 0 := by omega
    obtain rfl : xs = [] := List.eq_nil_of_length_eq_zero (by simpa using hr.1)
    clear hp hr hA h1
    go_enter Try.func35, Try.ntmps35
    go_wp2
    go_ret
    exact .mk ((Own.start w).nil_row _ _)
  | some ad =>
    have M0 := hid (((Own.start w).alloc 35 #[]).as_row (L1 := []) (L2 := []) 8 0 rfl (by unfold maxLen; omega))
    have hpH := hid hp
    have h1H := hid h1
    clear hp hr hA h1
    go_enter Try.func35, Try.ntmps35
    go_wp2_with (at_builtin; refine wpList_append_Own rfl (.tmp 5) (.tmp 6) _ rfl sized_part rfl rfl (L1 := []) (L2 := []) M0.out (hpH.out.below ((Below.refl _ _).alloc (Nat.le_refl _) _)) h1H.out (by unfold maxLen; omega) (by omega) ?_; intro v' w' M')
    go_ret
    exact .mk (by simpa using M')

theorem results_agg_tmps1 {P : Program} {w : World} {fn : Func} {p q : Tmp} {ty n : Nat} (h : fn.results = #[.cell p ty, .tmp q]) (hT : AggOf P ty n) (tmps : Array Value) {g : Nat} (hp : tmps.getD p undef = .pointer (some ⟨g, 0, none⟩)) {t : TypeId} {vs : List Value} (hg : w.heap[g]? = some (.cells vs.toArray t (0, 0))) (hn : vs.length = n) :
    (results fn tmps).run P w = .ok (.tuple #[.agg vs.toArray, tmps.getD q undef]) w := by
  have hp' : tmps[p]?.getD undef = .pointer (some ⟨g, 0, none⟩) := by simpa using hp
  simp [results, h, hp', asAddr, run_load_agg hT hg (off := 0) (vs := vs) (by rw [← hn]; simp) hn]
/-! ## other glyphs -/
def wG (F : Int → Option Int) (p : Pt) : Pt := { p with g := (F p.g).getD 0 }
/-- The first k parts have their other glyphs. -/
def partsK (F : Int → Option Int) (ps : List Pt) (k : Nat) : List Pt := (ps.take k).map (wG F) ++ ps.drop k
theorem partsK_length (F : Int → Option Int) (ps : List Pt) (k : Nat) : (partsK F ps k).length = ps.length := by
  unfold partsK
  rw [List.length_append, List.length_map, List.length_take, List.length_drop]; omega
theorem partsK_0 (F : Int → Option Int) (ps : List Pt) : partsK F ps 0 = ps := by simp [partsK]
theorem partsK_all (F : Int → Option Int) (ps : List Pt) {n : Nat} (h : ps.length = n) : partsK F ps n = ps.map (wG F) := by subst h; simp [partsK]
theorem partsK_at (F : Int → Option Int) {ps : List Pt} {k : Nat} (h : k < ps.length) : pAt (partsK F ps k) k = pAt ps k := by
  unfold pAt partsK
  simp only [List.getD_eq_getElem?_getD]
  rw [List.getElem?_append_right (by simp; omega)]
  simp [Nat.min_eq_left (Nat.le_of_lt h)]
theorem ptC_setg {ps : List Pt} {i : Nat} (h : i < ps.length) (z : Int) : (ptC ps).set (i * 8 + 1) (.int .u16 z) = ptC (ps.set i { pAt ps i with g := z }) := by
  induction ps generalizing i with
  | nil => simp at h
  | cons p ps ih =>
    cases i with
    | zero => simp [ptC, pAt]
    | succ i =>
      rw [Nat.succ_mul]
      show (ptF p ++ ptC ps).set (i * 8 + 8 + 1) _ = ptF p ++ ptC (ps.set i { pAt ps i with g := z })
      rw [List.set_append_right _ _ (by simp), ← ih (by simpa using h)]
      simp
theorem partsK_succ {F : Int → Option Int} {ps : List Pt} {k : Nat} {c : Int} (h : k < ps.length) (hc : F (pAt ps k).g = some c) : (ptC (partsK F ps k)).set (k * 8 + 1) (.int .u16 c) = ptC (partsK F ps (k + 1)) := by
  rw [ptC_setg (by rw [partsK_length]; exact h), partsK_at F h]
  congr 1
  unfold partsK
  have hd : ps.drop k = ps[k] :: ps.drop (k + 1) := List.drop_eq_getElem_cons h
  rw [List.set_append_right _ _ (by simp; omega), List.take_succ_eq_append_getElem h, List.map_append, List.append_assoc, hd]
  have e : pAt ps k = ps[k] := by simp [pAt, List.getD, h]
  rw [e] at hc ⊢
  have hk : k - ((ps.take k).map (wG F)).length = 0 := by simp; omega
  rw [hk, List.set_cons_zero]
  simp only [List.map_cons, List.map_nil, List.cons_append, List.nil_append, wG, hc, Option.getD_some]
def withG (F : Int → Option Int) (g : Cg) : Cg := { g with parts := g.parts.map (wG F) }
def allG (F : Int → Option Int) (ps : List Pt) (k : Nat) : Prop := ∀ i, i < k → (F (pAt ps i).g).isSome = true
/-- What comes of a glyph and a map. -/
def WithP (F : Int → Option Int) (g : Cg) (w : World) (r : Value) (w' : World) : Prop :=
  (allG F g.parts g.parts.length ∧ ∃ vp vg, r = .tuple #[.agg (cA (withG F g) vp vg), .bool true] ∧ Own w w' [.row 5 1 vg g.prog.length (ints .u8 g.prog), .row 35 8 vp g.parts.length (ptC (g.parts.map (wG F)))]) ∨
  (¬ allG F g.parts g.parts.length ∧ r = .tuple #[.agg cNil, .bool false] ∧ Below w.heap.size w w')
set_option maxHeartbeats 8000000 in
theorem with_calls (w : World) {g : Cg} {vp vg : Value} (hO : g.Ok) (hG : CAt w g vp vg) (hnp : g.parts.length ≤ 100000) (hng : g.prog.length ≤ 100000) {b n : Nat} {F : Int → Option Int} (hF : MapIs w b n F) :
    Calls Try.prog 16 #[.agg (cA g vp vg), .map (some b)] w (Ret fun r w' => WithP F g w r w') := by
  have M0 := hid (Own.start w)
  have hCl := hid (fun w1 (h : Below w.heap.size w w1) => cloneP_calls w1 (hG.p.below h) (ptC_one _) (by omega))
  have hCb := hid (fun w1 (h : Below w.heap.size w w1) => clone_calls w1 (hG.g.below h) (ints_one _ _) (by omega))
  have hFH := hid (fun w1 (h : Below w.heap.size w w1) => hF.below h)
  have hOH := hid hO
  obtain ⟨A1, c1, rfl, -⟩ := hG.p
  obtain ⟨A2, c2, rfl, -⟩ := hG.g
  obtain ⟨np, hnpe⟩ : ∃ k, g.parts.length = k := ⟨_, rfl⟩
  obtain ⟨ng, hnge⟩ : ∃ k, g.prog.length = k := ⟨_, rfl⟩
  simp only [cA, hnpe, hnge]
  rw [hnpe] at hCl hnp
  rw [hnge] at hCb hng
  have hnpH := hid hnpe
  have hngH := hid hnge
  clear hG hF hO hnpe hnge
  go_enter Try.func16, Try.ntmps16
  go_wp2_with (first
    | ((with_reducible refine gate (N := 2) rfl ?_); refine wpList_box_Own rfl (cs := cA g (.slice A1 np c1) (.slice A2 ng c2)) (t := 29) (by first | (go_simp; done) | (go_simp; rfl)) M0.out ?_; intro m w1 M; (have M1 := hid M); clear M)
    | ((with_reducible refine gate (N := 4) rfl ?_); refine wpList_box_Own rfl (cs := cNil) (t := 29) (by first | (go_simp; done) | (go_simp; rfl)) M1.out ?_; intro q w2 M; obtain ⟨d4, -⟩ := c_cells (m := m) (g := g) (vp := .slice A1 np c1) (vg := .slice A2 ng c2) M (by simp); (have M2 := hid M); clear M)
    | (go_at_call 35; refine (hCl.out _ M2.out.below).mono ?_; rintro _ w3 ⟨_, rfl, M⟩; (clear d4); obtain ⟨A3, c3, rfl⟩ := M.form (.head _); ((have M3 := hid (M2.out.lift M))); (clear M); obtain ⟨f4, -⟩ := c_free (m := m) (g := g) (vp := .slice A1 np c1) (vg := .slice A2 ng c2) M3.out (by simp); ((have M4 : Hid (Own w (w3.setCell ⟨m, 4, none⟩ (.slice A3 np c3)) [.row 35 8 (.slice A3 np c3) np (ptC g.parts), .blk q 29 cNil, .blk m 29 (cA g (.slice A3 np c3) (.slice A2 ng c2))]) := hid (M3.out.set (L1 := [_, _]) 4 (.slice A3 np c3)))); obtain ⟨d4, -⟩ := c_cells (m := m) (g := g) (vp := .slice A3 np c3) (vg := .slice A2 ng c2) M4.out (by simp); obtain ⟨d4', -⟩ := c_cells (m := m) (g := g) (vp := .slice A1 np c1) (vg := .slice A2 ng c2) M3.out (by simp)))
  clear f4 d4 d4' M1 M2 M3
  revert M4
  generalize w3.setCell ⟨m, 4, none⟩ (.slice A3 np c3) = w4
  intro M4
  go_loopw [17] (fun i wr => ∃ k : Nat, k ≤ np ∧ i = .int .i64 k ∧ Hid (allG F g.parts k) ∧ Hid (Own w wr [.row 35 8 (.slice A3 np c3) np (ptC (partsK F g.parts k)), .blk q 29 cNil, .blk m 29 (cA g (.slice A3 np c3) (.slice A2 ng c2))])) (fun i _ => np - (intOf i).toNat)
  case atStart => exact ⟨0, Nat.zero_le _, rfl, hid (fun i hi => absurd hi (by omega)), by rw [partsK_0]; exact M4⟩
  case round =>
    clear M4
    obtain ⟨k, hk, rfl, hall, MR⟩ := hrel
    obtain ⟨d4, d5⟩ := c_cells (m := m) (g := g) (vp := .slice A3 np c3) (vg := .slice A2 ng c2) MR.out (by simp)
    by_cases hlt : k < np
    · obtain ⟨g3, hg3⟩ := MR.out.row_at (.head _) (by omega)
      subst hg3
      have hS : SliceAt wr wr.heap.size 8 (.slice (some ⟨g3, 0, none⟩) np c3) np (ptC (partsK F g.parts k)) := MR.out.slice (.head _)
      obtain ⟨A9, c9, he, -, -, -, hr⟩ := hS
      injection he with he1 he2 he3
      subst he1
      have hkg : k < g.parts.length := by rw [hnpH.out]; exact hlt
      obtain ⟨k0, k1, k2, k3, k4, k5, k6, k7⟩ := part_at (by rw [partsK_length]; exact hnpH.out) hr (Below.refl _ _) hlt
      rw [partsK_at F hkg] at k0 k1 k2 k3 k4 k5 k6 k7
      simp only [addr_add, Nat.zero_add] at k0 k1 k2 k3 k4 k5 k6 k7
      have hOk := hid (hOH.out.at k)
      have hlk := hid (fun w1 (h : Below w.heap.size w w1) => (hFH.out w1 h).look hOk.out.g.1 hOk.out.g.2 true (zero16 w1))
      have hset := hid (fun (c : Int) (h : F (pAt g.parts k).g = some c) => partsK_succ (F := F) (ps := g.parts) hkg h)
      have hno := hid (fun (h : F (pAt g.parts k).g = none) (h2 : allG F g.parts np) => show False by have := h2 k hlt; rw [h] at this; cases this)
      have hyes := hid (fun (c : Int) (h : F (pAt g.parts k).g = some c) => show allG F g.parts (k + 1) from fun i hi => by
        by_cases he : i = k
        · subst he; rw [h]; rfl
        · exact hall.out i (by omega))
      clear hr he2 he3 hall
      generalize pAt g.parts k = p at *
      generalize ptC (partsK F g.parts k) = row at *
      cases hFp : F p.g with
      | none =>
        have hfal := hid (hno.out hFp)
        rw [hFp] at hlk
        clear hset hyes hno hFp
        go_wp2_with (first
          | ((with_reducible refine gate (N := 7) rfl ?_); refine wpList_box_Own rfl (cs := ptA pt0) (t := 35) (by first | (go_simp; done) | (go_simp; rfl)) MR.out ?_; intro n5 w5 M; (clear k0 k1 k2 k3 k4 k5 k6 k7 d4 d5); (have M5 := hid M); clear M)
          | ((with_reducible refine gateSt (t := 35) (p := 7) rfl ?_); refine wpList_store_all (n := 8) (L1 := []) (mid := (ptA pt0).toList) (vs := (ptA p).toList) rfl rfl (by kernel_rfl) rfl rfl rfl rfl rfl (one_all rfl) M5.out ?_; intro w6 M; obtain ⟨e0, e1, -⟩ := pt_cells (m := n5) (p := p) M (by simp); ((have hl2 := (hlk.out _ M.below).1)); ((try dsimp only [Option.elim] at hl2)); ((simp only [if_true] at hl2)); (have M6 := hid M); clear M)
          | ((with_reducible refine gateSt (t := 29) (p := 4) rfl ?_); refine wpList_store_all (n := 6) (L1 := [.blk n5 35 (ptA p), .row 35 8 (.slice (some ⟨g3, 0, none⟩) np c3) np row]) (mid := cNil.toList) (vs := cNil.toList) rfl rfl (by kernel_rfl) rfl rfl rfl rfl rfl (one_all rfl) M6.out ?_; intro w7 M; (have M7 := hid M); clear M))
        refine bodyPost_ret (v := .tuple #[.agg cNil, .bool false]) (results_agg_tmps1 (p := 4) (q := 5) rfl agg_cg _ (by rfl) (M7.out.heap (g := q) (t := 29) (by simp)) rfl) rfl (.mk ?_)
        exact .inr ⟨by rw [hnpH.out]; exact hfal.out, rfl, M7.out.below⟩
      | some c =>
        have hset2 := hid (hset.out c hFp)
        have hall2 := hid (hyes.out c hFp)
        rw [hFp] at hlk
        clear hset hyes hno hFp
        have hri := hid (show row[k * 8 + 1]? = some (.int .u16 p.g) from (Own.row_set (L1 := []) MR.out (k * 8 + 1) (by omega) (.int .u16 c)).2.1.symm.trans k1)
        have hj1 : k * 8 + 1 < np * 8 := by omega
        go_wp2_with (first
          | ((with_reducible refine gate (N := 7) rfl ?_); refine wpList_box_Own rfl (cs := ptA pt0) (t := 35) (by first | (go_simp; done) | (go_simp; rfl)) MR.out ?_; intro n5 w5 M; (clear k0 k1 k2 k3 k4 k5 k6 k7 d4 d5); (have M5 := hid M); clear M)
          | ((with_reducible refine gateSt (t := 35) (p := 7) rfl ?_); refine wpList_store_all (n := 8) (L1 := []) (mid := (ptA pt0).toList) (vs := (ptA p).toList) rfl rfl (by kernel_rfl) rfl rfl rfl rfl rfl (one_all rfl) M5.out ?_; intro w6 M; obtain ⟨e0, e1, -⟩ := pt_cells (m := n5) (p := p) M (by simp); ((have hl2 := (hlk.out _ M.below).1)); ((try dsimp only [Option.elim] at hl2)); ((simp only [if_true] at hl2)); obtain ⟨hs6, hc6, hf6⟩ := Own.row_set (L1 := [.blk n5 35 (ptA p)]) M (k * 8 + 1) hj1 (.int .u16 c); ((rw [hri.out] at hc6)); ((rw [hset2.out] at hs6)); (replace hs6 := hid hs6.tail); obtain ⟨d4, -⟩ := c_cells (m := m) (g := g) (vp := .slice (some ⟨g3, 0, none⟩) np c3) (vg := .slice A2 ng c2) M (by simp); (have M6 := hid M); clear M))
        go_roundw
        case rel => exact ⟨k + 1, by omega, by go_num, hall2, hs6⟩
        case measure => simp [intOf] <;> omega
    · obtain rfl : k = np := by omega
      rw [partsK_all F _ hnpH.out] at MR
      have hfin := hid (show allG F g.parts g.parts.length by rw [hnpH.out]; exact hall.out)
      clear hall
      generalize hrw : ptC (g.parts.map (wG F)) = row at *
      replace hrw := hid hrw
      go_wp2_with (first
        | (go_at_call 36; refine (hCb.out _ MR.out.below).mono ?_; rintro _ w5 ⟨_, rfl, M⟩; (clear d4 d5); obtain ⟨A5, c5, rfl⟩ := M.form (.head _); ((have M5 := hid (MR.out.lift M))); (clear M); obtain ⟨-, f5⟩ := c_free (m := m) (g := g) (vp := .slice A3 k c3) (vg := .slice A2 ng c2) M5.out (by simp); obtain ⟨-, d5⟩ := c_cells (m := m) (g := g) (vp := .slice A3 k c3) (vg := .slice A2 ng c2) M5.out (by simp); ((have M6 : Hid (Own w (w5.setCell ⟨m, 5, none⟩ (.slice A5 ng c5)) [.row 5 1 (.slice A5 ng c5) ng (ints .u8 g.prog), .row 35 8 (.slice A3 k c3) k row, .blk q 29 cNil, .blk m 29 (cA g (.slice A3 k c3) (.slice A5 ng c5))]) := hid (M5.out.set (L1 := [_, _, _]) 5 (.slice A5 ng c5)))))
        | ((with_reducible refine gate (N := 43) rfl ?_); refine wpList_run rfl (exec_load_agg agg_cg rfl rfl M6.out (g := m) (t := 29) (cs := cA g (.slice A3 k c3) (.slice A5 ng c5)) (vs := (cA g (.slice A3 k c3) (.slice A5 ng c5)).toList) (by simp) rfl rfl) ?_)
        | ((with_reducible refine gateSt (t := 29) (p := 4) rfl ?_); refine wpList_store_all (n := 6) (L1 := [.row 5 1 (.slice A5 ng c5) ng (ints .u8 g.prog), .row 35 8 (.slice A3 k c3) k row]) (mid := cNil.toList) (vs := (cA g (.slice A3 k c3) (.slice A5 ng c5)).toList) rfl rfl (by kernel_rfl) rfl rfl rfl rfl rfl (one_all rfl) M6.out ?_; intro w7 M; (have M7 := hid M); clear M))
      refine bodyPost_ret (v := .tuple #[.agg (cA g (.slice A3 k c3) (.slice A5 ng c5)), .bool true]) (results_agg_tmps1 (p := 4) (q := 5) rfl agg_cg _ (by rfl) (M7.out.heap (g := q) (t := 29) (by simp)) rfl) rfl (.mk ?_)
      refine .inl ⟨hfin.out, .slice A3 k c3, .slice A5 ng c5, rfl, ?_⟩
      rw [hngH.out, hnpH.out, hrw.out]
      exact M7.out.sub (by simp)
end Go.Proofs.Yteoicpbfjkjogaa
