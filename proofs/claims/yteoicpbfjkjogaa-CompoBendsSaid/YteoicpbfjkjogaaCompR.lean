/- Layer 13: a glyph of few parts (few). -/
import Derived.Test.YteoicpbfjkjogaaCompN
import Derived.Test.YteoicpbfjkjogaaUntil
import Derived.Test.YteoicpbfjkjogaaLaw13A
namespace Go.Proofs.Yteoicpbfjkjogaa
open Go Go.RowKit
set_option linter.unusedVariables false
set_option linter.unusedSimpArgs false
set_option maxRecDepth 100000

theorem SliceAt.preN {w : World} {B sz : Nat} {A : Option Addr} {c n k : Nat} {xs : List Value} (h : SliceAt w B sz (.slice A n c) n xs) (hk : k ≤ n) : SliceAt w B sz (.slice A k c) k (xs.take (k * sz)) := by
  obtain ⟨A', c', he, hnc, hcm, hA, hr⟩ := h
  injection he with he1 he2 he3
  subst he1; subst he3
  have hx := hr.1
  have hks : k * sz ≤ n * sz := Nat.mul_le_mul_right _ hk
  have hl : (xs.take (k * sz)).length = k * sz := by rw [List.length_take]; omega
  refine ⟨A, c, rfl, by omega, hcm, hA, hl, fun hn => ?_⟩
  obtain ⟨ad, rfl, hb, hc⟩ := hr.2 (by omega)
  refine ⟨ad, rfl, hb, fun j u hu => hc j u ?_⟩
  rw [List.getElem?_take] at hu
  split at hu
  · exact hu
  · cases hu
/-- What is made of a glyph. -/
def FewP (w : World) (r : Value) (w' : World) : Prop := ∃ (g : Cg) (vp vg : Value), g.Ok ∧ g.parts.length ≤ 210 ∧ g.prog.length ≤ 30 ∧ r = .agg (cA g vp vg) ∧
  Own w w' [.row 5 1 vg g.prog.length (ints .u8 g.prog), .row 35 8 vp g.parts.length (ptC g.parts)]
set_option maxHeartbeats 4000000 in
theorem few_calls (w : World) {g : Cg} {vp vg : Value} (hO : g.Ok) (hG : CAt w g vp vg) :
    Calls Try.prog 15 #[.agg (cA g vp vg)] w (Ret fun r w' => FewP w r w') := by
  have M0 := hid (Own.start w)
  have hCut := hid (fun w1 (h : Below w.heap.size w w1) => cut_calls w1 30 (by omega) (hG.g.below h) (by omega))
  obtain ⟨hp, hgg⟩ := hG
  have hpH := hid hp
  obtain ⟨Ap, cp, rfl, hcp, hmp, -, -⟩ := hp
  obtain ⟨Ag, cg, rfl, hcg, hmg, -, -⟩ := hgg
  unfold maxLen at hmp hmg
  obtain ⟨k1, hk1, b1⟩ : ∃ k, min g.parts.length 210 = k ∧ k ≤ 210 := ⟨_, rfl, by omega⟩
  have n1 : k1 ≤ g.parts.length := by omega
  have hpre1 := hid (fun w1 (h : Below w.heap.size w w1) => show SliceAt w1 w1.heap.size 8 (.slice Ap k1 cp) k1 (ptC (g.parts.take k1)) by
    have := SliceAt.preN (hpH.out.below h) n1
    rwa [← ptC_take] at this)
  have hm1 : (if (210 : Int) < (g.parts.length : Int) then (210 : Int) else (g.parts.length : Int)) = (k1 : Int) := by split <;> omega
  have hmm1 : min (g.parts.length : Int) 210 = (k1 : Int) := by omega
  obtain ⟨np, hnp⟩ : ∃ n, (g.prog.take 30).length = n := ⟨_, rfl⟩
  have hnpH := hid hnp
  have hnp30 : np ≤ 30 := by rw [← hnp, List.length_take]; omega
  clear hnp
  have hl1 := hid (show (g.parts.take k1).length = k1 by rw [List.length_take]; omega)
  have hO2 := hid (show (⟨g.b0, g.b1, g.b2, g.b3, g.parts.take k1, g.prog.take 30⟩ : Cg).Ok from ⟨hO.x0, hO.x1, hO.x2, hO.x3, fun p hp => hO.pt p (List.mem_of_mem_take hp), hO.pr.take 30⟩)
  have i1 : (k1 : Int) ≤ cp := by omega
  have j1 : k1 ≤ cp := by omega
  go_enter Try.func15, Try.ntmps15
  go_upto_region 1 with (first
    | ((with_reducible refine gate (N := 1) rfl ?_); refine wpList_box_Own rfl (cs := cA g (.slice Ap g.parts.length cp) (.slice Ag g.prog.length cg)) (t := 29) (by first | (go_simp; done) | (go_simp; rfl)) M0.out ?_; intro m w1 M; (have M1 := hid M); clear M)
    | ((with_reducible refine gate (N := 2) rfl ?_); refine wpList_box_Own rfl (cs := cNil) (t := 29) (by first | (go_simp; done) | (go_simp; rfl)) M1.out ?_; intro q w2 M; (have M2 := hid M); clear M))
  try simp only [Act.put, List.setIfInBounds_toArray, List.set_cons_zero, List.set_cons_succ, List.getElem_toArray, List.getElem_cons_zero, List.getElem_cons_succ]
  obtain ⟨c4, c5⟩ := c_cells (m := m) (g := g) (vp := .slice Ap g.parts.length cp) (vg := .slice Ag g.prog.length cg) M2.out.drew (by simp)
  refine wp_region_until (S := fun w' => w'.cell? ⟨m, 4, none⟩ = some (.slice Ap g.parts.length cp) ∧ w'.cell? ⟨m, 5, none⟩ = some (.slice Ag g.prog.length cg)) 13 (by kernel_rfl) ⟨c4, c5⟩ (fun hHeld => ?_)
  clear c4 c5
  repeat (first | (refine wpAnyV_take (i := 1) (v := ?_) rfl (by kernel_rfl) (by decide +kernel) (by decide +kernel) [] (by decide +kernel) (by decide +kernel) (by decide) (fun _ _ _ h => h) ?_ (by assumption) ?_; rotate_left; (first | (refine yields_load (by rfl) rfl rfl ?_; intro w hSw; (try dsimp only at hSw); go_split_ands; assumption) | (refine Or.inl ⟨by rfl, ?_⟩; intro w hSw; (try dsimp only at hSw); go_simp; done) | (refine Or.inl ⟨by rfl, ?_⟩; intro w hSw; (try dsimp only at hSw); go_simp; with_reducible rfl) | exact Or.inr ⟨by rfl, rfl⟩ | exact Or.inr ⟨by rfl, by rfl⟩); (try simp only [Act.put, List.setIfInBounds_toArray, List.set_cons_zero, List.set_cons_succ, List.getElem_toArray, List.getElem_cons_zero, List.getElem_cons_succ])) | (refine wpAnyV_take (i := 2) (v := ?_) rfl (by kernel_rfl) (by decide +kernel) (by decide +kernel) [] (by decide +kernel) (by decide +kernel) (by decide) (fun _ _ _ h => h) ?_ (by assumption) ?_; rotate_left; (first | (refine yields_load (by rfl) rfl rfl ?_; intro w hSw; (try dsimp only at hSw); go_split_ands; assumption) | (refine Or.inl ⟨by rfl, ?_⟩; intro w hSw; (try dsimp only at hSw); go_simp; done) | (refine Or.inl ⟨by rfl, ?_⟩; intro w hSw; (try dsimp only at hSw); go_simp; with_reducible rfl) | exact Or.inr ⟨by rfl, rfl⟩ | exact Or.inr ⟨by rfl, by rfl⟩); (try simp only [Act.put, List.setIfInBounds_toArray, List.set_cons_zero, List.set_cons_succ, List.getElem_toArray, List.getElem_cons_zero, List.getElem_cons_succ])) | (refine wpAnyV_take (i := 3) (v := ?_) rfl (by kernel_rfl) (by decide +kernel) (by decide +kernel) [] (by decide +kernel) (by decide +kernel) (by decide) (fun _ _ _ h => h) ?_ (by assumption) ?_; rotate_left; (first | (refine yields_load (by rfl) rfl rfl ?_; intro w hSw; (try dsimp only at hSw); go_split_ands; assumption) | (refine Or.inl ⟨by rfl, ?_⟩; intro w hSw; (try dsimp only at hSw); go_simp; done) | (refine Or.inl ⟨by rfl, ?_⟩; intro w hSw; (try dsimp only at hSw); go_simp; with_reducible rfl) | exact Or.inr ⟨by rfl, rfl⟩ | exact Or.inr ⟨by rfl, by rfl⟩); (try simp only [Act.put, List.setIfInBounds_toArray, List.set_cons_zero, List.set_cons_succ, List.getElem_toArray, List.getElem_cons_zero, List.getElem_cons_succ])) | (refine wpAnyV_take (i := 4) (v := ?_) rfl (by kernel_rfl) (by decide +kernel) (by decide +kernel) [] (by decide +kernel) (by decide +kernel) (by decide) (fun _ _ _ h => h) ?_ (by assumption) ?_; rotate_left; (first | (refine yields_load (by rfl) rfl rfl ?_; intro w hSw; (try dsimp only at hSw); go_split_ands; assumption) | (refine Or.inl ⟨by rfl, ?_⟩; intro w hSw; (try dsimp only at hSw); go_simp; done) | (refine Or.inl ⟨by rfl, ?_⟩; intro w hSw; (try dsimp only at hSw); go_simp; with_reducible rfl) | exact Or.inr ⟨by rfl, rfl⟩ | exact Or.inr ⟨by rfl, by rfl⟩); (try simp only [Act.put, List.setIfInBounds_toArray, List.set_cons_zero, List.set_cons_succ, List.getElem_toArray, List.getElem_cons_zero, List.getElem_cons_succ])) | (refine wpAnyV_take (i := 5) (v := ?_) rfl (by kernel_rfl) (by decide +kernel) (by decide +kernel) [] (by decide +kernel) (by decide +kernel) (by decide) (fun _ _ _ h => h) ?_ (by assumption) ?_; rotate_left; (first | (refine yields_load (by rfl) rfl rfl ?_; intro w hSw; (try dsimp only at hSw); go_split_ands; assumption) | (refine Or.inl ⟨by rfl, ?_⟩; intro w hSw; (try dsimp only at hSw); go_simp; done) | (refine Or.inl ⟨by rfl, ?_⟩; intro w hSw; (try dsimp only at hSw); go_simp; with_reducible rfl) | exact Or.inr ⟨by rfl, rfl⟩ | exact Or.inr ⟨by rfl, by rfl⟩); (try simp only [Act.put, List.setIfInBounds_toArray, List.set_cons_zero, List.set_cons_succ, List.getElem_toArray, List.getElem_cons_zero, List.getElem_cons_succ])) | (refine wpAnyV_take (i := 6) (v := ?_) rfl (by kernel_rfl) (by decide +kernel) (by decide +kernel) [] (by decide +kernel) (by decide +kernel) (by decide) (fun _ _ _ h => h) ?_ (by assumption) ?_; rotate_left; (first | (refine yields_load (by rfl) rfl rfl ?_; intro w hSw; (try dsimp only at hSw); go_split_ands; assumption) | (refine Or.inl ⟨by rfl, ?_⟩; intro w hSw; (try dsimp only at hSw); go_simp; done) | (refine Or.inl ⟨by rfl, ?_⟩; intro w hSw; (try dsimp only at hSw); go_simp; with_reducible rfl) | exact Or.inr ⟨by rfl, rfl⟩ | exact Or.inr ⟨by rfl, by rfl⟩); (try simp only [Act.put, List.setIfInBounds_toArray, List.set_cons_zero, List.set_cons_succ, List.getElem_toArray, List.getElem_cons_zero, List.getElem_cons_succ])) | (refine wpAnyV_take (i := 7) (v := ?_) rfl (by kernel_rfl) (by decide +kernel) (by decide +kernel) [] (by decide +kernel) (by decide +kernel) (by decide) (fun _ _ _ h => h) ?_ (by assumption) ?_; rotate_left; (first | (refine yields_load (by rfl) rfl rfl ?_; intro w hSw; (try dsimp only at hSw); go_split_ands; assumption) | (refine Or.inl ⟨by rfl, ?_⟩; intro w hSw; (try dsimp only at hSw); go_simp; done) | (refine Or.inl ⟨by rfl, ?_⟩; intro w hSw; (try dsimp only at hSw); go_simp; with_reducible rfl) | exact Or.inr ⟨by rfl, rfl⟩ | exact Or.inr ⟨by rfl, by rfl⟩); (try simp only [Act.put, List.setIfInBounds_toArray, List.set_cons_zero, List.set_cons_succ, List.getElem_toArray, List.getElem_cons_zero, List.getElem_cons_succ])) | (refine wpAnyV_take (i := 9) (v := ?_) rfl (by kernel_rfl) (by decide +kernel) (by decide +kernel) [] (by decide +kernel) (by decide +kernel) (by decide) (fun _ _ _ h => h) ?_ (by assumption) ?_; rotate_left; (first | (refine yields_load (by rfl) rfl rfl ?_; intro w hSw; (try dsimp only at hSw); go_split_ands; assumption) | (refine Or.inl ⟨by rfl, ?_⟩; intro w hSw; (try dsimp only at hSw); go_simp; done) | (refine Or.inl ⟨by rfl, ?_⟩; intro w hSw; (try dsimp only at hSw); go_simp; with_reducible rfl) | exact Or.inr ⟨by rfl, rfl⟩ | exact Or.inr ⟨by rfl, by rfl⟩); (try simp only [Act.put, List.setIfInBounds_toArray, List.set_cons_zero, List.set_cons_succ, List.getElem_toArray, List.getElem_cons_zero, List.getElem_cons_succ])) | (refine wpAnyV_take (i := 10) (v := ?_) rfl (by kernel_rfl) (by decide +kernel) (by decide +kernel) [] (by decide +kernel) (by decide +kernel) (by decide) (fun _ _ _ h => h) ?_ (by assumption) ?_; rotate_left; (first | (refine yields_load (by rfl) rfl rfl ?_; intro w hSw; (try dsimp only at hSw); go_split_ands; assumption) | (refine Or.inl ⟨by rfl, ?_⟩; intro w hSw; (try dsimp only at hSw); go_simp; done) | (refine Or.inl ⟨by rfl, ?_⟩; intro w hSw; (try dsimp only at hSw); go_simp; with_reducible rfl) | exact Or.inr ⟨by rfl, rfl⟩ | exact Or.inr ⟨by rfl, by rfl⟩); (try simp only [Act.put, List.setIfInBounds_toArray, List.set_cons_zero, List.set_cons_succ, List.getElem_toArray, List.getElem_cons_zero, List.getElem_cons_succ])) | (refine wpAnyV_take (i := 12) (v := ?_) rfl (by kernel_rfl) (by decide +kernel) (by decide +kernel) [] (by decide +kernel) (by decide +kernel) (by decide) (fun _ _ _ h => h) ?_ (by assumption) ?_; rotate_left; (first | (refine yields_load (by rfl) rfl rfl ?_; intro w hSw; (try dsimp only at hSw); go_split_ands; assumption) | (refine Or.inl ⟨by rfl, ?_⟩; intro w hSw; (try dsimp only at hSw); go_simp; done) | (refine Or.inl ⟨by rfl, ?_⟩; intro w hSw; (try dsimp only at hSw); go_simp; with_reducible rfl) | exact Or.inr ⟨by rfl, rfl⟩ | exact Or.inr ⟨by rfl, by rfl⟩); (try simp only [Act.put, List.setIfInBounds_toArray, List.set_cons_zero, List.set_cons_succ, List.getElem_toArray, List.getElem_cons_zero, List.getElem_cons_succ])))
  refine wpAnyV_ready (rs := [0]) (by decide +kernel) (by simp) ?_; refine (AllReadyV.cons rfl (by decide) (fun K hK => ?_) AllReadyV.nil)
  go_simp
  have M3 := hid (((M2.out.alloc 35 #[]).as_row (L1 := []) 8 0 rfl (by unfold maxLen; omega)).drew)
  have hc := (c_cells (m := m) (g := g) (vp := .slice Ap g.parts.length cp) (vg := .slice Ag g.prog.length cg) M3.out (by simp))
  refine hK.out _ _ hc (fun hHeld => ?_); clear hK K; (try simp only [Act.put, List.setIfInBounds_toArray, List.set_cons_zero, List.set_cons_succ, List.getElem_toArray, List.getElem_cons_zero, List.getElem_cons_succ])
  clear hc
  refine wpAnyV_ready (rs := [8]) (by decide +kernel) (by simp) ?_; refine (AllReadyV.cons rfl (by decide) (fun K hK => ?_) AllReadyV.nil)
  refine step_append_Own (by rfl) (.tmp 3) (.tmp 10) _ rfl sized_part rfl rfl (L1 := []) (L2 := [.blk q 29 cNil, .blk m 29 (cA g (.slice Ap g.parts.length cp) (.slice Ag g.prog.length cg))]) M3.out (hpre1.out _ M3.out.below) (ptC_one _) (by unfold maxLen; omega) (by omega) ?_
  intro v4 w4 M'
  simp only [Nat.zero_add, List.nil_append, List.append_eq, List.cons_append] at M'
  obtain ⟨A4, d4, rfl⟩ := M'.form (e := 35) (sz := 8) (v := v4) (n := k1) (xs := ptC (g.parts.take k1)) (by simp)
  have M4 := hid M'
  clear M'
  have hc := (c_cells (m := m) (g := g) (vp := .slice Ap g.parts.length cp) (vg := .slice Ag g.prog.length cg) M4.out (by simp))
  refine hK.out _ _ hc (fun hHeld => ?_); clear hK K; (try simp only [Act.put, List.setIfInBounds_toArray, List.set_cons_zero, List.set_cons_succ, List.getElem_toArray, List.getElem_cons_zero, List.getElem_cons_succ])
  clear hc
  repeat (first | (refine wpAnyV_take (i := 12) (v := ?_) rfl (by kernel_rfl) (by decide +kernel) (by decide +kernel) [] (by decide +kernel) (by decide +kernel) (by decide) (fun _ _ _ h => h) ?_ (by assumption) ?_; rotate_left; (first | (refine yields_load (by rfl) rfl rfl ?_; intro w hSw; (try dsimp only at hSw); go_split_ands; assumption) | (refine Or.inl ⟨by rfl, ?_⟩; intro w hSw; (try dsimp only at hSw); go_simp; done) | (refine Or.inl ⟨by rfl, ?_⟩; intro w hSw; (try dsimp only at hSw); go_simp; with_reducible rfl) | exact Or.inr ⟨by rfl, rfl⟩ | exact Or.inr ⟨by rfl, by rfl⟩); (try simp only [Act.put, List.setIfInBounds_toArray, List.set_cons_zero, List.set_cons_succ, List.getElem_toArray, List.getElem_cons_zero, List.getElem_cons_succ])))
  refine wpAnyV_ready (rs := [11]) (by decide +kernel) (by simp) ?_; refine (AllReadyV.cons rfl (by decide) (fun K hK => ?_) AllReadyV.nil)
  go_simp
  refine (hCut.out _ M4.out.below).mono ?_
  rintro _ w5 ⟨_, rfl, M⟩
  rw [hnpH.out] at M
  obtain ⟨A5, d5, rfl⟩ := M.form (.head _)
  have M5 := hid (M4.out.lift M)
  clear M
  go_wp2_with fail
  have hc := (c_cells (m := m) (g := g) (vp := .slice Ap g.parts.length cp) (vg := .slice Ag g.prog.length cg) M5.out (by simp))
  refine hK.out _ _ hc (fun hHeld => ?_); clear hK K; (try simp only [Act.put, List.setIfInBounds_toArray, List.set_cons_zero, List.set_cons_succ, List.getElem_toArray, List.getElem_cons_zero, List.getElem_cons_succ])
  have ff := c_free (m := m) (g := g) (vp := .slice Ap g.parts.length cp) (vg := .slice Ag g.prog.length cg) M5.out (by simp)
  obtain ⟨ff4, ff5⟩ := ff
  obtain ⟨hc4, hc5⟩ := hc
  repeat (first | (refine wpAnyV_take (i := 12) (v := ?_) rfl (by kernel_rfl) (by decide +kernel) (by decide +kernel) [] (by decide +kernel) (by decide +kernel) (by decide) (fun _ _ _ h => h) ?_ (by assumption) ?_; rotate_left; (first | (refine yields_load (by rfl) rfl rfl ?_; intro w hSw; (try dsimp only at hSw); go_split_ands; assumption) | (refine Or.inl ⟨by rfl, ?_⟩; intro w hSw; (try dsimp only at hSw); go_simp; done) | (refine Or.inl ⟨by rfl, ?_⟩; intro w hSw; (try dsimp only at hSw); go_simp; with_reducible rfl) | exact Or.inr ⟨by rfl, rfl⟩ | exact Or.inr ⟨by rfl, by rfl⟩); (try simp only [Act.put, List.setIfInBounds_toArray, List.set_cons_zero, List.set_cons_succ, List.getElem_toArray, List.getElem_cons_zero, List.getElem_cons_succ])))
  refine wpAnyV_ready (rs := [13]) (by decide +kernel) (by simp) ?_; refine AllReadyV.last rfl (fun K hK => ?_); go_simp
  have M6 := hid (show Own w (w5.setCell ⟨m, 4, none⟩ (.slice A4 k1 d4)) [.row 5 1 (.slice A5 np d5) np (ints .u8 (g.prog.take 30)), .row 35 8 (.slice A4 k1 d4) k1 (ptC (g.parts.take k1)), .blk q 29 cNil, .blk m 29 (cA g (.slice A4 k1 d4) (.slice Ag g.prog.length cg))] from M5.out.set (L1 := [_, _, _]) 4 (.slice A4 k1 d4))
  clear ff4 ff5 hc4 hc5
  revert M6
  generalize w5.setCell ⟨m, 4, none⟩ (.slice A4 k1 d4) = w6
  intro M6
  refine hK.out _ _ (fun hHeld => ?_); clear hK K; (try simp only [Act.put, List.setIfInBounds_toArray, List.set_cons_zero, List.set_cons_succ, List.getElem_toArray, List.getElem_cons_zero, List.getElem_cons_succ])
  obtain ⟨ff4, ff5⟩ := c_free (m := m) (g := g) (vp := .slice A4 k1 d4) (vg := .slice Ag g.prog.length cg) M6.out (by simp)
  obtain ⟨hc4, hc5⟩ := c_cells (m := m) (g := g) (vp := .slice A4 k1 d4) (vg := .slice Ag g.prog.length cg) M6.out (by simp)
  repeat (first | (refine wpAnyH_take (i := 14) (v := ?_) rfl (by kernel_rfl) (by decide +kernel) (by decide +kernel) (fun _ _ _ h => h) ?_ (by assumption) ?_; rotate_left; (first | (refine yields_load (by rfl) rfl rfl ?_; intro w hSw; (try dsimp only at hSw); go_split_ands; assumption) | (refine Or.inl ⟨by rfl, ?_⟩; intro w hSw; (try dsimp only at hSw); go_simp; done) | (refine Or.inl ⟨by rfl, ?_⟩; intro w hSw; (try dsimp only at hSw); go_simp; with_reducible rfl) | exact Or.inr ⟨by rfl, rfl⟩ | exact Or.inr ⟨by rfl, by rfl⟩); (try simp only [Act.put, List.setIfInBounds_toArray, List.set_cons_zero, List.set_cons_succ, List.getElem_toArray, List.getElem_cons_zero, List.getElem_cons_succ])))
  refine wpAnyH_ready (rs := [15]) (by decide +kernel) (by simp) ?_; refine AllReadyH.cons rfl (fun K hK => ?_) AllReadyH.nil; go_simp
  have M7 := hid (show Own w (w6.setCell ⟨m, 5, none⟩ (.slice A5 np d5)) [.row 5 1 (.slice A5 np d5) np (ints .u8 (g.prog.take 30)), .row 35 8 (.slice A4 k1 d4) k1 (ptC (g.parts.take k1)), .blk q 29 cNil, .blk m 29 (cA g (.slice A4 k1 d4) (.slice A5 np d5))] from M6.out.set (L1 := [_, _, _]) 5 (.slice A5 np d5))
  clear ff4 ff5 hc4 hc5
  revert M7
  generalize w6.setCell ⟨m, 5, none⟩ (.slice A5 np d5) = w7
  intro M7
  refine hK.out _ _ trivial (fun hHeld => ?_); clear hK K; (try simp only [Act.put, List.setIfInBounds_toArray, List.set_cons_zero, List.set_cons_succ, List.getElem_toArray, List.getElem_cons_zero, List.getElem_cons_succ])
  refine wpAnyH_done (by kernel_rfl) ?_ _
  go_wp2_with (first
    | ((with_reducible refine gate (N := 17) rfl ?_); refine wpList_run rfl (exec_load_agg agg_cg rfl rfl M7.out (g := m) (t := 29) (cs := cA g (.slice A4 k1 d4) (.slice A5 np d5)) (vs := (cA g (.slice A4 k1 d4) (.slice A5 np d5)).toList) (by simp) rfl rfl) ?_)
    | ((with_reducible refine gateSt (t := 29) (p := 2) rfl ?_); refine wpList_store_all (n := 6) (L1 := [.row 5 1 (.slice A5 np d5) np (ints .u8 (g.prog.take 30)), .row 35 8 (.slice A4 k1 d4) k1 (ptC (g.parts.take k1))]) (mid := (cNil).toList) (vs := (cA g (.slice A4 k1 d4) (.slice A5 np d5)).toList) rfl rfl (by kernel_rfl) rfl rfl rfl rfl rfl (one_all rfl) M7.out ?_; intro w9 M; (have M9 := hid M); clear M))
  refine bodyPost_ret (v := .agg (cA g (.slice A4 k1 d4) (.slice A5 np d5))) (results_agg (p := 2) rfl agg_cg _ (by rfl) (M9.out.heap (g := q) (t := 29) (by simp)) rfl) rfl (.mk ?_)
  refine ⟨⟨g.b0, g.b1, g.b2, g.b3, g.parts.take k1, g.prog.take 30⟩, .slice A4 k1 d4, .slice A5 np d5, hO2.out, (show (g.parts.take k1).length ≤ 210 by rw [hl1.out]; exact b1), (show (g.prog.take 30).length ≤ 30 by rw [hnpH.out]; exact hnp30), rfl, ?_⟩
  show Own w _ [.row 5 1 _ (g.prog.take 30).length _, .row 35 8 _ (g.parts.take k1).length _]
  rw [hl1.out, hnpH.out]
  exact M9.out.sub (by simp)
end Go.Proofs.Yteoicpbfjkjogaa
