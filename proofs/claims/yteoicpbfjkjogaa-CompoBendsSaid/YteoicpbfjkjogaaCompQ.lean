/- Layer 13: a glyph's bytes, by the document. -/
import Derived.Test.YteoicpbfjkjogaaCompR
import Derived.Test.YteoicpbfjkjogaaJoin
namespace Go.Proofs.Yteoicpbfjkjogaa
open Go Go.RowKit
set_option linter.unusedVariables false
set_option linter.unusedSimpArgs false
set_option maxRecDepth 100000

theorem f_32 {f : Int} (f0 : 0 ≤ f) (h : flagB f = true) : hasB (f + 32) 1 = hasB f 1 ∧ kd (f + 32) = kd f ∧ hasB (f + 32) 256 = hasB f 256 ∧ f + 32 < 65536 := by
  obtain ⟨h16, h32, h2048, hlt⟩ := flagB_iff.1 h
  have e1 : hasB (f + 32) 1 = hasB f 1 := by unfold hasB; rw [show (f + 32) / 1 % 2 = f / 1 % 2 by omega]
  have e8 : hasB (f + 32) 8 = hasB f 8 := by unfold hasB; rw [show (f + 32) / 8 % 2 = f / 8 % 2 by omega]
  have e64 : hasB (f + 32) 64 = hasB f 64 := by unfold hasB; rw [show (f + 32) / 64 % 2 = f / 64 % 2 by omega]
  have e128 : hasB (f + 32) 128 = hasB f 128 := by unfold hasB; rw [show (f + 32) / 128 % 2 = f / 128 % 2 by omega]
  have e256 : hasB (f + 32) 256 = hasB f 256 := by unfold hasB; rw [show (f + 32) / 256 % 2 = f / 256 % 2 by omega]
  refine ⟨e1, ?_, e256, by omega⟩
  unfold kd
  rw [e8, e64, e128]
/-- A list of bytes of the call's own, and what lies beside it. -/
def AtL (w : World) (l : List Int) (E : List Ent) (s : Value) (wx : World) : Prop :=
  ∃ (A : Option Addr) (c n : Nat), l.length = n ∧ s = .slice A n c ∧ Own w wx (.row 5 1 (.slice A n c) n (ints .u8 l) :: E)
theorem box_len (g : Cg) (k : Nat) (h : k ≤ 4) : ((g.box.take k).flatMap s2).length = 2 * k := by
  rcases (by omega : k = 0 ∨ k = 1 ∨ k = 2 ∨ k = 3 ∨ k = 4) with rfl | rfl | rfl | rfl | rfl <;> rfl
theorem d_box {W0 w : World} {L : List Ent} {m : Nat} {g : Cg} {vp vg : Value} (M : Own W0 w L) (h : .blk m 52 (dA g vp vg) ∈ L) :
    w.cell? ⟨m, 0, none⟩ = some (.int .i64 g.b0) ∧ w.cell? ⟨m, 1, none⟩ = some (.int .i64 g.b1) ∧ w.cell? ⟨m, 2, none⟩ = some (.int .i64 g.b2) ∧ w.cell? ⟨m, 3, none⟩ = some (.int .i64 g.b3) := ⟨M.cell h 0, M.cell h 1, M.cell h 2, M.cell h 3⟩
abbrev preL (g : Cg) (k : Nat) : List Int := b2 65535 ++ (g.box.take k).flatMap s2
theorem preL_succ (g : Cg) {k : Nat} (h : k < 4) : preL g (k + 1) = preL g k ++ s2 (g.box.getD k 0) := by
  rcases (by omega : k = 0 ∨ k = 1 ∨ k = 2 ∨ k = 3) with rfl | rfl | rfl | rfl <;> simp [preL, Cg.box]
/-- What is told when k parts are done. -/
def docL (g : Cg) (k : Nat) : List Int := preL g 4 ++ (laysP g.parts k ++ (if k = g.parts.length then progB g else []))
theorem docL_0 {g : Cg} {np : Nat} (h : g.parts.length = np) (h1 : 1 ≤ np) : docL g 0 = preL g 4 := by
  unfold docL
  rw [if_neg (by omega)]
  simp [laysP]
theorem docL_le {g : Cg} {np k : Nat} (h : g.parts.length = np) (hk : k < np) : (docL g k).length ≤ 10 + 16 * k := by
  unfold docL
  rw [if_neg (by omega)]
  simp only [List.length_append, List.length_nil, b2_length, preL]
  rw [box_len g 4 (by omega)]
  have := laysP_length g.parts k
  omega
theorem docL_succ {g : Cg} {np k : Nat} (h : g.parts.length = np) (hk : k < np) : docL g (k + 1) = docL g k ++ (b2 (layF (pAt g.parts k).f (decide (k + 1 = np))) ++ b2 (pAt g.parts k).g) ++ xyB (pAt g.parts k) ++ mB (pAt g.parts k) ++ (if decide (k + 1 = np) then progB g else []) := by
  subst h
  unfold docL
  rw [if_neg (show ¬ k = g.parts.length by omega), laysP_succ]
  unfold layP
  by_cases hl : k + 1 = g.parts.length <;> simp [hl, List.append_assoc]
theorem docL_all (g : Cg) : docL g g.parts.length = cgB g := by
  unfold docL cgB
  rw [if_pos rfl, show preL g 4 = b2 65535 ++ g.box.flatMap s2 from rfl, List.append_assoc]
theorem docL_prog {g : Cg} {np k : Nat} (h : g.parts.length = np) (hk : k + 1 = np) : progB g = if hasB (pAt g.parts k).f 256 then b2 g.prog.length ++ g.prog else [] := by
  subst h
  unfold progB
  rw [← hk]
  rfl
theorem partsB_at {ps : List Pt} {n k : Nat} (h : partsB ps n = true) (hk : k < n) : partB (pAt ps k) = true := (of_decide_eq_true h k hk).2
theorem layF_facts {p : Pt} {lst : Bool} (hO : p.Ok) (h : partB p = true) : 0 ≤ layF p.f lst ∧ layF p.f lst < 65536 ∧ hasB (layF p.f lst) 1 = hasB p.f 1 ∧ kd (layF p.f lst) = kd p.f ∧ hasB (layF p.f lst) 256 = hasB p.f 256 := by
  have hf : flagB p.f = true := by
    unfold partB at h
    simp only [Bool.and_eq_true] at h
    exact h.2.1
  obtain ⟨a, b, c, d⟩ := f_32 hO.f.1 hf
  cases lst
  · exact ⟨by have := hO.f.1; show 0 ≤ p.f + 32; omega, d, a, b, c⟩
  · exact ⟨hO.f.1, hO.f.2, rfl, rfl, rfl⟩
theorem part_mat {p : Pt} (h : partB p = true) : matB p = true := by
  unfold partB at h
  simp only [Bool.and_eq_true] at h
  exact h.2.2.1
/-- The numbers that are told of a matrix, by its kind. -/
def plK (K : Int) : List Int := if K = 4 then [0, 1, 2, 3] else if K = 2 then [0, 3] else if K = 1 then [0] else []
def mAt (p : Pt) (z : Int) : Int := [p.a, p.b, p.c, p.d].getD z.toNat 0
theorem plK_in {K : Int} : (plK K).length ≤ 4 ∧ ∀ z ∈ plK K, z = 0 ∨ z = 1 ∨ z = 2 ∨ z = 3 := by
  unfold plK
  split
  · exact ⟨by decide, fun z hz => by simpa using hz⟩
  · split
    · exact ⟨by decide, fun z hz => by simp at hz; omega⟩
    · split
      · exact ⟨by decide, fun z hz => by simp at hz; omega⟩
      · exact ⟨by decide, fun z hz => by cases hz⟩
theorem plK_m (p : Pt) : (plK (kd p.f)).flatMap (fun z => s2 (mAt p z)) = mB p := by
  unfold plK mB
  split
  · rfl
  · split
    · rfl
    · split <;> rfl
theorem part_small {p : Pt} (h : partB p = true) (h1 : hasB p.f 1 = false) : (-128 ≤ p.x ∧ p.x ≤ 127) ∧ -128 ≤ p.y ∧ p.y ≤ 127 := by
  unfold partB at h
  rw [h1] at h
  simp only [Bool.and_eq_true, Bool.or_eq_true, smallB, decide_eq_true_eq] at h
  obtain ⟨-, -, -, h⟩ := h
  rcases h with h | h
  · cases h
  · exact h
set_option maxHeartbeats 8000000 in
theorem refBytes_calls (w : World) {g : Cg} {vp vg : Value} (hO : g.Ok) (hG : DAt w g vp vg) (hR : cgR g = true) :
    Calls Try.prog 22 #[.agg (dA g vp vg)] w (Ret fun r w' => Own w w' [.row 5 1 r (cgB g).length (ints .u8 (cgB g))]) := by
  have hbox := hid (⟨hO.x0, hO.x1, hO.x2, hO.x3⟩ : I16 g.b0 ∧ I16 g.b1 ∧ I16 g.b2 ∧ I16 g.b3)
  have M0 := hid (Own.start w)
  obtain ⟨hall, hn1, hn2, hg1, -⟩ := cgR_parts hR
  have hgH := hid (fun w1 (h : Below w.heap.size w w1) => hG.g.below h)
  obtain ⟨hp, hgg⟩ := hG
  obtain ⟨Ap, cp, rfl, hcp, hmp, -, hrp⟩ := hp
  obtain ⟨Ag, cg, rfl, hcg, hmg, -, -⟩ := hgg
  unfold maxLen at hmp hmg
  have hOH := hid hO
  obtain ⟨np, hnp⟩ : ∃ n, g.parts.length = n := ⟨_, rfl⟩
  obtain ⟨ng, hng⟩ : ∃ n, g.prog.length = n := ⟨_, rfl⟩
  rw [hnp] at hrp hcp hn1 hn2 hall
  rw [hng] at hcg hg1 hgH
  simp only [dA, hnp, hng]
  obtain ⟨ad, rfl⟩ : ∃ ad, Ap = some ad := by obtain ⟨ad, e, -⟩ := hrp.2 (by omega); exact ⟨ad, e⟩
  have hPA := hid (fun w' hb i hi => dpart_at (w' := w') (i := i) hnp hrp hb hi)
  have hallH := hid hall
  have hnpH := hid hnp
  have hngH := hid hng
  clear hrp hnp hng hO hall hR
  go_enter Try.func22, Try.ntmps22
  go_wp2_with (first
    | ((with_reducible refine gate (N := 1) rfl ?_); refine wpList_box_Own rfl (cs := dA g (.slice (some ad) np cp) (.slice Ag ng cg)) (t := 52) (by first | (go_simp; done) | (go_simp; rfl)) M0.out ?_; intro m w1 M; (have M1 := hid M); clear M)
    | (go_at_call 41; refine (B2_calls w1 (n := 65535) (by decide) (by decide)).mono ?_; rintro _ w2 ⟨_, rfl, M⟩; obtain ⟨A2, c2, rfl⟩ := M.form (.head _); ((have M2 := hid (M1.out.lift M))); (clear M); obtain ⟨d4, d5⟩ := d_cells (m := m) (g := g) (vp := .slice (some ad) np cp) (vg := .slice Ag ng cg) M2.out (by simp); obtain ⟨d0, d1, d2, d3⟩ := d_box (m := m) (g := g) (vp := .slice (some ad) np cp) (vg := .slice Ag ng cg) M2.out (by simp)))
  clear d0 d1 d2 d3 d4 d5
  go_loopw [3, 14] (fun s i wr => ∃ (k : Nat), k ≤ 4 ∧ i = .int .i64 k ∧ Hid (AtL w (preL g k) [.blk m 52 (dA g (.slice (some ad) np cp) (.slice Ag ng cg))] s wr)) (fun _ i _ => 4 - (intOf i).toNat)
  case atStart => exact ⟨0, by omega, rfl, hid ⟨A2, c2, 2, rfl, rfl, M2.out⟩⟩
  case round =>
    clear M1 M2 M0
    obtain ⟨k, hk, rfl, hL⟩ := hrel
    obtain ⟨A, c, n, hn, rfl, MR⟩ := hL.out
    clear hL
    replace MR := hid MR
    replace hn := hid hn
    have hn10 := hid (show n = 2 + 2 * k by rw [← hn.out]; simp only [preL, List.length_append, b2_length]; rw [box_len g k hk])
    rcases (show k = 0 ∨ k = 1 ∨ k = 2 ∨ k = 3 ∨ k = 4 by omega) with rfl | rfl | rfl | rfl | rfl
    · -- <f1
      have hx := hbox.out.1
      have hsn := hid (preL_succ g (k := 0) (by omega))
      go_wp2_with (first
        | ((with_reducible refine gate (N := 16) rfl ?_); refine wpList_run (v := .int .i64 g.b0) (w' := wr) rfl (by kernel_rfl) ?_)
        | (go_at_call 42; refine (S2_calls wr (n := g.b0) (by omega) (by omega)).mono ?_; rintro _ w4 ⟨_, rfl, M⟩; obtain ⟨A4, c4, rfl⟩ := M.form (.head _); ((have M4 := hid (MR.out.lift M))); (clear M))
        | (go_at_call 21; (have hC := join2_calls w4 (v1 := .slice A n c) (v2 := .slice A4 2 c4) (p := preL g 0) (q := s2 g.b0) (n := n + 2) (M4.out.bytes (e := 5) (n := n) (by simp) hn.out) (M4.out.bytes (e := 5) (n := 2) (.head _) rfl) (by rw [hn.out]; rfl) (by have := hn10.out; omega)); ((with_reducible refine hC.mono ?_); clear hC); rintro _ w5 ⟨_, rfl, M⟩; obtain ⟨A5, c5, rfl⟩ := M.form (.head _); (have M5 : Hid (Own w w5 [.row 5 1 (.slice A5 (n + 2) c5) (n + 2) (ints .u8 (preL g 0 ++ s2 g.b0)), .blk m 52 (dA g (.slice (some ad) np cp) (.slice Ag ng cg))]) := hid ((M4.out.lift M).sub (by simp))); clear M))
      go_roundw
      case rel => exact ⟨1, by omega, by go_num, hid ⟨A5, c5, n + 2, by rw [hsn.out, List.length_append, hn.out]; rfl, rfl, by rw [hsn.out]; exact M5.out⟩⟩
      case measure => simp [intOf]
      -- f1>
    · -- <f2
      have hx := hbox.out.2.1
      have hsn := hid (preL_succ g (k := 1) (by omega))
      go_wp2_with (first
        | ((with_reducible refine gate (N := 16) rfl ?_); refine wpList_run (v := .int .i64 g.b1) (w' := wr) rfl (by kernel_rfl) ?_)
        | (go_at_call 42; refine (S2_calls wr (n := g.b1) (by omega) (by omega)).mono ?_; rintro _ w4 ⟨_, rfl, M⟩; obtain ⟨A4, c4, rfl⟩ := M.form (.head _); ((have M4 := hid (MR.out.lift M))); (clear M))
        | (go_at_call 21; (have hC := join2_calls w4 (v1 := .slice A n c) (v2 := .slice A4 2 c4) (p := preL g 1) (q := s2 g.b1) (n := n + 2) (M4.out.bytes (e := 5) (n := n) (by simp) hn.out) (M4.out.bytes (e := 5) (n := 2) (.head _) rfl) (by rw [hn.out]; rfl) (by have := hn10.out; omega)); ((with_reducible refine hC.mono ?_); clear hC); rintro _ w5 ⟨_, rfl, M⟩; obtain ⟨A5, c5, rfl⟩ := M.form (.head _); (have M5 : Hid (Own w w5 [.row 5 1 (.slice A5 (n + 2) c5) (n + 2) (ints .u8 (preL g 1 ++ s2 g.b1)), .blk m 52 (dA g (.slice (some ad) np cp) (.slice Ag ng cg))]) := hid ((M4.out.lift M).sub (by simp))); clear M))
      go_roundw
      case rel => exact ⟨2, by omega, by go_num, hid ⟨A5, c5, n + 2, by rw [hsn.out, List.length_append, hn.out]; rfl, rfl, by rw [hsn.out]; exact M5.out⟩⟩
      case measure => simp [intOf]
      -- f2>
    · -- <f3
      have hx := hbox.out.2.2.1
      have hsn := hid (preL_succ g (k := 2) (by omega))
      go_wp2_with (first
        | ((with_reducible refine gate (N := 16) rfl ?_); refine wpList_run (v := .int .i64 g.b2) (w' := wr) rfl (by kernel_rfl) ?_)
        | (go_at_call 42; refine (S2_calls wr (n := g.b2) (by omega) (by omega)).mono ?_; rintro _ w4 ⟨_, rfl, M⟩; obtain ⟨A4, c4, rfl⟩ := M.form (.head _); ((have M4 := hid (MR.out.lift M))); (clear M))
        | (go_at_call 21; (have hC := join2_calls w4 (v1 := .slice A n c) (v2 := .slice A4 2 c4) (p := preL g 2) (q := s2 g.b2) (n := n + 2) (M4.out.bytes (e := 5) (n := n) (by simp) hn.out) (M4.out.bytes (e := 5) (n := 2) (.head _) rfl) (by rw [hn.out]; rfl) (by have := hn10.out; omega)); ((with_reducible refine hC.mono ?_); clear hC); rintro _ w5 ⟨_, rfl, M⟩; obtain ⟨A5, c5, rfl⟩ := M.form (.head _); (have M5 : Hid (Own w w5 [.row 5 1 (.slice A5 (n + 2) c5) (n + 2) (ints .u8 (preL g 2 ++ s2 g.b2)), .blk m 52 (dA g (.slice (some ad) np cp) (.slice Ag ng cg))]) := hid ((M4.out.lift M).sub (by simp))); clear M))
      go_roundw
      case rel => exact ⟨3, by omega, by go_num, hid ⟨A5, c5, n + 2, by rw [hsn.out, List.length_append, hn.out]; rfl, rfl, by rw [hsn.out]; exact M5.out⟩⟩
      case measure => simp [intOf]
      -- f3>
    · -- <f4
      have hx := hbox.out.2.2.2
      have hsn := hid (preL_succ g (k := 3) (by omega))
      go_wp2_with (first
        | ((with_reducible refine gate (N := 16) rfl ?_); refine wpList_run (v := .int .i64 g.b3) (w' := wr) rfl (by kernel_rfl) ?_)
        | (go_at_call 42; refine (S2_calls wr (n := g.b3) (by omega) (by omega)).mono ?_; rintro _ w4 ⟨_, rfl, M⟩; obtain ⟨A4, c4, rfl⟩ := M.form (.head _); ((have M4 := hid (MR.out.lift M))); (clear M))
        | (go_at_call 21; (have hC := join2_calls w4 (v1 := .slice A n c) (v2 := .slice A4 2 c4) (p := preL g 3) (q := s2 g.b3) (n := n + 2) (M4.out.bytes (e := 5) (n := n) (by simp) hn.out) (M4.out.bytes (e := 5) (n := 2) (.head _) rfl) (by rw [hn.out]; rfl) (by have := hn10.out; omega)); ((with_reducible refine hC.mono ?_); clear hC); rintro _ w5 ⟨_, rfl, M⟩; obtain ⟨A5, c5, rfl⟩ := M.form (.head _); (have M5 : Hid (Own w w5 [.row 5 1 (.slice A5 (n + 2) c5) (n + 2) (ints .u8 (preL g 3 ++ s2 g.b3)), .blk m 52 (dA g (.slice (some ad) np cp) (.slice Ag ng cg))]) := hid ((M4.out.lift M).sub (by simp))); clear M))
      go_roundw
      case rel => exact ⟨4, by omega, by go_num, hid ⟨A5, c5, n + 2, by rw [hsn.out, List.length_append, hn.out]; rfl, rfl, by rw [hsn.out]; exact M5.out⟩⟩
      case measure => simp [intOf]
      -- f4>
    · clear hbox
      rw [show ((4 : Nat) : Int) = 4 from rfl]
      obtain ⟨d4, -⟩ := d_cells (m := m) (g := g) (vp := .slice (some ad) np cp) (vg := .slice Ag ng cg) MR.out (by simp)
      go_wp2_with fail
      clear d4
      go_loopw [3, 26] (fun s i wr => ∃ (t : Nat), t ≤ np ∧ i = .int .i64 t ∧ Hid (AtL w (docL g t) [.blk m 52 (dA g (.slice (some ad) np cp) (.slice Ag ng cg))] s wr)) (fun _ i _ => np - (intOf i).toNat)
      case atStart => exact ⟨0, by omega, rfl, hid ⟨A, c, n, by rw [docL_0 hnpH.out hn1]; exact hn.out, rfl, by rw [docL_0 hnpH.out hn1]; exact MR.out⟩⟩
      case round =>
        clear MR hn hn10 hk
        obtain ⟨t, ht, rfl, hL⟩ := hrel
        obtain ⟨A, c, n, hn, rfl, MR⟩ := hL.out
        clear hL
        replace MR := hid MR
        replace hn := hid hn
        by_cases htl : t < np
        · obtain ⟨k0, k1, k2, k3, k4, k5, k6, k7⟩ := hPA.out wr MR.out.below t htl
          have hOk := hid (hOH.out.at t)
          have hnb := hid (docL_le (g := g) (k := t) hnpH.out htl)
          have hsn := hid (docL_succ (g := g) (k := t) hnpH.out htl)
          have hpb := hid (partsB_at hallH.out htl)
          obtain ⟨d4, -⟩ := d_cells (m := m) (g := g) (vp := .slice (some ad) np cp) (vg := .slice Ag ng cg) MR.out (by simp)
          have hpg := hid (fun h => docL_prog (g := g) (k := t) hnpH.out h)
          generalize docL g t = l at *
          generalize pAt g.parts t = p at *
          obtain ⟨lst, hlst⟩ : ∃ b, decide (t + 1 = np) = b := ⟨_, rfl⟩
          rw [hlst] at hsn
          obtain ⟨F, hF⟩ : ∃ F, layF p.f lst = F := ⟨_, rfl⟩
          have hFF := hid (layF_facts (lst := lst) hOk.out hpb.out)
          rw [hF] at hFF
          replace hF := hid hF
          replace hlst := hid hlst
          go_upto_region 11 with (first
            | ((with_reducible refine gate (N := 7) rfl ?_); refine wpList_box_Own rfl (cs := dtA pt0) (t := 82) (by first | (go_simp; done) | (go_simp; rfl)) MR.out ?_; intro q w6 M; (clear k0 k1 k2 k3 k4 k5 k6 k7 d4); (have M6 := hid M); clear M)
            | ((with_reducible refine gateSt (t := 82) (p := 7) rfl ?_); refine wpList_store_all (n := 8) (L1 := []) (mid := (dtA pt0).toList) (vs := (dtA p).toList) rfl rfl (by kernel_rfl) rfl rfl rfl rfl rfl (one_all rfl) M6.out ?_; intro w7 M; obtain ⟨e0, e2, e3⟩ := dt_cells (m := q) (p := p) M (by simp); obtain ⟨d4, -⟩ := d_cells (m := m) (g := g) (vp := .slice (some ad) np cp) (vg := .slice Ag ng cg) M (by simp); (have M7 := hid M); clear M))
          clear MR M6
          try simp only [Act.put, List.setIfInBounds_toArray, List.set_cons_zero, List.set_cons_succ, List.getElem_toArray, List.getElem_cons_zero, List.getElem_cons_succ]
          obtain ⟨nl, hnl⟩ : ∃ b, decide (t + 1 < np) = b := ⟨_, rfl⟩
          replace hnl := hid hnl
          go_cut [38] (fun s wx => s = .bool nl ∧ w7 = wx)
          case first =>
            by_cases hl : t + 1 < np
            · have hl' : (t : Int) < (np : Int) - 1 := by omega
              go_wp2
              go_meet
              exact ⟨by rw [← hnl.out, decide_eq_true hl], rfl⟩
            · have hl' : ¬ (t : Int) < (np : Int) - 1 := by omega
              go_wp2
              go_meet
              exact ⟨by rw [← hnl.out, decide_eq_false hl], rfl⟩
          obtain ⟨hs, hw⟩ := hcut
          subst hs hw
          go_upto_if 38 with fail
          go_cut [8] (fun s wx => s = .int .i64 F ∧ w7 = wx)
          case first =>
            -- <one
            have hnl := hnl.out
            have hlst := hlst.out
            cases nl
            · have h2 : t + 1 = np := by have := of_decide_eq_false hnl; omega
              have hF2 : p.f = F := by rw [← hF.out, ← hlst, decide_eq_true h2]; rfl
              replace hF2 := hid hF2
              go_wp2
              go_meet
              exact ⟨congrArg (Value.int .i64) hF2.out, rfl⟩
            · have h2 : ¬ t + 1 = np := by have := of_decide_eq_true hnl; omega
              have hw : IntKind.i64.wrap (p.f + 32) = p.f + 32 := by have := hOk.out.f; rw [IntKind.wrap_i64]; omega
              have hF2 : p.f + 32 = F := by rw [← hF.out, ← hlst, decide_eq_false h2]; rfl
              replace hF2 := hid hF2
              go_wp2
              go_meet
              exact ⟨congrArg (Value.int .i64) hF2.out, rfl⟩
            -- one>
          obtain ⟨hs, hw⟩ := hcut
          subst hs hw
          obtain ⟨F0, F1, hF1, hFk, hF256⟩ := hFF.out
          have hbF := hid (fun w1 => B2_calls w1 F0 (by omega))
          have hbg := hid (fun w1 => B2_calls w1 hOk.out.g.1 (by have := hOk.out.g.2; omega))
          go_upto_region 13 with fail
          go_cut [3] (fun s wx => Hid (AtL w (l ++ b2 F ++ b2 p.g) [.blk q 82 (dtA p), .blk m 52 (dA g (.slice (some ad) np cp) (.slice Ag ng cg))] s wx))
          case first =>
            -- <two
            have hc := M7.out.drew.cell (g := q) (t := 82) (cs := dtA p) (by simp) 1
            refine wp_region_held_drew (S := fun w' => w'.cell? ⟨q, 1, none⟩ = some (.int .i64 p.g)) (by kernel_rfl) hc (fun hHeld => ?_)
            have MW := hid M7.out.drew
            clear hc
            repeat (first | (refine wpAnyH_take (i := 0) (v := ?_) rfl (by kernel_rfl) (by decide +kernel) (by decide +kernel) (fun _ _ _ h => h) ?_ (by assumption) ?_; rotate_left; (first | (refine yields_load (by rfl) rfl rfl ?_; intro w hSw; (try dsimp only at hSw); go_split_ands; assumption) | (refine Or.inl ⟨by rfl, ?_⟩; intro w hSw; (try dsimp only at hSw); go_simp; done) | (refine Or.inl ⟨by rfl, ?_⟩; intro w hSw; (try dsimp only at hSw); go_simp; with_reducible rfl) | exact Or.inr ⟨by rfl, rfl⟩ | exact Or.inr ⟨by rfl, by rfl⟩); (try simp only [Act.put, List.setIfInBounds_toArray, List.set_cons_zero, List.set_cons_succ, List.getElem_toArray, List.getElem_cons_zero, List.getElem_cons_succ])) | (refine wpAnyH_take (i := 1) (v := ?_) rfl (by kernel_rfl) (by decide +kernel) (by decide +kernel) (fun _ _ _ h => h) ?_ (by assumption) ?_; rotate_left; (first | (refine yields_load (by rfl) rfl rfl ?_; intro w hSw; (try dsimp only at hSw); go_split_ands; assumption) | (refine Or.inl ⟨by rfl, ?_⟩; intro w hSw; (try dsimp only at hSw); go_simp; done) | (refine Or.inl ⟨by rfl, ?_⟩; intro w hSw; (try dsimp only at hSw); go_simp; with_reducible rfl) | exact Or.inr ⟨by rfl, rfl⟩ | exact Or.inr ⟨by rfl, by rfl⟩); (try simp only [Act.put, List.setIfInBounds_toArray, List.set_cons_zero, List.set_cons_succ, List.getElem_toArray, List.getElem_cons_zero, List.getElem_cons_succ])) | (refine wpAnyH_take (i := 3) (v := ?_) rfl (by kernel_rfl) (by decide +kernel) (by decide +kernel) (fun _ _ _ h => h) ?_ (by assumption) ?_; rotate_left; (first | (refine yields_load (by rfl) rfl rfl ?_; intro w hSw; (try dsimp only at hSw); go_split_ands; assumption) | (refine Or.inl ⟨by rfl, ?_⟩; intro w hSw; (try dsimp only at hSw); go_simp; done) | (refine Or.inl ⟨by rfl, ?_⟩; intro w hSw; (try dsimp only at hSw); go_simp; with_reducible rfl) | exact Or.inr ⟨by rfl, rfl⟩ | exact Or.inr ⟨by rfl, by rfl⟩); (try simp only [Act.put, List.setIfInBounds_toArray, List.set_cons_zero, List.set_cons_succ, List.getElem_toArray, List.getElem_cons_zero, List.getElem_cons_succ])) | (refine wpAnyH_take (i := 4) (v := ?_) rfl (by kernel_rfl) (by decide +kernel) (by decide +kernel) (fun _ _ _ h => h) ?_ (by assumption) ?_; rotate_left; (first | (refine yields_load (by rfl) rfl rfl ?_; intro w hSw; (try dsimp only at hSw); go_split_ands; assumption) | (refine Or.inl ⟨by rfl, ?_⟩; intro w hSw; (try dsimp only at hSw); go_simp; done) | (refine Or.inl ⟨by rfl, ?_⟩; intro w hSw; (try dsimp only at hSw); go_simp; with_reducible rfl) | exact Or.inr ⟨by rfl, rfl⟩ | exact Or.inr ⟨by rfl, by rfl⟩); (try simp only [Act.put, List.setIfInBounds_toArray, List.set_cons_zero, List.set_cons_succ, List.getElem_toArray, List.getElem_cons_zero, List.getElem_cons_succ])))
            refine wpAnyH_ready (rs := [2]) (by decide +kernel) (by simp) ?_; refine AllReadyH.cons rfl (fun K hK => ?_) AllReadyH.nil; go_simp
            refine (hbF.out _).mono ?_
            rintro _ w8 ⟨_, rfl, M⟩
            obtain ⟨A8, c8, rfl⟩ := M.form (.head _)
            have M8 := hid (MW.out.lift M)
            clear M
            go_wp2_with fail
            have hc := M8.out.cell (g := q) (t := 82) (cs := dtA p) (by simp) 1
            refine hK.out _ _ hc (fun hHeld => ?_); clear hK K; (try simp only [Act.put, List.setIfInBounds_toArray, List.set_cons_zero, List.set_cons_succ, List.getElem_toArray, List.getElem_cons_zero, List.getElem_cons_succ])
            clear hc
            refine wpAnyH_ready (rs := [5]) (by decide +kernel) (by simp) ?_; refine AllReadyH.cons rfl (fun K hK => ?_) AllReadyH.nil; go_simp
            refine (hbg.out _).mono ?_
            rintro _ w9 ⟨_, rfl, M⟩
            obtain ⟨A9, c9, rfl⟩ := M.form (.head _)
            have M9 := hid (M8.out.lift M)
            clear M
            go_wp2_with fail
            have hc := M9.out.cell (g := q) (t := 82) (cs := dtA p) (by simp) 1
            refine hK.out _ _ hc (fun hHeld => ?_); clear hK K; (try simp only [Act.put, List.setIfInBounds_toArray, List.set_cons_zero, List.set_cons_succ, List.getElem_toArray, List.getElem_cons_zero, List.getElem_cons_succ])
            clear hc
            refine wpAnyH_ready (rs := [6]) (by decide +kernel) (by simp) ?_; refine AllReadyH.cons rfl (fun K hK => ?_) AllReadyH.nil; go_simp
            have MA := hid (M9.out.alloc 22 #[.slice A n c, .slice A8 2 c8, .slice A9 2 c9])
            have hc := MA.out.cell (g := q) (t := 82) (cs := dtA p) (by simp) 1
            refine hK.out _ _ hc (fun hHeld => ?_); clear hK K; (try simp only [Act.put, List.setIfInBounds_toArray, List.set_cons_zero, List.set_cons_succ, List.getElem_toArray, List.getElem_cons_zero, List.getElem_cons_succ])
            clear hc
            refine wpAnyH_ready (rs := [7]) (by decide +kernel) (by simp) ?_; refine AllReadyH.cons rfl (fun K hK => ?_) AllReadyH.nil; go_simp
            have hC := join3_calls w9 (v1 := .slice A n c) (v2 := .slice A8 2 c8) (v3 := .slice A9 2 c9) (p := l) (q := b2 F) (s := b2 p.g) (n := n + 4) (M9.out.bytes (e := 5) (n := n) (by simp) hn.out) (M9.out.bytes (e := 5) (n := 2) (by simp) rfl) (M9.out.bytes (e := 5) (n := 2) (.head _) rfl) (by rw [hn.out]; rfl) (by have := hnb.out; have := hn.out; omega)
            refine hC.mono ?_
            clear hC
            rintro _ w10 ⟨_, rfl, M⟩
            obtain ⟨A10, c10, rfl⟩ := M.form (.head _)
            have M10 : Hid (Own w w10 [.row 5 1 (.slice A10 (n + 4) c10) (n + 4) (ints .u8 (l ++ b2 F ++ b2 p.g)), .blk q 82 (dtA p), .blk m 52 (dA g (.slice (some ad) np cp) (.slice Ag ng cg))]) := hid ((M9.out.lift M).sub (by simp))
            clear M
            go_wp2_with fail
            have hc := M10.out.cell (g := q) (t := 82) (cs := dtA p) (by simp) 1
            refine hK.out _ _ hc (fun hHeld => ?_); clear hK K; (try simp only [Act.put, List.setIfInBounds_toArray, List.set_cons_zero, List.set_cons_succ, List.getElem_toArray, List.getElem_cons_zero, List.getElem_cons_succ])
            clear hc
            repeat (first | (refine wpAnyH_take (i := 8) (v := ?_) rfl (by kernel_rfl) (by decide +kernel) (by decide +kernel) (fun _ _ _ h => h) ?_ (by assumption) ?_; rotate_left; (first | (refine yields_load (by rfl) rfl rfl ?_; intro w hSw; (try dsimp only at hSw); go_split_ands; assumption) | (refine Or.inl ⟨by rfl, ?_⟩; intro w hSw; (try dsimp only at hSw); go_simp; done) | (refine Or.inl ⟨by rfl, ?_⟩; intro w hSw; (try dsimp only at hSw); go_simp; with_reducible rfl) | exact Or.inr ⟨by rfl, rfl⟩ | exact Or.inr ⟨by rfl, by rfl⟩); (try simp only [Act.put, List.setIfInBounds_toArray, List.set_cons_zero, List.set_cons_succ, List.getElem_toArray, List.getElem_cons_zero, List.getElem_cons_succ])))
            refine wpAnyH_done (by kernel_rfl) ?_ _
            go_wp2_with fail
            go_meet
            exact hid ⟨A10, c10, n + 4, by simp only [List.length_append, hn.out, b2_length], rfl, M10.out⟩
            -- two>
          obtain ⟨A1, c1, n1, hn1', hs, M11⟩ := hcut.out
          subst hs
          clear hcut M7 hbF hbg hnl
          replace M11 := hid M11
          have hsn2 := hsn.out
          rw [hF.out, ← List.append_assoc l (b2 F) (b2 p.g)] at hsn2
          have hnb2 : n1 ≤ 14 + 16 * t := by have := hnb.out; rw [← hn1']; simp only [List.length_append, b2_length]; omega
          clear hsn hnb hn
          generalize l ++ b2 F ++ b2 p.g = l2 at *
          replace hn1' := hid hn1'
          replace hsn2 := hid hsn2
          have hH1 := fun w1 => refHas_calls w1 (k := 1) F0 F1 (by decide)
          rw [hF1] at hH1
          replace hH1 := hid hH1
          have hbx := hid (fun w1 => S2_calls w1 (n := p.x) (by have := hOk.out.x.1; omega) (by have := hOk.out.x.2; omega))
          have hby := hid (fun w1 => S2_calls w1 (n := p.y) (by have := hOk.out.y.1; omega) (by have := hOk.out.y.2; omega))
          have hxy := hid (show xyB p = if hasB p.f 1 then s2 p.x ++ s2 p.y else [p.x % 256, p.y % 256] from rfl)
          have hsm := hid (part_small hpb.out)
          obtain ⟨q1, hq1⟩ : ∃ b, hasB p.f 1 = b := ⟨_, rfl⟩
          rw [hq1] at hH1 hxy hsm
          clear hq1 hF1
          go_upto_region 14 with fail
          go_cut [50] (fun s wx => s = .bool q1 ∧ wc = wx)
          case first =>
            go_wp2_with (first
              | (go_at_call 40; (with_reducible refine (hH1.out _).mono ?_); rintro _ _ ⟨_, rfl, rfl, rfl⟩))
            go_meet
            exact ⟨rfl, rfl⟩
          obtain ⟨hs, hw⟩ := hcut
          subst hs hw
          go_upto_if 50 with fail
          go_cut [3] (fun s wx => Hid (AtL w (l2 ++ xyB p) [.blk q 82 (dtA p), .blk m 52 (dA g (.slice (some ad) np cp) (.slice Ag ng cg))] s wx))
          case first =>
            -- <three
            cases q1
            · obtain ⟨⟨s0, s1⟩, s2, s3⟩ := hsm.out rfl
              obtain ⟨-, e2, e3⟩ := dt_cells (m := q) (p := p) M11.out (by simp)
              have z0 : IntKind.i64.wrap (p.x + 256) = p.x + 256 := by rw [IntKind.wrap_i64]; omega
              have z1 : (p.x + 256).tmod 256 = p.x % 256 := by rw [Int.tmod_eq_emod_of_nonneg (by omega)]; omega
              have z2 : IntKind.i64.wrap (p.x % 256) = p.x % 256 := by rw [IntKind.wrap_i64]; omega
              have z3 : IntKind.u8.wrap (p.x % 256) = p.x % 256 := by rw [IntKind.wrap_u8]; omega
              have z4 : IntKind.i64.wrap (p.y + 256) = p.y + 256 := by rw [IntKind.wrap_i64]; omega
              have z5 : (p.y + 256).tmod 256 = p.y % 256 := by rw [Int.tmod_eq_emod_of_nonneg (by omega)]; omega
              have z6 : IntKind.i64.wrap (p.y % 256) = p.y % 256 := by rw [IntKind.wrap_i64]; omega
              have z7 : IntKind.u8.wrap (p.y % 256) = p.y % 256 := by rw [IntKind.wrap_u8]; omega
              have hxy2 : xyB p = [p.x % 256, p.y % 256] := hxy.out
              replace hxy2 := hid hxy2
              go_wp2_with (at_builtin; refine wpList_append_Own rfl (.tmp 60) (.tmp 71) _ rfl sized_u8 rfl rfl (L1 := [.blk wc.heap.size 5 #[.int .u8 (p.x % 256), .int .u8 (p.y % 256)]]) (L2 := [.blk q 82 (dtA p), .blk m 52 (dA g (.slice (some ad) np cp) (.slice Ag ng cg))]) (M11.out.alloc _ _) (SliceAt.built (M11.out.alloc _ _) (.head _) 1 2 rfl (by unfold maxLen; omega)) (one_all rfl) (by unfold maxLen; omega) (by omega) ?_; intro v' w' M'; obtain ⟨A9, c9, rfl⟩ := M'.tail.form (.head _); (have M9 := hid M'.tail); clear M')
              go_meet
              exact hid ⟨A9, c9, n1 + 2, by rw [hxy2.out, List.length_append, hn1'.out]; rfl, rfl, by rw [hxy2.out, ints_append]; exact M9.out⟩
            · have hxy2 : xyB p = s2 p.x ++ s2 p.y := hxy.out
              replace hxy2 := hid hxy2
              go_upto_region 15 with fail
              have hc := And.intro (M11.out.drew.cell (g := q) (t := 82) (cs := dtA p) (by simp) 2) (M11.out.drew.cell (g := q) (t := 82) (cs := dtA p) (by simp) 3)
              refine wp_region_held_drew (S := fun w' => w'.cell? ⟨q, 2, none⟩ = some (.int .i64 p.x) ∧ w'.cell? ⟨q, 3, none⟩ = some (.int .i64 p.y)) (by kernel_rfl) hc (fun hHeld => ?_)
              have MW := hid M11.out.drew
              clear hc
              repeat (first | (refine wpAnyH_take (i := 0) (v := ?_) rfl (by kernel_rfl) (by decide +kernel) (by decide +kernel) (fun _ _ _ h => h) ?_ (by assumption) ?_; rotate_left; (first | (refine yields_load (by rfl) rfl rfl ?_; intro w hSw; (try dsimp only at hSw); go_split_ands; assumption) | (refine Or.inl ⟨by rfl, ?_⟩; intro w hSw; (try dsimp only at hSw); go_simp; done) | (refine Or.inl ⟨by rfl, ?_⟩; intro w hSw; (try dsimp only at hSw); go_simp; with_reducible rfl) | exact Or.inr ⟨by rfl, rfl⟩ | exact Or.inr ⟨by rfl, by rfl⟩); (try simp only [Act.put, List.setIfInBounds_toArray, List.set_cons_zero, List.set_cons_succ, List.getElem_toArray, List.getElem_cons_zero, List.getElem_cons_succ])) | (refine wpAnyH_take (i := 1) (v := ?_) rfl (by kernel_rfl) (by decide +kernel) (by decide +kernel) (fun _ _ _ h => h) ?_ (by assumption) ?_; rotate_left; (first | (refine yields_load (by rfl) rfl rfl ?_; intro w hSw; (try dsimp only at hSw); go_split_ands; assumption) | (refine Or.inl ⟨by rfl, ?_⟩; intro w hSw; (try dsimp only at hSw); go_simp; done) | (refine Or.inl ⟨by rfl, ?_⟩; intro w hSw; (try dsimp only at hSw); go_simp; with_reducible rfl) | exact Or.inr ⟨by rfl, rfl⟩ | exact Or.inr ⟨by rfl, by rfl⟩); (try simp only [Act.put, List.setIfInBounds_toArray, List.set_cons_zero, List.set_cons_succ, List.getElem_toArray, List.getElem_cons_zero, List.getElem_cons_succ])) | (refine wpAnyH_take (i := 2) (v := ?_) rfl (by kernel_rfl) (by decide +kernel) (by decide +kernel) (fun _ _ _ h => h) ?_ (by assumption) ?_; rotate_left; (first | (refine yields_load (by rfl) rfl rfl ?_; intro w hSw; (try dsimp only at hSw); go_split_ands; assumption) | (refine Or.inl ⟨by rfl, ?_⟩; intro w hSw; (try dsimp only at hSw); go_simp; done) | (refine Or.inl ⟨by rfl, ?_⟩; intro w hSw; (try dsimp only at hSw); go_simp; with_reducible rfl) | exact Or.inr ⟨by rfl, rfl⟩ | exact Or.inr ⟨by rfl, by rfl⟩); (try simp only [Act.put, List.setIfInBounds_toArray, List.set_cons_zero, List.set_cons_succ, List.getElem_toArray, List.getElem_cons_zero, List.getElem_cons_succ])) | (refine wpAnyH_take (i := 4) (v := ?_) rfl (by kernel_rfl) (by decide +kernel) (by decide +kernel) (fun _ _ _ h => h) ?_ (by assumption) ?_; rotate_left; (first | (refine yields_load (by rfl) rfl rfl ?_; intro w hSw; (try dsimp only at hSw); go_split_ands; assumption) | (refine Or.inl ⟨by rfl, ?_⟩; intro w hSw; (try dsimp only at hSw); go_simp; done) | (refine Or.inl ⟨by rfl, ?_⟩; intro w hSw; (try dsimp only at hSw); go_simp; with_reducible rfl) | exact Or.inr ⟨by rfl, rfl⟩ | exact Or.inr ⟨by rfl, by rfl⟩); (try simp only [Act.put, List.setIfInBounds_toArray, List.set_cons_zero, List.set_cons_succ, List.getElem_toArray, List.getElem_cons_zero, List.getElem_cons_succ])) | (refine wpAnyH_take (i := 5) (v := ?_) rfl (by kernel_rfl) (by decide +kernel) (by decide +kernel) (fun _ _ _ h => h) ?_ (by assumption) ?_; rotate_left; (first | (refine yields_load (by rfl) rfl rfl ?_; intro w hSw; (try dsimp only at hSw); go_split_ands; assumption) | (refine Or.inl ⟨by rfl, ?_⟩; intro w hSw; (try dsimp only at hSw); go_simp; done) | (refine Or.inl ⟨by rfl, ?_⟩; intro w hSw; (try dsimp only at hSw); go_simp; with_reducible rfl) | exact Or.inr ⟨by rfl, rfl⟩ | exact Or.inr ⟨by rfl, by rfl⟩); (try simp only [Act.put, List.setIfInBounds_toArray, List.set_cons_zero, List.set_cons_succ, List.getElem_toArray, List.getElem_cons_zero, List.getElem_cons_succ])))
              refine wpAnyH_ready (rs := [3]) (by decide +kernel) (by simp) ?_; refine AllReadyH.cons rfl (fun K hK => ?_) AllReadyH.nil; go_simp
              refine (hbx.out _).mono ?_
              rintro _ w8 ⟨_, rfl, M⟩
              obtain ⟨A8, c8, rfl⟩ := M.form (.head _)
              have M8 := hid (MW.out.lift M)
              clear M
              go_wp2_with fail
              have hc := And.intro (M8.out.cell (g := q) (t := 82) (cs := dtA p) (by simp) 2) (M8.out.cell (g := q) (t := 82) (cs := dtA p) (by simp) 3)
              refine hK.out _ _ hc (fun hHeld => ?_); clear hK K; (try simp only [Act.put, List.setIfInBounds_toArray, List.set_cons_zero, List.set_cons_succ, List.getElem_toArray, List.getElem_cons_zero, List.getElem_cons_succ])
              clear hc
              refine wpAnyH_ready (rs := [6]) (by decide +kernel) (by simp) ?_; refine AllReadyH.cons rfl (fun K hK => ?_) AllReadyH.nil; go_simp
              refine (hby.out _).mono ?_
              rintro _ w9 ⟨_, rfl, M⟩
              obtain ⟨A9, c9, rfl⟩ := M.form (.head _)
              have M9 := hid (M8.out.lift M)
              clear M
              go_wp2_with fail
              have hc := And.intro (M9.out.cell (g := q) (t := 82) (cs := dtA p) (by simp) 2) (M9.out.cell (g := q) (t := 82) (cs := dtA p) (by simp) 3)
              refine hK.out _ _ hc (fun hHeld => ?_); clear hK K; (try simp only [Act.put, List.setIfInBounds_toArray, List.set_cons_zero, List.set_cons_succ, List.getElem_toArray, List.getElem_cons_zero, List.getElem_cons_succ])
              clear hc
              refine wpAnyH_ready (rs := [7]) (by decide +kernel) (by simp) ?_; refine AllReadyH.cons rfl (fun K hK => ?_) AllReadyH.nil; go_simp
              have MA := hid (M9.out.alloc 22 #[.slice A1 n1 c1, .slice A8 2 c8, .slice A9 2 c9])
              have hc := And.intro (MA.out.cell (g := q) (t := 82) (cs := dtA p) (by simp) 2) (MA.out.cell (g := q) (t := 82) (cs := dtA p) (by simp) 3)
              refine hK.out _ _ hc (fun hHeld => ?_); clear hK K; (try simp only [Act.put, List.setIfInBounds_toArray, List.set_cons_zero, List.set_cons_succ, List.getElem_toArray, List.getElem_cons_zero, List.getElem_cons_succ])
              clear hc
              refine wpAnyH_ready (rs := [8]) (by decide +kernel) (by simp) ?_; refine AllReadyH.cons rfl (fun K hK => ?_) AllReadyH.nil; go_simp
              have hC := join3_calls w9 (v1 := .slice A1 n1 c1) (v2 := .slice A8 2 c8) (v3 := .slice A9 2 c9) (p := l2) (q := s2 p.x) (s := s2 p.y) (n := n1 + 4) (M9.out.bytes (e := 5) (n := n1) (by simp) hn1'.out) (M9.out.bytes (e := 5) (n := 2) (.tail _ (.head _)) rfl) (M9.out.bytes (e := 5) (n := 2) (.head _) rfl) (by rw [hn1'.out]; rfl) (by omega)
              refine hC.mono ?_
              clear hC
              rintro _ w10 ⟨_, rfl, M⟩
              obtain ⟨A10, c10, rfl⟩ := M.form (.head _)
              have M10 : Hid (Own w w10 [.row 5 1 (.slice A10 (n1 + 4) c10) (n1 + 4) (ints .u8 (l2 ++ s2 p.x ++ s2 p.y)), .blk q 82 (dtA p), .blk m 52 (dA g (.slice (some ad) np cp) (.slice Ag ng cg))]) := hid ((M9.out.lift M).sub (List.Sublist.cons_cons _ (List.Sublist.cons _ (List.Sublist.cons _ (List.Sublist.cons _ (List.Sublist.refl _))))))
              clear M
              go_wp2_with fail
              have hc := And.intro (M10.out.cell (g := q) (t := 82) (cs := dtA p) (by simp) 2) (M10.out.cell (g := q) (t := 82) (cs := dtA p) (by simp) 3)
              refine hK.out _ _ hc (fun hHeld => ?_); clear hK K; (try simp only [Act.put, List.setIfInBounds_toArray, List.set_cons_zero, List.set_cons_succ, List.getElem_toArray, List.getElem_cons_zero, List.getElem_cons_succ])
              clear hc
              repeat (first | (refine wpAnyH_take (i := 9) (v := ?_) rfl (by kernel_rfl) (by decide +kernel) (by decide +kernel) (fun _ _ _ h => h) ?_ (by assumption) ?_; rotate_left; (first | (refine yields_load (by rfl) rfl rfl ?_; intro w hSw; (try dsimp only at hSw); go_split_ands; assumption) | (refine Or.inl ⟨by rfl, ?_⟩; intro w hSw; (try dsimp only at hSw); go_simp; done) | (refine Or.inl ⟨by rfl, ?_⟩; intro w hSw; (try dsimp only at hSw); go_simp; with_reducible rfl) | exact Or.inr ⟨by rfl, rfl⟩ | exact Or.inr ⟨by rfl, by rfl⟩); (try simp only [Act.put, List.setIfInBounds_toArray, List.set_cons_zero, List.set_cons_succ, List.getElem_toArray, List.getElem_cons_zero, List.getElem_cons_succ])))
              refine wpAnyH_done (by kernel_rfl) ?_ _
              go_wp2_with fail
              go_meet
              exact hid ⟨A10, c10, n1 + 4, by rw [hxy2.out]; simp only [List.length_append, hn1'.out, s2_length], rfl, by rw [hxy2.out, ← List.append_assoc]; exact M10.out⟩
            -- three>
          obtain ⟨A3, c3, n3, hn3, hs, M12⟩ := hcut.out
          subst hs
          clear hcut M11 hbx hby hxy hsm
          have hnb3 : n3 ≤ 18 + 16 * t := by
            have := xyB_length p
            have : eachW p.f ≤ 2 := by unfold eachW; split <;> omega
            have h := hn1'.out
            rw [← hn3, List.length_append, h]
            omega
          clear hn1' hnb2 hH1 q1
          generalize l2 ++ xyB p = l3 at *
          replace hn3 := hid hn3
          replace M12 := hid M12
          have hkk := hid (fun w1 => refKind_calls w1 F0 F1)
          rw [hFk] at hkk
          have hmat := mat_parts (part_mat hpb.out)
          have hmB := hid (show mB p = if kd p.f = 4 then s2 p.a ++ (s2 p.b ++ (s2 p.c ++ s2 p.d)) else if kd p.f = 2 then s2 p.a ++ s2 p.d else if kd p.f = 1 then s2 p.a else [] from rfl)
          replace hmat : kd p.f = 4 ∨ kd p.f = 2 ∨ kd p.f = 1 ∨ kd p.f = 0 := by
            rcases hmat with h | h | h | h
            · exact .inl h
            · exact .inr (.inl h.1)
            · exact .inr (.inr (.inl h.1))
            · exact .inr (.inr (.inr h.1))
          have hpm := hid (plK_m p)
          generalize kd p.f = K at *
          go_upto_region 17 with fail
          obtain ⟨pl, hpl⟩ : ∃ x, plK K = x := ⟨_, rfl⟩
          replace hpl := hid hpl
          go_cut [82, 83, 84] (fun s82 s83 s84 wx => s83 = .int .i64 (pl.length : Nat) ∧ s84 = .int .i64 0 ∧ Hid (∃ x, s82 = .slice (some ⟨x, 0, none⟩) pl.length pl.length ∧ Own w wx [.blk x 3 (ints .i64 pl).toArray, .row 5 1 (.slice A3 n3 c3) n3 (ints .u8 l3), .blk q 82 (dtA p), .blk m 52 (dA g (.slice (some ad) np cp) (.slice Ag ng cg))]))
          case first =>
            -- <four
            have N1 := M12.out.alloc 3 #[]
            have N2 := N1.alloc 3 #[.int .i64 0]
            have N3 := N2.alloc 3 #[.int .i64 0, .int .i64 3]
            have N4 := N3.alloc 3 #[]
            have N5 := N4.alloc 3 #[.int .i64 0, .int .i64 1, .int .i64 2, .int .i64 3]
            have N6 := N5.alloc 64 #[.slice (some ⟨wc.heap.size, 0, none⟩) 0 0, .slice (some ⟨wc.heap.size + 1, 0, none⟩) 1 1, .slice (some ⟨wc.heap.size + 1 + 1, 0, none⟩) 2 2, .slice (some ⟨wc.heap.size + 1 + 1 + 1, 0, none⟩) 0 0, .slice (some ⟨wc.heap.size + 1 + 1 + 1 + 1, 0, none⟩) 4 4]
            simp only [alloc_size] at N6
            clear N1 N2 N3 N4 N5
            replace N6 := hid N6
            rcases hmat with rfl | rfl | rfl | rfl
            · have hcell := N6.out.cell (.head _) 4
              go_wp2_with (first
                | (go_at_call 43; (with_reducible refine (hkk.out _).mono ?_); rintro _ _ ⟨_, rfl, rfl, rfl⟩))
              go_meet
              exact ⟨by rw [← hpl.out]; rfl, rfl, hid ⟨_, by rw [← hpl.out]; rfl, by rw [← hpl.out]; exact N6.out.sub (List.Sublist.cons _ (List.Sublist.cons_cons _ (List.Sublist.cons _ (List.Sublist.cons _ (List.Sublist.cons _ (List.Sublist.cons _ (List.Sublist.refl _)))))))⟩⟩
            · have hcell := N6.out.cell (.head _) 2
              go_wp2_with (first
                | (go_at_call 43; (with_reducible refine (hkk.out _).mono ?_); rintro _ _ ⟨_, rfl, rfl, rfl⟩))
              go_meet
              exact ⟨by rw [← hpl.out]; rfl, rfl, hid ⟨_, by rw [← hpl.out]; rfl, by rw [← hpl.out]; exact N6.out.sub (List.Sublist.cons _ (List.Sublist.cons _ (List.Sublist.cons _ (List.Sublist.cons_cons _ (List.Sublist.cons _ (List.Sublist.cons _ (List.Sublist.refl _)))))))⟩⟩
            · have hcell := N6.out.cell (.head _) 1
              go_wp2_with (first
                | (go_at_call 43; (with_reducible refine (hkk.out _).mono ?_); rintro _ _ ⟨_, rfl, rfl, rfl⟩))
              go_meet
              exact ⟨by rw [← hpl.out]; rfl, rfl, hid ⟨_, by rw [← hpl.out]; rfl, by rw [← hpl.out]; exact N6.out.sub (List.Sublist.cons _ (List.Sublist.cons _ (List.Sublist.cons _ (List.Sublist.cons _ (List.Sublist.cons_cons _ (List.Sublist.cons _ (List.Sublist.refl _)))))))⟩⟩
            · have hcell := N6.out.cell (.head _) 0
              go_wp2_with (first
                | (go_at_call 43; (with_reducible refine (hkk.out _).mono ?_); rintro _ _ ⟨_, rfl, rfl, rfl⟩))
              go_meet
              exact ⟨by rw [← hpl.out]; rfl, rfl, hid ⟨_, by rw [← hpl.out]; rfl, by rw [← hpl.out]; exact N6.out.sub (List.Sublist.cons _ (List.Sublist.cons _ (List.Sublist.cons _ (List.Sublist.cons _ (List.Sublist.cons _ (List.Sublist.cons_cons _ (List.Sublist.refl _)))))))⟩⟩
            -- four>
          obtain ⟨hs83, hs84, hx⟩ := hcut
          subst hs83 hs84
          obtain ⟨x, hs, M13⟩ := hx.out
          subst hs
          replace M13 := hid M13
          clear hx M12 hkk
          have hplk := hid (plK_in (K := K))
          rw [hpl.out] at hplk
          go_wp2_with fail
          go_loopw [3, 84] (fun s i wr => ∃ (j : Nat), j ≤ pl.length ∧ i = .int .i64 j ∧ Hid (AtL w (l3 ++ (pl.take j).flatMap (fun z => s2 (mAt p z))) [.blk x 3 (ints .i64 pl).toArray, .blk q 82 (dtA p), .blk m 52 (dA g (.slice (some ad) np cp) (.slice Ag ng cg))] s wr)) (fun _ i _ => pl.length - (intOf i).toNat)
          case atStart => exact ⟨0, by omega, rfl, hid ⟨A3, c3, n3, by simpa using hn3.out, rfl, by simpa using M13.out.swap⟩⟩
          case round =>
            clear M13
            obtain ⟨j, hj, rfl, hL⟩ := hrel
            obtain ⟨A, c, n, hn, rfl, MR⟩ := hL.out
            clear hL
            replace MR := hid MR
            replace hn := hid hn
            have hj4 : pl.length ≤ 4 := hplk.out.1
            by_cases hjl : j < pl.length
            · obtain ⟨z, hz⟩ : ∃ z, pl[j] = z := ⟨_, rfl⟩
              have hz4 := hplk.out.2 z (by rw [← hz]; exact List.getElem_mem hjl)
              have hcx : wr.cell? ⟨x, j, none⟩ = some (.int .i64 z) := by
                rw [MR.out.cell (g := x) (t := 3) (cs := (ints .i64 pl).toArray) (by simp) j]
                simp [ints, hjl, hz]
              have hcx2 : wr.cell? ((⟨x, 0, none⟩ : Addr).add j) = some (.int .i64 z) := by rw [addr_add, Nat.zero_add]; exact hcx
              have hsn3 := hid (show (pl.take (j + 1)).flatMap (fun z => s2 (mAt p z)) = (pl.take j).flatMap (fun z => s2 (mAt p z)) ++ s2 (mAt p z) by
                rw [List.take_succ_eq_append_getElem hjl, hz, List.flatMap_append]; simp)
              have hnj := hid (show n ≤ 30 + 16 * t by
                have h1 := hplk.out.1
                have h2 := hn.out
                have h3 := hn3.out
                have h4 : ((pl.take j).flatMap (fun z => s2 (mAt p z))).length = 2 * (pl.take j).length := flatN_length _ (fun _ => rfl) _
                rw [List.length_append, h4, List.length_take] at h2
                omega)
              generalize (pl.take j).flatMap (fun z => s2 (mAt p z)) = fm at *
              clear hz
              have hj2 := hid (show j + 1 ≤ pl.length from hjl)
              rcases hz4 with rfl | rfl | rfl | rfl
              · -- <f5
                have hcm := MR.out.cell (g := q) (t := 82) (cs := dtA p) (by simp) 4
                have hbs := hid (fun w1 => S2_calls w1 (n := p.a) (by have := hOk.out.a.1; omega) (by have := hOk.out.a.2; omega))
                go_wp2_with (first
                  | (go_at_call 42; refine (hbs.out wr).mono ?_; rintro _ w4 ⟨_, rfl, M⟩; obtain ⟨A4, c4, rfl⟩ := M.form (.head _); ((have M4 := hid (MR.out.lift M))); (clear M))
                  | (go_at_call 21; (have hC := join2_calls w4 (v1 := .slice A n c) (v2 := .slice A4 2 c4) (p := l3 ++ fm) (q := s2 _) (n := n + 2) (M4.out.bytes (e := 5) (n := n) (by simp) hn.out) (M4.out.bytes (e := 5) (n := 2) (.head _) rfl) (by rw [hn.out]; rfl) (by have := hnj.out; omega)); ((with_reducible refine hC.mono ?_); clear hC); rintro _ w5 ⟨_, rfl, M⟩; obtain ⟨A5, c5, rfl⟩ := M.form (.head _); (have M5 := hid ((M4.out.lift M).sub (List.Sublist.cons_cons _ (List.Sublist.cons _ (List.Sublist.cons _ (List.Sublist.refl _)))))); clear M))
                go_roundw
                case rel => exact ⟨j + 1, hj2.out, by go_num, hid ⟨A5, c5, n + 2, by rw [hsn3.out, ← List.append_assoc, List.length_append, hn.out]; rfl, rfl, by rw [hsn3.out, ← List.append_assoc]; exact M5.out⟩⟩
                case measure => (have hj3 := hj2.out); simp [intOf] <;> omega
                -- f5>
              · -- <f6
                have hcm := MR.out.cell (g := q) (t := 82) (cs := dtA p) (by simp) 5
                have hbs := hid (fun w1 => S2_calls w1 (n := p.b) (by have := hOk.out.b.1; omega) (by have := hOk.out.b.2; omega))
                go_wp2_with (first
                  | (go_at_call 42; refine (hbs.out wr).mono ?_; rintro _ w4 ⟨_, rfl, M⟩; obtain ⟨A4, c4, rfl⟩ := M.form (.head _); ((have M4 := hid (MR.out.lift M))); (clear M))
                  | (go_at_call 21; (have hC := join2_calls w4 (v1 := .slice A n c) (v2 := .slice A4 2 c4) (p := l3 ++ fm) (q := s2 _) (n := n + 2) (M4.out.bytes (e := 5) (n := n) (by simp) hn.out) (M4.out.bytes (e := 5) (n := 2) (.head _) rfl) (by rw [hn.out]; rfl) (by have := hnj.out; omega)); ((with_reducible refine hC.mono ?_); clear hC); rintro _ w5 ⟨_, rfl, M⟩; obtain ⟨A5, c5, rfl⟩ := M.form (.head _); (have M5 := hid ((M4.out.lift M).sub (List.Sublist.cons_cons _ (List.Sublist.cons _ (List.Sublist.cons _ (List.Sublist.refl _)))))); clear M))
                go_roundw
                case rel => exact ⟨j + 1, hj2.out, by go_num, hid ⟨A5, c5, n + 2, by rw [hsn3.out, ← List.append_assoc, List.length_append, hn.out]; rfl, rfl, by rw [hsn3.out, ← List.append_assoc]; exact M5.out⟩⟩
                case measure => (have hj3 := hj2.out); simp [intOf] <;> omega
                -- f6>
              · -- <f7
                have hcm := MR.out.cell (g := q) (t := 82) (cs := dtA p) (by simp) 6
                have hbs := hid (fun w1 => S2_calls w1 (n := p.c) (by have := hOk.out.c.1; omega) (by have := hOk.out.c.2; omega))
                go_wp2_with (first
                  | (go_at_call 42; refine (hbs.out wr).mono ?_; rintro _ w4 ⟨_, rfl, M⟩; obtain ⟨A4, c4, rfl⟩ := M.form (.head _); ((have M4 := hid (MR.out.lift M))); (clear M))
                  | (go_at_call 21; (have hC := join2_calls w4 (v1 := .slice A n c) (v2 := .slice A4 2 c4) (p := l3 ++ fm) (q := s2 _) (n := n + 2) (M4.out.bytes (e := 5) (n := n) (by simp) hn.out) (M4.out.bytes (e := 5) (n := 2) (.head _) rfl) (by rw [hn.out]; rfl) (by have := hnj.out; omega)); ((with_reducible refine hC.mono ?_); clear hC); rintro _ w5 ⟨_, rfl, M⟩; obtain ⟨A5, c5, rfl⟩ := M.form (.head _); (have M5 := hid ((M4.out.lift M).sub (List.Sublist.cons_cons _ (List.Sublist.cons _ (List.Sublist.cons _ (List.Sublist.refl _)))))); clear M))
                go_roundw
                case rel => exact ⟨j + 1, hj2.out, by go_num, hid ⟨A5, c5, n + 2, by rw [hsn3.out, ← List.append_assoc, List.length_append, hn.out]; rfl, rfl, by rw [hsn3.out, ← List.append_assoc]; exact M5.out⟩⟩
                case measure => (have hj3 := hj2.out); simp [intOf] <;> omega
                -- f7>
              · -- <f8
                have hcm := MR.out.cell (g := q) (t := 82) (cs := dtA p) (by simp) 7
                have hbs := hid (fun w1 => S2_calls w1 (n := p.d) (by have := hOk.out.d.1; omega) (by have := hOk.out.d.2; omega))
                go_wp2_with (first
                  | (go_at_call 42; refine (hbs.out wr).mono ?_; rintro _ w4 ⟨_, rfl, M⟩; obtain ⟨A4, c4, rfl⟩ := M.form (.head _); ((have M4 := hid (MR.out.lift M))); (clear M))
                  | (go_at_call 21; (have hC := join2_calls w4 (v1 := .slice A n c) (v2 := .slice A4 2 c4) (p := l3 ++ fm) (q := s2 _) (n := n + 2) (M4.out.bytes (e := 5) (n := n) (by simp) hn.out) (M4.out.bytes (e := 5) (n := 2) (.head _) rfl) (by rw [hn.out]; rfl) (by have := hnj.out; omega)); ((with_reducible refine hC.mono ?_); clear hC); rintro _ w5 ⟨_, rfl, M⟩; obtain ⟨A5, c5, rfl⟩ := M.form (.head _); (have M5 := hid ((M4.out.lift M).sub (List.Sublist.cons_cons _ (List.Sublist.cons _ (List.Sublist.cons _ (List.Sublist.refl _)))))); clear M))
                go_roundw
                case rel => exact ⟨j + 1, hj2.out, by go_num, hid ⟨A5, c5, n + 2, by rw [hsn3.out, ← List.append_assoc, List.length_append, hn.out]; rfl, rfl, by rw [hsn3.out, ← List.append_assoc]; exact M5.out⟩⟩
                case measure => (have hj3 := hj2.out); simp [intOf] <;> omega
                -- f8>
            · obtain rfl : j = pl.length := by omega
              rw [List.take_length, ← hpl.out, hpm.out] at MR hn
              have hnn := hid (show n ≤ 30 + 16 * t by
                have h1 := hplk.out.1
                have h2 := hn.out
                have h3 := hn3.out
                have h4 := mB_length (q := p)
                have h5 : kn p.f ≤ 4 := by unfold kn; split <;> (try split) <;> (try split) <;> omega
                rw [List.length_append, h4] at h2
                omega)
              have hH256 := fun w1 => refHas_calls w1 (k := 256) F0 F1 (by decide)
              rw [hF256] at hH256
              replace hH256 := hid hH256
              have hsn4 := hsn2.out
              obtain ⟨q256, hq256⟩ : ∃ b, hasB p.f 256 = b := ⟨_, rfl⟩
              rw [hq256] at hH256
              generalize l3 ++ mB p = l4 at *
              replace hsn4 := hid hsn4
              replace hq256 := hid hq256
              have hlst2 := hlst.out
              cases lst
              · have hne : ¬ t + 1 = np := of_decide_eq_false hlst2
                have hne2 : ((t : Int) == (np : Int) - 1) = false := by rw [beq_eq_false_iff_ne]; omega
                have hsn5 : docL g (t + 1) = l4 := by rw [hsn4.out]; simp
                replace hsn5 := hid hsn5
                have M14 : Hid (Own w wr [.row 5 1 (.slice A n c) n (ints .u8 l4), .blk m 52 (dA g (.slice (some ad) np cp) (.slice Ag ng cg))]) := hid (MR.out.sub (List.Sublist.cons_cons _ (List.Sublist.cons _ (List.Sublist.cons _ (List.Sublist.refl _)))))
                obtain ⟨d4, d5⟩ := d_cells (m := m) (g := g) (vp := .slice (some ad) np cp) (vg := .slice Ag ng cg) M14.out (by simp)
                go_wp2_with (first
                  | (go_at_call 40; (with_reducible refine (hH256.out _).mono ?_); rintro _ wr ⟨_, rfl, rfl, rfl⟩))
                go_roundw
                case rel => exact ⟨t + 1, by omega, by go_num, hid ⟨A, c, n, by rw [hsn5.out]; exact hn.out, rfl, by rw [hsn5.out]; exact M14.out⟩⟩
                case measure => simp [intOf] <;> omega
              · have heq := hid (show t + 1 = np from of_decide_eq_true hlst2)
                have heq2 : ((t : Int) == (np : Int) - 1) = true := by have := heq.out; rw [beq_iff_eq]; omega
                cases q256
                · have hsn5 : docL g (t + 1) = l4 := by rw [hsn4.out, if_pos rfl, hpg.out heq.out, hq256.out]; simp
                  replace hsn5 := hid hsn5
                  have M14 : Hid (Own w wr [.row 5 1 (.slice A n c) n (ints .u8 l4), .blk m 52 (dA g (.slice (some ad) np cp) (.slice Ag ng cg))]) := hid (MR.out.sub (List.Sublist.cons_cons _ (List.Sublist.cons _ (List.Sublist.cons _ (List.Sublist.refl _)))))
                  obtain ⟨d4, d5⟩ := d_cells (m := m) (g := g) (vp := .slice (some ad) np cp) (vg := .slice Ag ng cg) M14.out (by simp)
                  go_wp2_with (first
                    | (go_at_call 40; (with_reducible refine (hH256.out _).mono ?_); rintro _ wr ⟨_, rfl, rfl, rfl⟩))
                  go_roundw
                  case rel => exact ⟨t + 1, by omega, by go_num, hid ⟨A, c, n, by rw [hsn5.out]; exact hn.out, rfl, by rw [hsn5.out]; exact M14.out⟩⟩
                  case measure => simp [intOf] <;> omega
                · -- <last
                  have hsn5 : docL g (t + 1) = l4 ++ b2 (ng : Int) ++ g.prog := by rw [hsn4.out, if_pos rfl, hpg.out heq.out, hq256.out, if_pos rfl, hngH.out, List.append_assoc]
                  replace hsn5 := hid hsn5
                  have M14 : Hid (Own w wr [.row 5 1 (.slice A n c) n (ints .u8 l4), .blk m 52 (dA g (.slice (some ad) np cp) (.slice Ag ng cg))]) := hid (MR.out.sub (List.Sublist.cons_cons _ (List.Sublist.cons _ (List.Sublist.cons _ (List.Sublist.refl _)))))
                  have hPg := hid (fun w1 (h : Below w.heap.size w w1) => show BytesAt w1 (.slice Ag ng cg) g.prog by have := hgH.out w1 h; unfold BytesAt; rw [hngH.out]; exact this)
                  have hbn := hid (fun w1 => B2_calls w1 (n := (ng : Int)) (by omega) (by omega))
                  have hgl := hid (show g.prog.length = ng from hngH.out)
                  generalize g.prog = pr at *
                  obtain ⟨d4, d5⟩ := d_cells (m := m) (g := g) (vp := .slice (some ad) np cp) (vg := .slice Ag ng cg) M14.out (by simp)
                  go_upto_region 23 with (first
                    | (go_at_call 40; (with_reducible refine (hH256.out _).mono ?_); rintro _ wr ⟨_, rfl, rfl, rfl⟩))
                  clear d4 d5
                  have hc := (d_cells (m := m) (g := g) (vp := .slice (some ad) np cp) (vg := .slice Ag ng cg) M14.out.drew (by simp)).2
                  refine wp_region_held_drew (S := fun w' => w'.cell? ⟨m, 5, none⟩ = some (.slice Ag ng cg)) (by kernel_rfl) hc (fun hHeld => ?_)
                  have MW := hid M14.out.drew
                  clear hc
                  repeat (first | (refine wpAnyH_take (i := 0) (v := ?_) rfl (by kernel_rfl) (by decide +kernel) (by decide +kernel) (fun _ _ _ h => h) ?_ (by assumption) ?_; rotate_left; (first | (refine yields_load (by rfl) rfl rfl ?_; intro w hSw; (try dsimp only at hSw); go_split_ands; assumption) | (refine Or.inl ⟨by rfl, ?_⟩; intro w hSw; (try dsimp only at hSw); go_simp; done) | (refine Or.inl ⟨by rfl, ?_⟩; intro w hSw; (try dsimp only at hSw); go_simp; with_reducible rfl) | exact Or.inr ⟨by rfl, rfl⟩ | exact Or.inr ⟨by rfl, by rfl⟩); (try simp only [Act.put, List.setIfInBounds_toArray, List.set_cons_zero, List.set_cons_succ, List.getElem_toArray, List.getElem_cons_zero, List.getElem_cons_succ])) | (refine wpAnyH_take (i := 1) (v := ?_) rfl (by kernel_rfl) (by decide +kernel) (by decide +kernel) (fun _ _ _ h => h) ?_ (by assumption) ?_; rotate_left; (first | (refine yields_load (by rfl) rfl rfl ?_; intro w hSw; (try dsimp only at hSw); go_split_ands; assumption) | (refine Or.inl ⟨by rfl, ?_⟩; intro w hSw; (try dsimp only at hSw); go_simp; done) | (refine Or.inl ⟨by rfl, ?_⟩; intro w hSw; (try dsimp only at hSw); go_simp; with_reducible rfl) | exact Or.inr ⟨by rfl, rfl⟩ | exact Or.inr ⟨by rfl, by rfl⟩); (try simp only [Act.put, List.setIfInBounds_toArray, List.set_cons_zero, List.set_cons_succ, List.getElem_toArray, List.getElem_cons_zero, List.getElem_cons_succ])) | (refine wpAnyH_take (i := 2) (v := ?_) rfl (by kernel_rfl) (by decide +kernel) (by decide +kernel) (fun _ _ _ h => h) ?_ (by assumption) ?_; rotate_left; (first | (refine yields_load (by rfl) rfl rfl ?_; intro w hSw; (try dsimp only at hSw); go_split_ands; assumption) | (refine Or.inl ⟨by rfl, ?_⟩; intro w hSw; (try dsimp only at hSw); go_simp; done) | (refine Or.inl ⟨by rfl, ?_⟩; intro w hSw; (try dsimp only at hSw); go_simp; with_reducible rfl) | exact Or.inr ⟨by rfl, rfl⟩ | exact Or.inr ⟨by rfl, by rfl⟩); (try simp only [Act.put, List.setIfInBounds_toArray, List.set_cons_zero, List.set_cons_succ, List.getElem_toArray, List.getElem_cons_zero, List.getElem_cons_succ])) | (refine wpAnyH_take (i := 3) (v := ?_) rfl (by kernel_rfl) (by decide +kernel) (by decide +kernel) (fun _ _ _ h => h) ?_ (by assumption) ?_; rotate_left; (first | (refine yields_load (by rfl) rfl rfl ?_; intro w hSw; (try dsimp only at hSw); go_split_ands; assumption) | (refine Or.inl ⟨by rfl, ?_⟩; intro w hSw; (try dsimp only at hSw); go_simp; done) | (refine Or.inl ⟨by rfl, ?_⟩; intro w hSw; (try dsimp only at hSw); go_simp; with_reducible rfl) | exact Or.inr ⟨by rfl, rfl⟩ | exact Or.inr ⟨by rfl, by rfl⟩); (try simp only [Act.put, List.setIfInBounds_toArray, List.set_cons_zero, List.set_cons_succ, List.getElem_toArray, List.getElem_cons_zero, List.getElem_cons_succ])) | (refine wpAnyH_take (i := 5) (v := ?_) rfl (by kernel_rfl) (by decide +kernel) (by decide +kernel) (fun _ _ _ h => h) ?_ (by assumption) ?_; rotate_left; (first | (refine yields_load (by rfl) rfl rfl ?_; intro w hSw; (try dsimp only at hSw); go_split_ands; assumption) | (refine Or.inl ⟨by rfl, ?_⟩; intro w hSw; (try dsimp only at hSw); go_simp; done) | (refine Or.inl ⟨by rfl, ?_⟩; intro w hSw; (try dsimp only at hSw); go_simp; with_reducible rfl) | exact Or.inr ⟨by rfl, rfl⟩ | exact Or.inr ⟨by rfl, by rfl⟩); (try simp only [Act.put, List.setIfInBounds_toArray, List.set_cons_zero, List.set_cons_succ, List.getElem_toArray, List.getElem_cons_zero, List.getElem_cons_succ])) | (refine wpAnyH_take (i := 6) (v := ?_) rfl (by kernel_rfl) (by decide +kernel) (by decide +kernel) (fun _ _ _ h => h) ?_ (by assumption) ?_; rotate_left; (first | (refine yields_load (by rfl) rfl rfl ?_; intro w hSw; (try dsimp only at hSw); go_split_ands; assumption) | (refine Or.inl ⟨by rfl, ?_⟩; intro w hSw; (try dsimp only at hSw); go_simp; done) | (refine Or.inl ⟨by rfl, ?_⟩; intro w hSw; (try dsimp only at hSw); go_simp; with_reducible rfl) | exact Or.inr ⟨by rfl, rfl⟩ | exact Or.inr ⟨by rfl, by rfl⟩); (try simp only [Act.put, List.setIfInBounds_toArray, List.set_cons_zero, List.set_cons_succ, List.getElem_toArray, List.getElem_cons_zero, List.getElem_cons_succ])))
                  refine wpAnyH_ready (rs := [4]) (by decide +kernel) (by simp) ?_; refine AllReadyH.cons rfl (fun K hK => ?_) AllReadyH.nil; go_simp
                  refine (hbn.out _).mono ?_
                  rintro _ w8 ⟨_, rfl, M⟩
                  obtain ⟨A8, c8, rfl⟩ := M.form (.head _)
                  have M8 := hid (MW.out.lift M)
                  clear M
                  go_wp2_with fail
                  have hc := (d_cells (m := m) (g := g) (vp := .slice (some ad) np cp) (vg := .slice Ag ng cg) M8.out (by simp)).2
                  refine hK.out _ _ hc (fun hHeld => ?_); clear hK K; (try simp only [Act.put, List.setIfInBounds_toArray, List.set_cons_zero, List.set_cons_succ, List.getElem_toArray, List.getElem_cons_zero, List.getElem_cons_succ])
                  clear hc
                  repeat (first | (refine wpAnyH_take (i := 0) (v := ?_) rfl (by kernel_rfl) (by decide +kernel) (by decide +kernel) (fun _ _ _ h => h) ?_ (by assumption) ?_; rotate_left; (first | (refine yields_load (by rfl) rfl rfl ?_; intro w hSw; (try dsimp only at hSw); go_split_ands; assumption) | (refine Or.inl ⟨by rfl, ?_⟩; intro w hSw; (try dsimp only at hSw); go_simp; done) | (refine Or.inl ⟨by rfl, ?_⟩; intro w hSw; (try dsimp only at hSw); go_simp; with_reducible rfl) | exact Or.inr ⟨by rfl, rfl⟩ | exact Or.inr ⟨by rfl, by rfl⟩); (try simp only [Act.put, List.setIfInBounds_toArray, List.set_cons_zero, List.set_cons_succ, List.getElem_toArray, List.getElem_cons_zero, List.getElem_cons_succ])) | (refine wpAnyH_take (i := 1) (v := ?_) rfl (by kernel_rfl) (by decide +kernel) (by decide +kernel) (fun _ _ _ h => h) ?_ (by assumption) ?_; rotate_left; (first | (refine yields_load (by rfl) rfl rfl ?_; intro w hSw; (try dsimp only at hSw); go_split_ands; assumption) | (refine Or.inl ⟨by rfl, ?_⟩; intro w hSw; (try dsimp only at hSw); go_simp; done) | (refine Or.inl ⟨by rfl, ?_⟩; intro w hSw; (try dsimp only at hSw); go_simp; with_reducible rfl) | exact Or.inr ⟨by rfl, rfl⟩ | exact Or.inr ⟨by rfl, by rfl⟩); (try simp only [Act.put, List.setIfInBounds_toArray, List.set_cons_zero, List.set_cons_succ, List.getElem_toArray, List.getElem_cons_zero, List.getElem_cons_succ])) | (refine wpAnyH_take (i := 2) (v := ?_) rfl (by kernel_rfl) (by decide +kernel) (by decide +kernel) (fun _ _ _ h => h) ?_ (by assumption) ?_; rotate_left; (first | (refine yields_load (by rfl) rfl rfl ?_; intro w hSw; (try dsimp only at hSw); go_split_ands; assumption) | (refine Or.inl ⟨by rfl, ?_⟩; intro w hSw; (try dsimp only at hSw); go_simp; done) | (refine Or.inl ⟨by rfl, ?_⟩; intro w hSw; (try dsimp only at hSw); go_simp; with_reducible rfl) | exact Or.inr ⟨by rfl, rfl⟩ | exact Or.inr ⟨by rfl, by rfl⟩); (try simp only [Act.put, List.setIfInBounds_toArray, List.set_cons_zero, List.set_cons_succ, List.getElem_toArray, List.getElem_cons_zero, List.getElem_cons_succ])) | (refine wpAnyH_take (i := 3) (v := ?_) rfl (by kernel_rfl) (by decide +kernel) (by decide +kernel) (fun _ _ _ h => h) ?_ (by assumption) ?_; rotate_left; (first | (refine yields_load (by rfl) rfl rfl ?_; intro w hSw; (try dsimp only at hSw); go_split_ands; assumption) | (refine Or.inl ⟨by rfl, ?_⟩; intro w hSw; (try dsimp only at hSw); go_simp; done) | (refine Or.inl ⟨by rfl, ?_⟩; intro w hSw; (try dsimp only at hSw); go_simp; with_reducible rfl) | exact Or.inr ⟨by rfl, rfl⟩ | exact Or.inr ⟨by rfl, by rfl⟩); (try simp only [Act.put, List.setIfInBounds_toArray, List.set_cons_zero, List.set_cons_succ, List.getElem_toArray, List.getElem_cons_zero, List.getElem_cons_succ])) | (refine wpAnyH_take (i := 5) (v := ?_) rfl (by kernel_rfl) (by decide +kernel) (by decide +kernel) (fun _ _ _ h => h) ?_ (by assumption) ?_; rotate_left; (first | (refine yields_load (by rfl) rfl rfl ?_; intro w hSw; (try dsimp only at hSw); go_split_ands; assumption) | (refine Or.inl ⟨by rfl, ?_⟩; intro w hSw; (try dsimp only at hSw); go_simp; done) | (refine Or.inl ⟨by rfl, ?_⟩; intro w hSw; (try dsimp only at hSw); go_simp; with_reducible rfl) | exact Or.inr ⟨by rfl, rfl⟩ | exact Or.inr ⟨by rfl, by rfl⟩); (try simp only [Act.put, List.setIfInBounds_toArray, List.set_cons_zero, List.set_cons_succ, List.getElem_toArray, List.getElem_cons_zero, List.getElem_cons_succ])) | (refine wpAnyH_take (i := 6) (v := ?_) rfl (by kernel_rfl) (by decide +kernel) (by decide +kernel) (fun _ _ _ h => h) ?_ (by assumption) ?_; rotate_left; (first | (refine yields_load (by rfl) rfl rfl ?_; intro w hSw; (try dsimp only at hSw); go_split_ands; assumption) | (refine Or.inl ⟨by rfl, ?_⟩; intro w hSw; (try dsimp only at hSw); go_simp; done) | (refine Or.inl ⟨by rfl, ?_⟩; intro w hSw; (try dsimp only at hSw); go_simp; with_reducible rfl) | exact Or.inr ⟨by rfl, rfl⟩ | exact Or.inr ⟨by rfl, by rfl⟩); (try simp only [Act.put, List.setIfInBounds_toArray, List.set_cons_zero, List.set_cons_succ, List.getElem_toArray, List.getElem_cons_zero, List.getElem_cons_succ])))
                  refine wpAnyH_ready (rs := [7]) (by decide +kernel) (by simp) ?_; refine AllReadyH.cons rfl (fun K hK => ?_) AllReadyH.nil; go_simp
                  have MA := hid (M8.out.alloc 22 #[.slice A n c, .slice A8 2 c8, .slice Ag ng cg])
                  have hc := (d_cells (m := m) (g := g) (vp := .slice (some ad) np cp) (vg := .slice Ag ng cg) MA.out (by simp)).2
                  refine hK.out _ _ hc (fun hHeld => ?_); clear hK K; (try simp only [Act.put, List.setIfInBounds_toArray, List.set_cons_zero, List.set_cons_succ, List.getElem_toArray, List.getElem_cons_zero, List.getElem_cons_succ])
                  clear hc
                  refine wpAnyH_ready (rs := [8]) (by decide +kernel) (by simp) ?_; refine AllReadyH.cons rfl (fun K hK => ?_) AllReadyH.nil; go_simp
                  have hC := join3_calls w8 (v1 := .slice A n c) (v2 := .slice A8 2 c8) (v3 := .slice Ag ng cg) (p := l4) (q := b2 (ng : Int)) (s := pr) (n := n + 2 + ng) (M8.out.bytes (e := 5) (n := n) (by simp) hn.out) (M8.out.bytes (e := 5) (n := 2) (.head _) rfl) (hPg.out _ M8.out.below) (by rw [hn.out, hgl.out]; rfl) (by have := hnn.out; omega)
                  refine hC.mono ?_
                  clear hC
                  rintro _ w10 ⟨_, rfl, M⟩
                  obtain ⟨A10, c10, rfl⟩ := M.form (.head _)
                  have M10 : Hid (Own w w10 [.row 5 1 (.slice A10 (n + 2 + ng) c10) (n + 2 + ng) (ints .u8 (l4 ++ b2 (ng : Int) ++ pr)), .blk m 52 (dA g (.slice (some ad) np cp) (.slice Ag ng cg))]) := hid ((M8.out.lift M).sub (by simp))
                  clear M
                  go_wp2_with fail
                  have hc := (d_cells (m := m) (g := g) (vp := .slice (some ad) np cp) (vg := .slice Ag ng cg) M10.out (by simp)).2
                  refine hK.out _ _ hc (fun hHeld => ?_); clear hK K; (try simp only [Act.put, List.setIfInBounds_toArray, List.set_cons_zero, List.set_cons_succ, List.getElem_toArray, List.getElem_cons_zero, List.getElem_cons_succ])
                  clear hc
                  repeat (first | (refine wpAnyH_take (i := 9) (v := ?_) rfl (by kernel_rfl) (by decide +kernel) (by decide +kernel) (fun _ _ _ h => h) ?_ (by assumption) ?_; rotate_left; (first | (refine yields_load (by rfl) rfl rfl ?_; intro w hSw; (try dsimp only at hSw); go_split_ands; assumption) | (refine Or.inl ⟨by rfl, ?_⟩; intro w hSw; (try dsimp only at hSw); go_simp; done) | (refine Or.inl ⟨by rfl, ?_⟩; intro w hSw; (try dsimp only at hSw); go_simp; with_reducible rfl) | exact Or.inr ⟨by rfl, rfl⟩ | exact Or.inr ⟨by rfl, by rfl⟩); (try simp only [Act.put, List.setIfInBounds_toArray, List.set_cons_zero, List.set_cons_succ, List.getElem_toArray, List.getElem_cons_zero, List.getElem_cons_succ])))
                  refine wpAnyH_done (by kernel_rfl) ?_ _
                  go_wp2_with fail
                  go_roundw
                  case rel => exact ⟨t + 1, by omega, by go_num, hid ⟨A10, c10, n + 2 + ng, by rw [hsn5.out]; simp only [List.length_append, hn.out, b2_length, hgl.out], rfl, by rw [hsn5.out]; exact M10.out⟩⟩
                  case measure => simp [intOf] <;> omega
                  -- last>
        · have hte : t = np := by omega
          subst hte
          have hdl := hid (show docL g t = cgB g by have h := docL_all g; rw [hnpH.out] at h; exact h)
          clear hPA hallH
          go_wp2_with fail
          go_ret
          refine .mk ?_
          rw [← hdl.out, hn.out]
          exact MR.out.sub (by simp)
end Go.Proofs.Yteoicpbfjkjogaa
