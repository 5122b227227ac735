/- The document's bytes of an outline. -/
import Derived.Test.YtmmepjcndofnbaaSimpZ
import Derived.Test.YtmmepjcndofnbaaUntil
import Derived.Test.YtmmepjcndofnbaaSimpQ
import Derived.Deep.DeepCutAuto
import Derived.BigQuiet
import Derived.Test.YtmmepjcndofnbaaRowAt
namespace Go.Proofs.Ytmmepjcndofnbaa
open Go Go.RowKit
set_option linter.unusedVariables false
set_option linter.unusedSimpArgs false
set_option maxRecDepth 1000000

structure KBox (p : Prop) : Prop where out : p
/-- A cut whose statement is set where it is first used. -/
theorem cutM {T G : Prop} (h : KBox T → G) (t : T) : G := h ⟨t⟩
theorem wpAnyH_listed {P : Program} {md : Region.Mode} {ops : Array Oper} {Q : Exit → Act → World → Prop} {S : World → Prop} {fuel : Nat} {l l' : Array Bool} {a : Act} {w : World} (h : l = l') (H : wpAnyH P md ops Q S fuel l' a w) : wpAnyH P md ops Q S fuel l a w := by rw [h]; exact H
theorem agg_spot12 : AggOf Try.prog 66 3 := .mk' Try.underlying66 rfl (by kernel_rfl)
section
variable {W0 w w' : World} {F X Y R : List Ent}
theorem Own.allocF (M : Own W0 w (F ++ (X ++ (Y ++ R)))) (t : TypeId) (cs : Array Value) : Own W0 (w.alloc (.cells cs t (0, 0))) ((.blk w.heap.size t cs :: F) ++ (X ++ (Y ++ R))) := M.alloc t cs
theorem Own.allocX (M : Own W0 w (F ++ (X ++ (Y ++ R)))) (t : TypeId) (cs : Array Value) : Own W0 (w.alloc (.cells cs t (0, 0))) (F ++ ((.blk w.heap.size t cs :: X) ++ (Y ++ R))) := (M.alloc t cs).perm List.perm_middle.symm
theorem Own.allocY (M : Own W0 w (F ++ (X ++ (Y ++ R)))) (t : TypeId) (cs : Array Value) : Own W0 (w.alloc (.cells cs t (0, 0))) (F ++ (X ++ ((.blk w.heap.size t cs :: Y) ++ R))) := by
  have h := M.alloc t cs
  rw [← List.append_assoc F X] at h ⊢
  exact h.perm List.perm_middle.symm
theorem Own.joinX {x y x' : Ent} (M : Own W0 w (F ++ ([x, y] ++ (Y ++ R)))) (h : Own w w' [x']) (hm : ∀ z ∈ [x'], z.mine := by simp [Ent.mine]) : Own W0 w' (F ++ ([x'] ++ (Y ++ R))) :=
  ((M.lift h hm).sub (L' := x' :: (F ++ (Y ++ R))) (.cons_cons _ (List.Sublist.append_left (.cons _ (.cons _ (List.Sublist.refl _))) F))).perm List.perm_middle.symm
theorem Own.joinY {x y x' : Ent} (M : Own W0 w (F ++ (X ++ ([x, y] ++ R)))) (h : Own w w' [x']) (hm : ∀ z ∈ [x'], z.mine := by simp [Ent.mine]) : Own W0 w' (F ++ (X ++ ([x'] ++ R))) := by
  rw [← List.append_assoc F X] at M ⊢
  exact ((M.lift h hm).sub (L' := x' :: ((F ++ X) ++ R)) (.cons_cons _ (List.Sublist.append_left (.cons _ (.cons _ (List.Sublist.refl _))) (F ++ X)))).perm List.perm_middle.symm
theorem join2_at {L : List Ent} {g n : Nat} {v1 v2 : Value} {p q : List Int} (M : Own W0 w L) (hb : .blk g 23 #[v1, v2] ∈ L) (h1 : BytesAt w v1 p) (h2 : BytesAt w v2 q) (hn : p.length + q.length = n) (hl : n ≤ 140737488355328) :
    Calls Try.prog 18 #[.slice (some ⟨g, 0, none⟩) 2 2] w (Ret fun r w' => Own w w' [.row 5 1 r n (ints .u8 (p ++ q))]) := by
  have e : [p, q].flatten = p ++ q := by simp
  have := join_calls w (vs := [v1, v2]) (ls := [p, q]) (SliceAt.built M hb 1 2 rfl (by unfold maxLen; omega)) (.cons h1 (.cons h2 (.nil _))) (by rw [e, List.length_append]; omega)
  rw [e, List.length_append, hn] at this
  exact this
end
theorem spot_put {W0 w : World} {L1 L2 : List Ent} {l : Nat} {a b c : Value} (M : Own W0 w (L1 ++ (.blk l 66 #[a, b, c] :: L2))) (x y z : Value) :
    Own W0 (((w.setCell ⟨l, 0, none⟩ x).setCell ⟨l, 1, none⟩ y).setCell ⟨l, 2, none⟩ z) (L1 ++ (.blk l 66 #[x, y, z] :: L2)) := ((M.set 0 x).set 1 y).set 2 z
theorem rsp_free {W0 w : World} {L : List Ent} {p : Nat} {x y : Int} {on : Bool} (M : Own W0 w L) (h : .blk p 66 #[.int .i64 x, .int .i64 y, .bool on] ∈ L) :
    w.frozen? ⟨p, 0, none⟩ = false ∧ w.frozen? ⟨p, 1, none⟩ = false ∧ w.frozen? ⟨p, 2, none⟩ = false := ⟨M.free h 0, M.free h 1, M.free h 2⟩
theorem lay_add_tab : ∀ c, c < 4 → ∀ d, d < 4 → IntKind.u8.wrap (layC c 2 16 + layC d 4 32) = or8 (layC c 2 16) (layC d 4 32) ∧ IntKind.u8.wrap (or8 (layC c 2 16) (layC d 4 32) + 1) = or8 (or8 (layC c 2 16) (layC d 4 32)) 1 := by decide +kernel
theorem lay_add (a b : Int) : IntKind.u8.wrap (layF a 2 16 + layF b 4 32) = or8 (layF a 2 16) (layF b 4 32) ∧ IntKind.u8.wrap (or8 (layF a 2 16) (layF b 4 32) + 1) = or8 (or8 (layF a 2 16) (layF b 4 32)) 1 := by
  obtain ⟨c, c0, c1, -⟩ := lay_cls a
  obtain ⟨d, d0, d1, -⟩ := lay_cls b
  rw [c1, d1]
  exact lay_add_tab c c0 d d0
theorem flag8_tab : ∀ c, c < 4 → ∀ d, d < 4 → IntKind.u8.wrap (or8 (layC c 2 16) (layC d 4 32) + 8) = or8 (or8 (layC c 2 16) (layC d 4 32)) 8 ∧ IntKind.u8.wrap (or8 (or8 (layC c 2 16) (layC d 4 32)) 1 + 8) = or8 (or8 (or8 (layC c 2 16) (layC d 4 32)) 1) 8 := by decide +kernel
theorem fls_at (ps : List (Int × Int × Bool)) {n k : Nat} (h : k < n) : (0 ≤ (flsK ps n).getD k 0 ∧ (flsK ps n).getD k 0 < 256) ∧ IntKind.u8.wrap ((flsK ps n).getD k 0 + 8) = or8 ((flsK ps n).getD k 0) 8 := by
  have e : (flsK ps n).getD k 0 = flagOf ps k := by simp [flsK, List.getD, h]
  rw [e]
  refine ⟨by unfold flagOf; split <;> exact or8_bd _ _, ?_⟩
  unfold flagOf
  obtain ⟨c, c0, c1, -⟩ := lay_cls (dX ps k)
  obtain ⟨d, d0, d1, -⟩ := lay_cls (dY ps k)
  rw [c1, d1]
  split
  · exact (flag8_tab c c0 d d0).2
  · exact (flag8_tab c c0 d d0).1
set_option maxHeartbeats 8000000 in
theorem refBytes_calls (w : World) {g : Sg} {ve vp vs : Value} (hO : g.Ok) (hG : RAt w g ve vp vs) (bne : g.ends.length ≤ 1000) (bns : g.pts.length ≤ 1000) (bnp : g.prog.length ≤ 1000) :
    Calls Try.prog 19 #[.agg (rA g.b0 g.b1 g.b2 g.b3 ve vp vs)] w (Ret fun r w' => Own w w' [.row 5 1 r (sgB g).length (ints .u8 (sgB g))]) := by
  have hPA := hid (fun w1 (h : Below w.heap.size w w1) => hG.p.below h)
  obtain ⟨he, hp, hs⟩ := hG
  obtain ⟨Ae, ce, rfl, hce, hme, -, hre⟩ := he
  obtain ⟨Ap, cp, rfl, hcp, hmp, -, -⟩ := hp
  obtain ⟨As, cs, rfl, hcs, hms, -, hrs⟩ := hs
  unfold maxLen at hme hmp hms
  have hOH := hid hO
  obtain ⟨ne, hne⟩ : ∃ n, g.ends.length = n := ⟨_, rfl⟩
  obtain ⟨np, hnp⟩ : ∃ n, g.prog.length = n := ⟨_, rfl⟩
  obtain ⟨ns, hns⟩ : ∃ n, g.pts.length = n := ⟨_, rfl⟩
  rw [hne] at hre hce bne
  rw [hnp] at hcp bnp hPA
  rw [hns] at hrs hcs bns
  have hEA := hid (fun ad (e : Ae = some ad) w' hb i hi => int_at (w' := w') (i := i) hne (e ▸ hre) hb hi)
  have hSA := hid (fun ad (e : As = some ad) w' hb i hi => dpt_in (w' := w') (i := i) hns (e ▸ hrs) hb hi)
  have heS := hid (fun (h : 0 < ne) => show ∃ ad, Ae = some ad by obtain ⟨ad, e, -⟩ := hre.2 h; exact ⟨ad, e⟩)
  have hsS := hid (fun (h : 0 < ns) => show ∃ ad, As = some ad by obtain ⟨ad, e, -⟩ := hrs.2 h; exact ⟨ad, e⟩)
  have hfin := hid (show sgB g = (_root_.Go.Proofs.Ytmmepjcndofnbaa.b2 ne ++ (g.box.flatMap s2 ++ (g.ends.flatMap _root_.Go.Proofs.Ytmmepjcndofnbaa.b2 ++ (_root_.Go.Proofs.Ytmmepjcndofnbaa.b2 np ++ g.prog)))) ++ (rowsB (flsK g.pts ns) ++ (xsK g.pts ns ++ ysK g.pts ns)) by unfold sgB hdB; rw [hne, hnp, hns])
  have hneH := hid hne
  have hnsH := hid hns
  have hnpH := hid hnp
  obtain ⟨z0, z1⟩ := hO.x0
  obtain ⟨z2, z3⟩ := hO.x1
  obtain ⟨z4, z5⟩ := hO.x2
  obtain ⟨z6, z7⟩ := hO.x3
  simp only [hne, hnp, hns]
  have M0 := hid (Own.start w)
  have hB2 := hid (fun w1 => B2_calls w1 (n := (ne : Int)) (by omega) (by omega))
  have hB2p := hid (fun w1 => B2_calls w1 (n := (np : Int)) (by omega) (by omega))
  have hS0 := hid (fun w1 => S2_calls w1 (n := g.b0) (by omega) (by omega))
  have hS1 := hid (fun w1 => S2_calls w1 (n := g.b1) (by omega) (by omega))
  have hS2 := hid (fun w1 => S2_calls w1 (n := g.b2) (by omega) (by omega))
  have hS3 := hid (fun w1 => S2_calls w1 (n := g.b3) (by omega) (by omega))
  clear hre hrs hne hnp hns hO z0 z1 z2 z3 z4 z5 z6 z7
  go_enter Try.func19, Try.ntmps19
  go_wp2_with (first
    | ((with_reducible refine gate (N := 1) rfl ?_); refine wpList_box_Own rfl (cs := rA g.b0 g.b1 g.b2 g.b3 (.slice Ae ne ce) (.slice Ap np cp) (.slice As ns cs)) (t := 46) (by first | (go_simp; done) | (go_simp; rfl)) M0.out ?_; intro m w1 M; obtain ⟨⟨d0, d1, d2, d3, d4, d5, d6⟩, -⟩ := r_cells (m := m) (a := g.b0) (b := g.b1) (c := g.b2) (d := g.b3) (ve := .slice Ae ne ce) (vp := .slice Ap np cp) (vs := .slice As ns cs) M (by simp); (have M1 := hid M); clear M)
    | (go_at_call 35; (with_reducible refine (hB2.out _).mono ?_); rintro _ w2 ⟨v2, rfl, M⟩; obtain ⟨A2, c2, rfl⟩ := M.form (.head _); (have M2 := hid (M1.out.lift M)); clear M d0 d1 d2 d3 d4 d5 d6; obtain ⟨⟨d0, d1, d2, d3, d4, d5, d6⟩, -⟩ := r_cells (m := m) (a := g.b0) (b := g.b1) (c := g.b2) (d := g.b3) (ve := .slice Ae ne ce) (vp := .slice Ap np cp) (vs := .slice As ns cs) M2.out (by simp)))
  clear d0 d1 d2 d3 d4 d5 d6 M1
  have M2 : Hid (Own w w2 [.row 5 1 (.slice A2 2 c2) 2 (ints .u8 (_root_.Go.Proofs.Ytmmepjcndofnbaa.b2 ne)), .blk m 46 (rA g.b0 g.b1 g.b2 g.b3 (.slice Ae ne ce) (.slice Ap np cp) (.slice As ns cs))]) := M2
  go_loopw [3, 26] (fun o i wr => ∃ (j : Nat) (A : Option Addr) (c : Nat), j ≤ 4 ∧ i = .int .i64 j ∧ o = .slice A (2 + 2 * j) c ∧ Hid (Own w wr [.row 5 1 (.slice A (2 + 2 * j) c) (2 + 2 * j) (ints .u8 (_root_.Go.Proofs.Ytmmepjcndofnbaa.b2 ne ++ (g.box.take j).flatMap s2)), .blk m 46 (rA g.b0 g.b1 g.b2 g.b3 (.slice Ae ne ce) (.slice Ap np cp) (.slice As ns cs))])) (fun _ i _ => 4 - (intOf i).toNat)
  case atStart => exact ⟨0, A2, c2, by omega, rfl, rfl, by simpa using M2⟩
  case round =>
    clear M2
    obtain ⟨j, A, c, hj, rfl, rfl, MR⟩ := hrel
    rcases (show j = 0 ∨ j = 1 ∨ j = 2 ∨ j = 3 ∨ j = 4 by omega) with rfl | rfl | rfl | rfl | rfl
    · -- <B
      have hbx : (_root_.Go.Proofs.Ytmmepjcndofnbaa.b2 ne ++ (g.box.take 0).flatMap s2) ++ s2 g.b0 = _root_.Go.Proofs.Ytmmepjcndofnbaa.b2 ne ++ (g.box.take (0 + 1)).flatMap s2 := by simp [Sg.box]
      go_wp2_with (first
        | ((with_reducible refine gate (N := 28) rfl ?_); refine wpList_run (v := .int .i64 g.b0) (w' := wr) rfl (by kernel_rfl) ?_)
        | (go_at_call 36; (with_reducible refine (hS0.out _).mono ?_); rintro _ w5 ⟨v5, rfl, M⟩; obtain ⟨A5, c5, rfl⟩ := M.form (.head _); (have M5 := hid (MR.out.lift M)); clear M)
        | (go_at_call 18; (have hC := join2_calls w5 (v1 := .slice A 2 c) (v2 := .slice A5 2 c5) (p := _root_.Go.Proofs.Ytmmepjcndofnbaa.b2 ne ++ (g.box.take 0).flatMap s2) (q := s2 g.b0) (n := 4) (M5.out.bytes (e := 5) (n := 2) (.tail _ (.head _)) rfl) (M5.out.bytes (e := 5) (n := 2) (.head _) rfl) rfl (by omega)); ((with_reducible refine hC.mono ?_); clear hC); rintro _ w6 ⟨v6, rfl, M⟩; obtain ⟨A6, c6, rfl⟩ := M.form (.head _); (rw [hbx] at M); (have M6 := hid ((M5.out.lift M).sub (L' := [_, _]) (.cons_cons _ (.cons _ (.cons _ (.cons_cons _ (List.nil_sublist _))))))); clear M))
      go_roundw
      case rel => exact ⟨0 + 1, A6, c6, by omega, by go_num, rfl, M6⟩
      case measure => simp [intOf]
      -- B>
    · -- <B
      have hbx : (_root_.Go.Proofs.Ytmmepjcndofnbaa.b2 ne ++ (g.box.take 1).flatMap s2) ++ s2 g.b1 = _root_.Go.Proofs.Ytmmepjcndofnbaa.b2 ne ++ (g.box.take (1 + 1)).flatMap s2 := by simp [Sg.box]
      go_wp2_with (first
        | ((with_reducible refine gate (N := 28) rfl ?_); refine wpList_run (v := .int .i64 g.b1) (w' := wr) rfl (by kernel_rfl) ?_)
        | (go_at_call 36; (with_reducible refine (hS1.out _).mono ?_); rintro _ w5 ⟨v5, rfl, M⟩; obtain ⟨A5, c5, rfl⟩ := M.form (.head _); (have M5 := hid (MR.out.lift M)); clear M)
        | (go_at_call 18; (have hC := join2_calls w5 (v1 := .slice A 4 c) (v2 := .slice A5 2 c5) (p := _root_.Go.Proofs.Ytmmepjcndofnbaa.b2 ne ++ (g.box.take 1).flatMap s2) (q := s2 g.b1) (n := 6) (M5.out.bytes (e := 5) (n := 4) (.tail _ (.head _)) rfl) (M5.out.bytes (e := 5) (n := 2) (.head _) rfl) rfl (by omega)); ((with_reducible refine hC.mono ?_); clear hC); rintro _ w6 ⟨v6, rfl, M⟩; obtain ⟨A6, c6, rfl⟩ := M.form (.head _); (rw [hbx] at M); (have M6 := hid ((M5.out.lift M).sub (L' := [_, _]) (.cons_cons _ (.cons _ (.cons _ (.cons_cons _ (List.nil_sublist _))))))); clear M))
      go_roundw
      case rel => exact ⟨1 + 1, A6, c6, by omega, by go_num, rfl, M6⟩
      case measure => simp [intOf]
      -- B>
    · -- <B
      have hbx : (_root_.Go.Proofs.Ytmmepjcndofnbaa.b2 ne ++ (g.box.take 2).flatMap s2) ++ s2 g.b2 = _root_.Go.Proofs.Ytmmepjcndofnbaa.b2 ne ++ (g.box.take (2 + 1)).flatMap s2 := by simp [Sg.box]
      go_wp2_with (first
        | ((with_reducible refine gate (N := 28) rfl ?_); refine wpList_run (v := .int .i64 g.b2) (w' := wr) rfl (by kernel_rfl) ?_)
        | (go_at_call 36; (with_reducible refine (hS2.out _).mono ?_); rintro _ w5 ⟨v5, rfl, M⟩; obtain ⟨A5, c5, rfl⟩ := M.form (.head _); (have M5 := hid (MR.out.lift M)); clear M)
        | (go_at_call 18; (have hC := join2_calls w5 (v1 := .slice A 6 c) (v2 := .slice A5 2 c5) (p := _root_.Go.Proofs.Ytmmepjcndofnbaa.b2 ne ++ (g.box.take 2).flatMap s2) (q := s2 g.b2) (n := 8) (M5.out.bytes (e := 5) (n := 6) (.tail _ (.head _)) rfl) (M5.out.bytes (e := 5) (n := 2) (.head _) rfl) rfl (by omega)); ((with_reducible refine hC.mono ?_); clear hC); rintro _ w6 ⟨v6, rfl, M⟩; obtain ⟨A6, c6, rfl⟩ := M.form (.head _); (rw [hbx] at M); (have M6 := hid ((M5.out.lift M).sub (L' := [_, _]) (.cons_cons _ (.cons _ (.cons _ (.cons_cons _ (List.nil_sublist _))))))); clear M))
      go_roundw
      case rel => exact ⟨2 + 1, A6, c6, by omega, by go_num, rfl, M6⟩
      case measure => simp [intOf]
      -- B>
    · -- <B
      have hbx : (_root_.Go.Proofs.Ytmmepjcndofnbaa.b2 ne ++ (g.box.take 3).flatMap s2) ++ s2 g.b3 = _root_.Go.Proofs.Ytmmepjcndofnbaa.b2 ne ++ (g.box.take (3 + 1)).flatMap s2 := by simp [Sg.box]
      go_wp2_with (first
        | ((with_reducible refine gate (N := 28) rfl ?_); refine wpList_run (v := .int .i64 g.b3) (w' := wr) rfl (by kernel_rfl) ?_)
        | (go_at_call 36; (with_reducible refine (hS3.out _).mono ?_); rintro _ w5 ⟨v5, rfl, M⟩; obtain ⟨A5, c5, rfl⟩ := M.form (.head _); (have M5 := hid (MR.out.lift M)); clear M)
        | (go_at_call 18; (have hC := join2_calls w5 (v1 := .slice A 8 c) (v2 := .slice A5 2 c5) (p := _root_.Go.Proofs.Ytmmepjcndofnbaa.b2 ne ++ (g.box.take 3).flatMap s2) (q := s2 g.b3) (n := 10) (M5.out.bytes (e := 5) (n := 8) (.tail _ (.head _)) rfl) (M5.out.bytes (e := 5) (n := 2) (.head _) rfl) rfl (by omega)); ((with_reducible refine hC.mono ?_); clear hC); rintro _ w6 ⟨v6, rfl, M⟩; obtain ⟨A6, c6, rfl⟩ := M.form (.head _); (rw [hbx] at M); (have M6 := hid ((M5.out.lift M).sub (L' := [_, _]) (.cons_cons _ (.cons _ (.cons _ (.cons_cons _ (List.nil_sublist _))))))); clear M))
      go_roundw
      case rel => exact ⟨3 + 1, A6, c6, by omega, by go_num, rfl, M6⟩
      case measure => simp [intOf]
      -- B>
    · have MR : Hid (Own w wr [.row 5 1 (.slice A 10 c) 10 (ints .u8 (_root_.Go.Proofs.Ytmmepjcndofnbaa.b2 ne ++ g.box.flatMap s2)), .blk m 46 (rA g.b0 g.b1 g.b2 g.b3 (.slice Ae ne ce) (.slice Ap np cp) (.slice As ns cs))]) := MR
      obtain ⟨O1, hO1⟩ : ∃ O1, _root_.Go.Proofs.Ytmmepjcndofnbaa.b2 ne ++ g.box.flatMap s2 = O1 := ⟨_, rfl⟩
      have hl1 : O1.length = 10 := by rw [← hO1]; rfl
      rw [hO1] at MR
      replace hO1 := hid hO1
      replace hl1 := hid hl1
      obtain ⟨⟨-, -, -, -, d4, -, -⟩, -⟩ := r_cells (m := m) (a := g.b0) (b := g.b1) (c := g.b2) (d := g.b3) (ve := .slice Ae ne ce) (vp := .slice Ap np cp) (vs := .slice As ns cs) MR.out (by simp)
      clear hj
      go_wp2
      clear d4
      go_loopw [3, 38] (fun o i wr => ∃ (j : Nat) (A : Option Addr) (c : Nat), j ≤ ne ∧ i = .int .i64 j ∧ o = .slice A (10 + 2 * j) c ∧ Hid (Own w wr [.row 5 1 (.slice A (10 + 2 * j) c) (10 + 2 * j) (ints .u8 (O1 ++ (g.ends.take j).flatMap _root_.Go.Proofs.Ytmmepjcndofnbaa.b2)), .blk m 46 (rA g.b0 g.b1 g.b2 g.b3 (.slice Ae ne ce) (.slice Ap np cp) (.slice As ns cs))])) (fun _ i _ => ne - (intOf i).toNat)
      case atStart => exact ⟨0, A, c, Nat.zero_le _, rfl, rfl, by simpa using MR⟩
      case round =>
        clear MR
        obtain ⟨j, A, c, hj, rfl, rfl, MR⟩ := hrel
        by_cases hlt : j < ne
        · -- <E
          obtain ⟨ad, rfl⟩ := heS.out (by omega)
          have hcell := hEA.out ad rfl wr MR.out.below j hlt
          obtain ⟨e0, e1⟩ := hOH.out.end j
          have hsn := hid (flatN_snoc _root_.Go.Proofs.Ytmmepjcndofnbaa.b2 g.ends j (by rw [hneH.out]; exact hlt))
          have hpl := hid (show (O1 ++ (g.ends.take j).flatMap _root_.Go.Proofs.Ytmmepjcndofnbaa.b2).length = 10 + 2 * j by rw [List.length_append, hl1.out, flatN_length _root_.Go.Proofs.Ytmmepjcndofnbaa.b2 b2_length, List.length_take, hneH.out]; omega)
          generalize g.ends.getD j 0 = e at *
          have hBe := hid (fun w1 => B2_calls w1 (n := e) (by omega) (by omega))
          go_wp2_with (first
            | (go_at_call 35; (with_reducible refine (hBe.out _).mono ?_); rintro _ w5 ⟨v5, rfl, M⟩; obtain ⟨A5, c5, rfl⟩ := M.form (.head _); (have M5 := hid (MR.out.lift M)); clear M)
            | (go_at_call 18; (have hC := join2_calls w5 (v1 := .slice A (10 + 2 * j) c) (v2 := .slice A5 2 c5) (p := O1 ++ (g.ends.take j).flatMap _root_.Go.Proofs.Ytmmepjcndofnbaa.b2) (q := _root_.Go.Proofs.Ytmmepjcndofnbaa.b2 e) (n := 10 + 2 * (j + 1)) (M5.out.bytes (e := 5) (n := 10 + 2 * j) (.tail _ (.head _)) hpl.out) (M5.out.bytes (e := 5) (n := 2) (.head _) rfl) (by rw [hpl.out, b2_length]; omega) (by omega)); ((with_reducible refine hC.mono ?_); clear hC); rintro _ w6 ⟨v6, rfl, M⟩; obtain ⟨A6, c6, rfl⟩ := M.form (.head _); (rw [List.append_assoc, ← hsn.out] at M); (have M6 := hid ((M5.out.lift M).sub (L' := [_, _]) (.cons_cons _ (.cons _ (.cons _ (.cons_cons _ (List.nil_sublist _))))))); clear M))
          go_roundw
          case rel =>
            (repeat apply Exists.intro)
            refine ⟨?r2, rfl⟩
            exact ⟨j + 1, A6, c6, by omega, by go_num, rfl, M6⟩
          case measure => simp [intOf] <;> omega
          -- E>
        · obtain rfl : j = ne := by omega
          have hek : g.ends.take j = g.ends := List.take_of_length_le (by rw [hneH.out]; omega)
          rw [hek] at MR
          obtain ⟨O2, hO2⟩ : ∃ O2, O1 ++ g.ends.flatMap _root_.Go.Proofs.Ytmmepjcndofnbaa.b2 = O2 := ⟨_, rfl⟩
          have hl2 : O2.length = 10 + 2 * j := by rw [← hO2, List.length_append, hl1.out, flatN_length _root_.Go.Proofs.Ytmmepjcndofnbaa.b2 b2_length, hneH.out]
          rw [hO2] at MR
          replace hO2 := hid hO2
          replace hl2 := hid hl2
          clear hek
          obtain ⟨n2', hn2⟩ : ∃ n2', 10 + 2 * j = n2' := ⟨_, rfl⟩
          have hn2b : n2' ≤ 2010 := by omega
          rw [hn2] at MR hl2 ⊢
          replace hn2 := hid hn2
          obtain ⟨⟨-, -, -, -, -, d5, -⟩, -⟩ := r_cells (m := m) (a := g.b0) (b := g.b1) (c := g.b2) (d := g.b3) (ve := .slice Ae j ce) (vp := .slice Ap np cp) (vs := .slice As ns cs) MR.out.drew (by simp)
          go_upto_region 12 with fail
          go_region_held3 (fun w' => w'.cell? ⟨m, 5, none⟩ = some (.slice Ap np cp)) (go_keep)
            (first
              | (go_at_call 35; (with_reducible refine (hB2p.out _).mono ?_); rintro _ w5 ⟨v5, rfl, M⟩; obtain ⟨A5, c5, rfl⟩ := M.form (.head _); (have M5 := hid (MR.out.drew.lift M)); clear M; obtain ⟨⟨-, -, -, -, -, d5', -⟩, -⟩ := r_cells (m := m) (a := g.b0) (b := g.b1) (c := g.b2) (d := g.b3) (ve := .slice Ae j ce) (vp := .slice Ap np cp) (vs := .slice As ns cs) M5.out (by simp))
              | (go_at_call 18; (have hC := join3_calls w5 (v1 := .slice A n2' c) (v2 := .slice A5 2 c5) (v3 := .slice Ap np cp) (p := O2) (q := _root_.Go.Proofs.Ytmmepjcndofnbaa.b2 np) (s := g.prog) (n := n2' + 2 + np) (M5.out.bytes (e := 5) (n := n2') (.tail _ (.head _)) hl2.out) (M5.out.bytes (e := 5) (n := 2) (.head _) rfl) (by show SliceAt _ _ 1 _ g.prog.length _; rw [hnpH.out]; exact hPA.out _ M5.out.below) (by rw [hl2.out, b2_length, hnpH.out]) (by omega)); ((with_reducible refine hC.mono ?_); clear hC); rintro _ w6 ⟨v6, rfl, M⟩; obtain ⟨A6, c6, rfl⟩ := M.form (.head _); (have M6 := hid ((M5.out.lift M).sub (L' := [_, _]) (.cons_cons _ (.cons _ (.cons _ (.cons_cons _ (List.nil_sublist _))))))); clear M; obtain ⟨⟨-, -, -, -, -, d5', -⟩, -⟩ := r_cells (m := m) (a := g.b0) (b := g.b1) (c := g.b2) (d := g.b3) (ve := .slice Ae j ce) (vp := .slice Ap np cp) (vs := .slice As ns cs) M6.out (by simp)))
          have hn3 := hid (show (O2 ++ _root_.Go.Proofs.Ytmmepjcndofnbaa.b2 np ++ g.prog).length = n2' + 2 + np by rw [List.length_append, List.length_append, hl2.out, b2_length, hnpH.out])
          have hfin2 := hid (show sgB g = (O2 ++ _root_.Go.Proofs.Ytmmepjcndofnbaa.b2 np ++ g.prog) ++ (rowsB (flsK g.pts ns) ++ (xsK g.pts ns ++ ysK g.pts ns)) by rw [hfin.out, ← hO2.out, ← hO1.out]; simp only [List.append_assoc])
          clear hfin hO1 hO2 hl1 hl2 M5 MR hB2 hB2p hS0 hS1 hS2 hS3 hEA heS hPA d5 d5' hn2
          generalize O2 ++ _root_.Go.Proofs.Ytmmepjcndofnbaa.b2 np ++ g.prog = O3 at *
          obtain ⟨n3, hn3e⟩ : ∃ n3, n2' + 2 + np = n3 := ⟨_, rfl⟩
          have hn3b : n3 ≤ 3012 := by omega
          rw [hn3e] at M6 hn3 ⊢
          replace hn3e := hid hn3e
          obtain ⟨⟨-, -, -, -, -, -, d6⟩, -⟩ := r_cells (m := m) (a := g.b0) (b := g.b1) (c := g.b2) (d := g.b3) (ve := .slice Ae j ce) (vp := .slice Ap np cp) (vs := .slice As ns cs) M6.out (by simp)
          go_wp2_with (first
            | ((with_reducible refine gate (N := 11) rfl ?_); refine wpList_box_Own rfl (cs := #[.int .i64 0, .int .i64 0, .bool false]) (t := 66) (by first | (go_simp; done) | (go_simp; rfl)) M6.out ?_; intro l w7 M; (have M7 := hid M); clear M)
            | ((with_reducible refine gateSt (t := 66) (p := 11) rfl ?_); refine wpList_store_all (n := 3) (L1 := []) (mid := [.int .i64 0, .int .i64 0, .bool false]) (vs := [.int .i64 0, .int .i64 0, .bool false]) rfl rfl (by kernel_rfl) rfl rfl rfl rfl rfl (one_all rfl) M7.out ?_; intro w8 M; obtain ⟨⟨-, -, -, -, -, -, d6⟩, -⟩ := r_cells (m := m) (a := g.b0) (b := g.b1) (c := g.b2) (d := g.b3) (ve := .slice Ae j ce) (vp := .slice Ap np cp) (vs := .slice As ns cs) M (by simp); (have M8 := hid M); clear M))
          clear d6 M6 M7
          go_loopw [8, 9, 10, 61] (fun f x y i wr => ∃ (t : Nat) (Af : Option Addr) (cf nx : Nat) (Ax : Option Addr) (cx ny : Nat) (Ay : Option Addr) (cy : Nat), t ≤ ns ∧ i = .int .i64 t ∧ f = .slice Af t cf ∧ x = .slice Ax nx cx ∧ y = .slice Ay ny cy ∧ Hid ((xsK g.pts t).length = nx ∧ (ysK g.pts t).length = ny) ∧
            Hid (Own w wr [.row 5 1 (.slice Af t cf) t (ints .u8 (flsK g.pts t)), .row 5 1 (.slice Ax nx cx) nx (ints .u8 (xsK g.pts t)), .row 5 1 (.slice Ay ny cy) ny (ints .u8 (ysK g.pts t)), .blk l 66 #[.int .i64 (pvX g.pts t), .int .i64 (pvY g.pts t), .bool (pvO g.pts t)], .row 5 1 (.slice A6 n3 c6) n3 (ints .u8 O3), .blk m 46 (rA g.b0 g.b1 g.b2 g.b3 (.slice Ae j ce) (.slice Ap np cp) (.slice As ns cs))])) (fun _ _ _ i _ => ns - (intOf i).toNat)
          case atStart => exact ⟨0, none, 0, 0, none, 0, 0, none, 0, Nat.zero_le _, rfl, rfl, rfl, rfl, hid ⟨rfl, rfl⟩, hid (((M8.out.perm (List.Perm.refl _)).nil_row 5 1).nil_row 5 1 |>.nil_row 5 1)⟩
          case round =>
            clear M8
            obtain ⟨t, Af, cf, nx, Ax, cx, ny, Ay, cy, ht, rfl, rfl, rfl, rfl, hxy, MR⟩ := hrel
            by_cases hlt : t < ns
            · -- <Q
              obtain ⟨ad, rfl⟩ := hsS.out (by omega)
              obtain ⟨k1, k2, k3⟩ := hSA.out ad rfl wr MR.out.below t hlt
              obtain ⟨⟨x0, x1⟩, ⟨y0, y1⟩⟩ := hOH.out.at t
              obtain ⟨⟨u0, u1⟩, ⟨v0, v1⟩⟩ := hOH.out.prev t
              have hxb := hid (xsK_length g.pts t)
              have hyb := hid (ysK_length g.pts t)
              have hfs := hid (flsK_succ g.pts t)
              have hxs := hid (xsK_succ g.pts t)
              have hys := hid (ysK_succ g.pts t)
              have hdx := hid (show dX g.pts t = pX g.pts t - pvX g.pts t from rfl)
              have hdy := hid (show dY g.pts t = pY g.pts t - pvY g.pts t from rfl)
              have hnx := hid (show pvX g.pts (t + 1) = pX g.pts t ∧ pvY g.pts (t + 1) = pY g.pts t ∧ pvO g.pts (t + 1) = pO g.pts t from ⟨rfl, rfl, rfl⟩)
              have hfl := hid (show flagOf g.pts t = if pO g.pts t then or8 (or8 (layF (dX g.pts t) 2 16) (layF (dY g.pts t) 4 32)) 1 else or8 (layF (dX g.pts t) 2 16) (layF (dY g.pts t) 4 32) from rfl)
              rw [hdx.out] at hxs hfl
              rw [hdy.out] at hys hfl
              clear hdx hdy
              generalize xsK g.pts t = xs at *
              generalize ysK g.pts t = ys at *
              generalize flsK g.pts t = fls at *
              generalize pX g.pts t = x at *
              generalize pY g.pts t = y at *
              generalize pO g.pts t = on at *
              generalize pvX g.pts t = u at *
              generalize pvY g.pts t = v at *
              generalize pvO g.pts t = po at *
              have wx : IntKind.i64.wrap (x - u) = x - u := IntWalk.i64_in _ (by omega)
              have wy : IntKind.i64.wrap (y - v) = y - v := IntWalk.i64_in _ (by omega)
              obtain ⟨a1, a2⟩ := lay_add (x - u) (y - v)
              have hlx := hid (layB_length (x - u))
              have hly := hid (layB_length (y - v))
              have hone1 := hid (fun w1 => one_calls (sh := 2) (sa := 16) w1 (n := x - u) (by omega) (by omega) (.inl ⟨rfl, rfl⟩))
              have hone2 := hid (fun w1 => one_calls (sh := 4) (sa := 32) w1 (n := y - v) (by omega) (by omega) (.inr ⟨rfl, rfl⟩))
              generalize layF (x - u) 2 16 = fa at *
              generalize layF (y - v) 4 32 = fb at *
              obtain ⟨dx, hdx⟩ : ∃ dx, x - u = dx := ⟨_, rfl⟩
              obtain ⟨dy, hdy⟩ : ∃ dy, y - v = dy := ⟨_, rfl⟩
              rw [hdx] at wx hone1 hlx hxs
              rw [hdy] at wy hone2 hly hys
              obtain ⟨bx, hbx⟩ : ∃ bx, layB dx = bx := ⟨_, rfl⟩
              obtain ⟨by_, hby⟩ : ∃ by_, layB dy = by_ := ⟨_, rfl⟩
              rw [hbx] at hone1 hlx hxs
              rw [hby] at hone2 hly hys
              obtain ⟨lx, hlxe⟩ : ∃ lx, bx.length = lx := ⟨_, rfl⟩
              obtain ⟨ly, hlye⟩ : ∃ ly, by_.length = ly := ⟨_, rfl⟩
              rw [hlxe] at hone1 hlx
              rw [hlye] at hone2 hly
              replace hlxe := hid hlxe
              replace hlye := hid hlye
              clear hbx hby u0 u1 v0 v1 x0 x1 y0 y1
              go_upto_region 20 with (first
                | ((with_reducible refine gate (N := 13) rfl ?_); refine wpList_box_Own rfl (cs := #[.int .i64 0, .int .i64 0, .bool false]) (t := 66) (by first | (go_simp; done) | (go_simp; rfl)) MR.out ?_; intro p w3 M; (clear k1 k2 k3); (have M3 := hid M); clear M)
                | ((with_reducible refine gateSt (t := 66) (p := 13) rfl ?_); refine wpList_store_all (n := 3) (L1 := []) (mid := [.int .i64 0, .int .i64 0, .bool false]) (vs := [.int .i64 x, .int .i64 y, .bool on]) rfl rfl (by kernel_rfl) rfl rfl rfl rfl rfl (one_all rfl) M3.out ?_; intro w4 M; obtain ⟨p0, p1, p2⟩ := rsp_cells (p := p) (x := x) (y := y) (on := on) M (by simp); obtain ⟨l0, l1, l2⟩ := rsp_cells (p := l) (x := u) (y := v) (on := po) M (by simp); (have M4 := hid M); clear M)
                | (go_at_call 37; (with_reducible refine (hone1.out _).mono ?_); rintro _ w5 ⟨_, rfl, v5, rfl, M⟩; obtain ⟨A5, c5, rfl⟩ := M.form (.head _); (have M5 := hid (M4.out.lift M)); clear M p0 p1 p2 l0 l1 l2; obtain ⟨p0, p1, p2⟩ := rsp_cells (p := p) (x := x) (y := y) (on := on) M5.out (by simp); obtain ⟨l0, l1, l2⟩ := rsp_cells (p := l) (x := u) (y := v) (on := po) M5.out (by simp))
                | (go_at_call 37; (with_reducible refine (hone2.out _).mono ?_); rintro _ w7 ⟨_, rfl, v7, rfl, M⟩; obtain ⟨A7, c7, rfl⟩ := M.form (.head _); (have M7 := hid (M5.out.lift M)); clear M p0 p1 p2 l0 l1 l2; obtain ⟨p0, p1, p2⟩ := rsp_cells (p := p) (x := x) (y := y) (on := on) M7.out (by simp); obtain ⟨l0, l1, l2⟩ := rsp_cells (p := l) (x := u) (y := v) (on := po) M7.out (by simp)))
              obtain ⟨fv, hfv⟩ : ∃ fv, (if on then or8 (or8 fa fb) 1 else or8 fa fb) = fv := ⟨_, rfl⟩
              rw [hfv] at hfl
              replace hfv := hid hfv
              go_upto_if 87 with fail
              go_cut [15] (fun s wx => s = .int .u8 fv ∧ w7 = wx)
              case first =>
                clear hfl
                cases on
                · go_wp2
                  go_meet
                  exact ⟨congrArg (Value.int .u8) hfv.out, rfl⟩
                · go_wp2
                  go_meet
                  exact ⟨congrArg (Value.int .u8) hfv.out, rfl⟩
              obtain ⟨rfl, rfl⟩ := hcut
              go_upto_region 23 with fail
              -- <T
              clear M3 M4 M5 MR p0 p1 p2 l0 l1 l2 d6
              refine' cutM (fun k222 => ?_) ?_; rotate_left
              refine' cutM (fun k221 => ?_) ?_; rotate_left
              refine' cutM (fun k211 => ?_) ?_; rotate_left
              refine' cutM (fun k220 => ?_) ?_; rotate_left
              refine' cutM (fun k111 => ?_) ?_; rotate_left
              refine' cutM (fun k201 => ?_) ?_; rotate_left
              refine' cutM (fun k210 => ?_) ?_; rotate_left
              refine' cutM (fun k011 => ?_) ?_; rotate_left
              refine' cutM (fun k101 => ?_) ?_; rotate_left
              refine' cutM (fun k110 => ?_) ?_; rotate_left
              refine' cutM (fun k200 => ?_) ?_; rotate_left
              refine' cutM (fun k001 => ?_) ?_; rotate_left
              refine' cutM (fun k010 => ?_) ?_; rotate_left
              refine' cutM (fun k100 => ?_) ?_; rotate_left
              refine' cutM (fun k000 => ?_) ?_; rotate_left
              · skip
                have MS : Hid (Own w w7.drew ([.row 5 1 (.slice Af t cf) t (ints .u8 fls)] ++ ([.row 5 1 (.slice Ax nx cx) nx (ints .u8 xs)] ++ ([.row 5 1 (.slice Ay ny cy) ny (ints .u8 ys)] ++ [.row 5 1 (.slice A7 ly c7) ly (ints .u8 by_), .row 5 1 (.slice A5 lx c5) lx (ints .u8 bx), .blk p 66 #[.int .i64 x, .int .i64 y, .bool on], .blk l 66 #[.int .i64 u, .int .i64 v, .bool po], .row 5 1 (.slice A6 n3 c6) n3 (ints .u8 O3), .blk m 46 (rA g.b0 g.b1 g.b2 g.b3 (.slice Ae j ce) (.slice Ap np cp) (.slice (some ad) ns cs))])))) := hid (M7.out.drew.perm (List.perm_append_comm_assoc [_, _, _] [_, _, _] _))
                refine wp_region_held_drew (S := fun w' => (loadVar 66 ⟨p, 0, none⟩).run Try.prog w' = .ok (.agg #[.int .i64 x, .int .i64 y, .bool on]) w') (by kernel_rfl) (run_load_agg (P := Try.prog) agg_spot12 (g := p) (off := 0) (vs := (#[.int .i64 x, .int .i64 y, .bool on] : Array Value).toList) (MS.out.heap (t := 66) (cs := #[.int .i64 x, .int .i64 y, .bool on]) (by simp)) rfl rfl) (fun hHeld => ?_)
                revert MS hHeld; generalize w7.drew = wv; intro MS hHeld
                repeat (first | (refine wpAnyH_take (i := 0) (v := ?_) rfl (by kernel_rfl) (by decide +kernel) (by decide +kernel) (fun _ _ _ h => h) ?_ (by assumption) ?_; rotate_left; (first | (refine yields_load (by rfl) rfl rfl ?_; intro w hSw; (try dsimp only at hSw); go_split_ands; assumption) | (refine Or.inl ⟨by rfl, ?_⟩; intro w hSw; (try dsimp only at hSw); go_simp; done) | (refine Or.inl ⟨by rfl, ?_⟩; intro w hSw; (try dsimp only at hSw); go_simp; with_reducible rfl) | exact Or.inr ⟨by rfl, rfl⟩); (try simp only [Act.put, List.setIfInBounds_toArray, List.set_cons_zero, List.set_cons_succ, List.getElem_toArray, List.getElem_cons_zero, List.getElem_cons_succ])) | (refine wpAnyH_take (i := 1) (v := ?_) rfl (by kernel_rfl) (by decide +kernel) (by decide +kernel) (fun _ _ _ h => h) ?_ (by assumption) ?_; rotate_left; (first | (refine yields_load (by rfl) rfl rfl ?_; intro w hSw; (try dsimp only at hSw); go_split_ands; assumption) | (refine Or.inl ⟨by rfl, ?_⟩; intro w hSw; (try dsimp only at hSw); go_simp; done) | (refine Or.inl ⟨by rfl, ?_⟩; intro w hSw; (try dsimp only at hSw); go_simp; with_reducible rfl) | exact Or.inr ⟨by rfl, rfl⟩); (try simp only [Act.put, List.setIfInBounds_toArray, List.set_cons_zero, List.set_cons_succ, List.getElem_toArray, List.getElem_cons_zero, List.getElem_cons_succ])) | (refine wpAnyH_take (i := 4) (v := ?_) rfl (by kernel_rfl) (by decide +kernel) (by decide +kernel) (fun _ _ _ h => h) ?_ (by assumption) ?_; rotate_left; (first | (refine yields_load (by rfl) rfl rfl ?_; intro w hSw; (try dsimp only at hSw); go_split_ands; assumption) | (refine Or.inl ⟨by rfl, ?_⟩; intro w hSw; (try dsimp only at hSw); go_simp; done) | (refine Or.inl ⟨by rfl, ?_⟩; intro w hSw; (try dsimp only at hSw); go_simp; with_reducible rfl) | exact Or.inr ⟨by rfl, rfl⟩); (try simp only [Act.put, List.setIfInBounds_toArray, List.set_cons_zero, List.set_cons_succ, List.getElem_toArray, List.getElem_cons_zero, List.getElem_cons_succ])) | (refine wpAnyH_take (i := 5) (v := ?_) rfl (by kernel_rfl) (by decide +kernel) (by decide +kernel) (fun _ _ _ h => h) ?_ (by assumption) ?_; rotate_left; (first | (refine yields_load (by rfl) rfl rfl ?_; intro w hSw; (try dsimp only at hSw); go_split_ands; assumption) | (refine Or.inl ⟨by rfl, ?_⟩; intro w hSw; (try dsimp only at hSw); go_simp; done) | (refine Or.inl ⟨by rfl, ?_⟩; intro w hSw; (try dsimp only at hSw); go_simp; with_reducible rfl) | exact Or.inr ⟨by rfl, rfl⟩); (try simp only [Act.put, List.setIfInBounds_toArray, List.set_cons_zero, List.set_cons_succ, List.getElem_toArray, List.getElem_cons_zero, List.getElem_cons_succ])) | (refine wpAnyH_take (i := 8) (v := ?_) rfl (by kernel_rfl) (by decide +kernel) (by decide +kernel) (fun _ _ _ h => h) ?_ (by assumption) ?_; rotate_left; (first | (refine yields_load (by rfl) rfl rfl ?_; intro w hSw; (try dsimp only at hSw); go_split_ands; assumption) | (refine Or.inl ⟨by rfl, ?_⟩; intro w hSw; (try dsimp only at hSw); go_simp; done) | (refine Or.inl ⟨by rfl, ?_⟩; intro w hSw; (try dsimp only at hSw); go_simp; with_reducible rfl) | exact Or.inr ⟨by rfl, rfl⟩); (try simp only [Act.put, List.setIfInBounds_toArray, List.set_cons_zero, List.set_cons_succ, List.getElem_toArray, List.getElem_cons_zero, List.getElem_cons_succ])) | (refine wpAnyH_take (i := 9) (v := ?_) rfl (by kernel_rfl) (by decide +kernel) (by decide +kernel) (fun _ _ _ h => h) ?_ (by assumption) ?_; rotate_left; (first | (refine yields_load (by rfl) rfl rfl ?_; intro w hSw; (try dsimp only at hSw); go_split_ands; assumption) | (refine Or.inl ⟨by rfl, ?_⟩; intro w hSw; (try dsimp only at hSw); go_simp; done) | (refine Or.inl ⟨by rfl, ?_⟩; intro w hSw; (try dsimp only at hSw); go_simp; with_reducible rfl) | exact Or.inr ⟨by rfl, rfl⟩); (try simp only [Act.put, List.setIfInBounds_toArray, List.set_cons_zero, List.set_cons_succ, List.getElem_toArray, List.getElem_cons_zero, List.getElem_cons_succ])) | (refine wpAnyH_take (i := 12) (v := ?_) rfl (by kernel_rfl) (by decide +kernel) (by decide +kernel) (fun _ _ _ h => h) ?_ (by assumption) ?_; rotate_left; (first | (refine yields_load (by rfl) rfl rfl ?_; intro w hSw; (try dsimp only at hSw); go_split_ands; assumption) | (refine Or.inl ⟨by rfl, ?_⟩; intro w hSw; (try dsimp only at hSw); go_simp; done) | (refine Or.inl ⟨by rfl, ?_⟩; intro w hSw; (try dsimp only at hSw); go_simp; with_reducible rfl) | exact Or.inr ⟨by rfl, rfl⟩); (try simp only [Act.put, List.setIfInBounds_toArray, List.set_cons_zero, List.set_cons_succ, List.getElem_toArray, List.getElem_cons_zero, List.getElem_cons_succ])))
                refine wpAnyH_listed (l' := #[true, true, false, false, true, true, false, false, true, true, false, false, true, false, false, false, false]) (by decide +kernel) ?_
                revert hHeld; revert MS; revert wv
                exact k000.out
              · intro  wv MS hHeld
                refine wpAnyH_ready (rs := [2, 6, 10]) (by decide +kernel) (by simp) ?_
                refine AllReadyH.cons rfl (fun K hK => ?_) (AllReadyH.cons rfl (fun K hK => ?_) (AllReadyH.cons rfl (fun K hK => ?_) (AllReadyH.nil)))
                · skip
                  go_simp
                  have MN := MS.out.allocF (F := [.row 5 1 (.slice Af t cf) t (ints .u8 fls)]) (X := [.row 5 1 (.slice Ax nx cx) nx (ints .u8 xs)]) (Y := [.row 5 1 (.slice Ay ny cy) ny (ints .u8 ys)]) 5 #[.int .u8 (fv)]
                  clear MS
                  obtain ⟨nF, hnF⟩ : ∃ k, wv.heap.size = k := ⟨_, rfl⟩
                  obtain ⟨wn, hwn⟩ : ∃ k, wv.alloc (.cells #[.int .u8 (fv)] 5 (0, 0)) = k := ⟨_, rfl⟩
                  rw [hwn, hnF] at MN
                  rw [hwn, hnF]
                  clear hwn hnF
                  replace MN : Hid (Own w wn ([.blk nF 5 #[.int .u8 (fv)], .row 5 1 (.slice Af t cf) t (ints .u8 fls)] ++ ([.row 5 1 (.slice Ax nx cx) nx (ints .u8 xs)] ++ ([.row 5 1 (.slice Ay ny cy) ny (ints .u8 ys)] ++ [.row 5 1 (.slice A7 ly c7) ly (ints .u8 by_), .row 5 1 (.slice A5 lx c5) lx (ints .u8 bx), .blk p 66 #[.int .i64 x, .int .i64 y, .bool on], .blk l 66 #[.int .i64 u, .int .i64 v, .bool po], .row 5 1 (.slice A6 n3 c6) n3 (ints .u8 O3), .blk m 46 (rA g.b0 g.b1 g.b2 g.b3 (.slice Ae j ce) (.slice Ap np cp) (.slice (some ad) ns cs))])))) := hid MN
                  have hc := run_load_agg (P := Try.prog) agg_spot12 (g := p) (off := 0) (vs := (#[.int .i64 x, .int .i64 y, .bool on] : Array Value).toList) (MN.out.heap (t := 66) (cs := #[.int .i64 x, .int .i64 y, .bool on]) (by simp)) rfl rfl
                  refine hK.out _ _ hc (fun hHeldN => ?_); clear hK K hc hHeld
                  try simp only [Act.put, List.setIfInBounds_toArray, List.set_cons_zero, List.set_cons_succ, List.getElem_toArray, List.getElem_cons_zero, List.getElem_cons_succ]
                  refine wpAnyH_listed (l' := #[true, true, true, false, true, true, false, false, true, true, false, false, true, false, false, false, false]) (by decide +kernel) ?_
                  revert hHeldN; revert MN; revert wn; revert nF
                  exact k100.out
                · skip
                  go_simp
                  have MN := MS.out.allocX (F := [.row 5 1 (.slice Af t cf) t (ints .u8 fls)]) (X := [.row 5 1 (.slice Ax nx cx) nx (ints .u8 xs)]) (Y := [.row 5 1 (.slice Ay ny cy) ny (ints .u8 ys)]) 23 #[.slice Ax nx cx, .slice A5 lx c5]
                  clear MS
                  obtain ⟨nX, hnX⟩ : ∃ k, wv.heap.size = k := ⟨_, rfl⟩
                  obtain ⟨wn, hwn⟩ : ∃ k, wv.alloc (.cells #[.slice Ax nx cx, .slice A5 lx c5] 23 (0, 0)) = k := ⟨_, rfl⟩
                  rw [hwn, hnX] at MN
                  rw [hwn, hnX]
                  clear hwn hnX
                  replace MN : Hid (Own w wn ([.row 5 1 (.slice Af t cf) t (ints .u8 fls)] ++ ([.blk nX 23 #[.slice Ax nx cx, .slice A5 lx c5], .row 5 1 (.slice Ax nx cx) nx (ints .u8 xs)] ++ ([.row 5 1 (.slice Ay ny cy) ny (ints .u8 ys)] ++ [.row 5 1 (.slice A7 ly c7) ly (ints .u8 by_), .row 5 1 (.slice A5 lx c5) lx (ints .u8 bx), .blk p 66 #[.int .i64 x, .int .i64 y, .bool on], .blk l 66 #[.int .i64 u, .int .i64 v, .bool po], .row 5 1 (.slice A6 n3 c6) n3 (ints .u8 O3), .blk m 46 (rA g.b0 g.b1 g.b2 g.b3 (.slice Ae j ce) (.slice Ap np cp) (.slice (some ad) ns cs))])))) := hid MN
                  have hc := run_load_agg (P := Try.prog) agg_spot12 (g := p) (off := 0) (vs := (#[.int .i64 x, .int .i64 y, .bool on] : Array Value).toList) (MN.out.heap (t := 66) (cs := #[.int .i64 x, .int .i64 y, .bool on]) (by simp)) rfl rfl
                  refine hK.out _ _ hc (fun hHeldN => ?_); clear hK K hc hHeld
                  try simp only [Act.put, List.setIfInBounds_toArray, List.set_cons_zero, List.set_cons_succ, List.getElem_toArray, List.getElem_cons_zero, List.getElem_cons_succ]
                  refine wpAnyH_listed (l' := #[true, true, false, false, true, true, true, false, true, true, false, false, true, false, false, false, false]) (by decide +kernel) ?_
                  revert hHeldN; revert MN; revert wn; revert nX
                  exact k010.out
                · skip
                  go_simp
                  have MN := MS.out.allocY (F := [.row 5 1 (.slice Af t cf) t (ints .u8 fls)]) (X := [.row 5 1 (.slice Ax nx cx) nx (ints .u8 xs)]) (Y := [.row 5 1 (.slice Ay ny cy) ny (ints .u8 ys)]) 23 #[.slice Ay ny cy, .slice A7 ly c7]
                  clear MS
                  obtain ⟨nY, hnY⟩ : ∃ k, wv.heap.size = k := ⟨_, rfl⟩
                  obtain ⟨wn, hwn⟩ : ∃ k, wv.alloc (.cells #[.slice Ay ny cy, .slice A7 ly c7] 23 (0, 0)) = k := ⟨_, rfl⟩
                  rw [hwn, hnY] at MN
                  rw [hwn, hnY]
                  clear hwn hnY
                  replace MN : Hid (Own w wn ([.row 5 1 (.slice Af t cf) t (ints .u8 fls)] ++ ([.row 5 1 (.slice Ax nx cx) nx (ints .u8 xs)] ++ ([.blk nY 23 #[.slice Ay ny cy, .slice A7 ly c7], .row 5 1 (.slice Ay ny cy) ny (ints .u8 ys)] ++ [.row 5 1 (.slice A7 ly c7) ly (ints .u8 by_), .row 5 1 (.slice A5 lx c5) lx (ints .u8 bx), .blk p 66 #[.int .i64 x, .int .i64 y, .bool on], .blk l 66 #[.int .i64 u, .int .i64 v, .bool po], .row 5 1 (.slice A6 n3 c6) n3 (ints .u8 O3), .blk m 46 (rA g.b0 g.b1 g.b2 g.b3 (.slice Ae j ce) (.slice Ap np cp) (.slice (some ad) ns cs))])))) := hid MN
                  have hc := run_load_agg (P := Try.prog) agg_spot12 (g := p) (off := 0) (vs := (#[.int .i64 x, .int .i64 y, .bool on] : Array Value).toList) (MN.out.heap (t := 66) (cs := #[.int .i64 x, .int .i64 y, .bool on]) (by simp)) rfl rfl
                  refine hK.out _ _ hc (fun hHeldN => ?_); clear hK K hc hHeld
                  try simp only [Act.put, List.setIfInBounds_toArray, List.set_cons_zero, List.set_cons_succ, List.getElem_toArray, List.getElem_cons_zero, List.getElem_cons_succ]
                  refine wpAnyH_listed (l' := #[true, true, false, false, true, true, false, false, true, true, true, false, true, false, false, false, false]) (by decide +kernel) ?_
                  revert hHeldN; revert MN; revert wn; revert nY
                  exact k001.out
              · intro nF wv MS hHeld
                refine wpAnyH_ready (rs := [3, 6, 10]) (by decide +kernel) (by simp) ?_
                refine AllReadyH.cons rfl (fun K hK => ?_) (AllReadyH.cons rfl (fun K hK => ?_) (AllReadyH.cons rfl (fun K hK => ?_) (AllReadyH.nil)))
                · skip
                  refine step_append_Own (by rfl) (.tmp 90) (.tmp 92) _ rfl sized_u8 rfl rfl (L1 := [.blk nF 5 #[.int .u8 (fv)]]) (L2 := [.row 5 1 (.slice Ax nx cx) nx (ints .u8 xs)] ++ ([.row 5 1 (.slice Ay ny cy) ny (ints .u8 ys)] ++ [.row 5 1 (.slice A7 ly c7) ly (ints .u8 by_), .row 5 1 (.slice A5 lx c5) lx (ints .u8 bx), .blk p 66 #[.int .i64 x, .int .i64 y, .bool on], .blk l 66 #[.int .i64 u, .int .i64 v, .bool po], .row 5 1 (.slice A6 n3 c6) n3 (ints .u8 O3), .blk m 46 (rA g.b0 g.b1 g.b2 g.b3 (.slice Ae j ce) (.slice Ap np cp) (.slice (some ad) ns cs))])) MS.out (SliceAt.built MS.out (.head _) 1 1 rfl (by unfold maxLen; omega)) (ints_one .u8 [fv]) (by unfold maxLen; omega) (by omega) ?_
                  intro v' wn M'; obtain ⟨Bf, ef, rfl⟩ := M'.tail.form (.head _)
                  have MN : Hid (Own w wn ([.row 5 1 (.slice Bf (t + 1) ef) (t + 1) (ints .u8 fls ++ [.int .u8 (fv)])] ++ ([.row 5 1 (.slice Ax nx cx) nx (ints .u8 xs)] ++ ([.row 5 1 (.slice Ay ny cy) ny (ints .u8 ys)] ++ [.row 5 1 (.slice A7 ly c7) ly (ints .u8 by_), .row 5 1 (.slice A5 lx c5) lx (ints .u8 bx), .blk p 66 #[.int .i64 x, .int .i64 y, .bool on], .blk l 66 #[.int .i64 u, .int .i64 v, .bool po], .row 5 1 (.slice A6 n3 c6) n3 (ints .u8 O3), .blk m 46 (rA g.b0 g.b1 g.b2 g.b3 (.slice Ae j ce) (.slice Ap np cp) (.slice (some ad) ns cs))])))) := hid M'.tail
                  clear M' MS
                  have hc := run_load_agg (P := Try.prog) agg_spot12 (g := p) (off := 0) (vs := (#[.int .i64 x, .int .i64 y, .bool on] : Array Value).toList) (MN.out.heap (t := 66) (cs := #[.int .i64 x, .int .i64 y, .bool on]) (by simp)) rfl rfl
                  refine hK.out _ _ hc (fun hHeldN => ?_); clear hK K hc hHeld
                  try simp only [Act.put, List.setIfInBounds_toArray, List.set_cons_zero, List.set_cons_succ, List.getElem_toArray, List.getElem_cons_zero, List.getElem_cons_succ]
                  refine wpAnyH_listed (l' := #[true, true, true, true, true, true, false, false, true, true, false, false, true, false, false, false, false]) (by decide +kernel) ?_
                  revert hHeldN; revert MN; revert wn; revert ef; revert Bf; revert nF
                  exact k200.out
                · skip
                  go_simp
                  have MN := MS.out.allocX (F := [.blk nF 5 #[.int .u8 (fv)], .row 5 1 (.slice Af t cf) t (ints .u8 fls)]) (X := [.row 5 1 (.slice Ax nx cx) nx (ints .u8 xs)]) (Y := [.row 5 1 (.slice Ay ny cy) ny (ints .u8 ys)]) 23 #[.slice Ax nx cx, .slice A5 lx c5]
                  clear MS
                  obtain ⟨nX, hnX⟩ : ∃ k, wv.heap.size = k := ⟨_, rfl⟩
                  obtain ⟨wn, hwn⟩ : ∃ k, wv.alloc (.cells #[.slice Ax nx cx, .slice A5 lx c5] 23 (0, 0)) = k := ⟨_, rfl⟩
                  rw [hwn, hnX] at MN
                  rw [hwn, hnX]
                  clear hwn hnX
                  replace MN : Hid (Own w wn ([.blk nF 5 #[.int .u8 (fv)], .row 5 1 (.slice Af t cf) t (ints .u8 fls)] ++ ([.blk nX 23 #[.slice Ax nx cx, .slice A5 lx c5], .row 5 1 (.slice Ax nx cx) nx (ints .u8 xs)] ++ ([.row 5 1 (.slice Ay ny cy) ny (ints .u8 ys)] ++ [.row 5 1 (.slice A7 ly c7) ly (ints .u8 by_), .row 5 1 (.slice A5 lx c5) lx (ints .u8 bx), .blk p 66 #[.int .i64 x, .int .i64 y, .bool on], .blk l 66 #[.int .i64 u, .int .i64 v, .bool po], .row 5 1 (.slice A6 n3 c6) n3 (ints .u8 O3), .blk m 46 (rA g.b0 g.b1 g.b2 g.b3 (.slice Ae j ce) (.slice Ap np cp) (.slice (some ad) ns cs))])))) := hid MN
                  have hc := run_load_agg (P := Try.prog) agg_spot12 (g := p) (off := 0) (vs := (#[.int .i64 x, .int .i64 y, .bool on] : Array Value).toList) (MN.out.heap (t := 66) (cs := #[.int .i64 x, .int .i64 y, .bool on]) (by simp)) rfl rfl
                  refine hK.out _ _ hc (fun hHeldN => ?_); clear hK K hc hHeld
                  try simp only [Act.put, List.setIfInBounds_toArray, List.set_cons_zero, List.set_cons_succ, List.getElem_toArray, List.getElem_cons_zero, List.getElem_cons_succ]
                  refine wpAnyH_listed (l' := #[true, true, true, false, true, true, true, false, true, true, false, false, true, false, false, false, false]) (by decide +kernel) ?_
                  revert hHeldN; revert MN; revert wn; revert nX; revert nF
                  exact k110.out
                · skip
                  go_simp
                  have MN := MS.out.allocY (F := [.blk nF 5 #[.int .u8 (fv)], .row 5 1 (.slice Af t cf) t (ints .u8 fls)]) (X := [.row 5 1 (.slice Ax nx cx) nx (ints .u8 xs)]) (Y := [.row 5 1 (.slice Ay ny cy) ny (ints .u8 ys)]) 23 #[.slice Ay ny cy, .slice A7 ly c7]
                  clear MS
                  obtain ⟨nY, hnY⟩ : ∃ k, wv.heap.size = k := ⟨_, rfl⟩
                  obtain ⟨wn, hwn⟩ : ∃ k, wv.alloc (.cells #[.slice Ay ny cy, .slice A7 ly c7] 23 (0, 0)) = k := ⟨_, rfl⟩
                  rw [hwn, hnY] at MN
                  rw [hwn, hnY]
                  clear hwn hnY
                  replace MN : Hid (Own w wn ([.blk nF 5 #[.int .u8 (fv)], .row 5 1 (.slice Af t cf) t (ints .u8 fls)] ++ ([.row 5 1 (.slice Ax nx cx) nx (ints .u8 xs)] ++ ([.blk nY 23 #[.slice Ay ny cy, .slice A7 ly c7], .row 5 1 (.slice Ay ny cy) ny (ints .u8 ys)] ++ [.row 5 1 (.slice A7 ly c7) ly (ints .u8 by_), .row 5 1 (.slice A5 lx c5) lx (ints .u8 bx), .blk p 66 #[.int .i64 x, .int .i64 y, .bool on], .blk l 66 #[.int .i64 u, .int .i64 v, .bool po], .row 5 1 (.slice A6 n3 c6) n3 (ints .u8 O3), .blk m 46 (rA g.b0 g.b1 g.b2 g.b3 (.slice Ae j ce) (.slice Ap np cp) (.slice (some ad) ns cs))])))) := hid MN
                  have hc := run_load_agg (P := Try.prog) agg_spot12 (g := p) (off := 0) (vs := (#[.int .i64 x, .int .i64 y, .bool on] : Array Value).toList) (MN.out.heap (t := 66) (cs := #[.int .i64 x, .int .i64 y, .bool on]) (by simp)) rfl rfl
                  refine hK.out _ _ hc (fun hHeldN => ?_); clear hK K hc hHeld
                  try simp only [Act.put, List.setIfInBounds_toArray, List.set_cons_zero, List.set_cons_succ, List.getElem_toArray, List.getElem_cons_zero, List.getElem_cons_succ]
                  refine wpAnyH_listed (l' := #[true, true, true, false, true, true, false, false, true, true, true, false, true, false, false, false, false]) (by decide +kernel) ?_
                  revert hHeldN; revert MN; revert wn; revert nY; revert nF
                  exact k101.out
              · intro nX wv MS hHeld
                refine wpAnyH_ready (rs := [2, 10]) (by decide +kernel) (by simp) ?_
                refine AllReadyH.cons rfl (fun K hK => ?_) (AllReadyH.cons rfl (fun K hK => ?_) (AllReadyH.nil))
                · skip
                  go_simp
                  have MN := MS.out.allocF (F := [.row 5 1 (.slice Af t cf) t (ints .u8 fls)]) (X := [.blk nX 23 #[.slice Ax nx cx, .slice A5 lx c5], .row 5 1 (.slice Ax nx cx) nx (ints .u8 xs)]) (Y := [.row 5 1 (.slice Ay ny cy) ny (ints .u8 ys)]) 5 #[.int .u8 (fv)]
                  clear MS
                  obtain ⟨nF, hnF⟩ : ∃ k, wv.heap.size = k := ⟨_, rfl⟩
                  obtain ⟨wn, hwn⟩ : ∃ k, wv.alloc (.cells #[.int .u8 (fv)] 5 (0, 0)) = k := ⟨_, rfl⟩
                  rw [hwn, hnF] at MN
                  rw [hwn, hnF]
                  clear hwn hnF
                  replace MN : Hid (Own w wn ([.blk nF 5 #[.int .u8 (fv)], .row 5 1 (.slice Af t cf) t (ints .u8 fls)] ++ ([.blk nX 23 #[.slice Ax nx cx, .slice A5 lx c5], .row 5 1 (.slice Ax nx cx) nx (ints .u8 xs)] ++ ([.row 5 1 (.slice Ay ny cy) ny (ints .u8 ys)] ++ [.row 5 1 (.slice A7 ly c7) ly (ints .u8 by_), .row 5 1 (.slice A5 lx c5) lx (ints .u8 bx), .blk p 66 #[.int .i64 x, .int .i64 y, .bool on], .blk l 66 #[.int .i64 u, .int .i64 v, .bool po], .row 5 1 (.slice A6 n3 c6) n3 (ints .u8 O3), .blk m 46 (rA g.b0 g.b1 g.b2 g.b3 (.slice Ae j ce) (.slice Ap np cp) (.slice (some ad) ns cs))])))) := hid MN
                  have hc := run_load_agg (P := Try.prog) agg_spot12 (g := p) (off := 0) (vs := (#[.int .i64 x, .int .i64 y, .bool on] : Array Value).toList) (MN.out.heap (t := 66) (cs := #[.int .i64 x, .int .i64 y, .bool on]) (by simp)) rfl rfl
                  refine hK.out _ _ hc (fun hHeldN => ?_); clear hK K hc hHeld
                  try simp only [Act.put, List.setIfInBounds_toArray, List.set_cons_zero, List.set_cons_succ, List.getElem_toArray, List.getElem_cons_zero, List.getElem_cons_succ]
                  refine wpAnyH_listed (l' := #[true, true, true, false, true, true, true, false, true, true, false, false, true, false, false, false, false]) (by decide +kernel) ?_
                  exact k110.out nF nX wn MN hHeldN
                · skip
                  go_simp
                  have MN := MS.out.allocY (F := [.row 5 1 (.slice Af t cf) t (ints .u8 fls)]) (X := [.blk nX 23 #[.slice Ax nx cx, .slice A5 lx c5], .row 5 1 (.slice Ax nx cx) nx (ints .u8 xs)]) (Y := [.row 5 1 (.slice Ay ny cy) ny (ints .u8 ys)]) 23 #[.slice Ay ny cy, .slice A7 ly c7]
                  clear MS
                  obtain ⟨nY, hnY⟩ : ∃ k, wv.heap.size = k := ⟨_, rfl⟩
                  obtain ⟨wn, hwn⟩ : ∃ k, wv.alloc (.cells #[.slice Ay ny cy, .slice A7 ly c7] 23 (0, 0)) = k := ⟨_, rfl⟩
                  rw [hwn, hnY] at MN
                  rw [hwn, hnY]
                  clear hwn hnY
                  replace MN : Hid (Own w wn ([.row 5 1 (.slice Af t cf) t (ints .u8 fls)] ++ ([.blk nX 23 #[.slice Ax nx cx, .slice A5 lx c5], .row 5 1 (.slice Ax nx cx) nx (ints .u8 xs)] ++ ([.blk nY 23 #[.slice Ay ny cy, .slice A7 ly c7], .row 5 1 (.slice Ay ny cy) ny (ints .u8 ys)] ++ [.row 5 1 (.slice A7 ly c7) ly (ints .u8 by_), .row 5 1 (.slice A5 lx c5) lx (ints .u8 bx), .blk p 66 #[.int .i64 x, .int .i64 y, .bool on], .blk l 66 #[.int .i64 u, .int .i64 v, .bool po], .row 5 1 (.slice A6 n3 c6) n3 (ints .u8 O3), .blk m 46 (rA g.b0 g.b1 g.b2 g.b3 (.slice Ae j ce) (.slice Ap np cp) (.slice (some ad) ns cs))])))) := hid MN
                  have hc := run_load_agg (P := Try.prog) agg_spot12 (g := p) (off := 0) (vs := (#[.int .i64 x, .int .i64 y, .bool on] : Array Value).toList) (MN.out.heap (t := 66) (cs := #[.int .i64 x, .int .i64 y, .bool on]) (by simp)) rfl rfl
                  refine hK.out _ _ hc (fun hHeldN => ?_); clear hK K hc hHeld
                  try simp only [Act.put, List.setIfInBounds_toArray, List.set_cons_zero, List.set_cons_succ, List.getElem_toArray, List.getElem_cons_zero, List.getElem_cons_succ]
                  refine wpAnyH_listed (l' := #[true, true, false, false, true, true, true, false, true, true, true, false, true, false, false, false, false]) (by decide +kernel) ?_
                  revert hHeldN; revert MN; revert wn; revert nY; revert nX
                  exact k011.out
              · intro nY wv MS hHeld
                refine wpAnyH_ready (rs := [2, 6]) (by decide +kernel) (by simp) ?_
                refine AllReadyH.cons rfl (fun K hK => ?_) (AllReadyH.cons rfl (fun K hK => ?_) (AllReadyH.nil))
                · skip
                  go_simp
                  have MN := MS.out.allocF (F := [.row 5 1 (.slice Af t cf) t (ints .u8 fls)]) (X := [.row 5 1 (.slice Ax nx cx) nx (ints .u8 xs)]) (Y := [.blk nY 23 #[.slice Ay ny cy, .slice A7 ly c7], .row 5 1 (.slice Ay ny cy) ny (ints .u8 ys)]) 5 #[.int .u8 (fv)]
                  clear MS
                  obtain ⟨nF, hnF⟩ : ∃ k, wv.heap.size = k := ⟨_, rfl⟩
                  obtain ⟨wn, hwn⟩ : ∃ k, wv.alloc (.cells #[.int .u8 (fv)] 5 (0, 0)) = k := ⟨_, rfl⟩
                  rw [hwn, hnF] at MN
                  rw [hwn, hnF]
                  clear hwn hnF
                  replace MN : Hid (Own w wn ([.blk nF 5 #[.int .u8 (fv)], .row 5 1 (.slice Af t cf) t (ints .u8 fls)] ++ ([.row 5 1 (.slice Ax nx cx) nx (ints .u8 xs)] ++ ([.blk nY 23 #[.slice Ay ny cy, .slice A7 ly c7], .row 5 1 (.slice Ay ny cy) ny (ints .u8 ys)] ++ [.row 5 1 (.slice A7 ly c7) ly (ints .u8 by_), .row 5 1 (.slice A5 lx c5) lx (ints .u8 bx), .blk p 66 #[.int .i64 x, .int .i64 y, .bool on], .blk l 66 #[.int .i64 u, .int .i64 v, .bool po], .row 5 1 (.slice A6 n3 c6) n3 (ints .u8 O3), .blk m 46 (rA g.b0 g.b1 g.b2 g.b3 (.slice Ae j ce) (.slice Ap np cp) (.slice (some ad) ns cs))])))) := hid MN
                  have hc := run_load_agg (P := Try.prog) agg_spot12 (g := p) (off := 0) (vs := (#[.int .i64 x, .int .i64 y, .bool on] : Array Value).toList) (MN.out.heap (t := 66) (cs := #[.int .i64 x, .int .i64 y, .bool on]) (by simp)) rfl rfl
                  refine hK.out _ _ hc (fun hHeldN => ?_); clear hK K hc hHeld
                  try simp only [Act.put, List.setIfInBounds_toArray, List.set_cons_zero, List.set_cons_succ, List.getElem_toArray, List.getElem_cons_zero, List.getElem_cons_succ]
                  refine wpAnyH_listed (l' := #[true, true, true, false, true, true, false, false, true, true, true, false, true, false, false, false, false]) (by decide +kernel) ?_
                  exact k101.out nF nY wn MN hHeldN
                · skip
                  go_simp
                  have MN := MS.out.allocX (F := [.row 5 1 (.slice Af t cf) t (ints .u8 fls)]) (X := [.row 5 1 (.slice Ax nx cx) nx (ints .u8 xs)]) (Y := [.blk nY 23 #[.slice Ay ny cy, .slice A7 ly c7], .row 5 1 (.slice Ay ny cy) ny (ints .u8 ys)]) 23 #[.slice Ax nx cx, .slice A5 lx c5]
                  clear MS
                  obtain ⟨nX, hnX⟩ : ∃ k, wv.heap.size = k := ⟨_, rfl⟩
                  obtain ⟨wn, hwn⟩ : ∃ k, wv.alloc (.cells #[.slice Ax nx cx, .slice A5 lx c5] 23 (0, 0)) = k := ⟨_, rfl⟩
                  rw [hwn, hnX] at MN
                  rw [hwn, hnX]
                  clear hwn hnX
                  replace MN : Hid (Own w wn ([.row 5 1 (.slice Af t cf) t (ints .u8 fls)] ++ ([.blk nX 23 #[.slice Ax nx cx, .slice A5 lx c5], .row 5 1 (.slice Ax nx cx) nx (ints .u8 xs)] ++ ([.blk nY 23 #[.slice Ay ny cy, .slice A7 ly c7], .row 5 1 (.slice Ay ny cy) ny (ints .u8 ys)] ++ [.row 5 1 (.slice A7 ly c7) ly (ints .u8 by_), .row 5 1 (.slice A5 lx c5) lx (ints .u8 bx), .blk p 66 #[.int .i64 x, .int .i64 y, .bool on], .blk l 66 #[.int .i64 u, .int .i64 v, .bool po], .row 5 1 (.slice A6 n3 c6) n3 (ints .u8 O3), .blk m 46 (rA g.b0 g.b1 g.b2 g.b3 (.slice Ae j ce) (.slice Ap np cp) (.slice (some ad) ns cs))])))) := hid MN
                  have hc := run_load_agg (P := Try.prog) agg_spot12 (g := p) (off := 0) (vs := (#[.int .i64 x, .int .i64 y, .bool on] : Array Value).toList) (MN.out.heap (t := 66) (cs := #[.int .i64 x, .int .i64 y, .bool on]) (by simp)) rfl rfl
                  refine hK.out _ _ hc (fun hHeldN => ?_); clear hK K hc hHeld
                  try simp only [Act.put, List.setIfInBounds_toArray, List.set_cons_zero, List.set_cons_succ, List.getElem_toArray, List.getElem_cons_zero, List.getElem_cons_succ]
                  refine wpAnyH_listed (l' := #[true, true, false, false, true, true, true, false, true, true, true, false, true, false, false, false, false]) (by decide +kernel) ?_
                  exact k011.out nX nY wn MN hHeldN
              · intro nF Bf ef wv MS hHeld
                refine wpAnyH_ready (rs := [6, 10]) (by decide +kernel) (by simp) ?_
                refine AllReadyH.cons rfl (fun K hK => ?_) (AllReadyH.cons rfl (fun K hK => ?_) (AllReadyH.nil))
                · skip
                  go_simp
                  have MN := MS.out.allocX (F := [.row 5 1 (.slice Bf (t + 1) ef) (t + 1) (ints .u8 fls ++ [.int .u8 (fv)])]) (X := [.row 5 1 (.slice Ax nx cx) nx (ints .u8 xs)]) (Y := [.row 5 1 (.slice Ay ny cy) ny (ints .u8 ys)]) 23 #[.slice Ax nx cx, .slice A5 lx c5]
                  clear MS
                  obtain ⟨nX, hnX⟩ : ∃ k, wv.heap.size = k := ⟨_, rfl⟩
                  obtain ⟨wn, hwn⟩ : ∃ k, wv.alloc (.cells #[.slice Ax nx cx, .slice A5 lx c5] 23 (0, 0)) = k := ⟨_, rfl⟩
                  rw [hwn, hnX] at MN
                  rw [hwn, hnX]
                  clear hwn hnX
                  replace MN : Hid (Own w wn ([.row 5 1 (.slice Bf (t + 1) ef) (t + 1) (ints .u8 fls ++ [.int .u8 (fv)])] ++ ([.blk nX 23 #[.slice Ax nx cx, .slice A5 lx c5], .row 5 1 (.slice Ax nx cx) nx (ints .u8 xs)] ++ ([.row 5 1 (.slice Ay ny cy) ny (ints .u8 ys)] ++ [.row 5 1 (.slice A7 ly c7) ly (ints .u8 by_), .row 5 1 (.slice A5 lx c5) lx (ints .u8 bx), .blk p 66 #[.int .i64 x, .int .i64 y, .bool on], .blk l 66 #[.int .i64 u, .int .i64 v, .bool po], .row 5 1 (.slice A6 n3 c6) n3 (ints .u8 O3), .blk m 46 (rA g.b0 g.b1 g.b2 g.b3 (.slice Ae j ce) (.slice Ap np cp) (.slice (some ad) ns cs))])))) := hid MN
                  have hc := run_load_agg (P := Try.prog) agg_spot12 (g := p) (off := 0) (vs := (#[.int .i64 x, .int .i64 y, .bool on] : Array Value).toList) (MN.out.heap (t := 66) (cs := #[.int .i64 x, .int .i64 y, .bool on]) (by simp)) rfl rfl
                  refine hK.out _ _ hc (fun hHeldN => ?_); clear hK K hc hHeld
                  try simp only [Act.put, List.setIfInBounds_toArray, List.set_cons_zero, List.set_cons_succ, List.getElem_toArray, List.getElem_cons_zero, List.getElem_cons_succ]
                  refine wpAnyH_listed (l' := #[true, true, true, true, true, true, true, false, true, true, false, false, true, false, false, false, false]) (by decide +kernel) ?_
                  revert hHeldN; revert MN; revert wn; revert nX; revert ef; revert Bf; revert nF
                  exact k210.out
                · skip
                  go_simp
                  have MN := MS.out.allocY (F := [.row 5 1 (.slice Bf (t + 1) ef) (t + 1) (ints .u8 fls ++ [.int .u8 (fv)])]) (X := [.row 5 1 (.slice Ax nx cx) nx (ints .u8 xs)]) (Y := [.row 5 1 (.slice Ay ny cy) ny (ints .u8 ys)]) 23 #[.slice Ay ny cy, .slice A7 ly c7]
                  clear MS
                  obtain ⟨nY, hnY⟩ : ∃ k, wv.heap.size = k := ⟨_, rfl⟩
                  obtain ⟨wn, hwn⟩ : ∃ k, wv.alloc (.cells #[.slice Ay ny cy, .slice A7 ly c7] 23 (0, 0)) = k := ⟨_, rfl⟩
                  rw [hwn, hnY] at MN
                  rw [hwn, hnY]
                  clear hwn hnY
                  replace MN : Hid (Own w wn ([.row 5 1 (.slice Bf (t + 1) ef) (t + 1) (ints .u8 fls ++ [.int .u8 (fv)])] ++ ([.row 5 1 (.slice Ax nx cx) nx (ints .u8 xs)] ++ ([.blk nY 23 #[.slice Ay ny cy, .slice A7 ly c7], .row 5 1 (.slice Ay ny cy) ny (ints .u8 ys)] ++ [.row 5 1 (.slice A7 ly c7) ly (ints .u8 by_), .row 5 1 (.slice A5 lx c5) lx (ints .u8 bx), .blk p 66 #[.int .i64 x, .int .i64 y, .bool on], .blk l 66 #[.int .i64 u, .int .i64 v, .bool po], .row 5 1 (.slice A6 n3 c6) n3 (ints .u8 O3), .blk m 46 (rA g.b0 g.b1 g.b2 g.b3 (.slice Ae j ce) (.slice Ap np cp) (.slice (some ad) ns cs))])))) := hid MN
                  have hc := run_load_agg (P := Try.prog) agg_spot12 (g := p) (off := 0) (vs := (#[.int .i64 x, .int .i64 y, .bool on] : Array Value).toList) (MN.out.heap (t := 66) (cs := #[.int .i64 x, .int .i64 y, .bool on]) (by simp)) rfl rfl
                  refine hK.out _ _ hc (fun hHeldN => ?_); clear hK K hc hHeld
                  try simp only [Act.put, List.setIfInBounds_toArray, List.set_cons_zero, List.set_cons_succ, List.getElem_toArray, List.getElem_cons_zero, List.getElem_cons_succ]
                  refine wpAnyH_listed (l' := #[true, true, true, true, true, true, false, false, true, true, true, false, true, false, false, false, false]) (by decide +kernel) ?_
                  revert hHeldN; revert MN; revert wn; revert nY; revert ef; revert Bf; revert nF
                  exact k201.out
              · intro nF nX wv MS hHeld
                refine wpAnyH_ready (rs := [3, 10]) (by decide +kernel) (by simp) ?_
                refine AllReadyH.cons rfl (fun K hK => ?_) (AllReadyH.cons rfl (fun K hK => ?_) (AllReadyH.nil))
                · skip
                  refine step_append_Own (by rfl) (.tmp 90) (.tmp 92) _ rfl sized_u8 rfl rfl (L1 := [.blk nF 5 #[.int .u8 (fv)]]) (L2 := [.blk nX 23 #[.slice Ax nx cx, .slice A5 lx c5], .row 5 1 (.slice Ax nx cx) nx (ints .u8 xs)] ++ ([.row 5 1 (.slice Ay ny cy) ny (ints .u8 ys)] ++ [.row 5 1 (.slice A7 ly c7) ly (ints .u8 by_), .row 5 1 (.slice A5 lx c5) lx (ints .u8 bx), .blk p 66 #[.int .i64 x, .int .i64 y, .bool on], .blk l 66 #[.int .i64 u, .int .i64 v, .bool po], .row 5 1 (.slice A6 n3 c6) n3 (ints .u8 O3), .blk m 46 (rA g.b0 g.b1 g.b2 g.b3 (.slice Ae j ce) (.slice Ap np cp) (.slice (some ad) ns cs))])) MS.out (SliceAt.built MS.out (.head _) 1 1 rfl (by unfold maxLen; omega)) (ints_one .u8 [fv]) (by unfold maxLen; omega) (by omega) ?_
                  intro v' wn M'; obtain ⟨Bf, ef, rfl⟩ := M'.tail.form (.head _)
                  have MN : Hid (Own w wn ([.row 5 1 (.slice Bf (t + 1) ef) (t + 1) (ints .u8 fls ++ [.int .u8 (fv)])] ++ ([.blk nX 23 #[.slice Ax nx cx, .slice A5 lx c5], .row 5 1 (.slice Ax nx cx) nx (ints .u8 xs)] ++ ([.row 5 1 (.slice Ay ny cy) ny (ints .u8 ys)] ++ [.row 5 1 (.slice A7 ly c7) ly (ints .u8 by_), .row 5 1 (.slice A5 lx c5) lx (ints .u8 bx), .blk p 66 #[.int .i64 x, .int .i64 y, .bool on], .blk l 66 #[.int .i64 u, .int .i64 v, .bool po], .row 5 1 (.slice A6 n3 c6) n3 (ints .u8 O3), .blk m 46 (rA g.b0 g.b1 g.b2 g.b3 (.slice Ae j ce) (.slice Ap np cp) (.slice (some ad) ns cs))])))) := hid M'.tail
                  clear M' MS
                  have hc := run_load_agg (P := Try.prog) agg_spot12 (g := p) (off := 0) (vs := (#[.int .i64 x, .int .i64 y, .bool on] : Array Value).toList) (MN.out.heap (t := 66) (cs := #[.int .i64 x, .int .i64 y, .bool on]) (by simp)) rfl rfl
                  refine hK.out _ _ hc (fun hHeldN => ?_); clear hK K hc hHeld
                  try simp only [Act.put, List.setIfInBounds_toArray, List.set_cons_zero, List.set_cons_succ, List.getElem_toArray, List.getElem_cons_zero, List.getElem_cons_succ]
                  refine wpAnyH_listed (l' := #[true, true, true, true, true, true, true, false, true, true, false, false, true, false, false, false, false]) (by decide +kernel) ?_
                  exact k210.out nF Bf ef nX wn MN hHeldN
                · skip
                  go_simp
                  have MN := MS.out.allocY (F := [.blk nF 5 #[.int .u8 (fv)], .row 5 1 (.slice Af t cf) t (ints .u8 fls)]) (X := [.blk nX 23 #[.slice Ax nx cx, .slice A5 lx c5], .row 5 1 (.slice Ax nx cx) nx (ints .u8 xs)]) (Y := [.row 5 1 (.slice Ay ny cy) ny (ints .u8 ys)]) 23 #[.slice Ay ny cy, .slice A7 ly c7]
                  clear MS
                  obtain ⟨nY, hnY⟩ : ∃ k, wv.heap.size = k := ⟨_, rfl⟩
                  obtain ⟨wn, hwn⟩ : ∃ k, wv.alloc (.cells #[.slice Ay ny cy, .slice A7 ly c7] 23 (0, 0)) = k := ⟨_, rfl⟩
                  rw [hwn, hnY] at MN
                  rw [hwn, hnY]
                  clear hwn hnY
                  replace MN : Hid (Own w wn ([.blk nF 5 #[.int .u8 (fv)], .row 5 1 (.slice Af t cf) t (ints .u8 fls)] ++ ([.blk nX 23 #[.slice Ax nx cx, .slice A5 lx c5], .row 5 1 (.slice Ax nx cx) nx (ints .u8 xs)] ++ ([.blk nY 23 #[.slice Ay ny cy, .slice A7 ly c7], .row 5 1 (.slice Ay ny cy) ny (ints .u8 ys)] ++ [.row 5 1 (.slice A7 ly c7) ly (ints .u8 by_), .row 5 1 (.slice A5 lx c5) lx (ints .u8 bx), .blk p 66 #[.int .i64 x, .int .i64 y, .bool on], .blk l 66 #[.int .i64 u, .int .i64 v, .bool po], .row 5 1 (.slice A6 n3 c6) n3 (ints .u8 O3), .blk m 46 (rA g.b0 g.b1 g.b2 g.b3 (.slice Ae j ce) (.slice Ap np cp) (.slice (some ad) ns cs))])))) := hid MN
                  have hc := run_load_agg (P := Try.prog) agg_spot12 (g := p) (off := 0) (vs := (#[.int .i64 x, .int .i64 y, .bool on] : Array Value).toList) (MN.out.heap (t := 66) (cs := #[.int .i64 x, .int .i64 y, .bool on]) (by simp)) rfl rfl
                  refine hK.out _ _ hc (fun hHeldN => ?_); clear hK K hc hHeld
                  try simp only [Act.put, List.setIfInBounds_toArray, List.set_cons_zero, List.set_cons_succ, List.getElem_toArray, List.getElem_cons_zero, List.getElem_cons_succ]
                  refine wpAnyH_listed (l' := #[true, true, true, false, true, true, true, false, true, true, true, false, true, false, false, false, false]) (by decide +kernel) ?_
                  revert hHeldN; revert MN; revert wn; revert nY; revert nX; revert nF
                  exact k111.out
              · intro nF nY wv MS hHeld
                refine wpAnyH_ready (rs := [3, 6]) (by decide +kernel) (by simp) ?_
                refine AllReadyH.cons rfl (fun K hK => ?_) (AllReadyH.cons rfl (fun K hK => ?_) (AllReadyH.nil))
                · skip
                  refine step_append_Own (by rfl) (.tmp 90) (.tmp 92) _ rfl sized_u8 rfl rfl (L1 := [.blk nF 5 #[.int .u8 (fv)]]) (L2 := [.row 5 1 (.slice Ax nx cx) nx (ints .u8 xs)] ++ ([.blk nY 23 #[.slice Ay ny cy, .slice A7 ly c7], .row 5 1 (.slice Ay ny cy) ny (ints .u8 ys)] ++ [.row 5 1 (.slice A7 ly c7) ly (ints .u8 by_), .row 5 1 (.slice A5 lx c5) lx (ints .u8 bx), .blk p 66 #[.int .i64 x, .int .i64 y, .bool on], .blk l 66 #[.int .i64 u, .int .i64 v, .bool po], .row 5 1 (.slice A6 n3 c6) n3 (ints .u8 O3), .blk m 46 (rA g.b0 g.b1 g.b2 g.b3 (.slice Ae j ce) (.slice Ap np cp) (.slice (some ad) ns cs))])) MS.out (SliceAt.built MS.out (.head _) 1 1 rfl (by unfold maxLen; omega)) (ints_one .u8 [fv]) (by unfold maxLen; omega) (by omega) ?_
                  intro v' wn M'; obtain ⟨Bf, ef, rfl⟩ := M'.tail.form (.head _)
                  have MN : Hid (Own w wn ([.row 5 1 (.slice Bf (t + 1) ef) (t + 1) (ints .u8 fls ++ [.int .u8 (fv)])] ++ ([.row 5 1 (.slice Ax nx cx) nx (ints .u8 xs)] ++ ([.blk nY 23 #[.slice Ay ny cy, .slice A7 ly c7], .row 5 1 (.slice Ay ny cy) ny (ints .u8 ys)] ++ [.row 5 1 (.slice A7 ly c7) ly (ints .u8 by_), .row 5 1 (.slice A5 lx c5) lx (ints .u8 bx), .blk p 66 #[.int .i64 x, .int .i64 y, .bool on], .blk l 66 #[.int .i64 u, .int .i64 v, .bool po], .row 5 1 (.slice A6 n3 c6) n3 (ints .u8 O3), .blk m 46 (rA g.b0 g.b1 g.b2 g.b3 (.slice Ae j ce) (.slice Ap np cp) (.slice (some ad) ns cs))])))) := hid M'.tail
                  clear M' MS
                  have hc := run_load_agg (P := Try.prog) agg_spot12 (g := p) (off := 0) (vs := (#[.int .i64 x, .int .i64 y, .bool on] : Array Value).toList) (MN.out.heap (t := 66) (cs := #[.int .i64 x, .int .i64 y, .bool on]) (by simp)) rfl rfl
                  refine hK.out _ _ hc (fun hHeldN => ?_); clear hK K hc hHeld
                  try simp only [Act.put, List.setIfInBounds_toArray, List.set_cons_zero, List.set_cons_succ, List.getElem_toArray, List.getElem_cons_zero, List.getElem_cons_succ]
                  refine wpAnyH_listed (l' := #[true, true, true, true, true, true, false, false, true, true, true, false, true, false, false, false, false]) (by decide +kernel) ?_
                  exact k201.out nF Bf ef nY wn MN hHeldN
                · skip
                  go_simp
                  have MN := MS.out.allocX (F := [.blk nF 5 #[.int .u8 (fv)], .row 5 1 (.slice Af t cf) t (ints .u8 fls)]) (X := [.row 5 1 (.slice Ax nx cx) nx (ints .u8 xs)]) (Y := [.blk nY 23 #[.slice Ay ny cy, .slice A7 ly c7], .row 5 1 (.slice Ay ny cy) ny (ints .u8 ys)]) 23 #[.slice Ax nx cx, .slice A5 lx c5]
                  clear MS
                  obtain ⟨nX, hnX⟩ : ∃ k, wv.heap.size = k := ⟨_, rfl⟩
                  obtain ⟨wn, hwn⟩ : ∃ k, wv.alloc (.cells #[.slice Ax nx cx, .slice A5 lx c5] 23 (0, 0)) = k := ⟨_, rfl⟩
                  rw [hwn, hnX] at MN
                  rw [hwn, hnX]
                  clear hwn hnX
                  replace MN : Hid (Own w wn ([.blk nF 5 #[.int .u8 (fv)], .row 5 1 (.slice Af t cf) t (ints .u8 fls)] ++ ([.blk nX 23 #[.slice Ax nx cx, .slice A5 lx c5], .row 5 1 (.slice Ax nx cx) nx (ints .u8 xs)] ++ ([.blk nY 23 #[.slice Ay ny cy, .slice A7 ly c7], .row 5 1 (.slice Ay ny cy) ny (ints .u8 ys)] ++ [.row 5 1 (.slice A7 ly c7) ly (ints .u8 by_), .row 5 1 (.slice A5 lx c5) lx (ints .u8 bx), .blk p 66 #[.int .i64 x, .int .i64 y, .bool on], .blk l 66 #[.int .i64 u, .int .i64 v, .bool po], .row 5 1 (.slice A6 n3 c6) n3 (ints .u8 O3), .blk m 46 (rA g.b0 g.b1 g.b2 g.b3 (.slice Ae j ce) (.slice Ap np cp) (.slice (some ad) ns cs))])))) := hid MN
                  have hc := run_load_agg (P := Try.prog) agg_spot12 (g := p) (off := 0) (vs := (#[.int .i64 x, .int .i64 y, .bool on] : Array Value).toList) (MN.out.heap (t := 66) (cs := #[.int .i64 x, .int .i64 y, .bool on]) (by simp)) rfl rfl
                  refine hK.out _ _ hc (fun hHeldN => ?_); clear hK K hc hHeld
                  try simp only [Act.put, List.setIfInBounds_toArray, List.set_cons_zero, List.set_cons_succ, List.getElem_toArray, List.getElem_cons_zero, List.getElem_cons_succ]
                  refine wpAnyH_listed (l' := #[true, true, true, false, true, true, true, false, true, true, true, false, true, false, false, false, false]) (by decide +kernel) ?_
                  exact k111.out nF nX nY wn MN hHeldN
              · intro nX nY wv MS hHeld
                refine wpAnyH_ready (rs := [2]) (by decide +kernel) (by simp) ?_
                refine AllReadyH.cons rfl (fun K hK => ?_) (AllReadyH.nil)
                go_simp
                have MN := MS.out.allocF (F := [.row 5 1 (.slice Af t cf) t (ints .u8 fls)]) (X := [.blk nX 23 #[.slice Ax nx cx, .slice A5 lx c5], .row 5 1 (.slice Ax nx cx) nx (ints .u8 xs)]) (Y := [.blk nY 23 #[.slice Ay ny cy, .slice A7 ly c7], .row 5 1 (.slice Ay ny cy) ny (ints .u8 ys)]) 5 #[.int .u8 (fv)]
                clear MS
                obtain ⟨nF, hnF⟩ : ∃ k, wv.heap.size = k := ⟨_, rfl⟩
                obtain ⟨wn, hwn⟩ : ∃ k, wv.alloc (.cells #[.int .u8 (fv)] 5 (0, 0)) = k := ⟨_, rfl⟩
                rw [hwn, hnF] at MN
                rw [hwn, hnF]
                clear hwn hnF
                replace MN : Hid (Own w wn ([.blk nF 5 #[.int .u8 (fv)], .row 5 1 (.slice Af t cf) t (ints .u8 fls)] ++ ([.blk nX 23 #[.slice Ax nx cx, .slice A5 lx c5], .row 5 1 (.slice Ax nx cx) nx (ints .u8 xs)] ++ ([.blk nY 23 #[.slice Ay ny cy, .slice A7 ly c7], .row 5 1 (.slice Ay ny cy) ny (ints .u8 ys)] ++ [.row 5 1 (.slice A7 ly c7) ly (ints .u8 by_), .row 5 1 (.slice A5 lx c5) lx (ints .u8 bx), .blk p 66 #[.int .i64 x, .int .i64 y, .bool on], .blk l 66 #[.int .i64 u, .int .i64 v, .bool po], .row 5 1 (.slice A6 n3 c6) n3 (ints .u8 O3), .blk m 46 (rA g.b0 g.b1 g.b2 g.b3 (.slice Ae j ce) (.slice Ap np cp) (.slice (some ad) ns cs))])))) := hid MN
                have hc := run_load_agg (P := Try.prog) agg_spot12 (g := p) (off := 0) (vs := (#[.int .i64 x, .int .i64 y, .bool on] : Array Value).toList) (MN.out.heap (t := 66) (cs := #[.int .i64 x, .int .i64 y, .bool on]) (by simp)) rfl rfl
                refine hK.out _ _ hc (fun hHeldN => ?_); clear hK K hc hHeld
                try simp only [Act.put, List.setIfInBounds_toArray, List.set_cons_zero, List.set_cons_succ, List.getElem_toArray, List.getElem_cons_zero, List.getElem_cons_succ]
                refine wpAnyH_listed (l' := #[true, true, true, false, true, true, true, false, true, true, true, false, true, false, false, false, false]) (by decide +kernel) ?_
                exact k111.out nF nX nY wn MN hHeldN
              · intro nF Bf ef nX wv MS hHeld
                refine wpAnyH_ready (rs := [7, 10]) (by decide +kernel) (by simp) ?_
                refine AllReadyH.cons rfl (fun K hK => ?_) (AllReadyH.cons rfl (fun K hK => ?_) (AllReadyH.nil))
                · skip
                  go_simp
                  have hC := join2_at MS.out (g := nX) (v1 := (.slice Ax nx cx)) (v2 := (.slice A5 lx c5)) (p := xs) (q := bx) (n := nx + lx) (by simp) (MS.out.bytes (e := 5) (n := nx) (by simp) hxy.out.1) (MS.out.bytes (e := 5) (n := lx) (by simp) hlxe.out) (by rw [hxy.out.1, hlxe.out]) (by have := hxb.out; have := hyb.out; have := hxy.out.1; have := hxy.out.2; have := hlx.out; have := hly.out; omega)
                  refine hC.mono ?_; clear hC; rintro _ wn ⟨_, rfl, M⟩; obtain ⟨Bx, ex, rfl⟩ := M.form (.head _)
                  have MN : Hid (Own w wn ([.row 5 1 (.slice Bf (t + 1) ef) (t + 1) (ints .u8 fls ++ [.int .u8 (fv)])] ++ ([.row 5 1 (.slice Bx (nx + lx) ex) (nx + lx) (ints .u8 (xs ++ bx))] ++ ([.row 5 1 (.slice Ay ny cy) ny (ints .u8 ys)] ++ [.row 5 1 (.slice A7 ly c7) ly (ints .u8 by_), .row 5 1 (.slice A5 lx c5) lx (ints .u8 bx), .blk p 66 #[.int .i64 x, .int .i64 y, .bool on], .blk l 66 #[.int .i64 u, .int .i64 v, .bool po], .row 5 1 (.slice A6 n3 c6) n3 (ints .u8 O3), .blk m 46 (rA g.b0 g.b1 g.b2 g.b3 (.slice Ae j ce) (.slice Ap np cp) (.slice (some ad) ns cs))])))) := hid (MS.out.joinX M)
                  clear M MS
                  go_wp2_with fail
                  have hc := run_load_agg (P := Try.prog) agg_spot12 (g := p) (off := 0) (vs := (#[.int .i64 x, .int .i64 y, .bool on] : Array Value).toList) (MN.out.heap (t := 66) (cs := #[.int .i64 x, .int .i64 y, .bool on]) (by simp)) rfl rfl
                  refine hK.out _ _ hc (fun hHeldN => ?_); clear hK K hc hHeld
                  try simp only [Act.put, List.setIfInBounds_toArray, List.set_cons_zero, List.set_cons_succ, List.getElem_toArray, List.getElem_cons_zero, List.getElem_cons_succ]
                  refine wpAnyH_listed (l' := #[true, true, true, true, true, true, true, true, true, true, false, false, true, false, false, false, false]) (by decide +kernel) ?_
                  revert hHeldN; revert MN; revert wn; revert ex; revert Bx; revert nX; revert ef; revert Bf; revert nF
                  exact k220.out
                · skip
                  go_simp
                  have MN := MS.out.allocY (F := [.row 5 1 (.slice Bf (t + 1) ef) (t + 1) (ints .u8 fls ++ [.int .u8 (fv)])]) (X := [.blk nX 23 #[.slice Ax nx cx, .slice A5 lx c5], .row 5 1 (.slice Ax nx cx) nx (ints .u8 xs)]) (Y := [.row 5 1 (.slice Ay ny cy) ny (ints .u8 ys)]) 23 #[.slice Ay ny cy, .slice A7 ly c7]
                  clear MS
                  obtain ⟨nY, hnY⟩ : ∃ k, wv.heap.size = k := ⟨_, rfl⟩
                  obtain ⟨wn, hwn⟩ : ∃ k, wv.alloc (.cells #[.slice Ay ny cy, .slice A7 ly c7] 23 (0, 0)) = k := ⟨_, rfl⟩
                  rw [hwn, hnY] at MN
                  rw [hwn, hnY]
                  clear hwn hnY
                  replace MN : Hid (Own w wn ([.row 5 1 (.slice Bf (t + 1) ef) (t + 1) (ints .u8 fls ++ [.int .u8 (fv)])] ++ ([.blk nX 23 #[.slice Ax nx cx, .slice A5 lx c5], .row 5 1 (.slice Ax nx cx) nx (ints .u8 xs)] ++ ([.blk nY 23 #[.slice Ay ny cy, .slice A7 ly c7], .row 5 1 (.slice Ay ny cy) ny (ints .u8 ys)] ++ [.row 5 1 (.slice A7 ly c7) ly (ints .u8 by_), .row 5 1 (.slice A5 lx c5) lx (ints .u8 bx), .blk p 66 #[.int .i64 x, .int .i64 y, .bool on], .blk l 66 #[.int .i64 u, .int .i64 v, .bool po], .row 5 1 (.slice A6 n3 c6) n3 (ints .u8 O3), .blk m 46 (rA g.b0 g.b1 g.b2 g.b3 (.slice Ae j ce) (.slice Ap np cp) (.slice (some ad) ns cs))])))) := hid MN
                  have hc := run_load_agg (P := Try.prog) agg_spot12 (g := p) (off := 0) (vs := (#[.int .i64 x, .int .i64 y, .bool on] : Array Value).toList) (MN.out.heap (t := 66) (cs := #[.int .i64 x, .int .i64 y, .bool on]) (by simp)) rfl rfl
                  refine hK.out _ _ hc (fun hHeldN => ?_); clear hK K hc hHeld
                  try simp only [Act.put, List.setIfInBounds_toArray, List.set_cons_zero, List.set_cons_succ, List.getElem_toArray, List.getElem_cons_zero, List.getElem_cons_succ]
                  refine wpAnyH_listed (l' := #[true, true, true, true, true, true, true, false, true, true, true, false, true, false, false, false, false]) (by decide +kernel) ?_
                  revert hHeldN; revert MN; revert wn; revert nY; revert nX; revert ef; revert Bf; revert nF
                  exact k211.out
              · intro nF Bf ef nY wv MS hHeld
                refine wpAnyH_ready (rs := [6]) (by decide +kernel) (by simp) ?_
                refine AllReadyH.cons rfl (fun K hK => ?_) (AllReadyH.nil)
                go_simp
                have MN := MS.out.allocX (F := [.row 5 1 (.slice Bf (t + 1) ef) (t + 1) (ints .u8 fls ++ [.int .u8 (fv)])]) (X := [.row 5 1 (.slice Ax nx cx) nx (ints .u8 xs)]) (Y := [.blk nY 23 #[.slice Ay ny cy, .slice A7 ly c7], .row 5 1 (.slice Ay ny cy) ny (ints .u8 ys)]) 23 #[.slice Ax nx cx, .slice A5 lx c5]
                clear MS
                obtain ⟨nX, hnX⟩ : ∃ k, wv.heap.size = k := ⟨_, rfl⟩
                obtain ⟨wn, hwn⟩ : ∃ k, wv.alloc (.cells #[.slice Ax nx cx, .slice A5 lx c5] 23 (0, 0)) = k := ⟨_, rfl⟩
                rw [hwn, hnX] at MN
                rw [hwn, hnX]
                clear hwn hnX
                replace MN : Hid (Own w wn ([.row 5 1 (.slice Bf (t + 1) ef) (t + 1) (ints .u8 fls ++ [.int .u8 (fv)])] ++ ([.blk nX 23 #[.slice Ax nx cx, .slice A5 lx c5], .row 5 1 (.slice Ax nx cx) nx (ints .u8 xs)] ++ ([.blk nY 23 #[.slice Ay ny cy, .slice A7 ly c7], .row 5 1 (.slice Ay ny cy) ny (ints .u8 ys)] ++ [.row 5 1 (.slice A7 ly c7) ly (ints .u8 by_), .row 5 1 (.slice A5 lx c5) lx (ints .u8 bx), .blk p 66 #[.int .i64 x, .int .i64 y, .bool on], .blk l 66 #[.int .i64 u, .int .i64 v, .bool po], .row 5 1 (.slice A6 n3 c6) n3 (ints .u8 O3), .blk m 46 (rA g.b0 g.b1 g.b2 g.b3 (.slice Ae j ce) (.slice Ap np cp) (.slice (some ad) ns cs))])))) := hid MN
                have hc := run_load_agg (P := Try.prog) agg_spot12 (g := p) (off := 0) (vs := (#[.int .i64 x, .int .i64 y, .bool on] : Array Value).toList) (MN.out.heap (t := 66) (cs := #[.int .i64 x, .int .i64 y, .bool on]) (by simp)) rfl rfl
                refine hK.out _ _ hc (fun hHeldN => ?_); clear hK K hc hHeld
                try simp only [Act.put, List.setIfInBounds_toArray, List.set_cons_zero, List.set_cons_succ, List.getElem_toArray, List.getElem_cons_zero, List.getElem_cons_succ]
                refine wpAnyH_listed (l' := #[true, true, true, true, true, true, true, false, true, true, true, false, true, false, false, false, false]) (by decide +kernel) ?_
                exact k211.out nF Bf ef nX nY wn MN hHeldN
              · intro nF nX nY wv MS hHeld
                refine wpAnyH_ready (rs := [3]) (by decide +kernel) (by simp) ?_
                refine AllReadyH.cons rfl (fun K hK => ?_) (AllReadyH.nil)
                refine step_append_Own (by rfl) (.tmp 90) (.tmp 92) _ rfl sized_u8 rfl rfl (L1 := [.blk nF 5 #[.int .u8 (fv)]]) (L2 := [.blk nX 23 #[.slice Ax nx cx, .slice A5 lx c5], .row 5 1 (.slice Ax nx cx) nx (ints .u8 xs)] ++ ([.blk nY 23 #[.slice Ay ny cy, .slice A7 ly c7], .row 5 1 (.slice Ay ny cy) ny (ints .u8 ys)] ++ [.row 5 1 (.slice A7 ly c7) ly (ints .u8 by_), .row 5 1 (.slice A5 lx c5) lx (ints .u8 bx), .blk p 66 #[.int .i64 x, .int .i64 y, .bool on], .blk l 66 #[.int .i64 u, .int .i64 v, .bool po], .row 5 1 (.slice A6 n3 c6) n3 (ints .u8 O3), .blk m 46 (rA g.b0 g.b1 g.b2 g.b3 (.slice Ae j ce) (.slice Ap np cp) (.slice (some ad) ns cs))])) MS.out (SliceAt.built MS.out (.head _) 1 1 rfl (by unfold maxLen; omega)) (ints_one .u8 [fv]) (by unfold maxLen; omega) (by omega) ?_
                intro v' wn M'; obtain ⟨Bf, ef, rfl⟩ := M'.tail.form (.head _)
                have MN : Hid (Own w wn ([.row 5 1 (.slice Bf (t + 1) ef) (t + 1) (ints .u8 fls ++ [.int .u8 (fv)])] ++ ([.blk nX 23 #[.slice Ax nx cx, .slice A5 lx c5], .row 5 1 (.slice Ax nx cx) nx (ints .u8 xs)] ++ ([.blk nY 23 #[.slice Ay ny cy, .slice A7 ly c7], .row 5 1 (.slice Ay ny cy) ny (ints .u8 ys)] ++ [.row 5 1 (.slice A7 ly c7) ly (ints .u8 by_), .row 5 1 (.slice A5 lx c5) lx (ints .u8 bx), .blk p 66 #[.int .i64 x, .int .i64 y, .bool on], .blk l 66 #[.int .i64 u, .int .i64 v, .bool po], .row 5 1 (.slice A6 n3 c6) n3 (ints .u8 O3), .blk m 46 (rA g.b0 g.b1 g.b2 g.b3 (.slice Ae j ce) (.slice Ap np cp) (.slice (some ad) ns cs))])))) := hid M'.tail
                clear M' MS
                have hc := run_load_agg (P := Try.prog) agg_spot12 (g := p) (off := 0) (vs := (#[.int .i64 x, .int .i64 y, .bool on] : Array Value).toList) (MN.out.heap (t := 66) (cs := #[.int .i64 x, .int .i64 y, .bool on]) (by simp)) rfl rfl
                refine hK.out _ _ hc (fun hHeldN => ?_); clear hK K hc hHeld
                try simp only [Act.put, List.setIfInBounds_toArray, List.set_cons_zero, List.set_cons_succ, List.getElem_toArray, List.getElem_cons_zero, List.getElem_cons_succ]
                refine wpAnyH_listed (l' := #[true, true, true, true, true, true, true, false, true, true, true, false, true, false, false, false, false]) (by decide +kernel) ?_
                exact k211.out nF Bf ef nX nY wn MN hHeldN
              · intro nF Bf ef nX Bx ex wv MS hHeld
                refine wpAnyH_ready (rs := [10]) (by decide +kernel) (by simp) ?_
                refine AllReadyH.cons rfl (fun K hK => ?_) (AllReadyH.nil)
                go_simp
                have MN := MS.out.allocY (F := [.row 5 1 (.slice Bf (t + 1) ef) (t + 1) (ints .u8 fls ++ [.int .u8 (fv)])]) (X := [.row 5 1 (.slice Bx (nx + lx) ex) (nx + lx) (ints .u8 (xs ++ bx))]) (Y := [.row 5 1 (.slice Ay ny cy) ny (ints .u8 ys)]) 23 #[.slice Ay ny cy, .slice A7 ly c7]
                clear MS
                obtain ⟨nY, hnY⟩ : ∃ k, wv.heap.size = k := ⟨_, rfl⟩
                obtain ⟨wn, hwn⟩ : ∃ k, wv.alloc (.cells #[.slice Ay ny cy, .slice A7 ly c7] 23 (0, 0)) = k := ⟨_, rfl⟩
                rw [hwn, hnY] at MN
                rw [hwn, hnY]
                clear hwn hnY
                replace MN : Hid (Own w wn ([.row 5 1 (.slice Bf (t + 1) ef) (t + 1) (ints .u8 fls ++ [.int .u8 (fv)])] ++ ([.row 5 1 (.slice Bx (nx + lx) ex) (nx + lx) (ints .u8 (xs ++ bx))] ++ ([.blk nY 23 #[.slice Ay ny cy, .slice A7 ly c7], .row 5 1 (.slice Ay ny cy) ny (ints .u8 ys)] ++ [.row 5 1 (.slice A7 ly c7) ly (ints .u8 by_), .row 5 1 (.slice A5 lx c5) lx (ints .u8 bx), .blk p 66 #[.int .i64 x, .int .i64 y, .bool on], .blk l 66 #[.int .i64 u, .int .i64 v, .bool po], .row 5 1 (.slice A6 n3 c6) n3 (ints .u8 O3), .blk m 46 (rA g.b0 g.b1 g.b2 g.b3 (.slice Ae j ce) (.slice Ap np cp) (.slice (some ad) ns cs))])))) := hid MN
                have hc := run_load_agg (P := Try.prog) agg_spot12 (g := p) (off := 0) (vs := (#[.int .i64 x, .int .i64 y, .bool on] : Array Value).toList) (MN.out.heap (t := 66) (cs := #[.int .i64 x, .int .i64 y, .bool on]) (by simp)) rfl rfl
                refine hK.out _ _ hc (fun hHeldN => ?_); clear hK K hc hHeld
                try simp only [Act.put, List.setIfInBounds_toArray, List.set_cons_zero, List.set_cons_succ, List.getElem_toArray, List.getElem_cons_zero, List.getElem_cons_succ]
                refine wpAnyH_listed (l' := #[true, true, true, true, true, true, true, true, true, true, true, false, true, false, false, false, false]) (by decide +kernel) ?_
                revert hHeldN; revert MN; revert wn; revert nY; revert ex; revert Bx; revert nX; revert ef; revert Bf; revert nF
                exact k221.out
              · intro nF Bf ef nX nY wv MS hHeld
                refine wpAnyH_ready (rs := [7]) (by decide +kernel) (by simp) ?_
                refine AllReadyH.cons rfl (fun K hK => ?_) (AllReadyH.nil)
                go_simp
                have hC := join2_at MS.out (g := nX) (v1 := (.slice Ax nx cx)) (v2 := (.slice A5 lx c5)) (p := xs) (q := bx) (n := nx + lx) (by simp) (MS.out.bytes (e := 5) (n := nx) (by simp) hxy.out.1) (MS.out.bytes (e := 5) (n := lx) (by simp) hlxe.out) (by rw [hxy.out.1, hlxe.out]) (by have := hxb.out; have := hyb.out; have := hxy.out.1; have := hxy.out.2; have := hlx.out; have := hly.out; omega)
                refine hC.mono ?_; clear hC; rintro _ wn ⟨_, rfl, M⟩; obtain ⟨Bx, ex, rfl⟩ := M.form (.head _)
                have MN : Hid (Own w wn ([.row 5 1 (.slice Bf (t + 1) ef) (t + 1) (ints .u8 fls ++ [.int .u8 (fv)])] ++ ([.row 5 1 (.slice Bx (nx + lx) ex) (nx + lx) (ints .u8 (xs ++ bx))] ++ ([.blk nY 23 #[.slice Ay ny cy, .slice A7 ly c7], .row 5 1 (.slice Ay ny cy) ny (ints .u8 ys)] ++ [.row 5 1 (.slice A7 ly c7) ly (ints .u8 by_), .row 5 1 (.slice A5 lx c5) lx (ints .u8 bx), .blk p 66 #[.int .i64 x, .int .i64 y, .bool on], .blk l 66 #[.int .i64 u, .int .i64 v, .bool po], .row 5 1 (.slice A6 n3 c6) n3 (ints .u8 O3), .blk m 46 (rA g.b0 g.b1 g.b2 g.b3 (.slice Ae j ce) (.slice Ap np cp) (.slice (some ad) ns cs))])))) := hid (MS.out.joinX M)
                clear M MS
                go_wp2_with fail
                have hc := run_load_agg (P := Try.prog) agg_spot12 (g := p) (off := 0) (vs := (#[.int .i64 x, .int .i64 y, .bool on] : Array Value).toList) (MN.out.heap (t := 66) (cs := #[.int .i64 x, .int .i64 y, .bool on]) (by simp)) rfl rfl
                refine hK.out _ _ hc (fun hHeldN => ?_); clear hK K hc hHeld
                try simp only [Act.put, List.setIfInBounds_toArray, List.set_cons_zero, List.set_cons_succ, List.getElem_toArray, List.getElem_cons_zero, List.getElem_cons_succ]
                refine wpAnyH_listed (l' := #[true, true, true, true, true, true, true, true, true, true, true, false, true, false, false, false, false]) (by decide +kernel) ?_
                exact k221.out nF Bf ef nX Bx ex nY wn MN hHeldN
              · intro nF Bf ef nX Bx ex nY wv MS hHeld
                refine wpAnyH_ready (rs := [11]) (by decide +kernel) (by simp) ?_
                refine AllReadyH.cons rfl (fun K hK => ?_) (AllReadyH.nil)
                go_simp
                have hC := join2_at MS.out (g := nY) (v1 := (.slice Ay ny cy)) (v2 := (.slice A7 ly c7)) (p := ys) (q := by_) (n := ny + ly) (by simp) (MS.out.bytes (e := 5) (n := ny) (by simp) hxy.out.2) (MS.out.bytes (e := 5) (n := ly) (by simp) hlye.out) (by rw [hxy.out.2, hlye.out]) (by have := hxb.out; have := hyb.out; have := hxy.out.1; have := hxy.out.2; have := hlx.out; have := hly.out; omega)
                refine hC.mono ?_; clear hC; rintro _ wn ⟨_, rfl, M⟩; obtain ⟨By, ey, rfl⟩ := M.form (.head _)
                have MN : Hid (Own w wn ([.row 5 1 (.slice Bf (t + 1) ef) (t + 1) (ints .u8 fls ++ [.int .u8 (fv)])] ++ ([.row 5 1 (.slice Bx (nx + lx) ex) (nx + lx) (ints .u8 (xs ++ bx))] ++ ([.row 5 1 (.slice By (ny + ly) ey) (ny + ly) (ints .u8 (ys ++ by_))] ++ [.row 5 1 (.slice A7 ly c7) ly (ints .u8 by_), .row 5 1 (.slice A5 lx c5) lx (ints .u8 bx), .blk p 66 #[.int .i64 x, .int .i64 y, .bool on], .blk l 66 #[.int .i64 u, .int .i64 v, .bool po], .row 5 1 (.slice A6 n3 c6) n3 (ints .u8 O3), .blk m 46 (rA g.b0 g.b1 g.b2 g.b3 (.slice Ae j ce) (.slice Ap np cp) (.slice (some ad) ns cs))])))) := hid (MS.out.joinY M)
                clear M MS
                go_wp2_with fail
                have hc := run_load_agg (P := Try.prog) agg_spot12 (g := p) (off := 0) (vs := (#[.int .i64 x, .int .i64 y, .bool on] : Array Value).toList) (MN.out.heap (t := 66) (cs := #[.int .i64 x, .int .i64 y, .bool on]) (by simp)) rfl rfl
                refine hK.out _ _ hc (fun hHeldN => ?_); clear hK K hc hHeld
                try simp only [Act.put, List.setIfInBounds_toArray, List.set_cons_zero, List.set_cons_succ, List.getElem_toArray, List.getElem_cons_zero, List.getElem_cons_succ]
                refine wpAnyH_listed (l' := #[true, true, true, true, true, true, true, true, true, true, true, true, true, false, false, false, false]) (by decide +kernel) ?_
                revert hHeldN; revert MN; revert wn; revert ey; revert By; revert nY; revert ex; revert Bx; revert nX; revert ef; revert Bf; revert nF
                exact k222.out
              · intro nF Bf ef nX Bx ex nY By ey wv MS hHeld
                obtain ⟨s0, s1, s2⟩ := rsp_cells (p := l) (x := u) (y := v) (on := po) MS.out (by simp)
                obtain ⟨t0, t1, t2⟩ := rsp_free (p := l) (x := u) (y := v) (on := po) MS.out (by simp)
                repeat (first | (refine wpAnyH_take (i := 13) (v := ?_) rfl (by kernel_rfl) (by decide +kernel) (by decide +kernel) (fun _ _ _ h => h) ?_ (by assumption) ?_; rotate_left; (first | (refine yields_load (by rfl) rfl rfl ?_; intro w hSw; (try dsimp only at hSw); go_split_ands; assumption) | (refine Or.inl ⟨by rfl, ?_⟩; intro w hSw; (try dsimp only at hSw); go_simp; done) | (refine Or.inl ⟨by rfl, ?_⟩; intro w hSw; (try dsimp only at hSw); go_simp; with_reducible rfl) | exact Or.inr ⟨by rfl, rfl⟩); (try simp only [Act.put, List.setIfInBounds_toArray, List.set_cons_zero, List.set_cons_succ, List.getElem_toArray, List.getElem_cons_zero, List.getElem_cons_succ])) | (refine wpAnyH_take (i := 14) (v := ?_) rfl (by kernel_rfl) (by decide +kernel) (by decide +kernel) (fun _ _ _ h => h) ?_ (by assumption) ?_; rotate_left; (first | (refine yields_load (by rfl) rfl rfl ?_; intro w hSw; (try dsimp only at hSw); go_split_ands; assumption) | (refine Or.inl ⟨by rfl, ?_⟩; intro w hSw; (try dsimp only at hSw); go_simp; done) | (refine Or.inl ⟨by rfl, ?_⟩; intro w hSw; (try dsimp only at hSw); go_simp; with_reducible rfl) | exact Or.inr ⟨by rfl, rfl⟩); (try simp only [Act.put, List.setIfInBounds_toArray, List.set_cons_zero, List.set_cons_succ, List.getElem_toArray, List.getElem_cons_zero, List.getElem_cons_succ])) | (refine wpAnyH_take (i := 15) (v := ?_) rfl (by kernel_rfl) (by decide +kernel) (by decide +kernel) (fun _ _ _ h => h) ?_ (by assumption) ?_; rotate_left; (first | (refine yields_load (by rfl) rfl rfl ?_; intro w hSw; (try dsimp only at hSw); go_split_ands; assumption) | (refine Or.inl ⟨by rfl, ?_⟩; intro w hSw; (try dsimp only at hSw); go_simp; done) | (refine Or.inl ⟨by rfl, ?_⟩; intro w hSw; (try dsimp only at hSw); go_simp; with_reducible rfl) | exact Or.inr ⟨by rfl, rfl⟩); (try simp only [Act.put, List.setIfInBounds_toArray, List.set_cons_zero, List.set_cons_succ, List.getElem_toArray, List.getElem_cons_zero, List.getElem_cons_succ])))
                refine wpAnyH_ready (rs := [16]) (by decide +kernel) (by simp) ?_; refine AllReadyH.cons rfl (fun K hK => ?_) AllReadyH.nil; go_simp
                have MN := hid (spot_put (L1 := [.row 5 1 (.slice Bf (t + 1) ef) (t + 1) (ints .u8 fls ++ [.int .u8 fv]), .row 5 1 (.slice Bx (nx + lx) ex) (nx + lx) (ints .u8 (xs ++ bx)), .row 5 1 (.slice By (ny + ly) ey) (ny + ly) (ints .u8 (ys ++ by_)), .blk p 66 #[.int .i64 x, .int .i64 y, .bool on]]) (L2 := [.row 5 1 (.slice A6 n3 c6) n3 (ints .u8 O3), .blk m 46 (rA g.b0 g.b1 g.b2 g.b3 (.slice Ae j ce) (.slice Ap np cp) (.slice (some ad) ns cs))]) (l := l) (a := .int .i64 u) (b := .int .i64 v) (c := .bool po) (MS.out.sub (by simp)) (.int .i64 x) (.int .i64 y) (.bool on))
                clear MS s0 s1 s2 t0 t1 t2
                have hc := run_load_agg (P := Try.prog) agg_spot12 (g := p) (off := 0) (vs := (#[.int .i64 x, .int .i64 y, .bool on] : Array Value).toList) (MN.out.heap (t := 66) (cs := #[.int .i64 x, .int .i64 y, .bool on]) (by simp)) rfl rfl
                refine hK.out _ _ hc (fun hHeldN => ?_); clear hK K hc hHeld hHeldN
                try simp only [Act.put, List.setIfInBounds_toArray, List.set_cons_zero, List.set_cons_succ, List.getElem_toArray, List.getElem_cons_zero, List.getElem_cons_succ]
                refine wpAnyH_done (by kernel_rfl) ?_ _
                go_wp2
                go_roundw
                case rel =>
                  refine ⟨t + 1, Bf, ef, nx + lx, Bx, ex, ny + ly, By, ey, by omega, by go_num, rfl, rfl, rfl, hid ⟨by rw [hxs.out, List.length_append, hxy.out.1, hlxe.out], by rw [hys.out, List.length_append, hxy.out.2, hlye.out]⟩, hid ?_⟩
                  rw [hfs.out, hxs.out, hys.out, hfl.out, hnx.out.1, hnx.out.2.1, hnx.out.2.2, ints_append]
                  exact MN.out.sub (.cons_cons _ (.cons_cons _ (.cons_cons _ (.cons _ (List.Sublist.refl _)))))
                case measure => simp [intOf] <;> omega
              -- T>
              -- Q>
            · obtain rfl : t = ns := by omega
              -- <R
              have hfin3 := hid (show sgB g = O3 ++ (rowsB (flsK g.pts t) ++ (xsK g.pts t ++ ysK g.pts t)) from hfin2.out)
              have hfL := hid (flsK_length g.pts t)
              have hfO := hid (fun k (hk : k < t) => fls_at g.pts hk)
              have hxb := hid (xsK_length g.pts t)
              have hyb := hid (ysK_length g.pts t)
              generalize flsK g.pts t = fls at *
              generalize xsK g.pts t = xs at *
              generalize ysK g.pts t = ys at *
              have MX := hid ((MR.out.sub (L' := [.row 5 1 (.slice Af t cf) t (ints .u8 fls), .row 5 1 (.slice Ax nx cx) nx (ints .u8 xs), .row 5 1 (.slice Ay ny cy) ny (ints .u8 ys), .row 5 1 (.slice A6 n3 c6) n3 (ints .u8 O3)]) (by simp)).perm (List.perm_middle (l₁ := [_, _, _]) (l₂ := [])))
              clear MR
              go_wp2
              go_loopw [3, 18] (fun o i wr => ∃ (d no : Nat) (Ao : Option Addr) (co : Nat), d ≤ t ∧ i = .int .i64 d ∧ o = .slice Ao no co ∧ no ≤ n3 + 2 * d ∧ Hid (∃ done, done.length ≤ 2 * d ∧ (O3 ++ done).length = no ∧ rowsB fls = done ++ rowsB (fls.drop d) ∧ Own w wr [.row 5 1 (.slice Ao no co) no (ints .u8 (O3 ++ done)), .row 5 1 (.slice Af t cf) t (ints .u8 fls), .row 5 1 (.slice Ax nx cx) nx (ints .u8 xs), .row 5 1 (.slice Ay ny cy) ny (ints .u8 ys)])) (fun _ i _ => t - (intOf i).toNat)
              case atStart => exact ⟨0, n3, A6, c6, Nat.zero_le _, rfl, rfl, by omega, hid ⟨[], Nat.zero_le _, by rw [List.append_nil]; exact hn3.out, rfl, by rw [List.append_nil]; exact MX.out⟩⟩
              case round =>
                clear MX
                obtain ⟨d, no, Ao, co, hd, rfl, rfl, hno, hR⟩ := hrel
                obtain ⟨done, hdl, hol, hrows, MR⟩ := hR.out
                clear hR
                replace hdl := hid hdl
                replace hol := hid hol
                replace hrows := hid hrows
                replace MR := hid MR
                by_cases hdt : d < t
                · obtain ⟨adf, hadf⟩ := MR.out.row_ad (e := 5) (A := Af) (n := t) (c := cf) (vs := ints .u8 fls) (by simp) (by omega)
                  subst hadf
                  obtain ⟨⟨y0, y1⟩, y8⟩ := hfO.out d hdt
                  have hll := hid (show (fls.drop d).length = t - d by rw [List.length_drop, hfL.out])
                  obtain ⟨y, hy⟩ : ∃ y, fls.getD d 0 = y := ⟨_, rfl⟩
                  rw [hy] at y0 y1 y8
                  replace hy := hid hy
                  replace y8 := hid y8
                  go_wp2_with fail
                  go_loopw [19] (fun s wr => ∃ jj : Nat, d ≤ jj ∧ jj < t ∧ jj ≤ d + 255 ∧ s = .int .i64 jj ∧ Hid (∀ k, k < jj + 1 - d → (fls.drop d).getD k 0 = (fls.drop d).getD 0 0) ∧ Hid (Own w wr [.row 5 1 (.slice Ao no co) no (ints .u8 (O3 ++ done)), .row 5 1 (.slice (some adf) t cf) t (ints .u8 fls), .row 5 1 (.slice Ax nx cx) nx (ints .u8 xs), .row 5 1 (.slice Ay ny cy) ny (ints .u8 ys)])) (fun s _ => t - (intOf s).toNat)
                  case atStart => exact ⟨d, Nat.le_refl _, hdt, by omega, rfl, hid (fun k hk => by rw [show k = 0 by omega]), MR⟩
                  case round =>
                    clear MR
                    obtain ⟨jj, hj1, hj2, hj3, rfl, hsame, MI⟩ := hrel
                    obtain ⟨b, hb⟩ : ∃ b, decide (jj + 1 < t ∧ fls.getD (jj + 1) 0 = fls.getD d 0 ∧ jj < d + 255) = b := ⟨_, rfl⟩
                    replace hb := hid hb
                    go_upto_region 28 with fail
                    go_cut [131] (fun c wx => c = .bool b ∧ Hid (Own w wx [.row 5 1 (.slice Ao no co) no (ints .u8 (O3 ++ done)), .row 5 1 (.slice (some adf) t cf) t (ints .u8 fls), .row 5 1 (.slice Ax nx cx) nx (ints .u8 xs), .row 5 1 (.slice Ay ny cy) ny (ints .u8 ys)]))
                    case first =>
                      have cell_y := MI.out.at (e := 5) (k := .u8) (xs := fls) (n := t) (c := cf) (ad := adf) (by simp) hfL.out hdt hy.out
                      by_cases g1 : jj + 1 < t
                      · obtain ⟨x, hx⟩ : ∃ x, fls.getD (jj + 1) 0 = x := ⟨_, rfl⟩
                        have cx' := MI.out.at (e := 5) (k := .u8) (xs := fls) (n := t) (c := cf) (ad := adf) (by simp) hfL.out g1 hx
                        have cx'' : wr.cell? ⟨adf.block, adf.off + (jj + 1), none⟩ = some (.int .u8 x) := by simpa [Addr.add] using cx'
                        have g1' : (jj : Int) + 1 < t := by omega
                        replace hx := hid hx
                        rcases Bool.eq_false_or_eq_true (x == y) with e | e
                        · have exy : x = y := by simpa using e
                          replace exy := hid exy
                          by_cases g2 : (jj : Int) - d < 255
                          · have hbt : b = true := by rw [← hb.out, hx.out, hy.out]; exact decide_eq_true ⟨g1, exy.out, by omega⟩
                            replace hbt := hid hbt
                            go_big_quiet (fail)
                            go_wp2
                            go_meet
                            exact ⟨congrArg Value.bool hbt.out.symm, hid (by first | exact MI.out.drew | exact MI.out.drewN _ | exact MI.out)⟩
                          · have hbt : b = false := by rw [← hb.out]; exact decide_eq_false (by omega)
                            replace hbt := hid hbt
                            go_big_quiet (fail)
                            go_wp2
                            go_meet
                            exact ⟨congrArg Value.bool hbt.out.symm, hid (by first | exact MI.out.drew | exact MI.out.drewN _ | exact MI.out)⟩
                        · have exy : x ≠ y := by simpa using e
                          replace exy := hid exy
                          have hbt : b = false := by rw [← hb.out, hx.out, hy.out]; exact decide_eq_false (fun h => exy.out h.2.1)
                          replace hbt := hid hbt
                          go_big_quiet (fail)
                          go_wp2
                          go_meet
                          exact ⟨congrArg Value.bool hbt.out.symm, hid (by first | exact MI.out.drew | exact MI.out.drewN _ | exact MI.out)⟩
                      · have g1' : ¬ (jj : Int) + 1 < t := by omega
                        have hbt : b = false := by rw [← hb.out]; exact decide_eq_false (by omega)
                        replace hbt := hid hbt
                        go_big_quiet (fail)
                        go_wp2
                        go_meet
                        exact ⟨congrArg Value.bool hbt.out.symm, hid (by first | exact MI.out.drew | exact MI.out.drewN _ | exact MI.out)⟩
                    clear MI
                    obtain ⟨hc, MI⟩ := hcut
                    subst hc
                    cases b
                    · have hend := of_decide_eq_false hb.out
                      have hrn := hid (rn_of (l := fls.drop d) (i := jj + 1 - d) (by omega) (by rw [hll.out]; omega) (by omega) hsame.out (by
                        rw [hll.out, getD_drop', getD_drop', show d + (jj + 1 - d) = jj + 1 by omega, Nat.add_zero]
                        by_cases h1 : jj + 1 < t
                        · by_cases h2 : fls.getD (jj + 1) 0 = fls.getD d 0
                          · exact .inr (.inl (by omega))
                          · exact .inr (.inr h2)
                        · exact .inl (by omega)))
                      clear hend
                      have hnx := hid (rows_next (l0 := O3) (n := t) hrows.out hdl.out (by rw [hfL.out]; exact hdt) hrn.out)
                      rw [show d + (jj + 1 - d) = jj + 1 by omega] at hnx
                      have hrE := hid (show rowE (fls.drop d) = if jj > d then [or8 y 8, (jj : Int) - d] else [y] by
                        have e0 : (fls.drop d).getD 0 0 = y := by rw [getD_drop']; exact hy.out
                        unfold rowE
                        rw [hrn.out, e0]
                        by_cases h : jj > d
                        · rw [if_pos h, if_pos (by omega), show (((jj + 1 - d : Nat) : Int) - 1) = (jj : Int) - d by omega]
                        · rw [if_neg h, if_neg (by omega)])
                      have cell_y := MI.out.at (e := 5) (k := .u8) (xs := fls) (n := t) (c := cf) (ad := adf) (by simp) hfL.out hdt hy.out
                      have y8' := y8.out
                      obtain ⟨o0, o1⟩ := or8_bd y 8
                      by_cases g4 : jj > d
                      · rw [if_pos g4] at hrE
                        have g4' : (jj : Int) > d := by omega
                        have hwn : IntKind.u8.wrap ((jj : Int) - d) = (jj : Int) - d := by rw [IntKind.wrap_u8]; omega
                        go_wp2_with (at_builtin; refine wpList_append_Own rfl (.tmp 137) (.tmp 147) _ rfl sized_u8 rfl rfl (L1 := [.blk wc.heap.size 5 #[.int .u8 (or8 y 8), .int .u8 ((jj : Int) - d)]]) (L2 := [.row 5 1 (.slice (some adf) t cf) t (ints .u8 fls), .row 5 1 (.slice Ax nx cx) nx (ints .u8 xs), .row 5 1 (.slice Ay ny cy) ny (ints .u8 ys)]) (MI.out.alloc _ _) (SliceAt.built (MI.out.alloc _ _) (.head _) 1 2 rfl (by unfold maxLen; omega)) (ints_one .u8 [or8 y 8, (jj : Int) - d]) (by unfold maxLen; omega) (by omega) ?_; intro v' w' M'; obtain ⟨A7, c7, rfl⟩ := M'.tail.form (.head _); (have M7 := hid M'.tail); clear M')
                        go_roundw
                        case rel =>
                          refine ⟨jj + 1, no + 2, A7, c7, by omega, by go_num, rfl, by omega, hid ⟨done ++ rowE (fls.drop d), by have := hnx.out.2; omega, by rw [← List.append_assoc, List.length_append, hol.out, hrE.out]; rfl, hnx.out.1, by rw [← List.append_assoc, hrE.out, ints_append]; exact M7.out⟩⟩
                        case measure => simp [intOf] <;> omega
                      · rw [if_neg g4] at hrE
                        have g4' : ¬ (jj : Int) > d := by omega
                        go_wp2_with (at_builtin; refine wpList_append_Own rfl (.tmp 149) (.tmp 154) _ rfl sized_u8 rfl rfl (L1 := [.blk wc.heap.size 5 #[.int .u8 y]]) (L2 := [.row 5 1 (.slice (some adf) t cf) t (ints .u8 fls), .row 5 1 (.slice Ax nx cx) nx (ints .u8 xs), .row 5 1 (.slice Ay ny cy) ny (ints .u8 ys)]) (MI.out.alloc _ _) (SliceAt.built (MI.out.alloc _ _) (.head _) 1 1 rfl (by unfold maxLen; omega)) (ints_one .u8 [y]) (by unfold maxLen; omega) (by omega) ?_; intro v' w' M'; obtain ⟨A7, c7, rfl⟩ := M'.tail.form (.head _); (have M7 := hid M'.tail); clear M')
                        go_roundw
                        case rel =>
                          refine ⟨jj + 1, no + 1, A7, c7, by omega, by go_num, rfl, by omega, hid ⟨done ++ rowE (fls.drop d), by have := hnx.out.2; omega, by rw [← List.append_assoc, List.length_append, hol.out, hrE.out]; rfl, hnx.out.1, by rw [← List.append_assoc, hrE.out, ints_append]; exact M7.out⟩⟩
                        case measure => simp [intOf] <;> omega
                    · have hgo := of_decide_eq_true hb.out
                      have hsame2 := hid (fun k (hk : k < jj + 1 + 1 - d) => show (fls.drop d).getD k 0 = (fls.drop d).getD 0 0 from by
                        by_cases e : k = jj + 1 - d
                        · rw [e, getD_drop', getD_drop', show d + (jj + 1 - d) = jj + 1 by omega, Nat.add_zero]; exact hgo.2.1
                        · exact hsame.out k (by omega))
                      obtain ⟨h1, -, h3⟩ := hgo
                      go_wp2
                      go_roundw
                      case rel =>
                        exact ⟨jj + 1, by omega, h1, by omega, by go_num, hsame2, MI⟩
                      case measure => simp [intOf] <;> omega
                · obtain rfl : d = t := by omega
                  have hrE := hid (show rowsB fls = done by rw [hrows.out, List.drop_of_length_le (by rw [hfL.out]; omega)]; simp [rowsB, rowsF])
                  have hxyL := hid (show xs.length = nx ∧ ys.length = ny from hxy.out)
                  have hxyb : nx ≤ 2000 ∧ ny ≤ 2000 := by have := hxyL.out; have := hxb.out; have := hyb.out; omega
                  go_wp2_with (go_at_call 18; (have hC := join3_calls wr (v1 := .slice Ao no co) (v2 := .slice Ax nx cx) (v3 := .slice Ay ny cy) (p := O3 ++ done) (q := xs) (s := ys) (n := no + nx + ny) (MR.out.bytes (e := 5) (n := no) (by simp) hol.out) (MR.out.bytes (e := 5) (n := nx) (by simp) hxyL.out.1) (MR.out.bytes (e := 5) (n := ny) (by simp) hxyL.out.2) (by rw [hol.out, hxyL.out.1, hxyL.out.2]) (by omega)); ((with_reducible refine hC.mono ?_); clear hC); rintro _ w6 ⟨v6, rfl, M⟩; obtain ⟨A8, c8, rfl⟩ := M.form (.head _); (have M8 := hid ((MR.out.lift M).sub (L' := [_]) (.cons_cons _ (List.nil_sublist _)))); clear M)
                  go_ret
                  exact .mk (by rw [hfin3.out, hrE.out, show O3 ++ (done ++ (xs ++ ys)) = O3 ++ done ++ xs ++ ys by simp only [List.append_assoc], List.length_append, List.length_append, hol.out, hxyL.out.1, hxyL.out.2]; exact M8.out)
              -- R>
end Go.Proofs.Ytmmepjcndofnbaa
