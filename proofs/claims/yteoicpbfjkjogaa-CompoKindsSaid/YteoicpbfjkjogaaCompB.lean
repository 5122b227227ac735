/- Package compo: is a part right? -/
import Derived.Test.YteoicpbfjkjogaaCompA
import Derived.Test.YteoicpbfjkjogaaEq
import Derived.Test.YteoicpbfjkjogaaHeld
import Derived.Deep.RegionWith
import Derived.Deep.DeepCutAuto
import Derived.Deep.RegionHeld3
import Derived.BigQuiet
namespace Go.Proofs.Yteoicpbfjkjogaa
open Go Go.RowKit
set_option linter.unusedVariables false
set_option linter.unusedSimpArgs false
set_option maxRecDepth 100000

theorem scale_calls (w : World) (n : Int) : Calls Try.prog 26 #[.int .i16 n] w
    (Ret fun r w' => r = .agg #[.int .i16 n, .int .i16 0, .int .i16 0, .int .i16 n] ∧ Below w.heap.size w w') := by
  go_enter Try.func26, Try.ntmps26
  go_wp2
  exact bodyPost_ret (v := .agg #[.int .i16 n, .int .i16 0, .int .i16 0, .int .i16 n]) (by simp [results, Try.results26, go_sem]) rfl (.mk ⟨rfl, by go_grown⟩)
theorem unit_calls (w : World) : Calls Try.prog 11 #[] w
    (Ret fun r w' => r = .agg #[.int .i16 16384, .int .i16 0, .int .i16 0, .int .i16 16384] ∧ Below w.heap.size w w') := by
  have M0 := hid ((Own.start w).alloc 32 #[.int .i16 0, .int .i16 0, .int .i16 0, .int .i16 0])
  go_enter Try.func11, Try.ntmps11
  go_wp2_with fail
  refine (scale_calls _ _).mono ?_; rintro _ w1 ⟨_, rfl, rfl, hb⟩
  have M1 := M0.out.keep hb
  have HB := hid M1.below
  have hc := M1.cell (.head _)
  have hf := M1.free (.head _)
  have c0 := hc 0; have c1 := hc 1; have c2 := hc 2; have c3 := hc 3; have f0 := hf 0; have f1 := hf 1; have f2 := hf 2; have f3 := hf 3
  simp only [List.getElem?_toArray, List.getElem?_cons_zero, List.getElem?_cons_succ] at c0 c1 c2 c3
  have M2 := hid M1
  clear M1 hc hf hb M0
  go_wp2
  exact bodyPost_ret (v := .agg #[.int .i16 16384, .int .i16 0, .int .i16 0, .int .i16 16384]) (by simp [results, Try.results11, go_sem, c0, c1, c2, c3]) rfl
    (.mk ⟨rfl, ((((M2.out.set (L1 := []) 0 (.int .i16 16384)).set (L1 := []) 1 (.int .i16 0)).set (L1 := []) 2 (.int .i16 0)).set (L1 := []) 3 (.int .i16 16384)).below⟩)

theorem agg_part : AggOf Try.prog 35 8 := .mk' Try.underlying35 rfl (by kernel_rfl)
theorem agg_mat : AggOf Try.prog 32 4 := .mk' Try.underlying32 rfl (by kernel_rfl)
theorem int_cmp {P : Program} {e : TypeId} {k : IntKind} (he : P.underlying e = some (.int k)) (d : Nat) (a b : Int) (w : World) : (Op.equalIn (d + 1) e (.int k a) (.int k b)).run P w = .ok (a == b) w := by
  simp [Op.equalIn, run_underlying he, Sem.run_bind]
theorem mat_cmp (a b c d a' b' c' d' : Int) (w : World) : (Op.equalIn 10000 32 (.agg #[.int .i16 a, .int .i16 b, .int .i16 c, .int .i16 d]) (.agg #[.int .i16 a', .int .i16 b', .int .i16 c', .int .i16 d'])).run Try.prog w = .ok (decide (a = a' ∧ b = b' ∧ c = c' ∧ d = d')) w := by
  have i2 : (Try.prog.info? 25).map (·.size) = some 1 := by kernel_rfl
  have h : ∀ (x y z u : Int), (part 25 #[.int .i16 x, .int .i16 y, .int .i16 z, .int .i16 u] 0).run Try.prog w = .ok (.int .i16 x) w ∧ (part 25 #[.int .i16 x, .int .i16 y, .int .i16 z, .int .i16 u] 1).run Try.prog w = .ok (.int .i16 y) w ∧ (part 25 #[.int .i16 x, .int .i16 y, .int .i16 z, .int .i16 u] 2).run Try.prog w = .ok (.int .i16 z) w ∧ (part 25 #[.int .i16 x, .int .i16 y, .int .i16 z, .int .i16 u] 3).run Try.prog w = .ok (.int .i16 u) w :=
    fun x y z u => ⟨run_part_one Try.underlying25 i2 rfl w, run_part_one Try.underlying25 i2 rfl w, run_part_one Try.underlying25 i2 rfl w, run_part_one Try.underlying25 i2 rfl w⟩
  obtain ⟨p0, p1, p2, p3⟩ := h a b c d
  obtain ⟨q0, q1, q2, q3⟩ := h a' b' c' d'
  have h0 := int_cmp (P := Try.prog) Try.underlying25 9998 a a' w
  have h1 := int_cmp (P := Try.prog) Try.underlying25 9998 b b' w
  have h2 := int_cmp (P := Try.prog) Try.underlying25 9998 c c' w
  have h3 := int_cmp (P := Try.prog) Try.underlying25 9998 d d' w
  rw [show (10000 : Nat) = 9999 + 1 from rfl, run_equalIn_struct (P := Try.prog) w 9999 32 _ _ (by kernel_rfl) (by kernel_rfl)]
  simp [Program.fieldsOf, Try.underlying32, Op.eqFields, Sem.run_bind, p0, p1, p2, p3, q0, q1, q2, q3, h0, h1, h2, h3]
  clear p0 p1 p2 p3 q0 q1 q2 q3 h0 h1 h2 h3 h i2
  by_cases e0 : a = a' <;> by_cases e1 : b = b' <;> by_cases e2 : c = c' <;> by_cases e3 : d = d' <;> simp [e0, e1, e2, e3]
section
variable {W0 w : World} {L : List Ent} {m : Nat}
theorem pt_cells {p : Pt} (M : Own W0 w L) (h : .blk m 35 (ptA p) ∈ L) :
    w.cell? ⟨m, 0, none⟩ = some (.int .u16 p.f) ∧ w.cell? ⟨m, 1, none⟩ = some (.int .u16 p.g) ∧ w.cell? ⟨m, 2, none⟩ = some (.int .i16 p.x) ∧ w.cell? ⟨m, 3, none⟩ = some (.int .i16 p.y) ∧ w.cell? ⟨m, 4, none⟩ = some (.int .i16 p.a) ∧ w.cell? ⟨m, 5, none⟩ = some (.int .i16 p.b) ∧ w.cell? ⟨m, 6, none⟩ = some (.int .i16 p.c) ∧ w.cell? ⟨m, 7, none⟩ = some (.int .i16 p.d) :=
  ⟨M.cell h 0, M.cell h 1, M.cell h 2, M.cell h 3, M.cell h 4, M.cell h 5, M.cell h 6, M.cell h 7⟩
theorem mt_cells {a b c d : Int} (M : Own W0 w L) (h : .blk m 32 #[.int .i16 a, .int .i16 b, .int .i16 c, .int .i16 d] ∈ L) :
    w.cell? ⟨m, 0, none⟩ = some (.int .i16 a) ∧ w.cell? ⟨m, 1, none⟩ = some (.int .i16 b) ∧ w.cell? ⟨m, 2, none⟩ = some (.int .i16 c) ∧ w.cell? ⟨m, 3, none⟩ = some (.int .i16 d) :=
  ⟨M.cell h 0, M.cell h 1, M.cell h 2, M.cell h 3⟩
end
theorem small_calls (w : World) (n : Int) : Calls Try.prog 53 #[.int .i16 n] w (Ret fun r w' => r = .bool (smallB n) ∧ w = w') := by
  have hq : (decide (n ≥ -128) = false ∧ smallB n = false) ∨ (decide (n ≥ -128) = true ∧ (decide (n ≤ 127) = false ∧ smallB n = false ∨ decide (n ≤ 127) = true ∧ smallB n = true)) := by
    unfold smallB
    by_cases h1 : n ≥ -128 <;> by_cases h2 : n ≤ 127 <;> simp [h1, h2] <;> omega
  generalize smallB n = ok at *
  rcases hq with ⟨q1, q⟩ | ⟨q1, ⟨q2, q⟩ | ⟨q2, q⟩⟩
  all_goals
    subst q
    go_enter Try.func53, Try.ntmps53
    go_wp2
    go_ret
    exact .mk ⟨rfl, rfl⟩
set_option maxHeartbeats 4000000 in
theorem fits_calls (w : World) {p : Pt} (hO : p.Ok) : Calls Try.prog 52 #[.agg (ptA p)] w (Ret fun r w' => r = .bool (matB p) ∧ Below w.heap.size w w') := by
  obtain ⟨K, hk, hK⟩ := kd_cases hO.f.1 hO.f.2
  have hm := hid (show matB p = if kd p.f = 4 then true else if kd p.f = 2 then decide (p.b = 0 ∧ p.c = 0) else if kd p.f = 1 then decide (p.b = 0 ∧ p.c = 0 ∧ p.a = p.d) else if kd p.f = 0 then decide (p.a = 16384 ∧ p.b = 0 ∧ p.c = 0 ∧ p.d = 16384) else false from rfl)
  clear hO
  have M0 := hid (Own.start w)
  have hq := mat_cmp p.a p.b p.c p.d 16384 0 0 16384
  generalize matB p = R at *
  have hs : (¬ p.b = 0) ∨ (p.b = 0 ∧ ¬ p.c = 0) ∨ (p.b = 0 ∧ p.c = 0) := by omega
  rcases hs with h1 | ⟨h1, h2⟩ | ⟨h1, h2⟩
  all_goals
    first
    | have h1' : (p.b == 0) = false := by rw [beq_eq_false_iff_ne]; exact h1
      have hst := hid (show decide (p.b = 0 ∧ p.c = 0) = false from decide_eq_false fun h => h1 h.1)
      have hst2 := hid (show decide (p.b = 0 ∧ p.c = 0 ∧ p.a = p.d) = false from decide_eq_false fun h => h1 h.1)
      have hst3 := hid (show decide (p.a = 16384 ∧ p.b = 0 ∧ p.c = 0 ∧ p.d = 16384) = false from decide_eq_false fun h => h1 h.2.1)
      clear h1
    | have h1' : (p.b == 0) = true := by rw [beq_iff_eq]; exact h1
      have h2' : (p.c == 0) = false := by rw [beq_eq_false_iff_ne]; exact h2
      have hst := hid (show decide (p.b = 0 ∧ p.c = 0) = false from decide_eq_false fun h => h2 h.2)
      have hst2 := hid (show decide (p.b = 0 ∧ p.c = 0 ∧ p.a = p.d) = false from decide_eq_false fun h => h2 h.2.1)
      have hst3 := hid (show decide (p.a = 16384 ∧ p.b = 0 ∧ p.c = 0 ∧ p.d = 16384) = false from decide_eq_false fun h => h2 h.2.2.1)
      clear h1 h2
    | have h1' : (p.b == 0) = true := by rw [beq_iff_eq]; exact h1
      have h2' : (p.c == 0) = true := by rw [beq_iff_eq]; exact h2
      have hst := hid (show decide (p.b = 0 ∧ p.c = 0) = true from decide_eq_true ⟨h1, h2⟩)
      have hst2 := hid (show decide (p.b = 0 ∧ p.c = 0 ∧ p.a = p.d) = (p.a == p.d) from by rw [Bool.eq_iff_iff]; simp [h1, h2])
      have hst3 := hid (show True from trivial)
      clear h1 h2
    rcases hK with ⟨rfl, hkd⟩ | ⟨rfl, hkd⟩ | ⟨rfl, hkd⟩ | ⟨rfl, hkd⟩ | ⟨k0, k1, k2, k3, hkd⟩
  all_goals
    rw [hkd] at hm
    clear hkd
    (try have k0' : (K == 0) = false := by rw [beq_eq_false_iff_ne]; exact k0)
    (try have k1' : (K == 8) = false := by rw [beq_eq_false_iff_ne]; exact k1)
    (try have k2' : (K == 64) = false := by rw [beq_eq_false_iff_ne]; exact k2)
    (try have k3' : (K == 128) = false := by rw [beq_eq_false_iff_ne]; exact k3)
    go_enter Try.func52, Try.ntmps52
    go_upto_region 3 with (first
      | ((with_reducible refine gate (N := 1) rfl ?_); refine wpList_box_Own rfl (cs := ptA p) (t := 35) (by first | (go_simp; done) | (go_simp; rfl)) M0.out ?_; intro m w1 M; obtain ⟨e0, -, -, -, e4, e5, e6, e7⟩ := pt_cells (m := m) (p := p) M (by simp); (have M1 := hid M); clear M)
      | ((with_reducible refine gate (N := 3) rfl ?_); refine wpList_box_Own rfl (cs := #[.int .i16 0, .int .i16 0, .int .i16 0, .int .i16 0]) (t := 32) (by first | (go_simp; done) | (go_simp; rfl)) M1.out ?_; intro n w2 M; (have M2 := hid M); clear M)
      | ((with_reducible refine gateSt (t := 32) (p := 3) rfl ?_); refine wpList_store_all (n := 4) (L1 := []) (mid := [.int .i16 0, .int .i16 0, .int .i16 0, .int .i16 0]) (vs := [.int .i16 p.a, .int .i16 p.b, .int .i16 p.c, .int .i16 p.d]) rfl rfl (by kernel_rfl) rfl rfl rfl rfl rfl (one_all rfl) M2.out ?_; intro w3 M; (clear e0 e4 e5 e6 e7); obtain ⟨l0, l1, l2, l3⟩ := mt_cells (m := n) (a := p.a) (b := p.b) (c := p.c) (d := p.d) M (by simp); obtain ⟨e0, -, -, -, -, -, -, -⟩ := pt_cells (m := m) (p := p) M (by simp); (have M3 := hid M); clear M))
    first
    | (go_wp2
       go_ret
       exact .mk ⟨by rw [hm.out]; first | (simp [hst.out, hst2.out, hst3.out]; done) | (rw [hst2.out]; rfl), M3.out.below⟩)
    | (go_upto_region 5 with fail
       have MW := hid M3.out.drew
       refine wp_region_held_drew (S := fun w' => (loadVar 32 ⟨n, 0, none⟩).run Try.prog w' = .ok (.agg #[.int .i16 p.a, .int .i16 p.b, .int .i16 p.c, .int .i16 p.d]) w') (by kernel_rfl) (run_load_agg (P := Try.prog) agg_mat (g := n) (off := 0) (vs := [.int .i16 p.a, .int .i16 p.b, .int .i16 p.c, .int .i16 p.d]) (MW.out.heap (t := 32) (cs := #[.int .i16 p.a, .int .i16 p.b, .int .i16 p.c, .int .i16 p.d]) (by simp)) rfl rfl) (fun hHeld => ?_)
       repeat (first | (refine wpAnyH_take (i := 0) (v := ?_) rfl (by kernel_rfl) (by decide +kernel) (by decide +kernel) (fun _ _ _ h => h) ?_ (by assumption) ?_; rotate_left; (first | (refine yields_load (by rfl) rfl rfl ?_; intro w hSw; (try dsimp only at hSw); go_split_ands; assumption) | (refine Or.inl ⟨by rfl, ?_⟩; intro w hSw; (try dsimp only at hSw); go_simp; done) | (refine Or.inl ⟨by rfl, ?_⟩; intro w hSw; (try dsimp only at hSw); go_simp; with_reducible rfl) | exact Or.inr ⟨by rfl, rfl⟩ | exact Or.inr ⟨by rfl, by rfl⟩); (try simp only [Act.put, List.setIfInBounds_toArray, List.set_cons_zero, List.set_cons_succ, List.getElem_toArray, List.getElem_cons_zero, List.getElem_cons_succ])))
       refine wpAnyH_ready (rs := [1]) (by decide +kernel) (by simp) ?_; refine AllReadyH.cons rfl (fun K hK => ?_) AllReadyH.nil; go_simp
       refine (unit_calls _).mono ?_
       rintro _ w4 ⟨_, rfl, rfl, hb⟩
       have M4 := hid (MW.out.keep hb)
       clear hb
       go_wp2_with fail
       have hc := run_load_agg (P := Try.prog) agg_mat (g := n) (off := 0) (vs := [.int .i16 p.a, .int .i16 p.b, .int .i16 p.c, .int .i16 p.d]) (M4.out.heap (t := 32) (cs := #[.int .i16 p.a, .int .i16 p.b, .int .i16 p.c, .int .i16 p.d]) (by simp)) rfl rfl
       refine hK.out _ _ hc (fun hHeld => ?_); clear hK K; (try simp only [Act.put, List.setIfInBounds_toArray, List.set_cons_zero, List.set_cons_succ, List.getElem_toArray, List.getElem_cons_zero, List.getElem_cons_succ])
       clear hc
       repeat (first | (refine wpAnyH_take (i := 2) (v := ?_) rfl (by kernel_rfl) (by decide +kernel) (by decide +kernel) (fun _ _ _ h => h) ?_ (by assumption) ?_; rotate_left; (first | (refine yields_load (by rfl) rfl rfl ?_; intro w hSw; (try dsimp only at hSw); go_split_ands; assumption) | (refine Or.inl ⟨by rfl, ?_⟩; intro w hSw; (try dsimp only at hSw); go_simp; done) | (refine Or.inl ⟨by rfl, ?_⟩; intro w hSw; (try dsimp only at hSw); go_simp; with_reducible rfl) | exact Or.inr ⟨by rfl, rfl⟩ | exact Or.inr ⟨by rfl, by rfl⟩); (try simp only [Act.put, List.setIfInBounds_toArray, List.set_cons_zero, List.set_cons_succ, List.getElem_toArray, List.getElem_cons_zero, List.getElem_cons_succ])) | (refine wpAnyH_take (i := 3) (v := ?_) rfl (by kernel_rfl) (by decide +kernel) (by decide +kernel) (fun _ _ _ h => h) ?_ (by assumption) ?_; rotate_left; (first | (refine yields_load (by rfl) rfl rfl ?_; intro w hSw; (try dsimp only at hSw); go_split_ands; assumption) | (refine Or.inl ⟨by rfl, ?_⟩; intro w hSw; (try dsimp only at hSw); go_simp; done) | (refine Or.inl ⟨by rfl, ?_⟩; intro w hSw; (try dsimp only at hSw); go_simp; with_reducible rfl) | exact Or.inr ⟨by rfl, rfl⟩ | exact Or.inr ⟨by rfl, by rfl⟩); (try simp only [Act.put, List.setIfInBounds_toArray, List.set_cons_zero, List.set_cons_succ, List.getElem_toArray, List.getElem_cons_zero, List.getElem_cons_succ])))
       refine wpAnyH_done (by kernel_rfl) ?_ _
       go_wp2
       go_ret
       exact .mk ⟨by rw [hm.out]; show Value.bool (decide (p.a = 16384) && (decide (p.b = 0) && (decide (p.c = 0) && decide (p.d = 16384)))) = _; simp, M4.out.below⟩)
set_option maxHeartbeats 4000000 in
theorem partRight_calls (w : World) {p : Pt} (hO : p.Ok) : Calls Try.prog 27 #[.agg (ptA p)] w (Ret fun r w' => r = .bool (partB p) ∧ Below w.heap.size w w') := by
  have hF := hid (fun w1 => fits_calls w1 hO)
  have hX := hid (fun w1 => small_calls w1 p.x)
  have hY := hid (fun w1 => small_calls w1 p.y)
  have hR := hid (show partB p = (hasB p.f 2 && (flagB p.f && (matB p && (hasB p.f 1 || (smallB p.x && smallB p.y))))) from rfl)
  have h2 := and_2 hO.f.1 hO.f.2
  have h1 := and_1 hO.f.1 hO.f.2
  have ha := andNot_allowed hO.f.1 hO.f.2
  have M0 := hid (Own.start w)
  generalize partB p = R at *
  generalize hasB p.f 2 = q2 at *
  generalize hasB p.f 1 = q1 at *
  generalize flagB p.f = qf at *
  generalize matB p = qm at *
  generalize smallB p.x = qx at *
  generalize smallB p.y = qy at *
  clear hO
  cases q2
  · rw [show (2 : Int) * b01 false = 0 from rfl] at h2
    go_enter Try.func27, Try.ntmps27
    go_wp2_with (first
      | ((with_reducible refine gate (N := 1) rfl ?_); refine wpList_box_Own rfl (cs := ptA p) (t := 35) (by first | (go_simp; done) | (go_simp; rfl)) M0.out ?_; intro m w1 M; obtain ⟨e0, -, e2, e3, -, -, -, -⟩ := pt_cells (m := m) (p := p) M (by simp); (have M1 := hid M); clear M)
      | ((with_reducible refine gate (N := 14) rfl ?_); refine wpList_run rfl (exec_load_agg agg_part rfl rfl M1.out (g := m) (t := 35) (cs := ptA p) (vs := (ptA p).toList) (.head _) rfl rfl) ?_)
      | (go_at_call 52; (with_reducible refine (hF.out _).mono ?_); rintro _ w2 ⟨_, rfl, rfl, hb⟩; (have M2 := hid (M1.out.keep hb)); clear hb e0 e2 e3; obtain ⟨e0, -, e2, e3, -, -, -, -⟩ := pt_cells (m := m) (p := p) M2.out (by simp))
      | (go_at_call 53; (with_reducible refine (hX.out _).mono ?_); rintro _ _ ⟨_, rfl, rfl, rfl⟩)
      | (go_at_call 53; (with_reducible refine (hY.out _).mono ?_); rintro _ _ ⟨_, rfl, rfl, rfl⟩))
    go_ret
    exact .mk ⟨by rw [hR.out]; rfl, by first | exact M2.out.below | exact M1.out.below⟩
  · rw [show (2 : Int) * b01 true = 2 from rfl] at h2
    cases qf
    · go_enter Try.func27, Try.ntmps27
      go_wp2_with (first
        | ((with_reducible refine gate (N := 1) rfl ?_); refine wpList_box_Own rfl (cs := ptA p) (t := 35) (by first | (go_simp; done) | (go_simp; rfl)) M0.out ?_; intro m w1 M; obtain ⟨e0, -, e2, e3, -, -, -, -⟩ := pt_cells (m := m) (p := p) M (by simp); (have M1 := hid M); clear M)
        | ((with_reducible refine gate (N := 14) rfl ?_); refine wpList_run rfl (exec_load_agg agg_part rfl rfl M1.out (g := m) (t := 35) (cs := ptA p) (vs := (ptA p).toList) (.head _) rfl rfl) ?_)
        | (go_at_call 52; (with_reducible refine (hF.out _).mono ?_); rintro _ w2 ⟨_, rfl, rfl, hb⟩; (have M2 := hid (M1.out.keep hb)); clear hb e0 e2 e3; obtain ⟨e0, -, e2, e3, -, -, -, -⟩ := pt_cells (m := m) (p := p) M2.out (by simp))
        | (go_at_call 53; (with_reducible refine (hX.out _).mono ?_); rintro _ _ ⟨_, rfl, rfl, rfl⟩)
        | (go_at_call 53; (with_reducible refine (hY.out _).mono ?_); rintro _ _ ⟨_, rfl, rfl, rfl⟩))
      go_ret
      exact .mk ⟨by rw [hR.out]; rfl, by first | exact M2.out.below | exact M1.out.below⟩
    · cases qm
      · go_enter Try.func27, Try.ntmps27
        go_wp2_with (first
          | ((with_reducible refine gate (N := 1) rfl ?_); refine wpList_box_Own rfl (cs := ptA p) (t := 35) (by first | (go_simp; done) | (go_simp; rfl)) M0.out ?_; intro m w1 M; obtain ⟨e0, -, e2, e3, -, -, -, -⟩ := pt_cells (m := m) (p := p) M (by simp); (have M1 := hid M); clear M)
          | ((with_reducible refine gate (N := 14) rfl ?_); refine wpList_run rfl (exec_load_agg agg_part rfl rfl M1.out (g := m) (t := 35) (cs := ptA p) (vs := (ptA p).toList) (.head _) rfl rfl) ?_)
          | (go_at_call 52; (with_reducible refine (hF.out _).mono ?_); rintro _ w2 ⟨_, rfl, rfl, hb⟩; (have M2 := hid (M1.out.keep hb)); clear hb e0 e2 e3; obtain ⟨e0, -, e2, e3, -, -, -, -⟩ := pt_cells (m := m) (p := p) M2.out (by simp))
          | (go_at_call 53; (with_reducible refine (hX.out _).mono ?_); rintro _ _ ⟨_, rfl, rfl, rfl⟩)
          | (go_at_call 53; (with_reducible refine (hY.out _).mono ?_); rintro _ _ ⟨_, rfl, rfl, rfl⟩))
        go_ret
        exact .mk ⟨by rw [hR.out]; rfl, by first | exact M2.out.below | exact M1.out.below⟩
      · cases q1
        · rw [show b01 false = 0 from rfl] at h1
          cases qx
          · go_enter Try.func27, Try.ntmps27
            go_wp2_with (first
              | ((with_reducible refine gate (N := 1) rfl ?_); refine wpList_box_Own rfl (cs := ptA p) (t := 35) (by first | (go_simp; done) | (go_simp; rfl)) M0.out ?_; intro m w1 M; obtain ⟨e0, -, e2, e3, -, -, -, -⟩ := pt_cells (m := m) (p := p) M (by simp); (have M1 := hid M); clear M)
              | ((with_reducible refine gate (N := 14) rfl ?_); refine wpList_run rfl (exec_load_agg agg_part rfl rfl M1.out (g := m) (t := 35) (cs := ptA p) (vs := (ptA p).toList) (.head _) rfl rfl) ?_)
              | (go_at_call 52; (with_reducible refine (hF.out _).mono ?_); rintro _ w2 ⟨_, rfl, rfl, hb⟩; (have M2 := hid (M1.out.keep hb)); clear hb e0 e2 e3; obtain ⟨e0, -, e2, e3, -, -, -, -⟩ := pt_cells (m := m) (p := p) M2.out (by simp))
              | (go_at_call 53; (with_reducible refine (hX.out _).mono ?_); rintro _ _ ⟨_, rfl, rfl, rfl⟩)
              | (go_at_call 53; (with_reducible refine (hY.out _).mono ?_); rintro _ _ ⟨_, rfl, rfl, rfl⟩))
            go_ret
            exact .mk ⟨by rw [hR.out]; rfl, by first | exact M2.out.below | exact M1.out.below⟩
          · cases qy
            · go_enter Try.func27, Try.ntmps27
              go_wp2_with (first
                | ((with_reducible refine gate (N := 1) rfl ?_); refine wpList_box_Own rfl (cs := ptA p) (t := 35) (by first | (go_simp; done) | (go_simp; rfl)) M0.out ?_; intro m w1 M; obtain ⟨e0, -, e2, e3, -, -, -, -⟩ := pt_cells (m := m) (p := p) M (by simp); (have M1 := hid M); clear M)
                | ((with_reducible refine gate (N := 14) rfl ?_); refine wpList_run rfl (exec_load_agg agg_part rfl rfl M1.out (g := m) (t := 35) (cs := ptA p) (vs := (ptA p).toList) (.head _) rfl rfl) ?_)
                | (go_at_call 52; (with_reducible refine (hF.out _).mono ?_); rintro _ w2 ⟨_, rfl, rfl, hb⟩; (have M2 := hid (M1.out.keep hb)); clear hb e0 e2 e3; obtain ⟨e0, -, e2, e3, -, -, -, -⟩ := pt_cells (m := m) (p := p) M2.out (by simp))
                | (go_at_call 53; (with_reducible refine (hX.out _).mono ?_); rintro _ _ ⟨_, rfl, rfl, rfl⟩)
                | (go_at_call 53; (with_reducible refine (hY.out _).mono ?_); rintro _ _ ⟨_, rfl, rfl, rfl⟩))
              go_ret
              exact .mk ⟨by rw [hR.out]; rfl, by first | exact M2.out.below | exact M1.out.below⟩
            · go_enter Try.func27, Try.ntmps27
              go_wp2_with (first
                | ((with_reducible refine gate (N := 1) rfl ?_); refine wpList_box_Own rfl (cs := ptA p) (t := 35) (by first | (go_simp; done) | (go_simp; rfl)) M0.out ?_; intro m w1 M; obtain ⟨e0, -, e2, e3, -, -, -, -⟩ := pt_cells (m := m) (p := p) M (by simp); (have M1 := hid M); clear M)
                | ((with_reducible refine gate (N := 14) rfl ?_); refine wpList_run rfl (exec_load_agg agg_part rfl rfl M1.out (g := m) (t := 35) (cs := ptA p) (vs := (ptA p).toList) (.head _) rfl rfl) ?_)
                | (go_at_call 52; (with_reducible refine (hF.out _).mono ?_); rintro _ w2 ⟨_, rfl, rfl, hb⟩; (have M2 := hid (M1.out.keep hb)); clear hb e0 e2 e3; obtain ⟨e0, -, e2, e3, -, -, -, -⟩ := pt_cells (m := m) (p := p) M2.out (by simp))
                | (go_at_call 53; (with_reducible refine (hX.out _).mono ?_); rintro _ _ ⟨_, rfl, rfl, rfl⟩)
                | (go_at_call 53; (with_reducible refine (hY.out _).mono ?_); rintro _ _ ⟨_, rfl, rfl, rfl⟩))
              go_ret
              exact .mk ⟨by rw [hR.out]; rfl, by first | exact M2.out.below | exact M1.out.below⟩
        · rw [show b01 true = 1 from rfl] at h1
          go_enter Try.func27, Try.ntmps27
          go_wp2_with (first
            | ((with_reducible refine gate (N := 1) rfl ?_); refine wpList_box_Own rfl (cs := ptA p) (t := 35) (by first | (go_simp; done) | (go_simp; rfl)) M0.out ?_; intro m w1 M; obtain ⟨e0, -, e2, e3, -, -, -, -⟩ := pt_cells (m := m) (p := p) M (by simp); (have M1 := hid M); clear M)
            | ((with_reducible refine gate (N := 14) rfl ?_); refine wpList_run rfl (exec_load_agg agg_part rfl rfl M1.out (g := m) (t := 35) (cs := ptA p) (vs := (ptA p).toList) (.head _) rfl rfl) ?_)
            | (go_at_call 52; (with_reducible refine (hF.out _).mono ?_); rintro _ w2 ⟨_, rfl, rfl, hb⟩; (have M2 := hid (M1.out.keep hb)); clear hb e0 e2 e3; obtain ⟨e0, -, e2, e3, -, -, -, -⟩ := pt_cells (m := m) (p := p) M2.out (by simp))
            | (go_at_call 53; (with_reducible refine (hX.out _).mono ?_); rintro _ _ ⟨_, rfl, rfl, rfl⟩)
            | (go_at_call 53; (with_reducible refine (hY.out _).mono ?_); rintro _ _ ⟨_, rfl, rfl, rfl⟩))
          go_ret
          exact .mk ⟨by rw [hR.out]; rfl, by first | exact M2.out.below | exact M1.out.below⟩
end Go.Proofs.Yteoicpbfjkjogaa
