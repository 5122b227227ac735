/- Layer 13: the document's rule for a part. -/
import Derived.Test.YteoicpbfjkjogaaCompK
namespace Go.Proofs.Yteoicpbfjkjogaa
open Go Go.RowKit
set_option linter.unusedVariables false
set_option linter.unusedSimpArgs false
set_option maxRecDepth 100000

abbrev dtA (p : Pt) : Array Value := #[.int .i64 p.f, .int .i64 p.g, .int .i64 p.x, .int .i64 p.y, .int .i64 p.a, .int .i64 p.b, .int .i64 p.c, .int .i64 p.d]
theorem agg_int4 : AggOf Try.prog 49 4 := .mk' Try.underlying49 rfl (by kernel_rfl)
theorem dt_cells {W0 w : World} {L : List Ent} {m : Nat} {p : Pt} (M : Own W0 w L) (h : .blk m 82 (dtA p) ∈ L) :
    w.cell? ⟨m, 0, none⟩ = some (.int .i64 p.f) ∧ w.cell? ⟨m, 2, none⟩ = some (.int .i64 p.x) ∧ w.cell? ⟨m, 3, none⟩ = some (.int .i64 p.y) :=
  ⟨M.cell h 0, M.cell h 2, M.cell h 3⟩
theorem i4_cells {W0 w : World} {L : List Ent} {m : Nat} {a b c d : Int} (M : Own W0 w L) (h : .blk m 49 #[.int .i64 a, .int .i64 b, .int .i64 c, .int .i64 d] ∈ L) :
    w.cell? ⟨m, 0, none⟩ = some (.int .i64 a) ∧ w.cell? ⟨m, 1, none⟩ = some (.int .i64 b) ∧ w.cell? ⟨m, 2, none⟩ = some (.int .i64 c) ∧ w.cell? ⟨m, 3, none⟩ = some (.int .i64 d) :=
  ⟨M.cell h 0, M.cell h 1, M.cell h 2, M.cell h 3⟩
theorem kd_5 (f : Int) : kd f = -1 ∨ kd f = 0 ∨ kd f = 1 ∨ kd f = 2 ∨ kd f = 4 := by
  unfold kd
  split <;> split <;> (try split) <;> simp
theorem partB_doc (p : Pt) : partB p = (!(!hasB p.f 2 || (decide (kd p.f < 0) || (hasB p.f 16 || (hasB p.f 32 || (hasB p.f 2048 || decide (8192 ≤ p.f)))))) && (!(!hasB p.f 1 && (decide (p.x < -128) || (decide (127 < p.x) || (decide (p.y < -128) || decide (127 < p.y))))) && matB p)) := by
  have hm : kd p.f < 0 → matB p = false := fun h => by
    unfold matB
    rw [if_neg (by omega), if_neg (by omega), if_neg (by omega), if_neg (by omega)]
  have hx : smallB p.x = (!decide (p.x < -128) && !decide (127 < p.x)) := by
    unfold smallB; rw [Bool.eq_iff_iff]; simp
  have hy : smallB p.y = (!decide (p.y < -128) && !decide (127 < p.y)) := by
    unfold smallB; rw [Bool.eq_iff_iff]; simp
  have hf : decide (p.f < 8192) = !decide (8192 ≤ p.f) := by rw [Bool.eq_iff_iff]; simp
  unfold partB flagB
  rw [hx, hy, hf]
  by_cases hk : kd p.f < 0
  · rw [hm hk, decide_eq_true hk]; simp
  · rw [decide_eq_false hk]
    cases hasB p.f 2 <;> cases hasB p.f 16 <;> cases hasB p.f 32 <;> cases hasB p.f 2048 <;> cases decide (8192 ≤ p.f) <;> cases hasB p.f 1 <;> cases decide (p.x < -128) <;> cases decide (127 < p.x) <;> cases decide (p.y < -128) <;> cases decide (127 < p.y) <;> simp
set_option maxHeartbeats 8000000 in
theorem refFits_calls (w : World) {p : Pt} (hO : p.Ok) : Calls Try.prog 39 #[.agg (dtA p)] w (Ret fun r w' => r = .bool (partB p) ∧ Below w.heap.size w w') := by
  have M0 := hid (Own.start w)
  have h1 := hid (fun w1 => refHas_calls w1 (k := 1) hO.f.1 hO.f.2 (by decide))
  have h2 := hid (fun w1 => refHas_calls w1 (k := 2) hO.f.1 hO.f.2 (by decide))
  have h16 := hid (fun w1 => refHas_calls w1 (k := 16) hO.f.1 hO.f.2 (by decide))
  have h32 := hid (fun w1 => refHas_calls w1 (k := 32) hO.f.1 hO.f.2 (by decide))
  have h2048 := hid (fun w1 => refHas_calls w1 (k := 2048) hO.f.1 hO.f.2 (by decide))
  have hK := hid (fun w1 => refKind_calls w1 hO.f.1 hO.f.2)
  have hR := hid (partB_doc p)
  have hk5 := hid (kd_5 p.f)
  have hmat := hid (show matB p = (if kd p.f = 4 then true else if kd p.f = 2 then decide (p.b = 0 ∧ p.c = 0) else if kd p.f = 1 then decide (p.b = 0 ∧ p.c = 0 ∧ p.a = p.d) else if kd p.f = 0 then decide (p.a = 16384 ∧ p.b = 0 ∧ p.c = 0 ∧ p.d = 16384) else false) from rfl)
  generalize partB p = R at *
  generalize matB p = qm at *
  generalize hasB p.f 1 = q1 at *
  generalize hasB p.f 2 = q2 at *
  generalize hasB p.f 16 = q16 at *
  generalize hasB p.f 32 = q32 at *
  generalize hasB p.f 2048 = q2048 at *
  generalize kd p.f = K at *
  clear hO
  obtain ⟨c1, hc1⟩ : ∃ c, (!q2 || (decide (K < 0) || (q16 || (q32 || (q2048 || decide (8192 ≤ p.f)))))) = c := ⟨_, rfl⟩
  obtain ⟨c2, hc2⟩ : ∃ c, (!q1 && (decide (p.x < -128) || (decide (127 < p.x) || (decide (p.y < -128) || decide (127 < p.y))))) = c := ⟨_, rfl⟩
  rw [hc1, hc2] at hR
  replace hc1 := hid hc1
  replace hc2 := hid hc2
  go_enter Try.func39, Try.ntmps39
  go_upto_region 2 with (first
    | ((with_reducible refine gate (N := 1) rfl ?_); refine wpList_box_Own rfl (cs := dtA p) (t := 82) (by first | (go_simp; done) | (go_simp; rfl)) M0.out ?_; intro m w1 M; obtain ⟨e0, e2, e3⟩ := dt_cells (m := m) (p := p) M (by simp); (have M1 := hid M); clear M)
    | (go_at_call 43; (with_reducible refine (hK.out _).mono ?_); rintro _ w1 ⟨_, rfl, rfl, rfl⟩))
  clear hK
  go_cut [35] (fun s wx => s = .bool c1 ∧ w1 = wx)
  case first =>
    -- <one
    clear hmat hR hc2 M1 hk5 M0
    cases q2
    · go_wp2_with (first
        | (go_at_call 40; (with_reducible refine (h1.out _).mono ?_); rintro _ _ ⟨_, rfl, rfl, rfl⟩)
        | (go_at_call 40; (with_reducible refine (h2.out _).mono ?_); rintro _ _ ⟨_, rfl, rfl, rfl⟩)
        | (go_at_call 40; (with_reducible refine (h16.out _).mono ?_); rintro _ _ ⟨_, rfl, rfl, rfl⟩)
        | (go_at_call 40; (with_reducible refine (h32.out _).mono ?_); rintro _ _ ⟨_, rfl, rfl, rfl⟩)
        | (go_at_call 40; (with_reducible refine (h2048.out _).mono ?_); rintro _ _ ⟨_, rfl, rfl, rfl⟩))
      go_meet
      exact ⟨congrArg Value.bool (by first | (rw [← hc1.out]; simp [*]; done) | (rw [← hc2.out]; simp [*]; done) | (rw [← hc2.out]; simp only [Bool.not_false, Bool.true_and, Bool.or_assoc]; done) | (rw [← hc1.out]; simp only [Bool.not_true, Bool.false_or, Bool.or_assoc]; done) | rfl), rfl⟩
    · by_cases k0 : K < 0
      · go_wp2_with (first
          | (go_at_call 40; (with_reducible refine (h1.out _).mono ?_); rintro _ _ ⟨_, rfl, rfl, rfl⟩)
          | (go_at_call 40; (with_reducible refine (h2.out _).mono ?_); rintro _ _ ⟨_, rfl, rfl, rfl⟩)
          | (go_at_call 40; (with_reducible refine (h16.out _).mono ?_); rintro _ _ ⟨_, rfl, rfl, rfl⟩)
          | (go_at_call 40; (with_reducible refine (h32.out _).mono ?_); rintro _ _ ⟨_, rfl, rfl, rfl⟩)
          | (go_at_call 40; (with_reducible refine (h2048.out _).mono ?_); rintro _ _ ⟨_, rfl, rfl, rfl⟩))
        go_meet
        exact ⟨congrArg Value.bool (by first | (rw [← hc1.out]; simp [*]; done) | (rw [← hc2.out]; simp [*]; done) | (rw [← hc2.out]; simp only [Bool.not_false, Bool.true_and, Bool.or_assoc]; done) | (rw [← hc1.out]; simp only [Bool.not_true, Bool.false_or, Bool.or_assoc]; done) | rfl), rfl⟩
      · cases q16
        · cases q32
          · cases q2048
            · by_cases k1 : 8192 ≤ p.f
              · have k1' : p.f ≥ 8192 := k1
                go_wp2_with (first
                  | (go_at_call 40; (with_reducible refine (h1.out _).mono ?_); rintro _ _ ⟨_, rfl, rfl, rfl⟩)
                  | (go_at_call 40; (with_reducible refine (h2.out _).mono ?_); rintro _ _ ⟨_, rfl, rfl, rfl⟩)
                  | (go_at_call 40; (with_reducible refine (h16.out _).mono ?_); rintro _ _ ⟨_, rfl, rfl, rfl⟩)
                  | (go_at_call 40; (with_reducible refine (h32.out _).mono ?_); rintro _ _ ⟨_, rfl, rfl, rfl⟩)
                  | (go_at_call 40; (with_reducible refine (h2048.out _).mono ?_); rintro _ _ ⟨_, rfl, rfl, rfl⟩))
                go_meet
                exact ⟨congrArg Value.bool (by first | (rw [← hc1.out]; simp [*]; done) | (rw [← hc2.out]; simp [*]; done) | (rw [← hc2.out]; simp only [Bool.not_false, Bool.true_and, Bool.or_assoc]; done) | (rw [← hc1.out]; simp only [Bool.not_true, Bool.false_or, Bool.or_assoc]; done) | rfl), rfl⟩
              · have k1' : ¬ p.f ≥ 8192 := k1
                go_wp2_with (first
                  | (go_at_call 40; (with_reducible refine (h1.out _).mono ?_); rintro _ _ ⟨_, rfl, rfl, rfl⟩)
                  | (go_at_call 40; (with_reducible refine (h2.out _).mono ?_); rintro _ _ ⟨_, rfl, rfl, rfl⟩)
                  | (go_at_call 40; (with_reducible refine (h16.out _).mono ?_); rintro _ _ ⟨_, rfl, rfl, rfl⟩)
                  | (go_at_call 40; (with_reducible refine (h32.out _).mono ?_); rintro _ _ ⟨_, rfl, rfl, rfl⟩)
                  | (go_at_call 40; (with_reducible refine (h2048.out _).mono ?_); rintro _ _ ⟨_, rfl, rfl, rfl⟩))
                go_meet
                exact ⟨congrArg Value.bool (by first | (rw [← hc1.out]; simp [*]; done) | (rw [← hc2.out]; simp [*]; done) | (rw [← hc2.out]; simp only [Bool.not_false, Bool.true_and, Bool.or_assoc]; done) | (rw [← hc1.out]; simp only [Bool.not_true, Bool.false_or, Bool.or_assoc]; done) | rfl), rfl⟩
            · go_wp2_with (first
                | (go_at_call 40; (with_reducible refine (h1.out _).mono ?_); rintro _ _ ⟨_, rfl, rfl, rfl⟩)
                | (go_at_call 40; (with_reducible refine (h2.out _).mono ?_); rintro _ _ ⟨_, rfl, rfl, rfl⟩)
                | (go_at_call 40; (with_reducible refine (h16.out _).mono ?_); rintro _ _ ⟨_, rfl, rfl, rfl⟩)
                | (go_at_call 40; (with_reducible refine (h32.out _).mono ?_); rintro _ _ ⟨_, rfl, rfl, rfl⟩)
                | (go_at_call 40; (with_reducible refine (h2048.out _).mono ?_); rintro _ _ ⟨_, rfl, rfl, rfl⟩))
              go_meet
              exact ⟨congrArg Value.bool (by first | (rw [← hc1.out]; simp [*]; done) | (rw [← hc2.out]; simp [*]; done) | (rw [← hc2.out]; simp only [Bool.not_false, Bool.true_and, Bool.or_assoc]; done) | (rw [← hc1.out]; simp only [Bool.not_true, Bool.false_or, Bool.or_assoc]; done) | rfl), rfl⟩
          · go_wp2_with (first
              | (go_at_call 40; (with_reducible refine (h1.out _).mono ?_); rintro _ _ ⟨_, rfl, rfl, rfl⟩)
              | (go_at_call 40; (with_reducible refine (h2.out _).mono ?_); rintro _ _ ⟨_, rfl, rfl, rfl⟩)
              | (go_at_call 40; (with_reducible refine (h16.out _).mono ?_); rintro _ _ ⟨_, rfl, rfl, rfl⟩)
              | (go_at_call 40; (with_reducible refine (h32.out _).mono ?_); rintro _ _ ⟨_, rfl, rfl, rfl⟩)
              | (go_at_call 40; (with_reducible refine (h2048.out _).mono ?_); rintro _ _ ⟨_, rfl, rfl, rfl⟩))
            go_meet
            exact ⟨congrArg Value.bool (by first | (rw [← hc1.out]; simp [*]; done) | (rw [← hc2.out]; simp [*]; done) | (rw [← hc2.out]; simp only [Bool.not_false, Bool.true_and, Bool.or_assoc]; done) | (rw [← hc1.out]; simp only [Bool.not_true, Bool.false_or, Bool.or_assoc]; done) | rfl), rfl⟩
        · go_wp2_with (first
            | (go_at_call 40; (with_reducible refine (h1.out _).mono ?_); rintro _ _ ⟨_, rfl, rfl, rfl⟩)
            | (go_at_call 40; (with_reducible refine (h2.out _).mono ?_); rintro _ _ ⟨_, rfl, rfl, rfl⟩)
            | (go_at_call 40; (with_reducible refine (h16.out _).mono ?_); rintro _ _ ⟨_, rfl, rfl, rfl⟩)
            | (go_at_call 40; (with_reducible refine (h32.out _).mono ?_); rintro _ _ ⟨_, rfl, rfl, rfl⟩)
            | (go_at_call 40; (with_reducible refine (h2048.out _).mono ?_); rintro _ _ ⟨_, rfl, rfl, rfl⟩))
          go_meet
          exact ⟨congrArg Value.bool (by first | (rw [← hc1.out]; simp [*]; done) | (rw [← hc2.out]; simp [*]; done) | (rw [← hc2.out]; simp only [Bool.not_false, Bool.true_and, Bool.or_assoc]; done) | (rw [← hc1.out]; simp only [Bool.not_true, Bool.false_or, Bool.or_assoc]; done) | rfl), rfl⟩
    -- one>
  obtain ⟨hs, hw⟩ := hcut
  subst hs hw
  cases c1
  · go_upto_region 4 with fail
    go_cut [59] (fun s wx => s = .bool c2 ∧ w1 = wx)
    case first =>
      -- <two
      clear hmat hR hc1 M1 hk5 M0
      cases q1
      · by_cases k0 : p.x < -128
        · go_wp2_with (first
            | (go_at_call 40; (with_reducible refine (h1.out _).mono ?_); rintro _ _ ⟨_, rfl, rfl, rfl⟩)
            | (go_at_call 40; (with_reducible refine (h2.out _).mono ?_); rintro _ _ ⟨_, rfl, rfl, rfl⟩)
            | (go_at_call 40; (with_reducible refine (h16.out _).mono ?_); rintro _ _ ⟨_, rfl, rfl, rfl⟩)
            | (go_at_call 40; (with_reducible refine (h32.out _).mono ?_); rintro _ _ ⟨_, rfl, rfl, rfl⟩)
            | (go_at_call 40; (with_reducible refine (h2048.out _).mono ?_); rintro _ _ ⟨_, rfl, rfl, rfl⟩))
          go_meet
          exact ⟨congrArg Value.bool (by first | (rw [← hc1.out]; simp [*]; done) | (rw [← hc2.out]; simp [*]; done) | (rw [← hc2.out]; simp only [Bool.not_false, Bool.true_and, Bool.or_assoc]; done) | (rw [← hc1.out]; simp only [Bool.not_true, Bool.false_or, Bool.or_assoc]; done) | rfl), rfl⟩
        · by_cases k1 : 127 < p.x
          · have k1' : p.x > 127 := k1
            go_wp2_with (first
              | (go_at_call 40; (with_reducible refine (h1.out _).mono ?_); rintro _ _ ⟨_, rfl, rfl, rfl⟩)
              | (go_at_call 40; (with_reducible refine (h2.out _).mono ?_); rintro _ _ ⟨_, rfl, rfl, rfl⟩)
              | (go_at_call 40; (with_reducible refine (h16.out _).mono ?_); rintro _ _ ⟨_, rfl, rfl, rfl⟩)
              | (go_at_call 40; (with_reducible refine (h32.out _).mono ?_); rintro _ _ ⟨_, rfl, rfl, rfl⟩)
              | (go_at_call 40; (with_reducible refine (h2048.out _).mono ?_); rintro _ _ ⟨_, rfl, rfl, rfl⟩))
            go_meet
            exact ⟨congrArg Value.bool (by first | (rw [← hc1.out]; simp [*]; done) | (rw [← hc2.out]; simp [*]; done) | (rw [← hc2.out]; simp only [Bool.not_false, Bool.true_and, Bool.or_assoc]; done) | (rw [← hc1.out]; simp only [Bool.not_true, Bool.false_or, Bool.or_assoc]; done) | rfl), rfl⟩
          · have k1' : ¬ p.x > 127 := k1
            by_cases k2 : p.y < -128
            · go_wp2_with (first
                | (go_at_call 40; (with_reducible refine (h1.out _).mono ?_); rintro _ _ ⟨_, rfl, rfl, rfl⟩)
                | (go_at_call 40; (with_reducible refine (h2.out _).mono ?_); rintro _ _ ⟨_, rfl, rfl, rfl⟩)
                | (go_at_call 40; (with_reducible refine (h16.out _).mono ?_); rintro _ _ ⟨_, rfl, rfl, rfl⟩)
                | (go_at_call 40; (with_reducible refine (h32.out _).mono ?_); rintro _ _ ⟨_, rfl, rfl, rfl⟩)
                | (go_at_call 40; (with_reducible refine (h2048.out _).mono ?_); rintro _ _ ⟨_, rfl, rfl, rfl⟩))
              go_meet
              exact ⟨congrArg Value.bool (by first | (rw [← hc1.out]; simp [*]; done) | (rw [← hc2.out]; simp [*]; done) | (rw [← hc2.out]; simp only [Bool.not_false, Bool.true_and, Bool.or_assoc]; done) | (rw [← hc1.out]; simp only [Bool.not_true, Bool.false_or, Bool.or_assoc]; done) | rfl), rfl⟩
            · by_cases k3 : 127 < p.y
              · have k3' : p.y > 127 := k3
                go_wp2_with (first
                  | (go_at_call 40; (with_reducible refine (h1.out _).mono ?_); rintro _ _ ⟨_, rfl, rfl, rfl⟩)
                  | (go_at_call 40; (with_reducible refine (h2.out _).mono ?_); rintro _ _ ⟨_, rfl, rfl, rfl⟩)
                  | (go_at_call 40; (with_reducible refine (h16.out _).mono ?_); rintro _ _ ⟨_, rfl, rfl, rfl⟩)
                  | (go_at_call 40; (with_reducible refine (h32.out _).mono ?_); rintro _ _ ⟨_, rfl, rfl, rfl⟩)
                  | (go_at_call 40; (with_reducible refine (h2048.out _).mono ?_); rintro _ _ ⟨_, rfl, rfl, rfl⟩))
                go_meet
                exact ⟨congrArg Value.bool (by first | (rw [← hc1.out]; simp [*]; done) | (rw [← hc2.out]; simp [*]; done) | (rw [← hc2.out]; simp only [Bool.not_false, Bool.true_and, Bool.or_assoc]; done) | (rw [← hc1.out]; simp only [Bool.not_true, Bool.false_or, Bool.or_assoc]; done) | rfl), rfl⟩
              · have k3' : ¬ p.y > 127 := k3
                go_wp2_with (first
                  | (go_at_call 40; (with_reducible refine (h1.out _).mono ?_); rintro _ _ ⟨_, rfl, rfl, rfl⟩)
                  | (go_at_call 40; (with_reducible refine (h2.out _).mono ?_); rintro _ _ ⟨_, rfl, rfl, rfl⟩)
                  | (go_at_call 40; (with_reducible refine (h16.out _).mono ?_); rintro _ _ ⟨_, rfl, rfl, rfl⟩)
                  | (go_at_call 40; (with_reducible refine (h32.out _).mono ?_); rintro _ _ ⟨_, rfl, rfl, rfl⟩)
                  | (go_at_call 40; (with_reducible refine (h2048.out _).mono ?_); rintro _ _ ⟨_, rfl, rfl, rfl⟩))
                go_meet
                exact ⟨congrArg Value.bool (by first | (rw [← hc1.out]; simp [*]; done) | (rw [← hc2.out]; simp [*]; done) | (rw [← hc2.out]; simp only [Bool.not_false, Bool.true_and, Bool.or_assoc]; done) | (rw [← hc1.out]; simp only [Bool.not_true, Bool.false_or, Bool.or_assoc]; done) | rfl), rfl⟩
      · go_wp2_with (first
          | (go_at_call 40; (with_reducible refine (h1.out _).mono ?_); rintro _ _ ⟨_, rfl, rfl, rfl⟩)
          | (go_at_call 40; (with_reducible refine (h2.out _).mono ?_); rintro _ _ ⟨_, rfl, rfl, rfl⟩)
          | (go_at_call 40; (with_reducible refine (h16.out _).mono ?_); rintro _ _ ⟨_, rfl, rfl, rfl⟩)
          | (go_at_call 40; (with_reducible refine (h32.out _).mono ?_); rintro _ _ ⟨_, rfl, rfl, rfl⟩)
          | (go_at_call 40; (with_reducible refine (h2048.out _).mono ?_); rintro _ _ ⟨_, rfl, rfl, rfl⟩))
        go_meet
        exact ⟨congrArg Value.bool (by first | (rw [← hc1.out]; simp [*]; done) | (rw [← hc2.out]; simp [*]; done) | (rw [← hc2.out]; simp only [Bool.not_false, Bool.true_and, Bool.or_assoc]; done) | (rw [← hc1.out]; simp only [Bool.not_true, Bool.false_or, Bool.or_assoc]; done) | rfl), rfl⟩
      -- two>
    obtain ⟨hs, hw⟩ := hcut
    subst hs hw
    cases c2
    · have hneg : ¬ K < 0 := fun h => by
        have := hc1.out
        rw [decide_eq_true h] at this
        simp at this
      go_upto_region 7 with (first
        | ((with_reducible refine gate (N := 61) rfl ?_); refine wpList_run rfl (exec_load_agg agg_int4 rfl rfl M1.out (g := m) (off := 4) (t := 82) (cs := dtA p) (vs := [.int .i64 p.a, .int .i64 p.b, .int .i64 p.c, .int .i64 p.d]) (by simp) rfl rfl) ?_)
        | ((with_reducible refine gate (N := 4) rfl ?_); refine wpList_box_Own rfl (cs := #[.int .i64 0, .int .i64 0, .int .i64 0, .int .i64 0]) (t := 49) (by first | (go_simp; done) | (go_simp; rfl)) M1.out ?_; intro n w2 M; (have M2 := hid M); clear M)
        | ((with_reducible refine gateSt (t := 49) (p := 4) rfl ?_); refine wpList_store_all (n := 4) (L1 := []) (mid := [.int .i64 0, .int .i64 0, .int .i64 0, .int .i64 0]) (vs := [.int .i64 p.a, .int .i64 p.b, .int .i64 p.c, .int .i64 p.d]) rfl rfl (by kernel_rfl) rfl rfl rfl rfl rfl (one_all rfl) M2.out ?_; intro w3 M; obtain ⟨l0, l1, l2, l3⟩ := i4_cells (m := n) (a := p.a) (b := p.b) (c := p.c) (d := p.d) M (by simp); (have M3 := hid M); clear M))
      rw [show (!false && (!false && qm)) = qm from by cases qm <;> rfl] at hR
      have hR := hR.out
      subst hR
      -- <three
      replace hk5 := hk5.out
      rcases (by omega : K = 4 ∨ K = 2 ∨ K = 1 ∨ K = 0) with rfl | rfl | rfl | rfl
      · go_wp2
        go_ret
        exact .mk ⟨congrArg Value.bool (by rw [hmat.out]; first | rfl | (simp [*]; done) | (rw [Bool.eq_iff_iff]; simp [*]; try omega)), M3.out.below⟩
      all_goals
        by_cases k1 : p.b = 0
        · have k1' : (p.b == 0) = true := by rw [beq_iff_eq]; exact k1
          by_cases k2 : p.c = 0
          · have k2' : (p.c == 0) = true := by rw [beq_iff_eq]; exact k2
            by_cases k3 : p.a = p.d
            · have k3' : (p.a == p.d) = true := by rw [beq_iff_eq]; exact k3
              go_wp2
              go_ret
              exact .mk ⟨congrArg Value.bool (by rw [hmat.out]; first | rfl | (simp [*]; done) | (rw [Bool.eq_iff_iff]; simp [*]; try omega)), M3.out.below⟩
            · have k3' : (p.a == p.d) = false := by rw [beq_eq_false_iff_ne]; exact k3
              go_wp2
              go_ret
              exact .mk ⟨congrArg Value.bool (by rw [hmat.out]; first | rfl | (simp [*]; done) | (rw [Bool.eq_iff_iff]; simp [*]; try omega)), M3.out.below⟩
          · have k2' : (p.c == 0) = false := by rw [beq_eq_false_iff_ne]; exact k2
            go_wp2
            go_ret
            exact .mk ⟨congrArg Value.bool (by rw [hmat.out]; first | rfl | (simp [*]; done) | (rw [Bool.eq_iff_iff]; simp [*]; try omega)), M3.out.below⟩
        · have k1' : (p.b == 0) = false := by rw [beq_eq_false_iff_ne]; exact k1
          go_wp2
          go_ret
          exact .mk ⟨congrArg Value.bool (by rw [hmat.out]; first | rfl | (simp [*]; done) | (rw [Bool.eq_iff_iff]; simp [*]; try omega)), M3.out.below⟩
      -- three>
    · go_wp2
      go_ret
      exact .mk ⟨by rw [hR.out]; rfl, M1.out.below⟩
  · go_wp2
    go_ret
    exact .mk ⟨by rw [hR.out]; rfl, M1.out.below⟩
end Go.Proofs.Yteoicpbfjkjogaa
