/- Layer 13: the document's flags, kinds and what fits. -/
import Derived.Test.YteoicpbfjkjogaaCompJ
namespace Go.Proofs.Yteoicpbfjkjogaa
open Go Go.RowKit
set_option linter.unusedVariables false
set_option linter.unusedSimpArgs false
set_option maxRecDepth 100000

theorem refHas_calls (w : World) {f k : Int} (f0 : 0 ≤ f) (f1 : f < 65536) (k0 : 0 < k) :
    Calls Try.prog 40 #[.int .i64 f, .int .i64 k] w (Ret fun r w' => r = .bool (hasB f k) ∧ w' = w) := by
  have hd := Int.tdiv_eq_ediv_of_nonneg (b := k) f0
  have q0 : 0 ≤ f / k := Int.ediv_nonneg f0 (by omega)
  have q1 : f / k ≤ f := Int.ediv_le_self _ f0
  have hw : IntKind.i64.wrap (f / k) = f / k := by rw [IntKind.wrap_i64]; omega
  have hm : (f / k).tmod 2 = f / k % 2 := Int.tmod_eq_emod_of_nonneg q0
  have hw2 : IntKind.i64.wrap (f / k % 2) = f / k % 2 := by rw [IntKind.wrap_i64]; omega
  have hk : (k == 0) = false := by rw [beq_eq_false_iff_ne]; omega
  have hk' : ¬ k = 0 := by omega
  have hb : hasB f k = (f / k % 2 == 1) := rfl
  generalize hasB f k = R at *
  generalize f / k = Q at *
  go_enter Try.func40, Try.ntmps40
  go_wp2
  go_ret
  exact .mk ⟨by rw [hb]; rfl, rfl⟩
set_option maxHeartbeats 4000000 in
theorem refKind_calls (w : World) {f : Int} (f0 : 0 ≤ f) (f1 : f < 65536) :
    Calls Try.prog 43 #[.int .i64 f] w (Ret fun r w' => r = .int .i64 (kd f) ∧ w' = w) := by
  have h8 := hid (fun w1 => refHas_calls w1 (k := 8) f0 f1 (by decide))
  have h64 := hid (fun w1 => refHas_calls w1 (k := 64) f0 f1 (by decide))
  have h128 := hid (fun w1 => refHas_calls w1 (k := 128) f0 f1 (by decide))
  have hK := hid (show kd f = if hasB f 8 then (if hasB f 64 || hasB f 128 then -1 else 1) else if hasB f 64 then (if hasB f 128 then -1 else 2) else if hasB f 128 then 4 else 0 from rfl)
  generalize kd f = K at *
  generalize hasB f 8 = q8 at *
  generalize hasB f 64 = q64 at *
  generalize hasB f 128 = q128 at *
  clear f0 f1
  cases q8 <;> cases q64 <;> cases q128
  all_goals
    go_enter Try.func43, Try.ntmps43
    go_wp2_with (first
      | (go_at_call 40; (with_reducible refine (h8.out _).mono ?_); rintro _ _ ⟨_, rfl, rfl, rfl⟩)
      | (go_at_call 40; (with_reducible refine (h64.out _).mono ?_); rintro _ _ ⟨_, rfl, rfl, rfl⟩)
      | (go_at_call 40; (with_reducible refine (h128.out _).mono ?_); rintro _ _ ⟨_, rfl, rfl, rfl⟩))
    go_ret
    exact .mk ⟨by rw [hK.out]; rfl, rfl⟩
end Go.Proofs.Yteoicpbfjkjogaa
