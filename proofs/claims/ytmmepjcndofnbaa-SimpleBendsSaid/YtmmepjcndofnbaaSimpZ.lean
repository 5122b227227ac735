/- The document's bytes of a change. -/
import Derived.Test.YtmmepjcndofnbaaSimpR
import Derived.Test.YtmmepjcndofnbaaSimpK
import Derived.Test.YtmmepjcndofnbaaJoin
namespace Go.Proofs.Ytmmepjcndofnbaa
open Go Go.RowKit
set_option linter.unusedVariables false
set_option linter.unusedSimpArgs false
set_option maxRecDepth 100000

set_option maxHeartbeats 2000000 in
theorem one_calls (w : World) {n sh sa : Int} (n0 : -65536 ≤ n) (n1 : n < 65536) (hw : Way sh sa) :
    Calls Try.prog 37 #[.int .i64 n, .int .u8 sh, .int .u8 sa] w (Ret fun r w' => ∃ v, r = .tuple #[v, .int .u8 (layF n sh sa)] ∧ Own w w' [.row 5 1 v (layB n).length (ints .u8 (layB n))]) := by
  have hS := hid (S2_calls w n0 n1)
  have ho : or8 sh sa = sh + sa := or_way hw
  have hsb : 0 ≤ sh ∧ sh < 256 ∧ 0 ≤ sa ∧ sa < 256 ∧ sh + sa < 256 := by rcases hw with ⟨rfl, rfl⟩ | ⟨rfl, rfl⟩ <;> omega
  obtain ⟨b0, b1, b2, b3, b4⟩ := hsb
  have hwr : IntKind.u8.wrap (sh + sa) = sh + sa := by rw [IntKind.wrap_u8]; omega
  have M0 := hid (Own.start w)
  by_cases q0 : n = 0
  · subst q0
    have e1 : layB 0 = [] := rfl
    have e2 : layF 0 sh sa = sa := rfl
    rw [e1, e2]
    clear hS
    go_enter Try.func37, Try.ntmps37
    go_wp2
    go_ret2
    exact .mk ⟨_, rfl, M0.out.nil_row _ _⟩
  · have q0' : (n == 0) = false := by rw [beq_eq_false_iff_ne]; exact q0
    by_cases q1 : 0 < n ∧ n ≤ 255
    · have e1 : layB n = [n] := by unfold layB; rw [if_neg q0, if_pos q1]
      have e2 : layF n sh sa = sh + sa := by unfold layF; rw [if_neg q0, if_pos q1, ho]
      rw [e1, e2]
      obtain ⟨g0, g1⟩ := q1
      have g2 : n < 256 := by omega
      have hwn : IntKind.u8.wrap n = n := by rw [IntKind.wrap_u8]; omega
      clear hS e1 e2 q0
      go_enter Try.func37, Try.ntmps37
      go_wp2
      go_ret2
      exact .mk ⟨_, rfl, (M0.out.alloc 5 #[.int .u8 n]).as_row (L1 := []) 1 1 rfl (by unfold maxLen; omega)⟩
    · by_cases q2 : n < 0 ∧ -255 ≤ n
      · have e1 : layB n = [-n] := by unfold layB; rw [if_neg q0, if_neg q1, if_pos q2]
        have e2 : layF n sh sa = sh := by unfold layF; rw [if_neg q0, if_neg q1, if_pos q2]
        rw [e1, e2]
        obtain ⟨g0, g1⟩ := q2
        have g2 : n > -256 := by omega
        have g3 : ¬ n > 0 := by omega
        have hwn : IntKind.u8.wrap (-n) = -n := by rw [IntKind.wrap_u8]; omega
        have hwm : IntKind.i64.wrap (-n) = -n := IntWalk.i64_in _ (by omega)
        clear hS e1 e2 q0 q1
        go_enter Try.func37, Try.ntmps37
        go_wp2
        go_ret2
        exact .mk ⟨_, rfl, (M0.out.alloc 5 #[.int .u8 (-n)]).as_row (L1 := []) 1 1 rfl (by unfold maxLen; omega)⟩
      · have e1 : layB n = _root_.Go.Proofs.Ytmmepjcndofnbaa.b2 (n % 65536) := by unfold layB; rw [if_neg q0, if_neg q1, if_neg q2]
        have e2 : layF n sh sa = 0 := by unfold layF; rw [if_neg q0, if_neg q1, if_neg q2]
        rw [e1, e2]
        rcases (show n > 255 ∨ n < -255 by omega) with g | g
        · have g1 : n > 0 := by omega
          have g2 : ¬ n < 256 := by omega
          have g3 : ¬ n < 0 := by omega
          clear e1 e2 q0 q1 q2
          go_enter Try.func37, Try.ntmps37
          go_wp2_with (go_at_call 36; refine hS.out.mono ?_; rintro _ w1 ⟨v, rfl, M⟩; obtain ⟨A1, c1, rfl⟩ := M.form (.head _); (have M1 := hid M); clear M)
          go_ret2
          exact .mk ⟨_, rfl, M1.out⟩
        · have g1 : ¬ n > 0 := by omega
          have g2 : ¬ n > -256 := by omega
          have g3 : n < 0 := by omega
          clear e1 e2 q0 q1 q2
          go_enter Try.func37, Try.ntmps37
          go_wp2_with (go_at_call 36; refine hS.out.mono ?_; rintro _ w1 ⟨v, rfl, M⟩; obtain ⟨A1, c1, rfl⟩ := M.form (.head _); (have M1 := hid M); clear M)
          go_ret2
          exact .mk ⟨_, rfl, M1.out⟩
end Go.Proofs.Ytmmepjcndofnbaa
