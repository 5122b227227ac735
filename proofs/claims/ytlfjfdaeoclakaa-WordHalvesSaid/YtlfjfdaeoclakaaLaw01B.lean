/- Layer 1: WordHalves: four bytes are two and two; two are one and one; a sign is the upper half of all numbers. -/
import Derived.Test.YtlfjfdaeoclakaaLaw01A
namespace Go.Proofs.Ytlfjfdaeoclakaa
open Go Go.RowKit
set_option linter.unusedVariables false
set_option linter.unusedSimpArgs false
set_option maxRecDepth 100000

theorem wordHalves_calls (w : World) {n : Int} (h0 : 0 ≤ n) (h1 : n < 4294967296) : Calls Try.prog 5 #[.int .u32 n] w (Ret fun r w' => r = .bool true ∧ Below w.heap.size w w') := by
  have hl : ∃ a b c d : Int, b4 n = [a, b, c, d] ∧ 0 ≤ a ∧ a < 256 ∧ 0 ≤ b ∧ b < 256 ∧ 0 ≤ c ∧ c < 256 ∧ 0 ≤ d ∧ d < 256 ∧ n = ((a * 256 + b) * 256 + c) * 256 + d :=
    ⟨_, _, _, _, rfl, by omega, by omega, by omega, by omega, by omega, by omega, by omega, by omega, by omega⟩
  have hB4 := hid (fun w1 => B4_calls w1 h0 h1)
  obtain ⟨a, b, c, d, e4, a0, a1, b0, b1, c0, c1, d0, d1, hn⟩ := hl
  rw [e4] at hB4
  clear e4
  have hR := hid (fun k (hk : k ≤ 4) => (⟨hk, by unfold Bytes; simp; omega⟩ : RdOk [a, b, c, d] k))
  have hnH := hid hn
  clear hn
  go_enter Try.func5, Try.ntmps5
  go_wp2_with fail
  refine (awake_calls _).mono ?_; rintro _ w1 ⟨_, rfl, rfl, hb1⟩; have M1 := hid ((Own.start w).keep hb1); clear hb1
  go_wp2_with fail
  refine (hB4.out _).mono ?_; rintro _ w2 ⟨_, rfl, M⟩; obtain ⟨A, C, rfl⟩ := M.form (.head _); have M2 := hid (M1.out.lift M); clear M M1
  go_wp2_with fail
  refine (new_calls _ (l := [a, b, c, d]) (M2.out.slice (e := 5) (.head _)) (by simp)).mono ?_; rintro _ w3 ⟨_, rfl, p1, v1, rfl, M⟩; have M3 := hid (M2.out.lift M (by simp [rdE, Ent.mine])); clear M M2
  go_wp2_with fail
  refine (new_calls _ (l := [a, b, c, d]) (M3.out.slice (e := 5) (n := 4) (by simp)) (by simp)).mono ?_; rintro _ w4 ⟨_, rfl, p2, v2, rfl, M⟩; have M4 := hid (M3.out.lift M (by simp [rdE, Ent.mine])); clear M M3
  go_wp2_with fail
  refine (new_calls _ (l := [a, b, c, d]) (M4.out.slice (e := 5) (n := 4) (by simp)) (by simp)).mono ?_; rintro _ w5 ⟨_, rfl, p3, v3, rfl, M⟩; have M5 := hid (M4.out.lift M (by simp [rdE, Ent.mine]) |>.front.front); clear M M4
  have M6 := hid M5.out.front3; clear M5
  go_wp2_with fail
  refine (rd_U16 (hR.out 0 (by omega)) M6.out).mono ?_; rw [show rNum [a, b, c, d] 0 false 2 = a * 256 + b from by simp [rNum, rBytes, rOk, be, sgn], show rAt [a, b, c, d] 0 false 2 = 2 from rfl, show (!rOk [a, b, c, d] 0 false 2) = false from rfl]; rintro _ M7w ⟨_, rfl, rfl, M⟩; have M7 := hid M; clear M M6
  go_wp2_with fail
  refine (rd_U16 (hR.out 2 (by omega)) M7.out).mono ?_; rw [show rNum [a, b, c, d] 2 false 2 = c * 256 + d from by simp [rNum, rBytes, rOk, be, sgn], show rAt [a, b, c, d] 2 false 2 = 4 from rfl, show (!rOk [a, b, c, d] 2 false 2) = false from rfl]; rintro _ M8w ⟨_, rfl, rfl, M⟩; have M8 := hid M; clear M M7
  have M9 := hid M8.out.front3; clear M8
  go_wp2_with fail
  refine (rd_U8 (hR.out 0 (by omega)) M9.out).mono ?_; rw [show rNum [a, b, c, d] 0 false 1 = a from by simp [rNum, rBytes, rOk, be, sgn], show rAt [a, b, c, d] 0 false 1 = 1 from rfl, show (!rOk [a, b, c, d] 0 false 1) = false from rfl]; rintro _ M10w ⟨_, rfl, rfl, M⟩; have M10 := hid M; clear M M9
  go_wp2_with fail
  refine (rd_U8 (hR.out 1 (by omega)) M10.out).mono ?_; rw [show rNum [a, b, c, d] 1 false 1 = b from by simp [rNum, rBytes, rOk, be, sgn], show rAt [a, b, c, d] 1 false 1 = 2 from rfl, show (!rOk [a, b, c, d] 1 false 1) = false from rfl]; rintro _ M11w ⟨_, rfl, rfl, M⟩; have M11 := hid M; clear M M10
  go_wp2_with fail
  refine (rd_U8 (hR.out 2 (by omega)) M11.out).mono ?_; rw [show rNum [a, b, c, d] 2 false 1 = c from by simp [rNum, rBytes, rOk, be, sgn], show rAt [a, b, c, d] 2 false 1 = 3 from rfl, show (!rOk [a, b, c, d] 2 false 1) = false from rfl]; rintro _ M12w ⟨_, rfl, rfl, M⟩; have M12 := hid M; clear M M11
  go_wp2_with fail
  refine (rd_U8 (hR.out 3 (by omega)) M12.out).mono ?_; rw [show rNum [a, b, c, d] 3 false 1 = d from by simp [rNum, rBytes, rOk, be, sgn], show rAt [a, b, c, d] 3 false 1 = 4 from rfl, show (!rOk [a, b, c, d] 3 false 1) = false from rfl]; rintro _ M13w ⟨_, rfl, rfl, M⟩; have M13 := hid M; clear M M12
  have M14 := hid M13.out.front3; clear M13
  go_wp2_with fail
  refine (rd_I16 (hR.out 0 (by omega)) M14.out).mono ?_; rw [show rNum [a, b, c, d] 0 false 2 = a * 256 + b from by simp [rNum, rBytes, rOk, be], show rAt [a, b, c, d] 0 false 2 = 2 from rfl, show (!rOk [a, b, c, d] 0 false 2) = false from rfl]; rintro _ M15w ⟨_, rfl, rfl, M⟩; have M15 := hid M.front3; clear M M14
  have q1 : bits .or .u32 ((a * 256 + b) * 65536) (c * 256 + d) = n := by
    rw [u32_or _ _ (by omega) (by omega) (by omega) (by omega), nat_join16 _ _ (by omega) (by omega), hnH.out]; omega
  have q2 : bits .or .u32 (bits .or .u32 (bits .or .u32 (a * 16777216) (b * 65536)) (c * 256)) d = n := by
    have e1 : bits .or .u32 (a * 16777216) (b * 65536) = a * 16777216 + b * 65536 := by
      rw [u32_or _ _ (by omega) (by omega) (by omega) (by omega), nat_join24 _ _ (by omega) (by omega)]; omega
    have e2 : bits .or .u32 (a * 16777216 + b * 65536) (c * 256) = a * 16777216 + b * 65536 + c * 256 := by
      rw [u32_or _ _ (by omega) (by omega) (by omega) (by omega), nat_join16 _ _ (by omega) (by omega)]; omega
    rw [e1, e2, u32_or _ _ (by omega) (by omega) (by omega) (by omega), nat_join8 _ _ (by omega) (by omega), hnH.out]; omega
  have q3 : IntKind.u16.wrap (sgn (a * 256 + b)) = a * 256 + b := by
    rw [IntKind.wrap_u16]; unfold sgn; split <;> omega
  have q4 : (sgn (a * 256 + b) < 0 ∧ 32768 ≤ a * 256 + b) ∨ (¬ sgn (a * 256 + b) < 0 ∧ ¬ 32768 ≤ a * 256 + b) := by
    unfold sgn; split <;> omega
  rcases q4 with ⟨q4, q5⟩ | ⟨q4, q5⟩
  all_goals
    go_wp2_with fail
    refine (rd_At M15.out).mono ?_; rintro _ _ ⟨_, rfl, rfl, rfl⟩
    have M16 := hid M15.out.front3
    go_wp2_with fail
    refine (rd_Left (by simp) M16.out).mono ?_; rintro _ _ ⟨_, rfl, rfl, M⟩; have M17 := hid M; clear M
    go_wp2_with fail
    go_ret
    exact .mk ⟨rfl, M17.out.below⟩
end Go.Proofs.Ytlfjfdaeoclakaa
