/- Layer 7: HmtxLongs. -/
import Derived.Test.YtpfgcadlgabaeaaLaw07A
namespace Go.Proofs.Ytpfgcadlgabaeaa
open Go Go.RowKit
set_option linter.unusedVariables false
set_option linter.unusedSimpArgs false
set_option maxRecDepth 100000

theorem lon_spec (ms : List (Int × Int)) : ∀ n, 1 ≤ n → ∃ j, lonN ms n = j + 1 ∧ j < n ∧ (∀ i, j ≤ i → i < n → adv ms i = adv ms j) ∧ (j = 0 ∨ ∃ i, j = i + 1 ∧ adv ms i ≠ adv ms j)
  | 0, h => absurd h (by omega)
  | 1, _ => ⟨0, rfl, by omega, fun i _ h => by rw [show i = 0 by omega], .inl rfl⟩
  | n + 2, _ => by
    by_cases e : adv ms (n + 1) = adv ms n
    · obtain ⟨j, h1, h2, h3, h4⟩ := lon_spec ms (n + 1) (by omega)
      refine ⟨j, by unfold lonN; rw [if_pos e]; exact h1, by omega, fun i hi hn => ?_, h4⟩
      by_cases hi' : i = n + 1
      · rw [hi', e]; exact h3 n (by omega) (by omega)
      · exact h3 i hi (by omega)
    · exact ⟨n + 1, by unfold lonN; rw [if_neg e], by omega, fun i h1 h2 => by rw [show i = n + 1 by omega], .inr ⟨n, rfl, fun h => e h.symm⟩⟩

set_option maxHeartbeats 4000000 in
theorem hmtxLongs_calls (w : World) {V : Value} {ms : List (Int × Int)} (h1 : SliceAt w w.heap.size 2 V ms.length (mtC ms)) (hM : Mets ms) :
    Calls Try.prog 3 #[V] w (Ret fun r w' => r = .bool true ∧ Below w.heap.size w w') := by
  have M0 := hid (Own.start w)
  have hF := hid (fun w1 (h : Below w.heap.size w w1) => few_calls w1 (h1.below h) hM)
  have hMets := mets_take hM 60
  have hl60 : (ms.take 60).length ≤ 60 := by rw [List.length_take]; omega
  have hget := hid (mtC_get (ms.take 60))
  have hLo := hid (fun w V (h : SliceAt w w.heap.size 2 V (ms.take 60).length (mtC (ms.take 60))) => long_calls w h (by omega))
  have hsp := lon_spec (ms.take 60) (ms.take 60).length
  obtain ⟨A1, c1, rfl, -⟩ := h1
  clear hM
  generalize ms.take 60 = l at *
  generalize hN : l.length = N at *
  clear hN
  by_cases h0 : N = 0
  · subst h0
    have hz : lonN l 0 = 0 := rfl
    rw [hz] at hLo
    clear hsp hz
    go_enter Try.func3, Try.ntmps3
    go_wp2_with (first
      | (go_at_call 8; refine (awake_calls _).mono ?_; rintro _ w2 ⟨_, rfl, rfl, hb⟩; (have M2 := hid (M0.out.keep hb)); clear hb)
      | (go_at_call 9; refine (hF.out _ M2.out.below).mono ?_; rintro _ w3 ⟨_, rfl, v3, x3, rfl, M⟩; obtain ⟨A3, c3, rfl⟩ := M.form (.head _); (have M3 := hid (M2.out.lift M)); clear M)
      | (go_at_call 10; refine (hLo.out _ _ (M3.out.slice (e := 31) (sz := 2) (v := .slice A3 0 c3) (n := 0) (xs := mtC l) (by simp))).mono ?_; rintro _ w4 ⟨_, rfl, rfl, hb⟩; (have M4 := hid (M3.out.keep hb)); clear hb))
    go_ret
    exact .mk ⟨rfl, M4.out.below⟩
  · obtain ⟨j, hj1, hj2, hj3, hj4⟩ := hsp (by omega)
    rw [hj1] at hLo
    have hsame := hid hj3
    have hend := hid hj4
    clear hsp hj1 hj3 hj4
    have hN0 : ((N : Int) == 0) = false := by rw [beq_eq_false_iff_ne]; omega
    go_enter Try.func3, Try.ntmps3
    go_wp2_with (first
      | (go_at_call 8; refine (awake_calls _).mono ?_; rintro _ w2 ⟨_, rfl, rfl, hb⟩; (have M2 := hid (M0.out.keep hb)); clear hb)
      | (go_at_call 9; refine (hF.out _ M2.out.below).mono ?_; rintro _ w3 ⟨_, rfl, v3, x3, rfl, M⟩; obtain ⟨A3, c3, rfl⟩ := M.form (.head _); (have M3 := hid (M2.out.lift M)); clear M)
      | (go_at_call 10; refine (hLo.out _ _ (M3.out.slice (e := 31) (sz := 2) (v := .slice A3 N c3) (n := N) (xs := mtC l) (by simp))).mono ?_; rintro _ w4 ⟨_, rfl, rfl, hb⟩; (have M4 := hid (M3.out.keep hb)); (obtain ⟨A9, c9, he, hc9, hm9, -, hr9⟩ := M4.out.slice (e := 31) (sz := 2) (v := .slice A3 N c3) (n := N) (xs := mtC l) (by simp)); (injection he with he1 he2 he3); subst he1 he3; (obtain ⟨a1, rfl, k1⟩ := hr9.cell (hget.out j hj2).1); clear he2 hr9 k1; unfold maxLen at hm9; (have hcj : ¬ c3 = j := by omega); (have hjc : j ≤ c3 := by omega); clear hb M3))
    have M7 := hid (M4.out.sub (L' := [.row 31 2 (.slice (some a1) N c3) N (mtC l)]) (by simp))
    have hcell := hid (fun w' (M : ∃ L, Own w w' L ∧ .row 31 2 (.slice (some a1) N c3) N (mtC l) ∈ L) i (hi : i < N) => show w'.cell? (a1.add (i * 2)) = some (.int .u16 (adv l i)) ∧ w'.cell? ⟨(a1.add (i * 2)).block, (a1.add (i * 2)).off + 1, none⟩ = some (.int .i16 (lft l i)) from by
      obtain ⟨L, M, hm⟩ := M
      obtain ⟨A9, c9, he, -, -, -, hr9⟩ := M.slice hm
      injection he with he1 he2 he3
      subst he1
      obtain ⟨a2, he, q1⟩ := hr9.cell (hget.out i hi).1
      injection he with he
      subst he
      obtain ⟨a2', he, q2⟩ := hr9.cell_at (m := i * 2) (j := 1) (by omega) (hget.out i hi).2
      injection he with he
      subst he
      exact ⟨q1, q2⟩)
    clear M4 hLo hF
    go_loopw [26] (fun iv wr => ∃ k : Nat, k ≤ N - j ∧ iv = .int .i64 k ∧ Hid (Own w wr [.row 31 2 (.slice (some a1) N c3) N (mtC l)])) (fun iv _ => N - j - (intOf iv).toNat)
    case atStart => exact ⟨0, Nat.zero_le _, rfl, M7⟩
    case round =>
      clear M7
      obtain ⟨k, hk, rfl, MR⟩ := hrel
      by_cases hlt : k < N - j
      · obtain ⟨k1, k2⟩ := hcell.out _ ⟨_, MR.out, .head _⟩ (j + k) (by omega)
        rw [show (j + k) * 2 = j * 2 + k * 2 by omega, ← add_of_add] at k1 k2
        rw [hsame.out (j + k) (by omega) (by omega)] at k1
        have hkj := hid (fun w' h => (hcell.out w' h j hj2).1)
        generalize adv l j = x at *
        generalize lft l (j + k) = y at *
        have hxx : (x != x) = false := by simp
        go_wp2_with (first
          | ((with_reducible refine gate (N := 5) rfl ?_); refine wpList_box_Own rfl (cs := #[.int .u16 0, .int .i16 0]) (t := 31) (by first | (go_simp; done) | (go_simp; rfl)) MR.out ?_; intro r w5 M; (have M5 := hid M); clear M k1 k2)
          | ((with_reducible refine gateSt (t := 31) (p := 5) rfl ?_); refine wpList_store_all (n := 2) (L1 := []) (mid := [.int .u16 0, .int .i16 0]) (vs := [.int .u16 x, .int .i16 y]) rfl rfl (by kernel_rfl) rfl rfl rfl rfl rfl (by intro u hu; simp at hu; rcases hu with rfl | rfl <;> rfl) M5.out ?_; intro w6 M; (obtain ⟨c0, c1', f0⟩ := mt_cells (r := r) (x := x) (y := y) M (by simp)); (have k3 := hkj.out _ ⟨_, M, by simp⟩); (have M6 := hid M); clear M M5))
        have g2 : j < N := hj2
        have g3 : (j : Int) < N := by omega
        have w1 : IntKind.i64.wrap ((j : Int) + 1 - 1) = (j : Int) := by rw [show (j : Int) + 1 - 1 = (j : Int) by omega]; exact IntWalk.i64_in _ (by omega)
        have w3 : IntKind.i64.wrap (j : Int) = (j : Int) := IntWalk.i64_in _ (by omega)
        go_quiet (fail)
        go_wp2_with fail
        go_roundw
        case rel => exact ⟨k + 1, by omega, by go_num, hid ((M6.out.drewN _).sub (by simp))⟩
        case measure => simp [intOf] <;> omega
      · obtain rfl : k = N - j := by omega
        rcases hend.out with rfl | ⟨i, rfl, hne⟩
        · go_wp2
          go_quiet (fail)
          go_wp2_with fail
          go_ret
          exact .mk ⟨rfl, (MR.out.drewN _).below⟩
        · have k1 := (hcell.out _ ⟨_, MR.out, .head _⟩ i (by omega)).1
          have k2 := (hcell.out _ ⟨_, MR.out, .head _⟩ (i + 1) hj2).1
          generalize adv l (i + 1) = x at *
          generalize adv l i = y at *
          have hyx : (y != x) = true := by rw [bne_iff_ne]; exact hne
          have g1 : i < N := by omega
          have g2 : (i : Int) < N := by omega
          have g3 : (i : Int) + 1 < N := by omega
          have g4 : ((i : Int) + 1).toNat = i + 1 := by omega
          have g5 : 0 ≤ (i : Int) + 1 := by omega
          have g6 : ((i : Int) + 1 + 1 == 1) = false := by rw [beq_eq_false_iff_ne]; omega
          clear hne
          go_wp2
          go_quiet (fail)
          go_wp2_with fail
          go_ret
          exact .mk ⟨rfl, (MR.out.drewN _).below⟩
end Go.Proofs.Ytpfgcadlgabaeaa
