/- Layer 7: HmtxBuilds. -/
import Derived.Test.YtpfgcadlgabaeaaHmtxG
namespace Go.Proofs.Ytpfgcadlgabaeaa
open Go Go.RowKit
set_option linter.unusedVariables false
set_option linter.unusedSimpArgs false
set_option maxRecDepth 10000

set_option maxHeartbeats 4000000 in
theorem hmtxBuilds_calls (w : World) {V : Value} {ms : List (Int × Int)} (h1 : SliceAt w w.heap.size 2 V ms.length (mtC ms)) (hM : Mets ms) :
    Calls Try.prog 5 #[V] w (Ret fun r w' => r = .bool true ∧ Below w.heap.size w w') := by
  have M0 := hid (Own.start w)
  have hF := hid (fun w1 (h : Below w.heap.size w w1) => few_calls w1 (h1.below h) hM)
  have hMets := mets_take hM 60
  have hl60 : (ms.take 60).length ≤ 60 := by rw [List.length_take]; omega
  obtain ⟨A1, c1, rfl, -⟩ := h1
  clear hM
  generalize ms.take 60 = l at *
  obtain ⟨N, hN⟩ : ∃ N, l.length = N := ⟨_, rfl⟩
  rw [hN] at hF hl60
  have hBu := hid (fun w V (h : SliceAt w w.heap.size 2 V N (mtC l)) => show Calls Try.prog 17 #[V] w (Ret fun r w' => ∃ v, r = .tuple #[v, .int .u16 (lonN l N : Nat)] ∧ Own w w' [.row 5 1 v (hmK l (lonN l N) N).length (ints .u8 (hmK l (lonN l N) N))]) from by
    have := build_calls w (ms := l) (by rw [hN]; exact h) hMets (by omega)
    rwa [hN] at this)
  have hLo := hid (fun w V (h : SliceAt w w.heap.size 2 V N (mtC l)) => show Calls Try.prog 10 #[V] w (Ret fun r w' => r = .int .u16 (lonN l N : Nat) ∧ Below w.heap.size w w') from by
    have := long_calls w (ms := l) (by rw [hN]; exact h) (by omega)
    rwa [hN] at this)
  have hRL := hid (fun w V (h : SliceAt w w.heap.size 2 V N (rmC l)) => refLong_calls w hN h (by omega))
  have hRB := hid (fun w V lo (hlo : lo ≤ 65535) (h : SliceAt w w.heap.size 2 V N (rmC l)) => refBytes_calls w hN h hMets (by omega) hlo)
  have hll := lonN_le l N
  have hsame := lon_same l (N := N)
  have hP := hid (fun w V lo (k0 : 1 ≤ lo) (k1 : lo ≤ N) (hs : ∀ i, lo - 1 ≤ i → i < N → adv l i = adv l (lo - 1)) (h : BytesAt w V (hmK l lo N)) => show Calls Try.prog 20 #[V, .int .u16 lo, .int .u16 N] w (Ret fun r w' => ∃ v, r = .tuple #[v, .int .i64 0] ∧ Own w w' [.row 31 2 v N (mtC l)]) from by
    have hlen := hmK_length l (lon := lo) N
    have := hmParse_yes w h (hmK_bytes l lo N) (by omega) k0 k1 (by omega) (by omega)
    rwa [hm_read hMets hN k0 k1 hs] at this)
  have hlen := hid (fun lo => hmK_length l (lon := lo) N)
  obtain ⟨lo, hlo⟩ : ∃ lo, lonN l N = lo := ⟨_, rfl⟩
  rw [hlo] at hBu hLo hRL hll hsame
  have hRB1 := hid (fun w V => hRB.out w V lo (by omega))
  obtain ⟨q, hq⟩ : ∃ q, hmK l lo N = q := ⟨_, rfl⟩
  rw [hq] at hBu hRB1
  obtain ⟨n1, hn1⟩ : ∃ n1, q.length = n1 := ⟨_, rfl⟩
  rw [hn1] at hBu hRB1
  have b1 : n1 ≤ 300 := by have := hlen.out lo; rw [hq] at this; omega
  have b2 : lo ≤ 60 := by omega
  have hNH := hid hN
  replace hn1 := hid hn1
  by_cases h0 : N = 0
  · have hlo0 : lo = 0 := by omega
    have e0 : ((N : Int) == 0) = true := by rw [beq_iff_eq]; omega
    have e1 : ((lo : Int) == 0) = true := by rw [beq_iff_eq]; omega
    clear hsame hll hq hRB hP hN hlo hlo0 h0
    go_enter Try.func5, Try.ntmps5
    go_wp2_with (first
      | (go_at_call 8; refine (awake_calls _).mono ?_; rintro _ w2 ⟨_, rfl, rfl, hb⟩; (have M2 := hid (M0.out.keep hb)); clear hb)
      | (go_at_call 9; refine (hF.out _ M2.out.below).mono ?_; rintro _ w3 ⟨_, rfl, v3, x3, rfl, M⟩; obtain ⟨A3, c3, rfl⟩ := M.form (.head _); obtain ⟨A4, c4, rfl⟩ := M.form (.tail _ (.head _)); (have M3 := hid (M2.out.lift M)); clear M)
      | (go_at_call 17; (with_reducible refine (hBu.out _ _ (M3.out.slice (e := 31) (v := .slice A3 N c3) (n := N) (by simp))).mono ?_); rintro _ w4 ⟨_, rfl, v4, rfl, M⟩; obtain ⟨A5, c5, rfl⟩ := M.form (.head _); (have M4 := hid (M3.out.lift M)); clear M)
      | (go_at_call 18; (with_reducible refine (hRL.out _ _ (M4.out.slice (e := 58) (v := .slice A4 N c4) (n := N) (by simp))).mono ?_); rintro _ w5 ⟨_, rfl, rfl, hb⟩; (have M5 := hid (M4.out.keep hb)); clear hb)
      | (go_at_call 10; (with_reducible refine (hLo.out _ _ (M5.out.slice (e := 31) (v := .slice A3 N c3) (n := N) (by simp))).mono ?_); rintro _ w6 ⟨_, rfl, rfl, hb⟩; (have M6 := hid (M5.out.keep hb)); clear hb)
      | (go_at_call 19; (with_reducible refine (hRB1.out _ _ (M6.out.slice (e := 58) (v := .slice A4 N c4) (n := N) (by simp))).mono ?_); rintro _ w7 ⟨_, rfl, M⟩; obtain ⟨A7, c7, rfl⟩ := M.form (.head _); (have M7 := hid (M6.out.lift M)); clear M)
      | (go_at_call 14; (with_reducible refine (same_true _ (xs := q) (M7.out.bytes (e := 5) (v := .slice A5 n1 c5) (n := n1) (by simp) hn1.out) (M7.out.bytes (e := 5) (v := .slice A7 n1 c7) (n := n1) (by simp) hn1.out)).mono ?_); rintro _ w8 ⟨_, rfl, rfl, hb⟩; (have M8 := hid (M7.out.keep hb)); clear hb))
    go_ret
    exact .mk ⟨rfl, M8.out.below⟩
  · obtain ⟨l1, hs⟩ := hsame (by omega)
    have hP1 := hid (fun w V => hP.out w V lo l1 hll hs)
    rw [hq] at hP1
    have hP2 := hid (fun w V => hP.out w V N (by omega) (Nat.le_refl _) (fun i h1 h2 => by rw [show i = N - 1 by omega]))
    have hRB2 := hid (fun w V => hRB.out w V N (by omega))
    obtain ⟨q2, hq2⟩ : ∃ q2, hmK l N N = q2 := ⟨_, rfl⟩
    rw [hq2] at hP2 hRB2
    obtain ⟨n2, hn2⟩ : ∃ n2, q2.length = n2 := ⟨_, rfl⟩
    rw [hn2] at hRB2
    replace hn2 := hid hn2
    have b3 : n2 ≤ 300 := by have := hlen.out N; rw [hq2, hn2.out] at this; omega
    have hN0 : ((N : Int) == 0) = false := by rw [beq_eq_false_iff_ne]; omega
    clear hll hq hq2 hs hRB hP hN hlo
    go_enter Try.func5, Try.ntmps5
    go_wp2_with (first
      | (go_at_call 8; refine (awake_calls _).mono ?_; rintro _ w2 ⟨_, rfl, rfl, hb⟩; (have M2 := hid (M0.out.keep hb)); clear hb)
      | (go_at_call 9; refine (hF.out _ M2.out.below).mono ?_; rintro _ w3 ⟨_, rfl, v3, x3, rfl, M⟩; obtain ⟨A3, c3, rfl⟩ := M.form (.head _); obtain ⟨A4, c4, rfl⟩ := M.form (.tail _ (.head _)); (have M3 := hid (M2.out.lift M)); clear M)
      | (go_at_call 17; (with_reducible refine (hBu.out _ _ (M3.out.slice (e := 31) (v := .slice A3 N c3) (n := N) (by simp))).mono ?_); rintro _ w4 ⟨_, rfl, v4, rfl, M⟩; obtain ⟨A5, c5, rfl⟩ := M.form (.head _); (have M4 := hid (M3.out.lift M)); clear M)
      | (go_at_call 18; (with_reducible refine (hRL.out _ _ (M4.out.slice (e := 58) (v := .slice A4 N c4) (n := N) (by simp))).mono ?_); rintro _ w5 ⟨_, rfl, rfl, hb⟩; (have M5 := hid (M4.out.keep hb)); clear hb)
      | (go_at_call 10; (with_reducible refine (hLo.out _ _ (M5.out.slice (e := 31) (v := .slice A3 N c3) (n := N) (by simp))).mono ?_); rintro _ w6 ⟨_, rfl, rfl, hb⟩; (have M6 := hid (M5.out.keep hb)); clear hb)
      | (go_at_call 19; (with_reducible refine (hRB1.out _ _ (M6.out.slice (e := 58) (v := .slice A4 N c4) (n := N) (by simp))).mono ?_); rintro _ w7 ⟨_, rfl, M⟩; obtain ⟨A7, c7, rfl⟩ := M.form (.head _); (have M7 := hid (M6.out.lift M)); clear M M6)
      | (go_at_call 14; (with_reducible refine (same_true _ (xs := q) (M7.out.bytes (e := 5) (v := .slice A5 n1 c5) (n := n1) (by simp) hn1.out) (M7.out.bytes (e := 5) (v := .slice A7 n1 c7) (n := n1) (by simp) hn1.out)).mono ?_); rintro _ w8 ⟨_, rfl, rfl, hb⟩; (have M8 := hid (M7.out.keep hb)); clear hb)
      | (go_at_call 20; (with_reducible refine (hP1.out _ _ (M8.out.bytes (e := 5) (v := .slice A5 n1 c5) (n := n1) (by simp) hn1.out)).mono ?_); rintro _ w9 ⟨_, rfl, v9, rfl, M⟩; obtain ⟨A9, c9, rfl⟩ := M.form (.head _); (have M9 := hid (M8.out.lift M)); clear M M8)
      | (go_at_call 19; (with_reducible refine (hRB2.out _ _ (M9.out.slice (e := 58) (v := .slice A4 N c4) (n := N) (by simp))).mono ?_); rintro _ w10 ⟨_, rfl, M⟩; obtain ⟨A10, c10, rfl⟩ := M.form (.head _); (have M10 := hid (M9.out.lift M)); clear M M9)
      | (go_at_call 20; (with_reducible refine (hP2.out _ _ (M10.out.bytes (e := 5) (v := .slice A10 n2 c10) (n := n2) (by simp) hn2.out)).mono ?_); rintro _ w11 ⟨_, rfl, v11, rfl, M⟩; obtain ⟨A11, c11, rfl⟩ := M.form (.head _); (have M11 := hid (M10.out.lift M)); clear M)
      | (go_at_call 21; (with_reducible refine (eqMets_calls _ hNH.out (M11.out.slice (e := 31) (v := .slice A9 N c9) (n := N) (xs := mtC l) (by simp)) (M11.out.slice (e := 31) (v := .slice A3 N c3) (n := N) (xs := mtC l) (by simp))).mono ?_); rintro _ w12 ⟨_, rfl, rfl, hb⟩; (have M12 := hid (M11.out.keep hb)); clear hb M11)
      | (go_at_call 21; (with_reducible refine (eqMets_calls _ hNH.out (M12.out.slice (e := 31) (v := .slice A11 N c11) (n := N) (xs := mtC l) (by simp)) (M12.out.slice (e := 31) (v := .slice A3 N c3) (n := N) (xs := mtC l) (by simp))).mono ?_); rintro _ w13 ⟨_, rfl, rfl, hb⟩; (have M13 := hid (M12.out.keep hb)); clear hb))
    go_ret
    exact .mk ⟨rfl, M13.out.below⟩
end Go.Proofs.Ytpfgcadlgabaeaa
