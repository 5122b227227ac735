/- The document's least number of those that are told whole; its table. -/
import Derived.Test.YtpfgcadlgabaeaaHmtxF
import Derived.Test.YtpfgcadlgabaeaaJoin
namespace Go.Proofs.Ytpfgcadlgabaeaa
open Go Go.RowKit
set_option linter.unusedVariables false
set_option linter.unusedSimpArgs false
set_option maxRecDepth 100000

/-- Two cells behind one another of a metric in a slice, wherever the world stands. -/
theorem rmC_cells {W0 : World} {A : Option Addr} {ms : List (Int × Int)} {N : Nat} (hN : ms.length = N) (hr : Reads W0 W0.heap.size 2 A N (rmC ms)) {ad : Addr} (hA : A = some ad) {w' : World} (hb : Below W0.heap.size W0 w') {i : Nat} (hi : i < N) :
    w'.cell? (ad.add (i * 2)) = some (.int .i64 (adv ms i)) ∧ w'.cell? ⟨(ad.add (i * 2)).block, (ad.add (i * 2)).off + 1, none⟩ = some (.int .i64 (lft ms i)) := by
  subst hA
  have hr := hr.keep (w' := w') fun k hk _ => hb.block k hk
  have hg := rmC_get ms i (by omega)
  obtain ⟨a2, he, q1⟩ := hr.cell hg.1
  injection he with he
  subst he
  obtain ⟨a2', he, q2⟩ := hr.cell_at (m := i * 2) (j := 1) (by omega) hg.2
  injection he with he
  subst he
  exact ⟨q1, q2⟩

/-- Have all of so many one advance? -/
def smB (ms : List (Int × Int)) (n k : Nat) : Bool := decide (∀ j, j < k → adv ms (n + j) = adv ms n)
theorem smB_succ (ms : List (Int × Int)) (n k : Nat) : smB ms n (k + 1) = (smB ms n k && (adv ms (n + k) == adv ms n)) := by
  unfold smB
  rw [Bool.eq_iff_iff]
  simp only [decide_eq_true_eq, Bool.and_eq_true, beq_iff_eq]
  refine ⟨fun h => ⟨fun j hj => h j (by omega), h k (by omega)⟩, fun ⟨h, e⟩ j hj => ?_⟩
  by_cases hjk : j = k
  · rw [hjk]; exact e
  · exact h j (by omega)
theorem smB_true {ms : List (Int × Int)} {n k : Nat} (h : smB ms n k = true) : ∀ j, j < k → adv ms (n + j) = adv ms n := of_decide_eq_true h
theorem smB_of {ms : List (Int × Int)} {n k : Nat} (h : ∀ j, j < k → adv ms (n + j) = adv ms n) : smB ms n k = true := decide_eq_true h
theorem rmt_cells {W0 w : World} {L : List Ent} {r : Nat} {x y : Int} (M : Own W0 w L) (h : .blk r 58 #[.int .i64 x, .int .i64 y] ∈ L) : w.cell? ⟨r, 0, none⟩ = some (.int .i64 x) ∧ w.cell? ⟨r, 1, none⟩ = some (.int .i64 y) ∧ w.frozen? ⟨r, 0, none⟩ = false := ⟨M.cell h 0, M.cell h 1, M.free h 0⟩

set_option maxHeartbeats 1000000 in
theorem refLong_calls (w : World) {V : Value} {ms : List (Int × Int)} {N : Nat} (hN : ms.length = N) (h1 : SliceAt w w.heap.size 2 V N (rmC ms)) (hn : N ≤ 65535) :
    Calls Try.prog 18 #[V] w (Ret fun r w' => r = .int .i64 (lonN ms N : Nat) ∧ Below w.heap.size w w') := by
  obtain ⟨A1, c1, rfl, hc1, hm1, hA1, hr1⟩ := h1
  unfold maxLen at hm1
  by_cases h0 : N = 0
  · subst h0
    clear hr1 hA1 hN
    go_enter Try.func18, Try.ntmps18
    go_wp2
    go_loopw [3] (fun nv wr => nv = .int .i64 1 ∧ Hid (Own w wr [])) (fun nv _ => 0)
    case atStart => exact ⟨rfl, hid (Own.start w)⟩
    case round =>
      obtain ⟨rfl, MH⟩ := hrel
      go_wp2
      go_ret
      exact .mk ⟨rfl, MH.out.below⟩
  · obtain ⟨ad, rfl⟩ : ∃ ad, A1 = some ad := by obtain ⟨ad, e, -⟩ := hr1.2 (by omega); exact ⟨ad, e⟩
    have hcl := hid (fun w' hb i hi => rmC_cells hN hr1 (rfl : some ad = some ad) (w' := w') hb (i := i) hi)
    have hL := lonN_le ms N
    have hsame := lon_same ms (N := N) (by omega)
    have hleast := hid (fun n => lon_least ms (N := N) (n := n))
    generalize lonN ms N = L at *
    obtain ⟨hL1, hs⟩ := hsame
    replace hs := hid hs
    clear hr1 hA1 hN
    go_enter Try.func18, Try.ntmps18
    go_wp2
    go_loopw [3] (fun nv wr => ∃ n : Nat, n + 1 ≤ L ∧ nv = .int .i64 (n + 1 : Nat) ∧ Hid (Own w wr [])) (fun nv _ => L - (intOf nv).toNat)
    case atStart => exact ⟨0, hL1, rfl, hid (Own.start w)⟩
    case round =>
      obtain ⟨n, hn1, rfl, MH⟩ := hrel
      have g0 : (n : Int) + 1 ≤ N := by omega
      have g1 : n ≤ N := by omega
      have g2 : n < N := by omega
      have g3 : (n : Int) < N := by omega
      have g4 : ¬ c1 = n := by omega
      have g5 : (n : Int) ≤ N := by omega
      have w1 : IntKind.i64.wrap ((n : Int) + 1 - 1) = (n : Int) := by rw [show (n : Int) + 1 - 1 = (n : Int) by omega]; exact IntWalk.i64_in _ (by omega)
      have w3 : IntKind.i64.wrap (n : Int) = (n : Int) := IntWalk.i64_in _ (by omega)
      have w4 : ((n : Int) + 1 - 1) = (n : Int) := by omega
      go_upto_region 6 with fail
      go_loopw [4, 18] (fun sv iv wr => ∃ k : Nat, k ≤ N - n ∧ iv = .int .i64 k ∧ sv = .bool (smB ms n k) ∧ Hid (Own w wr [])) (fun _ iv _ => N - n - (intOf iv).toNat)
      case atStart => exact ⟨0, Nat.zero_le _, rfl, rfl, MH⟩
      case round =>
        clear MH
        obtain ⟨k, hk, rfl, rfl, MR⟩ := hrel
        by_cases hlt : k < N - n
        · have hsu := hid (smB_succ ms n k)
          obtain ⟨k1, k2⟩ := hcl.out wr MR.out.below (n + k) (by omega)
          rw [show (n + k) * 2 = n * 2 + k * 2 by omega, ← add_of_add] at k1 k2
          have k3 := hid (fun w' hb => (hcl.out w' hb n g2).1)
          generalize smB ms n k = sk at *
          generalize adv ms (n + k) = x at *
          generalize lft ms (n + k) = y at *
          generalize adv ms n = z at *
          cases sk
          · go_wp2_with (first
              | ((with_reducible refine gate (N := 6) rfl ?_); refine wpList_box_Own rfl (cs := #[.int .i64 0, .int .i64 0]) (t := 58) (by first | (go_simp; done) | (go_simp; rfl)) MR.out ?_; intro r w5 M; (clear k1 k2); (have M5 := hid M); clear M)
              | ((with_reducible refine gateSt (t := 58) (p := 6) rfl ?_); refine wpList_store_all (n := 2) (L1 := []) (mid := [.int .i64 0, .int .i64 0]) (vs := [.int .i64 x, .int .i64 y]) rfl rfl (by kernel_rfl) rfl rfl rfl rfl rfl (one_all rfl) M5.out ?_; intro w6 M; obtain ⟨c0, c1', f0⟩ := rmt_cells (r := r) (x := x) (y := y) M (by simp); (have M6 := hid M); clear M))
            simp only [Act.put, List.setIfInBounds_toArray, List.set_cons_zero, List.set_cons_succ]
            go_quiet (fail)
            go_wp2_with fail
            go_roundw
            case rel => exact ⟨k + 1, by omega, by go_num, by rw [hsu.out]; rfl, hid ((M6.out.drewN _).sub (by simp))⟩
            case measure => simp [intOf] <;> omega
          · go_wp2_with (first
              | ((with_reducible refine gate (N := 6) rfl ?_); refine wpList_box_Own rfl (cs := #[.int .i64 0, .int .i64 0]) (t := 58) (by first | (go_simp; done) | (go_simp; rfl)) MR.out ?_; intro r w5 M; (clear k1 k2); (have M5 := hid M); clear M)
              | ((with_reducible refine gateSt (t := 58) (p := 6) rfl ?_); refine wpList_store_all (n := 2) (L1 := []) (mid := [.int .i64 0, .int .i64 0]) (vs := [.int .i64 x, .int .i64 y]) rfl rfl (by kernel_rfl) rfl rfl rfl rfl rfl (one_all rfl) M5.out ?_; intro w6 M; obtain ⟨c0, c1', f0⟩ := rmt_cells (r := r) (x := x) (y := y) M (by simp); (have k3 := k3.out _ M.below); (have M6 := hid M); clear M))
            simp only [Act.put, List.setIfInBounds_toArray, List.set_cons_zero, List.set_cons_succ]
            rcases Bool.eq_false_or_eq_true (x == z) with e | e
            all_goals
              go_quiet (fail)
              go_wp2_with fail
              go_roundw
              case rel => exact ⟨k + 1, by omega, by go_num, by rw [hsu.out, e]; rfl, hid ((M6.out.drewN _).sub (by simp))⟩
              case measure => simp [intOf] <;> omega
        · obtain rfl : k = N - n := by omega
          rcases Bool.eq_false_or_eq_true (smB ms n (N - n)) with e | e
          · have hLn : n + 1 = L := by
              by_cases hl : n + 1 = L
              · exact hl
              · obtain ⟨i, h1, h2, h3⟩ := hleast.out n (by omega)
                exact absurd (by have := smB_true e (i - n) (by omega); rwa [show n + (i - n) = i by omega] at this) h3
            subst hLn
            rw [e]
            go_wp2
            go_ret
            exact .mk ⟨rfl, MR.out.below⟩
          · have hLn : n + 1 < L := by
              by_cases hl : n + 1 = L
              · have := smB_of (ms := ms) (n := n) (k := N - n) (fun j hj => by
                  have h1 := hs.out (n + j) (by omega) (by omega)
                  rwa [show L - 1 = n by omega] at h1)
                rw [this] at e; cases e
              · omega
            rw [e]
            go_wp2
            go_roundw
            case rel => exact ⟨n + 1, by omega, by go_num, MR⟩
            case measure => simp [intOf] <;> omega

theorem S2_bd {y : Int} (h : -32768 ≤ y ∧ y < 32768) : -65536 ≤ y ∧ y < 65536 := by omega
set_option maxHeartbeats 2000000 in
theorem refBytes_calls (w : World) {V : Value} {ms : List (Int × Int)} {N lo : Nat} (hN : ms.length = N) (h1 : SliceAt w w.heap.size 2 V N (rmC ms)) (hM : Mets ms) (hn : N ≤ 65535) (hlo : lo ≤ 65535) :
    Calls Try.prog 19 #[V, .int .i64 lo] w (Ret fun r w' => Own w w' [.row 5 1 r (hmK ms lo N).length (ints .u8 (hmK ms lo N))]) := by
  obtain ⟨A1, c1, rfl, hc1, hm1, hA1, hr1⟩ := h1
  unfold maxLen at hm1
  have hcl := hid (fun ad (e : A1 = some ad) w' hb i hi => rmC_cells hN hr1 e (w' := w') hb (i := i) hi)
  have hr1H := hid hr1
  have hMH := hid hM
  have hNH := hid hN
  clear hr1 hA1 hN hM
  go_enter Try.func19, Try.ntmps19
  go_wp2
  go_loopw [5, 10] (fun o i wr => ∃ (k : Nat), k ≤ N ∧ i = .int .i64 k ∧ Hid (Own w wr [.row 5 1 o (hmK ms lo k).length (ints .u8 (hmK ms lo k))])) (fun _ i _ => N - (intOf i).toNat)
  case atStart => exact ⟨0, Nat.zero_le _, rfl, hid ((Own.start w).nil_row 5 1)⟩
  case round =>
    obtain ⟨k, hk, rfl, MH⟩ := hrel
    obtain ⟨A, c, rfl⟩ := MH.out.form (.head _)
    by_cases hlt : k < N
    · obtain ⟨ad, rfl⟩ : ∃ ad, A1 = some ad := by obtain ⟨ad, e, -⟩ := hr1H.out.2 (by omega); exact ⟨ad, e⟩
      obtain ⟨k1, k2⟩ := hcl.out ad rfl wr MH.out.below k hlt
      obtain ⟨x0, x1⟩ := hMH.out.adv k (by rw [hNH.out]; exact hlt)
      obtain ⟨y0, y1⟩ := hMH.out.lft k (by rw [hNH.out]; exact hlt)
      have hks := hid (hmK_succ ms lo k)
      have hkl := hid (show (hmK ms lo k).length ≤ 300000 by rw [hmK_length]; omega)
      have hE := hid (show hmE ms lo k = (if k < lo then b2 (adv ms k) else []) ++ b2 (lft ms k % 65536) from rfl)
      generalize adv ms k = x at *
      generalize lft ms k = y at *
      generalize hmK ms lo k = q at *
      by_cases hkl' : k < lo
      · rw [if_pos hkl'] at hE
        have hkI : (k : Int) < (lo : Int) := by omega
        go_wp2_with (first
          | ((with_reducible refine gate (N := 7) rfl ?_); refine wpList_box_Own rfl (cs := #[.int .i64 0, .int .i64 0]) (t := 58) (by first | (go_simp; done) | (go_simp; rfl)) MH.out ?_; intro r w4 M; (clear k1 k2); (have M4 := hid M); clear M)
          | ((with_reducible refine gateSt (t := 58) (p := 7) rfl ?_); refine wpList_store_all (n := 2) (L1 := []) (mid := [.int .i64 0, .int .i64 0]) (vs := [.int .i64 x, .int .i64 y]) rfl rfl (by kernel_rfl) rfl rfl rfl rfl rfl (one_all rfl) M4.out ?_; intro w5 M; obtain ⟨c0, c1', f0⟩ := rmt_cells (r := r) (x := x) (y := y) M (by simp); (have M5 := hid M); clear M)
          | (go_at_call 29; (with_reducible refine (B2_calls _ (n := x) (by omega) (by omega)).mono ?_); rintro _ w6 ⟨_, rfl, M⟩; obtain ⟨A6, c6, rfl⟩ := M.form (.head _); (have M6' := M5.out.lift M); obtain ⟨c0, c1', f0⟩ := rmt_cells (r := r) (x := x) (y := y) M6' (by simp); (have M6 := hid M6'); (clear M6' M M5))
          | (go_at_call 16; (with_reducible refine (join2_calls w6 (M6.out.bytes (e := 5) (v := .slice A q.length c) (n := q.length) (l := q) (by simp) rfl) (M6.out.bytes (e := 5) (v := .slice A6 2 c6) (n := 2) (l := b2 x) (by simp) rfl) (n := q.length + 2) rfl (by have := hkl.out; omega)).mono ?_); rintro _ w8 ⟨_, rfl, M⟩; obtain ⟨A8, c8, rfl⟩ := M.form (.head _); (have M8' := M6.out.lift M); obtain ⟨c0, c1', f0⟩ := rmt_cells (r := r) (x := x) (y := y) M8' (by simp); (have M8 := hid M8'); (clear M8' M M6))
          | (go_at_call 31; (with_reducible refine (S2_calls _ (n := y) (by omega) (by omega)).mono ?_); rintro _ w9 ⟨_, rfl, M⟩; obtain ⟨A9, c9, rfl⟩ := M.form (.head _); (have M9' := M8.out.lift M); (have M9 := hid M9'); (clear M9' M M8))
          | (go_at_call 16; (with_reducible refine (join2_calls w9 (M9.out.bytes (e := 5) (v := .slice A8 (q.length + 2) c8) (n := q.length + 2) (l := q ++ b2 x) (by simp) (by simp [b2_length])) (M9.out.bytes (e := 5) (v := .slice A9 2 c9) (n := 2) (l := b2 (y % 65536)) (by simp) rfl) (n := q.length + 4) (by simp [b2_length]) (by have := hkl.out; omega)).mono ?_); rintro _ w10 ⟨_, rfl, M⟩; (have M10 := hid (M9.out.lift M)); (clear M M9)))
        go_roundw
        case rel => exact ⟨k + 1, by omega, by go_num, hid (by rw [hks.out, hE.out, ← List.append_assoc, show ((q ++ b2 x) ++ b2 (y % 65536)).length = q.length + 4 by simp [b2_length]]; exact M10.out.sub (by simp))⟩
        case measure => simp [intOf] <;> omega
      · rw [if_neg hkl', List.nil_append] at hE
        have hkI : ¬ (k : Int) < (lo : Int) := by omega
        go_wp2_with (first
          | ((with_reducible refine gate (N := 7) rfl ?_); refine wpList_box_Own rfl (cs := #[.int .i64 0, .int .i64 0]) (t := 58) (by first | (go_simp; done) | (go_simp; rfl)) MH.out ?_; intro r w4 M; (clear k1 k2); (have M4 := hid M); clear M)
          | ((with_reducible refine gateSt (t := 58) (p := 7) rfl ?_); refine wpList_store_all (n := 2) (L1 := []) (mid := [.int .i64 0, .int .i64 0]) (vs := [.int .i64 x, .int .i64 y]) rfl rfl (by kernel_rfl) rfl rfl rfl rfl rfl (one_all rfl) M4.out ?_; intro w5 M; obtain ⟨c0, c1', f0⟩ := rmt_cells (r := r) (x := x) (y := y) M (by simp); (have M5 := hid M); clear M)
          | (go_at_call 31; (with_reducible refine (S2_calls _ (n := y) (by omega) (by omega)).mono ?_); rintro _ w9 ⟨_, rfl, M⟩; obtain ⟨A9, c9, rfl⟩ := M.form (.head _); (have M9' := M5.out.lift M); (have M9 := hid M9'); (clear M9' M M5))
          | (go_at_call 16; (with_reducible refine (join2_calls w9 (M9.out.bytes (e := 5) (v := .slice A q.length c) (n := q.length) (l := q) (by simp) rfl) (M9.out.bytes (e := 5) (v := .slice A9 2 c9) (n := 2) (l := b2 (y % 65536)) (by simp) rfl) (n := q.length + 2) rfl (by have := hkl.out; omega)).mono ?_); rintro _ w10 ⟨_, rfl, M⟩; (have M10 := hid (M9.out.lift M)); (clear M M9)))
        go_roundw
        case rel => exact ⟨k + 1, by omega, by go_num, hid (by rw [hks.out, hE.out, show (q ++ b2 (y % 65536)).length = q.length + 2 by simp [b2_length]]; exact M10.out.sub (by simp))⟩
        case measure => simp [intOf] <;> omega
    · obtain rfl : k = N := by omega
      go_wp2
      go_ret
      exact .mk MH.out
end Go.Proofs.Ytpfgcadlgabaeaa
