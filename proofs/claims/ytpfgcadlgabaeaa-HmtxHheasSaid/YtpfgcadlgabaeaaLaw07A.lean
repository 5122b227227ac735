/- Layer 7: awake; the first metrics. -/
import Derived.Test.YtpfgcadlgabaeaaHmtxB
import Derived.Test.YtpfgcadlgabaeaaRefA
namespace Go.Proofs.Ytpfgcadlgabaeaa
open Go Go.RowKit
set_option linter.unusedVariables false
set_option linter.unusedSimpArgs false
set_option maxRecDepth 100000

theorem mets55 : Mets [(5, 1), (5, 2)] := ⟨fun i hi => by
  have : i = 0 ∨ i = 1 := by simp at hi; omega
  rcases this with rfl | rfl <;> decide, fun i hi => by
  have : i = 0 ∨ i = 1 := by simp at hi; omega
  rcases this with rfl | rfl <;> decide⟩
theorem awake_calls (w : World) : Calls Try.prog 8 #[] w (Ret fun r w' => r = .bool true ∧ Below w.heap.size w w') := by
  have M0 := hid ((Own.start w).alloc 31 #[.int .u16 5, .int .i16 1, .int .u16 5, .int .i16 2])
  have hY := hid (build_calls _ (ms := [(5, 1), (5, 2)]) (SliceAt.built M0.out (.head _) 2 2 rfl (by unfold maxLen; omega)) mets55 (by simp))
  rw [show lonN [(5, 1), (5, 2)] ([(5, 1), (5, 2)] : List (Int × Int)).length = 1 by decide, show hmK [(5, 1), (5, 2)] 1 ([(5, 1), (5, 2)] : List (Int × Int)).length = [0, 5, 0, 1, 0, 2] by decide, show ([0, 5, 0, 1, 0, 2] : List Int).length = 6 from rfl] at hY
  go_enter Try.func8, Try.ntmps8
  go_wp2_with (first
    | (go_at_call 17; refine hY.out.mono ?_; rintro _ w1 ⟨_, rfl, v, rfl, M⟩; obtain ⟨A, c, rfl⟩ := M.form (.head _); (have M1 := hid (M0.out.lift M)); clear M)
    | (go_at_call 14; (have M2 := M1.out.alloc 5 #[.int .u8 0, .int .u8 5, .int .u8 0, .int .u8 1, .int .u8 0, .int .u8 2]); (refine (same_calls _ (xs := [0, 5, 0, 1, 0, 2]) (ys := [0, 5, 0, 1, 0, 2]) (M2.slice (e := 5) (v := .slice A 6 c) (n := 6) (xs := ints .u8 [0, 5, 0, 1, 0, 2]) (.tail _ (.head _))) (SliceAt.built M2 (.head _) 1 6 rfl (by unfold maxLen; omega))).mono ?_); rw [decide_eq_true rfl]; rintro _ w2 ⟨_, rfl, rfl, hb⟩; (have M3 := hid (M2.keep hb)); clear hb M2))
  go_ret
  exact .mk ⟨rfl, M3.out.below⟩
/-- The cells as the document has them. -/
def rmC (ms : List (Int × Int)) : List Value := ms.flatMap fun m => [.int .i64 m.1, .int .i64 m.2]
theorem rmC_snoc {l : List (Int × Int)} {k : Nat} (hk : k < l.length) : rmC (l.take (k + 1)) = rmC (l.take k) ++ [.int .i64 (adv l k), .int .i64 (lft l k)] := by
  unfold rmC adv lft
  rw [List.take_succ_eq_append_getElem hk, List.flatMap_append]
  simp [List.getD, hk]
theorem sized_metric : Sized Try.prog 22 31 2 4 := .mk' Try.underlying22 (.agg #[.int .u16 0, .int .i16 0]) (by kernel_rfl)
theorem sized_rmetric : Sized Try.prog 24 58 2 16 := .mk' Try.underlying24 (.agg #[.int .i64 0, .int .i64 0]) (by kernel_rfl)
theorem SliceAt.pre2 {w : World} {B : Nat} {A : Option Addr} {c n k : Nat} {xs : List Value} (h : SliceAt w B 2 (.slice A n c) n xs) (hk : k ≤ n) : SliceAt w B 2 (.slice A k c) k (xs.take (k * 2)) := by
  obtain ⟨A', c', he, hnc, hcm, hA, hr⟩ := h
  injection he with he1 he2 he3
  subst he1; subst he3
  have hx := hr.1
  have hl : (xs.take (k * 2)).length = k * 2 := by rw [List.length_take]; omega
  refine ⟨A, c, rfl, by omega, hcm, hA, hl, fun hn => ?_⟩
  obtain ⟨ad, rfl, hb, hc⟩ := hr.2 (by omega)
  refine ⟨ad, rfl, hb, fun j u hu => hc j u ?_⟩
  rw [List.getElem?_take] at hu
  split at hu
  · exact hu
  · cases hu
theorem mets_take {ms : List (Int × Int)} (h : Mets ms) (k : Nat) : Mets (ms.take k) := by
  have e : ∀ i, i < (ms.take k).length → (ms.take k).getD i (0, 0) = ms.getD i (0, 0) := fun i hi => by
    rw [List.length_take] at hi
    simp [List.getD, List.getElem?_take, show i < k by omega]
  exact ⟨fun i hi => by unfold adv; rw [e i hi]; rw [List.length_take] at hi; exact h.adv i (by omega), fun i hi => by unfold lft; rw [e i hi]; rw [List.length_take] at hi; exact h.lft i (by omega)⟩

set_option maxHeartbeats 4000000 in
theorem few_calls (w : World) {V : Value} {ms : List (Int × Int)} (h1 : SliceAt w w.heap.size 2 V ms.length (mtC ms)) (hM : Mets ms) :
    Calls Try.prog 9 #[V] w (Ret fun r w' => ∃ v x, r = .tuple #[v, x] ∧ Own w w' [.row 31 2 v (ms.take 60).length (mtC (ms.take 60)), .row 58 2 x (ms.take 60).length (rmC (ms.take 60))]) := by
  have h0H := hid h1
  obtain ⟨A1, c1, rfl, hc1, hm1, -⟩ := h1
  unfold maxLen at hm1
  obtain ⟨n, hn, hn60⟩ : ∃ n, min ms.length 60 = n ∧ n ≤ 60 := ⟨_, rfl, by omega⟩
  have hnl : n ≤ ms.length := by omega
  have e60 : ms.take 60 = ms.take n := by rw [← hn]; exact (List.take_eq_take_iff.2 (by omega))
  have hll : (ms.take n).length = n := by rw [List.length_take]; omega
  have hpre := hid (fun w1 (h : Below w.heap.size w w1) => show SliceAt w1 w1.heap.size 2 (.slice A1 n c1) n (mtC (ms.take n)) by
    have := SliceAt.pre2 (h0H.out.below h) hnl
    rwa [← mtC_take] at this)
  have hMets := hid (mets_take hM n)
  rw [e60, hll]
  clear hM h0H e60
  generalize ms.take n = l at *
  have hget := hid (fun k (hk : k < n) => mtC_get l k (hll ▸ hk))
  have hll' := hid hll
  have hcase : (ms.length ≤ 60 ∧ n = ms.length) ∨ (¬ ms.length ≤ 60 ∧ n = 60) := by omega
  clear hn hn60 hll
  · rcases hcase with ⟨h60, rfl⟩ | ⟨h60, rfl⟩
    · have hN60 := hid (show ms.length ≤ 60 by omega)
      go_enter Try.func9, Try.ntmps9
      go_wp2_with (at_builtin; refine wpList_append_Own rfl (.tmp 7) (.tmp 12) _ rfl sized_metric rfl rfl (L1 := []) (L2 := []) (((Own.start w).alloc 31 #[]).as_row (L1 := []) 2 0 rfl (by unfold maxLen; omega)) (hpre.out _ ((Own.start w).alloc 31 #[]).below) (mtC_one l) (by unfold maxLen; omega) (by omega) ?_; intro v' w' M'; simp only [Nat.zero_add, List.nil_append, List.append_eq] at M'; obtain ⟨A2, c2, rfl⟩ := M'.form (.head _); (have M2 := hid M'); clear M' hpre h60)
      go_loopw [4, 16] (fun o i wr => ∃ (k : Nat) (A : Option Addr) (c : Nat), k ≤ ms.length ∧ i = .int .i64 k ∧ o = .slice A k c ∧ Hid (Own w wr [.row 58 2 (.slice A k c) k (rmC (l.take k)), .row 31 2 (.slice A2 ms.length c2) ms.length (mtC l)])) (fun _ i _ => ms.length - (intOf i).toNat)
      case atStart => exact ⟨0, none, 0, Nat.zero_le _, rfl, rfl, hid (by simpa [rmC] using M2.out.nil_row 58 2)⟩
      case round =>
        clear M2
        obtain ⟨k, A, c, hk, rfl, rfl, MH⟩ := hrel
        by_cases hlt : k < ms.length
        · obtain ⟨A9, c9, he, hc9, hm9, -, hr9⟩ := MH.out.slice (e := 31) (sz := 2) (v := .slice A2 ms.length c2) (n := ms.length) (xs := mtC l) (by simp)
          injection he with he1 he2 he3
          subst he1 he3
          obtain ⟨a1, rfl, k1⟩ := hr9.cell (hget.out k hlt).1
          obtain ⟨a1', he, k2⟩ := hr9.cell_at (m := k * 2) (j := 1) (by omega) (hget.out k hlt).2
          injection he with he
          subst he
          clear he2 hr9
          unfold maxLen at hm9
          obtain ⟨x0, x1⟩ := hMets.out.adv k (by rw [hll'.out]; exact hlt)
          obtain ⟨y0, y1⟩ := hMets.out.lft k (by rw [hll'.out]; exact hlt)
          have hsn := hid (rmC_snoc (l := l) (k := k) (by rw [hll'.out]; exact hlt))
          generalize adv l k = x at *
          generalize lft l k = y at *
          go_wp2_with (first
            | ((with_reducible refine gate (N := 6) rfl ?_); refine wpList_box_Own rfl (cs := #[.int .u16 0, .int .i16 0]) (t := 31) (by first | (go_simp; done) | (go_simp; rfl)) MH.out ?_; intro r w4 M; (have M4 := hid M); clear M k1 k2)
            | ((with_reducible refine gateSt (t := 31) (p := 6) rfl ?_); refine wpList_store_all (n := 2) (L1 := []) (mid := [.int .u16 0, .int .i16 0]) (vs := [.int .u16 x, .int .i16 y]) rfl rfl (by kernel_rfl) rfl rfl rfl rfl rfl (by intro u hu; simp at hu; rcases hu with rfl | rfl <;> rfl) M4.out ?_; intro w5 M; (obtain ⟨c0, c1, f0⟩ := mt_cells (r := r) (x := x) (y := y) M (by simp)); (have M5 := hid M); clear M M4)
            | (at_builtin; refine wpList_append_Own rfl (.tmp 20) (.tmp 28) _ rfl sized_rmetric rfl rfl (L1 := [.blk w5.heap.size 58 #[.int .i64 x, .int .i64 y], .blk r 31 #[.int .u16 x, .int .i16 y]]) (L2 := [.row 31 2 (.slice (some a1) ms.length c2) ms.length (mtC l)]) (M5.out.alloc _ _) (SliceAt.built (M5.out.alloc _ _) (.head _) 2 1 rfl (by unfold maxLen; omega)) (by intro u hu; simp at hu; rcases hu with rfl | rfl <;> rfl) (by have := hN60.out; unfold maxLen; omega) (by have := hN60.out; omega) ?_; intro v' w' M'; obtain ⟨A7, c7, rfl⟩ := M'.form (.tail _ (.tail _ (.head _))); (have M7 := hid M'.tail.tail); clear M' M5 c0 c1 f0))
          go_roundw
          case rel => exact ⟨k + 1, A7, c7, by omega, by go_num, rfl, by rw [hsn.out]; exact M7⟩
          case measure => simp [intOf] <;> omega
        · obtain rfl : k = ms.length := by omega
          go_wp2
          go_ret2
          exact .mk ⟨_, _, rfl, by have := MH.out.swap; rwa [List.take_of_length_le (by rw [hll'.out]; omega)] at this⟩
    · have hN60 := hid (show 60 ≤ 60 by omega)
      have h60b : (60 : Int) < ms.length := by omega
      have h60c : ¬ ((ms.length : Int) < 60) := by omega
      have h60d : ¬ ((ms.length : Int) ≤ 60) := by omega
      have h60e : (60 : Int) ≤ ms.length := by omega
      have h60f : min (ms.length : Int) 60 = 60 := by omega
      have h60g : min ms.length 60 = 60 := by omega
      go_enter Try.func9, Try.ntmps9
      go_wp2_with (at_builtin; refine wpList_append_Own rfl (.tmp 7) (.tmp 12) _ rfl sized_metric rfl rfl (L1 := []) (L2 := []) (((Own.start w).alloc 31 #[]).as_row (L1 := []) 2 0 rfl (by unfold maxLen; omega)) (hpre.out _ ((Own.start w).alloc 31 #[]).below) (mtC_one l) (by unfold maxLen; omega) (by omega) ?_; intro v' w' M'; simp only [Nat.zero_add, List.nil_append, List.append_eq] at M'; obtain ⟨A2, c2, rfl⟩ := M'.form (.head _); (have M2 := hid M'); clear M' hpre h60)
      go_loopw [4, 16] (fun o i wr => ∃ (k : Nat) (A : Option Addr) (c : Nat), k ≤ 60 ∧ i = .int .i64 k ∧ o = .slice A k c ∧ Hid (Own w wr [.row 58 2 (.slice A k c) k (rmC (l.take k)), .row 31 2 (.slice A2 60 c2) 60 (mtC l)])) (fun _ i _ => 60 - (intOf i).toNat)
      case atStart => exact ⟨0, none, 0, Nat.zero_le _, rfl, rfl, hid (by simpa [rmC] using M2.out.nil_row 58 2)⟩
      case round =>
        clear M2
        obtain ⟨k, A, c, hk, rfl, rfl, MH⟩ := hrel
        by_cases hlt : k < 60
        · obtain ⟨A9, c9, he, hc9, hm9, -, hr9⟩ := MH.out.slice (e := 31) (sz := 2) (v := .slice A2 60 c2) (n := 60) (xs := mtC l) (by simp)
          injection he with he1 he2 he3
          subst he1 he3
          obtain ⟨a1, rfl, k1⟩ := hr9.cell (hget.out k hlt).1
          obtain ⟨a1', he, k2⟩ := hr9.cell_at (m := k * 2) (j := 1) (by omega) (hget.out k hlt).2
          injection he with he
          subst he
          clear he2 hr9
          unfold maxLen at hm9
          obtain ⟨x0, x1⟩ := hMets.out.adv k (by rw [hll'.out]; exact hlt)
          obtain ⟨y0, y1⟩ := hMets.out.lft k (by rw [hll'.out]; exact hlt)
          have hsn := hid (rmC_snoc (l := l) (k := k) (by rw [hll'.out]; exact hlt))
          generalize adv l k = x at *
          generalize lft l k = y at *
          go_wp2_with (first
            | ((with_reducible refine gate (N := 6) rfl ?_); refine wpList_box_Own rfl (cs := #[.int .u16 0, .int .i16 0]) (t := 31) (by first | (go_simp; done) | (go_simp; rfl)) MH.out ?_; intro r w4 M; (have M4 := hid M); clear M k1 k2)
            | ((with_reducible refine gateSt (t := 31) (p := 6) rfl ?_); refine wpList_store_all (n := 2) (L1 := []) (mid := [.int .u16 0, .int .i16 0]) (vs := [.int .u16 x, .int .i16 y]) rfl rfl (by kernel_rfl) rfl rfl rfl rfl rfl (by intro u hu; simp at hu; rcases hu with rfl | rfl <;> rfl) M4.out ?_; intro w5 M; (obtain ⟨c0, c1, f0⟩ := mt_cells (r := r) (x := x) (y := y) M (by simp)); (have M5 := hid M); clear M M4)
            | (at_builtin; refine wpList_append_Own rfl (.tmp 20) (.tmp 28) _ rfl sized_rmetric rfl rfl (L1 := [.blk w5.heap.size 58 #[.int .i64 x, .int .i64 y], .blk r 31 #[.int .u16 x, .int .i16 y]]) (L2 := [.row 31 2 (.slice (some a1) 60 c2) 60 (mtC l)]) (M5.out.alloc _ _) (SliceAt.built (M5.out.alloc _ _) (.head _) 2 1 rfl (by unfold maxLen; omega)) (by intro u hu; simp at hu; rcases hu with rfl | rfl <;> rfl) (by have := hN60.out; unfold maxLen; omega) (by have := hN60.out; omega) ?_; intro v' w' M'; obtain ⟨A7, c7, rfl⟩ := M'.form (.tail _ (.tail _ (.head _))); (have M7 := hid M'.tail.tail); clear M' M5 c0 c1 f0))
          go_roundw
          case rel => exact ⟨k + 1, A7, c7, by omega, by go_num, rfl, by rw [hsn.out]; exact M7⟩
          case measure => simp [intOf] <;> omega
        · obtain rfl : k = 60 := by omega
          go_wp2
          go_ret2
          exact .mk ⟨_, _, rfl, by have := MH.out.swap; rwa [List.take_of_length_le (by rw [hll'.out]; omega)] at this⟩
end Go.Proofs.Ytpfgcadlgabaeaa
