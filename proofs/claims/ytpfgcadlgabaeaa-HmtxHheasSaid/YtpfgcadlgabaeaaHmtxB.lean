/- Package hmtx: the table. -/
import Derived.Test.YtpfgcadlgabaeaaHmtxA
namespace Go.Proofs.Ytpfgcadlgabaeaa
open Go Go.RowKit
set_option linter.unusedVariables false
set_option linter.unusedSimpArgs false
set_option maxRecDepth 100000

structure Mets (ms : List (Int × Int)) : Prop where
  adv : ∀ i, i < ms.length → 0 ≤ adv ms i ∧ adv ms i < 65536
  lft : ∀ i, i < ms.length → -32768 ≤ lft ms i ∧ lft ms i < 32768
/-- The bytes of one; of the first ones. -/
def hmE (ms : List (Int × Int)) (lon i : Nat) : List Int := (if i < lon then b2 (adv ms i) else []) ++ b2 (lft ms i % 65536)
def hmK (ms : List (Int × Int)) (lon k : Nat) : List Int := (List.range k).flatMap (hmE ms lon)
theorem hmK_succ (ms : List (Int × Int)) (lon k : Nat) : hmK ms lon (k + 1) = hmK ms lon k ++ hmE ms lon k := by simp [hmK, List.range_succ]
theorem hmE_length (ms : List (Int × Int)) (lon i : Nat) : (hmE ms lon i).length = if i < lon then 4 else 2 := by
  unfold hmE; split <;> simp [b2_length]
theorem hmK_length (ms : List (Int × Int)) {lon : Nat} : ∀ k, (hmK ms lon k).length = 2 * min k lon + 2 * k
  | 0 => by simp [hmK]
  | k + 1 => by
    rw [hmK_succ, List.length_append, hmK_length ms k, hmE_length]
    split <;> omega
theorem agg_metric : AggOf Try.prog 31 2 := .mk' Try.underlying31 rfl (by kernel_rfl)

theorem mt_cells {W0 w : World} {L : List Ent} {r : Nat} {x y : Int} (M : Own W0 w L) (h : .blk r 31 #[.int .u16 x, .int .i16 y] ∈ L) : w.cell? ⟨r, 0, none⟩ = some (.int .u16 x) ∧ w.cell? ⟨r, 1, none⟩ = some (.int .i16 y) ∧ w.frozen? ⟨r, 0, none⟩ = false := ⟨M.cell h 0, M.cell h 1, M.free h 0⟩

set_option maxHeartbeats 4000000 in
theorem build_calls (w : World) {V : Value} {ms : List (Int × Int)} (h1 : SliceAt w w.heap.size 2 V ms.length (mtC ms)) (hM : Mets ms) (hn : ms.length ≤ 65535) :
    Calls Try.prog 17 #[V] w (Ret fun r w' => ∃ v, r = .tuple #[v, .int .u16 (lonN ms ms.length : Nat)] ∧ Own w w' [.row 5 1 v (hmK ms (lonN ms ms.length) ms.length).length (ints .u8 (hmK ms (lonN ms ms.length) ms.length))]) := by
  have M0 := hid (Own.start w)
  have hL := hid (long_calls w h1 hn)
  have hll := hid (lonN_le ms ms.length)
  have hMH := hid hM
  have hget := hid (mtC_get ms)
  obtain ⟨A1, c1, rfl, hc1, hm1, hA1, hr1⟩ := h1
  unfold maxLen at hm1
  have hr1H := hid hr1
  clear hr1 hA1 hM
  generalize hlo : lonN ms ms.length = lo at *
  clear hlo
  generalize hN : ms.length = N at *
  replace hN := hid hN
  have hnl : ¬ ((N : Int) > 65535) := by omega
  go_enter Try.func17, Try.ntmps17
  go_wp2_with (first
    | (go_at_call 10; refine hL.out.mono ?_; rintro _ w1 ⟨_, rfl, rfl, hb⟩; (have M1 := hid (M0.out.keep hb)); clear hb)
    | ((with_reducible refine gate (N := 5) rfl ?_); refine wpList_box_Own rfl (cs := #[.slice none 0 0]) (t := 63) (by first | (go_simp; done) | (go_simp; rfl)) M1.out ?_; intro b w3 M; (have M3 := hid M.mk_writer); clear M))
  go_loopw [15] (fun i wr => ∃ (k : Nat) (v : Value), k ≤ N ∧ i = .int .i64 k ∧ Hid (Own w wr ([] ++ (wrE b v (hmK ms lo k) ++ [])))) (fun i _ => N - (intOf i).toNat)
  case atStart => exact ⟨0, _, Nat.zero_le _, rfl, M3⟩
  case round =>
    clear M3 M1
    obtain ⟨k, v, hk, rfl, MH⟩ := hrel
    by_cases hlt : k < N
    · obtain ⟨a1, rfl, k1⟩ := (hr1H.out.keep (w' := wr) fun k hk _ => MH.out.below.block k hk).cell (hget.out k hlt).1
      obtain ⟨a1', he, k2⟩ := (hr1H.out.keep (w' := wr) fun k hk _ => MH.out.below.block k hk).cell_at (m := k * 2) (j := 1) (by omega) (hget.out k hlt).2
      injection he with he
      subst he
      obtain ⟨x0, x1⟩ := hMH.out.adv k (by rw [hN.out]; exact hlt)
      obtain ⟨y0, y1⟩ := hMH.out.lft k (by rw [hN.out]; exact hlt)
      have hks := hid (hmK_succ ms lo k)
      have hkl := hid (show (hmK ms lo k).length ≤ 300000 by rw [hmK_length]; omega)
      have hE := hid (show hmE ms lo k = (if k < lo then b2 (adv ms k) else []) ++ b2 (lft ms k % 65536) from rfl)
      generalize adv ms k = x at *
      generalize lft ms k = y at *
      have hlo5 : lo ≤ 65535 := by have := hll.out; omega
      by_cases hkl' : k < lo
      · rw [if_pos hkl'] at hE
        have hkI : (k : Int) < (lo : Int) := by omega
        go_wp2_with (first
          | ((with_reducible refine gate (N := 7) rfl ?_); refine wpList_box_Own rfl (cs := #[.int .u16 0, .int .i16 0]) (t := 31) (by first | (go_simp; done) | (go_simp; rfl)) MH.out ?_; intro r w4 M; (have M4 := hid M); clear M k1 k2)
          | ((with_reducible refine gateSt (t := 31) (p := 7) rfl ?_); refine wpList_store_all (n := 2) (L1 := []) (mid := [.int .u16 0, .int .i16 0]) (vs := [.int .u16 x, .int .i16 y]) rfl rfl (by kernel_rfl) rfl rfl rfl rfl rfl (by intro u hu; simp at hu; rcases hu with rfl | rfl <;> rfl) M4.out ?_; intro w5 M; (obtain ⟨c0, c1, f0⟩ := mt_cells (r := r) (x := x) (y := y) M (by simp)); (have M5 := hid M); clear M M4)
          | (go_at_call 25; refine (wr_U16 (L1 := [.blk r 31 #[.int .u16 x, .int .i16 y]]) x0 x1 (by have := hkl.out; omega) M5.out).mono ?_; rintro _ w6 ⟨_, rfl, rfl, v6, M⟩; (obtain ⟨c0, c1, f0⟩ := mt_cells (r := r) (x := x) (y := y) M (by simp)); (have M6 := hid M); clear M M5)
          | (go_at_call 30; refine (wr_I16 (L1 := [.blk r 31 #[.int .u16 x, .int .i16 y]]) y0 y1 (by have := hkl.out; simp only [List.length_append, b2_length]; omega) M6.out).mono ?_; rintro _ w7 ⟨_, rfl, rfl, v7, M⟩; (have M7 := hid M.tail); clear M M6 c0 c1 f0))
        go_roundw
        case rel => exact ⟨k + 1, v7, by omega, by go_num, by (have e := hks.out; rw [hE.out, ← List.append_assoc] at e; rw [e]; exact M7)⟩
        case measure => simp [intOf] <;> omega
      · rw [if_neg hkl'] at hE
        have hkI : ¬ (k : Int) < (lo : Int) := by omega
        go_wp2_with (first
          | ((with_reducible refine gate (N := 7) rfl ?_); refine wpList_box_Own rfl (cs := #[.int .u16 0, .int .i16 0]) (t := 31) (by first | (go_simp; done) | (go_simp; rfl)) MH.out ?_; intro r w4 M; (have M4 := hid M); clear M k1 k2)
          | ((with_reducible refine gateSt (t := 31) (p := 7) rfl ?_); refine wpList_store_all (n := 2) (L1 := []) (mid := [.int .u16 0, .int .i16 0]) (vs := [.int .u16 x, .int .i16 y]) rfl rfl (by kernel_rfl) rfl rfl rfl rfl rfl (by intro u hu; simp at hu; rcases hu with rfl | rfl <;> rfl) M4.out ?_; intro w5 M; (obtain ⟨c0, c1, f0⟩ := mt_cells (r := r) (x := x) (y := y) M (by simp)); (have M5 := hid M); clear M M4)
          | (go_at_call 30; refine (wr_I16 (L1 := [.blk r 31 #[.int .u16 x, .int .i16 y]]) y0 y1 (by have := hkl.out; omega) M5.out).mono ?_; rintro _ w7 ⟨_, rfl, rfl, v7, M⟩; (have M7 := hid M.tail); clear M M5 c0 c1 f0))
        go_roundw
        case rel => exact ⟨k + 1, v7, by omega, by go_num, by (have e := hks.out; rw [hE.out, List.nil_append] at e; rw [e]; exact M7)⟩
        case measure => simp [intOf] <;> omega
    · obtain rfl : k = N := by omega
      have hq := hid (show (hmK ms lo k).length ≤ 300000 by rw [hmK_length]; omega)
      obtain ⟨q, hqe⟩ : ∃ q, hmK ms lo k = q := ⟨_, rfl⟩
      rw [hqe] at MH hq
      replace hqe := hid hqe
      go_wp2_with (go_at_call 26; refine (wr_Done (by have := hq.out; omega) MH.out).mono ?_; rintro _ w10 ⟨vD, rfl, M⟩; have M10 := hid M.head1; clear M)
      go_ret2
      exact .mk ⟨vD, rfl, by rw [hqe.out]; exact M10.out⟩
end Go.Proofs.Ytpfgcadlgabaeaa
