/- Layer 7: HmtxTrails. -/
import Derived.Test.YtpfgcadlgabaeaaHmtxG
namespace Go.Proofs.Ytpfgcadlgabaeaa
open Go Go.RowKit
set_option linter.unusedVariables false
set_option linter.unusedSimpArgs false
set_option maxRecDepth 10000

/-- What is added: so many of one advance. -/
def trl (x : Int) (zs : List Int) (k : Nat) : List (Int × Int) := ((zs.take k).take 20).map fun z => (x, z)
theorem trl_length (x : Int) (zs : List Int) {k : Nat} (hk : k ≤ zs.length) : (trl x zs k).length = min k 20 := by simp [trl]; omega
theorem trl_succ (x : Int) {zs : List Int} {k : Nat} (h : k < zs.length) (h2 : k < 20) : trl x zs (k + 1) = trl x zs k ++ [(x, zs.getD k 0)] := by
  unfold trl; rw [take_take_succ h h2, List.map_append]; rfl
theorem trl_same (x : Int) (zs : List Int) {k : Nat} (h2 : ¬ k < 20) : trl x zs (k + 1) = trl x zs k := by
  unfold trl; rw [List.take_take, List.take_take, Nat.min_eq_left (by omega), Nat.min_eq_left (by omega)]
theorem adv_app (a b : List (Int × Int)) {i : Nat} (h : i < a.length) : adv (a ++ b) i = adv a i ∧ lft (a ++ b) i = lft a i := by
  simp [adv, lft, List.getD, List.getElem?_append_left h]
theorem adv_trl (a : List (Int × Int)) (x : Int) (zs : List Int) (k : Nat) {i : Nat} (h : a.length ≤ i) (h2 : i < a.length + (trl x zs k).length) : adv (a ++ trl x zs k) i = x ∧ lft (a ++ trl x zs k) i ∈ zs := by
  have hi : i - a.length < (trl x zs k).length := by omega
  simp only [adv, lft, List.getD, List.getElem?_append_right h, List.getElem?_eq_getElem hi, Option.getD_some]
  simp only [trl, List.getElem_map]
  exact ⟨trivial, List.mem_of_mem_take (List.mem_of_mem_take (List.getElem_mem _))⟩

set_option maxHeartbeats 4000000 in
theorem hmtxTrails_calls (w : World) {V V2 : Value} {ms : List (Int × Int)} {zs : List Int} (h1 : SliceAt w w.heap.size 2 V ms.length (mtC ms)) (hM : Mets ms) (h2 : SliceAt w w.heap.size 1 V2 zs.length (ints .i16 zs)) (hz : ∀ z ∈ zs, -32768 ≤ z ∧ z < 32768) :
    Calls Try.prog 7 #[V, V2] w (Ret fun r w' => r = .bool true ∧ Below w.heap.size w w') := by
  have M0 := hid (Own.start w)
  have hF := hid (fun w1 (h : Below w.heap.size w w1) => few_calls w1 (h1.below h) hM)
  have hMets := mets_take hM 60
  have hl60 : (ms.take 60).length ≤ 60 := by rw [List.length_take]; omega
  obtain ⟨A1, c1, rfl, -⟩ := h1
  obtain ⟨A2, c2, rfl, hc2, hm2, -, hr2⟩ := h2
  unfold maxLen at hm2
  clear hM
  generalize ms.take 60 = l at *
  obtain ⟨N, hN⟩ : ∃ N, l.length = N := ⟨_, rfl⟩
  rw [hN] at hF hl60
  have hBu := hid (fun w V (h : SliceAt w w.heap.size 2 V N (mtC l)) => show Calls Try.prog 17 #[V] w (Ret fun r w' => ∃ v, r = .tuple #[v, .int .u16 (lonN l N : Nat)] ∧ Own w w' [.row 5 1 v (hmK l (lonN l N) N).length (ints .u8 (hmK l (lonN l N) N))]) from by
    have := build_calls w (ms := l) (by rw [hN]; exact h) hMets (by omega)
    rwa [hN] at this)
  by_cases h0 : N = 0
  · have e0 : ((N : Int) == 0) = true := by rw [beq_iff_eq]; omega
    clear h0 hr2 hz hMets hN
    go_enter Try.func7, Try.ntmps7
    go_wp2_with (first
      | (go_at_call 8; refine (awake_calls _).mono ?_; rintro _ w2 ⟨_, rfl, rfl, hb⟩; (have M2 := hid (M0.out.keep hb)); clear hb)
      | (go_at_call 9; refine (hF.out _ M2.out.below).mono ?_; rintro _ w3 ⟨_, rfl, v3, x3, rfl, M⟩; obtain ⟨A3, c3, rfl⟩ := M.form (.head _); obtain ⟨A4, c4, rfl⟩ := M.form (.tail _ (.head _)); (have M3 := hid (M2.out.lift M)); clear M))
    go_ret
    exact .mk ⟨rfl, M3.out.below⟩
  · have e0 : ((N : Int) == 0) = false := by rw [beq_eq_false_iff_ne]; omega
    -- the whole list
    obtain ⟨m, hm⟩ : ∃ m, zs.length = m := ⟨_, rfl⟩
    rw [hm] at hr2 hc2
    rw [hm]
    obtain ⟨x, hx⟩ : ∃ x, adv l (N - 1) = x := ⟨_, rfl⟩
    have hall := hid (show ∀ L2 N2, L2 = l ++ trl x zs m → N2 = N + min m 20 → lonN L2 N2 = lonN l N ∧ Mets L2 ∧ L2.length = N2 ∧ N2 ≤ 80 from by
      rintro L2 N2 rfl rfl
      have ht := trl_length x zs (k := m) (by omega)
      refine ⟨?_, ⟨fun i hi => ?_, fun i hi => ?_⟩, by rw [List.length_append, ht, hN], by omega⟩
      · rw [lonN_trail _ N (by omega) (min m 20) fun i a b => ?_]
        · exact lonN_congr _ _ N fun i hi => (adv_app _ _ (by omega)).1
        · rw [(adv_trl l x zs m (by omega) (by omega)).1, (adv_app _ _ (by omega)).1, hx]
      · rw [List.length_append] at hi
        by_cases h : i < l.length
        · rw [(adv_app _ _ h).1]; exact hMets.adv i h
        · rw [(adv_trl l x zs m (by omega) hi).1, ← hx]; exact hMets.adv (N - 1) (by omega)
      · rw [List.length_append] at hi
        by_cases h : i < l.length
        · rw [(adv_app _ _ h).2]; exact hMets.lft i h
        · exact hz _ (adv_trl l x zs m (by omega) hi).2)
    have hll := lonN_le l N
    have hl1 := (lon_same l (N := N) (by omega)).1
    have hBu2 := hid (fun w V L2 N2 (e1 : L2 = l ++ trl x zs m) (e2 : N2 = N + min m 20) (h : SliceAt w w.heap.size 2 V N2 (mtC L2)) => show Calls Try.prog 17 #[V] w (Ret fun r w' => ∃ v, r = .tuple #[v, .int .u16 (lonN l N : Nat)] ∧ Own w w' [.row 5 1 v (2 * lonN l N + 2 * N2) (ints .u8 (hmK L2 (lonN l N) N2))]) from by
      obtain ⟨a1, a2, a3, a4⟩ := hall.out L2 N2 e1 e2
      have := build_calls w (ms := L2) (by rw [a3]; exact h) a2 (by omega)
      rwa [a3, a1, hmK_length, show min N2 (lonN l N) = lonN l N by omega] at this)
    have hP := hid (fun w V L2 N2 (e1 : L2 = l ++ trl x zs m) (e2 : N2 = N + min m 20) (h : SliceAt w w.heap.size 1 V (2 * lonN l N + 2 * N2) (ints .u8 (hmK L2 (lonN l N) N2))) => show Calls Try.prog 20 #[V, .int .u16 (lonN l N : Nat), .int .u16 N2] w (Ret fun r w' => ∃ v, r = .tuple #[v, .int .i64 0] ∧ Own w w' [.row 31 2 v N2 (mtC L2)]) from by
      obtain ⟨a1, a2, a3, a4⟩ := hall.out L2 N2 e1 e2
      have hlen := hmK_length L2 (lon := lonN l N) N2
      rw [show min N2 (lonN l N) = lonN l N by omega] at hlen
      have hs := lon_same L2 (N := N2) (by omega)
      rw [a1] at hs
      have := hmParse_yes w (V := V) (l := hmK L2 (lonN l N) N2) (by rw [BytesAt, hlen]; exact h) (hmK_bytes _ _ _) (by omega) (lo := lonN l N) (g := N2) (by omega) (by omega) (by omega) hlen
      rwa [hm_read a2 a3 (by omega) (by omega) hs.2] at this)
    obtain ⟨p, hp⟩ : ∃ p, N = p + 1 := ⟨N - 1, by omega⟩
    have f1 : (N : Int) - 1 = (p : Int) := by omega
    have f2 : (p : Int) < N := by omega
    have f3 : p < N := by omega
    have hget := hid (show (mtC l)[p * 2]? = some (.int .u16 x) from by
      have := (mtC_get l (N - 1) (by omega)).1
      rwa [hx, show N - 1 = p by omega] at this)
    clear hp
    replace hNH := hid hN
    generalize lonN l N = lo at *
    have hts := hid (fun k => trl_succ x (zs := zs) (k := k))
    have htn := hid (fun k => trl_same x zs (k := k))
    replace hm := hid hm
    clear h0 hz hMets hN hx
    have hr2H := hid hr2
    clear hr2
    go_enter Try.func7, Try.ntmps7
    go_wp2_with (first
      | (go_at_call 8; refine (awake_calls _).mono ?_; rintro _ w2 ⟨_, rfl, rfl, hb⟩; (have M2 := hid (M0.out.keep hb)); clear hb)
      | (go_at_call 9; refine (hF.out _ M2.out.below).mono ?_; rintro _ w3 ⟨_, rfl, v3, x3, rfl, M⟩; obtain ⟨A3, c3, rfl⟩ := M.form (.head _); obtain ⟨A4, c4, rfl⟩ := M.form (.tail _ (.head _)); (have M3 := hid (M2.out.lift M)); clear M)
      | (go_at_call 17; (with_reducible refine (hBu.out _ _ (M3.out.slice (e := 31) (v := .slice A3 N c3) (n := N) (by simp))).mono ?_); rintro _ w4 ⟨_, rfl, v4, rfl, M⟩; obtain ⟨A5, c5, rfl⟩ := M.form (.head _); (have M4 := hid (M3.out.lift M)); clear M)
      | (at_builtin; refine wpList_append_Own rfl (.tmp 29) (.tmp 30) _ rfl sized_metric rfl rfl (L1 := []) (L2 := .row 5 1 (.slice A5 (hmK l lo N).length c5) (hmK l lo N).length (ints .u8 (hmK l lo N)) :: [_, _]) ((M4.out.alloc 31 #[]).as_row (L1 := []) 2 0 rfl (by unfold maxLen; omega)) ((M4.out.alloc 31 #[]).slice (e := 31) (v := .slice A3 N c3) (n := N) (xs := mtC l) (by simp)) (mtC_one l) (by unfold maxLen; omega) (by omega) ?_; intro v' w' M'; (simp only [Nat.zero_add, List.nil_append, List.append_eq] at M'); obtain ⟨A6, c6, rfl⟩ := M'.form (.head _); (have M6 := hid M'); clear M'))
    go_loopw [7, 34] (fun o i wr => ∃ (k n2 : Nat) (A : Option Addr) (c : Nat), k ≤ m ∧ i = .int .i64 k ∧ o = .slice A n2 c ∧ Hid (n2 = N + min k 20) ∧ n2 ≤ 80 ∧ Hid (Own w wr [.row 31 2 (.slice A n2 c) n2 (mtC (l ++ trl x zs k)), .row 31 2 (.slice A3 N c3) N (mtC l)])) (fun _ i _ => m - (intOf i).toNat)
    case atStart => exact ⟨0, N, A6, c6, Nat.zero_le _, rfl, rfl, hid (by simp), by omega, hid (by have := M6.out.sub (L' := [.row 31 2 (.slice A6 N c6) N (mtC l), .row 31 2 (.slice A3 N c3) N (mtC l)]) (by simp); simpa [trl] using this)⟩
    case round =>
      clear M6
      obtain ⟨k, n2, A, c, hk, rfl, rfl, hn2, hn2b, MH⟩ := hrel
      by_cases hlt : k < m
      · by_cases h20 : k < 20
        · obtain ⟨A9, c9, he, hc9, hm9, -, hr9⟩ := MH.out.slice (e := 31) (sz := 2) (v := .slice A3 N c3) (n := N) (xs := mtC l) (by simp)
          injection he with he1 he2 he3
          subst he1 he3
          obtain ⟨a1, rfl, k1⟩ := hr9.cell hget.out
          clear he2 hr9
          unfold maxLen at hm9
          obtain ⟨a2, rfl, k2⟩ := (hr2H.out.keep (w' := wr) fun k hk _ => MH.out.below.block k hk).cell (ints_get .i16 zs k (by rw [hm.out]; exact hlt))
          have hst := hid (hts.out k (by rw [hm.out]; exact hlt) h20)
          have hz0 : (k : Int) < 20 := by omega
          generalize zs.getD k 0 = z at *
          go_wp2_with (at_builtin; refine wpList_append_Own rfl (.tmp 41) (.tmp 51) _ rfl sized_metric rfl rfl (L1 := [.blk wr.heap.size 31 #[.int .u16 x, .int .i16 z]]) (L2 := [.row 31 2 (.slice (some a1) N c3) N (mtC l)]) (MH.out.alloc _ _) (SliceAt.built (MH.out.alloc _ _) (.head _) 2 1 rfl (by unfold maxLen; omega)) (one_all rfl) (by unfold maxLen; omega) (by omega) ?_; intro v' w' M'; obtain ⟨A7, c7, rfl⟩ := M'.tail.form (.head _); (have M7 := hid M'.tail); clear M')
          go_roundw
          case rel => exact ⟨k + 1, n2 + 1, A7, c7, by omega, by go_num, rfl, hid (by have := hn2.out; omega), by have := hn2.out; omega, hid (by rw [hst.out, ← List.append_assoc, mtC_append]; exact M7.out)⟩
          case measure => simp [intOf] <;> omega
        · obtain ⟨a2, rfl, k2⟩ := (hr2H.out.keep (w' := wr) fun k hk _ => MH.out.below.block k hk).cell (ints_get .i16 zs k (by rw [hm.out]; exact hlt))
          have hst := hid (htn.out k h20)
          generalize zs.getD k 0 = z at *
          go_wp2
          go_roundw
          case rel => exact ⟨k + 1, n2, A, c, by omega, by go_num, rfl, hid (by have := hn2.out; omega), hn2b, hid (by rw [hst.out]; exact MH.out)⟩
          case measure => simp [intOf] <;> omega
      · obtain rfl : k = m := by omega
        have hBu3 := hid (fun w V => hBu2.out w V (l ++ trl x zs k) n2 rfl hn2.out)
        have hP3 := hid (fun w V => hP.out w V (l ++ trl x zs k) n2 rfl hn2.out)
        have hlL := hid (hall.out (l ++ trl x zs k) n2 rfl hn2.out).2.2.1
        generalize l ++ trl x zs k = L2 at *
        go_wp2_with (first
          | (go_at_call 17; (with_reducible refine (hBu3.out _ _ (MH.out.slice (e := 31) (v := .slice A n2 c) (n := n2) (by simp))).mono ?_); rintro _ w5 ⟨_, rfl, v5, rfl, M⟩; obtain ⟨A7, c7, rfl⟩ := M.form (.head _); (have M5 := hid (MH.out.lift M)); clear M)
          | (go_at_call 20; (with_reducible refine (hP3.out _ _ (M5.out.slice (e := 5) (v := .slice A7 (2 * lo + 2 * n2) c7) (n := 2 * lo + 2 * n2) (by simp))).mono ?_); rintro _ w6 ⟨_, rfl, v6, rfl, M⟩; obtain ⟨A8, c8, rfl⟩ := M.form (.head _); (have M6 := hid (M5.out.lift M)); clear M)
          | (go_at_call 21; (with_reducible refine (eqMets_calls _ hlL.out (M6.out.slice (e := 31) (v := .slice A8 n2 c8) (n := n2) (xs := mtC L2) (by simp)) (M6.out.slice (e := 31) (v := .slice A n2 c) (n := n2) (xs := mtC L2) (by simp))).mono ?_); rintro _ w12 ⟨_, rfl, rfl, hb⟩; (have M7 := hid (M6.out.keep hb)); clear hb))
        go_ret
        exact .mk ⟨rfl, M7.out.below⟩
end Go.Proofs.Ytpfgcadlgabaeaa
