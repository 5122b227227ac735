/- Layer 8: LocaRefuses. -/
import Derived.Test.YtmboeoobkccpoaaLocaC
import Derived.Test.YtmboeoobkccpoaaLaw08A
namespace Go.Proofs.Ytmboeoobkccpoaa
open Go Go.RowKit
set_option linter.unusedVariables false
set_option linter.unusedSimpArgs false
set_option maxRecDepth 100000

theorem SliceAt.pre {w : World} {B : Nat} {A : Option Addr} {c n k : Nat} {xs : List Value} (h : SliceAt w B 1 (.slice A n c) n xs) (hk : k ≤ n) : SliceAt w B 1 (.slice A k c) k (xs.take k) := by
  obtain ⟨A', c', he, hnc, hcm, hA, hr⟩ := h
  injection he with he1 he2 he3
  subst he1; subst he3
  have hx := hr.1
  have hl : (xs.take k).length = k := by rw [List.length_take]; omega
  refine ⟨A, c, rfl, by omega, hcm, hA, by rw [hl, Nat.mul_one], fun hn => ?_⟩
  obtain ⟨ad, rfl, hb, hc⟩ := hr.2 (by omega)
  refine ⟨ad, rfl, hb, fun j u hu => hc j u ?_⟩
  rw [List.getElem?_take] at hu
  split at hu
  · exact hu
  · cases hu

set_option maxHeartbeats 4000000 in
theorem locaRefuses_calls (w : World) {V : Value} {l0 : List Int} (h0 : SliceAt w w.heap.size 1 V l0.length (ints .i64 l0)) (wl0 : ∀ x ∈ l0, -9223372036854775808 ≤ x ∧ x < 9223372036854775808) :
    Calls Try.prog 3 #[V] w (Ret fun r w' => r = .bool true ∧ Below w.heap.size w w') := by
  have M0 := hid (Own.start w)
  have h0H := hid h0
  obtain ⟨A1, c1, rfl, hc1, hm1, -⟩ := h0
  unfold maxLen at hm1
  obtain ⟨n, hn, hn20⟩ : ∃ n, min l0.length 20 = n ∧ n ≤ 20 := ⟨_, rfl, by omega⟩
  have hnl : n ≤ l0.length := by omega
  have hll : (l0.take n).length = n := by rw [List.length_take]; omega
  have hpre := hid (fun w1 (h : Below w.heap.size w w1) => show SliceAt w1 w1.heap.size 1 (.slice A1 n c1) n (ints .i64 (l0.take n)) by
    have := SliceAt.pre (h0H.out.below h) hnl
    rwa [show (ints .i64 l0).take n = ints .i64 (l0.take n) by simp [ints, List.map_take]] at this)
  have wl := hid (fun x (hx : x ∈ l0.take n) => wl0 x (List.mem_of_mem_take hx))
  clear wl0 h0H
  generalize l0.take n = l at *
  have hl20 : l.length ≤ 20 := by omega
  have hcase : (l0.length ≤ 20 ∧ n = l0.length) ∨ (¬ l0.length ≤ 20 ∧ n = 20) := by omega
  clear hn hn20
  by_cases g : Good l
  · have hY := hid (fun w V (h : SliceAt w w.heap.size 1 V n (ints .i64 l)) => locaBuild_yes w (l := l) (hll ▸ h) g)
    have hR := hid (fun w V (h : SliceAt w w.heap.size 1 V n (ints .i64 l)) => refBuild_calls w (l := l) (hll ▸ h) g)
    have hall := hid (fun k (hk : k < n) => g.all k (hll ▸ hk))
    have hbd := hid (fun k (hk : k ≤ n) => g.bd (k := k) (hll ▸ hk))
    have hsu := hid (fun k (hk : k < n) => psum_succ (l := l) (k := k) (hll ▸ hk))
    have hget := hid (fun k (hk : k < n) => ints_get .i64 l k (hll ▸ hk))
    have hll' := hid hll
    clear g hll
    generalize locB l = q at *
    generalize locL l = lg at *
    rcases hcase with ⟨h20, rfl⟩ | ⟨h20, rfl⟩
    · have hdummy : True := trivial
      go_enter Try.func3, Try.ntmps3
      go_wp2_with (first
        | (go_at_call 8; refine (awake_calls _).mono ?_; rintro _ w1 ⟨_, rfl, rfl, hb⟩; (have M1 := hid (M0.out.keep hb)); clear hb)
        | (at_builtin; refine wpList_append_Own rfl (.tmp 13) (.tmp 18) _ rfl sized_int rfl rfl (L1 := []) (L2 := []) ((M1.out.alloc 3 #[]).as_row (L1 := []) 1 0 rfl (by unfold maxLen; omega)) (hpre.out _ (M1.out.alloc 3 #[]).below) (ints_one .i64 l) (by unfold maxLen; omega) (by omega) ?_; intro v' w' M'; simp only [Nat.zero_add, List.nil_append, List.append_eq] at M'; obtain ⟨A2, c2, rfl⟩ := M'.form (.head _); (have M2 := hid M'); clear M' hpre h20)
        | (go_at_call 9; refine (hY.out _ _ (M2.out.slice (e := 3) (.head _))).mono ?_; rintro _ w3 ⟨_, rfl, v, rfl, M⟩; obtain ⟨A3, c3, rfl⟩ := M.form (.head _); (have M3 := hid (M2.out.lift M)); clear M hY M2))
      go_loopw [5, 6, 27] (fun s o i wr => ∃ k : Nat, k ≤ l0.length ∧ i = .int .i64 k ∧ s = .int .i64 (psum l k) ∧ o = .bool true ∧ Hid (Own w wr [.row 5 1 (.slice A3 q.length c3) q.length (ints .u8 q), .row 3 1 (.slice A2 l0.length c2) l0.length (ints .i64 l)])) (fun _ _ i _ => l0.length - (intOf i).toNat)
      case atStart => exact ⟨0, Nat.zero_le _, rfl, by rw [psum_zero], rfl, M3⟩
      case round =>
        clear M3
        obtain ⟨k, hk, rfl, rfl, rfl, MH⟩ := hrel
        by_cases hlt : k < l0.length
        · obtain ⟨A9, c9, he, hc9, hm9, -, hr9⟩ := MH.out.slice (e := 3) (sz := 1) (v := .slice A2 l0.length c2) (n := l0.length) (xs := ints .i64 l) (by simp)
          injection he with he1 he2 he3
          subst he1 he3
          obtain ⟨a2, rfl, hcell2⟩ := hr9.cell (hget.out k hlt)
          clear he2 hr9
          unfold maxLen at hm9
          have hsx := hsu.out k hlt
          obtain ⟨s0, s1⟩ := hbd.out k hk
          obtain ⟨x0, x1⟩ := hall.out k hlt
          obtain ⟨t, ht⟩ : ∃ t, psum l (k + 1) = t := ⟨_, rfl⟩
          rw [ht] at hsx
          replace ht := hid ht
          generalize l.getD k 0 = x at *
          generalize psum l k = s at *
          replace hsx := hsx.symm
          have y0 : ¬ x < 0 := by omega
          have y1 : ¬ x > 67108864 := by omega
          have y2 : ¬ t > 67108864 := by omega
          have t0 : 0 ≤ t := by omega
          go_wp2
          go_roundw
          case rel => exact ⟨k + 1, by omega, by go_num, by rw [ht.out], rfl, MH⟩
          case measure => simp [intOf]; omega
        · obtain rfl : k = l0.length := by omega
          have hkk : ¬ ((l0.length : Nat) : Int) < (l0.length : Nat) := by omega
          go_wp2_with (first
            | (go_at_call 10; refine (hR.out _ _ (MH.out.slice (e := 3) (v := .slice A2 l0.length c2) (by simp))).mono ?_; rintro _ w4 ⟨_, rfl, v4, rfl, M⟩; obtain ⟨A4, c4, rfl⟩ := M.form (.head _); (have M4 := hid (MH.out.lift M)); clear M hR)
            | (go_at_call 11; (refine (same_calls _ (M4.out.slice (e := 5) (n := q.length) (xs := ints .u8 q) (v := .slice A3 q.length c3) (by simp)) (M4.out.slice (e := 5) (n := q.length) (xs := ints .u8 q) (.head _))).mono ?_); rw [decide_eq_true (rfl : q = q)]; rintro _ w5 ⟨_, rfl, rfl, hb⟩; (have M5 := hid (M4.out.keep hb)); clear hb))
          go_ret
          exact .mk ⟨rfl, M5.out.below⟩
    · have hdummy : True := trivial
      have h20b : (20 : Int) < l0.length := by omega
      have h20c : ¬ ((l0.length : Int) < 20) := by omega
      have h20d : ¬ ((l0.length : Int) ≤ 20) := by omega
      have h20e : (20 : Int) ≤ l0.length := by omega
      have h20f : min (l0.length : Int) 20 = 20 := by omega
      have h20g : min l0.length 20 = 20 := by omega
      go_enter Try.func3, Try.ntmps3
      go_wp2_with (first
        | (go_at_call 8; refine (awake_calls _).mono ?_; rintro _ w1 ⟨_, rfl, rfl, hb⟩; (have M1 := hid (M0.out.keep hb)); clear hb)
        | (at_builtin; refine wpList_append_Own rfl (.tmp 13) (.tmp 18) _ rfl sized_int rfl rfl (L1 := []) (L2 := []) ((M1.out.alloc 3 #[]).as_row (L1 := []) 1 0 rfl (by unfold maxLen; omega)) (hpre.out _ (M1.out.alloc 3 #[]).below) (ints_one .i64 l) (by unfold maxLen; omega) (by omega) ?_; intro v' w' M'; simp only [Nat.zero_add, List.nil_append, List.append_eq] at M'; obtain ⟨A2, c2, rfl⟩ := M'.form (.head _); (have M2 := hid M'); clear M' hpre h20)
        | (go_at_call 9; refine (hY.out _ _ (M2.out.slice (e := 3) (.head _))).mono ?_; rintro _ w3 ⟨_, rfl, v, rfl, M⟩; obtain ⟨A3, c3, rfl⟩ := M.form (.head _); (have M3 := hid (M2.out.lift M)); clear M hY M2))
      go_loopw [5, 6, 27] (fun s o i wr => ∃ k : Nat, k ≤ 20 ∧ i = .int .i64 k ∧ s = .int .i64 (psum l k) ∧ o = .bool true ∧ Hid (Own w wr [.row 5 1 (.slice A3 q.length c3) q.length (ints .u8 q), .row 3 1 (.slice A2 20 c2) 20 (ints .i64 l)])) (fun _ _ i _ => 20 - (intOf i).toNat)
      case atStart => exact ⟨0, Nat.zero_le _, rfl, by rw [psum_zero], rfl, M3⟩
      case round =>
        clear M3
        obtain ⟨k, hk, rfl, rfl, rfl, MH⟩ := hrel
        by_cases hlt : k < 20
        · obtain ⟨A9, c9, he, hc9, hm9, -, hr9⟩ := MH.out.slice (e := 3) (sz := 1) (v := .slice A2 20 c2) (n := 20) (xs := ints .i64 l) (by simp)
          injection he with he1 he2 he3
          subst he1 he3
          obtain ⟨a2, rfl, hcell2⟩ := hr9.cell (hget.out k hlt)
          clear he2 hr9
          unfold maxLen at hm9
          have hsx := hsu.out k hlt
          obtain ⟨s0, s1⟩ := hbd.out k hk
          obtain ⟨x0, x1⟩ := hall.out k hlt
          obtain ⟨t, ht⟩ : ∃ t, psum l (k + 1) = t := ⟨_, rfl⟩
          rw [ht] at hsx
          replace ht := hid ht
          generalize l.getD k 0 = x at *
          generalize psum l k = s at *
          replace hsx := hsx.symm
          have y0 : ¬ x < 0 := by omega
          have y1 : ¬ x > 67108864 := by omega
          have y2 : ¬ t > 67108864 := by omega
          have t0 : 0 ≤ t := by omega
          go_wp2
          go_roundw
          case rel => exact ⟨k + 1, by omega, by go_num, by rw [ht.out], rfl, MH⟩
          case measure => simp [intOf]; omega
        · obtain rfl : k = 20 := by omega
          have hkk : ¬ ((20 : Nat) : Int) < (20 : Nat) := by omega
          go_wp2_with (first
            | (go_at_call 10; refine (hR.out _ _ (MH.out.slice (e := 3) (v := .slice A2 20 c2) (by simp))).mono ?_; rintro _ w4 ⟨_, rfl, v4, rfl, M⟩; obtain ⟨A4, c4, rfl⟩ := M.form (.head _); (have M4 := hid (MH.out.lift M)); clear M hR)
            | (go_at_call 11; (refine (same_calls _ (M4.out.slice (e := 5) (n := q.length) (xs := ints .u8 q) (v := .slice A3 q.length c3) (by simp)) (M4.out.slice (e := 5) (n := q.length) (xs := ints .u8 q) (.head _))).mono ?_); rw [decide_eq_true (rfl : q = q)]; rintro _ w5 ⟨_, rfl, rfl, hb⟩; (have M5 := hid (M4.out.keep hb)); clear hb))
          go_ret
          exact .mk ⟨rfl, M5.out.below⟩
  · have hY := hid (fun w V (h : SliceAt w w.heap.size 1 V n (ints .i64 l)) => locaBuild_no w (l := l) (hll ▸ h) wl.out g)
    have hno := hid (show ¬ (∀ k, k < n → 0 ≤ l.getD k 0 ∧ l.getD k 0 ≤ 67108864 - psum l k) from fun h => g ⟨by omega, fun k hk => h k (hll ▸ hk)⟩)
    have hsu := hid (fun k (hk : k < n) => psum_succ (l := l) (k := k) (hll ▸ hk))
    have hget := hid (fun k (hk : k < n) => ints_get .i64 l k (hll ▸ hk))
    have hll' := hid hll
    clear g hll
    rcases hcase with ⟨h20, rfl⟩ | ⟨h20, rfl⟩
    · have hdummy : True := trivial
      go_enter Try.func3, Try.ntmps3
      go_wp2_with (first
        | (go_at_call 8; refine (awake_calls _).mono ?_; rintro _ w1 ⟨_, rfl, rfl, hb⟩; (have M1 := hid (M0.out.keep hb)); clear hb)
        | (at_builtin; refine wpList_append_Own rfl (.tmp 13) (.tmp 18) _ rfl sized_int rfl rfl (L1 := []) (L2 := []) ((M1.out.alloc 3 #[]).as_row (L1 := []) 1 0 rfl (by unfold maxLen; omega)) (hpre.out _ (M1.out.alloc 3 #[]).below) (ints_one .i64 l) (by unfold maxLen; omega) (by omega) ?_; intro v' w' M'; simp only [Nat.zero_add, List.nil_append, List.append_eq] at M'; obtain ⟨A2, c2, rfl⟩ := M'.form (.head _); (have M2 := hid M'); clear M' hpre h20)
        | (go_at_call 9; refine (hY.out _ _ (M2.out.slice (e := 3) (.head _))).mono ?_; rintro _ w3 ⟨_, rfl, rfl, hb⟩; (have M3 := hid (M2.out.keep hb)); clear hb hY M2))
      go_loopw [5, 6, 27] (fun s o i wr => ∃ k : Nat, k ≤ l0.length ∧ i = .int .i64 k ∧ s = .int .i64 (psum l k) ∧ o = .bool true ∧ Hid (∀ j, j < k → 0 ≤ l.getD j 0 ∧ l.getD j 0 ≤ 67108864 - psum l j) ∧ Hid (Own w wr [.row 3 1 (.slice A2 l0.length c2) l0.length (ints .i64 l)])) (fun _ _ i _ => l0.length - (intOf i).toNat)
      case atStart => exact ⟨0, Nat.zero_le _, rfl, by rw [psum_zero], rfl, hid (fun j hj => by omega), M3⟩
      case round =>
        clear M3
        obtain ⟨k, hk, rfl, rfl, rfl, hall', MH⟩ := hrel
        by_cases hlt : k < l0.length
        · obtain ⟨A9, c9, he, hc9, hm9, -, hr9⟩ := MH.out.slice (e := 3) (sz := 1) (v := .slice A2 l0.length c2) (n := l0.length) (xs := ints .i64 l) (.head _)
          injection he with he1 he2 he3
          subst he1 he3
          obtain ⟨a2, rfl, hcell2⟩ := hr9.cell (hget.out k hlt)
          clear he2 hr9
          unfold maxLen at hm9
          have hsx := hsu.out k hlt
          obtain ⟨s0, s1⟩ := psum_bd (l := l) k (by rw [hll'.out]; exact hk) hall'.out
          have hnext := hid (fun (h : 0 ≤ l.getD k 0 ∧ l.getD k 0 ≤ 67108864 - psum l k) => show ∀ j, j < k + 1 → 0 ≤ l.getD j 0 ∧ l.getD j 0 ≤ 67108864 - psum l j from fun j hj => by
            by_cases e : j = k
            · rw [e]; exact h
            · exact hall'.out j (by omega))
          obtain ⟨t, ht⟩ : ∃ t, psum l (k + 1) = t := ⟨_, rfl⟩
          rw [ht] at hsx
          replace ht := hid ht
          generalize l.getD k 0 = x at *
          generalize psum l k = s at *
          have hc : x < 0 ∨ (¬ x < 0 ∧ x > 67108864) ∨ (¬ x < 0 ∧ ¬ x > 67108864 ∧ t > 67108864) ∨ (¬ x < 0 ∧ ¬ x > 67108864 ∧ ¬ t > 67108864) := by omega
          rcases hc with y0 | ⟨y0, y1⟩ | ⟨y0, y1, y2⟩ | ⟨y0, y1, y2⟩
          · clear hsx
            go_wp2
            go_ret
            exact .mk ⟨rfl, MH.out.below⟩
          · clear hsx
            go_wp2
            go_ret
            exact .mk ⟨rfl, MH.out.below⟩
          · have t0 : t ≤ 134217728 := by omega
            replace hsx := hsx.symm
            go_wp2
            go_ret
            exact .mk ⟨rfl, MH.out.below⟩
          · have hx2 := hid (show 0 ≤ x ∧ x ≤ 67108864 - s by omega)
            replace hsx := hsx.symm
            have t0 : 0 ≤ t := by omega
            go_wp2
            go_roundw
            case rel => exact ⟨k + 1, by omega, by go_num, by rw [ht.out], rfl, hid (hnext.out hx2.out), MH⟩
            case measure => simp [intOf]; omega
        · obtain rfl : k = l0.length := by omega
          exact absurd hall'.out hno.out
    · have hdummy : True := trivial
      have h20b : (20 : Int) < l0.length := by omega
      have h20c : ¬ ((l0.length : Int) < 20) := by omega
      have h20d : ¬ ((l0.length : Int) ≤ 20) := by omega
      have h20e : (20 : Int) ≤ l0.length := by omega
      have h20f : min (l0.length : Int) 20 = 20 := by omega
      have h20g : min l0.length 20 = 20 := by omega
      go_enter Try.func3, Try.ntmps3
      go_wp2_with (first
        | (go_at_call 8; refine (awake_calls _).mono ?_; rintro _ w1 ⟨_, rfl, rfl, hb⟩; (have M1 := hid (M0.out.keep hb)); clear hb)
        | (at_builtin; refine wpList_append_Own rfl (.tmp 13) (.tmp 18) _ rfl sized_int rfl rfl (L1 := []) (L2 := []) ((M1.out.alloc 3 #[]).as_row (L1 := []) 1 0 rfl (by unfold maxLen; omega)) (hpre.out _ (M1.out.alloc 3 #[]).below) (ints_one .i64 l) (by unfold maxLen; omega) (by omega) ?_; intro v' w' M'; simp only [Nat.zero_add, List.nil_append, List.append_eq] at M'; obtain ⟨A2, c2, rfl⟩ := M'.form (.head _); (have M2 := hid M'); clear M' hpre h20)
        | (go_at_call 9; refine (hY.out _ _ (M2.out.slice (e := 3) (.head _))).mono ?_; rintro _ w3 ⟨_, rfl, rfl, hb⟩; (have M3 := hid (M2.out.keep hb)); clear hb hY M2))
      go_loopw [5, 6, 27] (fun s o i wr => ∃ k : Nat, k ≤ 20 ∧ i = .int .i64 k ∧ s = .int .i64 (psum l k) ∧ o = .bool true ∧ Hid (∀ j, j < k → 0 ≤ l.getD j 0 ∧ l.getD j 0 ≤ 67108864 - psum l j) ∧ Hid (Own w wr [.row 3 1 (.slice A2 20 c2) 20 (ints .i64 l)])) (fun _ _ i _ => 20 - (intOf i).toNat)
      case atStart => exact ⟨0, Nat.zero_le _, rfl, by rw [psum_zero], rfl, hid (fun j hj => by omega), M3⟩
      case round =>
        clear M3
        obtain ⟨k, hk, rfl, rfl, rfl, hall', MH⟩ := hrel
        by_cases hlt : k < 20
        · obtain ⟨A9, c9, he, hc9, hm9, -, hr9⟩ := MH.out.slice (e := 3) (sz := 1) (v := .slice A2 20 c2) (n := 20) (xs := ints .i64 l) (.head _)
          injection he with he1 he2 he3
          subst he1 he3
          obtain ⟨a2, rfl, hcell2⟩ := hr9.cell (hget.out k hlt)
          clear he2 hr9
          unfold maxLen at hm9
          have hsx := hsu.out k hlt
          obtain ⟨s0, s1⟩ := psum_bd (l := l) k (by rw [hll'.out]; exact hk) hall'.out
          have hnext := hid (fun (h : 0 ≤ l.getD k 0 ∧ l.getD k 0 ≤ 67108864 - psum l k) => show ∀ j, j < k + 1 → 0 ≤ l.getD j 0 ∧ l.getD j 0 ≤ 67108864 - psum l j from fun j hj => by
            by_cases e : j = k
            · rw [e]; exact h
            · exact hall'.out j (by omega))
          obtain ⟨t, ht⟩ : ∃ t, psum l (k + 1) = t := ⟨_, rfl⟩
          rw [ht] at hsx
          replace ht := hid ht
          generalize l.getD k 0 = x at *
          generalize psum l k = s at *
          have hc : x < 0 ∨ (¬ x < 0 ∧ x > 67108864) ∨ (¬ x < 0 ∧ ¬ x > 67108864 ∧ t > 67108864) ∨ (¬ x < 0 ∧ ¬ x > 67108864 ∧ ¬ t > 67108864) := by omega
          rcases hc with y0 | ⟨y0, y1⟩ | ⟨y0, y1, y2⟩ | ⟨y0, y1, y2⟩
          · clear hsx
            go_wp2
            go_ret
            exact .mk ⟨rfl, MH.out.below⟩
          · clear hsx
            go_wp2
            go_ret
            exact .mk ⟨rfl, MH.out.below⟩
          · have t0 : t ≤ 134217728 := by omega
            replace hsx := hsx.symm
            go_wp2
            go_ret
            exact .mk ⟨rfl, MH.out.below⟩
          · have hx2 := hid (show 0 ≤ x ∧ x ≤ 67108864 - s by omega)
            replace hsx := hsx.symm
            have t0 : 0 ≤ t := by omega
            go_wp2
            go_roundw
            case rel => exact ⟨k + 1, by omega, by go_num, by rw [ht.out], rfl, hid (hnext.out hx2.out), MH⟩
            case measure => simp [intOf]; omega
        · obtain rfl : k = 20 := by omega
          exact absurd hall'.out hno.out
end Go.Proofs.Ytmboeoobkccpoaa
