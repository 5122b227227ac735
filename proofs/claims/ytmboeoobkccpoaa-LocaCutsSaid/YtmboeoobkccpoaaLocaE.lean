/- The document's places are read. -/
import Derived.Test.YtmboeoobkccpoaaLocaD
namespace Go.Proofs.Ytmboeoobkccpoaa
open Go Go.RowKit
set_option linter.unusedVariables false
set_option linter.unusedSimpArgs false
set_option maxRecDepth 100000

set_option maxHeartbeats 4000000 in
theorem places_true (w : World) {V : Value} {l : List Int} (h1 : BytesAt w V l) (hB : Bytes l) {G : Nat} (hG : G < 65536) {size : Int} (z0 : -9223372036854775808 ≤ size) (z1 : size < 9223372036854775808) :
    Calls Try.prog 16 #[V, .bool true, .int .i64 G, .int .i64 size] w (Ret fun r w' => (Fine true l G size ∧ ∃ v, r = .tuple #[v, .bool true] ∧ Own w w' [.row 3 1 v (G + 1) (ints .i64 (pns true l (G + 1)))]) ∨ (¬ Fine true l G size ∧ r = .tuple #[.slice none 0 0, .bool false] ∧ Below w.heap.size w w')) := by
  have hN2' := hid (fun w1 (h : Below w.heap.size w w1) (k : Nat) (hk : k ≤ 65536) => show Calls Try.prog 28 #[V, .int .i64 (2 * (k : Int))] w1 _ from N2_calls w1 (2 * k) (by omega) hB (h1.below h))
  have hN4' := hid (fun w1 (h : Below w.heap.size w w1) (k : Nat) (hk : k ≤ 65536) => show Calls Try.prog 29 #[V, .int .i64 (4 * (k : Int))] w1 _ from N4_calls w1 (4 * k) (by omega) hB (h1.below h))
  obtain ⟨A1, c1, rfl, hc1, hm1, hA1, -⟩ := h1
  unfold maxLen at hm1
  have hBH := hid hB
  clear hA1 hB
  by_cases hl : l.length = 4 * (G + 1)
  · have hnl : ¬ ((l.length : Int) != 4 * ((G : Int) + 1)) = true := by rw [bne_iff_ne]; omega
    have hlE := hid (show l.length = locS true * (G + 1) from hl)
    have hFine := hid (fun h => (⟨hl, h⟩ : Fine true l G size))
    clear hl
    generalize l.length = n at *
    go_enter Try.func16, Try.ntmps16
    go_wp2
    go_loopw [11, 12] (fun o i wr => ∃ (k : Nat) (A : Option Addr) (c : Nat), k ≤ G + 1 ∧ i = .int .i64 k ∧ o = .slice A k c ∧ Hid (∀ j, j < k → pl true l j ≤ pn true l j ∧ pn true l j ≤ size) ∧ Hid (Own w wr [.row 3 1 (.slice A k c) k (ints .i64 (pns true l k))])) (fun _ i _ => G + 1 - (intOf i).toNat)
    case atStart => exact ⟨0, none, 0, Nat.zero_le _, rfl, rfl, hid (fun j hj => by omega), hid (by simpa [pns, ints] using (Own.start w).nil_row 3 1)⟩
    case round =>
      obtain ⟨k, A, c, hk, rfl, rfl, hall, MH⟩ := hrel
      by_cases hlt : k < G + 1
      · have hN2 := hid (fun w1 (h : Below w.heap.size w w1) => hN2'.out w1 h k (by omega))
        have hN4 := hid (fun w1 (h : Below w.heap.size w w1) => hN4'.out w1 h k (by omega))
        have hpn := hid (show pn true l k = n4 l (4 * k) from rfl)
        obtain ⟨u0, u1⟩ := n2_bound hBH.out (2 * k)
        obtain ⟨v0, v1⟩ := n4_bound hBH.out (4 * k)
        generalize n2 l (2 * k) = y2 at *
        generalize n4 l (4 * k) = y4 at *
        generalize decide (2 * k + 2 ≤ n) = d2 at *
        generalize decide (4 * k + 4 ≤ n) = d4 at *
        have hle : (k : Int) ≤ (G : Int) := by omega
        by_cases q1 : y4 > size
        · go_wp2_with (first
            | (go_at_call 28; refine (hN2.out _ MH.out.below).mono ?_; rintro _ w5 ⟨_, rfl, rfl, hb⟩; (have M5 := hid (MH.out.keep hb)); clear hb)
            | (go_at_call 29; refine (hN4.out _ M5.out.below).mono ?_; rintro _ w6 ⟨_, rfl, rfl, hb⟩; (have M6 := hid (M5.out.keep hb)); clear hb))
          go_ret2
          exact .mk (.inr ⟨fun f => by have := f.all k hlt; rw [hpn.out] at this; omega, rfl, M6.out.below⟩)
        · rcases (show k = 0 ∨ ∃ j, k = j + 1 from by cases k; exact .inl rfl; exact .inr ⟨_, rfl⟩) with rfl | ⟨j, rfl⟩
          · have hfine := hid (show pl true l 0 ≤ y4 ∧ y4 ≤ size from ⟨by show (0 : Int) ≤ _; omega, by omega⟩)
            go_wp2_with (first
            | (go_at_call 28; refine (hN2.out _ MH.out.below).mono ?_; rintro _ w5 ⟨_, rfl, rfl, hb⟩; (have M5 := hid (MH.out.keep hb)); clear hb)
            | (go_at_call 29; refine (hN4.out _ M5.out.below).mono ?_; rintro _ w6 ⟨_, rfl, rfl, hb⟩; (have M6 := hid (M5.out.keep hb)); clear hb)
            | (at_builtin; refine wpList_append_Own rfl (.tmp 66) (.tmp 68) _ rfl sized_int rfl rfl (L1 := [.blk w6.heap.size 3 #[.int .i64 (y4)]]) (L2 := []) (M6.out.alloc _ _) (SliceAt.built (M6.out.alloc _ _) (.head _) 1 1 rfl (by unfold maxLen; omega)) (ints_one .i64 [y4]) (by unfold maxLen; omega) (by omega) ?_; intro v' w' M'; obtain ⟨A7, c7, rfl⟩ := M'.tail.form (.head _); (have M7 := hid M'.tail); clear M'))
            go_roundw
            case rel => exact ⟨0 + 1, A7, c7, by omega, by go_num, rfl, hid (fun i hi => by
              by_cases e : i = 0
              · rw [e, hpn.out]; exact hfine.out
              · exact hall.out i (by omega)), by rw [pns_succ, hpn.out, ints_append]; exact M7⟩
            case measure => simp [intOf] <;> omega

          · obtain ⟨p, hpj⟩ : ∃ p, pn true l j = p := ⟨_, rfl⟩
            have hpl := hid (show pl true l (j + 1) = pn true l j from rfl)
            replace hpj := hid hpj
            by_cases q2 : y4 < p
            · go_wp2_with (first
            | (go_at_call 28; refine (hN2.out _ MH.out.below).mono ?_; rintro _ w5 ⟨_, rfl, rfl, hb⟩; (have M5 := hid (MH.out.keep hb)); clear hb)
            | (go_at_call 29; refine (hN4.out _ M5.out.below).mono ?_; rintro _ w6 ⟨_, rfl, rfl, hb⟩; (have M6 := hid (M5.out.keep hb)); clear hb; (obtain ⟨A9, c9, he, hc9, hm9, -, hr9⟩ := M6.out.slice (e := 3) (.head _)); (injection he with he1 he2 he3); subst he1 he3; (obtain ⟨a2, rfl, hcell2⟩ := hr9.cell (ints_get .i64 (pns true l (j + 1)) j (by rw [pns_length]; omega))); (rw [pns_get true l (Nat.lt_succ_self j), hpj.out] at hcell2); clear he2 hr9; unfold maxLen at hm9))
              go_ret2
              exact .mk (.inr ⟨fun f => by have := f.all (j + 1) hlt; rw [hpl.out, hpj.out, hpn.out] at this; omega, rfl, M6.out.below⟩)
            · have hfine := hid (show pl true l (j + 1) ≤ y4 ∧ y4 ≤ size from by rw [hpl.out, hpj.out]; omega)
              go_wp2_with (first
            | (go_at_call 28; refine (hN2.out _ MH.out.below).mono ?_; rintro _ w5 ⟨_, rfl, rfl, hb⟩; (have M5 := hid (MH.out.keep hb)); clear hb)
            | (go_at_call 29; refine (hN4.out _ M5.out.below).mono ?_; rintro _ w6 ⟨_, rfl, rfl, hb⟩; (have M6 := hid (M5.out.keep hb)); clear hb; (obtain ⟨A9, c9, he, hc9, hm9, -, hr9⟩ := M6.out.slice (e := 3) (.head _)); (injection he with he1 he2 he3); subst he1 he3; (obtain ⟨a2, rfl, hcell2⟩ := hr9.cell (ints_get .i64 (pns true l (j + 1)) j (by rw [pns_length]; omega))); (rw [pns_get true l (Nat.lt_succ_self j), hpj.out] at hcell2); clear he2 hr9; unfold maxLen at hm9)
            | (at_builtin; refine wpList_append_Own rfl (.tmp 66) (.tmp 68) _ rfl sized_int rfl rfl (L1 := [.blk w6.heap.size 3 #[.int .i64 (y4)]]) (L2 := []) (M6.out.alloc _ _) (SliceAt.built (M6.out.alloc _ _) (.head _) 1 1 rfl (by unfold maxLen; omega)) (ints_one .i64 [y4]) (by unfold maxLen; omega) (by omega) ?_; intro v' w' M'; obtain ⟨A7, c7, rfl⟩ := M'.tail.form (.head _); (have M7 := hid M'.tail); clear M'))
              go_roundw
              case rel => exact ⟨(j + 1) + 1, A7, c7, by omega, by go_num, rfl, hid (fun i hi => by
                by_cases e : i = (j + 1)
                · rw [e, hpn.out]; exact hfine.out
                · exact hall.out i (by omega)), by rw [pns_succ, hpn.out, ints_append]; exact M7⟩
              case measure => simp [intOf] <;> omega

      · obtain rfl : k = G + 1 := by omega
        have hk1 : ¬ (((G + 1 : Nat) : Int) ≤ (G : Int)) := by omega
        have hk2 : ¬ ((G : Int) + 1 ≤ (G : Int)) := by omega
        go_wp2
        go_ret2
        exact .mk (.inl ⟨hFine.out hall.out, _, rfl, MH.out⟩)
  · have hnl : ((l.length : Int) != 4 * ((G : Int) + 1)) = true := by rw [bne_iff_ne]; omega
    have hF := hid (show ¬ Fine true l G size from fun f => hl f.len)
    clear hl hN2' hN4'
    go_enter Try.func16, Try.ntmps16
    go_wp2
    go_ret2
    exact .mk (.inr ⟨hF.out, rfl, Below.refl _ _⟩)
set_option maxHeartbeats 4000000 in
theorem places_false (w : World) {V : Value} {l : List Int} (h1 : BytesAt w V l) (hB : Bytes l) {G : Nat} (hG : G < 65536) {size : Int} (z0 : -9223372036854775808 ≤ size) (z1 : size < 9223372036854775808) :
    Calls Try.prog 16 #[V, .bool false, .int .i64 G, .int .i64 size] w (Ret fun r w' => (Fine false l G size ∧ ∃ v, r = .tuple #[v, .bool true] ∧ Own w w' [.row 3 1 v (G + 1) (ints .i64 (pns false l (G + 1)))]) ∨ (¬ Fine false l G size ∧ r = .tuple #[.slice none 0 0, .bool false] ∧ Below w.heap.size w w')) := by
  have hN2' := hid (fun w1 (h : Below w.heap.size w w1) (k : Nat) (hk : k ≤ 65536) => show Calls Try.prog 28 #[V, .int .i64 (2 * (k : Int))] w1 _ from N2_calls w1 (2 * k) (by omega) hB (h1.below h))
  have hN4' := hid (fun w1 (h : Below w.heap.size w w1) (k : Nat) (hk : k ≤ 65536) => show Calls Try.prog 29 #[V, .int .i64 (4 * (k : Int))] w1 _ from N4_calls w1 (4 * k) (by omega) hB (h1.below h))
  obtain ⟨A1, c1, rfl, hc1, hm1, hA1, -⟩ := h1
  unfold maxLen at hm1
  have hBH := hid hB
  clear hA1 hB
  by_cases hl : l.length = 2 * (G + 1)
  · have hnl : ¬ ((l.length : Int) != 2 * ((G : Int) + 1)) = true := by rw [bne_iff_ne]; omega
    have hlE := hid (show l.length = locS false * (G + 1) from hl)
    have hFine := hid (fun h => (⟨hl, h⟩ : Fine false l G size))
    clear hl
    generalize l.length = n at *
    go_enter Try.func16, Try.ntmps16
    go_wp2
    go_loopw [11, 12] (fun o i wr => ∃ (k : Nat) (A : Option Addr) (c : Nat), k ≤ G + 1 ∧ i = .int .i64 k ∧ o = .slice A k c ∧ Hid (∀ j, j < k → pl false l j ≤ pn false l j ∧ pn false l j ≤ size) ∧ Hid (Own w wr [.row 3 1 (.slice A k c) k (ints .i64 (pns false l k))])) (fun _ i _ => G + 1 - (intOf i).toNat)
    case atStart => exact ⟨0, none, 0, Nat.zero_le _, rfl, rfl, hid (fun j hj => by omega), hid (by simpa [pns, ints] using (Own.start w).nil_row 3 1)⟩
    case round =>
      obtain ⟨k, A, c, hk, rfl, rfl, hall, MH⟩ := hrel
      by_cases hlt : k < G + 1
      · have hN2 := hid (fun w1 (h : Below w.heap.size w w1) => hN2'.out w1 h k (by omega))
        have hN4 := hid (fun w1 (h : Below w.heap.size w w1) => hN4'.out w1 h k (by omega))
        have hpn := hid (show pn false l k = 2 * n2 l (2 * k) from rfl)
        obtain ⟨u0, u1⟩ := n2_bound hBH.out (2 * k)
        obtain ⟨v0, v1⟩ := n4_bound hBH.out (4 * k)
        generalize n2 l (2 * k) = y2 at *
        generalize n4 l (4 * k) = y4 at *
        generalize decide (2 * k + 2 ≤ n) = d2 at *
        generalize decide (4 * k + 4 ≤ n) = d4 at *
        have hle : (k : Int) ≤ (G : Int) := by omega
        by_cases q1 : 2 * y2 > size
        · go_wp2_with (go_at_call 28; refine (hN2.out _ MH.out.below).mono ?_; rintro _ w5 ⟨_, rfl, rfl, hb⟩; (have M5 := hid (MH.out.keep hb)); clear hb)
          go_ret2
          exact .mk (.inr ⟨fun f => by have := f.all k hlt; rw [hpn.out] at this; omega, rfl, M5.out.below⟩)
        · rcases (show k = 0 ∨ ∃ j, k = j + 1 from by cases k; exact .inl rfl; exact .inr ⟨_, rfl⟩) with rfl | ⟨j, rfl⟩
          · have hfine := hid (show pl false l 0 ≤ 2 * y2 ∧ 2 * y2 ≤ size from ⟨by show (0 : Int) ≤ _; omega, by omega⟩)
            go_wp2_with (first
            | (go_at_call 28; refine (hN2.out _ MH.out.below).mono ?_; rintro _ w5 ⟨_, rfl, rfl, hb⟩; (have M5 := hid (MH.out.keep hb)); clear hb)
            | (at_builtin; refine wpList_append_Own rfl (.tmp 66) (.tmp 68) _ rfl sized_int rfl rfl (L1 := [.blk w5.heap.size 3 #[.int .i64 (2 * y2)]]) (L2 := []) (M5.out.alloc _ _) (SliceAt.built (M5.out.alloc _ _) (.head _) 1 1 rfl (by unfold maxLen; omega)) (ints_one .i64 [2 * y2]) (by unfold maxLen; omega) (by omega) ?_; intro v' w' M'; obtain ⟨A7, c7, rfl⟩ := M'.tail.form (.head _); (have M7 := hid M'.tail); clear M'))
            go_roundw
            case rel => exact ⟨0 + 1, A7, c7, by omega, by go_num, rfl, hid (fun i hi => by
              by_cases e : i = 0
              · rw [e, hpn.out]; exact hfine.out
              · exact hall.out i (by omega)), by rw [pns_succ, hpn.out, ints_append]; exact M7⟩
            case measure => simp [intOf] <;> omega

          · obtain ⟨p, hpj⟩ : ∃ p, pn false l j = p := ⟨_, rfl⟩
            have hpl := hid (show pl false l (j + 1) = pn false l j from rfl)
            replace hpj := hid hpj
            by_cases q2 : 2 * y2 < p
            · go_wp2_with (go_at_call 28; refine (hN2.out _ MH.out.below).mono ?_; rintro _ w5 ⟨_, rfl, rfl, hb⟩; (have M5 := hid (MH.out.keep hb)); clear hb; (obtain ⟨A9, c9, he, hc9, hm9, -, hr9⟩ := M5.out.slice (e := 3) (.head _)); (injection he with he1 he2 he3); subst he1 he3; (obtain ⟨a2, rfl, hcell2⟩ := hr9.cell (ints_get .i64 (pns false l (j + 1)) j (by rw [pns_length]; omega))); (rw [pns_get false l (Nat.lt_succ_self j), hpj.out] at hcell2); clear he2 hr9; unfold maxLen at hm9)
              go_ret2
              exact .mk (.inr ⟨fun f => by have := f.all (j + 1) hlt; rw [hpl.out, hpj.out, hpn.out] at this; omega, rfl, M5.out.below⟩)
            · have hfine := hid (show pl false l (j + 1) ≤ 2 * y2 ∧ 2 * y2 ≤ size from by rw [hpl.out, hpj.out]; omega)
              go_wp2_with (first
            | (go_at_call 28; refine (hN2.out _ MH.out.below).mono ?_; rintro _ w5 ⟨_, rfl, rfl, hb⟩; (have M5 := hid (MH.out.keep hb)); clear hb; (obtain ⟨A9, c9, he, hc9, hm9, -, hr9⟩ := M5.out.slice (e := 3) (.head _)); (injection he with he1 he2 he3); subst he1 he3; (obtain ⟨a2, rfl, hcell2⟩ := hr9.cell (ints_get .i64 (pns false l (j + 1)) j (by rw [pns_length]; omega))); (rw [pns_get false l (Nat.lt_succ_self j), hpj.out] at hcell2); clear he2 hr9; unfold maxLen at hm9)
            | (at_builtin; refine wpList_append_Own rfl (.tmp 66) (.tmp 68) _ rfl sized_int rfl rfl (L1 := [.blk w5.heap.size 3 #[.int .i64 (2 * y2)]]) (L2 := []) (M5.out.alloc _ _) (SliceAt.built (M5.out.alloc _ _) (.head _) 1 1 rfl (by unfold maxLen; omega)) (ints_one .i64 [2 * y2]) (by unfold maxLen; omega) (by omega) ?_; intro v' w' M'; obtain ⟨A7, c7, rfl⟩ := M'.tail.form (.head _); (have M7 := hid M'.tail); clear M'))
              go_roundw
              case rel => exact ⟨(j + 1) + 1, A7, c7, by omega, by go_num, rfl, hid (fun i hi => by
                by_cases e : i = (j + 1)
                · rw [e, hpn.out]; exact hfine.out
                · exact hall.out i (by omega)), by rw [pns_succ, hpn.out, ints_append]; exact M7⟩
              case measure => simp [intOf] <;> omega

      · obtain rfl : k = G + 1 := by omega
        have hk1 : ¬ (((G + 1 : Nat) : Int) ≤ (G : Int)) := by omega
        have hk2 : ¬ ((G : Int) + 1 ≤ (G : Int)) := by omega
        go_wp2
        go_ret2
        exact .mk (.inl ⟨hFine.out hall.out, _, rfl, MH.out⟩)
  · have hnl : ((l.length : Int) != 2 * ((G : Int) + 1)) = true := by rw [bne_iff_ne]; omega
    have hF := hid (show ¬ Fine false l G size from fun f => hl f.len)
    clear hl hN2' hN4'
    go_enter Try.func16, Try.ntmps16
    go_wp2
    go_ret2
    exact .mk (.inr ⟨hF.out, rfl, Below.refl _ _⟩)
end Go.Proofs.Ytmboeoobkccpoaa
