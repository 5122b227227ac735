/- Layer 14: glyphs of many parts; FlatMet, walked. -/
import Derived.Test.YtiedbfaehndooaaDoorFlatK
namespace Go.Proofs.YtiedbfaehndooaaDoor
open Go Go.RowKit
set_option linter.unusedVariables false
set_option linter.unusedSimpArgs false
set_option maxRecDepth 1000000

abbrev ptM (g : Int) : Pt := ⟨2, g, 0, 0, 16384, 0, 0, 16384⟩
abbrev cgM (g : Int) (k : Nat) : Cg := ⟨0, 0, 0, 0, List.replicate k (ptM g), []⟩
theorem ptM_ok {g : Int} (h0 : 0 ≤ g) (h1 : g < 65536) : (ptM g).Ok := ⟨(show U16 2 by decide), (show U16 g from ⟨h0, by omega⟩), (show I16 0 by decide), (show I16 0 by decide), (show I16 16384 by decide), (show I16 0 by decide), (show I16 0 by decide), (show I16 16384 by decide)⟩
theorem cgM_ok {g : Int} (h0 : 0 ≤ g) (h1 : g < 65536) (k : Nat) : (cgM g k).Ok := ⟨(show I16 0 by decide), (show I16 0 by decide), (show I16 0 by decide), (show I16 0 by decide), fun p hp => by rw [List.eq_of_mem_replicate hp]; exact ptM_ok h0 h1, bytes_nil⟩
theorem cgM_r {g : Int} {k : Nat} (h1 : 1 ≤ k) (h2 : k ≤ 200) : cgR (cgM g k) = true := by
  have hp : ∀ i, i < k → pAt (List.replicate k (ptM g)) i = ptM g := fun i hi => by simp [pAt, List.getD, hi]
  have a1 : partB (ptM g) = true := by kernel_rfl
  have a2 : hasB (ptM g).f 256 = false := by kernel_rfl
  unfold cgR
  simp only [List.length_replicate, List.length_nil]
  rw [decide_eq_true h1, decide_eq_true h2]
  have : partsB (List.replicate k (ptM g)) k = true := decide_eq_true fun i hi => ⟨by
    cases i with
    | zero => rfl
    | succ j => show hasB (pAt (List.replicate k (ptM g)) j).f 256 = false; rw [hp j (by omega)]; exact a2, by rw [hp i hi]; exact a1⟩
  rw [this]
  simp
theorem ptCC_snoc (g : Int) (j : Nat) : ptCC (List.replicate (j + 1) (ptM g)) = ptCC (List.replicate j (ptM g)) ++ (ptA (ptM g)).toList := by
  rw [List.replicate_succ', ptC_append]; rfl
set_option maxHeartbeats 8000000 in
theorem many_calls (w : World) {k : Nat} {g : Int} (h1 : 1 ≤ k) (h2 : k ≤ 200) (g0 : 0 ≤ g) (g1 : g < 65536) : Calls Tryd.prog 11 #[.int .i64 k, .int .u16 g] w (Ret fun r w' => Own w w' [.row 5 1 r (cgB (cgM g k)).length (ints .u8 (cgB (cgM g k)))]) := by
  have M0 := hid (Own.start w)
  have hBy := hid (fun (w1 : World) vp vg (h : CAt w1 (cgM g k) vp vg) => cBytes_yes w1 (cgM_ok g0 g1 k) h (cgM_r h1 h2))
  go_enter Tryd.func11, Tryd.ntmps11
  go_wp2_with ((with_reducible refine gate (N := 5) rfl ?_); refine wpList_box_Own rfl (cs := cA ⟨0, 0, 0, 0, [], []⟩ (.slice none 0 0) (.slice none 0 0)) (t := 40) (by first | (go_simp; done) | (go_simp; rfl)) M0.out ?_; intro m w1 M; (have M1 := hid M); clear M)
  go_loopw [7] (fun i wr => ∃ (j : Nat), j ≤ k ∧ i = .int .i64 j ∧ Hid (∃ (Ap : Option Addr) (cp : Nat), Own w wr [.row 45 8 (.slice Ap j cp) j (ptCC (List.replicate j (ptM g))), .blk m 40 (cA ⟨0, 0, 0, 0, [], []⟩ (.slice Ap j cp) (.slice none 0 0))])) (fun i _ => k - (intOf i).toNat)
  case atStart => exact ⟨0, Nat.zero_le _, rfl, hid ⟨none, 0, M1.out.nil_row 45 8⟩⟩
  case round =>
    clear M1
    obtain ⟨j, hj, rfl, hM⟩ := hrel
    obtain ⟨Ap, cp, MR⟩ := hM.out
    clear hM
    replace MR := hid MR
    by_cases hlt : j < k
    · have hP := hid (ptCC_snoc g j)
      go_upto_region 4 with fail
      have MW := hid MR.out.drew
      clear MR
      refine wp_region_until (S := fun w' => w'.cell? ⟨m, 4, none⟩ = some (.slice Ap j cp)) 8 (by kernel_rfl) (c_cells (m := m) (g := ⟨0, 0, 0, 0, [], []⟩) (vp := .slice Ap j cp) (vg := .slice none 0 0) MW.out (by simp)).1 (fun hHeld => ?_)
      revert MW hHeld
      generalize wr.drew = w6
      intro MW hHeld
      repeat (first | (refine wpAnyV_take (i := 0) (v := ?_) rfl (by kernel_rfl) (by decide +kernel) (by decide +kernel) [] (by decide +kernel) (by decide +kernel) (by decide) (fun _ _ _ h => h) ?_ (by assumption) ?_; rotate_left; (first | (refine yields_load (by rfl) rfl rfl ?_; intro w hSw; (try dsimp only at hSw); go_split_ands; assumption) | (refine Or.inl ⟨by rfl, ?_⟩; intro w hSw; (try dsimp only at hSw); go_simp; done) | (refine Or.inl ⟨by rfl, ?_⟩; intro w hSw; (try dsimp only at hSw); go_simp; with_reducible rfl) | exact Or.inr ⟨by rfl, rfl⟩ | exact Or.inr ⟨by rfl, by rfl⟩); (try simp only [Act.put, List.setIfInBounds_toArray, List.set_cons_zero, List.set_cons_succ, List.getElem_toArray, List.getElem_cons_zero, List.getElem_cons_succ])) | (refine wpAnyV_take (i := 1) (v := ?_) rfl (by kernel_rfl) (by decide +kernel) (by decide +kernel) [] (by decide +kernel) (by decide +kernel) (by decide) (fun _ _ _ h => h) ?_ (by assumption) ?_; rotate_left; (first | (refine yields_load (by rfl) rfl rfl ?_; intro w hSw; (try dsimp only at hSw); go_split_ands; assumption) | (refine Or.inl ⟨by rfl, ?_⟩; intro w hSw; (try dsimp only at hSw); go_simp; done) | (refine Or.inl ⟨by rfl, ?_⟩; intro w hSw; (try dsimp only at hSw); go_simp; with_reducible rfl) | exact Or.inr ⟨by rfl, rfl⟩ | exact Or.inr ⟨by rfl, by rfl⟩); (try simp only [Act.put, List.setIfInBounds_toArray, List.set_cons_zero, List.set_cons_succ, List.getElem_toArray, List.getElem_cons_zero, List.getElem_cons_succ])) | (refine wpAnyV_take (i := 2) (v := ?_) rfl (by kernel_rfl) (by decide +kernel) (by decide +kernel) [] (by decide +kernel) (by decide +kernel) (by decide) (fun _ _ _ h => h) ?_ (by assumption) ?_; rotate_left; (first | (refine yields_load (by rfl) rfl rfl ?_; intro w hSw; (try dsimp only at hSw); go_split_ands; assumption) | (refine Or.inl ⟨by rfl, ?_⟩; intro w hSw; (try dsimp only at hSw); go_simp; done) | (refine Or.inl ⟨by rfl, ?_⟩; intro w hSw; (try dsimp only at hSw); go_simp; with_reducible rfl) | exact Or.inr ⟨by rfl, rfl⟩ | exact Or.inr ⟨by rfl, by rfl⟩); (try simp only [Act.put, List.setIfInBounds_toArray, List.set_cons_zero, List.set_cons_succ, List.getElem_toArray, List.getElem_cons_zero, List.getElem_cons_succ])))
      refine wpAnyV_ready (rs := [3]) (by decide +kernel) (by simp) ?_; refine (AllReadyV.cons rfl (by decide) (fun K hK => ?_) AllReadyV.nil)
      go_simp
      refine (unit_calls _).mono ?_
      rintro _ w7 ⟨_, rfl, rfl, hb⟩
      have M7 := hid (MW.out.keep hb)
      clear hb
      go_wp2_with fail
      refine hK.out _ _ (c_cells (m := m) (g := ⟨0, 0, 0, 0, [], []⟩) (vp := .slice Ap j cp) (vg := .slice none 0 0) M7.out (by simp)).1 (fun hHeld => ?_); clear hK K; (try simp only [Act.put, List.setIfInBounds_toArray, List.set_cons_zero, List.set_cons_succ, List.getElem_toArray, List.getElem_cons_zero, List.getElem_cons_succ])
      repeat (first | (refine wpAnyV_take (i := 4) (v := ?_) rfl (by kernel_rfl) (by decide +kernel) (by decide +kernel) [] (by decide +kernel) (by decide +kernel) (by decide) (fun _ _ _ h => h) ?_ (by assumption) ?_; rotate_left; (first | (refine yields_load (by rfl) rfl rfl ?_; intro w hSw; (try dsimp only at hSw); go_split_ands; assumption) | (refine Or.inl ⟨by rfl, ?_⟩; intro w hSw; (try dsimp only at hSw); go_simp; done) | (refine Or.inl ⟨by rfl, ?_⟩; intro w hSw; (try dsimp only at hSw); go_simp; with_reducible rfl) | exact Or.inr ⟨by rfl, rfl⟩ | exact Or.inr ⟨by rfl, by rfl⟩); (try simp only [Act.put, List.setIfInBounds_toArray, List.set_cons_zero, List.set_cons_succ, List.getElem_toArray, List.getElem_cons_zero, List.getElem_cons_succ])))
      refine wpAnyV_ready (rs := [5]) (by decide +kernel) (by simp) ?_; refine (AllReadyV.cons rfl (by decide) (fun K hK => ?_) AllReadyV.nil)
      go_simp
      have M8 := hid (M7.out.alloc 45 (ptA (ptM g)))
      refine hK.out _ _ (c_cells (m := m) (g := ⟨0, 0, 0, 0, [], []⟩) (vp := .slice Ap j cp) (vg := .slice none 0 0) M8.out (by simp)).1 (fun hHeld => ?_); clear hK K; (try simp only [Act.put, List.setIfInBounds_toArray, List.set_cons_zero, List.set_cons_succ, List.getElem_toArray, List.getElem_cons_zero, List.getElem_cons_succ])
      refine wpAnyV_ready (rs := [6]) (by decide +kernel) (by simp) ?_; refine (AllReadyV.cons rfl (by decide) (fun K hK => ?_) AllReadyV.nil)
      refine step_append_Own (by rfl) (.tmp 10) (.tmp 14) _ rfl sized_part rfl rfl (L1 := [.blk w7.heap.size 45 (ptA (ptM g))]) (L2 := [.blk m 40 (cA ⟨0, 0, 0, 0, [], []⟩ (.slice Ap j cp) (.slice none 0 0))]) M8.out (SliceAt.built M8.out (.head _) 8 1 rfl (by unfold maxLen; omega)) (one_all rfl) (by unfold maxLen; omega) (by omega) ?_
      intro v' w9 M'
      obtain ⟨A9, c9, rfl⟩ := M'.tail.form (.head _)
      have M9 := hid M'.tail
      clear M' M8 M7 MW
      refine hK.out _ _ (c_cells (m := m) (g := ⟨0, 0, 0, 0, [], []⟩) (vp := .slice Ap j cp) (vg := .slice none 0 0) M9.out (by simp)).1 (fun hHeld => ?_); clear hK K; (try simp only [Act.put, List.setIfInBounds_toArray, List.set_cons_zero, List.set_cons_succ, List.getElem_toArray, List.getElem_cons_zero, List.getElem_cons_succ])
      have cc4 := (c_cells (m := m) (g := ⟨0, 0, 0, 0, [], []⟩) (vp := .slice Ap j cp) (vg := .slice none 0 0) M9.out (by simp)).1
      have ff4 := (c_free (m := m) (g := ⟨0, 0, 0, 0, [], []⟩) (vp := .slice Ap j cp) (vg := .slice none 0 0) M9.out (by simp)).1
      repeat (first | (refine wpAnyV_take (i := 7) (v := ?_) rfl (by kernel_rfl) (by decide +kernel) (by decide +kernel) [] (by decide +kernel) (by decide +kernel) (by decide) (fun _ _ _ h => h) ?_ (by assumption) ?_; rotate_left; (first | (refine yields_load (by rfl) rfl rfl ?_; intro w hSw; (try dsimp only at hSw); go_split_ands; assumption) | (refine Or.inl ⟨by rfl, ?_⟩; intro w hSw; (try dsimp only at hSw); go_simp; done) | (refine Or.inl ⟨by rfl, ?_⟩; intro w hSw; (try dsimp only at hSw); go_simp; with_reducible rfl) | exact Or.inr ⟨by rfl, rfl⟩ | exact Or.inr ⟨by rfl, by rfl⟩); (try simp only [Act.put, List.setIfInBounds_toArray, List.set_cons_zero, List.set_cons_succ, List.getElem_toArray, List.getElem_cons_zero, List.getElem_cons_succ])))
      refine wpAnyV_ready (rs := [8]) (by decide +kernel) (by simp) ?_; refine AllReadyV.last rfl (fun K hK => ?_); go_simp
      refine hK.out _ _ (fun hHeld => ?_); clear hK K; (try simp only [Act.put, List.setIfInBounds_toArray, List.set_cons_zero, List.set_cons_succ, List.getElem_toArray, List.getElem_cons_zero, List.getElem_cons_succ])
      refine wpAnyH_done (by kernel_rfl) ?_ _
      go_wp2_with fail
      go_roundw
      case rel => exact ⟨j + 1, by omega, by go_num, hid ⟨A9, c9, by rw [hP.out]; exact M9.out.set (L1 := [_]) 4 (.slice A9 (j + 1) c9)⟩⟩
      case measure => simp [intOf] <;> omega
    · obtain rfl : k = j := by omega
      have hB2 := hid (hBy.out wr (.slice Ap k cp) (.slice none 0 0) ⟨by rw [List.length_replicate]; exact MR.out.slice (.head _), SliceAt.nil _ _ _⟩)
      clear hBy
      go_wp2_with (first
        | ((with_reducible refine gate (N := 18) rfl ?_); refine wpList_run rfl (exec_load_agg agg_cg rfl rfl MR.out (g := m) (t := 40) (cs := cA ⟨0, 0, 0, 0, [], []⟩ (.slice Ap k cp) (.slice none 0 0)) (vs := (cA ⟨0, 0, 0, 0, [], []⟩ (.slice Ap k cp) (.slice none 0 0)).toList) (by simp) rfl rfl) ?_)
        | (go_at_call 13; (with_reducible refine hB2.out.mono ?_); rintro _ w2 ⟨_, rfl, M⟩; (have M2 := hid (MR.out.keep M.below)); (have M3 := hid M); clear M))
      go_ret
      exact .mk ((MR.out.lift M3.out).sub (List.sublist_append_left _ _))

/-! ## in plain words -/
theorem allK_rep {F : Nat → Nat → Int → WR} {t : Int} {d q : Nat} (hF : ∀ m, m ≤ 20000 → F m q t = if m + d ≤ 20000 then ⟨0, [], m + d, q⟩ else ⟨9, [], 20001, q⟩) : ∀ (k m : Nat), m ≤ 20000 →
    allK F (List.replicate k (ptM t)) m q [] = if m + k * d ≤ 20000 then ⟨0, [], m + k * d, q⟩ else ⟨9, [], 20001, q⟩
  | 0, m, hm => by
    rw [Nat.zero_mul, Nat.add_zero, if_pos hm]; rfl
  | k + 1, m, hm => by
    rw [List.replicate_succ, allK_cons, show (ptM t).g = t from rfl, hF m hm, Nat.succ_mul]
    by_cases h : m + d ≤ 20000
    · rw [if_pos h, if_pos rfl]
      simp only [List.map_nil, List.append_nil]
      rw [allK_rep hF k (m + d) h, show m + d + k * d = m + (k * d + d) by omega]
    · rw [if_neg h, if_neg (show ¬ ((9 : Int) = 0) by decide), if_neg (by omega)]
abbrev kMet (a b : Nat) : List Gk := [.parts (cgM 1 a), .parts (cgM 2 b), .none]
theorem kMet_at {a b : Nat} : atK (kMet a b) 17 [] 0 0 0 = if 1 + a + a * b ≤ 20000 then ⟨0, [], 1 + a + a * b, 0⟩ else ⟨9, [], 20001, 0⟩ := by
  have h2 : ∀ m, m ≤ 20000 → atK (kMet a b) 15 [0, 1] m 0 2 = if m + 1 ≤ 20000 then ⟨0, [], m + 1, 0⟩ else ⟨9, [], 20001, 0⟩ := fun m hm => by
    rw [atK, if_neg (by simp), if_neg (by decide)]
    by_cases h : m + 1 ≤ 20000
    · rw [if_neg (by omega), if_pos h]; rfl
    · rw [if_pos (by omega), if_neg h, show m + 1 = 20001 by omega]
  have h1 : ∀ m, m ≤ 20000 → atK (kMet a b) 16 [0] m 0 1 = if m + (1 + b) ≤ 20000 then ⟨0, [], m + (1 + b), 0⟩ else ⟨9, [], 20001, 0⟩ := fun m hm => by
    rw [atK, if_neg (by simp), if_neg (by decide)]
    by_cases h : m + 1 ≤ 20000
    · rw [if_neg (by omega)]
      show allK (atK (kMet a b) 15 [0, 1]) (List.replicate b (ptM 2)) (m + 1) 0 [] = _
      rw [allK_rep h2 b (m + 1) h, show m + 1 + b * 1 = m + (1 + b) by omega]
    · rw [if_pos (by omega), if_neg (by omega), show m + 1 = 20001 by omega]
  rw [atK, if_neg (by simp), if_neg (by decide), if_neg (by omega)]
  show allK (atK (kMet a b) 16 [0]) (List.replicate a (ptM 1)) (0 + 1) 0 [] = _
  rw [allK_rep h1 a 1 (by omega), show 1 + a * (1 + b) = 1 + a + a * b by rw [Nat.mul_add, Nat.mul_one]; omega]
theorem kMet_right {a b : Nat} (a1 : 1 ≤ a) (a2 : a ≤ 200) (b1 : 1 ≤ b) (b2 : b ≤ 200) : ∀ k ∈ kMet a b, k.Right := by
  intro k hk
  simp only [List.mem_cons, List.not_mem_nil, or_false] at hk
  rcases hk with rfl | rfl | rfl
  · exact ⟨cgM_ok (by decide) (by decide) a, cgM_r a1 a2⟩
  · exact ⟨cgM_ok (by decide) (by decide) b, cgM_r b1 b2⟩
  · trivial
theorem kMet_near {a b : Nat} (a1 : 1 ≤ a) (a2 : a ≤ 200) (b1 : 1 ≤ b) (b2 : b ≤ 200) : Near (kMet a b) := near_unit (kMet_right a1 a2 b1 b2) (by
  intro k hk g hg p hp
  simp only [List.mem_cons, List.not_mem_nil, or_false] at hk
  rcases hk with rfl | rfl | rfl
  · injection hg with hg
    subst hg
    rw [List.eq_of_mem_replicate hp]
    exact ⟨rfl, rfl, rfl, rfl, ptM_ok (by decide) (by decide)⟩
  · injection hg with hg
    subst hg
    rw [List.eq_of_mem_replicate hp]
    exact ⟨rfl, rfl, rfl, rfl, ptM_ok (by decide) (by decide)⟩
  · cases hg)
theorem mod200 {x : Int} (h0 : 0 ≤ x) : ∃ a : Nat, x.tmod 200 = ((a : Int) - 1) ∧ 1 ≤ a ∧ a ≤ 200 := ⟨(x.tmod 200).toNat + 1, by
  rw [Int.tmod_eq_emod_of_nonneg h0]; omega, by omega, by rw [Int.tmod_eq_emod_of_nonneg h0]; omega⟩
set_option maxHeartbeats 8000000 in
theorem flatMet_calls (w : World) {x y : Int} (x0 : 0 ≤ x) (x1 : x < 256) (y0 : 0 ≤ y) (y1 : y < 256) : Calls Tryd.prog 5 #[.int .u8 x, .int .u8 y] w (Ret fun r w' => r = .bool true ∧ Below w.heap.size w w') := by
  have M0 := hid (Own.start w)
  obtain ⟨a, ha, a1, a2⟩ := mod200 x0
  obtain ⟨b, hb, b1, b2⟩ := mod200 y0
  have hMa := hid (fun w1 => many_calls w1 (k := a) (g := 1) a1 a2 (by decide) (by decide))
  have hMb := hid (fun w1 => many_calls w1 (k := b) (g := 2) b1 b2 (by decide) (by decide))
  obtain ⟨na, hna⟩ : ∃ n, (cgB (cgM 1 a)).length = n := ⟨_, rfl⟩
  obtain ⟨nb, hnb⟩ : ∃ n, (cgB (cgM 2 b)).length = n := ⟨_, rfl⟩
  rw [hna] at hMa
  rw [hnb] at hMb
  have hG := hid (fun (w1 : World) (L : List Ent) (A B : Option Addr) (c d : Nat) (M : Own w w1 L) (h : .row 5 1 (.slice A na c) na (ints .u8 (cgB (cgM 1 a))) ∈ L) (h' : .row 5 1 (.slice B nb d) nb (ints .u8 (cgB (cgM 2 b))) ∈ L) =>
    show GlyphsAt (w1.alloc (.cells #[.slice A na c, .slice B nb d, .slice none 0 0] 35 (0, 0))) (.slice (some ⟨w1.heap.size, 0, none⟩) 3 3) (kMet a b) from
      ⟨[.slice A na c, .slice B nb d, .slice none 0 0], SliceAt.built (M.alloc _ _) (.head _) 1 3 rfl (by unfold maxLen; omega), fun i hi => by
        have hi2 : i = 0 ∨ i = 1 ∨ i = 2 := by have : i < 3 := hi; omega
        rcases hi2 with rfl | rfl | rfl
        · show SliceAt _ _ 1 (.slice A na c) (cgB (cgM 1 a)).length (ints .u8 (cgB (cgM 1 a)))
          rw [hna]
          exact (M.alloc _ _).slice (.tail _ h)
        · show SliceAt _ _ 1 (.slice B nb d) (cgB (cgM 2 b)).length (ints .u8 (cgB (cgM 2 b)))
          rw [hnb]
          exact (M.alloc _ _).slice (.tail _ h')
        · exact SliceAt.nil _ _ _⟩)
  have hF := hid (fun (w1 : World) (V : Value) (h : GlyphsAt w1 V (kMet a b)) => flat_calls h (kMet_right a1 a2 b1 b2) (kMet_near a1 a2 b1 b2) 0)
  obtain ⟨R, hR⟩ : ∃ R, atK (kMet a b) 17 [] 0 0 0 = R := ⟨_, rfl⟩
  rw [hR] at hF
  rw [kMet_at] at hR
  have w8 : IntKind.u8.wrap (x.tmod 200) = (a : Int) - 1 := by rw [ha]; exact IntWalk.u8_in _ (by omega)
  have w8' : IntKind.u8.wrap ((a : Int) - 1) = (a : Int) - 1 := IntWalk.u8_in _ (by omega)
  have v8 : IntKind.u8.wrap (y.tmod 200) = (b : Int) - 1 := by rw [hb]; exact IntWalk.u8_in _ (by omega)
  have v8' : IntKind.u8.wrap ((b : Int) - 1) = (b : Int) - 1 := IntWalk.u8_in _ (by omega)
  have w64 : IntKind.i64.wrap ((a : Int) - 1) = (a : Int) - 1 := IntWalk.i64_in _ (by omega)
  have v64 : IntKind.i64.wrap ((b : Int) - 1) = (b : Int) - 1 := IntWalk.i64_in _ (by omega)
  have wa : IntKind.i64.wrap (1 + ((a : Int) - 1)) = a := by rw [show 1 + ((a : Int) - 1) = a by omega]; exact IntWalk.i64_in _ (by omega)
  have wb : IntKind.i64.wrap (1 + ((b : Int) - 1)) = b := by rw [show 1 + ((b : Int) - 1) = b by omega]; exact IntWalk.i64_in _ (by omega)
  obtain ⟨ab, hab⟩ : ∃ n : Nat, a * b = n := ⟨_, rfl⟩
  have hab2 : ab ≤ 40000 := by rw [← hab]; exact Nat.le_trans (Nat.mul_le_mul a2 b2) (by omega)
  have habi : (a : Int) * (b : Int) = ab := by rw [← hab]; exact (Int.natCast_mul a b).symm
  rw [hab] at hR
  have wm : IntKind.i64.wrap ((a : Int) * (b : Int)) = ab := by rw [habi]; exact IntWalk.i64_in _ (by omega)
  have wm' : IntKind.i64.wrap (ab : Int) = ab := IntWalk.i64_in _ (by omega)
  have ws : IntKind.i64.wrap (1 + (a : Int)) = 1 + (a : Int) := IntWalk.i64_in _ (by omega)
  have wt : IntKind.i64.wrap (1 + (a : Int) + (ab : Int)) = 1 + (a : Int) + (ab : Int) := IntWalk.i64_in _ (by omega)
  clear hab hna hnb
  by_cases hov : 1 + a + ab ≤ 20000
  · rw [if_pos hov] at hR
    subst hR
    have hg : ¬ 1 + (a : Int) + (ab : Int) > 20000 := by omega
    clear hov
    go_enter Tryd.func5, Tryd.ntmps5
    go_wp2_with (first
      | (go_at_call 8; (with_reducible refine (awake14_calls _).mono ?_); rintro _ w1 ⟨_, rfl, rfl, hb'⟩; ((have M1 := hid (M0.out.keep hb'))); (clear hb'))
      | (go_at_call 11; (with_reducible refine (hMa.out _).mono ?_); rintro _ w2 ⟨_, rfl, M⟩; obtain ⟨A2, c2, rfl⟩ := M.form (.head _); (have M2 := hid (M1.out.lift M)); clear M)
      | (go_at_call 11; (with_reducible refine (hMb.out _).mono ?_); rintro _ w3 ⟨_, rfl, M⟩; obtain ⟨A3, c3, rfl⟩ := M.form (.head _); (have M3 := hid (M2.out.lift M)); clear M)
      | (go_at_call 9; (with_reducible refine (hF.out _ _ (hG.out w3 _ A2 A3 c2 c3 M3.out (by simp) (by simp))).mono ?_); rintro _ w4 ⟨_, rfl, hP⟩; obtain ⟨A4, c4, rfl, hb'⟩ := flatP_nil hP rfl; (have M4 := hid ((M3.out.alloc _ _).keep hb')); clear hb' hP))
    go_ret
    exact .mk ⟨rfl, M4.out.below⟩
  · rw [if_neg hov] at hR
    subst hR
    have hg : 1 + (a : Int) + (ab : Int) > 20000 := by omega
    clear hov
    go_enter Tryd.func5, Tryd.ntmps5
    go_wp2_with (first
      | (go_at_call 8; (with_reducible refine (awake14_calls _).mono ?_); rintro _ w1 ⟨_, rfl, rfl, hb'⟩; ((have M1 := hid (M0.out.keep hb'))); (clear hb'))
      | (go_at_call 11; (with_reducible refine (hMa.out _).mono ?_); rintro _ w2 ⟨_, rfl, M⟩; obtain ⟨A2, c2, rfl⟩ := M.form (.head _); (have M2 := hid (M1.out.lift M)); clear M)
      | (go_at_call 11; (with_reducible refine (hMb.out _).mono ?_); rintro _ w3 ⟨_, rfl, M⟩; obtain ⟨A3, c3, rfl⟩ := M.form (.head _); (have M3 := hid (M2.out.lift M)); clear M)
      | (go_at_call 9; (with_reducible refine (hF.out _ _ (hG.out w3 _ A2 A3 c2 c3 M3.out (by simp) (by simp))).mono ?_); rintro _ w4 ⟨_, rfl, hP⟩; obtain ⟨A4, c4, rfl, hb'⟩ := flatP_nil hP rfl; (have M4 := hid ((M3.out.alloc _ _).keep hb')); clear hb' hP))
    go_ret
    exact .mk ⟨rfl, M4.out.below⟩
end Go.Proofs.YtiedbfaehndooaaDoor
