/- Package hmtx: the table hhea is read; the document's bytes. -/
import Derived.Test.YtpfgcadlgabaeaaHheaA
import Derived.Test.YtpfgcadlgabaeaaReadAt
namespace Go.Proofs.Ytpfgcadlgabaeaa
open Go Go.RowKit
set_option linter.unusedVariables false
set_option linter.unusedSimpArgs false
set_option maxRecDepth 100000

def hh0 : List Int := List.replicate 17 0
def hhOk (l : List Int) : Bool := l.length == 36 && (n2 l 0 == 1 && hhR (u16s l 2 17))
def hhOf (l : List Int) : List Int := if hhOk l = true then u16s l 2 17 else hh0
def hhErr (l : List Int) : Int := if hhOk l = true then 0 else 2
theorem whole_agg {vs : List Value} {n : Nat} (h : vs.length = n) : (vs.toArray.toList.drop 0).take n = vs := by
  rw [List.drop_zero]; exact List.take_of_length_le (by simp [h])
theorem u16s_u16 {l : List Int} (hB : Bytes l) (a n : Nat) : U16s (u16s l a n) := by
  intro x hx
  obtain ⟨i, -, rfl⟩ := List.mem_map.1 hx
  exact n2_bound hB _
theorem hh0_u16 : U16s hh0 := by
  intro x hx
  obtain rfl := List.eq_of_mem_replicate hx
  omega
theorem hhOf_length (l : List Int) : (hhOf l).length = 17 := by unfold hhOf; split; exact u16s_length _ _ _; exact List.length_replicate
theorem hhOf_u16 {l : List Int} (hB : Bytes l) : U16s (hhOf l) := by unfold hhOf; split; exact u16s_u16 hB _ _; exact hh0_u16
theorem U16s.set {l : List Int} (h : U16s l) (i : Nat) {x : Int} (h0 : 0 ≤ x) (h1 : x < 65536) : U16s (l.set i x) := by
  intro y hy
  rcases List.mem_or_eq_of_mem_set hy with hy | rfl
  · exact h y hy
  · exact ⟨h0, h1⟩
theorem hh_step {l : List Int} {k : Nat} {hs : List Int} {x : Int} (hk : k < 17) (h : hs = u16s l 2 k ++ List.replicate (17 - k) 0) (hx : x = n2 l (2 + 2 * k)) : hs.set k x = u16s l 2 (k + 1) ++ List.replicate (17 - (k + 1)) 0 := by
  have e : u16s l 2 (k + 1) = u16s l 2 k ++ [n2 l (2 + 2 * k)] := by simp [u16s, List.range_succ]
  rw [h, e, hx, show 17 - k = (17 - (k + 1)) + 1 by omega, List.replicate_succ, List.set_append_right _ _ (by rw [u16s_length]; exact Nat.le_refl _)]
  rw [u16s_length, Nat.sub_self, List.set_cons_zero, List.append_assoc]; rfl
theorem blk_set {W0 w : World} {L : List Ent} {m : Nat} {t : TypeId} {hs : List Int} (M : Own W0 w (.blk m t (ints .u16 hs).toArray :: L)) (i : Nat) (x : Int) : Own W0 (w.setCell ⟨m, i, none⟩ (.int .u16 x)) (.blk m t (ints .u16 (hs.set i x)).toArray :: L) := by
  have := M.set (L1 := []) i (.int .u16 x)
  simpa [ints, List.map_set] using this
theorem blk_cell {W0 w : World} {L : List Ent} {m : Nat} {t : TypeId} {hs : List Int} (M : Own W0 w (.blk m t (ints .u16 hs).toArray :: L)) {i : Nat} (h : i < hs.length) : w.cell? ⟨m, i, none⟩ = some (.int .u16 (hs.getD i 0)) ∧ w.frozen? ⟨m, i, none⟩ = false := by
  refine ⟨?_, M.free (.head _) i⟩
  rw [M.cell (.head _)]
  simpa using ints_get .u16 hs i h

set_option maxHeartbeats 4000000 in
theorem hhParse_calls (w : World) {V : Value} {l : List Int} (h1 : BytesAt w V l) (hB : Bytes l) (hn : l.length ≤ 140737488355328) :
    Calls Try.prog 13 #[V] w (Ret fun r w' => r = .tuple #[.agg (ints .u16 (hhOf l)).toArray, .int .i64 (hhErr l)] ∧ Below w.heap.size w w') := by
  have M0 := hid (Own.start w)
  have h1H := hid h1
  obtain ⟨A, C, rfl, hc1, hm1, -⟩ := h1
  unfold maxLen at hm1
  have hBH := hid hB
  clear hB
  go_enter Try.func13, Try.ntmps13
  go_wp2_with (first
    | ((with_reducible refine gate (N := 2) rfl ?_); refine wpList_box_Own rfl (cs := (ints .u16 hh0).toArray) (t := 35) (by first | (go_simp; done) | (go_simp; rfl)) M0.out ?_; intro r w1 M; (have M1 := hid M); clear M)
    | (go_at_call 27; (with_reducible refine (new_calls _ (h1H.out.below M1.out.below) hn).mono ?_); rintro _ w2 ⟨_, rfl, b, v, rfl, M⟩; ((have M2 := hid (M1.out.lift M (by simp [rdE, Ent.mine])))); (clear M))
    | (go_at_call 28; (with_reducible refine (rdU16_at (RdAt.start 36 hBH.out) (by omega) M2.out).mono ?_); rintro _ w3 ⟨_, rfl, u, a3, b3, rfl, u0, u1, hu, R, M⟩; (have hu := hid hu); (have R := hid R); (have M3 := hid M); clear M M2)
    | ((with_reducible refine gate (N := 6) rfl ?_); refine wpList_box_Own rfl (cs := (ints .u16 hh0).toArray) (t := 35) (by first | (go_simp; done) | (go_simp; rfl)) M3.out ?_; intro m w4 M; (have M4 := hid M); clear M))
  go_loopw [12] (fun i wr => ∃ (k a : Nat) (bad : Bool) (hs : List Int), k ≤ 16 ∧ i = .int .i64 k ∧ hs.length = 17 ∧ Hid (U16s hs) ∧ Hid (RdAt 36 l (2 + 2 * k) a bad) ∧ Hid (l.length = 36 → hs = u16s l 2 k ++ List.replicate (17 - k) 0) ∧ Hid (Own w wr (.blk m 35 (ints .u16 hs).toArray :: (rdE b v l a bad ++ [.blk r 35 (ints .u16 hh0).toArray])))) (fun i _ => 16 - (intOf i).toNat)
  case atStart => exact ⟨0, a3, b3, hh0, by omega, rfl, List.length_replicate, hid hh0_u16, R, hid (fun _ => rfl), M4⟩
  case round =>
    clear M4 R
    obtain ⟨k, a, bad, hs, hk, rfl, hl, hU, R, hv, MH⟩ := hrel
    by_cases hlt : k < 16
    · go_wp2_with (go_at_call 28; (with_reducible refine (rdU16_at R.out (by omega) (MH.out.front (L1 := [_]) (X := rdE _ _ _ _ _))).mono ?_); rintro _ w5 ⟨_, rfl, x, a5, b5, rfl, x0, x1, hx, R5, M⟩; (have hx := hid hx); (have R5 := hid R5); ((have M := Own.front (L1 := rdE _ _ _ _ _) (X := [_]) M)); obtain ⟨cx, fx⟩ := blk_cell (i := k) M (by omega); (have M5 := hid M); clear M MH)
      go_roundw
      case rel => exact ⟨k + 1, a5, b5, hs.set k x, by omega, by go_num, by simp [hl], hid (hU.out.set _ x0 x1), by rw [show 2 + 2 * (k + 1) = 2 + 2 * k + 2 by omega]; exact R5, hid (fun h => hh_step (by omega) (hv.out h) (hx.out h)), hid (blk_set M5.out k x)⟩
      case measure => simp [intOf] <;> omega
    · obtain rfl : k = 16 := by omega
      go_wp2_with fail
      refine (rdU16_at R.out (by omega) (MH.out.front (L1 := [_]) (X := rdE _ _ _ _ _))).mono ?_; rintro _ w5 ⟨_, rfl, x, a5, b5, rfl, x0, x1, hx, R5, M⟩
      have hx := hid hx
      clear R5
      have M := Own.front (L1 := rdE _ _ _ _ _) (X := [_]) M
      obtain ⟨cx, fx⟩ := blk_cell (i := 16) M (by omega)
      have M5 := hid (blk_set M 16 x)
      have hU5 := hU.out.set 16 x0 x1
      have hl5 : (hs.set 16 x).length = 17 := by simp [hl]
      have hfin : l.length = 36 → hs.set 16 x = u16s l 2 17 ∧ u = n2 l 0 := fun h => ⟨by have := hh_step (k := 16) (by omega) (hv.out h) (hx.out h); simpa using this, hu.out h⟩
      clear M MH
      generalize hs.set 16 x = hs5 at *
      have hRt := hid (fun w => right_calls w hl5 hU5)
      have hEnd : (hhOk l = true ∧ ((l.length : Int) != 36) = false ∧ (u != 1) = false ∧ hhR hs5 = true ∧ hhOf l = hs5) ∨ (hhOk l = false ∧ (((l.length : Int) != 36) = true ∨ ((l.length : Int) != 36) = false ∧ ((u != 1) = true ∨ (u != 1) = false ∧ hhR hs5 = false))) := by
        by_cases h36 : l.length = 36
        · obtain ⟨e1, e2⟩ := hfin h36
          unfold hhOf hhOk
          rw [← e1, ← e2]
          simp only [h36]
          by_cases hu : u = 1 <;> cases hr : hhR hs5 <;> simp [hu]
        · right
          unfold hhOk
          refine ⟨by simp [h36], .inl (by rw [bne_iff_ne]; omega)⟩
      clear hfin
      rcases hEnd with ⟨hm, q1, q2, q3, q4⟩ | ⟨hm, hq⟩
      · rw [q3] at hRt
        replace q4 := hid q4
        clear q3
        go_wp2_with (first
          | ((with_reducible refine gate (N := 32) rfl ?_); refine wpList_run rfl (exec_load_agg agg_hhea rfl rfl M5.out (g := m) (t := 35) (cs := (ints .u16 hs5).toArray) (vs := ints .u16 hs5) (.head _) (by simp [← hl5, ← ints_length .u16 hs5]) (by rw [ints_length, hl5])) ?_)
          | (go_at_call 24; refine (hRt.out _).mono ?_; rintro _ w6 ⟨_, rfl, rfl, hb⟩; (have M6 := hid (M5.out.keep hb)); clear hb)
          | ((with_reducible refine gate (N := 37) rfl ?_); refine wpList_run rfl (exec_load_agg agg_hhea rfl rfl M6.out (g := m) (t := 35) (cs := (ints .u16 hs5).toArray) (vs := ints .u16 hs5) (.head _) (by simp [← hl5, ← ints_length .u16 hs5]) (by rw [ints_length, hl5])) ?_)
          | ((with_reducible refine gateSt (t := 35) (p := 2) rfl ?_); refine wpList_store_all (n := 17) (L1 := .blk m 35 (ints .u16 hs5).toArray :: rdE b v l a5 b5) (mid := ints .u16 hh0) (vs := ints .u16 hs5) rfl rfl (by kernel_rfl) rfl rfl rfl (by rw [ints_length, hl5]) rfl (ints_one _ _) M6.out ?_; intro w8 M; (have M8 := hid M); clear M))
        refine bodyPost_ret (v := .tuple #[.agg (ints .u16 (hhOf l)).toArray, .int .i64 0]) ?_ rfl (.mk ⟨by unfold hhErr; rw [hm]; rfl, M8.out.below⟩)
        rw [q4.out]
        exact results_agg_tmp (p := 2) (q := 3) rfl agg_hhea _ (by rfl) (M8.out.heap (g := r) (t := 35) (by simp)) (by rw [ints_length, hl5])
      · have hmx : hhOf l = hh0 := by unfold hhOf; rw [hm]; rfl
        rcases hq with q1 | ⟨q1, q2 | ⟨q2, q3⟩⟩
        · clear hRt
          have M6 := hid M5.out
          go_wp2_with ((with_reducible refine gateSt (t := 35) (p := 2) rfl ?_); refine wpList_store_all (n := 17) (L1 := .blk m 35 (ints .u16 hs5).toArray :: rdE b v l a5 b5) (mid := ints .u16 hh0) (vs := ints .u16 hh0) rfl rfl (by kernel_rfl) rfl rfl (by first | rfl | (simp; rfl)) rfl rfl (ints_one _ _) M6.out ?_; intro w8 M; (have M8 := hid M); clear M)
          refine bodyPost_ret (v := .tuple #[.agg (ints .u16 (hhOf l)).toArray, .int .i64 2]) ?_ rfl (.mk ⟨by unfold hhErr; rw [hm]; rfl, M8.out.below⟩)
          rw [hmx]
          exact results_agg_tmp (p := 2) (q := 3) rfl agg_hhea _ (by rfl) (M8.out.heap (g := r) (t := 35) (by simp)) rfl
        · clear hRt
          have M6 := hid M5.out
          go_wp2_with ((with_reducible refine gateSt (t := 35) (p := 2) rfl ?_); refine wpList_store_all (n := 17) (L1 := .blk m 35 (ints .u16 hs5).toArray :: rdE b v l a5 b5) (mid := ints .u16 hh0) (vs := ints .u16 hh0) rfl rfl (by kernel_rfl) rfl rfl (by first | rfl | (simp; rfl)) rfl rfl (ints_one _ _) M6.out ?_; intro w8 M; (have M8 := hid M); clear M)
          refine bodyPost_ret (v := .tuple #[.agg (ints .u16 (hhOf l)).toArray, .int .i64 2]) ?_ rfl (.mk ⟨by unfold hhErr; rw [hm]; rfl, M8.out.below⟩)
          rw [hmx]
          exact results_agg_tmp (p := 2) (q := 3) rfl agg_hhea _ (by rfl) (M8.out.heap (g := r) (t := 35) (by simp)) rfl
        · rw [q3] at hRt
          clear q3
          go_wp2_with (first
            | ((with_reducible refine gate (N := 32) rfl ?_); refine wpList_run rfl (exec_load_agg agg_hhea rfl rfl M5.out (g := m) (t := 35) (cs := (ints .u16 hs5).toArray) (vs := ints .u16 hs5) (.head _) (by simp [← hl5, ← ints_length .u16 hs5]) (by rw [ints_length, hl5])) ?_)
            | (go_at_call 24; refine (hRt.out _).mono ?_; rintro _ w6 ⟨_, rfl, rfl, hb⟩; (have M6 := hid (M5.out.keep hb)); clear hb)
            | ((with_reducible refine gateSt (t := 35) (p := 2) rfl ?_); refine wpList_store_all (n := 17) (L1 := .blk m 35 (ints .u16 hs5).toArray :: rdE b v l a5 b5) (mid := ints .u16 hh0) (vs := ints .u16 hh0) rfl rfl (by kernel_rfl) rfl rfl (by first | rfl | (simp; rfl)) rfl rfl (ints_one _ _) M6.out ?_; intro w8 M; (have M8 := hid M); clear M))
          refine bodyPost_ret (v := .tuple #[.agg (ints .u16 (hhOf l)).toArray, .int .i64 2]) ?_ rfl (.mk ⟨by unfold hhErr; rw [hm]; rfl, M8.out.below⟩)
          rw [hmx]
          exact results_agg_tmp (p := 2) (q := 3) rfl agg_hhea _ (by rfl) (M8.out.heap (g := r) (t := 35) (by simp)) rfl

set_option maxHeartbeats 2000000 in
theorem refHhea_calls (w : World) {hs : List Int} (hl : hs.length = 17) (hU : U16s hs) :
    Calls Try.prog 15 #[.agg (ints .u16 (hs.take 16)).toArray, .int .u16 (hs.getD 16 0)] w (Ret fun r w' => Own w w' [.row 5 1 r 36 (ints .u8 (hhB hs))]) := by
  have M0 := hid (Own.start w)
  have hl16 : (hs.take 16).length = 16 := by simp [hl]
  have b16 := hU.get 16
  have hfs16 := hid (flat2_snoc hs 16 (by omega))
  rw [show hs.take (16 + 1) = hs from List.take_of_length_le (by omega)] at hfs16
  obtain ⟨z, hz⟩ : ∃ z, hs.getD 16 0 = z := ⟨_, rfl⟩
  rw [hz] at b16 hfs16 ⊢
  clear hz
  obtain ⟨z0, z1⟩ := b16
  go_enter Try.func15, Try.ntmps15
  go_wp2_with (first
    | ((with_reducible refine gate (N := 2) rfl ?_); refine wpList_box_Own rfl (cs := (ints .u16 (hs.take 16)).toArray) (t := 33) (by first | (go_simp; done) | (go_simp; rfl)) M0.out ?_; intro m w1 M; (have M1 := hid M); clear M)
    | (go_at_call 29; (with_reducible refine (B2_calls _ (n := 1) (by omega) (by omega)).mono ?_); rintro _ w2 ⟨_, rfl, M⟩; obtain ⟨A2, c2, rfl⟩ := M.form (.head _); (have M2 := hid (M1.out.lift M)); clear M)
    | ((with_reducible refine gate (N := 9) rfl ?_); refine wpList_run rfl (exec_load_agg agg_front rfl rfl M2.out (g := m) (t := 33) (cs := (ints .u16 (hs.take 16)).toArray) (vs := ints .u16 (hs.take 16)) (by simp) (whole_agg (by rw [ints_length, hl16])) (by rw [ints_length, hl16])) ?_))
  go_loopw [5, 10] (fun p i wr => ∃ (k : Nat) (A : Option Addr) (c : Nat), k ≤ 16 ∧ i = .int .i64 k ∧ p = .slice A (2 + 2 * k) c ∧ Hid (Own w wr [.row 5 1 (.slice A (2 + 2 * k) c) (2 + 2 * k) (ints .u8 (b2 1 ++ (hs.take k).flatMap b2))])) (fun _ i _ => 16 - (intOf i).toNat)
  case atStart => exact ⟨0, A2, c2, by omega, rfl, rfl, hid (by simpa using M2.out.head1)⟩
  case round =>
    clear M2 M1
    obtain ⟨k, A, c, hk, rfl, rfl, MH⟩ := hrel
    have hlq := hid (show (b2 1 ++ (hs.take k).flatMap b2).length = 2 + 2 * k by simp only [List.length_append, flat2_length, b2_length, List.length_take]; omega)
    by_cases hlt : k < 16
    · have hix := run_index_ints (P := Try.prog) Try.underlying33 Try.underlying27 u16_info (hs.take 16) k hl16 hlt
      rw [show (hs.take 16).getD k 0 = hs.getD k 0 by simp [List.getD, List.getElem?_take, hlt]] at hix
      obtain ⟨x0, x1⟩ := hU.get k
      have hfs := hid (flat2_snoc hs k (by omega))
      generalize hs.getD k 0 = x at *
      have hq := hid (show b2 1 ++ (hs.take (k + 1)).flatMap b2 = (b2 1 ++ (hs.take k).flatMap b2) ++ b2 x by rw [hfs.out]; simp only [List.append_assoc])
      clear hfs
      generalize b2 1 ++ (hs.take k).flatMap b2 = q at *
      go_wp2_with (first
        | (go_at_call 29; (with_reducible refine (B2_calls _ (n := x) (by omega) (by omega)).mono ?_); rintro _ w6 ⟨_, rfl, M⟩; obtain ⟨A6, c6, rfl⟩ := M.form (.head _); (have M6 := hid (MH.out.lift M)); clear M)
        | (go_at_call 16; (with_reducible refine (join2_calls w6 (M6.out.bytes (e := 5) (v := .slice A (2 + 2 * k) c) (n := 2 + 2 * k) (l := q) (by simp) hlq.out) (M6.out.bytes (e := 5) (v := .slice A6 2 c6) (n := 2) (l := b2 x) (by simp) rfl) (n := 2 + 2 * (k + 1)) (by rw [hlq.out, b2_length]; omega) (by omega)).mono ?_); rintro _ w8 ⟨_, rfl, M⟩; obtain ⟨A8, c8, rfl⟩ := M.form (.head _); (rw [← hq.out] at M); (have M8 := hid M0.out); (have M9 := hid ((M6.out.lift M).head1)); (clear M)))
      go_roundw
      case rel => exact ⟨k + 1, A8, c8, by omega, by go_num, rfl, M9⟩
      case measure => simp [intOf] <;> omega
    · obtain rfl : k = 16 := by omega
      have hq := hid (show hhB hs = (b2 1 ++ (hs.take 16).flatMap b2) ++ b2 z by unfold hhB; rw [hfs16.out]; simp only [List.append_assoc])
      generalize b2 1 ++ (hs.take 16).flatMap b2 = q at *
      go_wp2_with (first
        | (go_at_call 29; (with_reducible refine (B2_calls _ (n := z) (by omega) (by omega)).mono ?_); rintro _ w6 ⟨_, rfl, M⟩; obtain ⟨A6, c6, rfl⟩ := M.form (.head _); (have M6 := hid (MH.out.lift M)); clear M)
        | (go_at_call 16; (with_reducible refine (join2_calls w6 (M6.out.bytes (e := 5) (v := .slice A (2 + 2 * 16) c) (n := 2 + 2 * 16) (l := q) (by simp) hlq.out) (M6.out.bytes (e := 5) (v := .slice A6 2 c6) (n := 2) (l := b2 z) (by simp) rfl) (n := 36) (by rw [hlq.out, b2_length]) (by omega)).mono ?_); rintro _ w8 ⟨_, rfl, M⟩; obtain ⟨A8, c8, rfl⟩ := M.form (.head _); (rw [← hq.out] at M); (have M9 := hid ((M6.out.lift M).head1)); (clear M)))
      go_ret
      exact .mk M9.out

theorem hhea_eq' (w : World) (F G : Array Value) (z : Int) (h3 : (Op.equalIn 9999 33 (.agg F) (.agg F)).run Try.prog w = .ok true w) (h4 : (Op.equalIn 9999 27 (.int .u16 z) (.int .u16 z)).run Try.prog w = .ok true w)
    (h1 : (part 33 G 0).run Try.prog w = .ok (.agg F) w) (h2 : (part 27 G 16).run Try.prog w = .ok (.int .u16 z) w) : (Op.equalIn 10000 35 (.agg G) (.agg G)).run Try.prog w = .ok true w := by
  have e : (Op.eqFields 9999 G G (Try.prog.fieldsOf 35).toList).run Try.prog w = .ok true w := by
    simp only [Program.fieldsOf, Try.underlying35, Op.eqFields, ne_eq, String.reduceEq, not_false_eq_true, if_true]
    rw [Sem.run_bind, h1]
    simp only [Result.andThen_ok]
    rw [Sem.run_bind, h1]
    simp only [Result.andThen_ok]
    rw [Sem.run_bind, h3]
    simp only [Result.andThen_ok, Bool.not_true, Bool.false_eq_true, if_false]
    rw [Sem.run_bind, h2]
    simp only [Result.andThen_ok]
    rw [Sem.run_bind, h2]
    simp only [Result.andThen_ok]
    rw [Sem.run_bind, h4]
    simp only [Result.andThen_ok, Bool.not_true, Bool.false_eq_true, if_false, Sem.run_pure]
  rw [← run_equalIn_struct (P := Try.prog) w 9999 35 G G (by kernel_rfl) (by kernel_rfl)] at e
  exact e
theorem hhea_eq {hs : List Int} (hl : hs.length = 17) (w : World) : (Op.equalIn 10000 35 (.agg (ints .u16 hs).toArray) (.agg (ints .u16 hs).toArray)).run Try.prog w = .ok true w := by
  have hl16 : (hs.take 16).length = 16 := by simp [hl]
  have g16 := ints_get .u16 hs 16 (by omega)
  have h3 := arr_self (P := Try.prog) (d := 9997) Try.underlying33 Try.underlying27 u16_info hl16 w
  have h4 := int_self (P := Try.prog) Try.underlying27 9998 (hs.getD 16 0) w
  simp only [Nat.reduceAdd] at h3 h4
  exact hhea_eq' w _ _ _ h3 h4 (run_part_agg agg_front (by simp [ints, List.map_take]) (by simp [ints_length, hl]) w) (run_part_one Try.underlying27 u16_info (by simpa using g16) w)
end Go.Proofs.Ytpfgcadlgabaeaa
