/- SimpleRows: points in a row of one flag have it once. -/
import Derived.Test.YtmmepjcndofnbaaSimpW
import Derived.Test.YtmmepjcndofnbaaSimpQ
namespace Go.Proofs.Ytmmepjcndofnbaa
open Go Go.RowKit
set_option linter.unusedVariables false
set_option linter.unusedSimpArgs false
set_option maxRecDepth 100000

def rowsPts (x y : Int) (on : Bool) (k : Nat) : List (Int × Int × Bool) := (List.range k).map fun (i : Nat) => (x * ((i : Int) + 1), y * ((i : Int) + 1), on)
abbrev rowsG (x y : Int) (on : Bool) (k : Nat) : Sg := ⟨0, 0, 0, 0, [(k : Int) - 1], [], rowsPts x y on k⟩
theorem mul_small {x : Int} {i : Nat} (h0 : -128 ≤ x) (h1 : x < 128) (h2 : i < 120) : -15360 ≤ x * ((i : Int) + 1) ∧ x * ((i : Int) + 1) ≤ 15360 := by
  have a := Int.mul_le_mul_of_nonneg_right (show x ≤ 128 by omega) (show (0 : Int) ≤ (i : Int) + 1 by omega)
  have b := Int.mul_le_mul_of_nonneg_right (show -128 ≤ x by omega) (show (0 : Int) ≤ (i : Int) + 1 by omega)
  omega
section
variable {x y : Int} {on : Bool} {k : Nat}
theorem rowsPts_length : (rowsPts x y on k).length = k := by simp [rowsPts]
theorem rowsPts_succ : rowsPts x y on (k + 1) = rowsPts x y on k ++ [(x * ((k : Int) + 1), y * ((k : Int) + 1), on)] := by simp [rowsPts, List.range_succ]
theorem rowsPts_at {i : Nat} (h : i < k) : pX (rowsPts x y on k) i = x * ((i : Int) + 1) ∧ pY (rowsPts x y on k) i = y * ((i : Int) + 1) ∧ pO (rowsPts x y on k) i = on := by
  simp [pX, pY, pO, rowsPts, List.getD, h]
theorem rows_d {i : Nat} (h : i < k) : dX (rowsPts x y on k) i = x ∧ dY (rowsPts x y on k) i = y := by
  obtain ⟨h1, h2, -⟩ := rowsPts_at (x := x) (y := y) (on := on) h
  unfold dX dY
  rw [h1, h2]
  cases i with
  | zero => exact ⟨by show x * _ - 0 = x; simp, by show y * _ - 0 = y; simp⟩
  | succ j =>
    obtain ⟨g1, g2, -⟩ := rowsPts_at (x := x) (y := y) (on := on) (i := j) (k := k) (by omega)
    show x * _ - pX _ j = x ∧ y * _ - pY _ j = y
    rw [g1, g2]
    push_cast
    rw [Int.mul_add x, Int.mul_add y]
    exact ⟨by omega, by omega⟩
theorem rows_ok (h0 : -128 ≤ x) (h1 : x < 128) (h2 : -128 ≤ y) (h3 : y < 128) (hk : 1 ≤ k) (hk2 : k ≤ 120) : (rowsG x y on k).Ok ∧ sgR (rowsG x y on k) = true := by
  refine ⟨⟨(by decide : I16 0), (by decide : I16 0), (by decide : I16 0), (by decide : I16 0), fun z hz => ?_, bytes_nil, fun p hp => ?_⟩, ?_⟩
  · rw [List.mem_singleton] at hz; omega
  · obtain ⟨i, hi, rfl⟩ := List.mem_map.1 hp
    have hi := List.mem_range.1 hi
    have a := mul_small (i := i) h0 h1 (by omega)
    have b := mul_small (i := i) h2 h3 (by omega)
    exact ⟨⟨by dsimp only; omega, by dsimp only; omega⟩, ⟨by dsimp only; omega, by dsimp only; omega⟩⟩
  · have e1 : riseB [(k : Int) - 1] 1 = true := decide_eq_true fun i hi => by
      obtain rfl : i = 0 := by omega
      show (0 : Int) ≤ (k : Int) - 1; omega
    have e2 : stepB (rowsPts x y on k) k = true := decide_eq_true fun i hi => by
      obtain ⟨d1, d2⟩ := rows_d (x := x) (y := y) (on := on) hi
      rw [d1, d2]
      exact ⟨decide_eq_true ⟨by omega, by omega⟩, decide_eq_true ⟨by omega, by omega⟩⟩
    unfold sgR
    simp only [List.length_singleton, List.length_nil, rowsPts_length]
    rw [e1, e2]
    simp only [Bool.and_eq_true, decide_eq_true_eq]
    exact ⟨trivial, trivial, by omega, by show (k : Int) = (k : Int) - 1 + 1; omega, by omega⟩
theorem layB_small (h0 : -128 ≤ x) (h1 : x < 128) : (layB x).length = if x = 0 then 0 else 1 := by
  unfold layB
  by_cases q0 : x = 0
  · rw [if_pos q0, if_pos q0]; rfl
  · rw [if_neg q0, if_neg q0]
    by_cases q1 : 0 < x ∧ x ≤ 255
    · rw [if_pos q1]; rfl
    · rw [if_neg q1, if_pos (by omega)]; rfl
theorem rows_same {f : Int} (hk : 1 ≤ k) (hk2 : k ≤ 120) : (rowsB (List.replicate k f)).length = if k > 1 then 2 else 1 := by
  have hn : rn (List.replicate k f) = k := rn_of hk (by simp) (by omega) (fun j hj => by simp [List.getD, List.getElem?_replicate, hj, show 0 < k by omega]) (.inl (by simp))
  rw [rowsB_cons (by simp; omega), hn]
  have : (List.replicate k f).drop k = [] := List.drop_eq_nil_of_le (by simp)
  rw [this, List.length_append]
  show _ + (0 : Nat) = _
  unfold rowE
  rw [hn]
  by_cases h : k > 1
  · rw [if_pos h, if_pos h]; rfl
  · rw [if_neg h, if_neg h]; rfl
theorem rows_len (h0 : -128 ≤ x) (h1 : x < 128) (h2 : -128 ≤ y) (h3 : y < 128) (hk : 1 ≤ k) (hk2 : k ≤ 120) :
    ((sgB (rowsG x y on k)).length : Int) = 14 + (if k > 1 then 2 else 1) + ((if x = 0 then 0 else 1) + (if y = 0 then 0 else 1)) * k := by
  have hx : ∀ m, m ≤ k → (xsK (rowsPts x y on k) m).length = (layB x).length * m := by
    intro m
    induction m with
    | zero => intro _; simp [xsK]
    | succ m ih =>
      intro hm
      rw [xsK_succ, List.length_append, ih (by omega), (rows_d (by omega)).1, Nat.mul_succ]
  have hy : ∀ m, m ≤ k → (ysK (rowsPts x y on k) m).length = (layB y).length * m := by
    intro m
    induction m with
    | zero => intro _; simp [ysK]
    | succ m ih =>
      intro hm
      rw [ysK_succ, List.length_append, ih (by omega), (rows_d (by omega)).2, Nat.mul_succ]
  have hf : flsK (rowsPts x y on k) k = List.replicate k (flagOf (rowsPts x y on k) 0) := by
    apply List.ext_getElem
    · simp [flsK]
    · intro i i1 i2
      have hi : i < k := by simpa [flsK] using i1
      simp only [flsK, List.getElem_map, List.getElem_range, List.getElem_replicate]
      unfold flagOf
      rw [(rows_d hi).1, (rows_d hi).2, (rows_d (by omega)).1, (rows_d (by omega)).2, (rowsPts_at hi).2.2, (rowsPts_at (by omega)).2.2]
  have hd : (hdB (rowsG x y on k)).length = 14 := by
    unfold hdB
    simp [b2_length, s2_length, Sg.box]
  unfold sgB
  rw [List.length_append, List.length_append, List.length_append, hd]
  show ((14 + ((rowsB (flsK (rowsPts x y on k) (rowsPts x y on k).length)).length + ((xsK (rowsPts x y on k) (rowsPts x y on k).length).length + (ysK (rowsPts x y on k) (rowsPts x y on k).length).length)) : Nat) : Int) = _
  rw [rowsPts_length, hf, rows_same hk hk2, hx k (Nat.le_refl _), hy k (Nat.le_refl _), layB_small h0 h1, layB_small h2 h3]
  by_cases a : k > 1 <;> by_cases b : x = 0 <;> by_cases c : y = 0 <;> simp [a, b, c] <;> omega
end
set_option maxHeartbeats 4000000 in
theorem simpleRows_calls (w : World) {n x y : Int} {on : Bool} (hn : 0 ≤ n ∧ n < 256) (hx : -128 ≤ x ∧ x < 128) (hy : -128 ≤ y ∧ y < 128) :
    Calls Try.prog 7 #[.int .u8 n, .int .i8 x, .int .i8 y, .bool on] w (Ret fun r w' => r = .bool true ∧ Below w.heap.size w w') := by
  have M0 := hid (Own.start w)
  obtain ⟨n0, n1⟩ := hn
  obtain ⟨x0, x1⟩ := hx
  obtain ⟨y0, y1⟩ := hy
  obtain ⟨k, hk⟩ : ∃ k : Nat, 1 + n % 120 = k := ⟨(1 + n % 120).toNat, by omega⟩
  have k1 : 1 ≤ k := by omega
  have k2 : k ≤ 120 := by omega
  obtain ⟨hO, hR⟩ := rows_ok (x := x) (y := y) (on := on) x0 x1 y0 y1 k1 k2
  have hlen := hid (rows_len (x := x) (y := y) (on := on) x0 x1 y0 y1 k1 k2)
  have hparse := hid (parseS_sgB hO hR)
  have hOH := hid hO
  have hRH := hid hR
  have hm : n.tmod 120 = n % 120 := Int.tmod_eq_emod_of_nonneg n0
  have hw1 : IntKind.i64.wrap n = n := IntWalk.i64_in _ (by omega)
  have hw2 : IntKind.i64.wrap (1 + n % 120) = k := by rw [hk]; exact IntWalk.i64_in _ (by omega)
  have hw3 : IntKind.i64.wrap (n % 120) = n % 120 := IntWalk.i64_in _ (by omega)
  have hwx : IntKind.i16.wrap x = x := IntWalk.i16_in _ (by omega)
  have hwy : IntKind.i16.wrap y = y := IntWalk.i16_in _ (by omega)
  clear hO hR hk
  go_enter Try.func7, Try.ntmps7
  go_wp2_with (first
    | (go_at_call 9; refine (awake_calls _).mono ?_; rintro _ w1 ⟨_, rfl, rfl, hb⟩; (have M1 := hid (M0.out.keep hb)); clear hb)
    | ((with_reducible refine gate (N := 10) rfl ?_); refine wpList_box_Own rfl (cs := gNil) (t := 29) (by first | (go_simp; done) | (go_simp; rfl)) M1.out ?_; intro m w2 M; (have M2 := hid M); clear M))
  clear M1
  go_loopw [25] (fun i wr => ∃ (j : Nat), j ≤ k ∧ i = .int .i64 j ∧ Hid (∃ (A : Option Addr) (c : Nat), Own w wr [.row 37 3 (.slice A j c) j (spC (rowsPts x y on j)), .blk m 29 (gA ⟨0, 0, 0, 0, [], [], []⟩ (.slice none 0 0) (.slice none 0 0) (.slice A j c))])) (fun i _ => k - (intOf i).toNat)
  case atStart => exact ⟨0, Nat.zero_le _, rfl, hid ⟨none, 0, M2.out.nil_row 37 3⟩⟩
  case round =>
    clear M2
    obtain ⟨j, hj, rfl, hM⟩ := hrel
    obtain ⟨A, c, MR⟩ := hM.out
    clear hM
    replace MR := hid MR
    by_cases hlt : j < k
    · obtain ⟨a0, a1⟩ := mul_small (i := j) x0 x1 (by omega)
      obtain ⟨b0, b1⟩ := mul_small (i := j) y0 y1 (by omega)
      have hs := hid (rowsPts_succ (x := x) (y := y) (on := on) (k := j))
      have hwj1 : IntKind.i64.wrap ((j : Int) + 1) = (j : Int) + 1 := IntWalk.i64_in _ (by omega)
      have hwj : IntKind.i16.wrap ((j : Int) + 1) = (j : Int) + 1 := IntWalk.i16_in _ (by omega)
      have hwa : IntKind.i16.wrap (x * ((j : Int) + 1)) = x * ((j : Int) + 1) := IntWalk.i16_in _ (by omega)
      have hwb : IntKind.i16.wrap (y * ((j : Int) + 1)) = y * ((j : Int) + 1) := IntWalk.i16_in _ (by omega)
      obtain ⟨c4, c5, c6⟩ := g_cells (m := m) (g := ⟨0, 0, 0, 0, [], [], []⟩) (ve := .slice none 0 0) (vp := .slice none 0 0) (vs := .slice A j c) MR.out (by simp)
      obtain ⟨xa, hxa⟩ : ∃ z, x * ((j : Int) + 1) = z := ⟨_, rfl⟩
      obtain ⟨ya, hya⟩ : ∃ z, y * ((j : Int) + 1) = z := ⟨_, rfl⟩
      rw [hxa] at hwa a0 a1 hs
      rw [hya] at hwb b0 b1 hs
      go_wp2_with (at_builtin; refine wpList_append_Own rfl (.tmp 29) (.tmp 44) _ rfl sized_spot rfl rfl (L1 := [.blk wr.heap.size 37 #[.int .i16 xa, .int .i16 ya, .bool on]]) (L2 := [.blk m 29 (gA ⟨0, 0, 0, 0, [], [], []⟩ (.slice none 0 0) (.slice none 0 0) (.slice A j c))]) (MR.out.alloc _ _) (SliceAt.built (MR.out.alloc _ _) (.head _) 3 1 rfl (by unfold maxLen; omega)) (one_all rfl) (by unfold maxLen; omega) (by omega) ?_; intro v' w' M'; obtain ⟨A7, c7, rfl⟩ := M'.tail.form (.head _); obtain ⟨c4', c5', c6'⟩ := g_cells (m := m) (g := ⟨0, 0, 0, 0, [], [], []⟩) (ve := .slice none 0 0) (vp := .slice none 0 0) (vs := .slice A j c) M' (by simp); obtain ⟨f4', f5', f6'⟩ := g_free (m := m) (g := ⟨0, 0, 0, 0, [], [], []⟩) (ve := .slice none 0 0) (vp := .slice none 0 0) (vs := .slice A j c) M' (by simp); (have M7 := hid M'.tail); clear M')
      go_roundw
      case rel => exact ⟨j + 1, by omega, by go_num, hid ⟨A7, c7, by rw [hs.out, spC_append]; exact M7.out.set (L1 := [_]) 6 (.slice A7 (j + 1) c7)⟩⟩
      case measure => simp [intOf] <;> omega
    · obtain rfl : j = k := by omega
      have hwu : IntKind.u16.wrap ((j : Int) - 1) = (j : Int) - 1 := by rw [IntKind.wrap_u16]; omega
      have hwk : IntKind.i64.wrap ((j : Int) - 1) = (j : Int) - 1 := IntWalk.i64_in _ (by omega)
      have MA := hid ((MR.out.alloc 38 #[.int .u16 ((j : Int) - 1)]))
      obtain ⟨c4, c5, c6⟩ := g_cells (m := m) (g := ⟨0, 0, 0, 0, [], [], []⟩) (ve := .slice none 0 0) (vp := .slice none 0 0) (vs := .slice A j c) MA.out (by simp)
      obtain ⟨f4, f5, f6⟩ := g_free (m := m) (g := ⟨0, 0, 0, 0, [], [], []⟩) (ve := .slice none 0 0) (vp := .slice none 0 0) (vs := .slice A j c) MA.out (by simp)
      have M8 : Hid (Own w ((wr.alloc (.cells #[.int .u16 ((j : Int) - 1)] 38 (0, 0))).setCell ⟨m, 4, none⟩ (.slice (some ⟨wr.heap.size, 0, none⟩) 1 1)) [.row 38 1 (.slice (some ⟨wr.heap.size, 0, none⟩) 1 1) 1 (ints .u16 [(j : Int) - 1]), .row 37 3 (.slice A j c) j (spC (rowsPts x y on j)), .blk m 29 (gA (rowsG x y on j) (.slice (some ⟨wr.heap.size, 0, none⟩) 1 1) (.slice none 0 0) (.slice A j c))]) := hid ((MA.out.as_row (L1 := []) 1 1 rfl (by unfold maxLen; omega)).set (L1 := [_, _]) 4 (.slice (some ⟨wr.heap.size, 0, none⟩) 1 1))
      clear hlt hj MA
      go_upto_region 11 with fail
      clear c4 c5 c6 f4 f5 f6 hwu hwk
      revert M8
      generalize (wr.alloc (.cells #[.int .u16 ((j : Int) - 1)] 38 (0, 0))).setCell ⟨m, 4, none⟩ (.slice (some ⟨wr.heap.size, 0, none⟩) 1 1) = w8
      generalize some (⟨wr.heap.size, 0, none⟩ : Addr) = Ae
      intro M8
      have hG := hid (show GAt w8 (rowsG x y on j) (.slice Ae 1 1) (.slice none 0 0) (.slice A j c) from ⟨M8.out.slice (.head _), SliceAt.nil _ _ _, by
        have := M8.out.slice (e := 37) (sz := 3) (v := .slice A j c) (n := j) (xs := spC (rowsPts x y on j)) (by simp)
        show SliceAt _ _ 3 _ (rowsPts x y on j).length _
        rw [rowsPts_length]; exact this⟩)
      have hLb := hid (show (sgB (rowsG x y on j)).length ≤ 100000 from by
        have := hlen.out
        (try split at this) <;> (try split at this) <;> (try split at this) <;> omega)
      have hBy := hid (sgB_bytes hOH.out)
      have hBytes := hid (bytes_yes w8 hOH.out hG.out hRH.out)
      obtain ⟨LB, hLB⟩ : ∃ LB, sgB (rowsG x y on j) = LB := ⟨_, rfl⟩
      rw [hLB] at hlen hparse hLb hBy hBytes
      obtain ⟨n9, hn9⟩ : ∃ n9, LB.length = n9 := ⟨_, rfl⟩
      rw [hn9] at hlen hparse hLb hBytes
      have hn9H := hid hn9
      have hlb := hLb.out
      clear hn9 hLB MR n0 n1 hm hw1 hw3 hw2
      by_cases q1 : j > 1 <;> by_cases q2 : x = 0 <;> by_cases q3 : y = 0
      · have hE : ((n9 : Int) == 16) = true := by have := hlen.out; rw [beq_iff_eq]; (try split at this) <;> (try split at this) <;> (try split at this) <;> omega
        have hw1 : IntKind.i64.wrap (0) = 0 := IntWalk.i64_in _ (by omega)
        have hw2 : IntKind.i64.wrap (16) = 16 := IntWalk.i64_in _ (by omega)
        clear hlen
        go_wp2_with (first
          | ((with_reducible refine gate (N := 63) rfl ?_); refine wpList_run rfl (exec_load_agg agg_glyph rfl rfl M8.out (g := m) (t := 29) (cs := gA (rowsG x y on j) (.slice Ae 1 1) (.slice none 0 0) (.slice A j c)) (vs := (gA (rowsG x y on j) (.slice Ae 1 1) (.slice none 0 0) (.slice A j c)).toList) (by simp) rfl rfl) ?_)
          | (go_at_call 16; (with_reducible refine (hBytes.out).mono ?_); rintro _ w9 ⟨_, rfl, M⟩; obtain ⟨A9, c9, rfl⟩ := M.form (.head _); ((have M9 := hid (M8.out.lift M))); ((have hb9 := hid M.below)); (clear M))
          | (go_at_call 20; (have hC := parse_calls12 _ (V := .slice A9 n9 c9) (l := LB) (M9.out.bytes (e := 5) (.head _) hn9H.out) hBy.out (by have := hn9H.out; omega)); ((with_reducible refine hC.mono ?_); clear hC); rintro _ w10 ⟨_, rfl, ⟨g', n', ve', vp', vs', hp', hO', rfl, M⟩ | ⟨hp', -, -⟩⟩; rotate_left; (exact absurd (hp'.symm.trans hparse.out) (by simp)); (obtain ⟨rfl, rfl⟩ : g' = rowsG x y on j ∧ n' = n9 := by have := hp'.symm.trans hparse.out; injection this with this; injection this with h1 h2; exact ⟨h1, h2⟩); clear hp' hO'; (rw [show (rowsG x y on j).pts.length = j from rowsPts_length] at M); obtain ⟨Ae', ce', rfl⟩ := M.form (.head _); obtain ⟨Ap', cp', rfl⟩ := M.form (.tail _ (.head _)); obtain ⟨As', cs', rfl⟩ := M.form (.tail _ (.tail _ (.head _))); (have M10 := hid (M9.out.lift M)); (have hb10 := hid M.below); (have hG' := hid (show GAt w10 (rowsG x y on j) (.slice Ae' 1 ce') (.slice Ap' 0 cp') (.slice As' j cs') from ⟨M.slice (.head _), M.slice (.tail _ (.head _)), by rw [show (rowsG x y on j).pts.length = j from rowsPts_length]; exact M.slice (.tail _ (.tail _ (.head _)))⟩)); clear M)
          | ((with_reducible refine gate (N := 15) rfl ?_); refine wpList_box_Own rfl (cs := gNil) (t := 29) (by first | (go_simp; done) | (go_simp; rfl)) M10.out ?_; intro q w11 M; (have M11 := hid M); clear M)
          | ((with_reducible refine gateSt (t := 29) (p := 15) rfl ?_); refine wpList_store_all (n := 7) (L1 := []) (mid := gNil.toList) (vs := (gA (rowsG x y on j) (.slice Ae' 1 ce') (.slice Ap' 0 cp') (.slice As' j cs')).toList) rfl rfl (by kernel_rfl) rfl rfl rfl rfl rfl (one_all rfl) M11.out ?_; intro w12 M; ((have hG2 := hid (show GAt w12 (rowsG x y on j) (.slice Ae' 1 ce') (.slice Ap' 0 cp') (.slice As' j cs') from ⟨M.slice (e := 38) (by simp), M.slice (e := 5) (by simp), by rw [show (rowsG x y on j).pts.length = j from rowsPts_length]; exact M.slice (e := 37) (by simp)⟩))); ((have hG3 := hid (show GAt w12 (rowsG x y on j) (.slice Ae 1 1) (.slice none 0 0) (.slice A j c) from ⟨M.slice (e := 38) (by simp), SliceAt.nil _ _ _, by rw [show (rowsG x y on j).pts.length = j from rowsPts_length]; exact M.slice (e := 37) (by simp)⟩))); (have M12 := hid M); clear M)
          | ((with_reducible refine gate (N := 91) rfl ?_); refine wpList_run rfl (exec_load_agg agg_glyph rfl rfl M12.out (g := q) (t := 29) (cs := (gA (rowsG x y on j) (.slice Ae' 1 ce') (.slice Ap' 0 cp') (.slice As' j cs'))) (vs := (gA (rowsG x y on j) (.slice Ae' 1 ce') (.slice Ap' 0 cp') (.slice As' j cs')).toList) (by simp) rfl rfl) ?_)
          | ((with_reducible refine gate (N := 92) rfl ?_); refine wpList_run rfl (exec_load_agg agg_glyph rfl rfl M12.out (g := m) (t := 29) (cs := gA (rowsG x y on j) (.slice Ae 1 1) (.slice none 0 0) (.slice A j c)) (vs := (gA (rowsG x y on j) (.slice Ae 1 1) (.slice none 0 0) (.slice A j c)).toList) (by simp) rfl rfl) ?_)
          | (go_at_call 17; (have hC := same_calls12 w12 hG2.out hG3.out); ((with_reducible refine hC.mono ?_); clear hC); rintro _ w13 ⟨_, rfl, rfl, hb⟩; (have M13 := hid (M12.out.keep hb)); clear hb))
        go_ret
        exact .mk ⟨rfl, M13.out.below⟩
      · have hE : ((n9 : Int) == 16 + (j : Int)) = true := by have := hlen.out; rw [beq_iff_eq]; (try split at this) <;> (try split at this) <;> (try split at this) <;> omega
        have hw1 : IntKind.i64.wrap ((j : Int)) = (j : Int) := IntWalk.i64_in _ (by omega)
        have hw2 : IntKind.i64.wrap (16 + (j : Int)) = 16 + (j : Int) := IntWalk.i64_in _ (by omega)
        clear hlen
        go_wp2_with (first
          | ((with_reducible refine gate (N := 63) rfl ?_); refine wpList_run rfl (exec_load_agg agg_glyph rfl rfl M8.out (g := m) (t := 29) (cs := gA (rowsG x y on j) (.slice Ae 1 1) (.slice none 0 0) (.slice A j c)) (vs := (gA (rowsG x y on j) (.slice Ae 1 1) (.slice none 0 0) (.slice A j c)).toList) (by simp) rfl rfl) ?_)
          | (go_at_call 16; (with_reducible refine (hBytes.out).mono ?_); rintro _ w9 ⟨_, rfl, M⟩; obtain ⟨A9, c9, rfl⟩ := M.form (.head _); ((have M9 := hid (M8.out.lift M))); ((have hb9 := hid M.below)); (clear M))
          | (go_at_call 20; (have hC := parse_calls12 _ (V := .slice A9 n9 c9) (l := LB) (M9.out.bytes (e := 5) (.head _) hn9H.out) hBy.out (by have := hn9H.out; omega)); ((with_reducible refine hC.mono ?_); clear hC); rintro _ w10 ⟨_, rfl, ⟨g', n', ve', vp', vs', hp', hO', rfl, M⟩ | ⟨hp', -, -⟩⟩; rotate_left; (exact absurd (hp'.symm.trans hparse.out) (by simp)); (obtain ⟨rfl, rfl⟩ : g' = rowsG x y on j ∧ n' = n9 := by have := hp'.symm.trans hparse.out; injection this with this; injection this with h1 h2; exact ⟨h1, h2⟩); clear hp' hO'; (rw [show (rowsG x y on j).pts.length = j from rowsPts_length] at M); obtain ⟨Ae', ce', rfl⟩ := M.form (.head _); obtain ⟨Ap', cp', rfl⟩ := M.form (.tail _ (.head _)); obtain ⟨As', cs', rfl⟩ := M.form (.tail _ (.tail _ (.head _))); (have M10 := hid (M9.out.lift M)); (have hb10 := hid M.below); (have hG' := hid (show GAt w10 (rowsG x y on j) (.slice Ae' 1 ce') (.slice Ap' 0 cp') (.slice As' j cs') from ⟨M.slice (.head _), M.slice (.tail _ (.head _)), by rw [show (rowsG x y on j).pts.length = j from rowsPts_length]; exact M.slice (.tail _ (.tail _ (.head _)))⟩)); clear M)
          | ((with_reducible refine gate (N := 15) rfl ?_); refine wpList_box_Own rfl (cs := gNil) (t := 29) (by first | (go_simp; done) | (go_simp; rfl)) M10.out ?_; intro q w11 M; (have M11 := hid M); clear M)
          | ((with_reducible refine gateSt (t := 29) (p := 15) rfl ?_); refine wpList_store_all (n := 7) (L1 := []) (mid := gNil.toList) (vs := (gA (rowsG x y on j) (.slice Ae' 1 ce') (.slice Ap' 0 cp') (.slice As' j cs')).toList) rfl rfl (by kernel_rfl) rfl rfl rfl rfl rfl (one_all rfl) M11.out ?_; intro w12 M; ((have hG2 := hid (show GAt w12 (rowsG x y on j) (.slice Ae' 1 ce') (.slice Ap' 0 cp') (.slice As' j cs') from ⟨M.slice (e := 38) (by simp), M.slice (e := 5) (by simp), by rw [show (rowsG x y on j).pts.length = j from rowsPts_length]; exact M.slice (e := 37) (by simp)⟩))); ((have hG3 := hid (show GAt w12 (rowsG x y on j) (.slice Ae 1 1) (.slice none 0 0) (.slice A j c) from ⟨M.slice (e := 38) (by simp), SliceAt.nil _ _ _, by rw [show (rowsG x y on j).pts.length = j from rowsPts_length]; exact M.slice (e := 37) (by simp)⟩))); (have M12 := hid M); clear M)
          | ((with_reducible refine gate (N := 91) rfl ?_); refine wpList_run rfl (exec_load_agg agg_glyph rfl rfl M12.out (g := q) (t := 29) (cs := (gA (rowsG x y on j) (.slice Ae' 1 ce') (.slice Ap' 0 cp') (.slice As' j cs'))) (vs := (gA (rowsG x y on j) (.slice Ae' 1 ce') (.slice Ap' 0 cp') (.slice As' j cs')).toList) (by simp) rfl rfl) ?_)
          | ((with_reducible refine gate (N := 92) rfl ?_); refine wpList_run rfl (exec_load_agg agg_glyph rfl rfl M12.out (g := m) (t := 29) (cs := gA (rowsG x y on j) (.slice Ae 1 1) (.slice none 0 0) (.slice A j c)) (vs := (gA (rowsG x y on j) (.slice Ae 1 1) (.slice none 0 0) (.slice A j c)).toList) (by simp) rfl rfl) ?_)
          | (go_at_call 17; (have hC := same_calls12 w12 hG2.out hG3.out); ((with_reducible refine hC.mono ?_); clear hC); rintro _ w13 ⟨_, rfl, rfl, hb⟩; (have M13 := hid (M12.out.keep hb)); clear hb))
        go_ret
        exact .mk ⟨rfl, M13.out.below⟩
      · have hE : ((n9 : Int) == 16 + (j : Int)) = true := by have := hlen.out; rw [beq_iff_eq]; (try split at this) <;> (try split at this) <;> (try split at this) <;> omega
        have hw1 : IntKind.i64.wrap ((j : Int)) = (j : Int) := IntWalk.i64_in _ (by omega)
        have hw2 : IntKind.i64.wrap (16 + (j : Int)) = 16 + (j : Int) := IntWalk.i64_in _ (by omega)
        clear hlen
        go_wp2_with (first
          | ((with_reducible refine gate (N := 63) rfl ?_); refine wpList_run rfl (exec_load_agg agg_glyph rfl rfl M8.out (g := m) (t := 29) (cs := gA (rowsG x y on j) (.slice Ae 1 1) (.slice none 0 0) (.slice A j c)) (vs := (gA (rowsG x y on j) (.slice Ae 1 1) (.slice none 0 0) (.slice A j c)).toList) (by simp) rfl rfl) ?_)
          | (go_at_call 16; (with_reducible refine (hBytes.out).mono ?_); rintro _ w9 ⟨_, rfl, M⟩; obtain ⟨A9, c9, rfl⟩ := M.form (.head _); ((have M9 := hid (M8.out.lift M))); ((have hb9 := hid M.below)); (clear M))
          | (go_at_call 20; (have hC := parse_calls12 _ (V := .slice A9 n9 c9) (l := LB) (M9.out.bytes (e := 5) (.head _) hn9H.out) hBy.out (by have := hn9H.out; omega)); ((with_reducible refine hC.mono ?_); clear hC); rintro _ w10 ⟨_, rfl, ⟨g', n', ve', vp', vs', hp', hO', rfl, M⟩ | ⟨hp', -, -⟩⟩; rotate_left; (exact absurd (hp'.symm.trans hparse.out) (by simp)); (obtain ⟨rfl, rfl⟩ : g' = rowsG x y on j ∧ n' = n9 := by have := hp'.symm.trans hparse.out; injection this with this; injection this with h1 h2; exact ⟨h1, h2⟩); clear hp' hO'; (rw [show (rowsG x y on j).pts.length = j from rowsPts_length] at M); obtain ⟨Ae', ce', rfl⟩ := M.form (.head _); obtain ⟨Ap', cp', rfl⟩ := M.form (.tail _ (.head _)); obtain ⟨As', cs', rfl⟩ := M.form (.tail _ (.tail _ (.head _))); (have M10 := hid (M9.out.lift M)); (have hb10 := hid M.below); (have hG' := hid (show GAt w10 (rowsG x y on j) (.slice Ae' 1 ce') (.slice Ap' 0 cp') (.slice As' j cs') from ⟨M.slice (.head _), M.slice (.tail _ (.head _)), by rw [show (rowsG x y on j).pts.length = j from rowsPts_length]; exact M.slice (.tail _ (.tail _ (.head _)))⟩)); clear M)
          | ((with_reducible refine gate (N := 15) rfl ?_); refine wpList_box_Own rfl (cs := gNil) (t := 29) (by first | (go_simp; done) | (go_simp; rfl)) M10.out ?_; intro q w11 M; (have M11 := hid M); clear M)
          | ((with_reducible refine gateSt (t := 29) (p := 15) rfl ?_); refine wpList_store_all (n := 7) (L1 := []) (mid := gNil.toList) (vs := (gA (rowsG x y on j) (.slice Ae' 1 ce') (.slice Ap' 0 cp') (.slice As' j cs')).toList) rfl rfl (by kernel_rfl) rfl rfl rfl rfl rfl (one_all rfl) M11.out ?_; intro w12 M; ((have hG2 := hid (show GAt w12 (rowsG x y on j) (.slice Ae' 1 ce') (.slice Ap' 0 cp') (.slice As' j cs') from ⟨M.slice (e := 38) (by simp), M.slice (e := 5) (by simp), by rw [show (rowsG x y on j).pts.length = j from rowsPts_length]; exact M.slice (e := 37) (by simp)⟩))); ((have hG3 := hid (show GAt w12 (rowsG x y on j) (.slice Ae 1 1) (.slice none 0 0) (.slice A j c) from ⟨M.slice (e := 38) (by simp), SliceAt.nil _ _ _, by rw [show (rowsG x y on j).pts.length = j from rowsPts_length]; exact M.slice (e := 37) (by simp)⟩))); (have M12 := hid M); clear M)
          | ((with_reducible refine gate (N := 91) rfl ?_); refine wpList_run rfl (exec_load_agg agg_glyph rfl rfl M12.out (g := q) (t := 29) (cs := (gA (rowsG x y on j) (.slice Ae' 1 ce') (.slice Ap' 0 cp') (.slice As' j cs'))) (vs := (gA (rowsG x y on j) (.slice Ae' 1 ce') (.slice Ap' 0 cp') (.slice As' j cs')).toList) (by simp) rfl rfl) ?_)
          | ((with_reducible refine gate (N := 92) rfl ?_); refine wpList_run rfl (exec_load_agg agg_glyph rfl rfl M12.out (g := m) (t := 29) (cs := gA (rowsG x y on j) (.slice Ae 1 1) (.slice none 0 0) (.slice A j c)) (vs := (gA (rowsG x y on j) (.slice Ae 1 1) (.slice none 0 0) (.slice A j c)).toList) (by simp) rfl rfl) ?_)
          | (go_at_call 17; (have hC := same_calls12 w12 hG2.out hG3.out); ((with_reducible refine hC.mono ?_); clear hC); rintro _ w13 ⟨_, rfl, rfl, hb⟩; (have M13 := hid (M12.out.keep hb)); clear hb))
        go_ret
        exact .mk ⟨rfl, M13.out.below⟩
      · have hE : ((n9 : Int) == 16 + 2 * (j : Int)) = true := by have := hlen.out; rw [beq_iff_eq]; (try split at this) <;> (try split at this) <;> (try split at this) <;> omega
        have hw1 : IntKind.i64.wrap (2 * (j : Int)) = 2 * (j : Int) := IntWalk.i64_in _ (by omega)
        have hw2 : IntKind.i64.wrap (16 + 2 * (j : Int)) = 16 + 2 * (j : Int) := IntWalk.i64_in _ (by omega)
        clear hlen
        go_wp2_with (first
          | ((with_reducible refine gate (N := 63) rfl ?_); refine wpList_run rfl (exec_load_agg agg_glyph rfl rfl M8.out (g := m) (t := 29) (cs := gA (rowsG x y on j) (.slice Ae 1 1) (.slice none 0 0) (.slice A j c)) (vs := (gA (rowsG x y on j) (.slice Ae 1 1) (.slice none 0 0) (.slice A j c)).toList) (by simp) rfl rfl) ?_)
          | (go_at_call 16; (with_reducible refine (hBytes.out).mono ?_); rintro _ w9 ⟨_, rfl, M⟩; obtain ⟨A9, c9, rfl⟩ := M.form (.head _); ((have M9 := hid (M8.out.lift M))); ((have hb9 := hid M.below)); (clear M))
          | (go_at_call 20; (have hC := parse_calls12 _ (V := .slice A9 n9 c9) (l := LB) (M9.out.bytes (e := 5) (.head _) hn9H.out) hBy.out (by have := hn9H.out; omega)); ((with_reducible refine hC.mono ?_); clear hC); rintro _ w10 ⟨_, rfl, ⟨g', n', ve', vp', vs', hp', hO', rfl, M⟩ | ⟨hp', -, -⟩⟩; rotate_left; (exact absurd (hp'.symm.trans hparse.out) (by simp)); (obtain ⟨rfl, rfl⟩ : g' = rowsG x y on j ∧ n' = n9 := by have := hp'.symm.trans hparse.out; injection this with this; injection this with h1 h2; exact ⟨h1, h2⟩); clear hp' hO'; (rw [show (rowsG x y on j).pts.length = j from rowsPts_length] at M); obtain ⟨Ae', ce', rfl⟩ := M.form (.head _); obtain ⟨Ap', cp', rfl⟩ := M.form (.tail _ (.head _)); obtain ⟨As', cs', rfl⟩ := M.form (.tail _ (.tail _ (.head _))); (have M10 := hid (M9.out.lift M)); (have hb10 := hid M.below); (have hG' := hid (show GAt w10 (rowsG x y on j) (.slice Ae' 1 ce') (.slice Ap' 0 cp') (.slice As' j cs') from ⟨M.slice (.head _), M.slice (.tail _ (.head _)), by rw [show (rowsG x y on j).pts.length = j from rowsPts_length]; exact M.slice (.tail _ (.tail _ (.head _)))⟩)); clear M)
          | ((with_reducible refine gate (N := 15) rfl ?_); refine wpList_box_Own rfl (cs := gNil) (t := 29) (by first | (go_simp; done) | (go_simp; rfl)) M10.out ?_; intro q w11 M; (have M11 := hid M); clear M)
          | ((with_reducible refine gateSt (t := 29) (p := 15) rfl ?_); refine wpList_store_all (n := 7) (L1 := []) (mid := gNil.toList) (vs := (gA (rowsG x y on j) (.slice Ae' 1 ce') (.slice Ap' 0 cp') (.slice As' j cs')).toList) rfl rfl (by kernel_rfl) rfl rfl rfl rfl rfl (one_all rfl) M11.out ?_; intro w12 M; ((have hG2 := hid (show GAt w12 (rowsG x y on j) (.slice Ae' 1 ce') (.slice Ap' 0 cp') (.slice As' j cs') from ⟨M.slice (e := 38) (by simp), M.slice (e := 5) (by simp), by rw [show (rowsG x y on j).pts.length = j from rowsPts_length]; exact M.slice (e := 37) (by simp)⟩))); ((have hG3 := hid (show GAt w12 (rowsG x y on j) (.slice Ae 1 1) (.slice none 0 0) (.slice A j c) from ⟨M.slice (e := 38) (by simp), SliceAt.nil _ _ _, by rw [show (rowsG x y on j).pts.length = j from rowsPts_length]; exact M.slice (e := 37) (by simp)⟩))); (have M12 := hid M); clear M)
          | ((with_reducible refine gate (N := 91) rfl ?_); refine wpList_run rfl (exec_load_agg agg_glyph rfl rfl M12.out (g := q) (t := 29) (cs := (gA (rowsG x y on j) (.slice Ae' 1 ce') (.slice Ap' 0 cp') (.slice As' j cs'))) (vs := (gA (rowsG x y on j) (.slice Ae' 1 ce') (.slice Ap' 0 cp') (.slice As' j cs')).toList) (by simp) rfl rfl) ?_)
          | ((with_reducible refine gate (N := 92) rfl ?_); refine wpList_run rfl (exec_load_agg agg_glyph rfl rfl M12.out (g := m) (t := 29) (cs := gA (rowsG x y on j) (.slice Ae 1 1) (.slice none 0 0) (.slice A j c)) (vs := (gA (rowsG x y on j) (.slice Ae 1 1) (.slice none 0 0) (.slice A j c)).toList) (by simp) rfl rfl) ?_)
          | (go_at_call 17; (have hC := same_calls12 w12 hG2.out hG3.out); ((with_reducible refine hC.mono ?_); clear hC); rintro _ w13 ⟨_, rfl, rfl, hb⟩; (have M13 := hid (M12.out.keep hb)); clear hb))
        go_ret
        exact .mk ⟨rfl, M13.out.below⟩
      · have hE : ((n9 : Int) == 15) = true := by have := hlen.out; rw [beq_iff_eq]; (try split at this) <;> (try split at this) <;> (try split at this) <;> omega
        have hw1 : IntKind.i64.wrap (0) = 0 := IntWalk.i64_in _ (by omega)
        have hw2 : IntKind.i64.wrap (15) = 15 := IntWalk.i64_in _ (by omega)
        clear hlen
        go_wp2_with (first
          | ((with_reducible refine gate (N := 63) rfl ?_); refine wpList_run rfl (exec_load_agg agg_glyph rfl rfl M8.out (g := m) (t := 29) (cs := gA (rowsG x y on j) (.slice Ae 1 1) (.slice none 0 0) (.slice A j c)) (vs := (gA (rowsG x y on j) (.slice Ae 1 1) (.slice none 0 0) (.slice A j c)).toList) (by simp) rfl rfl) ?_)
          | (go_at_call 16; (with_reducible refine (hBytes.out).mono ?_); rintro _ w9 ⟨_, rfl, M⟩; obtain ⟨A9, c9, rfl⟩ := M.form (.head _); ((have M9 := hid (M8.out.lift M))); ((have hb9 := hid M.below)); (clear M))
          | (go_at_call 20; (have hC := parse_calls12 _ (V := .slice A9 n9 c9) (l := LB) (M9.out.bytes (e := 5) (.head _) hn9H.out) hBy.out (by have := hn9H.out; omega)); ((with_reducible refine hC.mono ?_); clear hC); rintro _ w10 ⟨_, rfl, ⟨g', n', ve', vp', vs', hp', hO', rfl, M⟩ | ⟨hp', -, -⟩⟩; rotate_left; (exact absurd (hp'.symm.trans hparse.out) (by simp)); (obtain ⟨rfl, rfl⟩ : g' = rowsG x y on j ∧ n' = n9 := by have := hp'.symm.trans hparse.out; injection this with this; injection this with h1 h2; exact ⟨h1, h2⟩); clear hp' hO'; (rw [show (rowsG x y on j).pts.length = j from rowsPts_length] at M); obtain ⟨Ae', ce', rfl⟩ := M.form (.head _); obtain ⟨Ap', cp', rfl⟩ := M.form (.tail _ (.head _)); obtain ⟨As', cs', rfl⟩ := M.form (.tail _ (.tail _ (.head _))); (have M10 := hid (M9.out.lift M)); (have hb10 := hid M.below); (have hG' := hid (show GAt w10 (rowsG x y on j) (.slice Ae' 1 ce') (.slice Ap' 0 cp') (.slice As' j cs') from ⟨M.slice (.head _), M.slice (.tail _ (.head _)), by rw [show (rowsG x y on j).pts.length = j from rowsPts_length]; exact M.slice (.tail _ (.tail _ (.head _)))⟩)); clear M)
          | ((with_reducible refine gate (N := 15) rfl ?_); refine wpList_box_Own rfl (cs := gNil) (t := 29) (by first | (go_simp; done) | (go_simp; rfl)) M10.out ?_; intro q w11 M; (have M11 := hid M); clear M)
          | ((with_reducible refine gateSt (t := 29) (p := 15) rfl ?_); refine wpList_store_all (n := 7) (L1 := []) (mid := gNil.toList) (vs := (gA (rowsG x y on j) (.slice Ae' 1 ce') (.slice Ap' 0 cp') (.slice As' j cs')).toList) rfl rfl (by kernel_rfl) rfl rfl rfl rfl rfl (one_all rfl) M11.out ?_; intro w12 M; ((have hG2 := hid (show GAt w12 (rowsG x y on j) (.slice Ae' 1 ce') (.slice Ap' 0 cp') (.slice As' j cs') from ⟨M.slice (e := 38) (by simp), M.slice (e := 5) (by simp), by rw [show (rowsG x y on j).pts.length = j from rowsPts_length]; exact M.slice (e := 37) (by simp)⟩))); ((have hG3 := hid (show GAt w12 (rowsG x y on j) (.slice Ae 1 1) (.slice none 0 0) (.slice A j c) from ⟨M.slice (e := 38) (by simp), SliceAt.nil _ _ _, by rw [show (rowsG x y on j).pts.length = j from rowsPts_length]; exact M.slice (e := 37) (by simp)⟩))); (have M12 := hid M); clear M)
          | ((with_reducible refine gate (N := 91) rfl ?_); refine wpList_run rfl (exec_load_agg agg_glyph rfl rfl M12.out (g := q) (t := 29) (cs := (gA (rowsG x y on j) (.slice Ae' 1 ce') (.slice Ap' 0 cp') (.slice As' j cs'))) (vs := (gA (rowsG x y on j) (.slice Ae' 1 ce') (.slice Ap' 0 cp') (.slice As' j cs')).toList) (by simp) rfl rfl) ?_)
          | ((with_reducible refine gate (N := 92) rfl ?_); refine wpList_run rfl (exec_load_agg agg_glyph rfl rfl M12.out (g := m) (t := 29) (cs := gA (rowsG x y on j) (.slice Ae 1 1) (.slice none 0 0) (.slice A j c)) (vs := (gA (rowsG x y on j) (.slice Ae 1 1) (.slice none 0 0) (.slice A j c)).toList) (by simp) rfl rfl) ?_)
          | (go_at_call 17; (have hC := same_calls12 w12 hG2.out hG3.out); ((with_reducible refine hC.mono ?_); clear hC); rintro _ w13 ⟨_, rfl, rfl, hb⟩; (have M13 := hid (M12.out.keep hb)); clear hb))
        go_ret
        exact .mk ⟨rfl, M13.out.below⟩
      · have hE : ((n9 : Int) == 15 + (j : Int)) = true := by have := hlen.out; rw [beq_iff_eq]; (try split at this) <;> (try split at this) <;> (try split at this) <;> omega
        have hw1 : IntKind.i64.wrap ((j : Int)) = (j : Int) := IntWalk.i64_in _ (by omega)
        have hw2 : IntKind.i64.wrap (15 + (j : Int)) = 15 + (j : Int) := IntWalk.i64_in _ (by omega)
        clear hlen
        go_wp2_with (first
          | ((with_reducible refine gate (N := 63) rfl ?_); refine wpList_run rfl (exec_load_agg agg_glyph rfl rfl M8.out (g := m) (t := 29) (cs := gA (rowsG x y on j) (.slice Ae 1 1) (.slice none 0 0) (.slice A j c)) (vs := (gA (rowsG x y on j) (.slice Ae 1 1) (.slice none 0 0) (.slice A j c)).toList) (by simp) rfl rfl) ?_)
          | (go_at_call 16; (with_reducible refine (hBytes.out).mono ?_); rintro _ w9 ⟨_, rfl, M⟩; obtain ⟨A9, c9, rfl⟩ := M.form (.head _); ((have M9 := hid (M8.out.lift M))); ((have hb9 := hid M.below)); (clear M))
          | (go_at_call 20; (have hC := parse_calls12 _ (V := .slice A9 n9 c9) (l := LB) (M9.out.bytes (e := 5) (.head _) hn9H.out) hBy.out (by have := hn9H.out; omega)); ((with_reducible refine hC.mono ?_); clear hC); rintro _ w10 ⟨_, rfl, ⟨g', n', ve', vp', vs', hp', hO', rfl, M⟩ | ⟨hp', -, -⟩⟩; rotate_left; (exact absurd (hp'.symm.trans hparse.out) (by simp)); (obtain ⟨rfl, rfl⟩ : g' = rowsG x y on j ∧ n' = n9 := by have := hp'.symm.trans hparse.out; injection this with this; injection this with h1 h2; exact ⟨h1, h2⟩); clear hp' hO'; (rw [show (rowsG x y on j).pts.length = j from rowsPts_length] at M); obtain ⟨Ae', ce', rfl⟩ := M.form (.head _); obtain ⟨Ap', cp', rfl⟩ := M.form (.tail _ (.head _)); obtain ⟨As', cs', rfl⟩ := M.form (.tail _ (.tail _ (.head _))); (have M10 := hid (M9.out.lift M)); (have hb10 := hid M.below); (have hG' := hid (show GAt w10 (rowsG x y on j) (.slice Ae' 1 ce') (.slice Ap' 0 cp') (.slice As' j cs') from ⟨M.slice (.head _), M.slice (.tail _ (.head _)), by rw [show (rowsG x y on j).pts.length = j from rowsPts_length]; exact M.slice (.tail _ (.tail _ (.head _)))⟩)); clear M)
          | ((with_reducible refine gate (N := 15) rfl ?_); refine wpList_box_Own rfl (cs := gNil) (t := 29) (by first | (go_simp; done) | (go_simp; rfl)) M10.out ?_; intro q w11 M; (have M11 := hid M); clear M)
          | ((with_reducible refine gateSt (t := 29) (p := 15) rfl ?_); refine wpList_store_all (n := 7) (L1 := []) (mid := gNil.toList) (vs := (gA (rowsG x y on j) (.slice Ae' 1 ce') (.slice Ap' 0 cp') (.slice As' j cs')).toList) rfl rfl (by kernel_rfl) rfl rfl rfl rfl rfl (one_all rfl) M11.out ?_; intro w12 M; ((have hG2 := hid (show GAt w12 (rowsG x y on j) (.slice Ae' 1 ce') (.slice Ap' 0 cp') (.slice As' j cs') from ⟨M.slice (e := 38) (by simp), M.slice (e := 5) (by simp), by rw [show (rowsG x y on j).pts.length = j from rowsPts_length]; exact M.slice (e := 37) (by simp)⟩))); ((have hG3 := hid (show GAt w12 (rowsG x y on j) (.slice Ae 1 1) (.slice none 0 0) (.slice A j c) from ⟨M.slice (e := 38) (by simp), SliceAt.nil _ _ _, by rw [show (rowsG x y on j).pts.length = j from rowsPts_length]; exact M.slice (e := 37) (by simp)⟩))); (have M12 := hid M); clear M)
          | ((with_reducible refine gate (N := 91) rfl ?_); refine wpList_run rfl (exec_load_agg agg_glyph rfl rfl M12.out (g := q) (t := 29) (cs := (gA (rowsG x y on j) (.slice Ae' 1 ce') (.slice Ap' 0 cp') (.slice As' j cs'))) (vs := (gA (rowsG x y on j) (.slice Ae' 1 ce') (.slice Ap' 0 cp') (.slice As' j cs')).toList) (by simp) rfl rfl) ?_)
          | ((with_reducible refine gate (N := 92) rfl ?_); refine wpList_run rfl (exec_load_agg agg_glyph rfl rfl M12.out (g := m) (t := 29) (cs := gA (rowsG x y on j) (.slice Ae 1 1) (.slice none 0 0) (.slice A j c)) (vs := (gA (rowsG x y on j) (.slice Ae 1 1) (.slice none 0 0) (.slice A j c)).toList) (by simp) rfl rfl) ?_)
          | (go_at_call 17; (have hC := same_calls12 w12 hG2.out hG3.out); ((with_reducible refine hC.mono ?_); clear hC); rintro _ w13 ⟨_, rfl, rfl, hb⟩; (have M13 := hid (M12.out.keep hb)); clear hb))
        go_ret
        exact .mk ⟨rfl, M13.out.below⟩
      · have hE : ((n9 : Int) == 15 + (j : Int)) = true := by have := hlen.out; rw [beq_iff_eq]; (try split at this) <;> (try split at this) <;> (try split at this) <;> omega
        have hw1 : IntKind.i64.wrap ((j : Int)) = (j : Int) := IntWalk.i64_in _ (by omega)
        have hw2 : IntKind.i64.wrap (15 + (j : Int)) = 15 + (j : Int) := IntWalk.i64_in _ (by omega)
        clear hlen
        go_wp2_with (first
          | ((with_reducible refine gate (N := 63) rfl ?_); refine wpList_run rfl (exec_load_agg agg_glyph rfl rfl M8.out (g := m) (t := 29) (cs := gA (rowsG x y on j) (.slice Ae 1 1) (.slice none 0 0) (.slice A j c)) (vs := (gA (rowsG x y on j) (.slice Ae 1 1) (.slice none 0 0) (.slice A j c)).toList) (by simp) rfl rfl) ?_)
          | (go_at_call 16; (with_reducible refine (hBytes.out).mono ?_); rintro _ w9 ⟨_, rfl, M⟩; obtain ⟨A9, c9, rfl⟩ := M.form (.head _); ((have M9 := hid (M8.out.lift M))); ((have hb9 := hid M.below)); (clear M))
          | (go_at_call 20; (have hC := parse_calls12 _ (V := .slice A9 n9 c9) (l := LB) (M9.out.bytes (e := 5) (.head _) hn9H.out) hBy.out (by have := hn9H.out; omega)); ((with_reducible refine hC.mono ?_); clear hC); rintro _ w10 ⟨_, rfl, ⟨g', n', ve', vp', vs', hp', hO', rfl, M⟩ | ⟨hp', -, -⟩⟩; rotate_left; (exact absurd (hp'.symm.trans hparse.out) (by simp)); (obtain ⟨rfl, rfl⟩ : g' = rowsG x y on j ∧ n' = n9 := by have := hp'.symm.trans hparse.out; injection this with this; injection this with h1 h2; exact ⟨h1, h2⟩); clear hp' hO'; (rw [show (rowsG x y on j).pts.length = j from rowsPts_length] at M); obtain ⟨Ae', ce', rfl⟩ := M.form (.head _); obtain ⟨Ap', cp', rfl⟩ := M.form (.tail _ (.head _)); obtain ⟨As', cs', rfl⟩ := M.form (.tail _ (.tail _ (.head _))); (have M10 := hid (M9.out.lift M)); (have hb10 := hid M.below); (have hG' := hid (show GAt w10 (rowsG x y on j) (.slice Ae' 1 ce') (.slice Ap' 0 cp') (.slice As' j cs') from ⟨M.slice (.head _), M.slice (.tail _ (.head _)), by rw [show (rowsG x y on j).pts.length = j from rowsPts_length]; exact M.slice (.tail _ (.tail _ (.head _)))⟩)); clear M)
          | ((with_reducible refine gate (N := 15) rfl ?_); refine wpList_box_Own rfl (cs := gNil) (t := 29) (by first | (go_simp; done) | (go_simp; rfl)) M10.out ?_; intro q w11 M; (have M11 := hid M); clear M)
          | ((with_reducible refine gateSt (t := 29) (p := 15) rfl ?_); refine wpList_store_all (n := 7) (L1 := []) (mid := gNil.toList) (vs := (gA (rowsG x y on j) (.slice Ae' 1 ce') (.slice Ap' 0 cp') (.slice As' j cs')).toList) rfl rfl (by kernel_rfl) rfl rfl rfl rfl rfl (one_all rfl) M11.out ?_; intro w12 M; ((have hG2 := hid (show GAt w12 (rowsG x y on j) (.slice Ae' 1 ce') (.slice Ap' 0 cp') (.slice As' j cs') from ⟨M.slice (e := 38) (by simp), M.slice (e := 5) (by simp), by rw [show (rowsG x y on j).pts.length = j from rowsPts_length]; exact M.slice (e := 37) (by simp)⟩))); ((have hG3 := hid (show GAt w12 (rowsG x y on j) (.slice Ae 1 1) (.slice none 0 0) (.slice A j c) from ⟨M.slice (e := 38) (by simp), SliceAt.nil _ _ _, by rw [show (rowsG x y on j).pts.length = j from rowsPts_length]; exact M.slice (e := 37) (by simp)⟩))); (have M12 := hid M); clear M)
          | ((with_reducible refine gate (N := 91) rfl ?_); refine wpList_run rfl (exec_load_agg agg_glyph rfl rfl M12.out (g := q) (t := 29) (cs := (gA (rowsG x y on j) (.slice Ae' 1 ce') (.slice Ap' 0 cp') (.slice As' j cs'))) (vs := (gA (rowsG x y on j) (.slice Ae' 1 ce') (.slice Ap' 0 cp') (.slice As' j cs')).toList) (by simp) rfl rfl) ?_)
          | ((with_reducible refine gate (N := 92) rfl ?_); refine wpList_run rfl (exec_load_agg agg_glyph rfl rfl M12.out (g := m) (t := 29) (cs := gA (rowsG x y on j) (.slice Ae 1 1) (.slice none 0 0) (.slice A j c)) (vs := (gA (rowsG x y on j) (.slice Ae 1 1) (.slice none 0 0) (.slice A j c)).toList) (by simp) rfl rfl) ?_)
          | (go_at_call 17; (have hC := same_calls12 w12 hG2.out hG3.out); ((with_reducible refine hC.mono ?_); clear hC); rintro _ w13 ⟨_, rfl, rfl, hb⟩; (have M13 := hid (M12.out.keep hb)); clear hb))
        go_ret
        exact .mk ⟨rfl, M13.out.below⟩
      · have hE : ((n9 : Int) == 15 + 2 * (j : Int)) = true := by have := hlen.out; rw [beq_iff_eq]; (try split at this) <;> (try split at this) <;> (try split at this) <;> omega
        have hw1 : IntKind.i64.wrap (2 * (j : Int)) = 2 * (j : Int) := IntWalk.i64_in _ (by omega)
        have hw2 : IntKind.i64.wrap (15 + 2 * (j : Int)) = 15 + 2 * (j : Int) := IntWalk.i64_in _ (by omega)
        clear hlen
        go_wp2_with (first
          | ((with_reducible refine gate (N := 63) rfl ?_); refine wpList_run rfl (exec_load_agg agg_glyph rfl rfl M8.out (g := m) (t := 29) (cs := gA (rowsG x y on j) (.slice Ae 1 1) (.slice none 0 0) (.slice A j c)) (vs := (gA (rowsG x y on j) (.slice Ae 1 1) (.slice none 0 0) (.slice A j c)).toList) (by simp) rfl rfl) ?_)
          | (go_at_call 16; (with_reducible refine (hBytes.out).mono ?_); rintro _ w9 ⟨_, rfl, M⟩; obtain ⟨A9, c9, rfl⟩ := M.form (.head _); ((have M9 := hid (M8.out.lift M))); ((have hb9 := hid M.below)); (clear M))
          | (go_at_call 20; (have hC := parse_calls12 _ (V := .slice A9 n9 c9) (l := LB) (M9.out.bytes (e := 5) (.head _) hn9H.out) hBy.out (by have := hn9H.out; omega)); ((with_reducible refine hC.mono ?_); clear hC); rintro _ w10 ⟨_, rfl, ⟨g', n', ve', vp', vs', hp', hO', rfl, M⟩ | ⟨hp', -, -⟩⟩; rotate_left; (exact absurd (hp'.symm.trans hparse.out) (by simp)); (obtain ⟨rfl, rfl⟩ : g' = rowsG x y on j ∧ n' = n9 := by have := hp'.symm.trans hparse.out; injection this with this; injection this with h1 h2; exact ⟨h1, h2⟩); clear hp' hO'; (rw [show (rowsG x y on j).pts.length = j from rowsPts_length] at M); obtain ⟨Ae', ce', rfl⟩ := M.form (.head _); obtain ⟨Ap', cp', rfl⟩ := M.form (.tail _ (.head _)); obtain ⟨As', cs', rfl⟩ := M.form (.tail _ (.tail _ (.head _))); (have M10 := hid (M9.out.lift M)); (have hb10 := hid M.below); (have hG' := hid (show GAt w10 (rowsG x y on j) (.slice Ae' 1 ce') (.slice Ap' 0 cp') (.slice As' j cs') from ⟨M.slice (.head _), M.slice (.tail _ (.head _)), by rw [show (rowsG x y on j).pts.length = j from rowsPts_length]; exact M.slice (.tail _ (.tail _ (.head _)))⟩)); clear M)
          | ((with_reducible refine gate (N := 15) rfl ?_); refine wpList_box_Own rfl (cs := gNil) (t := 29) (by first | (go_simp; done) | (go_simp; rfl)) M10.out ?_; intro q w11 M; (have M11 := hid M); clear M)
          | ((with_reducible refine gateSt (t := 29) (p := 15) rfl ?_); refine wpList_store_all (n := 7) (L1 := []) (mid := gNil.toList) (vs := (gA (rowsG x y on j) (.slice Ae' 1 ce') (.slice Ap' 0 cp') (.slice As' j cs')).toList) rfl rfl (by kernel_rfl) rfl rfl rfl rfl rfl (one_all rfl) M11.out ?_; intro w12 M; ((have hG2 := hid (show GAt w12 (rowsG x y on j) (.slice Ae' 1 ce') (.slice Ap' 0 cp') (.slice As' j cs') from ⟨M.slice (e := 38) (by simp), M.slice (e := 5) (by simp), by rw [show (rowsG x y on j).pts.length = j from rowsPts_length]; exact M.slice (e := 37) (by simp)⟩))); ((have hG3 := hid (show GAt w12 (rowsG x y on j) (.slice Ae 1 1) (.slice none 0 0) (.slice A j c) from ⟨M.slice (e := 38) (by simp), SliceAt.nil _ _ _, by rw [show (rowsG x y on j).pts.length = j from rowsPts_length]; exact M.slice (e := 37) (by simp)⟩))); (have M12 := hid M); clear M)
          | ((with_reducible refine gate (N := 91) rfl ?_); refine wpList_run rfl (exec_load_agg agg_glyph rfl rfl M12.out (g := q) (t := 29) (cs := (gA (rowsG x y on j) (.slice Ae' 1 ce') (.slice Ap' 0 cp') (.slice As' j cs'))) (vs := (gA (rowsG x y on j) (.slice Ae' 1 ce') (.slice Ap' 0 cp') (.slice As' j cs')).toList) (by simp) rfl rfl) ?_)
          | ((with_reducible refine gate (N := 92) rfl ?_); refine wpList_run rfl (exec_load_agg agg_glyph rfl rfl M12.out (g := m) (t := 29) (cs := gA (rowsG x y on j) (.slice Ae 1 1) (.slice none 0 0) (.slice A j c)) (vs := (gA (rowsG x y on j) (.slice Ae 1 1) (.slice none 0 0) (.slice A j c)).toList) (by simp) rfl rfl) ?_)
          | (go_at_call 17; (have hC := same_calls12 w12 hG2.out hG3.out); ((with_reducible refine hC.mono ?_); clear hC); rintro _ w13 ⟨_, rfl, rfl, hb⟩; (have M13 := hid (M12.out.keep hb)); clear hb))
        go_ret
        exact .mk ⟨rfl, M13.out.below⟩
end Go.Proofs.Ytmmepjcndofnbaa
