/- Layer 1: WordNil: nil readers and writers; what was handed in, and what is told, is nobody else's. -/
import Derived.Test.YtlfjfdaeoclakaaLaw01A
import Derived.Test.YtlfjfdaeoclakaaJoin
import Derived.Test.YtlfjfdaeoclakaaRead
import Derived.Test.YtlfjfdaeoclakaaRowSet
namespace Go.Proofs.Ytlfjfdaeoclakaa
open Go Go.RowKit
set_option linter.unusedVariables false
set_option linter.unusedSimpArgs false
set_option maxRecDepth 100000

theorem nil_number (w : World) (n : Int) : Calls Try.prog 37 #[.pointer none, .int .i64 n] w (Ret fun r w' => r = .int .u32 0 ∧ w = w') := by
  go_enter Try.func37, Try.ntmps37
  go_wp2_with (go_at_call 38; refine (next_nil _ _).mono ?_; rintro _ _ ⟨_, rfl, rfl, rfl⟩)
  go_ret
  exact .mk ⟨rfl, rfl⟩
theorem nil_U8 (w : World) : Calls Try.prog 12 #[.pointer none] w (Ret fun r w' => r = .int .u8 0 ∧ w = w') := by
  go_enter Try.func12, Try.ntmps12
  go_wp2_with (go_at_call 37; refine (nil_number _ _).mono ?_; rintro _ _ ⟨_, rfl, rfl, rfl⟩)
  go_ret
  exact .mk ⟨rfl, rfl⟩
theorem nil_U16 (w : World) : Calls Try.prog 19 #[.pointer none] w (Ret fun r w' => r = .int .u16 0 ∧ w = w') := by
  go_enter Try.func19, Try.ntmps19
  go_wp2_with (go_at_call 37; refine (nil_number _ _).mono ?_; rintro _ _ ⟨_, rfl, rfl, rfl⟩)
  go_ret
  exact .mk ⟨rfl, rfl⟩
theorem nil_I16 (w : World) : Calls Try.prog 20 #[.pointer none] w (Ret fun r w' => r = .int .i16 0 ∧ w = w') := by
  go_enter Try.func20, Try.ntmps20
  go_wp2_with (go_at_call 19; refine (nil_U16 _).mono ?_; rintro _ _ ⟨_, rfl, rfl, rfl⟩)
  go_ret
  exact .mk ⟨rfl, rfl⟩
theorem nil_U32 (w : World) : Calls Try.prog 25 #[.pointer none] w (Ret fun r w' => r = .int .u32 0 ∧ w = w') := by
  go_enter Try.func25, Try.ntmps25
  go_wp2_with (go_at_call 37; refine (nil_number _ _).mono ?_; rintro _ _ ⟨_, rfl, rfl, rfl⟩)
  go_ret
  exact .mk ⟨rfl, rfl⟩
theorem nil_Take (w : World) (n : Int) : Calls Try.prog 26 #[.pointer none, .int .i64 n] w (Ret fun r w' => Own w w' [.row 5 1 r 0 []]) := by
  go_enter Try.func26, Try.ntmps26
  go_wp2_with (first
    | (go_at_call 38; refine (next_nil _ _).mono ?_; rintro _ _ ⟨_, rfl, rfl, rfl⟩)
    | (go_at_call 36; refine (clone_calls _ (SliceAt.nil _ _ _) (by simp) (by omega)).mono ?_; rintro _ w2 ⟨_, rfl, M⟩; (have M2 := hid M); clear M))
  go_ret
  exact .mk M2.out
theorem nil_At (w : World) : Calls Try.prog 21 #[.pointer none] w (Ret fun r w' => r = .int .i64 0 ∧ w = w') := by
  go_enter Try.func21, Try.ntmps21
  go_wp2
  go_ret
  exact .mk ⟨rfl, rfl⟩
theorem nil_Bad (w : World) : Calls Try.prog 14 #[.pointer none] w (Ret fun r w' => r = .bool true ∧ w = w') := by
  go_enter Try.func14, Try.ntmps14
  go_wp2
  go_ret
  exact .mk ⟨rfl, rfl⟩
theorem nil_Left (w : World) : Calls Try.prog 13 #[.pointer none] w (Ret fun r w' => r = .int .i64 0 ∧ w = w') := by
  go_enter Try.func13, Try.ntmps13
  go_wp2_with (go_at_call 14; refine (nil_Bad _).mono ?_; rintro _ _ ⟨_, rfl, rfl, rfl⟩)
  go_ret
  exact .mk ⟨rfl, rfl⟩
theorem nil_Put (w : World) (v : Value) : Calls Try.prog 31 #[.pointer none, v] w (Ret fun r w' => r = .pointer none ∧ w = w') := by
  go_enter Try.func31, Try.ntmps31
  go_wp2
  go_ret
  exact .mk ⟨rfl, rfl⟩
theorem nil_wU8 (w : World) : Calls Try.prog 27 #[.pointer none, .int .u8 1] w (Ret fun r w' => r = .pointer none ∧ Below w.heap.size w w') := by
  go_enter Try.func27, Try.ntmps27
  go_wp2_with (go_at_call 31; refine (nil_Put _ _).mono ?_; rintro _ _ ⟨_, rfl, rfl, rfl⟩)
  go_ret
  exact .mk ⟨rfl, by go_grown⟩
theorem nil_wU16 (w : World) {n : Int} (h0 : 0 ≤ n) (h1 : n < 65536) : Calls Try.prog 28 #[.pointer none, .int .u16 n] w (Ret fun r w' => r = .pointer none ∧ Below w.heap.size w w') := by
  go_enter Try.func28, Try.ntmps28
  go_wp2_with (go_at_call 31; refine (nil_Put _ _).mono ?_; rintro _ _ ⟨_, rfl, rfl, rfl⟩)
  go_ret
  exact .mk ⟨rfl, by go_grown⟩
theorem nil_wI16 (w : World) : Calls Try.prog 29 #[.pointer none, .int .i16 3] w (Ret fun r w' => r = .pointer none ∧ Below w.heap.size w w') := by
  go_enter Try.func29, Try.ntmps29
  go_wp2_with (go_at_call 28; refine (nil_wU16 _ (by omega) (by omega)).mono ?_; rintro _ w1 ⟨_, rfl, rfl, hb⟩; (have hbH := hid hb); (clear hb))
  go_ret
  exact .mk ⟨rfl, hbH.out⟩
theorem nil_wU32 (w : World) : Calls Try.prog 30 #[.pointer none, .int .u32 4] w (Ret fun r w' => r = .pointer none ∧ Below w.heap.size w w') := by
  have M0 := hid (Own.start w)
  go_enter Try.func30, Try.ntmps30
  go_wp2_with (first
    | (go_at_call 28; (with_reducible refine (nil_wU16 _ (n := 0) (by omega) (by omega)).mono ?_); rintro _ w1 ⟨_, rfl, rfl, hb⟩; (have M1 := hid (M0.out.keep hb)); clear hb M0)
    | (go_at_call 28; (with_reducible refine (nil_wU16 _ (n := 4) (by omega) (by omega)).mono ?_); rintro _ w2 ⟨_, rfl, rfl, hb⟩; (have M2 := hid (M1.out.keep hb)); clear hb))
  go_ret
  exact .mk ⟨rfl, M2.out.below⟩
theorem nil_Done (w : World) : Calls Try.prog 32 #[.pointer none] w (Ret fun r w' => r = .slice none 0 0 ∧ w = w') := by
  go_enter Try.func32, Try.ntmps32
  go_wp2
  go_ret
  exact .mk ⟨rfl, rfl⟩

theorem ints_set (k : IntKind) (l : List Int) (i : Nat) (x : Int) : (ints k l).set i (.int k x) = ints k (l.set i x) := by simp [ints, List.map_set]
theorem rOk_at' {l : List Int} {a m : Nat} (h : a + m ≤ l.length) : rOk l a false m = true := by
  simp only [rOk, Bool.not_false, Bool.true_and, decide_eq_true_eq]; omega
theorem take_whole (l : List Int) : rBytes l 0 false (l.length : Int) = l ∧ rOk l 0 false (l.length : Int) = true := by
  have h : rOk l 0 false (l.length : Int) = true := rOk_at' (by simp)
  exact ⟨by unfold rBytes; rw [h, if_pos rfl, List.drop_zero, Int.toNat_natCast, List.take_length], h⟩

set_option maxHeartbeats 8000000 in
theorem wordNil_calls (w : World) {V : Value} {xs : List Int} (N : Int) (h1 : BytesAt w V xs) (hB : Bytes xs) :
    Calls Try.prog 8 #[V, .int .i64 N] w (Ret fun r w' => r = .bool true ∧ Below w.heap.size w w') := by
  have M0 := hid (Own.start w)
  have hC := hid (fun w1 (h : Below w.heap.size w w1) => cut_calls w1 20 (by omega) (h1.below h) (by omega))
  have hl : (xs.take 20).length ≤ 20 := by simp; omega
  have hBl : Bytes (xs.take 20) := hB.take 20
  obtain ⟨A1, c1, rfl, -⟩ := h1
  generalize xs.take 20 = l at *
  obtain ⟨n, hn⟩ : ∃ n, l.length = n := ⟨_, rfl⟩
  rw [hn] at hl hC
  have hTk := hid (take_whole l)
  rw [hn] at hTk
  replace hn := hid hn
  replace hBl := hid hBl
  clear hB
  go_enter Try.func8, Try.ntmps8
  go_wp2_with (first
    | (go_at_call 9; refine (awake_calls _).mono ?_; rintro _ w2 ⟨_, rfl, rfl, hb⟩; (have M2 := hid (M0.out.keep hb)); clear hb)
    | (go_at_call 10; refine (hC.out _ M2.out.below).mono ?_; rintro _ w3 ⟨_, rfl, M⟩; obtain ⟨A, c, rfl⟩ := M.form (.head _); (have M3 := hid (M2.out.lift M)); clear M)
    | (go_at_call 12; refine (nil_U8 _).mono ?_; rintro _ _ ⟨_, rfl, rfl, rfl⟩)
    | (go_at_call 19; refine (nil_U16 _).mono ?_; rintro _ _ ⟨_, rfl, rfl, rfl⟩)
    | (go_at_call 20; refine (nil_I16 _).mono ?_; rintro _ _ ⟨_, rfl, rfl, rfl⟩)
    | (go_at_call 25; refine (nil_U32 _).mono ?_; rintro _ _ ⟨_, rfl, rfl, rfl⟩)
    | (go_at_call 26; refine (nil_Take _ _).mono ?_; rintro _ w4 ⟨_, rfl, M⟩; obtain ⟨A4, c4, rfl⟩ := M.form (.head _); (have M4 := hid (M3.out.lift M).tail); (clear M))
    | (go_at_call 21; refine (nil_At _).mono ?_; rintro _ _ ⟨_, rfl, rfl, rfl⟩)
    | (go_at_call 13; refine (nil_Left _).mono ?_; rintro _ _ ⟨_, rfl, rfl, rfl⟩)
    | (go_at_call 14; refine (nil_Bad _).mono ?_; rintro _ _ ⟨_, rfl, rfl, rfl⟩)
    | (go_at_call 27; refine (nil_wU8 _).mono ?_; rintro _ w5 ⟨_, rfl, rfl, hb⟩; (have M5 := hid (M4.out.keep hb)); clear hb)
    | (go_at_call 28; refine (nil_wU16 _ (by omega) (by omega)).mono ?_; rintro _ w6 ⟨_, rfl, rfl, hb⟩; (have M6 := hid (M5.out.keep hb)); clear hb)
    | (go_at_call 29; refine (nil_wI16 _).mono ?_; rintro _ w7 ⟨_, rfl, rfl, hb⟩; (have M7 := hid (M6.out.keep hb)); clear hb)
    | (go_at_call 30; refine (nil_wU32 _).mono ?_; rintro _ w8 ⟨_, rfl, rfl, hb⟩; (have M8 := hid (M7.out.keep hb)); clear hb)
    | (go_at_call 31; (with_reducible refine (nil_Put _ _).mono ?_); rintro _ _ ⟨_, rfl, rfl, rfl⟩)
    | (go_at_call 32; (with_reducible refine (nil_Done _).mono ?_); rintro _ _ ⟨_, rfl, rfl, rfl⟩)
    | (go_at_call 33; have hC := join1_calls _ (M8.out.bytes (e := 5) (v := .slice A n c) (n := n) (l := l) (by simp) hn.out) (n := n) hn.out (by omega); ((with_reducible refine hC.mono ?_); clear hC); rintro _ w9 ⟨_, rfl, M⟩; obtain ⟨A9, c9, rfl⟩ := M.form (.head _); (have M9 := hid (M8.out.lift M)); clear M)
    | (go_at_call 11; refine (new_calls _ (M9.out.bytes (e := 5) (v := .slice A9 n c9) (n := n) (l := l) (by simp) hn.out) (by rw [hn.out]; omega)).mono ?_; rintro _ w10 ⟨_, rfl, bx, vx, rfl, M⟩; (have M10 := hid (M9.out.lift M (by simp [rdE, Ent.mine]))); (clear M))
    | ((with_reducible refine gate (N := 9) rfl ?_); refine wpList_box_Own rfl (cs := #[.slice none 0 0]) (t := 52) (by first | (go_simp; done) | (go_simp; rfl)) M10.out ?_; intro bw w11 M; (have M11 := hid M.mk_writer); (have M11' := hid M); clear M)
    | (go_at_call 31; refine (wr_put (ps := l) (M11.out.bytes (e := 5) (v := .slice A9 n c9) (n := n) (l := l) (by simp [wrE, rdE]) hn.out) (by rw [hn.out]; simp; omega) M11.out).mono ?_; rintro _ w12 ⟨_, rfl, rfl, vw, M⟩; (have M12 := hid M); clear M))
  have MA : Hid (Own w w12 (.row 5 1 (.slice A9 n c9) n (ints .u8 l) :: (wrE bw vw l ++ (rdE bx vx l 0 false ++ [.row 5 1 (.slice A n c) n (ints .u8 l)])))) := hid (by
    have h := Own.front (L1 := wrE bw vw l ++ rdE bx vx l 0 false) (X := [.row 5 1 (.slice A9 n c9) n (ints .u8 l)]) (L2 := [.row 5 1 (.slice A n c) n (ints .u8 l)]) (by simpa using M12.out)
    simpa using h)
  clear M2 M3 M4 M5 M6 M7 M8 M9 M10 M11 M12
  go_loopw [80] (fun i wr => ∃ (k : Nat) (ys : List Int), k ≤ n ∧ i = .int .i64 k ∧ ys.length = n ∧ Hid (Own w wr (.row 5 1 (.slice A9 n c9) n (ints .u8 ys) :: (wrE bw vw l ++ (rdE bx vx l 0 false ++ [.row 5 1 (.slice A n c) n (ints .u8 l)]))))) (fun i _ => n - (intOf i).toNat)
  case atStart => exact ⟨0, l, Nat.zero_le _, rfl, hn.out, MA⟩
  case round =>
    clear MA
    obtain ⟨k, ys, hk, rfl, hys, MH⟩ := hrel
    by_cases hlt : k < n
    · obtain ⟨g, rfl⟩ := MH.out.row_at (.head _) (by omega)
      obtain ⟨-, kc, kf⟩ := Own.row_set (L1 := []) MH.out k (by omega) undef
      rw [ints_get .u8 ys k (by omega)] at kc
      have hset := hid (fun x => (Own.row_set (L1 := []) MH.out k (by omega) (.int .u8 x)).1)
      generalize ys.getD k 0 = y at *
      go_wp2_with fail
      go_roundw
      case rel => exact ⟨k + 1, ys.set k (IntKind.u8.wrap (y + 1)), by omega, by go_num, by rw [List.length_set]; exact hys, hid (by have h := hset.out (IntKind.u8.wrap (y + 1)); rw [ints_set] at h; exact h)⟩
      case measure => simp [intOf] <;> omega
    · obtain rfl : k = n := by omega
      have M1 := hid MH.out.tail
      clear MH
      go_wp2_with (go_at_call 32; refine (wr_Done (L1 := []) (by rw [hn.out]; omega) M1.out).mono ?_; rintro _ w13 ⟨_, rfl, M⟩; (rw [hn.out] at M); obtain ⟨A13, c13, rfl⟩ := M.form (.head _); (have M13 := hid M); clear M)
      go_loopw [93] (fun i wr => ∃ (j : Nat) (zs : List Int), j ≤ k ∧ i = .int .i64 j ∧ zs.length = k ∧ Hid (Own w wr (.row 5 1 (.slice A13 k c13) k (ints .u8 zs) :: (wrE bw vw l ++ (rdE bx vx l 0 false ++ [.row 5 1 (.slice A k c) k (ints .u8 l)]))))) (fun i _ => k - (intOf i).toNat)
      case atStart => exact ⟨0, l, Nat.zero_le _, rfl, hn.out, M13⟩
      case round =>
        clear M13 M1
        obtain ⟨j, zs, hj, rfl, hzs, MJ⟩ := hrel
        by_cases hjt : j < k
        · obtain ⟨g, rfl⟩ := MJ.out.row_at (.head _) (by omega)
          obtain ⟨-, kc, kf⟩ := Own.row_set (L1 := []) MJ.out j (by omega) undef
          rw [ints_get .u8 zs j (by omega)] at kc
          have hset := hid (fun x => (Own.row_set (L1 := []) MJ.out j (by omega) (.int .u8 x)).1)
          generalize zs.getD j 0 = y at *
          go_wp2_with fail
          go_roundw
          case rel => exact ⟨j + 1, zs.set j (IntKind.u8.wrap (y + 1)), by omega, by go_num, by rw [List.length_set]; exact hzs, hid (by have h := hset.out (IntKind.u8.wrap (y + 1)); rw [ints_set] at h; exact h)⟩
          case measure => simp [intOf] <;> omega
        · obtain rfl : j = k := by omega
          have M1 := hid (Own.front (L1 := wrE bw vw l) (X := rdE bx vx l 0 false) (L2 := [.row 5 1 (.slice A j c) j (ints .u8 l)]) (by simpa using MJ.out.tail))
          clear MJ
          have hTk2 := hid (fun w' L (M : Own w w' (rdE bx vx l 0 false ++ L)) => show Calls Try.prog 26 #[.pointer (some ⟨bx, 0, none⟩), .int .i64 j] w' (Ret fun r w'' => ∃ a b, Own w w'' (.row 5 1 r j (ints .u8 l) :: (rdE bx vx l a b ++ L))) from by
            have := rd_Take (j : Int) (Nat.zero_le _) (by rw [hn.out]; omega) M
            rw [hTk.out.1, hn.out] at this
            exact this.mono fun _ _ ⟨r, e, h⟩ => ⟨r, e, _, _, h⟩)
          have h20 := hid (show l.length ≤ 140737488355328 by rw [hn.out]; omega)
          by_cases hN : N ≥ 0
          · go_wp2_with (first
              | (go_at_call 26; (with_reducible refine (hTk2.out _ _ M1.out).mono ?_); rintro _ w14 ⟨_, rfl, a14, b14, M⟩; obtain ⟨A14, c14, rfl⟩ := M.form (.head _); (have M14 := hid M); clear M)
              | (go_at_call 16; (with_reducible refine (same_true _ (xs := l) (M14.out.bytes (e := 5) (v := .slice A14 j c14) (n := j) (l := l) (by simp [rdE, wrE]) hn.out) (M14.out.bytes (e := 5) (v := .slice A j c) (n := j) (l := l) (by simp [rdE, wrE]) hn.out)).mono ?_); rintro _ w15 ⟨_, rfl, rfl, hb⟩; (have M15 := hid (Own.front (L1 := rdE bx vx l a14 b14) (X := wrE bw vw l) (by simpa using (M14.out.keep hb).tail))); (clear hb M14))
              | (go_at_call 32; (with_reducible refine (wr_Done (L1 := []) h20.out M15.out).mono ?_); rintro _ w16 ⟨_, rfl, M⟩; (rw [hn.out] at M); obtain ⟨A16, c16, rfl⟩ := M.form (.head _); (have M16 := hid M); clear M)
              | (go_at_call 16; (with_reducible refine (same_true _ (xs := l) (M16.out.bytes (e := 5) (v := .slice A16 j c16) (n := j) (l := l) (by simp [rdE, wrE]) hn.out) (M16.out.bytes (e := 5) (v := .slice A j c) (n := j) (l := l) (by simp [rdE, wrE]) hn.out)).mono ?_); rintro _ w17 ⟨_, rfl, rfl, hb⟩; (have M17 := hid (M16.out.keep hb)); clear hb))
            go_ret
            exact .mk ⟨rfl, M17.out.below⟩
          · have hN' : N < 0 := by omega
            have hno : rOk l 0 false N = false := by
              simp only [rOk, Bool.not_false, Bool.true_and, decide_eq_false_iff_not]; omega
            have hTk3 := hid (fun w' b' v' L (M : Own w w' (rdE b' v' l 0 false ++ L)) => show Calls Try.prog 26 #[.pointer (some ⟨b', 0, none⟩), .int .i64 N] w' (Ret fun r w'' => ∃ a b, Own w w'' (.row 5 1 r 0 (ints .u8 []) :: (rdE b' v' l a b ++ L))) from by
              have := rd_Take N (Nat.zero_le _) (by rw [hn.out]; omega) M
              rw [show rBytes l 0 false N = [] by unfold rBytes; rw [hno]; rfl] at this
              exact this.mono fun _ _ ⟨r, e, h⟩ => ⟨r, e, _, _, h⟩)
            clear hno
            go_wp2_with (first
              | (go_at_call 26; (with_reducible refine (hTk2.out _ _ M1.out).mono ?_); rintro _ w14 ⟨_, rfl, a14, b14, M⟩; obtain ⟨A14, c14, rfl⟩ := M.form (.head _); (have M14 := hid M); clear M)
              | (go_at_call 16; (with_reducible refine (same_true _ (xs := l) (M14.out.bytes (e := 5) (v := .slice A14 j c14) (n := j) (l := l) (by simp [rdE, wrE]) hn.out) (M14.out.bytes (e := 5) (v := .slice A j c) (n := j) (l := l) (by simp [rdE, wrE]) hn.out)).mono ?_); rintro _ w15 ⟨_, rfl, rfl, hb⟩; (have M15 := hid (Own.front (L1 := rdE bx vx l a14 b14) (X := wrE bw vw l) (by simpa using (M14.out.keep hb).tail))); (clear hb M14))
              | (go_at_call 32; (with_reducible refine (wr_Done (L1 := []) h20.out M15.out).mono ?_); rintro _ w16 ⟨_, rfl, M⟩; (rw [hn.out] at M); obtain ⟨A16, c16, rfl⟩ := M.form (.head _); (have M16 := hid M); clear M)
              | (go_at_call 16; (with_reducible refine (same_true _ (xs := l) (M16.out.bytes (e := 5) (v := .slice A16 j c16) (n := j) (l := l) (by simp [rdE, wrE]) hn.out) (M16.out.bytes (e := 5) (v := .slice A j c) (n := j) (l := l) (by simp [rdE, wrE]) hn.out)).mono ?_); rintro _ w17 ⟨_, rfl, rfl, hb⟩; (have M17 := hid (M16.out.keep hb)); clear hb)
              | (go_at_call 11; refine (new_calls _ (M17.out.bytes (e := 5) (v := .slice A j c) (n := j) (l := l) (by simp [rdE, wrE]) hn.out) h20.out).mono ?_; rintro _ w18 ⟨_, rfl, b18, v18, rfl, M⟩; (have M18 := hid (M17.out.lift M (by simp [rdE, Ent.mine]))); (clear M M1))
              | (go_at_call 26; (with_reducible refine (hTk3.out _ _ _ _ M18.out).mono ?_); rintro _ w19 ⟨_, rfl, a19, b19, M⟩; obtain ⟨A19, c19, rfl⟩ := M.form (.head _); (have M19 := hid M); clear M))
            go_ret
            exact .mk ⟨rfl, M19.out.below⟩
end Go.Proofs.Ytlfjfdaeoclakaa
