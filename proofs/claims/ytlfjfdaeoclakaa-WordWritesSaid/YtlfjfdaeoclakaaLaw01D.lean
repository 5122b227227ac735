/- Layer 1: WordWrites: numbers that are written are the document's bytes, of which they are read again. -/
import Derived.Test.YtlfjfdaeoclakaaLaw01A
import Derived.Test.YtlfjfdaeoclakaaRead
namespace Go.Proofs.Ytlfjfdaeoclakaa
open Go Go.RowKit
set_option linter.unusedVariables false
set_option linter.unusedSimpArgs false
set_option maxRecDepth 100000

/-- All that is written. -/
def wl (a b c d : Int) (l : List Int) : List Int := [a] ++ (b2 b ++ (b2 (c % 65536) ++ (b4 d ++ l)))
theorem wl_len (a b c d : Int) (l : List Int) : (wl a b c d l).length = 9 + l.length := by simp [wl, b2_length, b4_length]; omega
theorem wl_flat (a b c d : Int) (l : List Int) : [[a], b2 b, b2 (c % 65536), b4 d, l].flatten = wl a b c d l := by simp [wl]
theorem wl_bytes {a b c d : Int} {l : List Int} (a0 : 0 ≤ a) (a1 : a < 256) (hl : Bytes l) : Bytes (wl a b c d l) := (Bytes.one a0 a1).append ((bytes_b2 _).append ((bytes_b2 _).append ((bytes_b4 _).append hl)))
theorem wl_1 (a b c d : Int) (l : List Int) : rNum (wl a b c d l) 0 false 1 = a ∧ rAt (wl a b c d l) 0 false 1 = 1 ∧ (!rOk (wl a b c d l) 0 false 1) = false :=
  rd_num (p := []) (q := [a]) (s := b2 b ++ (b2 (c % 65536) ++ (b4 d ++ l))) (m := 1) rfl rfl rfl (be_one a)
theorem wl_2 (a : Int) {b : Int} (c d : Int) (l : List Int) (b0 : 0 ≤ b) (b1 : b < 65536) : rNum (wl a b c d l) 1 false 2 = b ∧ rAt (wl a b c d l) 1 false 2 = 3 ∧ (!rOk (wl a b c d l) 1 false 2) = false :=
  rd_num (p := [a]) (q := b2 b) (s := b2 (c % 65536) ++ (b4 d ++ l)) (m := 2) rfl rfl rfl (be_b2 b0 b1)
theorem wl_3 (a b : Int) {c : Int} (d : Int) (l : List Int) (c0 : -32768 ≤ c) (c1 : c < 32768) : sgn (rNum (wl a b c d l) 3 false 2) = c ∧ rAt (wl a b c d l) 3 false 2 = 5 ∧ (!rOk (wl a b c d l) 3 false 2) = false := by
  obtain ⟨h1, h2, h3⟩ := rd_num (l := wl a b c d l) (p := [a] ++ b2 b) (q := b2 (c % 65536)) (s := b4 d ++ l) (k := 3) (m := 2) (by simp [wl]) rfl rfl (be_b2 (n := c % 65536) (by omega) (by omega))
  exact ⟨by rw [show ((2 : Nat) : Int) = 2 from rfl] at h1; rw [h1, sgn_mod c0 c1], h2, h3⟩
theorem wl_4 (a b c : Int) {d : Int} (l : List Int) (d0 : 0 ≤ d) (d1 : d < 4294967296) : rNum (wl a b c d l) 5 false 4 = d ∧ rAt (wl a b c d l) 5 false 4 = 9 ∧ (!rOk (wl a b c d l) 5 false 4) = false :=
  rd_num (p := [a] ++ (b2 b ++ b2 (c % 65536))) (q := b4 d) (s := l) (m := 4) (by simp [wl]) rfl rfl (be_b4 d0 d1)
theorem wl_5 (a b c d : Int) (l : List Int) : rBytes (wl a b c d l) 9 false l.length = l ∧ rAt (wl a b c d l) 9 false l.length = (wl a b c d l).length ∧ (!rOk (wl a b c d l) 9 false l.length) = false := by
  obtain ⟨h1, h2, h3⟩ := rd_at (l := wl a b c d l) (p := [a] ++ (b2 b ++ (b2 (c % 65536) ++ b4 d))) (q := l) (s := []) (k := 9) (m := l.length) (by simp [wl]) rfl rfl
  exact ⟨h2, by rw [h3, wl_len], by rw [h1]; rfl⟩

theorem wordWrites_calls (w : World) {a b c d : Int} {v : Value} {xs : List Int} (h1 : BytesAt w v xs) (hB : Bytes xs) (a0 : 0 ≤ a) (a1 : a < 256) (b0 : 0 ≤ b) (b1 : b < 65536) (c0 : -32768 ≤ c) (c1 : c < 32768) (d0 : 0 ≤ d) (d1 : d < 4294967296) :
    Calls Try.prog 7 #[.int .u8 a, .int .u16 b, .int .i16 c, .int .u32 d, v] w (Ret fun r w' => r = .bool true ∧ Below w.heap.size w w') := by
  have hC := hid (fun w1 (h : Below w.heap.size w w1) => cut_calls w1 40 (by omega) (h1.below h) (by omega))
  have hl : (xs.take 40).length ≤ 40 := by simp; omega
  have hBl := hB.take 40
  generalize xs.take 40 = l at *
  have hR := hid (fun k (hk : k ≤ (wl a b c d l).length) => (⟨hk, wl_bytes a0 a1 hBl⟩ : RdOk (wl a b c d l) k))
  have hLL := hid (wl_len a b c d l)
  clear h1 hB hBl
  go_enter Try.func7, Try.ntmps7
  go_wp2_with fail
  refine (awake_calls _).mono ?_; rintro _ w1 ⟨_, rfl, rfl, hb1⟩; have hb1H := hid hb1; clear hb1
  go_wp2_with fail
  refine (hC.out _ hb1H.out).mono ?_; rintro _ w2 ⟨_, rfl, M⟩; obtain ⟨A, C, rfl⟩ := M.form (.head _); have M2 := hid (((Own.start w).keep hb1H.out).lift M).writer; clear M
  go_wp2_with fail
  refine (wr_U8 a0 a1 (by simp) M2.out).mono ?_; rintro _ w3 ⟨_, rfl, rfl, v3, M⟩; have M3 := hid M; clear M M2
  go_wp2_with fail
  refine (wr_U16 b0 b1 (by simp) M3.out).mono ?_; rintro _ w4 ⟨_, rfl, rfl, v4, M⟩; have M4 := hid M; clear M M3
  go_wp2_with fail
  refine (wr_I16 c0 c1 (by simp [b2_length]) M4.out).mono ?_; rintro _ w5 ⟨_, rfl, rfl, v5, M⟩; have M5 := hid M; clear M M4
  go_wp2_with fail
  refine (wr_U32 d0 d1 (by simp [b2_length]) M5.out).mono ?_; rintro _ w6 ⟨_, rfl, rfl, v6, M⟩; have M6 := hid M; clear M M5
  go_wp2_with fail
  refine (wr_put (ps := l) (M6.out.slice (e := 5) (by simp)) (by simp [b2_length, b4_length]; omega) M6.out).mono ?_; rintro _ w7 ⟨_, rfl, rfl, v7, M⟩; have M7 : Hid (Own w w7 ([] ++ (wrE _ v7 (wl a b c d l) ++ _))) := hid (by simpa [wl] using M); clear M M6
  go_wp2_with fail
  refine (wr_Done (by have := hLL.out; omega) M7.out).mono ?_; rintro _ w8 ⟨_, rfl, M⟩; obtain ⟨A8, C8, rfl⟩ := M.form (.head _); have M8 := hid M; clear M M7
  go_wp2_with fail
  refine (new_calls _ (M8.out.slice (e := 5) (.head _)) (by have := hLL.out; omega)).mono ?_; rintro _ w9 ⟨_, rfl, p, v9, rfl, M⟩; have M9 := hid (M8.out.lift M (by simp [rdE, Ent.mine])); clear M M8
  go_wp2_with fail
  refine (B2_calls _ b0 (by omega)).mono ?_; rintro _ w10 ⟨_, rfl, M⟩; obtain ⟨A10, C10, rfl⟩ := M.form (.head _); have M10 := hid ((M9.out.alloc 5 #[.int .u8 a]).lift M); clear M M9
  go_wp2_with fail
  refine (S2_calls _ (by omega) (by omega)).mono ?_; rintro _ w11 ⟨_, rfl, M⟩; obtain ⟨A11, C11, rfl⟩ := M.form (.head _); have M11 := hid (M10.out.lift M); clear M M10
  go_wp2_with fail
  refine (B4_calls _ d0 d1).mono ?_; rintro _ w12 ⟨_, rfl, M⟩; obtain ⟨A12, C12, rfl⟩ := M.form (.head _); have M12 := hid (M11.out.lift M); clear M M11
  go_wp2_with fail
  have M13 := hid (M12.out.alloc 22 #[.slice (some ⟨w9.heap.size, 0, none⟩) 1 1, .slice A10 2 C10, .slice A11 2 C11, .slice A12 4 C12, .slice A l.length C]); clear M12
  refine (join_calls _ (vs := [.slice (some ⟨w9.heap.size, 0, none⟩) 1 1, .slice A10 2 C10, .slice A11 2 C11, .slice A12 4 C12, .slice A l.length C]) (ls := [[a], b2 b, b2 (c % 65536), b4 d, l]) (SliceAt.built M13.out (.head _) 1 5 rfl (by unfold maxLen; omega)) (.cons (SliceAt.built M13.out (g := w9.heap.size) (t := 5) (cs := #[.int .u8 a]) (by simp) 1 1 rfl (by unfold maxLen; omega)) (.cons (M13.out.slice (e := 5) (by simp [b2_length])) (.cons (M13.out.slice (e := 5) (by simp [b2_length])) (.cons (M13.out.slice (e := 5) (by simp [b4_length])) (.cons (M13.out.slice (e := 5) (by simp)) (.nil _)))))) (by rw [wl_flat]; have := hLL.out; omega)).mono ?_; rw [wl_flat]; rintro _ w14 ⟨_, rfl, M⟩; obtain ⟨A14, C14, rfl⟩ := M.form (.head _); have M14 := hid (M13.out.lift M); clear M M13
  go_wp2_with fail
  refine (same_calls _ (xs := wl a b c d l) (ys := wl a b c d l) (M14.out.slice (e := 5) (by simp)) (M14.out.slice (e := 5) (.head _))).mono ?_; rw [decide_eq_true (rfl : wl a b c d l = wl a b c d l)]; rintro _ w15 ⟨_, rfl, rfl, hb⟩; have M15 := hid (M14.out.tail.tail.tail.tail.tail.tail.keep hb); clear hb M14
  go_wp2_with fail
  refine (rd_U8 (hR.out 0 (by have := hLL.out; omega)) M15.out).mono ?_; rw [(wl_1 a b c d l).1, (wl_1 a b c d l).2.1, (wl_1 a b c d l).2.2]; rintro _ M16w ⟨_, rfl, rfl, M⟩; have M16 := hid M; clear M M15
  go_wp2_with fail
  refine (rd_U16 (hR.out 1 (by have := hLL.out; omega)) M16.out).mono ?_; rw [(wl_2 a c d l b0 b1).1, (wl_2 a c d l b0 b1).2.1, (wl_2 a c d l b0 b1).2.2]; rintro _ M17w ⟨_, rfl, rfl, M⟩; have M17 := hid M; clear M M16
  go_wp2_with fail
  refine (rd_I16 (hR.out 3 (by have := hLL.out; omega)) M17.out).mono ?_; rw [(wl_3 a b d l c0 c1).1, (wl_3 a b d l c0 c1).2.1, (wl_3 a b d l c0 c1).2.2]; rintro _ M18w ⟨_, rfl, rfl, M⟩; have M18 := hid M; clear M M17
  go_wp2_with fail
  refine (rd_U32 (hR.out 5 (by have := hLL.out; omega)) M18.out).mono ?_; rw [(wl_4 a b c l d0 d1).1, (wl_4 a b c l d0 d1).2.1, (wl_4 a b c l d0 d1).2.2]; rintro _ M19w ⟨_, rfl, rfl, M⟩; have M19 := hid M; clear M M18
  go_wp2_with fail
  refine (rd_Take _ (by have := hLL.out; omega) (by have := hLL.out; omega) M19.out).mono ?_; rw [(wl_5 a b c d l).1, (wl_5 a b c d l).2.1, (wl_5 a b c d l).2.2]; rintro _ w20 ⟨_, rfl, M⟩; obtain ⟨A20, C20, rfl⟩ := M.form (.head _); have M20 := hid M; clear M M19
  go_wp2_with fail
  refine (same_calls _ (xs := l) (ys := l) (M20.out.slice (e := 5) (.head _)) (M20.out.slice (e := 5) (by simp))).mono ?_; rw [decide_eq_true (rfl : l = l)]; rintro _ w21 ⟨_, rfl, rfl, hb⟩; have M21 := hid (M20.out.tail.keep hb); clear hb M20
  go_wp2_with fail
  refine (rd_Left (Nat.le_refl _) M21.out).mono ?_; rintro _ w22 ⟨_, rfl, rfl, M⟩; have M22 := hid M; clear M M21
  go_wp2_with fail
  go_ret
  exact .mk ⟨rfl, M22.out.below⟩
end Go.Proofs.Ytlfjfdaeoclakaa
