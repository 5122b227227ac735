/- Package dot, on: points moved, the unit; the document's own; small numbers. -/
import Derived.Test.YtiedbfaehndooaaDoorDotA
namespace Go.Proofs.YtiedbfaehndooaaDoor
open Go Go.RowKit
set_option linter.unusedVariables false
set_option linter.unusedSimpArgs false
set_option maxRecDepth 100000

theorem move_calls (w : World) {x y u v : Int} {on : Bool} (hx : -4611686018427387904 ≤ x ∧ x ≤ 4611686018427387904) (hy : -4611686018427387904 ≤ y ∧ y ≤ 4611686018427387904) (hu : -4611686018427387904 < u ∧ u < 4611686018427387904) (hv : -4611686018427387904 < v ∧ v < 4611686018427387904) :
    Calls Tryd.prog 63 #[.agg #[.int .i64 x, .int .i64 y, .bool on], .int .i64 u, .int .i64 v] w
      (Ret fun r w' => r = .agg #[.int .i64 (x + u), .int .i64 (y + v), .bool on] ∧ Below w.heap.size w w') := by
  go_enter Tryd.func63, Tryd.ntmps63
  go_wp2
  exact bodyPost_ret (v := .agg #[.int .i64 (x + u), .int .i64 (y + v), .bool on]) (by simp [results, Tryd.results63, go_sem]) rfl (.mk ⟨rfl, by go_grown⟩)

theorem scale_calls (w : World) (n : Int) : Calls Tryd.prog 20 #[.int .i16 n] w
    (Ret fun r w' => r = .agg #[.int .i16 n, .int .i16 0, .int .i16 0, .int .i16 n] ∧ Below w.heap.size w w') := by
  go_enter Tryd.func20, Tryd.ntmps20
  go_wp2
  exact bodyPost_ret (v := .agg #[.int .i16 n, .int .i16 0, .int .i16 0, .int .i16 n]) (by simp [results, Tryd.results20, go_sem]) rfl (.mk ⟨rfl, by go_grown⟩)

theorem unit_calls (w : World) : Calls Tryd.prog 12 #[] w
    (Ret fun r w' => r = .agg #[.int .i16 16384, .int .i16 0, .int .i16 0, .int .i16 16384] ∧ Below w.heap.size w w') := by
  have M0 := hid ((Own.start w).alloc 42 #[.int .i16 0, .int .i16 0, .int .i16 0, .int .i16 0])
  go_enter Tryd.func12, Tryd.ntmps12
  go_wp2_with fail
  refine (scale_calls _ _).mono ?_; rintro _ w1 ⟨_, rfl, rfl, hb⟩
  have M1 := M0.out.keep hb
  have HB := hid M1.below
  have hc := M1.cell (.head _)
  have hf := M1.free (.head _)
  have c0 := hc 0; have c1 := hc 1; have c2 := hc 2; have c3 := hc 3; have f0 := hf 0; have f1 := hf 1; have f2 := hf 2; have f3 := hf 3
  simp only [List.getElem?_toArray, List.getElem?_cons_zero, List.getElem?_cons_succ] at c0 c1 c2 c3
  have M2 := hid M1
  clear M1 hc hf hb M0
  go_wp2
  exact bodyPost_ret (v := .agg #[.int .i16 16384, .int .i16 0, .int .i16 0, .int .i16 16384]) (by simp [results, Tryd.results12, go_sem, c0, c1, c2, c3]) rfl
    (.mk ⟨rfl, ((((M2.out.set (L1 := []) 0 (.int .i16 16384)).set (L1 := []) 1 (.int .i16 0)).set (L1 := []) 2 (.int .i16 0)).set (L1 := []) 3 (.int .i16 16384)).below⟩)

theorem tmod_pos {m k : Int} (h : 0 ≤ m) : Int.tmod m k = m % k := Int.tmod_eq_emod_of_nonneg h
theorem tmod_neg {m k : Int} (h : m ≤ 0) : Int.tmod m k = -((-m) % k) := by
  have := Int.neg_tmod (-m) k
  rw [Int.neg_neg] at this
  rw [this, tmod_pos (by omega)]
theorem tdiv_pos {m k : Int} (h : 0 ≤ m) : Int.tdiv m k = m / k := Int.tdiv_eq_ediv_of_nonneg h
theorem tdiv_neg {m k : Int} (h : m ≤ 0) : Int.tdiv m k = -((-m) / k) := by
  have := Int.neg_tdiv (-m) k
  rw [Int.neg_neg] at this
  rw [this, tdiv_pos (by omega)]
theorem small_bd (n : Int) : -1099511627776 < n.tmod 1099511627776 ∧ n.tmod 1099511627776 < 1099511627776 := by
  rcases Int.le_total 0 n with h | h
  · rw [tmod_pos h]; omega
  · rw [tmod_neg h]; omega

theorem refRound_calls (w : World) {n : Int} (h0 : -4611686018427387904 ≤ n) (h1 : n ≤ 4611686018427387904) : Calls Tryd.prog 31 #[.int .i64 n] w (Ret fun r w' => r = .int .i64 (rnd n) ∧ w = w') := by
  by_cases hn : 0 ≤ n + 8192
  · have e := hid (show (n + 8192 - (n + 8192) % 16384) / 16384 = rnd n by unfold rnd; omega)
    have h3 : ¬ (n + 8192) % 16384 < 0 := by omega
    go_enter Tryd.func31, Tryd.ntmps31
    go_wp2
    go_ret
    exact .mk ⟨by rw [← e.out]; rfl, rfl⟩
  · have e1 := tmod_neg (m := n + 8192) (k := 16384) (by omega)
    go_enter Tryd.func31, Tryd.ntmps31
    go_wp2
    all_goals
      go_ret
      exact .mk ⟨congrArg (Value.int .i64) (by rw [tdiv_neg (by omega)]; unfold rnd; omega), rfl⟩

theorem refApply_calls (w : World) {a b c d x y u v : Int} {on : Bool} (ha : -32768 ≤ a ∧ a < 32768) (hb : -32768 ≤ b ∧ b < 32768) (hc : -32768 ≤ c ∧ c < 32768) (hd : -32768 ≤ d ∧ d < 32768)
    (hx : -4398046511104 ≤ x ∧ x ≤ 4398046511104) (hy : -4398046511104 ≤ y ∧ y ≤ 4398046511104) (hu : -4611686018427387904 < u ∧ u < 4611686018427387904) (hv : -4611686018427387904 < v ∧ v < 4611686018427387904) :
    Calls Tryd.prog 17 #[.agg #[.int .i64 a, .int .i64 b, .int .i64 c, .int .i64 d], .agg #[.int .i64 x, .int .i64 y, .bool on], .int .i64 u, .int .i64 v] w
      (Ret fun r w' => r = .agg #[.int .i64 (rnd (a * x + c * y) + u), .int .i64 (rnd (b * x + d * y) + v), .bool on] ∧ Below w.heap.size w w') := by
  have M0 := hid (Own.start w)
  go_enter Tryd.func17, Tryd.ntmps17
  go_wp2_with (first
    | ((with_reducible refine gate (N := 4) rfl ?_); refine wpList_box_Own rfl (cs := #[.int .i64 a, .int .i64 b, .int .i64 c, .int .i64 d]) (t := 58) (by first | (go_simp; done) | (go_simp; rfl)) M0.out ?_; intro m w1 M; have M1 := hid M; clear M)
    | ((with_reducible refine gate (N := 5) rfl ?_); refine wpList_box_Own rfl (cs := #[.int .i64 x, .int .i64 y, .bool on]) (t := 56) (by first | (go_simp; done) | (go_simp; rfl)) M1.out ?_; intro p w2 M; have M2 := hid M; clear M)
    | ((with_reducible refine gate (N := 8) rfl ?_); refine wpList_box_Own rfl (cs := #[.int .i64 0, .int .i64 0, .bool false]) (t := 56) (by first | (go_simp; done) | (go_simp; rfl)) M2.out ?_; intro r w3 M; have M3 := hid M; clear M))
  simp only [Act.put, List.setIfInBounds_toArray, List.set_cons_zero, List.set_cons_succ]
  have m0 := M3.out.cell (g := m) (t := 58) (cs := #[.int .i64 a, .int .i64 b, .int .i64 c, .int .i64 d]) (by simp)
  have p0 := M3.out.cell (g := p) (t := 56) (cs := #[.int .i64 x, .int .i64 y, .bool on]) (by simp)
  have r0 := M3.out.cell (g := r) (t := 56) (cs := #[.int .i64 0, .int .i64 0, .bool false]) (by simp)
  have rf := M3.out.free (g := r) (t := 56) (cs := #[.int .i64 0, .int .i64 0, .bool false]) (by simp)
  have c0 := m0 0; have c1 := m0 1; have c2 := m0 2; have c3 := m0 3; have c4 := p0 0; have c5 := p0 1; have c6 := p0 2; have c7 := r0 0; have c8 := r0 1; have c9 := r0 2; have f7 := rf 0; have f8 := rf 1; have f9 := rf 2
  simp only [List.getElem?_toArray, List.getElem?_cons_zero, List.getElem?_cons_succ] at c0 c1 c2 c3 c4 c5 c6 c7 c8 c9
  clear m0 p0 r0 rf
  have n1 : r ≠ m := M3.out.ne (t' := 58) (cs' := #[.int .i64 a, .int .i64 b, .int .i64 c, .int .i64 d]) (by simp)
  have n2 : r ≠ p := M3.out.ne (t' := 56) (cs' := #[.int .i64 x, .int .i64 y, .bool on]) (by simp)
  have n3 := n1.symm; have n4 := n2.symm
  have b1 := mul_small ha hx
  have b2 := mul_small hc hy
  have b3 := mul_small hb hx
  have b4 := mul_small hd hy
  have b5 : -17592186044500 ≤ rnd (a * x + c * y) ∧ rnd (a * x + c * y) ≤ 17592186044500 := by unfold rnd; omega
  have b6 : -17592186044500 ≤ rnd (b * x + d * y) ∧ rnd (b * x + d * y) ≤ 17592186044500 := by unfold rnd; omega
  have w5' := IntWalk.i64_in (a * x) (by omega); have w6' := IntWalk.i64_in (c * y) (by omega); have w7' := IntWalk.i64_in (b * x) (by omega); have w8' := IntWalk.i64_in (d * y) (by omega)
  have w9' := IntWalk.i64_in (a * x + c * y) (by omega); have w10' := IntWalk.i64_in (b * x + d * y) (by omega)
  have w11' := IntWalk.i64_in (rnd (a * x + c * y) + u) (by omega); have w12' := IntWalk.i64_in (rnd (b * x + d * y) + v) (by omega)
  have R1 := hid (fun w => refRound_calls w (n := a * x + c * y) (by omega) (by omega)); have R2 := hid (fun w => refRound_calls w (n := b * x + d * y) (by omega) (by omega))
  go_region_held3 (fun w' => w'.cell? ⟨m, 0, none⟩ = some (.int .i64 a) ∧ w'.cell? ⟨m, 1, none⟩ = some (.int .i64 b) ∧ w'.cell? ⟨m, 2, none⟩ = some (.int .i64 c) ∧ w'.cell? ⟨m, 3, none⟩ = some (.int .i64 d) ∧ w'.cell? ⟨p, 0, none⟩ = some (.int .i64 x) ∧ w'.cell? ⟨p, 1, none⟩ = some (.int .i64 y) ∧ w'.cell? ⟨p, 2, none⟩ = some (.bool on)) (go_keep)
    (first | (go_at_call 31; ((with_reducible refine (R1.out _).mono ?_); rintro _ _ ⟨_, rfl, rfl, rfl⟩)) | (go_at_call 31; ((with_reducible refine (R2.out _).mono ?_); rintro _ _ ⟨_, rfl, rfl, rfl⟩)))
  go_wp2
  refine bodyPost_ret (v := .agg #[.int .i64 (rnd (a * x + c * y) + u), .int .i64 (rnd (b * x + d * y) + v), .bool on]) (by simp [results, Tryd.results17, go_sem, c7, c8, c9]) rfl ?_
  exact .mk ⟨rfl, ((((M3.out.set (L1 := []) 0 (.int .i64 (rnd (a * x + c * y) + u))).set (L1 := []) 1 (.int .i64 (rnd (b * x + d * y) + v))).set (L1 := []) 2 (.bool on)).drew).below⟩

theorem tmod_bd61 (a : Int) : -2305843009213693952 < Int.tmod a 2305843009213693952 ∧ Int.tmod a 2305843009213693952 < 2305843009213693952 := by
  rcases Int.le_total 0 a with h | h
  · rw [tmod_pos h]; omega
  · rw [tmod_neg h]; omega
end Go.Proofs.YtiedbfaehndooaaDoor
