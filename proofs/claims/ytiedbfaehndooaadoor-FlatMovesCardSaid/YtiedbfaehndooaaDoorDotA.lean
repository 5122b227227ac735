/- Package dot: rounding, points, matrices; and the document's own. -/
import Derived.Test.YtiedbfaehndooaaDoorProg
import Derived.Test.YtiedbfaehndooaaDoorBaseM
import Derived.Deep.QuietTactic
import Derived.BigQuiet
import Derived.Deep.RegionHeld3
import Derived.WalkSpells
import Derived.KernelRfl
namespace Go.Proofs.YtiedbfaehndooaaDoor
open Go Go.RowKit
set_option linter.unusedVariables false
set_option linter.unusedSimpArgs false
set_option maxRecDepth 100000

/-- To the nearest, the half up. -/
def rnd (n : Int) : Int := (n + 8192) / 16384
theorem round_calls (w : World) {n : Int} (h0 : -4611686018427387904 ≤ n) (h1 : n ≤ 4611686018427387904) : Calls Tryd.prog 77 #[.int .i64 n] w (Ret fun r w' => r = .int .i64 (rnd n) ∧ w = w') := by
  go_enter Tryd.func77, Tryd.ntmps77
  go_wp2
  go_ret
  exact .mk ⟨rfl, rfl⟩

theorem mul_bd {a x : Int} {A X : Nat} (h : a.natAbs ≤ A) (hx : x.natAbs ≤ X) : -((A * X : Nat) : Int) ≤ a * x ∧ a * x ≤ ((A * X : Nat) : Int) := by
  have h1 : (a * x).natAbs ≤ A * X := by rw [Int.natAbs_mul]; exact Nat.mul_le_mul h hx
  omega
theorem mul_small {a x : Int} (h : -32768 ≤ a ∧ a < 32768) (hx : -4398046511104 ≤ x ∧ x ≤ 4398046511104) : -144115188075855872 ≤ a * x ∧ a * x ≤ 144115188075855872 := by
  have := mul_bd (a := a) (x := x) (A := 32768) (X := 4398046511104) (by omega) (by omega)
  omega
set_option maxHeartbeats 2000000 in
theorem apply_calls (w : World) {a b c d x y : Int} {on : Bool} (ha : -32768 ≤ a ∧ a < 32768) (hb : -32768 ≤ b ∧ b < 32768) (hc : -32768 ≤ c ∧ c < 32768) (hd : -32768 ≤ d ∧ d < 32768)
    (hx : -4398046511104 ≤ x ∧ x ≤ 4398046511104) (hy : -4398046511104 ≤ y ∧ y ≤ 4398046511104) :
    Calls Tryd.prog 62 #[.agg #[.int .i16 a, .int .i16 b, .int .i16 c, .int .i16 d], .agg #[.int .i64 x, .int .i64 y, .bool on]] w
      (Ret fun r w' => r = .agg #[.int .i64 (rnd (a * x + c * y)), .int .i64 (rnd (b * x + d * y)), .bool on] ∧ Below w.heap.size w w') := by
  have M0 := hid (Own.start w)
  go_enter Tryd.func62, Tryd.ntmps62
  go_wp2_with (first
    | ((with_reducible refine gate (N := 2) rfl ?_); refine wpList_box_Own rfl (cs := #[.int .i16 a, .int .i16 b, .int .i16 c, .int .i16 d]) (t := 42) (by first | (go_simp; done) | (go_simp; rfl)) M0.out ?_; intro m w1 M; have M1 := hid M; clear M)
    | ((with_reducible refine gate (N := 3) rfl ?_); refine wpList_box_Own rfl (cs := #[.int .i64 x, .int .i64 y, .bool on]) (t := 30) (by first | (go_simp; done) | (go_simp; rfl)) M1.out ?_; intro p w2 M; have M2 := hid M; clear M)
    | ((with_reducible refine gate (N := 4) rfl ?_); refine wpList_box_Own rfl (cs := #[.int .i64 0, .int .i64 0, .bool false]) (t := 30) (by first | (go_simp; done) | (go_simp; rfl)) M2.out ?_; intro r w3 M; have M3 := hid M; clear M))
  simp only [Act.put, List.setIfInBounds_toArray, List.set_cons_zero, List.set_cons_succ]
  have HB := hid M3.out.below
  have m0 := M3.out.cell (g := m) (t := 42) (cs := #[.int .i16 a, .int .i16 b, .int .i16 c, .int .i16 d]) (by simp)
  have p0 := M3.out.cell (g := p) (t := 30) (cs := #[.int .i64 x, .int .i64 y, .bool on]) (by simp)
  have r0 := M3.out.cell (g := r) (t := 30) (cs := #[.int .i64 0, .int .i64 0, .bool false]) (by simp)
  have rf := M3.out.free (g := r) (t := 30) (cs := #[.int .i64 0, .int .i64 0, .bool false]) (by simp)
  have c0 := m0 0; have c1 := m0 1; have c2 := m0 2; have c3 := m0 3; have c4 := p0 0; have c5 := p0 1; have c6 := p0 2; have c7 := r0 0; have c8 := r0 1; have c9 := r0 2; have f7 := rf 0; have f8 := rf 1; have f9 := rf 2
  simp only [List.getElem?_toArray, List.getElem?_cons_zero, List.getElem?_cons_succ] at c0 c1 c2 c3 c4 c5 c6 c7 c8 c9
  clear m0 p0 r0 rf
  have n1 : r ≠ m := M3.out.ne (t' := 42) (cs' := #[.int .i16 a, .int .i16 b, .int .i16 c, .int .i16 d]) (by simp)
  have n2 : r ≠ p := M3.out.ne (t' := 30) (cs' := #[.int .i64 x, .int .i64 y, .bool on]) (by simp)
  have n3 := n1.symm; have n4 := n2.symm
  have b1 := mul_small ha hx
  have b2 := mul_small hc hy
  have b3 := mul_small hb hx
  have b4 := mul_small hd hy
  have w1' := IntWalk.i64_in a (by omega); have w2' := IntWalk.i64_in b (by omega); have w3' := IntWalk.i64_in c (by omega); have w4' := IntWalk.i64_in d (by omega)
  have w5' := IntWalk.i64_in (a * x) (by omega); have w6' := IntWalk.i64_in (c * y) (by omega); have w7' := IntWalk.i64_in (b * x) (by omega); have w8' := IntWalk.i64_in (d * y) (by omega)
  have w9' := IntWalk.i64_in (a * x + c * y) (by omega); have w10' := IntWalk.i64_in (b * x + d * y) (by omega)
  have R1 := hid (fun w => round_calls w (n := a * x + c * y) (by omega) (by omega)); have R2 := hid (fun w => round_calls w (n := b * x + d * y) (by omega) (by omega))
  go_region_held3 (fun w' => w'.cell? ⟨m, 0, none⟩ = some (.int .i16 a) ∧ w'.cell? ⟨m, 1, none⟩ = some (.int .i16 b) ∧ w'.cell? ⟨m, 2, none⟩ = some (.int .i16 c) ∧ w'.cell? ⟨m, 3, none⟩ = some (.int .i16 d) ∧ w'.cell? ⟨p, 0, none⟩ = some (.int .i64 x) ∧ w'.cell? ⟨p, 1, none⟩ = some (.int .i64 y) ∧ w'.cell? ⟨p, 2, none⟩ = some (.bool on)) (go_keep)
    (first | (go_at_call 77; ((with_reducible refine (R1.out _).mono ?_); rintro _ _ ⟨_, rfl, rfl, rfl⟩)) | (go_at_call 77; ((with_reducible refine (R2.out _).mono ?_); rintro _ _ ⟨_, rfl, rfl, rfl⟩)))
  go_wp2
  refine bodyPost_ret (v := .agg #[.int .i64 (rnd (a * x + c * y)), .int .i64 (rnd (b * x + d * y)), .bool on]) (by simp [results, Tryd.results62, go_sem, c7, c8, c9]) rfl ?_
  exact .mk ⟨rfl, ((((M3.out.set (L1 := []) 0 (.int .i64 (rnd (a * x + c * y)))).set (L1 := []) 1 (.int .i64 (rnd (b * x + d * y)))).set (L1 := []) 2 (.bool on)).drew).below⟩

end Go.Proofs.YtiedbfaehndooaaDoor
