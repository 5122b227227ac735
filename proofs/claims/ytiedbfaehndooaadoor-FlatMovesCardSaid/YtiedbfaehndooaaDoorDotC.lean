/- Package dot, on: a list of points, one by one. -/
import Derived.Test.YtiedbfaehndooaaDoorDotB
import Derived.Test.YtiedbfaehndooaaDoorDec04
namespace Go.Proofs.YtiedbfaehndooaaDoor
open Go Go.RowKit
set_option linter.unusedVariables false
set_option linter.unusedSimpArgs false
set_option maxRecDepth 100000

theorem sized_pt : Sized Tryd.prog 31 30 3 24 := Sized.mk' Tryd.underlying31 (.agg #[.int .i64 0, .int .i64 0, .bool false]) (by kernel_rfl)

def ptV (p : Int × Int × Bool) : Value := .agg #[.int .i64 p.1, .int .i64 p.2.1, .bool p.2.2]
/-- A point that isn't too far. -/
def PtOk (p : Int × Int × Bool) : Prop := (-4398046511104 ≤ p.1 ∧ p.1 ≤ 4398046511104) ∧ (-4398046511104 ≤ p.2.1 ∧ p.2.1 ≤ 4398046511104)
/-- Where a matrix and a move bring it. -/
def goTo (a b c d u v : Int) (p : Int × Int × Bool) : Int × Int × Bool := (rnd (a * p.1 + c * p.2.1) + u, rnd (b * p.1 + d * p.2.1) + v, p.2.2)

theorem flatMap_length3 (ps : List (Int × Int × Bool)) : (ps.flatMap ptC).length = ps.length * 3 := by
  induction ps with
  | nil => rfl
  | cons p ps ih => rw [List.flatMap_cons, List.length_append, ih, List.length_cons, Nat.succ_mul]; simp [ptC]; omega
theorem flatMap_get3 (ps : List (Int × Int × Bool)) (k j : Nat) (hk : k < ps.length) (hj : j < 3) : (ps.flatMap ptC)[k * 3 + j]? = (ptC ps[k])[j]? := by
  induction ps generalizing k with
  | nil => simp at hk
  | cons p ps ih =>
    rw [List.flatMap_cons]
    cases k with
    | zero => rw [List.getElem?_append_left (by simp [ptC]; omega)]; simp
    | succ k =>
      rw [List.getElem?_append_right (by simp [ptC]; omega), show (k + 1) * 3 + j - (ptC p).length = k * 3 + j by simp [ptC]; omega, ih k (by simpa using hk)]
      simp
theorem pt_one (ps : List (Int × Int × Bool)) : ∀ u ∈ ps.flatMap ptC, u.oneCell' = true := by
  intro u hu
  obtain ⟨p, _, hp⟩ := List.mem_flatMap.1 hu
  simp [ptC] at hp
  rcases hp with rfl | rfl | rfl <;> rfl

set_option maxHeartbeats 4000000 in
theorem all_calls (w : World) {V : Value} {ps : List (Int × Int × Bool)} {a b c d u v : Int} (ha : -32768 ≤ a ∧ a < 32768) (hb : -32768 ≤ b ∧ b < 32768) (hc : -32768 ≤ c ∧ c < 32768) (hd : -32768 ≤ d ∧ d < 32768)
    (hu : -4611686018427387904 < u ∧ u < 4611686018427387904) (hv : -4611686018427387904 < v ∧ v < 4611686018427387904) (hs : SliceAt w w.heap.size 3 V ps.length (ps.flatMap ptC)) (hl : ps.length ≤ 1000000) (hP : ∀ p ∈ ps, PtOk p) :
    Calls Tryd.prog 48 #[V, .agg #[.int .i16 a, .int .i16 b, .int .i16 c, .int .i16 d], .int .i64 u, .int .i64 v] w
      (Ret fun r w' => Own w w' [.row 30 3 r ps.length ((ps.map (goTo a b c d u v)).flatMap ptC)]) := by
  obtain ⟨A1, CC, rfl, hc1, hm1, hA1, hr1⟩ := hs
  unfold maxLen at hm1
  have hrH := hid hr1
  have hPH := hid hP
  clear hr1 hA1 hP
  have M0 := hid (Own.start w)
  have AP := hid (fun w x y on hx hy => apply_calls w (x := x) (y := y) (on := on) ha hb hc hd hx hy)
  have MV := hid (fun w x y on hx hy => move_calls w (x := x) (y := y) (u := u) (v := v) (on := on) hx hy hu hv)
  have BD := hid (fun (x y : Int) (hx : -4398046511104 ≤ x ∧ x ≤ 4398046511104) (hy : -4398046511104 ≤ y ∧ y ≤ 4398046511104) => (show (-4611686018427387904 ≤ rnd (a * x + c * y) ∧ rnd (a * x + c * y) ≤ 4611686018427387904) ∧ (-4611686018427387904 ≤ rnd (b * x + d * y) ∧ rnd (b * x + d * y) ≤ 4611686018427387904) by
    have b1 := mul_small ha hx
    have b2 := mul_small hc hy
    have b3 := mul_small hb hx
    have b4 := mul_small hd hy
    unfold rnd
    omega))
  go_enter Tryd.func48, Tryd.ntmps48
  go_wp2_with ((with_reducible refine gate (N := 5) rfl ?_); refine wpList_box_Own rfl (cs := #[.int .i16 a, .int .i16 b, .int .i16 c, .int .i16 d]) (t := 42) (by first | (go_simp; done) | (go_simp; rfl)) M0.out ?_; intro m w1 M; have M1 := hid (M.nil_row 30 3); clear M)
  go_loopw [9, 14] (fun o i wr => ∃ k : Nat, k ≤ ps.length ∧ i = .int .i64 k ∧ Hid (Own w wr [.row 30 3 o k (((ps.take k).map (goTo a b c d u v)).flatMap ptC), .blk m 42 #[.int .i16 a, .int .i16 b, .int .i16 c, .int .i16 d]])) (fun _ i _ => ps.length - (intOf i).toNat)
  case atStart => exact ⟨0, Nat.zero_le _, rfl, M1⟩
  case round =>
    obtain ⟨k, hk, rfl, MH⟩ := hrel
    by_cases hlt : k < ps.length
    · have hr := hrH.out.keep (w' := wr) fun k hk _ => MH.out.below.block k hk
      obtain ⟨ad, rfl, e0⟩ := hr.cell (j := k * 3) (u := .int .i64 ps[k].1) (by have := flatMap_get3 ps k 0 hlt (by omega); simpa [ptC] using this)
      obtain ⟨ad1, h1, e1⟩ := hr.cell_at (m := k * 3) (j := 1) (u := .int .i64 ps[k].2.1) (by omega) (by have := flatMap_get3 ps k 1 hlt (by omega); simpa [ptC] using this)
      obtain ⟨ad2, h2, e2⟩ := hr.cell_at (m := k * 3) (j := 2) (u := .bool ps[k].2.2) (by omega) (by have := flatMap_get3 ps k 2 hlt (by omega); simpa [ptC] using this)
      injection h1 with h1; subst h1
      injection h2 with h2; subst h2
      have m0 := MH.out.cell (g := m) (t := 42) (cs := #[.int .i16 a, .int .i16 b, .int .i16 c, .int .i16 d]) (by simp)
      have c0 := m0 0; have c1 := m0 1; have c2 := m0 2; have c3 := m0 3
      simp only [List.getElem?_toArray, List.getElem?_cons_zero, List.getElem?_cons_succ] at c0 c1 c2 c3
      have hpok := hPH.out ps[k] (List.getElem_mem _)
      have htake : (ps.take (k + 1)).map (goTo a b c d u v) = (ps.take k).map (goTo a b c d u v) ++ [goTo a b c d u v ps[k]] := by
        rw [List.take_succ_eq_append_getElem hlt, List.map_append]; rfl
      have htakeH := hid htake
      generalize ps[k] = p at *
      obtain ⟨x, y, on⟩ := p
      obtain ⟨hx, hy⟩ := hpok
      simp only at hx hy e0 e1 e2
      have APx := hid (fun w => AP.out w x y on hx hy)
      obtain ⟨hbx, hby⟩ := BD.out x y hx hy
      have MVx := hid (fun w => MV.out w _ _ on hbx hby)
      have eg := hid (show goTo a b c d u v (x, y, on) = (rnd (a * x + c * y) + u, rnd (b * x + d * y) + v, on) from rfl)
      generalize rnd (a * x + c * y) = rx at *
      generalize rnd (b * x + d * y) = ry at *
      clear m0 hr htake
      have HB3 := hid (show k + 1 ≤ 1000000 by omega)
      go_wp2_with (first
        | ((with_reducible refine gate (N := 11) rfl ?_); refine wpList_box_Own rfl (cs := #[.int .i64 0, .int .i64 0, .bool false]) (t := 30) (by first | (go_simp; done) | (go_simp; rfl)) MH.out ?_; intro q w2 M; (have M2 := hid M); (have q0 := M.cell (.head _) 0); (have q1 := M.cell (.head _) 1); (have q2 := M.cell (.head _) 2); (have g0 := M.free (.head _) 0); (have g1 := M.free (.head _) 1); (have g2 := M.free (.head _) 2); (have z0 := (M.cell (g := m) (t := 42) (cs := #[.int .i16 a, .int .i16 b, .int .i16 c, .int .i16 d]) (by simp) 0)); (have z1 := (M.cell (g := m) (t := 42) (cs := #[.int .i16 a, .int .i16 b, .int .i16 c, .int .i16 d]) (by simp) 1)); (have z2 := (M.cell (g := m) (t := 42) (cs := #[.int .i16 a, .int .i16 b, .int .i16 c, .int .i16 d]) (by simp) 2)); (have z3 := (M.cell (g := m) (t := 42) (cs := #[.int .i16 a, .int .i16 b, .int .i16 c, .int .i16 d]) (by simp) 3)); (have nqm := (M.ne (g' := m) (t' := 42) (cs' := #[.int .i16 a, .int .i16 b, .int .i16 c, .int .i16 d]) (by simp)).symm); clear M; simp only [List.getElem?_toArray, List.getElem?_cons_zero, List.getElem?_cons_succ] at q0 q1 q2 z0 z1 z2 z3)
        | (go_at_call 62; refine (APx.out _).mono ?_; rintro _ w3 ⟨_, rfl, rfl, hb⟩; (have M3 := hid ((((M2.out.set (L1 := []) 0 (.int .i64 x)).set (L1 := []) 1 (.int .i64 y)).set (L1 := []) 2 (.bool on)).keep hb)); clear hb)
        | (go_at_call 63; refine (MVx.out _).mono ?_; rintro _ w4 ⟨_, rfl, rfl, hb⟩; (have M4 := hid (M3.out.keep hb)); clear hb)
        | (at_builtin; refine wpList_append_Own rfl (.tmp 18) (.tmp 25) _ rfl sized_pt rfl rfl (L1 := [.blk w4.heap.size 30 #[.int .i64 (rx + u), .int .i64 (ry + v), .bool on], .blk q 30 #[.int .i64 x, .int .i64 y, .bool on]]) (M4.out.alloc _ _) (SliceAt.built (M4.out.alloc _ _) (.head _) 3 1 rfl (by unfold maxLen; omega)) (pt_one [(rx + u, ry + v, on)]) (by have := HB3.out; unfold maxLen; omega) (by have := HB3.out; omega) ?_; intro v' w5 M; (have M5 := hid M.tail.tail); clear M))
      go_roundw
      case rel => exact ⟨k + 1, by omega, by go_num, by rw [htakeH.out, List.flatMap_append, eg.out]; exact M5⟩
      case measure => simp [intOf]; omega
    · obtain rfl : k = ps.length := by omega
      go_wp2
      go_ret
      exact .mk (by have := MH.out; rw [List.take_length] at this; exact this.sub (by simp))
end Go.Proofs.YtiedbfaehndooaaDoor
