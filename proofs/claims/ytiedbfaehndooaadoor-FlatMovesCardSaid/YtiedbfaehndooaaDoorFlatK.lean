/- Layer 14: FlatDeep and FlatCycles, walked. -/
import Derived.Test.YtiedbfaehndooaaDoorFlatJ
namespace Go.Proofs.YtiedbfaehndooaaDoor
open Go Go.RowKit
set_option linter.unusedVariables false
set_option linter.unusedSimpArgs false
set_option maxRecDepth 1000000

theorem deep_all : ∀ k < 40, if 16 < k then (atK (chainK k (-1)) 17 [] 0 0 0).e = 7 ∧ (atK (chainK k (-1)) 17 [] 0 0 0).c = [] else (atK (chainK k (-1)) 17 [] 0 0 0).e = 0 ∧ (atK (chainK k (-1)) 17 [] 0 0 0).c = [[((5 : Int) + k, (0 : Int), false)]] := by decide +kernel
def cycB : Bool := (List.range 17).all fun k => (List.range k).all fun b => (List.range k).all fun f => (atK (chainK k (b : Nat)) 17 [] 0 0 (f : Nat)).e == 8
theorem cycB_true : cycB = true := by kernel_rfl
theorem cyc_all {k b f : Nat} (hk : k < 17) (hb : b < k) (hf : f < k) : (atK (chainK k (b : Nat)) 17 [] 0 0 (f : Nat)).e = 8 := by
  have h1 := List.all_eq_true.1 cycB_true k (List.mem_range.2 hk)
  have h2 := List.all_eq_true.1 h1 b (List.mem_range.2 hb)
  have h3 := List.all_eq_true.1 h2 f (List.mem_range.2 hf)
  simpa using h3
theorem cyc_end : ∀ k < 17, ∀ b < 16, 0 < k → b < k → (atK (chainK k (b : Nat)) 17 [] 0 0 (k : Nat)).e = 0 ∧ (atK (chainK k (b : Nat)) 17 [] 0 0 (k : Nat)).c.length = 1 := by decide +kernel
set_option maxHeartbeats 4000000 in
theorem flatDeep_calls (w : World) {a : Int} (h0 : 0 ≤ a) (h1 : a < 256) : Calls Tryd.prog 3 #[.int .u8 a] w (Ret fun r w' => r = .bool true ∧ Below w.heap.size w w') := by
  have M0 := hid (Own.start w)
  obtain ⟨k, hk, hk40⟩ : ∃ k : Nat, a.tmod 40 = k ∧ k < 40 := ⟨(a.tmod 40).toNat, by rw [Int.tmod_eq_emod_of_nonneg h0]; omega, by rw [Int.tmod_eq_emod_of_nonneg h0]; omega⟩
  have hCh := hid (fun w1 => chain_calls w1 (n := k) (back := -1) (by omega) (by omega) (by omega))
  have hF := hid (fun (w1 : World) (V : Value) (h : GlyphsAt w1 V (chainK k (-1))) => flat_calls h (chainK_right (by omega) (by omega)) (chainK_near (by omega) (by omega)) 0)
  have hall := deep_all k hk40
  obtain ⟨R, hR⟩ : ∃ R, atK (chainK k (-1)) 17 [] 0 0 0 = R := ⟨_, rfl⟩
  rw [hR] at hF hall
  clear hR
  obtain ⟨e, c, m, q⟩ := R
  simp only at hall
  have w8 : IntKind.u8.wrap (a.tmod 40) = k := by rw [hk]; exact IntWalk.u8_in _ (by omega)
  have w8' : IntKind.u8.wrap (k : Int) = k := IntWalk.u8_in _ (by omega)
  have w64 : IntKind.i64.wrap (k : Int) = k := IntWalk.i64_in _ (by omega)
  have w5 : IntKind.i64.wrap (5 + (k : Int)) = 5 + k := IntWalk.i64_in _ (by omega)
  by_cases h16 : 16 < k
  · rw [if_pos h16] at hall
    obtain ⟨rfl, rfl⟩ := hall
    have hg : (k : Int) > 16 := by omega
    clear h16
    go_enter Tryd.func3, Tryd.ntmps3
    go_wp2_with (first
      | (go_at_call 8; (with_reducible refine (awake14_calls _).mono ?_); rintro _ w1 ⟨_, rfl, rfl, hb⟩; (have M1 := hid (M0.out.keep hb)); clear hb)
      | (go_at_call 10; (with_reducible refine (hCh.out _).mono ?_); rintro _ w2 ⟨_, rfl, hG, hb⟩; obtain ⟨A2, c2, rfl, -, -⟩ := gl_form hG; ((have hGH := hid hG)); (clear hG); (have M2 := hid (M1.out.keep hb)); clear hb)
      | (go_at_call 9; (with_reducible refine (hF.out _ _ hGH.out).mono ?_); rintro _ w3 ⟨_, rfl, hP⟩; obtain ⟨A3, c3, rfl, hb⟩ := flatP_nil hP rfl; (have M3 := hid (M2.out.keep hb)); clear hb hP))
    go_ret
    exact .mk ⟨rfl, M3.out.below⟩
  · rw [if_neg h16] at hall
    obtain ⟨rfl, rfl⟩ := hall
    have hg : ¬ (k : Int) > 16 := by omega
    clear h16
    go_enter Tryd.func3, Tryd.ntmps3
    go_wp2_with (first
      | (go_at_call 8; (with_reducible refine (awake14_calls _).mono ?_); rintro _ w1 ⟨_, rfl, rfl, hb⟩; (have M1 := hid (M0.out.keep hb)); clear hb)
      | (go_at_call 10; (with_reducible refine (hCh.out _).mono ?_); rintro _ w2 ⟨_, rfl, hG, hb⟩; obtain ⟨A2, c2, rfl, -, -⟩ := gl_form hG; ((have hGH := hid hG)); (clear hG); (have M2 := hid (M1.out.keep hb)); clear hb)
      | (go_at_call 9; (with_reducible refine (hF.out _ _ hGH.out).mono ?_); rintro _ w3 ⟨_, rfl, hP⟩; obtain ⟨ad, c4, bd, c5, rfl, hb, p0, p1, p2, p3⟩ := flatP_one hP rfl; (have M3 := hid (M2.out.keep hb)); clear hb hP))
    go_ret
    exact .mk ⟨rfl, M3.out.below⟩
set_option maxHeartbeats 4000000 in
theorem flatCycles_calls (w : World) {a b f : Int} (a0 : 0 ≤ a) (a1 : a < 256) (b0 : 0 ≤ b) (b1 : b < 256) (f0 : 0 ≤ f) (f1 : f < 256) : Calls Tryd.prog 4 #[.int .u8 a, .int .u8 b, .int .u8 f] w (Ret fun r w' => r = .bool true ∧ Below w.heap.size w w') := by
  have M0 := hid (Own.start w)
  obtain ⟨n, hn, hn16⟩ : ∃ k : Nat, a.tmod 16 = k ∧ k < 16 := ⟨(a.tmod 16).toNat, by rw [Int.tmod_eq_emod_of_nonneg a0]; omega, by rw [Int.tmod_eq_emod_of_nonneg a0]; omega⟩
  obtain ⟨k, hk⟩ : ∃ k, k = n + 1 := ⟨_, rfl⟩
  have hk1 : 1 ≤ k := by omega
  have hk2 : k ≤ 16 := by omega
  have hkk : (1 : Int) + (n : Int) = k := by omega
  obtain ⟨i, hi, hi16⟩ : ∃ i : Nat, b.tmod k = i ∧ i < k := ⟨(b.tmod k).toNat, by
    have := Int.emod_nonneg b (show (k : Int) ≠ 0 by omega)
    rw [Int.tmod_eq_emod_of_nonneg b0]; omega, by
    have := Int.emod_lt_of_pos b (show 0 < (k : Int) by omega)
    have := Int.emod_nonneg b (show (k : Int) ≠ 0 by omega)
    rw [Int.tmod_eq_emod_of_nonneg b0]; omega⟩
  obtain ⟨j, hj, hj16⟩ : ∃ i : Nat, f.tmod k = i ∧ i < k := ⟨(f.tmod k).toNat, by
    have := Int.emod_nonneg f (show (k : Int) ≠ 0 by omega)
    rw [Int.tmod_eq_emod_of_nonneg f0]; omega, by
    have := Int.emod_lt_of_pos f (show 0 < (k : Int) by omega)
    have := Int.emod_nonneg f (show (k : Int) ≠ 0 by omega)
    rw [Int.tmod_eq_emod_of_nonneg f0]; omega⟩
  have hCh := hid (fun w1 => chain_calls w1 (n := k) (back := (i : Int)) (by omega) (by omega) (by omega))
  have hF := hid (fun (w1 : World) (V : Value) (h : GlyphsAt w1 V (chainK k (i : Int))) => flat_calls h (chainK_right (by omega) (by omega)) (chainK_near (by omega) (by omega)) (j : Int))
  have hE := hid (fun (w1 : World) (V : Value) (h : GlyphsAt w1 V (chainK k (i : Int))) => flat_calls h (chainK_right (by omega) (by omega)) (chainK_near (by omega) (by omega)) (k : Int))
  have h1 := cyc_all (show k < 17 by omega) hi16 hj16
  have h2 := cyc_end k (by omega) i (by omega) (by omega) hi16
  have h3 := (atK_good (chainK_right (n := k) (back := (i : Int)) (by omega) (by omega)) 17 [] 0 0 (j : Int) (by omega) (by omega)).2 (by rw [h1]; decide)
  obtain ⟨R, hR⟩ : ∃ R, atK (chainK k (i : Int)) 17 [] 0 0 (j : Int) = R := ⟨_, rfl⟩
  rw [hR] at hF h1 h3
  clear hR
  obtain ⟨e, c, m, q⟩ := R
  obtain rfl : e = 8 := h1
  obtain rfl : c = [] := h3
  obtain ⟨R, hR⟩ : ∃ R, atK (chainK k (i : Int)) 17 [] 0 0 (k : Int) = R := ⟨_, rfl⟩
  rw [hR] at hE h2
  clear hR
  obtain ⟨e, c, m2, q2⟩ := R
  obtain ⟨h4, h5⟩ := h2
  obtain rfl : e = 0 := h4
  replace h5 : c.length = 1 := h5
  replace h5 := hid h5
  have hk0 : ¬ (k : Int) = 0 := by omega
  have w8 : IntKind.u8.wrap (a.tmod 16) = n := by rw [hn]; exact IntWalk.u8_in _ (by omega)
  have w8' : IntKind.u8.wrap (n : Int) = n := IntWalk.u8_in _ (by omega)
  have w64 : IntKind.i64.wrap (n : Int) = n := IntWalk.i64_in _ (by omega)
  have wk : IntKind.i64.wrap (1 + (n : Int)) = k := by rw [hkk]; exact IntWalk.i64_in _ (by omega)
  have wb : IntKind.i64.wrap b = b := IntWalk.i64_in _ (by omega)
  have wf : IntKind.i64.wrap f = f := IntWalk.i64_in _ (by omega)
  have wbi : IntKind.i64.wrap (b.tmod k) = i := by rw [hi]; exact IntWalk.i64_in _ (by omega)
  have wfj : IntKind.i64.wrap (f.tmod k) = j := by rw [hj]; exact IntWalk.i64_in _ (by omega)
  have wi : IntKind.i64.wrap (i : Int) = i := IntWalk.i64_in _ (by omega)
  have wj : IntKind.i64.wrap (j : Int) = j := IntWalk.i64_in _ (by omega)
  clear hk hkk
  go_enter Tryd.func4, Tryd.ntmps4
  go_wp2_with (first
    | (go_at_call 8; (with_reducible refine (awake14_calls _).mono ?_); rintro _ w1 ⟨_, rfl, rfl, hb⟩; (have M1 := hid (M0.out.keep hb)); clear hb)
    | (go_at_call 10; (with_reducible refine (hCh.out _).mono ?_); rintro _ w2 ⟨_, rfl, hG, hb⟩; obtain ⟨A2, c2, rfl, -, -⟩ := gl_form hG; ((have hGH := hid hG)); (clear hG); (have M2 := hid (M1.out.keep hb)); clear hb)
    | (go_at_call 9; (with_reducible refine (hF.out _ _ hGH.out).mono ?_); rintro _ w3 ⟨_, rfl, hP⟩; obtain ⟨A3, c3, rfl, hb⟩ := flatP_nil hP rfl; (have hG3 := hid (hGH.out.below hb)); (have M3 := hid (M2.out.keep hb)); clear hb hP)
    | (go_at_call 9; (with_reducible refine (hE.out _ _ hG3.out).mono ?_); rintro _ w4 ⟨_, rfl, hP⟩; obtain ⟨A4, c4, rfl, hb⟩ := flatP_len hP; (try simp only [h5.out]); (have M4 := hid (M3.out.keep hb)); clear hb hP))
  go_ret
  exact .mk ⟨rfl, M4.out.below⟩
end Go.Proofs.YtiedbfaehndooaaDoor
