/- The document's number of a flag. -/
import Derived.Test.YtmmepjcndofnbaaSimpP
import Derived.Test.YtmmepjcndofnbaaSimpJ
import Derived.OwnWalk
namespace Go.Proofs.Ytmmepjcndofnbaa
open Go Go.RowKit
set_option linter.unusedVariables false
set_option linter.unusedSimpArgs false
set_option maxRecDepth 100000

set_option maxHeartbeats 2000000 in
theorem number_calls12 (w : World) {V : Value} {l : List Int} (a : Nat) (ha : a ≤ 4611686018427387904) (hB : Bytes l) (hV : BytesAt w V l) {f sh sa : Int} (f0 : 0 ≤ f) (f1 : f < 256) (hw : Way sh sa) :
    Calls Try.prog 51 #[V, .int .i64 a, .int .u8 f, .int .i64 sh, .int .i64 sa] w (Ret fun r w' => NumP l a f sh sa r ∧ Below w.heap.size w w') := by
  have hN := hid (fun w1 (h : Below w.heap.size w w1) => N2_calls w1 a ha hB (hV.below h))
  have hS := hid (fun w1 => Sign_calls w1 (n2_bound hB a).1 (n2_bound hB a).2)
  obtain ⟨s0, s1⟩ : 0 < sh ∧ sh ≤ 128 := by rcases hw with ⟨rfl, rfl⟩ | ⟨rfl, rfl⟩ <;> omega
  obtain ⟨t0, t1⟩ : 0 < sa ∧ sa ≤ 128 := by rcases hw with ⟨rfl, rfl⟩ | ⟨rfl, rfl⟩ <;> omega
  have hB1 := hid (fun w => bit_calls w f0 f1 s0 s1)
  have hB2 := hid (fun w => bit_calls w f0 f1 t0 t1)
  have hP := hid (show NumP l a f sh sa = fun r => ∃ n k : Int, r = .tuple #[.int .i64 n, .int .i64 k, .bool (nbOk l a f sh sa)] ∧ -32768 ≤ n ∧ n < 65536 ∧ 0 ≤ k ∧ k ≤ 2 ∧ (nbOk l a f sh sa = true → n = nbV l a f sh sa ∧ k = chW f sh sa) from rfl)
  have hok := hid (show nbOk l a f sh sa = if bitB f sh then decide (a < l.length) else if bitB f sa then true else decide (a + 2 ≤ l.length) from rfl)
  have hv := hid (show nbV l a f sh sa = if bitB f sh then (if bitB f sa then l.getD a 0 else - l.getD a 0) else if bitB f sa then 0 else sgn (n2 l a) from rfl)
  have hk := hid (show chW f sh sa = if bitB f sh then 1 else if bitB f sa then 0 else 2 from rfl)
  obtain ⟨A, c, rfl, hc, hm, -, hr⟩ := hV
  unfold maxLen at hm
  obtain ⟨g0, g1⟩ := hB.get a
  have hcell := hid (fun (h : a < l.length) => hr.cell (ints_get .u8 l a h))
  have hsb : -32768 ≤ sgn (n2 l a) ∧ sgn (n2 l a) < 32768 := by
    have := n2_bound hB a
    unfold sgn
    split <;> omega
  obtain ⟨z0, z1⟩ := hsb
  rw [hP.out]
  clear hr hP hB
  generalize nbOk l a f sh sa = ok at *
  generalize nbV l a f sh sa = nv at *
  generalize chW f sh sa = cw at *
  generalize bitB f sh = p at *
  generalize bitB f sa = q at *
  generalize hL : l.length = N at *
  generalize l.getD a 0 = x at *
  have M0 := hid (Own.start w)
  cases p <;> cases q
  · obtain rfl : ok = decide (a + 2 ≤ N) := by simpa using hok.out
    obtain hnv : nv = sgn (n2 l a) := by simpa using hv.out
    obtain rfl : cw = 2 := by simpa using hk.out
    subst hnv
    generalize decide (a + 2 ≤ N) = d at *
    clear hok hv hk
    generalize n2 l a = z at *
    go_enter Try.func51, Try.ntmps51
    go_wp2_with (first
      | (go_at_call 50; (with_reducible refine (hB1.out _).mono ?_); rintro _ _ ⟨_, rfl, rfl, rfl⟩)
      | (go_at_call 50; (with_reducible refine (hB2.out _).mono ?_); rintro _ _ ⟨_, rfl, rfl, rfl⟩)
      | (go_at_call 47; refine (hN.out _ (Below.refl _ _)).mono ?_; rintro _ w1 ⟨_, rfl, rfl, hb⟩; (have M1 := hid (M0.out.keep hb)); clear hb)
      | (go_at_call 48; refine (hS.out _).mono ?_; rintro _ _ ⟨_, rfl, rfl, rfl⟩))
    go_ret3
    exact .mk ⟨⟨_, _, rfl, z0, by omega, by omega, by omega, fun _ => ⟨rfl, rfl⟩⟩, M1.out.below⟩
  · obtain rfl : ok = true := by simpa using hok.out
    obtain rfl : nv = 0 := by simpa using hv.out
    obtain rfl : cw = 0 := by simpa using hk.out
    clear hok hv hk
    go_enter Try.func51, Try.ntmps51
    go_wp2_with (first
      | (go_at_call 50; (with_reducible refine (hB1.out _).mono ?_); rintro _ _ ⟨_, rfl, rfl, rfl⟩)
      | (go_at_call 50; (with_reducible refine (hB2.out _).mono ?_); rintro _ _ ⟨_, rfl, rfl, rfl⟩))
    go_ret3
    exact .mk ⟨⟨_, _, rfl, by omega, by omega, by omega, by omega, fun _ => ⟨rfl, rfl⟩⟩, M0.out.below⟩
  all_goals
    by_cases hlt : a < N
    · obtain ⟨ad, rfl, hce⟩ := hcell.out hlt
      have hg : ¬ (a : Int) ≥ N := by omega
      obtain rfl : ok = true := by simpa [hlt] using hok.out
      obtain hnv := hv.out
      obtain hcw := hk.out
      simp only [if_true, if_false, Bool.false_eq_true] at hnv hcw
      subst hnv; subst hcw
      clear hok hv hk
      go_enter Try.func51, Try.ntmps51
      go_wp2_with (first
        | (go_at_call 50; (with_reducible refine (hB1.out _).mono ?_); rintro _ _ ⟨_, rfl, rfl, rfl⟩)
        | (go_at_call 50; (with_reducible refine (hB2.out _).mono ?_); rintro _ _ ⟨_, rfl, rfl, rfl⟩))
      go_ret3
      exact .mk ⟨⟨_, _, rfl, by omega, by omega, by omega, by omega, fun _ => ⟨rfl, rfl⟩⟩, M0.out.below⟩
    · have hg : (a : Int) ≥ N := by omega
      obtain rfl : ok = false := by simpa [hlt] using hok.out
      clear hok hv hk
      go_enter Try.func51, Try.ntmps51
      go_wp2_with (first
        | (go_at_call 50; (with_reducible refine (hB1.out _).mono ?_); rintro _ _ ⟨_, rfl, rfl, rfl⟩)
        | (go_at_call 50; (with_reducible refine (hB2.out _).mono ?_); rintro _ _ ⟨_, rfl, rfl, rfl⟩))
      go_ret3
      exact .mk ⟨⟨_, _, rfl, by omega, by omega, by omega, by omega, fun h => by cases h⟩, M0.out.below⟩
end Go.Proofs.Ytmmepjcndofnbaa
