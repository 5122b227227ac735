/- Proved: any outline that may be has the document's bytes, of which it is read again, whatever stands behind. -/
import Derived.Test.YtmmepjcndofnbaaRows
import Derived.Test.YtmmepjcndofnbaaLaw12B
import Derived.Test.YtmmepjcndofnbaaDec12B
import Derived.Test.YtmmepjcndofnbaaArr
import Derived.Test.YtmmepjcndofnbaaOpen
import Derived.WalkKit
import Derived.ProofKit
import Derived.OpenShut
import Derived.ShutString
import Derived.ChangeOld
import Derived.Below
import Derived.SizedLaws
import Derived.Carry
namespace Go.Proofs.Ytmmepjcndofnbaa.simpleForms
open Go Go.ChangeShapes Go.WideShapes Go.ChangeAt Go.RowKit
set_option linter.unusedVariables false
set_option linter.unusedSimpArgs false
theorem own : ownKnob Try.prog.godebug = none := by kernel_rfl
theorem laidOut : laidOutB Try.prog = true := by kernel_rfl
set_option maxRecDepth 100000 in
theorem lifted (os : Os) (started : os.Started) (H : Type) (enc : TypeId × Value → H) :
    ReturnsInHanded {} Try.checked os 8 .any (Rows.simpleFormsSpec.pre6 enc Try.prog Try.f8 Rows.simpleFormsRow.domain false) (Rows.simpleFormsSpec.post enc Try.prog Try.f8 false true false false) := by
  refine returnsInHanded_of_change_sized (C := Try.checked) own started (by kernel_rfl) Try.func8
    (ChangeSpec.witness6 (enc := enc) (C := Try.checked) false ⟨#[], #[.agg #[.int .i16 0, .int .i16 0, .int .i16 0, .int .i16 0], .slice none 0 0, .slice none 0 0, .slice none 0 0, .slice none 0 0], []⟩ 8 (by kernel_rfl) (by kernel_rfl) (by kernel_rfl) (by kernel_rfl)) ?_
  intro W base args ds gs before hval0 hW hcnd hsz0 _
  have hval : ∀ (j : Nat) t v, Try.f8.params[j]? = some t → args[j]? = some v → Value.okWide Try.prog W .any base t v := hval0
  have hW' := hW
  obtain ⟨p, q, hA0, hV, rfl, hfz, hnd⟩ := hW
  have hA : DataW.TrodAll enc Try.prog W 0 (fun _ => true) true Try.f8.params.toList args.toList ds p := hA0
  rw [Try.params8] at hA hval
  obtain ⟨v0, vs0, d0, ds0, p0, q0, hargs, rfl, rfl, t0, r0⟩ := trodAll_cons hA
  obtain ⟨v1, vs1, d1, ds1, p1, q1, rfl, rfl, rfl, t1, r1⟩ := trodAll_cons r0
  obtain ⟨v2, vs2, d2, ds2, p2, q2, rfl, rfl, rfl, t2, r2⟩ := trodAll_cons r1
  obtain ⟨v3, vs3, d3, ds3, p3, q3, rfl, rfl, rfl, t3, r3⟩ := trodAll_cons r2
  obtain ⟨v4, vs4, d4, ds4, p4, q4, rfl, rfl, rfl, t4, r4⟩ := trodAll_cons r3
  obtain ⟨rfl, rfl, rfl⟩ := trodAll_nil r4
  obtain rfl : args = #[v0, v1, v2, v3, v4] := by cases args; simp_all
  obtain ⟨rfl, rfl⟩ := trodVars_none hV
  have k0 := t0
  have lt0 : ∀ x ∈ p0, x.block < W.heap.size := by obtain ⟨m, hm⟩ := k0; exact DataW.trod_lt m _ _ _ hm
  obtain ⟨cs0, rfl, z0⟩ := okWide_array Try.underlying26 (hval 0 26 v0 rfl rfl)
  have h0 : Dec W (.arr .i16 4) cs0.toList := dec_arg (by kernel_rfl) rfl t0
  have k1 := t1
  have lt1 : ∀ x ∈ p1, x.block < W.heap.size := by obtain ⟨m, hm⟩ := k1; exact DataW.trod_lt m _ _ _ hm
  obtain ⟨A1, n1, c1, rfl⟩ := okWide_slice Try.underlying22 (hval 1 22 v1 rfl rfl)
  have h1 : Dec W (shSpots) [_] := dec_arg (by kernel_rfl) rfl t1
  have k2 := t2
  have lt2 : ∀ x ∈ p2, x.block < W.heap.size := by obtain ⟨m, hm⟩ := k2; exact DataW.trod_lt m _ _ _ hm
  obtain ⟨A2, n2, c2, rfl⟩ := okWide_slice Try.underlying23 (hval 2 23 v2 rfl rfl)
  obtain ⟨a2, h2, w2⟩ := arg_ints (dec_arg (s := .slice 1 (.int .u8)) (by kernel_rfl) rfl t2)
  have k3 := t3
  have lt3 : ∀ x ∈ p3, x.block < W.heap.size := by obtain ⟨m, hm⟩ := k3; exact DataW.trod_lt m _ _ _ hm
  obtain ⟨A3, n3, c3, rfl⟩ := okWide_slice Try.underlying23 (hval 3 23 v3 rfl rfl)
  obtain ⟨a3, h3, w3⟩ := arg_ints (dec_arg (s := .slice 1 (.int .u8)) (by kernel_rfl) rfl t3)
  have k4 := t4
  have lt4 : ∀ x ∈ p4, x.block < W.heap.size := by obtain ⟨m, hm⟩ := k4; exact DataW.trod_lt m _ _ _ hm
  obtain ⟨A4, n4, c4, rfl⟩ := okWide_slice Try.underlying23 (hval 4 23 v4 rfl rfl)
  obtain ⟨a4, h4, w4⟩ := arg_ints (dec_arg (s := .slice 1 (.int .u8)) (by kernel_rfl) rfl t4)
  obtain ⟨mm, hmm, wmm⟩ := dec_spots h1
  obtain ⟨zs0, e0, hz0, wz0⟩ := h0
  obtain ⟨q0, q1, q2, q3, rfl⟩ := list4 hz0
  obtain rfl : cs0 = #[.int .i16 q0, .int .i16 q1, .int .i16 q2, .int .i16 q3] := Array.ext' e0
  clear hA0 hval0 hsz0
  refine ((simpleForms_calls W (wf_i16 (wz0 q0 (by simp))) (wf_i16 (wz0 q1 (by simp))) (wf_i16 (wz0 q2 (by simp))) (wf_i16 (wz0 q3 (by simp))) hmm wmm h2 (fun x hx => wf_u8 (w2 x hx)) h3 (fun x hx => wf_u8 (w3 x hx)) h4 (fun x hx => wf_u8 (w4 x hx)))).mono ?_
  rintro _ W' ⟨_, rfl, rfl, bel⟩
  exact ⟨_, rfl, _, _, _, [], _, [], hW', trodAll_mk1 (shut_bool Try.underlying4 _), (trodAll_cons_mk (Below.trod laidOut (by kernel_rfl) (of_decide_eq_true (by kernel_rfl)) k0 bel lt0) (trodAll_cons_mk (Below.trod laidOut (by kernel_rfl) (of_decide_eq_true (by kernel_rfl)) k1 bel lt1) (trodAll_cons_mk (Below.trod laidOut (by kernel_rfl) (of_decide_eq_true (by kernel_rfl)) k2 bel lt2) (trodAll_cons_mk (Below.trod laidOut (by kernel_rfl) (of_decide_eq_true (by kernel_rfl)) k3 bel lt3) (trodAll_cons_mk (Below.trod laidOut (by kernel_rfl) (of_decide_eq_true (by kernel_rfl)) k4 bel lt4) trodAll_mk0))))), rfl, bel.frame _, fun h => by cases h⟩
theorem over : Rows.simpleFormsRow.holds Try.pinned (OpenSpec.ofChange Rows.simpleFormsSpec) :=
  OpenClaim.holds_of_wide 8 Try.f8 rfl rfl rfl rfl rfl rfl rfl ⟨rfl, rfl, rfl, rfl, rfl⟩ rfl rfl rfl rfl rfl (by kernel_rfl) Try.func8 (by kernel_rfl)
    (of_decide_eq_true (by kernel_rfl)) (by unfold Func.isWrapper; first | (rw [if_pos (by decide +kernel)]; kernel_rfl) | (rw [if_neg (by decide +kernel)]; exact ⟨rfl, rfl⟩))
    (fun os started H enc _ => lifted os started H enc)
theorem proved : Rows.SimpleFormsSaid := over
#print axioms proved
end Go.Proofs.Ytmmepjcndofnbaa.simpleForms
namespace Go.Proofs.Ytmmepjcndofnbaa
/-- The row, under a short name, for the claim. -/
theorem simpleForms_holds : Rows.SimpleFormsSaid := simpleForms.proved
end Go.Proofs.Ytmmepjcndofnbaa
