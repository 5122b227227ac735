/- Proved: each of up to twenty points of a list, cut to what isn't too far, is moved one by one as a matrix and a move say, and nothing of the list has changed. -/
import Derived.Test.YtodhhkibpgcikaaRows
import Derived.Test.YtodhhkibpgcikaaLaw04C
import Derived.Test.YtodhhkibpgcikaaDec04
import Derived.Test.YtodhhkibpgcikaaOpen
import Derived.WalkKit
import Derived.ProofKit
import Derived.OpenShut
import Derived.ShutString
import Derived.ChangeOld
import Derived.Below
import Derived.SizedLaws
import Derived.Carry
namespace Go.Proofs.Ytodhhkibpgcikaa.dotAlls
open Go Go.ChangeShapes Go.WideShapes Go.ChangeAt Go.RowKit
set_option linter.unusedVariables false
set_option linter.unusedSimpArgs false
theorem own : ownKnob Try.prog.godebug = none := by kernel_rfl
theorem laidOut : laidOutB Try.prog = true := by kernel_rfl
set_option maxRecDepth 100000 in
theorem lifted (os : Os) (started : os.Started) (H : Type) (enc : TypeId × Value → H) :
    ReturnsInHanded {} Try.checked os 6 .any (Rows.dotAllsSpec.pre6 enc Try.prog Try.f6 Rows.dotAllsRow.domain false) (Rows.dotAllsSpec.post enc Try.prog Try.f6 false true false false) := by
  refine returnsInHanded_of_change_sized (C := Try.checked) own started (by kernel_rfl) Try.func6
    (ChangeSpec.witness6 (enc := enc) (C := Try.checked) false ⟨#[], #[.slice none 0 0, .agg #[.int .i16 0, .int .i16 0, .int .i16 0, .int .i16 0], .int .i64 0, .int .i64 0], []⟩ 8 (by kernel_rfl) (by kernel_rfl) (by kernel_rfl) (by kernel_rfl)) ?_
  intro W base args ds gs before hval0 hW hcnd hsz0 _
  have hval : ∀ (j : Nat) t v, Try.f6.params[j]? = some t → args[j]? = some v → Value.okWide Try.prog W .any base t v := hval0
  have hW' := hW
  obtain ⟨p, q, hA0, hV, rfl, hfz, hnd⟩ := hW
  have hA : DataW.TrodAll enc Try.prog W 0 (fun _ => true) true Try.f6.params.toList args.toList ds p := hA0
  rw [Try.params6] at hA hval
  obtain ⟨v0, vs0, d0, ds0, p0, q0, hargs, rfl, rfl, t0, r0⟩ := trodAll_cons hA
  obtain ⟨v1, vs1, d1, ds1, p1, q1, rfl, rfl, rfl, t1, r1⟩ := trodAll_cons r0
  obtain ⟨v2, vs2, d2, ds2, p2, q2, rfl, rfl, rfl, t2, r2⟩ := trodAll_cons r1
  obtain ⟨v3, vs3, d3, ds3, p3, q3, rfl, rfl, rfl, t3, r3⟩ := trodAll_cons r2
  obtain ⟨rfl, rfl, rfl⟩ := trodAll_nil r3
  obtain rfl : args = #[v0, v1, v2, v3] := by cases args; simp_all
  obtain ⟨rfl, rfl⟩ := trodVars_none hV
  have k0 := t0
  have lt0 : ∀ x ∈ p0, x.block < W.heap.size := by obtain ⟨m, hm⟩ := k0; exact DataW.trod_lt m _ _ _ hm
  obtain ⟨A0, n0, c0, rfl⟩ := okWide_slice Try.underlying39 (hval 0 39 v0 rfl rfl)
  have h0 : Dec W (.slice 3 shPoint) [_] := dec_arg (by kernel_rfl) rfl t0
  have k1 := t1
  have lt1 : ∀ x ∈ p1, x.block < W.heap.size := by obtain ⟨m, hm⟩ := k1; exact DataW.trod_lt m _ _ _ hm
  obtain ⟨cs1, rfl, z1⟩ := okWide_struct Try.underlying27 (hval 1 27 v1 rfl rfl)
  have h1 : Dec W (shMatrix) cs1.toList := dec_arg (by kernel_rfl) rfl t1
  obtain ⟨a2, rfl, rfl, rfl, h2⟩ := open_int Try.underlying3 (hval 2 3 v2 rfl rfl) t2
  obtain ⟨a3, rfl, rfl, rfl, h3⟩ := open_int Try.underlying3 (hval 3 3 v3 rfl rfl) t3
  obtain ⟨pp, hpp⟩ := dec_points h0
  obtain ⟨ma, mb, mc, md, rfl, b1, b2, b3, b4⟩ := dec_matrix h1
  clear hA0 hval0 hsz0
  refine (dotAlls_calls W a2 a3 b1 b2 b3 b4 hpp).mono ?_
  rintro _ W' ⟨_, rfl, rfl, bel⟩
  exact ⟨_, rfl, _, _, _, [], _, [], hW', trodAll_mk1 (shut_bool Try.underlying4 _), (trodAll_cons_mk (Below.trod laidOut (by kernel_rfl) (of_decide_eq_true (by kernel_rfl)) k0 bel lt0) (trodAll_cons_mk (Below.trod laidOut (by kernel_rfl) (of_decide_eq_true (by kernel_rfl)) k1 bel lt1) (trodAll_cons_mk (shut_int Try.underlying3 h2) (trodAll_cons_mk (shut_int Try.underlying3 h3) trodAll_mk0)))), rfl, bel.frame _, fun h => by cases h⟩
theorem over : Rows.dotAllsRow.holds Try.pinned (OpenSpec.ofChange Rows.dotAllsSpec) :=
  OpenClaim.holds_of_wide 6 Try.f6 rfl rfl rfl rfl rfl rfl rfl ⟨rfl, rfl, rfl, rfl, rfl⟩ rfl rfl rfl rfl rfl (by kernel_rfl) Try.func6 (by kernel_rfl)
    (of_decide_eq_true (by kernel_rfl)) (by unfold Func.isWrapper; first | (rw [if_pos (by decide +kernel)]; kernel_rfl) | (rw [if_neg (by decide +kernel)]; exact ⟨rfl, rfl⟩))
    (fun os started H enc _ => lifted os started H enc)
theorem proved : Rows.DotAllsSaid := over
#print axioms proved
end Go.Proofs.Ytodhhkibpgcikaa.dotAlls
namespace Go.Proofs.Ytodhhkibpgcikaa
/-- The row, under a short name, for the claim. -/
theorem dotAlls_holds : Rows.DotAllsSaid := dotAlls.proved
end Go.Proofs.Ytodhhkibpgcikaa
