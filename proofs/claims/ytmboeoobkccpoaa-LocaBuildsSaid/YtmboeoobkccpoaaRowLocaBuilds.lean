/- Proved: glyphs of any sizes, up to thirty of them, have the document's table, and of it their places are read again. -/
import Derived.Test.YtmboeoobkccpoaaRows
import Derived.Test.YtmboeoobkccpoaaLaw08D
import Derived.Test.YtmboeoobkccpoaaOpen
import Derived.WalkKit
import Derived.ProofKit
import Derived.OpenShut
import Derived.ShutString
import Derived.ChangeOld
import Derived.Below
import Derived.SizedLaws
import Derived.Carry
namespace Go.Proofs.Ytmboeoobkccpoaa.locaBuilds
open Go Go.ChangeShapes Go.WideShapes Go.ChangeAt Go.RowKit
set_option linter.unusedVariables false
set_option linter.unusedSimpArgs false
theorem own : ownKnob Try.prog.godebug = none := by kernel_rfl
theorem laidOut : laidOutB Try.prog = true := by kernel_rfl
set_option maxRecDepth 100000 in
theorem lifted (os : Os) (started : os.Started) (H : Type) (enc : TypeId × Value → H) :
    ReturnsInHanded {} Try.checked os 5 .any (Rows.locaBuildsSpec.pre6 enc Try.prog Try.f5 Rows.locaBuildsRow.domain false) (Rows.locaBuildsSpec.post enc Try.prog Try.f5 false true false false) := by
  refine returnsInHanded_of_change_sized (C := Try.checked) own started (by kernel_rfl) Try.func5
    (ChangeSpec.witness6 (enc := enc) (C := Try.checked) false ⟨#[], #[.slice none 0 0, .int .u32 0], []⟩ 8 (by kernel_rfl) (by kernel_rfl) (by kernel_rfl) (by kernel_rfl)) ?_
  intro W base args ds gs before hval0 hW hcnd hsz0 _
  have hval : ∀ (j : Nat) t v, Try.f5.params[j]? = some t → args[j]? = some v → Value.okWide Try.prog W .any base t v := hval0
  have hW' := hW
  obtain ⟨p, q, hA0, hV, rfl, hfz, hnd⟩ := hW
  have hA : DataW.TrodAll enc Try.prog W 0 (fun _ => true) true Try.f5.params.toList args.toList ds p := hA0
  rw [Try.params5] at hA hval
  obtain ⟨v0, vs0, d0, ds0, p0, q0, hargs, rfl, rfl, t0, r0⟩ := trodAll_cons hA
  obtain ⟨v1, vs1, d1, ds1, p1, q1, rfl, rfl, rfl, t1, r1⟩ := trodAll_cons r0
  obtain ⟨rfl, rfl, rfl⟩ := trodAll_nil r1
  obtain rfl : args = #[v0, v1] := by cases args; simp_all
  obtain ⟨rfl, rfl⟩ := trodVars_none hV
  have k0 := t0
  have lt0 : ∀ x ∈ p0, x.block < W.heap.size := by obtain ⟨m, hm⟩ := k0; exact DataW.trod_lt m _ _ _ hm
  obtain ⟨A0, n0, c0, rfl⟩ := okWide_slice Try.underlying32 (hval 0 32 v0 rfl rfl)
  obtain ⟨a0, h0, w0⟩ := arg_ints (dec_arg (s := .slice 1 (.int .u16)) (by kernel_rfl) rfl t0)
  obtain ⟨a1, rfl, rfl, rfl, h1⟩ := open_int Try.underlying30 (hval 1 30 v1 rfl rfl) t1
  have b1 := wf_u32 h1
  clear hA0 hval0 hsz0
  refine (locaBuilds_calls W h0 (fun x hx => wf_u16 (w0 x hx)) b1.1 b1.2).mono ?_
  rintro _ W' ⟨_, rfl, rfl, bel⟩
  exact ⟨_, rfl, _, _, _, [], _, [], hW', trodAll_mk1 (shut_bool Try.underlying4 _), (trodAll_cons_mk (Below.trod laidOut (by kernel_rfl) (of_decide_eq_true (by kernel_rfl)) k0 bel lt0) (trodAll_cons_mk (shut_int Try.underlying30 h1) trodAll_mk0)), rfl, bel.frame _, fun h => by cases h⟩
theorem over : Rows.locaBuildsRow.holds Try.pinned (OpenSpec.ofChange Rows.locaBuildsSpec) :=
  OpenClaim.holds_of_wide 5 Try.f5 rfl rfl rfl rfl rfl rfl rfl ⟨rfl, rfl, rfl, rfl, rfl⟩ rfl rfl rfl rfl rfl (by kernel_rfl) Try.func5 (by kernel_rfl)
    (of_decide_eq_true (by kernel_rfl)) (by unfold Func.isWrapper; first | (rw [if_pos (by decide +kernel)]; kernel_rfl) | (rw [if_neg (by decide +kernel)]; exact ⟨rfl, rfl⟩))
    (fun os started H enc _ => lifted os started H enc)
theorem proved : Rows.LocaBuildsSaid := over
#print axioms proved
end Go.Proofs.Ytmboeoobkccpoaa.locaBuilds
namespace Go.Proofs.Ytmboeoobkccpoaa
/-- The row, under a short name, for the claim. -/
theorem locaBuilds_holds : Rows.LocaBuildsSaid := locaBuilds.proved
end Go.Proofs.Ytmboeoobkccpoaa
