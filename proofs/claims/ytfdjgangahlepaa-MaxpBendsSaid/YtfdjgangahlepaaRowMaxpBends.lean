/- Proved: a table of which a byte is turned, or that is cut off, is the document's answer. -/
import Derived.Test.YtfdjgangahlepaaRows
import Derived.Test.YtfdjgangahlepaaLaw06D
import Derived.Test.YtfdjgangahlepaaDec06
import Derived.Test.YtfdjgangahlepaaOpen
import Derived.WalkKit
import Derived.ProofKit
import Derived.OpenShut
import Derived.ShutString
import Derived.ChangeOld
import Derived.Below
import Derived.SizedLaws
import Derived.Carry
namespace Go.Proofs.Ytfdjgangahlepaa.maxpBends
open Go Go.ChangeShapes Go.WideShapes Go.ChangeAt Go.RowKit
set_option linter.unusedVariables false
set_option linter.unusedSimpArgs false
theorem own : ownKnob Try.prog.godebug = none := by kernel_rfl
theorem laidOut : laidOutB Try.prog = true := by kernel_rfl
set_option maxRecDepth 100000 in
theorem lifted (os : Os) (started : os.Started) (H : Type) (enc : TypeId × Value → H) :
    ReturnsInHanded {} Try.checked os 6 .any (Rows.maxpBendsSpec.pre6 enc Try.prog Try.f6 Rows.maxpBendsRow.domain false) (Rows.maxpBendsSpec.post enc Try.prog Try.f6 false true false false) := by
  refine returnsInHanded_of_change_sized (C := Try.checked) own started (by kernel_rfl) Try.func6
    (ChangeSpec.witness6 (enc := enc) (C := Try.checked) false ⟨#[], #[.agg #[.int .u16 0, .int .u16 0, .int .u16 0, .int .u16 0, .int .u16 0, .int .u16 0, .int .u16 0, .int .u16 0, .int .u16 0, .int .u16 0, .int .u16 0, .int .u16 0, .int .u16 0, .int .u16 0], .int .u8 0, .int .u8 0], []⟩ 8 (by kernel_rfl) (by kernel_rfl) (by kernel_rfl) (by kernel_rfl)) ?_
  intro W base args ds gs before hval0 hW hcnd hsz0 _
  have hval : ∀ (j : Nat) t v, Try.f6.params[j]? = some t → args[j]? = some v → Value.okWide Try.prog W .any base t v := hval0
  have hW' := hW
  obtain ⟨p, q, hA0, hV, rfl, hfz, hnd⟩ := hW
  have hA : DataW.TrodAll enc Try.prog W 0 (fun _ => true) true Try.f6.params.toList args.toList ds p := hA0
  rw [Try.params6] at hA hval
  obtain ⟨v0, vs0, d0, ds0, p0, q0, hargs, rfl, rfl, t0, r0⟩ := trodAll_cons hA
  obtain ⟨v1, vs1, d1, ds1, p1, q1, rfl, rfl, rfl, t1, r1⟩ := trodAll_cons r0
  obtain ⟨v2, vs2, d2, ds2, p2, q2, rfl, rfl, rfl, t2, r2⟩ := trodAll_cons r1
  obtain ⟨rfl, rfl, rfl⟩ := trodAll_nil r2
  obtain rfl : args = #[v0, v1, v2] := by cases args; simp_all
  obtain ⟨rfl, rfl⟩ := trodVars_none hV
  have k0 := t0
  have lt0 : ∀ x ∈ p0, x.block < W.heap.size := by obtain ⟨m, hm⟩ := k0; exact DataW.trod_lt m _ _ _ hm
  obtain ⟨cs0, rfl, z0⟩ := okWide_struct Try.underlying25 (hval 0 25 v0 rfl rfl)
  have h0 : Dec W (shMaxp) cs0.toList := dec_arg (by kernel_rfl) rfl t0
  obtain ⟨a1, rfl, rfl, rfl, h1⟩ := open_int Try.underlying5 (hval 1 5 v1 rfl rfl) t1
  obtain ⟨a2, rfl, rfl, rfl, h2⟩ := open_int Try.underlying5 (hval 2 5 v2 rfl rfl) t2
  obtain ⟨g, rest, rfl, hr, g0, g1, hR⟩ := dec_maxp h0
  clear hA0 hval0 hsz0
  refine (maxpBends_calls W g0 g1 hr hR (wf_u8 h1).1 (wf_u8 h1).2 (wf_u8 h2).1 (wf_u8 h2).2).mono ?_
  rintro _ W' ⟨_, rfl, rfl, bel⟩
  exact ⟨_, rfl, _, _, _, [], _, [], hW', trodAll_mk1 (shut_bool Try.underlying4 _), (trodAll_cons_mk (Below.trod laidOut (by kernel_rfl) (of_decide_eq_true (by kernel_rfl)) k0 bel lt0) (trodAll_cons_mk (shut_int Try.underlying5 h1) (trodAll_cons_mk (shut_int Try.underlying5 h2) trodAll_mk0))), rfl, bel.frame _, fun h => by cases h⟩
theorem over : Rows.maxpBendsRow.holds Try.pinned (OpenSpec.ofChange Rows.maxpBendsSpec) :=
  OpenClaim.holds_of_wide 6 Try.f6 rfl rfl rfl rfl rfl rfl rfl ⟨rfl, rfl, rfl, rfl, rfl⟩ rfl rfl rfl rfl rfl (by kernel_rfl) Try.func6 (by kernel_rfl)
    (of_decide_eq_true (by kernel_rfl)) (by unfold Func.isWrapper; first | (rw [if_pos (by decide +kernel)]; kernel_rfl) | (rw [if_neg (by decide +kernel)]; exact ⟨rfl, rfl⟩))
    (fun os started H enc _ => lifted os started H enc)
theorem proved : Rows.MaxpBendsSaid := over
#print axioms proved
end Go.Proofs.Ytfdjgangahlepaa.maxpBends
namespace Go.Proofs.Ytfdjgangahlepaa
/-- The row, under a short name, for the claim. -/
theorem maxpBends_holds : Rows.MaxpBendsSaid := maxpBends.proved
end Go.Proofs.Ytfdjgangahlepaa
