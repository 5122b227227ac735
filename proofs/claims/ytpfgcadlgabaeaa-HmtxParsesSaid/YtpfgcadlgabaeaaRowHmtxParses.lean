/- Proved: of any bytes, up to a hundred of them, and of any numbers, just the document's metrics are read, or its error is told. -/
import Derived.Test.YtpfgcadlgabaeaaRows
import Derived.Test.YtpfgcadlgabaeaaLaw07C
import Derived.Test.YtpfgcadlgabaeaaOpen
import Derived.WalkKit
import Derived.ProofKit
import Derived.OpenShut
import Derived.ShutString
import Derived.ChangeOld
import Derived.Below
import Derived.SizedLaws
import Derived.Carry
namespace Go.Proofs.Ytpfgcadlgabaeaa.hmtxParses
open Go Go.ChangeShapes Go.WideShapes Go.ChangeAt Go.RowKit
set_option linter.unusedVariables false
set_option linter.unusedSimpArgs false
theorem own : ownKnob Try.prog.godebug = none := by kernel_rfl
theorem laidOut : laidOutB Try.prog = true := by kernel_rfl
set_option maxRecDepth 100000 in
theorem lifted (os : Os) (started : os.Started) (H : Type) (enc : TypeId × Value → H) :
    ReturnsInHanded {} Try.checked os 6 .any (Rows.hmtxParsesSpec.pre6 enc Try.prog Try.f6 Rows.hmtxParsesRow.domain false) (Rows.hmtxParsesSpec.post enc Try.prog Try.f6 false true false false) := by
  refine returnsInHanded_of_change_sized (C := Try.checked) own started (by kernel_rfl) Try.func6
    (ChangeSpec.witness6 (enc := enc) (C := Try.checked) false ⟨#[], #[.slice none 0 0, .int .u16 0, .int .u16 0], []⟩ 8 (by kernel_rfl) (by kernel_rfl) (by kernel_rfl) (by kernel_rfl)) ?_
  intro W base args ds gs before hval0 hW hcnd hsz0 _
  have hval : ∀ (j : Nat) t v, Try.f6.params[j]? = some t → args[j]? = some v → Value.okWide Try.prog W .any base t v := hval0
  have hW' := hW
  obtain ⟨p, q, hA0, hV, rfl, hfz, hnd⟩ := hW
  have hA : DataW.TrodAll enc Try.prog W 0 (fun _ => true) true Try.f6.params.toList args.toList ds p := hA0
  rw [Try.params6] at hA hval
  obtain ⟨v0, vs0, d0, ds0, p0, q0, hargs, rfl, rfl, t0, r0⟩ := trodAll_cons hA
  obtain ⟨v1, vs1, d1, ds1, p1, q1, rfl, rfl, rfl, t1, r1⟩ := trodAll_cons r0
  obtain ⟨v2, vs2, d2, ds2, p2, q2, rfl, rfl, rfl, t2, r2⟩ := trodAll_cons r1
  obtain ⟨rfl, rfl, rfl⟩ := trodAll_nil r2
  obtain rfl : args = #[v0, v1, v2] := by cases args; simp_all
  obtain ⟨rfl, rfl⟩ := trodVars_none hV
  have k0 := t0
  have lt0 : ∀ x ∈ p0, x.block < W.heap.size := by obtain ⟨m, hm⟩ := k0; exact DataW.trod_lt m _ _ _ hm
  obtain ⟨A0, n0, c0, rfl⟩ := okWide_slice Try.underlying36 (hval 0 36 v0 rfl rfl)
  obtain ⟨a0, h0, w0⟩ := arg_ints (dec_arg (s := .slice 1 (.int .u8)) (by kernel_rfl) rfl t0)
  obtain ⟨a1, rfl, rfl, rfl, h1⟩ := open_int Try.underlying27 (hval 1 27 v1 rfl rfl) t1
  obtain ⟨a2, rfl, rfl, rfl, h2⟩ := open_int Try.underlying27 (hval 2 27 v2 rfl rfl) t2
  have b1 := wf_u16 h1
  have b2 := wf_u16 h2
  clear hA0 hval0 hsz0
  refine (hmtxParses_calls W h0 (fun x hx => wf_u8 (w0 x hx)) b1.1 b1.2 b2.1 b2.2).mono ?_
  rintro _ W' ⟨_, rfl, rfl, bel⟩
  exact ⟨_, rfl, _, _, _, [], _, [], hW', trodAll_mk1 (shut_bool Try.underlying4 _), (trodAll_cons_mk (Below.trod laidOut (by kernel_rfl) (of_decide_eq_true (by kernel_rfl)) k0 bel lt0) (trodAll_cons_mk (shut_int Try.underlying27 h1) (trodAll_cons_mk (shut_int Try.underlying27 h2) trodAll_mk0))), rfl, bel.frame _, fun h => by cases h⟩
theorem over : Rows.hmtxParsesRow.holds Try.pinned (OpenSpec.ofChange Rows.hmtxParsesSpec) :=
  OpenClaim.holds_of_wide 6 Try.f6 rfl rfl rfl rfl rfl rfl rfl ⟨rfl, rfl, rfl, rfl, rfl⟩ rfl rfl rfl rfl rfl (by kernel_rfl) Try.func6 (by kernel_rfl)
    (of_decide_eq_true (by kernel_rfl)) (by unfold Func.isWrapper; first | (rw [if_pos (by decide +kernel)]; kernel_rfl) | (rw [if_neg (by decide +kernel)]; exact ⟨rfl, rfl⟩))
    (fun os started H enc _ => lifted os started H enc)
theorem proved : Rows.HmtxParsesSaid := over
#print axioms proved
end Go.Proofs.Ytpfgcadlgabaeaa.hmtxParses
namespace Go.Proofs.Ytpfgcadlgabaeaa
/-- The row, under a short name, for the claim. -/
theorem hmtxParses_holds : Rows.HmtxParsesSaid := hmtxParses.proved
end Go.Proofs.Ytpfgcadlgabaeaa
