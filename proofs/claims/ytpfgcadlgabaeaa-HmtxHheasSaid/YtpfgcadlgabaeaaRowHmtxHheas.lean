/- Proved: the table hhea of any numbers that may be has the document's bytes, of which it is read again; any up to forty bytes are one, or none, also where a byte is turned or one more stands behind. -/
import Derived.Test.YtpfgcadlgabaeaaRows
import Derived.Test.YtpfgcadlgabaeaaLaw07F
import Derived.Test.YtpfgcadlgabaeaaDec07B
import Derived.Test.YtpfgcadlgabaeaaOpen
import Derived.WalkKit
import Derived.ProofKit
import Derived.OpenShut
import Derived.ShutString
import Derived.ChangeOld
import Derived.Below
import Derived.SizedLaws
import Derived.Carry
namespace Go.Proofs.Ytpfgcadlgabaeaa.hmtxHheas
open Go Go.ChangeShapes Go.WideShapes Go.ChangeAt Go.RowKit
set_option linter.unusedVariables false
set_option linter.unusedSimpArgs false
theorem own : ownKnob Try.prog.godebug = none := by kernel_rfl
theorem laidOut : laidOutB Try.prog = true := by kernel_rfl
set_option maxRecDepth 100000 in
theorem lifted (os : Os) (started : os.Started) (H : Type) (enc : TypeId × Value → H) :
    ReturnsInHanded {} Try.checked os 4 .any (Rows.hmtxHheasSpec.pre6 enc Try.prog Try.f4 Rows.hmtxHheasRow.domain false) (Rows.hmtxHheasSpec.post enc Try.prog Try.f4 false true false false) := by
  refine returnsInHanded_of_change_sized (C := Try.checked) own started (by kernel_rfl) Try.func4
    (ChangeSpec.witness6 (enc := enc) (C := Try.checked) false ⟨#[], #[.agg #[.int .u16 0, .int .u16 0, .int .u16 0, .int .u16 0, .int .u16 0, .int .u16 0, .int .u16 0, .int .u16 0, .int .u16 0, .int .u16 0, .int .u16 0, .int .u16 0, .int .u16 0, .int .u16 0, .int .u16 0, .int .u16 0, .int .u16 0], .slice none 0 0, .int .u8 0, .int .u8 0], []⟩ 8 (by kernel_rfl) (by kernel_rfl) (by kernel_rfl) (by kernel_rfl)) ?_
  intro W base args ds gs before hval0 hW hcnd hsz0 _
  have hval : ∀ (j : Nat) t v, Try.f4.params[j]? = some t → args[j]? = some v → Value.okWide Try.prog W .any base t v := hval0
  have hW' := hW
  obtain ⟨p, q, hA0, hV, rfl, hfz, hnd⟩ := hW
  have hA : DataW.TrodAll enc Try.prog W 0 (fun _ => true) true Try.f4.params.toList args.toList ds p := hA0
  rw [Try.params4] at hA hval
  obtain ⟨v0, vs0, d0, ds0, p0, q0, hargs, rfl, rfl, t0, r0⟩ := trodAll_cons hA
  obtain ⟨v1, vs1, d1, ds1, p1, q1, rfl, rfl, rfl, t1, r1⟩ := trodAll_cons r0
  obtain ⟨v2, vs2, d2, ds2, p2, q2, rfl, rfl, rfl, t2, r2⟩ := trodAll_cons r1
  obtain ⟨v3, vs3, d3, ds3, p3, q3, rfl, rfl, rfl, t3, r3⟩ := trodAll_cons r2
  obtain ⟨rfl, rfl, rfl⟩ := trodAll_nil r3
  obtain rfl : args = #[v0, v1, v2, v3] := by cases args; simp_all
  obtain ⟨rfl, rfl⟩ := trodVars_none hV
  have k0 := t0
  have lt0 : ∀ x ∈ p0, x.block < W.heap.size := by obtain ⟨m, hm⟩ := k0; exact DataW.trod_lt m _ _ _ hm
  obtain ⟨cs0, rfl, z0⟩ := okWide_struct Try.underlying35 (hval 0 35 v0 rfl rfl)
  have h0 : Dec W (shHhea) cs0.toList := dec_arg (by kernel_rfl) rfl t0
  have k1 := t1
  have lt1 : ∀ x ∈ p1, x.block < W.heap.size := by obtain ⟨m, hm⟩ := k1; exact DataW.trod_lt m _ _ _ hm
  obtain ⟨A1, n1, c1, rfl⟩ := okWide_slice Try.underlying36 (hval 1 36 v1 rfl rfl)
  obtain ⟨a1, h1, w1⟩ := arg_ints (dec_arg (s := .slice 1 (.int .u8)) (by kernel_rfl) rfl t1)
  obtain ⟨a2, rfl, rfl, rfl, h2⟩ := open_int Try.underlying5 (hval 2 5 v2 rfl rfl) t2
  obtain ⟨a3, rfl, rfl, rfl, h3⟩ := open_int Try.underlying5 (hval 3 5 v3 rfl rfl) t3
  obtain ⟨hs, rfl, hsl, hsu⟩ := dec_hhea h0
  clear hA0 hval0 hsz0
  refine (hmtxHheas_calls W hsl hsu h1 (fun z hz => wf_u8 (w1 z hz)) (wf_u8 h2).1 (wf_u8 h2).2 (wf_u8 h3).1 (wf_u8 h3).2).mono ?_
  rintro _ W' ⟨_, rfl, rfl, bel⟩
  exact ⟨_, rfl, _, _, _, [], _, [], hW', trodAll_mk1 (shut_bool Try.underlying4 _), (trodAll_cons_mk (Below.trod laidOut (by kernel_rfl) (of_decide_eq_true (by kernel_rfl)) k0 bel lt0) (trodAll_cons_mk (Below.trod laidOut (by kernel_rfl) (of_decide_eq_true (by kernel_rfl)) k1 bel lt1) (trodAll_cons_mk (shut_int Try.underlying5 h2) (trodAll_cons_mk (shut_int Try.underlying5 h3) trodAll_mk0)))), rfl, bel.frame _, fun h => by cases h⟩
theorem over : Rows.hmtxHheasRow.holds Try.pinned (OpenSpec.ofChange Rows.hmtxHheasSpec) :=
  OpenClaim.holds_of_wide 4 Try.f4 rfl rfl rfl rfl rfl rfl rfl ⟨rfl, rfl, rfl, rfl, rfl⟩ rfl rfl rfl rfl rfl (by kernel_rfl) Try.func4 (by kernel_rfl)
    (of_decide_eq_true (by kernel_rfl)) (by unfold Func.isWrapper; first | (rw [if_pos (by decide +kernel)]; kernel_rfl) | (rw [if_neg (by decide +kernel)]; exact ⟨rfl, rfl⟩))
    (fun os started H enc _ => lifted os started H enc)
theorem proved : Rows.HmtxHheasSaid := over
#print axioms proved
end Go.Proofs.Ytpfgcadlgabaeaa.hmtxHheas
namespace Go.Proofs.Ytpfgcadlgabaeaa
/-- The row, under a short name, for the claim. -/
theorem hmtxHheas_holds : Rows.HmtxHheasSaid := hmtxHheas.proved
end Go.Proofs.Ytpfgcadlgabaeaa
