/- Proved: a glyph made of one part is that part's points, each of them moved by the document's rule (the tied card). -/
import Derived.Test.YtiedbfaehndooaaDoorRows
import Derived.Test.YtiedbfaehndooaaDoorDec12
import Derived.Test.YtiedbfaehndooaaDoorDec04
import Derived.Test.YtiedbfaehndooaaDoorFlatQ
import Derived.Test.YtiedbfaehndooaaDoorBaseM
import Derived.Test.YtiedbfaehndooaaDoorTie
import Derived.Test.YtiedbfaehndooaaDoorCards
import Derived.WalkKit
import Derived.ProofKit
import Derived.OpenShut
import Derived.ShutString
import Derived.ChangeOld
import Derived.Below
import Derived.SizedLaws
import Derived.Carry
import Derived.LaidMore
import Derived.Lay
import Derived.SevenTiedAt
import Derived.Stop.Joined
namespace Go.Proofs.YtiedbfaehndooaaDoor.flatMoves
open Go Go.ChangeShapes Go.WideShapes Go.ChangeAt Go.RowKit
set_option linter.unusedVariables false
set_option linter.unusedSimpArgs false
theorem own : ownKnob Tryd.prog.godebug = none := by kernel_rfl
theorem laidOut : laidOutB Tryd.prog = true := by kernel_rfl
set_option maxRecDepth 100000 in
theorem lifted (os : Os) (started : os.Started) (H : Type) (enc : TypeId × Value → H) :
    ReturnsInHanded {} Tryd.checked os 7 .any (fun w args => (Rows.flatMovesSpec.pre enc Tryd.prog Tryd.f7 Rows.flatMovesRow.domain false w args ∧ laidMetH Tryd.prog Rows.flatMovesRow.laid w) ∧ sizedMet enc Tryd.prog Tryd.f7 (OpenSpec.ofChange Rows.flatMovesSpec) false w args) (Rows.flatMovesSpec.post enc Tryd.prog Tryd.f7 false true false false) := by
  refine returnsInHanded_of_change_and (C := Tryd.checked) (X := fun w _ => laidMetH Tryd.prog Rows.flatMovesRow.laid w) (fun _ _ _ hh h => h.of_heap hh) own started (by kernel_rfl) Tryd.func7
    (ChangeSpec.witness_shaped (enc := enc) (C := Tryd.checked) (os := os) (X := fun w _ => laidMetH Tryd.prog Rows.flatMovesRow.laid w) false (World.laidAll Tryd.prog os Rows.flatMovesRow.laid) #[.slice none 0 0, .agg #[.int .i16 0, .int .i16 0, .int .i16 0, .int .i16 0], .int .i16 0, .int .i16 0] 8 (World.laidAll_os _ _ _)
      (World.shaped_of_ZipB (by kernel_rfl) (by kernel_rfl)) (by kernel_rfl) (by kernel_rfl) (by kernel_rfl)
      (by rw [MakeChecks.laidMetH_plain _ _ _ (by kernel_rfl)]; exact laidMet_laidAll _ (by kernel_rfl) (by kernel_rfl))) ?_
  intro W base args ds gs before hval0 hW hcnd hsz0 hL _
  have hval : ∀ (j : Nat) t v, Tryd.f7.params[j]? = some t → args[j]? = some v → Value.okWide Tryd.prog W .any base t v := hval0
  have hW' := hW
  obtain ⟨p, q, hA0, hV, rfl, hfz, hnd⟩ := hW
  have hA : DataW.TrodAll enc Tryd.prog W 0 (fun _ => true) true Tryd.f7.params.toList args.toList ds p := hA0
  rw [Tryd.params7] at hA hval
  obtain ⟨v0, vs0, d0, ds0, p0, q0, hargs, rfl, rfl, t0, r0⟩ := trodAll_cons hA
  obtain ⟨v1, vs1, d1, ds1, p1, q1, rfl, rfl, rfl, t1, r1⟩ := trodAll_cons r0
  obtain ⟨v2, vs2, d2, ds2, p2, q2, rfl, rfl, rfl, t2, r2⟩ := trodAll_cons r1
  obtain ⟨v3, vs3, d3, ds3, p3, q3, rfl, rfl, rfl, t3, r3⟩ := trodAll_cons r2
  obtain ⟨rfl, rfl, rfl⟩ := trodAll_nil r3
  obtain rfl : args = #[v0, v1, v2, v3] := by cases args; simp_all
  obtain ⟨rfl, rfl⟩ := trodVars_none hV
  have k0 := t0
  have lt0 : ∀ x ∈ p0, x.block < W.heap.size := by obtain ⟨m, hm⟩ := k0; exact DataW.trod_lt m _ _ _ hm
  obtain ⟨A0, n0, c0, rfl⟩ := okWide_slice Tryd.underlying49 (hval 0 49 v0 rfl rfl)
  have h0 : Dec W (shSpots) [_] := dec_arg (by kernel_rfl) rfl t0
  have k1 := t1
  have lt1 : ∀ x ∈ p1, x.block < W.heap.size := by obtain ⟨m, hm⟩ := k1; exact DataW.trod_lt m _ _ _ hm
  obtain ⟨cs1, rfl, z1⟩ := okWide_struct Tryd.underlying42 (hval 1 42 v1 rfl rfl)
  have h1 : Dec W (shMatrix) cs1.toList := dec_arg (by kernel_rfl) rfl t1
  obtain ⟨a2, rfl, rfl, rfl, h2⟩ := open_int Tryd.underlying36 (hval 2 36 v2 rfl rfl) t2
  obtain ⟨a3, rfl, rfl, rfl, h3⟩ := open_int Tryd.underlying36 (hval 3 36 v3 rfl rfl) t3
  obtain ⟨ps, hps, wps⟩ := dec_spots h0
  obtain ⟨a, b, c, d, rfl, ma, mb, mc, md⟩ := dec_matrix h1
  clear hA0 hval0 hsz0 hL
  refine (flatMoves_calls W ma mb mc md (wf_i16 h2) (wf_i16 h3) hps wps).mono ?_
  rintro _ W' ⟨_, rfl, rfl, bel⟩
  exact ⟨_, rfl, _, _, _, [], _, [], hW', trodAll_mk1 (shut_bool Tryd.underlying4 _), (trodAll_cons_mk (Below.trod laidOut (by kernel_rfl) (of_decide_eq_true (by kernel_rfl)) k0 bel lt0) (trodAll_cons_mk (Below.trod laidOut (by kernel_rfl) (of_decide_eq_true (by kernel_rfl)) k1 bel lt1) (trodAll_cons_mk (shut_int Tryd.underlying36 h2) (trodAll_cons_mk (shut_int Tryd.underlying36 h3) trodAll_mk0)))), rfl, bel.frame _, fun h => by cases h⟩
theorem over : Rows.flatMovesRow.holds Tryd.pinned (OpenSpec.ofChange Rows.flatMovesSpec) :=
  OpenClaim.holds_of_wide 7 Tryd.f7 rfl rfl rfl rfl rfl rfl rfl ⟨rfl, rfl, rfl, rfl, rfl⟩ rfl rfl rfl rfl rfl (by kernel_rfl) Tryd.func7 (by kernel_rfl)
    (of_decide_eq_true (by kernel_rfl)) (by unfold Func.isWrapper; first | (rw [if_pos (by decide +kernel)]; kernel_rfl) | (rw [if_neg (by decide +kernel)]; exact ⟨rfl, rfl⟩))
    (fun os started H enc _ => lifted os started H enc)
theorem proved : Rows.FlatMovesSaid := over
theorem card : Rows.FlatMovesCardSaid :=
  Claim7.holds_tied_plain_at .later [] [.data, .pinned] true (true, "26c98df96c697ccbf7da63f3a658a30f9b712d26dc91a0fbb7cad1e624ea3118") false over (fun _ h => by cases h) (by kernel_rfl) (fun _ h => by cases h) flatMoves_row_tie rfl ⟨rfl, rfl⟩ (by kernel_rfl) rfl
    (fun f fn hf hfn => by
      obtain rfl : f = 7 := Option.some.inj ((show Tryd.prog.funcNamed "punchcut/punchcutlaw14.FlatMoves" = some 7 by kernel_rfl).symm.trans hf) |>.symm
      obtain rfl : fn = Tryd.f7 := (Option.some.inj (Tryd.func7.symm.trans hfn)).symm
      exact ⟨by kernel_rfl, fun j t ht => by
        rw [Tryd.params7] at ht
        have hm : t ∈ [49, 42, 36] := by simpa using Array.mem_of_getElem? ht
        have hall : ([49, 42, 36].all fun u => !Tryd.prog.wantsStandIn u) = true := by kernel_rfl
        exact (show Tryd.prog.wantsStandIn t = false by simpa using List.all_eq_true.1 hall t hm)⟩)
    (by kernel_rfl)
#print axioms card
end Go.Proofs.YtiedbfaehndooaaDoor.flatMoves
namespace Go.Proofs.YtiedbfaehndooaaDoor
/-- The card, under a short name, for the claim. -/
theorem flatMovesCard_holds : Rows.FlatMovesCardSaid := flatMoves.card
end Go.Proofs.YtiedbfaehndooaaDoor
