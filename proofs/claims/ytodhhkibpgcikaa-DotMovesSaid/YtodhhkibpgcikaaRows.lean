/-
  No cell of these rows narrows 'for every input' (looked for: loops, veiled, ifaces, maps, wideKeys, modest, calm, conditions, laid).
  DERIVED. THE GIVEN ROWS OF THIS SEAT. 5 by the template 'for every input the law returns true; each argument reads behind the call as it read before'; 0 by the template 'total and deterministic' (their statements: YtodhhkibpgcikaaTotals.lean).
  GIVEN WITH THE SEED: the statements are not yours to turn. If you find one false, say at which input.
  Laid BY PROGRAM, IN A SANDBOX (cutbox-rows.mjs): the forced cells as the released guide's own fill.sh prints them over the translation 018f4bdc7cf00e80… (all of the seat's roots in one cut). By AI agents, Wed Nov 11 2026. No macro, syntax, notation, axiom, sorry.
-/
import Derived.Test.YtodhhkibpgcikaaChecked
import GoSem.Claim
import GoSem.ClaimJoined
import GoSem.ClaimMapViews
import Derived.JoinedTies
import Derived.KernelRfl
namespace Go.Proofs.Ytodhhkibpgcikaa
/- THE CELL 'sum', in the pinned program and in every row, IS THE sha256 OF THE DUMP (.gsa) THAT YtodhhkibpgcikaaProg.lean LOADS. Nothing in Lean hashes anything: it is a label: what it is worth is what the hold of that sum in a sandbox is worth. -/
noncomputable def Try.pinned : Pinned := { name := "ytodhhkibpgcikaa", sum := "018f4bdc7cf00e80547206b65f05cda7574ec20faa795e6fbb31bce94e2e55e3", checked := Try.checked }
namespace Rows
def none {H : Type} : Left H := { results := [], args := [] }

/-- 'punchcutlaw04.DotRounds': WHATEVER THE INPUT: true; the input reads as it did. -/
def dotRoundsSpec : ChangeSpec := { name := "dotRounds", fn := fun _ => fun
  | [d] => { results := [.lit (.bool true)], args := [d] }
  | _ => none }
def dotRoundsRow : OpenClaim := { program := "ytodhhkibpgcikaa", sum := "018f4bdc7cf00e80547206b65f05cda7574ec20faa795e6fbb31bce94e2e55e3", func := "punchcut/punchcutlaw04.DotRounds", spec := "dotRounds", apart := false }
def DotRoundsSaid : Prop := dotRoundsRow.holds Try.pinned (OpenSpec.ofChange dotRoundsSpec)

/-- ITS FALSE NEIGHBOUR: 'it returns false'. Refute it at one input. -/
def dotRoundsWrong : ChangeSpec := { name := "dotRounds", fn := fun _ => fun
  | [d] => { results := [.lit (.bool false)], args := [d] }
  | _ => none }
def DotRoundsWrongFalsely : Prop := dotRoundsRow.holds Try.pinned (OpenSpec.ofChange dotRoundsWrong)

/-- 'punchcutlaw04.DotApplies': WHATEVER THE INPUT: true; the input reads as it did. -/
def dotAppliesSpec : ChangeSpec := { name := "dotApplies", fn := fun _ => fun
  | [d1, d2, d3, d4] => { results := [.lit (.bool true)], args := [d1, d2, d3, d4] }
  | _ => none }
def dotAppliesRow : OpenClaim := { program := "ytodhhkibpgcikaa", sum := "018f4bdc7cf00e80547206b65f05cda7574ec20faa795e6fbb31bce94e2e55e3", func := "punchcut/punchcutlaw04.DotApplies", spec := "dotApplies", apart := false }
def DotAppliesSaid : Prop := dotAppliesRow.holds Try.pinned (OpenSpec.ofChange dotAppliesSpec)

/-- ITS FALSE NEIGHBOUR: 'it returns false'. Refute it at one input. -/
def dotAppliesWrong : ChangeSpec := { name := "dotApplies", fn := fun _ => fun
  | [d1, d2, d3, d4] => { results := [.lit (.bool false)], args := [d1, d2, d3, d4] }
  | _ => none }
def DotAppliesWrongFalsely : Prop := dotAppliesRow.holds Try.pinned (OpenSpec.ofChange dotAppliesWrong)

/-- 'punchcutlaw04.DotUnits': WHATEVER THE INPUT: true; the input reads as it did. -/
def dotUnitsSpec : ChangeSpec := { name := "dotUnits", fn := fun _ => fun
  | [d] => { results := [.lit (.bool true)], args := [d] }
  | _ => none }
def dotUnitsRow : OpenClaim := { program := "ytodhhkibpgcikaa", sum := "018f4bdc7cf00e80547206b65f05cda7574ec20faa795e6fbb31bce94e2e55e3", func := "punchcut/punchcutlaw04.DotUnits", spec := "dotUnits", apart := false }
def DotUnitsSaid : Prop := dotUnitsRow.holds Try.pinned (OpenSpec.ofChange dotUnitsSpec)

/-- ITS FALSE NEIGHBOUR: 'it returns false'. Refute it at one input. -/
def dotUnitsWrong : ChangeSpec := { name := "dotUnits", fn := fun _ => fun
  | [d] => { results := [.lit (.bool false)], args := [d] }
  | _ => none }
def DotUnitsWrongFalsely : Prop := dotUnitsRow.holds Try.pinned (OpenSpec.ofChange dotUnitsWrong)

/-- 'punchcutlaw04.DotAlls': WHATEVER THE INPUT: true; the input reads as it did. -/
def dotAllsSpec : ChangeSpec := { name := "dotAlls", fn := fun _ => fun
  | [d1, d2, d3, d4] => { results := [.lit (.bool true)], args := [d1, d2, d3, d4] }
  | _ => none }
def dotAllsRow : OpenClaim := { program := "ytodhhkibpgcikaa", sum := "018f4bdc7cf00e80547206b65f05cda7574ec20faa795e6fbb31bce94e2e55e3", func := "punchcut/punchcutlaw04.DotAlls", spec := "dotAlls", apart := false }
def DotAllsSaid : Prop := dotAllsRow.holds Try.pinned (OpenSpec.ofChange dotAllsSpec)

/-- ITS FALSE NEIGHBOUR: 'it returns false'. Refute it at one input. -/
def dotAllsWrong : ChangeSpec := { name := "dotAlls", fn := fun _ => fun
  | [d1, d2, d3, d4] => { results := [.lit (.bool false)], args := [d1, d2, d3, d4] }
  | _ => none }
def DotAllsWrongFalsely : Prop := dotAllsRow.holds Try.pinned (OpenSpec.ofChange dotAllsWrong)

/-- 'punchcutlaw04.DotMoves': WHATEVER THE INPUT: true; the input reads as it did. -/
def dotMovesSpec : ChangeSpec := { name := "dotMoves", fn := fun _ => fun
  | [d1, d2, d3, d4, d5] => { results := [.lit (.bool true)], args := [d1, d2, d3, d4, d5] }
  | _ => none }
def dotMovesRow : OpenClaim := { program := "ytodhhkibpgcikaa", sum := "018f4bdc7cf00e80547206b65f05cda7574ec20faa795e6fbb31bce94e2e55e3", func := "punchcut/punchcutlaw04.DotMoves", spec := "dotMoves", apart := false }
def DotMovesSaid : Prop := dotMovesRow.holds Try.pinned (OpenSpec.ofChange dotMovesSpec)

/-- ITS FALSE NEIGHBOUR: 'it returns false'. Refute it at one input. -/
def dotMovesWrong : ChangeSpec := { name := "dotMoves", fn := fun _ => fun
  | [d1, d2, d3, d4, d5] => { results := [.lit (.bool false)], args := [d1, d2, d3, d4, d5] }
  | _ => none }
def DotMovesWrongFalsely : Prop := dotMovesRow.holds Try.pinned (OpenSpec.ofChange dotMovesWrong)

/- THE SECOND FORM. 'bulk': how many values and letters a reading holds, each counted each time it is reached (what is shared counts as often as it is met; a slice's spare places count too). A statement '..UptoSaid' is the law's where the arguments, and the package variables that the reading takes, are together of bulk at most 1048576: NARROWER than '..Said'. Prove '..Said' where nothing that the law and all that it calls make is longer than what came in: it says more and counts as full. Else prove '..UptoSaid'. A law counts once. -/
mutual
def uptoBulk {H : Type} : DataW H → Nat
  | .lit (.string bytes) => bytes.length + 1
  | .lit _ => 1
  | .nil => 1
  | .ptr d => uptoBulk d + 1
  | .slice elems spare => uptoBulkAll elems + uptoBulkAll spare + 1
  | .agg parts => uptoBulkAll parts + 1
  | .iface _ d => uptoBulk d + 1
  | .map entries => uptoBulkEntries entries + 1
  | .held _ => 1
def uptoBulkAll {H : Type} : List (DataW H) → Nat
  | [] => 0
  | d :: r => uptoBulk d + uptoBulkAll r
def uptoBulkEntries {H : Type} : List (Lit × DataW H) → Nat
  | [] => 0
  | x :: r => uptoBulkEntry x + uptoBulkEntries r
def uptoBulkEntry {H : Type} : Lit × DataW H → Nat
  | (.string bytes, d) => bytes.length + uptoBulk d + 1
  | (_, d) => uptoBulk d + 1
 end
def uptoSmall : (H : Type) → List (DataW H) → Bool := fun _ ds => decide (uptoBulkAll ds ≤ 1048576)
def OpenSpec.upto (s : _root_.Go.ChangeSpec) : _root_.Go.OpenSpec := { _root_.Go.OpenSpec.ofChange s with cond := some uptoSmall }

/-- 'punchcutlaw04.DotRounds', WHERE WHAT IT READS IS OF BULK AT MOST 1048576: true; the input reads as it did. -/
def dotRoundsUptoRow : OpenClaim := { program := "ytodhhkibpgcikaa", sum := "018f4bdc7cf00e80547206b65f05cda7574ec20faa795e6fbb31bce94e2e55e3", func := "punchcut/punchcutlaw04.DotRounds", spec := "dotRounds", apart := false, narrowed := true }
def DotRoundsUptoSaid : Prop := dotRoundsUptoRow.holds Try.pinned (OpenSpec.upto dotRoundsSpec)

/-- 'punchcutlaw04.DotApplies', WHERE WHAT IT READS IS OF BULK AT MOST 1048576: true; the input reads as it did. -/
def dotAppliesUptoRow : OpenClaim := { program := "ytodhhkibpgcikaa", sum := "018f4bdc7cf00e80547206b65f05cda7574ec20faa795e6fbb31bce94e2e55e3", func := "punchcut/punchcutlaw04.DotApplies", spec := "dotApplies", apart := false, narrowed := true }
def DotAppliesUptoSaid : Prop := dotAppliesUptoRow.holds Try.pinned (OpenSpec.upto dotAppliesSpec)

/-- 'punchcutlaw04.DotUnits', WHERE WHAT IT READS IS OF BULK AT MOST 1048576: true; the input reads as it did. -/
def dotUnitsUptoRow : OpenClaim := { program := "ytodhhkibpgcikaa", sum := "018f4bdc7cf00e80547206b65f05cda7574ec20faa795e6fbb31bce94e2e55e3", func := "punchcut/punchcutlaw04.DotUnits", spec := "dotUnits", apart := false, narrowed := true }
def DotUnitsUptoSaid : Prop := dotUnitsUptoRow.holds Try.pinned (OpenSpec.upto dotUnitsSpec)

/-- 'punchcutlaw04.DotAlls', WHERE WHAT IT READS IS OF BULK AT MOST 1048576: true; the input reads as it did. -/
def dotAllsUptoRow : OpenClaim := { program := "ytodhhkibpgcikaa", sum := "018f4bdc7cf00e80547206b65f05cda7574ec20faa795e6fbb31bce94e2e55e3", func := "punchcut/punchcutlaw04.DotAlls", spec := "dotAlls", apart := false, narrowed := true }
def DotAllsUptoSaid : Prop := dotAllsUptoRow.holds Try.pinned (OpenSpec.upto dotAllsSpec)

/-- 'punchcutlaw04.DotMoves', WHERE WHAT IT READS IS OF BULK AT MOST 1048576: true; the input reads as it did. -/
def dotMovesUptoRow : OpenClaim := { program := "ytodhhkibpgcikaa", sum := "018f4bdc7cf00e80547206b65f05cda7574ec20faa795e6fbb31bce94e2e55e3", func := "punchcut/punchcutlaw04.DotMoves", spec := "dotMoves", apart := false, narrowed := true }
def DotMovesUptoSaid : Prop := dotMovesUptoRow.holds Try.pinned (OpenSpec.upto dotMovesSpec)

end Rows
end Go.Proofs.Ytodhhkibpgcikaa
