/-
  No cell of these rows narrows 'for every input' (looked for: loops, veiled, ifaces, maps, wideKeys, modest, calm, conditions, laid).
  DERIVED. THE GIVEN ROWS OF THIS SEAT. 5 by the template 'for every input the law returns true; each argument reads behind the call as it read before'; 0 by the template 'total and deterministic' (their statements: YtmboeoobkccpoaaTotals.lean).
  GIVEN WITH THE SEED: the statements are not yours to turn. If you find one false, say at which input.
  Laid BY PROGRAM, IN A SANDBOX (cutbox-rows.mjs): the forced cells as the released guide's own fill.sh prints them over the translation 2fd5ec3322c4a194… (all of the seat's roots in one cut). By AI agents, Wed Nov 11 2026. No macro, syntax, notation, axiom, sorry.
-/
import Derived.Test.YtmboeoobkccpoaaChecked
import GoSem.Claim
import GoSem.ClaimJoined
import GoSem.ClaimMapViews
import Derived.JoinedTies
import Derived.KernelRfl
namespace Go.Proofs.Ytmboeoobkccpoaa
/- THE CELL 'sum', in the pinned program and in every row, IS THE sha256 OF THE DUMP (.gsa) THAT YtmboeoobkccpoaaProg.lean LOADS. Nothing in Lean hashes anything: it is a label: what it is worth is what the hold of that sum in a sandbox is worth. -/
noncomputable def Try.pinned : Pinned := { name := "ytmboeoobkccpoaa", sum := "2fd5ec3322c4a194a3de84cd1a3e16a8880ddbf07dcb32265a68a345e01c52a8", checked := Try.checked }
namespace Rows
def none {H : Type} : Left H := { results := [], args := [] }

/-- 'punchcutlaw08.LocaRefuses': WHATEVER THE INPUT: true; the input reads as it did. -/
def locaRefusesSpec : ChangeSpec := { name := "locaRefuses", fn := fun _ => fun
  | [d] => { results := [.lit (.bool true)], args := [d] }
  | _ => none }
def locaRefusesRow : OpenClaim := { program := "ytmboeoobkccpoaa", sum := "2fd5ec3322c4a194a3de84cd1a3e16a8880ddbf07dcb32265a68a345e01c52a8", func := "punchcut/punchcutlaw08.LocaRefuses", spec := "locaRefuses", apart := false }
def LocaRefusesSaid : Prop := locaRefusesRow.holds Try.pinned (OpenSpec.ofChange locaRefusesSpec)

/-- ITS FALSE NEIGHBOUR: 'it returns false'. Refute it at one input. -/
def locaRefusesWrong : ChangeSpec := { name := "locaRefuses", fn := fun _ => fun
  | [d] => { results := [.lit (.bool false)], args := [d] }
  | _ => none }
def LocaRefusesWrongFalsely : Prop := locaRefusesRow.holds Try.pinned (OpenSpec.ofChange locaRefusesWrong)

/-- 'punchcutlaw08.LocaShorts': WHATEVER THE INPUT: true; the input reads as it did. -/
def locaShortsSpec : ChangeSpec := { name := "locaShorts", fn := fun _ => fun
  | [d1, d2, d3] => { results := [.lit (.bool true)], args := [d1, d2, d3] }
  | _ => none }
def locaShortsRow : OpenClaim := { program := "ytmboeoobkccpoaa", sum := "2fd5ec3322c4a194a3de84cd1a3e16a8880ddbf07dcb32265a68a345e01c52a8", func := "punchcut/punchcutlaw08.LocaShorts", spec := "locaShorts", apart := false }
def LocaShortsSaid : Prop := locaShortsRow.holds Try.pinned (OpenSpec.ofChange locaShortsSpec)

/-- ITS FALSE NEIGHBOUR: 'it returns false'. Refute it at one input. -/
def locaShortsWrong : ChangeSpec := { name := "locaShorts", fn := fun _ => fun
  | [d1, d2, d3] => { results := [.lit (.bool false)], args := [d1, d2, d3] }
  | _ => none }
def LocaShortsWrongFalsely : Prop := locaShortsRow.holds Try.pinned (OpenSpec.ofChange locaShortsWrong)

/-- 'punchcutlaw08.LocaBuilds': WHATEVER THE INPUT: true; the input reads as it did. -/
def locaBuildsSpec : ChangeSpec := { name := "locaBuilds", fn := fun _ => fun
  | [d1, d2] => { results := [.lit (.bool true)], args := [d1, d2] }
  | _ => none }
def locaBuildsRow : OpenClaim := { program := "ytmboeoobkccpoaa", sum := "2fd5ec3322c4a194a3de84cd1a3e16a8880ddbf07dcb32265a68a345e01c52a8", func := "punchcut/punchcutlaw08.LocaBuilds", spec := "locaBuilds", apart := false }
def LocaBuildsSaid : Prop := locaBuildsRow.holds Try.pinned (OpenSpec.ofChange locaBuildsSpec)

/-- ITS FALSE NEIGHBOUR: 'it returns false'. Refute it at one input. -/
def locaBuildsWrong : ChangeSpec := { name := "locaBuilds", fn := fun _ => fun
  | [d1, d2] => { results := [.lit (.bool false)], args := [d1, d2] }
  | _ => none }
def LocaBuildsWrongFalsely : Prop := locaBuildsRow.holds Try.pinned (OpenSpec.ofChange locaBuildsWrong)

/-- 'punchcutlaw08.LocaCuts': WHATEVER THE INPUT: true; the input reads as it did. -/
def locaCutsSpec : ChangeSpec := { name := "locaCuts", fn := fun _ => fun
  | [d1, d2] => { results := [.lit (.bool true)], args := [d1, d2] }
  | _ => none }
def locaCutsRow : OpenClaim := { program := "ytmboeoobkccpoaa", sum := "2fd5ec3322c4a194a3de84cd1a3e16a8880ddbf07dcb32265a68a345e01c52a8", func := "punchcut/punchcutlaw08.LocaCuts", spec := "locaCuts", apart := false }
def LocaCutsSaid : Prop := locaCutsRow.holds Try.pinned (OpenSpec.ofChange locaCutsSpec)

/-- ITS FALSE NEIGHBOUR: 'it returns false'. Refute it at one input. -/
def locaCutsWrong : ChangeSpec := { name := "locaCuts", fn := fun _ => fun
  | [d1, d2] => { results := [.lit (.bool false)], args := [d1, d2] }
  | _ => none }
def LocaCutsWrongFalsely : Prop := locaCutsRow.holds Try.pinned (OpenSpec.ofChange locaCutsWrong)

/-- 'punchcutlaw08.LocaParses': WHATEVER THE INPUT: true; the input reads as it did. -/
def locaParsesSpec : ChangeSpec := { name := "locaParses", fn := fun _ => fun
  | [d1, d2, d3, d4] => { results := [.lit (.bool true)], args := [d1, d2, d3, d4] }
  | _ => none }
def locaParsesRow : OpenClaim := { program := "ytmboeoobkccpoaa", sum := "2fd5ec3322c4a194a3de84cd1a3e16a8880ddbf07dcb32265a68a345e01c52a8", func := "punchcut/punchcutlaw08.LocaParses", spec := "locaParses", apart := false }
def LocaParsesSaid : Prop := locaParsesRow.holds Try.pinned (OpenSpec.ofChange locaParsesSpec)

/-- ITS FALSE NEIGHBOUR: 'it returns false'. Refute it at one input. -/
def locaParsesWrong : ChangeSpec := { name := "locaParses", fn := fun _ => fun
  | [d1, d2, d3, d4] => { results := [.lit (.bool false)], args := [d1, d2, d3, d4] }
  | _ => none }
def LocaParsesWrongFalsely : Prop := locaParsesRow.holds Try.pinned (OpenSpec.ofChange locaParsesWrong)

/- THE SECOND FORM. 'bulk': how many values and letters a reading holds, each counted each time it is reached (what is shared counts as often as it is met; a slice's spare places count too). A statement '..UptoSaid' is the law's where the arguments, and the package variables that the reading takes, are together of bulk at most 1048576: NARROWER than '..Said'. Prove '..Said' where nothing that the law and all that it calls make is longer than what came in: it says more and counts as full. Else prove '..UptoSaid'. A law counts once. -/
mutual
def uptoBulk {H : Type} : DataW H → Nat
  | .lit (.string bytes) => bytes.length + 1
  | .lit _ => 1
  | .nil => 1
  | .ptr d => uptoBulk d + 1
  | .slice elems spare => uptoBulkAll elems + uptoBulkAll spare + 1
  | .agg parts => uptoBulkAll parts + 1
  | .iface _ d => uptoBulk d + 1
  | .map entries => uptoBulkEntries entries + 1
  | .held _ => 1
def uptoBulkAll {H : Type} : List (DataW H) → Nat
  | [] => 0
  | d :: r => uptoBulk d + uptoBulkAll r
def uptoBulkEntries {H : Type} : List (Lit × DataW H) → Nat
  | [] => 0
  | x :: r => uptoBulkEntry x + uptoBulkEntries r
def uptoBulkEntry {H : Type} : Lit × DataW H → Nat
  | (.string bytes, d) => bytes.length + uptoBulk d + 1
  | (_, d) => uptoBulk d + 1
 end
def uptoSmall : (H : Type) → List (DataW H) → Bool := fun _ ds => decide (uptoBulkAll ds ≤ 1048576)
def OpenSpec.upto (s : _root_.Go.ChangeSpec) : _root_.Go.OpenSpec := { _root_.Go.OpenSpec.ofChange s with cond := some uptoSmall }

/-- 'punchcutlaw08.LocaRefuses', WHERE WHAT IT READS IS OF BULK AT MOST 1048576: true; the input reads as it did. -/
def locaRefusesUptoRow : OpenClaim := { program := "ytmboeoobkccpoaa", sum := "2fd5ec3322c4a194a3de84cd1a3e16a8880ddbf07dcb32265a68a345e01c52a8", func := "punchcut/punchcutlaw08.LocaRefuses", spec := "locaRefuses", apart := false, narrowed := true }
def LocaRefusesUptoSaid : Prop := locaRefusesUptoRow.holds Try.pinned (OpenSpec.upto locaRefusesSpec)

/-- 'punchcutlaw08.LocaShorts', WHERE WHAT IT READS IS OF BULK AT MOST 1048576: true; the input reads as it did. -/
def locaShortsUptoRow : OpenClaim := { program := "ytmboeoobkccpoaa", sum := "2fd5ec3322c4a194a3de84cd1a3e16a8880ddbf07dcb32265a68a345e01c52a8", func := "punchcut/punchcutlaw08.LocaShorts", spec := "locaShorts", apart := false, narrowed := true }
def LocaShortsUptoSaid : Prop := locaShortsUptoRow.holds Try.pinned (OpenSpec.upto locaShortsSpec)

/-- 'punchcutlaw08.LocaBuilds', WHERE WHAT IT READS IS OF BULK AT MOST 1048576: true; the input reads as it did. -/
def locaBuildsUptoRow : OpenClaim := { program := "ytmboeoobkccpoaa", sum := "2fd5ec3322c4a194a3de84cd1a3e16a8880ddbf07dcb32265a68a345e01c52a8", func := "punchcut/punchcutlaw08.LocaBuilds", spec := "locaBuilds", apart := false, narrowed := true }
def LocaBuildsUptoSaid : Prop := locaBuildsUptoRow.holds Try.pinned (OpenSpec.upto locaBuildsSpec)

/-- 'punchcutlaw08.LocaCuts', WHERE WHAT IT READS IS OF BULK AT MOST 1048576: true; the input reads as it did. -/
def locaCutsUptoRow : OpenClaim := { program := "ytmboeoobkccpoaa", sum := "2fd5ec3322c4a194a3de84cd1a3e16a8880ddbf07dcb32265a68a345e01c52a8", func := "punchcut/punchcutlaw08.LocaCuts", spec := "locaCuts", apart := false, narrowed := true }
def LocaCutsUptoSaid : Prop := locaCutsUptoRow.holds Try.pinned (OpenSpec.upto locaCutsSpec)

/-- 'punchcutlaw08.LocaParses', WHERE WHAT IT READS IS OF BULK AT MOST 1048576: true; the input reads as it did. -/
def locaParsesUptoRow : OpenClaim := { program := "ytmboeoobkccpoaa", sum := "2fd5ec3322c4a194a3de84cd1a3e16a8880ddbf07dcb32265a68a345e01c52a8", func := "punchcut/punchcutlaw08.LocaParses", spec := "locaParses", apart := false, narrowed := true }
def LocaParsesUptoSaid : Prop := locaParsesUptoRow.holds Try.pinned (OpenSpec.upto locaParsesSpec)

end Rows
end Go.Proofs.Ytmboeoobkccpoaa
