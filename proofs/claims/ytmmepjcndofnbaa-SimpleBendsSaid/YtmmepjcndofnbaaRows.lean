/-
  No cell of these rows narrows 'for every input' (looked for: loops, veiled, ifaces, maps, wideKeys, modest, calm, conditions, laid).
  DERIVED. THE GIVEN ROWS OF THIS SEAT. 6 by the template 'for every input the law returns true; each argument reads behind the call as it read before'; 0 by the template 'total and deterministic' (their statements: YtmmepjcndofnbaaTotals.lean).
  GIVEN WITH THE SEED: the statements are not yours to turn. If you find one false, say at which input.
  Laid BY PROGRAM, IN A SANDBOX (cutbox-rows.mjs): the forced cells as the released guide's own fill.sh prints them over the translation b0711157c10d8969… (all of the seat's roots in one cut). By AI agents, Wed Nov 11 2026. No macro, syntax, notation, axiom, sorry.
-/
import Derived.Test.YtmmepjcndofnbaaChecked
import GoSem.Claim
import GoSem.ClaimJoined
import GoSem.ClaimMapViews
import Derived.JoinedTies
import Derived.KernelRfl
namespace Go.Proofs.Ytmmepjcndofnbaa
/- THE CELL 'sum', in the pinned program and in every row, IS THE sha256 OF THE DUMP (.gsa) THAT YtmmepjcndofnbaaProg.lean LOADS. Nothing in Lean hashes anything: it is a label: what it is worth is what the hold of that sum in a sandbox is worth. -/
noncomputable def Try.pinned : Pinned := { name := "ytmmepjcndofnbaa", sum := "b0711157c10d896932b0ee00ac89ed0b089e79812c406561045163267d59f82a", checked := Try.checked }
namespace Rows
def none {H : Type} : Left H := { results := [], args := [] }

/-- 'punchcutlaw12.SimpleContours': WHATEVER THE INPUT: true; the input reads as it did. -/
def simpleContoursSpec : ChangeSpec := { name := "simpleContours", fn := fun _ => fun
  | [d1, d2] => { results := [.lit (.bool true)], args := [d1, d2] }
  | _ => none }
def simpleContoursRow : OpenClaim := { program := "ytmmepjcndofnbaa", sum := "b0711157c10d896932b0ee00ac89ed0b089e79812c406561045163267d59f82a", func := "punchcut/punchcutlaw12.SimpleContours", spec := "simpleContours", apart := false }
def SimpleContoursSaid : Prop := simpleContoursRow.holds Try.pinned (OpenSpec.ofChange simpleContoursSpec)

/-- ITS FALSE NEIGHBOUR: 'it returns false'. Refute it at one input. -/
def simpleContoursWrong : ChangeSpec := { name := "simpleContours", fn := fun _ => fun
  | [d1, d2] => { results := [.lit (.bool false)], args := [d1, d2] }
  | _ => none }
def SimpleContoursWrongFalsely : Prop := simpleContoursRow.holds Try.pinned (OpenSpec.ofChange simpleContoursWrong)

/-- 'punchcutlaw12.SimpleRights': WHATEVER THE INPUT: true; the input reads as it did. -/
def simpleRightsSpec : ChangeSpec := { name := "simpleRights", fn := fun _ => fun
  | [d] => { results := [.lit (.bool true)], args := [d] }
  | _ => none }
def simpleRightsRow : OpenClaim := { program := "ytmmepjcndofnbaa", sum := "b0711157c10d896932b0ee00ac89ed0b089e79812c406561045163267d59f82a", func := "punchcut/punchcutlaw12.SimpleRights", spec := "simpleRights", apart := false }
def SimpleRightsSaid : Prop := simpleRightsRow.holds Try.pinned (OpenSpec.ofChange simpleRightsSpec)

/-- ITS FALSE NEIGHBOUR: 'it returns false'. Refute it at one input. -/
def simpleRightsWrong : ChangeSpec := { name := "simpleRights", fn := fun _ => fun
  | [d] => { results := [.lit (.bool false)], args := [d] }
  | _ => none }
def SimpleRightsWrongFalsely : Prop := simpleRightsRow.holds Try.pinned (OpenSpec.ofChange simpleRightsWrong)

/-- 'punchcutlaw12.SimpleBends': WHATEVER THE INPUT: true; the input reads as it did. -/
def simpleBendsSpec : ChangeSpec := { name := "simpleBends", fn := fun _ => fun
  | [d1, d2, d3, d4] => { results := [.lit (.bool true)], args := [d1, d2, d3, d4] }
  | _ => none }
def simpleBendsRow : OpenClaim := { program := "ytmmepjcndofnbaa", sum := "b0711157c10d896932b0ee00ac89ed0b089e79812c406561045163267d59f82a", func := "punchcut/punchcutlaw12.SimpleBends", spec := "simpleBends", inPlace := ["internal/bytealg.MakeNoZero"], apart := false }
def SimpleBendsSaid : Prop := simpleBendsRow.holds Try.pinned (OpenSpec.ofChange simpleBendsSpec)

/-- ITS FALSE NEIGHBOUR: 'it returns false'. Refute it at one input. -/
def simpleBendsWrong : ChangeSpec := { name := "simpleBends", fn := fun _ => fun
  | [d1, d2, d3, d4] => { results := [.lit (.bool false)], args := [d1, d2, d3, d4] }
  | _ => none }
def SimpleBendsWrongFalsely : Prop := simpleBendsRow.holds Try.pinned (OpenSpec.ofChange simpleBendsWrong)

/-- 'punchcutlaw12.SimpleParses': WHATEVER THE INPUT: true; the input reads as it did. -/
def simpleParsesSpec : ChangeSpec := { name := "simpleParses", fn := fun _ => fun
  | [d] => { results := [.lit (.bool true)], args := [d] }
  | _ => none }
def simpleParsesRow : OpenClaim := { program := "ytmmepjcndofnbaa", sum := "b0711157c10d896932b0ee00ac89ed0b089e79812c406561045163267d59f82a", func := "punchcut/punchcutlaw12.SimpleParses", spec := "simpleParses", inPlace := ["internal/bytealg.MakeNoZero"], apart := false }
def SimpleParsesSaid : Prop := simpleParsesRow.holds Try.pinned (OpenSpec.ofChange simpleParsesSpec)

/-- ITS FALSE NEIGHBOUR: 'it returns false'. Refute it at one input. -/
def simpleParsesWrong : ChangeSpec := { name := "simpleParses", fn := fun _ => fun
  | [d] => { results := [.lit (.bool false)], args := [d] }
  | _ => none }
def SimpleParsesWrongFalsely : Prop := simpleParsesRow.holds Try.pinned (OpenSpec.ofChange simpleParsesWrong)

/-- 'punchcutlaw12.SimpleRows': WHATEVER THE INPUT: true; the input reads as it did. -/
def simpleRowsSpec : ChangeSpec := { name := "simpleRows", fn := fun _ => fun
  | [d1, d2, d3, d4] => { results := [.lit (.bool true)], args := [d1, d2, d3, d4] }
  | _ => none }
def simpleRowsRow : OpenClaim := { program := "ytmmepjcndofnbaa", sum := "b0711157c10d896932b0ee00ac89ed0b089e79812c406561045163267d59f82a", func := "punchcut/punchcutlaw12.SimpleRows", spec := "simpleRows", inPlace := ["internal/bytealg.MakeNoZero"], apart := false }
def SimpleRowsSaid : Prop := simpleRowsRow.holds Try.pinned (OpenSpec.ofChange simpleRowsSpec)

/-- ITS FALSE NEIGHBOUR: 'it returns false'. Refute it at one input. -/
def simpleRowsWrong : ChangeSpec := { name := "simpleRows", fn := fun _ => fun
  | [d1, d2, d3, d4] => { results := [.lit (.bool false)], args := [d1, d2, d3, d4] }
  | _ => none }
def SimpleRowsWrongFalsely : Prop := simpleRowsRow.holds Try.pinned (OpenSpec.ofChange simpleRowsWrong)

/-- 'punchcutlaw12.SimpleForms': WHATEVER THE INPUT: true; the input reads as it did. -/
def simpleFormsSpec : ChangeSpec := { name := "simpleForms", fn := fun _ => fun
  | [d1, d2, d3, d4, d5] => { results := [.lit (.bool true)], args := [d1, d2, d3, d4, d5] }
  | _ => none }
def simpleFormsRow : OpenClaim := { program := "ytmmepjcndofnbaa", sum := "b0711157c10d896932b0ee00ac89ed0b089e79812c406561045163267d59f82a", func := "punchcut/punchcutlaw12.SimpleForms", spec := "simpleForms", inPlace := ["internal/bytealg.MakeNoZero"], apart := false }
def SimpleFormsSaid : Prop := simpleFormsRow.holds Try.pinned (OpenSpec.ofChange simpleFormsSpec)

/-- ITS FALSE NEIGHBOUR: 'it returns false'. Refute it at one input. -/
def simpleFormsWrong : ChangeSpec := { name := "simpleForms", fn := fun _ => fun
  | [d1, d2, d3, d4, d5] => { results := [.lit (.bool false)], args := [d1, d2, d3, d4, d5] }
  | _ => none }
def SimpleFormsWrongFalsely : Prop := simpleFormsRow.holds Try.pinned (OpenSpec.ofChange simpleFormsWrong)

/- THE SECOND FORM. 'bulk': how many values and letters a reading holds, each counted each time it is reached (what is shared counts as often as it is met; a slice's spare places count too). A statement '..UptoSaid' is the law's where the arguments, and the package variables that the reading takes, are together of bulk at most 1048576: NARROWER than '..Said'. Prove '..Said' where nothing that the law and all that it calls make is longer than what came in: it says more and counts as full. Else prove '..UptoSaid'. A law counts once. -/
mutual
def uptoBulk {H : Type} : DataW H → Nat
  | .lit (.string bytes) => bytes.length + 1
  | .lit _ => 1
  | .nil => 1
  | .ptr d => uptoBulk d + 1
  | .slice elems spare => uptoBulkAll elems + uptoBulkAll spare + 1
  | .agg parts => uptoBulkAll parts + 1
  | .iface _ d => uptoBulk d + 1
  | .map entries => uptoBulkEntries entries + 1
  | .held _ => 1
def uptoBulkAll {H : Type} : List (DataW H) → Nat
  | [] => 0
  | d :: r => uptoBulk d + uptoBulkAll r
def uptoBulkEntries {H : Type} : List (Lit × DataW H) → Nat
  | [] => 0
  | x :: r => uptoBulkEntry x + uptoBulkEntries r
def uptoBulkEntry {H : Type} : Lit × DataW H → Nat
  | (.string bytes, d) => bytes.length + uptoBulk d + 1
  | (_, d) => uptoBulk d + 1
 end
def uptoSmall : (H : Type) → List (DataW H) → Bool := fun _ ds => decide (uptoBulkAll ds ≤ 1048576)
def OpenSpec.upto (s : _root_.Go.ChangeSpec) : _root_.Go.OpenSpec := { _root_.Go.OpenSpec.ofChange s with cond := some uptoSmall }

/-- 'punchcutlaw12.SimpleContours', WHERE WHAT IT READS IS OF BULK AT MOST 1048576: true; the input reads as it did. -/
def simpleContoursUptoRow : OpenClaim := { program := "ytmmepjcndofnbaa", sum := "b0711157c10d896932b0ee00ac89ed0b089e79812c406561045163267d59f82a", func := "punchcut/punchcutlaw12.SimpleContours", spec := "simpleContours", apart := false, narrowed := true }
def SimpleContoursUptoSaid : Prop := simpleContoursUptoRow.holds Try.pinned (OpenSpec.upto simpleContoursSpec)

/-- 'punchcutlaw12.SimpleRights', WHERE WHAT IT READS IS OF BULK AT MOST 1048576: true; the input reads as it did. -/
def simpleRightsUptoRow : OpenClaim := { program := "ytmmepjcndofnbaa", sum := "b0711157c10d896932b0ee00ac89ed0b089e79812c406561045163267d59f82a", func := "punchcut/punchcutlaw12.SimpleRights", spec := "simpleRights", apart := false, narrowed := true }
def SimpleRightsUptoSaid : Prop := simpleRightsUptoRow.holds Try.pinned (OpenSpec.upto simpleRightsSpec)

/-- 'punchcutlaw12.SimpleBends', WHERE WHAT IT READS IS OF BULK AT MOST 1048576: true; the input reads as it did. -/
def simpleBendsUptoRow : OpenClaim := { program := "ytmmepjcndofnbaa", sum := "b0711157c10d896932b0ee00ac89ed0b089e79812c406561045163267d59f82a", func := "punchcut/punchcutlaw12.SimpleBends", spec := "simpleBends", inPlace := ["internal/bytealg.MakeNoZero"], apart := false, narrowed := true }
def SimpleBendsUptoSaid : Prop := simpleBendsUptoRow.holds Try.pinned (OpenSpec.upto simpleBendsSpec)

/-- 'punchcutlaw12.SimpleParses', WHERE WHAT IT READS IS OF BULK AT MOST 1048576: true; the input reads as it did. -/
def simpleParsesUptoRow : OpenClaim := { program := "ytmmepjcndofnbaa", sum := "b0711157c10d896932b0ee00ac89ed0b089e79812c406561045163267d59f82a", func := "punchcut/punchcutlaw12.SimpleParses", spec := "simpleParses", inPlace := ["internal/bytealg.MakeNoZero"], apart := false, narrowed := true }
def SimpleParsesUptoSaid : Prop := simpleParsesUptoRow.holds Try.pinned (OpenSpec.upto simpleParsesSpec)

/-- 'punchcutlaw12.SimpleRows', WHERE WHAT IT READS IS OF BULK AT MOST 1048576: true; the input reads as it did. -/
def simpleRowsUptoRow : OpenClaim := { program := "ytmmepjcndofnbaa", sum := "b0711157c10d896932b0ee00ac89ed0b089e79812c406561045163267d59f82a", func := "punchcut/punchcutlaw12.SimpleRows", spec := "simpleRows", inPlace := ["internal/bytealg.MakeNoZero"], apart := false, narrowed := true }
def SimpleRowsUptoSaid : Prop := simpleRowsUptoRow.holds Try.pinned (OpenSpec.upto simpleRowsSpec)

/-- 'punchcutlaw12.SimpleForms', WHERE WHAT IT READS IS OF BULK AT MOST 1048576: true; the input reads as it did. -/
def simpleFormsUptoRow : OpenClaim := { program := "ytmmepjcndofnbaa", sum := "b0711157c10d896932b0ee00ac89ed0b089e79812c406561045163267d59f82a", func := "punchcut/punchcutlaw12.SimpleForms", spec := "simpleForms", inPlace := ["internal/bytealg.MakeNoZero"], apart := false, narrowed := true }
def SimpleFormsUptoSaid : Prop := simpleFormsUptoRow.holds Try.pinned (OpenSpec.upto simpleFormsSpec)

end Rows
end Go.Proofs.Ytmmepjcndofnbaa
