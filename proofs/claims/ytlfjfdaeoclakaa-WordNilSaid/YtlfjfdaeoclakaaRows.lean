/-
  No cell of these rows narrows 'for every input' (looked for: loops, veiled, ifaces, maps, wideKeys, modest, calm, conditions, laid).
  DERIVED. THE GIVEN ROWS OF THIS SEAT. 6 by the template 'for every input the law returns true; each argument reads behind the call as it read before'; 0 by the template 'total and deterministic' (their statements: YtlfjfdaeoclakaaTotals.lean).
  GIVEN WITH THE SEED: the statements are not yours to turn. If you find one false, say at which input.
  Laid BY PROGRAM, IN A SANDBOX (cutbox-rows.mjs): the forced cells as the released guide's own fill.sh prints them over the translation a75a8ed8601cd33b… (all of the seat's roots in one cut). By AI agents, Wed Nov 11 2026. No macro, syntax, notation, axiom, sorry.
-/
import Derived.Test.YtlfjfdaeoclakaaChecked
import GoSem.Claim
import GoSem.ClaimJoined
import GoSem.ClaimMapViews
import Derived.JoinedTies
import Derived.KernelRfl
namespace Go.Proofs.Ytlfjfdaeoclakaa
/- THE CELL 'sum', in the pinned program and in every row, IS THE sha256 OF THE DUMP (.gsa) THAT YtlfjfdaeoclakaaProg.lean LOADS. Nothing in Lean hashes anything: it is a label: what it is worth is what the hold of that sum in a sandbox is worth. -/
noncomputable def Try.pinned : Pinned := { name := "ytlfjfdaeoclakaa", sum := "a75a8ed8601cd33b48f1b69bd4d78c1d63e1981101f58c8842ec3113d70427e2", checked := Try.checked }
namespace Rows
def none {H : Type} : Left H := { results := [], args := [] }

/-- 'punchcutlaw01.WordBytes': WHATEVER THE INPUT: true; the input reads as it did. -/
def wordBytesSpec : ChangeSpec := { name := "wordBytes", fn := fun _ => fun
  | [d] => { results := [.lit (.bool true)], args := [d] }
  | _ => none }
def wordBytesRow : OpenClaim := { program := "ytlfjfdaeoclakaa", sum := "a75a8ed8601cd33b48f1b69bd4d78c1d63e1981101f58c8842ec3113d70427e2", func := "punchcut/punchcutlaw01.WordBytes", spec := "wordBytes", apart := false }
def WordBytesSaid : Prop := wordBytesRow.holds Try.pinned (OpenSpec.ofChange wordBytesSpec)

/-- ITS FALSE NEIGHBOUR: 'it returns false'. Refute it at one input. -/
def wordBytesWrong : ChangeSpec := { name := "wordBytes", fn := fun _ => fun
  | [d] => { results := [.lit (.bool false)], args := [d] }
  | _ => none }
def WordBytesWrongFalsely : Prop := wordBytesRow.holds Try.pinned (OpenSpec.ofChange wordBytesWrong)

/-- 'punchcutlaw01.WordSubs': WHATEVER THE INPUT: true; the input reads as it did. -/
def wordSubsSpec : ChangeSpec := { name := "wordSubs", fn := fun _ => fun
  | [d1, d2, d3] => { results := [.lit (.bool true)], args := [d1, d2, d3] }
  | _ => none }
def wordSubsRow : OpenClaim := { program := "ytlfjfdaeoclakaa", sum := "a75a8ed8601cd33b48f1b69bd4d78c1d63e1981101f58c8842ec3113d70427e2", func := "punchcut/punchcutlaw01.WordSubs", spec := "wordSubs", apart := false }
def WordSubsSaid : Prop := wordSubsRow.holds Try.pinned (OpenSpec.ofChange wordSubsSpec)

/-- ITS FALSE NEIGHBOUR: 'it returns false'. Refute it at one input. -/
def wordSubsWrong : ChangeSpec := { name := "wordSubs", fn := fun _ => fun
  | [d1, d2, d3] => { results := [.lit (.bool false)], args := [d1, d2, d3] }
  | _ => none }
def WordSubsWrongFalsely : Prop := wordSubsRow.holds Try.pinned (OpenSpec.ofChange wordSubsWrong)

/-- 'punchcutlaw01.WordHalves': WHATEVER THE INPUT: true; the input reads as it did. -/
def wordHalvesSpec : ChangeSpec := { name := "wordHalves", fn := fun _ => fun
  | [d] => { results := [.lit (.bool true)], args := [d] }
  | _ => none }
def wordHalvesRow : OpenClaim := { program := "ytlfjfdaeoclakaa", sum := "a75a8ed8601cd33b48f1b69bd4d78c1d63e1981101f58c8842ec3113d70427e2", func := "punchcut/punchcutlaw01.WordHalves", spec := "wordHalves", apart := false }
def WordHalvesSaid : Prop := wordHalvesRow.holds Try.pinned (OpenSpec.ofChange wordHalvesSpec)

/-- ITS FALSE NEIGHBOUR: 'it returns false'. Refute it at one input. -/
def wordHalvesWrong : ChangeSpec := { name := "wordHalves", fn := fun _ => fun
  | [d] => { results := [.lit (.bool false)], args := [d] }
  | _ => none }
def WordHalvesWrongFalsely : Prop := wordHalvesRow.holds Try.pinned (OpenSpec.ofChange wordHalvesWrong)

/-- 'punchcutlaw01.WordReads': WHATEVER THE INPUT: true; the input reads as it did. -/
def wordReadsSpec : ChangeSpec := { name := "wordReads", fn := fun _ => fun
  | [d1, d2] => { results := [.lit (.bool true)], args := [d1, d2] }
  | _ => none }
def wordReadsRow : OpenClaim := { program := "ytlfjfdaeoclakaa", sum := "a75a8ed8601cd33b48f1b69bd4d78c1d63e1981101f58c8842ec3113d70427e2", func := "punchcut/punchcutlaw01.WordReads", spec := "wordReads", apart := false }
def WordReadsSaid : Prop := wordReadsRow.holds Try.pinned (OpenSpec.ofChange wordReadsSpec)

/-- ITS FALSE NEIGHBOUR: 'it returns false'. Refute it at one input. -/
def wordReadsWrong : ChangeSpec := { name := "wordReads", fn := fun _ => fun
  | [d1, d2] => { results := [.lit (.bool false)], args := [d1, d2] }
  | _ => none }
def WordReadsWrongFalsely : Prop := wordReadsRow.holds Try.pinned (OpenSpec.ofChange wordReadsWrong)

/-- 'punchcutlaw01.WordWrites': WHATEVER THE INPUT: true; the input reads as it did. -/
def wordWritesSpec : ChangeSpec := { name := "wordWrites", fn := fun _ => fun
  | [d1, d2, d3, d4, d5] => { results := [.lit (.bool true)], args := [d1, d2, d3, d4, d5] }
  | _ => none }
def wordWritesRow : OpenClaim := { program := "ytlfjfdaeoclakaa", sum := "a75a8ed8601cd33b48f1b69bd4d78c1d63e1981101f58c8842ec3113d70427e2", func := "punchcut/punchcutlaw01.WordWrites", spec := "wordWrites", apart := false }
def WordWritesSaid : Prop := wordWritesRow.holds Try.pinned (OpenSpec.ofChange wordWritesSpec)

/-- ITS FALSE NEIGHBOUR: 'it returns false'. Refute it at one input. -/
def wordWritesWrong : ChangeSpec := { name := "wordWrites", fn := fun _ => fun
  | [d1, d2, d3, d4, d5] => { results := [.lit (.bool false)], args := [d1, d2, d3, d4, d5] }
  | _ => none }
def WordWritesWrongFalsely : Prop := wordWritesRow.holds Try.pinned (OpenSpec.ofChange wordWritesWrong)

/-- 'punchcutlaw01.WordNil': WHATEVER THE INPUT: true; the input reads as it did. -/
def wordNilSpec : ChangeSpec := { name := "wordNil", fn := fun _ => fun
  | [d1, d2] => { results := [.lit (.bool true)], args := [d1, d2] }
  | _ => none }
def wordNilRow : OpenClaim := { program := "ytlfjfdaeoclakaa", sum := "a75a8ed8601cd33b48f1b69bd4d78c1d63e1981101f58c8842ec3113d70427e2", func := "punchcut/punchcutlaw01.WordNil", spec := "wordNil", apart := false }
def WordNilSaid : Prop := wordNilRow.holds Try.pinned (OpenSpec.ofChange wordNilSpec)

/-- ITS FALSE NEIGHBOUR: 'it returns false'. Refute it at one input. -/
def wordNilWrong : ChangeSpec := { name := "wordNil", fn := fun _ => fun
  | [d1, d2] => { results := [.lit (.bool false)], args := [d1, d2] }
  | _ => none }
def WordNilWrongFalsely : Prop := wordNilRow.holds Try.pinned (OpenSpec.ofChange wordNilWrong)

/- THE SECOND FORM. 'bulk': how many values and letters a reading holds, each counted each time it is reached (what is shared counts as often as it is met; a slice's spare places count too). A statement '..UptoSaid' is the law's where the arguments, and the package variables that the reading takes, are together of bulk at most 1048576: NARROWER than '..Said'. Prove '..Said' where nothing that the law and all that it calls make is longer than what came in: it says more and counts as full. Else prove '..UptoSaid'. A law counts once. -/
mutual
def uptoBulk {H : Type} : DataW H → Nat
  | .lit (.string bytes) => bytes.length + 1
  | .lit _ => 1
  | .nil => 1
  | .ptr d => uptoBulk d + 1
  | .slice elems spare => uptoBulkAll elems + uptoBulkAll spare + 1
  | .agg parts => uptoBulkAll parts + 1
  | .iface _ d => uptoBulk d + 1
  | .map entries => uptoBulkEntries entries + 1
  | .held _ => 1
def uptoBulkAll {H : Type} : List (DataW H) → Nat
  | [] => 0
  | d :: r => uptoBulk d + uptoBulkAll r
def uptoBulkEntries {H : Type} : List (Lit × DataW H) → Nat
  | [] => 0
  | x :: r => uptoBulkEntry x + uptoBulkEntries r
def uptoBulkEntry {H : Type} : Lit × DataW H → Nat
  | (.string bytes, d) => bytes.length + uptoBulk d + 1
  | (_, d) => uptoBulk d + 1
 end
def uptoSmall : (H : Type) → List (DataW H) → Bool := fun _ ds => decide (uptoBulkAll ds ≤ 1048576)
def OpenSpec.upto (s : _root_.Go.ChangeSpec) : _root_.Go.OpenSpec := { _root_.Go.OpenSpec.ofChange s with cond := some uptoSmall }

/-- 'punchcutlaw01.WordBytes', WHERE WHAT IT READS IS OF BULK AT MOST 1048576: true; the input reads as it did. -/
def wordBytesUptoRow : OpenClaim := { program := "ytlfjfdaeoclakaa", sum := "a75a8ed8601cd33b48f1b69bd4d78c1d63e1981101f58c8842ec3113d70427e2", func := "punchcut/punchcutlaw01.WordBytes", spec := "wordBytes", apart := false, narrowed := true }
def WordBytesUptoSaid : Prop := wordBytesUptoRow.holds Try.pinned (OpenSpec.upto wordBytesSpec)

/-- 'punchcutlaw01.WordSubs', WHERE WHAT IT READS IS OF BULK AT MOST 1048576: true; the input reads as it did. -/
def wordSubsUptoRow : OpenClaim := { program := "ytlfjfdaeoclakaa", sum := "a75a8ed8601cd33b48f1b69bd4d78c1d63e1981101f58c8842ec3113d70427e2", func := "punchcut/punchcutlaw01.WordSubs", spec := "wordSubs", apart := false, narrowed := true }
def WordSubsUptoSaid : Prop := wordSubsUptoRow.holds Try.pinned (OpenSpec.upto wordSubsSpec)

/-- 'punchcutlaw01.WordHalves', WHERE WHAT IT READS IS OF BULK AT MOST 1048576: true; the input reads as it did. -/
def wordHalvesUptoRow : OpenClaim := { program := "ytlfjfdaeoclakaa", sum := "a75a8ed8601cd33b48f1b69bd4d78c1d63e1981101f58c8842ec3113d70427e2", func := "punchcut/punchcutlaw01.WordHalves", spec := "wordHalves", apart := false, narrowed := true }
def WordHalvesUptoSaid : Prop := wordHalvesUptoRow.holds Try.pinned (OpenSpec.upto wordHalvesSpec)

/-- 'punchcutlaw01.WordReads', WHERE WHAT IT READS IS OF BULK AT MOST 1048576: true; the input reads as it did. -/
def wordReadsUptoRow : OpenClaim := { program := "ytlfjfdaeoclakaa", sum := "a75a8ed8601cd33b48f1b69bd4d78c1d63e1981101f58c8842ec3113d70427e2", func := "punchcut/punchcutlaw01.WordReads", spec := "wordReads", apart := false, narrowed := true }
def WordReadsUptoSaid : Prop := wordReadsUptoRow.holds Try.pinned (OpenSpec.upto wordReadsSpec)

/-- 'punchcutlaw01.WordWrites', WHERE WHAT IT READS IS OF BULK AT MOST 1048576: true; the input reads as it did. -/
def wordWritesUptoRow : OpenClaim := { program := "ytlfjfdaeoclakaa", sum := "a75a8ed8601cd33b48f1b69bd4d78c1d63e1981101f58c8842ec3113d70427e2", func := "punchcut/punchcutlaw01.WordWrites", spec := "wordWrites", apart := false, narrowed := true }
def WordWritesUptoSaid : Prop := wordWritesUptoRow.holds Try.pinned (OpenSpec.upto wordWritesSpec)

/-- 'punchcutlaw01.WordNil', WHERE WHAT IT READS IS OF BULK AT MOST 1048576: true; the input reads as it did. -/
def wordNilUptoRow : OpenClaim := { program := "ytlfjfdaeoclakaa", sum := "a75a8ed8601cd33b48f1b69bd4d78c1d63e1981101f58c8842ec3113d70427e2", func := "punchcut/punchcutlaw01.WordNil", spec := "wordNil", apart := false, narrowed := true }
def WordNilUptoSaid : Prop := wordNilUptoRow.holds Try.pinned (OpenSpec.upto wordNilSpec)

end Rows
end Go.Proofs.Ytlfjfdaeoclakaa
