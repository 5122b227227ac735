/-
  No cell of these rows narrows 'for every input' (looked for: loops, veiled, ifaces, maps, wideKeys, modest, calm, conditions, laid).
  DERIVED. THE GIVEN ROWS OF THIS SEAT. 6 by the template 'for every input the law returns true; each argument reads behind the call as it read before'; 0 by the template 'total and deterministic' (their statements: YteoicpbfjkjogaaTotals.lean).
  GIVEN WITH THE SEED: the statements are not yours to turn. If you find one false, say at which input.
  Laid BY PROGRAM, IN A SANDBOX (cutbox-rows.mjs): the forced cells as the released guide's own fill.sh prints them over the translation e7c20fd1733fc41c… (all of the seat's roots in one cut). By AI agents, Wed Nov 11 2026. No macro, syntax, notation, axiom, sorry.
-/
import Derived.Test.YteoicpbfjkjogaaChecked
import GoSem.Claim
import GoSem.ClaimJoined
import GoSem.ClaimMapViews
import Derived.JoinedTies
import Derived.KernelRfl
namespace Go.Proofs.Yteoicpbfjkjogaa
/- THE CELL 'sum', in the pinned program and in every row, IS THE sha256 OF THE DUMP (.gsa) THAT YteoicpbfjkjogaaProg.lean LOADS. Nothing in Lean hashes anything: it is a label: what it is worth is what the hold of that sum in a sandbox is worth. -/
noncomputable def Try.pinned : Pinned := { name := "yteoicpbfjkjogaa", sum := "e7c20fd1733fc41c614ff0aaf93f3ba44c41a550fc78726f3a9d4fce4529c9be", checked := Try.checked }
namespace Rows
def none {H : Type} : Left H := { results := [], args := [] }

/-- 'punchcutlaw13.CompoCounts': WHATEVER THE INPUT: true; the input reads as it did. -/
def compoCountsSpec : ChangeSpec := { name := "compoCounts", fn := fun _ => fun
  | [d1, d2, d3, d4] => { results := [.lit (.bool true)], args := [d1, d2, d3, d4] }
  | _ => none }
def compoCountsRow : OpenClaim := { program := "yteoicpbfjkjogaa", sum := "e7c20fd1733fc41c614ff0aaf93f3ba44c41a550fc78726f3a9d4fce4529c9be", func := "punchcut/punchcutlaw13.CompoCounts", spec := "compoCounts", apart := false }
def CompoCountsSaid : Prop := compoCountsRow.holds Try.pinned (OpenSpec.ofChange compoCountsSpec)

/-- ITS FALSE NEIGHBOUR: 'it returns false'. Refute it at one input. -/
def compoCountsWrong : ChangeSpec := { name := "compoCounts", fn := fun _ => fun
  | [d1, d2, d3, d4] => { results := [.lit (.bool false)], args := [d1, d2, d3, d4] }
  | _ => none }
def CompoCountsWrongFalsely : Prop := compoCountsRow.holds Try.pinned (OpenSpec.ofChange compoCountsWrong)

/-- 'punchcutlaw13.CompoWiths': WHATEVER THE INPUT: true; the input reads as it did. -/
def compoWithsSpec : ChangeSpec := { name := "compoWiths", fn := fun _ => fun
  | [d1, d2, d3] => { results := [.lit (.bool true)], args := [d1, d2, d3] }
  | _ => none }
def compoWithsRow : OpenClaim := { program := "yteoicpbfjkjogaa", sum := "e7c20fd1733fc41c614ff0aaf93f3ba44c41a550fc78726f3a9d4fce4529c9be", func := "punchcut/punchcutlaw13.CompoWiths", spec := "compoWiths", apart := false }
def CompoWithsSaid : Prop := compoWithsRow.holds Try.pinned (OpenSpec.ofChange compoWithsSpec)

/-- ITS FALSE NEIGHBOUR: 'it returns false'. Refute it at one input. -/
def compoWithsWrong : ChangeSpec := { name := "compoWiths", fn := fun _ => fun
  | [d1, d2, d3] => { results := [.lit (.bool false)], args := [d1, d2, d3] }
  | _ => none }
def CompoWithsWrongFalsely : Prop := compoWithsRow.holds Try.pinned (OpenSpec.ofChange compoWithsWrong)

/-- 'punchcutlaw13.CompoBends': WHATEVER THE INPUT: true; the input reads as it did. -/
def compoBendsSpec : ChangeSpec := { name := "compoBends", fn := fun _ => fun
  | [d1, d2, d3] => { results := [.lit (.bool true)], args := [d1, d2, d3] }
  | _ => none }
def compoBendsRow : OpenClaim := { program := "yteoicpbfjkjogaa", sum := "e7c20fd1733fc41c614ff0aaf93f3ba44c41a550fc78726f3a9d4fce4529c9be", func := "punchcut/punchcutlaw13.CompoBends", spec := "compoBends", apart := false }
def CompoBendsSaid : Prop := compoBendsRow.holds Try.pinned (OpenSpec.ofChange compoBendsSpec)

/-- ITS FALSE NEIGHBOUR: 'it returns false'. Refute it at one input. -/
def compoBendsWrong : ChangeSpec := { name := "compoBends", fn := fun _ => fun
  | [d1, d2, d3] => { results := [.lit (.bool false)], args := [d1, d2, d3] }
  | _ => none }
def CompoBendsWrongFalsely : Prop := compoBendsRow.holds Try.pinned (OpenSpec.ofChange compoBendsWrong)

/-- 'punchcutlaw13.CompoKinds': WHATEVER THE INPUT: true; the input reads as it did. -/
def compoKindsSpec : ChangeSpec := { name := "compoKinds", fn := fun _ => fun
  | [d1, d2] => { results := [.lit (.bool true)], args := [d1, d2] }
  | _ => none }
def compoKindsRow : OpenClaim := { program := "yteoicpbfjkjogaa", sum := "e7c20fd1733fc41c614ff0aaf93f3ba44c41a550fc78726f3a9d4fce4529c9be", func := "punchcut/punchcutlaw13.CompoKinds", spec := "compoKinds", apart := false }
def CompoKindsSaid : Prop := compoKindsRow.holds Try.pinned (OpenSpec.ofChange compoKindsSpec)

/-- ITS FALSE NEIGHBOUR: 'it returns false'. Refute it at one input. -/
def compoKindsWrong : ChangeSpec := { name := "compoKinds", fn := fun _ => fun
  | [d1, d2] => { results := [.lit (.bool false)], args := [d1, d2] }
  | _ => none }
def CompoKindsWrongFalsely : Prop := compoKindsRow.holds Try.pinned (OpenSpec.ofChange compoKindsWrong)

/-- 'punchcutlaw13.CompoForms': WHATEVER THE INPUT: true; the input reads as it did. -/
def compoFormsSpec : ChangeSpec := { name := "compoForms", fn := fun _ => fun
  | [d1, d2] => { results := [.lit (.bool true)], args := [d1, d2] }
  | _ => none }
def compoFormsRow : OpenClaim := { program := "yteoicpbfjkjogaa", sum := "e7c20fd1733fc41c614ff0aaf93f3ba44c41a550fc78726f3a9d4fce4529c9be", func := "punchcut/punchcutlaw13.CompoForms", spec := "compoForms", apart := false }
def CompoFormsSaid : Prop := compoFormsRow.holds Try.pinned (OpenSpec.ofChange compoFormsSpec)

/-- ITS FALSE NEIGHBOUR: 'it returns false'. Refute it at one input. -/
def compoFormsWrong : ChangeSpec := { name := "compoForms", fn := fun _ => fun
  | [d1, d2] => { results := [.lit (.bool false)], args := [d1, d2] }
  | _ => none }
def CompoFormsWrongFalsely : Prop := compoFormsRow.holds Try.pinned (OpenSpec.ofChange compoFormsWrong)

/-- 'punchcutlaw13.CompoParses': WHATEVER THE INPUT: true; the input reads as it did. -/
def compoParsesSpec : ChangeSpec := { name := "compoParses", fn := fun _ => fun
  | [d] => { results := [.lit (.bool true)], args := [d] }
  | _ => none }
def compoParsesRow : OpenClaim := { program := "yteoicpbfjkjogaa", sum := "e7c20fd1733fc41c614ff0aaf93f3ba44c41a550fc78726f3a9d4fce4529c9be", func := "punchcut/punchcutlaw13.CompoParses", spec := "compoParses", apart := false }
def CompoParsesSaid : Prop := compoParsesRow.holds Try.pinned (OpenSpec.ofChange compoParsesSpec)

/-- ITS FALSE NEIGHBOUR: 'it returns false'. Refute it at one input. -/
def compoParsesWrong : ChangeSpec := { name := "compoParses", fn := fun _ => fun
  | [d] => { results := [.lit (.bool false)], args := [d] }
  | _ => none }
def CompoParsesWrongFalsely : Prop := compoParsesRow.holds Try.pinned (OpenSpec.ofChange compoParsesWrong)

/- THE SECOND FORM. 'bulk': how many values and letters a reading holds, each counted each time it is reached (what is shared counts as often as it is met; a slice's spare places count too). A statement '..UptoSaid' is the law's where the arguments, and the package variables that the reading takes, are together of bulk at most 1048576: NARROWER than '..Said'. Prove '..Said' where nothing that the law and all that it calls make is longer than what came in: it says more and counts as full. Else prove '..UptoSaid'. A law counts once. -/
mutual
def uptoBulk {H : Type} : DataW H → Nat
  | .lit (.string bytes) => bytes.length + 1
  | .lit _ => 1
  | .nil => 1
  | .ptr d => uptoBulk d + 1
  | .slice elems spare => uptoBulkAll elems + uptoBulkAll spare + 1
  | .agg parts => uptoBulkAll parts + 1
  | .iface _ d => uptoBulk d + 1
  | .map entries => uptoBulkEntries entries + 1
  | .held _ => 1
def uptoBulkAll {H : Type} : List (DataW H) → Nat
  | [] => 0
  | d :: r => uptoBulk d + uptoBulkAll r
def uptoBulkEntries {H : Type} : List (Lit × DataW H) → Nat
  | [] => 0
  | x :: r => uptoBulkEntry x + uptoBulkEntries r
def uptoBulkEntry {H : Type} : Lit × DataW H → Nat
  | (.string bytes, d) => bytes.length + uptoBulk d + 1
  | (_, d) => uptoBulk d + 1
 end
def uptoSmall : (H : Type) → List (DataW H) → Bool := fun _ ds => decide (uptoBulkAll ds ≤ 1048576)
def OpenSpec.upto (s : _root_.Go.ChangeSpec) : _root_.Go.OpenSpec := { _root_.Go.OpenSpec.ofChange s with cond := some uptoSmall }

/-- 'punchcutlaw13.CompoCounts', WHERE WHAT IT READS IS OF BULK AT MOST 1048576: true; the input reads as it did. -/
def compoCountsUptoRow : OpenClaim := { program := "yteoicpbfjkjogaa", sum := "e7c20fd1733fc41c614ff0aaf93f3ba44c41a550fc78726f3a9d4fce4529c9be", func := "punchcut/punchcutlaw13.CompoCounts", spec := "compoCounts", apart := false, narrowed := true }
def CompoCountsUptoSaid : Prop := compoCountsUptoRow.holds Try.pinned (OpenSpec.upto compoCountsSpec)

/-- 'punchcutlaw13.CompoWiths', WHERE WHAT IT READS IS OF BULK AT MOST 1048576: true; the input reads as it did. -/
def compoWithsUptoRow : OpenClaim := { program := "yteoicpbfjkjogaa", sum := "e7c20fd1733fc41c614ff0aaf93f3ba44c41a550fc78726f3a9d4fce4529c9be", func := "punchcut/punchcutlaw13.CompoWiths", spec := "compoWiths", apart := false, narrowed := true }
def CompoWithsUptoSaid : Prop := compoWithsUptoRow.holds Try.pinned (OpenSpec.upto compoWithsSpec)

/-- 'punchcutlaw13.CompoBends', WHERE WHAT IT READS IS OF BULK AT MOST 1048576: true; the input reads as it did. -/
def compoBendsUptoRow : OpenClaim := { program := "yteoicpbfjkjogaa", sum := "e7c20fd1733fc41c614ff0aaf93f3ba44c41a550fc78726f3a9d4fce4529c9be", func := "punchcut/punchcutlaw13.CompoBends", spec := "compoBends", apart := false, narrowed := true }
def CompoBendsUptoSaid : Prop := compoBendsUptoRow.holds Try.pinned (OpenSpec.upto compoBendsSpec)

/-- 'punchcutlaw13.CompoKinds', WHERE WHAT IT READS IS OF BULK AT MOST 1048576: true; the input reads as it did. -/
def compoKindsUptoRow : OpenClaim := { program := "yteoicpbfjkjogaa", sum := "e7c20fd1733fc41c614ff0aaf93f3ba44c41a550fc78726f3a9d4fce4529c9be", func := "punchcut/punchcutlaw13.CompoKinds", spec := "compoKinds", apart := false, narrowed := true }
def CompoKindsUptoSaid : Prop := compoKindsUptoRow.holds Try.pinned (OpenSpec.upto compoKindsSpec)

/-- 'punchcutlaw13.CompoForms', WHERE WHAT IT READS IS OF BULK AT MOST 1048576: true; the input reads as it did. -/
def compoFormsUptoRow : OpenClaim := { program := "yteoicpbfjkjogaa", sum := "e7c20fd1733fc41c614ff0aaf93f3ba44c41a550fc78726f3a9d4fce4529c9be", func := "punchcut/punchcutlaw13.CompoForms", spec := "compoForms", apart := false, narrowed := true }
def CompoFormsUptoSaid : Prop := compoFormsUptoRow.holds Try.pinned (OpenSpec.upto compoFormsSpec)

/-- 'punchcutlaw13.CompoParses', WHERE WHAT IT READS IS OF BULK AT MOST 1048576: true; the input reads as it did. -/
def compoParsesUptoRow : OpenClaim := { program := "yteoicpbfjkjogaa", sum := "e7c20fd1733fc41c614ff0aaf93f3ba44c41a550fc78726f3a9d4fce4529c9be", func := "punchcut/punchcutlaw13.CompoParses", spec := "compoParses", apart := false, narrowed := true }
def CompoParsesUptoSaid : Prop := compoParsesUptoRow.holds Try.pinned (OpenSpec.upto compoParsesSpec)

end Rows
end Go.Proofs.Yteoicpbfjkjogaa
