/-
  No cell of these rows narrows 'for every input' (looked for: loops, veiled, ifaces, maps, wideKeys, modest, calm, conditions, laid).
  DERIVED. THE GIVEN ROWS OF THIS SEAT. 5 by the template 'for every input the law returns true; each argument reads behind the call as it read before'; 0 by the template 'total and deterministic' (their statements: YtigcbficlohbmaaTotals.lean).
  GIVEN WITH THE SEED: the statements are not yours to turn. If you find one false, say at which input.
  Laid BY PROGRAM, IN A SANDBOX (cutbox-rows.mjs): the forced cells as the released guide's own fill.sh prints them over the translation efceb3826e7cfc78… (all of the seat's roots in one cut). By AI agents, Wed Nov 11 2026. No macro, syntax, notation, axiom, sorry.
-/
import Derived.Test.YtigcbficlohbmaaChecked
import GoSem.Claim
import GoSem.ClaimJoined
import GoSem.ClaimMapViews
import Derived.JoinedTies
import Derived.KernelRfl
namespace Go.Proofs.Ytigcbficlohbmaa
/- THE CELL 'sum', in the pinned program and in every row, IS THE sha256 OF THE DUMP (.gsa) THAT YtigcbficlohbmaaProg.lean LOADS. Nothing in Lean hashes anything: it is a label: what it is worth is what the hold of that sum in a sandbox is worth. -/
noncomputable def Try.pinned : Pinned := { name := "ytigcbficlohbmaa", sum := "efceb3826e7cfc7889856eb037e2f6bb047a437375b74ff4919d8e8d33ebb395", checked := Try.checked }
namespace Rows
def none {H : Type} : Left H := { results := [], args := [] }

/-- 'punchcutlaw05.HeadThousandths': WHATEVER THE INPUT: true; the input reads as it did. -/
def headThousandthsSpec : ChangeSpec := { name := "headThousandths", fn := fun _ => fun
  | [d1, d2] => { results := [.lit (.bool true)], args := [d1, d2] }
  | _ => none }
def headThousandthsRow : OpenClaim := { program := "ytigcbficlohbmaa", sum := "efceb3826e7cfc7889856eb037e2f6bb047a437375b74ff4919d8e8d33ebb395", func := "punchcut/punchcutlaw05.HeadThousandths", spec := "headThousandths", apart := false }
def HeadThousandthsSaid : Prop := headThousandthsRow.holds Try.pinned (OpenSpec.ofChange headThousandthsSpec)

/-- ITS FALSE NEIGHBOUR: 'it returns false'. Refute it at one input. -/
def headThousandthsWrong : ChangeSpec := { name := "headThousandths", fn := fun _ => fun
  | [d1, d2] => { results := [.lit (.bool false)], args := [d1, d2] }
  | _ => none }
def HeadThousandthsWrongFalsely : Prop := headThousandthsRow.holds Try.pinned (OpenSpec.ofChange headThousandthsWrong)

/-- 'punchcutlaw05.HeadApart': WHATEVER THE INPUT: true; the input reads as it did. -/
def headApartSpec : ChangeSpec := { name := "headApart", fn := fun _ => fun
  | [d1, d2, d3] => { results := [.lit (.bool true)], args := [d1, d2, d3] }
  | _ => none }
def headApartRow : OpenClaim := { program := "ytigcbficlohbmaa", sum := "efceb3826e7cfc7889856eb037e2f6bb047a437375b74ff4919d8e8d33ebb395", func := "punchcut/punchcutlaw05.HeadApart", spec := "headApart", apart := false }
def HeadApartSaid : Prop := headApartRow.holds Try.pinned (OpenSpec.ofChange headApartSpec)

/-- ITS FALSE NEIGHBOUR: 'it returns false'. Refute it at one input. -/
def headApartWrong : ChangeSpec := { name := "headApart", fn := fun _ => fun
  | [d1, d2, d3] => { results := [.lit (.bool false)], args := [d1, d2, d3] }
  | _ => none }
def HeadApartWrongFalsely : Prop := headApartRow.holds Try.pinned (OpenSpec.ofChange headApartWrong)

/-- 'punchcutlaw05.HeadForms': WHATEVER THE INPUT: true; the input reads as it did. -/
def headFormsSpec : ChangeSpec := { name := "headForms", fn := fun _ => fun
  | [d] => { results := [.lit (.bool true)], args := [d] }
  | _ => none }
def headFormsRow : OpenClaim := { program := "ytigcbficlohbmaa", sum := "efceb3826e7cfc7889856eb037e2f6bb047a437375b74ff4919d8e8d33ebb395", func := "punchcut/punchcutlaw05.HeadForms", spec := "headForms", apart := false }
def HeadFormsSaid : Prop := headFormsRow.holds Try.pinned (OpenSpec.ofChange headFormsSpec)

/-- ITS FALSE NEIGHBOUR: 'it returns false'. Refute it at one input. -/
def headFormsWrong : ChangeSpec := { name := "headForms", fn := fun _ => fun
  | [d] => { results := [.lit (.bool false)], args := [d] }
  | _ => none }
def HeadFormsWrongFalsely : Prop := headFormsRow.holds Try.pinned (OpenSpec.ofChange headFormsWrong)

/-- 'punchcutlaw05.HeadParses': WHATEVER THE INPUT: true; the input reads as it did. -/
def headParsesSpec : ChangeSpec := { name := "headParses", fn := fun _ => fun
  | [d] => { results := [.lit (.bool true)], args := [d] }
  | _ => none }
def headParsesRow : OpenClaim := { program := "ytigcbficlohbmaa", sum := "efceb3826e7cfc7889856eb037e2f6bb047a437375b74ff4919d8e8d33ebb395", func := "punchcut/punchcutlaw05.HeadParses", spec := "headParses", apart := false }
def HeadParsesSaid : Prop := headParsesRow.holds Try.pinned (OpenSpec.ofChange headParsesSpec)

/-- ITS FALSE NEIGHBOUR: 'it returns false'. Refute it at one input. -/
def headParsesWrong : ChangeSpec := { name := "headParses", fn := fun _ => fun
  | [d] => { results := [.lit (.bool false)], args := [d] }
  | _ => none }
def HeadParsesWrongFalsely : Prop := headParsesRow.holds Try.pinned (OpenSpec.ofChange headParsesWrong)

/-- 'punchcutlaw05.HeadBends': WHATEVER THE INPUT: true; the input reads as it did. -/
def headBendsSpec : ChangeSpec := { name := "headBends", fn := fun _ => fun
  | [d1, d2, d3, d4] => { results := [.lit (.bool true)], args := [d1, d2, d3, d4] }
  | _ => none }
def headBendsRow : OpenClaim := { program := "ytigcbficlohbmaa", sum := "efceb3826e7cfc7889856eb037e2f6bb047a437375b74ff4919d8e8d33ebb395", func := "punchcut/punchcutlaw05.HeadBends", spec := "headBends", apart := false }
def HeadBendsSaid : Prop := headBendsRow.holds Try.pinned (OpenSpec.ofChange headBendsSpec)

/-- ITS FALSE NEIGHBOUR: 'it returns false'. Refute it at one input. -/
def headBendsWrong : ChangeSpec := { name := "headBends", fn := fun _ => fun
  | [d1, d2, d3, d4] => { results := [.lit (.bool false)], args := [d1, d2, d3, d4] }
  | _ => none }
def HeadBendsWrongFalsely : Prop := headBendsRow.holds Try.pinned (OpenSpec.ofChange headBendsWrong)

/- THE SECOND FORM. 'bulk': how many values and letters a reading holds, each counted each time it is reached (what is shared counts as often as it is met; a slice's spare places count too). A statement '..UptoSaid' is the law's where the arguments, and the package variables that the reading takes, are together of bulk at most 1048576: NARROWER than '..Said'. Prove '..Said' where nothing that the law and all that it calls make is longer than what came in: it says more and counts as full. Else prove '..UptoSaid'. A law counts once. -/
mutual
def uptoBulk {H : Type} : DataW H → Nat
  | .lit (.string bytes) => bytes.length + 1
  | .lit _ => 1
  | .nil => 1
  | .ptr d => uptoBulk d + 1
  | .slice elems spare => uptoBulkAll elems + uptoBulkAll spare + 1
  | .agg parts => uptoBulkAll parts + 1
  | .iface _ d => uptoBulk d + 1
  | .map entries => uptoBulkEntries entries + 1
  | .held _ => 1
def uptoBulkAll {H : Type} : List (DataW H) → Nat
  | [] => 0
  | d :: r => uptoBulk d + uptoBulkAll r
def uptoBulkEntries {H : Type} : List (Lit × DataW H) → Nat
  | [] => 0
  | x :: r => uptoBulkEntry x + uptoBulkEntries r
def uptoBulkEntry {H : Type} : Lit × DataW H → Nat
  | (.string bytes, d) => bytes.length + uptoBulk d + 1
  | (_, d) => uptoBulk d + 1
 end
def uptoSmall : (H : Type) → List (DataW H) → Bool := fun _ ds => decide (uptoBulkAll ds ≤ 1048576)
def OpenSpec.upto (s : _root_.Go.ChangeSpec) : _root_.Go.OpenSpec := { _root_.Go.OpenSpec.ofChange s with cond := some uptoSmall }

/-- 'punchcutlaw05.HeadThousandths', WHERE WHAT IT READS IS OF BULK AT MOST 1048576: true; the input reads as it did. -/
def headThousandthsUptoRow : OpenClaim := { program := "ytigcbficlohbmaa", sum := "efceb3826e7cfc7889856eb037e2f6bb047a437375b74ff4919d8e8d33ebb395", func := "punchcut/punchcutlaw05.HeadThousandths", spec := "headThousandths", apart := false, narrowed := true }
def HeadThousandthsUptoSaid : Prop := headThousandthsUptoRow.holds Try.pinned (OpenSpec.upto headThousandthsSpec)

/-- 'punchcutlaw05.HeadApart', WHERE WHAT IT READS IS OF BULK AT MOST 1048576: true; the input reads as it did. -/
def headApartUptoRow : OpenClaim := { program := "ytigcbficlohbmaa", sum := "efceb3826e7cfc7889856eb037e2f6bb047a437375b74ff4919d8e8d33ebb395", func := "punchcut/punchcutlaw05.HeadApart", spec := "headApart", apart := false, narrowed := true }
def HeadApartUptoSaid : Prop := headApartUptoRow.holds Try.pinned (OpenSpec.upto headApartSpec)

/-- 'punchcutlaw05.HeadForms', WHERE WHAT IT READS IS OF BULK AT MOST 1048576: true; the input reads as it did. -/
def headFormsUptoRow : OpenClaim := { program := "ytigcbficlohbmaa", sum := "efceb3826e7cfc7889856eb037e2f6bb047a437375b74ff4919d8e8d33ebb395", func := "punchcut/punchcutlaw05.HeadForms", spec := "headForms", apart := false, narrowed := true }
def HeadFormsUptoSaid : Prop := headFormsUptoRow.holds Try.pinned (OpenSpec.upto headFormsSpec)

/-- 'punchcutlaw05.HeadParses', WHERE WHAT IT READS IS OF BULK AT MOST 1048576: true; the input reads as it did. -/
def headParsesUptoRow : OpenClaim := { program := "ytigcbficlohbmaa", sum := "efceb3826e7cfc7889856eb037e2f6bb047a437375b74ff4919d8e8d33ebb395", func := "punchcut/punchcutlaw05.HeadParses", spec := "headParses", apart := false, narrowed := true }
def HeadParsesUptoSaid : Prop := headParsesUptoRow.holds Try.pinned (OpenSpec.upto headParsesSpec)

/-- 'punchcutlaw05.HeadBends', WHERE WHAT IT READS IS OF BULK AT MOST 1048576: true; the input reads as it did. -/
def headBendsUptoRow : OpenClaim := { program := "ytigcbficlohbmaa", sum := "efceb3826e7cfc7889856eb037e2f6bb047a437375b74ff4919d8e8d33ebb395", func := "punchcut/punchcutlaw05.HeadBends", spec := "headBends", apart := false, narrowed := true }
def HeadBendsUptoSaid : Prop := headBendsUptoRow.holds Try.pinned (OpenSpec.upto headBendsSpec)

end Rows
end Go.Proofs.Ytigcbficlohbmaa
