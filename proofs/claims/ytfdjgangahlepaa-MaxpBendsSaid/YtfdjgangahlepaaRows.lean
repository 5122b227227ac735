/-
  No cell of these rows narrows 'for every input' (looked for: loops, veiled, ifaces, maps, wideKeys, modest, calm, conditions, laid).
  DERIVED. THE GIVEN ROWS OF THIS SEAT. 4 by the template 'for every input the law returns true; each argument reads behind the call as it read before'; 0 by the template 'total and deterministic' (their statements: YtfdjgangahlepaaTotals.lean).
  GIVEN WITH THE SEED: the statements are not yours to turn. If you find one false, say at which input.
  Laid BY PROGRAM, IN A SANDBOX (cutbox-rows.mjs): the forced cells as the released guide's own fill.sh prints them over the translation 6f732dac9978ce86… (all of the seat's roots in one cut). By AI agents, Wed Nov 11 2026. No macro, syntax, notation, axiom, sorry.
-/
import Derived.Test.YtfdjgangahlepaaChecked
import GoSem.Claim
import GoSem.ClaimJoined
import GoSem.ClaimMapViews
import Derived.JoinedTies
import Derived.KernelRfl
namespace Go.Proofs.Ytfdjgangahlepaa
/- THE CELL 'sum', in the pinned program and in every row, IS THE sha256 OF THE DUMP (.gsa) THAT YtfdjgangahlepaaProg.lean LOADS. Nothing in Lean hashes anything: it is a label: what it is worth is what the hold of that sum in a sandbox is worth. -/
noncomputable def Try.pinned : Pinned := { name := "ytfdjgangahlepaa", sum := "6f732dac9978ce86ea454da8a9e9b7e6ecc0e44b048038cc0e9f884bd7cceb3a", checked := Try.checked }
namespace Rows
def none {H : Type} : Left H := { results := [], args := [] }

/-- 'punchcutlaw06.MaxpWiths': WHATEVER THE INPUT: true; the input reads as it did. -/
def maxpWithsSpec : ChangeSpec := { name := "maxpWiths", fn := fun _ => fun
  | [d1, d2] => { results := [.lit (.bool true)], args := [d1, d2] }
  | _ => none }
def maxpWithsRow : OpenClaim := { program := "ytfdjgangahlepaa", sum := "6f732dac9978ce86ea454da8a9e9b7e6ecc0e44b048038cc0e9f884bd7cceb3a", func := "punchcut/punchcutlaw06.MaxpWiths", spec := "maxpWiths", apart := false }
def MaxpWithsSaid : Prop := maxpWithsRow.holds Try.pinned (OpenSpec.ofChange maxpWithsSpec)

/-- ITS FALSE NEIGHBOUR: 'it returns false'. Refute it at one input. -/
def maxpWithsWrong : ChangeSpec := { name := "maxpWiths", fn := fun _ => fun
  | [d1, d2] => { results := [.lit (.bool false)], args := [d1, d2] }
  | _ => none }
def MaxpWithsWrongFalsely : Prop := maxpWithsRow.holds Try.pinned (OpenSpec.ofChange maxpWithsWrong)

/-- 'punchcutlaw06.MaxpForms': WHATEVER THE INPUT: true; the input reads as it did. -/
def maxpFormsSpec : ChangeSpec := { name := "maxpForms", fn := fun _ => fun
  | [d] => { results := [.lit (.bool true)], args := [d] }
  | _ => none }
def maxpFormsRow : OpenClaim := { program := "ytfdjgangahlepaa", sum := "6f732dac9978ce86ea454da8a9e9b7e6ecc0e44b048038cc0e9f884bd7cceb3a", func := "punchcut/punchcutlaw06.MaxpForms", spec := "maxpForms", apart := false }
def MaxpFormsSaid : Prop := maxpFormsRow.holds Try.pinned (OpenSpec.ofChange maxpFormsSpec)

/-- ITS FALSE NEIGHBOUR: 'it returns false'. Refute it at one input. -/
def maxpFormsWrong : ChangeSpec := { name := "maxpForms", fn := fun _ => fun
  | [d] => { results := [.lit (.bool false)], args := [d] }
  | _ => none }
def MaxpFormsWrongFalsely : Prop := maxpFormsRow.holds Try.pinned (OpenSpec.ofChange maxpFormsWrong)

/-- 'punchcutlaw06.MaxpParses': WHATEVER THE INPUT: true; the input reads as it did. -/
def maxpParsesSpec : ChangeSpec := { name := "maxpParses", fn := fun _ => fun
  | [d] => { results := [.lit (.bool true)], args := [d] }
  | _ => none }
def maxpParsesRow : OpenClaim := { program := "ytfdjgangahlepaa", sum := "6f732dac9978ce86ea454da8a9e9b7e6ecc0e44b048038cc0e9f884bd7cceb3a", func := "punchcut/punchcutlaw06.MaxpParses", spec := "maxpParses", apart := false }
def MaxpParsesSaid : Prop := maxpParsesRow.holds Try.pinned (OpenSpec.ofChange maxpParsesSpec)

/-- ITS FALSE NEIGHBOUR: 'it returns false'. Refute it at one input. -/
def maxpParsesWrong : ChangeSpec := { name := "maxpParses", fn := fun _ => fun
  | [d] => { results := [.lit (.bool false)], args := [d] }
  | _ => none }
def MaxpParsesWrongFalsely : Prop := maxpParsesRow.holds Try.pinned (OpenSpec.ofChange maxpParsesWrong)

/-- 'punchcutlaw06.MaxpBends': WHATEVER THE INPUT: true; the input reads as it did. -/
def maxpBendsSpec : ChangeSpec := { name := "maxpBends", fn := fun _ => fun
  | [d1, d2, d3] => { results := [.lit (.bool true)], args := [d1, d2, d3] }
  | _ => none }
def maxpBendsRow : OpenClaim := { program := "ytfdjgangahlepaa", sum := "6f732dac9978ce86ea454da8a9e9b7e6ecc0e44b048038cc0e9f884bd7cceb3a", func := "punchcut/punchcutlaw06.MaxpBends", spec := "maxpBends", apart := false }
def MaxpBendsSaid : Prop := maxpBendsRow.holds Try.pinned (OpenSpec.ofChange maxpBendsSpec)

/-- ITS FALSE NEIGHBOUR: 'it returns false'. Refute it at one input. -/
def maxpBendsWrong : ChangeSpec := { name := "maxpBends", fn := fun _ => fun
  | [d1, d2, d3] => { results := [.lit (.bool false)], args := [d1, d2, d3] }
  | _ => none }
def MaxpBendsWrongFalsely : Prop := maxpBendsRow.holds Try.pinned (OpenSpec.ofChange maxpBendsWrong)

/- THE SECOND FORM. 'bulk': how many values and letters a reading holds, each counted each time it is reached (what is shared counts as often as it is met; a slice's spare places count too). A statement '..UptoSaid' is the law's where the arguments, and the package variables that the reading takes, are together of bulk at most 1048576: NARROWER than '..Said'. Prove '..Said' where nothing that the law and all that it calls make is longer than what came in: it says more and counts as full. Else prove '..UptoSaid'. A law counts once. -/
mutual
def uptoBulk {H : Type} : DataW H → Nat
  | .lit (.string bytes) => bytes.length + 1
  | .lit _ => 1
  | .nil => 1
  | .ptr d => uptoBulk d + 1
  | .slice elems spare => uptoBulkAll elems + uptoBulkAll spare + 1
  | .agg parts => uptoBulkAll parts + 1
  | .iface _ d => uptoBulk d + 1
  | .map entries => uptoBulkEntries entries + 1
  | .held _ => 1
def uptoBulkAll {H : Type} : List (DataW H) → Nat
  | [] => 0
  | d :: r => uptoBulk d + uptoBulkAll r
def uptoBulkEntries {H : Type} : List (Lit × DataW H) → Nat
  | [] => 0
  | x :: r => uptoBulkEntry x + uptoBulkEntries r
def uptoBulkEntry {H : Type} : Lit × DataW H → Nat
  | (.string bytes, d) => bytes.length + uptoBulk d + 1
  | (_, d) => uptoBulk d + 1
 end
def uptoSmall : (H : Type) → List (DataW H) → Bool := fun _ ds => decide (uptoBulkAll ds ≤ 1048576)
def OpenSpec.upto (s : _root_.Go.ChangeSpec) : _root_.Go.OpenSpec := { _root_.Go.OpenSpec.ofChange s with cond := some uptoSmall }

/-- 'punchcutlaw06.MaxpWiths', WHERE WHAT IT READS IS OF BULK AT MOST 1048576: true; the input reads as it did. -/
def maxpWithsUptoRow : OpenClaim := { program := "ytfdjgangahlepaa", sum := "6f732dac9978ce86ea454da8a9e9b7e6ecc0e44b048038cc0e9f884bd7cceb3a", func := "punchcut/punchcutlaw06.MaxpWiths", spec := "maxpWiths", apart := false, narrowed := true }
def MaxpWithsUptoSaid : Prop := maxpWithsUptoRow.holds Try.pinned (OpenSpec.upto maxpWithsSpec)

/-- 'punchcutlaw06.MaxpForms', WHERE WHAT IT READS IS OF BULK AT MOST 1048576: true; the input reads as it did. -/
def maxpFormsUptoRow : OpenClaim := { program := "ytfdjgangahlepaa", sum := "6f732dac9978ce86ea454da8a9e9b7e6ecc0e44b048038cc0e9f884bd7cceb3a", func := "punchcut/punchcutlaw06.MaxpForms", spec := "maxpForms", apart := false, narrowed := true }
def MaxpFormsUptoSaid : Prop := maxpFormsUptoRow.holds Try.pinned (OpenSpec.upto maxpFormsSpec)

/-- 'punchcutlaw06.MaxpParses', WHERE WHAT IT READS IS OF BULK AT MOST 1048576: true; the input reads as it did. -/
def maxpParsesUptoRow : OpenClaim := { program := "ytfdjgangahlepaa", sum := "6f732dac9978ce86ea454da8a9e9b7e6ecc0e44b048038cc0e9f884bd7cceb3a", func := "punchcut/punchcutlaw06.MaxpParses", spec := "maxpParses", apart := false, narrowed := true }
def MaxpParsesUptoSaid : Prop := maxpParsesUptoRow.holds Try.pinned (OpenSpec.upto maxpParsesSpec)

/-- 'punchcutlaw06.MaxpBends', WHERE WHAT IT READS IS OF BULK AT MOST 1048576: true; the input reads as it did. -/
def maxpBendsUptoRow : OpenClaim := { program := "ytfdjgangahlepaa", sum := "6f732dac9978ce86ea454da8a9e9b7e6ecc0e44b048038cc0e9f884bd7cceb3a", func := "punchcut/punchcutlaw06.MaxpBends", spec := "maxpBends", apart := false, narrowed := true }
def MaxpBendsUptoSaid : Prop := maxpBendsUptoRow.holds Try.pinned (OpenSpec.upto maxpBendsSpec)

end Rows
end Go.Proofs.Ytfdjgangahlepaa
