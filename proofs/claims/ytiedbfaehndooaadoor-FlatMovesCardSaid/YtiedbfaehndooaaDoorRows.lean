/-
  NARROWER THAN 'FOR EVERY INPUT', by the rows' own cells (each row's printed sentence says how): FlatDeep: laid · FlatCycles: laid · FlatMet: laid · FlatOver: laid · FlatMoves: laid.
  DERIVED. THE GIVEN ROWS OF THIS SEAT. 5 by the template 'for every input the law returns true; each argument reads behind the call as it read before'; 0 by the template 'total and deterministic' (their statements: YtiedbfaehndooaaDoorTotals.lean).
  GIVEN WITH THE SEED: the statements are not yours to turn. If you find one false, say at which input.
  Laid BY PROGRAM, IN A SANDBOX (cutbox-rows.mjs): the forced cells as the released guide's own fill.sh prints them over the translation 45b340fef7f7bcee… (all of the seat's roots in one cut). By AI agents, Wed Nov 11 2026. No macro, syntax, notation, axiom, sorry.
-/
import Derived.Test.YtiedbfaehndooaaDoorChecked
import GoSem.PinnedTables
import GoSem.Claim
import GoSem.ClaimJoined
import GoSem.ClaimMapViews
import Derived.JoinedTies
import Derived.KernelRfl
namespace Go.Proofs.YtiedbfaehndooaaDoor
/- THE CELL 'sum', in the pinned program and in every row, IS THE sha256 OF THE DUMP (.gsa) THAT YtiedbfaehndooaaDoorProg.lean LOADS. Nothing in Lean hashes anything: it is a label: what it is worth is what the hold of that sum in a sandbox is worth. -/
noncomputable def Tryd.pinned : Pinned := { name := "ytiedbfaehndooaadoor", sum := "45b340fef7f7bcee2e2544bb9fda189e797ee0d3e1250fc5c9f2aa95df43551c", checked := Tryd.checked }
namespace Rows
def none {H : Type} : Left H := { results := [], args := [] }

/- WHAT THE LISTED PACKAGE-LEVEL VARIABLES READ AS WHEN THE CALL BEGINS. Each datum BY PROGRAM (the guide's laid-datum.mjs) off the statement by which the dump's own 'gosem.cut.vars' lays the variable. In a bare row this is a premise. The card (YtiedbfaehndooaaDoorCards.lean) ties it to the program's text. -/
def laid_unicode_utf8_acceptRanges {H : Type} : DataW H := .agg [.agg [.lit (.int .u8 128), .lit (.int .u8 191)], .agg [.lit (.int .u8 160), .lit (.int .u8 191)], .agg [.lit (.int .u8 128), .lit (.int .u8 159)], .agg [.lit (.int .u8 144), .lit (.int .u8 191)], .agg [.lit (.int .u8 128), .lit (.int .u8 143)], .agg [.lit (.int .u8 0), .lit (.int .u8 0)], .agg [.lit (.int .u8 0), .lit (.int .u8 0)], .agg [.lit (.int .u8 0), .lit (.int .u8 0)], .agg [.lit (.int .u8 0), .lit (.int .u8 0)], .agg [.lit (.int .u8 0), .lit (.int .u8 0)], .agg [.lit (.int .u8 0), .lit (.int .u8 0)], .agg [.lit (.int .u8 0), .lit (.int .u8 0)], .agg [.lit (.int .u8 0), .lit (.int .u8 0)], .agg [.lit (.int .u8 0), .lit (.int .u8 0)], .agg [.lit (.int .u8 0), .lit (.int .u8 0)], .agg [.lit (.int .u8 0), .lit (.int .u8 0)]]
/-- One of Go's own tables, pinned by name: the form's constant. -/
def laid_unicode_utf8_first : DataW Unit := Go.Pinned.utf8First

/-- 'punchcutlaw14.FlatDeep': WHATEVER THE INPUT: true; the input reads as it did. -/
def flatDeepSpec : ChangeSpec := { name := "flatDeep", fn := fun _ => fun
  | [d] => { results := [.lit (.bool true)], args := [d] }
  | _ => none }
def flatDeepRow : OpenClaim := { program := "ytiedbfaehndooaadoor", sum := "45b340fef7f7bcee2e2544bb9fda189e797ee0d3e1250fc5c9f2aa95df43551c", func := "punchcut/punchcutlaw14.FlatDeep", spec := "flatDeep", inPlace := ["internal/bytealg.MakeNoZero"], unfollowed := true, recurses := true, named := ["unicode/utf8.first", "unicode/utf8.acceptRanges"], apart := false, laid := [("unicode/utf8.acceptRanges", laid_unicode_utf8_acceptRanges), ("unicode/utf8.first", laid_unicode_utf8_first)] }
def FlatDeepSaid : Prop := flatDeepRow.holds Tryd.pinned (OpenSpec.ofChange flatDeepSpec)

/-- ITS FALSE NEIGHBOUR: 'it returns false'. Refute it at one input. -/
def flatDeepWrong : ChangeSpec := { name := "flatDeep", fn := fun _ => fun
  | [d] => { results := [.lit (.bool false)], args := [d] }
  | _ => none }
def FlatDeepWrongFalsely : Prop := flatDeepRow.holds Tryd.pinned (OpenSpec.ofChange flatDeepWrong)

/-- 'punchcutlaw14.FlatCycles': WHATEVER THE INPUT: true; the input reads as it did. -/
def flatCyclesSpec : ChangeSpec := { name := "flatCycles", fn := fun _ => fun
  | [d1, d2, d3] => { results := [.lit (.bool true)], args := [d1, d2, d3] }
  | _ => none }
def flatCyclesRow : OpenClaim := { program := "ytiedbfaehndooaadoor", sum := "45b340fef7f7bcee2e2544bb9fda189e797ee0d3e1250fc5c9f2aa95df43551c", func := "punchcut/punchcutlaw14.FlatCycles", spec := "flatCycles", inPlace := ["internal/bytealg.MakeNoZero"], unfollowed := true, recurses := true, named := ["unicode/utf8.first", "unicode/utf8.acceptRanges"], apart := false, laid := [("unicode/utf8.acceptRanges", laid_unicode_utf8_acceptRanges), ("unicode/utf8.first", laid_unicode_utf8_first)] }
def FlatCyclesSaid : Prop := flatCyclesRow.holds Tryd.pinned (OpenSpec.ofChange flatCyclesSpec)

/-- ITS FALSE NEIGHBOUR: 'it returns false'. Refute it at one input. -/
def flatCyclesWrong : ChangeSpec := { name := "flatCycles", fn := fun _ => fun
  | [d1, d2, d3] => { results := [.lit (.bool false)], args := [d1, d2, d3] }
  | _ => none }
def FlatCyclesWrongFalsely : Prop := flatCyclesRow.holds Tryd.pinned (OpenSpec.ofChange flatCyclesWrong)

/-- 'punchcutlaw14.FlatMet': WHATEVER THE INPUT: true; the input reads as it did. -/
def flatMetSpec : ChangeSpec := { name := "flatMet", fn := fun _ => fun
  | [d1, d2] => { results := [.lit (.bool true)], args := [d1, d2] }
  | _ => none }
def flatMetRow : OpenClaim := { program := "ytiedbfaehndooaadoor", sum := "45b340fef7f7bcee2e2544bb9fda189e797ee0d3e1250fc5c9f2aa95df43551c", func := "punchcut/punchcutlaw14.FlatMet", spec := "flatMet", inPlace := ["internal/bytealg.MakeNoZero"], unfollowed := true, recurses := true, named := ["unicode/utf8.first", "unicode/utf8.acceptRanges"], apart := false, laid := [("unicode/utf8.acceptRanges", laid_unicode_utf8_acceptRanges), ("unicode/utf8.first", laid_unicode_utf8_first)] }
def FlatMetSaid : Prop := flatMetRow.holds Tryd.pinned (OpenSpec.ofChange flatMetSpec)

/-- ITS FALSE NEIGHBOUR: 'it returns false'. Refute it at one input. -/
def flatMetWrong : ChangeSpec := { name := "flatMet", fn := fun _ => fun
  | [d1, d2] => { results := [.lit (.bool false)], args := [d1, d2] }
  | _ => none }
def FlatMetWrongFalsely : Prop := flatMetRow.holds Tryd.pinned (OpenSpec.ofChange flatMetWrong)

/-- 'punchcutlaw14.FlatOver': WHATEVER THE INPUT: true; the input reads as it did. -/
def flatOverSpec : ChangeSpec := { name := "flatOver", fn := fun _ => fun
  | [d1, d2] => { results := [.lit (.bool true)], args := [d1, d2] }
  | _ => none }
def flatOverRow : OpenClaim := { program := "ytiedbfaehndooaadoor", sum := "45b340fef7f7bcee2e2544bb9fda189e797ee0d3e1250fc5c9f2aa95df43551c", func := "punchcut/punchcutlaw14.FlatOver", spec := "flatOver", inPlace := ["internal/bytealg.MakeNoZero"], unfollowed := true, recurses := true, named := ["unicode/utf8.first", "unicode/utf8.acceptRanges"], apart := false, laid := [("unicode/utf8.acceptRanges", laid_unicode_utf8_acceptRanges), ("unicode/utf8.first", laid_unicode_utf8_first)] }
def FlatOverSaid : Prop := flatOverRow.holds Tryd.pinned (OpenSpec.ofChange flatOverSpec)

/-- ITS FALSE NEIGHBOUR: 'it returns false'. Refute it at one input. -/
def flatOverWrong : ChangeSpec := { name := "flatOver", fn := fun _ => fun
  | [d1, d2] => { results := [.lit (.bool false)], args := [d1, d2] }
  | _ => none }
def FlatOverWrongFalsely : Prop := flatOverRow.holds Tryd.pinned (OpenSpec.ofChange flatOverWrong)

/-- 'punchcutlaw14.FlatMoves': WHATEVER THE INPUT: true; the input reads as it did. -/
def flatMovesSpec : ChangeSpec := { name := "flatMoves", fn := fun _ => fun
  | [d1, d2, d3, d4] => { results := [.lit (.bool true)], args := [d1, d2, d3, d4] }
  | _ => none }
def flatMovesRow : OpenClaim := { program := "ytiedbfaehndooaadoor", sum := "45b340fef7f7bcee2e2544bb9fda189e797ee0d3e1250fc5c9f2aa95df43551c", func := "punchcut/punchcutlaw14.FlatMoves", spec := "flatMoves", inPlace := ["internal/bytealg.MakeNoZero"], unfollowed := true, recurses := true, named := ["unicode/utf8.first", "unicode/utf8.acceptRanges"], apart := false, laid := [("unicode/utf8.acceptRanges", laid_unicode_utf8_acceptRanges), ("unicode/utf8.first", laid_unicode_utf8_first)] }
def FlatMovesSaid : Prop := flatMovesRow.holds Tryd.pinned (OpenSpec.ofChange flatMovesSpec)

/-- ITS FALSE NEIGHBOUR: 'it returns false'. Refute it at one input. -/
def flatMovesWrong : ChangeSpec := { name := "flatMoves", fn := fun _ => fun
  | [d1, d2, d3, d4] => { results := [.lit (.bool false)], args := [d1, d2, d3, d4] }
  | _ => none }
def FlatMovesWrongFalsely : Prop := flatMovesRow.holds Tryd.pinned (OpenSpec.ofChange flatMovesWrong)

/- THE SECOND FORM. 'bulk': how many values and letters a reading holds, each counted each time it is reached (what is shared counts as often as it is met; a slice's spare places count too). A statement '..UptoSaid' is the law's where the arguments, and the package variables that the reading takes, are together of bulk at most 1048576: NARROWER than '..Said'. Prove '..Said' where nothing that the law and all that it calls make is longer than what came in: it says more and counts as full. Else prove '..UptoSaid'. A law counts once. -/
mutual
def uptoBulk {H : Type} : DataW H → Nat
  | .lit (.string bytes) => bytes.length + 1
  | .lit _ => 1
  | .nil => 1
  | .ptr d => uptoBulk d + 1
  | .slice elems spare => uptoBulkAll elems + uptoBulkAll spare + 1
  | .agg parts => uptoBulkAll parts + 1
  | .iface _ d => uptoBulk d + 1
  | .map entries => uptoBulkEntries entries + 1
  | .held _ => 1
def uptoBulkAll {H : Type} : List (DataW H) → Nat
  | [] => 0
  | d :: r => uptoBulk d + uptoBulkAll r
def uptoBulkEntries {H : Type} : List (Lit × DataW H) → Nat
  | [] => 0
  | x :: r => uptoBulkEntry x + uptoBulkEntries r
def uptoBulkEntry {H : Type} : Lit × DataW H → Nat
  | (.string bytes, d) => bytes.length + uptoBulk d + 1
  | (_, d) => uptoBulk d + 1
 end
def uptoSmall : (H : Type) → List (DataW H) → Bool := fun _ ds => decide (uptoBulkAll ds ≤ 1048576)
def OpenSpec.upto (s : _root_.Go.ChangeSpec) : _root_.Go.OpenSpec := { _root_.Go.OpenSpec.ofChange s with cond := some uptoSmall }

/-- 'punchcutlaw14.FlatDeep', WHERE WHAT IT READS IS OF BULK AT MOST 1048576: true; the input reads as it did. -/
def flatDeepUptoRow : OpenClaim := { program := "ytiedbfaehndooaadoor", sum := "45b340fef7f7bcee2e2544bb9fda189e797ee0d3e1250fc5c9f2aa95df43551c", func := "punchcut/punchcutlaw14.FlatDeep", spec := "flatDeep", inPlace := ["internal/bytealg.MakeNoZero"], unfollowed := true, recurses := true, named := ["unicode/utf8.first", "unicode/utf8.acceptRanges"], apart := false, laid := [("unicode/utf8.acceptRanges", laid_unicode_utf8_acceptRanges), ("unicode/utf8.first", laid_unicode_utf8_first)], narrowed := true }
def FlatDeepUptoSaid : Prop := flatDeepUptoRow.holds Tryd.pinned (OpenSpec.upto flatDeepSpec)

/-- 'punchcutlaw14.FlatCycles', WHERE WHAT IT READS IS OF BULK AT MOST 1048576: true; the input reads as it did. -/
def flatCyclesUptoRow : OpenClaim := { program := "ytiedbfaehndooaadoor", sum := "45b340fef7f7bcee2e2544bb9fda189e797ee0d3e1250fc5c9f2aa95df43551c", func := "punchcut/punchcutlaw14.FlatCycles", spec := "flatCycles", inPlace := ["internal/bytealg.MakeNoZero"], unfollowed := true, recurses := true, named := ["unicode/utf8.first", "unicode/utf8.acceptRanges"], apart := false, laid := [("unicode/utf8.acceptRanges", laid_unicode_utf8_acceptRanges), ("unicode/utf8.first", laid_unicode_utf8_first)], narrowed := true }
def FlatCyclesUptoSaid : Prop := flatCyclesUptoRow.holds Tryd.pinned (OpenSpec.upto flatCyclesSpec)

/-- 'punchcutlaw14.FlatMet', WHERE WHAT IT READS IS OF BULK AT MOST 1048576: true; the input reads as it did. -/
def flatMetUptoRow : OpenClaim := { program := "ytiedbfaehndooaadoor", sum := "45b340fef7f7bcee2e2544bb9fda189e797ee0d3e1250fc5c9f2aa95df43551c", func := "punchcut/punchcutlaw14.FlatMet", spec := "flatMet", inPlace := ["internal/bytealg.MakeNoZero"], unfollowed := true, recurses := true, named := ["unicode/utf8.first", "unicode/utf8.acceptRanges"], apart := false, laid := [("unicode/utf8.acceptRanges", laid_unicode_utf8_acceptRanges), ("unicode/utf8.first", laid_unicode_utf8_first)], narrowed := true }
def FlatMetUptoSaid : Prop := flatMetUptoRow.holds Tryd.pinned (OpenSpec.upto flatMetSpec)

/-- 'punchcutlaw14.FlatOver', WHERE WHAT IT READS IS OF BULK AT MOST 1048576: true; the input reads as it did. -/
def flatOverUptoRow : OpenClaim := { program := "ytiedbfaehndooaadoor", sum := "45b340fef7f7bcee2e2544bb9fda189e797ee0d3e1250fc5c9f2aa95df43551c", func := "punchcut/punchcutlaw14.FlatOver", spec := "flatOver", inPlace := ["internal/bytealg.MakeNoZero"], unfollowed := true, recurses := true, named := ["unicode/utf8.first", "unicode/utf8.acceptRanges"], apart := false, laid := [("unicode/utf8.acceptRanges", laid_unicode_utf8_acceptRanges), ("unicode/utf8.first", laid_unicode_utf8_first)], narrowed := true }
def FlatOverUptoSaid : Prop := flatOverUptoRow.holds Tryd.pinned (OpenSpec.upto flatOverSpec)

/-- 'punchcutlaw14.FlatMoves', WHERE WHAT IT READS IS OF BULK AT MOST 1048576: true; the input reads as it did. -/
def flatMovesUptoRow : OpenClaim := { program := "ytiedbfaehndooaadoor", sum := "45b340fef7f7bcee2e2544bb9fda189e797ee0d3e1250fc5c9f2aa95df43551c", func := "punchcut/punchcutlaw14.FlatMoves", spec := "flatMoves", inPlace := ["internal/bytealg.MakeNoZero"], unfollowed := true, recurses := true, named := ["unicode/utf8.first", "unicode/utf8.acceptRanges"], apart := false, laid := [("unicode/utf8.acceptRanges", laid_unicode_utf8_acceptRanges), ("unicode/utf8.first", laid_unicode_utf8_first)], narrowed := true }
def FlatMovesUptoSaid : Prop := flatMovesUptoRow.holds Tryd.pinned (OpenSpec.upto flatMovesSpec)

end Rows
end Go.Proofs.YtiedbfaehndooaaDoor
