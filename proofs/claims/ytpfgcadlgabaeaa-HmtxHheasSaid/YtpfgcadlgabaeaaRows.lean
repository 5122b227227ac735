/-
  No cell of these rows narrows 'for every input' (looked for: loops, veiled, ifaces, maps, wideKeys, modest, calm, conditions, laid).
  DERIVED. THE GIVEN ROWS OF THIS SEAT. 5 by the template 'for every input the law returns true; each argument reads behind the call as it read before'; 0 by the template 'total and deterministic' (their statements: YtpfgcadlgabaeaaTotals.lean).
  GIVEN WITH THE SEED: the statements are not yours to turn. If you find one false, say at which input.
  Laid BY PROGRAM, IN A SANDBOX (cutbox-rows.mjs): the forced cells as the released guide's own fill.sh prints them over the translation bfe4390f42a4ba20… (all of the seat's roots in one cut). By AI agents, Wed Nov 11 2026. No macro, syntax, notation, axiom, sorry.
-/
import Derived.Test.YtpfgcadlgabaeaaChecked
import GoSem.Claim
import GoSem.ClaimJoined
import GoSem.ClaimMapViews
import Derived.JoinedTies
import Derived.KernelRfl
namespace Go.Proofs.Ytpfgcadlgabaeaa
/- THE CELL 'sum', in the pinned program and in every row, IS THE sha256 OF THE DUMP (.gsa) THAT YtpfgcadlgabaeaaProg.lean LOADS. Nothing in Lean hashes anything: it is a label: what it is worth is what the hold of that sum in a sandbox is worth. -/
noncomputable def Try.pinned : Pinned := { name := "ytpfgcadlgabaeaa", sum := "bfe4390f42a4ba2070047eacb4029adada1d24f67f891efb39ab5419683bc012", checked := Try.checked }
namespace Rows
def none {H : Type} : Left H := { results := [], args := [] }

/-- 'punchcutlaw07.HmtxLongs': WHATEVER THE INPUT: true; the input reads as it did. -/
def hmtxLongsSpec : ChangeSpec := { name := "hmtxLongs", fn := fun _ => fun
  | [d] => { results := [.lit (.bool true)], args := [d] }
  | _ => none }
def hmtxLongsRow : OpenClaim := { program := "ytpfgcadlgabaeaa", sum := "bfe4390f42a4ba2070047eacb4029adada1d24f67f891efb39ab5419683bc012", func := "punchcut/punchcutlaw07.HmtxLongs", spec := "hmtxLongs", apart := false }
def HmtxLongsSaid : Prop := hmtxLongsRow.holds Try.pinned (OpenSpec.ofChange hmtxLongsSpec)

/-- ITS FALSE NEIGHBOUR: 'it returns false'. Refute it at one input. -/
def hmtxLongsWrong : ChangeSpec := { name := "hmtxLongs", fn := fun _ => fun
  | [d] => { results := [.lit (.bool false)], args := [d] }
  | _ => none }
def HmtxLongsWrongFalsely : Prop := hmtxLongsRow.holds Try.pinned (OpenSpec.ofChange hmtxLongsWrong)

/-- 'punchcutlaw07.HmtxHheas': WHATEVER THE INPUT: true; the input reads as it did. -/
def hmtxHheasSpec : ChangeSpec := { name := "hmtxHheas", fn := fun _ => fun
  | [d1, d2, d3, d4] => { results := [.lit (.bool true)], args := [d1, d2, d3, d4] }
  | _ => none }
def hmtxHheasRow : OpenClaim := { program := "ytpfgcadlgabaeaa", sum := "bfe4390f42a4ba2070047eacb4029adada1d24f67f891efb39ab5419683bc012", func := "punchcut/punchcutlaw07.HmtxHheas", spec := "hmtxHheas", apart := false }
def HmtxHheasSaid : Prop := hmtxHheasRow.holds Try.pinned (OpenSpec.ofChange hmtxHheasSpec)

/-- ITS FALSE NEIGHBOUR: 'it returns false'. Refute it at one input. -/
def hmtxHheasWrong : ChangeSpec := { name := "hmtxHheas", fn := fun _ => fun
  | [d1, d2, d3, d4] => { results := [.lit (.bool false)], args := [d1, d2, d3, d4] }
  | _ => none }
def HmtxHheasWrongFalsely : Prop := hmtxHheasRow.holds Try.pinned (OpenSpec.ofChange hmtxHheasWrong)

/-- 'punchcutlaw07.HmtxBuilds': WHATEVER THE INPUT: true; the input reads as it did. -/
def hmtxBuildsSpec : ChangeSpec := { name := "hmtxBuilds", fn := fun _ => fun
  | [d] => { results := [.lit (.bool true)], args := [d] }
  | _ => none }
def hmtxBuildsRow : OpenClaim := { program := "ytpfgcadlgabaeaa", sum := "bfe4390f42a4ba2070047eacb4029adada1d24f67f891efb39ab5419683bc012", func := "punchcut/punchcutlaw07.HmtxBuilds", spec := "hmtxBuilds", apart := false }
def HmtxBuildsSaid : Prop := hmtxBuildsRow.holds Try.pinned (OpenSpec.ofChange hmtxBuildsSpec)

/-- ITS FALSE NEIGHBOUR: 'it returns false'. Refute it at one input. -/
def hmtxBuildsWrong : ChangeSpec := { name := "hmtxBuilds", fn := fun _ => fun
  | [d] => { results := [.lit (.bool false)], args := [d] }
  | _ => none }
def HmtxBuildsWrongFalsely : Prop := hmtxBuildsRow.holds Try.pinned (OpenSpec.ofChange hmtxBuildsWrong)

/-- 'punchcutlaw07.HmtxParses': WHATEVER THE INPUT: true; the input reads as it did. -/
def hmtxParsesSpec : ChangeSpec := { name := "hmtxParses", fn := fun _ => fun
  | [d1, d2, d3] => { results := [.lit (.bool true)], args := [d1, d2, d3] }
  | _ => none }
def hmtxParsesRow : OpenClaim := { program := "ytpfgcadlgabaeaa", sum := "bfe4390f42a4ba2070047eacb4029adada1d24f67f891efb39ab5419683bc012", func := "punchcut/punchcutlaw07.HmtxParses", spec := "hmtxParses", apart := false }
def HmtxParsesSaid : Prop := hmtxParsesRow.holds Try.pinned (OpenSpec.ofChange hmtxParsesSpec)

/-- ITS FALSE NEIGHBOUR: 'it returns false'. Refute it at one input. -/
def hmtxParsesWrong : ChangeSpec := { name := "hmtxParses", fn := fun _ => fun
  | [d1, d2, d3] => { results := [.lit (.bool false)], args := [d1, d2, d3] }
  | _ => none }
def HmtxParsesWrongFalsely : Prop := hmtxParsesRow.holds Try.pinned (OpenSpec.ofChange hmtxParsesWrong)

/-- 'punchcutlaw07.HmtxTrails': WHATEVER THE INPUT: true; the input reads as it did. -/
def hmtxTrailsSpec : ChangeSpec := { name := "hmtxTrails", fn := fun _ => fun
  | [d1, d2] => { results := [.lit (.bool true)], args := [d1, d2] }
  | _ => none }
def hmtxTrailsRow : OpenClaim := { program := "ytpfgcadlgabaeaa", sum := "bfe4390f42a4ba2070047eacb4029adada1d24f67f891efb39ab5419683bc012", func := "punchcut/punchcutlaw07.HmtxTrails", spec := "hmtxTrails", apart := false }
def HmtxTrailsSaid : Prop := hmtxTrailsRow.holds Try.pinned (OpenSpec.ofChange hmtxTrailsSpec)

/-- ITS FALSE NEIGHBOUR: 'it returns false'. Refute it at one input. -/
def hmtxTrailsWrong : ChangeSpec := { name := "hmtxTrails", fn := fun _ => fun
  | [d1, d2] => { results := [.lit (.bool false)], args := [d1, d2] }
  | _ => none }
def HmtxTrailsWrongFalsely : Prop := hmtxTrailsRow.holds Try.pinned (OpenSpec.ofChange hmtxTrailsWrong)

/- THE SECOND FORM. 'bulk': how many values and letters a reading holds, each counted each time it is reached (what is shared counts as often as it is met; a slice's spare places count too). A statement '..UptoSaid' is the law's where the arguments, and the package variables that the reading takes, are together of bulk at most 1048576: NARROWER than '..Said'. Prove '..Said' where nothing that the law and all that it calls make is longer than what came in: it says more and counts as full. Else prove '..UptoSaid'. A law counts once. -/
mutual
def uptoBulk {H : Type} : DataW H → Nat
  | .lit (.string bytes) => bytes.length + 1
  | .lit _ => 1
  | .nil => 1
  | .ptr d => uptoBulk d + 1
  | .slice elems spare => uptoBulkAll elems + uptoBulkAll spare + 1
  | .agg parts => uptoBulkAll parts + 1
  | .iface _ d => uptoBulk d + 1
  | .map entries => uptoBulkEntries entries + 1
  | .held _ => 1
def uptoBulkAll {H : Type} : List (DataW H) → Nat
  | [] => 0
  | d :: r => uptoBulk d + uptoBulkAll r
def uptoBulkEntries {H : Type} : List (Lit × DataW H) → Nat
  | [] => 0
  | x :: r => uptoBulkEntry x + uptoBulkEntries r
def uptoBulkEntry {H : Type} : Lit × DataW H → Nat
  | (.string bytes, d) => bytes.length + uptoBulk d + 1
  | (_, d) => uptoBulk d + 1
 end
def uptoSmall : (H : Type) → List (DataW H) → Bool := fun _ ds => decide (uptoBulkAll ds ≤ 1048576)
def OpenSpec.upto (s : _root_.Go.ChangeSpec) : _root_.Go.OpenSpec := { _root_.Go.OpenSpec.ofChange s with cond := some uptoSmall }

/-- 'punchcutlaw07.HmtxLongs', WHERE WHAT IT READS IS OF BULK AT MOST 1048576: true; the input reads as it did. -/
def hmtxLongsUptoRow : OpenClaim := { program := "ytpfgcadlgabaeaa", sum := "bfe4390f42a4ba2070047eacb4029adada1d24f67f891efb39ab5419683bc012", func := "punchcut/punchcutlaw07.HmtxLongs", spec := "hmtxLongs", apart := false, narrowed := true }
def HmtxLongsUptoSaid : Prop := hmtxLongsUptoRow.holds Try.pinned (OpenSpec.upto hmtxLongsSpec)

/-- 'punchcutlaw07.HmtxHheas', WHERE WHAT IT READS IS OF BULK AT MOST 1048576: true; the input reads as it did. -/
def hmtxHheasUptoRow : OpenClaim := { program := "ytpfgcadlgabaeaa", sum := "bfe4390f42a4ba2070047eacb4029adada1d24f67f891efb39ab5419683bc012", func := "punchcut/punchcutlaw07.HmtxHheas", spec := "hmtxHheas", apart := false, narrowed := true }
def HmtxHheasUptoSaid : Prop := hmtxHheasUptoRow.holds Try.pinned (OpenSpec.upto hmtxHheasSpec)

/-- 'punchcutlaw07.HmtxBuilds', WHERE WHAT IT READS IS OF BULK AT MOST 1048576: true; the input reads as it did. -/
def hmtxBuildsUptoRow : OpenClaim := { program := "ytpfgcadlgabaeaa", sum := "bfe4390f42a4ba2070047eacb4029adada1d24f67f891efb39ab5419683bc012", func := "punchcut/punchcutlaw07.HmtxBuilds", spec := "hmtxBuilds", apart := false, narrowed := true }
def HmtxBuildsUptoSaid : Prop := hmtxBuildsUptoRow.holds Try.pinned (OpenSpec.upto hmtxBuildsSpec)

/-- 'punchcutlaw07.HmtxParses', WHERE WHAT IT READS IS OF BULK AT MOST 1048576: true; the input reads as it did. -/
def hmtxParsesUptoRow : OpenClaim := { program := "ytpfgcadlgabaeaa", sum := "bfe4390f42a4ba2070047eacb4029adada1d24f67f891efb39ab5419683bc012", func := "punchcut/punchcutlaw07.HmtxParses", spec := "hmtxParses", apart := false, narrowed := true }
def HmtxParsesUptoSaid : Prop := hmtxParsesUptoRow.holds Try.pinned (OpenSpec.upto hmtxParsesSpec)

/-- 'punchcutlaw07.HmtxTrails', WHERE WHAT IT READS IS OF BULK AT MOST 1048576: true; the input reads as it did. -/
def hmtxTrailsUptoRow : OpenClaim := { program := "ytpfgcadlgabaeaa", sum := "bfe4390f42a4ba2070047eacb4029adada1d24f67f891efb39ab5419683bc012", func := "punchcut/punchcutlaw07.HmtxTrails", spec := "hmtxTrails", apart := false, narrowed := true }
def HmtxTrailsUptoSaid : Prop := hmtxTrailsUptoRow.holds Try.pinned (OpenSpec.upto hmtxTrailsSpec)

end Rows
end Go.Proofs.Ytpfgcadlgabaeaa
