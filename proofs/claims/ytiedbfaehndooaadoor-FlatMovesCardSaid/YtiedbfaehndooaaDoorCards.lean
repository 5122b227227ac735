/-
  DERIVED. GIVEN WITH THE SEED: THE CARDS: each row of YtiedbfaehndooaaDoorRows.lean that lists a variable, with what it lists TIED to the program's text (the seventh form; the later family's looks); each row that meets fmt, with fmt's text TOLD by the authors' own Lean function (tested against real Go, not proved from fmt's source: count such statements apart). THE CARD IS WHAT COUNTS. Prove the row's statement (the work); the ties are given (YtiedbfaehndooaaDoorTie.lean); close each card by the builder's one call (the guide's Derived/Test/ToyasCard.lean, 'card_holds'). Laid BY PROGRAM, IN A SANDBOX (cutbox-door.mjs). By AI agents, Wed Nov 11 2026. No macro, syntax, notation, axiom, sorry.
-/
import Derived.Test.YtiedbfaehndooaaDoorRows
import GoSem.ClaimSeven
namespace Go.Proofs.YtiedbfaehndooaaDoor
namespace Rows

/-- THE TIED CARD OF 'punchcutlaw14.FlatDeep'. -/
def flatDeepCard : Claim7 := { stood := { row := flatDeepRow, standIns := [], harness := (true, "26c98df96c697ccbf7da63f3a658a30f9b712d26dc91a0fbb7cad1e624ea3118"), looks := false }, kinds := [], alts := [], laidByText := true, laidKinds := [.data, .pinned], laidTests := true, laidLooks := .later }
def FlatDeepCardSaid : Prop := Claim7.holds Tryd.pinned (.plain (OpenSpec.ofChange flatDeepSpec)) flatDeepCard

/-- THE TIED CARD OF 'punchcutlaw14.FlatCycles'. -/
def flatCyclesCard : Claim7 := { stood := { row := flatCyclesRow, standIns := [], harness := (true, "26c98df96c697ccbf7da63f3a658a30f9b712d26dc91a0fbb7cad1e624ea3118"), looks := false }, kinds := [], alts := [], laidByText := true, laidKinds := [.data, .pinned], laidTests := true, laidLooks := .later }
def FlatCyclesCardSaid : Prop := Claim7.holds Tryd.pinned (.plain (OpenSpec.ofChange flatCyclesSpec)) flatCyclesCard

/-- THE TIED CARD OF 'punchcutlaw14.FlatMet'. -/
def flatMetCard : Claim7 := { stood := { row := flatMetRow, standIns := [], harness := (true, "26c98df96c697ccbf7da63f3a658a30f9b712d26dc91a0fbb7cad1e624ea3118"), looks := false }, kinds := [], alts := [], laidByText := true, laidKinds := [.data, .pinned], laidTests := true, laidLooks := .later }
def FlatMetCardSaid : Prop := Claim7.holds Tryd.pinned (.plain (OpenSpec.ofChange flatMetSpec)) flatMetCard

/-- THE TIED CARD OF 'punchcutlaw14.FlatOver'. -/
def flatOverCard : Claim7 := { stood := { row := flatOverRow, standIns := [], harness := (true, "26c98df96c697ccbf7da63f3a658a30f9b712d26dc91a0fbb7cad1e624ea3118"), looks := false }, kinds := [], alts := [], laidByText := true, laidKinds := [.data, .pinned], laidTests := true, laidLooks := .later }
def FlatOverCardSaid : Prop := Claim7.holds Tryd.pinned (.plain (OpenSpec.ofChange flatOverSpec)) flatOverCard

/-- THE TIED CARD OF 'punchcutlaw14.FlatMoves'. -/
def flatMovesCard : Claim7 := { stood := { row := flatMovesRow, standIns := [], harness := (true, "26c98df96c697ccbf7da63f3a658a30f9b712d26dc91a0fbb7cad1e624ea3118"), looks := false }, kinds := [], alts := [], laidByText := true, laidKinds := [.data, .pinned], laidTests := true, laidLooks := .later }
def FlatMovesCardSaid : Prop := Claim7.holds Tryd.pinned (.plain (OpenSpec.ofChange flatMovesSpec)) flatMovesCard

/-- THE SECOND FORM's CARD OF 'punchcutlaw14.FlatDeep'. -/
def flatDeepUptoCard : Claim7 := { stood := { row := flatDeepUptoRow, standIns := [], harness := (true, "26c98df96c697ccbf7da63f3a658a30f9b712d26dc91a0fbb7cad1e624ea3118"), looks := false }, kinds := [], alts := [], laidByText := true, laidKinds := [.data, .pinned], laidTests := true, laidLooks := .later }
def FlatDeepUptoCardSaid : Prop := Claim7.holds Tryd.pinned (.plain (OpenSpec.upto flatDeepSpec)) flatDeepUptoCard

/-- THE SECOND FORM's CARD OF 'punchcutlaw14.FlatCycles'. -/
def flatCyclesUptoCard : Claim7 := { stood := { row := flatCyclesUptoRow, standIns := [], harness := (true, "26c98df96c697ccbf7da63f3a658a30f9b712d26dc91a0fbb7cad1e624ea3118"), looks := false }, kinds := [], alts := [], laidByText := true, laidKinds := [.data, .pinned], laidTests := true, laidLooks := .later }
def FlatCyclesUptoCardSaid : Prop := Claim7.holds Tryd.pinned (.plain (OpenSpec.upto flatCyclesSpec)) flatCyclesUptoCard

/-- THE SECOND FORM's CARD OF 'punchcutlaw14.FlatMet'. -/
def flatMetUptoCard : Claim7 := { stood := { row := flatMetUptoRow, standIns := [], harness := (true, "26c98df96c697ccbf7da63f3a658a30f9b712d26dc91a0fbb7cad1e624ea3118"), looks := false }, kinds := [], alts := [], laidByText := true, laidKinds := [.data, .pinned], laidTests := true, laidLooks := .later }
def FlatMetUptoCardSaid : Prop := Claim7.holds Tryd.pinned (.plain (OpenSpec.upto flatMetSpec)) flatMetUptoCard

/-- THE SECOND FORM's CARD OF 'punchcutlaw14.FlatOver'. -/
def flatOverUptoCard : Claim7 := { stood := { row := flatOverUptoRow, standIns := [], harness := (true, "26c98df96c697ccbf7da63f3a658a30f9b712d26dc91a0fbb7cad1e624ea3118"), looks := false }, kinds := [], alts := [], laidByText := true, laidKinds := [.data, .pinned], laidTests := true, laidLooks := .later }
def FlatOverUptoCardSaid : Prop := Claim7.holds Tryd.pinned (.plain (OpenSpec.upto flatOverSpec)) flatOverUptoCard

/-- THE SECOND FORM's CARD OF 'punchcutlaw14.FlatMoves'. -/
def flatMovesUptoCard : Claim7 := { stood := { row := flatMovesUptoRow, standIns := [], harness := (true, "26c98df96c697ccbf7da63f3a658a30f9b712d26dc91a0fbb7cad1e624ea3118"), looks := false }, kinds := [], alts := [], laidByText := true, laidKinds := [.data, .pinned], laidTests := true, laidLooks := .later }
def FlatMovesUptoCardSaid : Prop := Claim7.holds Tryd.pinned (.plain (OpenSpec.upto flatMovesSpec)) flatMovesUptoCard
end Rows
end Go.Proofs.YtiedbfaehndooaaDoor
