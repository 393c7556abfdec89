/-
  DERIVED. GIVEN WITH THE SEED: THE CARDS: each row of YtaghnjehlpbdkaaDoorRows.lean that lists a variable, with what it lists TIED to the program's text (the seventh form; the later family's looks); each row that meets fmt, with fmt's text TOLD by the authors' own Lean function (tested against real Go, not proved from fmt's source: count such statements apart). THE CARD IS WHAT COUNTS. Prove the row's statement (the work); the ties are given (YtaghnjehlpbdkaaDoorTie.lean); close each card by the builder's one call (the guide's Derived/Test/ToyasCard.lean, 'card_holds'). Laid BY PROGRAM, IN A SANDBOX (cutbox-door.mjs). By AI agents, Wed Nov 11 2026. No macro, syntax, notation, axiom, sorry.
-/
import Derived.Test.YtaghnjehlpbdkaaDoorRows
import GoSem.ClaimSeven
namespace Go.Proofs.YtaghnjehlpbdkaaDoor
namespace Rows

/-- THE TIED CARD OF 'yashmaklaw10.CommitNames'. -/
def commitNamesCard : Claim7 := { stood := { row := commitNamesRow, standIns := [], harness := (true, "3e29070d868264825b94cc8e677e0ac80f1a49b8ab461b90ad131840e9c01509"), looks := false }, kinds := [], alts := [], laidByText := true, laidKinds := [.data, .data], laidTests := true, laidLooks := .later }
def CommitNamesCardSaid : Prop := Claim7.holds Tryd.pinned (.plain (OpenSpec.ofChange commitNamesSpec)) commitNamesCard

/-- THE TIED CARD OF 'yashmaklaw10.CommitTells'. -/
def commitTellsCard : Claim7 := { stood := { row := commitTellsRow, standIns := [], harness := (true, "3e29070d868264825b94cc8e677e0ac80f1a49b8ab461b90ad131840e9c01509"), looks := false }, kinds := [], alts := [], laidByText := true, laidKinds := [.data, .data], laidTests := true, laidLooks := .later }
def CommitTellsCardSaid : Prop := Claim7.holds Tryd.pinned (.plain (OpenSpec.ofChange commitTellsSpec)) commitTellsCard

/-- THE TIED CARD OF 'yashmaklaw10.CommitBack'. -/
def commitBackCard : Claim7 := { stood := { row := commitBackRow, standIns := [], harness := (true, "3e29070d868264825b94cc8e677e0ac80f1a49b8ab461b90ad131840e9c01509"), looks := false }, kinds := [], alts := [], laidByText := true, laidKinds := [.data, .data], laidTests := true, laidLooks := .later }
def CommitBackCardSaid : Prop := Claim7.holds Tryd.pinned (.plain (OpenSpec.ofChange commitBackSpec)) commitBackCard

/-- THE TIED CARD OF 'yashmaklaw10.CommitBinds'. -/
def commitBindsCard : Claim7 := { stood := { row := commitBindsRow, standIns := [], harness := (true, "3e29070d868264825b94cc8e677e0ac80f1a49b8ab461b90ad131840e9c01509"), looks := false }, kinds := [], alts := [], laidByText := true, laidKinds := [.data, .data], laidTests := true, laidLooks := .later }
def CommitBindsCardSaid : Prop := Claim7.holds Tryd.pinned (.plain (OpenSpec.ofChange commitBindsSpec)) commitBindsCard

/-- THE TIED CARD OF 'yashmaklaw10.CommitNamed'. -/
def commitNamedCard : Claim7 := { stood := { row := commitNamedRow, standIns := [], harness := (true, "3e29070d868264825b94cc8e677e0ac80f1a49b8ab461b90ad131840e9c01509"), looks := false }, kinds := [], alts := [], laidByText := true, laidKinds := [.data, .data], laidTests := true, laidLooks := .later }
def CommitNamedCardSaid : Prop := Claim7.holds Tryd.pinned (.plain (OpenSpec.ofChange commitNamedSpec)) commitNamedCard

/-- THE SECOND FORM's CARD OF 'yashmaklaw10.CommitNames'. -/
def commitNamesUptoCard : Claim7 := { stood := { row := commitNamesUptoRow, standIns := [], harness := (true, "3e29070d868264825b94cc8e677e0ac80f1a49b8ab461b90ad131840e9c01509"), looks := false }, kinds := [], alts := [], laidByText := true, laidKinds := [.data, .data], laidTests := true, laidLooks := .later }
def CommitNamesUptoCardSaid : Prop := Claim7.holds Tryd.pinned (.plain (OpenSpec.upto commitNamesSpec)) commitNamesUptoCard

/-- THE SECOND FORM's CARD OF 'yashmaklaw10.CommitTells'. -/
def commitTellsUptoCard : Claim7 := { stood := { row := commitTellsUptoRow, standIns := [], harness := (true, "3e29070d868264825b94cc8e677e0ac80f1a49b8ab461b90ad131840e9c01509"), looks := false }, kinds := [], alts := [], laidByText := true, laidKinds := [.data, .data], laidTests := true, laidLooks := .later }
def CommitTellsUptoCardSaid : Prop := Claim7.holds Tryd.pinned (.plain (OpenSpec.upto commitTellsSpec)) commitTellsUptoCard

/-- THE SECOND FORM's CARD OF 'yashmaklaw10.CommitBack'. -/
def commitBackUptoCard : Claim7 := { stood := { row := commitBackUptoRow, standIns := [], harness := (true, "3e29070d868264825b94cc8e677e0ac80f1a49b8ab461b90ad131840e9c01509"), looks := false }, kinds := [], alts := [], laidByText := true, laidKinds := [.data, .data], laidTests := true, laidLooks := .later }
def CommitBackUptoCardSaid : Prop := Claim7.holds Tryd.pinned (.plain (OpenSpec.upto commitBackSpec)) commitBackUptoCard

/-- THE SECOND FORM's CARD OF 'yashmaklaw10.CommitBinds'. -/
def commitBindsUptoCard : Claim7 := { stood := { row := commitBindsUptoRow, standIns := [], harness := (true, "3e29070d868264825b94cc8e677e0ac80f1a49b8ab461b90ad131840e9c01509"), looks := false }, kinds := [], alts := [], laidByText := true, laidKinds := [.data, .data], laidTests := true, laidLooks := .later }
def CommitBindsUptoCardSaid : Prop := Claim7.holds Tryd.pinned (.plain (OpenSpec.upto commitBindsSpec)) commitBindsUptoCard

/-- THE SECOND FORM's CARD OF 'yashmaklaw10.CommitNamed'. -/
def commitNamedUptoCard : Claim7 := { stood := { row := commitNamedUptoRow, standIns := [], harness := (true, "3e29070d868264825b94cc8e677e0ac80f1a49b8ab461b90ad131840e9c01509"), looks := false }, kinds := [], alts := [], laidByText := true, laidKinds := [.data, .data], laidTests := true, laidLooks := .later }
def CommitNamedUptoCardSaid : Prop := Claim7.holds Tryd.pinned (.plain (OpenSpec.upto commitNamedSpec)) commitNamedUptoCard
end Rows
end Go.Proofs.YtaghnjehlpbdkaaDoor
