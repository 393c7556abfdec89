/-
  DERIVED. GIVEN WITH THE SEED: THE CARDS: each row of YtpknjecfloglgaaDoorRows.lean that lists a variable, with what it lists TIED to the program's text (the seventh form; the later family's looks); each row that meets fmt, with fmt's text TOLD by the authors' own Lean function (tested against real Go, not proved from fmt's source: count such statements apart). THE CARD IS WHAT COUNTS. Prove the row's statement (the work); the ties are given (YtpknjecfloglgaaDoorTie.lean); close each card by the builder's one call (the guide's Derived/Test/ToyasCard.lean, 'card_holds'). Laid BY PROGRAM, IN A SANDBOX (cutbox-door.mjs). By AI agents, Wed Nov 11 2026. No macro, syntax, notation, axiom, sorry.
-/
import Derived.Test.YtpknjecfloglgaaDoorRows
import GoSem.ClaimSeven
namespace Go.Proofs.YtpknjecfloglgaaDoor
namespace Rows

/-- THE TIED CARD OF 'yashmaklaw13.TrieTells'. -/
def trieTellsCard : Claim7 := { stood := { row := trieTellsRow, standIns := [], harness := (true, "17bb70be9b37413dbb0d22362c4468bc50143bc499ac27bb21691619d780f457"), looks := false }, kinds := [], alts := [], laidByText := true, laidKinds := [.data, .data], laidTests := true, laidLooks := .later }
def TrieTellsCardSaid : Prop := Claim7.holds Tryd.pinned (.plain (OpenSpec.ofChange trieTellsSpec)) trieTellsCard

/-- THE TIED CARD OF 'yashmaklaw13.TrieSums'. -/
def trieSumsCard : Claim7 := { stood := { row := trieSumsRow, standIns := [], harness := (true, "17bb70be9b37413dbb0d22362c4468bc50143bc499ac27bb21691619d780f457"), looks := false }, kinds := [], alts := [], laidByText := true, laidKinds := [.data, .data], laidTests := true, laidLooks := .later }
def TrieSumsCardSaid : Prop := Claim7.holds Tryd.pinned (.plain (OpenSpec.ofChange trieSumsSpec)) trieSumsCard

/-- THE TIED CARD OF 'yashmaklaw13.TrieOrder'. -/
def trieOrderCard : Claim7 := { stood := { row := trieOrderRow, standIns := [], harness := (true, "17bb70be9b37413dbb0d22362c4468bc50143bc499ac27bb21691619d780f457"), looks := false }, kinds := [], alts := [], laidByText := true, laidKinds := [.data, .data], laidTests := true, laidLooks := .later }
def TrieOrderCardSaid : Prop := Claim7.holds Tryd.pinned (.plain (OpenSpec.ofChange trieOrderSpec)) trieOrderCard

/-- THE TIED CARD OF 'yashmaklaw13.TrieEmpties'. -/
def trieEmptiesCard : Claim7 := { stood := { row := trieEmptiesRow, standIns := [], harness := (true, "17bb70be9b37413dbb0d22362c4468bc50143bc499ac27bb21691619d780f457"), looks := false }, kinds := [], alts := [], laidByText := true, laidKinds := [.data, .data], laidTests := true, laidLooks := .later }
def TrieEmptiesCardSaid : Prop := Claim7.holds Tryd.pinned (.plain (OpenSpec.ofChange trieEmptiesSpec)) trieEmptiesCard

/-- THE TIED CARD OF 'yashmaklaw13.TrieParts'. -/
def triePartsCard : Claim7 := { stood := { row := triePartsRow, standIns := [], harness := (true, "17bb70be9b37413dbb0d22362c4468bc50143bc499ac27bb21691619d780f457"), looks := false }, kinds := [], alts := [], laidByText := true, laidKinds := [.data, .data], laidTests := true, laidLooks := .later }
def TriePartsCardSaid : Prop := Claim7.holds Tryd.pinned (.plain (OpenSpec.ofChange triePartsSpec)) triePartsCard

/-- THE SECOND FORM's CARD OF 'yashmaklaw13.TrieTells'. -/
def trieTellsUptoCard : Claim7 := { stood := { row := trieTellsUptoRow, standIns := [], harness := (true, "17bb70be9b37413dbb0d22362c4468bc50143bc499ac27bb21691619d780f457"), looks := false }, kinds := [], alts := [], laidByText := true, laidKinds := [.data, .data], laidTests := true, laidLooks := .later }
def TrieTellsUptoCardSaid : Prop := Claim7.holds Tryd.pinned (.plain (OpenSpec.upto trieTellsSpec)) trieTellsUptoCard

/-- THE SECOND FORM's CARD OF 'yashmaklaw13.TrieSums'. -/
def trieSumsUptoCard : Claim7 := { stood := { row := trieSumsUptoRow, standIns := [], harness := (true, "17bb70be9b37413dbb0d22362c4468bc50143bc499ac27bb21691619d780f457"), looks := false }, kinds := [], alts := [], laidByText := true, laidKinds := [.data, .data], laidTests := true, laidLooks := .later }
def TrieSumsUptoCardSaid : Prop := Claim7.holds Tryd.pinned (.plain (OpenSpec.upto trieSumsSpec)) trieSumsUptoCard

/-- THE SECOND FORM's CARD OF 'yashmaklaw13.TrieOrder'. -/
def trieOrderUptoCard : Claim7 := { stood := { row := trieOrderUptoRow, standIns := [], harness := (true, "17bb70be9b37413dbb0d22362c4468bc50143bc499ac27bb21691619d780f457"), looks := false }, kinds := [], alts := [], laidByText := true, laidKinds := [.data, .data], laidTests := true, laidLooks := .later }
def TrieOrderUptoCardSaid : Prop := Claim7.holds Tryd.pinned (.plain (OpenSpec.upto trieOrderSpec)) trieOrderUptoCard

/-- THE SECOND FORM's CARD OF 'yashmaklaw13.TrieEmpties'. -/
def trieEmptiesUptoCard : Claim7 := { stood := { row := trieEmptiesUptoRow, standIns := [], harness := (true, "17bb70be9b37413dbb0d22362c4468bc50143bc499ac27bb21691619d780f457"), looks := false }, kinds := [], alts := [], laidByText := true, laidKinds := [.data, .data], laidTests := true, laidLooks := .later }
def TrieEmptiesUptoCardSaid : Prop := Claim7.holds Tryd.pinned (.plain (OpenSpec.upto trieEmptiesSpec)) trieEmptiesUptoCard

/-- THE SECOND FORM's CARD OF 'yashmaklaw13.TrieParts'. -/
def triePartsUptoCard : Claim7 := { stood := { row := triePartsUptoRow, standIns := [], harness := (true, "17bb70be9b37413dbb0d22362c4468bc50143bc499ac27bb21691619d780f457"), looks := false }, kinds := [], alts := [], laidByText := true, laidKinds := [.data, .data], laidTests := true, laidLooks := .later }
def TriePartsUptoCardSaid : Prop := Claim7.holds Tryd.pinned (.plain (OpenSpec.upto triePartsSpec)) triePartsUptoCard
end Rows
end Go.Proofs.YtpknjecfloglgaaDoor
