/-
  DERIVED. GIVEN WITH THE SEED: THE CARDS: each row of YthdjinicmnhgpaaGreatDoorRows.lean that lists a variable, with what it lists TIED to the program's text (the seventh form; the later family's looks); each row that meets fmt, with fmt's text TOLD by the authors' own Lean function (tested against real Go, not proved from fmt's source: count such statements apart). THE CARD IS WHAT COUNTS. Prove the row's statement (the work); the ties are given (YthdjinicmnhgpaaGreatDoorTie.lean); close each card by the builder's one call (the guide's Derived/Test/ToyasCard.lean, 'card_holds'). Laid BY PROGRAM, IN A SANDBOX (cutbox-door.mjs). By AI agents, Wed Nov 11 2026. No macro, syntax, notation, axiom, sorry.
-/
import Derived.Test.YthdjinicmnhgpaaGreatDoorRows
import GoSem.ClaimSeven
namespace Go.Proofs.YthdjinicmnhgpaaGreatDoor
namespace Rows

/-- THE TIED CARD OF 'lacunalaw14.FitChecks'. -/
def fitChecksCard : Claim7 := { stood := { row := fitChecksRow, standIns := [], harness := (true, "050587c387e0505234b5b6615d2048385cd22bd41f63944e816435c5948bc4b0"), looks := false }, kinds := [], alts := [], laidByText := true, laidKinds := [.data, .data, .data, .data], laidTests := true, laidLooks := .later }
def FitChecksCardSaid : Prop := Claim7.holds Tryz.pinned (.plain (OpenSpec.ofChange fitChecksSpec)) fitChecksCard

/-- THE TIED CARD OF 'lacunalaw14.FitOnly'. -/
def fitOnlyCard : Claim7 := { stood := { row := fitOnlyRow, standIns := [], harness := (true, "050587c387e0505234b5b6615d2048385cd22bd41f63944e816435c5948bc4b0"), looks := false }, kinds := [], alts := [], laidByText := true, laidKinds := [.data, .data, .data, .data], laidTests := true, laidLooks := .later }
def FitOnlyCardSaid : Prop := Claim7.holds Tryz.pinned (.plain (OpenSpec.ofChange fitOnlySpec)) fitOnlyCard

/-- THE SECOND FORM's CARD OF 'lacunalaw14.FitChecks'. -/
def fitChecksUptoCard : Claim7 := { stood := { row := fitChecksUptoRow, standIns := [], harness := (true, "050587c387e0505234b5b6615d2048385cd22bd41f63944e816435c5948bc4b0"), looks := false }, kinds := [], alts := [], laidByText := true, laidKinds := [.data, .data, .data, .data], laidTests := true, laidLooks := .later }
def FitChecksUptoCardSaid : Prop := Claim7.holds Tryz.pinned (.plain (OpenSpec.upto fitChecksSpec)) fitChecksUptoCard

/-- THE SECOND FORM's CARD OF 'lacunalaw14.FitOnly'. -/
def fitOnlyUptoCard : Claim7 := { stood := { row := fitOnlyUptoRow, standIns := [], harness := (true, "050587c387e0505234b5b6615d2048385cd22bd41f63944e816435c5948bc4b0"), looks := false }, kinds := [], alts := [], laidByText := true, laidKinds := [.data, .data, .data, .data], laidTests := true, laidLooks := .later }
def FitOnlyUptoCardSaid : Prop := Claim7.holds Tryz.pinned (.plain (OpenSpec.upto fitOnlySpec)) fitOnlyUptoCard
end Rows
end Go.Proofs.YthdjinicmnhgpaaGreatDoor
