/-
  DERIVED. GIVEN WITH THE SEED: THE CARDS: each row of YtgmphpccpfaapaaGreatDoorRows.lean that lists a variable, with what it lists TIED to the program's text (the seventh form; the later family's looks); each row that meets fmt, with fmt's text TOLD by the authors' own Lean function (tested against real Go, not proved from fmt's source: count such statements apart). THE CARD IS WHAT COUNTS. Prove the row's statement (the work); the ties are given (YtgmphpccpfaapaaGreatDoorTie.lean); close each card by the builder's one call (the guide's Derived/Test/ToyasCard.lean, 'card_holds'). Laid BY PROGRAM, IN A SANDBOX (cutbox-door.mjs). By AI agents, Wed Nov 11 2026. No macro, syntax, notation, axiom, sorry.
-/
import Derived.Test.YtgmphpccpfaapaaGreatDoorRows
import GoSem.ClaimSeven
namespace Go.Proofs.YtgmphpccpfaapaaGreatDoor
namespace Rows

/-- THE TIED CARD OF 'lacunalaw21.SessionOrder'. -/
def sessionOrderCard : Claim7 := { stood := { row := sessionOrderRow, standIns := [], harness := (true, "c6a63267c63c1d5181efbc3aec98b275edee3fd8e7110c402ebcb05177b36142"), looks := true }, kinds := [], alts := [], laidByText := true, laidKinds := [.data, .data, .data, .data, .mapped, .data], laidTests := true, laidLooks := .later }
def SessionOrderCardSaid : Prop := Claim7.holds Tryz.pinned (.plain (OpenSpec.ofChange sessionOrderSpec)) sessionOrderCard

/-- THE SECOND FORM's CARD OF 'lacunalaw21.SessionOrder'. -/
def sessionOrderUptoCard : Claim7 := { stood := { row := sessionOrderUptoRow, standIns := [], harness := (true, "c6a63267c63c1d5181efbc3aec98b275edee3fd8e7110c402ebcb05177b36142"), looks := true }, kinds := [], alts := [], laidByText := true, laidKinds := [.data, .data, .data, .data, .mapped, .data], laidTests := true, laidLooks := .later }
def SessionOrderUptoCardSaid : Prop := Claim7.holds Tryz.pinned (.plain (OpenSpec.upto sessionOrderSpec)) sessionOrderUptoCard
end Rows
end Go.Proofs.YtgmphpccpfaapaaGreatDoor
