/-
  DERIVED. GIVEN WITH THE SEED: THE CARDS: each row of YtihldginolbooaaGreatDoorRows.lean that lists a variable, with what it lists TIED to the program's text (the seventh form; the later family's looks); each row that meets fmt, with fmt's text TOLD by the authors' own Lean function (tested against real Go, not proved from fmt's source: count such statements apart). THE CARD IS WHAT COUNTS. Prove the row's statement (the work); the ties are given (YtihldginolbooaaGreatDoorTie.lean); close each card by the builder's one call (the guide's Derived/Test/ToyasCard.lean, 'card_holds'). Laid BY PROGRAM, IN A SANDBOX (cutbox-door.mjs). By AI agents, Wed Nov 11 2026. No macro, syntax, notation, axiom, sorry.
-/
import Derived.Test.YtihldginolbooaaGreatDoorRows
import GoSem.ClaimSeven
namespace Go.Proofs.YtihldginolbooaaGreatDoor
namespace Rows

/-- THE TIED CARD OF 'lacunalaw20.WirePuts'. -/
def wirePutsCard : Claim7 := { stood := { row := wirePutsRow, standIns := [], harness := (true, "1515cb19616e21aa7d2d0d5b54d455120a4537cc0d3c3bac4b60acd2bf9fd4ab"), looks := false }, kinds := [], alts := [], laidByText := true, laidKinds := [.data, .data, .data, .mapped], laidTests := true, laidLooks := .later }
def WirePutsCardSaid : Prop := Claim7.holds Tryz.pinned (.plain (OpenSpec.ofChange wirePutsSpec)) wirePutsCard

/-- THE SECOND FORM's CARD OF 'lacunalaw20.WirePuts'. -/
def wirePutsUptoCard : Claim7 := { stood := { row := wirePutsUptoRow, standIns := [], harness := (true, "1515cb19616e21aa7d2d0d5b54d455120a4537cc0d3c3bac4b60acd2bf9fd4ab"), looks := false }, kinds := [], alts := [], laidByText := true, laidKinds := [.data, .data, .data, .mapped], laidTests := true, laidLooks := .later }
def WirePutsUptoCardSaid : Prop := Claim7.holds Tryz.pinned (.plain (OpenSpec.upto wirePutsSpec)) wirePutsUptoCard
end Rows
end Go.Proofs.YtihldginolbooaaGreatDoor
