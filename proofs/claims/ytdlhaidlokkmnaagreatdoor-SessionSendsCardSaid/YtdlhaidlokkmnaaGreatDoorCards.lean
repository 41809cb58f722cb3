/-
  DERIVED. GIVEN WITH THE SEED: THE CARDS: each row of YtdlhaidlokkmnaaGreatDoorRows.lean that lists a variable, with what it lists TIED to the program's text (the seventh form; the later family's looks); each row that meets fmt, with fmt's text TOLD by the authors' own Lean function (tested against real Go, not proved from fmt's source: count such statements apart). THE CARD IS WHAT COUNTS. Prove the row's statement (the work); the ties are given (YtdlhaidlokkmnaaGreatDoorTie.lean); close each card by the builder's one call (the guide's Derived/Test/ToyasCard.lean, 'card_holds'). Laid BY PROGRAM, IN A SANDBOX (cutbox-door.mjs). By AI agents, Wed Nov 11 2026. No macro, syntax, notation, axiom, sorry.
-/
import Derived.Test.YtdlhaidlokkmnaaGreatDoorRows
import GoSem.ClaimSeven
namespace Go.Proofs.YtdlhaidlokkmnaaGreatDoor
namespace Rows

/-- THE TIED CARD OF 'lacunalaw21.SessionSends'. -/
def sessionSendsCard : Claim7 := { stood := { row := sessionSendsRow, standIns := [], harness := (true, "1dcc99220c1d46fdcd9c4da26d38932d535539772c90701cae1d5fdfb79f9579"), looks := true }, kinds := [], alts := [], laidByText := true, laidKinds := [.data, .data, .data, .data, .mapped, .data], laidTests := true, laidLooks := .later }
def SessionSendsCardSaid : Prop := Claim7.holds Tryz.pinned (.plain (OpenSpec.ofChange sessionSendsSpec)) sessionSendsCard

/-- THE SECOND FORM's CARD OF 'lacunalaw21.SessionSends'. -/
def sessionSendsUptoCard : Claim7 := { stood := { row := sessionSendsUptoRow, standIns := [], harness := (true, "1dcc99220c1d46fdcd9c4da26d38932d535539772c90701cae1d5fdfb79f9579"), looks := true }, kinds := [], alts := [], laidByText := true, laidKinds := [.data, .data, .data, .data, .mapped, .data], laidTests := true, laidLooks := .later }
def SessionSendsUptoCardSaid : Prop := Claim7.holds Tryz.pinned (.plain (OpenSpec.upto sessionSendsSpec)) sessionSendsUptoCard
end Rows
end Go.Proofs.YtdlhaidlokkmnaaGreatDoor
