/-
  DERIVED. GIVEN WITH THE SEED: THE CARDS: each row of YtijlphdockhgjaaGreatDoorRows.lean that lists a variable, with what it lists TIED to the program's text (the seventh form; the later family's looks); each row that meets fmt, with fmt's text TOLD by the authors' own Lean function (tested against real Go, not proved from fmt's source: count such statements apart). THE CARD IS WHAT COUNTS. Prove the row's statement (the work); the ties are given (YtijlphdockhgjaaGreatDoorTie.lean); close each card by the builder's one call (the guide's Derived/Test/ToyasCard.lean, 'card_holds'). Laid BY PROGRAM, IN A SANDBOX (cutbox-door.mjs). By AI agents, Wed Nov 11 2026. No macro, syntax, notation, axiom, sorry.
-/
import Derived.Test.YtijlphdockhgjaaGreatDoorRows
import GoSem.ClaimSeven
namespace Go.Proofs.YtijlphdockhgjaaGreatDoor
namespace Rows

/-- THE TIED CARD OF 'seedcorntop.SystemForged'. -/
def systemForgedCard : Claim7 := { stood := { row := systemForgedRow, standIns := [], harness := (true, "41d2151e0ac1f0c9cb259b91a232d624899c55b105dd8d0227086546e73f8c90"), looks := true }, kinds := [], alts := [], laidByText := true, laidKinds := [.data, .data], laidTests := true, laidLooks := .later }
def SystemForgedCardSaid : Prop := Claim7.holds Tryz.pinned (.plain (OpenSpec.ofChange systemForgedSpec)) systemForgedCard

/-- THE SECOND FORM's CARD OF 'seedcorntop.SystemForged'. -/
def systemForgedUptoCard : Claim7 := { stood := { row := systemForgedUptoRow, standIns := [], harness := (true, "41d2151e0ac1f0c9cb259b91a232d624899c55b105dd8d0227086546e73f8c90"), looks := true }, kinds := [], alts := [], laidByText := true, laidKinds := [.data, .data], laidTests := true, laidLooks := .later }
def SystemForgedUptoCardSaid : Prop := Claim7.holds Tryz.pinned (.plain (OpenSpec.upto systemForgedSpec)) systemForgedUptoCard
end Rows
end Go.Proofs.YtijlphdockhgjaaGreatDoor
