/-
  DERIVED. GIVEN WITH THE SEED: THE CARDS: each row of YtmckdaonemcnaaaDoorRows.lean that lists a variable, with what it lists TIED to the program's text (the seventh form; the later family's looks); each row that meets fmt, with fmt's text TOLD by the authors' own Lean function (tested against real Go, not proved from fmt's source: count such statements apart). THE CARD IS WHAT COUNTS. Prove the row's statement (the work); the ties are given (YtmckdaonemcnaaaDoorTie.lean); close each card by the builder's one call (the guide's Derived/Test/ToyasCard.lean, 'card_holds'). Laid BY PROGRAM, IN A SANDBOX (cutbox-door.mjs). By AI agents, Wed Nov 11 2026. No macro, syntax, notation, axiom, sorry.
-/
import Derived.Test.YtmckdaonemcnaaaDoorRows
import GoSem.ClaimSeven
namespace Go.Proofs.YtmckdaonemcnaaaDoor
namespace Rows

/-- THE TIED CARD OF 'seedcorntop.SystemDigests'. -/
def systemDigestsCard : Claim7 := { stood := { row := systemDigestsRow, standIns := [], harness := (true, "fb2d6b5578a07043522becc20d124d4a55c1826c589953d96b0a7887f183203e"), looks := false }, kinds := [], alts := [], laidByText := true, laidKinds := [.data, .data], laidTests := true, laidLooks := .later }
def SystemDigestsCardSaid : Prop := Claim7.holds Tryd.pinned (.plain (OpenSpec.ofChange systemDigestsSpec)) systemDigestsCard

/-- THE SECOND FORM's CARD OF 'seedcorntop.SystemDigests'. -/
def systemDigestsUptoCard : Claim7 := { stood := { row := systemDigestsUptoRow, standIns := [], harness := (true, "fb2d6b5578a07043522becc20d124d4a55c1826c589953d96b0a7887f183203e"), looks := false }, kinds := [], alts := [], laidByText := true, laidKinds := [.data, .data], laidTests := true, laidLooks := .later }
def SystemDigestsUptoCardSaid : Prop := Claim7.holds Tryd.pinned (.plain (OpenSpec.upto systemDigestsSpec)) systemDigestsUptoCard
end Rows
end Go.Proofs.YtmckdaonemcnaaaDoor
