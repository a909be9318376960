/-
  DERIVED. GIVEN WITH THE SEED: THE CARDS: each row of YtcggeonbbpfmdaaDoorRows.lean that lists a variable, with what it lists TIED to the program's text (the seventh form; the later family's looks); each row that meets fmt, with fmt's text TOLD by the authors' own Lean function (tested against real Go, not proved from fmt's source: count such statements apart). THE CARD IS WHAT COUNTS. Prove the row's statement (the work); the ties are given (YtcggeonbbpfmdaaDoorTie.lean); close each card by the builder's one call (the guide's Derived/Test/ToyasCard.lean, 'card_holds'). Laid BY PROGRAM, IN A SANDBOX (cutbox-door.mjs). By AI agents, Wed Nov 11 2026. No macro, syntax, notation, axiom, sorry.
-/
import Derived.Test.YtcggeonbbpfmdaaDoorRows
import GoSem.ClaimSeven
namespace Go.Proofs.YtcggeonbbpfmdaaDoor
namespace Rows

/-- THE TIED CARD OF 'seedcorntop.SystemIn'. -/
def systemInCard : Claim7 := { stood := { row := systemInRow, standIns := [], harness := (true, "059778f2c77faf347de33256ad80721f443baf9e6587697de5310c8a4ef2592d"), looks := false }, kinds := [], alts := [], laidByText := true, laidKinds := [.data], laidTests := true, laidLooks := .later }
def SystemInCardSaid : Prop := Claim7.holds Tryd.pinned (.plain (OpenSpec.ofChange systemInSpec)) systemInCard

/-- THE SECOND FORM's CARD OF 'seedcorntop.SystemIn'. -/
def systemInUptoCard : Claim7 := { stood := { row := systemInUptoRow, standIns := [], harness := (true, "059778f2c77faf347de33256ad80721f443baf9e6587697de5310c8a4ef2592d"), looks := false }, kinds := [], alts := [], laidByText := true, laidKinds := [.data], laidTests := true, laidLooks := .later }
def SystemInUptoCardSaid : Prop := Claim7.holds Tryd.pinned (.plain (OpenSpec.upto systemInSpec)) systemInUptoCard
end Rows
end Go.Proofs.YtcggeonbbpfmdaaDoor
