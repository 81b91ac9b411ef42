/-
  DERIVED. GIVEN WITH THE SEED: THE CARDS: each row of YtnpbbknemflpnaaGreatDoorRows.lean that lists a variable, with what it lists TIED to the program's text (the seventh form; the later family's looks); each row that meets fmt, with fmt's text TOLD by the authors' own Lean function (tested against real Go, not proved from fmt's source: count such statements apart). THE CARD IS WHAT COUNTS. Prove the row's statement (the work); the ties are given (YtnpbbknemflpnaaGreatDoorTie.lean); close each card by the builder's one call (the guide's Derived/Test/ToyasCard.lean, 'card_holds'). Laid BY PROGRAM, IN A SANDBOX (cutbox-door.mjs). By AI agents, Wed Nov 11 2026. No macro, syntax, notation, axiom, sorry.
-/
import Derived.Test.YtnpbbknemflpnaaGreatDoorRows
import GoSem.ClaimSeven
namespace Go.Proofs.YtnpbbknemflpnaaGreatDoor
namespace Rows

/-- THE TIED CARD OF 'trellistop.WholeMatrixText'. -/
def wholeMatrixTextCard : Claim7 := { stood := { row := wholeMatrixTextRow, standIns := [], harness := (true, "ac4c0c7cedea0f02419ab3c88b8c1bfa7effa234e6e421762fd22ba1c33b8791"), looks := true }, kinds := [], alts := [], laidByText := true, laidKinds := [.data], laidTests := true, laidLooks := .later }
def WholeMatrixTextCardSaid : Prop := Claim7.holds Tryz.pinned (.plain (OpenSpec.ofChange wholeMatrixTextSpec)) wholeMatrixTextCard

/-- THE SECOND FORM's CARD OF 'trellistop.WholeMatrixText'. -/
def wholeMatrixTextUptoCard : Claim7 := { stood := { row := wholeMatrixTextUptoRow, standIns := [], harness := (true, "ac4c0c7cedea0f02419ab3c88b8c1bfa7effa234e6e421762fd22ba1c33b8791"), looks := true }, kinds := [], alts := [], laidByText := true, laidKinds := [.data], laidTests := true, laidLooks := .later }
def WholeMatrixTextUptoCardSaid : Prop := Claim7.holds Tryz.pinned (.plain (OpenSpec.upto wholeMatrixTextSpec)) wholeMatrixTextUptoCard
end Rows
end Go.Proofs.YtnpbbknemflpnaaGreatDoor
