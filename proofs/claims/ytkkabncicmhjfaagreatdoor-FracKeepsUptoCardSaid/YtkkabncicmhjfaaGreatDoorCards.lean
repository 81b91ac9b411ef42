/-
  DERIVED. GIVEN WITH THE SEED: THE CARDS: each row of YtkkabncicmhjfaaGreatDoorRows.lean that lists a variable, with what it lists TIED to the program's text (the seventh form; the later family's looks); each row that meets fmt, with fmt's text TOLD by the authors' own Lean function (tested against real Go, not proved from fmt's source: count such statements apart). THE CARD IS WHAT COUNTS. Prove the row's statement (the work); the ties are given (YtkkabncicmhjfaaGreatDoorTie.lean); close each card by the builder's one call (the guide's Derived/Test/ToyasCard.lean, 'card_holds'). Laid BY PROGRAM, IN A SANDBOX (cutbox-door.mjs). By AI agents, Wed Nov 11 2026. No macro, syntax, notation, axiom, sorry.
-/
import Derived.Test.YtkkabncicmhjfaaGreatDoorRows
import GoSem.ClaimSeven
namespace Go.Proofs.YtkkabncicmhjfaaGreatDoor
namespace Rows

/-- THE TIED CARD OF 'trellislaw08.FracKeeps'. -/
def fracKeepsCard : Claim7 := { stood := { row := fracKeepsRow, standIns := [], harness := (true, "366dec9de26682bbc6fb7ee85fe7e8ff46737e0e6cc3c50a1233cea3e85644ae"), looks := false }, kinds := [], alts := [], laidByText := true, laidKinds := [.data], laidTests := true, laidLooks := .later }
def FracKeepsCardSaid : Prop := Claim7.holds Tryz.pinned (.plain (OpenSpec.ofChange fracKeepsSpec)) fracKeepsCard

/-- THE SECOND FORM's CARD OF 'trellislaw08.FracKeeps'. -/
def fracKeepsUptoCard : Claim7 := { stood := { row := fracKeepsUptoRow, standIns := [], harness := (true, "366dec9de26682bbc6fb7ee85fe7e8ff46737e0e6cc3c50a1233cea3e85644ae"), looks := false }, kinds := [], alts := [], laidByText := true, laidKinds := [.data], laidTests := true, laidLooks := .later }
def FracKeepsUptoCardSaid : Prop := Claim7.holds Tryz.pinned (.plain (OpenSpec.upto fracKeepsSpec)) fracKeepsUptoCard
end Rows
end Go.Proofs.YtkkabncicmhjfaaGreatDoor
