/-
  DERIVED. GIVEN WITH THE SEED: THE CARDS: each row of YthggegdkpalgbaaGreatDoorRows.lean that lists a variable, with what it lists TIED to the program's text (the seventh form; the later family's looks); each row that meets fmt, with fmt's text TOLD by the authors' own Lean function (tested against real Go, not proved from fmt's source: count such statements apart). THE CARD IS WHAT COUNTS. Prove the row's statement (the work); the ties are given (YthggegdkpalgbaaGreatDoorTie.lean); close each card by the builder's one call (the guide's Derived/Test/ToyasCard.lean, 'card_holds'). Laid BY PROGRAM, IN A SANDBOX (cutbox-door.mjs). By AI agents, Wed Nov 11 2026. No macro, syntax, notation, axiom, sorry.
-/
import Derived.Test.YthggegdkpalgbaaGreatDoorRows
import GoSem.ClaimSeven
namespace Go.Proofs.YthggegdkpalgbaaGreatDoor
namespace Rows

/-- THE TIED CARD OF 'trellislaw05.ZintPlays'. -/
def zintPlaysCard : Claim7 := { stood := { row := zintPlaysRow, standIns := [], harness := (true, "ca5abecaf57af501bce836721bb3b3dd632496a5261d325fda63d7344d0a888c"), looks := false }, kinds := [], alts := [], laidByText := true, laidKinds := [.data], laidTests := true, laidLooks := .later }
def ZintPlaysCardSaid : Prop := Claim7.holds Tryz.pinned (.plain (OpenSpec.ofChange zintPlaysSpec)) zintPlaysCard

/-- THE TIED CARD OF 'trellislaw05.ZintKeeps'. -/
def zintKeepsCard : Claim7 := { stood := { row := zintKeepsRow, standIns := [], harness := (true, "ca5abecaf57af501bce836721bb3b3dd632496a5261d325fda63d7344d0a888c"), looks := false }, kinds := [], alts := [], laidByText := true, laidKinds := [.data], laidTests := true, laidLooks := .later }
def ZintKeepsCardSaid : Prop := Claim7.holds Tryz.pinned (.plain (OpenSpec.ofChange zintKeepsSpec)) zintKeepsCard

/-- THE TIED CARD OF 'trellislaw08.FracPlays'. -/
def fracPlaysCard : Claim7 := { stood := { row := fracPlaysRow, standIns := [], harness := (true, "ca5abecaf57af501bce836721bb3b3dd632496a5261d325fda63d7344d0a888c"), looks := false }, kinds := [], alts := [], laidByText := true, laidKinds := [.data], laidTests := true, laidLooks := .later }
def FracPlaysCardSaid : Prop := Claim7.holds Tryz.pinned (.plain (OpenSpec.ofChange fracPlaysSpec)) fracPlaysCard

/-- THE TIED CARD OF 'trellislaw08.FracKeeps'. -/
def fracKeepsCard : Claim7 := { stood := { row := fracKeepsRow, standIns := [], harness := (true, "ca5abecaf57af501bce836721bb3b3dd632496a5261d325fda63d7344d0a888c"), looks := false }, kinds := [], alts := [], laidByText := true, laidKinds := [.data], laidTests := true, laidLooks := .later }
def FracKeepsCardSaid : Prop := Claim7.holds Tryz.pinned (.plain (OpenSpec.ofChange fracKeepsSpec)) fracKeepsCard

/-- THE SECOND FORM's CARD OF 'trellislaw05.ZintPlays'. -/
def zintPlaysUptoCard : Claim7 := { stood := { row := zintPlaysUptoRow, standIns := [], harness := (true, "ca5abecaf57af501bce836721bb3b3dd632496a5261d325fda63d7344d0a888c"), looks := false }, kinds := [], alts := [], laidByText := true, laidKinds := [.data], laidTests := true, laidLooks := .later }
def ZintPlaysUptoCardSaid : Prop := Claim7.holds Tryz.pinned (.plain (OpenSpec.upto zintPlaysSpec)) zintPlaysUptoCard

/-- THE SECOND FORM's CARD OF 'trellislaw05.ZintKeeps'. -/
def zintKeepsUptoCard : Claim7 := { stood := { row := zintKeepsUptoRow, standIns := [], harness := (true, "ca5abecaf57af501bce836721bb3b3dd632496a5261d325fda63d7344d0a888c"), looks := false }, kinds := [], alts := [], laidByText := true, laidKinds := [.data], laidTests := true, laidLooks := .later }
def ZintKeepsUptoCardSaid : Prop := Claim7.holds Tryz.pinned (.plain (OpenSpec.upto zintKeepsSpec)) zintKeepsUptoCard

/-- THE SECOND FORM's CARD OF 'trellislaw08.FracPlays'. -/
def fracPlaysUptoCard : Claim7 := { stood := { row := fracPlaysUptoRow, standIns := [], harness := (true, "ca5abecaf57af501bce836721bb3b3dd632496a5261d325fda63d7344d0a888c"), looks := false }, kinds := [], alts := [], laidByText := true, laidKinds := [.data], laidTests := true, laidLooks := .later }
def FracPlaysUptoCardSaid : Prop := Claim7.holds Tryz.pinned (.plain (OpenSpec.upto fracPlaysSpec)) fracPlaysUptoCard

/-- THE SECOND FORM's CARD OF 'trellislaw08.FracKeeps'. -/
def fracKeepsUptoCard : Claim7 := { stood := { row := fracKeepsUptoRow, standIns := [], harness := (true, "ca5abecaf57af501bce836721bb3b3dd632496a5261d325fda63d7344d0a888c"), looks := false }, kinds := [], alts := [], laidByText := true, laidKinds := [.data], laidTests := true, laidLooks := .later }
def FracKeepsUptoCardSaid : Prop := Claim7.holds Tryz.pinned (.plain (OpenSpec.upto fracKeepsSpec)) fracKeepsUptoCard
end Rows
end Go.Proofs.YthggegdkpalgbaaGreatDoor
