/-
  DERIVED. GIVEN WITH THE SEED: THE CARDS: each row of YtkepckmdjncehaaGreatDoorRows.lean that lists a variable, with what it lists TIED to the program's text (the seventh form; the later family's looks); each row that meets fmt, with fmt's text TOLD by the authors' own Lean function (tested against real Go, not proved from fmt's source: count such statements apart). THE CARD IS WHAT COUNTS. Prove the row's statement (the work); the ties are given (YtkepckmdjncehaaGreatDoorTie.lean); close each card by the builder's one call (the guide's Derived/Test/ToyasCard.lean, 'card_holds'). Laid BY PROGRAM, IN A SANDBOX (cutbox-door.mjs). By AI agents, Wed Nov 11 2026. No macro, syntax, notation, axiom, sorry.
-/
import Derived.Test.YtkepckmdjncehaaGreatDoorRows
import GoSem.ClaimSeven
namespace Go.Proofs.YtkepckmdjncehaaGreatDoor
namespace Rows

/-- THE TIED CARD OF 'trellislaw05.ZintKeeps'. -/
def zintKeepsCard : Claim7 := { stood := { row := zintKeepsRow, standIns := [], harness := (true, "f00b7a8a70db941170d7c80fa7af8aeeb8c7e0e7ab0810254515d89356cb073c"), looks := false }, kinds := [], alts := [], laidByText := true, laidKinds := [.data], laidTests := true, laidLooks := .later }
def ZintKeepsCardSaid : Prop := Claim7.holds Tryz.pinned (.plain (OpenSpec.ofChange zintKeepsSpec)) zintKeepsCard

/-- THE TIED CARD OF 'trellislaw08.FracPlays'. -/
def fracPlaysCard : Claim7 := { stood := { row := fracPlaysRow, standIns := [], harness := (true, "f00b7a8a70db941170d7c80fa7af8aeeb8c7e0e7ab0810254515d89356cb073c"), looks := false }, kinds := [], alts := [], laidByText := true, laidKinds := [.data], laidTests := true, laidLooks := .later }
def FracPlaysCardSaid : Prop := Claim7.holds Tryz.pinned (.plain (OpenSpec.ofChange fracPlaysSpec)) fracPlaysCard

/-- THE TIED CARD OF 'trellislaw08.FracKeeps'. -/
def fracKeepsCard : Claim7 := { stood := { row := fracKeepsRow, standIns := [], harness := (true, "f00b7a8a70db941170d7c80fa7af8aeeb8c7e0e7ab0810254515d89356cb073c"), looks := false }, kinds := [], alts := [], laidByText := true, laidKinds := [.data], laidTests := true, laidLooks := .later }
def FracKeepsCardSaid : Prop := Claim7.holds Tryz.pinned (.plain (OpenSpec.ofChange fracKeepsSpec)) fracKeepsCard

/-- THE TIED CARD OF 'trellislaw07.ApproxAll'. -/
def approxAllCard : Claim7 := { stood := { row := approxAllRow, standIns := [], harness := (true, "f00b7a8a70db941170d7c80fa7af8aeeb8c7e0e7ab0810254515d89356cb073c"), looks := false }, kinds := [], alts := [], laidByText := true, laidKinds := [.data], laidTests := true, laidLooks := .later }
def ApproxAllCardSaid : Prop := Claim7.holds Tryz.pinned (.plain (OpenSpec.ofChange approxAllSpec)) approxAllCard

/-- THE TIED CARD OF 'trellislaw07.ApproxKeeps'. -/
def approxKeepsCard : Claim7 := { stood := { row := approxKeepsRow, standIns := [], harness := (true, "f00b7a8a70db941170d7c80fa7af8aeeb8c7e0e7ab0810254515d89356cb073c"), looks := false }, kinds := [], alts := [], laidByText := true, laidKinds := [.data], laidTests := true, laidLooks := .later }
def ApproxKeepsCardSaid : Prop := Claim7.holds Tryz.pinned (.plain (OpenSpec.ofChange approxKeepsSpec)) approxKeepsCard

/-- THE SECOND FORM's CARD OF 'trellislaw05.ZintKeeps'. -/
def zintKeepsUptoCard : Claim7 := { stood := { row := zintKeepsUptoRow, standIns := [], harness := (true, "f00b7a8a70db941170d7c80fa7af8aeeb8c7e0e7ab0810254515d89356cb073c"), looks := false }, kinds := [], alts := [], laidByText := true, laidKinds := [.data], laidTests := true, laidLooks := .later }
def ZintKeepsUptoCardSaid : Prop := Claim7.holds Tryz.pinned (.plain (OpenSpec.upto zintKeepsSpec)) zintKeepsUptoCard

/-- THE SECOND FORM's CARD OF 'trellislaw08.FracPlays'. -/
def fracPlaysUptoCard : Claim7 := { stood := { row := fracPlaysUptoRow, standIns := [], harness := (true, "f00b7a8a70db941170d7c80fa7af8aeeb8c7e0e7ab0810254515d89356cb073c"), looks := false }, kinds := [], alts := [], laidByText := true, laidKinds := [.data], laidTests := true, laidLooks := .later }
def FracPlaysUptoCardSaid : Prop := Claim7.holds Tryz.pinned (.plain (OpenSpec.upto fracPlaysSpec)) fracPlaysUptoCard

/-- THE SECOND FORM's CARD OF 'trellislaw08.FracKeeps'. -/
def fracKeepsUptoCard : Claim7 := { stood := { row := fracKeepsUptoRow, standIns := [], harness := (true, "f00b7a8a70db941170d7c80fa7af8aeeb8c7e0e7ab0810254515d89356cb073c"), looks := false }, kinds := [], alts := [], laidByText := true, laidKinds := [.data], laidTests := true, laidLooks := .later }
def FracKeepsUptoCardSaid : Prop := Claim7.holds Tryz.pinned (.plain (OpenSpec.upto fracKeepsSpec)) fracKeepsUptoCard

/-- THE SECOND FORM's CARD OF 'trellislaw07.ApproxAll'. -/
def approxAllUptoCard : Claim7 := { stood := { row := approxAllUptoRow, standIns := [], harness := (true, "f00b7a8a70db941170d7c80fa7af8aeeb8c7e0e7ab0810254515d89356cb073c"), looks := false }, kinds := [], alts := [], laidByText := true, laidKinds := [.data], laidTests := true, laidLooks := .later }
def ApproxAllUptoCardSaid : Prop := Claim7.holds Tryz.pinned (.plain (OpenSpec.upto approxAllSpec)) approxAllUptoCard

/-- THE SECOND FORM's CARD OF 'trellislaw07.ApproxKeeps'. -/
def approxKeepsUptoCard : Claim7 := { stood := { row := approxKeepsUptoRow, standIns := [], harness := (true, "f00b7a8a70db941170d7c80fa7af8aeeb8c7e0e7ab0810254515d89356cb073c"), looks := false }, kinds := [], alts := [], laidByText := true, laidKinds := [.data], laidTests := true, laidLooks := .later }
def ApproxKeepsUptoCardSaid : Prop := Claim7.holds Tryz.pinned (.plain (OpenSpec.upto approxKeepsSpec)) approxKeepsUptoCard
end Rows
end Go.Proofs.YtkepckmdjncehaaGreatDoor
