/-
  DERIVED. GIVEN WITH THE SEED: THE CARDS: each row of YtipklngcpmkfhaaDoorRows.lean that lists a variable, with what it lists TIED to the program's text (the seventh form; the later family's looks); each row that meets fmt, with fmt's text TOLD by the authors' own Lean function (tested against real Go, not proved from fmt's source: count such statements apart). THE CARD IS WHAT COUNTS. Prove the row's statement (the work); the ties are given (YtipklngcpmkfhaaDoorTie.lean); close each card by the builder's one call (the guide's Derived/Test/ToyasCard.lean, 'card_holds'). Laid BY PROGRAM, IN A SANDBOX (cutbox-door.mjs). By AI agents, Wed Nov 11 2026. No macro, syntax, notation, axiom, sorry.
-/
import Derived.Test.YtipklngcpmkfhaaDoorRows
import GoSem.ClaimSeven
namespace Go.Proofs.YtipklngcpmkfhaaDoor
namespace Rows

/-- THE TIED CARD OF 'trellislaw08.FracBack'. -/
def fracBackCard : Claim7 := { stood := { row := fracBackRow, standIns := [], harness := (true, "9e2067a3d334440ac156c2e4d3ee11a05f315c39a074b786a3cd89083335cc47"), looks := false }, kinds := [], alts := [], laidByText := true, laidKinds := [.data], laidTests := true, laidLooks := .later }
def FracBackCardSaid : Prop := Claim7.holds Tryd.pinned (.plain (OpenSpec.ofChange fracBackSpec)) fracBackCard

/-- THE TIED CARD OF 'trellislaw07.ApproxRounds'. -/
def approxRoundsCard : Claim7 := { stood := { row := approxRoundsRow, standIns := [], harness := (true, "9e2067a3d334440ac156c2e4d3ee11a05f315c39a074b786a3cd89083335cc47"), looks := false }, kinds := [], alts := [], laidByText := true, laidKinds := [.data], laidTests := true, laidLooks := .later }
def ApproxRoundsCardSaid : Prop := Claim7.holds Tryd.pinned (.plain (OpenSpec.ofChange approxRoundsSpec)) approxRoundsCard

/-- THE TIED CARD OF 'trellislaw07.ApproxTexts'. -/
def approxTextsCard : Claim7 := { stood := { row := approxTextsRow, standIns := [], harness := (true, "9e2067a3d334440ac156c2e4d3ee11a05f315c39a074b786a3cd89083335cc47"), looks := false }, kinds := [], alts := [], laidByText := true, laidKinds := [.data], laidTests := true, laidLooks := .later }
def ApproxTextsCardSaid : Prop := Claim7.holds Tryd.pinned (.plain (OpenSpec.ofChange approxTextsSpec)) approxTextsCard

/-- THE TIED CARD OF 'trellislaw07.ApproxSeventeen'. -/
def approxSeventeenCard : Claim7 := { stood := { row := approxSeventeenRow, standIns := [], harness := (true, "9e2067a3d334440ac156c2e4d3ee11a05f315c39a074b786a3cd89083335cc47"), looks := false }, kinds := [], alts := [], laidByText := true, laidKinds := [.data], laidTests := true, laidLooks := .later }
def ApproxSeventeenCardSaid : Prop := Claim7.holds Tryd.pinned (.plain (OpenSpec.ofChange approxSeventeenSpec)) approxSeventeenCard

/-- THE SECOND FORM's CARD OF 'trellislaw08.FracBack'. -/
def fracBackUptoCard : Claim7 := { stood := { row := fracBackUptoRow, standIns := [], harness := (true, "9e2067a3d334440ac156c2e4d3ee11a05f315c39a074b786a3cd89083335cc47"), looks := false }, kinds := [], alts := [], laidByText := true, laidKinds := [.data], laidTests := true, laidLooks := .later }
def FracBackUptoCardSaid : Prop := Claim7.holds Tryd.pinned (.plain (OpenSpec.upto fracBackSpec)) fracBackUptoCard

/-- THE SECOND FORM's CARD OF 'trellislaw07.ApproxRounds'. -/
def approxRoundsUptoCard : Claim7 := { stood := { row := approxRoundsUptoRow, standIns := [], harness := (true, "9e2067a3d334440ac156c2e4d3ee11a05f315c39a074b786a3cd89083335cc47"), looks := false }, kinds := [], alts := [], laidByText := true, laidKinds := [.data], laidTests := true, laidLooks := .later }
def ApproxRoundsUptoCardSaid : Prop := Claim7.holds Tryd.pinned (.plain (OpenSpec.upto approxRoundsSpec)) approxRoundsUptoCard

/-- THE SECOND FORM's CARD OF 'trellislaw07.ApproxTexts'. -/
def approxTextsUptoCard : Claim7 := { stood := { row := approxTextsUptoRow, standIns := [], harness := (true, "9e2067a3d334440ac156c2e4d3ee11a05f315c39a074b786a3cd89083335cc47"), looks := false }, kinds := [], alts := [], laidByText := true, laidKinds := [.data], laidTests := true, laidLooks := .later }
def ApproxTextsUptoCardSaid : Prop := Claim7.holds Tryd.pinned (.plain (OpenSpec.upto approxTextsSpec)) approxTextsUptoCard

/-- THE SECOND FORM's CARD OF 'trellislaw07.ApproxSeventeen'. -/
def approxSeventeenUptoCard : Claim7 := { stood := { row := approxSeventeenUptoRow, standIns := [], harness := (true, "9e2067a3d334440ac156c2e4d3ee11a05f315c39a074b786a3cd89083335cc47"), looks := false }, kinds := [], alts := [], laidByText := true, laidKinds := [.data], laidTests := true, laidLooks := .later }
def ApproxSeventeenUptoCardSaid : Prop := Claim7.holds Tryd.pinned (.plain (OpenSpec.upto approxSeventeenSpec)) approxSeventeenUptoCard
end Rows
end Go.Proofs.YtipklngcpmkfhaaDoor
