/-
  DERIVED. GIVEN WITH THE SEED: THE CARDS: each row of YtmaconeeonkdgaaDoorRows.lean that lists a variable, with what it lists TIED to the program's text (the seventh form; the later family's looks); each row that meets fmt, with fmt's text TOLD by the authors' own Lean function (tested against real Go, not proved from fmt's source: count such statements apart). THE CARD IS WHAT COUNTS. Prove the row's statement (the work); the ties are given (YtmaconeeonkdgaaDoorTie.lean); close each card by the builder's one call (the guide's Derived/Test/ToyasCard.lean, 'card_holds'). Laid BY PROGRAM, IN A SANDBOX (cutbox-door.mjs). By AI agents, Wed Nov 11 2026. No macro, syntax, notation, axiom, sorry.
-/
import Derived.Test.YtmaconeeonkdgaaDoorRows
import GoSem.ClaimSeven
namespace Go.Proofs.YtmaconeeonkdgaaDoor
namespace Rows

/-- THE TIED CARD OF 'trellislaw05.ZintRing'. -/
def zintRingCard : Claim7 := { stood := { row := zintRingRow, standIns := [], harness := (true, "6252764a36ffccdbb2e9ea432cb34aa0da30f4bbfbb004622150c1f78e6e0d17"), looks := false }, kinds := [], alts := [], laidByText := true, laidKinds := [.data], laidTests := true, laidLooks := .later }
def ZintRingCardSaid : Prop := Claim7.holds Tryd.pinned (.plain (OpenSpec.ofChange zintRingSpec)) zintRingCard

/-- THE TIED CARD OF 'trellislaw05.ZintOrder'. -/
def zintOrderCard : Claim7 := { stood := { row := zintOrderRow, standIns := [], harness := (true, "6252764a36ffccdbb2e9ea432cb34aa0da30f4bbfbb004622150c1f78e6e0d17"), looks := false }, kinds := [], alts := [], laidByText := true, laidKinds := [.data], laidTests := true, laidLooks := .later }
def ZintOrderCardSaid : Prop := Claim7.holds Tryd.pinned (.plain (OpenSpec.ofChange zintOrderSpec)) zintOrderCard

/-- THE TIED CARD OF 'trellislaw05.ZintResidues'. -/
def zintResiduesCard : Claim7 := { stood := { row := zintResiduesRow, standIns := [], harness := (true, "6252764a36ffccdbb2e9ea432cb34aa0da30f4bbfbb004622150c1f78e6e0d17"), looks := false }, kinds := [], alts := [], laidByText := true, laidKinds := [.data], laidTests := true, laidLooks := .later }
def ZintResiduesCardSaid : Prop := Claim7.holds Tryd.pinned (.plain (OpenSpec.ofChange zintResiduesSpec)) zintResiduesCard

/-- THE TIED CARD OF 'trellislaw05.ZintDivides'. -/
def zintDividesCard : Claim7 := { stood := { row := zintDividesRow, standIns := [], harness := (true, "6252764a36ffccdbb2e9ea432cb34aa0da30f4bbfbb004622150c1f78e6e0d17"), looks := false }, kinds := [], alts := [], laidByText := true, laidKinds := [.data], laidTests := true, laidLooks := .later }
def ZintDividesCardSaid : Prop := Claim7.holds Tryd.pinned (.plain (OpenSpec.ofChange zintDividesSpec)) zintDividesCard

/-- THE SECOND FORM's CARD OF 'trellislaw05.ZintRing'. -/
def zintRingUptoCard : Claim7 := { stood := { row := zintRingUptoRow, standIns := [], harness := (true, "6252764a36ffccdbb2e9ea432cb34aa0da30f4bbfbb004622150c1f78e6e0d17"), looks := false }, kinds := [], alts := [], laidByText := true, laidKinds := [.data], laidTests := true, laidLooks := .later }
def ZintRingUptoCardSaid : Prop := Claim7.holds Tryd.pinned (.plain (OpenSpec.upto zintRingSpec)) zintRingUptoCard

/-- THE SECOND FORM's CARD OF 'trellislaw05.ZintOrder'. -/
def zintOrderUptoCard : Claim7 := { stood := { row := zintOrderUptoRow, standIns := [], harness := (true, "6252764a36ffccdbb2e9ea432cb34aa0da30f4bbfbb004622150c1f78e6e0d17"), looks := false }, kinds := [], alts := [], laidByText := true, laidKinds := [.data], laidTests := true, laidLooks := .later }
def ZintOrderUptoCardSaid : Prop := Claim7.holds Tryd.pinned (.plain (OpenSpec.upto zintOrderSpec)) zintOrderUptoCard

/-- THE SECOND FORM's CARD OF 'trellislaw05.ZintResidues'. -/
def zintResiduesUptoCard : Claim7 := { stood := { row := zintResiduesUptoRow, standIns := [], harness := (true, "6252764a36ffccdbb2e9ea432cb34aa0da30f4bbfbb004622150c1f78e6e0d17"), looks := false }, kinds := [], alts := [], laidByText := true, laidKinds := [.data], laidTests := true, laidLooks := .later }
def ZintResiduesUptoCardSaid : Prop := Claim7.holds Tryd.pinned (.plain (OpenSpec.upto zintResiduesSpec)) zintResiduesUptoCard

/-- THE SECOND FORM's CARD OF 'trellislaw05.ZintDivides'. -/
def zintDividesUptoCard : Claim7 := { stood := { row := zintDividesUptoRow, standIns := [], harness := (true, "6252764a36ffccdbb2e9ea432cb34aa0da30f4bbfbb004622150c1f78e6e0d17"), looks := false }, kinds := [], alts := [], laidByText := true, laidKinds := [.data], laidTests := true, laidLooks := .later }
def ZintDividesUptoCardSaid : Prop := Claim7.holds Tryd.pinned (.plain (OpenSpec.upto zintDividesSpec)) zintDividesUptoCard
end Rows
end Go.Proofs.YtmaconeeonkdgaaDoor
