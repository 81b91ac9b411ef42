/-
  DERIVED. GIVEN WITH THE SEED: THE CARDS: each row of YtmjdmjflgiicaaaDoorRows.lean that lists a variable, with what it lists TIED to the program's text (the seventh form; the later family's looks); each row that meets fmt, with fmt's text TOLD by the authors' own Lean function (tested against real Go, not proved from fmt's source: count such statements apart). THE CARD IS WHAT COUNTS. Prove the row's statement (the work); the ties are given (YtmjdmjflgiicaaaDoorTie.lean); close each card by the builder's one call (the guide's Derived/Test/ToyasCard.lean, 'card_holds'). Laid BY PROGRAM, IN A SANDBOX (cutbox-door.mjs). By AI agents, Wed Nov 11 2026. No macro, syntax, notation, axiom, sorry.
-/
import Derived.Test.YtmjdmjflgiicaaaDoorRows
import GoSem.ClaimSeven
namespace Go.Proofs.YtmjdmjflgiicaaaDoor
namespace Rows

/-- THE TIED CARD OF 'trellislaw05.ZintResidues'. -/
def zintResiduesCard : Claim7 := { stood := { row := zintResiduesRow, standIns := [], harness := (true, "1b310c69318a9d7f1849b950525d14ca5c8f425798d22a132559f3542c035b69"), looks := false }, kinds := [], alts := [], laidByText := true, laidKinds := [.data], laidTests := true, laidLooks := .later }
def ZintResiduesCardSaid : Prop := Claim7.holds Tryd.pinned (.plain (OpenSpec.ofChange zintResiduesSpec)) zintResiduesCard

/-- THE TIED CARD OF 'trellislaw05.ZintDivides'. -/
def zintDividesCard : Claim7 := { stood := { row := zintDividesRow, standIns := [], harness := (true, "1b310c69318a9d7f1849b950525d14ca5c8f425798d22a132559f3542c035b69"), looks := false }, kinds := [], alts := [], laidByText := true, laidKinds := [.data], laidTests := true, laidLooks := .later }
def ZintDividesCardSaid : Prop := Claim7.holds Tryd.pinned (.plain (OpenSpec.ofChange zintDividesSpec)) zintDividesCard

/-- THE TIED CARD OF 'trellislaw04.RadixThere'. -/
def radixThereCard : Claim7 := { stood := { row := radixThereRow, standIns := [], harness := (true, "1b310c69318a9d7f1849b950525d14ca5c8f425798d22a132559f3542c035b69"), looks := false }, kinds := [], alts := [], laidByText := true, laidKinds := [.data], laidTests := true, laidLooks := .later }
def RadixThereCardSaid : Prop := Claim7.holds Tryd.pinned (.plain (OpenSpec.ofChange radixThereSpec)) radixThereCard

/-- THE TIED CARD OF 'trellislaw04.RadixStep'. -/
def radixStepCard : Claim7 := { stood := { row := radixStepRow, standIns := [], harness := (true, "1b310c69318a9d7f1849b950525d14ca5c8f425798d22a132559f3542c035b69"), looks := false }, kinds := [], alts := [], laidByText := true, laidKinds := [.data], laidTests := true, laidLooks := .later }
def RadixStepCardSaid : Prop := Claim7.holds Tryd.pinned (.plain (OpenSpec.ofChange radixStepSpec)) radixStepCard

/-- THE TIED CARD OF 'trellislaw04.RadixGroups'. -/
def radixGroupsCard : Claim7 := { stood := { row := radixGroupsRow, standIns := [], harness := (true, "1b310c69318a9d7f1849b950525d14ca5c8f425798d22a132559f3542c035b69"), looks := false }, kinds := [], alts := [], laidByText := true, laidKinds := [.data], laidTests := true, laidLooks := .later }
def RadixGroupsCardSaid : Prop := Claim7.holds Tryd.pinned (.plain (OpenSpec.ofChange radixGroupsSpec)) radixGroupsCard

/-- THE TIED CARD OF 'trellislaw04.RadixBack'. -/
def radixBackCard : Claim7 := { stood := { row := radixBackRow, standIns := [], harness := (true, "1b310c69318a9d7f1849b950525d14ca5c8f425798d22a132559f3542c035b69"), looks := false }, kinds := [], alts := [], laidByText := true, laidKinds := [.data], laidTests := true, laidLooks := .later }
def RadixBackCardSaid : Prop := Claim7.holds Tryd.pinned (.plain (OpenSpec.ofChange radixBackSpec)) radixBackCard

/-- THE TIED CARD OF 'trellislaw04.RadixTexts'. -/
def radixTextsCard : Claim7 := { stood := { row := radixTextsRow, standIns := [], harness := (true, "1b310c69318a9d7f1849b950525d14ca5c8f425798d22a132559f3542c035b69"), looks := false }, kinds := [], alts := [], laidByText := true, laidKinds := [.data], laidTests := true, laidLooks := .later }
def RadixTextsCardSaid : Prop := Claim7.holds Tryd.pinned (.plain (OpenSpec.ofChange radixTextsSpec)) radixTextsCard

/-- THE TIED CARD OF 'trellislaw04.RadixReads'. -/
def radixReadsCard : Claim7 := { stood := { row := radixReadsRow, standIns := [], harness := (true, "1b310c69318a9d7f1849b950525d14ca5c8f425798d22a132559f3542c035b69"), looks := false }, kinds := [], alts := [], laidByText := true, laidKinds := [.data], laidTests := true, laidLooks := .later }
def RadixReadsCardSaid : Prop := Claim7.holds Tryd.pinned (.plain (OpenSpec.ofChange radixReadsSpec)) radixReadsCard

/-- THE TIED CARD OF 'trellislaw04.RadixAll'. -/
def radixAllCard : Claim7 := { stood := { row := radixAllRow, standIns := [], harness := (true, "1b310c69318a9d7f1849b950525d14ca5c8f425798d22a132559f3542c035b69"), looks := false }, kinds := [], alts := [], laidByText := true, laidKinds := [.data], laidTests := true, laidLooks := .later }
def RadixAllCardSaid : Prop := Claim7.holds Tryd.pinned (.plain (OpenSpec.ofChange radixAllSpec)) radixAllCard

/-- THE TIED CARD OF 'trellislaw04.RadixKeeps'. -/
def radixKeepsCard : Claim7 := { stood := { row := radixKeepsRow, standIns := [], harness := (true, "1b310c69318a9d7f1849b950525d14ca5c8f425798d22a132559f3542c035b69"), looks := false }, kinds := [], alts := [], laidByText := true, laidKinds := [.data], laidTests := true, laidLooks := .later }
def RadixKeepsCardSaid : Prop := Claim7.holds Tryd.pinned (.plain (OpenSpec.ofChange radixKeepsSpec)) radixKeepsCard

/-- THE TIED CARD OF 'trellislaw05.ZintTexts'. -/
def zintTextsCard : Claim7 := { stood := { row := zintTextsRow, standIns := [], harness := (true, "1b310c69318a9d7f1849b950525d14ca5c8f425798d22a132559f3542c035b69"), looks := false }, kinds := [], alts := [], laidByText := true, laidKinds := [.data], laidTests := true, laidLooks := .later }
def ZintTextsCardSaid : Prop := Claim7.holds Tryd.pinned (.plain (OpenSpec.ofChange zintTextsSpec)) zintTextsCard

/-- THE SECOND FORM's CARD OF 'trellislaw05.ZintResidues'. -/
def zintResiduesUptoCard : Claim7 := { stood := { row := zintResiduesUptoRow, standIns := [], harness := (true, "1b310c69318a9d7f1849b950525d14ca5c8f425798d22a132559f3542c035b69"), looks := false }, kinds := [], alts := [], laidByText := true, laidKinds := [.data], laidTests := true, laidLooks := .later }
def ZintResiduesUptoCardSaid : Prop := Claim7.holds Tryd.pinned (.plain (OpenSpec.upto zintResiduesSpec)) zintResiduesUptoCard

/-- THE SECOND FORM's CARD OF 'trellislaw05.ZintDivides'. -/
def zintDividesUptoCard : Claim7 := { stood := { row := zintDividesUptoRow, standIns := [], harness := (true, "1b310c69318a9d7f1849b950525d14ca5c8f425798d22a132559f3542c035b69"), looks := false }, kinds := [], alts := [], laidByText := true, laidKinds := [.data], laidTests := true, laidLooks := .later }
def ZintDividesUptoCardSaid : Prop := Claim7.holds Tryd.pinned (.plain (OpenSpec.upto zintDividesSpec)) zintDividesUptoCard

/-- THE SECOND FORM's CARD OF 'trellislaw04.RadixThere'. -/
def radixThereUptoCard : Claim7 := { stood := { row := radixThereUptoRow, standIns := [], harness := (true, "1b310c69318a9d7f1849b950525d14ca5c8f425798d22a132559f3542c035b69"), looks := false }, kinds := [], alts := [], laidByText := true, laidKinds := [.data], laidTests := true, laidLooks := .later }
def RadixThereUptoCardSaid : Prop := Claim7.holds Tryd.pinned (.plain (OpenSpec.upto radixThereSpec)) radixThereUptoCard

/-- THE SECOND FORM's CARD OF 'trellislaw04.RadixStep'. -/
def radixStepUptoCard : Claim7 := { stood := { row := radixStepUptoRow, standIns := [], harness := (true, "1b310c69318a9d7f1849b950525d14ca5c8f425798d22a132559f3542c035b69"), looks := false }, kinds := [], alts := [], laidByText := true, laidKinds := [.data], laidTests := true, laidLooks := .later }
def RadixStepUptoCardSaid : Prop := Claim7.holds Tryd.pinned (.plain (OpenSpec.upto radixStepSpec)) radixStepUptoCard

/-- THE SECOND FORM's CARD OF 'trellislaw04.RadixGroups'. -/
def radixGroupsUptoCard : Claim7 := { stood := { row := radixGroupsUptoRow, standIns := [], harness := (true, "1b310c69318a9d7f1849b950525d14ca5c8f425798d22a132559f3542c035b69"), looks := false }, kinds := [], alts := [], laidByText := true, laidKinds := [.data], laidTests := true, laidLooks := .later }
def RadixGroupsUptoCardSaid : Prop := Claim7.holds Tryd.pinned (.plain (OpenSpec.upto radixGroupsSpec)) radixGroupsUptoCard

/-- THE SECOND FORM's CARD OF 'trellislaw04.RadixBack'. -/
def radixBackUptoCard : Claim7 := { stood := { row := radixBackUptoRow, standIns := [], harness := (true, "1b310c69318a9d7f1849b950525d14ca5c8f425798d22a132559f3542c035b69"), looks := false }, kinds := [], alts := [], laidByText := true, laidKinds := [.data], laidTests := true, laidLooks := .later }
def RadixBackUptoCardSaid : Prop := Claim7.holds Tryd.pinned (.plain (OpenSpec.upto radixBackSpec)) radixBackUptoCard

/-- THE SECOND FORM's CARD OF 'trellislaw04.RadixTexts'. -/
def radixTextsUptoCard : Claim7 := { stood := { row := radixTextsUptoRow, standIns := [], harness := (true, "1b310c69318a9d7f1849b950525d14ca5c8f425798d22a132559f3542c035b69"), looks := false }, kinds := [], alts := [], laidByText := true, laidKinds := [.data], laidTests := true, laidLooks := .later }
def RadixTextsUptoCardSaid : Prop := Claim7.holds Tryd.pinned (.plain (OpenSpec.upto radixTextsSpec)) radixTextsUptoCard

/-- THE SECOND FORM's CARD OF 'trellislaw04.RadixReads'. -/
def radixReadsUptoCard : Claim7 := { stood := { row := radixReadsUptoRow, standIns := [], harness := (true, "1b310c69318a9d7f1849b950525d14ca5c8f425798d22a132559f3542c035b69"), looks := false }, kinds := [], alts := [], laidByText := true, laidKinds := [.data], laidTests := true, laidLooks := .later }
def RadixReadsUptoCardSaid : Prop := Claim7.holds Tryd.pinned (.plain (OpenSpec.upto radixReadsSpec)) radixReadsUptoCard

/-- THE SECOND FORM's CARD OF 'trellislaw04.RadixAll'. -/
def radixAllUptoCard : Claim7 := { stood := { row := radixAllUptoRow, standIns := [], harness := (true, "1b310c69318a9d7f1849b950525d14ca5c8f425798d22a132559f3542c035b69"), looks := false }, kinds := [], alts := [], laidByText := true, laidKinds := [.data], laidTests := true, laidLooks := .later }
def RadixAllUptoCardSaid : Prop := Claim7.holds Tryd.pinned (.plain (OpenSpec.upto radixAllSpec)) radixAllUptoCard

/-- THE SECOND FORM's CARD OF 'trellislaw04.RadixKeeps'. -/
def radixKeepsUptoCard : Claim7 := { stood := { row := radixKeepsUptoRow, standIns := [], harness := (true, "1b310c69318a9d7f1849b950525d14ca5c8f425798d22a132559f3542c035b69"), looks := false }, kinds := [], alts := [], laidByText := true, laidKinds := [.data], laidTests := true, laidLooks := .later }
def RadixKeepsUptoCardSaid : Prop := Claim7.holds Tryd.pinned (.plain (OpenSpec.upto radixKeepsSpec)) radixKeepsUptoCard

/-- THE SECOND FORM's CARD OF 'trellislaw05.ZintTexts'. -/
def zintTextsUptoCard : Claim7 := { stood := { row := zintTextsUptoRow, standIns := [], harness := (true, "1b310c69318a9d7f1849b950525d14ca5c8f425798d22a132559f3542c035b69"), looks := false }, kinds := [], alts := [], laidByText := true, laidKinds := [.data], laidTests := true, laidLooks := .later }
def ZintTextsUptoCardSaid : Prop := Claim7.holds Tryd.pinned (.plain (OpenSpec.upto zintTextsSpec)) zintTextsUptoCard
end Rows
end Go.Proofs.YtmjdmjflgiicaaaDoor
