/-
  NARROWER THAN 'FOR EVERY INPUT', by the rows' own cells (each row's printed sentence says how): ZintResidues: laid · ZintDivides: laid · RadixThere: laid · RadixStep: laid · RadixGroups: laid · RadixBack: laid · RadixTexts: laid · RadixReads: laid · RadixAll: laid · RadixKeeps: laid · ZintTexts: laid.
  DERIVED. THE GIVEN ROWS OF THIS SEAT. 11 by the template 'for every input the law returns true; each argument reads behind the call as it read before'; 0 by the template 'total and deterministic' (their statements: YtmjdmjflgiicaaaDoorTotals.lean).
  GIVEN WITH THE SEED: the statements are not yours to turn. If you find one false, say at which input.
  Laid BY PROGRAM, IN A SANDBOX (cutbox-rows.mjs): the forced cells as the released guide's own fill.sh prints them over the translation 6e27c2d8706c448f… (all of the seat's roots in one cut). By AI agents, Wed Nov 11 2026. No macro, syntax, notation, axiom, sorry.
-/
import Derived.Test.YtmjdmjflgiicaaaDoorChecked
import GoSem.Claim
import GoSem.ClaimJoined
import GoSem.ClaimMapViews
import Derived.JoinedTies
import Derived.KernelRfl
namespace Go.Proofs.YtmjdmjflgiicaaaDoor
/- THE CELL 'sum', in the pinned program and in every row, IS THE sha256 OF THE DUMP (.gsa) THAT YtmjdmjflgiicaaaDoorProg.lean LOADS. Nothing in Lean hashes anything: it is a label: what it is worth is what the hold of that sum in a sandbox is worth. -/
noncomputable def Tryd.pinned : Pinned := { name := "ytmjdmjflgiicaaadoor", sum := "6e27c2d8706c448f1f88428fe68a60715fb4dddef4f300c54c91e7c3f247aaba", checked := Tryd.checked }
namespace Rows
def none {H : Type} : Left H := { results := [], args := [] }

/- WHAT THE LISTED PACKAGE-LEVEL VARIABLES READ AS WHEN THE CALL BEGINS. Each datum BY PROGRAM (the guide's laid-datum.mjs) off the statement by which the dump's own 'gosem.cut.vars' lays the variable. In a bare row this is a premise. The card (YtmjdmjflgiicaaaDoorCards.lean) ties it to the program's text. -/
def laid_trellis_radix_signs {H : Type} : DataW H := .agg [.lit (.int .u8 48), .lit (.int .u8 49), .lit (.int .u8 50), .lit (.int .u8 51), .lit (.int .u8 52), .lit (.int .u8 53), .lit (.int .u8 54), .lit (.int .u8 55), .lit (.int .u8 56), .lit (.int .u8 57), .lit (.int .u8 97), .lit (.int .u8 98), .lit (.int .u8 99), .lit (.int .u8 100), .lit (.int .u8 101), .lit (.int .u8 102), .lit (.int .u8 103), .lit (.int .u8 104), .lit (.int .u8 105), .lit (.int .u8 106), .lit (.int .u8 107), .lit (.int .u8 108), .lit (.int .u8 109), .lit (.int .u8 110), .lit (.int .u8 111), .lit (.int .u8 112), .lit (.int .u8 113), .lit (.int .u8 114), .lit (.int .u8 115), .lit (.int .u8 116), .lit (.int .u8 117), .lit (.int .u8 118), .lit (.int .u8 119), .lit (.int .u8 120), .lit (.int .u8 121), .lit (.int .u8 122)]

/-- 'trellislaw05.ZintResidues': WHATEVER THE INPUT: true; the input reads as it did. -/
def zintResiduesSpec : ChangeSpec := { name := "zintResidues", fn := fun _ => fun
  | [d1, d2, d3] => { results := [.lit (.bool true)], args := [d1, d2, d3] }
  | _ => none }
def zintResiduesRow : OpenClaim := { program := "ytmjdmjflgiicaaadoor", sum := "6e27c2d8706c448f1f88428fe68a60715fb4dddef4f300c54c91e7c3f247aaba", func := "trellis/trellislaw05.ZintResidues", spec := "zintResidues", inPlace := ["math/bits.Add64", "math/bits.Sub64"], recurses := true, named := ["math/bits.divideError", "math/bits.overflowError", "trellis/radix.signs"], apart := false, laid := [("trellis/radix.signs", laid_trellis_radix_signs)] }
def ZintResiduesSaid : Prop := zintResiduesRow.holds Tryd.pinned (OpenSpec.ofChange zintResiduesSpec)

/-- ITS FALSE NEIGHBOUR: 'it returns false'. Refute it at one input. -/
def zintResiduesWrong : ChangeSpec := { name := "zintResidues", fn := fun _ => fun
  | [d1, d2, d3] => { results := [.lit (.bool false)], args := [d1, d2, d3] }
  | _ => none }
def ZintResiduesWrongFalsely : Prop := zintResiduesRow.holds Tryd.pinned (OpenSpec.ofChange zintResiduesWrong)

/-- 'trellislaw05.ZintDivides': WHATEVER THE INPUT: true; the input reads as it did. -/
def zintDividesSpec : ChangeSpec := { name := "zintDivides", fn := fun _ => fun
  | [d1, d2] => { results := [.lit (.bool true)], args := [d1, d2] }
  | _ => none }
def zintDividesRow : OpenClaim := { program := "ytmjdmjflgiicaaadoor", sum := "6e27c2d8706c448f1f88428fe68a60715fb4dddef4f300c54c91e7c3f247aaba", func := "trellis/trellislaw05.ZintDivides", spec := "zintDivides", inPlace := ["math/bits.Add64", "math/bits.Sub64"], recurses := true, named := ["math/bits.divideError", "math/bits.overflowError", "trellis/radix.signs"], apart := false, laid := [("trellis/radix.signs", laid_trellis_radix_signs)] }
def ZintDividesSaid : Prop := zintDividesRow.holds Tryd.pinned (OpenSpec.ofChange zintDividesSpec)

/-- ITS FALSE NEIGHBOUR: 'it returns false'. Refute it at one input. -/
def zintDividesWrong : ChangeSpec := { name := "zintDivides", fn := fun _ => fun
  | [d1, d2] => { results := [.lit (.bool false)], args := [d1, d2] }
  | _ => none }
def ZintDividesWrongFalsely : Prop := zintDividesRow.holds Tryd.pinned (OpenSpec.ofChange zintDividesWrong)

/-- 'trellislaw04.RadixThere': WHATEVER THE INPUT: true; the input reads as it did. -/
def radixThereSpec : ChangeSpec := { name := "radixThere", fn := fun _ => fun
  | [d1, d2] => { results := [.lit (.bool true)], args := [d1, d2] }
  | _ => none }
def radixThereRow : OpenClaim := { program := "ytmjdmjflgiicaaadoor", sum := "6e27c2d8706c448f1f88428fe68a60715fb4dddef4f300c54c91e7c3f247aaba", func := "trellis/trellislaw04.RadixThere", spec := "radixThere", inPlace := ["math/bits.Add64", "math/bits.Sub64"], recurses := true, named := ["math/bits.divideError", "math/bits.overflowError", "trellis/radix.signs"], apart := false, laid := [("trellis/radix.signs", laid_trellis_radix_signs)] }
def RadixThereSaid : Prop := radixThereRow.holds Tryd.pinned (OpenSpec.ofChange radixThereSpec)

/-- ITS FALSE NEIGHBOUR: 'it returns false'. Refute it at one input. -/
def radixThereWrong : ChangeSpec := { name := "radixThere", fn := fun _ => fun
  | [d1, d2] => { results := [.lit (.bool false)], args := [d1, d2] }
  | _ => none }
def RadixThereWrongFalsely : Prop := radixThereRow.holds Tryd.pinned (OpenSpec.ofChange radixThereWrong)

/-- 'trellislaw04.RadixStep': WHATEVER THE INPUT: true; the input reads as it did. -/
def radixStepSpec : ChangeSpec := { name := "radixStep", fn := fun _ => fun
  | [d1, d2, d3] => { results := [.lit (.bool true)], args := [d1, d2, d3] }
  | _ => none }
def radixStepRow : OpenClaim := { program := "ytmjdmjflgiicaaadoor", sum := "6e27c2d8706c448f1f88428fe68a60715fb4dddef4f300c54c91e7c3f247aaba", func := "trellis/trellislaw04.RadixStep", spec := "radixStep", inPlace := ["math/bits.Add64", "math/bits.Sub64"], recurses := true, named := ["math/bits.divideError", "math/bits.overflowError", "trellis/radix.signs"], apart := false, laid := [("trellis/radix.signs", laid_trellis_radix_signs)] }
def RadixStepSaid : Prop := radixStepRow.holds Tryd.pinned (OpenSpec.ofChange radixStepSpec)

/-- ITS FALSE NEIGHBOUR: 'it returns false'. Refute it at one input. -/
def radixStepWrong : ChangeSpec := { name := "radixStep", fn := fun _ => fun
  | [d1, d2, d3] => { results := [.lit (.bool false)], args := [d1, d2, d3] }
  | _ => none }
def RadixStepWrongFalsely : Prop := radixStepRow.holds Tryd.pinned (OpenSpec.ofChange radixStepWrong)

/-- 'trellislaw04.RadixGroups': WHATEVER THE INPUT: true; the input reads as it did. -/
def radixGroupsSpec : ChangeSpec := { name := "radixGroups", fn := fun _ => fun
  | [d1, d2] => { results := [.lit (.bool true)], args := [d1, d2] }
  | _ => none }
def radixGroupsRow : OpenClaim := { program := "ytmjdmjflgiicaaadoor", sum := "6e27c2d8706c448f1f88428fe68a60715fb4dddef4f300c54c91e7c3f247aaba", func := "trellis/trellislaw04.RadixGroups", spec := "radixGroups", inPlace := ["math/bits.Add64", "math/bits.Sub64"], recurses := true, named := ["math/bits.divideError", "math/bits.overflowError", "trellis/radix.signs"], apart := false, laid := [("trellis/radix.signs", laid_trellis_radix_signs)] }
def RadixGroupsSaid : Prop := radixGroupsRow.holds Tryd.pinned (OpenSpec.ofChange radixGroupsSpec)

/-- ITS FALSE NEIGHBOUR: 'it returns false'. Refute it at one input. -/
def radixGroupsWrong : ChangeSpec := { name := "radixGroups", fn := fun _ => fun
  | [d1, d2] => { results := [.lit (.bool false)], args := [d1, d2] }
  | _ => none }
def RadixGroupsWrongFalsely : Prop := radixGroupsRow.holds Tryd.pinned (OpenSpec.ofChange radixGroupsWrong)

/-- 'trellislaw04.RadixBack': WHATEVER THE INPUT: true; the input reads as it did. -/
def radixBackSpec : ChangeSpec := { name := "radixBack", fn := fun _ => fun
  | [d1, d2] => { results := [.lit (.bool true)], args := [d1, d2] }
  | _ => none }
def radixBackRow : OpenClaim := { program := "ytmjdmjflgiicaaadoor", sum := "6e27c2d8706c448f1f88428fe68a60715fb4dddef4f300c54c91e7c3f247aaba", func := "trellis/trellislaw04.RadixBack", spec := "radixBack", inPlace := ["math/bits.Add64", "math/bits.Sub64"], recurses := true, named := ["math/bits.divideError", "math/bits.overflowError", "trellis/radix.signs"], apart := false, laid := [("trellis/radix.signs", laid_trellis_radix_signs)] }
def RadixBackSaid : Prop := radixBackRow.holds Tryd.pinned (OpenSpec.ofChange radixBackSpec)

/-- ITS FALSE NEIGHBOUR: 'it returns false'. Refute it at one input. -/
def radixBackWrong : ChangeSpec := { name := "radixBack", fn := fun _ => fun
  | [d1, d2] => { results := [.lit (.bool false)], args := [d1, d2] }
  | _ => none }
def RadixBackWrongFalsely : Prop := radixBackRow.holds Tryd.pinned (OpenSpec.ofChange radixBackWrong)

/-- 'trellislaw04.RadixTexts': WHATEVER THE INPUT: true; the input reads as it did. -/
def radixTextsSpec : ChangeSpec := { name := "radixTexts", fn := fun _ => fun
  | [d] => { results := [.lit (.bool true)], args := [d] }
  | _ => none }
def radixTextsRow : OpenClaim := { program := "ytmjdmjflgiicaaadoor", sum := "6e27c2d8706c448f1f88428fe68a60715fb4dddef4f300c54c91e7c3f247aaba", func := "trellis/trellislaw04.RadixTexts", spec := "radixTexts", inPlace := ["math/bits.Add64", "math/bits.Sub64"], recurses := true, named := ["math/bits.divideError", "math/bits.overflowError", "trellis/radix.signs"], apart := false, laid := [("trellis/radix.signs", laid_trellis_radix_signs)] }
def RadixTextsSaid : Prop := radixTextsRow.holds Tryd.pinned (OpenSpec.ofChange radixTextsSpec)

/-- ITS FALSE NEIGHBOUR: 'it returns false'. Refute it at one input. -/
def radixTextsWrong : ChangeSpec := { name := "radixTexts", fn := fun _ => fun
  | [d] => { results := [.lit (.bool false)], args := [d] }
  | _ => none }
def RadixTextsWrongFalsely : Prop := radixTextsRow.holds Tryd.pinned (OpenSpec.ofChange radixTextsWrong)

/-- 'trellislaw04.RadixReads': WHATEVER THE INPUT: true; the input reads as it did. -/
def radixReadsSpec : ChangeSpec := { name := "radixReads", fn := fun _ => fun
  | [d] => { results := [.lit (.bool true)], args := [d] }
  | _ => none }
def radixReadsRow : OpenClaim := { program := "ytmjdmjflgiicaaadoor", sum := "6e27c2d8706c448f1f88428fe68a60715fb4dddef4f300c54c91e7c3f247aaba", func := "trellis/trellislaw04.RadixReads", spec := "radixReads", inPlace := ["math/bits.Add64", "math/bits.Sub64"], recurses := true, named := ["math/bits.divideError", "math/bits.overflowError", "trellis/radix.signs"], apart := false, laid := [("trellis/radix.signs", laid_trellis_radix_signs)] }
def RadixReadsSaid : Prop := radixReadsRow.holds Tryd.pinned (OpenSpec.ofChange radixReadsSpec)

/-- ITS FALSE NEIGHBOUR: 'it returns false'. Refute it at one input. -/
def radixReadsWrong : ChangeSpec := { name := "radixReads", fn := fun _ => fun
  | [d] => { results := [.lit (.bool false)], args := [d] }
  | _ => none }
def RadixReadsWrongFalsely : Prop := radixReadsRow.holds Tryd.pinned (OpenSpec.ofChange radixReadsWrong)

/-- 'trellislaw04.RadixAll': WHATEVER THE INPUT: true; the input reads as it did. -/
def radixAllSpec : ChangeSpec := { name := "radixAll", fn := fun _ => fun
  | [d] => { results := [.lit (.bool true)], args := [d] }
  | _ => none }
def radixAllRow : OpenClaim := { program := "ytmjdmjflgiicaaadoor", sum := "6e27c2d8706c448f1f88428fe68a60715fb4dddef4f300c54c91e7c3f247aaba", func := "trellis/trellislaw04.RadixAll", spec := "radixAll", inPlace := ["math/bits.Add64", "math/bits.Sub64"], recurses := true, named := ["math/bits.divideError", "math/bits.overflowError", "trellis/radix.signs"], apart := false, laid := [("trellis/radix.signs", laid_trellis_radix_signs)] }
def RadixAllSaid : Prop := radixAllRow.holds Tryd.pinned (OpenSpec.ofChange radixAllSpec)

/-- ITS FALSE NEIGHBOUR: 'it returns false'. Refute it at one input. -/
def radixAllWrong : ChangeSpec := { name := "radixAll", fn := fun _ => fun
  | [d] => { results := [.lit (.bool false)], args := [d] }
  | _ => none }
def RadixAllWrongFalsely : Prop := radixAllRow.holds Tryd.pinned (OpenSpec.ofChange radixAllWrong)

/-- 'trellislaw04.RadixKeeps': WHATEVER THE INPUT: true; the input reads as it did. -/
def radixKeepsSpec : ChangeSpec := { name := "radixKeeps", fn := fun _ => fun
  | [d1, d2] => { results := [.lit (.bool true)], args := [d1, d2] }
  | _ => none }
def radixKeepsRow : OpenClaim := { program := "ytmjdmjflgiicaaadoor", sum := "6e27c2d8706c448f1f88428fe68a60715fb4dddef4f300c54c91e7c3f247aaba", func := "trellis/trellislaw04.RadixKeeps", spec := "radixKeeps", inPlace := ["math/bits.Add64", "math/bits.Sub64"], recurses := true, named := ["math/bits.divideError", "math/bits.overflowError", "trellis/radix.signs"], apart := false, laid := [("trellis/radix.signs", laid_trellis_radix_signs)] }
def RadixKeepsSaid : Prop := radixKeepsRow.holds Tryd.pinned (OpenSpec.ofChange radixKeepsSpec)

/-- ITS FALSE NEIGHBOUR: 'it returns false'. Refute it at one input. -/
def radixKeepsWrong : ChangeSpec := { name := "radixKeeps", fn := fun _ => fun
  | [d1, d2] => { results := [.lit (.bool false)], args := [d1, d2] }
  | _ => none }
def RadixKeepsWrongFalsely : Prop := radixKeepsRow.holds Tryd.pinned (OpenSpec.ofChange radixKeepsWrong)

/-- 'trellislaw05.ZintTexts': WHATEVER THE INPUT: true; the input reads as it did. -/
def zintTextsSpec : ChangeSpec := { name := "zintTexts", fn := fun _ => fun
  | [d1, d2] => { results := [.lit (.bool true)], args := [d1, d2] }
  | _ => none }
def zintTextsRow : OpenClaim := { program := "ytmjdmjflgiicaaadoor", sum := "6e27c2d8706c448f1f88428fe68a60715fb4dddef4f300c54c91e7c3f247aaba", func := "trellis/trellislaw05.ZintTexts", spec := "zintTexts", inPlace := ["math/bits.Add64", "math/bits.Sub64"], recurses := true, named := ["math/bits.divideError", "math/bits.overflowError", "trellis/radix.signs"], apart := false, laid := [("trellis/radix.signs", laid_trellis_radix_signs)] }
def ZintTextsSaid : Prop := zintTextsRow.holds Tryd.pinned (OpenSpec.ofChange zintTextsSpec)

/-- ITS FALSE NEIGHBOUR: 'it returns false'. Refute it at one input. -/
def zintTextsWrong : ChangeSpec := { name := "zintTexts", fn := fun _ => fun
  | [d1, d2] => { results := [.lit (.bool false)], args := [d1, d2] }
  | _ => none }
def ZintTextsWrongFalsely : Prop := zintTextsRow.holds Tryd.pinned (OpenSpec.ofChange zintTextsWrong)

/- THE SECOND FORM. 'bulk': how many values and letters a reading holds, each counted each time it is reached (what is shared counts as often as it is met; a slice's spare places count too). A statement '..UptoSaid' is the law's where the arguments, and the package variables that the reading takes, are together of bulk at most 1048576: NARROWER than '..Said'. Prove '..Said' where nothing that the law and all that it calls make is longer than what came in: it says more and counts as full. Else prove '..UptoSaid'. A law counts once. -/
mutual
def uptoBulk {H : Type} : DataW H → Nat
  | .lit (.string bytes) => bytes.length + 1
  | .lit _ => 1
  | .nil => 1
  | .ptr d => uptoBulk d + 1
  | .slice elems spare => uptoBulkAll elems + uptoBulkAll spare + 1
  | .agg parts => uptoBulkAll parts + 1
  | .iface _ d => uptoBulk d + 1
  | .map entries => uptoBulkEntries entries + 1
  | .held _ => 1
def uptoBulkAll {H : Type} : List (DataW H) → Nat
  | [] => 0
  | d :: r => uptoBulk d + uptoBulkAll r
def uptoBulkEntries {H : Type} : List (Lit × DataW H) → Nat
  | [] => 0
  | x :: r => uptoBulkEntry x + uptoBulkEntries r
def uptoBulkEntry {H : Type} : Lit × DataW H → Nat
  | (.string bytes, d) => bytes.length + uptoBulk d + 1
  | (_, d) => uptoBulk d + 1
 end
def uptoSmall : (H : Type) → List (DataW H) → Bool := fun _ ds => decide (uptoBulkAll ds ≤ 1048576)
def OpenSpec.upto (s : _root_.Go.ChangeSpec) : _root_.Go.OpenSpec := { _root_.Go.OpenSpec.ofChange s with cond := some uptoSmall }

/-- 'trellislaw05.ZintResidues', WHERE WHAT IT READS IS OF BULK AT MOST 1048576: true; the input reads as it did. -/
def zintResiduesUptoRow : OpenClaim := { program := "ytmjdmjflgiicaaadoor", sum := "6e27c2d8706c448f1f88428fe68a60715fb4dddef4f300c54c91e7c3f247aaba", func := "trellis/trellislaw05.ZintResidues", spec := "zintResidues", inPlace := ["math/bits.Add64", "math/bits.Sub64"], recurses := true, named := ["math/bits.divideError", "math/bits.overflowError", "trellis/radix.signs"], apart := false, laid := [("trellis/radix.signs", laid_trellis_radix_signs)], narrowed := true }
def ZintResiduesUptoSaid : Prop := zintResiduesUptoRow.holds Tryd.pinned (OpenSpec.upto zintResiduesSpec)

/-- 'trellislaw05.ZintDivides', WHERE WHAT IT READS IS OF BULK AT MOST 1048576: true; the input reads as it did. -/
def zintDividesUptoRow : OpenClaim := { program := "ytmjdmjflgiicaaadoor", sum := "6e27c2d8706c448f1f88428fe68a60715fb4dddef4f300c54c91e7c3f247aaba", func := "trellis/trellislaw05.ZintDivides", spec := "zintDivides", inPlace := ["math/bits.Add64", "math/bits.Sub64"], recurses := true, named := ["math/bits.divideError", "math/bits.overflowError", "trellis/radix.signs"], apart := false, laid := [("trellis/radix.signs", laid_trellis_radix_signs)], narrowed := true }
def ZintDividesUptoSaid : Prop := zintDividesUptoRow.holds Tryd.pinned (OpenSpec.upto zintDividesSpec)

/-- 'trellislaw04.RadixThere', WHERE WHAT IT READS IS OF BULK AT MOST 1048576: true; the input reads as it did. -/
def radixThereUptoRow : OpenClaim := { program := "ytmjdmjflgiicaaadoor", sum := "6e27c2d8706c448f1f88428fe68a60715fb4dddef4f300c54c91e7c3f247aaba", func := "trellis/trellislaw04.RadixThere", spec := "radixThere", inPlace := ["math/bits.Add64", "math/bits.Sub64"], recurses := true, named := ["math/bits.divideError", "math/bits.overflowError", "trellis/radix.signs"], apart := false, laid := [("trellis/radix.signs", laid_trellis_radix_signs)], narrowed := true }
def RadixThereUptoSaid : Prop := radixThereUptoRow.holds Tryd.pinned (OpenSpec.upto radixThereSpec)

/-- 'trellislaw04.RadixStep', WHERE WHAT IT READS IS OF BULK AT MOST 1048576: true; the input reads as it did. -/
def radixStepUptoRow : OpenClaim := { program := "ytmjdmjflgiicaaadoor", sum := "6e27c2d8706c448f1f88428fe68a60715fb4dddef4f300c54c91e7c3f247aaba", func := "trellis/trellislaw04.RadixStep", spec := "radixStep", inPlace := ["math/bits.Add64", "math/bits.Sub64"], recurses := true, named := ["math/bits.divideError", "math/bits.overflowError", "trellis/radix.signs"], apart := false, laid := [("trellis/radix.signs", laid_trellis_radix_signs)], narrowed := true }
def RadixStepUptoSaid : Prop := radixStepUptoRow.holds Tryd.pinned (OpenSpec.upto radixStepSpec)

/-- 'trellislaw04.RadixGroups', WHERE WHAT IT READS IS OF BULK AT MOST 1048576: true; the input reads as it did. -/
def radixGroupsUptoRow : OpenClaim := { program := "ytmjdmjflgiicaaadoor", sum := "6e27c2d8706c448f1f88428fe68a60715fb4dddef4f300c54c91e7c3f247aaba", func := "trellis/trellislaw04.RadixGroups", spec := "radixGroups", inPlace := ["math/bits.Add64", "math/bits.Sub64"], recurses := true, named := ["math/bits.divideError", "math/bits.overflowError", "trellis/radix.signs"], apart := false, laid := [("trellis/radix.signs", laid_trellis_radix_signs)], narrowed := true }
def RadixGroupsUptoSaid : Prop := radixGroupsUptoRow.holds Tryd.pinned (OpenSpec.upto radixGroupsSpec)

/-- 'trellislaw04.RadixBack', WHERE WHAT IT READS IS OF BULK AT MOST 1048576: true; the input reads as it did. -/
def radixBackUptoRow : OpenClaim := { program := "ytmjdmjflgiicaaadoor", sum := "6e27c2d8706c448f1f88428fe68a60715fb4dddef4f300c54c91e7c3f247aaba", func := "trellis/trellislaw04.RadixBack", spec := "radixBack", inPlace := ["math/bits.Add64", "math/bits.Sub64"], recurses := true, named := ["math/bits.divideError", "math/bits.overflowError", "trellis/radix.signs"], apart := false, laid := [("trellis/radix.signs", laid_trellis_radix_signs)], narrowed := true }
def RadixBackUptoSaid : Prop := radixBackUptoRow.holds Tryd.pinned (OpenSpec.upto radixBackSpec)

/-- 'trellislaw04.RadixTexts', WHERE WHAT IT READS IS OF BULK AT MOST 1048576: true; the input reads as it did. -/
def radixTextsUptoRow : OpenClaim := { program := "ytmjdmjflgiicaaadoor", sum := "6e27c2d8706c448f1f88428fe68a60715fb4dddef4f300c54c91e7c3f247aaba", func := "trellis/trellislaw04.RadixTexts", spec := "radixTexts", inPlace := ["math/bits.Add64", "math/bits.Sub64"], recurses := true, named := ["math/bits.divideError", "math/bits.overflowError", "trellis/radix.signs"], apart := false, laid := [("trellis/radix.signs", laid_trellis_radix_signs)], narrowed := true }
def RadixTextsUptoSaid : Prop := radixTextsUptoRow.holds Tryd.pinned (OpenSpec.upto radixTextsSpec)

/-- 'trellislaw04.RadixReads', WHERE WHAT IT READS IS OF BULK AT MOST 1048576: true; the input reads as it did. -/
def radixReadsUptoRow : OpenClaim := { program := "ytmjdmjflgiicaaadoor", sum := "6e27c2d8706c448f1f88428fe68a60715fb4dddef4f300c54c91e7c3f247aaba", func := "trellis/trellislaw04.RadixReads", spec := "radixReads", inPlace := ["math/bits.Add64", "math/bits.Sub64"], recurses := true, named := ["math/bits.divideError", "math/bits.overflowError", "trellis/radix.signs"], apart := false, laid := [("trellis/radix.signs", laid_trellis_radix_signs)], narrowed := true }
def RadixReadsUptoSaid : Prop := radixReadsUptoRow.holds Tryd.pinned (OpenSpec.upto radixReadsSpec)

/-- 'trellislaw04.RadixAll', WHERE WHAT IT READS IS OF BULK AT MOST 1048576: true; the input reads as it did. -/
def radixAllUptoRow : OpenClaim := { program := "ytmjdmjflgiicaaadoor", sum := "6e27c2d8706c448f1f88428fe68a60715fb4dddef4f300c54c91e7c3f247aaba", func := "trellis/trellislaw04.RadixAll", spec := "radixAll", inPlace := ["math/bits.Add64", "math/bits.Sub64"], recurses := true, named := ["math/bits.divideError", "math/bits.overflowError", "trellis/radix.signs"], apart := false, laid := [("trellis/radix.signs", laid_trellis_radix_signs)], narrowed := true }
def RadixAllUptoSaid : Prop := radixAllUptoRow.holds Tryd.pinned (OpenSpec.upto radixAllSpec)

/-- 'trellislaw04.RadixKeeps', WHERE WHAT IT READS IS OF BULK AT MOST 1048576: true; the input reads as it did. -/
def radixKeepsUptoRow : OpenClaim := { program := "ytmjdmjflgiicaaadoor", sum := "6e27c2d8706c448f1f88428fe68a60715fb4dddef4f300c54c91e7c3f247aaba", func := "trellis/trellislaw04.RadixKeeps", spec := "radixKeeps", inPlace := ["math/bits.Add64", "math/bits.Sub64"], recurses := true, named := ["math/bits.divideError", "math/bits.overflowError", "trellis/radix.signs"], apart := false, laid := [("trellis/radix.signs", laid_trellis_radix_signs)], narrowed := true }
def RadixKeepsUptoSaid : Prop := radixKeepsUptoRow.holds Tryd.pinned (OpenSpec.upto radixKeepsSpec)

/-- 'trellislaw05.ZintTexts', WHERE WHAT IT READS IS OF BULK AT MOST 1048576: true; the input reads as it did. -/
def zintTextsUptoRow : OpenClaim := { program := "ytmjdmjflgiicaaadoor", sum := "6e27c2d8706c448f1f88428fe68a60715fb4dddef4f300c54c91e7c3f247aaba", func := "trellis/trellislaw05.ZintTexts", spec := "zintTexts", inPlace := ["math/bits.Add64", "math/bits.Sub64"], recurses := true, named := ["math/bits.divideError", "math/bits.overflowError", "trellis/radix.signs"], apart := false, laid := [("trellis/radix.signs", laid_trellis_radix_signs)], narrowed := true }
def ZintTextsUptoSaid : Prop := zintTextsUptoRow.holds Tryd.pinned (OpenSpec.upto zintTextsSpec)

end Rows
end Go.Proofs.YtmjdmjflgiicaaaDoor
