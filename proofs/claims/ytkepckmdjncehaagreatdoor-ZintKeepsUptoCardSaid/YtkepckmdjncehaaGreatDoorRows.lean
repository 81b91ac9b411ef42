/-
  NARROWER THAN 'FOR EVERY INPUT', by the rows' own cells (each row's printed sentence says how): ZintKeeps: laid · FracPlays: laid · FracKeeps: laid · ApproxAll: laid · ApproxKeeps: laid.
  DERIVED. THE GIVEN ROWS OF THIS SEAT. 5 by the template 'for every input the law returns true; each argument reads behind the call as it read before'; 0 by the template 'total and deterministic' (their statements: YtkepckmdjncehaaGreatDoorTotals.lean).
  GIVEN WITH THE SEED: the statements are not yours to turn. If you find one false, say at which input.
  Laid BY PROGRAM, IN A SANDBOX (cutbox-rows.mjs): the forced cells as the released guide's own fill.sh prints them over the translation 2d82ea8a82f4d1cb… (all of the seat's roots in one cut). By AI agents, Wed Nov 11 2026. No macro, syntax, notation, axiom, sorry.
-/
import Derived.Test.YtkepckmdjncehaaGreatDoorChecked
import GoSem.Claim
import GoSem.ClaimJoined
import GoSem.ClaimMapViews
import Derived.JoinedTies
import Derived.KernelRfl
namespace Go.Proofs.YtkepckmdjncehaaGreatDoor
/- THE CELL 'sum', in the pinned program and in every row, IS THE sha256 OF THE DUMP (.gsa) THAT YtkepckmdjncehaaGreatDoorProg.lean LOADS. Nothing in Lean hashes anything: it is a label: what it is worth is what the hold of that sum in a sandbox is worth. -/
noncomputable def Tryz.pinned : Pinned := { name := "ytkepckmdjncehaagreatdoor", sum := "2d82ea8a82f4d1cb5404cbb8ec66995545c1796dd1920dc7e4fe0dd2b5c4e4c5", checked := Tryz.checked }
namespace Rows
def none {H : Type} : Left H := { results := [], args := [] }

/- WHAT THE LISTED PACKAGE-LEVEL VARIABLES READ AS WHEN THE CALL BEGINS. Each datum BY PROGRAM (the guide's laid-datum.mjs) off the statement by which the dump's own 'gosem.cut.vars' lays the variable. In a bare row this is a premise. The card (YtkepckmdjncehaaGreatDoorCards.lean) ties it to the program's text. -/
def laid_trellis_radix_signs {H : Type} : DataW H := .agg [.lit (.int .u8 48), .lit (.int .u8 49), .lit (.int .u8 50), .lit (.int .u8 51), .lit (.int .u8 52), .lit (.int .u8 53), .lit (.int .u8 54), .lit (.int .u8 55), .lit (.int .u8 56), .lit (.int .u8 57), .lit (.int .u8 97), .lit (.int .u8 98), .lit (.int .u8 99), .lit (.int .u8 100), .lit (.int .u8 101), .lit (.int .u8 102), .lit (.int .u8 103), .lit (.int .u8 104), .lit (.int .u8 105), .lit (.int .u8 106), .lit (.int .u8 107), .lit (.int .u8 108), .lit (.int .u8 109), .lit (.int .u8 110), .lit (.int .u8 111), .lit (.int .u8 112), .lit (.int .u8 113), .lit (.int .u8 114), .lit (.int .u8 115), .lit (.int .u8 116), .lit (.int .u8 117), .lit (.int .u8 118), .lit (.int .u8 119), .lit (.int .u8 120), .lit (.int .u8 121), .lit (.int .u8 122)]

/-- 'trellislaw05.ZintKeeps': WHATEVER THE INPUT: true; the input reads as it did. -/
def zintKeepsSpec : ChangeSpec := { name := "zintKeeps", fn := fun _ => fun
  | [d] => { results := [.lit (.bool true)], args := [d] }
  | _ => none }
def zintKeepsRow : OpenClaim := { program := "ytkepckmdjncehaagreatdoor", sum := "2d82ea8a82f4d1cb5404cbb8ec66995545c1796dd1920dc7e4fe0dd2b5c4e4c5", func := "trellis/trellislaw05.ZintKeeps", spec := "zintKeeps", inPlace := ["math/bits.Add64", "math/bits.Sub64"], recurses := true, named := ["math/bits.divideError", "math/bits.overflowError", "trellis/radix.signs"], apart := false, laid := [("trellis/radix.signs", laid_trellis_radix_signs)] }
def ZintKeepsSaid : Prop := zintKeepsRow.holds Tryz.pinned (OpenSpec.ofChange zintKeepsSpec)

/-- ITS FALSE NEIGHBOUR: 'it returns false'. Refute it at one input. -/
def zintKeepsWrong : ChangeSpec := { name := "zintKeeps", fn := fun _ => fun
  | [d] => { results := [.lit (.bool false)], args := [d] }
  | _ => none }
def ZintKeepsWrongFalsely : Prop := zintKeepsRow.holds Tryz.pinned (OpenSpec.ofChange zintKeepsWrong)

/-- 'trellislaw08.FracPlays': WHATEVER THE INPUT: true; the input reads as it did. -/
def fracPlaysSpec : ChangeSpec := { name := "fracPlays", fn := fun _ => fun
  | [d] => { results := [.lit (.bool true)], args := [d] }
  | _ => none }
def fracPlaysRow : OpenClaim := { program := "ytkepckmdjncehaagreatdoor", sum := "2d82ea8a82f4d1cb5404cbb8ec66995545c1796dd1920dc7e4fe0dd2b5c4e4c5", func := "trellis/trellislaw08.FracPlays", spec := "fracPlays", inPlace := ["math/bits.Add64", "math/bits.Sub64", "internal/bytealg.IndexByteString", "internal/bytealg.IndexString"], recurses := true, named := ["math/bits.divideError", "math/bits.overflowError", "trellis/radix.signs", "internal/bytealg.MaxLen"], apart := false, laid := [("trellis/radix.signs", laid_trellis_radix_signs)] }
def FracPlaysSaid : Prop := fracPlaysRow.holds Tryz.pinned (OpenSpec.ofChange fracPlaysSpec)

/-- ITS FALSE NEIGHBOUR: 'it returns false'. Refute it at one input. -/
def fracPlaysWrong : ChangeSpec := { name := "fracPlays", fn := fun _ => fun
  | [d] => { results := [.lit (.bool false)], args := [d] }
  | _ => none }
def FracPlaysWrongFalsely : Prop := fracPlaysRow.holds Tryz.pinned (OpenSpec.ofChange fracPlaysWrong)

/-- 'trellislaw08.FracKeeps': WHATEVER THE INPUT: true; the input reads as it did. -/
def fracKeepsSpec : ChangeSpec := { name := "fracKeeps", fn := fun _ => fun
  | [d] => { results := [.lit (.bool true)], args := [d] }
  | _ => none }
def fracKeepsRow : OpenClaim := { program := "ytkepckmdjncehaagreatdoor", sum := "2d82ea8a82f4d1cb5404cbb8ec66995545c1796dd1920dc7e4fe0dd2b5c4e4c5", func := "trellis/trellislaw08.FracKeeps", spec := "fracKeeps", inPlace := ["math/bits.Add64", "math/bits.Sub64", "internal/bytealg.IndexByteString", "internal/bytealg.IndexString"], recurses := true, named := ["math/bits.divideError", "math/bits.overflowError", "trellis/radix.signs", "internal/bytealg.MaxLen"], apart := false, laid := [("trellis/radix.signs", laid_trellis_radix_signs)] }
def FracKeepsSaid : Prop := fracKeepsRow.holds Tryz.pinned (OpenSpec.ofChange fracKeepsSpec)

/-- ITS FALSE NEIGHBOUR: 'it returns false'. Refute it at one input. -/
def fracKeepsWrong : ChangeSpec := { name := "fracKeeps", fn := fun _ => fun
  | [d] => { results := [.lit (.bool false)], args := [d] }
  | _ => none }
def FracKeepsWrongFalsely : Prop := fracKeepsRow.holds Tryz.pinned (OpenSpec.ofChange fracKeepsWrong)

/-- 'trellislaw07.ApproxAll': WHATEVER THE INPUT: true; the input reads as it did. -/
def approxAllSpec : ChangeSpec := { name := "approxAll", fn := fun _ => fun
  | [d] => { results := [.lit (.bool true)], args := [d] }
  | _ => none }
def approxAllRow : OpenClaim := { program := "ytkepckmdjncehaagreatdoor", sum := "2d82ea8a82f4d1cb5404cbb8ec66995545c1796dd1920dc7e4fe0dd2b5c4e4c5", func := "trellis/trellislaw07.ApproxAll", spec := "approxAll", inPlace := ["math.Float64frombits", "math/bits.Add64", "math/bits.Sub64", "math.Float64bits"], recurses := true, named := ["math/bits.divideError", "math/bits.overflowError", "trellis/radix.signs"], apart := false, laid := [("trellis/radix.signs", laid_trellis_radix_signs)] }
def ApproxAllSaid : Prop := approxAllRow.holds Tryz.pinned (OpenSpec.ofChange approxAllSpec)

/-- ITS FALSE NEIGHBOUR: 'it returns false'. Refute it at one input. -/
def approxAllWrong : ChangeSpec := { name := "approxAll", fn := fun _ => fun
  | [d] => { results := [.lit (.bool false)], args := [d] }
  | _ => none }
def ApproxAllWrongFalsely : Prop := approxAllRow.holds Tryz.pinned (OpenSpec.ofChange approxAllWrong)

/-- 'trellislaw07.ApproxKeeps': WHATEVER THE INPUT: true; the input reads as it did. -/
def approxKeepsSpec : ChangeSpec := { name := "approxKeeps", fn := fun _ => fun
  | [d1, d2] => { results := [.lit (.bool true)], args := [d1, d2] }
  | _ => none }
def approxKeepsRow : OpenClaim := { program := "ytkepckmdjncehaagreatdoor", sum := "2d82ea8a82f4d1cb5404cbb8ec66995545c1796dd1920dc7e4fe0dd2b5c4e4c5", func := "trellis/trellislaw07.ApproxKeeps", spec := "approxKeeps", inPlace := ["math.Float64frombits", "math/bits.Add64", "math/bits.Sub64", "math.Float64bits"], recurses := true, named := ["math/bits.divideError", "math/bits.overflowError", "trellis/radix.signs"], apart := false, laid := [("trellis/radix.signs", laid_trellis_radix_signs)] }
def ApproxKeepsSaid : Prop := approxKeepsRow.holds Tryz.pinned (OpenSpec.ofChange approxKeepsSpec)

/-- ITS FALSE NEIGHBOUR: 'it returns false'. Refute it at one input. -/
def approxKeepsWrong : ChangeSpec := { name := "approxKeeps", fn := fun _ => fun
  | [d1, d2] => { results := [.lit (.bool false)], args := [d1, d2] }
  | _ => none }
def ApproxKeepsWrongFalsely : Prop := approxKeepsRow.holds Tryz.pinned (OpenSpec.ofChange approxKeepsWrong)

/- THE SECOND FORM. 'bulk': how many values and letters a reading holds, each counted each time it is reached (what is shared counts as often as it is met; a slice's spare places count too). A statement '..UptoSaid' is the law's where the arguments, and the package variables that the reading takes, are together of bulk at most 1048576: NARROWER than '..Said'. Prove '..Said' where nothing that the law and all that it calls make is longer than what came in: it says more and counts as full. Else prove '..UptoSaid'. A law counts once. -/
mutual
def uptoBulk {H : Type} : DataW H → Nat
  | .lit (.string bytes) => bytes.length + 1
  | .lit _ => 1
  | .nil => 1
  | .ptr d => uptoBulk d + 1
  | .slice elems spare => uptoBulkAll elems + uptoBulkAll spare + 1
  | .agg parts => uptoBulkAll parts + 1
  | .iface _ d => uptoBulk d + 1
  | .map entries => uptoBulkEntries entries + 1
  | .held _ => 1
def uptoBulkAll {H : Type} : List (DataW H) → Nat
  | [] => 0
  | d :: r => uptoBulk d + uptoBulkAll r
def uptoBulkEntries {H : Type} : List (Lit × DataW H) → Nat
  | [] => 0
  | x :: r => uptoBulkEntry x + uptoBulkEntries r
def uptoBulkEntry {H : Type} : Lit × DataW H → Nat
  | (.string bytes, d) => bytes.length + uptoBulk d + 1
  | (_, d) => uptoBulk d + 1
 end
def uptoSmall : (H : Type) → List (DataW H) → Bool := fun _ ds => decide (uptoBulkAll ds ≤ 1048576)
def OpenSpec.upto (s : _root_.Go.ChangeSpec) : _root_.Go.OpenSpec := { _root_.Go.OpenSpec.ofChange s with cond := some uptoSmall }

/-- 'trellislaw05.ZintKeeps', WHERE WHAT IT READS IS OF BULK AT MOST 1048576: true; the input reads as it did. -/
def zintKeepsUptoRow : OpenClaim := { program := "ytkepckmdjncehaagreatdoor", sum := "2d82ea8a82f4d1cb5404cbb8ec66995545c1796dd1920dc7e4fe0dd2b5c4e4c5", func := "trellis/trellislaw05.ZintKeeps", spec := "zintKeeps", inPlace := ["math/bits.Add64", "math/bits.Sub64"], recurses := true, named := ["math/bits.divideError", "math/bits.overflowError", "trellis/radix.signs"], apart := false, laid := [("trellis/radix.signs", laid_trellis_radix_signs)], narrowed := true }
def ZintKeepsUptoSaid : Prop := zintKeepsUptoRow.holds Tryz.pinned (OpenSpec.upto zintKeepsSpec)

/-- 'trellislaw08.FracPlays', WHERE WHAT IT READS IS OF BULK AT MOST 1048576: true; the input reads as it did. -/
def fracPlaysUptoRow : OpenClaim := { program := "ytkepckmdjncehaagreatdoor", sum := "2d82ea8a82f4d1cb5404cbb8ec66995545c1796dd1920dc7e4fe0dd2b5c4e4c5", func := "trellis/trellislaw08.FracPlays", spec := "fracPlays", inPlace := ["math/bits.Add64", "math/bits.Sub64", "internal/bytealg.IndexByteString", "internal/bytealg.IndexString"], recurses := true, named := ["math/bits.divideError", "math/bits.overflowError", "trellis/radix.signs", "internal/bytealg.MaxLen"], apart := false, laid := [("trellis/radix.signs", laid_trellis_radix_signs)], narrowed := true }
def FracPlaysUptoSaid : Prop := fracPlaysUptoRow.holds Tryz.pinned (OpenSpec.upto fracPlaysSpec)

/-- 'trellislaw08.FracKeeps', WHERE WHAT IT READS IS OF BULK AT MOST 1048576: true; the input reads as it did. -/
def fracKeepsUptoRow : OpenClaim := { program := "ytkepckmdjncehaagreatdoor", sum := "2d82ea8a82f4d1cb5404cbb8ec66995545c1796dd1920dc7e4fe0dd2b5c4e4c5", func := "trellis/trellislaw08.FracKeeps", spec := "fracKeeps", inPlace := ["math/bits.Add64", "math/bits.Sub64", "internal/bytealg.IndexByteString", "internal/bytealg.IndexString"], recurses := true, named := ["math/bits.divideError", "math/bits.overflowError", "trellis/radix.signs", "internal/bytealg.MaxLen"], apart := false, laid := [("trellis/radix.signs", laid_trellis_radix_signs)], narrowed := true }
def FracKeepsUptoSaid : Prop := fracKeepsUptoRow.holds Tryz.pinned (OpenSpec.upto fracKeepsSpec)

/-- 'trellislaw07.ApproxAll', WHERE WHAT IT READS IS OF BULK AT MOST 1048576: true; the input reads as it did. -/
def approxAllUptoRow : OpenClaim := { program := "ytkepckmdjncehaagreatdoor", sum := "2d82ea8a82f4d1cb5404cbb8ec66995545c1796dd1920dc7e4fe0dd2b5c4e4c5", func := "trellis/trellislaw07.ApproxAll", spec := "approxAll", inPlace := ["math.Float64frombits", "math/bits.Add64", "math/bits.Sub64", "math.Float64bits"], recurses := true, named := ["math/bits.divideError", "math/bits.overflowError", "trellis/radix.signs"], apart := false, laid := [("trellis/radix.signs", laid_trellis_radix_signs)], narrowed := true }
def ApproxAllUptoSaid : Prop := approxAllUptoRow.holds Tryz.pinned (OpenSpec.upto approxAllSpec)

/-- 'trellislaw07.ApproxKeeps', WHERE WHAT IT READS IS OF BULK AT MOST 1048576: true; the input reads as it did. -/
def approxKeepsUptoRow : OpenClaim := { program := "ytkepckmdjncehaagreatdoor", sum := "2d82ea8a82f4d1cb5404cbb8ec66995545c1796dd1920dc7e4fe0dd2b5c4e4c5", func := "trellis/trellislaw07.ApproxKeeps", spec := "approxKeeps", inPlace := ["math.Float64frombits", "math/bits.Add64", "math/bits.Sub64", "math.Float64bits"], recurses := true, named := ["math/bits.divideError", "math/bits.overflowError", "trellis/radix.signs"], apart := false, laid := [("trellis/radix.signs", laid_trellis_radix_signs)], narrowed := true }
def ApproxKeepsUptoSaid : Prop := approxKeepsUptoRow.holds Tryz.pinned (OpenSpec.upto approxKeepsSpec)

end Rows
end Go.Proofs.YtkepckmdjncehaaGreatDoor
