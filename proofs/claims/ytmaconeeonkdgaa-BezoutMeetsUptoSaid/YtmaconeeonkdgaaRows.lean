/-
  No cell of these rows narrows 'for every input' (looked for: loops, veiled, ifaces, maps, wideKeys, modest, calm, conditions, laid).
  DERIVED. THE GIVEN ROWS OF THIS SEAT. 8 by the template 'for every input the law returns true; each argument reads behind the call as it read before'; 0 by the template 'total and deterministic' (their statements: YtmaconeeonkdgaaTotals.lean).
  GIVEN WITH THE SEED: the statements are not yours to turn. If you find one false, say at which input.
  Laid BY PROGRAM, IN A SANDBOX (cutbox-rows.mjs): the forced cells as the released guide's own fill.sh prints them over the translation c55e332dfb1e654c… (all of the seat's roots in one cut). By AI agents, Wed Nov 11 2026. No macro, syntax, notation, axiom, sorry.
-/
import Derived.Test.YtmaconeeonkdgaaChecked
import GoSem.Claim
import GoSem.ClaimJoined
import GoSem.ClaimMapViews
import Derived.JoinedTies
import Derived.KernelRfl
namespace Go.Proofs.Ytmaconeeonkdgaa
/- THE CELL 'sum', in the pinned program and in every row, IS THE sha256 OF THE DUMP (.gsa) THAT YtmaconeeonkdgaaProg.lean LOADS. Nothing in Lean hashes anything: it is a label: what it is worth is what the hold of that sum in a sandbox is worth. -/
noncomputable def Try.pinned : Pinned := { name := "ytmaconeeonkdgaa", sum := "c55e332dfb1e654c7a789598da833dce5994321892d033c50a8e63c28fe74d4d", checked := Try.checked }
namespace Rows
def none {H : Type} : Left H := { results := [], args := [] }

/-- 'trellislaw08.FracNeighbours': WHATEVER THE INPUT: true; the input reads as it did. -/
def fracNeighboursSpec : ChangeSpec := { name := "fracNeighbours", fn := fun _ => fun
  | [d] => { results := [.lit (.bool true)], args := [d] }
  | _ => none }
def fracNeighboursRow : OpenClaim := { program := "ytmaconeeonkdgaa", sum := "c55e332dfb1e654c7a789598da833dce5994321892d033c50a8e63c28fe74d4d", func := "trellis/trellislaw08.FracNeighbours", spec := "fracNeighbours", inPlace := ["math/bits.Add64", "math/bits.Sub64"], recurses := true, named := ["math/bits.divideError", "math/bits.overflowError"], apart := false }
def FracNeighboursSaid : Prop := fracNeighboursRow.holds Try.pinned (OpenSpec.ofChange fracNeighboursSpec)

/-- ITS FALSE NEIGHBOUR: 'it returns false'. Refute it at one input. -/
def fracNeighboursWrong : ChangeSpec := { name := "fracNeighbours", fn := fun _ => fun
  | [d] => { results := [.lit (.bool false)], args := [d] }
  | _ => none }
def FracNeighboursWrongFalsely : Prop := fracNeighboursRow.holds Try.pinned (OpenSpec.ofChange fracNeighboursWrong)

/-- 'trellislaw08.FracReturns': WHATEVER THE INPUT: true; the input reads as it did. -/
def fracReturnsSpec : ChangeSpec := { name := "fracReturns", fn := fun _ => fun
  | [d1, d2] => { results := [.lit (.bool true)], args := [d1, d2] }
  | _ => none }
def fracReturnsRow : OpenClaim := { program := "ytmaconeeonkdgaa", sum := "c55e332dfb1e654c7a789598da833dce5994321892d033c50a8e63c28fe74d4d", func := "trellis/trellislaw08.FracReturns", spec := "fracReturns", inPlace := ["math/bits.Add64", "math/bits.Sub64"], recurses := true, named := ["math/bits.divideError", "math/bits.overflowError"], apart := false }
def FracReturnsSaid : Prop := fracReturnsRow.holds Try.pinned (OpenSpec.ofChange fracReturnsSpec)

/-- ITS FALSE NEIGHBOUR: 'it returns false'. Refute it at one input. -/
def fracReturnsWrong : ChangeSpec := { name := "fracReturns", fn := fun _ => fun
  | [d1, d2] => { results := [.lit (.bool false)], args := [d1, d2] }
  | _ => none }
def FracReturnsWrongFalsely : Prop := fracReturnsRow.holds Try.pinned (OpenSpec.ofChange fracReturnsWrong)

/-- 'trellislaw06.BezoutPowers': WHATEVER THE INPUT: true; the input reads as it did. -/
def bezoutPowersSpec : ChangeSpec := { name := "bezoutPowers", fn := fun _ => fun
  | [d1, d2, d3] => { results := [.lit (.bool true)], args := [d1, d2, d3] }
  | _ => none }
def bezoutPowersRow : OpenClaim := { program := "ytmaconeeonkdgaa", sum := "c55e332dfb1e654c7a789598da833dce5994321892d033c50a8e63c28fe74d4d", func := "trellis/trellislaw06.BezoutPowers", spec := "bezoutPowers", inPlace := ["math/bits.Add64", "math/bits.Sub64"], recurses := true, named := ["math/bits.divideError", "math/bits.overflowError"], apart := false }
def BezoutPowersSaid : Prop := bezoutPowersRow.holds Try.pinned (OpenSpec.ofChange bezoutPowersSpec)

/-- ITS FALSE NEIGHBOUR: 'it returns false'. Refute it at one input. -/
def bezoutPowersWrong : ChangeSpec := { name := "bezoutPowers", fn := fun _ => fun
  | [d1, d2, d3] => { results := [.lit (.bool false)], args := [d1, d2, d3] }
  | _ => none }
def BezoutPowersWrongFalsely : Prop := bezoutPowersRow.holds Try.pinned (OpenSpec.ofChange bezoutPowersWrong)

/-- 'trellislaw06.BezoutIdentity': WHATEVER THE INPUT: true; the input reads as it did. -/
def bezoutIdentitySpec : ChangeSpec := { name := "bezoutIdentity", fn := fun _ => fun
  | [d1, d2] => { results := [.lit (.bool true)], args := [d1, d2] }
  | _ => none }
def bezoutIdentityRow : OpenClaim := { program := "ytmaconeeonkdgaa", sum := "c55e332dfb1e654c7a789598da833dce5994321892d033c50a8e63c28fe74d4d", func := "trellis/trellislaw06.BezoutIdentity", spec := "bezoutIdentity", inPlace := ["math/bits.Add64", "math/bits.Sub64"], recurses := true, named := ["math/bits.divideError", "math/bits.overflowError"], apart := false }
def BezoutIdentitySaid : Prop := bezoutIdentityRow.holds Try.pinned (OpenSpec.ofChange bezoutIdentitySpec)

/-- ITS FALSE NEIGHBOUR: 'it returns false'. Refute it at one input. -/
def bezoutIdentityWrong : ChangeSpec := { name := "bezoutIdentity", fn := fun _ => fun
  | [d1, d2] => { results := [.lit (.bool false)], args := [d1, d2] }
  | _ => none }
def BezoutIdentityWrongFalsely : Prop := bezoutIdentityRow.holds Try.pinned (OpenSpec.ofChange bezoutIdentityWrong)

/-- 'trellislaw06.BezoutListed': WHATEVER THE INPUT: true; the input reads as it did. -/
def bezoutListedSpec : ChangeSpec := { name := "bezoutListed", fn := fun _ => fun
  | [d1, d2] => { results := [.lit (.bool true)], args := [d1, d2] }
  | _ => none }
def bezoutListedRow : OpenClaim := { program := "ytmaconeeonkdgaa", sum := "c55e332dfb1e654c7a789598da833dce5994321892d033c50a8e63c28fe74d4d", func := "trellis/trellislaw06.BezoutListed", spec := "bezoutListed", inPlace := ["math/bits.Add64", "math/bits.Sub64"], recurses := true, named := ["math/bits.divideError", "math/bits.overflowError"], apart := false }
def BezoutListedSaid : Prop := bezoutListedRow.holds Try.pinned (OpenSpec.ofChange bezoutListedSpec)

/-- ITS FALSE NEIGHBOUR: 'it returns false'. Refute it at one input. -/
def bezoutListedWrong : ChangeSpec := { name := "bezoutListed", fn := fun _ => fun
  | [d1, d2] => { results := [.lit (.bool false)], args := [d1, d2] }
  | _ => none }
def BezoutListedWrongFalsely : Prop := bezoutListedRow.holds Try.pinned (OpenSpec.ofChange bezoutListedWrong)

/-- 'trellislaw06.BezoutInverts': WHATEVER THE INPUT: true; the input reads as it did. -/
def bezoutInvertsSpec : ChangeSpec := { name := "bezoutInverts", fn := fun _ => fun
  | [d1, d2] => { results := [.lit (.bool true)], args := [d1, d2] }
  | _ => none }
def bezoutInvertsRow : OpenClaim := { program := "ytmaconeeonkdgaa", sum := "c55e332dfb1e654c7a789598da833dce5994321892d033c50a8e63c28fe74d4d", func := "trellis/trellislaw06.BezoutInverts", spec := "bezoutInverts", inPlace := ["math/bits.Add64", "math/bits.Sub64"], recurses := true, named := ["math/bits.divideError", "math/bits.overflowError"], apart := false }
def BezoutInvertsSaid : Prop := bezoutInvertsRow.holds Try.pinned (OpenSpec.ofChange bezoutInvertsSpec)

/-- ITS FALSE NEIGHBOUR: 'it returns false'. Refute it at one input. -/
def bezoutInvertsWrong : ChangeSpec := { name := "bezoutInverts", fn := fun _ => fun
  | [d1, d2] => { results := [.lit (.bool false)], args := [d1, d2] }
  | _ => none }
def BezoutInvertsWrongFalsely : Prop := bezoutInvertsRow.holds Try.pinned (OpenSpec.ofChange bezoutInvertsWrong)

/-- 'trellislaw06.BezoutChinese': WHATEVER THE INPUT: true; the input reads as it did. -/
def bezoutChineseSpec : ChangeSpec := { name := "bezoutChinese", fn := fun _ => fun
  | [d1, d2, d3] => { results := [.lit (.bool true)], args := [d1, d2, d3] }
  | _ => none }
def bezoutChineseRow : OpenClaim := { program := "ytmaconeeonkdgaa", sum := "c55e332dfb1e654c7a789598da833dce5994321892d033c50a8e63c28fe74d4d", func := "trellis/trellislaw06.BezoutChinese", spec := "bezoutChinese", inPlace := ["math/bits.Add64", "math/bits.Sub64"], recurses := true, named := ["math/bits.divideError", "math/bits.overflowError"], apart := false }
def BezoutChineseSaid : Prop := bezoutChineseRow.holds Try.pinned (OpenSpec.ofChange bezoutChineseSpec)

/-- ITS FALSE NEIGHBOUR: 'it returns false'. Refute it at one input. -/
def bezoutChineseWrong : ChangeSpec := { name := "bezoutChinese", fn := fun _ => fun
  | [d1, d2, d3] => { results := [.lit (.bool false)], args := [d1, d2, d3] }
  | _ => none }
def BezoutChineseWrongFalsely : Prop := bezoutChineseRow.holds Try.pinned (OpenSpec.ofChange bezoutChineseWrong)

/-- 'trellislaw06.BezoutMeets': WHATEVER THE INPUT: true; the input reads as it did. -/
def bezoutMeetsSpec : ChangeSpec := { name := "bezoutMeets", fn := fun _ => fun
  | [d] => { results := [.lit (.bool true)], args := [d] }
  | _ => none }
def bezoutMeetsRow : OpenClaim := { program := "ytmaconeeonkdgaa", sum := "c55e332dfb1e654c7a789598da833dce5994321892d033c50a8e63c28fe74d4d", func := "trellis/trellislaw06.BezoutMeets", spec := "bezoutMeets", inPlace := ["math/bits.Add64", "math/bits.Sub64"], recurses := true, named := ["math/bits.divideError", "math/bits.overflowError"], apart := false }
def BezoutMeetsSaid : Prop := bezoutMeetsRow.holds Try.pinned (OpenSpec.ofChange bezoutMeetsSpec)

/-- ITS FALSE NEIGHBOUR: 'it returns false'. Refute it at one input. -/
def bezoutMeetsWrong : ChangeSpec := { name := "bezoutMeets", fn := fun _ => fun
  | [d] => { results := [.lit (.bool false)], args := [d] }
  | _ => none }
def BezoutMeetsWrongFalsely : Prop := bezoutMeetsRow.holds Try.pinned (OpenSpec.ofChange bezoutMeetsWrong)

/- THE SECOND FORM. 'bulk': how many values and letters a reading holds, each counted each time it is reached (what is shared counts as often as it is met; a slice's spare places count too). A statement '..UptoSaid' is the law's where the arguments, and the package variables that the reading takes, are together of bulk at most 1048576: NARROWER than '..Said'. Prove '..Said' where nothing that the law and all that it calls make is longer than what came in: it says more and counts as full. Else prove '..UptoSaid'. A law counts once. -/
mutual
def uptoBulk {H : Type} : DataW H → Nat
  | .lit (.string bytes) => bytes.length + 1
  | .lit _ => 1
  | .nil => 1
  | .ptr d => uptoBulk d + 1
  | .slice elems spare => uptoBulkAll elems + uptoBulkAll spare + 1
  | .agg parts => uptoBulkAll parts + 1
  | .iface _ d => uptoBulk d + 1
  | .map entries => uptoBulkEntries entries + 1
  | .held _ => 1
def uptoBulkAll {H : Type} : List (DataW H) → Nat
  | [] => 0
  | d :: r => uptoBulk d + uptoBulkAll r
def uptoBulkEntries {H : Type} : List (Lit × DataW H) → Nat
  | [] => 0
  | x :: r => uptoBulkEntry x + uptoBulkEntries r
def uptoBulkEntry {H : Type} : Lit × DataW H → Nat
  | (.string bytes, d) => bytes.length + uptoBulk d + 1
  | (_, d) => uptoBulk d + 1
 end
def uptoSmall : (H : Type) → List (DataW H) → Bool := fun _ ds => decide (uptoBulkAll ds ≤ 1048576)
def OpenSpec.upto (s : _root_.Go.ChangeSpec) : _root_.Go.OpenSpec := { _root_.Go.OpenSpec.ofChange s with cond := some uptoSmall }

/-- 'trellislaw08.FracNeighbours', WHERE WHAT IT READS IS OF BULK AT MOST 1048576: true; the input reads as it did. -/
def fracNeighboursUptoRow : OpenClaim := { program := "ytmaconeeonkdgaa", sum := "c55e332dfb1e654c7a789598da833dce5994321892d033c50a8e63c28fe74d4d", func := "trellis/trellislaw08.FracNeighbours", spec := "fracNeighbours", inPlace := ["math/bits.Add64", "math/bits.Sub64"], recurses := true, named := ["math/bits.divideError", "math/bits.overflowError"], apart := false, narrowed := true }
def FracNeighboursUptoSaid : Prop := fracNeighboursUptoRow.holds Try.pinned (OpenSpec.upto fracNeighboursSpec)

/-- 'trellislaw08.FracReturns', WHERE WHAT IT READS IS OF BULK AT MOST 1048576: true; the input reads as it did. -/
def fracReturnsUptoRow : OpenClaim := { program := "ytmaconeeonkdgaa", sum := "c55e332dfb1e654c7a789598da833dce5994321892d033c50a8e63c28fe74d4d", func := "trellis/trellislaw08.FracReturns", spec := "fracReturns", inPlace := ["math/bits.Add64", "math/bits.Sub64"], recurses := true, named := ["math/bits.divideError", "math/bits.overflowError"], apart := false, narrowed := true }
def FracReturnsUptoSaid : Prop := fracReturnsUptoRow.holds Try.pinned (OpenSpec.upto fracReturnsSpec)

/-- 'trellislaw06.BezoutPowers', WHERE WHAT IT READS IS OF BULK AT MOST 1048576: true; the input reads as it did. -/
def bezoutPowersUptoRow : OpenClaim := { program := "ytmaconeeonkdgaa", sum := "c55e332dfb1e654c7a789598da833dce5994321892d033c50a8e63c28fe74d4d", func := "trellis/trellislaw06.BezoutPowers", spec := "bezoutPowers", inPlace := ["math/bits.Add64", "math/bits.Sub64"], recurses := true, named := ["math/bits.divideError", "math/bits.overflowError"], apart := false, narrowed := true }
def BezoutPowersUptoSaid : Prop := bezoutPowersUptoRow.holds Try.pinned (OpenSpec.upto bezoutPowersSpec)

/-- 'trellislaw06.BezoutIdentity', WHERE WHAT IT READS IS OF BULK AT MOST 1048576: true; the input reads as it did. -/
def bezoutIdentityUptoRow : OpenClaim := { program := "ytmaconeeonkdgaa", sum := "c55e332dfb1e654c7a789598da833dce5994321892d033c50a8e63c28fe74d4d", func := "trellis/trellislaw06.BezoutIdentity", spec := "bezoutIdentity", inPlace := ["math/bits.Add64", "math/bits.Sub64"], recurses := true, named := ["math/bits.divideError", "math/bits.overflowError"], apart := false, narrowed := true }
def BezoutIdentityUptoSaid : Prop := bezoutIdentityUptoRow.holds Try.pinned (OpenSpec.upto bezoutIdentitySpec)

/-- 'trellislaw06.BezoutListed', WHERE WHAT IT READS IS OF BULK AT MOST 1048576: true; the input reads as it did. -/
def bezoutListedUptoRow : OpenClaim := { program := "ytmaconeeonkdgaa", sum := "c55e332dfb1e654c7a789598da833dce5994321892d033c50a8e63c28fe74d4d", func := "trellis/trellislaw06.BezoutListed", spec := "bezoutListed", inPlace := ["math/bits.Add64", "math/bits.Sub64"], recurses := true, named := ["math/bits.divideError", "math/bits.overflowError"], apart := false, narrowed := true }
def BezoutListedUptoSaid : Prop := bezoutListedUptoRow.holds Try.pinned (OpenSpec.upto bezoutListedSpec)

/-- 'trellislaw06.BezoutInverts', WHERE WHAT IT READS IS OF BULK AT MOST 1048576: true; the input reads as it did. -/
def bezoutInvertsUptoRow : OpenClaim := { program := "ytmaconeeonkdgaa", sum := "c55e332dfb1e654c7a789598da833dce5994321892d033c50a8e63c28fe74d4d", func := "trellis/trellislaw06.BezoutInverts", spec := "bezoutInverts", inPlace := ["math/bits.Add64", "math/bits.Sub64"], recurses := true, named := ["math/bits.divideError", "math/bits.overflowError"], apart := false, narrowed := true }
def BezoutInvertsUptoSaid : Prop := bezoutInvertsUptoRow.holds Try.pinned (OpenSpec.upto bezoutInvertsSpec)

/-- 'trellislaw06.BezoutChinese', WHERE WHAT IT READS IS OF BULK AT MOST 1048576: true; the input reads as it did. -/
def bezoutChineseUptoRow : OpenClaim := { program := "ytmaconeeonkdgaa", sum := "c55e332dfb1e654c7a789598da833dce5994321892d033c50a8e63c28fe74d4d", func := "trellis/trellislaw06.BezoutChinese", spec := "bezoutChinese", inPlace := ["math/bits.Add64", "math/bits.Sub64"], recurses := true, named := ["math/bits.divideError", "math/bits.overflowError"], apart := false, narrowed := true }
def BezoutChineseUptoSaid : Prop := bezoutChineseUptoRow.holds Try.pinned (OpenSpec.upto bezoutChineseSpec)

/-- 'trellislaw06.BezoutMeets', WHERE WHAT IT READS IS OF BULK AT MOST 1048576: true; the input reads as it did. -/
def bezoutMeetsUptoRow : OpenClaim := { program := "ytmaconeeonkdgaa", sum := "c55e332dfb1e654c7a789598da833dce5994321892d033c50a8e63c28fe74d4d", func := "trellis/trellislaw06.BezoutMeets", spec := "bezoutMeets", inPlace := ["math/bits.Add64", "math/bits.Sub64"], recurses := true, named := ["math/bits.divideError", "math/bits.overflowError"], apart := false, narrowed := true }
def BezoutMeetsUptoSaid : Prop := bezoutMeetsUptoRow.holds Try.pinned (OpenSpec.upto bezoutMeetsSpec)

end Rows
end Go.Proofs.Ytmaconeeonkdgaa
