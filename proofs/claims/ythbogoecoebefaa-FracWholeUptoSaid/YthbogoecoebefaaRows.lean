/-
  No cell of these rows narrows 'for every input' (looked for: loops, veiled, ifaces, maps, wideKeys, modest, calm, conditions, laid).
  DERIVED. THE GIVEN ROWS OF THIS SEAT. 6 by the template 'for every input the law returns true; each argument reads behind the call as it read before'; 0 by the template 'total and deterministic' (their statements: YthbogoecoebefaaTotals.lean).
  GIVEN WITH THE SEED: the statements are not yours to turn. If you find one false, say at which input.
  Laid BY PROGRAM, IN A SANDBOX (cutbox-rows.mjs): the forced cells as the released guide's own fill.sh prints them over the translation 265313c76e025c09… (all of the seat's roots in one cut). By AI agents, Wed Nov 11 2026. No macro, syntax, notation, axiom, sorry.
-/
import Derived.Test.YthbogoecoebefaaChecked
import GoSem.Claim
import GoSem.ClaimJoined
import GoSem.ClaimMapViews
import Derived.JoinedTies
import Derived.KernelRfl
namespace Go.Proofs.Ythbogoecoebefaa
/- THE CELL 'sum', in the pinned program and in every row, IS THE sha256 OF THE DUMP (.gsa) THAT YthbogoecoebefaaProg.lean LOADS. Nothing in Lean hashes anything: it is a label: what it is worth is what the hold of that sum in a sandbox is worth. -/
noncomputable def Try.pinned : Pinned := { name := "ythbogoecoebefaa", sum := "265313c76e025c0913d61eecd9a0c5675d8005bd95df49fb7e24a90ecc060b44", checked := Try.checked }
namespace Rows
def none {H : Type} : Left H := { results := [], args := [] }

/-- 'trellislaw05.ZintSmall': WHATEVER THE INPUT: true; the input reads as it did. -/
def zintSmallSpec : ChangeSpec := { name := "zintSmall", fn := fun _ => fun
  | [d1, d2] => { results := [.lit (.bool true)], args := [d1, d2] }
  | _ => none }
def zintSmallRow : OpenClaim := { program := "ythbogoecoebefaa", sum := "265313c76e025c0913d61eecd9a0c5675d8005bd95df49fb7e24a90ecc060b44", func := "trellis/trellislaw05.ZintSmall", spec := "zintSmall", inPlace := ["math/bits.Add64", "math/bits.Sub64"], named := ["math/bits.divideError", "math/bits.overflowError"], apart := false }
def ZintSmallSaid : Prop := zintSmallRow.holds Try.pinned (OpenSpec.ofChange zintSmallSpec)

/-- ITS FALSE NEIGHBOUR: 'it returns false'. Refute it at one input. -/
def zintSmallWrong : ChangeSpec := { name := "zintSmall", fn := fun _ => fun
  | [d1, d2] => { results := [.lit (.bool false)], args := [d1, d2] }
  | _ => none }
def ZintSmallWrongFalsely : Prop := zintSmallRow.holds Try.pinned (OpenSpec.ofChange zintSmallWrong)

/-- 'trellislaw08.FracNeighbours': WHATEVER THE INPUT: true; the input reads as it did. -/
def fracNeighboursSpec : ChangeSpec := { name := "fracNeighbours", fn := fun _ => fun
  | [d] => { results := [.lit (.bool true)], args := [d] }
  | _ => none }
def fracNeighboursRow : OpenClaim := { program := "ythbogoecoebefaa", sum := "265313c76e025c0913d61eecd9a0c5675d8005bd95df49fb7e24a90ecc060b44", func := "trellis/trellislaw08.FracNeighbours", spec := "fracNeighbours", inPlace := ["math/bits.Add64", "math/bits.Sub64"], recurses := true, named := ["math/bits.divideError", "math/bits.overflowError"], apart := false }
def FracNeighboursSaid : Prop := fracNeighboursRow.holds Try.pinned (OpenSpec.ofChange fracNeighboursSpec)

/-- ITS FALSE NEIGHBOUR: 'it returns false'. Refute it at one input. -/
def fracNeighboursWrong : ChangeSpec := { name := "fracNeighbours", fn := fun _ => fun
  | [d] => { results := [.lit (.bool false)], args := [d] }
  | _ => none }
def FracNeighboursWrongFalsely : Prop := fracNeighboursRow.holds Try.pinned (OpenSpec.ofChange fracNeighboursWrong)

/-- 'trellislaw08.FracField': WHATEVER THE INPUT: true; the input reads as it did. -/
def fracFieldSpec : ChangeSpec := { name := "fracField", fn := fun _ => fun
  | [d1, d2, d3] => { results := [.lit (.bool true)], args := [d1, d2, d3] }
  | _ => none }
def fracFieldRow : OpenClaim := { program := "ythbogoecoebefaa", sum := "265313c76e025c0913d61eecd9a0c5675d8005bd95df49fb7e24a90ecc060b44", func := "trellis/trellislaw08.FracField", spec := "fracField", inPlace := ["math/bits.Add64", "math/bits.Sub64"], recurses := true, named := ["math/bits.divideError", "math/bits.overflowError"], apart := false }
def FracFieldSaid : Prop := fracFieldRow.holds Try.pinned (OpenSpec.ofChange fracFieldSpec)

/-- ITS FALSE NEIGHBOUR: 'it returns false'. Refute it at one input. -/
def fracFieldWrong : ChangeSpec := { name := "fracField", fn := fun _ => fun
  | [d1, d2, d3] => { results := [.lit (.bool false)], args := [d1, d2, d3] }
  | _ => none }
def FracFieldWrongFalsely : Prop := fracFieldRow.holds Try.pinned (OpenSpec.ofChange fracFieldWrong)

/-- 'trellislaw08.FracLowest': WHATEVER THE INPUT: true; the input reads as it did. -/
def fracLowestSpec : ChangeSpec := { name := "fracLowest", fn := fun _ => fun
  | [d1, d2] => { results := [.lit (.bool true)], args := [d1, d2] }
  | _ => none }
def fracLowestRow : OpenClaim := { program := "ythbogoecoebefaa", sum := "265313c76e025c0913d61eecd9a0c5675d8005bd95df49fb7e24a90ecc060b44", func := "trellis/trellislaw08.FracLowest", spec := "fracLowest", inPlace := ["math/bits.Add64", "math/bits.Sub64"], recurses := true, named := ["math/bits.divideError", "math/bits.overflowError"], apart := false }
def FracLowestSaid : Prop := fracLowestRow.holds Try.pinned (OpenSpec.ofChange fracLowestSpec)

/-- ITS FALSE NEIGHBOUR: 'it returns false'. Refute it at one input. -/
def fracLowestWrong : ChangeSpec := { name := "fracLowest", fn := fun _ => fun
  | [d1, d2] => { results := [.lit (.bool false)], args := [d1, d2] }
  | _ => none }
def FracLowestWrongFalsely : Prop := fracLowestRow.holds Try.pinned (OpenSpec.ofChange fracLowestWrong)

/-- 'trellislaw08.FracWhole': WHATEVER THE INPUT: true; the input reads as it did. -/
def fracWholeSpec : ChangeSpec := { name := "fracWhole", fn := fun _ => fun
  | [d1, d2] => { results := [.lit (.bool true)], args := [d1, d2] }
  | _ => none }
def fracWholeRow : OpenClaim := { program := "ythbogoecoebefaa", sum := "265313c76e025c0913d61eecd9a0c5675d8005bd95df49fb7e24a90ecc060b44", func := "trellis/trellislaw08.FracWhole", spec := "fracWhole", inPlace := ["math/bits.Add64", "math/bits.Sub64"], recurses := true, named := ["math/bits.divideError", "math/bits.overflowError"], apart := false }
def FracWholeSaid : Prop := fracWholeRow.holds Try.pinned (OpenSpec.ofChange fracWholeSpec)

/-- ITS FALSE NEIGHBOUR: 'it returns false'. Refute it at one input. -/
def fracWholeWrong : ChangeSpec := { name := "fracWhole", fn := fun _ => fun
  | [d1, d2] => { results := [.lit (.bool false)], args := [d1, d2] }
  | _ => none }
def FracWholeWrongFalsely : Prop := fracWholeRow.holds Try.pinned (OpenSpec.ofChange fracWholeWrong)

/-- 'trellislaw08.FracReturns': WHATEVER THE INPUT: true; the input reads as it did. -/
def fracReturnsSpec : ChangeSpec := { name := "fracReturns", fn := fun _ => fun
  | [d1, d2] => { results := [.lit (.bool true)], args := [d1, d2] }
  | _ => none }
def fracReturnsRow : OpenClaim := { program := "ythbogoecoebefaa", sum := "265313c76e025c0913d61eecd9a0c5675d8005bd95df49fb7e24a90ecc060b44", func := "trellis/trellislaw08.FracReturns", spec := "fracReturns", inPlace := ["math/bits.Add64", "math/bits.Sub64"], recurses := true, named := ["math/bits.divideError", "math/bits.overflowError"], apart := false }
def FracReturnsSaid : Prop := fracReturnsRow.holds Try.pinned (OpenSpec.ofChange fracReturnsSpec)

/-- ITS FALSE NEIGHBOUR: 'it returns false'. Refute it at one input. -/
def fracReturnsWrong : ChangeSpec := { name := "fracReturns", fn := fun _ => fun
  | [d1, d2] => { results := [.lit (.bool false)], args := [d1, d2] }
  | _ => none }
def FracReturnsWrongFalsely : Prop := fracReturnsRow.holds Try.pinned (OpenSpec.ofChange fracReturnsWrong)

/- THE SECOND FORM. 'bulk': how many values and letters a reading holds, each counted each time it is reached (what is shared counts as often as it is met; a slice's spare places count too). A statement '..UptoSaid' is the law's where the arguments, and the package variables that the reading takes, are together of bulk at most 1048576: NARROWER than '..Said'. Prove '..Said' where nothing that the law and all that it calls make is longer than what came in: it says more and counts as full. Else prove '..UptoSaid'. A law counts once. -/
mutual
def uptoBulk {H : Type} : DataW H → Nat
  | .lit (.string bytes) => bytes.length + 1
  | .lit _ => 1
  | .nil => 1
  | .ptr d => uptoBulk d + 1
  | .slice elems spare => uptoBulkAll elems + uptoBulkAll spare + 1
  | .agg parts => uptoBulkAll parts + 1
  | .iface _ d => uptoBulk d + 1
  | .map entries => uptoBulkEntries entries + 1
  | .held _ => 1
def uptoBulkAll {H : Type} : List (DataW H) → Nat
  | [] => 0
  | d :: r => uptoBulk d + uptoBulkAll r
def uptoBulkEntries {H : Type} : List (Lit × DataW H) → Nat
  | [] => 0
  | x :: r => uptoBulkEntry x + uptoBulkEntries r
def uptoBulkEntry {H : Type} : Lit × DataW H → Nat
  | (.string bytes, d) => bytes.length + uptoBulk d + 1
  | (_, d) => uptoBulk d + 1
 end
def uptoSmall : (H : Type) → List (DataW H) → Bool := fun _ ds => decide (uptoBulkAll ds ≤ 1048576)
def OpenSpec.upto (s : _root_.Go.ChangeSpec) : _root_.Go.OpenSpec := { _root_.Go.OpenSpec.ofChange s with cond := some uptoSmall }

/-- 'trellislaw05.ZintSmall', WHERE WHAT IT READS IS OF BULK AT MOST 1048576: true; the input reads as it did. -/
def zintSmallUptoRow : OpenClaim := { program := "ythbogoecoebefaa", sum := "265313c76e025c0913d61eecd9a0c5675d8005bd95df49fb7e24a90ecc060b44", func := "trellis/trellislaw05.ZintSmall", spec := "zintSmall", inPlace := ["math/bits.Add64", "math/bits.Sub64"], named := ["math/bits.divideError", "math/bits.overflowError"], apart := false, narrowed := true }
def ZintSmallUptoSaid : Prop := zintSmallUptoRow.holds Try.pinned (OpenSpec.upto zintSmallSpec)

/-- 'trellislaw08.FracNeighbours', WHERE WHAT IT READS IS OF BULK AT MOST 1048576: true; the input reads as it did. -/
def fracNeighboursUptoRow : OpenClaim := { program := "ythbogoecoebefaa", sum := "265313c76e025c0913d61eecd9a0c5675d8005bd95df49fb7e24a90ecc060b44", func := "trellis/trellislaw08.FracNeighbours", spec := "fracNeighbours", inPlace := ["math/bits.Add64", "math/bits.Sub64"], recurses := true, named := ["math/bits.divideError", "math/bits.overflowError"], apart := false, narrowed := true }
def FracNeighboursUptoSaid : Prop := fracNeighboursUptoRow.holds Try.pinned (OpenSpec.upto fracNeighboursSpec)

/-- 'trellislaw08.FracField', WHERE WHAT IT READS IS OF BULK AT MOST 1048576: true; the input reads as it did. -/
def fracFieldUptoRow : OpenClaim := { program := "ythbogoecoebefaa", sum := "265313c76e025c0913d61eecd9a0c5675d8005bd95df49fb7e24a90ecc060b44", func := "trellis/trellislaw08.FracField", spec := "fracField", inPlace := ["math/bits.Add64", "math/bits.Sub64"], recurses := true, named := ["math/bits.divideError", "math/bits.overflowError"], apart := false, narrowed := true }
def FracFieldUptoSaid : Prop := fracFieldUptoRow.holds Try.pinned (OpenSpec.upto fracFieldSpec)

/-- 'trellislaw08.FracLowest', WHERE WHAT IT READS IS OF BULK AT MOST 1048576: true; the input reads as it did. -/
def fracLowestUptoRow : OpenClaim := { program := "ythbogoecoebefaa", sum := "265313c76e025c0913d61eecd9a0c5675d8005bd95df49fb7e24a90ecc060b44", func := "trellis/trellislaw08.FracLowest", spec := "fracLowest", inPlace := ["math/bits.Add64", "math/bits.Sub64"], recurses := true, named := ["math/bits.divideError", "math/bits.overflowError"], apart := false, narrowed := true }
def FracLowestUptoSaid : Prop := fracLowestUptoRow.holds Try.pinned (OpenSpec.upto fracLowestSpec)

/-- 'trellislaw08.FracWhole', WHERE WHAT IT READS IS OF BULK AT MOST 1048576: true; the input reads as it did. -/
def fracWholeUptoRow : OpenClaim := { program := "ythbogoecoebefaa", sum := "265313c76e025c0913d61eecd9a0c5675d8005bd95df49fb7e24a90ecc060b44", func := "trellis/trellislaw08.FracWhole", spec := "fracWhole", inPlace := ["math/bits.Add64", "math/bits.Sub64"], recurses := true, named := ["math/bits.divideError", "math/bits.overflowError"], apart := false, narrowed := true }
def FracWholeUptoSaid : Prop := fracWholeUptoRow.holds Try.pinned (OpenSpec.upto fracWholeSpec)

/-- 'trellislaw08.FracReturns', WHERE WHAT IT READS IS OF BULK AT MOST 1048576: true; the input reads as it did. -/
def fracReturnsUptoRow : OpenClaim := { program := "ythbogoecoebefaa", sum := "265313c76e025c0913d61eecd9a0c5675d8005bd95df49fb7e24a90ecc060b44", func := "trellis/trellislaw08.FracReturns", spec := "fracReturns", inPlace := ["math/bits.Add64", "math/bits.Sub64"], recurses := true, named := ["math/bits.divideError", "math/bits.overflowError"], apart := false, narrowed := true }
def FracReturnsUptoSaid : Prop := fracReturnsUptoRow.holds Try.pinned (OpenSpec.upto fracReturnsSpec)

end Rows
end Go.Proofs.Ythbogoecoebefaa
