/-
  No cell of these rows narrows 'for every input' (looked for: loops, veiled, ifaces, maps, wideKeys, modest, calm, conditions, laid).
  DERIVED. THE GIVEN ROWS OF THIS SEAT. 8 by the template 'for every input the law returns true; each argument reads behind the call as it read before'; 0 by the template 'total and deterministic' (their statements: YtacdaafnlbeagaaTotals.lean).
  GIVEN WITH THE SEED: the statements are not yours to turn. If you find one false, say at which input.
  Laid BY PROGRAM, IN A SANDBOX (cutbox-rows.mjs): the forced cells as the released guide's own fill.sh prints them over the translation 26ab67aac7e5dc49… (all of the seat's roots in one cut). By AI agents, Wed Nov 11 2026. No macro, syntax, notation, axiom, sorry.
-/
import Derived.Test.YtacdaafnlbeagaaChecked
import GoSem.Claim
import GoSem.ClaimJoined
import GoSem.ClaimMapViews
import Derived.JoinedTies
import Derived.KernelRfl
namespace Go.Proofs.Ytacdaafnlbeagaa
/- THE CELL 'sum', in the pinned program and in every row, IS THE sha256 OF THE DUMP (.gsa) THAT YtacdaafnlbeagaaProg.lean LOADS. Nothing in Lean hashes anything: it is a label: what it is worth is what the hold of that sum in a sandbox is worth. -/
noncomputable def Try.pinned : Pinned := { name := "ytacdaafnlbeagaa", sum := "26ab67aac7e5dc493e47fb030f0a7ac5f33d3e499304489d75463700067c3670", checked := Try.checked }
namespace Rows
def none {H : Type} : Left H := { results := [], args := [] }

/-- 'trellislaw03.DivnatBack': WHATEVER THE INPUT: true; the input reads as it did. -/
def divnatBackSpec : ChangeSpec := { name := "divnatBack", fn := fun _ => fun
  | [d1, d2, d3] => { results := [.lit (.bool true)], args := [d1, d2, d3] }
  | _ => none }
def divnatBackRow : OpenClaim := { program := "ytacdaafnlbeagaa", sum := "26ab67aac7e5dc493e47fb030f0a7ac5f33d3e499304489d75463700067c3670", func := "trellis/trellislaw03.DivnatBack", spec := "divnatBack", inPlace := ["math/bits.Add64", "math/bits.Sub64"], named := ["math/bits.divideError", "math/bits.overflowError"], apart := false }
def DivnatBackSaid : Prop := divnatBackRow.holds Try.pinned (OpenSpec.ofChange divnatBackSpec)

/-- ITS FALSE NEIGHBOUR: 'it returns false'. Refute it at one input. -/
def divnatBackWrong : ChangeSpec := { name := "divnatBack", fn := fun _ => fun
  | [d1, d2, d3] => { results := [.lit (.bool false)], args := [d1, d2, d3] }
  | _ => none }
def DivnatBackWrongFalsely : Prop := divnatBackRow.holds Try.pinned (OpenSpec.ofChange divnatBackWrong)

/-- 'trellislaw03.DivnatBuilt': WHATEVER THE INPUT: true; the input reads as it did. -/
def divnatBuiltSpec : ChangeSpec := { name := "divnatBuilt", fn := fun _ => fun
  | [d1, d2, d3] => { results := [.lit (.bool true)], args := [d1, d2, d3] }
  | _ => none }
def divnatBuiltRow : OpenClaim := { program := "ytacdaafnlbeagaa", sum := "26ab67aac7e5dc493e47fb030f0a7ac5f33d3e499304489d75463700067c3670", func := "trellis/trellislaw03.DivnatBuilt", spec := "divnatBuilt", inPlace := ["math/bits.Add64", "math/bits.Sub64"], named := ["math/bits.divideError", "math/bits.overflowError"], apart := false }
def DivnatBuiltSaid : Prop := divnatBuiltRow.holds Try.pinned (OpenSpec.ofChange divnatBuiltSpec)

/-- ITS FALSE NEIGHBOUR: 'it returns false'. Refute it at one input. -/
def divnatBuiltWrong : ChangeSpec := { name := "divnatBuilt", fn := fun _ => fun
  | [d1, d2, d3] => { results := [.lit (.bool false)], args := [d1, d2, d3] }
  | _ => none }
def DivnatBuiltWrongFalsely : Prop := divnatBuiltRow.holds Try.pinned (OpenSpec.ofChange divnatBuiltWrong)

/-- 'trellislaw03.DivnatCommon': WHATEVER THE INPUT: true; the input reads as it did. -/
def divnatCommonSpec : ChangeSpec := { name := "divnatCommon", fn := fun _ => fun
  | [d1, d2, d3] => { results := [.lit (.bool true)], args := [d1, d2, d3] }
  | _ => none }
def divnatCommonRow : OpenClaim := { program := "ytacdaafnlbeagaa", sum := "26ab67aac7e5dc493e47fb030f0a7ac5f33d3e499304489d75463700067c3670", func := "trellis/trellislaw03.DivnatCommon", spec := "divnatCommon", inPlace := ["math/bits.Add64", "math/bits.Sub64"], named := ["math/bits.divideError", "math/bits.overflowError"], apart := false }
def DivnatCommonSaid : Prop := divnatCommonRow.holds Try.pinned (OpenSpec.ofChange divnatCommonSpec)

/-- ITS FALSE NEIGHBOUR: 'it returns false'. Refute it at one input. -/
def divnatCommonWrong : ChangeSpec := { name := "divnatCommon", fn := fun _ => fun
  | [d1, d2, d3] => { results := [.lit (.bool false)], args := [d1, d2, d3] }
  | _ => none }
def DivnatCommonWrongFalsely : Prop := divnatCommonRow.holds Try.pinned (OpenSpec.ofChange divnatCommonWrong)

/-- 'trellislaw03.DivnatStripped': WHATEVER THE INPUT: true; the input reads as it did. -/
def divnatStrippedSpec : ChangeSpec := { name := "divnatStripped", fn := fun _ => fun
  | [d1, d2, d3] => { results := [.lit (.bool true)], args := [d1, d2, d3] }
  | _ => none }
def divnatStrippedRow : OpenClaim := { program := "ytacdaafnlbeagaa", sum := "26ab67aac7e5dc493e47fb030f0a7ac5f33d3e499304489d75463700067c3670", func := "trellis/trellislaw03.DivnatStripped", spec := "divnatStripped", inPlace := ["math/bits.Add64", "math/bits.Sub64"], recurses := true, named := ["math/bits.divideError", "math/bits.overflowError"], apart := false }
def DivnatStrippedSaid : Prop := divnatStrippedRow.holds Try.pinned (OpenSpec.ofChange divnatStrippedSpec)

/-- ITS FALSE NEIGHBOUR: 'it returns false'. Refute it at one input. -/
def divnatStrippedWrong : ChangeSpec := { name := "divnatStripped", fn := fun _ => fun
  | [d1, d2, d3] => { results := [.lit (.bool false)], args := [d1, d2, d3] }
  | _ => none }
def DivnatStrippedWrongFalsely : Prop := divnatStrippedRow.holds Try.pinned (OpenSpec.ofChange divnatStrippedWrong)

/-- 'trellislaw03.DivnatRooted': WHATEVER THE INPUT: true; the input reads as it did. -/
def divnatRootedSpec : ChangeSpec := { name := "divnatRooted", fn := fun _ => fun
  | [d1, d2] => { results := [.lit (.bool true)], args := [d1, d2] }
  | _ => none }
def divnatRootedRow : OpenClaim := { program := "ytacdaafnlbeagaa", sum := "26ab67aac7e5dc493e47fb030f0a7ac5f33d3e499304489d75463700067c3670", func := "trellis/trellislaw03.DivnatRooted", spec := "divnatRooted", inPlace := ["math/bits.Add64", "math/bits.Sub64"], recurses := true, named := ["math/bits.divideError", "math/bits.overflowError"], apart := false }
def DivnatRootedSaid : Prop := divnatRootedRow.holds Try.pinned (OpenSpec.ofChange divnatRootedSpec)

/-- ITS FALSE NEIGHBOUR: 'it returns false'. Refute it at one input. -/
def divnatRootedWrong : ChangeSpec := { name := "divnatRooted", fn := fun _ => fun
  | [d1, d2] => { results := [.lit (.bool false)], args := [d1, d2] }
  | _ => none }
def DivnatRootedWrongFalsely : Prop := divnatRootedRow.holds Try.pinned (OpenSpec.ofChange divnatRootedWrong)

/-- 'trellislaw03.DivnatDivides': WHATEVER THE INPUT: true; the input reads as it did. -/
def divnatDividesSpec : ChangeSpec := { name := "divnatDivides", fn := fun _ => fun
  | [d1, d2, d3] => { results := [.lit (.bool true)], args := [d1, d2, d3] }
  | _ => none }
def divnatDividesRow : OpenClaim := { program := "ytacdaafnlbeagaa", sum := "26ab67aac7e5dc493e47fb030f0a7ac5f33d3e499304489d75463700067c3670", func := "trellis/trellislaw03.DivnatDivides", spec := "divnatDivides", inPlace := ["math/bits.Add64", "math/bits.Sub64"], recurses := true, named := ["math/bits.divideError", "math/bits.overflowError"], apart := false }
def DivnatDividesSaid : Prop := divnatDividesRow.holds Try.pinned (OpenSpec.ofChange divnatDividesSpec)

/-- ITS FALSE NEIGHBOUR: 'it returns false'. Refute it at one input. -/
def divnatDividesWrong : ChangeSpec := { name := "divnatDivides", fn := fun _ => fun
  | [d1, d2, d3] => { results := [.lit (.bool false)], args := [d1, d2, d3] }
  | _ => none }
def DivnatDividesWrongFalsely : Prop := divnatDividesRow.holds Try.pinned (OpenSpec.ofChange divnatDividesWrong)

/-- 'trellislaw03.DivnatAll': WHATEVER THE INPUT: true; the input reads as it did. -/
def divnatAllSpec : ChangeSpec := { name := "divnatAll", fn := fun _ => fun
  | [d] => { results := [.lit (.bool true)], args := [d] }
  | _ => none }
def divnatAllRow : OpenClaim := { program := "ytacdaafnlbeagaa", sum := "26ab67aac7e5dc493e47fb030f0a7ac5f33d3e499304489d75463700067c3670", func := "trellis/trellislaw03.DivnatAll", spec := "divnatAll", inPlace := ["math/bits.Add64", "math/bits.Sub64"], recurses := true, named := ["math/bits.divideError", "math/bits.overflowError"], apart := false }
def DivnatAllSaid : Prop := divnatAllRow.holds Try.pinned (OpenSpec.ofChange divnatAllSpec)

/-- ITS FALSE NEIGHBOUR: 'it returns false'. Refute it at one input. -/
def divnatAllWrong : ChangeSpec := { name := "divnatAll", fn := fun _ => fun
  | [d] => { results := [.lit (.bool false)], args := [d] }
  | _ => none }
def DivnatAllWrongFalsely : Prop := divnatAllRow.holds Try.pinned (OpenSpec.ofChange divnatAllWrong)

/-- 'trellislaw03.DivnatMemory': WHATEVER THE INPUT: true; the input reads as it did. -/
def divnatMemorySpec : ChangeSpec := { name := "divnatMemory", fn := fun _ => fun
  | [d1, d2, d3] => { results := [.lit (.bool true)], args := [d1, d2, d3] }
  | _ => none }
def divnatMemoryRow : OpenClaim := { program := "ytacdaafnlbeagaa", sum := "26ab67aac7e5dc493e47fb030f0a7ac5f33d3e499304489d75463700067c3670", func := "trellis/trellislaw03.DivnatMemory", spec := "divnatMemory", inPlace := ["math/bits.Add64", "math/bits.Sub64"], recurses := true, named := ["math/bits.divideError", "math/bits.overflowError"], apart := false }
def DivnatMemorySaid : Prop := divnatMemoryRow.holds Try.pinned (OpenSpec.ofChange divnatMemorySpec)

/-- ITS FALSE NEIGHBOUR: 'it returns false'. Refute it at one input. -/
def divnatMemoryWrong : ChangeSpec := { name := "divnatMemory", fn := fun _ => fun
  | [d1, d2, d3] => { results := [.lit (.bool false)], args := [d1, d2, d3] }
  | _ => none }
def DivnatMemoryWrongFalsely : Prop := divnatMemoryRow.holds Try.pinned (OpenSpec.ofChange divnatMemoryWrong)

/- THE SECOND FORM. 'bulk': how many values and letters a reading holds, each counted each time it is reached (what is shared counts as often as it is met; a slice's spare places count too). A statement '..UptoSaid' is the law's where the arguments, and the package variables that the reading takes, are together of bulk at most 1048576: NARROWER than '..Said'. Prove '..Said' where nothing that the law and all that it calls make is longer than what came in: it says more and counts as full. Else prove '..UptoSaid'. A law counts once. -/
mutual
def uptoBulk {H : Type} : DataW H → Nat
  | .lit (.string bytes) => bytes.length + 1
  | .lit _ => 1
  | .nil => 1
  | .ptr d => uptoBulk d + 1
  | .slice elems spare => uptoBulkAll elems + uptoBulkAll spare + 1
  | .agg parts => uptoBulkAll parts + 1
  | .iface _ d => uptoBulk d + 1
  | .map entries => uptoBulkEntries entries + 1
  | .held _ => 1
def uptoBulkAll {H : Type} : List (DataW H) → Nat
  | [] => 0
  | d :: r => uptoBulk d + uptoBulkAll r
def uptoBulkEntries {H : Type} : List (Lit × DataW H) → Nat
  | [] => 0
  | x :: r => uptoBulkEntry x + uptoBulkEntries r
def uptoBulkEntry {H : Type} : Lit × DataW H → Nat
  | (.string bytes, d) => bytes.length + uptoBulk d + 1
  | (_, d) => uptoBulk d + 1
 end
def uptoSmall : (H : Type) → List (DataW H) → Bool := fun _ ds => decide (uptoBulkAll ds ≤ 1048576)
def OpenSpec.upto (s : _root_.Go.ChangeSpec) : _root_.Go.OpenSpec := { _root_.Go.OpenSpec.ofChange s with cond := some uptoSmall }

/-- 'trellislaw03.DivnatBack', WHERE WHAT IT READS IS OF BULK AT MOST 1048576: true; the input reads as it did. -/
def divnatBackUptoRow : OpenClaim := { program := "ytacdaafnlbeagaa", sum := "26ab67aac7e5dc493e47fb030f0a7ac5f33d3e499304489d75463700067c3670", func := "trellis/trellislaw03.DivnatBack", spec := "divnatBack", inPlace := ["math/bits.Add64", "math/bits.Sub64"], named := ["math/bits.divideError", "math/bits.overflowError"], apart := false, narrowed := true }
def DivnatBackUptoSaid : Prop := divnatBackUptoRow.holds Try.pinned (OpenSpec.upto divnatBackSpec)

/-- 'trellislaw03.DivnatBuilt', WHERE WHAT IT READS IS OF BULK AT MOST 1048576: true; the input reads as it did. -/
def divnatBuiltUptoRow : OpenClaim := { program := "ytacdaafnlbeagaa", sum := "26ab67aac7e5dc493e47fb030f0a7ac5f33d3e499304489d75463700067c3670", func := "trellis/trellislaw03.DivnatBuilt", spec := "divnatBuilt", inPlace := ["math/bits.Add64", "math/bits.Sub64"], named := ["math/bits.divideError", "math/bits.overflowError"], apart := false, narrowed := true }
def DivnatBuiltUptoSaid : Prop := divnatBuiltUptoRow.holds Try.pinned (OpenSpec.upto divnatBuiltSpec)

/-- 'trellislaw03.DivnatCommon', WHERE WHAT IT READS IS OF BULK AT MOST 1048576: true; the input reads as it did. -/
def divnatCommonUptoRow : OpenClaim := { program := "ytacdaafnlbeagaa", sum := "26ab67aac7e5dc493e47fb030f0a7ac5f33d3e499304489d75463700067c3670", func := "trellis/trellislaw03.DivnatCommon", spec := "divnatCommon", inPlace := ["math/bits.Add64", "math/bits.Sub64"], named := ["math/bits.divideError", "math/bits.overflowError"], apart := false, narrowed := true }
def DivnatCommonUptoSaid : Prop := divnatCommonUptoRow.holds Try.pinned (OpenSpec.upto divnatCommonSpec)

/-- 'trellislaw03.DivnatStripped', WHERE WHAT IT READS IS OF BULK AT MOST 1048576: true; the input reads as it did. -/
def divnatStrippedUptoRow : OpenClaim := { program := "ytacdaafnlbeagaa", sum := "26ab67aac7e5dc493e47fb030f0a7ac5f33d3e499304489d75463700067c3670", func := "trellis/trellislaw03.DivnatStripped", spec := "divnatStripped", inPlace := ["math/bits.Add64", "math/bits.Sub64"], recurses := true, named := ["math/bits.divideError", "math/bits.overflowError"], apart := false, narrowed := true }
def DivnatStrippedUptoSaid : Prop := divnatStrippedUptoRow.holds Try.pinned (OpenSpec.upto divnatStrippedSpec)

/-- 'trellislaw03.DivnatRooted', WHERE WHAT IT READS IS OF BULK AT MOST 1048576: true; the input reads as it did. -/
def divnatRootedUptoRow : OpenClaim := { program := "ytacdaafnlbeagaa", sum := "26ab67aac7e5dc493e47fb030f0a7ac5f33d3e499304489d75463700067c3670", func := "trellis/trellislaw03.DivnatRooted", spec := "divnatRooted", inPlace := ["math/bits.Add64", "math/bits.Sub64"], recurses := true, named := ["math/bits.divideError", "math/bits.overflowError"], apart := false, narrowed := true }
def DivnatRootedUptoSaid : Prop := divnatRootedUptoRow.holds Try.pinned (OpenSpec.upto divnatRootedSpec)

/-- 'trellislaw03.DivnatDivides', WHERE WHAT IT READS IS OF BULK AT MOST 1048576: true; the input reads as it did. -/
def divnatDividesUptoRow : OpenClaim := { program := "ytacdaafnlbeagaa", sum := "26ab67aac7e5dc493e47fb030f0a7ac5f33d3e499304489d75463700067c3670", func := "trellis/trellislaw03.DivnatDivides", spec := "divnatDivides", inPlace := ["math/bits.Add64", "math/bits.Sub64"], recurses := true, named := ["math/bits.divideError", "math/bits.overflowError"], apart := false, narrowed := true }
def DivnatDividesUptoSaid : Prop := divnatDividesUptoRow.holds Try.pinned (OpenSpec.upto divnatDividesSpec)

/-- 'trellislaw03.DivnatAll', WHERE WHAT IT READS IS OF BULK AT MOST 1048576: true; the input reads as it did. -/
def divnatAllUptoRow : OpenClaim := { program := "ytacdaafnlbeagaa", sum := "26ab67aac7e5dc493e47fb030f0a7ac5f33d3e499304489d75463700067c3670", func := "trellis/trellislaw03.DivnatAll", spec := "divnatAll", inPlace := ["math/bits.Add64", "math/bits.Sub64"], recurses := true, named := ["math/bits.divideError", "math/bits.overflowError"], apart := false, narrowed := true }
def DivnatAllUptoSaid : Prop := divnatAllUptoRow.holds Try.pinned (OpenSpec.upto divnatAllSpec)

/-- 'trellislaw03.DivnatMemory', WHERE WHAT IT READS IS OF BULK AT MOST 1048576: true; the input reads as it did. -/
def divnatMemoryUptoRow : OpenClaim := { program := "ytacdaafnlbeagaa", sum := "26ab67aac7e5dc493e47fb030f0a7ac5f33d3e499304489d75463700067c3670", func := "trellis/trellislaw03.DivnatMemory", spec := "divnatMemory", inPlace := ["math/bits.Add64", "math/bits.Sub64"], recurses := true, named := ["math/bits.divideError", "math/bits.overflowError"], apart := false, narrowed := true }
def DivnatMemoryUptoSaid : Prop := divnatMemoryUptoRow.holds Try.pinned (OpenSpec.upto divnatMemorySpec)

end Rows
end Go.Proofs.Ytacdaafnlbeagaa
