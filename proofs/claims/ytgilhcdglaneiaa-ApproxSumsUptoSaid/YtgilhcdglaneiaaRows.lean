/-
  No cell of these rows narrows 'for every input' (looked for: loops, veiled, ifaces, maps, wideKeys, modest, calm, conditions, laid).
  DERIVED. THE GIVEN ROWS OF THIS SEAT. 4 by the template 'for every input the law returns true; each argument reads behind the call as it read before'; 0 by the template 'total and deterministic' (their statements: YtgilhcdglaneiaaTotals.lean).
  GIVEN WITH THE SEED: the statements are not yours to turn. If you find one false, say at which input.
  Laid BY PROGRAM, IN A SANDBOX (cutbox-rows.mjs): the forced cells as the released guide's own fill.sh prints them over the translation 7d9e0ab3ced51c46… (all of the seat's roots in one cut). By AI agents, Wed Nov 11 2026. No macro, syntax, notation, axiom, sorry.
-/
import Derived.Test.YtgilhcdglaneiaaChecked
import GoSem.Claim
import GoSem.ClaimJoined
import GoSem.ClaimMapViews
import Derived.JoinedTies
import Derived.KernelRfl
namespace Go.Proofs.Ytgilhcdglaneiaa
/- THE CELL 'sum', in the pinned program and in every row, IS THE sha256 OF THE DUMP (.gsa) THAT YtgilhcdglaneiaaProg.lean LOADS. Nothing in Lean hashes anything: it is a label: what it is worth is what the hold of that sum in a sandbox is worth. -/
noncomputable def Try.pinned : Pinned := { name := "ytgilhcdglaneiaa", sum := "7d9e0ab3ced51c4623d59471a1e8458d10773029dcba926b20a4ca15956fa65f", checked := Try.checked }
namespace Rows
def none {H : Type} : Left H := { results := [], args := [] }

/-- 'trellislaw03.DivnatMemory': WHATEVER THE INPUT: true; the input reads as it did. -/
def divnatMemorySpec : ChangeSpec := { name := "divnatMemory", fn := fun _ => fun
  | [d1, d2, d3] => { results := [.lit (.bool true)], args := [d1, d2, d3] }
  | _ => none }
def divnatMemoryRow : OpenClaim := { program := "ytgilhcdglaneiaa", sum := "7d9e0ab3ced51c4623d59471a1e8458d10773029dcba926b20a4ca15956fa65f", func := "trellis/trellislaw03.DivnatMemory", spec := "divnatMemory", inPlace := ["math/bits.Add64", "math/bits.Sub64"], recurses := true, named := ["math/bits.divideError", "math/bits.overflowError"], apart := false }
def DivnatMemorySaid : Prop := divnatMemoryRow.holds Try.pinned (OpenSpec.ofChange divnatMemorySpec)

/-- ITS FALSE NEIGHBOUR: 'it returns false'. Refute it at one input. -/
def divnatMemoryWrong : ChangeSpec := { name := "divnatMemory", fn := fun _ => fun
  | [d1, d2, d3] => { results := [.lit (.bool false)], args := [d1, d2, d3] }
  | _ => none }
def DivnatMemoryWrongFalsely : Prop := divnatMemoryRow.holds Try.pinned (OpenSpec.ofChange divnatMemoryWrong)

/-- 'trellislaw07.ApproxSums': WHATEVER THE INPUT: true; the input reads as it did. -/
def approxSumsSpec : ChangeSpec := { name := "approxSums", fn := fun _ => fun
  | [d] => { results := [.lit (.bool true)], args := [d] }
  | _ => none }
def approxSumsRow : OpenClaim := { program := "ytgilhcdglaneiaa", sum := "7d9e0ab3ced51c4623d59471a1e8458d10773029dcba926b20a4ca15956fa65f", func := "trellis/trellislaw07.ApproxSums", spec := "approxSums", inPlace := ["math.Float64frombits", "math/bits.Add64", "math/bits.Sub64", "math.Float64bits"], named := ["math/bits.divideError", "math/bits.overflowError"], apart := false }
def ApproxSumsSaid : Prop := approxSumsRow.holds Try.pinned (OpenSpec.ofChange approxSumsSpec)

/-- ITS FALSE NEIGHBOUR: 'it returns false'. Refute it at one input. -/
def approxSumsWrong : ChangeSpec := { name := "approxSums", fn := fun _ => fun
  | [d] => { results := [.lit (.bool false)], args := [d] }
  | _ => none }
def ApproxSumsWrongFalsely : Prop := approxSumsRow.holds Try.pinned (OpenSpec.ofChange approxSumsWrong)

/-- 'trellislaw07.ApproxNearest': WHATEVER THE INPUT: true; the input reads as it did. -/
def approxNearestSpec : ChangeSpec := { name := "approxNearest", fn := fun _ => fun
  | [d] => { results := [.lit (.bool true)], args := [d] }
  | _ => none }
def approxNearestRow : OpenClaim := { program := "ytgilhcdglaneiaa", sum := "7d9e0ab3ced51c4623d59471a1e8458d10773029dcba926b20a4ca15956fa65f", func := "trellis/trellislaw07.ApproxNearest", spec := "approxNearest", inPlace := ["math.Float64frombits", "math/bits.Add64", "math/bits.Sub64", "math.Float64bits"], named := ["math/bits.divideError", "math/bits.overflowError"], apart := false }
def ApproxNearestSaid : Prop := approxNearestRow.holds Try.pinned (OpenSpec.ofChange approxNearestSpec)

/-- ITS FALSE NEIGHBOUR: 'it returns false'. Refute it at one input. -/
def approxNearestWrong : ChangeSpec := { name := "approxNearest", fn := fun _ => fun
  | [d] => { results := [.lit (.bool false)], args := [d] }
  | _ => none }
def ApproxNearestWrongFalsely : Prop := approxNearestRow.holds Try.pinned (OpenSpec.ofChange approxNearestWrong)

/-- 'trellislaw07.ApproxBack': WHATEVER THE INPUT: true; the input reads as it did. -/
def approxBackSpec : ChangeSpec := { name := "approxBack", fn := fun _ => fun
  | [d] => { results := [.lit (.bool true)], args := [d] }
  | _ => none }
def approxBackRow : OpenClaim := { program := "ytgilhcdglaneiaa", sum := "7d9e0ab3ced51c4623d59471a1e8458d10773029dcba926b20a4ca15956fa65f", func := "trellis/trellislaw07.ApproxBack", spec := "approxBack", inPlace := ["math.Float64frombits", "math/bits.Add64", "math/bits.Sub64", "math.Float64bits"], recurses := true, named := ["math/bits.divideError", "math/bits.overflowError"], apart := false }
def ApproxBackSaid : Prop := approxBackRow.holds Try.pinned (OpenSpec.ofChange approxBackSpec)

/-- ITS FALSE NEIGHBOUR: 'it returns false'. Refute it at one input. -/
def approxBackWrong : ChangeSpec := { name := "approxBack", fn := fun _ => fun
  | [d] => { results := [.lit (.bool false)], args := [d] }
  | _ => none }
def ApproxBackWrongFalsely : Prop := approxBackRow.holds Try.pinned (OpenSpec.ofChange approxBackWrong)

/- THE SECOND FORM. 'bulk': how many values and letters a reading holds, each counted each time it is reached (what is shared counts as often as it is met; a slice's spare places count too). A statement '..UptoSaid' is the law's where the arguments, and the package variables that the reading takes, are together of bulk at most 1048576: NARROWER than '..Said'. Prove '..Said' where nothing that the law and all that it calls make is longer than what came in: it says more and counts as full. Else prove '..UptoSaid'. A law counts once. -/
mutual
def uptoBulk {H : Type} : DataW H → Nat
  | .lit (.string bytes) => bytes.length + 1
  | .lit _ => 1
  | .nil => 1
  | .ptr d => uptoBulk d + 1
  | .slice elems spare => uptoBulkAll elems + uptoBulkAll spare + 1
  | .agg parts => uptoBulkAll parts + 1
  | .iface _ d => uptoBulk d + 1
  | .map entries => uptoBulkEntries entries + 1
  | .held _ => 1
def uptoBulkAll {H : Type} : List (DataW H) → Nat
  | [] => 0
  | d :: r => uptoBulk d + uptoBulkAll r
def uptoBulkEntries {H : Type} : List (Lit × DataW H) → Nat
  | [] => 0
  | x :: r => uptoBulkEntry x + uptoBulkEntries r
def uptoBulkEntry {H : Type} : Lit × DataW H → Nat
  | (.string bytes, d) => bytes.length + uptoBulk d + 1
  | (_, d) => uptoBulk d + 1
 end
def uptoSmall : (H : Type) → List (DataW H) → Bool := fun _ ds => decide (uptoBulkAll ds ≤ 1048576)
def OpenSpec.upto (s : _root_.Go.ChangeSpec) : _root_.Go.OpenSpec := { _root_.Go.OpenSpec.ofChange s with cond := some uptoSmall }

/-- 'trellislaw03.DivnatMemory', WHERE WHAT IT READS IS OF BULK AT MOST 1048576: true; the input reads as it did. -/
def divnatMemoryUptoRow : OpenClaim := { program := "ytgilhcdglaneiaa", sum := "7d9e0ab3ced51c4623d59471a1e8458d10773029dcba926b20a4ca15956fa65f", func := "trellis/trellislaw03.DivnatMemory", spec := "divnatMemory", inPlace := ["math/bits.Add64", "math/bits.Sub64"], recurses := true, named := ["math/bits.divideError", "math/bits.overflowError"], apart := false, narrowed := true }
def DivnatMemoryUptoSaid : Prop := divnatMemoryUptoRow.holds Try.pinned (OpenSpec.upto divnatMemorySpec)

/-- 'trellislaw07.ApproxSums', WHERE WHAT IT READS IS OF BULK AT MOST 1048576: true; the input reads as it did. -/
def approxSumsUptoRow : OpenClaim := { program := "ytgilhcdglaneiaa", sum := "7d9e0ab3ced51c4623d59471a1e8458d10773029dcba926b20a4ca15956fa65f", func := "trellis/trellislaw07.ApproxSums", spec := "approxSums", inPlace := ["math.Float64frombits", "math/bits.Add64", "math/bits.Sub64", "math.Float64bits"], named := ["math/bits.divideError", "math/bits.overflowError"], apart := false, narrowed := true }
def ApproxSumsUptoSaid : Prop := approxSumsUptoRow.holds Try.pinned (OpenSpec.upto approxSumsSpec)

/-- 'trellislaw07.ApproxNearest', WHERE WHAT IT READS IS OF BULK AT MOST 1048576: true; the input reads as it did. -/
def approxNearestUptoRow : OpenClaim := { program := "ytgilhcdglaneiaa", sum := "7d9e0ab3ced51c4623d59471a1e8458d10773029dcba926b20a4ca15956fa65f", func := "trellis/trellislaw07.ApproxNearest", spec := "approxNearest", inPlace := ["math.Float64frombits", "math/bits.Add64", "math/bits.Sub64", "math.Float64bits"], named := ["math/bits.divideError", "math/bits.overflowError"], apart := false, narrowed := true }
def ApproxNearestUptoSaid : Prop := approxNearestUptoRow.holds Try.pinned (OpenSpec.upto approxNearestSpec)

/-- 'trellislaw07.ApproxBack', WHERE WHAT IT READS IS OF BULK AT MOST 1048576: true; the input reads as it did. -/
def approxBackUptoRow : OpenClaim := { program := "ytgilhcdglaneiaa", sum := "7d9e0ab3ced51c4623d59471a1e8458d10773029dcba926b20a4ca15956fa65f", func := "trellis/trellislaw07.ApproxBack", spec := "approxBack", inPlace := ["math.Float64frombits", "math/bits.Add64", "math/bits.Sub64", "math.Float64bits"], recurses := true, named := ["math/bits.divideError", "math/bits.overflowError"], apart := false, narrowed := true }
def ApproxBackUptoSaid : Prop := approxBackUptoRow.holds Try.pinned (OpenSpec.upto approxBackSpec)

end Rows
end Go.Proofs.Ytgilhcdglaneiaa
