/-
  No cell of these rows narrows 'for every input' (looked for: loops, veiled, ifaces, maps, wideKeys, modest, calm, conditions, laid).
  DERIVED. THE GIVEN ROWS OF THIS SEAT. 5 by the template 'for every input the law returns true; each argument reads behind the call as it read before'; 0 by the template 'total and deterministic' (their statements: YthggegdkpalgbaaTotals.lean).
  GIVEN WITH THE SEED: the statements are not yours to turn. If you find one false, say at which input.
  Laid BY PROGRAM, IN A SANDBOX (cutbox-rows.mjs): the forced cells as the released guide's own fill.sh prints them over the translation b98b74d37be8c61f… (all of the seat's roots in one cut). By AI agents, Wed Nov 11 2026. No macro, syntax, notation, axiom, sorry.
-/
import Derived.Test.YthggegdkpalgbaaChecked
import GoSem.Claim
import GoSem.ClaimJoined
import GoSem.ClaimMapViews
import Derived.JoinedTies
import Derived.KernelRfl
namespace Go.Proofs.Ythggegdkpalgbaa
/- THE CELL 'sum', in the pinned program and in every row, IS THE sha256 OF THE DUMP (.gsa) THAT YthggegdkpalgbaaProg.lean LOADS. Nothing in Lean hashes anything: it is a label: what it is worth is what the hold of that sum in a sandbox is worth. -/
noncomputable def Try.pinned : Pinned := { name := "ythggegdkpalgbaa", sum := "b98b74d37be8c61fa33e58b6423b5732b8ed89ddcf27c91f815174ad119ac63d", checked := Try.checked }
namespace Rows
def none {H : Type} : Left H := { results := [], args := [] }

/-- 'trellislaw03.DivnatDivides': WHATEVER THE INPUT: true; the input reads as it did. -/
def divnatDividesSpec : ChangeSpec := { name := "divnatDivides", fn := fun _ => fun
  | [d1, d2, d3] => { results := [.lit (.bool true)], args := [d1, d2, d3] }
  | _ => none }
def divnatDividesRow : OpenClaim := { program := "ythggegdkpalgbaa", sum := "b98b74d37be8c61fa33e58b6423b5732b8ed89ddcf27c91f815174ad119ac63d", func := "trellis/trellislaw03.DivnatDivides", spec := "divnatDivides", inPlace := ["math/bits.Add64", "math/bits.Sub64"], recurses := true, named := ["math/bits.divideError", "math/bits.overflowError"], apart := false }
def DivnatDividesSaid : Prop := divnatDividesRow.holds Try.pinned (OpenSpec.ofChange divnatDividesSpec)

/-- ITS FALSE NEIGHBOUR: 'it returns false'. Refute it at one input. -/
def divnatDividesWrong : ChangeSpec := { name := "divnatDivides", fn := fun _ => fun
  | [d1, d2, d3] => { results := [.lit (.bool false)], args := [d1, d2, d3] }
  | _ => none }
def DivnatDividesWrongFalsely : Prop := divnatDividesRow.holds Try.pinned (OpenSpec.ofChange divnatDividesWrong)

/-- 'trellislaw03.DivnatAll': WHATEVER THE INPUT: true; the input reads as it did. -/
def divnatAllSpec : ChangeSpec := { name := "divnatAll", fn := fun _ => fun
  | [d] => { results := [.lit (.bool true)], args := [d] }
  | _ => none }
def divnatAllRow : OpenClaim := { program := "ythggegdkpalgbaa", sum := "b98b74d37be8c61fa33e58b6423b5732b8ed89ddcf27c91f815174ad119ac63d", func := "trellis/trellislaw03.DivnatAll", spec := "divnatAll", inPlace := ["math/bits.Add64", "math/bits.Sub64"], recurses := true, named := ["math/bits.divideError", "math/bits.overflowError"], apart := false }
def DivnatAllSaid : Prop := divnatAllRow.holds Try.pinned (OpenSpec.ofChange divnatAllSpec)

/-- ITS FALSE NEIGHBOUR: 'it returns false'. Refute it at one input. -/
def divnatAllWrong : ChangeSpec := { name := "divnatAll", fn := fun _ => fun
  | [d] => { results := [.lit (.bool false)], args := [d] }
  | _ => none }
def DivnatAllWrongFalsely : Prop := divnatAllRow.holds Try.pinned (OpenSpec.ofChange divnatAllWrong)

/-- 'trellislaw03.DivnatMemory': WHATEVER THE INPUT: true; the input reads as it did. -/
def divnatMemorySpec : ChangeSpec := { name := "divnatMemory", fn := fun _ => fun
  | [d1, d2, d3] => { results := [.lit (.bool true)], args := [d1, d2, d3] }
  | _ => none }
def divnatMemoryRow : OpenClaim := { program := "ythggegdkpalgbaa", sum := "b98b74d37be8c61fa33e58b6423b5732b8ed89ddcf27c91f815174ad119ac63d", func := "trellis/trellislaw03.DivnatMemory", spec := "divnatMemory", inPlace := ["math/bits.Add64", "math/bits.Sub64"], recurses := true, named := ["math/bits.divideError", "math/bits.overflowError"], apart := false }
def DivnatMemorySaid : Prop := divnatMemoryRow.holds Try.pinned (OpenSpec.ofChange divnatMemorySpec)

/-- ITS FALSE NEIGHBOUR: 'it returns false'. Refute it at one input. -/
def divnatMemoryWrong : ChangeSpec := { name := "divnatMemory", fn := fun _ => fun
  | [d1, d2, d3] => { results := [.lit (.bool false)], args := [d1, d2, d3] }
  | _ => none }
def DivnatMemoryWrongFalsely : Prop := divnatMemoryRow.holds Try.pinned (OpenSpec.ofChange divnatMemoryWrong)

/-- 'trellislaw07.ApproxSums': WHATEVER THE INPUT: true; the input reads as it did. -/
def approxSumsSpec : ChangeSpec := { name := "approxSums", fn := fun _ => fun
  | [d] => { results := [.lit (.bool true)], args := [d] }
  | _ => none }
def approxSumsRow : OpenClaim := { program := "ythggegdkpalgbaa", sum := "b98b74d37be8c61fa33e58b6423b5732b8ed89ddcf27c91f815174ad119ac63d", func := "trellis/trellislaw07.ApproxSums", spec := "approxSums", inPlace := ["math.Float64frombits", "math/bits.Add64", "math/bits.Sub64", "math.Float64bits"], named := ["math/bits.divideError", "math/bits.overflowError"], apart := false }
def ApproxSumsSaid : Prop := approxSumsRow.holds Try.pinned (OpenSpec.ofChange approxSumsSpec)

/-- ITS FALSE NEIGHBOUR: 'it returns false'. Refute it at one input. -/
def approxSumsWrong : ChangeSpec := { name := "approxSums", fn := fun _ => fun
  | [d] => { results := [.lit (.bool false)], args := [d] }
  | _ => none }
def ApproxSumsWrongFalsely : Prop := approxSumsRow.holds Try.pinned (OpenSpec.ofChange approxSumsWrong)

/-- 'trellislaw07.ApproxNearest': WHATEVER THE INPUT: true; the input reads as it did. -/
def approxNearestSpec : ChangeSpec := { name := "approxNearest", fn := fun _ => fun
  | [d] => { results := [.lit (.bool true)], args := [d] }
  | _ => none }
def approxNearestRow : OpenClaim := { program := "ythggegdkpalgbaa", sum := "b98b74d37be8c61fa33e58b6423b5732b8ed89ddcf27c91f815174ad119ac63d", func := "trellis/trellislaw07.ApproxNearest", spec := "approxNearest", inPlace := ["math.Float64frombits", "math/bits.Add64", "math/bits.Sub64", "math.Float64bits"], named := ["math/bits.divideError", "math/bits.overflowError"], apart := false }
def ApproxNearestSaid : Prop := approxNearestRow.holds Try.pinned (OpenSpec.ofChange approxNearestSpec)

/-- ITS FALSE NEIGHBOUR: 'it returns false'. Refute it at one input. -/
def approxNearestWrong : ChangeSpec := { name := "approxNearest", fn := fun _ => fun
  | [d] => { results := [.lit (.bool false)], args := [d] }
  | _ => none }
def ApproxNearestWrongFalsely : Prop := approxNearestRow.holds Try.pinned (OpenSpec.ofChange approxNearestWrong)

/- THE SECOND FORM. 'bulk': how many values and letters a reading holds, each counted each time it is reached (what is shared counts as often as it is met; a slice's spare places count too). A statement '..UptoSaid' is the law's where the arguments, and the package variables that the reading takes, are together of bulk at most 1048576: NARROWER than '..Said'. Prove '..Said' where nothing that the law and all that it calls make is longer than what came in: it says more and counts as full. Else prove '..UptoSaid'. A law counts once. -/
mutual
def uptoBulk {H : Type} : DataW H → Nat
  | .lit (.string bytes) => bytes.length + 1
  | .lit _ => 1
  | .nil => 1
  | .ptr d => uptoBulk d + 1
  | .slice elems spare => uptoBulkAll elems + uptoBulkAll spare + 1
  | .agg parts => uptoBulkAll parts + 1
  | .iface _ d => uptoBulk d + 1
  | .map entries => uptoBulkEntries entries + 1
  | .held _ => 1
def uptoBulkAll {H : Type} : List (DataW H) → Nat
  | [] => 0
  | d :: r => uptoBulk d + uptoBulkAll r
def uptoBulkEntries {H : Type} : List (Lit × DataW H) → Nat
  | [] => 0
  | x :: r => uptoBulkEntry x + uptoBulkEntries r
def uptoBulkEntry {H : Type} : Lit × DataW H → Nat
  | (.string bytes, d) => bytes.length + uptoBulk d + 1
  | (_, d) => uptoBulk d + 1
 end
def uptoSmall : (H : Type) → List (DataW H) → Bool := fun _ ds => decide (uptoBulkAll ds ≤ 1048576)
def OpenSpec.upto (s : _root_.Go.ChangeSpec) : _root_.Go.OpenSpec := { _root_.Go.OpenSpec.ofChange s with cond := some uptoSmall }

/-- 'trellislaw03.DivnatDivides', WHERE WHAT IT READS IS OF BULK AT MOST 1048576: true; the input reads as it did. -/
def divnatDividesUptoRow : OpenClaim := { program := "ythggegdkpalgbaa", sum := "b98b74d37be8c61fa33e58b6423b5732b8ed89ddcf27c91f815174ad119ac63d", func := "trellis/trellislaw03.DivnatDivides", spec := "divnatDivides", inPlace := ["math/bits.Add64", "math/bits.Sub64"], recurses := true, named := ["math/bits.divideError", "math/bits.overflowError"], apart := false, narrowed := true }
def DivnatDividesUptoSaid : Prop := divnatDividesUptoRow.holds Try.pinned (OpenSpec.upto divnatDividesSpec)

/-- 'trellislaw03.DivnatAll', WHERE WHAT IT READS IS OF BULK AT MOST 1048576: true; the input reads as it did. -/
def divnatAllUptoRow : OpenClaim := { program := "ythggegdkpalgbaa", sum := "b98b74d37be8c61fa33e58b6423b5732b8ed89ddcf27c91f815174ad119ac63d", func := "trellis/trellislaw03.DivnatAll", spec := "divnatAll", inPlace := ["math/bits.Add64", "math/bits.Sub64"], recurses := true, named := ["math/bits.divideError", "math/bits.overflowError"], apart := false, narrowed := true }
def DivnatAllUptoSaid : Prop := divnatAllUptoRow.holds Try.pinned (OpenSpec.upto divnatAllSpec)

/-- 'trellislaw03.DivnatMemory', WHERE WHAT IT READS IS OF BULK AT MOST 1048576: true; the input reads as it did. -/
def divnatMemoryUptoRow : OpenClaim := { program := "ythggegdkpalgbaa", sum := "b98b74d37be8c61fa33e58b6423b5732b8ed89ddcf27c91f815174ad119ac63d", func := "trellis/trellislaw03.DivnatMemory", spec := "divnatMemory", inPlace := ["math/bits.Add64", "math/bits.Sub64"], recurses := true, named := ["math/bits.divideError", "math/bits.overflowError"], apart := false, narrowed := true }
def DivnatMemoryUptoSaid : Prop := divnatMemoryUptoRow.holds Try.pinned (OpenSpec.upto divnatMemorySpec)

/-- 'trellislaw07.ApproxSums', WHERE WHAT IT READS IS OF BULK AT MOST 1048576: true; the input reads as it did. -/
def approxSumsUptoRow : OpenClaim := { program := "ythggegdkpalgbaa", sum := "b98b74d37be8c61fa33e58b6423b5732b8ed89ddcf27c91f815174ad119ac63d", func := "trellis/trellislaw07.ApproxSums", spec := "approxSums", inPlace := ["math.Float64frombits", "math/bits.Add64", "math/bits.Sub64", "math.Float64bits"], named := ["math/bits.divideError", "math/bits.overflowError"], apart := false, narrowed := true }
def ApproxSumsUptoSaid : Prop := approxSumsUptoRow.holds Try.pinned (OpenSpec.upto approxSumsSpec)

/-- 'trellislaw07.ApproxNearest', WHERE WHAT IT READS IS OF BULK AT MOST 1048576: true; the input reads as it did. -/
def approxNearestUptoRow : OpenClaim := { program := "ythggegdkpalgbaa", sum := "b98b74d37be8c61fa33e58b6423b5732b8ed89ddcf27c91f815174ad119ac63d", func := "trellis/trellislaw07.ApproxNearest", spec := "approxNearest", inPlace := ["math.Float64frombits", "math/bits.Add64", "math/bits.Sub64", "math.Float64bits"], named := ["math/bits.divideError", "math/bits.overflowError"], apart := false, narrowed := true }
def ApproxNearestUptoSaid : Prop := approxNearestUptoRow.holds Try.pinned (OpenSpec.upto approxNearestSpec)

end Rows
end Go.Proofs.Ythggegdkpalgbaa
