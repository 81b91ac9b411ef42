/- The text of a matrix is read back as it; it is one part of a line, and that line is printed as it was written; of bulk at most 1048576. -/
import Derived.Test.YtnpbbknemflpnaaGreatDoorX5
import Derived.Test.YtnpbbknemflpnaaGreatDoorCards
import Derived.Test.YtnpbbknemflpnaaGreatDoorTie
import Derived.Deep.DeepHandedRow
import Derived.Lib.LaidTab
import Derived.LaidLaws
namespace Go.Proofs.YtnpbbknemflpnaaGreatDoor.wholeMatrixTextUpto
open Go.ChangeShapes Go.WideShapes Go.ChangeAt Go.RowKit Go.Proofs.YtnpbbknemflpnaaGreatDoor

theorem gTab : Tryz.prog.globalNamed "trellis/radix.signs" = some 1 := by kernel_rfl
theorem gTabType : (Tryz.prog.globals[1]?).map (·.type) = some 167 := by kernel_rfl
theorem cellsTab : Tryz.prog.cellsOf 167 = 36 := by kernel_rfl
theorem cellsByte : Tryz.prog.cellsOf 5 = 1 := by kernel_rfl
theorem table {W : World} (h : laidMetH Tryz.prog Rows.wholeMatrixTextUptoRow.laid W) : Lib.TabIs Tryz.prog W "trellis/radix.signs" .u8 [48, 49, 50, 51, 52, 53, 54, 55, 56, 57, 97, 98, 99, 100, 101, 102, 103, 104, 105, 106, 107, 108, 109, 110, 111, 112, 113, 114, 115, 116, 117, 118, 119, 120, 121, 122] :=
  Lib.tabIs_of_head (rest := []) gTab gTabType Tryz.underlying167 Tryz.underlying5 cellsByte cellsTab h
theorem signs {W : World} (h : laidMetH Tryz.prog Rows.wholeMatrixTextUptoRow.laid W) : Signs W := fun d hd => by
  have h1 := (table h).cell gTab d hd
  rw [h1]
  have key : ∀ d, d < 36 → ([48, 49, 50, 51, 52, 53, 54, 55, 56, 57, 97, 98, 99, 100, 101, 102, 103, 104, 105, 106, 107, 108, 109, 110, 111, 112, 113, 114, 115, 116, 117, 118, 119, 120, 121, 122] : List Int).getD d 0 = ((sgn d : Nat) : Int) := by decide
  rw [key d hd]

set_option maxRecDepth 100000 in
theorem contract (H : Type) (enc : TypeId × Value → H) (W : World) (base : Nat) (args : Array Value) (ds gs : List (DataW H)) (before : List MemPlace)
    (hval : ∀ (j : Nat) t v, Tryz.f3.params[j]? = some t → args[j]? = some v → Value.okWide Tryz.prog W .any base t v)
    (hW : DataW.Whole enc Tryz.prog Tryz.f3.params.toList Rows.wholeMatrixTextSpec.vars false W args.toList ds gs before) (hk : Rows.uptoSmall H (ds ++ gs) = true) (hL : laidMetH Tryz.prog Rows.wholeMatrixTextUptoRow.laid W) (hm : Mxl W) :
    Calls Tryz.prog 3 args W fun e W' => ∃ v, e = .returned v ∧ Rows.wholeMatrixTextSpec.post enc Tryz.prog Tryz.f3 false true false false W args v W' := by
  have hW' := hW
  obtain ⟨p, q, hA0, hV, rfl, hfz, hnd⟩ := hW
  have hst : ∀ W', Ext W W' → ∀ sp : Nat → Bool, (∀ q ∈ p, sp q.block = true) → DataW.TrodAll enc Tryz.prog W' 0 sp true Tryz.f3.params.toList args.toList ds p := fun W' he sp hsp =>
    FR he (by rw [Tryz.params3]; decide +kernel) hA0 (fun r hr => hW'.lt r (by simp [hr])) hsp
  have hA : DataW.TrodAll enc Tryz.prog W 0 (fun _ => true) true Tryz.f3.params.toList args.toList ds p := hA0
  rw [Tryz.params3] at hA hval
  obtain ⟨v0, vs0, d0, ds0, p0, q0, hargs, rfl, rfl, h0, r0⟩ := trodAll_cons hA
  obtain ⟨rfl, rfl, rfl⟩ := trodAll_nil r0
  obtain rfl : args = #[v0] := by cases args; simp_all
  obtain ⟨rfl, rfl⟩ := trodVars_none hV
  obtain ⟨R0, C0, A0, n0, c0, zs0, ms0, rfl, hx0, hb0⟩ := IM (hval 0 24 v0 rfl rfl) h0
  clear hA0
  simp only [List.append_nil] at hW' hk
  have hb := OO hk
  simp only [Rows.uptoBulkAll] at hb
  refine (JT (hx0.mat0) (by omega) hm (signs hL)).mono fun e W' ⟨he, hg⟩ => ?_
  subst he
  exact ⟨_, rfl, IB (pa := _) (pv := []) hW' (fun _ _ _ => (trodAll_cons_mk (shut_bool Tryz.underlying4 _) trodAll_mk0)) (fun sp hsp => hst W' hg sp (fun r hr => hsp r (by simpa using hr))) (fun _ _ => rfl) (by simp) hg.below (ok_one (by kernel_rfl) rfl (okWide_bool_mk Tryz.underlying4 _))⟩

noncomputable def laidWorld (os : Os) : World :=
  { World.holding Tryz.prog os ⟨#[], #[], []⟩ with heap := (World.holding Tryz.prog os ⟨#[], #[], []⟩).heap.modify 1 fun
      | .cells _ t frozen => .cells #[.int .u8 48, .int .u8 49, .int .u8 50, .int .u8 51, .int .u8 52, .int .u8 53, .int .u8 54, .int .u8 55, .int .u8 56, .int .u8 57, .int .u8 97, .int .u8 98, .int .u8 99, .int .u8 100, .int .u8 101, .int .u8 102, .int .u8 103, .int .u8 104, .int .u8 105, .int .u8 106, .int .u8 107, .int .u8 108, .int .u8 109, .int .u8 110, .int .u8 111, .int .u8 112, .int .u8 113, .int .u8 114, .int .u8 115, .int .u8 116, .int .u8 117, .int .u8 118, .int .u8 119, .int .u8 120, .int .u8 121, .int .u8 122] t frozen
      | o => o }
theorem laid_met (os : Os) : laidMet Tryz.prog Rows.wholeMatrixTextUptoRow.laid ((laidWorld os).forCall (fun _ _ => 0) ⟨#[], #[.agg #[.int .i64 0, .int .i64 0, .slice none 0 0]], []⟩).memory :=
  laidMet_of_run' 8 (by kernel_rfl) (by kernel_rfl)
theorem reads (os : Os) {H : Type} (enc : TypeId × Value → H) : ∃ places, DataW.whole enc Tryz.prog ((laidWorld os).forCall (fun _ _ => 0) ⟨#[], #[.agg #[.int .i64 0, .int .i64 0, .slice none 0 0]], []⟩).memory Tryz.f3.params.toList Rows.wholeMatrixTextSpec.vars false (#[.agg #[.int .i64 0, .int .i64 0, .slice none 0 0]] : Array Value).toList 8 = some ([.agg [.lit (.int .i64 0), .lit (.int .i64 0), .nil]], [], places) :=
  ⟨[], by kernel_rfl⟩
set_option maxRecDepth 100000 in
theorem lifted (os : Os) (started : os.Started) (H : Type) (enc : TypeId × Value → H) (F : Stop.Interp) :
    ReturnsInHanded {} Tryz.checked os 3 .any ((Rows.OpenSpec.upto Rows.wholeMatrixTextSpec).preRow enc Tryz.prog Tryz.f3 Rows.wholeMatrixTextUptoRow.domain false Rows.wholeMatrixTextUptoRow.laid) (((Rows.OpenSpec.upto Rows.wholeMatrixTextSpec).at F).post enc Tryz.prog Tryz.f3 false true false false) := by
  obtain ⟨places, hx⟩ := reads os enc
  refine returnsInHanded_of_row (C := Tryz.checked) (s := Rows.OpenSpec.upto Rows.wholeMatrixTextSpec) IF started (by kernel_rfl) Tryz.func3
    (witness_row_at (enc := enc) (C := Tryz.checked) false (laidWorld os) #[.agg #[.int .i64 0, .int .i64 0, .slice none 0 0]] rfl (by kernel_rfl) (by kernel_rfl) (by kernel_rfl)
      (OpenSpec.preRow_of_cond 8 hx (by kernel_rfl) (fun k hk => by cases hk; kernel_rfl) (by kernel_rfl) (laid_met os))) ?_
  intro W base args ds gs before hval hW _ hcond _ hL hsh _
  exact contract H enc W base args ds gs before hval hW (hcond _ rfl) hL (Tryz.laysM219.s1_3 W hsh)
theorem saidUpto : Rows.WholeMatrixTextUptoSaid :=
  OpenClaim.holds_of_cond 3 Tryz.f3 rfl rfl rfl rfl rfl rfl rfl ⟨rfl, rfl, rfl, rfl, rfl⟩ rfl rfl rfl rfl rfl (by kernel_rfl) Tryz.func3 (by kernel_rfl)
    (of_decide_eq_true (by kernel_rfl)) (by unfold Func.isWrapper; first | (rw [if_pos (by decide +kernel)]; kernel_rfl) | (rw [if_neg (by decide +kernel)]; exact ⟨rfl, rfl⟩))
    (fun os started H enc _ F => by rw [OpenClaim.pre_eq_preRow]; exact lifted os started H enc F)
theorem plain (f : FuncId) (fn : Func) (hf : Tryz.pinned.checked.prog.funcNamed "trellis/trellistop.WholeMatrixText" = some f) (hfn : Tryz.pinned.checked.prog.funcs[f]? = some fn) :
    true = Tryz.pinned.checked.prog.looks [] ∧ ∀ (j : Nat) t, fn.params[j]? = some t → Tryz.pinned.checked.prog.wantsStandIn t = false := by
  obtain rfl : f = 3 := Option.some.inj ((show Tryz.prog.funcNamed "trellis/trellistop.WholeMatrixText" = some 3 by kernel_rfl).symm.trans hf) |>.symm
  obtain rfl : fn = Tryz.f3 := (Option.some.inj (Tryz.func3.symm.trans hfn)).symm
  refine ⟨by kernel_rfl, fun j t ht => ?_⟩
  rw [Tryz.params3] at ht
  have hm := Array.mem_of_getElem? ht
  have key : ∀ t ∈ (#[24] : Array TypeId), Tryz.prog.wantsStandIn t = false := by decide +kernel
  exact key t hm
/-- The text of a matrix is read back as it; it is one part of a line, and that line is printed as it was written; of bulk at most 1048576. -/
theorem proved : Rows.WholeMatrixTextUptoCardSaid :=
  Claim7.holds_tied_plain_at .later [] _ _ _ _ saidUpto (fun _ h => by cases h) (by kernel_rfl) (fun _ h => by cases h) wholeMatrixTextUpto_row_tie rfl ⟨rfl, rfl⟩ (by kernel_rfl) rfl plain (by kernel_rfl)
#print axioms proved
end Go.Proofs.YtnpbbknemflpnaaGreatDoor.wholeMatrixTextUpto
