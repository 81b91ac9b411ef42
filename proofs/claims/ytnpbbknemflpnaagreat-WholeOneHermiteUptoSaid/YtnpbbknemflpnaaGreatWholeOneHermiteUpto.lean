/- Matrices of one lattice have one Hermite form: behind any steps on the rows it is the same; and the Hermite form of a Hermite form is itself; of bulk at most 1048576. -/
import Derived.Test.YtnpbbknemflpnaaGreatV5
namespace Go.Proofs.YtnpbbknemflpnaaGreat.wholeOneHermiteUpto
open Go.ChangeShapes Go.WideShapes Go.ChangeAt Go.RowKit Go.Proofs.YtnpbbknemflpnaaGreat

set_option maxRecDepth 100000 in
theorem contract (H : Type) (enc : TypeId × Value → H) (W : World) (base : Nat) (args : Array Value) (ds gs : List (DataW H)) (before : List MemPlace)
    (hval : ∀ (j : Nat) t v, Tryz.f3.params[j]? = some t → args[j]? = some v → Value.okWide Tryz.prog W .any base t v)
    (hW : DataW.Whole enc Tryz.prog Tryz.f3.params.toList Rows.wholeOneHermiteSpec.vars false W args.toList ds gs before) (hk : Rows.uptoSmall H (ds ++ gs) = true) :
    Calls Tryz.prog 3 args W fun e W' => ∃ v, e = .returned v ∧ Rows.wholeOneHermiteSpec.post enc Tryz.prog Tryz.f3 false true false false W args v W' := by
  have hW' := hW
  obtain ⟨p, q, hA0, hV, rfl, hfz, hnd⟩ := hW
  have hst : ∀ W', Ext W W' → ∀ sp : Nat → Bool, (∀ q ∈ p, sp q.block = true) → DataW.TrodAll enc Tryz.prog W' 0 sp true Tryz.f3.params.toList args.toList ds p := fun W' he sp hsp =>
    stays_all he (by rw [Tryz.params3]; decide +kernel) hA0 (fun r hr => hW'.lt r (by simp [hr])) hsp
  have hA : DataW.TrodAll enc Tryz.prog W 0 (fun _ => true) true Tryz.f3.params.toList args.toList ds p := hA0
  rw [Tryz.params3] at hA hval
  obtain ⟨v0, vs0, d0, ds0, p0, q0, hargs, rfl, rfl, h0, r0⟩ := trodAll_cons hA
  obtain ⟨v1, vs1, d1, ds1, p1, q1, rfl, rfl, rfl, h1, r1⟩ := trodAll_cons r0
  obtain ⟨rfl, rfl, rfl⟩ := trodAll_nil r1
  obtain rfl : args = #[v0, v1] := by cases args; simp_all
  obtain ⟨rfl, rfl⟩ := trodVars_none hV
  obtain ⟨R0, C0, A0, n0, c0, zs0, ms0, rfl, hx0, hb0⟩ := open_mat (hval 0 24 v0 rfl rfl) h0
  obtain ⟨A1, n1, c1, ss1, ms1, rfl, hx1, hb1⟩ := open_steps (hval 1 25 v1 rfl rfl) h1
  clear hA0
  simp only [List.append_nil] at hW' hk
  have hb := bulk_bound hk
  simp only [Rows.uptoBulkAll] at hb
  refine (law_WholeOneHermite (hx0.mat0) hx1 (by omega)).mono fun e W' ⟨he, hg⟩ => ?_
  subst he
  exact ⟨_, rfl, post_of_below (pa := _) (pv := []) hW' (fun _ _ _ => (trodAll_cons_mk (shut_bool Tryz.underlying4 _) trodAll_mk0)) (fun sp hsp => hst W' hg sp (fun r hr => hsp r (by simpa using hr))) (fun _ _ => rfl) (by simp) hg.below (ok_one (by kernel_rfl) rfl (okWide_bool_mk Tryz.underlying4 _))⟩

set_option maxRecDepth 100000 in
theorem lifted (os : Os) (started : os.Started) (H : Type) (enc : TypeId × Value → H) (F : Stop.Interp) :
    ReturnsInHanded {} Tryz.checked os 3 .any ((Rows.OpenSpec.upto Rows.wholeOneHermiteSpec).pre6 enc Tryz.prog Tryz.f3 Rows.wholeOneHermiteUptoRow.domain false) (((Rows.OpenSpec.upto Rows.wholeOneHermiteSpec).at F).post enc Tryz.prog Tryz.f3 false true false false) := by
  refine returnsInHanded_of_cond (C := Tryz.checked) (s := Rows.OpenSpec.upto Rows.wholeOneHermiteSpec) (k := Rows.uptoSmall) rfl own_knob started (by kernel_rfl) Tryz.func3
    (OpenSpec.witness (enc := enc) (C := Tryz.checked) (s := Rows.OpenSpec.upto Rows.wholeOneHermiteSpec) (k := Rows.uptoSmall) rfl false ⟨#[], #[.agg #[.int .i64 0, .int .i64 0, .slice none 0 0], .slice none 0 0], []⟩ 8 (by kernel_rfl) (by kernel_rfl) (by kernel_rfl)
      (x := ([.agg [.lit (.int .i64 0), .lit (.int .i64 0), .nil], .nil], [], [])) (by kernel_rfl) rfl (by kernel_rfl)) ?_
  intro W base args ds gs before hval hW _ hk _
  exact contract H enc W base args ds gs before hval hW hk

/-- Matrices of one lattice have one Hermite form: behind any steps on the rows it is the same; and the Hermite form of a Hermite form is itself; of bulk at most 1048576. -/
theorem proved : Rows.WholeOneHermiteUptoSaid :=
  OpenClaim.holds_of_cond 3 Tryz.f3 rfl rfl rfl rfl rfl rfl rfl ⟨rfl, rfl, rfl, rfl, rfl⟩ rfl rfl rfl rfl rfl (by kernel_rfl) Tryz.func3 (by kernel_rfl)
    (of_decide_eq_true (by kernel_rfl)) (by unfold Func.isWrapper; first | (rw [if_pos (by decide +kernel)]; kernel_rfl) | (rw [if_neg (by decide +kernel)]; exact ⟨rfl, rfl⟩))
    (fun os started H enc _ F => lifted os started H enc F)
#print axioms proved
end Go.Proofs.YtnpbbknemflpnaaGreat.wholeOneHermiteUpto

