/- integers: zint.Floor -/
import Derived.Test.YtmaconeeonkdgaaIntD
namespace Go.Proofs.Ytmaconeeonkdgaa
open Go.RowKit

theorem Zi.sgn {w : World} {s : Bool} {A : Option Addr} {n cap : Nat} {z : Int} (h : Zi w s A n cap z) (h0 : z ≠ 0) : s = decide (z < 0) := by
  obtain ⟨xs, _, rfl⟩ := h
  have hm : nv xs ≠ 0 := fun e => h0 (sg_eq_zero.2 e)
  rw [sg_lt, decide_eq_true (show 0 < nv xs by omega), Bool.and_true]
theorem boxN2 (w : World) (t t' : TypeId) (l l' : List Value) : ∃ g g2 wa, w.heap.size + 1 = g2 ∧ w.heap.size = g ∧ (w.alloc (.cells l.toArray t)).alloc (.cells l'.toArray t') = wa ∧ Bk wa g t l ∧ Bk wa g2 t' l' ∧ Ext w wa ∧ g < g2 ∧ g2 < wa.heap.size ∧ g ≠ g2 ∧ g2 ≠ g := by
  refine ⟨_, _, _, rfl, rfl, rfl, (Bk.new w t l).alloc _, ?_, ((Ext.refl w).alloc _).alloc _, by omega, by simp, by omega, by omega⟩
  have := Bk.new (w.alloc (.cells l.toArray t)) t' l'
  simpa using this
theorem Zr.upd_hi {w0 w w' : World} {base base' g : Nat} {s : Bool} {A : Option Addr} {n cap : Nat} {z z' : Int} (h0 : Zr w0 base' s A n cap z') (hw : w0.heap.size ≤ g) (h : Zr w base s A n cap z) (e : Upd g w w') : Zr w' base s A n cap z :=
  ⟨h.sgn, h.len, h.own.upd e (fun a ha => by have := (h0.own.block a ha).2; omega)⟩
end Go.Proofs.Ytmaconeeonkdgaa
