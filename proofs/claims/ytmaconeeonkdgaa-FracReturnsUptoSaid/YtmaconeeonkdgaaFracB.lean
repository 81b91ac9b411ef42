/- fractions: sums, products, quotients -/
import Derived.Test.YtmaconeeonkdgaaFrac
import Derived.Test.YtmaconeeonkdgaaSame
namespace Go.Proofs.Ytmaconeeonkdgaa
open Go.RowKit

theorem ln_mul_le {x y : Int} {a b : Nat} (hx : ln x ≤ a) (hy : ln y ≤ b) {c : Nat} (h : a + b ≤ c) : ln (x * y) ≤ c := Nat.le_trans (ln_mul hx hy) h
theorem ln_muladd_le {x y z : Int} {a b d : Nat} (hx : ln x ≤ a) (hy : ln y ≤ b) (hz : ln z ≤ d) {c : Nat} (h : max (a + b) d + 1 ≤ c) : ln (x * y + z) ≤ c := Nat.le_trans (ln_add (ln_mul hx hy) hz) h

/-- the fraction of x and y, or its refusal -/
def OfP (w : World) (x y : Int) (e : Ending) (w' : World) : Prop :=
  ∃ p q er, RetFE w p q er e w' ∧ Hid ((y = 0 → p = 0 ∧ q = 0 ∧ er = 4) ∧ (y ≠ 0 → Low p q x y ∧ er = 0))
theorem frac_OfP {w : World} {s t : Bool} {A B : Option Addr} {n cap m cap' : Nat} {x y : Int} (hx : Zi w s A n cap x) (hl : n ≤ 68719476736) (hy : Zi w t B m cap' y) (hl' : m ≤ 68719476736) :
    Calls Try.prog 21 #[.agg #[.bool s, .slice A n cap], .agg #[.bool t, .slice B m cap']] w (OfP w x y) := by
  by_cases h0 : y = 0
  · exact (frac_Of_bad hy hl' h0).mono fun e w' h => ⟨0, 0, 4, h, fun _ => ⟨rfl, rfl, rfl⟩, fun h => absurd h0 h⟩
  · refine (frac_Of hx hl hy hl' h0).mono ?_
    rintro e w' ⟨p, q, hlow, h⟩
    exact ⟨p, q, 0, h, fun h => absurd h h0, fun _ => ⟨hlow.out, rfl⟩⟩




/-- a quotient of fractions, or its refusal -/
def DivP (w : World) (x y u v : Int) (e : Ending) (w' : World) : Prop :=
  ∃ p q er, RetFE w p q er e w' ∧ Hid ((y = 0 ∨ u = 0 ∨ v = 0 → p = 0 ∧ q = 0 ∧ er = 4) ∧ (y ≠ 0 → u ≠ 0 → v ≠ 0 → Low p q (x * v) (y * u) ∧ er = 0))
theorem div_of {x y u v p q er : Int} (hz : y ≠ 0 ∧ v ≠ 0) (h : (y * u = 0 → p = 0 ∧ q = 0 ∧ er = 4) ∧ (y * u ≠ 0 → Low p q (x * v) (y * u) ∧ er = 0)) :
    (y = 0 ∨ u = 0 ∨ v = 0 → p = 0 ∧ q = 0 ∧ er = 4) ∧ (y ≠ 0 → u ≠ 0 → v ≠ 0 → Low p q (x * v) (y * u) ∧ er = 0) := by
  refine ⟨fun h0 => ?_, fun hy hu _ => h.2 (Int.mul_ne_zero hy hu)⟩
  rcases h0 with h0 | h0 | h0
  · exact absurd h0 hz.1
  · exact h.1 (by rw [h0, Int.mul_zero])
  · exact absurd h0 hz.2


end Go.Proofs.Ytmaconeeonkdgaa
