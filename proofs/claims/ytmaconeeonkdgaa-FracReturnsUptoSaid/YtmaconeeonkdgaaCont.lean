/- continued fractions: numerator and denominator, neighbours. No program in sight. -/
import Derived.Test.YtmaconeeonkdgaaBase
namespace Go.Proofs.Ytmaconeeonkdgaa
/-- numerator and denominator of a continued fraction, from its end -/
def nd : List Int → Int × Int
  | [] => (1, 0)
  | x :: r => (x * (nd r).1 + (nd r).2, (nd r).1)
theorem nd_den (x : Int) (r : List Int) : (nd (x :: r)).2 = (nd r).1 := rfl
theorem nd_num (x : Int) (r : List Int) : (nd (x :: r)).1 = x * (nd r).1 + (nd r).2 := rfl
theorem nd_gcd (l : List Int) : Int.gcd (nd l).1 (nd l).2 = 1 := by
  induction l with
  | nil => rfl
  | cons x r ih =>
    rw [nd_num, nd_den, Int.gcd_comm]
    have : Int.gcd (nd r).1 (x * (nd r).1 + (nd r).2) = Int.gcd (nd r).1 (nd r).2 := by simp
    rw [this]; exact ih
/-- where all lie above 0, so do both -/
theorem nd_pos (l : List Int) (h : ∀ x ∈ l, 0 < x) : 0 < (nd l).1 ∧ 0 ≤ (nd l).2 := by
  induction l with
  | nil => exact ⟨by decide, by decide⟩
  | cons x r ih =>
    obtain ⟨h1, h2⟩ := ih (fun y hy => h y (by simp [hy]))
    rw [nd_num, nd_den]
    have := Int.mul_pos (h x (by simp)) h1
    exact ⟨by omega, by omega⟩
/-- neighbours -/
theorem nd_cross (l : List Int) (y : Int) (h : l ≠ []) : (nd (l ++ [y])).1 * (nd l).2 - (nd l).1 * (nd (l ++ [y])).2 = if l.length % 2 = 1 then 1 else -1 := by
  induction l with
  | nil => exact absurd rfl h
  | cons x r ih =>
    cases r with
    | nil =>
      simp [nd]
      omega
    | cons z s =>
      have this := ih (by simp)
      generalize z :: s = m at this ⊢
      have a1 : (nd (x :: m ++ [y])).1 = x * (nd (m ++ [y])).1 + (nd (m ++ [y])).2 := rfl
      have a2 : (nd (x :: m ++ [y])).2 = (nd (m ++ [y])).1 := rfl
      have a3 : (nd (x :: m)).1 = x * (nd m).1 + (nd m).2 := rfl
      have a4 : (nd (x :: m)).2 = (nd m).1 := rfl
      rw [a1, a2, a3, a4, List.length_cons]
      generalize (nd (m ++ [y])).1 = P at *
      generalize (nd (m ++ [y])).2 = Q at *
      generalize (nd m).1 = R at *
      generalize (nd m).2 = T at *
      have hp : (m.length + 1) % 2 = 1 ↔ ¬ m.length % 2 = 1 := by omega
      by_cases hc : m.length % 2 = 1
      · rw [if_pos hc] at this
        rw [if_neg (fun h => (hp.1 h) hc)]
        clear a1 a2 a3 a4 hp hc ih
        grind
      · rw [if_neg hc] at this
        rw [if_pos (hp.2 hc)]
        clear a1 a2 a3 a4 hp hc ih
        grind
theorem nd_den_pos (x : Int) (r : List Int) (h : ∀ y ∈ r, 0 < y) : 0 < (nd (x :: r)).2 := by
  rw [nd_den]; exact (nd_pos r h).1
end Go.Proofs.Ytmaconeeonkdgaa
