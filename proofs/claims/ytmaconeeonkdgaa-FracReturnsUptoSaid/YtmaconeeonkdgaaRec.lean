/- Rational reconstruction: what the steps keep, and why the small fraction is met. No program in sight. -/
import Derived.Test.YtmaconeeonkdgaaBz
namespace Go.Proofs.Ytmaconeeonkdgaa
structure RecI (m r x y t u : Int) : Prop where
  y0 : 0 ≤ y
  yx : y < x
  xm : x ≤ m
  cx : m ∣ x - t * r
  cy : m ∣ y - u * r
  det : x.natAbs * u.natAbs + y.natAbs * t.natAbs = m.natAbs
  sg : t * u ≤ 0
  u0 : u ≠ 0
  tb : t.natAbs ≤ m.natAbs
theorem RecI.init {m r : Int} (hm : 0 < m) : RecI m r m.natAbs (r % m) 0 1 := by
  have e : (m.natAbs : Int) = m := by omega
  rw [e]
  refine ⟨Int.emod_nonneg _ (by omega), Int.emod_lt_of_pos _ hm, Int.le_refl _, by simp, ?_, by simp, by decide, by decide, by simp⟩
  have := Int.mul_ediv_add_emod r m
  refine ⟨-(r / m), ?_⟩
  rw [Int.mul_neg]
  omega
theorem RecI.step {m r x y t u : Int} (h : RecI m r x y t u) (hy : 0 < y) : RecI m r y (x.tmod y) u (t - x.tdiv y * u) := by
  have hx : 0 ≤ x := by have := h.yx; omega
  have e := Int.tdiv_mul_add_tmod x y
  have nn := Int.tmod_nonneg y hx
  have hq : 0 ≤ x.tdiv y := Int.tdiv_nonneg hx h.y0
  have hlt : x.tmod y < y := Int.tmod_lt_of_pos _ hy
  have hab := natAbs_opp h.sg hq
  have hq1 : 1 ≤ x.tdiv y := by
    refine Classical.byContradiction (fun hle => ?_)
    have h0 : x.tdiv y = 0 := by omega
    rw [h0, Int.zero_mul, Int.zero_add] at e
    have := h.yx
    omega
  refine ⟨nn, hlt, by have := h.yx; have := h.xm; omega, h.cy, ?_, ?_, ?_, ?_, ?_⟩
  · have e3 : x.tmod y - (t - x.tdiv y * u) * r = (x - t * r) - x.tdiv y * (y - u * r) := by
      have : x.tmod y = x - x.tdiv y * y := by omega
      rw [this]; grind
    rw [e3]
    exact Int.dvd_sub h.cx (Int.dvd_mul_of_dvd_right h.cy)
  · rw [hab, ← h.det]
    have e2 : x.natAbs = (x.tdiv y).natAbs * y.natAbs + (x.tmod y).natAbs := by
      rw [← Int.natAbs_mul, ← Int.natAbs_add_of_nonneg (Int.mul_nonneg hq h.y0) nn, e]
    rw [e2]
    grind
  · have e4 : u * (t - x.tdiv y * u) = t * u - x.tdiv y * (u * u) := by grind
    rw [e4]
    have h1 : 0 ≤ u * u := by
      rcases Int.le_total 0 u with h | h
      · exact Int.mul_nonneg h h
      · exact Int.mul_nonneg_of_nonpos_of_nonpos h h
    have := Int.mul_nonneg hq h1
    have := h.sg
    omega
  · intro h0
    rw [h0] at hab
    have h1 : 0 < u.natAbs := by have := h.u0; omega
    have h2 : 0 < (x.tdiv y).natAbs := by omega
    have h3 := Nat.mul_pos h2 h1
    rw [Int.natAbs_zero] at hab
    omega
  · have h1 := h.det
    have h2 : 1 ≤ x.natAbs := by have := h.yx; omega
    have h3 : u.natAbs ≤ x.natAbs * u.natAbs := Nat.le_mul_of_pos_left _ h2
    omega
theorem abs_same {a b : Int} (h : 0 ≤ a * b) : (a + b).natAbs = a.natAbs + b.natAbs := by
  rcases Int.lt_trichotomy a 0 with ha | ha | ha
  · have : b ≤ 0 := by
      refine Int.le_of_not_gt fun hb => ?_
      have := Int.mul_neg_of_neg_of_pos ha hb
      omega
    omega
  · subst ha; simp
  · have : 0 ≤ b := by
      refine Int.le_of_not_gt fun hb => ?_
      have := Int.mul_neg_of_pos_of_neg ha hb
      omega
    omega
theorem sq_le {a k : Nat} (h : 2 * (a * a) < 2 * ((k + 1) * (k + 1))) : a ≤ k := by
  refine Nat.le_of_not_lt fun hlt => ?_
  have := Nat.mul_le_mul hlt hlt
  simp only [Nat.succ_eq_add_one] at this
  omega
/-- the small fraction is met -/
theorem rec_done {m r x y t u N D : Int} {k : Nat} (hm : 0 < m) (h : RecI m r x y t u) (hyk : y ≤ k) (hxk : (k : Int) < x) (hk2 : 2 * (k * k) < m.natAbs) (hN : N.natAbs ≤ k) (hD : D.natAbs ≤ k) (hD0 : 0 < D) (hco : Int.gcd N D = 1)
    (hc : m ∣ N - D * r) : (y = N ∧ u = D) ∨ (y = -N ∧ u = -D) := by
  have hx0 : 0 < x := by omega
  have hm0 : m ≠ 0 := by omega
  obtain ⟨al, hal⟩ : m ∣ N * u - y * D := by
    have e : N * u - y * D = u * (N - D * r) - D * (y - u * r) := by grind
    rw [e]
    exact Int.dvd_sub (Int.dvd_mul_of_dvd_right hc) (Int.dvd_mul_of_dvd_right h.cy)
  obtain ⟨be, hbe⟩ : m ∣ x * D - N * t := by
    have e : x * D - N * t = D * (x - t * r) - t * (N - D * r) := by grind
    rw [e]
    exact Int.dvd_sub (Int.dvd_mul_of_dvd_right h.cx) (Int.dvd_mul_of_dvd_right hc)
  have hdet : (x * u - y * t).natAbs = m.natAbs := by
    rw [← h.det, ← Int.natAbs_mul, ← Int.natAbs_mul, Int.sub_eq_add_neg, abs_same, Int.natAbs_neg]
    have e : x * u * -(y * t) = (x * y) * -(t * u) := by grind
    rw [e]
    exact Int.mul_nonneg (Int.mul_nonneg (by omega) h.y0) (by have := h.sg; omega)
  obtain ⟨si, hsi, hsm⟩ : ∃ si : Int, (si = 1 ∨ si = -1) ∧ x * u - y * t = si * m := by
    rcases Int.natAbs_eq_natAbs_iff.1 hdet with e | e
    · exact ⟨1, Or.inl rfl, by rw [e, Int.one_mul]⟩
    · exact ⟨-1, Or.inr rfl, by rw [e]; omega⟩
  have eN : si * N = al * x + be * y := by
    refine Int.eq_of_mul_eq_mul_left hm0 ?_
    calc m * (si * N) = N * (si * m) := by grind
      _ = N * (x * u - y * t) := by rw [hsm]
      _ = (N * u - y * D) * x + (x * D - N * t) * y := by grind
      _ = (m * al) * x + (m * be) * y := by rw [hal, hbe]
      _ = m * (al * x + be * y) := by grind
  have eD : si * D = al * t + be * u := by
    refine Int.eq_of_mul_eq_mul_left hm0 ?_
    calc m * (si * D) = D * (si * m) := by grind
      _ = D * (x * u - y * t) := by rw [hsm]
      _ = (N * u - y * D) * t + (x * D - N * t) * u := by grind
      _ = (m * al) * t + (m * be) * u := by rw [hal, hbe]
      _ = m * (al * t + be * u) := by grind
  have absN : (al * x + be * y).natAbs = N.natAbs := by
    rw [← eN, Int.natAbs_mul]
    rcases hsi with e | e <;> subst e <;> simp
  have absD : (al * t + be * u).natAbs = D.natAbs := by
    rw [← eD, Int.natAbs_mul]
    rcases hsi with e | e <;> subst e <;> simp
  have hal0 : al = 0 := by
    refine Classical.byContradiction fun hne => ?_
    have ha1 : 1 ≤ al.natAbs := by omega
    by_cases hpos : 0 ≤ al * be
    · have h1 : (al * x + be * y).natAbs = (al * x).natAbs + (be * y).natAbs := by
        refine abs_same ?_
        have e : al * x * (be * y) = (al * be) * (x * y) := by grind
        rw [e]
        exact Int.mul_nonneg hpos (Int.mul_nonneg (by omega) h.y0)
      have h2 : x.natAbs ≤ (al * x).natAbs := by
        rw [Int.natAbs_mul]
        exact Nat.le_mul_of_pos_left _ ha1
      omega
    · have h1 : (al * t + be * u).natAbs = (al * t).natAbs + (be * u).natAbs := by
        refine abs_same ?_
        have e : al * t * (be * u) = -(al * be) * -(t * u) := by grind
        rw [e]
        exact Int.mul_nonneg (by omega) (by have := h.sg; omega)
      have hb1 : 1 ≤ be.natAbs := by
        refine Nat.pos_of_ne_zero fun e => hpos ?_
        have : be = 0 := by omega
        rw [this, Int.mul_zero]
        exact Int.le_refl _
      have h2 : u.natAbs ≤ (be * u).natAbs := by
        rw [Int.natAbs_mul]
        exact Nat.le_mul_of_pos_left _ hb1
      have h3 : u.natAbs ≤ k := by omega
      have h4 : (N * u - y * D).natAbs ≤ k * k + k * k := by
        have h5 : (N * u).natAbs ≤ k * k := by rw [Int.natAbs_mul]; exact Nat.mul_le_mul hN h3
        have h6 : (y * D).natAbs ≤ k * k := by rw [Int.natAbs_mul]; exact Nat.mul_le_mul (by have := h.y0; omega) hD
        omega
      have h7 : m.natAbs ≤ (N * u - y * D).natAbs := by
        rw [hal, Int.natAbs_mul]
        exact Nat.le_mul_of_pos_right _ ha1
      omega
  rw [hal0] at eN eD
  simp only [Int.zero_mul, Int.zero_add] at eN eD
  have hN' : N = (si * be) * y := by
    rcases hsi with e | e <;> subst e <;> grind
  have hD' : D = (si * be) * u := by
    rcases hsi with e | e <;> subst e <;> grind
  have hunit : (si * be).natAbs = 1 := by
    have h1 : Int.gcd N D = (si * be).natAbs * Int.gcd y u := by rw [hN', hD', Int.gcd_mul_left]
    rw [hco] at h1
    exact Nat.eq_one_of_mul_eq_one_right h1.symm
  rcases Int.natAbs_eq_iff.1 hunit with e | e
  · have e' : si * be = 1 := e
    rw [e', Int.one_mul] at hN' hD'
    exact Or.inl ⟨hN'.symm, hD'.symm⟩
  · have e' : si * be = -1 := e
    rw [e'] at hN' hD'
    exact Or.inr ⟨by omega, by omega⟩
end Go.Proofs.Ytmaconeeonkdgaa
