/- fractions: lowest terms; frac.Of -/
import Derived.Test.YtmaconeeonkdgaaIntC
namespace Go.Proofs.Ytmaconeeonkdgaa
open Go.RowKit

/-- p/q stands for x/y in lowest terms -/
structure Low (p q x y : Int) : Prop where
  pos : 0 < q
  co : Int.gcd p q = 1
  eq : p * y = x * q
  np : p.natAbs ≤ x.natAbs
  nq : q.natAbs ≤ y.natAbs
theorem lows_eq {p q p' q' : Int} (h1 : Int.gcd p q = 1) (h2 : Int.gcd p' q' = 1) (hq : 0 < q) (hq' : 0 < q') (e : p * q' = p' * q) : p = p' ∧ q = q' := by
  have e1 : p.natAbs * q'.natAbs = p'.natAbs * q.natAbs := by rw [← Int.natAbs_mul, ← Int.natAbs_mul, e]
  have c1 : Nat.Coprime q.natAbs p.natAbs := by rw [Nat.coprime_comm]; exact h1
  have c2 : Nat.Coprime q'.natAbs p'.natAbs := by rw [Nat.coprime_comm]; exact h2
  have d1 : q.natAbs ∣ q'.natAbs := c1.dvd_of_dvd_mul_left (e1 ▸ Nat.dvd_mul_left _ _)
  have d2 : q'.natAbs ∣ q.natAbs := c2.dvd_of_dvd_mul_left (e1 ▸ Nat.dvd_mul_left _ _)
  have hqq : q = q' := by
    have := Nat.dvd_antisymm d1 d2
    omega
  subst hqq
  exact ⟨Int.eq_of_mul_eq_mul_right (by omega) e, rfl⟩
theorem Low.uniq {p q x y p' q' x' y' : Int} (h : Low p q x y) (k : Low p' q' x' y') (hy : y ≠ 0) (hy' : y' ≠ 0) (e : x * y' = x' * y) : p = p' ∧ q = q' := by
  refine lows_eq h.co k.co h.pos k.pos ?_
  have h1 : (p * q') * (y * y') = (p' * q) * (y * y') := by
    calc (p * q') * (y * y') = (p * y) * (q' * y') := by grind
      _ = (x * q) * (q' * y') := by rw [h.eq]
      _ = (x * y') * (q * q') := by grind
      _ = (x' * y) * (q * q') := by rw [e]
      _ = (x' * q') * (q * y) := by grind
      _ = (p' * y') * (q * y) := by rw [k.eq]
      _ = (p' * q) * (y * y') := by grind
  exact Int.eq_of_mul_eq_mul_right (Int.mul_ne_zero hy hy') h1
theorem gcd_pos {x y : Int} (hy : y ≠ 0) : (Int.gcd x y : Int) ≠ 0 := by
  have := Int.gcd_pos_of_ne_zero_right x hy
  omega
theorem low_of {x y : Int} (hy : y ≠ 0) : Low (if y < 0 then -(x.tdiv (Int.gcd x y)) else x.tdiv (Int.gcd x y)) (if y < 0 then -(y.tdiv (Int.gcd x y)) else y.tdiv (Int.gcd x y)) x y := by
  have hg := gcd_pos (x := x) hy
  obtain ⟨a, ha⟩ := Int.gcd_dvd_left x y
  obtain ⟨b, hb⟩ := Int.gcd_dvd_right x y
  have hco : Int.gcd a b = 1 := by
    have h1 : Int.gcd ((Int.gcd x y : Int) * a) ((Int.gcd x y : Int) * b) = (Int.gcd x y) * Int.gcd a b := by
      rw [Int.gcd_mul_left, Int.natAbs_natCast]
    rw [← ha, ← hb] at h1
    have h2 : 0 < Int.gcd x y := by omega
    exact Nat.eq_of_mul_eq_mul_left h2 (by rw [← h1, Nat.mul_one])
  generalize hG : (Int.gcd x y : Int) = G at *
  have hGp : 0 < G := by omega
  have e1 : x.tdiv G = a := by rw [ha]; exact Int.mul_tdiv_cancel_left _ hg
  have e2 : y.tdiv G = b := by rw [hb]; exact Int.mul_tdiv_cancel_left _ hg
  rw [e1, e2]
  have na : a.natAbs ≤ x.natAbs := by rw [ha, Int.natAbs_mul]; exact Nat.le_mul_of_pos_left _ (by omega)
  have nb : b.natAbs ≤ y.natAbs := by rw [hb, Int.natAbs_mul]; exact Nat.le_mul_of_pos_left _ (by omega)
  have ee : a * y = x * b := by
    calc a * y = a * (G * b) := by rw [← hb]
      _ = (G * a) * b := by grind
      _ = x * b := by rw [← ha]
  by_cases h : y < 0
  · rw [if_pos h, if_pos h]
    have hb0 : b < 0 := by
      refine Int.lt_of_not_ge (fun hb0 => ?_)
      have := Int.mul_nonneg (Int.le_of_lt hGp) hb0
      omega
    exact ⟨by omega, by rw [Int.gcd_neg, Int.neg_gcd]; exact hco, by rw [Int.neg_mul, Int.mul_neg, ee], by omega, by omega⟩
  · rw [if_neg h, if_neg h]
    have hb0 : 0 < b := by
      refine Int.lt_of_not_ge (fun hb0 => ?_)
      have h1 : G * b ≤ 0 := Int.mul_nonpos_of_nonneg_of_nonpos (Int.le_of_lt hGp) hb0
      omega
    exact ⟨hb0, hco, ee, na, nb⟩

/-- a variable of four cells -/
theorem Bk.four {w : World} {g : Nat} {t : TypeId} {a b c d : Value} (h : Bk w g t [a, b, c, d]) : (w.cell? ⟨g, 0, none⟩ = some a ∧ w.cell? ⟨g, 1, none⟩ = some b ∧ w.cell? ⟨g, 2, none⟩ = some c ∧ w.cell? ⟨g, 3, none⟩ = some d) ∧ (w.frozen? ⟨g, 0, none⟩ = false ∧ w.frozen? ⟨g, 1, none⟩ = false ∧ w.frozen? ⟨g, 2, none⟩ = false ∧ w.frozen? ⟨g, 3, none⟩ = false) :=
  ⟨⟨h.cell (i := 0) (by simp), h.cell (i := 1) (by simp), h.cell (i := 2) (by simp), h.cell (i := 3) (by simp)⟩, h.frozen 0, h.frozen 1, h.frozen 2, h.frozen 3⟩
theorem Bk.four_set {w : World} {g : Nat} {t : TypeId} {a b c d : Value} (h : Bk w g t [a, b, c, d]) (u0 u1 u2 u3 : Value) : Bk ((((w.setCell ⟨g, 0, none⟩ u0).setCell ⟨g, 1, none⟩ u1).setCell ⟨g, 2, none⟩ u2).setCell ⟨g, 3, none⟩ u3) g t [u0, u1, u2, u3] := (((h.set 0 u0).set 1 u1).set 2 u2).set 3 u3
theorem Upd.four {w : World} {g : Nat} (u0 u1 u2 u3 : Value) : Upd g w ((((w.setCell ⟨g, 0, none⟩ u0).setCell ⟨g, 1, none⟩ u1).setCell ⟨g, 2, none⟩ u2).setCell ⟨g, 3, none⟩ u3) := ((((Upd.refl g w).setCell 0 u0).setCell 1 u1).setCell 2 u2).setCell 3 u3

/-- a fraction and an error -/
def RetFE (w : World) (p q : Int) (er : Int) (e : Ending) (w' : World) : Prop :=
  ∃ s A n cap s' B m cap', e = .returned (.tuple #[.agg #[.bool s, .slice A n cap, .bool s', .slice B m cap'], .int .i64 er]) ∧ Zr w' w.heap.size s A n cap p ∧ Zr w' w.heap.size s' B m cap' q ∧ Ext w w'
theorem res_fe {w : World} {g : Nat} {t : TypeId} {a b c d : Value} {fn : Func} {s u : Tmp} (hf : fn.results = #[.cell s 29, .tmp u]) {tmps : Array Value} (hs : tmps.getD s undef = .pointer (some ⟨g, 0, none⟩)) {v : Value} (hu : tmps.getD u undef = v) (h : Bk w g t [a, b, c, d]) :
    (results fn tmps).run Try.prog w = .ok (.tuple #[.agg #[a, b, c, d], v]) w := by
  obtain ⟨⟨h1, h2, h3, h4⟩, _⟩ := h.four
  have hs2 : tmps[s]?.getD undef = .pointer (some ⟨g, 0, none⟩) := by simpa using hs
  have hu2 : tmps[u]?.getD undef = v := by simpa using hu
  simp [results, hf, hs2, hu2, loadVar, loadCells, loadCellsFrom, go_sem, h1, h2, h3, h4]
theorem fin_frac {w w2 : World} {g base : Nat} {s s' : Bool} {A B : Option Addr} {n cap m cap' : Nat} {p q : Int} (hp : Zr w2 base s A n cap p) (hq : Zr w2 base s' B m cap' q) (hg : g < base) (hw : w.heap.size ≤ g) (he : Ext w w2) (er : Int) :
    RetFE w p q er (.returned (.tuple #[.agg #[.bool s, .slice A n cap, .bool s', .slice B m cap'], .int .i64 er])) ((((w2.setCell ⟨g, 0, none⟩ (.bool s)).setCell ⟨g, 1, none⟩ (.slice A n cap)).setCell ⟨g, 2, none⟩ (.bool s')).setCell ⟨g, 3, none⟩ (.slice B m cap')) :=
  ⟨s, A, n, cap, s', B, m, cap', rfl, (hp.upd hg (Upd.four _ _ _ _)).mono (by omega), (hq.upd hg (Upd.four _ _ _ _)).mono (by omega), (Upd.four _ _ _ _).ext he hw⟩
theorem Bk.fr2 {w : World} {t t' : TypeId} {l : Array Value} {vs : List Value} : Bk ((w.alloc (.cells l t')).alloc (.cells vs.toArray t)) (w.heap.size + 1) t vs := by
  have := Bk.new (w.alloc (.cells l t')) t vs
  simpa using this
theorem Bk.fr3 {w : World} {t t' t'' : TypeId} {l l' : Array Value} {vs : List Value} : Bk (((w.alloc (.cells l t')).alloc (.cells l' t'')).alloc (.cells vs.toArray t)) (w.heap.size + 1 + 1) t vs := by
  have := Bk.new ((w.alloc (.cells l t')).alloc (.cells l' t'')) t vs
  simpa using this
/-- three variables laid at the call's beginning -/
theorem boxesL3 (w : World) (t t' t'' : TypeId) (l l' l'' : List Value) : ∃ g g2 g3 wa, w.heap.size + 1 + 1 = g3 ∧ w.heap.size + 1 = g2 ∧ w.heap.size = g ∧ ((w.alloc (.cells l.toArray t)).alloc (.cells l'.toArray t')).alloc (.cells l''.toArray t'') = wa ∧ Bk wa g t l ∧ Bk wa g2 t' l' ∧ Bk wa g3 t'' l'' ∧ Ext w wa ∧ g < g2 ∧ g2 < g3 ∧ g3 < wa.heap.size ∧ g ≠ g2 ∧ g2 ≠ g ∧ g ≠ g3 ∧ g3 ≠ g ∧ g2 ≠ g3 ∧ g3 ≠ g2 :=
  ⟨_, _, _, _, rfl, rfl, rfl, rfl, ((Bk.new w t l).alloc _).alloc _, Bk.fr2.alloc _, Bk.fr3, (((Ext.refl w).alloc _).alloc _).alloc _, by omega, by omega, by simp, by omega, by omega, by omega, by omega, by omega, by omega⟩

theorem frac_Of_bad {w : World} {s t : Bool} {A B : Option Addr} {n cap m cap' : Nat} {y : Int} (hy : Zi w t B m cap' y) (hl' : m ≤ 68719476736) (h0 : y = 0) :
    Calls Try.prog 21 #[.agg #[.bool s, .slice A n cap], .agg #[.bool t, .slice B m cap']] w (RetFE w 0 0 4) := by
  have H0 := Lib.hid h0
  clear h0
  go_enter Try.func21, Try.ntmps21
  go_upto_region 1 with (fail)
  obtain ⟨g, g2, g3, wa, hg3, hg2, hg, hwa, hb1, hb2, hb3, hea, l12, l23, l3, n12, n21, n13, n31, n23, n32⟩ := boxesL3 w 27 27 29 [.bool s, .slice A n cap] [.bool t, .slice B m cap'] [.bool false, .slice none 0 0, .bool false, .slice none 0 0]
  rw [hg3, hg2, hg, hwa]
  have hgw : w.heap.size ≤ g := Nat.le_of_eq hg
  clear hwa hg hg2 hg3
  obtain ⟨h1, h2, h3, h4⟩ := hb2.two
  go_wp2_with fail
  refine (zint_Sign (hy.ext hea) hl').mono ?_
  rintro e w1 ⟨c, hc, hcl, hch, rfl, hx1⟩
  obtain rfl : c = 0 := by rw [hc.out, H0.out]; rfl
  clear hc
  have hd3 := hb3.ext hx1
  have hsz := hx1.size
  obtain ⟨⟨k0, k1, k2, k3⟩, k4, k5, k6, k7⟩ := hd3.four
  go_wp2_with fail
  refine bodyPost_ret (res_fe rfl rfl rfl (hd3.four_set _ _ _ _)) rfl ?_
  exact fin_frac (g := g3) (Zr.zero (base := wa.heap.size)) Zr.zero (by omega) (by omega) (hea.trans hx1) 4
set_option maxHeartbeats 4000000 in
theorem frac_Of {w : World} {s t : Bool} {A B : Option Addr} {n cap m cap' : Nat} {x y : Int} (hx : Zi w s A n cap x) (hl : n ≤ 68719476736) (hy : Zi w t B m cap' y) (hl' : m ≤ 68719476736) (h0 : y ≠ 0) :
    Calls Try.prog 21 #[.agg #[.bool s, .slice A n cap], .agg #[.bool t, .slice B m cap']] w (fun e w' => ∃ p q, Hid (Low p q x y) ∧ RetFE w p q 0 e w') := by
  have H0 := Lib.hid h0
  have hlow := Lib.hid (low_of (x := x) h0)
  have hG0 := Lib.hid (gcd_pos (x := x) h0)
  have hGx := Lib.hid (Int.gcd_dvd_left x y)
  have hGy := Lib.hid (Int.gcd_dvd_right x y)
  have hGl : Hid (ln (Int.gcd x y : Int) ≤ m) := by
    refine Nat.le_trans (ln_mono ?_) hy.ln
    rw [Int.natAbs_natCast]
    exact Nat.le_of_dvd (by omega) (Int.natAbs_dvd_natAbs.2 (Int.gcd_dvd_right x y) |> fun h => by simpa using h)
  clear h0
  go_enter Try.func21, Try.ntmps21
  go_upto_region 1 with (fail)
  obtain ⟨g, g2, g3, wa, hg3, hg2, hg, hwa, hb1, hb2, hb3, hea, l12, l23, l3, n12, n21, n13, n31, n23, n32⟩ := boxesL3 w 27 27 29 [.bool s, .slice A n cap] [.bool t, .slice B m cap'] [.bool false, .slice none 0 0, .bool false, .slice none 0 0]
  rw [hg3, hg2, hg, hwa]
  have hgw : w.heap.size ≤ g := Nat.le_of_eq hg
  clear hwa hg hg2 hg3
  obtain ⟨h1, h2, h3, h4⟩ := hb2.two
  go_wp2_with fail
  refine (zint_Sign (hy.ext hea) hl').mono ?_
  rintro e w1 ⟨c, hc, hcl, hch, rfl, hx1⟩
  have hc1 : c ≠ 0 := fun h => H0.out (scmp_zero.1 (by rw [← hc.out, h]))
  have hc2 : c < 0 ↔ y < 0 := by rw [hc.out]; exact scmp_neg
  have HC2 := Lib.hid hc2
  have bc : (c == 0) = false := by simp; omega
  clear hc1 hc2 hc h1 h2 h3 h4
  have e1 := hea.trans hx1
  obtain ⟨f1, f2, f3, f4⟩ := (hb1.ext hx1).two
  obtain ⟨h1, h2, h3, h4⟩ := (hb2.ext hx1).two
  go_wp2_with fail
  refine (bezout_Gcd (hx.ext e1) hl (hy.ext e1) hl').mono ?_
  rintro e w2 ⟨s2, A2, n2, c2, rfl, z2, hx2⟩
  have b2 : n2 ≤ 68719476736 := Nat.le_trans (z2.le hGl.out) hl'
  have x2 : Ext wa w2 := hx1.trans hx2
  clear f1 f2 f3 f4 h1 h2 h3 h4
  go_upto_region 5 with (fail)
  have hb7 := Bk.new w2 27 [.bool s2, .slice A2 n2 c2]
  obtain ⟨v2, hv2⟩ : ∃ v2, w2.alloc (.cells #[.bool s2, .slice A2 n2 c2] 27) = v2 := ⟨_, rfl⟩
  obtain ⟨g7, hg7⟩ : ∃ g7, w2.heap.size = g7 := ⟨_, rfl⟩
  rw [hg7] at hb7 ⊢
  have hb7' : Bk v2 g7 27 [.bool s2, .slice A2 n2 c2] := by rw [← hv2]; exact hb7
  have xv2 : Ext wa v2 := by rw [← hv2]; exact x2.alloc _
  have z2' : Zr v2 w1.heap.size s2 A2 n2 c2 (Int.gcd x y : Int) := by rw [← hv2]; exact z2.ext ((Ext.refl w2).alloc _)
  rw [hv2]
  clear hb7 hv2 z2 hg7
  obtain ⟨f1, f2, f3, f4⟩ := (hb1.ext xv2).two
  obtain ⟨i1, i2, i3, i4⟩ := hb7'.two
  go_wp2_with fail
  refine (zint_Exact (hx.ext (hea.trans xv2)) hl z2'.zi b2 hG0.out hGx.out).mono ?_
  rintro e w3 ⟨s3, A3, n3, c3, rfl, z3, hx3⟩
  clear f1 f2 f3 f4 i1 i2 i3 i4
  go_upto_region 6 with (fail)
  have hb8 := Bk.new w3 27 [.bool s3, .slice A3 n3 c3]
  obtain ⟨v3, hv3⟩ : ∃ v3, w3.alloc (.cells #[.bool s3, .slice A3 n3 c3] 27) = v3 := ⟨_, rfl⟩
  obtain ⟨g8, hg8⟩ : ∃ g8, w3.heap.size = g8 := ⟨_, rfl⟩
  rw [hg8] at hb8 ⊢
  have hb8' : Bk v3 g8 27 [.bool s3, .slice A3 n3 c3] := by rw [← hv3]; exact hb8
  have xv3 : Ext v2 v3 := by rw [← hv3]; exact hx3.alloc _
  have z3' : Zr v3 v2.heap.size s3 A3 n3 c3 (x.tdiv (Int.gcd x y : Int)) := by rw [← hv3]; exact z3.ext ((Ext.refl w3).alloc _)
  rw [hv3]
  have l8 : v2.heap.size ≤ g8 := by rw [← hg8]; exact hx3.size
  clear hb8 hv3 z3 hg8
  obtain ⟨h1, h2, h3, h4⟩ := (hb2.ext (xv2.trans xv3)).two
  obtain ⟨i1, i2, i3, i4⟩ := (hb7'.ext xv3).two
  go_wp2_with fail
  refine (zint_Exact (hy.ext (hea.trans (xv2.trans xv3))) hl' (z2'.zi.ext xv3) b2 hG0.out hGy.out).mono ?_
  rintro e w4 ⟨s4, A4, n4, c4, rfl, z4, hx4⟩
  clear h1 h2 h3 h4 i1 i2 i3 i4
  go_upto_region 7 with (fail)
  have hb10 := Bk.new w4 27 [.bool s4, .slice A4 n4 c4]
  obtain ⟨v4, hv4⟩ : ∃ v4, w4.alloc (.cells #[.bool s4, .slice A4 n4 c4] 27) = v4 := ⟨_, rfl⟩
  obtain ⟨g10, hg10⟩ : ∃ g10, w4.heap.size = g10 := ⟨_, rfl⟩
  rw [hg10] at hb10 ⊢
  have hb10' : Bk v4 g10 27 [.bool s4, .slice A4 n4 c4] := by rw [← hv4]; exact hb10
  have xv4 : Ext v3 v4 := by rw [← hv4]; exact hx4.alloc _
  have z4' : Zr v4 v3.heap.size s4 A4 n4 c4 (y.tdiv (Int.gcd x y : Int)) := by rw [← hv4]; exact z4.ext ((Ext.refl w4).alloc _)
  have z3'' := z3'.ext xv4
  have hb8'' := hb8'.ext xv4
  rw [hv4]
  have l10 : v3.heap.size ≤ g10 := by rw [← hg10]; exact hx4.size
  have l8' : g8 < v3.heap.size := hb8'.lt
  have lb3 : g3 < v2.heap.size := (hb3.ext xv2).lt
  have n810 : g8 ≠ g10 := by omega
  have n108 : g10 ≠ g8 := by omega
  have hb3' := hb3.ext (xv2.trans (xv3.trans xv4))
  have ev4 : Ext w v4 := hea.trans (xv2.trans (xv3.trans xv4))
  have sv23 := xv3.size
  have sv34 := xv4.size
  clear hb10 hv4 z4 hg10
  obtain ⟨f1, f2, f3, f4⟩ := hb8''.two
  obtain ⟨h1, h2, h3, h4⟩ := hb10'.two
  obtain ⟨⟨k0, k1, k2, k3⟩, k4, k5, k6, k7⟩ := hb3'.four
  by_cases hneg : c < 0
  · have hyn := Lib.hid (HC2.out.1 hneg)
    have hlow2 := hlow.out
    rw [if_pos hyn.out, if_pos hyn.out] at hlow2
    have HLOW := Lib.hid hlow2
    clear hlow2 hlow
    go_upto_region 8 with (fail)
    have b3 : n3 ≤ 68719476736 := Nat.le_trans (z3''.le (ln_mono (by have := HLOW.out.np; rw [Int.natAbs_neg] at this; exact this))) (Nat.le_trans hx.ln hl)
    have b4 : n4 ≤ 68719476736 := Nat.le_trans (z4'.le (ln_mono (by have := HLOW.out.nq; rw [Int.natAbs_neg] at this; exact this))) (Nat.le_trans hy.ln hl')
    have n38 : g3 ≠ g8 := by omega
    have n310 : g3 ≠ g10 := by omega
    have l10v : g10 < v4.heap.size := hb10'.lt
    have l8v : g8 < v4.heap.size := hb8''.lt
    clear k0 k1 k2 k3 k4 k5 k6 k7
    go_region_with (first
      | (go_at_call 61; ((with_reducible refine (zint_Neg (z3''.zi.ext (by repeat (first | exact Ext.refl _ | assumption | apply Ext.drewN | apply Ext.drew | apply Ext.alloc))) b3).mono ?_)); rintro e w5 ⟨s5, A5, n5, c5, rfl, z5, hx5⟩; have he5 : Ext v4 w5 := Ext.trans (by repeat (first | exact Ext.refl _ | assumption | apply Ext.drewN | apply Ext.drew | apply Ext.alloc)) hx5; obtain ⟨f1, f2, f3, f4⟩ := (hb8''.ext he5).two; obtain ⟨h1, h2, h3, h4⟩ := (hb10'.ext he5).two)
      | (go_at_call 61; (with_reducible refine (zint_Neg (z4'.zi.ext (by repeat (first | exact Ext.refl _ | assumption | apply Ext.drewN | apply Ext.drew | apply Ext.alloc))) b4).mono ?_); rintro e w6 ⟨s6, A6, n6, c6, rfl, z6, hx6⟩; have he6 : Ext v4 w6 := Ext.trans (by repeat (first | exact Ext.refl _ | assumption | apply Ext.drewN | apply Ext.drew | apply Ext.alloc)) hx6; obtain ⟨f1, f2, f3, f4⟩ := (hb8''.ext he6).two; obtain ⟨h1, h2, h3, h4⟩ := (hb10'.ext he6).two))
    all_goals
      clear f1 f2 f3 f4 h1 h2 h3 h4
      first
      | (obtain ⟨wb, hwb⟩ : ∃ wb, (((w6.setCell ⟨g8, 0, none⟩ (.bool s5)).setCell ⟨g8, 1, none⟩ (.slice A5 n5 c5)).setCell ⟨g10, 0, none⟩ (.bool s6)).setCell ⟨g10, 1, none⟩ (.slice A6 n6 c6) = wb := ⟨_, rfl⟩
         rw [hwb]
         have q8 : Bk wb g8 27 [.bool s5, .slice A5 n5 c5] := by rw [← hwb]; exact ((hb8''.ext he6).two_set _ _).two_far n810 _ _
         have q10 : Bk wb g10 27 [.bool s6, .slice A6 n6 c6] := by rw [← hwb]; exact ((hb10'.ext he6).two_far n108 _ _).two_set _ _
         have q3 : Bk wb g3 29 [.bool false, .slice none 0 0, .bool false, .slice none 0 0] := by rw [← hwb]; exact ((hb3'.ext he6).two_far n38 _ _).two_far n310 _ _
         have r5 : Zr wb v4.heap.size s5 A5 n5 c5 (-(x.tdiv (Int.gcd x y : Int))) := by rw [← hwb]; exact (((z5.ext hx6).mono (by first | exact Nat.le_refl _ | exact he6.size)).upd l8v (Upd.two _ _)).upd l10v (Upd.two _ _)
         have r6 : Zr wb v4.heap.size s6 A6 n6 c6 (-(y.tdiv (Int.gcd x y : Int))) := by rw [← hwb]; exact (((z6).mono (by first | exact Nat.le_refl _ | exact he5.size)).upd l8v (Upd.two _ _)).upd l10v (Upd.two _ _)
         have eb : Ext w wb := by rw [← hwb]; exact (Upd.two _ _).ext ((Upd.two _ _).ext (ev4.trans he6) (by omega)) (by omega)
         clear hwb)
      | (obtain ⟨wb, hwb⟩ : ∃ wb, (((w5.setCell ⟨g8, 0, none⟩ (.bool s5)).setCell ⟨g8, 1, none⟩ (.slice A5 n5 c5)).setCell ⟨g10, 0, none⟩ (.bool s6)).setCell ⟨g10, 1, none⟩ (.slice A6 n6 c6) = wb := ⟨_, rfl⟩
         rw [hwb]
         have q8 : Bk wb g8 27 [.bool s5, .slice A5 n5 c5] := by rw [← hwb]; exact ((hb8''.ext he5).two_set _ _).two_far n810 _ _
         have q10 : Bk wb g10 27 [.bool s6, .slice A6 n6 c6] := by rw [← hwb]; exact ((hb10'.ext he5).two_far n108 _ _).two_set _ _
         have q3 : Bk wb g3 29 [.bool false, .slice none 0 0, .bool false, .slice none 0 0] := by rw [← hwb]; exact ((hb3'.ext he5).two_far n38 _ _).two_far n310 _ _
         have r5 : Zr wb v4.heap.size s5 A5 n5 c5 (-(x.tdiv (Int.gcd x y : Int))) := by rw [← hwb]; exact (((z5).mono (by first | exact Nat.le_refl _ | exact he6.size)).upd l8v (Upd.two _ _)).upd l10v (Upd.two _ _)
         have r6 : Zr wb v4.heap.size s6 A6 n6 c6 (-(y.tdiv (Int.gcd x y : Int))) := by rw [← hwb]; exact (((z6.ext hx5).mono (by first | exact Nat.le_refl _ | exact he5.size)).upd l8v (Upd.two _ _)).upd l10v (Upd.two _ _)
         have eb : Ext w wb := by rw [← hwb]; exact (Upd.two _ _).ext ((Upd.two _ _).ext (ev4.trans he5) (by omega)) (by omega)
         clear hwb)
      obtain ⟨f1, f2, f3, f4⟩ := q8.two
      obtain ⟨h1, h2, h3, h4⟩ := q10.two
      obtain ⟨⟨k0, k1, k2, k3⟩, k4, k5, k6, k7⟩ := q3.four
      go_wp2_with fail
      refine bodyPost_ret (res_fe rfl rfl rfl (q3.four_set _ _ _ _)) rfl ?_
      exact ⟨_, _, HLOW, fin_frac (g := g3) r5 r6 (by omega) (by omega) eb 0⟩
  · have hyn : ¬ y < 0 := fun h => hneg (HC2.out.2 h)
    have hlow2 := hlow.out
    rw [if_neg hyn, if_neg hyn] at hlow2
    have HLOW := Lib.hid hlow2
    clear hlow2 hlow hyn
    go_wp2_with fail
    refine bodyPost_ret (res_fe rfl rfl rfl (hb3'.four_set _ _ _ _)) rfl ?_
    exact ⟨_, _, HLOW, fin_frac (g := g3) (base := v2.heap.size) z3'' (z4'.mono (by omega)) (by omega) (by omega) ev4 0⟩
end Go.Proofs.Ytmaconeeonkdgaa
