/- fractions: Floor, Cmp -/
import Derived.Test.YthbogoecoebefaaIntEb
import Derived.Test.YthbogoecoebefaaLaw8
namespace Go.Proofs.Ythbogoecoebefaa
open Go.RowKit

/-- the integer at most x/y, with its rest -/
def FloE (w : World) (x y : Int) (e : Ending) (w' : World) : Prop := ∃ q r, Hid (Flo q r x y) ∧ RetZE w q 0 e w'
theorem frac_Floor {w : World} {s s' : Bool} {A A' : Option Addr} {n cap n' cap' : Nat} {x y : Int} (hx : Zi w s A n cap x) (hl : n ≤ 68719476736) (hy : Zi w s' A' n' cap' y) (hl' : n' ≤ 68719476736) (h0 : y ≠ 0) :
    Calls Try.prog 30 #[.agg #[.bool s, .slice A n cap, .bool s', .slice A' n' cap']] w (FloE w x y) := by
  have H0 := Lib.hid h0
  clear h0
  go_enter Try.func30, Try.ntmps30
  go_upto_region 1 with (fail)
  obtain ⟨g, g2, wa, hg2, hg, hwa, hb1, hb2, hea, l12, l2, n12, n21⟩ := boxesL2 w 39 24 [.bool s, .slice A n cap, .bool s', .slice A' n' cap'] [.bool false, .slice none 0 0]
  rw [hg2, hg, hwa]
  have hgw : w.heap.size ≤ g := Nat.le_of_eq hg
  clear hwa hg hg2
  obtain ⟨⟨a0, a1, a2, a3⟩, a4⟩ := hb1.four
  go_wp2_with fail
  refine (zint_Floor (hx.ext hea) hl (hy.ext hea) hl' H0.out).mono ?_
  rintro e w1 ⟨q, r, HF, sq, Aq, nq, cq, sr, Ar, nr, cr, rfl, zq, zr, hx1⟩
  clear a0 a1 a2 a3 a4
  go_upto_region 2 with (fail)
  obtain ⟨g4, g5, v1, hg5, hg4, hv1, hb4, hb5, he, l45, l5, n45, n54⟩ := boxN2 w1 24 24 [.bool sq, .slice Aq nq cq] [.bool sr, .slice Ar nr cr]
  rw [hg5, hg4, hv1]
  have zq := zq.ext he
  have x1 := hx1.trans he
  have hb2 := hb2.ext x1
  have e1 := hea.trans x1
  clear hg5 hg4 hv1 he hb1 hx1
  obtain ⟨f1, f2, f3, f4⟩ := hb4.two
  obtain ⟨h1, h2, h3, h4⟩ := hb2.two
  go_wp2_with fail
  refine bodyPost_ret (res_ie rfl rfl rfl (hb2.two_set _ _)) rfl ?_
  exact ⟨q, r, HF, _, _, _, _, rfl, (zq.upd (by omega) (Upd.two _ _)).mono (by omega), (Upd.two _ _).ext e1 (by omega)⟩
theorem frac_Floor_bad {w : World} {s s' : Bool} {A A' : Option Addr} {n cap n' cap' : Nat} {x y : Int} (hx : Zi w s A n cap x) (hl : n ≤ 68719476736) (hy : Zi w s' A' n' cap' y) (hl' : n' ≤ 68719476736) (h0 : y = 0) :
    Calls Try.prog 30 #[.agg #[.bool s, .slice A n cap, .bool s', .slice A' n' cap']] w (RetZE w 0 4) := by
  have H0 := Lib.hid h0
  clear h0
  go_enter Try.func30, Try.ntmps30
  go_upto_region 1 with (fail)
  obtain ⟨g, g2, wa, hg2, hg, hwa, hb1, hb2, hea, l12, l2, n12, n21⟩ := boxesL2 w 39 24 [.bool s, .slice A n cap, .bool s', .slice A' n' cap'] [.bool false, .slice none 0 0]
  rw [hg2, hg, hwa]
  have hgw : w.heap.size ≤ g := Nat.le_of_eq hg
  clear hwa hg hg2
  obtain ⟨⟨a0, a1, a2, a3⟩, a4⟩ := hb1.four
  go_wp2_with fail
  refine (zint_Floor_bad (hx.ext hea) hl (hy.ext hea) hl' H0.out).mono ?_
  rintro e w1 ⟨sq, Aq, nq, cq, sr, Ar, nr, cr, rfl, zq, zr, hx1⟩
  clear a0 a1 a2 a3 a4
  go_upto_region 2 with (fail)
  obtain ⟨g4, g5, v1, hg5, hg4, hv1, hb4, hb5, he, l45, l5, n45, n54⟩ := boxN2 w1 24 24 [.bool sq, .slice Aq nq cq] [.bool sr, .slice Ar nr cr]
  rw [hg5, hg4, hv1]
  have zq := zq.ext he
  have x1 := hx1.trans he
  have hb2 := hb2.ext x1
  have e1 := hea.trans x1
  clear hg5 hg4 hv1 he hb1 hx1
  obtain ⟨f1, f2, f3, f4⟩ := hb4.two
  obtain ⟨h1, h2, h3, h4⟩ := hb2.two
  go_wp2_with fail
  refine bodyPost_ret (res_ie rfl rfl rfl (hb2.two_set _ _)) rfl ?_
  exact ⟨_, _, _, _, rfl, (zq.upd (by omega) (Upd.two _ _)).mono (by omega), (Upd.two _ _).ext e1 (by omega)⟩
/-- the sign of a difference of fractions -/
def CmpF (w : World) (x y u v : Int) (e : Ending) (w' : World) : Prop :=
  ∃ c p q : Int, e = .returned (.tuple #[.int .i64 c, .int .i64 0]) ∧ Hid (c = scmp p 0) ∧ -1 ≤ c ∧ c ≤ 1 ∧ Hid (Low p q (x * v + -u * y) (y * v)) ∧ Ext w w'
theorem frac_Cmp {w : World} {s s' t t' : Bool} {A A' B B' : Option Addr} {n cap n' cap' m dap m' dap' : Nat} {x y u v : Int} (hx : Zi w s A n cap x) (hl : n ≤ 17179869184) (hy : Zi w s' A' n' cap' y) (hl' : n' ≤ 17179869184) (hu : Zi w t B m dap u) (hk : m ≤ 17179869184) (hv : Zi w t' B' m' dap' v) (hk' : m' ≤ 17179869184) (hy0 : y ≠ 0) (hv0 : v ≠ 0) :
    Calls Try.prog 32 #[.agg #[.bool s, .slice A n cap, .bool s', .slice A' n' cap'], .agg #[.bool t, .slice B m dap, .bool t', .slice B' m' dap']] w (CmpF w x y u v) := by
  have LX := Lib.hid (Nat.le_trans hx.ln hl)
  have LY := Lib.hid (Nat.le_trans hy.ln hl')
  have LU := Lib.hid (Nat.le_trans hu.ln hk)
  have LV := Lib.hid (Nat.le_trans hv.ln hk')
  have HZ : Hid (y * v ≠ 0) := Int.mul_ne_zero hy0 hv0
  clear hy0 hv0
  go_enter Try.func32, Try.ntmps32
  go_upto_region 1 with (fail)
  obtain ⟨g, g2, wa, hg2, hg, hwa, hb1, hb2, hea, l12, l2, n12, n21⟩ := boxesL2 w 39 39 [.bool s, .slice A n cap, .bool s', .slice A' n' cap'] [.bool t, .slice B m dap, .bool t', .slice B' m' dap']
  rw [hg2, hg, hwa]
  clear hwa hg hg2
  obtain ⟨⟨a0, a1, a2, a3⟩, a4⟩ := hb1.four
  obtain ⟨⟨b0, b1, b2, b3⟩, b4⟩ := hb2.four
  go_wp2_with fail
  refine (frac_Sub (hx.ext hea) hl (hy.ext hea) hl' (hu.ext hea) hk (hv.ext hea) hk').mono ?_
  rintro e w1 ⟨p, q, er, ⟨s8, A8, n8, c8, s9, A9, n9, c9, rfl, z8, z9, hx1⟩, hlow⟩
  have LW := Lib.hid (hlow.out.2 HZ.out).1
  obtain rfl : er = 0 := (hlow.out.2 HZ.out).2
  have b8 : n8 ≤ 68719476736 := z8.le (Nat.le_trans (ln_mono LW.out.np) (Nat.le_trans (ln_add (ln_mul LX.out LV.out) (ln_mul (by rw [ln_neg]; exact LU.out) LY.out)) (by omega)))
  clear a0 a1 a2 a3 a4 b0 b1 b2 b3 b4 hlow
  go_upto_region 2 with (fail)
  obtain ⟨g6, v1, hg6, hv1, hb6, he, l6⟩ := boxesL1 w1 39 [.bool s8, .slice A8 n8 c8, .bool s9, .slice A9 n9 c9]
  rw [hg6, hv1]
  have z8 := z8.ext he
  have e1 := hea.trans (hx1.trans he)
  clear hg6 hv1 he hx1
  obtain ⟨⟨a0, a1, a2, a3⟩, a4⟩ := hb6.four
  go_wp2_with fail
  refine (zint_Sign z8.zi b8).mono ?_
  rintro e w2 ⟨c, hc, hcl, hch, rfl, hx2⟩
  go_wp2_with fail
  go_ret2
  exact ⟨c, p, q, rfl, hc, hcl, hch, LW, e1.trans hx2⟩
end Go.Proofs.Ythbogoecoebefaa
