/- trellislaw03: DivnatCommon -/
import Derived.Test.YtacdaafnlbeagaaLaw3b
namespace Go.Proofs.Ytacdaafnlbeagaa
open Go.RowKit

theorem gcd_add_mul (a b c : Nat) : Nat.gcd (a + b * c) b = Nat.gcd a b := by
  rw [gcd_step, Nat.add_mul_mod_self_left, ← gcd_step]

theorem gcd_div_one {a b : Nat} (h : Nat.gcd a b ≠ 0) : Nat.gcd (a / Nat.gcd a b) (b / Nat.gcd a b) = 1 := by
  obtain ⟨x, hx⟩ := Nat.gcd_dvd_left a b
  obtain ⟨y, hy⟩ := Nat.gcd_dvd_right a b
  have hp : 0 < Nat.gcd a b := Nat.pos_of_ne_zero h
  generalize hg : Nat.gcd a b = g at *
  have e : g * Nat.gcd x y = g := by rw [← Nat.gcd_mul_left, ← hx, ← hy, hg]
  have e1 : a / g = x := by rw [hx, Nat.mul_div_cancel_left _ hp]
  have e2 : b / g = y := by rw [hy, Nat.mul_div_cancel_left _ hp]
  rw [e1, e2]
  exact Nat.eq_of_mul_eq_mul_left hp (by rw [e, Nat.mul_one])
set_option maxHeartbeats 4000000 in
theorem law_DivnatCommon {w : World} {A B C : Option Addr} {n cap n' cap' n'' cap'' : Nat} {xs ys zs : List Nat} (ha : Rd w A n cap xs) (hl : n ≤ 1048576) (hb : Rd w B n' cap' ys) (hl' : n' ≤ 1048576) (hc : Rd w C n'' cap'' zs) (hl'' : n'' ≤ 1048576) :
    Calls Try.prog 5 #[.slice A n cap, .slice B n' cap', .slice C n'' cap''] w (BoolP true w) := by
  have HLA := Lib.hid (Nat.le_trans ha.wdlen hl)
  have HLB := Lib.hid (Nat.le_trans hb.wdlen hl')
  have HLC := Lib.hid (Nat.le_trans hc.wdlen hl'')
  obtain ⟨G, hG⟩ : ∃ G, Nat.gcd (nv xs) (nv ys) = G := ⟨_, rfl⟩
  have HG := Lib.hid hG
  have HG2 : Hid (Nat.gcd (nv ys) (nv xs) = G) := (show _ = _ by rw [Nat.gcd_comm]; exact hG)
  have HG3 : Hid (Nat.gcd (nv xs * nv zs) (nv ys * nv zs) = G * nv zs) := (show _ = _ by rw [Nat.gcd_mul_right, hG])
  have HG4 : Hid (Nat.gcd (nv xs + nv ys * nv zs) (nv ys) = G) := (show _ = _ by rw [gcd_add_mul, hG])
  have HLG : Hid ((wd G).length ≤ 1048577) := by
    show _ ≤ _
    rcases Nat.eq_zero_or_pos (nv xs) with h | h
    · rw [← hG, h, Nat.gcd_zero_left]; exact Nat.le_trans HLB.out (by omega)
    · refine Nat.le_trans (len_wd_mono (Nat.le_of_dvd h (hG ▸ Nat.gcd_dvd_left (nv xs) (nv ys)))) (Nat.le_trans HLA.out (by omega))
  have HLGC : Hid ((wd (G * nv zs)).length ≤ 2097153) := Nat.le_trans (len_wd_mul' HLG.out HLC.out) (by omega)
  clear hG
  go_enter Try.func5, Try.ntmps5
  go_wp2_with fail
  refine (law_wakes w).mono ?_
  rintro e w1 ⟨rfl, hx1⟩
  go_wp2_with fail
  refine (divnat_Gcd (ha.ext hx1) (by omega) (hb.ext hx1) (by omega)).mono ?_
  rintro e w2 ⟨A2, n2, c2, rfl, hn2, hr2, ho2, hx2⟩
  rw [HG.out] at hn2 hr2
  have b2 : n2 ≤ 1048577 := by rw [hn2.out]; exact HLG.out
  have e2 := hx1.trans hx2
  go_wp2_with fail
  refine (divnat_Gcd (hb.ext e2) (by omega) (ha.ext e2) (by omega)).mono ?_
  rintro e w3 ⟨A3, n3, c3, rfl, hn3, hr3, ho3, hx3⟩
  rw [HG2.out] at hn3 hr3
  have b3 : n3 ≤ 1048577 := by rw [hn3.out]; exact HLG.out
  have e3 := e2.trans hx3
  clear ho2 ho3
  go_wp2_with fail
  refine (ref2_Mul (ha.ext e3) (by omega) (hc.ext e3) (by omega)).mono ?_
  rintro e w4 ⟨A4, n4, c4, rfl, hn4, hr4, ho4, hx4⟩
  have b4 : n4 ≤ 2097152 := by rw [hn4.out]; exact Nat.le_trans (len_wd_mul' HLA.out HLC.out) (by omega)
  have e4 := e3.trans hx4
  go_wp2_with fail
  refine (ref2_Mul (hb.ext e4) (by omega) (hc.ext e4) (by omega)).mono ?_
  rintro e w5 ⟨A5, n5, c5, rfl, hn5, hr5, ho5, hx5⟩
  have b5 : n5 ≤ 2097152 := by rw [hn5.out]; exact Nat.le_trans (len_wd_mul' HLB.out HLC.out) (by omega)
  have e5 := e4.trans hx5
  clear ho4 ho5
  go_wp2_with fail
  refine (divnat_Gcd (hr4.ext hx5) (by omega) hr5 (by omega)).mono ?_
  rintro e w6 ⟨A6, n6, c6, rfl, hn6, hr6, ho6, hx6⟩
  rw [nv_wd, nv_wd, HG3.out] at hn6 hr6
  have b6 : n6 ≤ 2097153 := by rw [hn6.out]; exact HLGC.out
  have e6 := e5.trans hx6
  have x36 : Ext w3 w6 := hx4.trans (hx5.trans hx6)
  have x26 : Ext w2 w6 := hx3.trans x36
  have hr2' := hr2.ext x26
  have hr3' := hr3.ext x36
  clear hr2 hr3 hr4 hr5 ho6 x36 x26 hx4 hx5 hx6 hn4 hn5
  go_wp2_with fail
  refine (law_least hr2' (by omega)).mono ?_
  rintro e w' ⟨rfl, rfl⟩
  go_wp2_with fail
  refine (ref1_Same hr2' (by omega) hr3' (by omega)).mono ?_
  rintro e w7 ⟨rfl, hx7⟩
  have ed : decide (wd G = wd G) = true := by simp
  rw [ed]
  go_wp2_with fail
  refine (ref2_Mul (hr2'.ext hx7) (by omega) (hc.ext (e6.trans hx7)) (by omega)).mono ?_
  rintro e w8 ⟨A8, n8, c8, rfl, hn8, hr8, ho8, hx8⟩
  rw [nv_wd] at hn8 hr8
  have b8 : n8 ≤ 2097153 := by rw [hn8.out]; exact HLGC.out
  go_wp2_with fail
  refine (ref1_Same (hr6.ext (hx7.trans hx8)) (by omega) hr8 (by omega)).mono ?_
  rintro e w9 ⟨rfl, hx9⟩
  have ed2 : decide (wd (G * nv zs) = wd (G * nv zs)) = true := by simp
  rw [ed2]
  have x69 : Ext w6 w9 := hx7.trans (hx8.trans hx9)
  have e9 := e6.trans x69
  have hg9 := hr2'.ext x69
  clear hr2' hr3' hr6 hr8 ho8 hn6 hn8 x69 ed ed2 hx7 hx8 hx9
  go_wp2_with fail
  refine (ref2_Mul (hb.ext e9) (by omega) (hc.ext e9) (by omega)).mono ?_
  rintro e w10 ⟨A10, n10, c10, rfl, hn10, hr10, ho10, hx10⟩
  have b10 : n10 ≤ 2097152 := by rw [hn10.out]; exact Nat.le_trans (len_wd_mul' HLB.out HLC.out) (by omega)
  have e10 := e9.trans hx10
  go_wp2_with fail
  refine (ref1_Add (ha.ext e10) (by omega) hr10 (by omega)).mono ?_
  rintro e w11 ⟨A11, n11, c11, rfl, hn11, hr11, ho11, hx11⟩
  rw [nv_wd] at hn11 hr11
  have b11 : n11 ≤ 2097153 := by rw [hn11.out]; exact Nat.le_trans (len_wd_add' HLA.out (len_wd_mul' HLB.out HLC.out)) (by omega)
  have e11 := e10.trans hx11
  go_wp2_with fail
  refine (divnat_Gcd hr11 (by omega) (hb.ext e11) (by omega)).mono ?_
  rintro e w12 ⟨A12, n12, c12, rfl, hn12, hr12, ho12, hx12⟩
  rw [nv_wd, HG4.out] at hn12 hr12
  have b12 : n12 ≤ 1048577 := by rw [hn12.out]; exact HLG.out
  have x912 : Ext w9 w12 := hx10.trans (hx11.trans hx12)
  have e12 := e9.trans x912
  have hg12 := hg9.ext x912
  clear hr10 ho10 hr11 ho11 ho12 hn10 hn11 hg9 x912 e10 e11 hx10 hx11 hx12
  go_wp2_with fail
  refine (ref1_Same hr12 (by omega) hg12 (by omega)).mono ?_
  rintro e w13 ⟨rfl, hx13⟩
  have ed : decide (wd G = wd G) = true := by simp
  rw [ed]
  have e13 := e12.trans hx13
  have hg13 := hg12.ext hx13
  clear hg12 hr12 hx13 ed hn12
  by_cases h0 : G = 0
  · obtain rfl : n2 = 0 := by rw [hn2.out, h0]; rfl
    have ha0 : Hid (nv xs = 0) := Nat.eq_zero_of_gcd_eq_zero_left (by rw [HG.out, h0])
    have hb0 : Hid (nv ys = 0) := Nat.eq_zero_of_gcd_eq_zero_right (by rw [HG.out, h0])
    clear h0
    go_wp2_with fail
    refine (ref1_Least (ha.ext e13) (by omega)).mono ?_
    rintro e w14 ⟨A14, n14, c14, rfl, hn14, hr14, ho14, hx14⟩
    obtain rfl : n14 = 0 := by rw [hn14.out, ha0.out]; rfl
    have e14 := e13.trans hx14
    go_wp2_with fail
    refine (ref1_Least (hb.ext e14) (by omega)).mono ?_
    rintro e w15 ⟨A15, n15, c15, rfl, hn15, hr15, ho15, hx15⟩
    obtain rfl : n15 = 0 := by rw [hn15.out, hb0.out]; rfl
    go_wp2_with fail
    go_ret
    exact ⟨rfl, e14.trans hx15⟩
  · have hn20 : 0 < n2 := by rw [hn2.out]; exact Nat.pos_of_ne_zero (fun e => h0 (len_wd_zero.1 e))
    have bn2 : ((n2 : Int) == 0) = false := by simp; omega
    have H0 := Lib.hid h0
    have da : G ∣ nv xs := by rw [← HG.out]; exact Nat.gcd_dvd_left _ _
    have db : G ∣ nv ys := by rw [← HG.out]; exact Nat.gcd_dvd_right _ _
    have DA := Lib.hid da
    have DB := Lib.hid db
    have HONE : Hid (Nat.gcd (nv xs / G) (nv ys / G) = 1) := by
      show _ = _
      rw [← HG.out]
      exact gcd_div_one (by rw [HG.out]; exact H0.out)
    clear h0 da db
    go_wp2_with fail
    refine (divnat_Exact (ha.ext e13) (by omega) hg13 (by omega) (by rw [nv_wd]; exact H0.out) (by rw [nv_wd]; exact Nat.mod_eq_zero_of_dvd DA.out)).mono ?_
    rintro e w14 ⟨A14, n14, c14, rfl, hn14, hr14, ho14, hx14⟩
    rw [nv_wd] at hn14 hr14
    have b14 : n14 ≤ 1048576 := by rw [hn14.out]; exact Nat.le_trans (len_div _ _) HLA.out
    have e14 := e13.trans hx14
    go_wp2_with fail
    refine (divnat_Exact (hb.ext e14) (by omega) (hg13.ext hx14) (by omega) (by rw [nv_wd]; exact H0.out) (by rw [nv_wd]; exact Nat.mod_eq_zero_of_dvd DB.out)).mono ?_
    rintro e w15 ⟨A15, n15, c15, rfl, hn15, hr15, ho15, hx15⟩
    rw [nv_wd] at hn15 hr15
    have b15 : n15 ≤ 1048576 := by rw [hn15.out]; exact Nat.le_trans (len_div _ _) HLB.out
    have e15 := e14.trans hx15
    clear ho14 ho15
    go_wp2_with fail
    refine (divnat_Gcd (hr14.ext hx15) (by omega) hr15 (by omega)).mono ?_
    rintro e w16 ⟨A16, n16, c16, rfl, hn16, hr16, ho16, hx16⟩
    rw [nv_wd, nv_wd, HONE.out] at hn16 hr16
    have e16 := e15.trans hx16
    have e1 : wd 1 = [1] := by decide +kernel
    have b16 : n16 ≤ 1 := by rw [hn16.out, e1]; exact Nat.le_refl _
    go_wp2_with fail
    refine (ref2_Mul (hr14.ext (hx15.trans hx16)) (by omega) (hg13.ext (hx14.trans (hx15.trans hx16))) (by omega)).mono ?_
    rintro e w17 ⟨A17, n17, c17, rfl, hn17, hr17, ho17, hx17⟩
    rw [nv_wd, nv_wd, Nat.div_mul_cancel DA.out] at hn17 hr17
    have b17 : n17 ≤ 1048576 := by rw [hn17.out]; exact HLA.out
    have e17 := e16.trans hx17
    go_wp2_with fail
    refine (ref2_Mul (hr15.ext (hx16.trans hx17)) (by omega) (hg13.ext (hx14.trans (hx15.trans (hx16.trans hx17)))) (by omega)).mono ?_
    rintro e w18 ⟨A18, n18, c18, rfl, hn18, hr18, ho18, hx18⟩
    rw [nv_wd, nv_wd, Nat.div_mul_cancel DB.out] at hn18 hr18
    have b18 : n18 ≤ 1048576 := by rw [hn18.out]; exact HLB.out
    have e18 := e17.trans hx18
    have hr16' := hr16.ext (hx17.trans hx18)
    have hr17' := hr17.ext hx18
    clear hr14 hr15 hr16 hr17 ho16 ho17 ho18 hg13
    go_wp2_with fail
    have h1 : Rd (w18.alloc (.cells #[.int .u64 1] 23)) (some ⟨w18.heap.size, 0, none⟩) 1 1 [1] := Rd.one w18 (x := 1) (by omega)
    refine (ref1_Same (hr16'.ext (by repeat (first | exact Ext.refl _ | assumption | apply Ext.drewN | apply Ext.drew | apply Ext.alloc))) (by omega) h1 (by omega)).mono ?_
    rintro e w19 ⟨rfl, hx19⟩
    have ed : decide (wd 1 = [1]) = true := by rw [e1]; simp
    rw [ed]
    have x19 : Ext w18 w19 := ((Ext.refl w18).alloc (.cells #[.int .u64 1] 23)).trans hx19
    have e19 := e18.trans x19
    clear ed h1 hr16' e1
    go_wp2_with fail
    refine (ref1_Least (ha.ext e19) (by omega)).mono ?_
    rintro e w20 ⟨A20, n20, c20, rfl, hn20', hr20, ho20, hx20⟩
    have b20 : n20 ≤ 1048576 := by rw [hn20'.out]; exact HLA.out
    have e20 := e19.trans hx20
    go_wp2_with fail
    refine (ref1_Same (hr17'.ext (x19.trans hx20)) (by omega) hr20 (by omega)).mono ?_
    rintro e w21 ⟨rfl, hx21⟩
    have ed : decide (wd (nv xs) = wd (nv xs)) = true := by simp
    rw [ed]
    have e21 := e20.trans hx21
    clear ed ho20
    go_wp2_with fail
    refine (ref1_Least (hb.ext e21) (by omega)).mono ?_
    rintro e w22 ⟨A22, n22, c22, rfl, hn22, hr22, ho22, hx22⟩
    have b22 : n22 ≤ 1048576 := by rw [hn22.out]; exact HLB.out
    go_wp2_with fail
    refine (ref1_Same (hr18.ext (x19.trans (hx20.trans (hx21.trans hx22)))) (by omega) hr22 (by omega)).mono ?_
    rintro e w23 ⟨rfl, hx23⟩
    have ed : decide (wd (nv ys) = wd (nv ys)) = true := by simp
    rw [ed]
    go_wp2_with fail
    go_ret
    exact ⟨rfl, e21.trans (hx22.trans hx23)⟩
end Go.Proofs.Ytacdaafnlbeagaa
