/- trellislaw08: FracLowest -/
import Derived.Test.YthbogoecoebefaaLaw8b
namespace Go.Proofs.Ythbogoecoebefaa
open Go.RowKit

set_option maxRecDepth 20000 in
set_option maxHeartbeats 16000000 in
theorem law_FracLowest {w : World} {sa ta : Bool} {Aa Ba : Option Addr} {na ca ma da : Nat} {x y : Int} {sb tb : Bool} {Ab Bb : Option Addr} {nb cb mb db : Nat} {u v : Int} (hx : Zi w sa Aa na ca x) (lx : na ≤ 1048576) (hy : Zi w ta Ba ma da y) (ly : ma ≤ 1048576) (hu : Zi w sb Ab nb cb u) (lu : nb ≤ 1048576) (hv : Zi w tb Bb mb db v) (lv : mb ≤ 1048576) :
    Calls Try.prog 6 #[.agg #[.bool sa, .slice Aa na ca, .bool ta, .slice Ba ma da], .agg #[.bool sb, .slice Ab nb cb, .bool tb, .slice Bb mb db]] w (BoolP true w) := by
  have Lx : Hid (ln x ≤ 1048576) := Nat.le_trans hx.ln lx
  have Ly : Hid (ln y ≤ 1048576) := Nat.le_trans hy.ln ly
  have Lu : Hid (ln u ≤ 1048576) := Nat.le_trans hu.ln lu
  have Lv : Hid (ln v ≤ 1048576) := Nat.le_trans hv.ln lv
  go_enter Try.func6, Try.ntmps6
  go_upto_region 1 with (fail)
  obtain ⟨ga, gb, v0, hg2, hg, hv0, hba, hbb, hea, l12, l2, n12, n21⟩ := boxesL2 w 39 39 [.bool sa, .slice Aa na ca, .bool ta, .slice Ba ma da] [.bool sb, .slice Ab nb cb, .bool tb, .slice Bb mb db]
  rw [hg2, hg, hv0]
  clear hv0 hg hg2 l12 l2 n12 n21
  go_wp2_with fail
  refine (law_awake v0).mono ?_
  rintro e v1 ⟨rfl, e1⟩
  obtain ⟨⟨ka0, ka1, ka2, ka3⟩, ka4⟩ := (hba.ext e1).four
  go_wp2_with fail
  refine (frac_OfP (hx.ext (hea.trans e1)) (by omega) (hy.ext (hea.trans e1)) (by omega)).mono ?_
  rintro e w2 ⟨p5, q5, er5, ⟨s5, A5, n5, c5, t5, B5, m5, d5, rfl, zn5, zd5, hx2⟩, hl5⟩
  clear ka0 ka1 ka2 ka3 ka4
  obtain ⟨g5, v2, hgg, hvv, hb5, heb, lg⟩ := boxesL1 w2 39 [.bool s5, .slice A5 n5 c5, .bool t5, .slice B5 m5 d5]
  go_upto_region 4 with (fail)
  try rw [hgg, hvv]
  clear hvv hgg lg
  have e2 := hx2.trans heb
  have zn5 := zn5.ext heb
  have zd5 := zd5.ext heb
  clear hx2 heb
  obtain ⟨⟨ka0, ka1, ka2, ka3⟩, ka4⟩ := (hba.ext (e1.trans e2)).four
  obtain ⟨⟨kb0, kb1, kb2, kb3⟩, kb4⟩ := (hbb.ext (e1.trans e2)).four
  go_wp2_with fail
  refine (frac_Add (hx.ext (hea.trans (e1.trans e2))) (by omega) (hy.ext (hea.trans (e1.trans e2))) (by omega) (hu.ext (hea.trans (e1.trans e2))) (by omega) (hv.ext (hea.trans (e1.trans e2))) (by omega)).mono ?_
  rintro e w3 ⟨p7, q7, er7, ⟨s7, A7, n7, c7, t7, B7, m7, d7, rfl, zn7, zd7, hx3⟩, hl7⟩
  clear ka0 ka1 ka2 ka3 ka4 kb0 kb1 kb2 kb3 kb4
  obtain ⟨g7, v3, hgg, hvv, hb7, heb, lg⟩ := boxesL1 w3 39 [.bool s7, .slice A7 n7 c7, .bool t7, .slice B7 m7 d7]
  go_upto_region 5 with (fail)
  try rw [hgg, hvv]
  clear hvv hgg lg
  have e3 := hx3.trans heb
  have zn7 := zn7.ext heb
  have zd7 := zd7.ext heb
  clear hx3 heb
  obtain ⟨⟨ka0, ka1, ka2, ka3⟩, ka4⟩ := (hba.ext (e1.trans (e2.trans e3))).four
  obtain ⟨⟨kb0, kb1, kb2, kb3⟩, kb4⟩ := (hbb.ext (e1.trans (e2.trans e3))).four
  go_wp2_with fail
  refine (frac_Sub (hx.ext (hea.trans (e1.trans (e2.trans e3)))) (by omega) (hy.ext (hea.trans (e1.trans (e2.trans e3)))) (by omega) (hu.ext (hea.trans (e1.trans (e2.trans e3)))) (by omega) (hv.ext (hea.trans (e1.trans (e2.trans e3)))) (by omega)).mono ?_
  rintro e w4 ⟨p9, q9, er9, ⟨s9, A9, n9, c9, t9, B9, m9, d9, rfl, zn9, zd9, hx4⟩, hl9⟩
  clear ka0 ka1 ka2 ka3 ka4 kb0 kb1 kb2 kb3 kb4
  obtain ⟨g9, v4, hgg, hvv, hb9, heb, lg⟩ := boxesL1 w4 39 [.bool s9, .slice A9 n9 c9, .bool t9, .slice B9 m9 d9]
  go_upto_region 6 with (fail)
  try rw [hgg, hvv]
  clear hvv hgg lg
  have e4 := hx4.trans heb
  have zn9 := zn9.ext heb
  have zd9 := zd9.ext heb
  clear hx4 heb
  obtain ⟨⟨ka0, ka1, ka2, ka3⟩, ka4⟩ := (hba.ext (e1.trans (e2.trans (e3.trans e4)))).four
  obtain ⟨⟨kb0, kb1, kb2, kb3⟩, kb4⟩ := (hbb.ext (e1.trans (e2.trans (e3.trans e4)))).four
  go_wp2_with fail
  refine (frac_Mul (hx.ext (hea.trans (e1.trans (e2.trans (e3.trans e4))))) (by omega) (hy.ext (hea.trans (e1.trans (e2.trans (e3.trans e4))))) (by omega) (hu.ext (hea.trans (e1.trans (e2.trans (e3.trans e4))))) (by omega) (hv.ext (hea.trans (e1.trans (e2.trans (e3.trans e4))))) (by omega)).mono ?_
  rintro e w5 ⟨p11, q11, er11, ⟨s11, A11, n11, c11, t11, B11, m11, d11, rfl, zn11, zd11, hx5⟩, hl11⟩
  clear ka0 ka1 ka2 ka3 ka4 kb0 kb1 kb2 kb3 kb4
  obtain ⟨g11, v5, hgg, hvv, hb11, heb, lg⟩ := boxesL1 w5 39 [.bool s11, .slice A11 n11 c11, .bool t11, .slice B11 m11 d11]
  go_upto_region 7 with (fail)
  try rw [hgg, hvv]
  clear hvv hgg lg
  have e5 := hx5.trans heb
  have zn11 := zn11.ext heb
  have zd11 := zd11.ext heb
  clear hx5 heb
  obtain ⟨⟨ka0, ka1, ka2, ka3⟩, ka4⟩ := (hba.ext (e1.trans (e2.trans (e3.trans (e4.trans e5))))).four
  obtain ⟨⟨kb0, kb1, kb2, kb3⟩, kb4⟩ := (hbb.ext (e1.trans (e2.trans (e3.trans (e4.trans e5))))).four
  go_wp2_with fail
  refine (frac_Div (hx.ext (hea.trans (e1.trans (e2.trans (e3.trans (e4.trans e5)))))) (by omega) (hy.ext (hea.trans (e1.trans (e2.trans (e3.trans (e4.trans e5)))))) (by omega) (hu.ext (hea.trans (e1.trans (e2.trans (e3.trans (e4.trans e5)))))) (by omega) (hv.ext (hea.trans (e1.trans (e2.trans (e3.trans (e4.trans e5)))))) (by omega)).mono ?_
  rintro e w6 ⟨p13, q13, er13, ⟨s13, A13, n13, c13, t13, B13, m13, d13, rfl, zn13, zd13, hx6⟩, hl13⟩
  clear ka0 ka1 ka2 ka3 ka4 kb0 kb1 kb2 kb3 kb4
  obtain ⟨g13, v6, hgg, hvv, hb13, heb, lg⟩ := boxesL1 w6 39 [.bool s13, .slice A13 n13 c13, .bool t13, .slice B13 m13 d13]
  go_upto_region 8 with (fail)
  try rw [hgg, hvv]
  clear hvv hgg lg
  have e6 := hx6.trans heb
  have zn13 := zn13.ext heb
  have zd13 := zd13.ext heb
  clear hx6 heb
  by_cases hy0 : y = 0
  · have Ny := Lib.hid hy0
    have hz : y * v = 0 := by rw [hy0, Int.zero_mul]
    obtain rfl : er5 = 4 := (hl5.out.1 hy0).2.2
    obtain rfl : er7 = 4 := (hl7.out.1 hz).2.2
    obtain rfl : er9 = 4 := (hl9.out.1 hz).2.2
    obtain rfl : er11 = 4 := (hl11.out.1 hz).2.2
    obtain rfl : er13 = 4 := (hl13.out.1 (Or.inl hy0)).2.2
    clear hz hy0 hl5 hl7 hl9 hl11 hl13
    obtain ⟨⟨ka0, ka1, ka2, ka3⟩, ka4⟩ := (hba.ext (e1.trans (e2.trans (e3.trans (e4.trans (e5.trans e6)))))).four
    go_wp2_with fail
    refine (law_is (hy.ext (hea.trans (e1.trans (e2.trans (e3.trans (e4.trans (e5.trans e6))))))) (by omega) (b := false) (decide_eq_false (fun h => h Ny.out)).symm).mono ?_
    rintro e v7 ⟨rfl, e7⟩
    clear ka0 ka1 ka2 ka3 ka4
    obtain ⟨⟨ka0, ka1, ka2, ka3⟩, ka4⟩ := (hba.ext (e1.trans (e2.trans (e3.trans (e4.trans (e5.trans (e6.trans e7))))))).four
    go_wp2_with fail
    refine (law_is (hy.ext (hea.trans (e1.trans (e2.trans (e3.trans (e4.trans (e5.trans (e6.trans e7)))))))) (by omega) (b := false) (decide_eq_false (fun h => h Ny.out)).symm).mono ?_
    rintro e v8 ⟨rfl, e8⟩
    clear ka0 ka1 ka2 ka3 ka4
    obtain ⟨⟨ka0, ka1, ka2, ka3⟩, ka4⟩ := (hba.ext (e1.trans (e2.trans (e3.trans (e4.trans (e5.trans (e6.trans (e7.trans e8)))))))).four
    go_wp2_with fail
    refine (law_is (hy.ext (hea.trans (e1.trans (e2.trans (e3.trans (e4.trans (e5.trans (e6.trans (e7.trans e8))))))))) (by omega) (b := false) (decide_eq_false (fun h => h Ny.out)).symm).mono ?_
    rintro e v9 ⟨rfl, e9⟩
    clear ka0 ka1 ka2 ka3 ka4
    obtain ⟨⟨ka0, ka1, ka2, ka3⟩, ka4⟩ := (hba.ext (e1.trans (e2.trans (e3.trans (e4.trans (e5.trans (e6.trans (e7.trans (e8.trans e9))))))))).four
    go_wp2_with fail
    refine (law_is (hy.ext (hea.trans (e1.trans (e2.trans (e3.trans (e4.trans (e5.trans (e6.trans (e7.trans (e8.trans e9)))))))))) (by omega) (b := false) (decide_eq_false (fun h => h Ny.out)).symm).mono ?_
    rintro e v10 ⟨rfl, e10⟩
    clear ka0 ka1 ka2 ka3 ka4
    go_wp2_with fail
    go_ret
    exact ⟨rfl, (hea.trans (e1.trans (e2.trans (e3.trans (e4.trans (e5.trans (e6.trans (e7.trans (e8.trans (e9.trans e10))))))))))⟩
  · have Ny := Lib.hid hy0
    clear hy0
    have LW5 := Lib.hid (hl5.out.2 Ny.out).1
    obtain rfl : er5 = 0 := (hl5.out.2 Ny.out).2
    have bn5 : n5 ≤ 1048576 := zn5.le (Nat.le_trans (ln_mono LW5.out.np) Lx.out)
    have bd5 : m5 ≤ 1048576 := zd5.le (Nat.le_trans (ln_mono LW5.out.nq) Ly.out)
    clear hl5
    by_cases hv0 : v = 0
    · have Nv := Lib.hid hv0
      have hz : y * v = 0 := by rw [hv0, Int.mul_zero]
      obtain rfl : er7 = 4 := (hl7.out.1 hz).2.2
      obtain rfl : er9 = 4 := (hl9.out.1 hz).2.2
      obtain rfl : er11 = 4 := (hl11.out.1 hz).2.2
      obtain rfl : er13 = 4 := (hl13.out.1 (Or.inr (Or.inr hv0))).2.2
      clear hz hv0 hl7 hl9 hl11 hl13
      obtain ⟨⟨ka0, ka1, ka2, ka3⟩, ka4⟩ := (hba.ext (e1.trans (e2.trans (e3.trans (e4.trans (e5.trans e6)))))).four
      go_wp2_with fail
      refine (law_is (hy.ext (hea.trans (e1.trans (e2.trans (e3.trans (e4.trans (e5.trans e6))))))) (by omega) (b := true) (decide_eq_true Ny.out).symm).mono ?_
      rintro e v7 ⟨rfl, e7⟩
      clear ka0 ka1 ka2 ka3 ka4
      obtain ⟨⟨ka0, ka1, ka2, ka3⟩, ka4⟩ := (hba.ext (e1.trans (e2.trans (e3.trans (e4.trans (e5.trans (e6.trans e7))))))).four
      go_wp2_with fail
      refine (law_is (hy.ext (hea.trans (e1.trans (e2.trans (e3.trans (e4.trans (e5.trans (e6.trans e7)))))))) (by omega) (b := true) (decide_eq_true Ny.out).symm).mono ?_
      rintro e v8 ⟨rfl, e8⟩
      clear ka0 ka1 ka2 ka3 ka4
      obtain ⟨⟨ka0, ka1, ka2, ka3⟩, ka4⟩ := (hba.ext (e1.trans (e2.trans (e3.trans (e4.trans (e5.trans (e6.trans (e7.trans e8)))))))).four
      clear ka0 ka1 ka2 ka3 ka4
      obtain ⟨⟨ka0, ka1, ka2, ka3⟩, ka4⟩ := (hba.ext (e1.trans (e2.trans (e3.trans (e4.trans (e5.trans (e6.trans (e7.trans e8)))))))).four
      go_wp2_with fail
      refine (law_is (hy.ext (hea.trans (e1.trans (e2.trans (e3.trans (e4.trans (e5.trans (e6.trans (e7.trans e8))))))))) (by omega) (b := true) (decide_eq_true Ny.out).symm).mono ?_
      rintro e v9 ⟨rfl, e9⟩
      clear ka0 ka1 ka2 ka3 ka4
      obtain ⟨⟨k50, k51, k52, k53⟩, k54⟩ := (hb5.ext (e3.trans (e4.trans (e5.trans (e6.trans (e7.trans (e8.trans e9))))))).four
      obtain ⟨⟨ka0, ka1, ka2, ka3⟩, ka4⟩ := (hba.ext (e1.trans (e2.trans (e3.trans (e4.trans (e5.trans (e6.trans (e7.trans (e8.trans e9))))))))).four
      go_wp2_with fail
      refine (law_names (zn5.ext (e3.trans (e4.trans (e5.trans (e6.trans (e7.trans (e8.trans e9))))))) (by omega) (zd5.ext (e3.trans (e4.trans (e5.trans (e6.trans (e7.trans (e8.trans e9))))))) (by omega) (hx.ext (hea.trans (e1.trans (e2.trans (e3.trans (e4.trans (e5.trans (e6.trans (e7.trans (e8.trans e9)))))))))) (by omega) (hy.ext (hea.trans (e1.trans (e2.trans (e3.trans (e4.trans (e5.trans (e6.trans (e7.trans (e8.trans e9)))))))))) (by omega) LW5.out).mono ?_
      rintro e v10 ⟨rfl, e10⟩
      clear k50 k51 k52 k53 k54 ka0 ka1 ka2 ka3 ka4
      obtain ⟨⟨ka0, ka1, ka2, ka3⟩, ka4⟩ := (hba.ext (e1.trans (e2.trans (e3.trans (e4.trans (e5.trans (e6.trans (e7.trans (e8.trans (e9.trans e10)))))))))).four
      go_wp2_with fail
      refine (law_is (hy.ext (hea.trans (e1.trans (e2.trans (e3.trans (e4.trans (e5.trans (e6.trans (e7.trans (e8.trans (e9.trans e10))))))))))) (by omega) (b := true) (decide_eq_true Ny.out).symm).mono ?_
      rintro e v11 ⟨rfl, e11⟩
      clear ka0 ka1 ka2 ka3 ka4
      obtain ⟨⟨kb0, kb1, kb2, kb3⟩, kb4⟩ := (hbb.ext (e1.trans (e2.trans (e3.trans (e4.trans (e5.trans (e6.trans (e7.trans (e8.trans (e9.trans (e10.trans e11))))))))))).four
      go_wp2_with fail
      refine (law_is (hv.ext (hea.trans (e1.trans (e2.trans (e3.trans (e4.trans (e5.trans (e6.trans (e7.trans (e8.trans (e9.trans (e10.trans e11)))))))))))) (by omega) (b := false) (decide_eq_false (fun h => h Nv.out)).symm).mono ?_
      rintro e v12 ⟨rfl, e12⟩
      clear kb0 kb1 kb2 kb3 kb4
      go_wp2_with fail
      go_ret
      exact ⟨rfl, (hea.trans (e1.trans (e2.trans (e3.trans (e4.trans (e5.trans (e6.trans (e7.trans (e8.trans (e9.trans (e10.trans (e11.trans e12))))))))))))⟩
    · have Nv := Lib.hid hv0
      clear hv0
      have HZ : Hid (y * v ≠ 0) := Int.mul_ne_zero Ny.out Nv.out
      have LW7 := Lib.hid (hl7.out.2 HZ.out).1
      obtain rfl : er7 = 0 := (hl7.out.2 HZ.out).2
      have bn7 : n7 ≤ 2097153 := zn7.le (Nat.le_trans (ln_mono LW7.out.np) (Nat.le_trans (ln_add (ln_mul Lx.out Lv.out) (ln_mul Lu.out Ly.out)) (by omega)))
      have bd7 : m7 ≤ 2097153 := zd7.le (Nat.le_trans (ln_mono LW7.out.nq) (Nat.le_trans (ln_mul Ly.out Lv.out) (by omega)))
      have LW9 := Lib.hid (hl9.out.2 HZ.out).1
      obtain rfl : er9 = 0 := (hl9.out.2 HZ.out).2
      have bn9 : n9 ≤ 2097153 := zn9.le (Nat.le_trans (ln_mono LW9.out.np) (Nat.le_trans (ln_add (ln_mul Lx.out Lv.out) (ln_mul (by rw [ln_neg]; exact Lu.out) Ly.out)) (by omega)))
      have bd9 : m9 ≤ 2097153 := zd9.le (Nat.le_trans (ln_mono LW9.out.nq) (Nat.le_trans (ln_mul Ly.out Lv.out) (by omega)))
      have LW11 := Lib.hid (hl11.out.2 HZ.out).1
      obtain rfl : er11 = 0 := (hl11.out.2 HZ.out).2
      have bn11 : n11 ≤ 2097153 := zn11.le (Nat.le_trans (ln_mono LW11.out.np) (Nat.le_trans (ln_mul Lx.out Lu.out) (by omega)))
      have bd11 : m11 ≤ 2097153 := zd11.le (Nat.le_trans (ln_mono LW11.out.nq) (Nat.le_trans (ln_mul Ly.out Lv.out) (by omega)))
      clear hl7 hl9 hl11
      obtain ⟨⟨ka0, ka1, ka2, ka3⟩, ka4⟩ := (hba.ext (e1.trans (e2.trans (e3.trans (e4.trans (e5.trans e6)))))).four
      go_wp2_with fail
      refine (law_is (hy.ext (hea.trans (e1.trans (e2.trans (e3.trans (e4.trans (e5.trans e6))))))) (by omega) (b := true) (decide_eq_true Ny.out).symm).mono ?_
      rintro e v7 ⟨rfl, e7⟩
      clear ka0 ka1 ka2 ka3 ka4
      obtain ⟨⟨ka0, ka1, ka2, ka3⟩, ka4⟩ := (hba.ext (e1.trans (e2.trans (e3.trans (e4.trans (e5.trans (e6.trans e7))))))).four
      go_wp2_with fail
      refine (law_is (hy.ext (hea.trans (e1.trans (e2.trans (e3.trans (e4.trans (e5.trans (e6.trans e7)))))))) (by omega) (b := true) (decide_eq_true Ny.out).symm).mono ?_
      rintro e v8 ⟨rfl, e8⟩
      clear ka0 ka1 ka2 ka3 ka4
      obtain ⟨⟨ka0, ka1, ka2, ka3⟩, ka4⟩ := (hba.ext (e1.trans (e2.trans (e3.trans (e4.trans (e5.trans (e6.trans (e7.trans e8)))))))).four
      go_wp2_with fail
      refine (law_is (hy.ext (hea.trans (e1.trans (e2.trans (e3.trans (e4.trans (e5.trans (e6.trans (e7.trans e8))))))))) (by omega) (b := true) (decide_eq_true Ny.out).symm).mono ?_
      rintro e v9 ⟨rfl, e9⟩
      clear ka0 ka1 ka2 ka3 ka4
      obtain ⟨⟨k50, k51, k52, k53⟩, k54⟩ := (hb5.ext (e3.trans (e4.trans (e5.trans (e6.trans (e7.trans (e8.trans e9))))))).four
      obtain ⟨⟨ka0, ka1, ka2, ka3⟩, ka4⟩ := (hba.ext (e1.trans (e2.trans (e3.trans (e4.trans (e5.trans (e6.trans (e7.trans (e8.trans e9))))))))).four
      go_wp2_with fail
      refine (law_names (zn5.ext (e3.trans (e4.trans (e5.trans (e6.trans (e7.trans (e8.trans e9))))))) (by omega) (zd5.ext (e3.trans (e4.trans (e5.trans (e6.trans (e7.trans (e8.trans e9))))))) (by omega) (hx.ext (hea.trans (e1.trans (e2.trans (e3.trans (e4.trans (e5.trans (e6.trans (e7.trans (e8.trans e9)))))))))) (by omega) (hy.ext (hea.trans (e1.trans (e2.trans (e3.trans (e4.trans (e5.trans (e6.trans (e7.trans (e8.trans e9)))))))))) (by omega) LW5.out).mono ?_
      rintro e v10 ⟨rfl, e10⟩
      clear k50 k51 k52 k53 k54 ka0 ka1 ka2 ka3 ka4
      obtain ⟨⟨ka0, ka1, ka2, ka3⟩, ka4⟩ := (hba.ext (e1.trans (e2.trans (e3.trans (e4.trans (e5.trans (e6.trans (e7.trans (e8.trans (e9.trans e10)))))))))).four
      go_wp2_with fail
      refine (law_is (hy.ext (hea.trans (e1.trans (e2.trans (e3.trans (e4.trans (e5.trans (e6.trans (e7.trans (e8.trans (e9.trans e10))))))))))) (by omega) (b := true) (decide_eq_true Ny.out).symm).mono ?_
      rintro e v11 ⟨rfl, e11⟩
      clear ka0 ka1 ka2 ka3 ka4
      obtain ⟨⟨kb0, kb1, kb2, kb3⟩, kb4⟩ := (hbb.ext (e1.trans (e2.trans (e3.trans (e4.trans (e5.trans (e6.trans (e7.trans (e8.trans (e9.trans (e10.trans e11))))))))))).four
      go_wp2_with fail
      refine (law_is (hv.ext (hea.trans (e1.trans (e2.trans (e3.trans (e4.trans (e5.trans (e6.trans (e7.trans (e8.trans (e9.trans (e10.trans e11)))))))))))) (by omega) (b := true) (decide_eq_true Nv.out).symm).mono ?_
      rintro e v12 ⟨rfl, e12⟩
      clear kb0 kb1 kb2 kb3 kb4
      obtain ⟨⟨ka0, ka1, ka2, ka3⟩, ka4⟩ := (hba.ext (e1.trans (e2.trans (e3.trans (e4.trans (e5.trans (e6.trans (e7.trans (e8.trans (e9.trans (e10.trans (e11.trans e12)))))))))))).four
      obtain ⟨⟨kb0, kb1, kb2, kb3⟩, kb4⟩ := (hbb.ext (e1.trans (e2.trans (e3.trans (e4.trans (e5.trans (e6.trans (e7.trans (e8.trans (e9.trans (e10.trans (e11.trans e12)))))))))))).four
      go_wp2_with fail
      refine (zint_Mul (hx.ext (hea.trans (e1.trans (e2.trans (e3.trans (e4.trans (e5.trans (e6.trans (e7.trans (e8.trans (e9.trans (e10.trans (e11.trans e12))))))))))))) (by omega) (hv.ext (hea.trans (e1.trans (e2.trans (e3.trans (e4.trans (e5.trans (e6.trans (e7.trans (e8.trans (e9.trans (e10.trans (e11.trans e12))))))))))))) (by omega)).mono ?_
      rintro e w13 ⟨s15, A15, n15, c15, rfl, z15, hx13⟩
      clear ka0 ka1 ka2 ka3 ka4 kb0 kb1 kb2 kb3 kb4
      go_upto_region 15 with (fail)
      obtain ⟨g15, v13, hgg, hvv, hb15, heb, lg⟩ := boxesL1 w13 24 [.bool s15, .slice A15 n15 c15]
      rw [hgg, hvv]
      clear hvv hgg lg
      have e13 := hx13.trans heb
      have z15 := z15.ext heb
      clear hx13 heb
      have b15 : n15 ≤ 2097152 := z15.le (Nat.le_trans (ln_mul Lx.out Lv.out) (by omega))
      obtain ⟨⟨ka0, ka1, ka2, ka3⟩, ka4⟩ := (hba.ext (e1.trans (e2.trans (e3.trans (e4.trans (e5.trans (e6.trans (e7.trans (e8.trans (e9.trans (e10.trans (e11.trans (e12.trans e13))))))))))))).four
      obtain ⟨⟨kb0, kb1, kb2, kb3⟩, kb4⟩ := (hbb.ext (e1.trans (e2.trans (e3.trans (e4.trans (e5.trans (e6.trans (e7.trans (e8.trans (e9.trans (e10.trans (e11.trans (e12.trans e13))))))))))))).four
      go_wp2_with fail
      refine (zint_Mul (hu.ext (hea.trans (e1.trans (e2.trans (e3.trans (e4.trans (e5.trans (e6.trans (e7.trans (e8.trans (e9.trans (e10.trans (e11.trans (e12.trans e13)))))))))))))) (by omega) (hy.ext (hea.trans (e1.trans (e2.trans (e3.trans (e4.trans (e5.trans (e6.trans (e7.trans (e8.trans (e9.trans (e10.trans (e11.trans (e12.trans e13)))))))))))))) (by omega)).mono ?_
      rintro e w14 ⟨s16, A16, n16, c16, rfl, z16, hx14⟩
      clear ka0 ka1 ka2 ka3 ka4 kb0 kb1 kb2 kb3 kb4
      go_upto_region 16 with (fail)
      obtain ⟨g16, v14, hgg, hvv, hb16, heb, lg⟩ := boxesL1 w14 24 [.bool s16, .slice A16 n16 c16]
      rw [hgg, hvv]
      clear hvv hgg lg
      have e14 := hx14.trans heb
      have z16 := z16.ext heb
      clear hx14 heb
      have b16 : n16 ≤ 2097152 := z16.le (Nat.le_trans (ln_mul Lu.out Ly.out) (by omega))
      obtain ⟨⟨ka0, ka1, ka2, ka3⟩, ka4⟩ := (hba.ext (e1.trans (e2.trans (e3.trans (e4.trans (e5.trans (e6.trans (e7.trans (e8.trans (e9.trans (e10.trans (e11.trans (e12.trans (e13.trans e14)))))))))))))).four
      obtain ⟨⟨kb0, kb1, kb2, kb3⟩, kb4⟩ := (hbb.ext (e1.trans (e2.trans (e3.trans (e4.trans (e5.trans (e6.trans (e7.trans (e8.trans (e9.trans (e10.trans (e11.trans (e12.trans (e13.trans e14)))))))))))))).four
      go_wp2_with fail
      refine (zint_Mul (hy.ext (hea.trans (e1.trans (e2.trans (e3.trans (e4.trans (e5.trans (e6.trans (e7.trans (e8.trans (e9.trans (e10.trans (e11.trans (e12.trans (e13.trans e14))))))))))))))) (by omega) (hv.ext (hea.trans (e1.trans (e2.trans (e3.trans (e4.trans (e5.trans (e6.trans (e7.trans (e8.trans (e9.trans (e10.trans (e11.trans (e12.trans (e13.trans e14))))))))))))))) (by omega)).mono ?_
      rintro e w15 ⟨s17, A17, n17, c17, rfl, z17, hx15⟩
      clear ka0 ka1 ka2 ka3 ka4 kb0 kb1 kb2 kb3 kb4
      go_upto_region 17 with (fail)
      obtain ⟨g17, v15, hgg, hvv, hb17, heb, lg⟩ := boxesL1 w15 24 [.bool s17, .slice A17 n17 c17]
      rw [hgg, hvv]
      clear hvv hgg lg
      have e15 := hx15.trans heb
      have z17 := z17.ext heb
      clear hx15 heb
      have b17 : n17 ≤ 2097152 := z17.le (Nat.le_trans (ln_mul Ly.out Lv.out) (by omega))
      have zn7 := zn7.ext (e4.trans (e5.trans (e6.trans (e7.trans (e8.trans (e9.trans (e10.trans (e11.trans (e12.trans (e13.trans (e14.trans e15)))))))))))
      have zd7 := zd7.ext (e4.trans (e5.trans (e6.trans (e7.trans (e8.trans (e9.trans (e10.trans (e11.trans (e12.trans (e13.trans (e14.trans e15)))))))))))
      have zn9 := zn9.ext (e5.trans (e6.trans (e7.trans (e8.trans (e9.trans (e10.trans (e11.trans (e12.trans (e13.trans (e14.trans e15))))))))))
      have zd9 := zd9.ext (e5.trans (e6.trans (e7.trans (e8.trans (e9.trans (e10.trans (e11.trans (e12.trans (e13.trans (e14.trans e15))))))))))
      have zn11 := zn11.ext (e6.trans (e7.trans (e8.trans (e9.trans (e10.trans (e11.trans (e12.trans (e13.trans (e14.trans e15)))))))))
      have zd11 := zd11.ext (e6.trans (e7.trans (e8.trans (e9.trans (e10.trans (e11.trans (e12.trans (e13.trans (e14.trans e15)))))))))
      have zn13 := zn13.ext (e7.trans (e8.trans (e9.trans (e10.trans (e11.trans (e12.trans (e13.trans (e14.trans e15))))))))
      have zd13 := zd13.ext (e7.trans (e8.trans (e9.trans (e10.trans (e11.trans (e12.trans (e13.trans (e14.trans e15))))))))
      have z15 := z15.ext (e14.trans e15)
      have z16 := z16.ext e15
      have hba := hba.ext (e1.trans (e2.trans (e3.trans (e4.trans (e5.trans (e6.trans (e7.trans (e8.trans (e9.trans (e10.trans (e11.trans (e12.trans (e13.trans (e14.trans e15))))))))))))))
      have hbb := hbb.ext (e1.trans (e2.trans (e3.trans (e4.trans (e5.trans (e6.trans (e7.trans (e8.trans (e9.trans (e10.trans (e11.trans (e12.trans (e13.trans (e14.trans e15))))))))))))))
      have hb7 := hb7.ext (e4.trans (e5.trans (e6.trans (e7.trans (e8.trans (e9.trans (e10.trans (e11.trans (e12.trans (e13.trans (e14.trans e15)))))))))))
      have hb9 := hb9.ext (e5.trans (e6.trans (e7.trans (e8.trans (e9.trans (e10.trans (e11.trans (e12.trans (e13.trans (e14.trans e15))))))))))
      have hb11 := hb11.ext (e6.trans (e7.trans (e8.trans (e9.trans (e10.trans (e11.trans (e12.trans (e13.trans (e14.trans e15)))))))))
      have hb13 := hb13.ext (e7.trans (e8.trans (e9.trans (e10.trans (e11.trans (e12.trans (e13.trans (e14.trans e15))))))))
      have hb15 := hb15.ext (e14.trans e15)
      have hb16 := hb16.ext e15
      have ek := (hea.trans (e1.trans (e2.trans (e3.trans (e4.trans (e5.trans (e6.trans (e7.trans (e8.trans (e9.trans (e10.trans (e11.trans (e12.trans (e13.trans (e14.trans e15)))))))))))))))
      obtain ⟨⟨ka0, ka1, ka2, ka3⟩, ka4⟩ := (hba).four
      obtain ⟨⟨kb0, kb1, kb2, kb3⟩, kb4⟩ := (hbb).four
      obtain ⟨⟨k70, k71, k72, k73⟩, k74⟩ := (hb7).four
      obtain ⟨⟨k90, k91, k92, k93⟩, k94⟩ := (hb9).four
      obtain ⟨⟨k110, k111, k112, k113⟩, k114⟩ := (hb11).four
      obtain ⟨k150, k151, k152, k153⟩ := (hb15).two
      obtain ⟨k160, k161, k162, k163⟩ := (hb16).two
      obtain ⟨k170, k171, k172, k173⟩ := (hb17).two
      have LW9' : Hid (Low p9 q9 (x * v - u * y) (y * v)) := (show Low _ _ _ _ by have h := LW9.out; rw [Int.neg_mul, ← Int.sub_eq_add_neg] at h; exact h)
      clear LW9
      go_region_held3 (fun w' => w'.cell? ⟨ga, 0, none⟩ = some (.bool sa) ∧ w'.cell? ⟨ga, 1, none⟩ = some (.slice Aa na ca) ∧ w'.cell? ⟨ga, 2, none⟩ = some (.bool ta) ∧ w'.cell? ⟨ga, 3, none⟩ = some (.slice Ba ma da) ∧ w'.cell? ⟨gb, 0, none⟩ = some (.bool sb) ∧ w'.cell? ⟨gb, 1, none⟩ = some (.slice Ab nb cb) ∧ w'.cell? ⟨gb, 2, none⟩ = some (.bool tb) ∧ w'.cell? ⟨gb, 3, none⟩ = some (.slice Bb mb db) ∧ w'.cell? ⟨g7, 0, none⟩ = some (.bool s7) ∧ w'.cell? ⟨g7, 1, none⟩ = some (.slice A7 n7 c7) ∧ w'.cell? ⟨g7, 2, none⟩ = some (.bool t7) ∧ w'.cell? ⟨g7, 3, none⟩ = some (.slice B7 m7 d7) ∧ w'.cell? ⟨g9, 0, none⟩ = some (.bool s9) ∧ w'.cell? ⟨g9, 1, none⟩ = some (.slice A9 n9 c9) ∧ w'.cell? ⟨g9, 2, none⟩ = some (.bool t9) ∧ w'.cell? ⟨g9, 3, none⟩ = some (.slice B9 m9 d9) ∧ w'.cell? ⟨g11, 0, none⟩ = some (.bool s11) ∧ w'.cell? ⟨g11, 1, none⟩ = some (.slice A11 n11 c11) ∧ w'.cell? ⟨g11, 2, none⟩ = some (.bool t11) ∧ w'.cell? ⟨g11, 3, none⟩ = some (.slice B11 m11 d11) ∧ w'.cell? ⟨g15, 0, none⟩ = some (.bool s15) ∧ w'.cell? ⟨g15, 1, none⟩ = some (.slice A15 n15 c15) ∧ w'.cell? ⟨g16, 0, none⟩ = some (.bool s16) ∧ w'.cell? ⟨g16, 1, none⟩ = some (.slice A16 n16 c16) ∧ w'.cell? ⟨g17, 0, none⟩ = some (.bool s17) ∧ w'.cell? ⟨g17, 1, none⟩ = some (.slice A17 n17 c17)) (go_keep)
        (first
        | (go_at_call 12; (with_reducible refine (zint_Add (z15.zi.ext (by repeat (first | exact Ext.refl _ | assumption | apply Ext.drewN | apply Ext.drew | apply Ext.alloc))) (by omega) (z16.zi.ext (by repeat (first | exact Ext.refl _ | assumption | apply Ext.drewN | apply Ext.drew | apply Ext.alloc))) (by omega)).mono ?_); rintro e w41 ⟨s41, A41, n41, c41, rfl, z41, hx41⟩; have he41 : Ext v15 w41 := Ext.trans (by repeat (first | exact Ext.refl _ | assumption | apply Ext.drewN | apply Ext.drew | apply Ext.alloc)) hx41; have b41 : n41 ≤ 17179869184 := (Nat.le_trans (z41.le (ln_add (z15.ln_le b15) (z16.ln_le b16))) (by omega)); clear ka0 ka1 ka2 ka3 ka4 kb0 kb1 kb2 kb3 kb4 k70 k71 k72 k73 k74 k90 k91 k92 k93 k94 k110 k111 k112 k113 k114 k150 k151 k152 k153 k160 k161 k162 k163 k170 k171 k172 k173; obtain ⟨⟨ka0, ka1, ka2, ka3⟩, ka4⟩ := (hba.ext he41).four; obtain ⟨⟨kb0, kb1, kb2, kb3⟩, kb4⟩ := (hbb.ext he41).four; obtain ⟨⟨k70, k71, k72, k73⟩, k74⟩ := (hb7.ext he41).four; obtain ⟨⟨k90, k91, k92, k93⟩, k94⟩ := (hb9.ext he41).four; obtain ⟨⟨k110, k111, k112, k113⟩, k114⟩ := (hb11.ext he41).four; obtain ⟨k150, k151, k152, k153⟩ := (hb15.ext he41).two; obtain ⟨k160, k161, k162, k163⟩ := (hb16.ext he41).two; obtain ⟨k170, k171, k172, k173⟩ := (hb17.ext he41).two)
        | (go_at_call 18; (with_reducible refine (law_names (zn7.ext (by repeat (first | exact Ext.refl _ | assumption | apply Ext.drewN | apply Ext.drew | apply Ext.alloc))) (by omega) (zd7.ext (by repeat (first | exact Ext.refl _ | assumption | apply Ext.drewN | apply Ext.drew | apply Ext.alloc))) (by omega) z41.zi b41 (z17.zi.ext (by repeat (first | exact Ext.refl _ | assumption | apply Ext.drewN | apply Ext.drew | apply Ext.alloc))) (by omega) LW7.out).mono ?_); rintro e w42 ⟨rfl, hx42⟩; have he42 : Ext v15 w42 := Ext.trans (by repeat (first | exact Ext.refl _ | assumption | apply Ext.drewN | apply Ext.drew | apply Ext.alloc)) hx42; clear ka0 ka1 ka2 ka3 ka4 kb0 kb1 kb2 kb3 kb4 k70 k71 k72 k73 k74 k90 k91 k92 k93 k94 k110 k111 k112 k113 k114 k150 k151 k152 k153 k160 k161 k162 k163 k170 k171 k172 k173; obtain ⟨⟨ka0, ka1, ka2, ka3⟩, ka4⟩ := (hba.ext he42).four; obtain ⟨⟨kb0, kb1, kb2, kb3⟩, kb4⟩ := (hbb.ext he42).four; obtain ⟨⟨k70, k71, k72, k73⟩, k74⟩ := (hb7.ext he42).four; obtain ⟨⟨k90, k91, k92, k93⟩, k94⟩ := (hb9.ext he42).four; obtain ⟨⟨k110, k111, k112, k113⟩, k114⟩ := (hb11.ext he42).four; obtain ⟨k150, k151, k152, k153⟩ := (hb15.ext he42).two; obtain ⟨k160, k161, k162, k163⟩ := (hb16.ext he42).two; obtain ⟨k170, k171, k172, k173⟩ := (hb17.ext he42).two)
        | (go_at_call 19; (with_reducible refine (zint_Sub (z15.zi.ext (by repeat (first | exact Ext.refl _ | assumption | apply Ext.drewN | apply Ext.drew | apply Ext.alloc))) (by omega) (z16.zi.ext (by repeat (first | exact Ext.refl _ | assumption | apply Ext.drewN | apply Ext.drew | apply Ext.alloc))) (by omega)).mono ?_); rintro e w43 ⟨s43, A43, n43, c43, rfl, z43, hx43⟩; have he43 : Ext v15 w43 := Ext.trans (by repeat (first | exact Ext.refl _ | assumption | apply Ext.drewN | apply Ext.drew | apply Ext.alloc)) hx43; have b43 : n43 ≤ 17179869184 := (Nat.le_trans (z43.le (ln_sub (z15.ln_le b15) (z16.ln_le b16))) (by omega)); clear ka0 ka1 ka2 ka3 ka4 kb0 kb1 kb2 kb3 kb4 k70 k71 k72 k73 k74 k90 k91 k92 k93 k94 k110 k111 k112 k113 k114 k150 k151 k152 k153 k160 k161 k162 k163 k170 k171 k172 k173; obtain ⟨⟨ka0, ka1, ka2, ka3⟩, ka4⟩ := (hba.ext he43).four; obtain ⟨⟨kb0, kb1, kb2, kb3⟩, kb4⟩ := (hbb.ext he43).four; obtain ⟨⟨k70, k71, k72, k73⟩, k74⟩ := (hb7.ext he43).four; obtain ⟨⟨k90, k91, k92, k93⟩, k94⟩ := (hb9.ext he43).four; obtain ⟨⟨k110, k111, k112, k113⟩, k114⟩ := (hb11.ext he43).four; obtain ⟨k150, k151, k152, k153⟩ := (hb15.ext he43).two; obtain ⟨k160, k161, k162, k163⟩ := (hb16.ext he43).two; obtain ⟨k170, k171, k172, k173⟩ := (hb17.ext he43).two)
        | (go_at_call 18; (with_reducible refine (law_names (zn9.ext (by repeat (first | exact Ext.refl _ | assumption | apply Ext.drewN | apply Ext.drew | apply Ext.alloc))) (by omega) (zd9.ext (by repeat (first | exact Ext.refl _ | assumption | apply Ext.drewN | apply Ext.drew | apply Ext.alloc))) (by omega) z43.zi b43 (z17.zi.ext (by repeat (first | exact Ext.refl _ | assumption | apply Ext.drewN | apply Ext.drew | apply Ext.alloc))) (by omega) LW9'.out).mono ?_); rintro e w44 ⟨rfl, hx44⟩; have he44 : Ext v15 w44 := Ext.trans (by repeat (first | exact Ext.refl _ | assumption | apply Ext.drewN | apply Ext.drew | apply Ext.alloc)) hx44; clear ka0 ka1 ka2 ka3 ka4 kb0 kb1 kb2 kb3 kb4 k70 k71 k72 k73 k74 k90 k91 k92 k93 k94 k110 k111 k112 k113 k114 k150 k151 k152 k153 k160 k161 k162 k163 k170 k171 k172 k173; obtain ⟨⟨ka0, ka1, ka2, ka3⟩, ka4⟩ := (hba.ext he44).four; obtain ⟨⟨kb0, kb1, kb2, kb3⟩, kb4⟩ := (hbb.ext he44).four; obtain ⟨⟨k70, k71, k72, k73⟩, k74⟩ := (hb7.ext he44).four; obtain ⟨⟨k90, k91, k92, k93⟩, k94⟩ := (hb9.ext he44).four; obtain ⟨⟨k110, k111, k112, k113⟩, k114⟩ := (hb11.ext he44).four; obtain ⟨k150, k151, k152, k153⟩ := (hb15.ext he44).two; obtain ⟨k160, k161, k162, k163⟩ := (hb16.ext he44).two; obtain ⟨k170, k171, k172, k173⟩ := (hb17.ext he44).two)
        | (go_at_call 20; (with_reducible refine (zint_Mul (hx.ext (ek.trans (by repeat (first | exact Ext.refl _ | assumption | apply Ext.drewN | apply Ext.drew | apply Ext.alloc)))) (by omega) (hu.ext (ek.trans (by repeat (first | exact Ext.refl _ | assumption | apply Ext.drewN | apply Ext.drew | apply Ext.alloc)))) (by omega)).mono ?_); rintro e w45 ⟨s45, A45, n45, c45, rfl, z45, hx45⟩; have he45 : Ext v15 w45 := Ext.trans (by repeat (first | exact Ext.refl _ | assumption | apply Ext.drewN | apply Ext.drew | apply Ext.alloc)) hx45; have b45 : n45 ≤ 17179869184 := (Nat.le_trans (z45.le (ln_mul Lx.out Lu.out)) (by omega)); clear ka0 ka1 ka2 ka3 ka4 kb0 kb1 kb2 kb3 kb4 k70 k71 k72 k73 k74 k90 k91 k92 k93 k94 k110 k111 k112 k113 k114 k150 k151 k152 k153 k160 k161 k162 k163 k170 k171 k172 k173; obtain ⟨⟨ka0, ka1, ka2, ka3⟩, ka4⟩ := (hba.ext he45).four; obtain ⟨⟨kb0, kb1, kb2, kb3⟩, kb4⟩ := (hbb.ext he45).four; obtain ⟨⟨k70, k71, k72, k73⟩, k74⟩ := (hb7.ext he45).four; obtain ⟨⟨k90, k91, k92, k93⟩, k94⟩ := (hb9.ext he45).four; obtain ⟨⟨k110, k111, k112, k113⟩, k114⟩ := (hb11.ext he45).four; obtain ⟨k150, k151, k152, k153⟩ := (hb15.ext he45).two; obtain ⟨k160, k161, k162, k163⟩ := (hb16.ext he45).two; obtain ⟨k170, k171, k172, k173⟩ := (hb17.ext he45).two)
        | (go_at_call 18; (with_reducible refine (law_names (zn11.ext (by repeat (first | exact Ext.refl _ | assumption | apply Ext.drewN | apply Ext.drew | apply Ext.alloc))) (by omega) (zd11.ext (by repeat (first | exact Ext.refl _ | assumption | apply Ext.drewN | apply Ext.drew | apply Ext.alloc))) (by omega) z45.zi b45 (z17.zi.ext (by repeat (first | exact Ext.refl _ | assumption | apply Ext.drewN | apply Ext.drew | apply Ext.alloc))) (by omega) LW11.out).mono ?_); rintro e w46 ⟨rfl, hx46⟩; have he46 : Ext v15 w46 := Ext.trans (by repeat (first | exact Ext.refl _ | assumption | apply Ext.drewN | apply Ext.drew | apply Ext.alloc)) hx46; clear ka0 ka1 ka2 ka3 ka4 kb0 kb1 kb2 kb3 kb4 k70 k71 k72 k73 k74 k90 k91 k92 k93 k94 k110 k111 k112 k113 k114 k150 k151 k152 k153 k160 k161 k162 k163 k170 k171 k172 k173; obtain ⟨⟨ka0, ka1, ka2, ka3⟩, ka4⟩ := (hba.ext he46).four; obtain ⟨⟨kb0, kb1, kb2, kb3⟩, kb4⟩ := (hbb.ext he46).four; obtain ⟨⟨k70, k71, k72, k73⟩, k74⟩ := (hb7.ext he46).four; obtain ⟨⟨k90, k91, k92, k93⟩, k94⟩ := (hb9.ext he46).four; obtain ⟨⟨k110, k111, k112, k113⟩, k114⟩ := (hb11.ext he46).four; obtain ⟨k150, k151, k152, k153⟩ := (hb15.ext he46).two; obtain ⟨k160, k161, k162, k163⟩ := (hb16.ext he46).two; obtain ⟨k170, k171, k172, k173⟩ := (hb17.ext he46).two))
      have e16 : Ext v15 w46 := he46
      clear ka0 ka1 ka2 ka3 ka4 kb0 kb1 kb2 kb3 kb4 k70 k71 k72 k73 k74 k90 k91 k92 k93 k94 k110 k111 k112 k113 k114 k150 k151 k152 k153 k160 k161 k162 k163 k170 k171 k172 k173
      obtain ⟨v16, hv16⟩ : ∃ v16, v16 = w46 := ⟨_, rfl⟩
      rw [← hv16] at e16 ⊢
      clear hv16
      obtain ⟨⟨kb0, kb1, kb2, kb3⟩, kb4⟩ := (hbb.ext e16).four
      go_wp2_with fail
      refine (zint_Sign (hu.ext (hea.trans (e1.trans (e2.trans (e3.trans (e4.trans (e5.trans (e6.trans (e7.trans (e8.trans (e9.trans (e10.trans (e11.trans (e12.trans (e13.trans (e14.trans (e15.trans e16))))))))))))))))) (by omega)).mono ?_
      rintro e v17 ⟨c, hc, hcl, hch, rfl, e17⟩
      clear kb0 kb1 kb2 kb3 kb4
      have hc0 : c = 0 ↔ u = 0 := by rw [hc.out]; exact scmp_zero
      by_cases hu0 : u = 0
      · obtain rfl : c = 0 := hc0.2 hu0
        obtain rfl : er13 = 4 := (hl13.out.1 (Or.inr (Or.inl hu0))).2.2
        clear hc hc0 hu0 hl13
        go_wp2_with fail
        go_ret
        exact ⟨rfl, (hea.trans (e1.trans (e2.trans (e3.trans (e4.trans (e5.trans (e6.trans (e7.trans (e8.trans (e9.trans (e10.trans (e11.trans (e12.trans (e13.trans (e14.trans (e15.trans (e16.trans e17)))))))))))))))))⟩
      · have bc : (c == 0) = false := by simp; exact fun h => hu0 (hc0.1 h)
        have LW13 := (hl13.out.2 Ny.out hu0 Nv.out).1
        obtain rfl : er13 = 0 := (hl13.out.2 Ny.out hu0 Nv.out).2
        rw [Int.mul_comm y u] at LW13
        have HW13 := Lib.hid LW13
        have bn13 : n13 ≤ 2097153 := zn13.le (Nat.le_trans (ln_mono LW13.np) (Nat.le_trans (ln_mul Lx.out Lv.out) (by omega)))
        have bd13 : m13 ≤ 2097153 := zd13.le (Nat.le_trans (ln_mono LW13.nq) (Nat.le_trans (ln_mul Lu.out Ly.out) (by omega)))
        clear hc hc0 hu0 hl13 LW13
        obtain ⟨⟨k130, k131, k132, k133⟩, k134⟩ := (hb13.ext (e16.trans e17)).four
        obtain ⟨k150, k151, k152, k153⟩ := (hb15.ext (e16.trans e17)).two
        obtain ⟨k160, k161, k162, k163⟩ := (hb16.ext (e16.trans e17)).two
        go_wp2_with fail
        refine (law_names (zn13.ext (e16.trans e17)) (by omega) (zd13.ext (e16.trans e17)) (by omega) (z15.zi.ext (e16.trans e17)) (by omega) (z16.zi.ext (e16.trans e17)) (by omega) HW13.out).mono ?_
        rintro e v18 ⟨rfl, e18⟩
        clear k130 k131 k132 k133 k134 k150 k151 k152 k153 k160 k161 k162 k163
        go_wp2_with fail
        go_ret
        exact ⟨rfl, (hea.trans (e1.trans (e2.trans (e3.trans (e4.trans (e5.trans (e6.trans (e7.trans (e8.trans (e9.trans (e10.trans (e11.trans (e12.trans (e13.trans (e14.trans (e15.trans (e16.trans (e17.trans e18))))))))))))))))))⟩
end Go.Proofs.Ythbogoecoebefaa
