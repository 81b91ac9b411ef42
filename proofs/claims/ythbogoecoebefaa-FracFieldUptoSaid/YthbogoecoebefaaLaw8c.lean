/- trellislaw08: FracField -/
import Derived.Test.YthbogoecoebefaaLaw8b
namespace Go.Proofs.Ythbogoecoebefaa
open Go.RowKit

/-- two ways to write one fraction -/
structure Rp (p q X Y : Int) : Prop where
  eq : p * Y = X * q
  q0 : q ≠ 0
  Y0 : Y ≠ 0
theorem Low.rp {p q x y : Int} (h : Low p q x y) (hy : y ≠ 0) : Rp p q x y := ⟨h.eq, by have := h.pos; omega, hy⟩
theorem Rp.self {x y : Int} (hy : y ≠ 0) : Rp x y x y := ⟨rfl, hy, hy⟩
theorem Rp.trans {p q a b X Y : Int} (h : Rp p q a b) (k : Rp a b X Y) : Rp p q X Y := by
  refine ⟨?_, h.q0, k.Y0⟩
  have h1 := h.eq
  have h2 := k.eq
  refine Int.eq_of_mul_eq_mul_right k.q0 ?_
  calc p * Y * b = (p * b) * Y := by grind
    _ = (a * q) * Y := by rw [h1]
    _ = (a * Y) * q := by grind
    _ = (X * b) * q := by rw [h2]
    _ = X * q * b := by grind
theorem Rp.mul {p q X Y p' q' X' Y' : Int} (h : Rp p q X Y) (k : Rp p' q' X' Y') : Rp (p * p') (q * q') (X * X') (Y * Y') := by
  have h1 := h.eq
  have h2 := k.eq
  refine ⟨?_, Int.mul_ne_zero h.q0 k.q0, Int.mul_ne_zero h.Y0 k.Y0⟩
  calc p * p' * (Y * Y') = (p * Y) * (p' * Y') := by grind
    _ = (X * q) * (X' * q') := by rw [h1, h2]
    _ = X * X' * (q * q') := by grind
theorem Rp.add {p q X Y p' q' X' Y' : Int} (h : Rp p q X Y) (k : Rp p' q' X' Y') : Rp (p * q' + p' * q) (q * q') (X * Y' + X' * Y) (Y * Y') := by
  have h1 := h.eq
  have h2 := k.eq
  refine ⟨?_, Int.mul_ne_zero h.q0 k.q0, Int.mul_ne_zero h.Y0 k.Y0⟩
  calc (p * q' + p' * q) * (Y * Y') = (p * Y) * (q' * Y') + (p' * Y') * (q * Y) := by grind
    _ = (X * q) * (q' * Y') + (X' * q') * (q * Y) := by rw [h1, h2]
    _ = (X * Y' + X' * Y) * (q * q') := by grind
theorem Rp.sub {p q X Y p' q' X' Y' : Int} (h : Rp p q X Y) (k : Rp p' q' X' Y') : Rp (p * q' + -p' * q) (q * q') (X * Y' + -X' * Y) (Y * Y') := by
  have h1 := h.eq
  have h2 := k.eq
  refine ⟨?_, Int.mul_ne_zero h.q0 k.q0, Int.mul_ne_zero h.Y0 k.Y0⟩
  calc (p * q' + -p' * q) * (Y * Y') = (p * Y) * (q' * Y') - (p' * Y') * (q * Y) := by grind
    _ = (X * q) * (q' * Y') - (X' * q') * (q * Y) := by rw [h1, h2]
    _ = (X * Y' + -X' * Y) * (q * q') := by grind
theorem Rp.div {p q X Y p' q' X' Y' : Int} (h : Rp p q X Y) (k : Rp p' q' X' Y') (hp : p' ≠ 0) (hX : X' ≠ 0) : Rp (p * q') (q * p') (X * Y') (Y * X') := by
  have h1 := h.eq
  have h2 := k.eq
  refine ⟨?_, Int.mul_ne_zero h.q0 hp, Int.mul_ne_zero h.Y0 hX⟩
  calc p * q' * (Y * X') = (p * Y) * (X' * q') := by grind
    _ = (X * q) * (p' * Y') := by rw [h1, h2]
    _ = X * Y' * (q * p') := by grind
theorem Rp.same {p q X Y p' q' X' Y' x y x' y' : Int} (h : Rp p q X Y) (k : Rp p' q' X' Y') (e : X * Y' = X' * Y) (l : Low p q x y) (l' : Low p' q' x' y') : p = p' ∧ q = q' := by
  refine lows_eq l.co l'.co l.pos l'.pos ?_
  have h1 := h.eq
  have h2 := k.eq
  refine Int.eq_of_mul_eq_mul_right (Int.mul_ne_zero h.Y0 k.Y0) ?_
  calc p * q' * (Y * Y') = (p * Y) * (q' * Y') := by grind
    _ = (X * q) * (q' * Y') := by rw [h1]
    _ = (X * Y') * (q * q') := by grind
    _ = (X' * Y) * (q * q') := by rw [e]
    _ = (X' * q') * (q * Y) := by grind
    _ = (p' * Y') * (q * Y) := by rw [h2]
    _ = p' * q * (Y * Y') := by grind

set_option maxRecDepth 20000 in
set_option maxHeartbeats 16000000 in
theorem law_FracField {w : World} {sa ta : Bool} {Aa Ba : Option Addr} {na ca ma da : Nat} {x y : Int} {sb tb : Bool} {Ab Bb : Option Addr} {nb cb mb db : Nat} {u v : Int} {sc tc : Bool} {Ac Bc : Option Addr} {nc cc mc dc : Nat} {r t : Int} (hx : Zi w sa Aa na ca x) (lx : na ≤ 1048576) (hy : Zi w ta Ba ma da y) (ly : ma ≤ 1048576) (hu : Zi w sb Ab nb cb u) (lu : nb ≤ 1048576) (hv : Zi w tb Bb mb db v) (lv : mb ≤ 1048576) (hr : Zi w sc Ac nc cc r) (lr : nc ≤ 1048576) (ht : Zi w tc Bc mc dc t) (lt : mc ≤ 1048576) :
    Calls Try.prog 5 #[.agg #[.bool sa, .slice Aa na ca, .bool ta, .slice Ba ma da], .agg #[.bool sb, .slice Ab nb cb, .bool tb, .slice Bb mb db], .agg #[.bool sc, .slice Ac nc cc, .bool tc, .slice Bc mc dc]] w (BoolP true w) := by
  have Lx : Hid (ln x ≤ 1048576) := Nat.le_trans hx.ln lx
  have Ly : Hid (ln y ≤ 1048576) := Nat.le_trans hy.ln ly
  have Lu : Hid (ln u ≤ 1048576) := Nat.le_trans hu.ln lu
  have Lv : Hid (ln v ≤ 1048576) := Nat.le_trans hv.ln lv
  have Lr : Hid (ln r ≤ 1048576) := Nat.le_trans hr.ln lr
  have Lt : Hid (ln t ≤ 1048576) := Nat.le_trans ht.ln lt
  go_enter Try.func5, Try.ntmps5
  go_upto_region 1 with (fail)
  obtain ⟨g, g2, g3, v0, hg3, hg2, hg, hv0, hba, hbb, hbc, hea, l12, l23, l3, n12, n21, n13, n31, n23, n32⟩ := boxesL3 w 39 39 39 [.bool sa, .slice Aa na ca, .bool ta, .slice Ba ma da] [.bool sb, .slice Ab nb cb, .bool tb, .slice Bb mb db] [.bool sc, .slice Ac nc cc, .bool tc, .slice Bc mc dc]
  rw [hg3, hg2, hg, hv0]
  clear hv0 hg hg2 hg3
  go_wp2_with fail
  refine (law_awake v0).mono ?_
  rintro e v1 ⟨rfl, e1⟩
  obtain ⟨⟨ka0, ka1, ka2, ka3⟩, ka4⟩ := (hba.ext e1).four
  go_wp2_with fail
  refine (law_is (hy.ext (hea.trans e1)) (by omega) rfl).mono ?_
  rintro e v2 ⟨rfl, e2⟩
  clear ka0 ka1 ka2 ka3 ka4
  by_cases hy0 : y = 0
  case' pos =>
    rw [decide_eq_false (show ¬ y ≠ 0 from fun h => h hy0)]
    have hz : y = 0 ∨ v = 0 ∨ t = 0 := by simp [hy0]
    go_upto_region 4 with (fail)
    have ebad : Ext v1 v2 := e2
    obtain ⟨vb, rfl⟩ : ∃ vb, vb = v2 := ⟨_, rfl⟩
  case' neg =>
    rw [decide_eq_true (show y ≠ 0 from hy0)]
    obtain ⟨⟨kb0, kb1, kb2, kb3⟩, kb4⟩ := (hbb.ext (e1.trans e2)).four
    go_wp2_with fail
    refine (law_is (hv.ext (hea.trans (e1.trans e2))) (by omega) rfl).mono ?_
    rintro e v3 ⟨rfl, e3⟩
    clear kb0 kb1 kb2 kb3 kb4
    by_cases hv0 : v = 0
    case' pos =>
      rw [decide_eq_false (show ¬ v ≠ 0 from fun h => h hv0)]
      have hz : y = 0 ∨ v = 0 ∨ t = 0 := by simp [hv0]
      go_upto_region 4 with (fail)
      have ebad : Ext v1 v3 := (e2.trans e3)
      obtain ⟨vb, rfl⟩ : ∃ vb, vb = v3 := ⟨_, rfl⟩
    case' neg =>
      rw [decide_eq_true (show v ≠ 0 from hv0)]
      obtain ⟨⟨kc0, kc1, kc2, kc3⟩, kc4⟩ := (hbc.ext (e1.trans (e2.trans e3))).four
      go_wp2_with fail
      refine (law_is (ht.ext (hea.trans (e1.trans (e2.trans e3)))) (by omega) rfl).mono ?_
      rintro e v4 ⟨rfl, e4⟩
      clear kc0 kc1 kc2 kc3 kc4
      by_cases ht0 : t = 0
      case' pos =>
        rw [decide_eq_false (show ¬ t ≠ 0 from fun h => h ht0)]
        have hz : y = 0 ∨ v = 0 ∨ t = 0 := by simp [ht0]
        go_upto_region 4 with (fail)
        have ebad : Ext v1 v4 := (e2.trans (e3.trans e4))
        obtain ⟨vb, rfl⟩ : ∃ vb, vb = v4 := ⟨_, rfl⟩
      case' neg =>
        rw [decide_eq_true (show t ≠ 0 from ht0)]
        have NEy := Lib.hid hy0
        have NEv := Lib.hid hv0
        have NEt := Lib.hid ht0
        clear hy0 hv0 ht0
        obtain ⟨⟨ka0, ka1, ka2, ka3⟩, ka4⟩ := (hba.ext (e1.trans (e2.trans (e3.trans e4)))).four
        obtain ⟨⟨kb0, kb1, kb2, kb3⟩, kb4⟩ := (hbb.ext (e1.trans (e2.trans (e3.trans e4)))).four
        go_wp2_with fail
        refine (frac_Mul (hx.ext (hea.trans (e1.trans (e2.trans (e3.trans e4))))) (by omega) (hy.ext (hea.trans (e1.trans (e2.trans (e3.trans e4))))) (by omega) (hu.ext (hea.trans (e1.trans (e2.trans (e3.trans e4))))) (by omega) (hv.ext (hea.trans (e1.trans (e2.trans (e3.trans e4))))) (by omega)).mono ?_
        rintro e w5 ⟨p9, q9, er9, ⟨s9, A9, n9, c9, t9, B9, m9, d9, rfl, zn9, zd9, hx5⟩, hl9⟩
        have LW9 := Lib.hid (hl9.out.2 (Int.mul_ne_zero NEy.out NEv.out)).1
        obtain rfl : er9 = 0 := (hl9.out.2 (Int.mul_ne_zero NEy.out NEv.out)).2
        have RP9 := Lib.hid ((LW9.out.rp (Int.mul_ne_zero NEy.out NEv.out)).trans ((Rp.self NEy.out).mul (Rp.self NEv.out)))
        have Lp9 : Hid (ln p9 ≤ 2097152) := Nat.le_trans (ln_mono LW9.out.np) (Nat.le_trans (ln_mul Lx.out Lu.out) (by omega))
        have Lq9 : Hid (ln q9 ≤ 2097152) := Nat.le_trans (ln_mono LW9.out.nq) (Nat.le_trans (ln_mul Ly.out Lv.out) (by omega))
        have NEq9 : Hid (q9 ≠ 0) := RP9.out.q0
        have bn9 : n9 ≤ 2097152 := zn9.le Lp9.out
        have bd9 : m9 ≤ 2097152 := zd9.le Lq9.out
        clear hl9
        clear ka0 ka1 ka2 ka3 ka4 kb0 kb1 kb2 kb3 kb4
        go_upto_region 7 with (fail)
        obtain ⟨g9, v5, hgg, hvv, hb9, heb, lg⟩ := boxesL1 w5 39 [.bool s9, .slice A9 n9 c9, .bool t9, .slice B9 m9 d9]
        rw [hgg, hvv]
        clear hvv hgg lg
        have e5 := hx5.trans heb
        have zn9 := zn9.ext heb
        have zd9 := zd9.ext heb
        clear hx5 heb
        obtain ⟨⟨kb0, kb1, kb2, kb3⟩, kb4⟩ := (hbb.ext (e1.trans (e2.trans (e3.trans (e4.trans e5))))).four
        obtain ⟨⟨ka0, ka1, ka2, ka3⟩, ka4⟩ := (hba.ext (e1.trans (e2.trans (e3.trans (e4.trans e5))))).four
        go_wp2_with fail
        refine (frac_Mul (hu.ext (hea.trans (e1.trans (e2.trans (e3.trans (e4.trans e5)))))) (by omega) (hv.ext (hea.trans (e1.trans (e2.trans (e3.trans (e4.trans e5)))))) (by omega) (hx.ext (hea.trans (e1.trans (e2.trans (e3.trans (e4.trans e5)))))) (by omega) (hy.ext (hea.trans (e1.trans (e2.trans (e3.trans (e4.trans e5)))))) (by omega)).mono ?_
        rintro e w6 ⟨p11, q11, er11, ⟨s11, A11, n11, c11, t11, B11, m11, d11, rfl, zn11, zd11, hx6⟩, hl11⟩
        have LW11 := Lib.hid (hl11.out.2 (Int.mul_ne_zero NEv.out NEy.out)).1
        obtain rfl : er11 = 0 := (hl11.out.2 (Int.mul_ne_zero NEv.out NEy.out)).2
        have RP11 := Lib.hid ((LW11.out.rp (Int.mul_ne_zero NEv.out NEy.out)).trans ((Rp.self NEv.out).mul (Rp.self NEy.out)))
        have Lp11 : Hid (ln p11 ≤ 2097152) := Nat.le_trans (ln_mono LW11.out.np) (Nat.le_trans (ln_mul Lu.out Lx.out) (by omega))
        have Lq11 : Hid (ln q11 ≤ 2097152) := Nat.le_trans (ln_mono LW11.out.nq) (Nat.le_trans (ln_mul Lv.out Ly.out) (by omega))
        have NEq11 : Hid (q11 ≠ 0) := RP11.out.q0
        have bn11 : n11 ≤ 2097152 := zn11.le Lp11.out
        have bd11 : m11 ≤ 2097152 := zd11.le Lq11.out
        clear hl11
        clear kb0 kb1 kb2 kb3 kb4 ka0 ka1 ka2 ka3 ka4
        go_upto_region 8 with (fail)
        obtain ⟨g11, v6, hgg, hvv, hb11, heb, lg⟩ := boxesL1 w6 39 [.bool s11, .slice A11 n11 c11, .bool t11, .slice B11 m11 d11]
        rw [hgg, hvv]
        clear hvv hgg lg
        have e6 := hx6.trans heb
        have zn11 := zn11.ext heb
        have zd11 := zd11.ext heb
        clear hx6 heb
        obtain ⟨⟨ka0, ka1, ka2, ka3⟩, ka4⟩ := (hba.ext (e1.trans (e2.trans (e3.trans (e4.trans (e5.trans e6)))))).four
        obtain ⟨⟨kc0, kc1, kc2, kc3⟩, kc4⟩ := (hbc.ext (e1.trans (e2.trans (e3.trans (e4.trans (e5.trans e6)))))).four
        go_wp2_with fail
        refine (frac_Mul (hx.ext (hea.trans (e1.trans (e2.trans (e3.trans (e4.trans (e5.trans e6))))))) (by omega) (hy.ext (hea.trans (e1.trans (e2.trans (e3.trans (e4.trans (e5.trans e6))))))) (by omega) (hr.ext (hea.trans (e1.trans (e2.trans (e3.trans (e4.trans (e5.trans e6))))))) (by omega) (ht.ext (hea.trans (e1.trans (e2.trans (e3.trans (e4.trans (e5.trans e6))))))) (by omega)).mono ?_
        rintro e w7 ⟨p13, q13, er13, ⟨s13, A13, n13, c13, t13, B13, m13, d13, rfl, zn13, zd13, hx7⟩, hl13⟩
        have LW13 := Lib.hid (hl13.out.2 (Int.mul_ne_zero NEy.out NEt.out)).1
        obtain rfl : er13 = 0 := (hl13.out.2 (Int.mul_ne_zero NEy.out NEt.out)).2
        have RP13 := Lib.hid ((LW13.out.rp (Int.mul_ne_zero NEy.out NEt.out)).trans ((Rp.self NEy.out).mul (Rp.self NEt.out)))
        have Lp13 : Hid (ln p13 ≤ 2097152) := Nat.le_trans (ln_mono LW13.out.np) (Nat.le_trans (ln_mul Lx.out Lr.out) (by omega))
        have Lq13 : Hid (ln q13 ≤ 2097152) := Nat.le_trans (ln_mono LW13.out.nq) (Nat.le_trans (ln_mul Ly.out Lt.out) (by omega))
        have NEq13 : Hid (q13 ≠ 0) := RP13.out.q0
        have bn13 : n13 ≤ 2097152 := zn13.le Lp13.out
        have bd13 : m13 ≤ 2097152 := zd13.le Lq13.out
        clear hl13
        clear ka0 ka1 ka2 ka3 ka4 kc0 kc1 kc2 kc3 kc4
        go_upto_region 9 with (fail)
        obtain ⟨g13, v7, hgg, hvv, hb13, heb, lg⟩ := boxesL1 w7 39 [.bool s13, .slice A13 n13 c13, .bool t13, .slice B13 m13 d13]
        rw [hgg, hvv]
        clear hvv hgg lg
        have e7 := hx7.trans heb
        have zn13 := zn13.ext heb
        have zd13 := zd13.ext heb
        clear hx7 heb
        obtain ⟨⟨kb0, kb1, kb2, kb3⟩, kb4⟩ := (hbb.ext (e1.trans (e2.trans (e3.trans (e4.trans (e5.trans (e6.trans e7))))))).four
        obtain ⟨⟨kc0, kc1, kc2, kc3⟩, kc4⟩ := (hbc.ext (e1.trans (e2.trans (e3.trans (e4.trans (e5.trans (e6.trans e7))))))).four
        go_wp2_with fail
        refine (frac_Add (hu.ext (hea.trans (e1.trans (e2.trans (e3.trans (e4.trans (e5.trans (e6.trans e7)))))))) (by omega) (hv.ext (hea.trans (e1.trans (e2.trans (e3.trans (e4.trans (e5.trans (e6.trans e7)))))))) (by omega) (hr.ext (hea.trans (e1.trans (e2.trans (e3.trans (e4.trans (e5.trans (e6.trans e7)))))))) (by omega) (ht.ext (hea.trans (e1.trans (e2.trans (e3.trans (e4.trans (e5.trans (e6.trans e7)))))))) (by omega)).mono ?_
        rintro e w8 ⟨p15, q15, er15, ⟨s15, A15, n15, c15, t15, B15, m15, d15, rfl, zn15, zd15, hx8⟩, hl15⟩
        have LW15 := Lib.hid (hl15.out.2 (Int.mul_ne_zero NEv.out NEt.out)).1
        obtain rfl : er15 = 0 := (hl15.out.2 (Int.mul_ne_zero NEv.out NEt.out)).2
        have RP15 := Lib.hid ((LW15.out.rp (Int.mul_ne_zero NEv.out NEt.out)).trans ((Rp.self NEv.out).add (Rp.self NEt.out)))
        have Lp15 : Hid (ln p15 ≤ 2097153) := Nat.le_trans (ln_mono LW15.out.np) (Nat.le_trans (ln_add (ln_mul Lu.out Lt.out) (ln_mul Lr.out Lv.out)) (by omega))
        have Lq15 : Hid (ln q15 ≤ 2097152) := Nat.le_trans (ln_mono LW15.out.nq) (Nat.le_trans (ln_mul Lv.out Lt.out) (by omega))
        have NEq15 : Hid (q15 ≠ 0) := RP15.out.q0
        have bn15 : n15 ≤ 2097153 := zn15.le Lp15.out
        have bd15 : m15 ≤ 2097152 := zd15.le Lq15.out
        clear hl15
        clear kb0 kb1 kb2 kb3 kb4 kc0 kc1 kc2 kc3 kc4
        go_upto_region 10 with (fail)
        obtain ⟨g15, v8, hgg, hvv, hb15, heb, lg⟩ := boxesL1 w8 39 [.bool s15, .slice A15 n15 c15, .bool t15, .slice B15 m15 d15]
        rw [hgg, hvv]
        clear hvv hgg lg
        have e8 := hx8.trans heb
        have zn15 := zn15.ext heb
        have zd15 := zd15.ext heb
        clear hx8 heb
        obtain ⟨⟨kc0, kc1, kc2, kc3⟩, kc4⟩ := (hbc.ext (e1.trans (e2.trans (e3.trans (e4.trans (e5.trans (e6.trans (e7.trans e8)))))))).four
        obtain ⟨⟨kb0, kb1, kb2, kb3⟩, kb4⟩ := (hbb.ext (e1.trans (e2.trans (e3.trans (e4.trans (e5.trans (e6.trans (e7.trans e8)))))))).four
        go_wp2_with fail
        refine (frac_Add (hr.ext (hea.trans (e1.trans (e2.trans (e3.trans (e4.trans (e5.trans (e6.trans (e7.trans e8))))))))) (by omega) (ht.ext (hea.trans (e1.trans (e2.trans (e3.trans (e4.trans (e5.trans (e6.trans (e7.trans e8))))))))) (by omega) (hu.ext (hea.trans (e1.trans (e2.trans (e3.trans (e4.trans (e5.trans (e6.trans (e7.trans e8))))))))) (by omega) (hv.ext (hea.trans (e1.trans (e2.trans (e3.trans (e4.trans (e5.trans (e6.trans (e7.trans e8))))))))) (by omega)).mono ?_
        rintro e w9 ⟨p17, q17, er17, ⟨s17, A17, n17, c17, t17, B17, m17, d17, rfl, zn17, zd17, hx9⟩, hl17⟩
        have LW17 := Lib.hid (hl17.out.2 (Int.mul_ne_zero NEt.out NEv.out)).1
        obtain rfl : er17 = 0 := (hl17.out.2 (Int.mul_ne_zero NEt.out NEv.out)).2
        have RP17 := Lib.hid ((LW17.out.rp (Int.mul_ne_zero NEt.out NEv.out)).trans ((Rp.self NEt.out).add (Rp.self NEv.out)))
        have Lp17 : Hid (ln p17 ≤ 2097153) := Nat.le_trans (ln_mono LW17.out.np) (Nat.le_trans (ln_add (ln_mul Lr.out Lv.out) (ln_mul Lu.out Lt.out)) (by omega))
        have Lq17 : Hid (ln q17 ≤ 2097152) := Nat.le_trans (ln_mono LW17.out.nq) (Nat.le_trans (ln_mul Lt.out Lv.out) (by omega))
        have NEq17 : Hid (q17 ≠ 0) := RP17.out.q0
        have bn17 : n17 ≤ 2097153 := zn17.le Lp17.out
        have bd17 : m17 ≤ 2097152 := zd17.le Lq17.out
        clear hl17
        clear kc0 kc1 kc2 kc3 kc4 kb0 kb1 kb2 kb3 kb4
        go_upto_region 11 with (fail)
        obtain ⟨g17, v9, hgg, hvv, hb17, heb, lg⟩ := boxesL1 w9 39 [.bool s17, .slice A17 n17 c17, .bool t17, .slice B17 m17 d17]
        rw [hgg, hvv]
        clear hvv hgg lg
        have e9 := hx9.trans heb
        have zn17 := zn17.ext heb
        have zd17 := zd17.ext heb
        clear hx9 heb
        obtain ⟨⟨ka0, ka1, ka2, ka3⟩, ka4⟩ := (hba.ext (e1.trans (e2.trans (e3.trans (e4.trans (e5.trans (e6.trans (e7.trans (e8.trans e9))))))))).four
        obtain ⟨⟨k150, k151, k152, k153⟩, k154⟩ := (hb15.ext e9).four
        go_wp2_with fail
        refine (frac_Mul (hx.ext (hea.trans (e1.trans (e2.trans (e3.trans (e4.trans (e5.trans (e6.trans (e7.trans (e8.trans e9)))))))))) (by omega) (hy.ext (hea.trans (e1.trans (e2.trans (e3.trans (e4.trans (e5.trans (e6.trans (e7.trans (e8.trans e9)))))))))) (by omega) (zn15.zi.ext e9) (by omega) (zd15.zi.ext e9) (by omega)).mono ?_
        rintro e w10 ⟨p19, q19, er19, ⟨s19, A19, n19, c19, t19, B19, m19, d19, rfl, zn19, zd19, hx10⟩, hl19⟩
        have LW19 := Lib.hid (hl19.out.2 (Int.mul_ne_zero NEy.out NEq15.out)).1
        obtain rfl : er19 = 0 := (hl19.out.2 (Int.mul_ne_zero NEy.out NEq15.out)).2
        have RP19 := Lib.hid ((LW19.out.rp (Int.mul_ne_zero NEy.out NEq15.out)).trans ((Rp.self NEy.out).mul RP15.out))
        have Lp19 : Hid (ln p19 ≤ 3145729) := Nat.le_trans (ln_mono LW19.out.np) (Nat.le_trans (ln_mul Lx.out Lp15.out) (by omega))
        have Lq19 : Hid (ln q19 ≤ 3145728) := Nat.le_trans (ln_mono LW19.out.nq) (Nat.le_trans (ln_mul Ly.out Lq15.out) (by omega))
        have NEq19 : Hid (q19 ≠ 0) := RP19.out.q0
        have bn19 : n19 ≤ 3145729 := zn19.le Lp19.out
        have bd19 : m19 ≤ 3145728 := zd19.le Lq19.out
        clear hl19
        clear ka0 ka1 ka2 ka3 ka4 k150 k151 k152 k153 k154
        go_upto_region 12 with (fail)
        obtain ⟨g19, v10, hgg, hvv, hb19, heb, lg⟩ := boxesL1 w10 39 [.bool s19, .slice A19 n19 c19, .bool t19, .slice B19 m19 d19]
        rw [hgg, hvv]
        clear hvv hgg lg
        have e10 := hx10.trans heb
        have zn19 := zn19.ext heb
        have zd19 := zd19.ext heb
        clear hx10 heb
        obtain ⟨⟨k90, k91, k92, k93⟩, k94⟩ := (hb9.ext (e6.trans (e7.trans (e8.trans (e9.trans e10))))).four
        obtain ⟨⟨k130, k131, k132, k133⟩, k134⟩ := (hb13.ext (e8.trans (e9.trans e10))).four
        go_wp2_with fail
        refine (frac_Add (zn9.zi.ext (e6.trans (e7.trans (e8.trans (e9.trans e10))))) (by omega) (zd9.zi.ext (e6.trans (e7.trans (e8.trans (e9.trans e10))))) (by omega) (zn13.zi.ext (e8.trans (e9.trans e10))) (by omega) (zd13.zi.ext (e8.trans (e9.trans e10))) (by omega)).mono ?_
        rintro e w11 ⟨p21, q21, er21, ⟨s21, A21, n21, c21, t21, B21, m21, d21, rfl, zn21, zd21, hx11⟩, hl21⟩
        have LW21 := Lib.hid (hl21.out.2 (Int.mul_ne_zero NEq9.out NEq13.out)).1
        obtain rfl : er21 = 0 := (hl21.out.2 (Int.mul_ne_zero NEq9.out NEq13.out)).2
        have RP21 := Lib.hid ((LW21.out.rp (Int.mul_ne_zero NEq9.out NEq13.out)).trans (RP9.out.add RP13.out))
        have Lp21 : Hid (ln p21 ≤ 4194305) := Nat.le_trans (ln_mono LW21.out.np) (Nat.le_trans (ln_add (ln_mul Lp9.out Lq13.out) (ln_mul Lp13.out Lq9.out)) (by omega))
        have Lq21 : Hid (ln q21 ≤ 4194304) := Nat.le_trans (ln_mono LW21.out.nq) (Nat.le_trans (ln_mul Lq9.out Lq13.out) (by omega))
        have NEq21 : Hid (q21 ≠ 0) := RP21.out.q0
        have bn21 : n21 ≤ 4194305 := zn21.le Lp21.out
        have bd21 : m21 ≤ 4194304 := zd21.le Lq21.out
        clear hl21
        clear k90 k91 k92 k93 k94 k130 k131 k132 k133 k134
        go_upto_region 13 with (fail)
        obtain ⟨g21, v11, hgg, hvv, hb21, heb, lg⟩ := boxesL1 w11 39 [.bool s21, .slice A21 n21 c21, .bool t21, .slice B21 m21 d21]
        rw [hgg, hvv]
        clear hvv hgg lg
        have e11 := hx11.trans heb
        have zn21 := zn21.ext heb
        have zd21 := zd21.ext heb
        clear hx11 heb
        obtain ⟨⟨k90, k91, k92, k93⟩, k94⟩ := (hb9.ext (e6.trans (e7.trans (e8.trans (e9.trans (e10.trans e11)))))).four
        obtain ⟨⟨k110, k111, k112, k113⟩, k114⟩ := (hb11.ext (e7.trans (e8.trans (e9.trans (e10.trans e11))))).four
        obtain ⟨hp, hq⟩ := Rp.same RP9.out RP11.out (by grind) LW9.out LW11.out
        have HP := Lib.hid hp
        have HQ := Lib.hid hq
        clear hp hq
        go_wp2_with fail
        refine (law_like (zn9.ext (e6.trans (e7.trans (e8.trans (e9.trans (e10.trans e11)))))) (by omega) (zd9.ext (e6.trans (e7.trans (e8.trans (e9.trans (e10.trans e11)))))) (by omega) (zn11.ext (e7.trans (e8.trans (e9.trans (e10.trans e11))))) (by omega) (zd11.ext (e7.trans (e8.trans (e9.trans (e10.trans e11))))) (by omega) HP.out HQ.out).mono ?_
        rintro e v12 ⟨rfl, e12⟩
        clear HP HQ
        clear k90 k91 k92 k93 k94 k110 k111 k112 k113 k114
        obtain ⟨⟨k150, k151, k152, k153⟩, k154⟩ := (hb15.ext (e9.trans (e10.trans (e11.trans e12)))).four
        obtain ⟨⟨k170, k171, k172, k173⟩, k174⟩ := (hb17.ext (e10.trans (e11.trans e12))).four
        obtain ⟨hp, hq⟩ := Rp.same RP15.out RP17.out (by grind) LW15.out LW17.out
        have HP := Lib.hid hp
        have HQ := Lib.hid hq
        clear hp hq
        go_wp2_with fail
        refine (law_like (zn15.ext (e9.trans (e10.trans (e11.trans e12)))) (by omega) (zd15.ext (e9.trans (e10.trans (e11.trans e12)))) (by omega) (zn17.ext (e10.trans (e11.trans e12))) (by omega) (zd17.ext (e10.trans (e11.trans e12))) (by omega) HP.out HQ.out).mono ?_
        rintro e v13 ⟨rfl, e13⟩
        clear HP HQ
        clear k150 k151 k152 k153 k154 k170 k171 k172 k173 k174
        obtain ⟨⟨k190, k191, k192, k193⟩, k194⟩ := (hb19.ext (e11.trans (e12.trans e13))).four
        obtain ⟨⟨k210, k211, k212, k213⟩, k214⟩ := (hb21.ext (e12.trans e13)).four
        obtain ⟨hp, hq⟩ := Rp.same RP19.out RP21.out (by grind) LW19.out LW21.out
        have HP := Lib.hid hp
        have HQ := Lib.hid hq
        clear hp hq
        go_wp2_with fail
        refine (law_like (zn19.ext (e11.trans (e12.trans e13))) (by omega) (zd19.ext (e11.trans (e12.trans e13))) (by omega) (zn21.ext (e12.trans e13)) (by omega) (zd21.ext (e12.trans e13)) (by omega) HP.out HQ.out).mono ?_
        rintro e v14 ⟨rfl, e14⟩
        clear HP HQ
        clear k190 k191 k192 k193 k194 k210 k211 k212 k213 k214
        obtain ⟨⟨k90, k91, k92, k93⟩, k94⟩ := (hb9.ext (e6.trans (e7.trans (e8.trans (e9.trans (e10.trans (e11.trans (e12.trans (e13.trans e14))))))))).four
        obtain ⟨⟨kc0, kc1, kc2, kc3⟩, kc4⟩ := (hbc.ext (e1.trans (e2.trans (e3.trans (e4.trans (e5.trans (e6.trans (e7.trans (e8.trans (e9.trans (e10.trans (e11.trans (e12.trans (e13.trans e14)))))))))))))).four
        go_wp2_with fail
        refine (frac_Mul (zn9.zi.ext (e6.trans (e7.trans (e8.trans (e9.trans (e10.trans (e11.trans (e12.trans (e13.trans e14))))))))) (by omega) (zd9.zi.ext (e6.trans (e7.trans (e8.trans (e9.trans (e10.trans (e11.trans (e12.trans (e13.trans e14))))))))) (by omega) (hr.ext (hea.trans (e1.trans (e2.trans (e3.trans (e4.trans (e5.trans (e6.trans (e7.trans (e8.trans (e9.trans (e10.trans (e11.trans (e12.trans (e13.trans e14))))))))))))))) (by omega) (ht.ext (hea.trans (e1.trans (e2.trans (e3.trans (e4.trans (e5.trans (e6.trans (e7.trans (e8.trans (e9.trans (e10.trans (e11.trans (e12.trans (e13.trans e14))))))))))))))) (by omega)).mono ?_
        rintro e w15 ⟨p23, q23, er23, ⟨s23, A23, n23, c23, t23, B23, m23, d23, rfl, zn23, zd23, hx15⟩, hl23⟩
        have LW23 := Lib.hid (hl23.out.2 (Int.mul_ne_zero NEq9.out NEt.out)).1
        obtain rfl : er23 = 0 := (hl23.out.2 (Int.mul_ne_zero NEq9.out NEt.out)).2
        have RP23 := Lib.hid ((LW23.out.rp (Int.mul_ne_zero NEq9.out NEt.out)).trans (RP9.out.mul (Rp.self NEt.out)))
        have Lp23 : Hid (ln p23 ≤ 3145728) := Nat.le_trans (ln_mono LW23.out.np) (Nat.le_trans (ln_mul Lp9.out Lr.out) (by omega))
        have Lq23 : Hid (ln q23 ≤ 3145728) := Nat.le_trans (ln_mono LW23.out.nq) (Nat.le_trans (ln_mul Lq9.out Lt.out) (by omega))
        have NEq23 : Hid (q23 ≠ 0) := RP23.out.q0
        have bn23 : n23 ≤ 3145728 := zn23.le Lp23.out
        have bd23 : m23 ≤ 3145728 := zd23.le Lq23.out
        clear hl23
        clear k90 k91 k92 k93 k94 kc0 kc1 kc2 kc3 kc4
        go_upto_region 16 with (fail)
        obtain ⟨g23, v15, hgg, hvv, hb23, heb, lg⟩ := boxesL1 w15 39 [.bool s23, .slice A23 n23 c23, .bool t23, .slice B23 m23 d23]
        rw [hgg, hvv]
        clear hvv hgg lg
        have e15 := hx15.trans heb
        have zn23 := zn23.ext heb
        have zd23 := zd23.ext heb
        clear hx15 heb
        obtain ⟨⟨kb0, kb1, kb2, kb3⟩, kb4⟩ := (hbb.ext (e1.trans (e2.trans (e3.trans (e4.trans (e5.trans (e6.trans (e7.trans (e8.trans (e9.trans (e10.trans (e11.trans (e12.trans (e13.trans (e14.trans e15))))))))))))))).four
        obtain ⟨⟨k130, k131, k132, k133⟩, k134⟩ := (hb13.ext (e8.trans (e9.trans (e10.trans (e11.trans (e12.trans (e13.trans (e14.trans e15)))))))).four
        go_wp2_with fail
        refine (frac_Mul (hu.ext (hea.trans (e1.trans (e2.trans (e3.trans (e4.trans (e5.trans (e6.trans (e7.trans (e8.trans (e9.trans (e10.trans (e11.trans (e12.trans (e13.trans (e14.trans e15)))))))))))))))) (by omega) (hv.ext (hea.trans (e1.trans (e2.trans (e3.trans (e4.trans (e5.trans (e6.trans (e7.trans (e8.trans (e9.trans (e10.trans (e11.trans (e12.trans (e13.trans (e14.trans e15)))))))))))))))) (by omega) (zn13.zi.ext (e8.trans (e9.trans (e10.trans (e11.trans (e12.trans (e13.trans (e14.trans e15)))))))) (by omega) (zd13.zi.ext (e8.trans (e9.trans (e10.trans (e11.trans (e12.trans (e13.trans (e14.trans e15)))))))) (by omega)).mono ?_
        rintro e w16 ⟨p25, q25, er25, ⟨s25, A25, n25, c25, t25, B25, m25, d25, rfl, zn25, zd25, hx16⟩, hl25⟩
        have LW25 := Lib.hid (hl25.out.2 (Int.mul_ne_zero NEv.out NEq13.out)).1
        obtain rfl : er25 = 0 := (hl25.out.2 (Int.mul_ne_zero NEv.out NEq13.out)).2
        have RP25 := Lib.hid ((LW25.out.rp (Int.mul_ne_zero NEv.out NEq13.out)).trans ((Rp.self NEv.out).mul RP13.out))
        have Lp25 : Hid (ln p25 ≤ 3145728) := Nat.le_trans (ln_mono LW25.out.np) (Nat.le_trans (ln_mul Lu.out Lp13.out) (by omega))
        have Lq25 : Hid (ln q25 ≤ 3145728) := Nat.le_trans (ln_mono LW25.out.nq) (Nat.le_trans (ln_mul Lv.out Lq13.out) (by omega))
        have NEq25 : Hid (q25 ≠ 0) := RP25.out.q0
        have bn25 : n25 ≤ 3145728 := zn25.le Lp25.out
        have bd25 : m25 ≤ 3145728 := zd25.le Lq25.out
        clear hl25
        clear kb0 kb1 kb2 kb3 kb4 k130 k131 k132 k133 k134
        go_upto_region 17 with (fail)
        obtain ⟨g25, v16, hgg, hvv, hb25, heb, lg⟩ := boxesL1 w16 39 [.bool s25, .slice A25 n25 c25, .bool t25, .slice B25 m25 d25]
        rw [hgg, hvv]
        clear hvv hgg lg
        have e16 := hx16.trans heb
        have zn25 := zn25.ext heb
        have zd25 := zd25.ext heb
        clear hx16 heb
        obtain ⟨⟨ka0, ka1, ka2, ka3⟩, ka4⟩ := (hba.ext (e1.trans (e2.trans (e3.trans (e4.trans (e5.trans (e6.trans (e7.trans (e8.trans (e9.trans (e10.trans (e11.trans (e12.trans (e13.trans (e14.trans (e15.trans e16)))))))))))))))).four
        obtain ⟨⟨kb0, kb1, kb2, kb3⟩, kb4⟩ := (hbb.ext (e1.trans (e2.trans (e3.trans (e4.trans (e5.trans (e6.trans (e7.trans (e8.trans (e9.trans (e10.trans (e11.trans (e12.trans (e13.trans (e14.trans (e15.trans e16)))))))))))))))).four
        go_wp2_with fail
        refine (frac_Add (hx.ext (hea.trans (e1.trans (e2.trans (e3.trans (e4.trans (e5.trans (e6.trans (e7.trans (e8.trans (e9.trans (e10.trans (e11.trans (e12.trans (e13.trans (e14.trans (e15.trans e16))))))))))))))))) (by omega) (hy.ext (hea.trans (e1.trans (e2.trans (e3.trans (e4.trans (e5.trans (e6.trans (e7.trans (e8.trans (e9.trans (e10.trans (e11.trans (e12.trans (e13.trans (e14.trans (e15.trans e16))))))))))))))))) (by omega) (hu.ext (hea.trans (e1.trans (e2.trans (e3.trans (e4.trans (e5.trans (e6.trans (e7.trans (e8.trans (e9.trans (e10.trans (e11.trans (e12.trans (e13.trans (e14.trans (e15.trans e16))))))))))))))))) (by omega) (hv.ext (hea.trans (e1.trans (e2.trans (e3.trans (e4.trans (e5.trans (e6.trans (e7.trans (e8.trans (e9.trans (e10.trans (e11.trans (e12.trans (e13.trans (e14.trans (e15.trans e16))))))))))))))))) (by omega)).mono ?_
        rintro e w17 ⟨p27, q27, er27, ⟨s27, A27, n27, c27, t27, B27, m27, d27, rfl, zn27, zd27, hx17⟩, hl27⟩
        have LW27 := Lib.hid (hl27.out.2 (Int.mul_ne_zero NEy.out NEv.out)).1
        obtain rfl : er27 = 0 := (hl27.out.2 (Int.mul_ne_zero NEy.out NEv.out)).2
        have RP27 := Lib.hid ((LW27.out.rp (Int.mul_ne_zero NEy.out NEv.out)).trans ((Rp.self NEy.out).add (Rp.self NEv.out)))
        have Lp27 : Hid (ln p27 ≤ 2097153) := Nat.le_trans (ln_mono LW27.out.np) (Nat.le_trans (ln_add (ln_mul Lx.out Lv.out) (ln_mul Lu.out Ly.out)) (by omega))
        have Lq27 : Hid (ln q27 ≤ 2097152) := Nat.le_trans (ln_mono LW27.out.nq) (Nat.le_trans (ln_mul Ly.out Lv.out) (by omega))
        have NEq27 : Hid (q27 ≠ 0) := RP27.out.q0
        have bn27 : n27 ≤ 2097153 := zn27.le Lp27.out
        have bd27 : m27 ≤ 2097152 := zd27.le Lq27.out
        clear hl27
        clear ka0 ka1 ka2 ka3 ka4 kb0 kb1 kb2 kb3 kb4
        go_upto_region 18 with (fail)
        obtain ⟨g27, v17, hgg, hvv, hb27, heb, lg⟩ := boxesL1 w17 39 [.bool s27, .slice A27 n27 c27, .bool t27, .slice B27 m27 d27]
        rw [hgg, hvv]
        clear hvv hgg lg
        have e17 := hx17.trans heb
        have zn27 := zn27.ext heb
        have zd27 := zd27.ext heb
        clear hx17 heb
        obtain ⟨⟨k270, k271, k272, k273⟩, k274⟩ := (hb27).four
        obtain ⟨⟨kc0, kc1, kc2, kc3⟩, kc4⟩ := (hbc.ext (e1.trans (e2.trans (e3.trans (e4.trans (e5.trans (e6.trans (e7.trans (e8.trans (e9.trans (e10.trans (e11.trans (e12.trans (e13.trans (e14.trans (e15.trans (e16.trans e17))))))))))))))))).four
        go_wp2_with fail
        refine (frac_Add (zn27.zi.ext (Ext.refl _)) (by omega) (zd27.zi.ext (Ext.refl _)) (by omega) (hr.ext (hea.trans (e1.trans (e2.trans (e3.trans (e4.trans (e5.trans (e6.trans (e7.trans (e8.trans (e9.trans (e10.trans (e11.trans (e12.trans (e13.trans (e14.trans (e15.trans (e16.trans e17)))))))))))))))))) (by omega) (ht.ext (hea.trans (e1.trans (e2.trans (e3.trans (e4.trans (e5.trans (e6.trans (e7.trans (e8.trans (e9.trans (e10.trans (e11.trans (e12.trans (e13.trans (e14.trans (e15.trans (e16.trans e17)))))))))))))))))) (by omega)).mono ?_
        rintro e w18 ⟨p29, q29, er29, ⟨s29, A29, n29, c29, t29, B29, m29, d29, rfl, zn29, zd29, hx18⟩, hl29⟩
        have LW29 := Lib.hid (hl29.out.2 (Int.mul_ne_zero NEq27.out NEt.out)).1
        obtain rfl : er29 = 0 := (hl29.out.2 (Int.mul_ne_zero NEq27.out NEt.out)).2
        have RP29 := Lib.hid ((LW29.out.rp (Int.mul_ne_zero NEq27.out NEt.out)).trans (RP27.out.add (Rp.self NEt.out)))
        have Lp29 : Hid (ln p29 ≤ 3145730) := Nat.le_trans (ln_mono LW29.out.np) (Nat.le_trans (ln_add (ln_mul Lp27.out Lt.out) (ln_mul Lr.out Lq27.out)) (by omega))
        have Lq29 : Hid (ln q29 ≤ 3145728) := Nat.le_trans (ln_mono LW29.out.nq) (Nat.le_trans (ln_mul Lq27.out Lt.out) (by omega))
        have NEq29 : Hid (q29 ≠ 0) := RP29.out.q0
        have bn29 : n29 ≤ 3145730 := zn29.le Lp29.out
        have bd29 : m29 ≤ 3145728 := zd29.le Lq29.out
        clear hl29
        clear k270 k271 k272 k273 k274 kc0 kc1 kc2 kc3 kc4
        go_upto_region 19 with (fail)
        obtain ⟨g29, v18, hgg, hvv, hb29, heb, lg⟩ := boxesL1 w18 39 [.bool s29, .slice A29 n29 c29, .bool t29, .slice B29 m29 d29]
        rw [hgg, hvv]
        clear hvv hgg lg
        have e18 := hx18.trans heb
        have zn29 := zn29.ext heb
        have zd29 := zd29.ext heb
        clear hx18 heb
        obtain ⟨⟨ka0, ka1, ka2, ka3⟩, ka4⟩ := (hba.ext (e1.trans (e2.trans (e3.trans (e4.trans (e5.trans (e6.trans (e7.trans (e8.trans (e9.trans (e10.trans (e11.trans (e12.trans (e13.trans (e14.trans (e15.trans (e16.trans (e17.trans e18)))))))))))))))))).four
        obtain ⟨⟨k150, k151, k152, k153⟩, k154⟩ := (hb15.ext (e9.trans (e10.trans (e11.trans (e12.trans (e13.trans (e14.trans (e15.trans (e16.trans (e17.trans e18)))))))))).four
        go_wp2_with fail
        refine (frac_Add (hx.ext (hea.trans (e1.trans (e2.trans (e3.trans (e4.trans (e5.trans (e6.trans (e7.trans (e8.trans (e9.trans (e10.trans (e11.trans (e12.trans (e13.trans (e14.trans (e15.trans (e16.trans (e17.trans e18))))))))))))))))))) (by omega) (hy.ext (hea.trans (e1.trans (e2.trans (e3.trans (e4.trans (e5.trans (e6.trans (e7.trans (e8.trans (e9.trans (e10.trans (e11.trans (e12.trans (e13.trans (e14.trans (e15.trans (e16.trans (e17.trans e18))))))))))))))))))) (by omega) (zn15.zi.ext (e9.trans (e10.trans (e11.trans (e12.trans (e13.trans (e14.trans (e15.trans (e16.trans (e17.trans e18)))))))))) (by omega) (zd15.zi.ext (e9.trans (e10.trans (e11.trans (e12.trans (e13.trans (e14.trans (e15.trans (e16.trans (e17.trans e18)))))))))) (by omega)).mono ?_
        rintro e w19 ⟨p31, q31, er31, ⟨s31, A31, n31, c31, t31, B31, m31, d31, rfl, zn31, zd31, hx19⟩, hl31⟩
        have LW31 := Lib.hid (hl31.out.2 (Int.mul_ne_zero NEy.out NEq15.out)).1
        obtain rfl : er31 = 0 := (hl31.out.2 (Int.mul_ne_zero NEy.out NEq15.out)).2
        have RP31 := Lib.hid ((LW31.out.rp (Int.mul_ne_zero NEy.out NEq15.out)).trans ((Rp.self NEy.out).add RP15.out))
        have Lp31 : Hid (ln p31 ≤ 3145730) := Nat.le_trans (ln_mono LW31.out.np) (Nat.le_trans (ln_add (ln_mul Lx.out Lq15.out) (ln_mul Lp15.out Ly.out)) (by omega))
        have Lq31 : Hid (ln q31 ≤ 3145728) := Nat.le_trans (ln_mono LW31.out.nq) (Nat.le_trans (ln_mul Ly.out Lq15.out) (by omega))
        have NEq31 : Hid (q31 ≠ 0) := RP31.out.q0
        have bn31 : n31 ≤ 3145730 := zn31.le Lp31.out
        have bd31 : m31 ≤ 3145728 := zd31.le Lq31.out
        clear hl31
        clear ka0 ka1 ka2 ka3 ka4 k150 k151 k152 k153 k154
        go_upto_region 20 with (fail)
        obtain ⟨g31, v19, hgg, hvv, hb31, heb, lg⟩ := boxesL1 w19 39 [.bool s31, .slice A31 n31 c31, .bool t31, .slice B31 m31 d31]
        rw [hgg, hvv]
        clear hvv hgg lg
        have e19 := hx19.trans heb
        have zn31 := zn31.ext heb
        have zd31 := zd31.ext heb
        clear hx19 heb
        obtain ⟨⟨k230, k231, k232, k233⟩, k234⟩ := (hb23.ext (e16.trans (e17.trans (e18.trans e19)))).four
        obtain ⟨⟨k250, k251, k252, k253⟩, k254⟩ := (hb25.ext (e17.trans (e18.trans e19))).four
        obtain ⟨hp, hq⟩ := Rp.same RP23.out RP25.out (by grind) LW23.out LW25.out
        have HP := Lib.hid hp
        have HQ := Lib.hid hq
        clear hp hq
        go_wp2_with fail
        refine (law_like (zn23.ext (e16.trans (e17.trans (e18.trans e19)))) (by omega) (zd23.ext (e16.trans (e17.trans (e18.trans e19)))) (by omega) (zn25.ext (e17.trans (e18.trans e19))) (by omega) (zd25.ext (e17.trans (e18.trans e19))) (by omega) HP.out HQ.out).mono ?_
        rintro e v20 ⟨rfl, e20⟩
        clear HP HQ
        clear k230 k231 k232 k233 k234 k250 k251 k252 k253 k254
        obtain ⟨⟨k290, k291, k292, k293⟩, k294⟩ := (hb29.ext (e19.trans e20)).four
        obtain ⟨⟨k310, k311, k312, k313⟩, k314⟩ := (hb31.ext e20).four
        obtain ⟨hp, hq⟩ := Rp.same RP29.out RP31.out (by grind) LW29.out LW31.out
        have HP := Lib.hid hp
        have HQ := Lib.hid hq
        clear hp hq
        go_wp2_with fail
        refine (law_like (zn29.ext (e19.trans e20)) (by omega) (zd29.ext (e19.trans e20)) (by omega) (zn31.ext e20) (by omega) (zd31.ext e20) (by omega) HP.out HQ.out).mono ?_
        rintro e v21 ⟨rfl, e21⟩
        clear HP HQ
        clear k290 k291 k292 k293 k294 k310 k311 k312 k313 k314
        obtain ⟨⟨ka0, ka1, ka2, ka3⟩, ka4⟩ := (hba.ext (e1.trans (e2.trans (e3.trans (e4.trans (e5.trans (e6.trans (e7.trans (e8.trans (e9.trans (e10.trans (e11.trans (e12.trans (e13.trans (e14.trans (e15.trans (e16.trans (e17.trans (e18.trans (e19.trans (e20.trans e21))))))))))))))))))))).four
        go_wp2_with fail
        refine (frac_Of (hx.ext (hea.trans (e1.trans (e2.trans (e3.trans (e4.trans (e5.trans (e6.trans (e7.trans (e8.trans (e9.trans (e10.trans (e11.trans (e12.trans (e13.trans (e14.trans (e15.trans (e16.trans (e17.trans (e18.trans (e19.trans (e20.trans e21)))))))))))))))))))))) (by omega) (hy.ext (hea.trans (e1.trans (e2.trans (e3.trans (e4.trans (e5.trans (e6.trans (e7.trans (e8.trans (e9.trans (e10.trans (e11.trans (e12.trans (e13.trans (e14.trans (e15.trans (e16.trans (e17.trans (e18.trans (e19.trans (e20.trans e21)))))))))))))))))))))) (by omega) NEy.out).mono ?_
        rintro e w22 ⟨p33, q33, LW33, s33, A33, n33, c33, t33, B33, m33, d33, rfl, zn33, zd33, hx22⟩
        have RP33 := Lib.hid (LW33.out.rp NEy.out)
        have bn33 : n33 ≤ 1048576 := zn33.le (Nat.le_trans (ln_mono LW33.out.np) Lx.out)
        have bd33 : m33 ≤ 1048576 := zd33.le (Nat.le_trans (ln_mono LW33.out.nq) Ly.out)
        clear ka0 ka1 ka2 ka3 ka4
        go_upto_region 23 with (fail)
        obtain ⟨g33, v22, hgg, hvv, hb33, heb, lg⟩ := boxesL1 w22 39 [.bool s33, .slice A33 n33 c33, .bool t33, .slice B33 m33 d33]
        rw [hgg, hvv]
        clear hvv hgg lg
        have e22 := hx22.trans heb
        have zn33 := zn33.ext heb
        have zd33 := zd33.ext heb
        clear hx22 heb
        obtain ⟨⟨k270, k271, k272, k273⟩, k274⟩ := (hb27.ext (e18.trans (e19.trans (e20.trans (e21.trans e22))))).four
        obtain ⟨⟨kb0, kb1, kb2, kb3⟩, kb4⟩ := (hbb.ext (e1.trans (e2.trans (e3.trans (e4.trans (e5.trans (e6.trans (e7.trans (e8.trans (e9.trans (e10.trans (e11.trans (e12.trans (e13.trans (e14.trans (e15.trans (e16.trans (e17.trans (e18.trans (e19.trans (e20.trans (e21.trans e22)))))))))))))))))))))).four
        go_wp2_with fail
        refine (frac_Sub (zn27.zi.ext (e18.trans (e19.trans (e20.trans (e21.trans e22))))) (by omega) (zd27.zi.ext (e18.trans (e19.trans (e20.trans (e21.trans e22))))) (by omega) (hu.ext (hea.trans (e1.trans (e2.trans (e3.trans (e4.trans (e5.trans (e6.trans (e7.trans (e8.trans (e9.trans (e10.trans (e11.trans (e12.trans (e13.trans (e14.trans (e15.trans (e16.trans (e17.trans (e18.trans (e19.trans (e20.trans (e21.trans e22))))))))))))))))))))))) (by omega) (hv.ext (hea.trans (e1.trans (e2.trans (e3.trans (e4.trans (e5.trans (e6.trans (e7.trans (e8.trans (e9.trans (e10.trans (e11.trans (e12.trans (e13.trans (e14.trans (e15.trans (e16.trans (e17.trans (e18.trans (e19.trans (e20.trans (e21.trans e22))))))))))))))))))))))) (by omega)).mono ?_
        rintro e w23 ⟨p35, q35, er35, ⟨s35, A35, n35, c35, t35, B35, m35, d35, rfl, zn35, zd35, hx23⟩, hl35⟩
        have LW35 := Lib.hid (hl35.out.2 (Int.mul_ne_zero NEq27.out NEv.out)).1
        obtain rfl : er35 = 0 := (hl35.out.2 (Int.mul_ne_zero NEq27.out NEv.out)).2
        have RP35 := Lib.hid ((LW35.out.rp (Int.mul_ne_zero NEq27.out NEv.out)).trans (RP27.out.sub (Rp.self NEv.out)))
        have Lp35 : Hid (ln p35 ≤ 3145730) := Nat.le_trans (ln_mono LW35.out.np) (Nat.le_trans (ln_add (ln_mul Lp27.out Lv.out) (ln_mul (by rw [ln_neg]; exact Lu.out) Lq27.out)) (by omega))
        have Lq35 : Hid (ln q35 ≤ 3145728) := Nat.le_trans (ln_mono LW35.out.nq) (Nat.le_trans (ln_mul Lq27.out Lv.out) (by omega))
        have NEq35 : Hid (q35 ≠ 0) := RP35.out.q0
        have bn35 : n35 ≤ 3145730 := zn35.le Lp35.out
        have bd35 : m35 ≤ 3145728 := zd35.le Lq35.out
        clear hl35
        clear k270 k271 k272 k273 k274 kb0 kb1 kb2 kb3 kb4
        go_upto_region 24 with (fail)
        obtain ⟨g35, v23, hgg, hvv, hb35, heb, lg⟩ := boxesL1 w23 39 [.bool s35, .slice A35 n35 c35, .bool t35, .slice B35 m35 d35]
        rw [hgg, hvv]
        clear hvv hgg lg
        have e23 := hx23.trans heb
        have zn35 := zn35.ext heb
        have zd35 := zd35.ext heb
        clear hx23 heb
        obtain ⟨⟨k350, k351, k352, k353⟩, k354⟩ := (hb35).four
        obtain ⟨⟨k330, k331, k332, k333⟩, k334⟩ := (hb33.ext e23).four
        obtain ⟨hp, hq⟩ := Rp.same RP35.out RP33.out (by grind) LW35.out LW33.out
        have HP := Lib.hid hp
        have HQ := Lib.hid hq
        clear hp hq
        go_wp2_with fail
        refine (law_like (zn35.ext (Ext.refl _)) (by omega) (zd35.ext (Ext.refl _)) (by omega) (zn33.ext e23) (by omega) (zd33.ext e23) (by omega) HP.out HQ.out).mono ?_
        rintro e v24 ⟨rfl, e24⟩
        clear HP HQ
        clear k350 k351 k352 k353 k354 k330 k331 k332 k333 k334
        obtain ⟨⟨k90, k91, k92, k93⟩, k94⟩ := (hb9.ext (e6.trans (e7.trans (e8.trans (e9.trans (e10.trans (e11.trans (e12.trans (e13.trans (e14.trans (e15.trans (e16.trans (e17.trans (e18.trans (e19.trans (e20.trans (e21.trans (e22.trans (e23.trans e24))))))))))))))))))).four
        obtain ⟨⟨kb0, kb1, kb2, kb3⟩, kb4⟩ := (hbb.ext (e1.trans (e2.trans (e3.trans (e4.trans (e5.trans (e6.trans (e7.trans (e8.trans (e9.trans (e10.trans (e11.trans (e12.trans (e13.trans (e14.trans (e15.trans (e16.trans (e17.trans (e18.trans (e19.trans (e20.trans (e21.trans (e22.trans (e23.trans e24)))))))))))))))))))))))).four
        go_wp2_with fail
        refine (frac_Div (zn9.zi.ext (e6.trans (e7.trans (e8.trans (e9.trans (e10.trans (e11.trans (e12.trans (e13.trans (e14.trans (e15.trans (e16.trans (e17.trans (e18.trans (e19.trans (e20.trans (e21.trans (e22.trans (e23.trans e24))))))))))))))))))) (by omega) (zd9.zi.ext (e6.trans (e7.trans (e8.trans (e9.trans (e10.trans (e11.trans (e12.trans (e13.trans (e14.trans (e15.trans (e16.trans (e17.trans (e18.trans (e19.trans (e20.trans (e21.trans (e22.trans (e23.trans e24))))))))))))))))))) (by omega) (hu.ext (hea.trans (e1.trans (e2.trans (e3.trans (e4.trans (e5.trans (e6.trans (e7.trans (e8.trans (e9.trans (e10.trans (e11.trans (e12.trans (e13.trans (e14.trans (e15.trans (e16.trans (e17.trans (e18.trans (e19.trans (e20.trans (e21.trans (e22.trans (e23.trans e24))))))))))))))))))))))))) (by omega) (hv.ext (hea.trans (e1.trans (e2.trans (e3.trans (e4.trans (e5.trans (e6.trans (e7.trans (e8.trans (e9.trans (e10.trans (e11.trans (e12.trans (e13.trans (e14.trans (e15.trans (e16.trans (e17.trans (e18.trans (e19.trans (e20.trans (e21.trans (e22.trans (e23.trans e24))))))))))))))))))))))))) (by omega)).mono ?_
        rintro e w25 ⟨p37, q37, er37, ⟨s37, A37, n37, c37, t37, B37, m37, d37, rfl, zn37, zd37, hx25⟩, hl37⟩
        clear k90 k91 k92 k93 k94 kb0 kb1 kb2 kb3 kb4
        by_cases hu0 : u = 0
        · obtain rfl : er37 = 4 := (hl37.out.1 (Or.inr (Or.inl hu0))).2.2
          have HU := Lib.hid hu0
          clear hu0 hl37
          go_upto_region 27 with (fail)
          obtain ⟨g37, v25, hgg, hvv, hb37, heb, lg⟩ := boxesL1 w25 39 [.bool s37, .slice A37 n37 c37, .bool t37, .slice B37 m37 d37]
          rw [hgg, hvv]
          clear hvv hgg lg
          have e25 := hx25.trans heb
          have zn37 := zn37.ext heb
          have zd37 := zd37.ext heb
          clear hx25 heb
          obtain ⟨⟨kb0, kb1, kb2, kb3⟩, kb4⟩ := (hbb.ext (e1.trans (e2.trans (e3.trans (e4.trans (e5.trans (e6.trans (e7.trans (e8.trans (e9.trans (e10.trans (e11.trans (e12.trans (e13.trans (e14.trans (e15.trans (e16.trans (e17.trans (e18.trans (e19.trans (e20.trans (e21.trans (e22.trans (e23.trans (e24.trans e25))))))))))))))))))))))))).four
          go_wp2_with fail
          refine (zint_Sign (hu.ext (hea.trans (e1.trans (e2.trans (e3.trans (e4.trans (e5.trans (e6.trans (e7.trans (e8.trans (e9.trans (e10.trans (e11.trans (e12.trans (e13.trans (e14.trans (e15.trans (e16.trans (e17.trans (e18.trans (e19.trans (e20.trans (e21.trans (e22.trans (e23.trans (e24.trans e25)))))))))))))))))))))))))) (by omega)).mono ?_
          rintro e v26 ⟨c, hc, hcl, hch, rfl, e26⟩
          obtain rfl : c = 0 := by rw [hc.out, HU.out]; rfl
          clear hc
          clear kb0 kb1 kb2 kb3 kb4
          go_wp2_with fail
          go_ret
          exact ⟨rfl, (hea.trans (e1.trans (e2.trans (e3.trans (e4.trans (e5.trans (e6.trans (e7.trans (e8.trans (e9.trans (e10.trans (e11.trans (e12.trans (e13.trans (e14.trans (e15.trans (e16.trans (e17.trans (e18.trans (e19.trans (e20.trans (e21.trans (e22.trans (e23.trans (e24.trans (e25.trans e26))))))))))))))))))))))))))⟩
        · have HU := Lib.hid hu0
          clear hu0
          have LW37 := Lib.hid (hl37.out.2 NEq9.out HU.out NEv.out).1
          obtain rfl : er37 = 0 := (hl37.out.2 NEq9.out HU.out NEv.out).2
          have RP37 := Lib.hid ((LW37.out.rp (Int.mul_ne_zero NEq9.out HU.out)).trans (RP9.out.div (Rp.self NEv.out) HU.out HU.out))
          have Lp37 : Hid (ln p37 ≤ 3145728) := Nat.le_trans (ln_mono LW37.out.np) (Nat.le_trans (ln_mul Lp9.out Lv.out) (by omega))
          have Lq37 : Hid (ln q37 ≤ 3145728) := Nat.le_trans (ln_mono LW37.out.nq) (Nat.le_trans (ln_mul Lq9.out Lu.out) (by omega))
          have NEq37 : Hid (q37 ≠ 0) := RP37.out.q0
          have bn37 : n37 ≤ 3145728 := zn37.le Lp37.out
          have bd37 : m37 ≤ 3145728 := zd37.le Lq37.out
          clear hl37
          go_upto_region 27 with (fail)
          obtain ⟨g37, v25, hgg, hvv, hb37, heb, lg⟩ := boxesL1 w25 39 [.bool s37, .slice A37 n37 c37, .bool t37, .slice B37 m37 d37]
          rw [hgg, hvv]
          clear hvv hgg lg
          have e25 := hx25.trans heb
          have zn37 := zn37.ext heb
          have zd37 := zd37.ext heb
          clear hx25 heb
          obtain ⟨⟨kb0, kb1, kb2, kb3⟩, kb4⟩ := (hbb.ext (e1.trans (e2.trans (e3.trans (e4.trans (e5.trans (e6.trans (e7.trans (e8.trans (e9.trans (e10.trans (e11.trans (e12.trans (e13.trans (e14.trans (e15.trans (e16.trans (e17.trans (e18.trans (e19.trans (e20.trans (e21.trans (e22.trans (e23.trans (e24.trans e25))))))))))))))))))))))))).four
          go_wp2_with fail
          refine (zint_Sign (hu.ext (hea.trans (e1.trans (e2.trans (e3.trans (e4.trans (e5.trans (e6.trans (e7.trans (e8.trans (e9.trans (e10.trans (e11.trans (e12.trans (e13.trans (e14.trans (e15.trans (e16.trans (e17.trans (e18.trans (e19.trans (e20.trans (e21.trans (e22.trans (e23.trans (e24.trans e25)))))))))))))))))))))))))) (by omega)).mono ?_
          rintro e v26 ⟨c, hc, hcl, hch, rfl, e26⟩
          have hc0 : c ≠ 0 := fun h => HU.out (scmp_zero.1 (by rw [← hc.out, h]))
          have bc : (c == 0) = false := by simp; omega
          clear hc hc0
          clear kb0 kb1 kb2 kb3 kb4
          obtain ⟨⟨k370, k371, k372, k373⟩, k374⟩ := (hb37.ext e26).four
          obtain ⟨⟨k330, k331, k332, k333⟩, k334⟩ := (hb33.ext (e23.trans (e24.trans (e25.trans e26)))).four
          obtain ⟨hp, hq⟩ := Rp.same RP37.out RP33.out (by grind) LW37.out LW33.out
          have HP := Lib.hid hp
          have HQ := Lib.hid hq
          clear hp hq
          go_wp2_with fail
          refine (law_like (zn37.ext e26) (by omega) (zd37.ext e26) (by omega) (zn33.ext (e23.trans (e24.trans (e25.trans e26)))) (by omega) (zd33.ext (e23.trans (e24.trans (e25.trans e26)))) (by omega) HP.out HQ.out).mono ?_
          rintro e v27 ⟨rfl, e27⟩
          clear HP HQ
          clear k370 k371 k372 k373 k374 k330 k331 k332 k333 k334
          go_wp2_with fail
          go_ret
          exact ⟨rfl, (hea.trans (e1.trans (e2.trans (e3.trans (e4.trans (e5.trans (e6.trans (e7.trans (e8.trans (e9.trans (e10.trans (e11.trans (e12.trans (e13.trans (e14.trans (e15.trans (e16.trans (e17.trans (e18.trans (e19.trans (e20.trans (e21.trans (e22.trans (e23.trans (e24.trans (e25.trans (e26.trans e27)))))))))))))))))))))))))))⟩
  all_goals
    have evb : Ext v0 vb := e1.trans ebad
    have evw := hea.trans evb
    have hbA := hba.ext evb
    have HZ := Lib.hid hz
    clear hz
    obtain ⟨⟨a0, a1, a2, a3⟩, a4⟩ := hbA.four
    have ngb : g ≠ vb.heap.size := by have h1 := hbA.lt; omega
    have ngc : vb.heap.size ≠ g := ngb.symm
    go_region_held3 (fun w' => w'.cell? ⟨g, 0, none⟩ = some (.bool sa) ∧ w'.cell? ⟨g, 1, none⟩ = some (.slice Aa na ca) ∧ w'.cell? ⟨g, 2, none⟩ = some (.bool ta) ∧ w'.cell? ⟨g, 3, none⟩ = some (.slice Ba ma da)) (go_keep)
      (first
      | (go_at_call 9; refine (zint_Of (v := 1) (by omega)).mono ?_; rintro e w5 ⟨s5, A5, n5, c5, rfl, z5, hx5⟩; have b5 : n5 ≤ 1 := z5.le (by decide +kernel); have he5 : Ext vb w5 := Ext.trans (by repeat (first | exact Ext.refl _ | assumption | apply Ext.drewN | apply Ext.drew | apply Ext.alloc)) hx5; have ng5 : g ≠ w5.heap.size := (by have h1 := hbA.lt; have h2 := he5.size; omega); have ng6 : w5.heap.size ≠ g := ng5.symm; clear a0 a1 a2 a3 a4; obtain ⟨⟨a0, a1, a2, a3⟩, a4⟩ := (hbA.ext he5).four; (try (have hnb : Bk w5 vb.heap.size 39 [.bool false, .slice none 0 0, .bool false, .slice none 0 0] := (Bk.new vb.drew 39 [.bool false, .slice none 0 0, .bool false, .slice none 0 0]).ext hx5; obtain ⟨⟨m0, m1, m2, m3⟩, m4, m5, m6, m7⟩ := hnb.four)))
      | (go_at_call 24; refine (frac_Add (z5.zi.ext (by repeat (first | exact Ext.refl _ | assumption | apply Ext.drewN | apply Ext.drew | apply Ext.alloc))) (by omega) (Zr.zero (base := 0)).zi (by omega) (hx.ext (evw.trans (he5.trans (by repeat (first | exact Ext.refl _ | assumption | apply Ext.drewN | apply Ext.drew | apply Ext.alloc))))) (by omega) (hy.ext (evw.trans (he5.trans (by repeat (first | exact Ext.refl _ | assumption | apply Ext.drewN | apply Ext.drew | apply Ext.alloc))))) (by omega)).mono ?_; rintro e w9 ⟨p, q, er, ⟨s8, A8, n8, c8, s9, A9, n9, c9, rfl, z8, z9, hx9⟩, hlow⟩; have her : er = 4 := (hlow.out.1 (by rw [Int.zero_mul])).2.2; subst her; have he9 : Ext vb w9 := he5.trans (Ext.trans (by repeat (first | exact Ext.refl _ | assumption | apply Ext.drewN | apply Ext.drew | apply Ext.alloc)) hx9); clear a0 a1 a2 a3 a4; obtain ⟨⟨a0, a1, a2, a3⟩, a4⟩ := (hbA.ext he9).four; (first | (have hnc : Bk w9 vb.heap.size 39 [.bool false, .slice none 0 0, .bool false, .slice none 0 0] := hnb.ext (Ext.trans (by repeat (first | exact Ext.refl _ | assumption | apply Ext.drewN | apply Ext.drew | apply Ext.alloc)) hx9); obtain ⟨⟨m0, m1, m2, m3⟩, m4, m5, m6, m7⟩ := hnc.four) | (have hnb : Bk w9 w5.heap.size 39 [.bool false, .slice none 0 0, .bool false, .slice none 0 0] := (Bk.new w5 39 [.bool false, .slice none 0 0, .bool false, .slice none 0 0]).ext hx9; obtain ⟨⟨m0, m1, m2, m3⟩, m4, m5, m6, m7⟩ := hnb.four) | skip)))
    all_goals
      go_wp2_with fail
      go_ret
      have E9 : Ext w w9 := evw.trans he9
      have hs5 : w.heap.size ≤ w5.heap.size := (evw.trans he5).size
      have hsb : w.heap.size ≤ vb.heap.size := evw.size
      exact ⟨rfl, by first | exact (((E9.setCell hs5 _).setCell hs5 _).setCell hs5 _).setCell hs5 _ | exact (((E9.setCell hsb _).setCell hsb _).setCell hsb _).setCell hsb _ | exact E9.trans (by repeat (first | exact Ext.refl _ | assumption | apply Ext.drewN | apply Ext.drew | apply Ext.alloc))⟩
end Go.Proofs.Ythbogoecoebefaa
