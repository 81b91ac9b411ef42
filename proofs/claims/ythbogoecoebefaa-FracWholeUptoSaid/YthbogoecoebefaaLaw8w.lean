/- trellislaw08: FracWhole -/
import Derived.Test.YthbogoecoebefaaFracD
import Derived.Test.YthbogoecoebefaaIntF
import Derived.Test.YthbogoecoebefaaLaw8b
namespace Go.Proofs.Ythbogoecoebefaa
open Go.RowKit

theorem ln_i64w {x : Int} (h1 : -18446744073709551615 ≤ x) (h2 : x ≤ 18446744073709551615) : ln x ≤ 1 := len_wd_le (by rw [WB_def, Nat.pow_one]; omega)
theorem pos_of_mul {a b : Int} (h : 0 < a * b) (hb : 0 < b) : 0 < a := by
  refine Int.lt_of_not_ge (fun ha => ?_)
  have := Int.mul_nonpos_of_nonpos_of_nonneg ha (Int.le_of_lt hb)
  omega
theorem neg_of_mul {a b : Int} (h : 0 < a * b) (hb : b < 0) : a < 0 := by
  refine Int.lt_of_not_ge (fun ha => ?_)
  have := Int.mul_nonpos_of_nonneg_of_nonpos ha (Int.le_of_lt hb)
  omega
/-- the floor is not above -/
theorem whole_low {n r x y p q : Int} (hy : y ≠ 0) (h : Flo n r x y) (l : Low p q (n * y + -x * 1) (1 * y)) : p ≤ 0 := by
  have e := l.eq
  have h1 := h.eq
  have e2 : p * y = -(r * q) := by
    rw [Int.one_mul] at e
    rw [e]
    have : n * y + -x * 1 = -r := by omega
    rw [this, Int.neg_mul]
  have hq := l.pos
  refine Int.le_of_not_gt (fun hp => ?_)
  rcases Int.lt_or_gt_of_ne hy with hn | hn
  · obtain ⟨a, b⟩ := h.neg hn
    have h3 : 0 ≤ -(r * q) := by
      have := Int.mul_nonpos_of_nonpos_of_nonneg b (Int.le_of_lt hq)
      omega
    have h4 : p * y < 0 := Int.mul_neg_of_pos_of_neg hp hn
    omega
  · obtain ⟨a, b⟩ := h.pos hn
    have h3 : 0 ≤ r * q := Int.mul_nonneg a (Int.le_of_lt hq)
    have h4 : 0 < p * y := Int.mul_pos hp hn
    omega
/-- the next one is -/
theorem whole_high {n r x y p q : Int} (hy : y ≠ 0) (h : Flo n r x y) (l : Low p q ((n + 1) * y + -x * 1) (1 * y)) : 0 < p := by
  have e := l.eq
  have h1 := h.eq
  have e2 : p * y = (y - r) * q := by
    rw [Int.one_mul] at e
    rw [e]
    have : (n + 1) * y + -x * 1 = y - r := by rw [Int.add_mul, Int.one_mul]; omega
    rw [this]
  have hq := l.pos
  rcases Int.lt_or_gt_of_ne hy with hn | hn
  · obtain ⟨a, b⟩ := h.neg hn
    have h3 : (y - r) * q < 0 := Int.mul_neg_of_neg_of_pos (by omega) hq
    refine Int.lt_of_not_ge (fun hp => ?_)
    have := Int.mul_nonneg_of_nonpos_of_nonpos hp (Int.le_of_lt hn)
    omega
  · obtain ⟨a, b⟩ := h.pos hn
    have h3 : 0 < (y - r) * q := Int.mul_pos (by omega) hq
    exact pos_of_mul (by rw [e2]; exact h3) hn
/-- the floor of a whole number more -/
theorem floor_more {n r x y k fp fq u s : Int} (hy : y ≠ 0) (h : Flo n r x y) (l : Low fp fq (x * 1 + k * y) (y * 1)) (hf : Flo u s fp fq) : u = n + k := by
  have e := l.eq
  have h1 := h.eq
  have h2 := hf.eq
  have hq := l.pos
  obtain ⟨s1, s2⟩ := hf.pos hq
  have key : (u - (n + k)) * (y * fq) = r * fq - s * y := by
    have e3 : (u * fq + s) * (y * 1) = ((n * y + r) * 1 + k * y) * fq := by rw [h2, h1]; exact e
    grind
  have main : ∀ d Y R S : Int, 0 < Y → d * Y = R - S → 0 ≤ R → R < Y → 0 ≤ S → S < Y → d = 0 := by
    intro d Y R S hY hd hR1 hR2 hS1 hS2
    rcases Int.lt_trichotomy d 0 with hl | hl | hl
    · have : d * Y ≤ -1 * Y := Int.mul_le_mul_of_nonneg_right (by omega) (Int.le_of_lt hY)
      omega
    · exact hl
    · have : 1 * Y ≤ d * Y := Int.mul_le_mul_of_nonneg_right (by omega) (Int.le_of_lt hY)
      omega
  have hd : u - (n + k) = 0 := by
    rcases Int.lt_or_gt_of_ne hy with hn | hn
    · obtain ⟨a, b⟩ := h.neg hn
      refine main _ (-(y * fq)) (r * fq * -1) (s * y * -1) ?_ ?_ ?_ ?_ ?_ ?_
      · have := Int.mul_neg_of_neg_of_pos hn hq; omega
      · rw [Int.mul_neg, key]; omega
      · have := Int.mul_nonpos_of_nonpos_of_nonneg b (Int.le_of_lt hq); omega
      · have h3 : r * fq * -1 = (-r) * fq := by rw [Int.neg_mul, Int.mul_neg, Int.mul_one]
        have h4 : -(y * fq) = (-y) * fq := by rw [Int.neg_mul]
        rw [h3, h4]
        exact Int.mul_lt_mul_of_pos_right (by omega) hq
      · have := Int.mul_nonpos_of_nonneg_of_nonpos s1 (Int.le_of_lt hn); omega
      · have h3 : s * y * -1 = s * (-y) := by rw [Int.mul_neg, Int.mul_neg, Int.mul_one]
        have h4 : -(y * fq) = fq * (-y) := by rw [Int.mul_neg, Int.mul_comm]
        rw [h3, h4]
        exact Int.mul_lt_mul_of_pos_right s2 (by omega)
    · obtain ⟨a, b⟩ := h.pos hn
      refine main _ (y * fq) (r * fq) (s * y) (Int.mul_pos hn hq) key (Int.mul_nonneg a (Int.le_of_lt hq)) (Int.mul_lt_mul_of_pos_right b hq) (Int.mul_nonneg s1 (Int.le_of_lt hn)) ?_
      rw [Int.mul_comm y fq]
      exact Int.mul_lt_mul_of_pos_right s2 hn
  omega

/-- half the difference, told from a comparison -/
theorem cmp_half {g gq p q : Int} (hg : 0 < gq) (h : 2 * g.natAbs ≤ gq.natAbs) (l : Low p q ((g.natAbs : Int) * 2 + -1 * gq) (gq * 2)) : p ≤ 0 ∧ (p = 0 → 2 * g.natAbs = gq.natAbs) := by
  have e := l.eq
  have hq := l.pos
  constructor
  · refine Int.le_of_not_gt (fun hp => ?_)
    have h1 : 0 < p * (gq * 2) := Int.mul_pos hp (by omega)
    have h2 : 0 < (g.natAbs : Int) * 2 + -1 * gq := pos_of_mul (by rw [← e]; exact h1) hq
    omega
  · intro hp
    rw [hp, Int.zero_mul] at e
    rcases Int.mul_eq_zero.1 e.symm with h1 | h1
    · omega
    · omega
theorem gap_near {m x y gp gq : Int} (hy : y ≠ 0) (h : Near m x y) (l : Low gp gq (x * 1 + -m * y) (y * 1)) : 2 * gp.natAbs ≤ gq.natAbs ∧ (2 * gp.natAbs = gq.natAbs → m % 2 = 0) := by
  obtain ⟨p, q, k, h1, h2⟩ := h
  have e1 := l.eq
  have e2 := k.eq
  have hc : Int.gcd (p - m * q) q = 1 := by rw [Int.gcd_sub_mul_right_left]; exact k.co
  have he : (p - m * q) * gq = gp * q := by
    refine Int.eq_of_mul_eq_mul_right hy ?_
    calc (p - m * q) * gq * y = (p * y - m * q * y) * gq := by grind
      _ = (x * q - m * q * y) * gq := by rw [e2]
      _ = ((x * 1 + -m * y) * gq) * q := by grind
      _ = (gp * (y * 1)) * q := by rw [e1]
      _ = gp * q * y := by grind
  obtain ⟨ha, hb⟩ := lows_eq hc l.co k.pos l.pos he
  rw [← ha, ← hb]
  exact ⟨h1, h2⟩
theorem near_ln {m x y : Int} {b : Nat} (h : Near m x y) (hx : ln x ≤ b) : ln m ≤ b + 2 := by
  obtain ⟨p, q, k, h1, _⟩ := h
  have hp := k.pos
  have hm : m.natAbs ≤ x.natAbs + 1 := by
    have h2 : m.natAbs ≤ p.natAbs + 1 := by
      refine nat_bound (b := q.natAbs) (d := q.natAbs) ?_ (Nat.le_refl _) (by omega)
      rw [← Int.natAbs_mul]
      omega
    have := k.np
    omega
  have := ln_succ hm hx
  omega

set_option maxRecDepth 20000 in
set_option maxHeartbeats 16000000 in
theorem law_FracWhole {w : World} {sa ta sk : Bool} {Aa Ba Ak : Option Addr} {na ca ma da nk ck : Nat} {x y k : Int} (hx : Zi w sa Aa na ca x) (lx : na ≤ 1048576) (hy : Zi w ta Ba ma da y) (ly : ma ≤ 1048576) (hk : Zi w sk Ak nk ck k) (lk : nk ≤ 1048576) :
    Calls Try.prog 7 #[.agg #[.bool sa, .slice Aa na ca, .bool ta, .slice Ba ma da], .agg #[.bool sk, .slice Ak nk ck]] w (BoolP true w) := by
  have Lx : Hid (ln x ≤ 1048576) := Nat.le_trans hx.ln lx
  have Ly : Hid (ln y ≤ 1048576) := Nat.le_trans hy.ln ly
  have Lk : Hid (ln k ≤ 1048576) := Nat.le_trans hk.ln lk
  go_enter Try.func7, Try.ntmps7
  go_upto_region 1 with (fail)
  obtain ⟨ga, gk, v0, hg2, hg, hv0, hba, hbk, hea, l12, l2, n12, n21⟩ := boxesL2 w 39 24 [.bool sa, .slice Aa na ca, .bool ta, .slice Ba ma da] [.bool sk, .slice Ak nk ck]
  rw [hg2, hg, hv0]
  clear hv0 hg hg2 l12 l2 n12 n21
  go_wp2_with fail
  refine (law_awake v0).mono ?_
  rintro e v1 ⟨rfl, e1⟩
  by_cases hy0 : y = 0
  · have Ny := Lib.hid hy0
    clear hy0
    obtain ⟨⟨ka0, ka1, ka2, ka3⟩, ka4⟩ := (hba.ext e1).four
    go_wp2_with fail
    refine (frac_Floor_bad (hx.ext (hea.trans e1)) (by omega) (hy.ext (hea.trans e1)) (by omega) Ny.out).mono ?_
    rintro e w2 ⟨s5, A5, n5, c5, rfl, zn5, hx2⟩
    clear ka0 ka1 ka2 ka3 ka4
    go_upto_region 4 with (fail)
    obtain ⟨g5, v2, hgg, hvv, hb5, heb, lg⟩ := boxesL1 w2 24 [.bool s5, .slice A5 n5 c5]
    try rw [hgg, hvv]
    clear hvv hgg lg
    have e2 := hx2.trans heb
    have zn5 := zn5.ext heb
    clear hx2 heb
    obtain ⟨⟨ka0, ka1, ka2, ka3⟩, ka4⟩ := (hba.ext (e1.trans e2)).four
    go_wp2_with fail
    refine (frac_Nearest_bad (hx.ext (hea.trans (e1.trans e2))) (by omega) (hy.ext (hea.trans (e1.trans e2))) (by omega) Ny.out).mono ?_
    rintro e w3 ⟨s7, A7, n7, c7, rfl, zn7, hx3⟩
    clear ka0 ka1 ka2 ka3 ka4
    go_upto_region 5 with (fail)
    obtain ⟨g7, v3, hgg, hvv, hb7, heb, lg⟩ := boxesL1 w3 24 [.bool s7, .slice A7 n7 c7]
    try rw [hgg, hvv]
    clear hvv hgg lg
    have e3 := hx3.trans heb
    have zn7 := zn7.ext heb
    clear hx3 heb
    obtain ⟨⟨ka0, ka1, ka2, ka3⟩, ka4⟩ := (hba.ext (e1.trans (e2.trans e3))).four
    go_wp2_with fail
    refine (law_is (hy.ext (hea.trans (e1.trans (e2.trans e3)))) (by omega) (b := false) (decide_eq_false (fun h => h Ny.out)).symm).mono ?_
    rintro e v4 ⟨rfl, e4⟩
    clear ka0 ka1 ka2 ka3 ka4
    go_wp2_with fail
    go_ret
    exact ⟨rfl, (hea.trans (e1.trans (e2.trans (e3.trans e4))))⟩
  · have Ny := Lib.hid hy0
    clear hy0
    obtain ⟨⟨ka0, ka1, ka2, ka3⟩, ka4⟩ := (hba.ext e1).four
    go_wp2_with fail
    refine (frac_Floor (hx.ext (hea.trans e1)) (by omega) (hy.ext (hea.trans e1)) (by omega) Ny.out).mono ?_
    rintro e w2 ⟨fl, rl, HFl, s5, A5, n5, c5, rfl, zn5, hx2⟩
    have L5 : Hid (ln fl ≤ 1048577) := flo_ln Ny.out HFl.out Lx.out
    have b5 : n5 ≤ 1048577 := zn5.le L5.out
    clear ka0 ka1 ka2 ka3 ka4
    go_upto_region 4 with (fail)
    obtain ⟨g5, v2, hgg, hvv, hb5, heb, lg⟩ := boxesL1 w2 24 [.bool s5, .slice A5 n5 c5]
    try rw [hgg, hvv]
    clear hvv hgg lg
    have e2 := hx2.trans heb
    have zn5 := zn5.ext heb
    clear hx2 heb
    obtain ⟨⟨ka0, ka1, ka2, ka3⟩, ka4⟩ := (hba.ext (e1.trans e2)).four
    go_wp2_with fail
    refine (frac_Nearest (hx.ext (hea.trans (e1.trans e2))) (by omega) (hy.ext (hea.trans (e1.trans e2))) (by omega) Ny.out).mono ?_
    rintro e w3 ⟨mm, HN, s7, A7, n7, c7, rfl, zn7, hx3⟩
    have L7 : Hid (ln mm ≤ 1048578) := near_ln HN.out Lx.out
    have b7 : n7 ≤ 1048578 := zn7.le L7.out
    clear ka0 ka1 ka2 ka3 ka4
    go_upto_region 5 with (fail)
    obtain ⟨g7, v3, hgg, hvv, hb7, heb, lg⟩ := boxesL1 w3 24 [.bool s7, .slice A7 n7 c7]
    try rw [hgg, hvv]
    clear hvv hgg lg
    have e3 := hx3.trans heb
    have zn7 := zn7.ext heb
    clear hx3 heb
    obtain ⟨⟨ka0, ka1, ka2, ka3⟩, ka4⟩ := (hba.ext (e1.trans (e2.trans e3))).four
    go_wp2_with fail
    refine (law_is (hy.ext (hea.trans (e1.trans (e2.trans e3)))) (by omega) (b := true) (decide_eq_true Ny.out).symm).mono ?_
    rintro e v4 ⟨rfl, e4⟩
    clear ka0 ka1 ka2 ka3 ka4
    go_wp2_with fail
    refine (zint_Of (v := 1) (by omega)).mono ?_
    rintro e w5 ⟨s9, A9, n9, c9, rfl, zn9, hx5⟩
    have b9 : n9 ≤ 1 := zn9.le (by decide +kernel)
    go_upto_region 8 with (fail)
    obtain ⟨g9, v5, hgg, hvv, hb9, heb, lg⟩ := boxesL1 w5 24 [.bool s9, .slice A9 n9 c9]
    try rw [hgg, hvv]
    clear hvv hgg lg
    have e5 := hx5.trans heb
    have zn9 := zn9.ext heb
    clear hx5 heb
    obtain ⟨k50, k51, k52, k53⟩ := (hb5.ext (e3.trans (e4.trans e5))).two
    obtain ⟨k90, k91, k92, k93⟩ := (hb9).two
    obtain ⟨⟨ka0, ka1, ka2, ka3⟩, ka4⟩ := (hba.ext (e1.trans (e2.trans (e3.trans (e4.trans e5))))).four
    go_wp2_with fail
    refine (frac_Cmp (zn5.zi.ext (e3.trans (e4.trans e5))) (by omega) (zn9.zi.ext (Ext.refl _)) (by omega) (hx.ext (hea.trans (e1.trans (e2.trans (e3.trans (e4.trans e5)))))) (by omega) (hy.ext (hea.trans (e1.trans (e2.trans (e3.trans (e4.trans e5)))))) (by omega) (by decide) Ny.out).mono ?_
    rintro e v6 ⟨c1, p1, q1, rfl, hc1, hcl1, hch1, HL1, e6⟩
    clear k50 k51 k52 k53 k90 k91 k92 k93 ka0 ka1 ka2 ka3 ka4
    have hc1n : ¬ 0 < c1 := by rw [hc1.out]; intro h; have := scmp_pos.1 h; have := whole_low Ny.out HFl.out HL1.out; omega
    clear hc1 HL1
    go_upto_region 9 with (fail)
    have zn5 := zn5.ext (e3.trans (e4.trans (e5.trans e6)))
    have zn7 := zn7.ext (e4.trans (e5.trans e6))
    have zn9 := zn9.ext e6
    have hba := hba.ext (e1.trans (e2.trans (e3.trans (e4.trans (e5.trans e6)))))
    have hbk := hbk.ext (e1.trans (e2.trans (e3.trans (e4.trans (e5.trans e6)))))
    have hb5 := hb5.ext (e3.trans (e4.trans (e5.trans e6)))
    have hb7 := hb7.ext (e4.trans (e5.trans e6))
    have hb9 := hb9.ext e6
    have ew := (hea.trans (e1.trans (e2.trans (e3.trans (e4.trans (e5.trans e6))))))
    obtain ⟨k50, k51, k52, k53⟩ := (hb5).two
    obtain ⟨k90, k91, k92, k93⟩ := (hb9).two
    obtain ⟨⟨ka0, ka1, ka2, ka3⟩, ka4⟩ := (hba).four
    go_region_held3 (fun w' => w'.cell? ⟨g5, 0, none⟩ = some (.bool s5) ∧ w'.cell? ⟨g5, 1, none⟩ = some (.slice A5 n5 c5) ∧ w'.cell? ⟨g9, 0, none⟩ = some (.bool s9) ∧ w'.cell? ⟨g9, 1, none⟩ = some (.slice A9 n9 c9) ∧ w'.cell? ⟨ga, 0, none⟩ = some (.bool sa) ∧ w'.cell? ⟨ga, 1, none⟩ = some (.slice Aa na ca) ∧ w'.cell? ⟨ga, 2, none⟩ = some (.bool ta) ∧ w'.cell? ⟨ga, 3, none⟩ = some (.slice Ba ma da)) (go_keep)
      (first
      | (go_at_call 12; (with_reducible refine (zint_Add (zn5.zi.ext (by repeat (first | exact Ext.refl _ | assumption | apply Ext.drewN | apply Ext.drew | apply Ext.alloc))) (by omega) (zn9.zi.ext (by repeat (first | exact Ext.refl _ | assumption | apply Ext.drewN | apply Ext.drew | apply Ext.alloc))) (by omega)).mono ?_); rintro e w20 ⟨s20, A20, n20, c20, rfl, z20, hx20⟩; have he20 : Ext v6 w20 := Ext.trans (by repeat (first | exact Ext.refl _ | assumption | apply Ext.drewN | apply Ext.drew | apply Ext.alloc)) hx20; have b20 : n20 ≤ 1048578 := (z20.le (Nat.le_trans (ln_add L5.out (zn9.ln_le b9)) (by omega))); clear k50 k51 k52 k53 k90 k91 k92 k93 ka0 ka1 ka2 ka3 ka4; obtain ⟨k50, k51, k52, k53⟩ := (hb5.ext he20).two; obtain ⟨k90, k91, k92, k93⟩ := (hb9.ext he20).two; obtain ⟨⟨ka0, ka1, ka2, ka3⟩, ka4⟩ := (hba.ext he20).four)
      | (go_at_call 32; (with_reducible refine (frac_Cmp z20.zi (by omega) (zn9.zi.ext (by repeat (first | exact Ext.refl _ | assumption | apply Ext.drewN | apply Ext.drew | apply Ext.alloc))) (by omega) (hx.ext (ew.trans (by repeat (first | exact Ext.refl _ | assumption | apply Ext.drewN | apply Ext.drew | apply Ext.alloc)))) (by omega) (hy.ext (ew.trans (by repeat (first | exact Ext.refl _ | assumption | apply Ext.drewN | apply Ext.drew | apply Ext.alloc)))) (by omega) (by decide) Ny.out).mono ?_); rintro e w21 ⟨c2, p2, q2, rfl, hc2, hcl2, hch2, HL2, hx21⟩; have he21 : Ext v6 w21 := Ext.trans (by repeat (first | exact Ext.refl _ | assumption | apply Ext.drewN | apply Ext.drew | apply Ext.alloc)) hx21; clear k50 k51 k52 k53 k90 k91 k92 k93 ka0 ka1 ka2 ka3 ka4; obtain ⟨k50, k51, k52, k53⟩ := (hb5.ext he21).two; obtain ⟨k90, k91, k92, k93⟩ := (hb9.ext he21).two; obtain ⟨⟨ka0, ka1, ka2, ka3⟩, ka4⟩ := (hba.ext he21).four))
    clear k50 k51 k52 k53 k90 k91 k92 k93 ka0 ka1 ka2 ka3 ka4
    have e7 : Ext v6 w21 := he21
    obtain ⟨v7, hvv⟩ : ∃ v7, v7 = w21 := ⟨_, rfl⟩
    rw [← hvv] at e7 ⊢
    clear hvv
    have hc2p : ¬ c2 ≤ 0 := by have h : 0 < c2 := (by rw [hc2.out]; exact scmp_pos.2 (whole_high Ny.out HFl.out HL2.out)); omega
    clear hc2 HL2
    obtain ⟨⟨ka0, ka1, ka2, ka3⟩, ka4⟩ := (hba.ext e7).four
    obtain ⟨k70, k71, k72, k73⟩ := (hb7.ext e7).two
    obtain ⟨k90, k91, k92, k93⟩ := (hb9.ext e7).two
    go_wp2_with fail
    refine (frac_Sub (hx.ext (hea.trans (e1.trans (e2.trans (e3.trans (e4.trans (e5.trans (e6.trans e7)))))))) (by omega) (hy.ext (hea.trans (e1.trans (e2.trans (e3.trans (e4.trans (e5.trans (e6.trans e7)))))))) (by omega) (zn7.zi.ext e7) (by omega) (zn9.zi.ext e7) (by omega)).mono ?_
    rintro e w8 ⟨gp, gq, er14, ⟨s14, A14, n14, c14, t14, B14, m14, d14, rfl, zn14, zd14, hx8⟩, hl14⟩
    have N1 : Hid (y * 1 ≠ 0) := (show _ ≠ _ by rw [Int.mul_one]; exact Ny.out)
    have LW14 := Lib.hid (hl14.out.2 N1.out).1
    obtain rfl : er14 = 0 := (hl14.out.2 N1.out).2
    have L14 : Hid (ln gp ≤ 2097155) := Nat.le_trans (ln_mono LW14.out.np) (Nat.le_trans (ln_add (ln_mul Lx.out (zn9.ln_le b9)) (ln_mul (by rw [ln_neg]; exact L7.out) Ly.out)) (by omega))
    have M14 : Hid (ln gq ≤ 1048577) := Nat.le_trans (ln_mono LW14.out.nq) (Nat.le_trans (ln_mul Ly.out (zn9.ln_le b9)) (by omega))
    have b14 : n14 ≤ 2097155 := zn14.le L14.out
    have bd14 : m14 ≤ 1048577 := zd14.le M14.out
    have HG := Lib.hid (gap_near Ny.out HN.out LW14.out)
    have HGQ := Lib.hid LW14.out.pos
    clear hl14
    clear ka0 ka1 ka2 ka3 ka4 k70 k71 k72 k73 k90 k91 k92 k93
    go_upto_region 13 with (fail)
    obtain ⟨g14, v8, hgg, hvv, hb14, heb, lg⟩ := boxesL1 w8 39 [.bool s14, .slice A14 n14 c14, .bool t14, .slice B14 m14 d14]
    try rw [hgg, hvv]
    clear hvv hgg lg
    have e8 := hx8.trans heb
    have zn14 := zn14.ext heb
    have zd14 := zd14.ext heb
    clear hx8 heb
    have zn7 := zn7.ext (e7.trans e8)
    have zn9 := zn9.ext (e7.trans e8)
    have hba := hba.ext (e7.trans e8)
    have hbk := hbk.ext (e7.trans e8)
    have hb5 := hb5.ext (e7.trans e8)
    have hb7 := hb7.ext (e7.trans e8)
    have hb9 := hb9.ext (e7.trans e8)
    have ew := (hea.trans (e1.trans (e2.trans (e3.trans (e4.trans (e5.trans (e6.trans (e7.trans e8))))))))
    have sv : g14 < v8.heap.size := hb14.lt
    have nv : g14 ≠ v8.heap.size := by omega
    have nv' := nv.symm
    obtain ⟨⟨k140, k141, k142, k143⟩, k144⟩ := (hb14).four
    go_region_held3 (fun w' => w'.cell? ⟨g14, 0, none⟩ = some (.bool s14) ∧ w'.cell? ⟨g14, 1, none⟩ = some (.slice A14 n14 c14) ∧ w'.cell? ⟨g14, 2, none⟩ = some (.bool t14) ∧ w'.cell? ⟨g14, 3, none⟩ = some (.slice B14 m14 d14)) (go_keep)
      (first
      | (go_at_call 33; (with_reducible refine (zint_Abs (zn14.zi.ext (by repeat (first | exact Ext.refl _ | assumption | apply Ext.drewN | apply Ext.drew | apply Ext.alloc))) (by omega)).mono ?_); rintro e w22 ⟨s22, A22, n22, c22, rfl, z22, hx22⟩; have he22 : Ext v8 w22 := Ext.trans (by repeat (first | exact Ext.refl _ | assumption | apply Ext.drewN | apply Ext.drew | apply Ext.alloc)) hx22; (try (have hnb : Bk w22 v8.heap.size 39 [.bool false, .slice none 0 0, .bool false, .slice none 0 0] := (Bk.new v8.drew 39 [.bool false, .slice none 0 0, .bool false, .slice none 0 0]).ext hx22; obtain ⟨⟨m0, m1, m2, m3⟩, m4, m5, m6, m7⟩ := hnb.four)); clear k140 k141 k142 k143 k144; obtain ⟨⟨k140, k141, k142, k143⟩, k144⟩ := (hb14.ext he22).four))
    all_goals
      clear k140 k141 k142 k143 k144
      have b22 : n22 ≤ 2097155 := z22.le (Nat.le_trans (ln_mono (by rw [Int.natAbs_natCast]; exact Nat.le_refl _)) L14.out)
      first
      | (obtain ⟨v9, hv9⟩ : ∃ v9, (((w22.setCell ⟨v8.heap.size, 0, none⟩ (.bool s22)).setCell ⟨v8.heap.size, 1, none⟩ (.slice A22 n22 c22)).setCell ⟨v8.heap.size, 2, none⟩ (.bool t14)).setCell ⟨v8.heap.size, 3, none⟩ (.slice B14 m14 d14) = v9 := ⟨_, rfl⟩
         rw [hv9]
         obtain ⟨g16, hg16⟩ : ∃ g16, v8.heap.size = g16 := ⟨_, rfl⟩
         have hb16 : Bk v9 g16 39 [.bool s22, .slice A22 n22 c22, .bool t14, .slice B14 m14 d14] := by rw [← hv9, ← hg16]; exact hnb.four_set _ _ _ _
         have e9 : Ext v8 v9 := by rw [← hv9]; exact (Upd.four _ _ _ _).ext he22 (Nat.le_refl _)
         have z22 : Zr v9 (v8.heap.size + 1) s22 A22 n22 c22 (gp.natAbs : Int) := by rw [← hv9]; exact (z22.mono (by simp)).upd (by omega) (Upd.four _ _ _ _)
         rw [hg16]
         clear hv9 hg16 hnb)
      | (obtain ⟨v9, hv9⟩ : ∃ v9, w22.alloc (.cells #[.bool s22, .slice A22 n22 c22, .bool t14, .slice B14 m14 d14] 39) = v9 := ⟨_, rfl⟩
         rw [hv9]
         obtain ⟨g16, hg16⟩ : ∃ g16, w22.heap.size = g16 := ⟨_, rfl⟩
         have hb16 : Bk v9 g16 39 [.bool s22, .slice A22 n22 c22, .bool t14, .slice B14 m14 d14] := by rw [← hv9, ← hg16]; exact Bk.new w22 39 [.bool s22, .slice A22 n22 c22, .bool t14, .slice B14 m14 d14]
         have e9 : Ext v8 v9 := by rw [← hv9]; exact he22.alloc _
         have z22 : Zr v9 v8.heap.size s22 A22 n22 c22 (gp.natAbs : Int) := by rw [← hv9]; exact (z22.ext ((Ext.refl _).alloc _)).mono (by simp)
         rw [hg16]
         clear hv9 hg16)
      have zn7 := zn7.ext e9
      have zn9 := zn9.ext e9
      have zd14 := zd14.ext e9
      have hba := hba.ext e9
      have hbk := hbk.ext e9
      have hb5 := hb5.ext e9
      have hb7 := hb7.ext e9
      have hb9 := hb9.ext e9
      have ew := (hea.trans (e1.trans (e2.trans (e3.trans (e4.trans (e5.trans (e6.trans (e7.trans (e8.trans e9)))))))))
      clear nv nv' sv
      go_upto_region 14 with (fail)
      obtain ⟨⟨k160, k161, k162, k163⟩, k164⟩ := (hb16).four
      obtain ⟨k90, k91, k92, k93⟩ := (hb9).two
      go_region_held3 (fun w' => w'.cell? ⟨g16, 0, none⟩ = some (.bool s22) ∧ w'.cell? ⟨g16, 1, none⟩ = some (.slice A22 n22 c22) ∧ w'.cell? ⟨g16, 2, none⟩ = some (.bool t14) ∧ w'.cell? ⟨g16, 3, none⟩ = some (.slice B14 m14 d14) ∧ w'.cell? ⟨g9, 0, none⟩ = some (.bool s9) ∧ w'.cell? ⟨g9, 1, none⟩ = some (.slice A9 n9 c9)) (go_keep)
        (first
        | (go_at_call 9; refine (zint_Of (v := 2) (by omega)).mono ?_; rintro e w23 ⟨s23, A23, n23, c23, rfl, z23, hx23⟩; have he23 : Ext v9 w23 := Ext.trans (by repeat (first | exact Ext.refl _ | assumption | apply Ext.drewN | apply Ext.drew | apply Ext.alloc)) hx23; have b23 : n23 ≤ 1 := z23.le (by decide +kernel); clear k160 k161 k162 k163 k164 k90 k91 k92 k93; obtain ⟨⟨k160, k161, k162, k163⟩, k164⟩ := (hb16.ext he23).four; obtain ⟨k90, k91, k92, k93⟩ := (hb9.ext he23).two)
        | (go_at_call 32; (with_reducible refine (frac_Cmp (z22.zi.ext (by repeat (first | exact Ext.refl _ | assumption | apply Ext.drewN | apply Ext.drew | apply Ext.alloc))) (by omega) (zd14.zi.ext (by repeat (first | exact Ext.refl _ | assumption | apply Ext.drewN | apply Ext.drew | apply Ext.alloc))) (by omega) (zn9.zi.ext (by repeat (first | exact Ext.refl _ | assumption | apply Ext.drewN | apply Ext.drew | apply Ext.alloc))) (by omega) z23.zi (by omega) (by have := HGQ.out; omega) (by decide)).mono ?_); rintro e w24 ⟨c3, p3, q3, rfl, hc3, hcl3, hch3, HL3, hx24⟩; have he24 : Ext v9 w24 := Ext.trans (by repeat (first | exact Ext.refl _ | assumption | apply Ext.drewN | apply Ext.drew | apply Ext.alloc)) hx24; clear k160 k161 k162 k163 k164 k90 k91 k92 k93; obtain ⟨⟨k160, k161, k162, k163⟩, k164⟩ := (hb16.ext he24).four; obtain ⟨k90, k91, k92, k93⟩ := (hb9.ext he24).two))
      clear k160 k161 k162 k163 k164 k90 k91 k92 k93
      have e10 : Ext v9 w24 := he24
      obtain ⟨v10, hvv⟩ : ∃ v10, v10 = w24 := ⟨_, rfl⟩
      rw [← hvv] at e10 ⊢
      clear hvv
      have HC3 := Lib.hid (cmp_half HGQ.out HG.out.1 HL3.out)
      have hc3n : ¬ 0 < c3 := by rw [hc3.out]; intro h; have := scmp_pos.1 h; have := HC3.out.1; omega
      have hc30 : c3 = 0 → mm % 2 = 0 := fun h => HG.out.2 (HC3.out.2 (scmp_zero.1 (by rw [← hc3.out, h])))
      have HC30 := Lib.hid hc30
      clear hc30 hc3 HL3
      have zn7 := zn7.ext e10
      have zn9 := zn9.ext e10
      have hba := hba.ext e10
      have hbk := hbk.ext e10
      have hb5 := hb5.ext e10
      have hb7 := hb7.ext e10
      have hb9 := hb9.ext e10
      have ew := (hea.trans (e1.trans (e2.trans (e3.trans (e4.trans (e5.trans (e6.trans (e7.trans (e8.trans (e9.trans e10))))))))))
      have sv : g7 < v10.heap.size := hb7.lt
      have nv : g7 ≠ v10.heap.size := by omega
      have nv' := nv.symm
      go_upto_region 15 with (fail)
      obtain ⟨k70, k71, k72, k73⟩ := (hb7).two
      go_region_held3 (fun w' => w'.cell? ⟨g7, 0, none⟩ = some (.bool s7) ∧ w'.cell? ⟨g7, 1, none⟩ = some (.slice A7 n7 c7)) (go_keep)
        (first
        | (go_at_call 9; refine (zint_Of (v := 2) (by omega)).mono ?_; rintro e w25 ⟨s25, A25, n25, c25, rfl, z25, hx25⟩; have he25 : Ext v10 w25 := Ext.trans (by repeat (first | exact Ext.refl _ | assumption | apply Ext.drewN | apply Ext.drew | apply Ext.alloc)) hx25; have b25 : n25 ≤ 1 := z25.le (by decide +kernel); have ng5 : g7 ≠ w25.heap.size := (by have h2 := he25.size; omega); have ng6 := ng5.symm; (try (have hnb : Bk w25 v10.heap.size 24 [.bool false, .slice none 0 0] := (Bk.new v10.drew 24 [.bool false, .slice none 0 0]).ext hx25; obtain ⟨m0, m1, m2, m3⟩ := hnb.two)); clear k70 k71 k72 k73; obtain ⟨k70, k71, k72, k73⟩ := (hb7.ext he25).two)
        | (go_at_call 34; refine (zint_Mod (zn7.zi.ext (he25.trans (by repeat (first | exact Ext.refl _ | assumption | apply Ext.drewN | apply Ext.drew | apply Ext.alloc)))) (by omega) (z25.zi.ext (by repeat (first | exact Ext.refl _ | assumption | apply Ext.drewN | apply Ext.drew | apply Ext.alloc))) (by omega) (by decide)).mono ?_; rintro e w26 ⟨qm, rm, HM, s26, A26, n26, c26, rfl, z26, hx26⟩; have he26 : Ext v10 w26 := Ext.trans (by repeat (first | exact Ext.refl _ | assumption | apply Ext.drewN | apply Ext.drew | apply Ext.alloc)) hx26; have hw26 : Ext w25 w26 := (Ext.trans (by repeat (first | exact Ext.refl _ | assumption | apply Ext.drewN | apply Ext.drew | apply Ext.alloc)) hx26); (first | (have hnc : Bk w26 v10.heap.size 24 [.bool false, .slice none 0 0] := hnb.ext hw26; obtain ⟨m0, m1, m2, m3⟩ := hnc.two) | (have hnd : Bk w26 w25.heap.size 24 [.bool false, .slice none 0 0] := (Bk.new w25 24 [.bool false, .slice none 0 0]).ext hx26; obtain ⟨m0, m1, m2, m3⟩ := hnd.two) | skip); clear k70 k71 k72 k73; obtain ⟨k70, k71, k72, k73⟩ := (hb7.ext he26).two))
      all_goals
        clear k70 k71 k72 k73
        have b26 : n26 ≤ 1 := z26.le (ln_i64w (by have := HM.out.lo; omega) (by have := HM.out.hi; omega))
        first
        | (obtain ⟨v11, hv11⟩ : ∃ v11, (w26.setCell ⟨v10.heap.size, 0, none⟩ (.bool s26)).setCell ⟨v10.heap.size, 1, none⟩ (.slice A26 n26 c26) = v11 := ⟨_, rfl⟩
           rw [hv11]
           have hb19 : ∃ g19, v10.heap.size = g19 ∧ Bk v11 g19 24 [.bool s26, .slice A26 n26 c26] ∧ Ext v10 v11 ∧ Zr v11 (g19 + 1) s26 A26 n26 c26 rm := ⟨_, rfl, by rw [← hv11]; exact hnc.two_set _ _, by rw [← hv11]; exact (Upd.two _ _).ext he26 (by first | exact Nat.le_refl _ | exact he25.size), by rw [← hv11]; exact (z26.mono (by have h1 := hx25.size; have h2 := hnc.lt; (try simp at h1); (try simp); (try omega))).upd (by omega) (Upd.two _ _)⟩
           obtain ⟨g19, hg19, hb19, e11, z26⟩ := hb19
           rw [hg19]
           clear hv11 hg19)
        | (obtain ⟨v11, hv11⟩ : ∃ v11, (w26.setCell ⟨w25.heap.size, 0, none⟩ (.bool s26)).setCell ⟨w25.heap.size, 1, none⟩ (.slice A26 n26 c26) = v11 := ⟨_, rfl⟩
           rw [hv11]
           have hb19 : ∃ g19, w25.heap.size = g19 ∧ Bk v11 g19 24 [.bool s26, .slice A26 n26 c26] ∧ Ext v10 v11 ∧ Zr v11 (g19 + 1) s26 A26 n26 c26 rm := ⟨_, rfl, by rw [← hv11]; exact hnd.two_set _ _, by rw [← hv11]; exact (Upd.two _ _).ext he26 (by first | exact Nat.le_refl _ | exact he25.size), by rw [← hv11]; exact (z26.mono (by have h1 := hx25.size; have h2 := hnd.lt; (try simp at h1); (try simp); (try omega))).upd (by omega) (Upd.two _ _)⟩
           obtain ⟨g19, hg19, hb19, e11, z26⟩ := hb19
           rw [hg19]
           clear hv11 hg19)
        | (obtain ⟨v11, hv11⟩ : ∃ v11, w26.alloc (.cells #[.bool s26, .slice A26 n26 c26] 24) = v11 := ⟨_, rfl⟩
           rw [hv11]
           have hb19 : ∃ g19, w26.heap.size = g19 ∧ Bk v11 g19 24 [.bool s26, .slice A26 n26 c26] ∧ Ext v10 v11 ∧ Zr v11 w25.heap.size s26 A26 n26 c26 rm := ⟨_, rfl, by rw [← hv11]; exact Bk.new w26 24 _, by rw [← hv11]; exact he26.alloc _, by rw [← hv11]; exact (z26.ext ((Ext.refl _).alloc _)).mono (by first | exact Nat.le_refl _ | simp)⟩
           obtain ⟨g19, hg19, hb19, e11, z26⟩ := hb19
           rw [hg19]
           clear hv11 hg19)
        have zn5 := zn5.ext (e7.trans (e8.trans (e9.trans (e10.trans e11))))
        have zn9 := zn9.ext e11
        have hba := hba.ext e11
        have hbk := hbk.ext e11
        have hb5 := hb5.ext e11
        have hb9 := hb9.ext e11
        have ew := (hea.trans (e1.trans (e2.trans (e3.trans (e4.trans (e5.trans (e6.trans (e7.trans (e8.trans (e9.trans (e10.trans e11)))))))))))
        have hend : ∀ vz, Ext v11 vz → True := fun _ _ => trivial
        clear hend
        by_cases hc0 : c3 = 0
        case' pos =>
          have hm0 := HC30.out hc0
          have hr0 : rm = 0 := by have h1 := HM.out.eq; have h2 := HM.out.lo; have h3 := HM.out.hi; omega
          subst hc0
          obtain ⟨k190, k191, k192, k193⟩ := (hb19).two
          go_wp2_with fail
          refine (zint_Sign (z26.zi.ext (Ext.refl _)) (by omega)).mono ?_
          rintro e v12 ⟨cs, hcs, hcsl, hcsh, rfl, e12⟩
          obtain rfl : cs = 0 := by rw [hcs.out, hr0]; rfl
          clear k190 k191 k192 k193
          clear hcs hr0 hm0
          go_upto_region 18 with (fail)
        case' neg =>
          have bc3 : (c3 == 0) = false := by simp; omega
          clear hc0
          go_upto_region 18 with (fail)
          have e12 : Ext v11 v11 := Ext.refl _
          obtain ⟨v12, hvv⟩ : ∃ v12, v12 = v11 := ⟨_, rfl⟩
          rw [← hvv]
          have e12 : Ext v11 v12 := by rw [hvv]; exact Ext.refl _
          clear hvv
        all_goals
          obtain ⟨⟨ka0, ka1, ka2, ka3⟩, ka4⟩ := (hba.ext e12).four
          obtain ⟨kk0, kk1, kk2, kk3⟩ := (hbk.ext e12).two
          obtain ⟨k90, k91, k92, k93⟩ := (hb9.ext e12).two
          go_wp2_with fail
          refine (frac_Add (hx.ext (hea.trans (e1.trans (e2.trans (e3.trans (e4.trans (e5.trans (e6.trans (e7.trans (e8.trans (e9.trans (e10.trans (e11.trans e12))))))))))))) (by omega) (hy.ext (hea.trans (e1.trans (e2.trans (e3.trans (e4.trans (e5.trans (e6.trans (e7.trans (e8.trans (e9.trans (e10.trans (e11.trans e12))))))))))))) (by omega) (hk.ext (hea.trans (e1.trans (e2.trans (e3.trans (e4.trans (e5.trans (e6.trans (e7.trans (e8.trans (e9.trans (e10.trans (e11.trans e12))))))))))))) (by omega) (zn9.zi.ext e12) (by omega)).mono ?_
          rintro e w13 ⟨fp, fq, er21, ⟨s21, A21, n21, c21, t21, B21, m21, d21, rfl, zn21, zd21, hx13⟩, hl21⟩
          have LW21 := Lib.hid (hl21.out.2 N1.out).1
          obtain rfl : er21 = 0 := (hl21.out.2 N1.out).2
          have b21 : n21 ≤ 2097155 := zn21.le (Nat.le_trans (ln_mono LW21.out.np) (Nat.le_trans (ln_add (ln_mul Lx.out (zn9.ln_le b9)) (ln_mul Lk.out Ly.out)) (by omega)))
          have bd21 : m21 ≤ 1048577 := zd21.le (Nat.le_trans (ln_mono LW21.out.nq) (Nat.le_trans (ln_mul Ly.out (zn9.ln_le b9)) (by omega)))
          clear hl21
          clear ka0 ka1 ka2 ka3 ka4 kk0 kk1 kk2 kk3 k90 k91 k92 k93
          go_upto_region 19 with (fail)
          obtain ⟨g21, v13, hgg, hvv, hb21, heb, lg⟩ := boxesL1 w13 39 [.bool s21, .slice A21 n21 c21, .bool t21, .slice B21 m21 d21]
          try rw [hgg, hvv]
          clear hvv hgg lg
          have e13 := hx13.trans heb
          have zn21 := zn21.ext heb
          have zd21 := zd21.ext heb
          clear hx13 heb
          obtain ⟨⟨k210, k211, k212, k213⟩, k214⟩ := (hb21).four
          go_wp2_with fail
          refine (frac_Floor (zn21.zi.ext (Ext.refl _)) (by omega) (zd21.zi.ext (Ext.refl _)) (by omega) (by have := LW21.out.pos; omega)).mono ?_
          rintro e w14 ⟨fu, ru, HFu, s31, A31, n31, c31, rfl, zn23, hx14⟩
          have hfu := floor_more Ny.out HFl.out LW21.out HFu.out
          have HU := Lib.hid hfu
          clear hfu
          have b31 : n31 ≤ 1048578 := zn23.le (by rw [HU.out]; exact Nat.le_trans (ln_add L5.out Lk.out) (by omega))
          clear k210 k211 k212 k213 k214
          go_upto_region 20 with (fail)
          obtain ⟨g31, v14, hgg, hvv, hb31, heb, lg⟩ := boxesL1 w14 24 [.bool s31, .slice A31 n31 c31]
          try rw [hgg, hvv]
          clear hvv hgg lg
          have e14 := hx14.trans heb
          have zn23 := zn23.ext heb
          clear hx14 heb
          have zn5 := zn5.ext (e12.trans (e13.trans e14))
          have hbk := hbk.ext (e12.trans (e13.trans e14))
          have hb5 := hb5.ext (e12.trans (e13.trans e14))
          have ew := (hea.trans (e1.trans (e2.trans (e3.trans (e4.trans (e5.trans (e6.trans (e7.trans (e8.trans (e9.trans (e10.trans (e11.trans (e12.trans (e13.trans e14))))))))))))))
          obtain ⟨k310, k311, k312, k313⟩ := (hb31).two
          obtain ⟨k50, k51, k52, k53⟩ := (hb5).two
          obtain ⟨kk0, kk1, kk2, kk3⟩ := (hbk).two
          go_region_held3 (fun w' => w'.cell? ⟨g31, 0, none⟩ = some (.bool s31) ∧ w'.cell? ⟨g31, 1, none⟩ = some (.slice A31 n31 c31) ∧ w'.cell? ⟨g5, 0, none⟩ = some (.bool s5) ∧ w'.cell? ⟨g5, 1, none⟩ = some (.slice A5 n5 c5) ∧ w'.cell? ⟨gk, 0, none⟩ = some (.bool sk) ∧ w'.cell? ⟨gk, 1, none⟩ = some (.slice Ak nk ck)) (go_keep)
            (first
            | (go_at_call 12; (with_reducible refine (zint_Add (zn5.zi.ext (by repeat (first | exact Ext.refl _ | assumption | apply Ext.drewN | apply Ext.drew | apply Ext.alloc))) (by omega) (hk.ext (ew.trans (by repeat (first | exact Ext.refl _ | assumption | apply Ext.drewN | apply Ext.drew | apply Ext.alloc)))) (by omega)).mono ?_); rintro e w32 ⟨s32, A32, n32, c32, rfl, z32, hx32⟩; have he32 : Ext v14 w32 := Ext.trans (by repeat (first | exact Ext.refl _ | assumption | apply Ext.drewN | apply Ext.drew | apply Ext.alloc)) hx32; have b32 : n32 ≤ 1048578 := z32.le (Nat.le_trans (ln_add L5.out Lk.out) (by omega)); clear k310 k311 k312 k313 k50 k51 k52 k53 kk0 kk1 kk2 kk3; obtain ⟨k310, k311, k312, k313⟩ := (hb31.ext he32).two; obtain ⟨k50, k51, k52, k53⟩ := (hb5.ext he32).two; obtain ⟨kk0, kk1, kk2, kk3⟩ := (hbk.ext he32).two)
            | (go_at_call 21; (with_reducible refine (law_alike (zn23.ext (by repeat (first | exact Ext.refl _ | assumption | apply Ext.drewN | apply Ext.drew | apply Ext.alloc))) (by omega) z32 (by omega) (b := true) (decide_eq_true HU.out).symm).mono ?_); rintro e w33 ⟨rfl, hx33⟩; have he33 : Ext v14 w33 := Ext.trans (by repeat (first | exact Ext.refl _ | assumption | apply Ext.drewN | apply Ext.drew | apply Ext.alloc)) hx33; clear k310 k311 k312 k313 k50 k51 k52 k53 kk0 kk1 kk2 kk3; obtain ⟨k310, k311, k312, k313⟩ := (hb31.ext he33).two; obtain ⟨k50, k51, k52, k53⟩ := (hb5.ext he33).two; obtain ⟨kk0, kk1, kk2, kk3⟩ := (hbk.ext he33).two))
          clear k310 k311 k312 k313 k50 k51 k52 k53 kk0 kk1 kk2 kk3
          go_wp2_with fail
          go_ret
          exact ⟨rfl, ew.trans he33⟩
end Go.Proofs.Ythbogoecoebefaa
