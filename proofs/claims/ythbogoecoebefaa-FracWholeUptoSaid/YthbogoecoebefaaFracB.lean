/- fractions: sums, products, quotients -/
import Derived.Test.YthbogoecoebefaaFrac
import Derived.Test.YthbogoecoebefaaSame
namespace Go.Proofs.Ythbogoecoebefaa
open Go.RowKit

theorem ln_mul_le {x y : Int} {a b : Nat} (hx : ln x ≤ a) (hy : ln y ≤ b) {c : Nat} (h : a + b ≤ c) : ln (x * y) ≤ c := Nat.le_trans (ln_mul hx hy) h
theorem ln_muladd_le {x y z : Int} {a b d : Nat} (hx : ln x ≤ a) (hy : ln y ≤ b) (hz : ln z ≤ d) {c : Nat} (h : max (a + b) d + 1 ≤ c) : ln (x * y + z) ≤ c := Nat.le_trans (ln_add (ln_mul hx hy) hz) h

/-- the fraction of x and y, or its refusal -/
def OfP (w : World) (x y : Int) (e : Ending) (w' : World) : Prop :=
  ∃ p q er, RetFE w p q er e w' ∧ Hid ((y = 0 → p = 0 ∧ q = 0 ∧ er = 4) ∧ (y ≠ 0 → Low p q x y ∧ er = 0))
theorem frac_OfP {w : World} {s t : Bool} {A B : Option Addr} {n cap m cap' : Nat} {x y : Int} (hx : Zi w s A n cap x) (hl : n ≤ 68719476736) (hy : Zi w t B m cap' y) (hl' : m ≤ 68719476736) :
    Calls Try.prog 27 #[.agg #[.bool s, .slice A n cap], .agg #[.bool t, .slice B m cap']] w (OfP w x y) := by
  by_cases h0 : y = 0
  · exact (frac_Of_bad hy hl' h0).mono fun e w' h => ⟨0, 0, 4, h, fun _ => ⟨rfl, rfl, rfl⟩, fun h => absurd h0 h⟩
  · refine (frac_Of hx hl hy hl' h0).mono ?_
    rintro e w' ⟨p, q, hlow, h⟩
    exact ⟨p, q, 0, h, fun h => absurd h h0, fun _ => ⟨hlow.out, rfl⟩⟩

set_option maxHeartbeats 1000000 in
theorem frac_whole {w : World} {s s' t t' : Bool} {A A' B B' : Option Addr} {n cap n' cap' m dap m' dap' : Nat} {x y u v : Int} (hx : Zi w s A n cap x) (hl : n ≤ 17179869184) (hy : Zi w s' A' n' cap' y) (hl' : n' ≤ 17179869184) (hu : Zi w t B m dap u) (hk : m ≤ 17179869184) (hv : Zi w t' B' m' dap' v) (hk' : m' ≤ 17179869184) {b : Bool} (hb : b = decide (y ≠ 0 ∧ v ≠ 0)) :
    Calls Try.prog 51 #[.agg #[.bool s, .slice A n cap, .bool s', .slice A' n' cap'], .agg #[.bool t, .slice B m dap, .bool t', .slice B' m' dap']] w (BoolP b w) := by
  have HB := Lib.hid hb
  clear hb
  go_enter Try.func51, Try.ntmps51
  go_upto_region 1 with (fail)
  have hb1 := (Bk.new w 39 [.bool s, .slice A n cap, .bool s', .slice A' n' cap']).alloc (.cells [.bool t, .slice B m dap, .bool t', .slice B' m' dap'].toArray 39)
  have hb2 : Bk ((w.alloc (.cells [.bool s, .slice A n cap, .bool s', .slice A' n' cap'].toArray 39)).alloc (.cells [.bool t, .slice B m dap, .bool t', .slice B' m' dap'].toArray 39)) (w.heap.size + 1) 39 [.bool t, .slice B m dap, .bool t', .slice B' m' dap'] := Bk.fr2
  obtain ⟨wa, hwa⟩ : ∃ wa, (w.alloc (.cells [.bool s, .slice A n cap, .bool s', .slice A' n' cap'].toArray 39)).alloc (.cells [.bool t, .slice B m dap, .bool t', .slice B' m' dap'].toArray 39) = wa := ⟨_, rfl⟩
  have hea : Ext w wa := by rw [← hwa]; exact ((Ext.refl w).alloc _).alloc _
  rw [hwa] at hb1 hb2
  obtain ⟨g2, hg2⟩ : ∃ g2, w.heap.size + 1 = g2 := ⟨_, rfl⟩
  obtain ⟨g, hg⟩ : ∃ g, w.heap.size = g := ⟨_, rfl⟩
  rw [hg2] at hb2 ⊢
  rw [hg] at hb1 ⊢
  change Code.wp _ _ _ _ ((w.alloc (.cells [.bool s, .slice A n cap, .bool s', .slice A' n' cap'].toArray 39)).alloc (.cells [.bool t, .slice B m dap, .bool t', .slice B' m' dap'].toArray 39))
  rw [hwa]
  clear hwa hg hg2
  obtain ⟨⟨a0, a1, a2, a3⟩, a4⟩ := hb1.four
  obtain ⟨⟨b0, b1, b2, b3⟩, b4⟩ := hb2.four
  go_wp2_with fail
  refine (zint_Sign (hy.ext hea) (by omega)).mono ?_
  rintro e w1 ⟨c, hc, hcl, hch, rfl, hx1⟩
  clear a0 a1 a2 a3 a4 b0 b1 b2 b3 b4
  obtain ⟨⟨b0, b1, b2, b3⟩, b4⟩ := (hb2.ext hx1).four
  have hc0 : c = 0 ↔ y = 0 := by rw [hc.out]; exact scmp_zero
  by_cases h0 : y = 0
  · obtain rfl : c = 0 := hc0.2 h0
    obtain rfl : b = false := by rw [HB.out, decide_eq_false (fun h => h.1 h0)]
    clear hc hc0 h0 HB
    go_wp2_with fail
    go_ret
    exact ⟨rfl, hea.trans hx1⟩
  · have bc : (c != 0) = true := by simp; exact fun h => h0 (hc0.1 h)
    have H0 := Lib.hid h0
    clear hc0 hc h0
    go_wp2_with fail
    refine (zint_Sign (hv.ext (hea.trans hx1)) (by omega)).mono ?_
    rintro e w2 ⟨d, hd, hdl, hdh, rfl, hx2⟩
    have hd0 : d = 0 ↔ v = 0 := by rw [hd.out]; exact scmp_zero
    by_cases h0 : v = 0
    · obtain rfl : d = 0 := hd0.2 h0
      obtain rfl : b = false := by rw [HB.out, decide_eq_false (fun h => h.2 h0)]
      clear hd hd0 h0 HB
      go_wp2_with fail
      go_ret
      exact ⟨rfl, hea.trans (hx1.trans hx2)⟩
    · have bd : (d != 0) = true := by simp; exact fun h => h0 (hd0.1 h)
      obtain rfl : b = true := by rw [HB.out, decide_eq_true ⟨H0.out, h0⟩]
      clear hd hd0 h0 HB
      go_wp2_with fail
      go_ret
      exact ⟨rfl, hea.trans (hx1.trans hx2)⟩

set_option maxHeartbeats 4000000 in
theorem frac_Mul {w : World} {s s' t t' : Bool} {A A' B B' : Option Addr} {n cap n' cap' m dap m' dap' : Nat} {x y u v : Int} (hx : Zi w s A n cap x) (hl : n ≤ 17179869184) (hy : Zi w s' A' n' cap' y) (hl' : n' ≤ 17179869184) (hu : Zi w t B m dap u) (hk : m ≤ 17179869184) (hv : Zi w t' B' m' dap' v) (hk' : m' ≤ 17179869184) :
    Calls Try.prog 25 #[.agg #[.bool s, .slice A n cap, .bool s', .slice A' n' cap'], .agg #[.bool t, .slice B m dap, .bool t', .slice B' m' dap']] w (OfP w (x * u) (y * v)) := by
  have lx := Nat.le_trans hx.ln hl
  have ly := Nat.le_trans hy.ln hl'
  have lu := Nat.le_trans hu.ln hk
  have lv := Nat.le_trans hv.ln hk'
  have LX := Lib.hid lx
  have LY := Lib.hid ly
  have LU := Lib.hid lu
  have LV := Lib.hid lv
  clear lx ly lu lv
  go_enter Try.func25, Try.ntmps25
  go_upto_region 1 with (fail)
  obtain ⟨g, g2, g3, wa, hg3, hg2, hg, hwa, hb1, hb2, hb3, hea, l12, l23, l3, n12, n21, n13, n31, n23, n32⟩ := boxesL3 w 39 39 39 [.bool s, .slice A n cap, .bool s', .slice A' n' cap'] [.bool t, .slice B m dap, .bool t', .slice B' m' dap'] [.bool false, .slice none 0 0, .bool false, .slice none 0 0]
  rw [hg3, hg2, hg, hwa]
  have hgw : w.heap.size ≤ g := Nat.le_of_eq hg
  clear hwa hg hg2 hg3
  obtain ⟨⟨a0, a1, a2, a3⟩, a4⟩ := hb1.four
  obtain ⟨⟨b0, b1, b2, b3⟩, b4⟩ := hb2.four
  obtain ⟨⟨k0, k1, k2, k3⟩, k4, k5, k6, k7⟩ := hb3.four
  go_region_held3 (fun w' => w'.cell? ⟨g, 0, none⟩ = some (.bool s) ∧ w'.cell? ⟨g, 1, none⟩ = some (.slice A n cap) ∧ w'.cell? ⟨g, 2, none⟩ = some (.bool s') ∧ w'.cell? ⟨g, 3, none⟩ = some (.slice A' n' cap') ∧ w'.cell? ⟨g2, 0, none⟩ = some (.bool t) ∧ w'.cell? ⟨g2, 1, none⟩ = some (.slice B m dap) ∧ w'.cell? ⟨g2, 2, none⟩ = some (.bool t') ∧ w'.cell? ⟨g2, 3, none⟩ = some (.slice B' m' dap')) (go_keep)
    (first
    | (go_at_call 20; (with_reducible refine (zint_Mul (hx.ext (hea.trans (by repeat (first | exact Ext.refl _ | assumption | apply Ext.drewN | apply Ext.drew | apply Ext.alloc)))) (by omega) (hu.ext (hea.trans (by repeat (first | exact Ext.refl _ | assumption | apply Ext.drewN | apply Ext.drew | apply Ext.alloc)))) (by omega)).mono ?_); rintro e w5 ⟨s5, A5, n5, c5, rfl, z5, hx5⟩; have he5 : Ext wa w5 := Ext.trans (by repeat (first | exact Ext.refl _ | assumption | apply Ext.drewN | apply Ext.drew | apply Ext.alloc)) hx5; have q5 : n5 ≤ 68719476736 := (Nat.le_trans (z5.le (ln_mul LX.out LU.out)) (by omega)); (try have z6 := z6.ext hx5); clear a0 a1 a2 a3 a4 b0 b1 b2 b3 b4 k0 k1 k2 k3 k4 k5 k6 k7; obtain ⟨⟨a0, a1, a2, a3⟩, a4⟩ := (hb1.ext he5).four; obtain ⟨⟨b0, b1, b2, b3⟩, b4⟩ := (hb2.ext he5).four; obtain ⟨⟨k0, k1, k2, k3⟩, k4, k5, k6, k7⟩ := (hb3.ext he5).four)
    | (go_at_call 20; (with_reducible refine (zint_Mul (hy.ext (hea.trans (by repeat (first | exact Ext.refl _ | assumption | apply Ext.drewN | apply Ext.drew | apply Ext.alloc)))) (by omega) (hv.ext (hea.trans (by repeat (first | exact Ext.refl _ | assumption | apply Ext.drewN | apply Ext.drew | apply Ext.alloc)))) (by omega)).mono ?_); rintro e w6 ⟨s6, A6, n6, c6, rfl, z6, hx6⟩; have he6 : Ext wa w6 := Ext.trans (by repeat (first | exact Ext.refl _ | assumption | apply Ext.drewN | apply Ext.drew | apply Ext.alloc)) hx6; have q6 : n6 ≤ 68719476736 := (Nat.le_trans (z6.le (ln_mul LY.out LV.out)) (by omega)); (try have z5 := z5.ext hx6); clear a0 a1 a2 a3 a4 b0 b1 b2 b3 b4 k0 k1 k2 k3 k4 k5 k6 k7; obtain ⟨⟨a0, a1, a2, a3⟩, a4⟩ := (hb1.ext he6).four; obtain ⟨⟨b0, b1, b2, b3⟩, b4⟩ := (hb2.ext he6).four; obtain ⟨⟨k0, k1, k2, k3⟩, k4, k5, k6, k7⟩ := (hb3.ext he6).four)
    | (go_at_call 27; (with_reducible refine (frac_OfP z5.zi q5 z6.zi q6).mono ?_); rintro e w9 ⟨p, q, er, ⟨s8, A8, n8, c8, s9, A9, n9, c9, rfl, z8, z9, hx9⟩, hlow⟩; have he9 : Ext wa w9 := Ext.trans (by repeat (first | exact Ext.refl _ | assumption | apply Ext.drewN | apply Ext.drew | apply Ext.alloc)) hx9; clear a0 a1 a2 a3 a4 b0 b1 b2 b3 b4 k0 k1 k2 k3 k4 k5 k6 k7; obtain ⟨⟨a0, a1, a2, a3⟩, a4⟩ := (hb1.ext he9).four; obtain ⟨⟨b0, b1, b2, b3⟩, b4⟩ := (hb2.ext he9).four; obtain ⟨⟨k0, k1, k2, k3⟩, k4, k5, k6, k7⟩ := (hb3.ext he9).four))
  all_goals
    go_wp2_with fail
    refine bodyPost_ret (res_fe rfl rfl rfl ((hb3.ext he9).four_set _ _ _ _)) rfl ?_
    exact ⟨p, q, er, fin_frac (g := g3) (base := wa.heap.size) (z8.mono (by first | exact Nat.le_refl _ | exact Ext.size (by assumption))) (z9.mono (by first | exact Nat.le_refl _ | exact Ext.size (by assumption))) (by omega) (by omega) (hea.trans he9) er, hlow⟩

set_option maxHeartbeats 8000000 in
theorem frac_Add {w : World} {s s' t t' : Bool} {A A' B B' : Option Addr} {n cap n' cap' m dap m' dap' : Nat} {x y u v : Int} (hx : Zi w s A n cap x) (hl : n ≤ 17179869184) (hy : Zi w s' A' n' cap' y) (hl' : n' ≤ 17179869184) (hu : Zi w t B m dap u) (hk : m ≤ 17179869184) (hv : Zi w t' B' m' dap' v) (hk' : m' ≤ 17179869184) :
    Calls Try.prog 24 #[.agg #[.bool s, .slice A n cap, .bool s', .slice A' n' cap'], .agg #[.bool t, .slice B m dap, .bool t', .slice B' m' dap']] w (OfP w (x * v + u * y) (y * v)) := by
  have lx := Nat.le_trans hx.ln hl
  have ly := Nat.le_trans hy.ln hl'
  have lu := Nat.le_trans hu.ln hk
  have lv := Nat.le_trans hv.ln hk'
  have LX := Lib.hid lx
  have LY := Lib.hid ly
  have LU := Lib.hid lu
  have LV := Lib.hid lv
  clear lx ly lu lv
  go_enter Try.func24, Try.ntmps24
  go_upto_region 1 with (fail)
  obtain ⟨g, g2, g3, wa, hg3, hg2, hg, hwa, hb1, hb2, hb3, hea, l12, l23, l3, n12, n21, n13, n31, n23, n32⟩ := boxesL3 w 39 39 39 [.bool s, .slice A n cap, .bool s', .slice A' n' cap'] [.bool t, .slice B m dap, .bool t', .slice B' m' dap'] [.bool false, .slice none 0 0, .bool false, .slice none 0 0]
  rw [hg3, hg2, hg, hwa]
  have hgw : w.heap.size ≤ g := Nat.le_of_eq hg
  clear hwa hg hg2 hg3
  obtain ⟨⟨a0, a1, a2, a3⟩, a4⟩ := hb1.four
  obtain ⟨⟨b0, b1, b2, b3⟩, b4⟩ := hb2.four
  obtain ⟨⟨k0, k1, k2, k3⟩, k4, k5, k6, k7⟩ := hb3.four
  go_wp2_with fail
  refine (frac_whole (hx.ext hea) hl (hy.ext hea) hl' (hu.ext hea) hk (hv.ext hea) hk' rfl).mono ?_
  rintro e ww ⟨rfl, hxw⟩
  clear a0 a1 a2 a3 a4 b0 b1 b2 b3 b4 k0 k1 k2 k3 k4 k5 k6 k7
  obtain ⟨⟨a0, a1, a2, a3⟩, a4⟩ := (hb1.ext hxw).four
  obtain ⟨⟨b0, b1, b2, b3⟩, b4⟩ := (hb2.ext hxw).four
  obtain ⟨⟨k0, k1, k2, k3⟩, k4, k5, k6, k7⟩ := (hb3.ext hxw).four
  by_cases hz : y ≠ 0 ∧ v ≠ 0
  · have ed : decide (y ≠ 0 ∧ v ≠ 0) = true := decide_eq_true hz
    rw [ed]
    have HZ := Lib.hid hz
    clear hz ed
    have hbw1 := hb1.ext hxw
    have hbw2 := hb2.ext hxw
    have hbw3 := hb3.ext hxw
    have hew := hea.trans hxw
    have hsw := hxw.size
    go_upto_region 3 with (fail)
    go_region_held3 (fun w' => w'.cell? ⟨g, 0, none⟩ = some (.bool s) ∧ w'.cell? ⟨g, 1, none⟩ = some (.slice A n cap) ∧ w'.cell? ⟨g, 2, none⟩ = some (.bool s') ∧ w'.cell? ⟨g, 3, none⟩ = some (.slice A' n' cap') ∧ w'.cell? ⟨g2, 0, none⟩ = some (.bool t) ∧ w'.cell? ⟨g2, 1, none⟩ = some (.slice B m dap) ∧ w'.cell? ⟨g2, 2, none⟩ = some (.bool t') ∧ w'.cell? ⟨g2, 3, none⟩ = some (.slice B' m' dap')) (go_keep)
      (first
      | (go_at_call 20; (with_reducible refine (zint_Mul (hu.ext (hew.trans (by repeat (first | exact Ext.refl _ | assumption | apply Ext.drewN | apply Ext.drew | apply Ext.alloc)))) (by omega) (hy.ext (hew.trans (by repeat (first | exact Ext.refl _ | assumption | apply Ext.drewN | apply Ext.drew | apply Ext.alloc)))) (by omega)).mono ?_); rintro e w5 ⟨s5, A5, n5, c5, rfl, z5, hx5⟩; have he5 : Ext ww w5 := Ext.trans (by repeat (first | exact Ext.refl _ | assumption | apply Ext.drewN | apply Ext.drew | apply Ext.alloc)) hx5; have q5 : n5 ≤ 68719476736 := (Nat.le_trans (z5.le (ln_mul LU.out LY.out)) (by omega)); (try have z6 := z6.ext hx5); (try have z7 := z7.ext hx5); clear a0 a1 a2 a3 a4 b0 b1 b2 b3 b4 k0 k1 k2 k3 k4 k5 k6 k7; obtain ⟨⟨a0, a1, a2, a3⟩, a4⟩ := (hbw1.ext he5).four; obtain ⟨⟨b0, b1, b2, b3⟩, b4⟩ := (hbw2.ext he5).four; obtain ⟨⟨k0, k1, k2, k3⟩, k4, k5, k6, k7⟩ := (hbw3.ext he5).four)
      | (go_at_call 46; (with_reducible refine (zint_MulAdd (hx.ext (hew.trans (by repeat (first | exact Ext.refl _ | assumption | apply Ext.drewN | apply Ext.drew | apply Ext.alloc)))) (by omega) (hv.ext (hew.trans (by repeat (first | exact Ext.refl _ | assumption | apply Ext.drewN | apply Ext.drew | apply Ext.alloc)))) (by omega) z5.zi q5).mono ?_); rintro e w6 ⟨s6, A6, n6, c6, rfl, z6, hx6⟩; have he6 : Ext ww w6 := Ext.trans (by repeat (first | exact Ext.refl _ | assumption | apply Ext.drewN | apply Ext.drew | apply Ext.alloc)) hx6; have q6 : n6 ≤ 68719476736 := (Nat.le_trans (z6.le (ln_add (ln_mul LX.out LV.out) (ln_mul LU.out LY.out))) (by omega)); (try have z7 := z7.ext hx6); clear a0 a1 a2 a3 a4 b0 b1 b2 b3 b4 k0 k1 k2 k3 k4 k5 k6 k7; obtain ⟨⟨a0, a1, a2, a3⟩, a4⟩ := (hbw1.ext he6).four; obtain ⟨⟨b0, b1, b2, b3⟩, b4⟩ := (hbw2.ext he6).four; obtain ⟨⟨k0, k1, k2, k3⟩, k4, k5, k6, k7⟩ := (hbw3.ext he6).four)
      | (go_at_call 20; (with_reducible refine (zint_Mul (hy.ext (hew.trans (by repeat (first | exact Ext.refl _ | assumption | apply Ext.drewN | apply Ext.drew | apply Ext.alloc)))) (by omega) (hv.ext (hew.trans (by repeat (first | exact Ext.refl _ | assumption | apply Ext.drewN | apply Ext.drew | apply Ext.alloc)))) (by omega)).mono ?_); rintro e w7 ⟨s7, A7, n7, c7, rfl, z7, hx7⟩; have he7 : Ext ww w7 := Ext.trans (by repeat (first | exact Ext.refl _ | assumption | apply Ext.drewN | apply Ext.drew | apply Ext.alloc)) hx7; have q7 : n7 ≤ 68719476736 := (Nat.le_trans (z7.le (ln_mul LY.out LV.out)) (by omega)); (try have z5 := z5.ext hx7); (try have z6 := z6.ext hx7); clear a0 a1 a2 a3 a4 b0 b1 b2 b3 b4 k0 k1 k2 k3 k4 k5 k6 k7; obtain ⟨⟨a0, a1, a2, a3⟩, a4⟩ := (hbw1.ext he7).four; obtain ⟨⟨b0, b1, b2, b3⟩, b4⟩ := (hbw2.ext he7).four; obtain ⟨⟨k0, k1, k2, k3⟩, k4, k5, k6, k7⟩ := (hbw3.ext he7).four)
      | (go_at_call 27; (with_reducible refine (frac_OfP z6.zi q6 z7.zi q7).mono ?_); rintro e w9 ⟨p, q, er, ⟨s8, A8, n8, c8, s9, A9, n9, c9, rfl, z8, z9, hx9⟩, hlow⟩; have he9 : Ext ww w9 := Ext.trans (by repeat (first | exact Ext.refl _ | assumption | apply Ext.drewN | apply Ext.drew | apply Ext.alloc)) hx9; clear a0 a1 a2 a3 a4 b0 b1 b2 b3 b4 k0 k1 k2 k3 k4 k5 k6 k7; obtain ⟨⟨a0, a1, a2, a3⟩, a4⟩ := (hbw1.ext he9).four; obtain ⟨⟨b0, b1, b2, b3⟩, b4⟩ := (hbw2.ext he9).four; obtain ⟨⟨k0, k1, k2, k3⟩, k4, k5, k6, k7⟩ := (hbw3.ext he9).four))
    all_goals
      go_wp2_with fail
      refine bodyPost_ret (res_fe rfl rfl rfl ((hbw3.ext he9).four_set _ _ _ _)) rfl ?_
      exact ⟨p, q, er, fin_frac (g := g3) (base := ww.heap.size) (z8.mono (by first | exact Nat.le_refl _ | exact Ext.size (by assumption))) (z9.mono (by first | exact Nat.le_refl _ | exact Ext.size (by assumption))) (by omega) (by omega) (hew.trans he9) er, hlow⟩
  · have ed : decide (y ≠ 0 ∧ v ≠ 0) = false := decide_eq_false hz
    rw [ed]
    have HZ := Lib.hid hz
    clear hz ed
    go_wp2_with fail
    refine bodyPost_ret (res_fe rfl rfl rfl ((hb3.ext hxw).four_set _ _ _ _)) rfl ?_
    exact ⟨0, 0, 4, fin_frac (g := g3) (base := wa.heap.size) Zr.zero Zr.zero (by omega) (by omega) (hea.trans hxw) 4, ⟨fun _ => ⟨rfl, rfl, rfl⟩, fun h => absurd ⟨fun e => h (by rw [e, Int.zero_mul]), fun e => h (by rw [e, Int.mul_zero])⟩ HZ.out⟩⟩

/-- a quotient of fractions, or its refusal -/
def DivP (w : World) (x y u v : Int) (e : Ending) (w' : World) : Prop :=
  ∃ p q er, RetFE w p q er e w' ∧ Hid ((y = 0 ∨ u = 0 ∨ v = 0 → p = 0 ∧ q = 0 ∧ er = 4) ∧ (y ≠ 0 → u ≠ 0 → v ≠ 0 → Low p q (x * v) (y * u) ∧ er = 0))
theorem div_of {x y u v p q er : Int} (hz : y ≠ 0 ∧ v ≠ 0) (h : (y * u = 0 → p = 0 ∧ q = 0 ∧ er = 4) ∧ (y * u ≠ 0 → Low p q (x * v) (y * u) ∧ er = 0)) :
    (y = 0 ∨ u = 0 ∨ v = 0 → p = 0 ∧ q = 0 ∧ er = 4) ∧ (y ≠ 0 → u ≠ 0 → v ≠ 0 → Low p q (x * v) (y * u) ∧ er = 0) := by
  refine ⟨fun h0 => ?_, fun hy hu _ => h.2 (Int.mul_ne_zero hy hu)⟩
  rcases h0 with h0 | h0 | h0
  · exact absurd h0 hz.1
  · exact h.1 (by rw [h0, Int.mul_zero])
  · exact absurd h0 hz.2

set_option maxHeartbeats 8000000 in
theorem frac_Div {w : World} {s s' t t' : Bool} {A A' B B' : Option Addr} {n cap n' cap' m dap m' dap' : Nat} {x y u v : Int} (hx : Zi w s A n cap x) (hl : n ≤ 17179869184) (hy : Zi w s' A' n' cap' y) (hl' : n' ≤ 17179869184) (hu : Zi w t B m dap u) (hk : m ≤ 17179869184) (hv : Zi w t' B' m' dap' v) (hk' : m' ≤ 17179869184) :
    Calls Try.prog 29 #[.agg #[.bool s, .slice A n cap, .bool s', .slice A' n' cap'], .agg #[.bool t, .slice B m dap, .bool t', .slice B' m' dap']] w (DivP w x y u v) := by
  have lx := Nat.le_trans hx.ln hl
  have ly := Nat.le_trans hy.ln hl'
  have lu := Nat.le_trans hu.ln hk
  have lv := Nat.le_trans hv.ln hk'
  have LX := Lib.hid lx
  have LY := Lib.hid ly
  have LU := Lib.hid lu
  have LV := Lib.hid lv
  clear lx ly lu lv
  go_enter Try.func29, Try.ntmps29
  go_upto_region 1 with (fail)
  obtain ⟨g, g2, g3, wa, hg3, hg2, hg, hwa, hb1, hb2, hb3, hea, l12, l23, l3, n12, n21, n13, n31, n23, n32⟩ := boxesL3 w 39 39 39 [.bool s, .slice A n cap, .bool s', .slice A' n' cap'] [.bool t, .slice B m dap, .bool t', .slice B' m' dap'] [.bool false, .slice none 0 0, .bool false, .slice none 0 0]
  rw [hg3, hg2, hg, hwa]
  have hgw : w.heap.size ≤ g := Nat.le_of_eq hg
  clear hwa hg hg2 hg3
  obtain ⟨⟨a0, a1, a2, a3⟩, a4⟩ := hb1.four
  obtain ⟨⟨b0, b1, b2, b3⟩, b4⟩ := hb2.four
  obtain ⟨⟨k0, k1, k2, k3⟩, k4, k5, k6, k7⟩ := hb3.four
  go_wp2_with fail
  refine (frac_whole (hx.ext hea) hl (hy.ext hea) hl' (hu.ext hea) hk (hv.ext hea) hk' rfl).mono ?_
  rintro e ww ⟨rfl, hxw⟩
  clear a0 a1 a2 a3 a4 b0 b1 b2 b3 b4 k0 k1 k2 k3 k4 k5 k6 k7
  obtain ⟨⟨a0, a1, a2, a3⟩, a4⟩ := (hb1.ext hxw).four
  obtain ⟨⟨b0, b1, b2, b3⟩, b4⟩ := (hb2.ext hxw).four
  obtain ⟨⟨k0, k1, k2, k3⟩, k4, k5, k6, k7⟩ := (hb3.ext hxw).four
  by_cases hz : y ≠ 0 ∧ v ≠ 0
  · have ed : decide (y ≠ 0 ∧ v ≠ 0) = true := decide_eq_true hz
    rw [ed]
    have HZ := Lib.hid hz
    clear hz ed
    have hbw1 := hb1.ext hxw
    have hbw2 := hb2.ext hxw
    have hbw3 := hb3.ext hxw
    have hew := hea.trans hxw
    have hsw := hxw.size
    go_upto_region 3 with (fail)
    go_region_held3 (fun w' => w'.cell? ⟨g, 0, none⟩ = some (.bool s) ∧ w'.cell? ⟨g, 1, none⟩ = some (.slice A n cap) ∧ w'.cell? ⟨g, 2, none⟩ = some (.bool s') ∧ w'.cell? ⟨g, 3, none⟩ = some (.slice A' n' cap') ∧ w'.cell? ⟨g2, 0, none⟩ = some (.bool t) ∧ w'.cell? ⟨g2, 1, none⟩ = some (.slice B m dap) ∧ w'.cell? ⟨g2, 2, none⟩ = some (.bool t') ∧ w'.cell? ⟨g2, 3, none⟩ = some (.slice B' m' dap')) (go_keep)
      (first
      | (go_at_call 20; (with_reducible refine (zint_Mul (hx.ext (hew.trans (by repeat (first | exact Ext.refl _ | assumption | apply Ext.drewN | apply Ext.drew | apply Ext.alloc)))) (by omega) (hv.ext (hew.trans (by repeat (first | exact Ext.refl _ | assumption | apply Ext.drewN | apply Ext.drew | apply Ext.alloc)))) (by omega)).mono ?_); rintro e w5 ⟨s5, A5, n5, c5, rfl, z5, hx5⟩; have he5 : Ext ww w5 := Ext.trans (by repeat (first | exact Ext.refl _ | assumption | apply Ext.drewN | apply Ext.drew | apply Ext.alloc)) hx5; have q5 : n5 ≤ 68719476736 := (Nat.le_trans (z5.le (ln_mul LX.out LV.out)) (by omega)); (try have z6 := z6.ext hx5); clear a0 a1 a2 a3 a4 b0 b1 b2 b3 b4 k0 k1 k2 k3 k4 k5 k6 k7; obtain ⟨⟨a0, a1, a2, a3⟩, a4⟩ := (hbw1.ext he5).four; obtain ⟨⟨b0, b1, b2, b3⟩, b4⟩ := (hbw2.ext he5).four; obtain ⟨⟨k0, k1, k2, k3⟩, k4, k5, k6, k7⟩ := (hbw3.ext he5).four)
      | (go_at_call 20; (with_reducible refine (zint_Mul (hy.ext (hew.trans (by repeat (first | exact Ext.refl _ | assumption | apply Ext.drewN | apply Ext.drew | apply Ext.alloc)))) (by omega) (hu.ext (hew.trans (by repeat (first | exact Ext.refl _ | assumption | apply Ext.drewN | apply Ext.drew | apply Ext.alloc)))) (by omega)).mono ?_); rintro e w6 ⟨s6, A6, n6, c6, rfl, z6, hx6⟩; have he6 : Ext ww w6 := Ext.trans (by repeat (first | exact Ext.refl _ | assumption | apply Ext.drewN | apply Ext.drew | apply Ext.alloc)) hx6; have q6 : n6 ≤ 68719476736 := (Nat.le_trans (z6.le (ln_mul LY.out LU.out)) (by omega)); (try have z5 := z5.ext hx6); clear a0 a1 a2 a3 a4 b0 b1 b2 b3 b4 k0 k1 k2 k3 k4 k5 k6 k7; obtain ⟨⟨a0, a1, a2, a3⟩, a4⟩ := (hbw1.ext he6).four; obtain ⟨⟨b0, b1, b2, b3⟩, b4⟩ := (hbw2.ext he6).four; obtain ⟨⟨k0, k1, k2, k3⟩, k4, k5, k6, k7⟩ := (hbw3.ext he6).four)
      | (go_at_call 27; (with_reducible refine (frac_OfP z5.zi q5 z6.zi q6).mono ?_); rintro e w9 ⟨p, q, er, ⟨s8, A8, n8, c8, s9, A9, n9, c9, rfl, z8, z9, hx9⟩, hlow⟩; have he9 : Ext ww w9 := Ext.trans (by repeat (first | exact Ext.refl _ | assumption | apply Ext.drewN | apply Ext.drew | apply Ext.alloc)) hx9; clear a0 a1 a2 a3 a4 b0 b1 b2 b3 b4 k0 k1 k2 k3 k4 k5 k6 k7; obtain ⟨⟨a0, a1, a2, a3⟩, a4⟩ := (hbw1.ext he9).four; obtain ⟨⟨b0, b1, b2, b3⟩, b4⟩ := (hbw2.ext he9).four; obtain ⟨⟨k0, k1, k2, k3⟩, k4, k5, k6, k7⟩ := (hbw3.ext he9).four))
    all_goals
      go_wp2_with fail
      refine bodyPost_ret (res_fe rfl rfl rfl ((hbw3.ext he9).four_set _ _ _ _)) rfl ?_
      exact ⟨p, q, er, fin_frac (g := g3) (base := ww.heap.size) (z8.mono (by first | exact Nat.le_refl _ | exact Ext.size (by assumption))) (z9.mono (by first | exact Nat.le_refl _ | exact Ext.size (by assumption))) (by omega) (by omega) (hew.trans he9) er, div_of HZ.out hlow.out⟩
  · have ed : decide (y ≠ 0 ∧ v ≠ 0) = false := decide_eq_false hz
    rw [ed]
    have HZ := Lib.hid hz
    clear hz ed
    go_wp2_with fail
    refine bodyPost_ret (res_fe rfl rfl rfl ((hb3.ext hxw).four_set _ _ _ _)) rfl ?_
    exact ⟨0, 0, 4, fin_frac (g := g3) (base := wa.heap.size) Zr.zero Zr.zero (by omega) (by omega) (hea.trans hxw) 4, ⟨fun _ => ⟨rfl, rfl, rfl⟩, fun h1 _ h2 => absurd ⟨h1, h2⟩ HZ.out⟩⟩

set_option maxHeartbeats 4000000 in
theorem frac_Sub {w : World} {s s' t t' : Bool} {A A' B B' : Option Addr} {n cap n' cap' m dap m' dap' : Nat} {x y u v : Int} (hx : Zi w s A n cap x) (hl : n ≤ 17179869184) (hy : Zi w s' A' n' cap' y) (hl' : n' ≤ 17179869184) (hu : Zi w t B m dap u) (hk : m ≤ 17179869184) (hv : Zi w t' B' m' dap' v) (hk' : m' ≤ 17179869184) :
    Calls Try.prog 28 #[.agg #[.bool s, .slice A n cap, .bool s', .slice A' n' cap'], .agg #[.bool t, .slice B m dap, .bool t', .slice B' m' dap']] w (OfP w (x * v + -u * y) (y * v)) := by
  have lx := Nat.le_trans hx.ln hl
  have ly := Nat.le_trans hy.ln hl'
  have lu := Nat.le_trans hu.ln hk
  have lv := Nat.le_trans hv.ln hk'
  have LX := Lib.hid lx
  have LY := Lib.hid ly
  have LU := Lib.hid lu
  have LV := Lib.hid lv
  clear lx ly lu lv
  go_enter Try.func28, Try.ntmps28
  go_upto_region 1 with (fail)
  obtain ⟨g, g2, g3, wa, hg3, hg2, hg, hwa, hb1, hb2, hb3, hea, l12, l23, l3, n12, n21, n13, n31, n23, n32⟩ := boxesL3 w 39 39 39 [.bool s, .slice A n cap, .bool s', .slice A' n' cap'] [.bool t, .slice B m dap, .bool t', .slice B' m' dap'] [.bool false, .slice none 0 0, .bool false, .slice none 0 0]
  rw [hg3, hg2, hg, hwa]
  have hgw : w.heap.size ≤ g := Nat.le_of_eq hg
  clear hwa hg hg2 hg3
  obtain ⟨⟨a0, a1, a2, a3⟩, a4⟩ := hb1.four
  obtain ⟨⟨b0, b1, b2, b3⟩, b4⟩ := hb2.four
  obtain ⟨⟨k0, k1, k2, k3⟩, k4, k5, k6, k7⟩ := hb3.four
  go_region_held3 (fun w' => w'.cell? ⟨g, 0, none⟩ = some (.bool s) ∧ w'.cell? ⟨g, 1, none⟩ = some (.slice A n cap) ∧ w'.cell? ⟨g, 2, none⟩ = some (.bool s') ∧ w'.cell? ⟨g, 3, none⟩ = some (.slice A' n' cap') ∧ w'.cell? ⟨g2, 0, none⟩ = some (.bool t) ∧ w'.cell? ⟨g2, 1, none⟩ = some (.slice B m dap) ∧ w'.cell? ⟨g2, 2, none⟩ = some (.bool t') ∧ w'.cell? ⟨g2, 3, none⟩ = some (.slice B' m' dap')) (go_keep)
    (first
    | (go_at_call 53; (with_reducible refine (zint_Neg (hu.ext (hea.trans (by repeat (first | exact Ext.refl _ | assumption | apply Ext.drewN | apply Ext.drew | apply Ext.alloc)))) (by omega)).mono ?_); rintro e w5 ⟨s5, A5, n5, c5, rfl, z5, hx5⟩; have he5 : Ext wa w5 := Ext.trans (by repeat (first | exact Ext.refl _ | assumption | apply Ext.drewN | apply Ext.drew | apply Ext.alloc)) hx5; have q5 : n5 ≤ 17179869184 := (Nat.le_trans (z5.le (by rw [ln_neg]; exact LU.out)) (by omega)); clear a0 a1 a2 a3 a4 b0 b1 b2 b3 b4 k0 k1 k2 k3 k4 k5 k6 k7; obtain ⟨⟨a0, a1, a2, a3⟩, a4⟩ := (hb1.ext he5).four; obtain ⟨⟨b0, b1, b2, b3⟩, b4⟩ := (hb2.ext he5).four; obtain ⟨⟨k0, k1, k2, k3⟩, k4, k5, k6, k7⟩ := (hb3.ext he5).four)
    | (go_at_call 24; (with_reducible refine (frac_Add (hx.ext (hea.trans (by repeat (first | exact Ext.refl _ | assumption | apply Ext.drewN | apply Ext.drew | apply Ext.alloc)))) (by omega) (hy.ext (hea.trans (by repeat (first | exact Ext.refl _ | assumption | apply Ext.drewN | apply Ext.drew | apply Ext.alloc)))) (by omega) z5.zi q5 (hv.ext (hea.trans (by repeat (first | exact Ext.refl _ | assumption | apply Ext.drewN | apply Ext.drew | apply Ext.alloc)))) (by omega)).mono ?_); rintro e w9 ⟨p, q, er, ⟨s8, A8, n8, c8, s9, A9, n9, c9, rfl, z8, z9, hx9⟩, hlow⟩; have he9 : Ext wa w9 := Ext.trans (by repeat (first | exact Ext.refl _ | assumption | apply Ext.drewN | apply Ext.drew | apply Ext.alloc)) hx9; clear a0 a1 a2 a3 a4 b0 b1 b2 b3 b4 k0 k1 k2 k3 k4 k5 k6 k7; obtain ⟨⟨a0, a1, a2, a3⟩, a4⟩ := (hb1.ext he9).four; obtain ⟨⟨b0, b1, b2, b3⟩, b4⟩ := (hb2.ext he9).four; obtain ⟨⟨k0, k1, k2, k3⟩, k4, k5, k6, k7⟩ := (hb3.ext he9).four))
  all_goals
    go_wp2_with fail
    refine bodyPost_ret (res_fe rfl rfl rfl ((hb3.ext he9).four_set _ _ _ _)) rfl ?_
    exact ⟨p, q, er, fin_frac (g := g3) (base := wa.heap.size) (z8.mono (by first | exact Nat.le_refl _ | exact Ext.size (by assumption))) (z9.mono (by first | exact Nat.le_refl _ | exact Ext.size (by assumption))) (by omega) (by omega) (hea.trans he9) er, hlow⟩
end Go.Proofs.Ythbogoecoebefaa
