/- trellislaw08: lowest, names, awake -/
import Derived.Test.YtmaconeeonkdgaaLaw8
namespace Go.Proofs.Ytmaconeeonkdgaa
open Go.RowKit

set_option maxHeartbeats 4000000 in
theorem law_lowest {w : World} {base base' : Nat} {s s' : Bool} {A A' : Option Addr} {n cap n' cap' : Nat} {p q : Int} (hp : Zr w base s A n cap p) (hl : n ≤ 17179869184) (hq : Zr w base' s' A' n' cap' q) (hl' : n' ≤ 17179869184) (hpos : 0 < q) (hco : Int.gcd p q = 1) :
    Calls Try.prog 19 #[.agg #[.bool s, .slice A n cap, .bool s', .slice A' n' cap']] w (BoolP true w) := by
  have HP := Lib.hid hpos
  have HCO := Lib.hid hco
  clear hpos hco
  go_enter Try.func19, Try.ntmps19
  go_upto_region 1 with (fail)
  obtain ⟨g, wa, hg, hwa, hb1, hea, l2⟩ := boxesL1 w 29 [.bool s, .slice A n cap, .bool s', .slice A' n' cap']
  rw [hg, hwa]
  clear hwa hg
  obtain ⟨⟨a0, a1, a2, a3⟩, a4⟩ := hb1.four
  go_wp2_with fail
  refine (bezout_Gcd (hp.zi.ext hea) (by omega) (hq.zi.ext hea) (by omega)).mono ?_
  rintro e w1 ⟨s1, A1, n1, c1, rfl, z1, hx1⟩
  rw [HCO.out] at z1
  have b1 : n1 ≤ 1 := z1.le (by decide +kernel)
  clear a0 a1 a2 a3 a4
  go_upto_region 2 with (fail)
  obtain ⟨g3, wb, hg3, hwb, hb3, heb, l3⟩ := boxesL1 w1 27 [.bool s1, .slice A1 n1 c1]
  rw [hg3, hwb]
  clear hwb hg3
  have hb1 := hb1.ext (hx1.trans heb)
  have z1 := z1.ext heb
  have ewb := hea.trans (hx1.trans heb)
  clear hx1 heb
  obtain ⟨⟨a0, a1, a2, a3⟩, a4⟩ := hb1.four
  obtain ⟨f0, f1, f2, f3⟩ := hb3.two
  go_region_held3 (fun w' => w'.cell? ⟨g, 0, none⟩ = some (.bool s) ∧ w'.cell? ⟨g, 1, none⟩ = some (.slice A n cap) ∧ w'.cell? ⟨g, 2, none⟩ = some (.bool s') ∧ w'.cell? ⟨g, 3, none⟩ = some (.slice A' n' cap') ∧ w'.cell? ⟨g3, 0, none⟩ = some (.bool s1) ∧ w'.cell? ⟨g3, 1, none⟩ = some (.slice A1 n1 c1)) (go_keep)
    (first
    | (go_at_call 53; (with_reducible refine (zint_Sign (hq.zi.ext (ewb.trans (by repeat (first | exact Ext.refl _ | assumption | apply Ext.drewN | apply Ext.drew | apply Ext.alloc)))) (by omega)).mono ?_); rintro e w2 ⟨c, hc, hcl, hch, rfl, hx2⟩; have he2 : Ext wb w2 := Ext.trans (by repeat (first | exact Ext.refl _ | assumption | apply Ext.drewN | apply Ext.drew | apply Ext.alloc)) hx2; have hcp : 0 < c := (by rw [hc.out]; exact scmp_pos.2 HP.out); clear a0 a1 a2 a3 a4 f0 f1 f2 f3; obtain ⟨⟨a0, a1, a2, a3⟩, a4⟩ := (hb1.ext he2).four; obtain ⟨f0, f1, f2, f3⟩ := (hb3.ext he2).two)
    | (go_at_call 15; refine (zint_Of (v := 1) (by omega)).mono ?_; rintro e w3 ⟨s3, A3, n3, c3, rfl, z3, hx3⟩; have he3 : Ext wb w3 := Ext.trans (by repeat (first | exact Ext.refl _ | assumption | apply Ext.drewN | apply Ext.drew | apply Ext.alloc)) hx3; have b3 : n3 ≤ 1 := z3.le (by decide +kernel); clear a0 a1 a2 a3 a4 f0 f1 f2 f3; obtain ⟨⟨a0, a1, a2, a3⟩, a4⟩ := (hb1.ext he3).four; obtain ⟨f0, f1, f2, f3⟩ := (hb3.ext he3).two)
    | (go_at_call 18; (with_reducible refine (law_alike (z1.ext (by repeat (first | exact Ext.refl _ | assumption | apply Ext.drewN | apply Ext.drew | apply Ext.alloc))) (by omega) z3 (by omega) (b := true) (by simp)).mono ?_); rintro e w4 ⟨rfl, hx4⟩; have he4 : Ext wb w4 := Ext.trans (by repeat (first | exact Ext.refl _ | assumption | apply Ext.drewN | apply Ext.drew | apply Ext.alloc)) hx4; clear a0 a1 a2 a3 a4 f0 f1 f2 f3; obtain ⟨⟨a0, a1, a2, a3⟩, a4⟩ := (hb1.ext he4).four; obtain ⟨f0, f1, f2, f3⟩ := (hb3.ext he4).two)
    | (go_at_call 59; (with_reducible refine (zint_Least (hp.zi.ext (ewb.trans (by repeat (first | exact Ext.refl _ | assumption | apply Ext.drewN | apply Ext.drew | apply Ext.alloc)))) (by omega)).mono ?_); rintro e w5 ⟨s5, A5, n5, c5, rfl, z5, hx5⟩; have he5 : Ext wb w5 := Ext.trans (by repeat (first | exact Ext.refl _ | assumption | apply Ext.drewN | apply Ext.drew | apply Ext.alloc)) hx5; have b5 : n5 ≤ 17179869184 := (by rw [z5.len, ← hp.len]; exact hl); clear a0 a1 a2 a3 a4 f0 f1 f2 f3; obtain ⟨⟨a0, a1, a2, a3⟩, a4⟩ := (hb1.ext he5).four; obtain ⟨f0, f1, f2, f3⟩ := (hb3.ext he5).two)
    | (go_at_call 18; (with_reducible refine (law_alike (hp.ext (ewb.trans (by repeat (first | exact Ext.refl _ | assumption | apply Ext.drewN | apply Ext.drew | apply Ext.alloc)))) (by omega) z5 (by omega) (b := true) (by simp)).mono ?_); rintro e w6 ⟨rfl, hx6⟩; have he6 : Ext wb w6 := Ext.trans (by repeat (first | exact Ext.refl _ | assumption | apply Ext.drewN | apply Ext.drew | apply Ext.alloc)) hx6; clear a0 a1 a2 a3 a4 f0 f1 f2 f3; obtain ⟨⟨a0, a1, a2, a3⟩, a4⟩ := (hb1.ext he6).four; obtain ⟨f0, f1, f2, f3⟩ := (hb3.ext he6).two)
    | (go_at_call 59; (with_reducible refine (zint_Least (hq.zi.ext (ewb.trans (by repeat (first | exact Ext.refl _ | assumption | apply Ext.drewN | apply Ext.drew | apply Ext.alloc)))) (by omega)).mono ?_); rintro e w7 ⟨s7, A7, n7, c7, rfl, z7, hx7⟩; have he7 : Ext wb w7 := Ext.trans (by repeat (first | exact Ext.refl _ | assumption | apply Ext.drewN | apply Ext.drew | apply Ext.alloc)) hx7; have b7 : n7 ≤ 17179869184 := (by rw [z7.len, ← hq.len]; exact hl'); clear a0 a1 a2 a3 a4 f0 f1 f2 f3; obtain ⟨⟨a0, a1, a2, a3⟩, a4⟩ := (hb1.ext he7).four; obtain ⟨f0, f1, f2, f3⟩ := (hb3.ext he7).two)
    | (go_at_call 18; (with_reducible refine (law_alike (hq.ext (ewb.trans (by repeat (first | exact Ext.refl _ | assumption | apply Ext.drewN | apply Ext.drew | apply Ext.alloc)))) (by omega) z7 (by omega) (b := true) (by simp)).mono ?_); rintro e w8 ⟨rfl, hx8⟩; have he8 : Ext wb w8 := Ext.trans (by repeat (first | exact Ext.refl _ | assumption | apply Ext.drewN | apply Ext.drew | apply Ext.alloc)) hx8; clear a0 a1 a2 a3 a4 f0 f1 f2 f3; obtain ⟨⟨a0, a1, a2, a3⟩, a4⟩ := (hb1.ext he8).four; obtain ⟨f0, f1, f2, f3⟩ := (hb3.ext he8).two))
  go_wp2_with fail
  go_ret
  exact ⟨rfl, ewb.trans (by repeat (first | exact Ext.refl _ | assumption | apply Ext.drewN | apply Ext.drew | apply Ext.alloc))⟩

set_option maxHeartbeats 4000000 in
theorem law_names {w : World} {base base' : Nat} {s s' t t' : Bool} {A A' B B' : Option Addr} {n cap n' cap' m dap m' dap' : Nat} {p q x y : Int} (hp : Zr w base s A n cap p) (hl : n ≤ 17179869184) (hq : Zr w base' s' A' n' cap' q) (hl' : n' ≤ 17179869184) (hx : Zi w t B m dap x) (hk : m ≤ 17179869184) (hy : Zi w t' B' m' dap' y) (hk' : m' ≤ 17179869184) (hlow : Low p q x y) :
    Calls Try.prog 14 #[.agg #[.bool s, .slice A n cap, .bool s', .slice A' n' cap'], .agg #[.bool t, .slice B m dap], .agg #[.bool t', .slice B' m' dap']] w (BoolP true w) := by
  have HLOW := Lib.hid hlow
  have LX := Lib.hid (Nat.le_trans hx.ln hk)
  have LY := Lib.hid (Nat.le_trans hy.ln hk')
  have LP := Lib.hid (Nat.le_trans hp.zi.ln hl)
  have LQ := Lib.hid (Nat.le_trans hq.zi.ln hl')
  have HE : Hid (p * y = x * q) := hlow.eq
  clear hlow
  go_enter Try.func14, Try.ntmps14
  go_upto_region 1 with (fail)
  obtain ⟨g, g2, g3, wb, hg3, hg2, hg, hwb, hb1, hb2, hb3, ewb, l12, l23, l3, n12, n21, n13, n31, n23, n32⟩ := boxesL3 w 29 27 27 [.bool s, .slice A n cap, .bool s', .slice A' n' cap'] [.bool t, .slice B m dap] [.bool t', .slice B' m' dap']
  rw [hg3, hg2, hg, hwb]
  clear hwb hg hg2 hg3
  obtain ⟨⟨a0, a1, a2, a3⟩, a4⟩ := hb1.four
  obtain ⟨f0, f1, f2, f3⟩ := hb2.two
  obtain ⟨h0, h1, h2, h3⟩ := hb3.two
  go_region_held3 (fun w' => w'.cell? ⟨g, 0, none⟩ = some (.bool s) ∧ w'.cell? ⟨g, 1, none⟩ = some (.slice A n cap) ∧ w'.cell? ⟨g, 2, none⟩ = some (.bool s') ∧ w'.cell? ⟨g, 3, none⟩ = some (.slice A' n' cap') ∧ w'.cell? ⟨g2, 0, none⟩ = some (.bool t) ∧ w'.cell? ⟨g2, 1, none⟩ = some (.slice B m dap) ∧ w'.cell? ⟨g3, 0, none⟩ = some (.bool t') ∧ w'.cell? ⟨g3, 1, none⟩ = some (.slice B' m' dap')) (go_keep)
    (first
    | (go_at_call 19; (with_reducible refine (law_lowest (hp.ext (ewb.trans (by repeat (first | exact Ext.refl _ | assumption | apply Ext.drewN | apply Ext.drew | apply Ext.alloc)))) hl (hq.ext (ewb.trans (by repeat (first | exact Ext.refl _ | assumption | apply Ext.drewN | apply Ext.drew | apply Ext.alloc)))) hl' HLOW.out.pos HLOW.out.co).mono ?_); rintro e w2 ⟨rfl, hx2⟩; have he2 : Ext wb w2 := Ext.trans (by repeat (first | exact Ext.refl _ | assumption | apply Ext.drewN | apply Ext.drew | apply Ext.alloc)) hx2; clear a0 a1 a2 a3 a4 f0 f1 f2 f3 h0 h1 h2 h3; obtain ⟨⟨a0, a1, a2, a3⟩, a4⟩ := (hb1.ext he2).four; obtain ⟨f0, f1, f2, f3⟩ := (hb2.ext he2).two; obtain ⟨h0, h1, h2, h3⟩ := (hb3.ext he2).two)
    | (go_at_call 17; (with_reducible refine (zint_Mul (hp.zi.ext (ewb.trans (by repeat (first | exact Ext.refl _ | assumption | apply Ext.drewN | apply Ext.drew | apply Ext.alloc)))) (by omega) (hy.ext (ewb.trans (by repeat (first | exact Ext.refl _ | assumption | apply Ext.drewN | apply Ext.drew | apply Ext.alloc)))) (by omega)).mono ?_); rintro e w5 ⟨s5, A5, n5, c5, rfl, z5, hx5⟩; have he5 : Ext wb w5 := Ext.trans (by repeat (first | exact Ext.refl _ | assumption | apply Ext.drewN | apply Ext.drew | apply Ext.alloc)) hx5; have b5 : n5 ≤ 1099511627776 := (Nat.le_trans (z5.le (ln_mul LP.out LY.out)) (by omega)); (try have z6 := z6.ext hx5); clear a0 a1 a2 a3 a4 f0 f1 f2 f3 h0 h1 h2 h3; obtain ⟨⟨a0, a1, a2, a3⟩, a4⟩ := (hb1.ext he5).four; obtain ⟨f0, f1, f2, f3⟩ := (hb2.ext he5).two; obtain ⟨h0, h1, h2, h3⟩ := (hb3.ext he5).two)
    | (go_at_call 17; (with_reducible refine (zint_Mul (hx.ext (ewb.trans (by repeat (first | exact Ext.refl _ | assumption | apply Ext.drewN | apply Ext.drew | apply Ext.alloc)))) (by omega) (hq.zi.ext (ewb.trans (by repeat (first | exact Ext.refl _ | assumption | apply Ext.drewN | apply Ext.drew | apply Ext.alloc)))) (by omega)).mono ?_); rintro e w6 ⟨s6, A6, n6, c6, rfl, z6, hx6⟩; have he6 : Ext wb w6 := Ext.trans (by repeat (first | exact Ext.refl _ | assumption | apply Ext.drewN | apply Ext.drew | apply Ext.alloc)) hx6; have b6 : n6 ≤ 1099511627776 := (Nat.le_trans (z6.le (ln_mul LX.out LQ.out)) (by omega)); (try have z5 := z5.ext hx6); clear a0 a1 a2 a3 a4 f0 f1 f2 f3 h0 h1 h2 h3; obtain ⟨⟨a0, a1, a2, a3⟩, a4⟩ := (hb1.ext he6).four; obtain ⟨f0, f1, f2, f3⟩ := (hb2.ext he6).two; obtain ⟨h0, h1, h2, h3⟩ := (hb3.ext he6).two)
    | (go_at_call 18; (with_reducible refine (law_alike z5 b5 z6 b6 (b := true) (decide_eq_true HE.out).symm).mono ?_); rintro e w7 ⟨rfl, hx7⟩; have he7 : Ext wb w7 := Ext.trans (by repeat (first | exact Ext.refl _ | assumption | apply Ext.drewN | apply Ext.drew | apply Ext.alloc)) hx7; clear a0 a1 a2 a3 a4 f0 f1 f2 f3 h0 h1 h2 h3; obtain ⟨⟨a0, a1, a2, a3⟩, a4⟩ := (hb1.ext he7).four; obtain ⟨f0, f1, f2, f3⟩ := (hb2.ext he7).two; obtain ⟨h0, h1, h2, h3⟩ := (hb3.ext he7).two))
  all_goals
    go_wp2_with fail
    go_ret
    exact ⟨rfl, ewb.trans (by repeat (first | exact Ext.refl _ | assumption | apply Ext.drewN | apply Ext.drew | apply Ext.alloc))⟩

theorem Zi.six (w : World) : Zi (w.alloc (.cells #[.int .u64 6, .int .u64 0] 47)) true (some ⟨w.heap.size, 0, none⟩) 2 2 (-6) := by
  refine ⟨[6, 0], ?_, by decide⟩
  have h : Bk (w.alloc (.cells #[.int .u64 6, .int .u64 0] 47)) w.heap.size 47 ([6, 0].map W64) := Bk.new w 47 [.int .u64 6, .int .u64 0]
  exact h.rd (o := 0) (n := 2) (cap := 2) (by intro x hx; simp at hx; rcases hx with rfl | rfl <;> decide) (Nat.le_refl _) (by simp) (by rw [len_maxLen]; omega)
set_option maxHeartbeats 4000000 in
theorem law_awake (w : World) : Calls Try.prog 11 #[] w (BoolP true w) := by
  go_enter Try.func11, Try.ntmps11
  go_wp2_with fail
  refine (law_whole (v := 4) (by omega) (by omega)).mono ?_
  rintro e w1 ⟨s1, A1, n1, c1, rfl, z1, hx1⟩
  have b1 : n1 ≤ 1 := z1.le (by decide +kernel)
  go_wp2_with fail
  have h6 := Zi.six w1
  obtain ⟨wc, hwc⟩ : ∃ wc, w1.alloc (.cells #[.int .u64 6, .int .u64 0] 47) = wc := ⟨_, rfl⟩
  have hec : Ext w1 wc := by rw [← hwc]; exact (Ext.refl w1).alloc _
  rw [hwc] at h6 ⊢
  refine (frac_Of (z1.zi.ext hec) (by omega) h6 (by omega) (by decide)).mono ?_
  rintro e w2 ⟨p, q, hlow, s8, A8, n8, c8, s9, A9, n9, c9, rfl, z8, z9, hx2⟩
  obtain ⟨hp, hq⟩ : p = -2 ∧ q = 3 := lows_eq hlow.out.co (by decide) hlow.out.pos (by decide) (by have := hlow.out.eq; omega)
  subst hp
  subst hq
  have b8 : n8 ≤ 1 := z8.le (by decide +kernel)
  have b9 : n9 ≤ 1 := z9.le (by decide +kernel)
  have e2 : Ext w w2 := hx1.trans (hec.trans hx2)
  clear hwc hlow
  go_upto_region 2 with (fail)
  obtain ⟨g, wb, hg, hwb, hb1, heb, l2⟩ := boxesL1 w2 29 [.bool s8, .slice A8 n8 c8, .bool s9, .slice A9 n9 c9]
  rw [hg, hwb]
  clear hwb hg
  have z8 := z8.ext heb
  have z9 := z9.ext heb
  have ewb := e2.trans heb
  obtain ⟨⟨a0, a1, a2, a3⟩, a4⟩ := hb1.four
  have hlit : Zr ((wb.alloc (.cells #[.int .u64 2] 47)).drew) wb.heap.size true (some ⟨wb.heap.size, 0, none⟩) 1 1 (-2) := (Zr.lit wb (s := true) (v := 2) (z := -2) (by omega) (by omega) (by decide)).ext ((Ext.refl _).drew)
  go_region_held3 (fun w' => w'.cell? ⟨g, 0, none⟩ = some (.bool s8) ∧ w'.cell? ⟨g, 1, none⟩ = some (.slice A8 n8 c8) ∧ w'.cell? ⟨g, 2, none⟩ = some (.bool s9) ∧ w'.cell? ⟨g, 3, none⟩ = some (.slice A9 n9 c9)) (go_keep)
    (first
    | (go_at_call 18; (with_reducible refine (law_alike (z8.ext (by repeat (first | exact Ext.refl _ | assumption | apply Ext.drewN | apply Ext.drew | apply Ext.alloc))) (by omega) hlit (by omega) (b := true) (by decide)).mono ?_); rintro e w4 ⟨rfl, hx4⟩; have he4 : Ext wb w4 := Ext.trans (by repeat (first | exact Ext.refl _ | assumption | apply Ext.drewN | apply Ext.drew | apply Ext.alloc)) hx4; clear a0 a1 a2 a3 a4; obtain ⟨⟨a0, a1, a2, a3⟩, a4⟩ := (hb1.ext he4).four)
    | (go_at_call 52; refine (law_whole (v := 3) (by omega) (by omega)).mono ?_; rintro e w5 ⟨s5, A5, n5, c5, rfl, z5, hx5⟩; have he5 : Ext wb w5 := Ext.trans (by repeat (first | exact Ext.refl _ | assumption | apply Ext.drewN | apply Ext.drew | apply Ext.alloc)) hx5; have b5 : n5 ≤ 1 := z5.le (by decide +kernel); clear a0 a1 a2 a3 a4; obtain ⟨⟨a0, a1, a2, a3⟩, a4⟩ := (hb1.ext he5).four)
    | (go_at_call 18; (with_reducible refine (law_alike (z9.ext (by repeat (first | exact Ext.refl _ | assumption | apply Ext.drewN | apply Ext.drew | apply Ext.alloc))) (by omega) z5 (by omega) (b := true) (by simp)).mono ?_); rintro e w6 ⟨rfl, hx6⟩; have he6 : Ext wb w6 := Ext.trans (by repeat (first | exact Ext.refl _ | assumption | apply Ext.drewN | apply Ext.drew | apply Ext.alloc)) hx6; clear a0 a1 a2 a3 a4; obtain ⟨⟨a0, a1, a2, a3⟩, a4⟩ := (hb1.ext he6).four))
  go_wp2_with fail
  go_ret
  exact ⟨rfl, ewb.trans (by repeat (first | exact Ext.refl _ | assumption | apply Ext.drewN | apply Ext.drew | apply Ext.alloc))⟩
end Go.Proofs.Ytmaconeeonkdgaa
