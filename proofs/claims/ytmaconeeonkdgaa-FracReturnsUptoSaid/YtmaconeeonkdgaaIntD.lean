/- integers: divisions with rest -/
import Derived.Test.YtmaconeeonkdgaaIntC
namespace Go.Proofs.Ytmaconeeonkdgaa
open Go.RowKit

theorem zint_Trunc_bad {w : World} {s t : Bool} {A B : Option Addr} {n cap m cap' : Nat} {x y : Int} (hx : Zi w s A n cap x) (_hl : n ≤ 68719476736) (hy : Zi w t B m cap' y) (hl' : m ≤ 68719476736) (h0 : y = 0) :
    Calls Try.prog 66 #[.agg #[.bool s, .slice A n cap], .agg #[.bool t, .slice B m cap']] w (RetZZE w 0 0 4) := by
  obtain ⟨xs, hr, rfl⟩ := hx
  obtain ⟨ys, hq, hyv⟩ := hy
  have hz : nv ys = 0 := sg_eq_zero.1 (by rw [hyv, h0])
  have HZ := Lib.hid hz
  clear hz h0 hyv
  go_enter Try.func66, Try.ntmps66
  go_upto_region 1 with (fail)
  obtain ⟨g, g2, g3, g4, wa, hg4, hg3, hg2, hg, hwa, hb1, hb2, hb3, hb4, hea, l12, l23, l34, l4, n12, n21, n13, n31, n23, n32, n14, n41, n24, n42, n34, n43⟩ := boxes4 w 27 27 27 27 (.bool s) (.slice A n cap) (.bool t) (.slice B m cap') (.bool false) (.slice none 0 0) (.bool false) (.slice none 0 0)
  rw [hg4, hg3, hg2, hg, hwa]
  have hgw : w.heap.size ≤ g := Nat.le_of_eq hg
  clear hwa hg hg2 hg3 hg4
  obtain ⟨f1, f2, f3, f4⟩ := hb1.two
  obtain ⟨h1, h2, h3, h4⟩ := hb2.two
  go_wp2_with fail
  refine (divnat_DivMod_bad (hq.ext hea) (by omega) HZ.out).mono ?_
  rintro e w1 ⟨rfl, hx1⟩
  clear f1 f2 f3 f4 h1 h2 h3 h4
  have hb3 := hb3.ext hx1
  have hb4 := hb4.ext hx1
  have hsz := hx1.size
  have e1 := hea.trans hx1
  obtain ⟨i1, i2, i3, i4⟩ := hb3.two
  obtain ⟨k1, k2, k3, k4⟩ := hb4.two
  go_wp2_with fail
  refine bodyPost_ret (res_iie rfl rfl rfl rfl ((hb3.two_set _ _).two_far n34 _ _) ((hb4.two_far n43 _ _).two_set _ _)) rfl ?_
  exact ⟨_, _, _, _, _, _, _, _, rfl, Zr.zero, Zr.zero, (Upd.two _ _).ext ((Upd.two _ _).ext e1 (by omega)) (by omega)⟩
set_option maxHeartbeats 4000000 in
theorem zint_Trunc {w : World} {s t : Bool} {A B : Option Addr} {n cap m cap' : Nat} {x y : Int} (hx : Zi w s A n cap x) (hl : n ≤ 68719476736) (hy : Zi w t B m cap' y) (hl' : m ≤ 68719476736) (h0 : y ≠ 0) :
    Calls Try.prog 66 #[.agg #[.bool s, .slice A n cap], .agg #[.bool t, .slice B m cap']] w (RetZZE w (x.tdiv y) (x.tmod y) 0) := by
  obtain ⟨xs, hr, rfl⟩ := hx
  obtain ⟨ys, hq, rfl⟩ := hy
  have hz : nv ys ≠ 0 := fun e => h0 (sg_eq_zero.2 e)
  have HZ := Lib.hid hz
  clear hz h0
  go_enter Try.func66, Try.ntmps66
  go_upto_region 1 with (fail)
  obtain ⟨g, g2, g3, g4, wa, hg4, hg3, hg2, hg, hwa, hb1, hb2, hb3, hb4, hea, l12, l23, l34, l4, n12, n21, n13, n31, n23, n32, n14, n41, n24, n42, n34, n43⟩ := boxes4 w 27 27 27 27 (.bool s) (.slice A n cap) (.bool t) (.slice B m cap') (.bool false) (.slice none 0 0) (.bool false) (.slice none 0 0)
  rw [hg4, hg3, hg2, hg, hwa]
  have hgw : w.heap.size ≤ g := Nat.le_of_eq hg
  clear hwa hg hg2 hg3 hg4
  obtain ⟨f1, f2, f3, f4⟩ := hb1.two
  obtain ⟨h1, h2, h3, h4⟩ := hb2.two
  go_wp2_with fail
  refine (divnat_DivMod (hr.ext hea) (by omega) (hq.ext hea) (by omega) HZ.out).mono ?_
  rintro e w1 ⟨Aq, nq, cq, Ar, nr, cr, rfl, hnq, hrq, hoq, hnr, hrr, hor, hx1⟩
  clear f1 f2 f3 f4 h1 h2 h3 h4
  have hb1 := hb1.ext hx1
  have hb2 := hb2.ext hx1
  have hb3 := hb3.ext hx1
  have hb4 := hb4.ext hx1
  have hsz := hx1.size
  have e1 := hea.trans hx1
  go_upto_region 4 with (fail)
  obtain ⟨f1, f2, f3, f4⟩ := hb1.two
  obtain ⟨h1, h2, h3, h4⟩ := hb2.two
  obtain ⟨i1, i2, i3, i4⟩ := hb3.two
  obtain ⟨k1, k2, k3, k4⟩ := hb4.two
  go_region_held3 (fun w' => w'.cell? ⟨g, 0, none⟩ = some (.bool s) ∧ w'.cell? ⟨g, 1, none⟩ = some (.slice A n cap) ∧ w'.cell? ⟨g2, 0, none⟩ = some (.bool t) ∧ w'.cell? ⟨g2, 1, none⟩ = some (.slice B m cap')) (go_keep)
    (first
    | (go_at_call 55; (with_reducible refine (zint_of hnq.out).mono ?_); rintro e w5 ⟨s5, rfl, hs5, hx5⟩; have he5 : Ext w1 w5 := Ext.trans (by repeat (first | exact Ext.refl _ | assumption | apply Ext.drewN | apply Ext.drew | apply Ext.alloc)) hx5; clear f1 f2 f3 f4 h1 h2 h3 h4 i1 i2 i3 i4 k1 k2 k3 k4; obtain ⟨f1, f2, f3, f4⟩ := (hb1.ext he5).two; obtain ⟨h1, h2, h3, h4⟩ := (hb2.ext he5).two; obtain ⟨i1, i2, i3, i4⟩ := (hb3.ext he5).two; obtain ⟨k1, k2, k3, k4⟩ := (hb4.ext he5).two)
    | (go_at_call 55; (with_reducible refine (zint_of hnr.out).mono ?_); rintro e w6 ⟨s6, rfl, hs6, hx6⟩; have he6 : Ext w1 w6 := Ext.trans (by repeat (first | exact Ext.refl _ | assumption | apply Ext.drewN | apply Ext.drew | apply Ext.alloc)) hx6; clear f1 f2 f3 f4 h1 h2 h3 h4 i1 i2 i3 i4 k1 k2 k3 k4; obtain ⟨f1, f2, f3, f4⟩ := (hb1.ext he6).two; obtain ⟨h1, h2, h3, h4⟩ := (hb2.ext he6).two; obtain ⟨i1, i2, i3, i4⟩ := (hb3.ext he6).two; obtain ⟨k1, k2, k3, k4⟩ := (hb4.ext he6).two))
  all_goals
    clear f1 f2 f3 f4 h1 h2 h3 h4 i1 i2 i3 i4 k1 k2 k3 k4
    first
    | (obtain ⟨wb, hwb⟩ : ∃ wb, (((w6.setCell ⟨g3, 0, none⟩ (.bool s5)).setCell ⟨g3, 1, none⟩ (.slice Aq nq cq)).setCell ⟨g4, 0, none⟩ (.bool s6)).setCell ⟨g4, 1, none⟩ (.slice Ar nr cr) = wb := ⟨_, rfl⟩
       rw [hwb]
       have hL := he6)
    | (obtain ⟨wb, hwb⟩ : ∃ wb, (((w5.setCell ⟨g3, 0, none⟩ (.bool s5)).setCell ⟨g3, 1, none⟩ (.slice Aq nq cq)).setCell ⟨g4, 0, none⟩ (.bool s6)).setCell ⟨g4, 1, none⟩ (.slice Ar nr cr) = wb := ⟨_, rfl⟩
       rw [hwb]
       have hL := he5)
    have q3 : Bk wb g3 27 [.bool s5, .slice Aq nq cq] := by rw [← hwb]; exact ((hb3.ext hL).two_set _ _).two_far n34 _ _
    have q4 : Bk wb g4 27 [.bool s6, .slice Ar nr cr] := by rw [← hwb]; exact ((hb4.ext hL).two_far n43 _ _).two_set _ _
    have r5 : Zr wb w.heap.size s5 Aq nq cq ((sg s (nv xs)).tdiv (sg t (nv ys))) := by
      rw [← hwb]
      exact (((((Zr_of hs5.out hnq.out hoq (sg_tdiv _ _ _ _)).ext hL).upd (by omega) (Upd.two _ _)).upd (by omega) (Upd.two _ _)).mono (by omega))
    have r6 : Zr wb w.heap.size s6 Ar nr cr ((sg s (nv xs)).tmod (sg t (nv ys))) := by
      rw [← hwb]
      exact (((((Zr_of hs6.out hnr.out hor (sg_tmod _ _ _ _)).ext hL).upd (by omega) (Upd.two _ _)).upd (by omega) (Upd.two _ _)).mono (by omega))
    have eb : Ext w wb := by rw [← hwb]; exact (Upd.two _ _).ext ((Upd.two _ _).ext (e1.trans hL) (by omega)) (by omega)
    clear hwb
    go_wp2_with fail
    refine bodyPost_ret (res_iie rfl rfl rfl rfl q3 q4) rfl ?_
    exact ⟨s5, Aq, nq, cq, s6, Ar, nr, cr, rfl, r5, r6, eb⟩

/-- quotient and rest, the rest on the divisor's side -/
structure Flo (q r x y : Int) : Prop where
  eq : q * y + r = x
  pos : 0 < y → 0 ≤ r ∧ r < y
  neg : y < 0 → y < r ∧ r ≤ 0
theorem tmod_abs {x y : Int} (h : y ≠ 0) : (x.tmod y).natAbs < y.natAbs := by
  rw [Int.natAbs_tmod]
  exact Nat.mod_lt _ (by omega)
theorem flo_same {x y : Int} (h0 : y ≠ 0) (h : x.tmod y = 0 ∨ (decide (x.tmod y < 0) = decide (y < 0))) : Flo (x.tdiv y) (x.tmod y) x y := by
  have h1 := tmod_abs (x := x) h0
  refine ⟨by rw [Int.mul_comm]; exact Int.mul_tdiv_add_tmod x y, fun hp => ?_, fun hn => ?_⟩
  · rcases h with h | h
    · omega
    · have hd : ¬ y < 0 := by omega
      rw [decide_eq_false hd] at h
      have := of_decide_eq_false h
      omega
  · rcases h with h | h
    · omega
    · rw [decide_eq_true hn] at h
      have := of_decide_eq_true h
      omega
theorem flo_other {x y : Int} (h0 : y ≠ 0) (h : x.tmod y ≠ 0) (h2 : decide (x.tmod y < 0) ≠ decide (y < 0)) : Flo (x.tdiv y - 1) (x.tmod y + y) x y := by
  have h1 := tmod_abs (x := x) h0
  refine ⟨?_, fun hp => ?_, fun hn => ?_⟩
  · have := Int.mul_tdiv_add_tmod x y
    rw [Int.sub_mul, Int.one_mul, Int.mul_comm]
    omega
  · have hd : ¬ y < 0 := by omega
    rw [decide_eq_false hd] at h2
    have : x.tmod y < 0 := by
      refine Int.lt_of_not_ge (fun hge => h2 (decide_eq_false (by omega)))
    omega
  · rw [decide_eq_true hn] at h2
    have : ¬ x.tmod y < 0 := fun hlt => h2 (decide_eq_true hlt)
    omega
end Go.Proofs.Ytmaconeeonkdgaa
